/- Texts TabPut, TabProj, one behind the other. -/
import Derived.Test.YtmpldjbdhbapbaaGreatDoorTabUnA
set_option linter.unusedSimpArgs false
set_option linter.unusedVariables false
set_option maxRecDepth 100000
set_option maxHeartbeats 4000000
namespace Go.Proofs.YtmpldjbdhbapbaaGreatDoor.tab
open Go.ChangeShapes Go.WideShapes Go.ChangeAt Go.RowKit kit dec val
def put6(xs:List Value)(o:Nat)(k:Int)(b:Bool)(n:Int)(t x:ByteArray)(s:Value):List Value:=
 (((((xs.set o (.int .i64 k)).set (o+1) (.bool b)).set (o+2) (.int .i64 n)).set (o+3) (.string t)).set (o+4) (.string x)).set (o+5) s
theorem put6_app(a xs:List Value)(o:Nat)(k:Int)(b:Bool)(n:Int)(t x:ByteArray)(s:Value):put6 (a++xs) (a.length+o) k b n t x s=a++put6 xs o k b n t x s:=by
 unfold put6
 simp only[List.set_append,show ¬a.length+o<a.length by omega,show ¬a.length+o+1<a.length by omega,show ¬a.length+o+2<a.length by omega,show ¬a.length+o+3<a.length by omega,show ¬a.length+o+4<a.length by omega,show ¬a.length+o+5<a.length by omega,if_false,show a.length+o-a.length=o by omega,show a.length+o+1-a.length=o+1 by omega,show a.length+o+2-a.length=o+2 by omega,show a.length+o+3-a.length=o+3 by omega,show a.length+o+4-a.length=o+4 by omega,show a.length+o+5-a.length=o+5 by omega]
theorem rowL_put:∀(ps:List (V×Value)) (j:Nat) (hj:j<ps.length) (k:Int) (b:Bool) (n:Int) (t x:ByteArray) (l:List V) (s:Value),rowL (ps.set j (.mk k b n t x l,s))=put6 (rowL ps) (j * 6) k b n t x s
 |[],j,hj,_,_,_,_,_,_,_=>by simp at hj
 |p::r,0,_,k,b,n,t,x,l,s=>by
  obtain⟨v,s0⟩:=p
  cases v
  rfl
 |p::r,j+1,hj,k,b,n,t,x,l,s=>by
  rw[List.set_cons_succ,rowL,rowL,rowL_put r j (by simpa using hj) k b n t x l s,show(j+1) * 6=(six p.1 p.2).length+j * 6 by rw[six_len];omega,put6_app]
def setJ(w:World)(g i:Nat)(k:Int)(b:Bool)(n:Int)(t x:ByteArray)(s:Value):World:=
 (((((w.setCell ⟨g,i * 6,none⟩ (.int .i64 k)).setCell ⟨g,i * 6+1,none⟩ (.bool b)).setCell ⟨g,i * 6+2,none⟩ (.int .i64 n)).setCell ⟨g,i * 6+3,none⟩ (.string t)).setCell ⟨g,i * 6+4,none⟩ (.string x)).setCell ⟨g,i * 6+5,none⟩ s
theorem heap_setJ(w:World)(g i:Nat)(k:Int)(b:Bool)(n:Int)(t x:ByteArray)(s:Value)(j:Nat)(h:j≠g):(setJ w g i k b n t x s).heap[j]? = w.heap[j]?:=by
 unfold setJ
 rw[Below.heap_setCell _ _ _ j (by simpa using h),Below.heap_setCell _ _ _ j (by simpa using h),Below.heap_setCell _ _ _ j (by simpa using h),Below.heap_setCell _ _ _ j (by simpa using h),Below.heap_setCell _ _ _ j (by simpa using h),Below.heap_setCell _ _ _ j (by simpa using h)]
theorem size_setJ(w:World)(g i:Nat)(k:Int)(b:Bool)(n:Int)(t x:ByteArray)(s:Value):(setJ w g i k b n t x s).heap.size=w.heap.size:=by
 unfold setJ
 simp only[World.setCell,Array.size_modify]
theorem below_setJ2{w W:World}{B g:Nat}(h:Below B w W)(hg:B≤g)(i:Nat)(k:Int)(b:Bool)(n:Int)(t x:ByteArray)(s:Value):Below B w (setJ W g i k b n t x s):=
 (((((h.setCell (p:=⟨g,i * 6,none⟩) hg _).setCell (p:=⟨g,i * 6+1,none⟩) hg _).setCell (p:=⟨g,i * 6+2,none⟩) hg _).setCell (p:=⟨g,i * 6+3,none⟩) hg _).setCell (p:=⟨g,i * 6+4,none⟩) hg _).setCell (p:=⟨g,i * 6+5,none⟩) hg _
theorem own_setJ{w:World}{g c m:Nat}{xs:List Value}(h:w.ownsRow 0 34 6 (.slice (some ⟨g,0,none⟩) m c) m xs)(i:Nat)(k:Int)(b:Bool)(n:Int)(t x:ByteArray)(s:Value):
 (setJ w g i k b n t x s).ownsRow 0 34 6 (.slice (some ⟨g,0,none⟩) m c) m (put6 xs (i * 6) k b n t x s):=
 ((((((h.stored (i * 6) _).1.stored (i * 6+1) _).1.stored (i * 6+2) _).1.stored (i * 6+3) _).1.stored (i * 6+4) _).1.stored (i * 6+5) _).1
theorem lf_put{w:World}{N:Nat}{S T:Nat→Prop}{g m c:Nat}{l l1:List V}(h:LF w N S (.slice (some ⟨g,0,none⟩) m c) l)(j:Nat)(hj:j<l.length)(k:Int)(b:Bool)(n:Int)(t x:ByteArray)(s:Value)
 (hok:okV N (.mk k b n t x l1))(hT:LF w N T s l1)(hd:∀b,T b→¬S b):LF (setJ w g j k b n t x s) N (fun b=>S b∨T b) (.slice (some ⟨g,0,none⟩) m c) (l.set j (.mk k b n t x l1)):=by
 cases h with
 | mk ps P e hN own hS nb sub dis ok h =>
  subst e
  have hj':j<ps.length:=by simpa using hj
  have hm:m=ps.length:=by
   rcases own.2 with⟨h',_⟩|⟨g',cap',cur,h',_⟩
   ·cases h'
   ·injection h'
  subst hm
  have hSg:=hS g rfl
  refine .mk (ps.set j (.mk k b n t x l1,s)) (fun i b=>if i=j then T b else P i b) (by rw[List.map_set]) (by simpa using hN) ?_ ?_ ?_ ?_ ?_ ?_ ?_
  ·rw[rowL_put ps j hj',List.length_set]
   exact own_setJ own j k b n t x s
  ·intro g' hg';exact .inl (hS g' hg')
  ·intro g' hg' i hP
   have e:g=g':=by injection hg'
   subst e
   split at hP
   ·exact hd g hP hSg
   ·exact nb g rfl i hP
  ·intro i b hP
   split at hP
   ·exact .inr hP
   ·exact .inl (sub i b hP)
  ·intro i1 i2 b h1 h2
   split at h1<;>split at h2
   ·omega
   ·exact(hd b h1 (sub i2 b h2)).elim
   ·exact(hd b h2 (sub i1 b h1)).elim
   ·exact dis i1 i2 b h1 h2
  ·intro p hp
   rcases List.mem_or_eq_of_mem_set hp with hp|rfl
   ·exact ok p hp
   ·exact hok
  ·intro i hi
   have hi':i<ps.length:=by simpa using hi
   by_cases hij:i=j
   ·subst hij
    simp only[if_true,List.getElem_set_self]
    exact hT.stay fun b hb _=>heap_setJ _ _ _ _ _ _ _ _ _ b (fun e=>hd b hb (e ▸ hSg))
   ·simp only[if_neg hij,List.getElem_set_ne (fun e=>hij e.symm)]
    exact(h i hi').stay fun b hb _=>heap_setJ _ _ _ _ _ _ _ _ _ b (fun e=>nb g rfl i (e ▸ hb))
theorem lf_free{w:World}{N:Nat}{S:Nat→Prop}{g m c:Nat}{l:List V}(h:LF w N S (.slice (some ⟨g,0,none⟩) m c) l)(j:Nat):w.frozen? ⟨g,j,none⟩=false:=by
 cases h with
 | mk ps P e hN own hS nb sub dis ok h =>
  have hm:m=ps.length:=by
   rcases own.2 with⟨h',_⟩|⟨g',cap',cur,h',_⟩
   ·cases h'
   ·injection h'
  subst hm
  exact own.frozenAt j
open hyp (RowA TextsA CellsStay stay_of_below textsV textsV_length own_row)
def projZ(A:Tab)(X:List ByteArray):Tab:=if mayT A=true∧namesB X=true then projT A X else⟨[],[]⟩
def prK(ns:List ByteArray)(r:List V)(X:List ByteArray)(k:Nat):List V:=(X.take k).map (cellF ns r)++List.replicate (X.length-k) nullV
theorem prK_zero(ns:List ByteArray)(r:List V)(X:List ByteArray):prK ns r X 0=List.replicate X.length nullV:=by simp[prK]
theorem prK_end(ns:List ByteArray)(r:List V)(X:List ByteArray):prK ns r X X.length=X.map (cellF ns r):=by simp[prK]
theorem prK_len(ns:List ByteArray)(r:List V)(X:List ByteArray)(k:Nat)(h:k≤X.length):(prK ns r X k).length=X.length:=by simp[prK];omega
theorem prK_step(ns:List ByteArray)(r:List V)(X:List ByteArray)(k:Nat)(h:k<X.length):(prK ns r X k).set k (cellF ns r X[k])=prK ns r X (k+1):=by
 unfold prK
 rw[List.take_succ_eq_append_getElem h,List.map_append,List.append_assoc]
 have hl:((X.take k).map (cellF ns r)).length=k:=by simp;omega
 rw[List.set_append_right _ _ (by omega),hl,Nat.sub_self]
 congr 1
 rw[show X.length-k=(X.length-(k+1))+1 by omega,List.replicate_succ,List.set_cons_zero]
 rfl
theorem prK_skip(ns:List ByteArray)(r:List V)(X:List ByteArray)(k:Nat)(h:k<X.length)(hl:r.length=ns.length)(hn:X[k]∉ns):prK ns r X (k+1)=prK ns r X k:=by
 rw[←prK_step ns r X k h,cell_out hl hn]
 apply List.ext_getElem
 ·simp
 ·intro j h1 h2
  rw[List.getElem_set]
  split
  ·rename_i e
   have h3:(prK ns r X k)[k]? = some nullV:=by
    unfold prK
    have hl2:((X.take k).map (cellF ns r)).length=k:=by simp;omega
    rw[List.getElem?_append_right (by omega),hl2,Nat.sub_self,List.getElem?_replicate,if_pos (by omega)]
   subst e
   exact(List.getElem?_eq_some_iff.1 h3).2.symm
  ·rfl
theorem proj_take{A:Tab}(X:List ByteArray){k:Nat}(h:k<A.rows.length):(A.rows.take (k+1)).map (fun r=>X.map (cellF A.vars r))=(A.rows.take k).map (fun r=>X.map (cellF A.vars r))++[X.map (cellF A.vars A.rows[k])]:=by
 rw[List.take_succ_eq_append_getElem h,List.map_append];rfl
theorem project_any (N : Nat) (hN : N ≤ 1048576) (w : World) (hE : Env w) (va vx : Value) (A : Tab) (X : List ByteArray) (hA : TabA w N va A) (hX : TextsA w w.heap.size vx X) (a1 : A.vars.length ≤ 1048576) (a2 : A.rows.length ≤ 1048576) (x1 : X.length ≤ 1048576) (hN64 : 64 ≤ N) :
 Calls Tryz.prog 11 #[va,vx] w fun e w'=>∃v,e=.returned v∧TabO w w' N v (projZ A X):=by
 obtain⟨vv,rv,rfl,hV,hR⟩:=hA.ex
 obtain⟨av,cv,rfl,hvc⟩:=hV.form
 obtain⟨ax,cx,rfl,hxc⟩:=hX.form
 obtain⟨ar,cr,rfl,-,hrc⟩:=hR.form
 have hal:Below w.heap.size w ((w.alloc (.cells #[.slice av A.vars.length cv,.slice ar A.rows.length cr] 25)).alloc (.cells #[.slice none 0 0,.slice none 0 0] 25)):=
  ((Below.refl _ _).alloc (Nat.le_refl _) _).alloc (by rw[World.size_alloc];omega) _
 have hq0:=(Blk.new w #[.slice av A.vars.length cv,.slice ar A.rows.length cr] 25).alloc (.cells #[.slice none 0 0,.slice none 0 0] 25)
 have hq1:=Blk.new (w.alloc (.cells #[.slice av A.vars.length cv,.slice ar A.rows.length cr] 25)) #[.slice none 0 0,.slice none 0 0] 25
 rw[World.size_alloc]at hq1
 obtain⟨w1,hw1⟩:∃w1,(w.alloc (.cells #[.slice av A.vars.length cv,.slice ar A.rows.length cr] 25)).alloc (.cells #[.slice none 0 0,.slice none 0 0] 25)=w1:=⟨_,rfl⟩
 have hs1:w1.heap.size=w.heap.size+2:=by rw[←hw1];simp
 rw[hw1]at hal hq0 hq1
 have hE1:=hE.below hal
 have cA:=Hd (checkT_any N (by omega) w1 hE1 _ A (hA.stay hal) a1 a2)
 have cX:=Hd (fun V (h:Below w1.heap.size w1 V)=>names_any V (hE1.below h) _ X (TextsA.below (TextsA.below hX hal) h) x1)
 have cC:=Hd (fun V (h:Below w1.heap.size w1 V)=>cloneT_any V _ X x1 (TextsA.below (TextsA.below hX hal) h))
 have hsX:=Hd hX.size
 have x0:=hq0.cell 0 rfl
 have x1c:=hq0.cell 1 rfl
 replace hvc:=Hd hvc
 replace hxc:=Hd hxc
 replace hrc:=Hd hrc
 replace hal:=Hd hal
 replace hq0:=Hd hq0
 replace hq1:=Hd hq1
 replace hw1:=Hd hw1
 replace hs1:=Hd hs1
 clear hA hV hR hX hE hE1
 go_enter Tryz.func11,Tryz.ntmps11
 go_wp2_with fail
 rw[hw1.out]
 refine cA.out.mono ?_
 rintro e w2 ⟨rfl,hb2⟩
 replace x0:=sB hb2 x0
 replace x1c:=sB hb2 x1c
 replace hq1:=Hd (hq1.out.keep (Keep.ofBelow hb2) (by simp))
 have hB2:=hal.out.trans (hb2.mono hal.out.size)
 have cX2:=Hd (cX.out w2 hb2)
 replace hB2:=Hd hB2
 have hb2h:=Hd hb2
 clear cA cX hb2 hal
 cases hmA:mayT A with
 |false=>
  have hz:projZ A X=⟨[],[]⟩:=by unfold projZ;rw[hmA];simp
  replace hz:=Hd hz
  clear cX2
  have hfin:=Hd ((hq1.out.set 0 (.slice none 0 0)).set 1 (.slice none 0 0))
  have hbf:=Hd ((hB2.out.setCell (p:=⟨w.heap.size+1,0,none⟩) (by simp) (.slice none 0 0)).setCell (p:=⟨w.heap.size+1,1,none⟩) (by simp) (.slice none 0 0))
  have f1:=Blk.free hq1.out
  have g0:=hq1.out.cell 0 rfl
  have g1:=hq1.out.cell 1 rfl
  go_wp2
  refine bodyPost_ret (v:=.agg #[.slice none 0 0,.slice none 0 0]) (results_cell_row rfl _ _ (w.heap.size+1) 25 _ (0,0) _ rfl hfin.out.eq Tryz.underlying25 rfl infoTab) rfl ⟨_,rfl,?_⟩
  rw[hz.out]
  exact tabO_zero hbf.out
 | true =>
  go_wp2_with fail
  refine cX2.out.mono ?_
  rintro e w3 ⟨rfl,hb3⟩
  replace x0:=sB hb3 x0
  replace x1c:=sB hb3 x1c
  replace hq1:=Hd (hq1.out.keep (Keep.ofBelow hb3) (by simp))
  have hB3:=Hd (hB2.out.trans (hb3.mono hB2.out.size))
  have hb23:=hb2h.out.trans (hb3.mono hb2h.out.size)
  have cC3:=Hd (cC.out w3 hb23)
  clear cX2 cC hb3 hB2 hb2h hb23
  cases hmX:namesB X with
  |false=>
   have hz:projZ A X=⟨[],[]⟩:=by unfold projZ;rw[hmX];simp
   replace hz:=Hd hz
   clear cC3
   have hfin:=Hd ((hq1.out.set 0 (.slice none 0 0)).set 1 (.slice none 0 0))
   have hbf:=Hd ((hB3.out.setCell (p:=⟨w.heap.size+1,0,none⟩) (by simp) (.slice none 0 0)).setCell (p:=⟨w.heap.size+1,1,none⟩) (by simp) (.slice none 0 0))
   have f1:=Blk.free hq1.out
   have g0:=hq1.out.cell 0 rfl
   have g1:=hq1.out.cell 1 rfl
   go_wp2
   refine bodyPost_ret (v:=.agg #[.slice none 0 0,.slice none 0 0]) (results_cell_row rfl _ _ (w.heap.size+1) 25 _ (0,0) _ rfl hfin.out.eq Tryz.underlying25 rfl infoTab) rfl ⟨_,rfl,?_⟩
   rw[hz.out]
   exact tabO_zero hbf.out
  | true =>
   have hz:projZ A X=⟨X,A.rows.map fun r=>X.map (cellF A.vars r)⟩:=by unfold projZ projT;rw[hmA,hmX];simp
   replace hz:=Hd hz
   obtain⟨hX64,-,-⟩:=names_parts hmX
   obtain⟨hnA,hrA⟩:=may_rows hmA
   replace hrA:=Hd hrA
   replace hmA:=Hd hmA
   replace hmX:=Hd hmX
   go_wp2_with fail
   refine cC3.out.mono ?_
   rintro e wb ⟨vn,rfl,hW⟩
   have hbW:=hW.below
   have ownX:Hid (wb.ownsRow w3.heap.size 9 1 vn X.length (textsV X)):=Hd (by have:=hW.own;rw[textsV_length]at this;exact this)
   replace x0:=sB hbW x0
   replace x1c:=sB hbW x1c
   replace hq1:=Hd (hq1.out.keep (Keep.ofBelow hbW) (by simp))
   have hB:=Hd (hB3.out.trans (hbW.mono hB3.out.size))
   have hs3:=hB3.out.size
   have hqlt:=hq1.out.lt
   have hJ0:=Hd (JnW.start wb N vn)
   have x0b:=Hd x0
   clear cC3 hW hbW hB3 hnA
   obtain⟨an,cn,hvn⟩:=own_form4x ownX.out
   subst hvn
   have x1b:=x1c
   replace x1c:=sB hJ0.out.below x1c
   have hXl:=Hd (show X.length≤N by omega)
   go_wp2
   go_loopw [27] (fun i wr=>∃(k:Nat) (rv:Value),k≤A.rows.length∧i=.int .i64 (k:Int)∧Hid (JnW wb wr N (.slice an X.length cn) rv ((A.rows.take k).map fun r=>X.map (cellF A.vars r)))) (fun i _=>A.rows.length-(intOf i).toNat)
   case atStart=>exact⟨0,_,Nat.zero_le _,rfl,hJ0⟩
   case round =>
    clear hJ0 x1c
    obtain⟨i,rv,hi,rfl,hJ⟩:=hrel
    obtain⟨w5,rfl⟩:∃w5:World,w5=wr:=⟨_,rfl⟩
    by_cases hlt:i<A.rows.length
    ·have hki:(i:Int)<(A.rows.length:Int):=by omega
     have hi1:=Hd (show i+1≤A.rows.length from hlt)
     have hwb5:=hB.out.trans (hJ.out.below.mono hB.out.size)
     obtain⟨b1,o1,a1',c1,rfl,hb1,hcell,hla1⟩:=hrc.out i hlt
     replace hcell:=sB hwb5 hcell
     have hrw:=Hd (hrA.out _ (List.getElem_mem hlt))
     have hnext:=Hd (proj_take X hlt)
     have hlen:((A.rows.take i).map fun r=>X.map (cellF A.vars r)).length+1≤1048576:=by rw[List.length_map,List.length_take];omega
     replace hlen:=Hd hlen
     replace hla1:=Hd (hla1.stay hwb5)
     have hmk:=make_vals X.length X.length (Nat.le_refl _) (by omega) w5
     have hb5:Below w5.heap.size w5 (w5.alloc (.cells (zeroCells X.length) 34)):=(Below.refl _ _).alloc (Nat.le_refl _) _
     have hX0:LF (w5.alloc (.cells (zeroCells X.length) 34)) N (Fr w5.heap.size (w5.alloc (.cells (zeroCells X.length) 34))) (.slice (some ⟨w5.heap.size,0,none⟩) X.length X.length) (prK A.vars A.rows[i] X 0):=by
      rw[prK_zero]
      exact lf_full w5 N X.length hXl.out hN _ ⟨Nat.le_refl _,by simp⟩
     replace hX0:=Hd hX0
     replace hb5:=Hd hb5
     replace hwb5:=Hd hwb5
     generalize (A.rows.take i).map (fun r=>X.map (cellF A.vars r))=L1 at *
     generalize A.rows[i]=r at *
     go_wp2
     go_loopw [36] (fun j wr=>∃(k:Nat),k≤X.length∧j=.int .i64 (k:Int)∧Hid (LF wr N (Fr w5.heap.size wr) (.slice (some ⟨w5.heap.size,0,none⟩) X.length X.length) (prK A.vars r X k))∧Hid (Below w5.heap.size w5 wr)) (fun j _=>X.length-(intOf j).toNat)
     case atStart=>exact⟨0,Nat.zero_le _,rfl,hX0,hb5⟩
     case round=>
      clear hX0 hb5 hmk hcell
      obtain⟨j,hj,rfl,hlf,hb⟩:=hrel
      by_cases hlj:j<X.length
      ·have hji:(j:Int)<(X.length:Int):=by omega
       have hj1:=Hd (show j+1≤X.length from hlj)
       have hwr:=hwb5.out.trans (hb.out.mono hwb5.out.size)
       obtain⟨b2,o2,rfl,hb2,hcell2⟩:=hxc.out j hlj
       replace hcell2:=sB hwr hcell2
       obtain⟨s,hs⟩:∃s,X[j]'hlj=s:=⟨_,rfl⟩
       rw[hs]at hcell2
       have x0r:=sB ((hJ.out.below.trans (hb.out.mono hJ.out.below.size))) x0b.out
       have hix:=index_any wr av cv A.vars s a1 (fun m hm=>by
        obtain⟨b,off,h1,h2,h3⟩:=hvc.out m hm
        exact⟨b,off,h1,Nat.lt_of_lt_of_le h2 hwr.size,sB hwr h3⟩)
       replace hix:=Hd hix
       have hrl:r.length=A.vars.length:=row_len hrw.out
       have hstep:=prK_step A.vars r X j hlj
       rw[hs]at hstep
       have hskip:=prK_skip A.vars r X j hlj hrl
       rw[hs]at hskip
       replace hrl:=Hd hrl
       replace hstep:=Hd hstep
       replace hskip:=Hd hskip
       replace hs:=Hd hs
       by_cases hm:s∈A.vars
       ·have hidx:idxI A.vars s=((A.vars.idxOf s:Nat):Int):=by unfold idxI;rw[if_pos hm]
        rw[hidx]at hix
        obtain⟨hil,hcl⟩:=cell_at hrl.out hm
        obtain⟨b3,off3,k3,bo3,n3,t3,x3,l3,aoE,capE,rfl,he,hr3,hok3,hsl3⟩:=la_at (hla1.out.stay hb.out) (A.vars.idxOf s) hil
        have hli:((A.vars.idxOf s:Nat):Int)<(r.length:Int):=by omega
        have hcf:cellF A.vars r s=.mk k3 bo3 n3 t3 x3 l3:=by rw[←hcl,he]
        rw[hcf]at hstep
        obtain⟨y0,y1,y2,y3,y4,y5⟩:=hr3.six
        have hcp:=copied_all N hN (SizeOf.sizeOf l3+1) wr k3 bo3 n3 t3 x3 _ l3 (Nat.lt_succ_self _) hsl3
        unfold agg6 at hcp
        replace hcp:=Hd hcp
        have hjl:j<(prK A.vars r X j).length:=by rw[prK_len _ _ _ _ (by omega)];exact hlj
        replace hjl:=Hd hjl
        replace he:=Hd he
        generalize A.vars.idxOf s=q at *
        clear hcf hcl hidx hm hr3 hsl3 hrl
        go_wp2_with fail
        refine hix.out.mono ?_
        rintro e w6 ⟨rfl,rfl⟩
        go_wp2_with fail
        refine hcp.out.mono ?_
        rintro e w7 ⟨ao2,cap2,rfl,hb7,hl7⟩
        have hbs:=hb.out.size
        have hlf7:=hlf.out.stay (fun b hS hlt=>hb7.block b hlt)
        have hs7:=hb7.size
        have hput:=lf_put hlf7 j hjl.out k3 bo3 n3 t3 x3 (.slice ao2 l3.length cap2) hok3 hl7 (fun b h1 h2=>by have:=h1.1;have:=h2.2;omega)
        rw[hstep.out]at hput
        have hfr:=lf_free hlf7
        obtain⟨g4,og4,k4,bo4,n4,t4,x4,l4,ao4,cap4,hg4,-,hr4,-,-⟩:=la_at (l:=prK A.vars r X j) (cap:=X.length) (ao:=some ⟨w5.heap.size,0,none⟩) (by have:=hlf7.toLA;rw[prK_len _ _ _ _ (by omega)];exact this) j hjl.out
        injection hg4 with hg4
        injection hg4 with hg4 hg5 _
        subst hg4
        subst hg5
        obtain⟨y0',y1',y2',y3',y4',y5'⟩:=hr4.six
        rw[Nat.zero_add]at y0' y1' y2' y3' y4' y5'
        have hsz8:=size_setJ w7 w5.heap.size j k3 bo3 n3 t3 x3 (.slice ao2 l3.length cap2)
        have hput2:=Hd (hput.mono (S':=Fr w5.heap.size (setJ w7 w5.heap.size j k3 bo3 n3 t3 x3 (.slice ao2 l3.length cap2))) (fun b hb=>by
         rcases hb with hb|hb
         ·exact⟨hb.1,by rw[hsz8];have:=hb.2;omega⟩
         ·exact⟨by have h1:=hb.1;have h2:=hbs;omega,by rw[hsz8];exact hb.2⟩))
        have hb8:=Hd (below_setJ2 (hb.out.trans (hb7.mono hb.out.size)) (Nat.le_refl _) j k3 bo3 n3 t3 x3 (.slice ao2 l3.length cap2))
        unfold setJ at hput2 hb8
        clear hput hlf7 hb7 hl7 hsz8 hlf hb hcp hix hskip hs x0r y0 y1 y2 y3 y4 y5 hcell2
        go_wp2
        go_roundw
        case rel=>exact⟨j+1,hj1.out,by go_num,hput2,hb8⟩
        case measure=>have:=hj1.out;simp[intOf];omega
       ·have hidx:idxI A.vars s=-1:=by unfold idxI;rw[if_neg hm]
        rw[hidx]at hix
        have hlf2:=hlf
        rw[←hskip.out hm]at hlf2
        clear hskip hstep hs hlf
        go_wp2_with fail
        refine hix.out.mono ?_
        rintro e w6 ⟨rfl,rfl⟩
        go_wp2
        go_roundw
        case rel=>exact⟨j+1,hj1.out,by go_num,hlf2,hb⟩
        case measure=>have:=hj1.out;simp[intOf];omega
      ·have hji:¬(j:Int)<(X.length:Int):=by omega
       obtain rfl:j=X.length:=by omega
       rw[prK_end]at hlf
       have hJr:=Hd (hJ.out.stay hb.out)
       have hMr:=Hd (hJ.out.rows.stay (fun b hS hlt=>hb.out.block b hlt))
       have hbs:=hb.out.size
       have htb:=hJr.out.tb
       have htlt:=hJ.out.tb.lt
       have z0:=htb.cell 0 rfl
       have z1:=htb.cell 1 rfl
       have hw6:=(Below.refl wr.heap.size wr).alloc (Nat.le_refl _) (.cells #[.slice (some ⟨w5.heap.size,0,none⟩) X.length X.length] 32)
       have hs6:=World.size_alloc wr (.cells #[.slice (some ⟨w5.heap.size,0,none⟩) X.length X.length] 32)
       have hJ6:=hJr.out.stay hw6
       have hM6:=hMr.out.stay (fun b hS hlt=>hw6.block b (by have:=hS.2;omega))
       have hl6:=hlf.out.stay (fun b hS hlt=>hw6.block b hlt)
       have hn6:(wr.alloc (.cells #[.slice (some ⟨w5.heap.size,0,none⟩) X.length X.length] 32)).cell? ⟨wr.heap.size,0,none⟩=some (.slice (some ⟨w5.heap.size,0,none⟩) X.length X.length):=(Blk.new wr #[.slice (some ⟨w5.heap.size,0,none⟩) X.length X.length] 32).cell 0 rfl
       have hlen2:=hlen.out
       have hd2:∀b,(wb.heap.size<b∧b<w5.heap.size)→b<(wr.alloc (.cells #[.slice (some ⟨w5.heap.size,0,none⟩) X.length X.length] 32)).heap.size:=fun b hb=>by rw[hs6];have:=hb.2;omega
       have hd3:∀b,Fr w5.heap.size wr b→b<(wr.alloc (.cells #[.slice (some ⟨w5.heap.size,0,none⟩) X.length X.length] 32)).heap.size∧¬(wb.heap.size<b∧b<w5.heap.size):=fun b hb=>⟨by rw[hs6];have:=hb.2;omega,fun h=>by have:=h.2;have:=hb.1;omega⟩
       clear hlf hJr hMr
       go_wp2_with (at_builtin;refine wpList_pushR rfl _ _ rfl N (fun b=>wb.heap.size<b∧b<w5.heap.size) (Fr w5.heap.size wr) rv L1 rfl hM6 hd2 wr.heap.size _ (.slice (some ⟨w5.heap.size,0,none⟩) X.length X.length) rfl hn6 hl6 hd3 hlen2 ?d5)
       intro v' w' hM' hg hvS
       have hgs:=hg.size
       rw[hs6]at hgs
       have hJ8:=Hd (hJ6.push (S:=fun b=>wb.heap.size<b∧b<w5.heap.size) (T:=Fr w5.heap.size wr) (hM'.mono fun b hb=>by rw[hs6];exact hb) hg (fun g e=>by have:=hvS g e;exact⟨this.1,by rw[hs6];omega⟩) (fun b hb=>⟨hb.1,by have:=hb.2;omega⟩) (fun b hb=>⟨by have:=hb.1;omega,by have:=hb.2;omega⟩))
       have hV7:Blk w' wb.heap.size _ _:=(hg.block _ hJ6.tb.lt (fun e=>by have:=(hvS _ e.symm).1;omega)).trans hJ6.tb
       obtain⟨ao7,cap7,hv7⟩:=hM'.form
       rw[List.length_append,List.length_singleton]at hv7
       subst hv7
       clear z0 z1
       have z0:=hV7.cell 0 rfl
       have z1:=hV7.cell 1 rfl
       have f1:=hV7.free 1
       rw[←hnext.out]at hJ8
       clear hM' hg hvS hJ6 hM6 hl6 hn6
       go_wp2
       go_roundw
       case rel=>exact⟨i+1,_,hi1.out,by go_num,hJ8⟩
       case measure=>have:=hi1.out;simp[intOf];omega
    ·have hki:¬(i:Int)<(A.rows.length:Int):=by omega
     obtain rfl:i=A.rows.length:=by omega
     rw[List.take_length]at hJ
     have hd:=Hd (hJ.out.done (vars:=X) hB.out ownX.out (by omega) hsX.out hq1.out (by omega))
     have z0:=hJ.out.tb.cell 0 rfl
     have z1:=hJ.out.tb.cell 1 rfl
     have hrb5:Blk w5 (w.heap.size+1) _ _:=(hJ.out.below.block _ hqlt).trans hq1.out
     have f1:=Blk.free hrb5
     have g0:=hrb5.cell 0 rfl
     have g1:=hrb5.cell 1 rfl
     obtain⟨ao9,cap9,hrv⟩:=hJ.out.slice
     rw[List.length_map]at hrv
     subst hrv
     go_wp2
     refine bodyPost_ret (v:=.agg #[.slice an X.length cn,.slice ao9 A.rows.length cap9]) (results_cell_row rfl _ _ (w.heap.size+1) 25 _ (0,0) _ rfl hd.out.1.eq Tryz.underlying25 rfl infoTab) rfl ⟨_,rfl,by rw[hz.out];exact hd.out.2⟩
end Go.Proofs.YtmpldjbdhbapbaaGreatDoor.tab
