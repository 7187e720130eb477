/- Texts RtProjR, RowsO, one behind the other. -/
import Derived.Test.YtidplkfhodpdhaaGreatDoorRtB
set_option linter.unusedSimpArgs false
set_option linter.unusedVariables false
set_option maxRecDepth 100000
set_option maxHeartbeats 8000000
namespace Go.Proofs.YtidplkfhodpdhaaGreatDoor.tab
open Go.ChangeShapes Go.WideShapes Go.ChangeAt Go.RowKit kit dec val
open hyp (RowA TextsA CellsStay stay_of_below textsV textsV_length own_row OW)
theorem wp_pushC{w:World}{o:Oper}{a:Act}{K:Act→World→Prop}{Q:Exit→Act→World→Prop}(s x:Operand)
 (ho:o.op=.call { callee:=.builtin .append,args:=#[s,x],argTypes:=#[37,37] })
 (w0 w1:World)(N:Nat)(v:Value)(l:List V)(hs:a.eval s=v)(hR:Rob w0 w1 w N v l)
 (g:Nat)(k:Int)(b:Bool)(n:Int)(t y:ByteArray)(l1:List V)(a1:Option Addr)(c1:Nat)(hx:a.eval x=.slice (some ⟨g,0,none⟩) 1 1)(hg:Blk w g #[.int .i64 k,.bool b,.int .i64 n,.string t,.string y,.slice a1 l1.length c1] 52)
 (hok:okV N (.mk k b n t y l1))(hla:LA w0 N (.slice a1 l1.length c1) l1)(hlen:l.length+1≤N)(hN:N≤1048576)
 (hK:∀v' w',Rob w0 w1 w' N v' (l++[.mk k b n t y l1])→w.grownBy w' v.ownBlock→K (a.put o.dst v') w'):
 o.wp Tryz.prog a w K Q:=by
 obtain⟨i0,hi,hp⟩:=Option.map_eq_some_iff.1 Tryz.infoV
 have hz2:i0.size=6:=congrArg (fun p=>p.2.1) hp
 have hz3:i0.bytes=80:=congrArg (fun p=>p.2.2) hp
 have hz1:i0.zero.map (·.cells.size)=some 6:=congrArg (fun p=>p.1) hp
 obtain⟨z,hz,hzs⟩:=Option.map_eq_some_iff.1 hz1
 obtain⟨ps,hL,hpN,hown,hps⟩:=hR.ex
 have hll:l.length=ps.length:=by rw[hL,List.length_map]
 have hnews:∀j u,(six (.mk k b n t y l1) (.slice a1 l1.length c1))[j]? = some u→w.cell? ((⟨g,0,none⟩:Addr).add j)=some u:=fun j u hu=>by
  rw[Go.WideShapes.add_plain,Nat.zero_add]
  exact hg.cell j (by simpa[six]using hu)
 have hbs:=hR.below.size
 obtain⟨v',w',hrun,k2,k3,_⟩:=run_append_own (P:=Tryz.prog) w w1.heap.size 37 o.type 52 i0 z 6 80 Tryz.underlying37 hi hz hz2 hz3 hzs (by decide) v ps.length (rowL ps) hown ⟨g,0,none⟩ 1 1 (six (.mk k b n t y l1) (.slice a1 l1.length c1)) rfl hnews (six_one rfl) (by unfold maxLen;omega) (by omega) hbs
 have hRn:Rob w0 w1 w' N v' (l++[.mk k b n t y l1]):=by
  refine⟨Below.grown hR.below k3 hbs (fun g hg=>(hown.lt g hg).1),ps++[(.mk k b n t y l1,.slice a1 l1.length c1)],?_,?_,?_,?_⟩
  ·rw[hL,List.map_append];rfl
  ·rw[List.length_append,List.length_singleton];omega
  ·rw[List.length_append,List.length_singleton,rowL_app]
   have e:rowL [((.mk k b n t y l1:V),(.slice a1 l1.length c1:Value))]=six (.mk k b n t y l1) (.slice a1 l1.length c1):=by rw[rowL,rowL,List.append_nil]
   rw[e]
   exact k2
  ·intro q hq
   rcases List.mem_append.1 hq with hq|hq
   ·exact hps q hq
   ·rw[List.mem_singleton]at hq
    subst hq
    exact⟨hok,hla⟩
 have hfin:=hK v' w' hRn k3
 unfold Oper.wp execOp
 simp only[ho,resolve,invoke,builtin,Sem.run_bind,Sem.run_pure,Result.andThen_ok,List.map_toArray,List.map_cons,List.map_nil,hs,hx,hrun]
 exact hfin
def PrS(w0 w w':World)(N:Nat)(vx v:Value)(rs:List (List V)):Prop:=
 Below w.heap.size w w'∧∃rv,v=.agg #[vx,rv]∧∃X:Nat→Prop,(∀b,b<w.heap.size→X b)∧(∀b,X b→b<w'.heap.size)∧RJ w0 w' X N rv rs∧∀g,rv.ownBlock=some g→w.heap.size≤g
theorem proj_rows(A:Tab)(X:List ByteArray){k:Nat}(h:k<A.rows.length):((A.rows.take (k+1)).map fun r=>X.map (cellF A.vars r))=((A.rows.take k).map fun r=>X.map (cellF A.vars r))++[X.map (cellF A.vars A.rows[k])]:=by
 rw[List.take_succ_eq_append_getElem h,List.map_append,List.map_singleton]
theorem rProj_any(N:Nat)(hN:N≤1048576)(w0 w:World)(h0:Below w0.heap.size w0 w)(va vx:Value)(A:Tab)(X:List ByteArray)(hA0:TabA w0 N va A)(hX:TextsA w w.heap.size vx X)(mA:mayT A=true)(ra9:A.rows.length≤1000)(lx:X.length<N):
 Calls Tryz.prog 32 #[va,vx] w fun e w'=>∃v,e=.returned v∧PrS w0 w w' N vx v (projT A X).rows:=by
 obtain⟨hnA,hrA⟩:=may_rows mA
 obtain⟨hA9,-,hdA⟩:=names_parts hnA
 obtain⟨vv,rv,rfl,hV0,hR0⟩:=hA0.ex
 obtain⟨av,cv,rfl,-⟩:=hV0.form
 obtain⟨ar,cr,rfl,-,hrc⟩:=hR0.form
 obtain⟨ax,cx,rfl,hxt⟩:=hX.form
 have hal:Below w.heap.size w ((w.alloc (.cells #[.slice av A.vars.length cv,.slice ar A.rows.length cr] 25)).alloc (.cells #[.slice none 0 0,.slice none 0 0] 25)):=((Below.refl _ _).alloc (Nat.le_refl _) _).alloc (by rw[World.size_alloc];omega) _
 have hq0:=(Blk.new w #[.slice av A.vars.length cv,.slice ar A.rows.length cr] 25).alloc (.cells #[.slice none 0 0,.slice none 0 0] 25)
 have hq2:=Blk.new (w.alloc (.cells #[.slice av A.vars.length cv,.slice ar A.rows.length cr] 25)) #[.slice none 0 0,.slice none 0 0] 25
 rw[World.size_alloc]at hq2
 obtain⟨wb,hw1⟩:∃w1,(w.alloc (.cells #[.slice av A.vars.length cv,.slice ar A.rows.length cr] 25)).alloc (.cells #[.slice none 0 0,.slice none 0 0] 25)=w1:=⟨_,rfl⟩
 have hs1:wb.heap.size=w.heap.size+2:=by rw[←hw1];simp
 rw[hw1]at hal hq0 hq2
 have hx0:=Hd (hq0.cell 0 rfl)
 have hx1:=Hd (hq0.cell 1 rfl)
 have hBw:=Hd hal
 have hB0w:=Hd (h0.trans (hal.mono h0.size))
 have hw0s:=hB0w.out.size
 have hws:=hal.size
 have hJ0:=Hd (JsW.start (w:=w) hB0w.out (w.heap.size+1) N (.slice ax X.length cx))
 rw[show([]:List (List V))=(A.rows.take 0).map fun r=>X.map (cellF A.vars r) by rfl]at hJ0
 have hRA:Hid (∀j (hj:j<A.rows.length),∃b off a c,ar=some ⟨b,off,none⟩∧wb.cell? ⟨b,off+j,none⟩=some (.slice a A.rows[j].length c)∧LA w0 N (.slice a A.rows[j].length c) A.rows[j]):=Hd fun j hj=>by
  obtain⟨b,off,a,c,h1,h2,h3,h4⟩:=hrc j hj
  exact⟨b,off,a,c,h1,sB hal (sB h0 h3),h4⟩
 have hxw:Hid (∀j (hj:j<X.length),∃b off,ax=some ⟨b,off,none⟩∧wb.cell? ⟨b,off+j,none⟩=some (.string X[j])):=Hd fun j hj=>by
  obtain⟨b,off,h1,h2,h3⟩:=hxt j hj
  exact⟨b,off,h1,sB hal h3⟩
 have cC:=Hd (fun V (h:Below w0.heap.size w0 V) ur r x (hr:LA w0 N ur r) (hl:r.length=A.vars.length)=>rcell_any N hN w0 V h _ ur A.vars r x hV0 hr hl (by omega))
 have t0:=hJ0.out.tb.cell 0 rfl
 have t1:=hJ0.out.tb.cell 1 rfl
 have x0':=sB hJ0.out.bl hx0.out
 have x1':=sB hJ0.out.bl hx1.out
 have hq2b:=Hd hq2
 have hq2lt:=Hd hq2.lt
 replace hw1:=Hd hw1
 replace hs1:=Hd hs1
 replace hrA:=Hd hrA
 clear hA0 hX hV0 hR0 hq0 hq2 mA hnA hdA hrc hxt hal
 go_enter Tryz.func32,Tryz.ntmps32
 go_upto_region 1 with fail
 rw[hw1.out]
 go_upto_region 2 with fail
 generalize wb.alloc (.cells #[.slice ax X.length cx,.slice none 0 0] 25)=w3 at *
 go_wp2
 go_loopw [6] (fun i wr=>∃(k:Nat) (rv:Value),k≤A.rows.length∧i=.int .i64 (k:Int)∧Hid (JsW w0 w wb wr (w.heap.size+1) N (.slice ax X.length cx) rv ((A.rows.take k).map fun r=>X.map (cellF A.vars r)))) (fun i _=>A.rows.length-(intOf i).toNat)
 case atStart=>exact⟨0,_,Nat.zero_le _,rfl,hJ0⟩
 case round =>
  clear hJ0 x0' x1' t0 t1
  obtain⟨i,rv,hi,rfl,hJ⟩:=hrel
  obtain⟨w4,rfl⟩:∃w4:World,w4=wr:=⟨_,rfl⟩
  have hbj:=hJ.out.bl
  have x1':=sB hbj hx1.out
  by_cases hlt:i<A.rows.length
  ·have hki:(i:Int)<(A.rows.length:Int):=by omega
   have hi1:=Hd (show i+1≤A.rows.length from hlt)
   obtain⟨b1,o1,a1,c1,rfl,hc1,hla1⟩:=hRA.out i hlt
   have hrl:=row_len (hrA.out _ (List.getElem_mem hlt))
   have hnext:=Hd (proj_rows A X hlt)
   have hlen:Hid (((A.rows.take i).map fun r=>X.map (cellF A.vars r)).length+1≤1048576):=Hd (by rw[List.length_map,List.length_take];omega)
   have hc4:=sB hbj hc1
   have x0':=sB hbj hx0.out
   generalize ((A.rows.take i).map fun r=>X.map (cellF A.vars r))=L1 at *
   generalize hL2:((A.rows.take (i+1)).map fun r=>X.map (cellF A.vars r))=L2 at *
   generalize (A.rows[i]'hlt)=r at *
   have cR:=Hd (fun V (h:Below w4.heap.size w4 V) x=>cC.out V (hB0w.out.trans ((hbj.trans (h.mono hbj.size)).mono hB0w.out.size)) _ r x hla1 hrl)
   have hR0:Hid (Rob w0 w4 w4 N (.slice none 0 0) ((X.take 0).map (cellF A.vars r))):=Hd ⟨Below.refl _ _,[],rfl,Nat.zero_le _,World.ownsRow_nil _ _ _ _,by simp⟩
   have hx04:=Hd x0'
   have hx14:=Hd x1'
   have hc14:=Hd hc4
   have hxw4:Hid (∀j (hj:j<X.length),∃b off,ax=some ⟨b,off,none⟩∧w4.cell? ⟨b,off+j,none⟩=some (.string X[j])):=Hd fun j hj=>by
    obtain⟨b,off,h1,h2⟩:=hxw.out j hj
    exact⟨b,off,h1,sB hbj h2⟩
   replace hL2:=Hd hL2
   clear hbj hc1 hla1 hrl hc4 x0'
   go_wp2
   go_loopw [7,8] (fun v7 j wr=>∃k:Nat,k≤X.length∧j=.int .i64 (k:Int)∧Hid (Rob w0 w4 wr N v7 ((X.take k).map (cellF A.vars r)))) (fun _ j _=>X.length-(intOf j).toNat)
   case atStart=>exact⟨0,Nat.zero_le _,rfl,hR0⟩
   case round=>
    clear hR0 x1'
    obtain⟨k,hk,rfl,hR⟩:=hrel
    obtain⟨w5,rfl⟩:∃w5:World,w5=wr:=⟨_,rfl⟩
    by_cases hlk:k<X.length
    ·have hkk:(k:Int)<(X.length:Int):=by omega
     have hk1:=Hd (show k+1≤X.length from hlk)
     obtain⟨b2,o2,rfl,hcx⟩:=hxw4.out k hlk
     have hnx:Hid (∀v,cellF A.vars r (X[k]'hlk)=v→(X.take (k+1)).map (cellF A.vars r)=(X.take k).map (cellF A.vars r)++[v]):=Hd fun v hv=>by
      rw[List.take_succ_eq_append_getElem hlk,List.map_append,List.map_singleton,hv]
     have hLl:((X.take k).map (cellF A.vars r)).length=k:=by rw[List.length_map,List.length_take];omega
     have c1:=Hd (fun V (h:Below w4.heap.size w4 V)=>cR.out V h (X[k]'hlk))
     obtain⟨a7,c7,h7⟩:=hR.out.form
     rw[hLl]at h7
     subst h7
     generalize (X[k]'hlk)=x at *
     generalize ((X.take k).map (cellF A.vars r))=L at *
     generalize hX2:((X.take (k+1)).map (cellF A.vars r))=X2 at *
     replace hX2:=Hd hX2
     replace hLl:=Hd hLl
     have hx5:=hR.out.below
     have hdr:Below w4.heap.size w4 w5.drew:=hx5.trans ((below_drewN (Below.refl _ _) 1).mono hx5.size)
     have hRd:Hid (Rob w0 w4 w5.drew N (.slice a7 k c7) L):=Hd ⟨hdr,hR.out.ex⟩
     have hw54:=hx5.size
     clear hR hx5
     go_upto_region 9 with fail
     refine wp_region_held_drew (S:=fun V=>Below w4.heap.size w4 V) (by kernel_rfl) hdr (fun hS=>?_)
     generalize w5.drew=V0 at *
     refine tkS [0,1,2,3,4,5,6,7,8,9,10,11] ?_
     iterate 12
      refine tkC ?_ rfl (fun w' hS=>?_) hS ?_
      rotate_left
      ·
       have p0:=sB hS hx04.out;have p1:=sB hS hx14.out;have p2:=sB hS hc14.out;have p3:=sB hS hcx
       go_simp
       try with_reducible rfl
     refine rdH 12 rfl (fun K hK=>?_)
     clear hS
     go_simp
     refine(c1.out V0 hdr).mono ?_
     rintro e w6 ⟨k2,b3,n2,t2,y2,l2,a2,e2,rfl,hc2,hok2,hla2,hb6⟩
     go_wp2_with fail
     have h6:=hdr.trans (hb6.mono hdr.size)
     have hR6:Rob w0 w4 w6 N (.slice a7 k c7) L:=by
      obtain⟨ps,q1,q2,q3,q4⟩:=hRd.out.ex
      exact⟨h6,ps,q1,q2,val.own_stay q3 fun g hg=>hb6.block g (q3.lt g hg).2,q4⟩
     refine hKo hK h6 (fun hS=>?_)
     clear hK K
     refine rdH 13 rfl (fun K hK=>?_)
     clear hS
     go_simp
     go_wp2_with fail
     have hal6:Below w6.heap.size w6 (w6.alloc (.cells #[.int .i64 k2,.bool b3,.int .i64 n2,.string t2,.string y2,.slice a2 l2.length e2] 52)):=(Below.refl _ _).alloc (Nat.le_refl _) _
     have hq6:=Blk.new w6 #[.int .i64 k2,.bool b3,.int .i64 n2,.string t2,.string y2,.slice a2 l2.length e2] 52
     have h7:=h6.trans (hal6.mono h6.size)
     have hR7:Rob w0 w4 (w6.alloc (.cells #[.int .i64 k2,.bool b3,.int .i64 n2,.string t2,.string y2,.slice a2 l2.length e2] 52)) N (.slice a7 k c7) L:=by
      obtain⟨ps,q1,q2,q3,q4⟩:=hR6.ex
      exact⟨h7,ps,q1,q2,q3.alloc _,q4⟩
     refine hKo hK h7 (fun hS=>?_)
     clear hK K
     refine rdH 14 rfl (fun K hK=>?_)
     clear hS
     refine wp_pushC (.tmp 24) (.tmp 37) rfl w0 w4 N _ L rfl hR7 w6.heap.size k2 b3 n2 t2 y2 l2 a2 e2 rfl hq6 hok2 hla2 (by rw[hLl.out];omega) hN ?_
     intro v' w8 hR8 hg8
     have h8:=hR8.below
     obtain⟨a8,c8,hv8⟩:=hR8.form
     rw[List.length_append,List.length_singleton,hLl.out]at hv8
     subst hv8
     refine hKo hK h8 (fun hS=>?_)
     clear hK K
     refine tkH 15 ?_ rfl (fun w' hS=>?_) hS ?_
     rotate_left
     ·
      skip
      go_simp
      try with_reducible rfl
     refine wpAnyH_done (by kernel_rfl) ?_ _
     clear hS
     have hRn:Hid (Rob w0 w4 w8 N (.slice a8 (k+1) c8) X2):=Hd (by rw[hnx.out _ hc2];exact hR8)
     clear hR8 hg8 hR7 hR6 hq6 hal6 h6 h7 h8 hb6 hc2 hok2 hla2 hnx hRd hdr
     go_wp2
     go_roundw
     case rel=>exact⟨k+1,hk1.out,by go_num,by rw[hX2.out];exact hRn⟩
     case measure=>have:=hk1.out;simp[intOf];omega
    ·have hkk:¬(k:Int)<(X.length:Int):=by omega
     obtain rfl:k=X.length:=by omega
     rw[List.take_length]at hR
     have hbj:=hR.out.below
     have hJ5:=hJ.out.stay hbj
     obtain⟨a7,c7,h7⟩:=hR.out.form
     rw[List.length_map]at h7
     subst h7
     have t0:=hJ5.tb.cell 0 rfl
     have t1:=hJ5.tb.cell 1 rfl
     have x1':=sB hbj hx14.out
     obtain⟨a9,c9,hrv⟩:=hJ5.rj.form
     subst hrv
     have hal5:Below w5.heap.size w5 (w5.alloc (.cells #[.slice a7 X.length c7] 37)):=(Below.refl _ _).alloc (Nat.le_refl _) _
     have hJ6:=hJ5.stay hal5
     have hn6:(w5.alloc (.cells #[.slice a7 X.length c7] 37)).cell? ⟨w5.heap.size,0,none⟩=some (.slice a7 X.length c7):=(Blk.new w5 #[.slice a7 X.length c7] 37).cell 0 rfl
     have hrob:=RobR.made hR.out (w5.alloc (.cells #[.slice a7 X.length c7] 37)) (fun b=>w4.heap.size≤b∧b<w5.heap.size) (fun b h1 h2=>⟨h1,h2⟩) (fun b hb=>hal5.block b hb)
     have hs5:=World.size_alloc w5 (.cells #[.slice a7 X.length c7] 37)
     have hlt4:=hJ.out.rj.lt
     have htb4:=hJ.out.tb.lt
     have hb45:=hbj.size
     have hbb4:=hJ.out.bl.size
     have hs2:=hs1.out
     replace hs1:=Hd hs2
     have hG:∀b,(w4.heap.size≤b∧b<w5.heap.size)→w0.heap.size≤b∧b<(w5.alloc (.cells #[.slice a7 X.length c7] 37)).heap.size∧(Value.slice a9 L1.length c9).ownBlock≠some b∧¬(b<w.heap.size∨b=w.heap.size+1∨b=wb.heap.size):=fun b hb=>⟨by omega,by rw[hs5];omega,fun e=>by have:=(hlt4 b e).2;omega,by omega⟩
     have hXl:∀b,(b<w.heap.size∨b=w.heap.size+1∨b=wb.heap.size)→b<(w5.alloc (.cells #[.slice a7 X.length c7] 37)).heap.size:=fun b hb=>by rw[hs5];omega
     replace hs5:=Hd hs5
     replace hG:=Hd hG
     replace hXl:=Hd hXl
     replace hrob:=Hd hrob
     replace hJ6:=Hd hJ6
     replace hn6:=Hd hn6
     clear hs2 hlt4 htb4 hb45 hbb4 hbj hJ hJ5 hR hal5
     go_wp2_with (at_builtin;refine wpList_plain rfl (fun K hK=>wp_pushS (.tmp 40) (.tmp 42) rfl w0 (fun b=>b<w.heap.size∨b=w.heap.size+1∨b=wb.heap.size) N _ L1 rfl hJ6.out.rj w5.heap.size (X.map (cellF A.vars r)) (.slice a7 X.length c7) rfl hn6.out rfl (fun b=>w4.heap.size≤b∧b<w5.heap.size) hG.out hrob.out hXl.out hlen.out ?d))
     case d=>
      intro v' w9 hR9 hg9 hat9
      obtain⟨ao9,cap9,hv9⟩:=hR9.form
      rw[List.length_append,List.length_singleton]at hv9
      subst hv9
      obtain⟨htb9,hbl9,hJ9⟩:=hJ6.out.next hw0s (hat9.imp id fun e=>by rw[e,hs5.out]) hR9 hg9
      have f1:=htb9.free 1
      have z0:=htb9.cell 0 rfl
      have z1:=htb9.cell 1 rfl
      rw[←hnext.out]at hJ9
      have x1b:=sB hbl9 hx1.out
      have hx1c:=sB hJ9.bl hx1.out
      replace hJ9:=Hd hJ9
      refine hK _ _ ?_
      clear hR9 hg9 hat9 htb9 hbl9 hJ6 hn6 hrob hG hXl hs5 t0 t1 x1' hK K
      go_wp2
      go_roundw
      case rel=>exact⟨i+1,_,hi1.out,by go_num,by rw[hL2.out];exact hJ9⟩
      case measure=>have:=hi1.out;simp[intOf];omega
  ·have hki:¬(i:Int)<(A.rows.length:Int):=by omega
   obtain rfl:i=A.rows.length:=by omega
   rw[List.take_length]at hJ
   have z0:=hJ.out.tb.cell 0 rfl
   have z1:=hJ.out.tb.cell 1 rfl
   have hrb5:Blk w4 (w.heap.size+1) #[.slice none 0 0,.slice none 0 0] 25:=(hbj.block _ hq2lt.out).trans hq2b.out
   have f1:=Blk.free hrb5
   have g0:=hrb5.cell 0 rfl
   have g1:=hrb5.cell 1 rfl
   obtain⟨ao9,cap9,hrv⟩:=hJ.out.rj.form
   rw[List.length_map]at hrv
   subst hrv
   have hr3:=Hd ((hrb5.set 0 (.slice ax X.length cx)).set 1 (.slice ao9 A.rows.length cap9))
   have hsz:((w4.setCell ⟨w.heap.size+1,0,none⟩ (.slice ax X.length cx)).setCell ⟨w.heap.size+1,1,none⟩ (.slice ao9 A.rows.length cap9)).heap.size=w4.heap.size:=by simp[World.setCell]
   have hfin:Hid (PrS w0 w ((w4.setCell ⟨w.heap.size+1,0,none⟩ (.slice ax X.length cx)).setCell ⟨w.heap.size+1,1,none⟩ (.slice ao9 A.rows.length cap9)) N (.slice ax X.length cx) (.agg #[.slice ax X.length cx,.slice ao9 A.rows.length cap9]) (projT A X).rows):=Hd (by
    have h2:=hs1.out
    have h3:=hJ.out.tb.lt
    refine⟨((hBw.out.trans (hbj.mono hBw.out.size)).setCell (p:=⟨w.heap.size+1,0,none⟩) (Nat.le_succ _) _).setCell (p:=⟨w.heap.size+1,1,none⟩) (Nat.le_succ _) _,_,rfl,fun b=>b<w.heap.size∨b=w.heap.size+1∨b=wb.heap.size,fun b hb=>.inl hb,fun b hb=>by rw[hsz];omega,?_,fun g hg=>?_⟩
    ·exact(hJ.out.rj.cell (w.heap.size+1) (.inr (.inl rfl)) (by have:=h0.size;omega) 0 _).cell (w.heap.size+1) (.inr (.inl rfl)) (by have:=h0.size;omega) 1 _
    ·have:=hJ.out.low g hg
     omega)
   clear hrb5 hbj hsz hJ
   go_wp2
   refine bodyPost_ret (v:=.agg #[.slice ax X.length cx,.slice ao9 A.rows.length cap9]) (results_cell_row rfl _ _ (w.heap.size+1) 25 _ (0,0) _ rfl hr3.out.eq Tryz.underlying25 rfl infoTab) rfl ⟨_,rfl,hfin.out⟩
end Go.Proofs.YtidplkfhodpdhaaGreatDoor.tab
set_option linter.unusedSimpArgs false
set_option linter.unusedVariables false
set_option maxRecDepth 100000
namespace Go.Proofs.YtidplkfhodpdhaaGreatDoor.tab
open Go.ChangeShapes Go.WideShapes Go.ChangeAt Go.RowKit kit dec val
open hyp (RowA TextsA CellsStay stay_of_below textsV textsV_length own_row OW)
def RO(w0 wr:World)(B N:Nat)(v:Value)(rs:List (List V)):Prop:=
 ∃vs:List Value,vs.length=rs.length∧wr.ownsRow B 37 1 v vs.length vs∧∀j (hj:j<vs.length) (hj':j<rs.length),LA w0 N vs[j] rs[j]
theorem RO.nil(w0 wr:World)(B N:Nat):RO w0 wr B N (.slice none 0 0) []:=⟨[],rfl,World.ownsRow_nil _ _ _ _,fun j hj=>by simp at hj⟩
theorem RO.form{w0 wr:World}{B N:Nat}{v:Value}{rs:List (List V)}(h:RO w0 wr B N v rs):∃a c,v=.slice a rs.length c:=by
 obtain⟨vs,h1,own,-⟩:=h
 obtain⟨a,c,e⟩:=own_form4x own
 exact⟨a,c,by rw[e,h1]⟩
theorem RO.read{w0 wr:World}{B N:Nat}{v:Value}{rs:List (List V)}(h:RO w0 wr B N v rs)(hb:Below w0.heap.size w0 wr):RowsA wr N v rs:=by
 obtain⟨vs,h1,own,hr⟩:=h
 exact⟨vs,h1,own_row own,fun j hj hj'=>(hr j hj hj').stay hb⟩
theorem RO.lt{w0 wr:World}{B N:Nat}{v:Value}{rs:List (List V)}(h:RO w0 wr B N v rs):∀g,v.ownBlock=some g→B≤g∧g<wr.heap.size:=by
 obtain⟨vs,h1,own,-⟩:=h
 exact own.lt
theorem RO.keep{w0 wr W:World}{B N:Nat}{v:Value}{rs:List (List V)}(h:RO w0 wr B N v rs)(hk:∀g,v.ownBlock=some g→W.heap[g]? = wr.heap[g]?):RO w0 W B N v rs:=by
 obtain⟨vs,h1,own,hr⟩:=h
 exact⟨vs,h1,val.own_stay own hk,hr⟩
theorem RO.low{w0 wr:World}{B B' N:Nat}{v:Value}{rs:List (List V)}(h:RO w0 wr B N v rs)(hB:B'≤B):RO w0 wr B' N v rs:=by
 obtain⟨vs,h1,own,hr⟩:=h
 exact⟨vs,h1,own_low4 own hB,hr⟩
def PO(w0 w:World)(N:Nat)(y:Value)(ss:List (List V)):Prop:=
 ∃us:List Value,us.length=ss.length∧RowA w w.heap.size y us∧∀j (hj:j<us.length) (hj':j<ss.length),LA w0 N us[j] ss[j]
theorem PO.stay{w0 w W:World}{N:Nat}{y:Value}{ss:List (List V)}(h:PO w0 w N y ss)(hb:Below w.heap.size w W):PO w0 W N y ss:=by
 obtain⟨us,h1,h2,h3⟩:=h
 exact⟨us,h1,(h2.stay (stay_of_below hb)).mono hb.size,h3⟩
theorem PO.one{w0 w:World}{N g:Nat}{t:Value}{r:List V}(hg:w.cell? ⟨g,0,none⟩=some t)(hla:LA w0 N t r):PO w0 w N (.slice (some ⟨g,0,none⟩) 1 1) [r]:=by
 obtain⟨ob,ho,_⟩:=cells_of_cell hg
 refine⟨[t],rfl,.inr ⟨g,0,1,rfl,by simp,by simp,(Array.getElem?_eq_some_iff.1 ho).1,fun j hj=>?_⟩,fun j hj hj'=>?_⟩
 ·obtain rfl:j=0:=by simp at hj;omega
  exact hg
 ·obtain rfl:j=0:=by simp at hj;omega
  exact hla
theorem RO.parts{w0 w:World}{B N:Nat}{v:Value}{L:List (List V)}(h:RO w0 w B N v L){p:Nat}(hp:p≤L.length)(hlen:L.length≤1048576):
 ∃y1 y2,(∀W:World,(Instr.sliceAt 23 v none (some (.int .i64 (p:Int))) none).run Tryz.prog W=.ok y1 W)∧(∀W:World,(Instr.sliceAt 23 v (some (.int .i64 (p:Int))) none none).run Tryz.prog W=.ok y2 W)∧PO w0 w N y1 (L.take p)∧PO w0 w N y2 (L.drop p):=by
 obtain⟨i0,hi,hz1,hz2,hz3⟩:=info_parts infoRow
 obtain⟨vs,h1,own,hr⟩:=h
 have hU:=Tryz.underlying23
 have hT:PO w0 w N .nilIface (L.take p)→True:=fun _=>trivial
 rcases own.2 with⟨rfl,hn⟩|⟨g,cap,cur,rfl,hg,hcell,hnc,hcap,hsz,htake⟩
 ·have hL:L=[]:=List.eq_nil_of_length_eq_zero (by omega)
  subst hL
  obtain rfl:p=0:=by simpa using hp
  refine⟨.slice none 0 0,.slice none 0 0,fun W=>by go_simp,fun W=>by go_simp,⟨[],rfl,.inl ⟨_,_,rfl,rfl⟩,fun j hj=>by simp at hj⟩,⟨[],rfl,.inl ⟨_,_,rfl,rfl⟩,fun j hj=>by simp at hj⟩⟩
 ·have hrow:=own_row own
  have hlt:g<w.heap.size:=(Array.getElem?_eq_some_iff.1 hcell).1
  have hcells:∀j (hj:j<vs.length),w.cell? ⟨g,j,none⟩=some vs[j]:=fun j hj=>by
   rw[cell_of_row w g j cur _ (0,0) hcell]
   have h2:vs=cur.toList.take vs.length:=by rw[←htake];simp
   have h3:cur.toList[j]? = some vs[j]:=by
    have:=congrArg (fun l:List Value=>l[j]?) h2
    simp only[List.getElem?_take,hj,if_true,List.getElem?_eq_getElem hj]at this
    exact this.symm
   rw[←Array.getElem?_toList]
   exact h3
  have hmx:cap≤9223372036854775807:=by unfold maxLen at hcap;omega
  have hpc:(p:Int)≤(cap:Int):=by omega
  have hpn:(p:Int)≤(vs.length:Int):=by omega
  have hp0:(0:Int)≤(p:Int):=by omega
  have hp63:(p:Int)≤9223372036854775807:=by omega
  refine⟨.slice (some ⟨g,0,none⟩) p cap,.slice (some ⟨g,if cap-p=0 then 0 else p,none⟩) (vs.length-p) (cap-p),fun W=>by go_simp,fun W=>?_,?_,?_⟩
  ·by_cases hc:cap-p=0
   ·have hcp:cap=p:=by omega
    rw[if_pos hc]
    subst hcp
    go_simp
   ·rw[if_neg hc]
    have hcp:¬cap=p:=by omega
    have hadd:(⟨g,0,none⟩:Addr).add p=⟨g,p,none⟩:=by rw[Go.WideShapes.add_plain,Nat.zero_add]
    go_simp
  ·refine⟨vs.take p,by simp[h1],?_,fun j hj hj'=>?_⟩
   ·by_cases h0:p=0
    ·subst h0
     exact .inl ⟨_,_,rfl,by simp⟩
    ·have hl:(vs.take p).length=p:=by rw[List.length_take];omega
     refine .inr ⟨g,0,cap,by rw[hl],by omega,by omega,hlt,fun j hj=>?_⟩
     rw[Nat.zero_add,hcells j (by omega)]
     simp
   ·simp only[List.getElem_take]
    exact hr j _ _
  ·refine⟨vs.drop p,by simp[h1],?_,fun j hj hj'=>?_⟩
   ·have hl:(vs.drop p).length=vs.length-p:=by rw[List.length_drop]
    by_cases h0:vs.length-p=0
    ·rw[h0]
     exact .inl ⟨_,_,rfl,List.eq_nil_of_length_eq_zero (by omega)⟩
    ·rw[if_neg (by omega)]
     refine .inr ⟨g,p,cap-p,by rw[hl],by omega,by omega,hlt,fun j hj=>?_⟩
     rw[hcells (p+j) (by omega)]
     simp
   ·simp only[List.getElem_drop]
    exact hr _ _ _
theorem app_run{P:Program}{w:World}{ops:Array Oper}{rest:List Oper}{o:Oper}{a:Act}{Q:Exit→Act→World→Prop}(hgd:o.guard=none)(s x:Operand)(t tn:TypeId)
 (ho:o.op=.call { callee:=.builtin .append,args:=#[s,x],argTypes:=#[t,tn] })(v v' y:Value)(w':World)(hs:a.eval s=v)(hx:a.eval x=y)(hr:(Builtin.append_ #[t,tn] o.type #[v,y]).run P w=.ok v' w')
 (h:wpList P ops Q rest (a.put o.dst v') w'):wpList P ops Q (o::rest) a w:=by
 refine wpList_plain hgd fun K hK=>?_
 unfold Oper.wp execOp
 simp only[ho,resolve,invoke,builtin,Sem.run_bind,Sem.run_pure,Result.andThen_ok,List.map_toArray,List.map_cons,List.map_nil,hs,hx,hr]
 exact hK _ _ h
theorem app_none{P:Program}(w:World)(B:Nat)(t ty e:TypeId)(i:TypeInfo)(size:Nat)(ht:P.underlying t=some (.slice e))(hi:P.info? e=some i)(v:Value)(n:Nat)(xs:List Value)(hown:w.ownsRow B e size v n xs)(c:Nat):
 (Builtin.append_ #[t,t] ty #[v,.slice none 0 c]).run P w=.ok v w:=by
 rcases hown.2 with⟨rfl,rfl⟩|⟨g,cap,cur,rfl,_,hg,hn,_⟩
 ·simp[Builtin.append_,run_underlying ht,sizeOf,typeInfo,hi,Builtin.lenOf,Builtin.firstCells,loadCells,loadCellsFrom]
 ·simp[Builtin.append_,run_underlying ht,sizeOf,typeInfo,hi,Builtin.lenOf,Builtin.firstCells,hn,storeCells]
theorem la_one{w:World}{N:Nat}{s:Value}{l:List V}(h:LA w N s l):s.oneCell'=true:=by
 obtain⟨a,c,rfl⟩:=LA.form6 h
 rfl
theorem wpList_appO{w:World}{ops:Array Oper}{rest:List Oper}{o:Oper}{a:Act}{Q:Exit→Act→World→Prop}(hgd:o.guard=none)(s x:Operand)
 (ho:o.op=.call { callee:=.builtin .append,args:=#[s,x],argTypes:=#[23,23] })
 (w0:World)(B N:Nat)(v y:Value)(rs ss:List (List V))(hs:a.eval s=v)(hx:a.eval x=y)(hR:RO w0 w B N v rs)(hB:B≤w.heap.size)(hM:PO w0 w N y ss)(hlen:rs.length+ss.length≤1048576)
 (hK:∀v' w',RO w0 w' B N v' (rs++ss)→w.grownBy w' v.ownBlock→wpList Tryz.prog ops Q rest (a.put o.dst v') w'):wpList Tryz.prog ops Q (o::rest) a w:=by
 obtain⟨i0,hi,hz1,hz2,hz3⟩:=info_parts infoRow
 obtain⟨vs,h1,own,hr⟩:=id hR
 obtain⟨us,g1,g2,g3⟩:=hM
 have hone:∀u∈us,u.oneCell'=true:=fun u hu=>by
  obtain⟨j,hj,rfl⟩:=List.getElem_of_mem hu
  exact la_one (g3 j hj (by omega))
 have hend:∀v' w',w'.ownsRow B 37 1 v' (vs.length+us.length) (vs++us)→RO w0 w' B N v' (rs++ss):=fun v' w' k2=>by
  refine⟨vs++us,by rw[List.length_append,List.length_append,h1,g1],by rw[List.length_append];exact k2,fun j hj hj'=>?_⟩
  by_cases hlt:j<vs.length
  ·have e1:(vs++us)[j]'hj=vs[j]:=List.getElem_append_left hlt
   have e2:(rs++ss)[j]'hj'=rs[j]'(by omega):=List.getElem_append_left (by omega)
   rw[e1,e2]
   exact hr j hlt (by omega)
  ·have hj2:j-vs.length<us.length:=by rw[List.length_append]at hj;omega
   have e1:(vs++us)[j]'hj=us[j-vs.length]'hj2:=List.getElem_append_right (by omega)
   have e2:(rs++ss)[j]'hj'=ss[j-rs.length]'(by omega):=List.getElem_append_right (by omega)
   rw[e1,e2]
   have e3:ss[j-rs.length]'(by omega)=ss[j-vs.length]'(by omega):=by congr 1;omega
   rw[e3]
   exact g3 _ hj2 (by omega)
 have h63:vs.length+us.length≤maxLen:=by unfold maxLen;omega
 rcases g2 with⟨ao,cap,rfl,h0⟩|⟨b,off,cap,rfl,h0,hc,hb,hj⟩
 ·subst h0
  rcases ao with _|ad
  ·exact app_run hgd s x _ _ ho v v _ w hs hx (app_none w B _ _ _ i0 1 Tryz.underlying23 hi v _ _ own cap) (hK v w (hend v w (by simpa using own)) ⟨rfl,rfl,rfl,Nat.le_refl _,fun _ _ _=>rfl⟩)
  ·refine wpList_append_own w hgd s x _ ho B 37 i0 (.slice none 0 0) 1 24 Tryz.underlying23 hi hz1 hz2 hz3 rfl (by decide) v vs.length vs hs own ad 0 cap [] hx rfl (fun j u h=>by simp at h) (fun u h=>by cases h) (by simpa using h63) (by omega) hB ?_
   intro v' w' k1 k2 _
   exact hK v' w' (hend v' w' k1) k2
 ·refine wpList_append_own w hgd s x _ ho B 37 i0 (.slice none 0 0) 1 24 Tryz.underlying23 hi hz1 hz2 hz3 rfl (by decide) v vs.length vs hs own ⟨b,off,none⟩ us.length cap us hx (by omega) (fun j u hu=>?_) hone h63 (by omega) hB ?_
  ·have hjl:j<us.length:=by
    rcases Nat.lt_or_ge j us.length with h|h
    ·exact h
    ·rw[List.getElem?_eq_none h]at hu;cases hu
   rw[List.getElem?_eq_getElem hjl]at hu
   injection hu with hu
   rw[Go.WideShapes.add_plain,hj j hjl,hu]
  ·intro v' w' k1 k2 _
   exact hK v' w' (hend v' w' k1) k2
end Go.Proofs.YtidplkfhodpdhaaGreatDoor.tab
