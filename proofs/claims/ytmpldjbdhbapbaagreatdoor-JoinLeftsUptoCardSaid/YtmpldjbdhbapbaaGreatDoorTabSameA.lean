/- Texts TabSame, TabSame2, one behind the other. -/
import Derived.Test.YtmpldjbdhbapbaaGreatDoorTabKA
set_option linter.unusedSimpArgs false
set_option linter.unusedVariables false
set_option maxRecDepth 100000
set_option maxHeartbeats 8000000
namespace Go.Proofs.YtmpldjbdhbapbaaGreatDoor.tab
open Go.ChangeShapes Go.WideShapes Go.ChangeAt Go.RowKit kit dec val
open hyp (RowA TextsA CellsStay stay_of_below textsV textsV_length own_row)
theorem equalS_any(w:World)(u v:Value)(l m:List ByteArray)(h1:TextsA w w.heap.size u l)(h2:TextsA w w.heap.size v m)(hl:l.length≤1048576)(hm:m.length≤1048576):
 Calls Tryz.prog 30 #[u,v] w fun e w'=>e=.returned (.bool (decide (l=m)))∧Below w.heap.size w w':=by
 obtain⟨a,c,rfl,hc⟩:=h1.form
 obtain⟨a2,c2,rfl,hc2⟩:=h2.form
 obtain⟨q,hq⟩:∃q,decide (l=m)=q:=⟨_,rfl⟩
 rw[hq]
 replace hc:=Hd hc
 replace hc2:=Hd hc2
 replace hq:=Hd hq
 clear h1 h2
 by_cases hne:l.length=m.length
 ·have hni : ((l.length : Int) != (m.length : Int)) = false := by rw [hne]; simp
  have hne2:=Hd hne
  obtain⟨n,hn⟩:∃n,l.length=n:=⟨_,rfl⟩
  rw[←hne]at hni ⊢
  rw[hn]at hni hl ⊢
  replace hn:=Hd hn
  clear hne
  go_enter Tryz.func30,Tryz.ntmps30
  go_wp2
  go_loopw [13] (fun i wr=>∃k:Nat,k≤n∧i=.int .i64 (k:Int)∧Hid (Below w.heap.size w wr)∧Hid (∀j (h:j<l.length) (h':j<m.length),j<k→l[j]=m[j])) (fun i _=>n-(intOf i).toNat)
  case atStart=>exact⟨0,by omega,rfl,Hd (Below.refl _ _),Hd fun j _ _ h=>by omega⟩
  case round =>
   obtain⟨k,hk,rfl,hb,hall⟩:=hrel
   by_cases hlt:k<n
   ·have hki:(k:Int)<(n:Int):=by omega
    have hk1:=Hd (show k+1≤n from hlt)
    have hkl:k<l.length:=by have:=hn.out;omega
    have hkm:k<m.length:=by have:=hn.out;have:=hne2.out;omega
    obtain⟨b,off,rfl,-,x0⟩:=hc.out k hkl
    obtain⟨b2,off2,rfl,-,x1⟩:=hc2.out k hkm
    have hbd:Hid (Below w.heap.size w wr.drew):=Hd (hb.out.trans ⟨rfl,rfl,rfl,Nat.le_refl _,fun _ _=>rfl⟩)
    have hxe:=text_eq l[k] m[k]
    have hno:Hid (l[k]≠m[k]→q=false):=Hd fun h=>by
     rw[←hq.out]
     exact decide_eq_false fun e=>h (by subst e;rfl)
    have hall2:Hid (l[k]=m[k]→∀j (h:j<l.length) (h':j<m.length),j<k+1→l[j]=m[j]):=Hd fun h j hj hj' hjk=>by
     by_cases he:j=k
     ·subst he;exact h
     ·exact hall.out j hj hj' (by omega)
    generalize l[k]=t at *
    generalize m[k]=u at *
    clear hb hall hkl hkm
    by_cases htu:t=u
    ·rw[decide_eq_true htu]at hxe
     have hall3:=Hd (hall2.out htu)
     replace htu:=Hd htu
     clear hno hall2
     go_wp2_with fail
     refine wp_region_held_drew (S:=fun V=>Below w.heap.size w V) (by kernel_rfl) hbd.out (fun hS=>?_)
     generalize wr.drew=V0 at *
     refine tkS [0,1,2,3,4,5,6,7,8] ?_
     iterate 9
      refine tkC ?_ rfl (fun w' hS=>?_) hS ?_
      rotate_left
      ·
       have q0:=sB hS x0;have q1:=sB hS x1
       go_simp
       try with_reducible rfl
     refine wpAnyH_done (by kernel_rfl) ?_ _
     clear hS
     go_wp2
     go_roundw
     case rel=>exact⟨k+1,hk1.out,by go_num,hbd,hall3⟩
     case measure=>have:=hk1.out;simp[intOf];omega
    ·rw[decide_eq_false htu]at hxe
     have hqf:=Hd (hno.out htu)
     replace htu:=Hd htu
     clear hno hall2
     go_wp2_with fail
     refine wp_region_held_drew (S:=fun V=>Below w.heap.size w V) (by kernel_rfl) hbd.out (fun hS=>?_)
     generalize wr.drew=V0 at *
     refine tkS [0,1,2,3,4,5,6,7,8] ?_
     iterate 9
      refine tkC ?_ rfl (fun w' hS=>?_) hS ?_
      rotate_left
      ·
       have q0:=sB hS x0;have q1:=sB hS x1
       go_simp
       try with_reducible rfl
     refine wpAnyH_done (by kernel_rfl) ?_ _
     clear hS
     go_wp2
     go_ret
     exact⟨ret_bool hqf.out.symm,hbd.out⟩
   ·have hki:¬(k:Int)<(n:Int):=by omega
    have hqt:Hid (q=true):=Hd (by
     rw[←hq.out]
     exact decide_eq_true (List.ext_getElem hne2.out fun j h h'=>hall.out j h h' (by have:=hn.out;omega)))
    clear hall
    go_wp2
    go_ret
    exact⟨ret_bool hqt.out.symm,hb.out⟩
 ·have hni:((l.length:Int) != (m.length:Int))=true:=by simp;omega
  have hqf:Hid (q=false):=Hd (by rw[←hq.out];exact decide_eq_false fun e=>hne (by rw[e]))
  replace hne:=Hd hne
  go_enter Tryz.func30,Tryz.ntmps30
  go_wp2
  go_ret
  exact⟨ret_bool hqf.out.symm,Below.refl _ _⟩
theorem smK:SMap Tryz.prog 72 9 3 .i64:=⟨Tryz.underlying72,Tryz.underlying9,Tryz.underlying3,fun w=>by kernel_rfl⟩
theorem cntK_snoc(x:List UInt8)(l:List (List UInt8))(k:List UInt8):cntK x (l++[k])=cntK x l+if k=x then 1 else 0:=by
 unfold cntK
 rw[List.countP_append]
 congr 1
 by_cases h:k=x
 ·rw[if_pos h,List.countP_cons_of_pos (by simpa using h)];rfl
 ·rw[if_neg h,List.countP_cons_of_neg (by simpa using h)];rfl
theorem cntK_le(x:List UInt8)(l:List (List UInt8)):cntK x l≤l.length:=List.countP_le_length
def KeyL(t:Tab):Prop:=∀r∈t.rows,(encL r).length≤10000000
theorem row_may{n:Nat}{r:List V}(h:rowB n r=true):∀v∈r,mayV v=true:=by
 unfold rowB at h
 rw[Bool.and_eq_true,List.all_eq_true]at h
 exact h.2
def keysT(t:Tab):List (List UInt8):=t.rows.map encL
def cntF(K:List (List UInt8))(f:List UInt8→Option Int):Prop:=∀x,(f x).getD 0=(cntK x K:Int)
def leftF(c:List UInt8→Nat)(f:List UInt8→Option Int):Prop:=∀x,(f x).getD 0=(c x:Int)
theorem sameT_any (N : Nat) (hN : N ≤ 9223372036854775807) (w : World) (hE : Env w) (va vb : Value) (A B : Tab) (hA : TabA w N va A) (hB : TabA w N vb B) (a1 : A.vars.length ≤ 1048576) (a2 : A.rows.length ≤ 1048576) (b1 : B.vars.length ≤ 1048576) (b2 : B.rows.length ≤ 1048576) (kA : KeyL A) (kB : KeyL B) :
 Calls Tryz.prog 9 #[va,vb] w fun e w'=>e=.returned (.bool (sameT A B))∧Below w.heap.size w w':=by
 obtain⟨vv,rv,rfl,hV,hR⟩:=hA.ex
 obtain⟨vv2,rv2,rfl,hV2,hR2⟩:=hB.ex
 obtain⟨av,cv,rfl,-⟩:=hV.form
 obtain⟨av2,cv2,rfl,-⟩:=hV2.form
 obtain⟨ar,cr,rfl,-,-⟩:=hR.form
 obtain⟨ar2,cr2,rfl,-,-⟩:=hR2.form
 have hal:Below w.heap.size w ((w.alloc (.cells #[.slice av A.vars.length cv,.slice ar A.rows.length cr] 25)).alloc (.cells #[.slice av2 B.vars.length cv2,.slice ar2 B.rows.length cr2] 25)):=
  ((Below.refl _ _).alloc (Nat.le_refl _) _).alloc (by rw[World.size_alloc];omega) _
 have hq0:=(Blk.new w #[.slice av A.vars.length cv,.slice ar A.rows.length cr] 25).alloc (.cells #[.slice av2 B.vars.length cv2,.slice ar2 B.rows.length cr2] 25)
 have hq1:=Blk.new (w.alloc (.cells #[.slice av A.vars.length cv,.slice ar A.rows.length cr] 25)) #[.slice av2 B.vars.length cv2,.slice ar2 B.rows.length cr2] 25
 rw[World.size_alloc]at hq1
 obtain⟨w1,hw1⟩:∃w1,(w.alloc (.cells #[.slice av A.vars.length cv,.slice ar A.rows.length cr] 25)).alloc (.cells #[.slice av2 B.vars.length cv2,.slice ar2 B.rows.length cr2] 25)=w1:=⟨_,rfl⟩
 rw[hw1]at hal hq0 hq1
 have hA1:=hA.stay hal
 have hB1:=hB.stay hal
 have hV1:=TextsA.below hV hal
 have hV21:=TextsA.below hV2 hal
 have hR1:=hR.stay hal
 have hR21:=hR2.stay hal
 have hE1:=hE.below hal
 obtain⟨q,hq⟩:∃q,sameT A B=q:=⟨_,rfl⟩
 rw[hq]
 have n1:Hid (mayT A=false→q=false):=Hd fun h=>by rw[←hq];unfold sameT;rw[h];rfl
 have n2:Hid (mayT B=false→q=false):=Hd fun h=>by rw[←hq];unfold sameT;rw[h];simp
 have n3:Hid (decide (A.vars=B.vars)=false→q=false):=Hd fun h=>by rw[←hq];unfold sameT;rw[h];simp
 have n4:Hid (A.rows.length≠B.rows.length→q=false):=Hd fun h=>by rw[←hq];unfold sameT;rw[decide_eq_false h];simp
 have n5:Hid (mayT A=true→mayT B=true→decide (A.vars=B.vars)=true→A.rows.length=B.rows.length→drain (fun k=>cntK k (keysT A)) (keysT B)=q):=Hd fun h1 h2 h3 h4=>by
  rw[←hq];unfold sameT;rw[h1,h2,h3,decide_eq_true h4];rfl
 have cA:=Hd (fun V (h:Below w1.heap.size w1 V)=>checkT_any N hN V (hE1.below h) _ A (hA1.stay h) a1 a2)
 have cB:=Hd (fun V (h:Below w1.heap.size w1 V)=>checkT_any N hN V (hE1.below h) _ B (hB1.stay h) b1 b2)
 have cV:=Hd (fun V (h:Below w1.heap.size w1 V)=>equalS_any V _ _ A.vars B.vars (TextsA.below hV1 h) (TextsA.below hV21 h) a1 b1)
 have x0:=hq0.cell 0 rfl
 have x1:=hq0.cell 1 rfl
 have y0:=hq1.cell 0 rfl
 have y1:=hq1.cell 1 rfl
 have hal2:=Hd hal
 replace hR1:=Hd hR1
 replace hR21:=Hd hR21
 replace hE1:=Hd hE1
 replace hw1:=Hd hw1
 replace kA:=Hd kA
 replace kB:=Hd kB
 clear hal hq0 hq1 hq hA hB hA1 hB1 hV hV2 hV1 hV21 hR hR2 hE
 go_enter Tryz.func9,Tryz.ntmps9
 go_wp2_with fail
 rw[hw1.out]
 refine(cA.out w1 (Below.refl _ _)).mono ?_
 rintro e w2 ⟨rfl,hb2⟩
 have hb2h:=Hd hb2
 have hB2:=Hd (hal2.out.trans (hb2.mono hal2.out.size))
 replace x0:=sB hb2 x0
 replace x1:=sB hb2 x1
 replace y0:=sB hb2 y0
 replace y1:=sB hb2 y1
 clear cA hb2
 cases hmA:mayT A with
 |false=>
  have hqf:=Hd (n1.out hmA)
  go_wp2
  go_ret
  exact⟨ret_bool hqf.out.symm,hB2.out⟩
 | true =>
  have cB2:=Hd (cB.out w2 hb2h.out)
  go_wp2_with fail
  refine cB2.out.mono ?_
  rintro e w3 ⟨rfl,hb3⟩
  have hb3h:=Hd (hb2h.out.trans (hb3.mono hb2h.out.size))
  have hB3:=Hd (hB2.out.trans (hb3.mono hB2.out.size))
  replace x0:=sB hb3 x0
  replace x1:=sB hb3 x1
  replace y0:=sB hb3 y0
  replace y1:=sB hb3 y1
  clear cB cB2 hb3 hB2 hb2h
  cases hmB:mayT B with
  |false=>
   have hqf:=Hd (n2.out hmB)
   go_wp2
   go_ret
   exact⟨ret_bool hqf.out.symm,hB3.out⟩
  | true =>
   have cV2:=Hd (cV.out w3 hb3h.out)
   go_wp2_with fail
   refine cV2.out.mono ?_
   rintro e w4 ⟨rfl,hb4⟩
   have hb4h:=Hd (hb3h.out.trans (hb4.mono hb3h.out.size))
   have hB4:=Hd (hB3.out.trans (hb4.mono hB3.out.size))
   replace x0:=sB hb4 x0
   replace x1:=sB hb4 x1
   replace y0:=sB hb4 y0
   replace y1:=sB hb4 y1
   clear cV cV2 hb4 hB3 hb3h
   cases hvv:decide (A.vars=B.vars) with
   |false=>
    have hqf:=Hd (n3.out hvv)
    go_wp2
    go_ret
    exact⟨ret_bool hqf.out.symm,hB4.out⟩
   | true =>
    by_cases hlen:A.rows.length=B.rows.length
    ·have hli : ((A.rows.length : Int) != (B.rows.length : Int)) = false := by rw [hlen]; simp
     have hdr:=Hd (n5.out hmA hmB hvv hlen)
     replace hlen:=Hd hlen
     replace hmA:=Hd hmA
     replace hmB:=Hd hmB
     replace hvv:=Hd hvv
     clear n1 n2 n3 n4 n5
     have hM0:Hid (MapS Tryz.prog 9 3 .i64 (w4.alloc (.map #[] 0)) w4.heap.size 0 (fun _=>none)):=Hd (MapS.made w4)
     have hb0:Hid (Below w4.heap.size w4 (w4.alloc (.map #[] 0))):=Hd ((Below.refl _ _).alloc (Nat.le_refl _) _)
     have u1:=Hd y1
     have x1m:=sB hb0.out x1
     have hmm:(Instr.makeMap 72 none).run Tryz.prog w4=.ok (.map (some w4.heap.size)) (w4.alloc (.map #[] 0)):=rfl
     clear x0 y0
     go_wp2
     clear x1 x1m y1 hmm
     go_loopw [40] (fun i wr=>∃(k:Nat) (f:List UInt8→Option Int),k≤A.rows.length∧i=.int .i64 (k:Int)∧Hid (Below w4.heap.size w4 wr)∧Hid (MapS Tryz.prog 9 3 .i64 wr w4.heap.size k f)∧Hid (cntF ((keysT A).take k) f)) (fun i _=>A.rows.length-(intOf i).toNat)
     case atStart=>exact⟨0,_,by omega,rfl,hb0,hM0,Hd fun x=>by simp[cntK]⟩
     case round =>
      clear hM0 hb0
      obtain⟨k,f,hk,rfl,hb,hM,hc⟩:=hrel
      by_cases hlt:k<A.rows.length
      ·have hki:(k:Int)<(A.rows.length:Int):=by omega
       have hb1r:=hb4h.out.trans (hb.out.mono hb4h.out.size)
       obtain⟨ar0,cr0,hv0,-,hrow⟩:=(hR1.out.stay hb1r).form
       obtain⟨rfl,rfl⟩:ar=ar0∧cr=cr0:=by injection hv0 with e1 e2 e3;exact⟨e1,e3⟩
       obtain⟨b,off,a,c,rfl,-,hcell,hla⟩:=hrow k hlt
       have hrm:=row_may ((may_rows hmA.out).2 _ (List.getElem_mem hlt))
       have hkl:=kA.out _ (List.getElem_mem hlt)
       have hke:=key_any N hN wr (hE1.out.below hb1r) _ _ hla hrm hkl
       have hkt:(keysT A).take (k+1)=(keysT A).take k++[encL A.rows[k]]:=by
        unfold keysT
        rw[List.take_succ_eq_append_getElem (by rw[List.length_map];exact hlt),List.getElem_map]
       have hcx:=hc.out (encL A.rows[k])
       have hcl:=cntK_le (encL A.rows[k]) ((keysT A).take k)
       rw[List.length_take]at hcl
       obtain⟨ky,hky⟩:∃ky:ByteArray,ky=⟨(encL A.rows[k]).toArray⟩:=⟨_,rfl⟩
       have hkd:ky.data.toList=encL A.rows[k]:=by rw[hky]
       have hks:ky.size≤maxLen:=by
        have:ky.size=(encL A.rows[k]).length:=by rw[hky];simp[ByteArray.size]
        unfold maxLen;omega
       rw[←hky]at hke
       rw[←hkd]at hcx hcl hkt
       obtain⟨n,hn⟩:∃n,cntK ky.data.toList ((keysT A).take k)=n:=⟨_,rfl⟩
       rw[hn]at hcx hcl
       have hn9:n≤1048576:=by omega
       have hw64:IntKind.i64.wrap ((n:Int)+1)=(n:Int)+1:=IntWalk.i64_in _ (by omega)
       have hwv:(Lit.int .i64 ((n:Int)+1)).wf=true:=by simp[Lit.wf,IntKind.min,IntKind.max,IntKind.signed,IntKind.bits];omega
       have hcnt:Hid (∀g:List UInt8→Option Int,g=updS f ky.data.toList ((n:Int)+1)→cntF ((keysT A).take (k+1)) g):=Hd fun g hg x=>by
        rw[hg,hkt,cntK_snoc]
        unfold updS
        by_cases hx:x=ky.data.toList
        ·subst hx
         rw[if_pos rfl,if_pos rfl,hn]
         simp
        ·rw[if_neg hx,if_neg (fun e=>hx e.symm),hc.out x]
         simp
       replace hke:=Hd hke
       replace hky:=Hd hky
       replace hkd:=Hd hkd
       replace hn:=Hd hn
       replace hkt:=Hd hkt
       generalize A.rows[k]=r at *
       have hk1:=Hd (show k+1≤A.rows.length from hlt)
       clear hla hrow hv0 hrm hkl hc hb1r
       go_wp2_with fail
       refine hke.out.mono ?_
       rintro e w5 ⟨rfl,hb5⟩
       have hM5:=Hd (hM.out.same (hb5.block _ hM.out.lt))
       have hb45:=Hd (hb.out.trans (hb5.mono hb.out.size))
       clear hM hb hke hb5 hcell
       go_wp2_with (first|(at_lookup;refine wpList_mapS smK _ rfl _ _ rfl w4.heap.size k f rfl hM5.out ky hks rfl _ rfl ?_)|(at_mapUpdate;refine wpList_mapS_put smK _ rfl _ _ _ rfl w4.heap.size k f rfl hM5.out (by unfold maxLen;omega) ky hks ((n:Int)+1) rfl rfl hwv ?pu))
       case pu=>
        intro w7 hm7 hg7
        have hb7:=Hd (hb45.out.grown hg7 hb45.out.size (fun x hx=>by cases hx;exact Nat.le_refl _))
        have hc7:=Hd (hcnt.out _ rfl)
        replace hm7:=Hd hm7
        clear hM5 hb45 hg7 hcnt hcx
        go_wp2
        go_roundw
        case rel=>exact⟨k+1,_,hk1.out,by go_num,hb7,hm7,hc7⟩
        case measure=>have:=hk1.out;simp[intOf];omega
      ·have hki:¬(k:Int)<(A.rows.length:Int):=by omega
       have hke:k=A.rows.length:=by omega
       have hL0:Hid (leftF (fun x=>cntK x (keysT A)) f):=Hd fun x=>by
        have:=hc.out x
        rw[List.take_of_length_le (by unfold keysT;rw[List.length_map];omega)]at this
        exact this
       have hM2:Hid (MapS Tryz.prog 9 3 .i64 wr w4.heap.size (A.rows.length+0) f):=Hd (by rw[Nat.add_zero,←hke];exact hM.out)
       have hd0:Hid (drain (fun x=>cntK x (keysT A)) ((keysT B).drop 0)=q):=Hd (by rw[List.drop_zero];exact hdr.out)
       have v1:=sB hb.out u1.out
       replace hke:=Hd hke
       clear hM hc hdr
       go_wp2
       clear v1
       go_loopw [53] (fun i wr=>∃(k:Nat) (f:List UInt8→Option Int) (c:List UInt8→Nat),k≤B.rows.length∧i=.int .i64 (k:Int)∧Hid (Below w4.heap.size w4 wr)∧Hid (MapS Tryz.prog 9 3 .i64 wr w4.heap.size (A.rows.length+k) f)∧Hid (leftF c f)∧Hid (drain c ((keysT B).drop k)=q)∧Hid (∀x,c x≤1048576)) (fun i _=>B.rows.length-(intOf i).toNat)
       case atStart=>exact⟨0,_,_,by omega,rfl,hb,hM2,hL0,hd0,Hd fun x=>Nat.le_trans (cntK_le x (keysT A)) (by unfold keysT;rw[List.length_map];exact a2)⟩
       case round=>
        clear hM2 hL0 hd0 hb hki
        obtain⟨j,g,c,hj,rfl,hb,hM,hL,hD,hC⟩:=hrel
        by_cases hlj:j<B.rows.length
        ·have hji:(j:Int)<(B.rows.length:Int):=by omega
         have hb1r:=hb4h.out.trans (hb.out.mono hb4h.out.size)
         obtain⟨ar0,cr0,hv0,-,hrow⟩:=(hR21.out.stay hb1r).form
         obtain⟨rfl,rfl⟩:ar2=ar0∧cr2=cr0:=by injection hv0 with e1 e2 e3;exact⟨e1,e3⟩
         obtain⟨b,off,a,cc,rfl,-,hcell,hla⟩:=hrow j hlj
         have hrm:=row_may ((may_rows hmB.out).2 _ (List.getElem_mem hlj))
         have hkl:=kB.out _ (List.getElem_mem hlj)
         have hke2:=key_any N hN wr (hE1.out.below hb1r) _ _ hla hrm hkl
         have hdp:(keysT B).drop j=encL B.rows[j]::(keysT B).drop (j+1):=by
          unfold keysT
          rw[List.drop_eq_getElem_cons (by rw[List.length_map];exact hlj),List.getElem_map]
         have hD2:=hD.out
         rw[hdp,drain]at hD2
         have hlx:=hL.out (encL B.rows[j])
         have hcn:=hC.out (encL B.rows[j])
         obtain⟨ky,hky⟩:∃ky:ByteArray,ky=⟨(encL B.rows[j]).toArray⟩:=⟨_,rfl⟩
         have hkd:ky.data.toList=encL B.rows[j]:=by rw[hky]
         have hks:ky.size≤maxLen:=by
          have:ky.size=(encL B.rows[j]).length:=by rw[hky];simp[ByteArray.size]
          unfold maxLen;omega
         rw[←hky]at hke2
         rw[←hkd]at hlx hD2 hcn
         obtain⟨n,hn⟩:∃n,c ky.data.toList=n:=⟨_,rfl⟩
         rw[hn]at hlx hD2 hcn
         have hw64:IntKind.i64.wrap ((n:Int)-1)=(n:Int)-1:=IntWalk.i64_in _ (by omega)
         have hwv:(Lit.int .i64 ((n:Int)-1)).wf=true:=by simp[Lit.wf,IntKind.min,IntKind.max,IntKind.signed,IntKind.bits];omega
         have hleft:Hid (n≠0→leftF (fun x=>if x=ky.data.toList then n-1 else c x) (updS g ky.data.toList ((n:Int)-1))):=Hd fun h0 x=>by
          unfold updS
          by_cases hx:x=ky.data.toList
          ·subst hx
           rw[if_pos rfl]
           show(n:Int)-1=((if ky.data.toList=ky.data.toList then n-1 else c ky.data.toList:Nat):Int)
           rw[if_pos rfl]
           omega
          ·rw[if_neg hx]
           show _=((if x=ky.data.toList then n-1 else c x:Nat):Int)
           rw[if_neg hx]
           exact hL.out x
         have hsmall:Hid (∀x,(fun x=>if x=ky.data.toList then n-1 else c x) x≤1048576):=Hd fun x=>by
          show(if x=ky.data.toList then n-1 else c x)≤1048576
          split
          ·omega
          ·exact hC.out x
         replace hke2:=Hd hke2
         replace hky:=Hd hky
         replace hkd:=Hd hkd
         replace hn:=Hd hn
         replace hdp:=Hd hdp
         replace hD2:=Hd hD2
         generalize B.rows[j]=r at *
         have hj1:=Hd (show j+1≤B.rows.length from hlj)
         clear hla hrow hv0 hrm hkl hb1r hD hL hC
         go_wp2_with fail
         refine hke2.out.mono ?_
         rintro e w5 ⟨rfl,hb5⟩
         have hM5:=Hd (hM.out.same (hb5.block _ hM.out.lt))
         have hb45:=Hd (hb.out.trans (hb5.mono hb.out.size))
         clear hM hb hke2 hb5 hcell
         by_cases h0:n=0
         ·have hn0:((n:Int)==0)=true:=by rw[h0];rfl
          have hqf:Hid (q=false):=Hd (by have:=hD2.out;rw[if_pos h0]at this;exact this.symm)
          have hfin:=Hd (hB4.out.trans (hb45.out.mono hB4.out.size))
          replace h0:=Hd h0
          clear hleft hsmall
          go_wp2_with (at_lookup;refine wpList_mapS smK _ rfl _ _ rfl w4.heap.size _ g rfl hM5.out ky hks rfl _ rfl ?_)
          go_wp2
          go_ret
          exact⟨ret_bool hqf.out.symm,hfin.out⟩
         ·have hn0:((n:Int)==0)=false:=beq_eq_false_iff_ne.2 (by omega)
          have hD3:Hid (drain (fun x=>if x=ky.data.toList then n-1 else c x) ((keysT B).drop (j+1))=q):=Hd (by have:=hD2.out;rw[if_neg h0]at this;exact this)
          have hL3:=Hd (hleft.out h0)
          replace h0:=Hd h0
          clear hleft hD2
          go_wp2_with (first|(at_lookup;refine wpList_mapS smK _ rfl _ _ rfl w4.heap.size _ g rfl hM5.out ky hks rfl _ rfl ?_)|(at_mapUpdate;refine wpList_mapS_put smK _ rfl _ _ _ rfl w4.heap.size _ g rfl hM5.out (by unfold maxLen;omega) ky hks ((n:Int)-1) rfl rfl hwv ?pv))
          case pv=>
           intro w7 hm7 hg7
           have hb7:=Hd (hb45.out.grown hg7 hb45.out.size (fun x hx=>by cases hx;exact Nat.le_refl _))
           replace hm7:=Hd hm7
           clear hM5 hb45 hg7 hlx
           go_wp2
           go_roundw
           case rel=>exact⟨j+1,_,_,hj1.out,by go_num,hb7,hm7,hL3,hD3,hsmall⟩
           case measure=>have:=hj1.out;simp[intOf];omega
        ·have hji:¬(j:Int)<(B.rows.length:Int):=by omega
         have hqt:Hid (q=true):=Hd (by
          have:=hD.out
          rw[List.drop_of_length_le (by unfold keysT;rw[List.length_map];omega)]at this
          exact this.symm)
         have hfin:=Hd (hB4.out.trans (hb.out.mono hB4.out.size))
         clear hM hL hD hC
         go_wp2
         go_ret
         exact⟨ret_bool hqt.out.symm,hfin.out⟩
    ·have hli:((A.rows.length:Int) != (B.rows.length:Int))=true:=by simp;omega
     have hqf:=Hd (n4.out hlen)
     go_wp2
     go_ret
     exact⟨ret_bool hqf.out.symm,hB4.out⟩
end Go.Proofs.YtmpldjbdhbapbaaGreatDoor.tab
