/- Texts XGMayA, XGMayB, XGMayC, one behind the other. -/
import Derived.Test.YtcaeipdgbaligaaGreatDoorGrMem
import Derived.Test.YtcaeipdgbaligaaGreatDoorRMay2
set_option linter.unusedSimpArgs false
set_option linter.unusedVariables false
set_option maxHeartbeats 4000000
namespace Go.Proofs.YtcaeipdgbaligaaGreatDoor.ex
open Go.ChangeShapes Go.WideShapes Go.ChangeAt Go.RowKit kit dec val tab
open hyp (RowA TextsA textsV textsV_length)
set_option maxRecDepth 100000
def BP(w:World)(e:Ending)(w':World):Prop:=∃b,e=.returned (.bool b)∧Below w.heap.size w w'
def WP(w:World)(e:Ending)(w':World):Prop:=∃b,e=.returned (.bool b)∧w'=w
def RP(w:World)(e:Ending)(w':World):Prop:=∃r,e=.returned (.int .i64 r)∧w'=w
def IP(w:World)(e:Ending)(w':World):Prop:=∃r,e=.returned (.int .i64 r)∧Below w.heap.size w w'
theorem word_any(w:World)(s:ByteArray):Calls Tryz.prog 27 #[.string s] w (WP w):=by
 go_enter Tryz.func27,Tryz.ntmps27
 go_wp2
 all_goals
  go_ret
  exact⟨_,rfl,rfl⟩
theorem index_weak(w:World)(ao:Option Addr)(cap n:Nat)(s:ByteArray)(hn:n≤1048576)(hc:∀j,j<n→∃b off t,ao=some ⟨b,off,none⟩∧w.cell? ⟨b,off+j,none⟩=some (.string t)):
 Calls Tryz.prog 49 #[.slice ao n cap,.string s] w (RP w):=by
 replace hc:=Hd hc
 have hni:(n:Int)≤1048576:=by omega
 go_enter Tryz.func49,Tryz.ntmps49
 go_wp2
 go_loopw [5] (fun i wr=>∃k:Nat,k≤n∧i=.int .i64 (k:Int)∧Hid (wr=w)) (fun i _=>n-(intOf i).toNat)
 case atStart=>exact⟨0,by omega,rfl,Hd rfl⟩
 case round=>
  obtain⟨k,hk,rfl,hw⟩:=hrel
  have hw2:=hw.out
  subst hw2
  by_cases hlt:k<n
  ·obtain⟨b,off,t,rfl,x0⟩:=hc.out k hlt
   have hki:(k:Int)<(n:Int):=by omega
   go_wp2
   all_goals first
    |
     go_ret
     exact⟨_,rfl,rfl⟩
    |
     go_roundw
     case rel=>exact⟨k+1,hlt,by go_num,by first|exact Hd rfl|exact Hd trivial⟩
     case measure=>simp[intOf];omega
  ·have hki:¬(k:Int)<(n:Int):=by omega
   go_wp2
   go_ret
   exact⟨_,rfl,rfl⟩
theorem node_weak(w:World)(an:Option Addr)(cn:Nat)(l:List NodeD)(ev:Value)(id:Int)(h:NodesA w 1048576 (.slice an l.length cn) l)(hev:∃ae me ce,ev=.slice ae me ce):
 Calls Tryz.prog 24 #[.agg #[.slice an l.length cn,ev],.int .i64 id] w (IP w):=by
 obtain⟨ae,me,ce,rfl⟩:=hev
 obtain⟨ao,cap,e,hl,he⟩:=h
 cases e
 have he2:∀j,j<l.length→∃b off d,an=some ⟨b,off,none⟩∧b<w.heap.size∧w.cell? ⟨b,off+j * 3,none⟩=some (.int .i64 d):=fun j hj=>by
  obtain⟨b,off,e1,e2,e3⟩:=(he j hj).1
  rw[Nat.mul_comm]at e3
  exact⟨b,off,_,e1,e2,e3⟩
 clear he
 generalize l.length=n at *
 obtain⟨W,hW⟩:∃W,w.alloc (.cells #[.slice an n cn,.slice ae me ce] 28)=W:=⟨_,rfl⟩
 have hal:Below w.heap.size w W:=by rw[←hW];exact(Below.refl _ _).alloc (Nat.le_refl _) _
 have hq:Blk W w.heap.size #[.slice an n cn,.slice ae me ce] 28:=by rw[←hW];exact Blk.new _ _ _
 have he3:∀j,j<n→∃b off d,an=some ⟨b,off,none⟩∧W.cell? ⟨b,off+j * 3,none⟩=some (.int .i64 d):=fun j hj=>by
  obtain⟨b,off,d,e1,e2,e3⟩:=he2 j hj
  exact⟨b,off,d,e1,(hal.cell (p:=⟨b,off+j * 3,none⟩) e2).trans e3⟩
 have hni:(n:Int)≤1048576:=by omega
 replace hal:=Hd hal
 replace hW:=Hd hW
 replace he3:=Hd he3
 replace hq:=Hd hq
 clear he2
 go_enter Tryz.func24,Tryz.ntmps24
 go_upto_region 1 with fail
 rw[hW.out]
 go_wp2
 go_loopw [5] (fun i wr=>∃k:Nat,k≤n∧i=.int .i64 (k:Int)∧Hid (wr=W)) (fun i _=>n-(intOf i).toNat)
 case atStart=>exact⟨0,by omega,rfl,Hd rfl⟩
 case round=>
  obtain⟨k,hk,rfl,hw⟩:=hrel
  have hw2:=hw.out
  subst hw2
  have q0:=hq.out.cell 0 rfl
  by_cases hlt:k<n
  ·obtain⟨b,off,t,rfl,x0⟩:=he3.out k hlt
   have hki:(k:Int)<(n:Int):=by omega
   go_wp2
   all_goals first
    |
     go_ret
     exact⟨_,rfl,hal.out⟩
    |
     go_roundw
     case rel=>exact⟨k+1,hlt,by go_num,by first|exact Hd rfl|exact Hd trivial⟩
     case measure=>simp[intOf];omega
  ·have hki:¬(k:Int)<(n:Int):=by omega
   go_wp2
   go_ret
   exact⟨_,rfl,hal.out⟩
theorem labels_weak(w:World)(v:Value)(l:List ByteArray)(h:TextsA w w.heap.size v l)(hn:l.length≤1048576):Calls Tryz.prog 25 #[v] w (BP w):=by
 obtain⟨ao,cap,rfl,hc⟩:=h.form
 have hcp:0<l.length→l.length≤cap:=fun h0=>by
  rcases h.row with⟨_,_,hv,hl⟩|⟨b,off,c2,hv,h1,h2,-,-⟩
  ·have:=congrArg List.length hl
   rw[textsV_length,List.length_nil]at this
   omega
  ·injection hv with e1 e2 e3
   rw[textsV_length]at h2
   omega
 have hc2:∀j,j<l.length→∃b off t,ao=some ⟨b,off,none⟩∧b<w.heap.size∧w.cell? ⟨b,off+j,none⟩=some (.string t):=fun j hj=>by
  obtain⟨b,off,e1,e2,e3⟩:=hc j hj
  exact⟨b,off,_,e1,e2,e3⟩
 clear hc h
 generalize l.length=n at *
 have hni:(n:Int)≤1048576:=by omega
 replace hcp:=Hd hcp
 replace hc2:=Hd hc2
 go_enter Tryz.func25,Tryz.ntmps25
 go_wp2
 go_loopw [3] (fun i wr=>∃k:Nat,k≤n∧i=.int .i64 (k:Int)∧Hid (Below w.heap.size w wr)) (fun i _=>n-(intOf i).toNat)
 case atStart=>exact⟨0,by omega,rfl,Hd (Below.refl _ _)⟩
 case round =>
  obtain⟨k,hk,rfl,hb⟩:=hrel
  by_cases hlt:k<n
  ·obtain⟨b,off,t,rfl,hbl,x0⟩:=hc2.out k hlt
   have hki:(k:Int)<(n:Int):=by omega
   have hkc:k≤cap:=by have:=hcp.out (by omega);omega
   have hd:Below w.heap.size w wr.drew:=hb.out.trans (Below_drewN 1 (Below.refl _ _))
   have hcw:∀V,Below w.heap.size w V→∀j,j<k→∃b2 off2 t,(some ⟨b,off,none⟩:Option Addr)=some ⟨b2,off2,none⟩∧V.cell? ⟨b2,off2+j,none⟩=some (.string t):=fun V hV j hj=>by
    obtain⟨b2,off2,t2,e1,e2,e3⟩:=hc2.out j (by omega)
    exact⟨b2,off2,t2,e1,(hV.cell (p:=⟨b2,off2+j,none⟩) e2).trans e3⟩
   replace hcw:=Hd hcw
   have hkn:=Hd (show k≤1048576 by omega)
   go_upto_region 4 with fail
   go_cut [26] from 4 to 26 (fun c wx=>∃q,c=.bool q∧Hid (Below w.heap.size w wx))
   case first=>
    refine wp_region_held_drew (S:=fun V=>Below w.heap.size w V) (by kernel_rfl) hd (fun hS=>?_)
    generalize wr.drew=V0 at *
    refine tkS [0,1,2,3] ?_
    iterate 4
     refine tkC ?_ rfl (fun w' hS=>?_) hS ?_
     rotate_left
     ·
      have y0:=(hS.cell (p:=⟨b,off+k,none⟩) hbl).trans x0
      go_simp
      try with_reducible rfl
    refine rdH 4 rfl (fun K hK=>?_)
    clear hS
    go_simp
    refine(word_any V0 t).mono ?_
    rintro e w2 ⟨q,rfl,rfl⟩
    go_wp2_with fail
    refine hKo hK (hd) (fun hS=>?_)
    clear hK K
    cases q
    ·refine tkS [5,6] ?_
     iterate 2
      refine tkC ?_ rfl (fun w' hS=>?_) hS ?_
      rotate_left
      ·
       skip
       go_simp
       try with_reducible rfl
     refine wpAnyH_take (i:=7) (v:=undef) rfl (by kernel_rfl) (by kernel_rfl) (by kernel_rfl) (fun _ _ _ h=>h) (.inr ⟨by kernel_rfl,rfl⟩) hS ?_
     simp only[List.getElem_toArray,List.getElem_cons_succ,List.getElem_cons_zero,Act.put,List.setIfInBounds_toArray,List.set_cons_zero,List.set_cons_succ]
     refine wpAnyH_take (i:=8) (v:=undef) rfl (by kernel_rfl) (by kernel_rfl) (by kernel_rfl) (fun _ _ _ h=>h) (.inr ⟨by kernel_rfl,rfl⟩) hS ?_
     simp only[List.getElem_toArray,List.getElem_cons_succ,List.getElem_cons_zero,Act.put,List.setIfInBounds_toArray,List.set_cons_zero,List.set_cons_succ]
     refine wpAnyH_take (i:=9) (v:=undef) rfl (by kernel_rfl) (by kernel_rfl) (by kernel_rfl) (fun _ _ _ h=>h) (.inr ⟨by kernel_rfl,rfl⟩) hS ?_
     simp only[List.getElem_toArray,List.getElem_cons_succ,List.getElem_cons_zero,Act.put,List.setIfInBounds_toArray,List.set_cons_zero,List.set_cons_succ]
     refine wpAnyH_take (i:=10) (v:=undef) rfl (by kernel_rfl) (by kernel_rfl) (by kernel_rfl) (fun _ _ _ h=>h) (.inr ⟨by kernel_rfl,rfl⟩) hS ?_
     simp only[List.getElem_toArray,List.getElem_cons_succ,List.getElem_cons_zero,Act.put,List.setIfInBounds_toArray,List.set_cons_zero,List.set_cons_succ]
     refine wpAnyH_take (i:=11) (v:=undef) rfl (by kernel_rfl) (by kernel_rfl) (by kernel_rfl) (fun _ _ _ h=>h) (.inr ⟨by kernel_rfl,rfl⟩) hS ?_
     simp only[List.getElem_toArray,List.getElem_cons_succ,List.getElem_cons_zero,Act.put,List.setIfInBounds_toArray,List.set_cons_zero,List.set_cons_succ]
     refine wpAnyH_take (i:=12) (v:=undef) rfl (by kernel_rfl) (by kernel_rfl) (by kernel_rfl) (fun _ _ _ h=>h) (.inr ⟨by kernel_rfl,rfl⟩) hS ?_
     simp only[List.getElem_toArray,List.getElem_cons_succ,List.getElem_cons_zero,Act.put,List.setIfInBounds_toArray,List.set_cons_zero,List.set_cons_succ]
     refine wpAnyH_take (i:=13) (v:=undef) rfl (by kernel_rfl) (by kernel_rfl) (by kernel_rfl) (fun _ _ _ h=>h) (.inr ⟨by kernel_rfl,rfl⟩) hS ?_
     simp only[List.getElem_toArray,List.getElem_cons_succ,List.getElem_cons_zero,Act.put,List.setIfInBounds_toArray,List.set_cons_zero,List.set_cons_succ]
     refine wpAnyH_take (i:=14) (v:=undef) rfl (by kernel_rfl) (by kernel_rfl) (by kernel_rfl) (fun _ _ _ h=>h) (.inr ⟨by kernel_rfl,rfl⟩) hS ?_
     simp only[List.getElem_toArray,List.getElem_cons_succ,List.getElem_cons_zero,Act.put,List.setIfInBounds_toArray,List.set_cons_zero,List.set_cons_succ]
     refine wpAnyH_take (i:=15) (v:=undef) rfl (by kernel_rfl) (by kernel_rfl) (by kernel_rfl) (fun _ _ _ h=>h) (.inr ⟨by kernel_rfl,rfl⟩) hS ?_
     simp only[List.getElem_toArray,List.getElem_cons_succ,List.getElem_cons_zero,Act.put,List.setIfInBounds_toArray,List.set_cons_zero,List.set_cons_succ]
     refine tkH 16 ?_ rfl (fun w' hS=>?_) hS ?_
     rotate_left
     ·
      skip
      go_simp
      try with_reducible rfl
     refine wpAnyH_done (by kernel_rfl) ?_ _
     clear hS
     go_wp2
     go_meet
     exact⟨_,rfl,Hd hd⟩
    ·refine tkS [5,6,7,8,9,10,11,12,13] ?_
     iterate 9
      refine tkC ?_ rfl (fun w' hS=>?_) hS ?_
      rotate_left
      ·
       have y0:=(hS.cell (p:=⟨b,off+k,none⟩) hbl).trans x0
       go_simp
       try with_reducible rfl
     refine rdH 14 rfl (fun K hK=>?_)
     clear hS
     go_simp
     refine(index_weak w2 (some ⟨b,off,none⟩) cap k t hkn.out (hcw.out w2 hd)).mono ?_
     rintro e w3 ⟨r,rfl,rfl⟩
     go_wp2_with fail
     refine hKo hK (hd) (fun hS=>?_)
     clear hK K
     refine tkS [15,16] ?_
     iterate 2
      refine tkC ?_ rfl (fun w' hS=>?_) hS ?_
      rotate_left
      ·
       skip
       go_simp
       try with_reducible rfl
     refine wpAnyH_done (by kernel_rfl) ?_ _
     clear hS
     go_wp2
     go_meet
     exact⟨_,rfl,Hd hd⟩
   case rest=>
    obtain⟨q,rfl,hb2⟩:=hcut
    clear hb hd
    cases q
    ·go_wp2
     go_roundw
     case rel=>exact⟨k+1,hlt,by go_num,hb2⟩
     case measure=>simp[intOf];omega
    ·go_wp2
     go_ret
     exact⟨_,rfl,hb2.out⟩
  ·have hki:¬(k:Int)<(n:Int):=by omega
   go_wp2
   go_ret
   exact⟨_,rfl,hb.out⟩
end Go.Proofs.YtcaeipdgbaligaaGreatDoor.ex
set_option linter.unusedSimpArgs false
set_option linter.unusedVariables false
set_option maxHeartbeats 4000000
namespace Go.Proofs.YtcaeipdgbaligaaGreatDoor.ex
open Go.ChangeShapes Go.WideShapes Go.ChangeAt Go.RowKit kit dec val tab
open hyp (RowA TextsA textsV textsV_length)
set_option maxRecDepth 100000
def PlP(m:Nat):Prop:=∀(k:Int) (b:Bool) (n:Int) (t x:ByteArray) (l:List V),SizeOf.sizeOf (V.mk k b n t x l)<m→∀(w:World) (ao:Option Addr) (cap:Nat),LA w 1048576 (.slice ao l.length cap) l→t.size≤1048576→x.size≤1048576→∀q:Bool,
 Calls Tryz.prog 50 #[.agg #[.int .i64 k,.bool b,.int .i64 n,.string t,.string x,.slice ao l.length cap],.bool q] w (BP w)
theorem plain_rec:∀m,PlP m:=by
 intro m
 induction m with
 |zero=>intro k b n t x l hm;omega
 | succ m ih =>
  intro k b n t x l hm w ao cap ha ht hx q
  obtain⟨W,hW⟩:∃W,w.alloc (.cells #[.int .i64 k,.bool b,.int .i64 n,.string t,.string x,.slice ao l.length cap] 38)=W:=⟨_,rfl⟩
  have hal:Below w.heap.size w W:=by rw[←hW];exact(Below.refl _ _).alloc (Nat.le_refl _) _
  have hq:Blk W w.heap.size #[.int .i64 k,.bool b,.int .i64 n,.string t,.string x,.slice ao l.length cap] 38:=by rw[←hW];exact Blk.new _ _ _
  have cM:=fun V (hV:Below w.heap.size w V)=>rMay_call 1048576 (by omega) V k b n t x _ l (ha.stay hV) ht hx
  unfold agg6 at cM
  generalize mayV (.mk k b n t x l)=mv at cM
  have hln:l.length≤1048576:=by
   generalize hv:Value.slice ao l.length cap=v at ha
   cases ha with
   |mk ao2 cap2 l hl h=>exact hl
  have hni:(l.length:Int)≤1048576:=by omega
  have hsm:∀j (hj:j<l.length),SizeOf.sizeOf l[j]<m:=fun j hj=>by
   have h1:=List.sizeOf_lt_of_mem (List.getElem_mem hj)
   simp at hm
   omega
  have q0:=hq.cell 0 rfl
  have q1:=hq.cell 1 rfl
  have q2:=hq.cell 2 rfl
  have q3:=hq.cell 3 rfl
  have q4:=hq.cell 4 rfl
  have q5:=hq.cell 5 rfl
  replace hsm:=Hd hsm
  replace hal:=Hd hal
  replace hq:=Hd hq
  replace ha:=Hd ha
  replace ih:=Hd ih
  replace hW:=Hd hW
  have cM1:=Hd (cM W hal.out)
  replace cM:=Hd cM
  clear hm
  by_cases h4:k=1∨k=2∨k=3∨k=4
  ·rcases h4 with rfl|rfl|rfl|rfl
   all_goals
    go_enter Tryz.func50,Tryz.ntmps50
    go_upto_region 1 with fail
    rw[hW.out]
    go_wp2_with fail
    refine cM1.out.mono ?_
    rintro e w2 ⟨rfl,hb2⟩
    have hB:=Hd (hal.out.trans (hb2.mono hal.out.size))
    go_wp2
    go_ret
    exact⟨_,rfl,hB.out⟩
  by_cases h5:k=5
  ·subst h5
   go_enter Tryz.func50,Tryz.ntmps50
   go_upto_region 1 with fail
   rw[hW.out]
   go_wp2
   clear q0 q1 q2 q3 q4 q5 cM1
   go_loopw [5] (fun i wr=>∃j:Nat,j≤l.length∧i=.int .i64 (j:Int)∧Hid (Below W.heap.size W wr)) (fun i _=>l.length-(intOf i).toNat)
   case atStart=>exact⟨0,by omega,rfl,Hd (Below.refl _ _)⟩
   case round=>
    obtain⟨j,hj,rfl,hb⟩:=hrel
    obtain⟨u,rfl⟩:∃u:World,u=wr:=⟨_,rfl⟩
    have hqu:=(hb.out.block _ hq.out.lt).trans hq.out
    have hqu:Blk u w.heap.size #[.int .i64 5,.bool b,.int .i64 n,.string t,.string x,.slice ao l.length cap] 38:=hqu
    have q0:=hqu.cell 0 rfl
    have q1:=hqu.cell 1 rfl
    have q2:=hqu.cell 2 rfl
    have q3:=hqu.cell 3 rfl
    have q4:=hqu.cell 4 rfl
    have q5:=hqu.cell 5 rfl
    have hBu:=hal.out.trans (hb.out.mono hal.out.size)
    by_cases hlt:j<l.length
    ·have hji:(j:Int)<(l.length:Int):=by omega
     obtain⟨b1,o1,k1,bo1,n1,t1,x1,l1,ao1,cap1,rfl,hel,hr,hok,hl1⟩:=la_at (ha.out.stay hBu) j hlt
     obtain⟨x0,y1,y2,y3,y4,y5⟩:=hr.six
     have hs1:=hsm.out j hlt
     rw[hel]at hs1
     have cR:=Hd (ih.out k1 bo1 n1 t1 x1 l1 hs1 u ao1 cap1 hl1 hok.2.2.1 hok.2.2.2 false)
     clear hel hr hok hl1 hs1 hqu
     go_wp2_with fail
     refine cR.out.mono ?_
     rintro e w2 ⟨r,rfl,hb2⟩
     have hb3:=Hd (hb.out.trans (hb2.mono hb.out.size))
     have hB:=Hd (hal.out.trans (hb3.out.mono hal.out.size))
     clear cR hb hb2 hBu x0 y1 y2 y3 y4 y5 q0 q1 q2 q3 q4 q5
     cases r
     ·go_wp2
      go_ret
      exact⟨_,rfl,hB.out⟩
     ·go_wp2
      go_roundw
      case rel=>exact⟨j+1,hlt,by go_num,hb3⟩
      case measure=>simp[intOf];omega
    ·have hji:¬(j:Int)<(l.length:Int):=by omega
     have cM2:=Hd (cM.out u hBu)
     replace hBu:=Hd hBu
     clear hqu
     cases q
     ·go_wp2
      go_ret
      exact⟨_,rfl,hBu.out⟩
     ·go_wp2_with fail
      refine cM2.out.mono ?_
      rintro e w2 ⟨rfl,hb2⟩
      have hB:=Hd (hBu.out.trans (hb2.mono hBu.out.size))
      go_wp2
      go_ret
      exact⟨_,rfl,hB.out⟩
  ·have e1:(k==1)=false:=beq_eq_false_iff_ne.2 (by omega)
   have e2:(k==2)=false:=beq_eq_false_iff_ne.2 (by omega)
   have e3:(k==3)=false:=beq_eq_false_iff_ne.2 (by omega)
   have e4:(k==4)=false:=beq_eq_false_iff_ne.2 (by omega)
   have e5:(k==5)=false:=beq_eq_false_iff_ne.2 (by omega)
   go_enter Tryz.func50,Tryz.ntmps50
   go_upto_region 1 with fail
   rw[hW.out]
   go_wp2
   go_ret
   exact⟨_,rfl,hal.out⟩
theorem plain_weak(w:World)(k:Int)(b:Bool)(n:Int)(t x:ByteArray)(l:List V)(ao:Option Addr)(cap:Nat)(ha:LA w 1048576 (.slice ao l.length cap) l)(ht:t.size≤1048576)(hx:x.size≤1048576)(q:Bool):Calls Tryz.prog 50 #[.agg #[.int .i64 k,.bool b,.int .i64 n,.string t,.string x,.slice ao l.length cap],.bool q] w (BP w):=
 plain_rec _ k b n t x l (Nat.lt_succ_self _) w ao cap ha ht hx q
end Go.Proofs.YtcaeipdgbaligaaGreatDoor.ex
set_option linter.unusedSimpArgs false
set_option linter.unusedVariables false
set_option maxHeartbeats 4000000
namespace Go.Proofs.YtcaeipdgbaligaaGreatDoor.ex
open Go.ChangeShapes Go.WideShapes Go.ChangeAt Go.RowKit kit dec val tab
open hyp (RowA TextsA textsV textsV_length)
set_option maxRecDepth 100000
def PairAt(w:World)(ao:Option Addr)(j:Nat):Prop:=∃b off key k bo nn t x,∃l1:List V,∃aoE capE,ao=some ⟨b,off,none⟩∧b<w.heap.size∧w.cell? ⟨b,off+j * 7,none⟩=some (.string key)∧Row6 w b (off+j * 7+1) k bo nn t x (.slice aoE l1.length capE)∧LA w 1048576 (.slice aoE l1.length capE) l1∧t.size≤1048576∧x.size≤1048576
theorem pair_at{w:World}{ao:Option Addr}{n cap:Nat}{l:List (ByteArray×V)}(h:PairsA w 1048576 (.slice ao n cap) l):n=l.length∧n≤1048576∧∀j,j<n→PairAt w ao j:=by
 obtain⟨a2,c2,e,hl,he⟩:=h
 cases e
 refine⟨rfl,hl,fun j hj=>?_⟩
 obtain⟨⟨b,off,e1,e2,e3⟩,-,hel⟩:=he j hj
 subst e1
 generalize l[j].2=v at hel
 rw[Nat.mul_comm 7 j]at hel e3
 generalize hoo:j * 7+1=o2 at hel
 cases hel with
 |mk b2 off2 o k1 bo n t x l1 s hr hk1 hn ht hx hsl=>
  obtain⟨aoE,capE,rfl⟩:=hsl.form6
  refine⟨b,off,_,k1,bo,n,t,x,l1,aoE,capE,rfl,e2,e3,?_,hsl,ht,hx⟩
  rw[Nat.add_assoc,hoo]
  exact hr
theorem PairAt.stay{w w':World}{ao:Option Addr}{j:Nat}(h:PairAt w ao j)(hb:Below w.heap.size w w'):PairAt w' ao j:=by
 obtain⟨b,off,key,k,bo,nn,t,x,l1,aoE,capE,e1,e2,e3,e4,e5,e6,e7⟩:=h
 exact⟨b,off,key,k,bo,nn,t,x,l1,aoE,capE,e1,Nat.lt_of_lt_of_le e2 hb.size,(hb.cell (p:=⟨b,off+j * 7,none⟩) e2).trans e3,e4.below hb,e5.stay hb,e6,e7⟩
theorem props_weak (w : World) (v : Value) (l : List (ByteArray × V)) (h : PairsA w 1048576 v l) : Calls Tryz.prog 26 #[v] w (BP w) := by
 obtain⟨ao,cap,rfl,-,-⟩:=id h
 obtain⟨-,hn,hp⟩:=pair_at h
 clear h
 generalize l.length=n at *
 have hni:(n:Int)≤1048576:=by omega
 replace hp:=Hd hp
 go_enter Tryz.func26,Tryz.ntmps26
 go_wp2
 ·go_ret
  exact⟨_,rfl,Below.refl _ _⟩
 go_loopw [3] (fun i wr=>∃k:Nat,k≤n∧i=.int .i64 (k:Int)∧Hid (Below w.heap.size w wr)) (fun i _=>n-(intOf i).toNat)
 case atStart=>exact⟨0,by omega,rfl,Hd (Below.refl _ _)⟩
 case round =>
  obtain⟨i,hi,rfl,hb⟩:=hrel
  obtain⟨u,rfl⟩:∃u:World,u=wr:=⟨_,rfl⟩
  by_cases hlt:i<n
  ·have hii : (i : Int) < (n : Int) := by omega
   obtain⟨b,off,key,k1,bo,nn,t,x,l1,aoE,capE,rfl,hbl,x0,hr,hl1,ht,hx⟩:=(hp.out i hlt).stay hb.out
   have cW:=Hd (fun V=>word_any V key)
   have cP:=Hd (plain_weak u k1 bo nn t x l1 aoE capE hl1 ht hx true)
   obtain⟨y0,y1,y2,y3,y4,y5⟩:=hr.six
   clear hr hl1 hbl
   go_upto_region 6 with fail
   go_cut [29] from 8 to 45 (fun c wx=>∃q,c=.bool q∧Hid (Below w.heap.size w wx))
   case first=>
    go_wp2_with fail
    refine(cW.out _).mono ?_
    rintro e w2 ⟨q,rfl,rfl⟩
    cases q
    ·go_wp2_with fail
     go_meet
     exact⟨_,rfl,hb⟩
    ·go_wp2_with fail
     refine cP.out.mono ?_
     rintro e w3 ⟨r,rfl,hb3⟩
     have hB3:=Hd (hb.out.trans (hb3.mono hb.out.size))
     go_wp2_with fail
     go_meet
     exact⟨_,rfl,hB3⟩
   case rest =>
    obtain⟨q,rfl,hb2⟩:=hcut
    clear cP cW x0 y0 y1 y2 y3 y4 y5 hb
    cases q
    ·go_wp2
     go_loopw [4] (fun k2 wr2=>∃j:Nat,j≤i∧k2=.int .i64 (j:Int)∧Hid (Below w.heap.size w wr2)) (fun k2 _=>i-(intOf k2).toNat)
     case atStart=>exact⟨0,by omega,rfl,hb2⟩
     case round=>
      obtain⟨j,hj,rfl,hb3⟩:=hrel
      obtain⟨u2,rfl⟩:∃u:World,u=wr:=⟨_,rfl⟩
      by_cases hj2:j<i
      ·have hji:(j:Int)<(i:Int):=by omega
       have hjn:(j:Int)<(n:Int):=by omega
       obtain⟨b2,off2,key2,_,_,_,_,_,_,_,_,e2,hbl2,z0,-⟩:=(hp.out j (by omega)).stay hb3.out
       cases e2
       obtain⟨b2,off2,key3,_,_,_,_,_,_,_,_,e2,hbl3,z1,-⟩:=(hp.out i hlt).stay hb3.out
       cases e2
       have hd:=Hd (hb3.out.trans (Below_drewN 1 (Below.refl w.heap.size u2)))
       go_upto_region 11 with fail
       refine wp_region_held_drew (S:=fun V=>V.cell? ⟨b,off+j * 7,none⟩=some (.string key2)∧V.cell? ⟨b,off+i * 7,none⟩=some (.string key3)) (by kernel_rfl) ⟨z0,z1⟩ (fun hS=>?_)
       have hd2:Hid (Below w.heap.size w u2.drew):=hd
       generalize u2.drew=V0 at *
       clear z0 z1 hbl2 hbl3 hb3 hd
       refine tkS [0,1,2,3,4,5,6,7,8,9,10] ?_
       iterate 11
        refine tkC ?_ rfl (fun w' hS=>?_) hS ?_
        rotate_left
        ·
         have y0:=hS.1;have y1:=hS.2
         go_simp
         try with_reducible rfl
       refine wpAnyH_done (by kernel_rfl) ?_ _
       clear hS
       go_wp2
       all_goals first
        |
         go_ret
         exact⟨_,rfl,hd2.out⟩
        |
         go_roundw
         case rel=>exact⟨j+1,hj2,by go_num,hd2⟩
         case measure=>simp[intOf];omega
      ·have hji:¬(j:Int)<(i:Int):=by omega
       go_wp2
       go_roundw
       case rel=>exact⟨i+1,hlt,by go_num,hb3⟩
       case measure=>simp[intOf];omega
    ·go_wp2
     go_ret
     exact⟨_,rfl,hb2.out⟩
  ·have hii:¬(i:Int)<(n:Int):=by omega
   go_wp2
   go_ret
   exact⟨_,rfl,hb.out⟩
end Go.Proofs.YtcaeipdgbaligaaGreatDoor.ex
