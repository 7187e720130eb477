/- Texts VRSame, TabEq, TabEq2, one behind the other. -/
import Derived.Test.YtidplkfhodpdhaaGreatDoorTabIA
set_option linter.unusedSimpArgs false
set_option linter.unusedVariables false
set_option maxRecDepth 100000
set_option maxHeartbeats 4000000
namespace Go.Proofs.YtidplkfhodpdhaaGreatDoor.val
open Go.ChangeShapes Go.WideShapes Go.ChangeAt Go.RowKit kit dec
def RmeX(N m:Nat):Prop:=∀(w:World) (k:Int) (b:Bool) (n:Int) (t x:ByteArray) (s:Value) (l:List V) (k2:Int) (bb:Bool) (n2:Int) (t2 x2:ByteArray) (s2:Value) (l2:List V),SizeOf.sizeOf l<m→LA w N s l→LA w N s2 l2 →
 Calls Tryz.prog 51 #[agg6 k b n t x s,agg6 k2 bb n2 t2 x2 s2] w fun e w'=>e=.returned (.bool (sameP (.mk k b n t x l) (.mk k2 bb n2 t2 x2 l2)))∧Below w.heap.size w w'
theorem eqRow_call(N m:Nat)(hN:N≤9223372036854775807)(hs:RmeX N m)(w:World)(s s2:Value)(l l2:List V)(hm:SizeOf.sizeOf l≤m)(ha:LA w N s l)(ha2:LA w N s2 l2):
 Calls Tryz.prog 76 #[s,s2] w fun e w'=>e=.returned (.bool (sameL l l2))∧Below w.heap.size w w':=by
 cases ha with
 |mk ao cap l hl h=>
 cases ha2 with
 | mk ao2 cap2 l2 hl2 h2 =>
  replace h:=Hd h
  replace h2:=Hd h2
  replace hs:=Hd hs
  by_cases hne:l.length=l2.length
  ·obtain⟨L,hL⟩:∃L,l.length=L:=⟨_,rfl⟩
   have hL2:l2.length=L:=by omega
   rw[hL,hL2]
   have hLi:(L:Int)≤9223372036854775807:=by omega
   go_enter Tryz.func76,Tryz.ntmps76
   go_wp2
   go_loopw [5] (fun v wr=>∃k:Nat,k≤L∧v=.int .i64 k∧Hid (Below w.heap.size w wr)∧Hid (Pre l l2 k)) (fun v _=>L-(intOf v).toNat)
   case atStart=>exact⟨0,by omega,rfl,Below.refl _ _,fun j _ _ h=>by omega⟩
   case round=>
    obtain⟨k,hk,rfl,hb,hpre⟩:=hrel
    obtain⟨w0,rfl⟩:∃w0:World,w0=wr:=⟨_,rfl⟩
    by_cases hlt:k<L
    ·have hki:(k:Int)<(L:Int):=by omega
     have hel:=(h.out k (by omega)).stay hb.out
     have hel2:=(h2.out k (by omega)).stay hb.out
     rw[Nat.mul_comm 6 k]at hel hel2
     have hmem:SizeOf.sizeOf (l[k]'(by omega))<SizeOf.sizeOf l:=List.sizeOf_lt_of_mem (List.getElem_mem _)
     obtain⟨v,hv⟩:∃v,l[k]'(by omega)=v:=⟨_,rfl⟩
     obtain⟨v2,hv2⟩:∃v,l2[k]'(by omega)=v:=⟨_,rfl⟩
     have hps:=Pre.step hpre.out (by omega) (by omega) hv hv2
     rw[hv]at hel hmem
     rw[hv2]at hel2
     clear hv hv2 hpre
     cases hel with
     |mk b off o k1 bo n t x l1 s hr hk1 hn ht hx hsl=>
     cases hel2 with
     | mk b2 off2 o2 k12 bo2 n2 t2 x2 l12 s2 hr2 hk12 hn2 ht2 hx2 hsl2 =>
      obtain⟨aoE,capE,rfl⟩:=LA.form hsl
      obtain⟨aoF,capF,rfl⟩:=LA.form hsl2
      have hm1:SizeOf.sizeOf l1<m:=by simp at hmem;omega
      have hdw:Below w0.heap.size w0 w0.drew:=below_drewN (Below.refl _ _) 1
      have hb0:=Hd (hb.out.trans (hdw.mono hb.out.size))
      have hcall:=hs.out w0.drew k1 bo n t x _ l1 k12 bo2 n2 t2 x2 _ l12 hm1 (hsl.stay hdw) (hsl2.stay hdw)
      unfold agg6 at hcall
      generalize sameP (.mk k1 bo n t x l1) (.mk k12 bo2 n2 t2 x2 l12)=c at hcall hps
      replace hcall:=Hd hcall
      replace hps:=Hd hps
      have hS0:Row6 w0.drew b (off+k * 6) k1 bo n t x (.slice aoE l1.length capE)∧Row6 w0.drew b2 (off2+k * 6) k12 bo2 n2 t2 x2 (.slice aoF l12.length capF):=⟨hr.below hdw,hr2.below hdw⟩
      clear hr hr2 hsl hsl2 hmem hdw
      go_upto_region 6 with fail
      refine wp_region_held_drew (S:=fun V=>Row6 V b (off+k * 6) k1 bo n t x (.slice aoE l1.length capE)∧Row6 V b2 (off2+k * 6) k12 bo2 n2 t2 x2 (.slice aoF l12.length capF)) (by kernel_rfl) hS0 (fun hS=>?_)
      have hV:=hS0
      clear hS0
      generalize w0.drew=V0 at *
      refine tkH 0 ?_ rfl (fun w' hS=>?_) hS ?_
      rotate_left
      ·
       skip
       go_simp
       try with_reducible rfl
      refine tkH 1 ?_ rfl (fun w' hS=>?_) hS ?_
      rotate_left
      ·
       skip
       go_simp
       try with_reducible rfl
      refine tkH 2 ?_ rfl (fun w' hS=>?_) hS ?_
      rotate_left
      ·
       skip
       go_simp
       try with_reducible rfl
      refine tkH 3 ?_ rfl (fun w' hS=>?_) hS ?_
      rotate_left
      ·
       obtain⟨x0,x1,x2,x3,x4,x5⟩:=hS.1.six
       go_simp
       try with_reducible rfl
      refine tkH 4 ?_ rfl (fun w' hS=>?_) hS ?_
      rotate_left
      ·
       skip
       go_simp
       try with_reducible rfl
      refine tkH 5 ?_ rfl (fun w' hS=>?_) hS ?_
      rotate_left
      ·
       skip
       go_simp
       try with_reducible rfl
      refine tkH 6 ?_ rfl (fun w' hS=>?_) hS ?_
      rotate_left
      ·
       skip
       go_simp
       try with_reducible rfl
      refine tkH 7 ?_ rfl (fun w' hS=>?_) hS ?_
      rotate_left
      ·
       obtain⟨x0,x1,x2,x3,x4,x5⟩:=hS.2.six
       go_simp
       try with_reducible rfl
      refine rdH 8 rfl (fun K hK=>?_)
      clear hS
      go_simp
      refine(hcall.out).mono ?_
      rintro e w5 ⟨rfl,hb5⟩
      go_wp2_with fail
      refine hKo hK (⟨hV.1.below hb5,hV.2.below hb5⟩) (fun hS=>?_)
      clear hK K
      have hb3:=Hd (hb0.out.trans (hb5.mono hb0.out.size))
      refine tkH 9 ?_ rfl (fun w' hS=>?_) hS ?_
      rotate_left
      ·
       skip
       go_simp
       try with_reducible rfl
      refine wpAnyH_done (by kernel_rfl) ?_ _
      clear hS hb5 hcall hV hb0 hb
      cases c
      ·go_wp2
       go_ret
       exact⟨ret_bool (hps.out.1 (by simp)).symm,hb3.out⟩
      ·go_wp2
       go_roundw
       case rel=>exact⟨k+1,by omega,by go_num,hb3,hps.out.2 (by simp)⟩
       case measure=>simp[intOf];omega
    ·have hki:¬(k:Int)<(L:Int):=by omega
     obtain rfl:k=L:=by omega
     go_wp2
     go_ret
     exact⟨ret_bool ((hL ▸ hpre.out:Pre l l2 l.length).end hne).symm,hb.out⟩
  ·have hnei:((l.length:Int) != (l2.length:Int))=true:=bne_iff_ne.2 (by omega)
   go_enter Tryz.func76,Tryz.ntmps76
   go_wp2
   go_ret
   exact⟨ret_bool (sameL_no (fun e=>hne (by rw[e]))).symm,Below.refl _ _⟩
theorem rsame_all(N:Nat)(hN:N≤9223372036854775807):∀m,RmeX N m:=by
 intro m
 induction m with
 |zero=>intro w k b n t x s l k2 bb n2 t2 x2 s2 l2 hm;omega
 | succ m ih =>
  intro w k b n t x s l k2 bb n2 t2 x2 s2 l2 hm ha ha2
  have h2:=B2.made w (c6 k b n t x s) (c6 k2 bb n2 t2 x2 s2)
  have hcall:=eqRow_call N m hN ih _ s s2 l l2 (by omega) (ha.stay h2.below) (ha2.stay h2.below)
  unfold c6 at h2 hcall
  unfold agg6
  have hbe:=Hd h2.below
  clear h2 ha ha2 ih
  replace hcall:=Hd hcall
  by_cases e1:k=k2
  case neg=>
   have q1:(k==k2)=false:=beq_eq_false_iff_ne.2 e1
   have hno:=Hd (sameP_no (fun h=>by injection h;exact e1 ‹_›):sameP (.mk k b n t x l) (.mk k2 bb n2 t2 x2 l2)=false)
   go_enter Tryz.func51,Tryz.ntmps51
   go_wp2;go_ret;exact⟨ret_bool hno.out.symm,hbe.out⟩
  subst e1
  by_cases e2:b=bb
  case neg=>
   have q2:(b==bb)=false:=beq_eq_false_iff_ne.2 e2
   have hno:=Hd (sameP_no (fun h=>by injection h;exact e2 ‹_›):sameP (.mk k b n t x l) (.mk k bb n2 t2 x2 l2)=false)
   go_enter Tryz.func51,Tryz.ntmps51
   go_wp2;go_ret;exact⟨ret_bool hno.out.symm,hbe.out⟩
  subst e2
  by_cases e3:n=n2
  case neg=>
   have q3:(n==n2)=false:=beq_eq_false_iff_ne.2 e3
   have hno:=Hd (sameP_no (fun h=>by injection h;exact e3 ‹_›):sameP (.mk k b n t x l) (.mk k b n2 t2 x2 l2)=false)
   go_enter Tryz.func51,Tryz.ntmps51
   go_wp2;go_ret;exact⟨ret_bool hno.out.symm,hbe.out⟩
  subst e3
  cases e4:(t.toList==t2.toList)
  case false=>
   have hno:=Hd (sameP_no (fun h=>by injection h with _ _ _ h4;rw[h4]at e4;simp at e4):sameP (.mk k b n t x l) (.mk k b n t2 x2 l2)=false)
   go_enter Tryz.func51,Tryz.ntmps51
   go_wp2;go_ret;exact⟨ret_bool hno.out.symm,hbe.out⟩
  cases e5:(x.toList==x2.toList)
  case false=>
   have hno:=Hd (sameP_no (fun h=>by injection h with _ _ _ _ h5;rw[h5]at e5;simp at e5):sameP (.mk k b n t x l) (.mk k b n t2 x2 l2)=false)
   go_enter Tryz.func51,Tryz.ntmps51
   go_wp2;go_ret;exact⟨ret_bool hno.out.symm,hbe.out⟩
  go_enter Tryz.func51,Tryz.ntmps51
  go_wp2_with (go_at_call 76;refine hcall.out.mono ?_;rintro e w2 ⟨rfl,hb2⟩)
  go_ret
  have ht:=toList_inj (beq_iff_eq.1 e4)
  have hx:=toList_inj (beq_iff_eq.1 e5)
  exact⟨ret_bool (by rw[ht,hx,sameP_list]),hbe.out.trans (hb2.mono hbe.out.size)⟩
theorem rsame_call(N:Nat)(hN:N≤9223372036854775807)(w:World)(k:Int)(b:Bool)(n:Int)(t x:ByteArray)(s:Value)(l:List V)(k2:Int)(bb:Bool)(n2:Int)(t2 x2:ByteArray)(s2:Value)(l2:List V)(ha:LA w N s l)(ha2:LA w N s2 l2):
 Calls Tryz.prog 51 #[agg6 k b n t x s,agg6 k2 bb n2 t2 x2 s2] w fun e w'=>e=.returned (.bool (sameP (.mk k b n t x l) (.mk k2 bb n2 t2 x2 l2)))∧Below w.heap.size w w':=
 rsame_all N hN (SizeOf.sizeOf l+1) w k b n t x s l k2 bb n2 t2 x2 s2 l2 (Nat.lt_succ_self _) ha ha2
end Go.Proofs.YtidplkfhodpdhaaGreatDoor.val
namespace Go.Proofs.YtidplkfhodpdhaaGreatDoor.tab
open Go.ChangeShapes Go.WideShapes Go.ChangeAt Go.RowKit kit dec val
open hyp (RowA TextsA CellsStay stay_of_below textsV textsV_length own_row)
theorem eqT_same(w:World)(u v:Value)(l:List ByteArray)(h1:TextsA w w.heap.size u l)(h2:TextsA w w.heap.size v l)(hl:l.length≤1048576):
 Calls Tryz.prog 59 #[u,v] w fun e w'=>e=.returned (.bool true)∧Below w.heap.size w w':=by
 obtain⟨a,c,rfl,hc⟩:=h1.form
 obtain⟨a2,c2,rfl,hc2⟩:=h2.form
 replace hc:=Hd hc
 replace hc2:=Hd hc2
 clear h1 h2
 go_enter Tryz.func59,Tryz.ntmps59
 go_wp2
 go_loopw [5] (fun i wr=>∃k:Nat,k≤l.length∧i=.int .i64 (k:Int)∧Hid (Below w.heap.size w wr)) (fun i _=>l.length-(intOf i).toNat)
 case atStart=>exact⟨0,by omega,rfl,Hd (Below.refl _ _)⟩
 case round=>
  obtain⟨k,hk,rfl,hb⟩:=hrel
  by_cases hlt:k<l.length
  ·have hki:(k:Int)<(l.length:Int):=by omega
   have hk1:=Hd (show k+1≤l.length from hlt)
   obtain⟨b,off,rfl,-,x0⟩:=hc.out k hlt
   obtain⟨b2,off2,rfl,-,x1⟩:=hc2.out k hlt
   have hbd:Hid (Below w.heap.size w wr.drew):=Hd (hb.out.trans ⟨rfl,rfl,rfl,Nat.le_refl _,fun _ _=>rfl⟩)
   generalize l[k]=t at *
   clear hb
   go_wp2_with fail
   refine wp_region_held_drew (S:=fun V=>Below w.heap.size w V) (by kernel_rfl) hbd.out (fun hS=>?_)
   generalize wr.drew=V0 at *
   refine tkS [0,1,2,3,4,5,6,7,8] ?_
   iterate 9
    refine tkC ?_ rfl (fun w' hS=>?_) hS ?_
    rotate_left
    ·
     have q0:=sB hS x0;have q1:=sB hS x1
     go_simp
     try with_reducible rfl
   refine wpAnyH_done (by kernel_rfl) ?_ _
   clear hS
   go_wp2
   go_roundw
   case rel=>exact⟨k+1,hk1.out,by go_num,hbd⟩
   case measure=>have:=hk1.out;simp[intOf];omega
  ·have hki:¬(k:Int)<(l.length:Int):=by omega
   go_wp2
   go_ret
   exact⟨rfl,hb.out⟩
theorem eqRow_same(N:Nat)(hN:N≤9223372036854775807)(w:World)(s s2:Value)(l:List V)(ha:LA w N s l)(ha2:LA w N s2 l):
 Calls Tryz.prog 76 #[s,s2] w fun e w'=>e=.returned (.bool true)∧Below w.heap.size w w':=by
 have h:=eqRow_call N (SizeOf.sizeOf l) hN (rsame_all N hN _) w s s2 l l (Nat.le_refl _) ha ha2
 rw[show sameL l l=true from(sameL_iff l l).2 rfl]at h
 exact h
theorem eqRows_same(N:Nat)(hN:N≤9223372036854775807)(w:World)(u v:Value)(rs:List (List V))(h1:RowsA w N u rs)(h2:RowsA w N v rs)(hl:rs.length≤1048576):
 Calls Tryz.prog 60 #[u,v] w fun e w'=>e=.returned (.bool true)∧Below w.heap.size w w':=by
 obtain⟨a,c,rfl,-,hc⟩:=h1.form
 obtain⟨a2,c2,rfl,-,hc2⟩:=h2.form
 replace hc:=Hd hc
 replace hc2:=Hd hc2
 clear h1 h2
 go_enter Tryz.func60,Tryz.ntmps60
 go_wp2
 go_loopw [5] (fun i wr=>∃k:Nat,k≤rs.length∧i=.int .i64 (k:Int)∧Hid (Below w.heap.size w wr)) (fun i _=>rs.length-(intOf i).toNat)
 case atStart=>exact⟨0,by omega,rfl,Hd (Below.refl _ _)⟩
 case round=>
  obtain⟨k,hk,rfl,hb⟩:=hrel
  by_cases hlt:k<rs.length
  ·have hki:(k:Int)<(rs.length:Int):=by omega
   have hk1:=Hd (show k+1≤rs.length from hlt)
   obtain⟨b,off,e1,f1,rfl,-,x0,la1⟩:=hc.out k hlt
   obtain⟨b2,off2,e2,f2,rfl,-,x1,la2⟩:=hc2.out k hlt
   have hbd:Below w.heap.size w wr.drew:=hb.out.trans ⟨rfl,rfl,rfl,Nat.le_refl _,fun _ _=>rfl⟩
   have hcal:=Hd (eqRow_same N hN wr.drew _ _ rs[k] (la1.stay hbd) (la2.stay hbd))
   generalize rs[k]=t at *
   clear hb la1 la2
   go_wp2_with fail
   refine wp_region_held_drew (S:=fun V=>Below w.heap.size w V) (by kernel_rfl) hbd (fun hS=>?_)
   generalize wr.drew=V0 at *
   refine tkS [0,1,2,3,4,5,6,7] ?_
   iterate 8
    refine tkC ?_ rfl (fun w' hS=>?_) hS ?_
    rotate_left
    ·
     have q0:=sB hS x0;have q1:=sB hS x1
     go_simp
     try with_reducible rfl
   refine rdH 8 rfl (fun K hK=>?_)
   clear hS
   go_simp
   refine(hcal.out).mono ?_
   rintro e w5 ⟨rfl,hb5⟩
   go_wp2_with fail
   refine hKo hK (hbd.trans (hb5.mono hbd.size)) (fun hS=>?_)
   clear hK K
   have hbe:=Hd (hbd.trans (hb5.mono hbd.size))
   refine tkH 9 ?_ rfl (fun w' hS=>?_) hS ?_
   rotate_left
   ·
    skip
    go_simp
    try with_reducible rfl
   refine wpAnyH_done (by kernel_rfl) ?_ _
   clear hS hbd hb5 hcal
   go_wp2
   go_roundw
   case rel=>exact⟨k+1,hk1.out,by go_num,hbe⟩
   case measure=>have:=hk1.out;simp[intOf];omega
  ·have hki:¬(k:Int)<(rs.length:Int):=by omega
   go_wp2
   go_ret
   exact⟨rfl,hb.out⟩
theorem eqTab_same(N:Nat)(hN:N≤9223372036854775807)(w:World)(u v:Value)(t:Tab)(h1:TabA w N u t)(h2:TabA w N v t)(hl:t.vars.length≤1048576)(hr:t.rows.length≤1048576):
 Calls Tryz.prog 19 #[u,v] w fun e w'=>e=.returned (.bool true)∧Below w.heap.size w w':=by
 obtain⟨v1,r1,rfl,hv1,hr1⟩:=h1.ex
 obtain⟨v2,r2,rfl,hv2,hr2⟩:=h2.ex
 have hal:Below w.heap.size w ((w.alloc (.cells #[v1,r1] 25)).alloc (.cells #[v2,r2] 25)):=((Below.refl _ _).alloc (Nat.le_refl _) _).alloc (by rw[World.size_alloc];omega) _
 have q0:=(Blk.new w #[v1,r1] 25).alloc (.cells #[v2,r2] 25)
 have q1:=Blk.new (w.alloc (.cells #[v1,r1] 25)) #[v2,r2] 25
 rw[World.size_alloc]at q1
 have cE:=Hd (eqT_same _ v1 v2 t.vars (TextsA.below hv1 hal) (TextsA.below hv2 hal) hl)
 have cR:=Hd (fun V (h:Below w.heap.size w V)=>eqRows_same N hN V r1 r2 t.rows (hr1.stay h) (hr2.stay h) hr)
 obtain⟨a1,c1,rfl,-⟩:=hv1.form
 obtain⟨a2,c2,rfl,-⟩:=hv2.form
 obtain⟨a3,c3,rfl,-,-⟩:=hr1.form
 obtain⟨a4,c4,rfl,-,-⟩:=hr2.form
 have x0:=q0.cell 0 rfl
 have x1:=q0.cell 1 rfl
 have y0:=q1.cell 0 rfl
 have y1:=q1.cell 1 rfl
 replace hal:=Hd hal
 clear h1 h2 hv1 hv2 hr1 hr2 q0 q1
 go_enter Tryz.func19,Tryz.ntmps19
 go_wp2_with fail
 refine cE.out.mono ?_
 rintro e w2 ⟨rfl,hb2⟩
 replace x1:=sB hb2 x1
 replace y1:=sB hb2 y1
 have hB:=hal.out.trans (hb2.mono hal.out.size)
 have cR2:=Hd (cR.out _ hB)
 replace hB:=Hd hB
 clear cE cR hb2 hal x0 y0
 go_wp2_with fail
 refine cR2.out.mono ?_
 rintro e w3 ⟨rfl,hb3⟩
 have hfin:=Hd (hB.out.trans (hb3.mono hB.out.size))
 clear hb3 hB cR2
 go_wp2
 go_ret
 exact⟨rfl,hfin.out⟩
end Go.Proofs.YtidplkfhodpdhaaGreatDoor.tab
