/- The stable sort of the library over rows: two runs merged in place. -/
import Derived.Test.YtidplkfhodpdhaaGreatDoorStabB
set_option linter.unusedSimpArgs false
set_option linter.unusedVariables false
set_option maxRecDepth 100000
set_option maxHeartbeats 8000000
namespace Go.Proofs.YtidplkfhodpdhaaGreatDoor.stab
open Go.ChangeShapes Go.WideShapes Go.ChangeAt Go.RowKit kit dec val tab
def SymX(w0 w1:World)(N g n cap:Nat)(lang:Int)(p q:Value)(k:Nat):Prop:=
 ∀(a m b:Nat),a<m→m<b→b≤n→b-a≤k→∀(w:World) (f:Nat→Px),SW w1 w g n f→okF w0 N n f→Srt (oP (decide (lang=1))) (seg f a m)→Srt (oP (decide (lang=1))) (seg f m b) →
  Calls Tryz.prog 155 #[.slice (some ⟨g,0,none⟩) n cap,.int .i64 a,.int .i64 m,.int .i64 b,.func (.func 82) #[] #[p,q]] w (SortOut w1 g n (decide (lang=1)) f a b)
theorem symC_any(w0 w1:World)(N g n cap:Nat)(lang:Int)(p q:Value)(hC:CmpC w0 w1 N g lang p q)(hn:n≤1048576)(hcap:n≤cap)(K:Nat)(ih:SymX w0 w1 N g n cap lang p q K)(a m b:Nat)(ham:a+1<m)(hmb:m+1<b)(hbn:b≤n)(hK:b-a≤K+1)(w:World)(f:Nat→Px)(hS:SW w1 w g n f)(hok:okF w0 N n f)(hA:Srt (oP (decide (lang=1))) (seg f a m))(hB:Srt (oP (decide (lang=1))) (seg f m b)):
 Calls Tryz.prog 155 #[.slice (some ⟨g,0,none⟩) n cap,.int .i64 a,.int .i64 m,.int .i64 b,.func (.func 82) #[] #[p,q]] w (SortOut w1 g n (decide (lang=1)) f a b):=by
 have hni:(n:Int)≤1048576:=by omega
 have hma:IntKind.i64.wrap ((m:Int)-(a:Int))=((m-a:Nat):Int):=by rw[IntWalk.i64_in _ (by omega)];omega
 have hme:(((m-a:Nat):Int)==1)=false:=beq_eq_false_iff_ne.2 (by omega)
 have hbm:IntKind.i64.wrap ((b:Int)-(m:Int))=((b-m:Nat):Int):=by rw[IntWalk.i64_in _ (by omega)];omega
 have hbe:(((b-m:Nat):Int)==1)=false:=beq_eq_false_iff_ne.2 (by omega)
 obtain⟨d1,hd1⟩:∃k,m-a=k:=⟨_,rfl⟩
 rw[hd1]at hma hme
 obtain⟨d2,hd2⟩:∃k,b-m=k:=⟨_,rfl⟩
 rw[hd2]at hbm hbe
 obtain⟨mid,hmid⟩:∃k,(a+b) / 2=k:=⟨_,rfl⟩
 have hmidi:((a:Int)+(b:Int)) / 2=(mid:Int):=by omega
 have hmidw:IntKind.i64.wrap ((mid:Int)+(m:Int))=((mid+m:Nat):Int):=by rw[IntWalk.i64_in _ (by omega)];omega
 obtain⟨nn,hnn⟩:∃k,mid+m=k:=⟨_,rfl⟩
 rw[hnn]at hmidw
 have hn1:IntKind.i64.wrap ((nn:Int)-1)=((nn-1:Nat):Int):=by rw[IntWalk.i64_in _ (by omega)];omega
 obtain⟨pp,hpp⟩:∃k,nn-1=k:=⟨_,rfl⟩
 rw[hpp]at hn1
 replace hS:=Hd hS
 replace hok:=Hd hok
 replace hC:=Hd hC
 replace hA:=Hd hA
 replace hB:=Hd hB
 replace ih:=Hd ih
 go_enter Tryz.func155,Tryz.ntmps155
 go_upto_if 140 with(fail)
 go_cut [20,21] (fun v u wx=>wx=w∧∃s0 r0:Nat,v=.int .i64 (s0:Int)∧u=.int .i64 (r0:Int)∧Hid (s0≤r0∧a≤s0∧r0≤m∧r0≤mid∧m+r0≤nn∧nn≤b+s0∧(s0=a∨nn=b+s0)∧(r0=m∨nn=m+r0)))
 case first=>as_aux_lemma=>
  by_cases hmm:mid<m
  ·have hmmi:(mid:Int)<(m:Int):=by omega
   obtain⟨lo,hlo⟩:∃k,nn-b=k:=⟨_,rfl⟩
   have hnb:IntKind.i64.wrap ((nn:Int)-(b:Int))=(lo:Int):=by rw[IntWalk.i64_in _ (by omega)];omega
   have hfin:Hid (lo≤mid∧a≤lo∧mid≤m∧mid≤mid∧m+mid≤nn∧nn≤b+lo∧(lo=a∨nn=b+lo)∧(mid=m∨nn=m+mid)):=Hd ⟨by omega,by omega,by omega,by omega,by omega,by omega,by omega,by omega⟩
   replace hlo:=Hd hlo
   replace hmid:=Hd hmid
   replace hnn:=Hd hnn
   replace hpp:=Hd hpp
   go_wp2
   go_meet
   exact⟨rfl,lo,mid,rfl,rfl,hfin⟩
  ·have hmmi:¬(mid:Int)<(m:Int):=by omega
   have hfin:Hid (a≤m∧m≤mid∧m+m≤nn∧nn≤b+a):=Hd ⟨by omega,by omega,by omega,by omega⟩
   replace hmid:=Hd hmid
   replace hnn:=Hd hnn
   replace hpp:=Hd hpp
   go_wp2
   go_meet
   exact⟨rfl,a,m,rfl,rfl,Hd ⟨hfin.out.1,Nat.le_refl _,Nat.le_refl _,hfin.out.2.1,hfin.out.2.2.1,hfin.out.2.2.2,.inl rfl,.inl rfl⟩⟩
 obtain⟨hwc,s0,r0,rfl,rfl,hb0⟩:=hcut
 replace hwc:=hwc.symm
 subst hwc
 have hb1:=hb0.out
 obtain⟨j1,j2,j3,j4,j5,j6,j7,j8⟩:=hb1
 replace j7:=Hd j7
 replace j8:=Hd j8
 go_wp2
 go_loopw [20,21] (fun v u wr=>∃s r:Nat,s0≤s∧s≤r∧r≤r0∧v=.int .i64 (s:Int)∧u=.int .i64 (r:Int)∧Hid (SW w1 wr g n f)∧Hid (s=s0∨0≤oP (decide (lang=1)) (f (pp-(s-1))) (f (s-1)))∧Hid (r=r0∨oP (decide (lang=1)) (f (pp-r)) (f r)<0)) (fun v u _=>(intOf u).toNat-(intOf v).toNat)
 case atStart=>exact⟨s0,r0,by omega,by omega,by omega,rfl,rfl,hS,Hd (.inl rfl),Hd (.inl rfl)⟩
 case round =>
  clear hS
  obtain⟨s,r,b1,b2,b3,rfl,rfl,hSi,hl,hh⟩:=hrel
  obtain⟨w3,rfl⟩:∃z:World,z=wr:=⟨_,rfl⟩
  by_cases hlt:s<r
  ·as_aux_lemma=>
    have hki:(s:Int)<(r:Int):=by omega
    obtain⟨h,hhd⟩:∃h,(s+r) / 2=h:=⟨_,rfl⟩
    have hhi:((s:Int)+(r:Int)) / 2=(h:Int):=by omega
    have h1:s≤h:=by omega
    have h2:h<r:=by omega
    obtain⟨pc,hpc⟩:∃k,pp-h=k:=⟨_,rfl⟩
    have hpw:IntKind.i64.wrap ((pp:Int)-(h:Int))=(pc:Int):=by rw[IntWalk.i64_in _ (by omega)];omega
    have hpn:pc<n:=by omega
    have hpni:(pc:Int)<(n:Int):=by omega
    have hhn:(h:Int)<(n:Int):=by omega
    have hhw:IntKind.i64.wrap ((h:Int)+1)=((h+1:Nat):Int):=by rw[IntWalk.i64_in _ (by omega)];omega
    replace hhd:=Hd hhd
    replace hpc:=Hd hpc
    have hdr:Below w3.heap.size w3 w3.drew:=below_drewN (Below.refl _ _) 1
    have hSd:=Hd (hSi.out.stay hdr)
    clear hSi hdr
    obtain⟨u1,l1,hu1⟩:∃u l,f (pc)=(u,l):=⟨_,_,rfl⟩
    obtain⟨u2,l2,hu2⟩:∃u l,f (h)=(u,l):=⟨_,_,rfl⟩
    have y1:w3.drew.cell? ⟨g,pc,none⟩=some u1:=by have h:=hSd.out.cell (show pc<n by omega);rwa [hu1]at h
    have y2:w3.drew.cell? ⟨g,h,none⟩=some u2:=by have h:=hSd.out.cell (show h<n by omega);rwa [hu2]at h
    have la1:LA w0 N u1 l1:=by have h:=hok.out (pc) (by omega);rwa [hu1]at h
    have la2:LA w0 N u2 l2:=by have h:=hok.out (h) (by omega);rwa [hu2]at h
    obtain⟨c,hc⟩:∃c,ordL (decide (lang=1)) l1 l2=c:=⟨_,rfl⟩
    have hcal:=Hd (hC.out w3.drew hSd.out.out u1 u2 l1 l2 la1 la2)
    rw[hc]at hcal
    have hoc:Hid (oP (decide (lang=1)) (f (pc)) (f (h))=c):=Hd (by unfold oP;rw[hu1,hu2];exact hc)
    obtain⟨e1,d1,rfl⟩:=LA.form6 la1
    obtain⟨e2,d2,rfl⟩:=LA.form6 la2
    clear la1 la2 hc hu1 hu2
    go_upto_region 35 with fail
    refine wp_region_held_drew (S:=fun V=>Below w3.drew.heap.size w3.drew V) (by kernel_rfl) (Below.refl _ _) (fun hS=>?_)
    have hV0:=hS
    generalize w3.drew=V0 at *
    refine tkS [0,1,2,3,4,5,6,7,8,9,10] ?_
    iterate 11
     refine tkC ?_ rfl (fun w' hS=>?_) hS ?_
     rotate_left
     ·
      have z1:=sB hS y1;have z2:=sB hS y2
      go_simp
      try with_reducible rfl
    refine rdH 11 rfl (fun K hK=>?_)
    clear hS
    go_simp
    refine(hcal.out).mono ?_
    rintro e w4 ⟨rfl,hb4⟩
    go_wp2_with fail
    refine hKo hK (hb4) (fun hS=>?_)
    clear hK K
    obtain⟨t,ht⟩:∃t,decide (c<0)=t:=⟨_,rfl⟩
    refine tkS [12,13] ?_
    iterate 2
     refine tkC ?_ rfl (fun w' hS=>?_) hS ?_
     rotate_left
     ·
      skip
      go_simp
      try with_reducible rfl
    refine wpAnyH_done (by kernel_rfl) ?_ _
    clear hS hcal hV0 y1 y2
    have hS4:=Hd (hSd.out.stay hb4)
    clear hSd hb4
    cases t
    ·have hneg:=of_decide_eq_false ht
     have hl2:Hid (h+1=s0∨0≤oP (decide (lang=1)) (f (pp-(h+1-1))) (f (h+1-1))):=Hd (.inr (by rw[Nat.add_sub_cancel,hpc.out,hoc.out];omega))
     clear hoc ht hneg
     go_wp2
     go_roundw
     case rel=>exact⟨h+1,r,by omega,by omega,b3,rfl,rfl,hS4,hl2,hh⟩
     case measure=>simp[intOf];omega
    ·have hneg:=of_decide_eq_true ht
     have hh2:Hid (h=r0∨oP (decide (lang=1)) (f (pp-h)) (f h)<0):=Hd (.inr (by rw[hpc.out,hoc.out];exact hneg))
     clear hoc ht hneg
     go_wp2
     go_roundw
     case rel=>exact⟨s,h,b1,h1,by omega,rfl,rfl,hS4,hl,hh2⟩
     case measure=>simp[intOf];omega
  ·have hki:¬(s:Int)<(r:Int):=by omega
   obtain rfl:s=r:=by omega
   obtain⟨e,he⟩:∃k,nn-s=k:=⟨_,rfl⟩
   have hew:IntKind.i64.wrap ((nn:Int)-(s:Int))=(e:Int):=by rw[IntWalk.i64_in _ (by omega)];omega
   have q1:a≤s:=by omega
   have q2:s≤m:=by omega
   have q3:m≤e:=by omega
   have q4:e≤b:=by omega
   have hmide:mid=s+(e-m):=by omega
   have v1:a≤mid:=by omega
   have v2:mid≤b:=by omega
   have v3:s≤mid:=by omega
   have v4:mid≤e:=by omega
   have v5:mid-a≤K:=by omega
   have v6:b-mid≤K:=by omega
   have c1:Hid (a<s→e<b→oP (decide (lang=1)) (f (s-1)) (f e)≤0):=Hd (fun k1 k2=>by
    rcases hl.out with h|h
    ·have:=j7.out;omega
    ·rw[show pp-(s-1)=e by omega]at h
     have:=(lawP (decide (lang=1))).neg (f (s-1)) (f e)
     omega)
   have c2:Hid (s<m→m<e→oP (decide (lang=1)) (f (e-1)) (f s)<0):=Hd (fun k1 k2=>by
    rcases hh.out with h|h
    ·have:=j8.out;omega
    ·rwa [show pp-s=e-1 by omega]at h)
   clear hl hh
   replace hmide:=Hd hmide
   replace he:=Hd he
   replace hmid:=Hd hmid
   replace hnn:=Hd hnn
   replace hpp:=Hd hpp
   go_upto_region 39 with fail
   obtain⟨C,hC1⟩:∃t,decide (s<m∧m<e)=t:=⟨_,rfl⟩
   replace hC1:=Hd hC1
   go_cut [185] (fun v wx=>v=.bool C∧wx=w3)
   case first=>as_aux_lemma=>
    by_cases k1:s<m
    ·have k1i:(s:Int)<(m:Int):=by omega
     by_cases k2:m<e
     ·have k2i:(m:Int)<(e:Int):=by omega
      have hv:Hid (C=true):=Hd (hC1.out.symm.trans (decide_eq_true ⟨k1,k2⟩))
      go_wp2
      go_meet
      exact⟨by rw[hv.out],rfl⟩
     ·have k2i:¬(m:Int)<(e:Int):=by omega
      have hv:Hid (C=false):=Hd (hC1.out.symm.trans (decide_eq_false fun h=>k2 h.2))
      go_wp2
      go_meet
      exact⟨by rw[hv.out],rfl⟩
    ·have k1i:¬(s:Int)<(m:Int):=by omega
     have hv:Hid (C=false):=Hd (hC1.out.symm.trans (decide_eq_false fun h=>k1 h.1))
     go_wp2
     go_meet
     exact⟨by rw[hv.out],rfl⟩
   obtain⟨rfl,hwc⟩:=hcut
   replace hwc:=hwc.symm
   subst hwc
   go_upto_if 185 with(fail)
   go_cut [] (fun wx=>Hid (∃F1,SW w1 wx g n F1∧okF w0 N n F1∧Rot f F1 s m e))
   case first=>as_aux_lemma=>
    cases C
    ·have hr:=rot_none f q2 q3 (by have h:=of_decide_eq_false hC1.out;omega)
     have hfin:Hid (∃F1,SW w1 w3 g n F1∧okF w0 N n F1∧Rot f F1 s m e):=Hd ⟨f,hSi.out,hok.out,hr⟩
     go_wp2
     go_meet
     exact hfin
    ·obtain⟨k1,k2⟩:=of_decide_eq_true hC1.out
     have hc:=Hd (rotate_any w0 w1 N g n cap p q hn hcap s m e k1 k2 (by omega) w3 f hSi.out hok.out)
     go_wp2_with fail
     refine hc.out.mono ?_
     rintro x w4 ⟨rfl,F1,hS1,hr1⟩
     have hfin:Hid (∃F1,SW w1 w4 g n F1∧okF w0 N n F1∧Rot f F1 s m e):=Hd ⟨F1,hS1,rot_ok hok.out hr1 q2 q3 (by omega),hr1⟩
     clear hc hS1 hr1
     go_wp2
     go_meet
     exact hfin
   obtain⟨w5,rfl⟩:∃z:World,z=wc:=⟨_,rfl⟩
   obtain⟨F1,hS1,hok1,hr1⟩:=hcut.out
   obtain⟨u1,u2,u3,u4⟩:=sym_runs hA.out hB.out q1 q2 q3 q4 hmide.out hr1
   clear hSi hok hC1
   replace hS1:=Hd hS1
   replace hok1:=Hd hok1
   replace hr1:=Hd hr1
   replace u1:=Hd u1
   replace u2:=Hd u2
   replace u3:=Hd u3
   replace u4:=Hd u4
   go_upto_region 41 with fail
   obtain⟨C,hC1⟩:∃t,decide (a<s∧s<mid)=t:=⟨_,rfl⟩
   replace hC1:=Hd hC1
   go_cut [199] (fun v wx=>v=.bool C∧wx=w5)
   case first=>as_aux_lemma=>
    by_cases k1:a<s
    ·have k1i:(a:Int)<(s:Int):=by omega
     by_cases k2:s<mid
     ·have k2i:(s:Int)<(mid:Int):=by omega
      have hv:Hid (C=true):=Hd (hC1.out.symm.trans (decide_eq_true ⟨k1,k2⟩))
      go_wp2
      go_meet
      exact⟨by rw[hv.out],rfl⟩
     ·have k2i:¬(s:Int)<(mid:Int):=by omega
      have hv:Hid (C=false):=Hd (hC1.out.symm.trans (decide_eq_false fun h=>k2 h.2))
      go_wp2
      go_meet
      exact⟨by rw[hv.out],rfl⟩
    ·have k1i:¬(a:Int)<(s:Int):=by omega
     have hv:Hid (C=false):=Hd (hC1.out.symm.trans (decide_eq_false fun h=>k1 h.1))
     go_wp2
     go_meet
     exact⟨by rw[hv.out],rfl⟩
   obtain⟨rfl,hwc⟩:=hcut
   replace hwc:=hwc.symm
   subst hwc
   go_upto_if 199 with(fail)
   go_cut [] (fun wx=>Hid (∃F2,SW w1 wx g n F2∧okF w0 N n F2∧Done (oP (decide (lang=1))) F1 F2 a mid))
   case first=>as_aux_lemma=>
    cases C
    ·have hs:Srt (oP (decide (lang=1))) (seg F1 a mid):=by
      have h:=of_decide_eq_false hC1.out
      by_cases h1:a<s
      ·have e1:mid=s:=by omega
       rw[e1];exact u1.out
      ·have e1:a=s:=by omega
       rw[e1];exact u2.out
     have hfin:Hid (∃F2,SW w1 w5 g n F2∧okF w0 N n F2∧Done (oP (decide (lang=1))) F1 F2 a mid):=Hd ⟨F1,hS1.out,hok1.out,done_self hs⟩
     go_wp2
     go_meet
     exact hfin
    ·obtain⟨k1,k2⟩:=of_decide_eq_true hC1.out
     have hc:=Hd (ih.out a s mid k1 k2 (by omega) (by omega) w5 F1 hS1.out hok1.out u1.out u2.out)
     go_wp2_with fail
     refine hc.out.mono ?_
     rintro x w6 ⟨rfl,F2,hS2,hd2⟩
     have hfin:Hid (∃F2,SW w1 w6 g n F2∧okF w0 N n F2∧Done (oP (decide (lang=1))) F1 F2 a mid):=Hd ⟨F2,hS2,done_ok hok1.out hd2 (by omega),hd2⟩
     clear hc hS2 hd2
     go_wp2
     go_meet
     exact hfin
   obtain⟨w7,rfl⟩:∃z:World,z=wc:=⟨_,rfl⟩
   obtain⟨F2,hS2,hok2,hd2⟩:=hcut.out
   have u3':Hid (Srt (oP (decide (lang=1))) (seg F2 mid e)):=Hd (by rw[seg_congr (g:=F1) fun k k1 k2=>hd2.2.2 k (by omega)];exact u3.out)
   have u4':Hid (Srt (oP (decide (lang=1))) (seg F2 e b)):=Hd (by rw[seg_congr (g:=F1) fun k k1 k2=>hd2.2.2 k (by omega)];exact u4.out)
   replace hS2:=Hd hS2
   replace hok2:=Hd hok2
   replace hd2:=Hd hd2
   clear hS1 hok1 hC1 u1 u2 u3 u4
   go_upto_region 43 with fail
   obtain⟨C,hC1⟩:∃t,decide (mid<e∧e<b)=t:=⟨_,rfl⟩
   replace hC1:=Hd hC1
   go_cut [213] (fun v wx=>v=.bool C∧wx=w7)
   case first=>as_aux_lemma=>
    by_cases k1:mid<e
    ·have k1i:(mid:Int)<(e:Int):=by omega
     by_cases k2:e<b
     ·have k2i:(e:Int)<(b:Int):=by omega
      have hv:Hid (C=true):=Hd (hC1.out.symm.trans (decide_eq_true ⟨k1,k2⟩))
      go_wp2
      go_meet
      exact⟨by rw[hv.out],rfl⟩
     ·have k2i:¬(e:Int)<(b:Int):=by omega
      have hv:Hid (C=false):=Hd (hC1.out.symm.trans (decide_eq_false fun h=>k2 h.2))
      go_wp2
      go_meet
      exact⟨by rw[hv.out],rfl⟩
    ·have k1i:¬(mid:Int)<(e:Int):=by omega
     have hv:Hid (C=false):=Hd (hC1.out.symm.trans (decide_eq_false fun h=>k1 h.1))
     go_wp2
     go_meet
     exact⟨by rw[hv.out],rfl⟩
   obtain⟨rfl,hwc⟩:=hcut
   replace hwc:=hwc.symm
   subst hwc
   go_upto_if 213 with(fail)
   cases C
   ·have hs:Srt (oP (decide (lang=1))) (seg F2 mid b):=by
     have h:=of_decide_eq_false hC1.out
     by_cases h1:mid<e
     ·have e1:b=e:=by omega
      rw[e1];exact u3'.out
     ·have e1:mid=e:=by omega
      rw[e1];exact u4'.out
    have hfin:Hid (SortOut w1 g n (decide (lang=1)) f a b (.returned (.tuple #[])) w7):=Hd ⟨rfl,F2,hS2.out,sym_join (lawP _) hA.out hB.out q1 q2 q3 q4 hmide.out c1.out c2.out hr1.out hd2.out (done_self hs)⟩
    go_wp2
    go_end0
    exact hfin.out
   ·obtain⟨k1,k2⟩:=of_decide_eq_true hC1.out
    have hc:=Hd (ih.out mid e b k1 k2 (by omega) (by omega) w7 F2 hS2.out hok2.out u3'.out u4'.out)
    go_wp2_with fail
    refine hc.out.mono ?_
    rintro x w8 ⟨rfl,F3,hS3,hd3⟩
    have hfin:Hid (SortOut w1 g n (decide (lang=1)) f a b (.returned (.tuple #[])) w8):=Hd ⟨rfl,F3,hS3,sym_join (lawP _) hA.out hB.out q1 q2 q3 q4 hmide.out c1.out c2.out hr1.out hd2.out hd3⟩
    clear hc hS3 hd3
    go_wp2
    go_end0
    exact hfin.out
end Go.Proofs.YtidplkfhodpdhaaGreatDoor.stab
