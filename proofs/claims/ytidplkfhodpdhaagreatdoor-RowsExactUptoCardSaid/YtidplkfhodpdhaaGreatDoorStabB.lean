/- Texts StabSymA, StabSymB, StabR, one behind the other. -/
import Derived.Test.YtidplkfhodpdhaaGreatDoorStabA
set_option linter.unusedSimpArgs false
set_option linter.unusedVariables false
set_option maxRecDepth 100000
set_option maxHeartbeats 4000000
namespace Go.Proofs.YtidplkfhodpdhaaGreatDoor.stab
open Go.ChangeShapes Go.WideShapes Go.ChangeAt Go.RowKit kit dec val tab
theorem up_at{α:Type}(f:Nat→α)(a k:Nat)(h:a≤k):upF f a k k=f a:=by unfold upF;rw[if_neg (by omega),if_neg (by omega),if_pos rfl]
theorem up_next{α:Type}(f:Nat→α)(a k:Nat)(h:a≤k):upF f a k (k+1)=f (k+1):=by unfold upF;rw[if_neg (by omega),if_neg (by omega),if_neg (by omega)]
theorem symA_any(w0 w1:World)(N g n cap:Nat)(lang:Int)(p q:Value)(hC:CmpC w0 w1 N g lang p q)(hn:n≤1048576)(hcap:n≤cap)(a m b:Nat)(ham:m=a+1)(hmb:m<b)(hbn:b≤n)(w:World)(f:Nat→Px)(hS:SW w1 w g n f)(hok:okF w0 N n f)(hB:Srt (oP (decide (lang=1))) (seg f m b)):
 Calls Tryz.prog 155 #[.slice (some ⟨g,0,none⟩) n cap,.int .i64 a,.int .i64 m,.int .i64 b,.func (.func 82) #[] #[p,q]] w (SortOut w1 g n (decide (lang=1)) f a b):=by
 have hni:(n:Int)≤1048576:=by omega
 have hma:IntKind.i64.wrap ((m:Int)-(a:Int))=1:=by rw[IntWalk.i64_in _ (by omega)];omega
 have han:(a:Int)<(n:Int):=by omega
 replace hS:=Hd hS
 replace hok:=Hd hok
 replace hC:=Hd hC
 replace hB:=Hd hB
 replace ham:=Hd ham
 go_enter Tryz.func155,Tryz.ntmps155
 go_wp2
 go_loopw [10,11] (fun v u wr=>∃i j:Nat,m≤i∧i≤j∧j≤b∧v=.int .i64 (i:Int)∧u=.int .i64 (j:Int)∧Hid (SW w1 wr g n f)∧Hid (i=m∨oP (decide (lang=1)) (f (i-1)) (f a)<0)∧Hid (j=b∨0≤oP (decide (lang=1)) (f j) (f a))) (fun v u _=>(intOf u).toNat-(intOf v).toNat)
 case atStart=>exact⟨m,b,by omega,by omega,by omega,rfl,rfl,hS,Hd (.inl rfl),Hd (.inl rfl)⟩
 case round =>
  clear hS
  obtain⟨i,j,b1,b2,b3,rfl,rfl,hSi,hl,hh⟩:=hrel
  obtain⟨w3,rfl⟩:∃z:World,z=wr:=⟨_,rfl⟩
  by_cases hlt:i<j
  ·have hki:(i:Int)<(j:Int):=by omega
   obtain⟨h,hhd⟩:∃h,(i+j) / 2=h:=⟨_,rfl⟩
   have hhi:((i:Int)+(j:Int)) / 2=(h:Int):=by omega
   have h1:i≤h:=by omega
   have h2:h<j:=by omega
   have hhn:(h:Int)<(n:Int):=by omega
   have hhw:IntKind.i64.wrap ((h:Int)+1)=((h+1:Nat):Int):=by rw[IntWalk.i64_in _ (by omega)];omega
   replace hhd:=Hd hhd
   have hdr:Below w3.heap.size w3 w3.drew:=below_drewN (Below.refl _ _) 1
   have hSd:=Hd (hSi.out.stay hdr)
   clear hSi hdr
   obtain⟨u1,l1,hu1⟩:∃u l,f (h)=(u,l):=⟨_,_,rfl⟩
   obtain⟨u2,l2,hu2⟩:∃u l,f (a)=(u,l):=⟨_,_,rfl⟩
   have y1:w3.drew.cell? ⟨g,h,none⟩=some u1:=by have h:=hSd.out.cell (show h<n by omega);rwa [hu1]at h
   have y2:w3.drew.cell? ⟨g,a,none⟩=some u2:=by have h:=hSd.out.cell (show a<n by omega);rwa [hu2]at h
   have la1:LA w0 N u1 l1:=by have h:=hok.out (h) (by omega);rwa [hu1]at h
   have la2:LA w0 N u2 l2:=by have h:=hok.out (a) (by omega);rwa [hu2]at h
   obtain⟨c,hc⟩:∃c,ordL (decide (lang=1)) l1 l2=c:=⟨_,rfl⟩
   have hcal:=Hd (hC.out w3.drew hSd.out.out u1 u2 l1 l2 la1 la2)
   rw[hc]at hcal
   have hoc:Hid (oP (decide (lang=1)) (f (h)) (f (a))=c):=Hd (by unfold oP;rw[hu1,hu2];exact hc)
   obtain⟨e1,d1,rfl⟩:=LA.form6 la1
   obtain⟨e2,d2,rfl⟩:=LA.form6 la2
   clear la1 la2 hc hu1 hu2
   go_upto_region 5 with fail
   refine wp_region_held_drew (S:=fun V=>Below w3.drew.heap.size w3.drew V) (by kernel_rfl) (Below.refl _ _) (fun hS=>?_)
   have hV0:=hS
   generalize w3.drew=V0 at *
   refine tkS [0,1,2,3,4,5,6,7,8] ?_
   iterate 9
    refine tkC ?_ rfl (fun w' hS=>?_) hS ?_
    rotate_left
    ·
     have z1:=sB hS y1;have z2:=sB hS y2
     go_simp
     try with_reducible rfl
   refine rdH 9 rfl (fun K hK=>?_)
   clear hS
   go_simp
   refine(hcal.out).mono ?_
   rintro e w4 ⟨rfl,hb4⟩
   go_wp2_with fail
   refine hKo hK (hb4) (fun hS=>?_)
   clear hK K
   refine tkH 10 ?_ rfl (fun w' hS=>?_) hS ?_
   rotate_left
   ·
    skip
    go_simp
    try with_reducible rfl
   refine wpAnyH_done (by kernel_rfl) ?_ _
   clear hS hcal hV0 y1 y2
   have hS4:=Hd (hSd.out.stay hb4)
   clear hSd hb4
   by_cases hneg:c<0
   ·have hl2:Hid (h+1=m∨oP (decide (lang=1)) (f (h+1-1)) (f a)<0):=Hd (.inr (by rw[Nat.add_sub_cancel,hoc.out];exact hneg))
    clear hoc
    go_wp2
    go_roundw
    case rel=>exact⟨h+1,j,by omega,by omega,b3,rfl,rfl,hS4,hl2,hh⟩
    case measure=>simp[intOf];omega
   ·have hh2:Hid (h=b∨0≤oP (decide (lang=1)) (f h) (f a)):=Hd (.inr (by rw[hoc.out];omega))
    clear hoc
    go_wp2
    go_roundw
    case rel=>exact⟨i,h,b1,h1,by omega,rfl,rfl,hS4,hl,hh2⟩
    case measure=>simp[intOf];omega
  ·have hki:¬(i:Int)<(j:Int):=by omega
   obtain rfl:i=j:=by omega
   have hi1:1≤i:=by have:=ham.out;omega
   have hiw:IntKind.i64.wrap ((i:Int)-1)=((i-1:Nat):Int):=by rw[IntWalk.i64_in _ (by omega)];omega
   have hD:Hid (Done (oP (decide (lang=1))) f (upF f a (i-1)) a b):=Hd (up_done (lawP _) (by have:=ham.out;omega) b3 (by have h:=hB.out;rwa [ham.out]at h) (fun h3=>by
    rcases hl.out with e|e
    ·have:=ham.out;omega
    ·exact e) (fun h3=>by
    rcases hh.out with e|e
    ·omega
    ·omega))
   obtain⟨i1,hi1e⟩:∃k,i-1=k:=⟨_,rfl⟩
   rw[hi1e]at hiw hD
   have ha1:a≤i1:=by have:=ham.out;omega
   have hi1n:i1<n:=by omega
   replace hi1e:=Hd hi1e
   have hS0:Hid (SW w1 w3 g n (upF f a a)):=Hd (hSi.out.congr fun k=>up_self f a k)
   clear hSi hl hh
   go_wp2
   go_loopw [13] (fun v wr=>∃k:Nat,a≤k∧k≤i1∧v=.int .i64 (k:Int)∧Hid (SW w1 wr g n (upF f a k))) (fun v _=>i1-(intOf v).toNat)
   case atStart=>exact⟨a,by omega,by omega,rfl,hS0⟩
   case round=>
    clear hS0
    obtain⟨k,k1,k2,rfl,hSk⟩:=hrel
    obtain⟨w5,rfl⟩:∃z:World,z=wr:=⟨_,rfl⟩
    by_cases hlk:k<i1
    ·have hkk:(k:Int)<(i1:Int):=by omega
     have hkn:(k:Int)<(n:Int):=by omega
     have hka:k<n:=by omega
     have hkb:k+1<n:=by omega
     obtain⟨u1,l1,hu1⟩:∃u l,f a=(u,l):=⟨_,_,rfl⟩
     obtain⟨u2,l2,hu2⟩:∃u l,f (k+1)=(u,l):=⟨_,_,rfl⟩
     have la1:LA w0 N u1 l1:=by have h:=hok.out a (by omega);rwa [hu1]at h
     have la2:LA w0 N u2 l2:=by have h:=hok.out (k+1) (by omega);rwa [hu2]at h
     obtain⟨e1,d1,rfl⟩:=LA.form6 la1
     obtain⟨e2,d2,rfl⟩:=LA.form6 la2
     have hd:Below w5.heap.size w5 w5.drew:=below_drewN (Below.refl _ _) 1
     have hS5:=hSk.out.stay hd
     have hF1:(upF f a k k).1=.slice e1 l1.length d1:=by rw[up_at f a k k1,hu1]
     have hF2:(upF f a k (k+1)).1=.slice e2 l2.length d2:=by rw[up_next f a k k1,hu2]
     have y1:=hS5.cell hka
     have y2:=hS5.cell hkb
     rw[hF1]at y1
     rw[hF2]at y2
     have hsw:=hS5.swap hka hkb (show k≠k+1 by omega)
     rw[hF1,hF2]at hsw
     have hsw2:=Hd (hsw.congr (f':=upF f a (k+1)) fun j=>(up_swap f k1 j).symm)
     have hput:=hS5.put hka (upF f a k (k+1))
     rw[hF2]at hput
     have y3:=hput.cell hkb
     rw[if_neg (by omega),hF2]at y3
     have f3:=hput.free (k+1)
     have f1:=hS5.free k
     clear hsw hput hS5 hF1 hF2 hu1 hu2 la1 la2 hSk hd
     have hk1n:k+1≤i1:=hlk
     generalize hkk1:k+1=kn at *
     have hkw:IntKind.i64.wrap ((k:Int)+1)=(kn:Int):=by rw[IntWalk.i64_in _ (by omega)];omega
     have hkn1:(kn:Int)<(n:Int):=by omega
     have hka2:a≤kn:=by omega
     replace hkk1:=Hd hkk1
     go_upto_region 11 with fail
     refine wp_region_late [15] (S:=fun V=>V.cell? ⟨g,k,none⟩=some (.slice e1 l1.length d1)∧V.cell? ⟨g,kn,none⟩=some (.slice e2 l2.length d2)) (by kernel_rfl) ⟨y1,y2⟩ (fun hS=>?_)
     generalize w5.drew=V4 at *
     refine tlS [0,1,2,3,4,5,6,7,8] ?_
     iterate 9
      refine tkPC ?_ rfl (fun w'=>?_) hS ?_
      rotate_left
      ·
       go_simp
       try with_reducible rfl
     refine tlH 9 ?_ rfl (fun w' hS=>?_) hS ?_
     rotate_left
     ·
      obtain⟨z1,z2⟩:=hS
      go_simp
      try with_reducible rfl
     refine tlS [10,11,12] ?_
     iterate 3
      refine tkPC ?_ rfl (fun w'=>?_) hS ?_
      rotate_left
      ·
       go_simp
       try with_reducible rfl
     refine tlH 13 ?_ rfl (fun w' hS=>?_) hS ?_
     rotate_left
     ·
      obtain⟨z1,z2⟩:=hS
      go_simp
      try with_reducible rfl
     refine tkP 14 ?_ rfl (fun w'=>?_) hS ?_
     rotate_left
     ·
      skip
      go_simp
      try with_reducible rfl
     refine wpAnyL_late (i:=15) (by kernel_rfl) rfl (by kernel_rfl) (fun K hK=>?_)
     clear hS
     go_simp
     go_wp2_with fail
     refine hK.out _ _ ?_
     clear hK K f1 y1 y2
     try simp only[List.getElem_toArray,List.getElem_cons_succ,List.getElem_cons_zero,Act.put,List.setIfInBounds_toArray,List.set_cons_zero,List.set_cons_succ]
     refine late_free _ _ _ _ (by kernel_rfl) ?_
     have hS:(fun _:World=>True) V4:=trivial
     refine tkH 16 ?_ rfl (fun w' hS=>?_) hS ?_
     rotate_left
     ·
      skip
      go_simp
      try with_reducible rfl
     refine rdH 17 rfl (fun K hK=>?_)
     clear hS
     go_simp
     go_wp2_with fail
     refine hKo hK trivial (fun hS=>?_)
     clear hK K f3 y3
     refine wpAnyH_done (by kernel_rfl) ?_ _
     clear hS
     generalize World.setCell _ _ _=w6 at *
     go_wp2
     go_roundw
     case rel=>exact⟨kn,by omega,by omega,rfl,hsw2⟩
     case measure=>have:=hkk1.out;simp[intOf];omega
    ·have hkk:¬(k:Int)<(i1:Int):=by omega
     obtain rfl:k=i1:=by omega
     have hfin:Hid (SortOut w1 g n (decide (lang=1)) f a b (.returned (.tuple #[])) w5):=Hd ⟨rfl,_,hSk.out,hD.out⟩
     go_wp2
     go_end0
     exact hfin.out
theorem symB_any(w0 w1:World)(N g n cap:Nat)(lang:Int)(p q:Value)(hC:CmpC w0 w1 N g lang p q)(hn:n≤1048576)(hcap:n≤cap)(a m b:Nat)(ham:a<m)(hne:m≠a+1)(hmb:b=m+1)(hbn:b≤n)(w:World)(f:Nat→Px)(hS:SW w1 w g n f)(hok:okF w0 N n f)(hA:Srt (oP (decide (lang=1))) (seg f a m)):
 Calls Tryz.prog 155 #[.slice (some ⟨g,0,none⟩) n cap,.int .i64 a,.int .i64 m,.int .i64 b,.func (.func 82) #[] #[p,q]] w (SortOut w1 g n (decide (lang=1)) f a b):=by
 have hni:(n:Int)≤1048576:=by omega
 have hma:IntKind.i64.wrap ((m:Int)-(a:Int))=((m-a:Nat):Int):=by rw[IntWalk.i64_in _ (by omega)];omega
 have hme:(((m-a:Nat):Int)==1)=false:=beq_eq_false_iff_ne.2 (by omega)
 have hbm:IntKind.i64.wrap ((b:Int)-(m:Int))=1:=by rw[IntWalk.i64_in _ (by omega)];omega
 have hmn:(m:Int)<(n:Int):=by omega
 obtain⟨dd,hdd⟩:∃k,m-a=k:=⟨_,rfl⟩
 rw[hdd]at hma hme
 replace hdd:=Hd hdd
 have hmn2:m<n:=by omega
 replace hS:=Hd hS
 replace hok:=Hd hok
 replace hC:=Hd hC
 replace hA:=Hd hA
 replace hmb:=Hd hmb
 replace hne:=Hd hne
 go_enter Tryz.func155,Tryz.ntmps155
 go_wp2
 go_loopw [14,15] (fun v u wr=>∃i j:Nat,a≤i∧i≤j∧j≤m∧v=.int .i64 (i:Int)∧u=.int .i64 (j:Int)∧Hid (SW w1 wr g n f)∧Hid (i=a∨0≤oP (decide (lang=1)) (f m) (f (i-1)))∧Hid (j=m∨oP (decide (lang=1)) (f m) (f j)<0)) (fun v u _=>(intOf u).toNat-(intOf v).toNat)
 case atStart=>exact⟨a,m,by omega,by omega,by omega,rfl,rfl,hS,Hd (.inl rfl),Hd (.inl rfl)⟩
 case round =>
  clear hS hma hme hbm
  obtain⟨i,j,b1,b2,b3,rfl,rfl,hSi,hl,hh⟩:=hrel
  obtain⟨w3,rfl⟩:∃z:World,z=wr:=⟨_,rfl⟩
  by_cases hlt:i<j
  ·have hki:(i:Int)<(j:Int):=by omega
   obtain⟨h,hhd⟩:∃h,(i+j) / 2=h:=⟨_,rfl⟩
   have hhi:((i:Int)+(j:Int)) / 2=(h:Int):=by omega
   have h1:i≤h:=by omega
   have h2:h<j:=by omega
   have hhn:(h:Int)<(n:Int):=by omega
   have hhw:IntKind.i64.wrap ((h:Int)+1)=((h+1:Nat):Int):=by rw[IntWalk.i64_in _ (by omega)];omega
   replace hhd:=Hd hhd
   have hdr:Below w3.heap.size w3 w3.drew:=below_drewN (Below.refl _ _) 1
   have hSd:=Hd (hSi.out.stay hdr)
   clear hSi hdr
   obtain⟨u1,l1,hu1⟩:∃u l,f (m)=(u,l):=⟨_,_,rfl⟩
   obtain⟨u2,l2,hu2⟩:∃u l,f (h)=(u,l):=⟨_,_,rfl⟩
   have y1:w3.drew.cell? ⟨g,m,none⟩=some u1:=by have h:=hSd.out.cell (show m<n by omega);rwa [hu1]at h
   have y2:w3.drew.cell? ⟨g,h,none⟩=some u2:=by have h:=hSd.out.cell (show h<n by omega);rwa [hu2]at h
   have la1:LA w0 N u1 l1:=by have h:=hok.out (m) (by omega);rwa [hu1]at h
   have la2:LA w0 N u2 l2:=by have h:=hok.out (h) (by omega);rwa [hu2]at h
   obtain⟨c,hc⟩:∃c,ordL (decide (lang=1)) l1 l2=c:=⟨_,rfl⟩
   have hcal:=Hd (hC.out w3.drew hSd.out.out u1 u2 l1 l2 la1 la2)
   rw[hc]at hcal
   have hoc:Hid (oP (decide (lang=1)) (f (m)) (f (h))=c):=Hd (by unfold oP;rw[hu1,hu2];exact hc)
   obtain⟨e1,d1,rfl⟩:=LA.form6 la1
   obtain⟨e2,d2,rfl⟩:=LA.form6 la2
   clear la1 la2 hc hu1 hu2
   go_upto_region 17 with fail
   refine wp_region_held_drew (S:=fun V=>Below w3.drew.heap.size w3.drew V) (by kernel_rfl) (Below.refl _ _) (fun hS=>?_)
   have hV0:=hS
   generalize w3.drew=V0 at *
   refine tkS [0,1,2,3,4,5,6,7,8] ?_
   iterate 9
    refine tkC ?_ rfl (fun w' hS=>?_) hS ?_
    rotate_left
    ·
     have z1:=sB hS y1;have z2:=sB hS y2
     go_simp
     try with_reducible rfl
   refine rdH 9 rfl (fun K hK=>?_)
   clear hS
   go_simp
   refine(hcal.out).mono ?_
   rintro e w4 ⟨rfl,hb4⟩
   go_wp2_with fail
   refine hKo hK (hb4) (fun hS=>?_)
   clear hK K
   obtain⟨t,ht⟩:∃t,decide (c<0)=t:=⟨_,rfl⟩
   refine tkS [10,11] ?_
   iterate 2
    refine tkC ?_ rfl (fun w' hS=>?_) hS ?_
    rotate_left
    ·
     skip
     go_simp
     try with_reducible rfl
   refine wpAnyH_done (by kernel_rfl) ?_ _
   clear hS hcal hV0 y1 y2
   have hS4:=Hd (hSd.out.stay hb4)
   clear hSd hb4
   cases t
   ·have hneg:=of_decide_eq_false ht
    have hl2:Hid (h+1=a∨0≤oP (decide (lang=1)) (f m) (f (h+1-1))):=Hd (.inr (by rw[Nat.add_sub_cancel,hoc.out];omega))
    clear hoc ht hneg
    go_wp2
    go_roundw
    case rel=>exact⟨h+1,j,by omega,by omega,b3,rfl,rfl,hS4,hl2,hh⟩
    case measure=>simp[intOf];omega
   ·have hneg:=of_decide_eq_true ht
    have hh2:Hid (h=m∨oP (decide (lang=1)) (f m) (f h)<0):=Hd (.inr (by rw[hoc.out];exact hneg))
    clear hoc ht hneg
    go_wp2
    go_roundw
    case rel=>exact⟨i,h,b1,h1,by omega,rfl,rfl,hS4,hl,hh2⟩
    case measure=>simp[intOf];omega
  ·have hki:¬(i:Int)<(j:Int):=by omega
   obtain rfl:i=j:=by omega
   have hD:Hid (Done (oP (decide (lang=1))) f (shiftF f m i) a b):=Hd (by
    rw[hmb.out]
    exact down_done (lawP _) b1 b3 hA.out (fun h3=>by
     rcases hl.out with e|e
     ·omega
     ·omega) (fun h3=>by
     rcases hh.out with e|e
     ·omega
     ·exact e))
   have hS0:Hid (SW w1 w3 g n (shiftF f m m)):=Hd (hSi.out.congr fun k=>shift_self f m k)
   clear hSi hl hh
   go_wp2
   go_loopw [17] (fun v wr=>∃k:Nat,i≤k∧k≤m∧v=.int .i64 (k:Int)∧Hid (SW w1 wr g n (shiftF f m k))) (fun v _=>(intOf v).toNat)
   case atStart=>exact⟨m,by omega,by omega,rfl,hS0⟩
   case round=>
    clear hS0
    obtain⟨k,k1,k2,rfl,hSk⟩:=hrel
    obtain⟨w5,rfl⟩:∃z:World,z=wr:=⟨_,rfl⟩
    by_cases hlk:i<k
    ·have hkk:(i:Int)<(k:Int):=by omega
     obtain⟨r,hr⟩:∃r,k=r+1:=⟨k-1,by omega⟩
     have hkw:IntKind.i64.wrap ((k:Int)-1)=(r:Int):=by rw[IntWalk.i64_in _ (by omega)];omega
     have hkn:(k:Int)<(n:Int):=by omega
     have hrn:(r:Int)<(n:Int):=by omega
     have hka:k<n:=by omega
     have hkb:r<n:=by omega
     have hrk:r<k:=by omega
     have hir:i≤r:=by omega
     replace hr:=Hd hr
     obtain⟨u1,l1,hu1⟩:∃u l,f m=(u,l):=⟨_,_,rfl⟩
     obtain⟨u2,l2,hu2⟩:∃u l,f r=(u,l):=⟨_,_,rfl⟩
     have la1:LA w0 N u1 l1:=by have h:=hok.out m (by omega);rwa [hu1]at h
     have la2:LA w0 N u2 l2:=by have h:=hok.out r (by omega);rwa [hu2]at h
     obtain⟨e1,d1,rfl⟩:=LA.form6 la1
     obtain⟨e2,d2,rfl⟩:=LA.form6 la2
     have hd:Below w5.heap.size w5 w5.drew:=below_drewN (Below.refl _ _) 1
     have hS5:=hSk.out.stay hd
     have hF1:(shiftF f m k k).1=.slice e1 l1.length d1:=by rw[shift_at,hu1]
     have hF2:(shiftF f m k r).1=.slice e2 l2.length d2:=by rw[shift_low f hrk,hu2]
     have y1:=hS5.cell hka
     have y2:=hS5.cell hkb
     rw[hF1]at y1
     rw[hF2]at y2
     have hsw:=hS5.swap hka hkb (show k≠r by omega)
     rw[hF1,hF2]at hsw
     have hsw2:=Hd (hsw.congr (f':=shiftF f m r) fun j=>by have h:=shift_swap f (show 0<k by omega) k2 j;rw[hr.out,Nat.add_sub_cancel]at h;rw[hr.out];exact h.symm)
     have hput:=hS5.put hka (shiftF f m k r)
     rw[hF2]at hput
     have y3:=hput.cell hkb
     rw[if_neg (by omega),hF2]at y3
     have f3:=hput.free r
     have f1:=hS5.free k
     clear hsw hput hS5 hF1 hF2 hu1 hu2 la1 la2 hSk hd
     go_upto_region 23 with fail
     refine wp_region_late [15] (S:=fun V=>V.cell? ⟨g,k,none⟩=some (.slice e1 l1.length d1)∧V.cell? ⟨g,r,none⟩=some (.slice e2 l2.length d2)) (by kernel_rfl) ⟨y1,y2⟩ (fun hS=>?_)
     generalize w5.drew=V4 at *
     refine tlS [0,1,2,3,4,5,6,7,8] ?_
     iterate 9
      refine tkPC ?_ rfl (fun w'=>?_) hS ?_
      rotate_left
      ·
       go_simp
       try with_reducible rfl
     refine tlH 9 ?_ rfl (fun w' hS=>?_) hS ?_
     rotate_left
     ·
      obtain⟨z1,z2⟩:=hS
      go_simp
      try with_reducible rfl
     refine tlS [10,11,12] ?_
     iterate 3
      refine tkPC ?_ rfl (fun w'=>?_) hS ?_
      rotate_left
      ·
       go_simp
       try with_reducible rfl
     refine tlH 13 ?_ rfl (fun w' hS=>?_) hS ?_
     rotate_left
     ·
      obtain⟨z1,z2⟩:=hS
      go_simp
      try with_reducible rfl
     refine tkP 14 ?_ rfl (fun w'=>?_) hS ?_
     rotate_left
     ·
      skip
      go_simp
      try with_reducible rfl
     refine wpAnyL_late (i:=15) (by kernel_rfl) rfl (by kernel_rfl) (fun K hK=>?_)
     clear hS
     go_simp
     go_wp2_with fail
     refine hK.out _ _ ?_
     clear hK K f1 y1 y2
     try simp only[List.getElem_toArray,List.getElem_cons_succ,List.getElem_cons_zero,Act.put,List.setIfInBounds_toArray,List.set_cons_zero,List.set_cons_succ]
     refine late_free _ _ _ _ (by kernel_rfl) ?_
     have hS:(fun _:World=>True) V4:=trivial
     refine tkH 16 ?_ rfl (fun w' hS=>?_) hS ?_
     rotate_left
     ·
      skip
      go_simp
      try with_reducible rfl
     refine rdH 17 rfl (fun K hK=>?_)
     clear hS
     go_simp
     go_wp2_with fail
     refine hKo hK trivial (fun hS=>?_)
     clear hK K f3 y3
     refine wpAnyH_done (by kernel_rfl) ?_ _
     clear hS
     generalize World.setCell _ _ _=w6 at *
     go_wp2
     go_roundw
     case rel=>exact⟨r,by omega,by omega,by go_num,hsw2⟩
     case measure=>have:=hr.out;simp[intOf];omega
    ·have hkk:¬(i:Int)<(k:Int):=by omega
     obtain rfl:i=k:=by omega
     have hfin:Hid (SortOut w1 g n (decide (lang=1)) f a b (.returned (.tuple #[])) w5):=Hd ⟨rfl,_,hSk.out,hD.out⟩
     go_wp2
     go_end0
     exact hfin.out
theorem cls_insR(s:Bool)(l:List (List V))(r:List V):Cls (ordL s) (insR s l r) (l++[r]):=by
 unfold insR
 have hB:=insPos_behind s l r l.length
 have hle:=insPos_le s l r l.length
 generalize insPos s l r l.length=k at *
 have e:l++[r]=l.take k++(l.drop k++[r]):=by rw[←List.append_assoc,List.take_append_drop]
 rw[e,show r::l.drop k=[r]++l.drop k from rfl]
 refine(Cls.refl _).app (Cls.swap (lawR s) fun x hx y hy=>?_)
 rw[List.mem_singleton.1 hx]
 obtain⟨j,hj,rfl⟩:=List.getElem_of_mem hy
 rw[List.length_drop]at hj
 rw[List.getElem_drop]
 have h1:=hB (k+j) (by omega) (by omega)
 rw[getD_at _ (by omega)]at h1
 have h2:=ordL_neg s (l[k+j]'(by omega)) r
 omega
theorem cls_fold(s:Bool):∀(l out:List (List V)),Cls (ordL s) (l.foldl (insR s) out) (out++l)
 |[],out=>by rw[List.append_nil];exact Cls.refl _
 |r::l,out=>by
  rw[List.foldl_cons]
  refine(cls_fold s l (insR s out r)).trans ?_
  have h:=(cls_insR s out r).app (Cls.refl (o:=ordL s) l)
  rwa [List.append_assoc]at h
theorem cls_sortR(s:Bool)(l:List (List V)):Cls (ordL s) (sortR s l) l:=by
 have h:=cls_fold s l []
 rwa [List.nil_append]at h
theorem map_srt{s:Bool}{l:List Px}(h:Srt (oP s) l):Srt (ordL s) (l.map (·.2)):=by
 unfold Srt at *
 rw[List.pairwise_map]
 exact h
theorem map_cls{s:Bool}{l m:List Px}(h:Cls (oP s) l m):Cls (ordL s) (l.map (·.2)) (m.map (·.2)):=fun c=>by
 have h1:=h (.bool true,c)
 rw[List.filter_map,List.filter_map]
 exact congrArg (List.map (·.2)) h1
theorem sorted_rows{s:Bool}{M P:List Px}(h1:Srt (oP s) M)(h2:Cls (oP s) M P):M.map (·.2)=sortR s (P.map (·.2)):=
 uniq (lawR s) _ _ (map_srt h1) (sortR_sorted s _) ((map_cls h2).trans (cls_sortR s _).symm)
end Go.Proofs.YtidplkfhodpdhaaGreatDoor.stab
