/- Texts RNum, ROrd, one behind the other. -/
import Derived.Test.YtidplkfhodpdhaaGreatDoorVNumA
import Derived.Test.YtidplkfhodpdhaaGreatDoorRefTwA
set_option linter.unusedSimpArgs false
set_option linter.unusedVariables false
set_option maxRecDepth 100000
set_option maxHeartbeats 4000000
namespace Go.Proofs.YtidplkfhodpdhaaGreatDoor.val
open Go.ChangeShapes Go.WideShapes Go.ChangeAt Go.RowKit kit dec
theorem rdec_call(k:Int)(b:Bool)(n:Int)(hn:In64 n)(t x:ByteArray)(s:Value)(w:World)(ht:t.size≤1048576):Calls Tryz.prog 131 #[agg6 k b n t x s] w fun e w'=>∃u:ByteArray,e=.returned (.string u)∧(chk u.data.toList=true∧zof u.data.toList=numV k n t)∧Below w.heap.size w w':=by
 have hb:Below w.heap.size w (w.alloc (.cells #[.int .i64 k,.bool b,.int .i64 n,.string t,.string x,s] 52)):=(Below.refl _ _).alloc (Nat.le_refl _) _
 have hof:=rofInt_any n (w.alloc (.cells #[.int .i64 k,.bool b,.int .i64 n,.string t,.string x,s] 52)) hn.1 hn.2
 have hck:=rcheck_big t (w.alloc (.cells #[.int .i64 k,.bool b,.int .i64 n,.string t,.string x,s] 52)) ht
 have hbk:Blk (w.alloc (.cells #[.int .i64 k,.bool b,.int .i64 n,.string t,.string x,s] 52)) w.heap.size #[.int .i64 k,.bool b,.int .i64 n,.string t,.string x,s] 52:=Blk.new _ _ _
 have h1:chk (tx (canon (n * E20))).data.toList=true∧zof (tx (canon (n * E20))).data.toList=n * E20:=⟨chk_canon _ (ofInt_small n hn.1 hn.2),zof_canon _ (ofInt_small n hn.1 hn.2)⟩
 have h0:chk [48,46,48]=true∧zof [48,46,48]=0:=by
  rw[show([48,46,48]:List UInt8)=canon 0 by kernel_rfl]
  exact⟨chk_canon 0 (by unfold small top;decide),zof_canon 0 (by unfold small top;decide)⟩
 have h3:∀c,chk t.data.toList=c→(c=true→chk t.data.toList=true∧zof t.data.toList=(if chk t.data.toList then zof t.data.toList else 0))∧(c=false→(0:Int)=(if chk t.data.toList then zof t.data.toList else 0)):=fun c hc=>⟨fun h=>by rw[hc,h];exact⟨rfl,rfl⟩,fun h=>by rw[hc,h];rfl⟩
 unfold numV
 generalize canon (n * E20)=R at *
 obtain⟨c,hc⟩:∃c,chk t.data.toList=c:=⟨_,rfl⟩
 have h4:=h3 c hc
 rw[hc]at hck
 replace h0:=Hd h0
 replace h1:=Hd h1
 replace h4:=Hd h4
 clear h3 hc
 replace hof:=Hd hof
 replace hck:=Hd hck
 unfold agg6
 by_cases h2:k=2
 ·subst h2
  go_enter Tryz.func131,Tryz.ntmps131
  go_wp2_with fail
  refine hof.out.mono ?_
  rintro e w2 ⟨rfl,hb2⟩
  go_wp2
  go_ret
  exact⟨_,rfl,h1.out,hb.trans (hb2.mono hb.size)⟩
 ·have q2:(k==2)=false:=by simpa using h2
  rw[if_neg h2]
  clear h2 hof h1
  generalize (if chk t.data.toList=true then zof t.data.toList else 0)=Z at *
  cases c
  ·go_enter Tryz.func131,Tryz.ntmps131
   go_wp2_with fail
   refine hck.out.mono ?_
   rintro e w2 ⟨rfl,hb2⟩
   go_wp2
   go_ret
   exact⟨_,rfl,⟨h0.out.1,h0.out.2.trans (h4.out.2 (by simp))⟩,hb.trans (hb2.mono hb.size)⟩
  ·go_enter Tryz.func131,Tryz.ntmps131
   go_wp2_with fail
   refine hck.out.mono ?_
   rintro e w2 ⟨rfl,hb2⟩
   have c3:w2.cell? ⟨w.heap.size,3,none⟩=some (.string t):=(hbk.keep (Keep.ofBelow hb2) (by simp)).cell 3 rfl
   go_wp2
   go_ret
   exact⟨_,rfl,h4.out.1 (by simp),hb.trans (hb2.mono hb.size)⟩
theorem chk_sz(t:ByteArray)(h:chk t.data.toList=true):t.size≤62:=by
 unfold chk at h
 rw[Bool.and_eq_true,decide_eq_true_iff]at h
 have:=h.1
 simpa using this
def sgnB(a b:Bool):Int:=if a then -1 else if b then 1 else 0
theorem rsign_t(b:Bool)(w:World):Calls Tryz.prog 110 #[.bool true,.bool b] w fun e w'=>e=.returned (.int .i64 (-1))∧w'=w:=by
 go_enter Tryz.func110,Tryz.ntmps110
 go_wp2
 go_ret
 exact⟨rfl,rfl⟩
theorem rsign_ft(w:World):Calls Tryz.prog 110 #[.bool false,.bool true] w fun e w'=>e=.returned (.int .i64 1)∧w'=w:=by
 go_enter Tryz.func110,Tryz.ntmps110
 go_wp2
 go_ret
 exact⟨rfl,rfl⟩
theorem rsign_ff(w:World):Calls Tryz.prog 110 #[.bool false,.bool false] w fun e w'=>e=.returned (.int .i64 0)∧w'=w:=by
 go_enter Tryz.func110,Tryz.ntmps110
 go_wp2
 go_ret
 exact⟨rfl,rfl⟩
theorem rsign_any(a b:Bool)(w:World):Calls Tryz.prog 110 #[.bool a,.bool b] w fun e w'=>e=.returned (.int .i64 (sgnB a b))∧w'=w:=by
 cases a
 ·cases b
  ·exact rsign_ff w
  ·exact rsign_ft w
 ·exact rsign_t b w
theorem cmpI_sgn(x y:Int):cmpI x y=sgnB (decide (x<y)) (decide (y<x)):=by
 unfold cmpI sgnB
 by_cases h:x<y
 ·rw[if_neg (by omega),if_pos h,decide_eq_true h];rfl
 ·by_cases h2:y<x
  ·rw[if_neg (by omega),if_neg h,decide_eq_false h,decide_eq_true h2];rfl
  ·rw[if_pos (by omega),decide_eq_false h,decide_eq_false h2];rfl
theorem cmpT_sgn(t t2:ByteArray):cmpT t t2=sgnB (Op.bytesLess t.toList t2.toList) (Op.bytesLess t2.toList t.toList):=rfl
theorem cmpT_gtr(t t2:ByteArray):sgnB (Op.bytesLess t.toList t2.toList) (!Op.bytesLess t.toList t2.toList&&!t.toList==t2.toList)=cmpT t t2:=by
 rw[cmpT_sgn]
 cases h1:Op.bytesLess t.toList t2.toList
 ·cases h2:Op.bytesLess t2.toList t.toList
  ·rcases bl_tri t.toList t2.toList with h|h|h
   ·rw[h1]at h;cases h
   ·simp[h,sgnB]
   ·rw[h2]at h;cases h
  ·have hne:(t.toList==t2.toList)=false:=beq_eq_false_iff_ne.2 (fun e=>by rw[e,bl_irr]at h2;cases h2)
   rw[hne]
   rfl
 ·rfl
theorem cmpT_ne{t t2:ByteArray}(h:(t.toList==t2.toList)=false)(f:Int):orI (cmpT t t2) f=sgnB (Op.bytesLess t.toList t2.toList) true:=by
 have hne:¬cmpT t t2=0:=fun e=>by
  rw[cmpT_zero]at e
  rw[e]at h
  simp at h
 unfold orI
 rw[if_neg hne,cmpT_sgn]
 rw[cmpT_sgn]at hne
 revert hne
 cases Op.bytesLess t.toList t2.toList<;>cases Op.bytesLess t2.toList t.toList<;>simp[sgnB]
theorem cmpT_eq{t t2:ByteArray}(h:(t.toList==t2.toList)=true)(f:Int):orI (cmpT t t2) f=f:=by
 have e:cmpT t t2=0:=by
  unfold cmpT cmpL
  rw[beq_iff_eq]at h
  rw[h,bl_irr]
  rfl
 rw[e]
 rfl
theorem rrank_any(lang k:Int)(w:World):Calls Tryz.prog 129 #[.int .i64 lang,.int .i64 k] w fun e w'=>e=.returned (.int .i64 (rankV (decide (lang=1)) k))∧w'=w:=by
 rcases kinds k with rfl|rfl|rfl|rfl|rfl|rfl|rfl|rfl|rfl|rfl|rfl|⟨h0,h1,h2,h3,h4,h5,h6,h7,h8,h9,h10⟩
 ·by_cases hl:lang=1
  ·subst hl
   go_enter Tryz.func129,Tryz.ntmps129
   go_wp2
   go_ret
   exact⟨rfl,rfl⟩
  ·have hlb:(lang==1)=false:=beq_eq_false_iff_ne.2 hl
   rw[decide_eq_false hl]
   go_enter Tryz.func129,Tryz.ntmps129
   go_wp2
   go_ret
   exact⟨rfl,rfl⟩
 iterate 10
  ·go_enter Tryz.func129,Tryz.ntmps129
   go_wp2
   go_ret
   exact⟨rfl,rfl⟩
 ·have hp:rankV (decide (lang=1)) k=11:=by
   unfold rankV
   repeat' split
   all_goals omega
  rw[hp]
  clear hp
  have q0:(k==0)=false:=by simpa using h0
  have q1:(k==1)=false:=by simpa using h1
  have q2:(k==2)=false:=by simpa using h2
  have q3:(k==3)=false:=by simpa using h3
  have q4:(k==4)=false:=by simpa using h4
  have q5:(k==5)=false:=by simpa using h5
  have q6:(k==6)=false:=by simpa using h6
  have q7:(k==7)=false:=by simpa using h7
  have q8:(k==8)=false:=by simpa using h8
  have q9:(k==9)=false:=by simpa using h9
  have q10:(k==10)=false:=by simpa using h10
  clear h0 h1 h2 h3 h4 h5 h6 h7 h8 h9 h10
  go_enter Tryz.func129,Tryz.ntmps129
  go_wp2
  go_ret
  exact⟨rfl,rfl⟩
def ROrdX(N m:Nat)(lang:Int):Prop:=∀(w:World) (k:Int) (b:Bool) (n:Int) (hn:In64 n) (t x:ByteArray) (s:Value) (l:List V) (k2:Int) (bb:Bool) (n2:Int) (hn2:In64 n2) (t2 x2:ByteArray) (s2:Value) (l2:List V),t.size≤N→t2.size≤N→SizeOf.sizeOf l<m→LA w N s l→LA w N s2 l2 →
 Calls Tryz.prog 109 #[.int .i64 lang,agg6 k b n t x s,agg6 k2 bb n2 t2 x2 s2] w fun e w'=>e=.returned (.int .i64 (ordV (decide (lang=1)) (.mk k b n t x l) (.mk k2 bb n2 t2 x2 l2)))∧Below w.heap.size w w'
theorem rrows_call (N m : Nat) (hN : N ≤ 1048576) (lang : Int) (hs : ROrdX N m lang) (w : World) (s s2 : Value) (l l2 : List V) (hm : SizeOf.sizeOf l ≤ m) (ha : LA w N s l) (ha2 : LA w N s2 l2) :
 Calls Tryz.prog 66 #[.int .i64 lang,s,s2] w fun e w'=>e=.returned (.int .i64 (ordL (decide (lang=1)) l l2))∧Below w.heap.size w w':=by
 cases ha with
 |mk ao cap l hl h=>
 cases ha2 with
 | mk ao2 cap2 l2 hl2 h2 =>
  replace h:=Hd h
  replace h2:=Hd h2
  replace hs:=Hd hs
  have hLi:(l.length:Int)≤9223372036854775807:=by omega
  have hLi2:(l2.length:Int)≤9223372036854775807:=by omega
  go_enter Tryz.func66,Tryz.ntmps66
  go_wp2
  go_loopw [7] (fun v wr=>∃k:Nat,k≤l.length∧k≤l2.length∧v=.int .i64 k∧Hid (Below w.heap.size w wr)∧Hid (ordL (decide (lang=1)) l l2=ordL (decide (lang=1)) (l.drop k) (l2.drop k))) (fun v _=>l.length-(intOf v).toNat)
  case atStart=>exact⟨0,by omega,by omega,rfl,Below.refl _ _,by rw[List.drop_zero,List.drop_zero];exact Hd rfl⟩
  case round =>
   obtain⟨k,hk,hkk,rfl,hb,hpre⟩:=hrel
   by_cases hlt:k<l.length
   ·have hki:(k:Int)<(l.length:Int):=by omega
    by_cases hlt2:k<l2.length
    ·have hki2:¬(l2.length:Int)≤(k:Int):=by omega
     have hki3:(k:Int)<(l2.length:Int):=by omega
     have hel:=(h.out k (by omega)).stay hb.out
     rw[Nat.mul_comm 6 k]at hel
     have hel2:=(h2.out k (by omega)).stay hb.out
     rw[Nat.mul_comm 6 k]at hel2
     have hmem:SizeOf.sizeOf (l[k]'(by omega))<SizeOf.sizeOf l:=List.sizeOf_lt_of_mem (List.getElem_mem _)
     have hst:=hpre.out.trans (ordL_step _ l l2 k hlt hlt2)
     generalize l[k]'(by omega)=v at hel hmem hst
     generalize l2[k]'(by omega)=v2 at hel2 hst
     cases hel with
     |mk b off o k1 bo n t x l1 s hr hk1 hn ht hx hsl=>
     cases hel2 with
     | mk b2 off2 o2 k12 bo2 n2 t2 x2 l12 s2 hr2 hk12 hn2 ht2 hx2 hsl2 =>
      obtain⟨aoE,capE,rfl⟩:=LA.form6 hsl
      obtain⟨aoF,capF,rfl⟩:=LA.form6 hsl2
      have hm1:SizeOf.sizeOf l1<m:=by simp at hmem;omega
      have hcall:=Hd (fun V (hV:Below wr.heap.size wr V)=>hs.out V k1 bo n hn t x _ l1 k12 bo2 n2 hn2 t2 x2 _ l12 ht ht2 hm1 (hsl.stay hV) (hsl2.stay hV))
      unfold agg6 at hcall
      generalize ordV (decide (lang=1)) (.mk k1 bo n t x l1) (.mk k12 bo2 n2 t2 x2 l12)=c at hcall hst
      replace hst:=Hd hst
      replace hr:=Hd hr
      replace hr2:=Hd hr2
      clear hsl hsl2 hmem hpre
      go_upto_region 4 with fail
      refine wp_region_held_drew (S:=fun V=>Below wr.heap.size wr V) (by kernel_rfl) (below_drewN (Below.refl _ _) 1) (fun hS=>?_)
      have hV:=hS
      generalize wr.drew=V0 at *
      refine tkS [0,1,2,3] ?_
      iterate 4
       refine tkC ?_ rfl (fun w' hS=>?_) hS ?_
       rotate_left
       ·
        skip
        go_simp
        try with_reducible rfl
      refine tkH 4 ?_ rfl (fun w' hS=>?_) hS ?_
      rotate_left
      ·
       obtain⟨x0,x1,x2c,x3,x4,x5⟩:=(hr.out.below hS).six
       go_simp
       try with_reducible rfl
      refine tkS [5,6,7] ?_
      iterate 3
       refine tkC ?_ rfl (fun w' hS=>?_) hS ?_
       rotate_left
       ·
        skip
        go_simp
        try with_reducible rfl
      refine tkH 8 ?_ rfl (fun w' hS=>?_) hS ?_
      rotate_left
      ·
       obtain⟨y0,y1,y2,y3,y4,y5⟩:=(hr2.out.below hS).six
       go_simp
       try with_reducible rfl
      refine rdH 9 rfl (fun K hK=>?_)
      clear hS
      go_simp
      refine(hcall.out _ hV).mono ?_
      rintro e w2 ⟨rfl,hb2⟩
      go_wp2_with fail
      refine hKo hK (hV.trans (hb2.mono hV.size)) (fun hS=>?_)
      clear hK K
      have hb3:=Hd (hb.out.trans ((hV.trans (hb2.mono hV.size)).mono hb.out.size))
      refine tkH 10 ?_ rfl (fun w' hS=>?_) hS ?_
      rotate_left
      ·
       skip
       go_simp
       try with_reducible rfl
      refine wpAnyH_done (by kernel_rfl) ?_ _
      clear hS hb2 hcall hV hb hr hr2
      by_cases hc:c=0
      ·subst hc
       go_wp2
       go_roundw
       case rel=>exact⟨k+1,by omega,by omega,by go_num,hb3,by have:=hst.out;unfold orI at this;rw[if_pos rfl]at this;exact Hd this⟩
       case measure=>simp[intOf];omega
      ·have hcb:(c != 0)=true:=bne_iff_ne.2 hc
       have hst2:ordL (decide (lang=1)) l l2=c:=by have:=hst.out;unfold orI at this;rw[if_neg hc]at this;exact this
       replace hst2:=Hd hst2
       clear hst hc
       go_wp2
       go_ret
       exact⟨ret_int hst2.out.symm,hb3.out⟩
    ·have hki2:¬(k:Int)<(l2.length:Int):=by omega
     obtain rfl:k=l2.length:=by omega
     have hst:=Hd (hpre.out.trans (ordL_more _ l l2 _ hlt (Nat.le_refl _)))
     have hki3:(l2.length:Int)<(l.length:Int):=hki
     have hki4:¬(l.length:Int)<(l2.length:Int):=by omega
     clear hpre
     go_wp2_with (go_at_call 110;refine(rsign_any _ _ _).mono ?_;rintro e w' ⟨rfl,hw'⟩;rw[hw'];clear hw')
     go_ret
     exact⟨ret_int (hst.out.trans (by simp[sgnB,hki3,hki4])).symm,hb.out⟩
   ·have hki:¬(k:Int)<(l.length:Int):=by omega
    obtain rfl:k=l.length:=by omega
    by_cases hlt2:l.length<l2.length
    ·have hst:=Hd (hpre.out.trans (ordL_less _ l l2 _ (Nat.le_refl _) hlt2))
     have hki2:(l.length:Int)<(l2.length:Int):=by omega
     have hki4:¬(l2.length:Int)<(l.length:Int):=by omega
     clear hpre
     go_wp2_with (go_at_call 110;refine(rsign_any _ _ _).mono ?_;rintro e w' ⟨rfl,hw'⟩;rw[hw'];clear hw')
     go_ret
     exact⟨ret_int (hst.out.trans (by simp[sgnB,hki2,hki4])).symm,hb.out⟩
    ·have hst:=Hd (hpre.out.trans (ordL_done _ l l2 _ (Nat.le_refl _) (by omega)))
     have hki2:¬(l.length:Int)<(l2.length:Int):=by omega
     have hki4:¬(l2.length:Int)<(l.length:Int):=by omega
     clear hpre
     go_wp2_with (go_at_call 110;refine(rsign_any _ _ _).mono ?_;rintro e w' ⟨rfl,hw'⟩;rw[hw'];clear hw')
     go_ret
     exact⟨ret_int (hst.out.trans (by simp[sgnB,hki2,hki4])).symm,hb.out⟩
theorem rord_all(N:Nat)(hN:N≤1048576)(lang:Int):∀m,ROrdX N m lang:=by
 intro m
 induction m with
 |zero=>intro w k b n hn t x s l k2 bb n2 hn2 t2 x2 s2 l2 ht ht2 hm;omega
 | succ m ih =>
  intro w k b n hn t x s l k2 bb n2 hn2 t2 x2 s2 l2 ht ht2 hm ha ha2
  obtain⟨ao,cap,rfl⟩:=LA.form6 ha
  obtain⟨ao2,cap2,rfl⟩:=LA.form6 ha2
  have h2:=B2.made w #[.int .i64 k,.bool b,.int .i64 n,.string t,.string x,.slice ao l.length cap] #[.int .i64 k2,.bool bb,.int .i64 n2,.string t2,.string x2,.slice ao2 l2.length cap2]
  have hrows:=Hd (fun W (hb:Below w.heap.size w W)=>rrows_call N m hN lang ih W _ _ l l2 (by omega) (ha.stay hb) (ha2.stay hb))
  have hd1:=Hd (fun W=>rdec_call k b n hn t x (.slice ao l.length cap) W (by omega))
  have hd2:=Hd (fun W=>rdec_call k2 bb n2 hn2 t2 x2 (.slice ao2 l2.length cap2) W (by omega))
  rw[ordV_mk (decide (lang=1)) k b n t x l k2 bb n2 t2 x2 l2]
  have hk:=Hd (fun k' W=>rrank_any lang k' W)
  obtain⟨sb,hsb⟩:∃c,decide (lang=1)=c:=⟨_,rfl⟩
  rw[hsb]at hk hrows ⊢
  obtain⟨r1,hr1⟩:∃r,rankV sb k=r:=⟨_,rfl⟩
  obtain⟨r2,hr2⟩:∃r,rankV sb k2=r:=⟨_,rfl⟩
  rw[hr1,hr2]
  clear ha ha2 ih hsb
  generalize ordL sb l l2=oL at *
  unfold agg6 at hd1 hd2 ⊢
  have hr1o:=hr1
  have hr2o:=hr2
  replace hr1:=Hd hr1
  replace hr2:=Hd hr2
  have h2b:=Hd h2.below
  have x0:=h2.b0.cell 0 rfl
  have x1:=h2.b0.cell 1 rfl
  have x2c:=h2.b0.cell 2 rfl
  have x3:=h2.b0.cell 3 rfl
  have x4:=h2.b0.cell 4 rfl
  have x5:=h2.b0.cell 5 rfl
  have y0:=h2.b1.cell 0 rfl
  have y1:=h2.b1.cell 1 rfl
  have y2:=h2.b1.cell 2 rfl
  have y3:=h2.b1.cell 3 rfl
  have y4:=h2.b1.cell 4 rfl
  have y5:=h2.b1.cell 5 rfl
  by_cases hrr:r1=r2
  case neg=>
   have hnb:(r1 != r2)=true:=bne_iff_ne.2 hrr
   have hR2:orI (cmpI r1 r2) (restV k n b t x oL k2 n2 bb t2 x2)=sgnB (decide (r1<r2)) true:=by
    unfold orI
    rw[if_neg (fun h=>hrr ((cmpI_zero _ _).1 h)),cmpI_sgn]
    by_cases hlt:r1<r2
    ·rw[decide_eq_true hlt];rfl
    ·rw[decide_eq_false hlt,decide_eq_true (show r2<r1 by omega)]
   replace hR2:=Hd hR2
   clear hrr h2 hd1 hd2 hrows
   go_enter Tryz.func109,Tryz.ntmps109
   go_wp2_with (first|(go_at_call 129;refine(hk.out _ _).mono ?_;rintro e w' ⟨rfl,hw'⟩;rw[hw'];clear hw')|(go_at_call 110;refine(rsign_any _ _ _).mono ?_;rintro e w' ⟨rfl,hw'⟩;rw[hw'];clear hw'))
   go_ret
   exact⟨ret_int hR2.out.symm,h2b.out⟩
  subst hrr
  have hcl:=cls (hr1.out.trans hr2.out.symm)
  rw[show orI (cmpI r1 r1) (restV k n b t x oL k2 n2 bb t2 x2)=restV k n b t x oL k2 n2 bb t2 x2 by rw[cmpI_self];rfl]
  by_cases h9:r1=9
  ·subst h9
   have e1:=(rank_9 _ _).1 hr1.out
   have e2:=(rank_9 _ _).1 hr2.out
   have hnum:=(isNum_iff k).2 e1
   obtain⟨Z1,hZ1⟩:∃z,numV k n t=z:=⟨_,rfl⟩
   obtain⟨Z2,hZ2⟩:∃z,numV k2 n2 t2=z:=⟨_,rfl⟩
   rw[hZ1]at hd1
   rw[hZ2]at hd2
   unfold restV
   rw[if_pos hnum,hZ1,hZ2]
   obtain⟨Q,hQ⟩:∃q,cmpI Z1 Z2=q:=⟨_,rfl⟩
   rw[hQ]
   obtain⟨R,hR⟩:∃R,orI Q (if(k:Int)=2∨k2=2 then cmpI k k2 else cmpT t t2)=R:=⟨_,rfl⟩
   rw[hR]
   replace hR:=Hd hR
   have hcm:=Hd (fun(u u2:ByteArray) (W:World) (hu:chk u.data.toList=true∧zof u.data.toList=Z1) (hu2:chk u2.data.toList=true∧zof u2.data.toList=Z2)=>(show cmpR u.data.toList u2.data.toList=Q by unfold cmpR;rw[hu.1,hu2.1,hu.2,hu2.2];exact hQ) ▸ refcmp_call u u2 W (by have:=chk_sz u hu.1;omega) (by have:=chk_sz u2 hu2.1;omega))
   replace hQ:=Hd hQ
   replace hZ1:=Hd hZ1
   replace hZ2:=Hd hZ2
   replace e1:=Hd e1
   replace e2:=Hd e2
   clear hnum hcl hrows
   go_enter Tryz.func109,Tryz.ntmps109
   go_upto_region 7 with(go_at_call 129;refine(hk.out _ _).mono ?_;rintro e w' ⟨rfl,hw'⟩;rw[hw'];clear hw')
   clear hk hr1o hr2o x0 x1 x2c x3 x4 x5 y0 y1 y2 y3 y4 y5
   generalize (w.alloc (.cells #[.int .i64 k,.bool b,.int .i64 n,.string t,.string x,.slice ao l.length cap] 52)).alloc (.cells #[.int .i64 k2,.bool bb,.int .i64 n2,.string t2,.string x2,.slice ao2 l2.length cap2] 52)=W1 at *
   have hd:B2 w W1.drew #[.int .i64 k,.bool b,.int .i64 n,.string t,.string x,.slice ao l.length cap] #[.int .i64 k2,.bool bb,.int .i64 n2,.string t2,.string x2,.slice ao2 l2.length cap2]:=h2.on (below_drewN (Below.refl _ _) 1)
   clear h2
   refine wp_region_held_drew (S:=fun V=>B2 w V #[.int .i64 k,.bool b,.int .i64 n,.string t,.string x,.slice ao l.length cap] #[.int .i64 k2,.bool bb,.int .i64 n2,.string t2,.string x2,.slice ao2 l2.length cap2]) (by kernel_rfl) hd (fun hS=>?_)
   have hV:=hd
   clear hd
   generalize W1.drew=V0 at *
   refine tkH 0 ?_ rfl (fun w' hS=>?_) hS ?_
   rotate_left
   ·
    have x0:=hS.b0.cell 0 rfl
    have x1:=hS.b0.cell 1 rfl
    have x2c:=hS.b0.cell 2 rfl
    have x3:=hS.b0.cell 3 rfl
    have x4:=hS.b0.cell 4 rfl
    have x5:=hS.b0.cell 5 rfl
    go_simp
    try with_reducible rfl
   refine tkH 2 ?_ rfl (fun w' hS=>?_) hS ?_
   rotate_left
   ·
    have y0:=hS.b1.cell 0 rfl
    have y1:=hS.b1.cell 1 rfl
    have y2:=hS.b1.cell 2 rfl
    have y3:=hS.b1.cell 3 rfl
    have y4:=hS.b1.cell 4 rfl
    have y5:=hS.b1.cell 5 rfl
    go_simp
    try with_reducible rfl
   refine rdH 1 rfl (fun K hK=>?_)
   clear hS
   go_simp
   refine(hd1.out _).mono ?_
   rintro e w5 ⟨u,rfl,hu,hb5⟩
   go_wp2_with fail
   refine hKo hK (hV.on hb5) (fun hS=>?_)
   clear hK K
   have hV5:=hV.on hb5
   replace hu:=Hd hu
   refine rdH 3 rfl (fun K hK=>?_)
   clear hS
   go_simp
   refine(hd2.out _).mono ?_
   rintro e w6 ⟨u2,rfl,hu2,hb6⟩
   go_wp2_with fail
   refine hKo hK (hV5.on hb6) (fun hS=>?_)
   clear hK K
   have hV6:=hV5.on hb6
   replace hu2:=Hd hu2
   refine rdH 4 rfl (fun K hK=>?_)
   clear hS
   go_simp
   refine(hcm.out _ _ _ hu.out hu2.out).mono ?_
   rintro e w7 ⟨rfl,hb7⟩
   go_wp2_with fail
   refine hKo hK (hV6.on hb7) (fun hS=>?_)
   clear hK K
   have hV7:=Hd (hV6.on hb7)
   refine tkH 5 ?_ rfl (fun w' hS=>?_) hS ?_
   rotate_left
   ·
    skip
    go_simp
    try with_reducible rfl
   refine wpAnyH_done (by kernel_rfl) ?_ _
   clear hS hV hV5 hV6 hb5 hb6 hb7 hd1 hd2 hcm hu hu2
   replace hR:=hR.out
   by_cases hq:Q=0
   case neg=>
    have hqb:(Q==0)=false:=beq_eq_false_iff_ne.2 hq
    have hR2:Q=R:=by rw[←hR];unfold orI;rw[if_neg hq]
    replace hR2:=Hd hR2
    clear hR hq
    have hs1:∀b,sgnB true b=-1:=fun b=>rfl
    have hs2:sgnB false true=1:=rfl
    have hs3:sgnB false false=0:=rfl
    have x0:=hV7.out.b0.cell 0 rfl
    have x1:=hV7.out.b0.cell 1 rfl
    have x2c:=hV7.out.b0.cell 2 rfl
    have x3:=hV7.out.b0.cell 3 rfl
    have x4:=hV7.out.b0.cell 4 rfl
    have x5:=hV7.out.b0.cell 5 rfl
    have y0:=hV7.out.b1.cell 0 rfl
    have y1:=hV7.out.b1.cell 1 rfl
    have y2:=hV7.out.b1.cell 2 rfl
    have y3:=hV7.out.b1.cell 3 rfl
    have y4:=hV7.out.b1.cell 4 rfl
    have y5:=hV7.out.b1.cell 5 rfl
    go_wp2_with (go_at_call 110;refine(rsign_any _ _ _).mono ?_;rintro e w' ⟨rfl,hw'⟩;rw[hw'];clear hw')
    go_ret
    exact⟨ret_int (hR2.out),hV7.out.below⟩
   subst hq
   rw[show orI 0 (if(k:Int)=2∨k2=2 then cmpI k k2 else cmpT t t2)=(if(k:Int)=2∨k2=2 then cmpI k k2 else cmpT t t2) from rfl]at hR
   rcases e1.out with rfl|rfl
   ·rw[if_pos (.inl rfl)]at hR
    rcases e2.out with rfl|rfl
    ·have hR2:(0:Int)=R:=hR
     replace hR2:=Hd hR2
     clear hR
     have hs1:∀b,sgnB true b=-1:=fun b=>rfl
     have hs2:sgnB false true=1:=rfl
     have hs3:sgnB false false=0:=rfl
     have x0:=hV7.out.b0.cell 0 rfl
     have x1:=hV7.out.b0.cell 1 rfl
     have x2c:=hV7.out.b0.cell 2 rfl
     have x3:=hV7.out.b0.cell 3 rfl
     have x4:=hV7.out.b0.cell 4 rfl
     have x5:=hV7.out.b0.cell 5 rfl
     have y0:=hV7.out.b1.cell 0 rfl
     have y1:=hV7.out.b1.cell 1 rfl
     have y2:=hV7.out.b1.cell 2 rfl
     have y3:=hV7.out.b1.cell 3 rfl
     have y4:=hV7.out.b1.cell 4 rfl
     have y5:=hV7.out.b1.cell 5 rfl
     go_wp2_with (go_at_call 110;refine(rsign_any _ _ _).mono ?_;rintro e w' ⟨rfl,hw'⟩;rw[hw'];clear hw')
     go_ret
     exact⟨ret_int (hR2.out),hV7.out.below⟩
    ·have hR2:(-1:Int)=R:=hR
     replace hR2:=Hd hR2
     clear hR
     have hs1:∀b,sgnB true b=-1:=fun b=>rfl
     have hs2:sgnB false true=1:=rfl
     have hs3:sgnB false false=0:=rfl
     have x0:=hV7.out.b0.cell 0 rfl
     have x1:=hV7.out.b0.cell 1 rfl
     have x2c:=hV7.out.b0.cell 2 rfl
     have x3:=hV7.out.b0.cell 3 rfl
     have x4:=hV7.out.b0.cell 4 rfl
     have x5:=hV7.out.b0.cell 5 rfl
     have y0:=hV7.out.b1.cell 0 rfl
     have y1:=hV7.out.b1.cell 1 rfl
     have y2:=hV7.out.b1.cell 2 rfl
     have y3:=hV7.out.b1.cell 3 rfl
     have y4:=hV7.out.b1.cell 4 rfl
     have y5:=hV7.out.b1.cell 5 rfl
     go_wp2_with (go_at_call 110;refine(rsign_any _ _ _).mono ?_;rintro e w' ⟨rfl,hw'⟩;rw[hw'];clear hw')
     go_ret
     exact⟨ret_int (hR2.out),hV7.out.below⟩
   ·rcases e2.out with rfl|rfl
    ·rw[if_pos (.inr rfl)]at hR
     have hR2:(1:Int)=R:=hR
     replace hR2:=Hd hR2
     clear hR
     have hs1:∀b,sgnB true b=-1:=fun b=>rfl
     have hs2:sgnB false true=1:=rfl
     have hs3:sgnB false false=0:=rfl
     have x0:=hV7.out.b0.cell 0 rfl
     have x1:=hV7.out.b0.cell 1 rfl
     have x2c:=hV7.out.b0.cell 2 rfl
     have x3:=hV7.out.b0.cell 3 rfl
     have x4:=hV7.out.b0.cell 4 rfl
     have x5:=hV7.out.b0.cell 5 rfl
     have y0:=hV7.out.b1.cell 0 rfl
     have y1:=hV7.out.b1.cell 1 rfl
     have y2:=hV7.out.b1.cell 2 rfl
     have y3:=hV7.out.b1.cell 3 rfl
     have y4:=hV7.out.b1.cell 4 rfl
     have y5:=hV7.out.b1.cell 5 rfl
     go_wp2_with (go_at_call 110;refine(rsign_any _ _ _).mono ?_;rintro e w' ⟨rfl,hw'⟩;rw[hw'];clear hw')
     go_ret
     exact⟨ret_int (hR2.out),hV7.out.below⟩
    ·rw[if_neg (by omega),←cmpT_gtr]at hR
     have hR2:=Hd hR
     clear hR
     have hs1:∀b,sgnB true b=-1:=fun b=>rfl
     have hs2:sgnB false true=1:=rfl
     have hs3:sgnB false false=0:=rfl
     have x0:=hV7.out.b0.cell 0 rfl
     have x1:=hV7.out.b0.cell 1 rfl
     have x2c:=hV7.out.b0.cell 2 rfl
     have x3:=hV7.out.b0.cell 3 rfl
     have x4:=hV7.out.b0.cell 4 rfl
     have x5:=hV7.out.b0.cell 5 rfl
     have y0:=hV7.out.b1.cell 0 rfl
     have y1:=hV7.out.b1.cell 1 rfl
     have y2:=hV7.out.b1.cell 2 rfl
     have y3:=hV7.out.b1.cell 3 rfl
     have y4:=hV7.out.b1.cell 4 rfl
     have y5:=hV7.out.b1.cell 5 rfl
     go_wp2_with (go_at_call 110;refine(rsign_any _ _ _).mono ?_;rintro e w' ⟨rfl,hw'⟩;rw[hw'];clear hw')
     go_ret
     exact⟨ret_int (hR2.out),hV7.out.below⟩
  have n9:(r1==9)=false:=beq_eq_false_iff_ne.2 h9
  have hnum:¬isNum k=true:=fun h=>h9 (hr1.out.symm.trans ((rank_9 _ _).2 ((isNum_iff k).1 h)))
  unfold restV
  rw[if_neg hnum]
  by_cases h1:r1=1
  ·subst h1
   rw[if_pos ((rank_1 _ _).1 hr1.out)]
   clear h9 hcl hnum hd1 hd2 n9 h2
   go_enter Tryz.func109,Tryz.ntmps109
   go_wp2_with (first|(go_at_call 129;refine(hk.out _ _).mono ?_;rintro e w' ⟨rfl,hw'⟩;rw[hw'];clear hw')|(go_at_call 66;refine(hrows.out _ h2b.out).mono ?_;rintro e w5 ⟨rfl,hb5⟩))
   go_ret
   exact⟨rfl,h2b.out.trans (hb5.mono h2b.out.size)⟩
  have n1:(r1==1)=false:=beq_eq_false_iff_ne.2 h1
  rw[if_neg (fun h=>h1 (hr1.out.symm.trans ((rank_1 _ _).2 h)))]
  by_cases h23:r1=2∨r1=3
  ·have hk67:k=6∨k=7:=by
    rcases h23 with h|h
    ·exact .inl ((rank_2 _ _).1 (hr1.out.trans h))
    ·exact .inr ((rank_3 _ _).1 (hr1.out.trans h))
   rw[if_pos hk67,cmpI_sgn]
   clear hk67 h9 hcl hnum hd1 hd2 h2 hrows h1
   rcases h23 with rfl|rfl
   ·go_enter Tryz.func109,Tryz.ntmps109
    go_wp2_with (first|(go_at_call 129;refine(hk.out _ _).mono ?_;rintro e w' ⟨rfl,hw'⟩;rw[hw'];clear hw')|(go_at_call 110;refine(rsign_any _ _ _).mono ?_;rintro e w' ⟨rfl,hw'⟩;rw[hw'];clear hw'))
    go_ret
    exact⟨rfl,h2b.out⟩
   ·go_enter Tryz.func109,Tryz.ntmps109
    go_wp2_with (first|(go_at_call 129;refine(hk.out _ _).mono ?_;rintro e w' ⟨rfl,hw'⟩;rw[hw'];clear hw')|(go_at_call 110;refine(rsign_any _ _ _).mono ?_;rintro e w' ⟨rfl,hw'⟩;rw[hw'];clear hw'))
    go_ret
    exact⟨rfl,h2b.out⟩
  have n2':(r1==2)=false:=beq_eq_false_iff_ne.2 (fun h=>h23 (.inl h))
  have n3:(r1==3)=false:=beq_eq_false_iff_ne.2 (fun h=>h23 (.inr h))
  have hn67:¬(k=6∨k=7):=by
   rintro(h|h)
   ·exact h23 (.inl (hr1.out.symm.trans ((rank_2 _ _).2 h)))
   ·exact h23 (.inr (hr1.out.symm.trans ((rank_3 _ _).2 h)))
  rw[if_neg hn67]
  by_cases h8:r1=8
  ·subst h8
   rw[if_pos ((rank_8 _ _).1 hr1.out)]
   clear h9 hcl hnum hd1 hd2 h2 hrows h1 h23 hn67
   cases b<;>cases bb
   all_goals
    go_enter Tryz.func109,Tryz.ntmps109
    go_wp2_with (first|(go_at_call 129;refine(hk.out _ _).mono ?_;rintro e w' ⟨rfl,hw'⟩;rw[hw'];clear hw')|(go_at_call 110;refine(rsign_any _ _ _).mono ?_;rintro e w' ⟨rfl,hw'⟩;rw[hw'];clear hw'))
    go_ret
    exact⟨rfl,h2b.out⟩
  have n8:(r1==8)=false:=beq_eq_false_iff_ne.2 h8
  rw[if_neg (fun h=>h8 (hr1.out.symm.trans ((rank_8 _ _).2 h)))]
  clear h9 hcl hnum hd1 hd2 h2 hrows h1 h23 hn67 h8
  cases heq:(t.toList==t2.toList) with
  |false=>
   rw[cmpT_ne heq]
   go_enter Tryz.func109,Tryz.ntmps109
   go_wp2_with (first|(go_at_call 129;refine(hk.out _ _).mono ?_;rintro e w' ⟨rfl,hw'⟩;rw[hw'];clear hw')|(go_at_call 110;refine(rsign_any _ _ _).mono ?_;rintro e w' ⟨rfl,hw'⟩;rw[hw'];clear hw'))
   go_ret
   exact⟨rfl,h2b.out⟩
  |true=>
   rw[cmpT_eq heq]
   go_enter Tryz.func109,Tryz.ntmps109
   go_wp2_with (first|(go_at_call 129;refine(hk.out _ _).mono ?_;rintro e w' ⟨rfl,hw'⟩;rw[hw'];clear hw')|(go_at_call 110;refine(rsign_any _ _ _).mono ?_;rintro e w' ⟨rfl,hw'⟩;rw[hw'];clear hw'))
   go_ret
   exact⟨ret_int (cmpT_gtr x x2),h2b.out⟩
end Go.Proofs.YtidplkfhodpdhaaGreatDoor.val
