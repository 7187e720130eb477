/- Texts VCmp, ValCmp, VNum, VOrder, one behind the other. -/
import Derived.Test.YtidplkfhodpdhaaGreatDoorDecCmpA
set_option linter.unusedSimpArgs false
set_option linter.unusedVariables false
set_option maxRecDepth 100000
set_option maxHeartbeats 2000000
namespace Go.Proofs.YtidplkfhodpdhaaGreatDoor.val
open Go.ChangeShapes Go.WideShapes Go.ChangeAt Go.RowKit kit dec
theorem nanInt_any(a:Int)(w:World):Calls Tryz.prog 124 #[.int .i64 a] w fun e w'=>e=.returned (.bool false)∧w'=w:=by
 go_enter Tryz.func124,Tryz.ntmps124
 go_wp2
 go_ret
 exact⟨ret_bool (by simp),rfl⟩
theorem nanStr_any(a:ByteArray)(w:World):Calls Tryz.prog 127 #[.string a] w fun e w'=>e=.returned (.bool false)∧w'=w:=by
 go_enter Tryz.func127,Tryz.ntmps127
 go_wp2
 go_ret
 exact⟨ret_bool (by simp),rfl⟩
theorem cmpInt_any(a b:Int)(w:World):Calls Tryz.prog 99 #[.int .i64 a,.int .i64 b] w fun e w'=>e=.returned (.int .i64 (cmpI a b))∧w'=w:=by
 by_cases h:a<b
 ·have hc:cmpI a b=-1:=by unfold cmpI;rw[if_neg (by omega),if_pos h]
  rw[hc]
  clear hc
  go_enter Tryz.func99,Tryz.ntmps99
  go_wp2_with (go_at_call 124;refine(nanInt_any _ _).mono ?_;rintro e w' ⟨rfl,rfl⟩)
  go_ret
  exact⟨rfl,rfl⟩
 ·by_cases h2:b<a
  ·have hc:cmpI a b=1:=by unfold cmpI;rw[if_neg (by omega),if_neg h]
   rw[hc]
   clear hc
   go_enter Tryz.func99,Tryz.ntmps99
   go_wp2_with (go_at_call 124;refine(nanInt_any _ _).mono ?_;rintro e w' ⟨rfl,rfl⟩)
   go_ret
   exact⟨rfl,rfl⟩
  ·have hc:cmpI a b=0:=by unfold cmpI;rw[if_pos (by omega)]
   rw[hc]
   clear hc
   go_enter Tryz.func99,Tryz.ntmps99
   go_wp2_with (go_at_call 124;refine(nanInt_any _ _).mono ?_;rintro e w' ⟨rfl,rfl⟩)
   go_ret
   exact⟨rfl,rfl⟩
theorem cmpStr_any(a b:ByteArray)(w:World):Calls Tryz.prog 103 #[.string a,.string b] w fun e w'=>e=.returned (.int .i64 (cmpT a b))∧w'=w:=by
 unfold cmpT cmpL
 cases h:Op.bytesLess a.toList b.toList
 ·cases h2:Op.bytesLess b.toList a.toList
  ·have heq:(a.toList==b.toList)=true:=by
    rw[beq_iff_eq]
    rcases bl_tri a.toList b.toList with e|e|e
    ·rw[h]at e;cases e
    ·exact e
    ·rw[h2]at e;cases e
   rw[if_neg (by decide),if_neg (by decide)]
   go_enter Tryz.func103,Tryz.ntmps103
   go_wp2_with (go_at_call 127;refine(nanStr_any _ _).mono ?_;rintro e w' ⟨rfl,rfl⟩)
   go_ret
   exact⟨rfl,rfl⟩
  ·have heq:(a.toList==b.toList)=false:=by
    apply beq_eq_false_iff_ne.2
    intro e
    rw[e,bl_irr]at h2;cases h2
   rw[if_neg (by decide),if_pos rfl]
   go_enter Tryz.func103,Tryz.ntmps103
   go_wp2_with (go_at_call 127;refine(nanStr_any _ _).mono ?_;rintro e w' ⟨rfl,rfl⟩)
   go_ret
   exact⟨rfl,rfl⟩
 ·rw[if_pos rfl]
  go_enter Tryz.func103,Tryz.ntmps103
  go_wp2_with (go_at_call 127;refine(nanStr_any _ _).mono ?_;rintro e w' ⟨rfl,rfl⟩)
  go_ret
  exact⟨rfl,rfl⟩
theorem or_any(b:Nat)(p q:Int)(w:World)(h0:w.cell? ⟨b,0,none⟩=some (.int .i64 p))(h1:w.cell? ⟨b,1,none⟩=some (.int .i64 q)):
 Calls Tryz.prog 108 #[.slice (some ⟨b,0,none⟩) 2 2] w fun e w'=>e=.returned (.int .i64 (orI p q))∧w'=w:=by
 go_enter Tryz.func108,Tryz.ntmps108
 go_wp2
 go_loop [8] (fun v=>∃j:Nat,v=.int .i64 j∧(j=0∨(j=1∧p=0)∨(j=2∧p=0∧q=0))) (fun v=>2-(intOf v).toNat)
 case atStart=>exact⟨0,rfl,.inl rfl⟩
 case round=>
  obtain⟨j,rfl,hj⟩:=hrel
  rcases hj with rfl|⟨rfl,hp⟩|⟨rfl,hp,hq⟩
  ·by_cases hp:p=0
   ·subst hp
    go_wp2
    go_round
    case rel=>exact⟨1,by go_num,by simp⟩
    case measure=>simp[intOf]
   ·have hpb:(p != 0)=true:=bne_iff_ne.2 hp
    go_wp2
    go_ret
    exact⟨ret_int (by unfold orI;rw[if_neg hp]),rfl⟩
  ·subst hp
   by_cases hq:q=0
   ·subst hq
    go_wp2
    go_round
    case rel=>exact⟨2,by go_num,by simp⟩
    case measure=>simp[intOf]
   ·have hqb:(q != 0)=true:=bne_iff_ne.2 hq
    go_wp2
    go_ret
    exact⟨ret_int (by unfold orI;rw[if_pos rfl]),rfl⟩
  ·subst hp hq
   go_wp2
   go_ret
   exact⟨ret_int (by rfl),rfl⟩
theorem rank_any(lang k:Int)(b:Bool)(n:Int)(t x:ByteArray)(s:Value)(w:World):Calls Tryz.prog 100 #[.int .i64 lang,agg6 k b n t x s] w fun e w'=>e=.returned (.int .i64 (rankV (decide (lang=1)) k))∧Below w.heap.size w w':=by
 unfold agg6
 have hb:Below w.heap.size w (w.alloc (.cells #[.int .i64 k,.bool b,.int .i64 n,.string t,.string x,s] 52)):=(Below.refl _ _).alloc (Nat.le_refl _) _
 replace hb:=Hd hb
 rcases kinds k with rfl|rfl|rfl|rfl|rfl|rfl|rfl|rfl|rfl|rfl|rfl|⟨h0,h1,h2,h3,h4,h5,h6,h7,h8,h9,h10⟩
 ·by_cases hl:lang=1
  ·subst hl
   go_enter Tryz.func100,Tryz.ntmps100
   go_wp2
   go_ret
   exact⟨rfl,hb.out⟩
  ·have hlb:(lang==1)=false:=beq_eq_false_iff_ne.2 hl
   rw[decide_eq_false hl]
   go_enter Tryz.func100,Tryz.ntmps100
   go_wp2
   go_ret
   exact⟨rfl,hb.out⟩
 iterate 10
  ·go_enter Tryz.func100,Tryz.ntmps100
   go_wp2
   go_ret
   exact⟨rfl,hb.out⟩
 ·have hp:rankV (decide (lang=1)) k=11:=by
   unfold rankV
   repeat' split
   all_goals omega
  rw[hp]
  clear hp
  have q0:(k==0)=false:=by simpa using h0
  have q1:(k==1)=false:=by simpa using h1
  have q2:(k==2)=false:=by simpa using h2
  have q3:(k==3)=false:=by simpa using h3
  have q4:(k==4)=false:=by simpa using h4
  have q5:(k==5)=false:=by simpa using h5
  have q6:(k==6)=false:=by simpa using h6
  have q7:(k==7)=false:=by simpa using h7
  have q8:(k==8)=false:=by simpa using h8
  have q9:(k==9)=false:=by simpa using h9
  have q10:(k==10)=false:=by simpa using h10
  clear h0 h1 h2 h3 h4 h5 h6 h7 h8 h9 h10
  go_enter Tryz.func100,Tryz.ntmps100
  go_wp2
  go_ret
  exact⟨rfl,hb.out⟩
theorem cmp_e20(n m:Int)(t u:ByteArray):cmpI (numV 2 n t) (numV 2 m u)=cmpI n m:=by
 have hp:=E20_pos
 have h0:(0:Int)<(E20:Int):=by omega
 unfold numV
 rw[if_pos rfl,if_pos rfl]
 unfold cmpI
 by_cases h:n=m
 ·rw[if_pos h,if_pos (by rw[h])]
 ·rw[if_neg h,if_neg (fun e=>h (Int.eq_of_mul_eq_mul_right (by omega) e))]
  by_cases h2:n<m
  ·rw[if_pos h2,if_pos (Int.mul_lt_mul_of_pos_right h2 h0)]
  ·rw[if_neg h2,if_neg (fun e=>h2 (Int.lt_of_mul_lt_mul_right e (Int.le_of_lt h0)))]
theorem exact_call(k:Int)(b:Bool)(n:Int)(hn:In64 n)(t x:ByteArray)(s:Value)(w:World)(hE:EnvD w):Calls Tryz.prog 126 #[agg6 k b n t x s] w fun e w'=>∃u:ByteArray,e=.returned (.string u)∧(chk u.data.toList=true∧zof u.data.toList=numV k n t)∧Below w.heap.size w w':=by
 have hb:Below w.heap.size w (w.alloc (.cells #[.int .i64 k,.bool b,.int .i64 n,.string t,.string x,s] 52)):=(Below.refl _ _).alloc (Nat.le_refl _) _
 have hof:=ofInt_call n (w.alloc (.cells #[.int .i64 k,.bool b,.int .i64 n,.string t,.string x,s] 52)) (hE.below hb) hn.1 hn.2
 have hck:=chk_any t (w.alloc (.cells #[.int .i64 k,.bool b,.int .i64 n,.string t,.string x,s] 52)) (hE.env.below hb)
 have hbk:Blk (w.alloc (.cells #[.int .i64 k,.bool b,.int .i64 n,.string t,.string x,s] 52)) w.heap.size #[.int .i64 k,.bool b,.int .i64 n,.string t,.string x,s] 52:=Blk.new _ _ _
 have h1:chk (tx (canon (n * E20))).data.toList=true∧zof (tx (canon (n * E20))).data.toList=n * E20:=⟨chk_canon _ (ofInt_small n hn.1 hn.2),zof_canon _ (ofInt_small n hn.1 hn.2)⟩
 have h0:chk [48,46,48]=true∧zof [48,46,48]=0:=by
  rw[show([48,46,48]:List UInt8)=canon 0 by kernel_rfl]
  exact⟨chk_canon 0 (by unfold small top;decide),zof_canon 0 (by unfold small top;decide)⟩
 have h3:∀c,chk t.data.toList=c→(c=true→chk t.data.toList=true∧zof t.data.toList=(if chk t.data.toList then zof t.data.toList else 0))∧(c=false→(0:Int)=(if chk t.data.toList then zof t.data.toList else 0)):=fun c hc=>⟨fun h=>by rw[hc,h];exact⟨rfl,rfl⟩,fun h=>by rw[hc,h];rfl⟩
 unfold numV
 generalize canon (n * E20)=R at *
 obtain⟨c,hc⟩:∃c,chk t.data.toList=c:=⟨_,rfl⟩
 have h4:=h3 c hc
 rw[hc]at hck
 replace h0:=Hd h0
 replace h1:=Hd h1
 replace h4:=Hd h4
 clear h3 hc
 replace hof:=Hd hof
 replace hck:=Hd hck
 unfold agg6
 by_cases h2:k=2
 ·subst h2
  go_enter Tryz.func126,Tryz.ntmps126
  go_wp2_with fail
  refine hof.out.mono ?_
  rintro e w2 ⟨rfl,hb2⟩
  go_wp2
  go_ret
  exact⟨_,rfl,h1.out,hb.trans (hb2.mono hb.size)⟩
 ·have q2:(k==2)=false:=by simpa using h2
  rw[if_neg h2]
  clear h2 hof h1
  generalize (if chk t.data.toList=true then zof t.data.toList else 0)=Z at *
  cases c
  ·go_enter Tryz.func126,Tryz.ntmps126
   go_wp2_with fail
   refine hck.out.mono ?_
   rintro e w2 ⟨rfl,hb2⟩
   go_wp2
   go_ret
   exact⟨_,rfl,⟨h0.out.1,h0.out.2.trans (h4.out.2 (by simp))⟩,hb.trans (hb2.mono hb.size)⟩
  ·go_enter Tryz.func126,Tryz.ntmps126
   go_wp2_with fail
   refine hck.out.mono ?_
   rintro e w2 ⟨rfl,hb2⟩
   have c3:w2.cell? ⟨w.heap.size,3,none⟩=some (.string t):=(hbk.keep (Keep.ofBelow hb2) (by simp)).cell 3 rfl
   go_wp2
   go_ret
   exact⟨_,rfl,h4.out.1 (by simp),hb.trans (hb2.mono hb.size)⟩
theorem compare_call(k:Int)(b:Bool)(n:Int)(hn:In64 n)(t x:ByteArray)(s:Value)(k2:Int)(bb:Bool)(n2:Int)(hn2:In64 n2)(t2 x2:ByteArray)(s2:Value)(w:World)(hE:EnvD w):
 Calls Tryz.prog 102 #[agg6 k b n t x s,agg6 k2 bb n2 t2 x2 s2] w fun e w'=>e=.returned (.int .i64 (cmpI (numV k n t) (numV k2 n2 t2)))∧Below w.heap.size w w':=by
 have h2:=B2.made w (c6 k b n t x s) (c6 k2 bb n2 t2 x2 s2)
 have hex:=fun W hE=>exact_call k b n hn t x s W hE
 have hex2:=fun W hE=>exact_call k2 bb n2 hn2 t2 x2 s2 W hE
 unfold agg6 at hex hex2 ⊢
 unfold c6 at h2
 replace hex:=Hd hex
 replace hex2:=Hd hex2
 replace hE:=Hd hE
 by_cases hkk:k=2∧k2=2
 ·obtain⟨rfl,rfl⟩:=hkk
  have hcc:=Hd (cmp_e20 n n2 t t2)
  clear hex hex2
  generalize cmpI (numV 2 n t) (numV 2 n2 t2)=R at *
  go_enter Tryz.func102,Tryz.ntmps102
  go_wp2_with (go_at_call 106;refine(cmp64_any _ _ _).mono ?_;rintro e w' ⟨rfl,rfl⟩)
  go_ret
  exact⟨ret_int hcc.out.symm,h2.below⟩
 ·obtain⟨q,hq⟩:∃q:Bool,(k==2)=q:=⟨_,rfl⟩
  obtain⟨q2,hq2⟩:∃q:Bool,(k2==2)=q:=⟨_,rfl⟩
  have hqq:(q&&q2)=false:=by
   rw[←hq,←hq2]
   apply Bool.eq_false_iff.2
   intro h
   rw[Bool.and_eq_true,beq_iff_eq,beq_iff_eq]at h
   exact hkk h
  clear hkk
  generalize numV k n t=Z1 at *
  generalize numV k2 n2 t2=Z2 at *
  go_enter Tryz.func102,Tryz.ntmps102
  cases q
  ·clear hqq
   go_upto_region 3 with fail
   generalize (w.alloc (.cells #[.int .i64 k,.bool b,.int .i64 n,.string t,.string x,s] 52)).alloc (.cells #[.int .i64 k2,.bool bb,.int .i64 n2,.string t2,.string x2,s2] 52)=W at *
   have hd:=h2.on (below_drewN (Below.refl _ _) 1)
   have hS0:B2 w W.drew _ _:=hd
   refine wp_region_held_drew (S:=fun V=>B2 w V #[.int .i64 k,.bool b,.int .i64 n,.string t,.string x,s] #[.int .i64 k2,.bool bb,.int .i64 n2,.string t2,.string x2,s2]) (by kernel_rfl) hS0 (fun hS=>?_)
   clear hS0 hd h2
   generalize W.drew=V0 at *
   have hV:=hS
   refine wpAnyH_take (i:=0) (v:=.agg #[.int .i64 k,.bool b,.int .i64 n,.string t,.string x,s]) rfl (by kernel_rfl) (by kernel_rfl) (by kernel_rfl) (fun _ _ _ h=>h) (.inl ⟨by kernel_rfl,fun w' hS=>by have x0:=hS.b0.cell 0 rfl;have x1:=hS.b0.cell 1 rfl;have x2:=hS.b0.cell 2 rfl;have x3:=hS.b0.cell 3 rfl;have x4:=hS.b0.cell 4 rfl;have x5:=hS.b0.cell 5 rfl;go_simp;try exact⟨rfl,rfl,rfl⟩⟩) hS ?_;simp only[List.getElem_toArray,List.getElem_cons_succ,List.getElem_cons_zero,Act.put,List.setIfInBounds_toArray,List.set_cons_zero,List.set_cons_succ]
   refine wpAnyH_take (i:=2) (v:=.agg #[.int .i64 k2,.bool bb,.int .i64 n2,.string t2,.string x2,s2]) rfl (by kernel_rfl) (by kernel_rfl) (by kernel_rfl) (fun _ _ _ h=>h) (.inl ⟨by kernel_rfl,fun w' hS=>by have x0:=hS.b1.cell 0 rfl;have x1:=hS.b1.cell 1 rfl;have x2:=hS.b1.cell 2 rfl;have x3:=hS.b1.cell 3 rfl;have x4:=hS.b1.cell 4 rfl;have x5:=hS.b1.cell 5 rfl;go_simp;try exact⟨rfl,rfl,rfl⟩⟩) hS ?_;simp only[List.getElem_toArray,List.getElem_cons_succ,List.getElem_cons_zero,Act.put,List.setIfInBounds_toArray,List.set_cons_zero,List.set_cons_succ]
   refine wpAnyH_ready (rs:=[1]) (by kernel_rfl) (by simp) ?_
   refine AllReadyH.cons rfl (fun K hK=>?_) AllReadyH.nil
   clear hS
   go_simp
   refine(hex.out _ (hE.out.below hV.below)).mono ?_
   rintro e w5 ⟨u5,rfl,hu5,hb5⟩
   go_wp2_with fail
   refine hKo hK (hV.on hb5) (fun hS=>?_)
   clear hK K
   replace hu5:=Hd hu5
   have hV5:=hV.on hb5
   refine wpAnyH_ready (rs:=[3]) (by kernel_rfl) (by simp) ?_
   refine AllReadyH.cons rfl (fun K hK=>?_) AllReadyH.nil
   clear hS
   go_simp
   refine(hex2.out _ (hE.out.below hV5.below)).mono ?_
   rintro e w6 ⟨u6,rfl,hu6,hb6⟩
   go_wp2_with fail
   refine hKo hK (hV5.on hb6) (fun hS=>?_)
   clear hK K
   replace hu6:=Hd hu6
   have hV6:=hV5.on hb6
   refine wpAnyH_ready (rs:=[4]) (by kernel_rfl) (by simp) ?_
   refine AllReadyH.cons rfl (fun K hK=>?_) AllReadyH.nil
   clear hS
   go_simp
   refine(cmp_call u5 u6 _ (hE.out.env.below hV6.below)).mono ?_
   rintro e w7 ⟨rfl,hb7⟩
   go_wp2_with fail
   refine hKo hK (hV6.on hb7) (fun hS=>?_)
   clear hK K
   have hV7:=hV6.on hb7
   generalize hr:cmpR u5.data.toList u6.data.toList=r at *
   replace hr:=Hd hr
   refine wpAnyH_take (i:=5) (v:=.int .i64 r) rfl (by kernel_rfl) (by kernel_rfl) (by kernel_rfl) (fun _ _ _ h=>h) (.inl ⟨by kernel_rfl,fun _ _=>by kernel_rfl⟩) hS ?_;simp only[List.getElem_toArray,List.getElem_cons_succ,List.getElem_cons_zero,Act.put,List.setIfInBounds_toArray,List.set_cons_zero,List.set_cons_succ]
   refine wpAnyH_done (by kernel_rfl) ?_ _
   go_wp2_with fail
   go_ret
   exact⟨ret_int (by rw[←hr.out];unfold cmpR;rw[hu5.out.1,hu6.out.1,hu5.out.2,hu6.out.2];rfl),hV7.below⟩
  ·obtain rfl:q2=false:=by simpa using hqq
   go_upto_region 3 with fail
   generalize (w.alloc (.cells #[.int .i64 k,.bool b,.int .i64 n,.string t,.string x,s] 52)).alloc (.cells #[.int .i64 k2,.bool bb,.int .i64 n2,.string t2,.string x2,s2] 52)=W at *
   have hd:=h2.on (below_drewN (Below.refl _ _) 1)
   have hS0:B2 w W.drew _ _:=hd
   refine wp_region_held_drew (S:=fun V=>B2 w V #[.int .i64 k,.bool b,.int .i64 n,.string t,.string x,s] #[.int .i64 k2,.bool bb,.int .i64 n2,.string t2,.string x2,s2]) (by kernel_rfl) hS0 (fun hS=>?_)
   clear hS0 hd h2
   generalize W.drew=V0 at *
   have hV:=hS
   refine wpAnyH_take (i:=0) (v:=.agg #[.int .i64 k,.bool b,.int .i64 n,.string t,.string x,s]) rfl (by kernel_rfl) (by kernel_rfl) (by kernel_rfl) (fun _ _ _ h=>h) (.inl ⟨by kernel_rfl,fun w' hS=>by have x0:=hS.b0.cell 0 rfl;have x1:=hS.b0.cell 1 rfl;have x2:=hS.b0.cell 2 rfl;have x3:=hS.b0.cell 3 rfl;have x4:=hS.b0.cell 4 rfl;have x5:=hS.b0.cell 5 rfl;go_simp;try exact⟨rfl,rfl,rfl⟩⟩) hS ?_;simp only[List.getElem_toArray,List.getElem_cons_succ,List.getElem_cons_zero,Act.put,List.setIfInBounds_toArray,List.set_cons_zero,List.set_cons_succ]
   refine wpAnyH_take (i:=2) (v:=.agg #[.int .i64 k2,.bool bb,.int .i64 n2,.string t2,.string x2,s2]) rfl (by kernel_rfl) (by kernel_rfl) (by kernel_rfl) (fun _ _ _ h=>h) (.inl ⟨by kernel_rfl,fun w' hS=>by have x0:=hS.b1.cell 0 rfl;have x1:=hS.b1.cell 1 rfl;have x2:=hS.b1.cell 2 rfl;have x3:=hS.b1.cell 3 rfl;have x4:=hS.b1.cell 4 rfl;have x5:=hS.b1.cell 5 rfl;go_simp;try exact⟨rfl,rfl,rfl⟩⟩) hS ?_;simp only[List.getElem_toArray,List.getElem_cons_succ,List.getElem_cons_zero,Act.put,List.setIfInBounds_toArray,List.set_cons_zero,List.set_cons_succ]
   refine wpAnyH_ready (rs:=[1]) (by kernel_rfl) (by simp) ?_
   refine AllReadyH.cons rfl (fun K hK=>?_) AllReadyH.nil
   clear hS
   go_simp
   refine(hex.out _ (hE.out.below hV.below)).mono ?_
   rintro e w5 ⟨u5,rfl,hu5,hb5⟩
   go_wp2_with fail
   refine hKo hK (hV.on hb5) (fun hS=>?_)
   clear hK K
   replace hu5:=Hd hu5
   have hV5:=hV.on hb5
   refine wpAnyH_ready (rs:=[3]) (by kernel_rfl) (by simp) ?_
   refine AllReadyH.cons rfl (fun K hK=>?_) AllReadyH.nil
   clear hS
   go_simp
   refine(hex2.out _ (hE.out.below hV5.below)).mono ?_
   rintro e w6 ⟨u6,rfl,hu6,hb6⟩
   go_wp2_with fail
   refine hKo hK (hV5.on hb6) (fun hS=>?_)
   clear hK K
   replace hu6:=Hd hu6
   have hV6:=hV5.on hb6
   refine wpAnyH_ready (rs:=[4]) (by kernel_rfl) (by simp) ?_
   refine AllReadyH.cons rfl (fun K hK=>?_) AllReadyH.nil
   clear hS
   go_simp
   refine(cmp_call u5 u6 _ (hE.out.env.below hV6.below)).mono ?_
   rintro e w7 ⟨rfl,hb7⟩
   go_wp2_with fail
   refine hKo hK (hV6.on hb7) (fun hS=>?_)
   clear hK K
   have hV7:=hV6.on hb7
   generalize hr:cmpR u5.data.toList u6.data.toList=r at *
   replace hr:=Hd hr
   refine wpAnyH_take (i:=5) (v:=.int .i64 r) rfl (by kernel_rfl) (by kernel_rfl) (by kernel_rfl) (fun _ _ _ h=>h) (.inl ⟨by kernel_rfl,fun _ _=>by kernel_rfl⟩) hS ?_;simp only[List.getElem_toArray,List.getElem_cons_succ,List.getElem_cons_zero,Act.put,List.setIfInBounds_toArray,List.set_cons_zero,List.set_cons_succ]
   refine wpAnyH_done (by kernel_rfl) ?_ _
   go_wp2_with fail
   go_ret
   exact⟨ret_int (by rw[←hr.out];unfold cmpR;rw[hu5.out.1,hu6.out.1,hu5.out.2,hu6.out.2];rfl),hV7.below⟩
def OrdX(N m:Nat)(lang:Int):Prop:=∀(w:World) (hE:EnvD w) (k:Int) (b:Bool) (n:Int) (hn:In64 n) (t x:ByteArray) (s:Value) (l:List V) (k2:Int) (bb:Bool) (n2:Int) (hn2:In64 n2) (t2 x2:ByteArray) (s2:Value) (l2:List V),SizeOf.sizeOf l<m→LA w N s l→LA w N s2 l2 →
 Calls Tryz.prog 65 #[.int .i64 lang,agg6 k b n t x s,agg6 k2 bb n2 t2 x2 s2] w fun e w'=>e=.returned (.int .i64 (ordV (decide (lang=1)) (.mk k b n t x l) (.mk k2 bb n2 t2 x2 l2)))∧Below w.heap.size w w'
theorem oclosure_call(N m:Nat)(lang:Int)(hs:OrdX N m lang)(w:World)(hE:EnvD w)(B:Nat)(hB:w.cell? ⟨B,0,none⟩=some (.int .i64 lang))(k:Int)(b:Bool)(n:Int)(hn:In64 n)(t x:ByteArray)(s:Value)(l:List V)(k2:Int)(bb:Bool)(n2:Int)(hn2:In64 n2)(t2 x2:ByteArray)(s2:Value)(l2:List V)(hm:SizeOf.sizeOf l<m)(ha:LA w N s l)(ha2:LA w N s2 l2):
 Calls Tryz.prog 105 #[agg6 k b n t x s,agg6 k2 bb n2 t2 x2 s2,.pointer (some ⟨B,0,none⟩)] w fun e w'=>e=.returned (.int .i64 (ordV (decide (lang=1)) (.mk k b n t x l) (.mk k2 bb n2 t2 x2 l2)))∧Below w.heap.size w w':=by
 have h2:=B2.made w (c6 k b n t x s) (c6 k2 bb n2 t2 x2 s2)
 have hBl:B<w.heap.size:=by
  obtain⟨ob,ho,_⟩:=cells_of_cell hB
  exact(Array.getElem?_eq_some_iff.1 ho).1
 have cB:=(h2.below.cell (p:=⟨B,0,none⟩) hBl).trans hB
 have hcall:=hs _ (hE.below h2.below) k b n hn t x s l k2 bb n2 hn2 t2 x2 s2 l2 hm (ha.stay h2.below) (ha2.stay h2.below)
 have hbe:=Hd h2.below
 unfold c6 at h2 hcall cB
 unfold agg6 at hcall ⊢
 generalize ordV (decide (lang=1)) (.mk k b n t x l) (.mk k2 bb n2 t2 x2 l2)=r at *
 replace hcall:=Hd hcall
 replace hbe:=hbe.out
 unfold c6 at hbe
 replace hbe:=Hd hbe
 clear h2 ha ha2 hs hB hE
 go_enter Tryz.func105,Tryz.ntmps105
 go_wp2_with fail
 refine hcall.out.mono ?_
 rintro e w2 ⟨rfl,hb2⟩
 go_wp2
 go_ret
 exact⟨rfl,hbe.out.trans (hb2.mono hbe.out.size)⟩
theorem ordL_step(s:Bool)(l m:List V)(k:Nat)(h1:k<l.length)(h2:k<m.length):ordL s (l.drop k) (m.drop k)=orI (ordV s l[k] m[k]) (ordL s (l.drop (k+1)) (m.drop (k+1))):=by
 rw[List.drop_eq_getElem_cons h1,List.drop_eq_getElem_cons h2,ordL]
theorem ordL_more(s:Bool)(l m:List V)(k:Nat)(h1:k<l.length)(h2:m.length≤k):ordL s (l.drop k) (m.drop k)=1:=by
 rw[List.drop_eq_getElem_cons h1,List.drop_eq_nil_of_le h2,ordL]
theorem ordL_less(s:Bool)(l m:List V)(k:Nat)(h1:l.length≤k)(h2:k<m.length):ordL s (l.drop k) (m.drop k)=-1:=by
 rw[List.drop_eq_getElem_cons h2,List.drop_eq_nil_of_le h1,ordL]
theorem ordL_done(s:Bool)(l m:List V)(k:Nat)(h1:l.length≤k)(h2:m.length≤k):ordL s (l.drop k) (m.drop k)=0:=by
 rw[List.drop_eq_nil_of_le h1,List.drop_eq_nil_of_le h2,ordL]
theorem compareFunc_call(N m:Nat)(hN:N≤9223372036854775807)(lang:Int)(hs:OrdX N m lang)(w:World)(hE:EnvD w)(B:Nat)(hB:w.cell? ⟨B,0,none⟩=some (.int .i64 lang))(s s2:Value)(l l2:List V)(hm:SizeOf.sizeOf l≤m)(ha:LA w N s l)(ha2:LA w N s2 l2):
 Calls Tryz.prog 104 #[s,s2,.func (.func 105) #[] #[.pointer (some ⟨B,0,none⟩)]] w fun e w'=>e=.returned (.int .i64 (ordL (decide (lang=1)) l l2))∧Below w.heap.size w w':=by
 have hBl:B<w.heap.size:=by
  obtain⟨ob,ho,_⟩:=cells_of_cell hB
  exact(Array.getElem?_eq_some_iff.1 ho).1
 cases ha with
 |mk ao cap l hl h=>
 cases ha2 with
 | mk ao2 cap2 l2 hl2 h2 =>
  replace h:=Hd h
  replace h2:=Hd h2
  replace hs:=Hd hs
  replace hB:=Hd hB
  replace hE:=Hd hE
  have hLi:(l.length:Int)≤9223372036854775807:=by omega
  have hLi2:(l2.length:Int)≤9223372036854775807:=by omega
  go_enter Tryz.func104,Tryz.ntmps104
  go_wp2
  go_loopw [13] (fun v wr=>∃k:Nat,k≤l.length∧v=.int .i64 k∧Hid (Below w.heap.size w wr)∧Hid (ordL (decide (lang=1)) l l2=ordL (decide (lang=1)) (l.drop k) (l2.drop k))) (fun v _=>l.length-(intOf v).toNat)
  case atStart=>exact⟨0,by omega,rfl,Below.refl _ _,by rw[List.drop_zero,List.drop_zero];exact Hd rfl⟩
  case round =>
   obtain⟨k,hk,rfl,hb,hpre⟩:=hrel
   by_cases hlt:k<l.length
   ·have hki:(k:Int)<(l.length:Int):=by omega
    have hel:=(h.out k (by omega)).stay hb.out
    rw[Nat.mul_comm 6 k]at hel
    by_cases hlt2:k<l2.length
    ·have hki2:¬(l2.length:Int)≤(k:Int):=by omega
     have hki3:(k:Int)<(l2.length:Int):=by omega
     have hel2:=(h2.out k (by omega)).stay hb.out
     rw[Nat.mul_comm 6 k]at hel2
     have hmem:SizeOf.sizeOf (l[k]'(by omega))<SizeOf.sizeOf l:=List.sizeOf_lt_of_mem (List.getElem_mem _)
     have hst:=hpre.out.trans (ordL_step _ l l2 k hlt hlt2)
     generalize l[k]'(by omega)=v at hel hmem hst
     generalize l2[k]'(by omega)=v2 at hel2 hst
     cases hel with
     |mk b off o k1 bo n t x l1 s hr hk1 hn ht hx hsl=>
     cases hel2 with
     | mk b2 off2 o2 k12 bo2 n2 t2 x2 l12 s2 hr2 hk12 hn2 ht2 hx2 hsl2 =>
      obtain⟨aoE,capE,rfl⟩:=LA.form6 hsl
      obtain⟨aoF,capF,rfl⟩:=LA.form6 hsl2
      have hm1:SizeOf.sizeOf l1<m:=by simp at hmem;omega
      obtain⟨x0,x1,x2c,x3,x4,x5⟩:=hr.six
      have hb1:Below wr.heap.size wr (wr.alloc (.cells #[.int .i64 k1,.bool bo,.int .i64 n,.string t,.string x,.slice aoE l1.length capE] 52)):=(Below.refl _ _).alloc (Nat.le_refl _) _
      have hr2':=hr2.below hb1
      obtain⟨y0,y1,y2,y3,y4,y5⟩:=hr2.six
      obtain⟨y0',y1',y2',y3',y4',y5'⟩:=hr2'.six
      have hbb:Below wr.heap.size wr ((wr.alloc (.cells #[.int .i64 k1,.bool bo,.int .i64 n,.string t,.string x,.slice aoE l1.length capE] 52)).alloc (.cells #[.int .i64 k12,.bool bo2,.int .i64 n2,.string t2,.string x2,.slice aoF l12.length capF] 52)):=hb1.alloc hb1.size _
      have hB2:=((hb.out.trans (hbb.mono hb.out.size)).cell (p:=⟨B,0,none⟩) hBl).trans hB.out
      have hcall:=oclosure_call N m lang hs.out _ (hE.out.below (hb.out.trans (hbb.mono hb.out.size))) B hB2 k1 bo n hn t x _ l1 k12 bo2 n2 hn2 t2 x2 _ l12 hm1 (hsl.stay hbb) (hsl2.stay hbb)
      unfold agg6 at hcall
      generalize ordV (decide (lang=1)) (.mk k1 bo n t x l1) (.mk k12 bo2 n2 t2 x2 l12)=c at hcall hst
      replace hcall:=Hd hcall
      replace hst:=Hd hst
      clear hr hr2 hr2' hsl hsl2 hmem hB2 hpre
      go_wp2_with fail
      refine hcall.out.mono ?_
      rintro e w2 ⟨rfl,hb2⟩
      have hb3:=Hd (hb.out.trans ((hbb.trans (hb2.mono hbb.size)).mono hb.out.size))
      clear hb2 hcall hbb hb1 hb
      by_cases hc:c=0
      ·subst hc
       go_wp2
       go_roundw
       case rel=>exact⟨k+1,by omega,by go_num,hb3,by have:=hst.out;unfold orI at this;rw[if_pos rfl]at this;exact Hd this⟩
       case measure=>simp[intOf];omega
      ·have hcb:(c != 0)=true:=bne_iff_ne.2 hc
       have hst2:ordL (decide (lang=1)) l l2=c:=by have:=hst.out;unfold orI at this;rw[if_neg hc]at this;exact this
       replace hst2:=Hd hst2
       clear hst hc
       go_wp2
       go_ret
       exact⟨ret_int hst2.out.symm,hb3.out⟩
    ·have hki2:(l2.length:Int)≤(k:Int):=by omega
     have hst:=Hd (hpre.out.trans (ordL_more _ l l2 k hlt (by omega)))
     generalize l[k]'(by omega)=v at hel
     cases hel with
     |mk b off o k1 bo n t x l1 s hr hk1 hn ht hx hsl=>
      obtain⟨aoE,capE,rfl⟩:=LA.form6 hsl
      obtain⟨x0,x1,x2c,x3,x4,x5⟩:=hr.six
      have hb1:Below wr.heap.size wr (wr.alloc (.cells #[.int .i64 k1,.bool bo,.int .i64 n,.string t,.string x,.slice aoE l1.length capE] 52)):=(Below.refl _ _).alloc (Nat.le_refl _) _
      have hb3:=Hd (hb.out.trans (hb1.mono hb.out.size))
      clear hb1 hr hsl hpre
      go_wp2
      go_ret
      exact⟨ret_int hst.out.symm,hb3.out⟩
   ·have hki:¬(k:Int)<(l.length:Int):=by omega
    obtain rfl:k=l.length:=by omega
    by_cases hlt2:l.length<l2.length
    ·have hst:=Hd (hpre.out.trans (ordL_less _ l l2 _ (Nat.le_refl _) hlt2))
     have hki2:(l.length:Int)<(l2.length:Int):=by omega
     clear hpre
     go_wp2
     go_ret
     exact⟨ret_int hst.out.symm,hb.out⟩
    ·have hst:=Hd (hpre.out.trans (ordL_done _ l l2 _ (Nat.le_refl _) (by omega)))
     have hki2:¬(l.length:Int)<(l2.length:Int):=by omega
     clear hpre
     go_wp2
     go_ret
     exact⟨ret_int hst.out.symm,hb.out⟩
end Go.Proofs.YtidplkfhodpdhaaGreatDoor.val
