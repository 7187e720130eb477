/- Contract of alike: equality in the language of triples. -/
import Derived.Test.YtcaeipdgbaligaaGreatDoorVNum
import Derived.Outline
set_option linter.unusedSimpArgs false
set_option linter.unusedVariables false
set_option maxRecDepth 100000
set_option maxHeartbeats 4000000
namespace Go.Proofs.YtcaeipdgbaligaaGreatDoor.val
open Go.ChangeShapes Go.WideShapes Go.ChangeAt Go.RowKit kit dec
def lne(k:Int):Bool:=decide (k=5∨k=6∨k=7)
def litK(k:Int):Bool:=decide (k=2∨k=3∨k=10∨k=4∨k=1)
def aliW(k k2:Int)(same:Bool):Int:=if lne k||lne k2 then 2 else if same then 1 else if k=10∧litK k2=true then 2 else 0
theorem aliW_tail(k k2:Int)(q:Bool)(h1:lne k=false)(h2:lne k2=false):
 (k≠10→b2i q=aliW k k2 q)∧(q=true→b2i true=aliW k k2 q)∧(litK k2=false→b2i q=aliW k k2 q)∧(q=false→k=10→litK k2=true→2=aliW k k2 q):=by
 unfold aliW b2i
 rw[h1,h2]
 simp only[Bool.or_self,Bool.false_eq_true,if_false,if_true]
 refine⟨fun h=>?_,fun h=>?_,fun h=>?_,fun h h' h''=>?_⟩
 ·have hh:¬(k=10∧litK k2=true):=fun e=>h e.1
  rw[if_neg hh]
 ·rw[if_pos h]
 ·rw[h];simp
 ·subst h;rw[if_neg (by decide),if_pos ⟨h',h''⟩]
theorem aliS_W(k k2:Int)(q:Bool):(k=10→aliS k k2 q=aliW k k2 q)∧(k≠10→aliS k k2 q=aliW k2 k q):=by
 unfold aliS aliW
 have e1:(lne k||lne k2)=true↔(k=5∨k=6∨k=7)∨(k2=5∨k2=6∨k2=7):=by unfold lne;simp
 have e2:(lne k2||lne k)=true↔(k=5∨k=6∨k=7)∨(k2=5∨k2=6∨k2=7):=by rw[Bool.or_comm];exact e1
 have f1:∀j,litK j=true↔(j=2∨j=3∨j=10∨j=4∨j=1):=by intro j;unfold litK;simp
 constructor
 ·intro hk
  by_cases h:(k=5∨k=6∨k=7)∨(k2=5∨k2=6∨k2=7)
  ·rw[if_pos h,if_pos (e1.2 h)]
  rw[if_neg h,if_neg (fun e=>h (e1.1 e))]
  cases q
  ·simp only[Bool.false_eq_true,if_false,f1]
   by_cases h2:k2=2∨k2=3∨k2=10∨k2=4∨k2=1
   ·rw[if_pos (.inl ⟨hk,h2⟩),if_pos ⟨hk,h2⟩]
   ·rw[if_neg (by omega),if_neg (by omega)]
  ·rfl
 ·intro hk
  by_cases h:(k=5∨k=6∨k=7)∨(k2=5∨k2=6∨k2=7)
  ·rw[if_pos h,if_pos (e2.2 h)]
  rw[if_neg h,if_neg (fun e=>h (e2.1 e))]
  cases q
  ·simp only[Bool.false_eq_true,if_false,f1]
   by_cases h2:k2=10∧(k=2∨k=3∨k=10∨k=4∨k=1)
   ·rw[if_pos (.inr h2),if_pos h2]
   ·rw[if_neg (by omega),if_neg (by omega)]
  ·rfl
theorem truth_b(c:Bool)(W:World):Calls Tryz.prog 103 #[.bool c] W fun e w'=>e=.returned (.int .i64 (b2i c))∧w'=W:=truth_any c W
theorem lne_no{k:Int}(h:lne k=false):k≠5∧k≠6∧k≠7:=by
 unfold lne at h
 have:=of_decide_eq_false h
 omega
theorem lne_yes{k:Int}(h:lne k=true):k=5∨k=6∨k=7:=of_decide_eq_true h
theorem lit_no{k:Int}(h:litK k=false):k≠1∧k≠2∧k≠3∧k≠4∧k≠10:=by
 unfold litK at h
 have:=of_decide_eq_false h
 omega
theorem lit_yes{k:Int}(h:litK k=true):k=2∨k=3∨k=10∨k=4∨k=1:=of_decide_eq_true h
structure AW(w W:World)(k:Int)(b:Bool)(n:Int)(t x:ByteArray)(s:Value)(k2:Int)(bb:Bool)(n2:Int)(t2 x2:ByteArray)(s2:Value):Prop where
 below:Below w.heap.size w W
 b0:Blk W w.heap.size #[.int .i64 k,.bool b,.int .i64 n,.string t,.string x,s] 38
 b1:Blk W (w.heap.size+1) #[.int .i64 k2,.bool bb,.int .i64 n2,.string t2,.string x2,s2] 38
 b2:Blk W (w.heap.size+1+1) #[.int .i64 k,.bool b,.int .i64 n,.string t,.string x,s,.int .i64 k2,.bool bb,.int .i64 n2,.string t2,.string x2,s2] 38
section
variable{w W W':World}{k:Int}{b:Bool}{n:Int}{t x:ByteArray}{s:Value}{k2:Int}{bb:Bool}{n2:Int}{t2 x2:ByteArray}{s2:Value}
theorem AW.on(h:AW w W k b n t x s k2 bb n2 t2 x2 s2)(hb:Below W.heap.size W W'):AW w W' k b n t x s k2 bb n2 t2 x2 s2:=
 ⟨h.below.trans (hb.mono h.below.size),h.b0.keep (Keep.ofBelow hb) (by simp),h.b1.keep (Keep.ofBelow hb) (by simp),h.b2.keep (Keep.ofBelow hb) (by simp)⟩
theorem AW.six0(h:AW w W k b n t x s k2 bb n2 t2 x2 s2):W.cell? ⟨w.heap.size+1+1,0,none⟩=some (.int .i64 k)∧W.cell? ⟨w.heap.size+1+1,1,none⟩=some (.bool b)∧W.cell? ⟨w.heap.size+1+1,2,none⟩=some (.int .i64 n)∧W.cell? ⟨w.heap.size+1+1,3,none⟩=some (.string t)∧W.cell? ⟨w.heap.size+1+1,4,none⟩=some (.string x)∧W.cell? ⟨w.heap.size+1+1,5,none⟩=some s:=
 ⟨h.b2.cell 0 rfl,h.b2.cell 1 rfl,h.b2.cell 2 rfl,h.b2.cell 3 rfl,h.b2.cell 4 rfl,h.b2.cell 5 rfl⟩
theorem AW.six1(h:AW w W k b n t x s k2 bb n2 t2 x2 s2):W.cell? ⟨w.heap.size+1+1,6,none⟩=some (.int .i64 k2)∧W.cell? ⟨w.heap.size+1+1,7,none⟩=some (.bool bb)∧W.cell? ⟨w.heap.size+1+1,8,none⟩=some (.int .i64 n2)∧W.cell? ⟨w.heap.size+1+1,9,none⟩=some (.string t2)∧W.cell? ⟨w.heap.size+1+1,10,none⟩=some (.string x2)∧W.cell? ⟨w.heap.size+1+1,11,none⟩=some s2:=
 ⟨h.b2.cell 6 rfl,h.b2.cell 7 rfl,h.b2.cell 8 rfl,h.b2.cell 9 rfl,h.b2.cell 10 rfl,h.b2.cell 11 rfl⟩
theorem AW.both(h:AW w W k b n t x s k2 bb n2 t2 x2 s2):(W.cell? ⟨w.heap.size,0,none⟩=some (.int .i64 k)∧W.cell? ⟨w.heap.size,1,none⟩=some (.bool b)∧W.cell? ⟨w.heap.size,2,none⟩=some (.int .i64 n)∧W.cell? ⟨w.heap.size,3,none⟩=some (.string t)∧W.cell? ⟨w.heap.size,4,none⟩=some (.string x)∧W.cell? ⟨w.heap.size,5,none⟩=some s) ∧
 W.cell? ⟨w.heap.size+1,0,none⟩=some (.int .i64 k2)∧W.cell? ⟨w.heap.size+1,1,none⟩=some (.bool bb)∧W.cell? ⟨w.heap.size+1,2,none⟩=some (.int .i64 n2)∧W.cell? ⟨w.heap.size+1,3,none⟩=some (.string t2)∧W.cell? ⟨w.heap.size+1,4,none⟩=some (.string x2)∧W.cell? ⟨w.heap.size+1,5,none⟩=some s2:=
 ⟨⟨h.b0.cell 0 rfl,h.b0.cell 1 rfl,h.b0.cell 2 rfl,h.b0.cell 3 rfl,h.b0.cell 4 rfl,h.b0.cell 5 rfl⟩,h.b1.cell 0 rfl,h.b1.cell 1 rfl,h.b1.cell 2 rfl,h.b1.cell 3 rfl,h.b1.cell 4 rfl,h.b1.cell 5 rfl⟩
theorem AW.made(w:World)(k:Int)(b:Bool)(n:Int)(t x:ByteArray)(s:Value)(k2:Int)(bb:Bool)(n2:Int)(t2 x2:ByteArray)(s2:Value)(T:Nat)(hT:T=38):
 AW w (((w.alloc (.cells #[.int .i64 k,.bool b,.int .i64 n,.string t,.string x,s] 38)).alloc (.cells #[.int .i64 k2,.bool bb,.int .i64 n2,.string t2,.string x2,s2] 38)).alloc (.cells #[.int .i64 k,.bool b,.int .i64 n,.string t,.string x,s,.int .i64 k2,.bool bb,.int .i64 n2,.string t2,.string x2,s2] T)) k b n t x s k2 bb n2 t2 x2 s2:=by
 subst hT
 refine⟨((((Keep.refl [] w).alloc _).alloc _).alloc _).below,((Blk.new _ _ _).alloc _).alloc _,?_,?_⟩
 ·have:=(Blk.new (w.alloc (.cells #[.int .i64 k,.bool b,.int .i64 n,.string t,.string x,s] 38)) #[.int .i64 k2,.bool bb,.int .i64 n2,.string t2,.string x2,s2] 38).alloc (.cells #[.int .i64 k,.bool b,.int .i64 n,.string t,.string x,s,.int .i64 k2,.bool bb,.int .i64 n2,.string t2,.string x2,s2] 38)
  rwa [World.size_alloc]at this
 ·have:=Blk.new ((w.alloc (.cells #[.int .i64 k,.bool b,.int .i64 n,.string t,.string x,s] 38)).alloc (.cells #[.int .i64 k2,.bool bb,.int .i64 n2,.string t2,.string x2,s2] 38)) #[.int .i64 k,.bool b,.int .i64 n,.string t,.string x,s,.int .i64 k2,.bool bb,.int .i64 n2,.string t2,.string x2,s2] 38
  rwa [World.size_alloc,World.size_alloc]at this
end
theorem alike_10(N:Nat)(hN:N≤9223372036854775807)(w:World)(k:Int)(b:Bool)(n:Int)(t x:ByteArray)(s:Value)(l:List V)(k2:Int)(bb:Bool)(n2:Int)(t2 x2:ByteArray)(s2:Value)(l2:List V)(ha:LA w N s l)(ha2:LA w N s2 l2)(hk:k=10):
 Calls Tryz.prog 131 #[agg6 k b n t x s,agg6 k2 bb n2 t2 x2 s2] w fun e w'=>e=.returned (.int .i64 (aliS k k2 (sameP (.mk k b n t x l) (.mk k2 bb n2 t2 x2 l2))))∧Below w.heap.size w w':=by
 obtain⟨hA1,hA2⟩:=aliS_W k k2 (sameP (.mk k b n t x l) (.mk k2 bb n2 t2 x2 l2))
 have hsm:∀W,Below w.heap.size w W→Calls Tryz.prog 77 #[agg6 k b n t x s,agg6 k2 bb n2 t2 x2 s2] W fun e w'=>e=.returned (.bool (sameP (.mk k b n t x l) (.mk k2 bb n2 t2 x2 l2)))∧Below W.heap.size W w':=fun W hb=>same_call N hN W k b n t x s l k2 bb n2 t2 x2 s2 l2 (ha.stay hb) (ha2.stay hb)
 obtain⟨ao,cap,rfl⟩:=LA.form6 ha
 obtain⟨ao2,cap2,rfl⟩:=LA.form6 ha2
 have hR:=hA1 hk
 rw[hR]
 clear ha ha2 hA1 hA2 hR
 generalize sameP (.mk k b n t x l) (.mk k2 bb n2 t2 x2 l2)=q at *
 obtain⟨R,hR⟩:∃R,aliW k k2 q=R:=⟨_,rfl⟩
 rw[hR]
 replace hR:=Hd hR
 unfold agg6 at hsm ⊢
 replace hsm:=Hd hsm
 have hkb:(k != 10)=false:=by rw[hk];rfl
 clear hk
 go_enter Tryz.func131,Tryz.ntmps131
 go_wp2
 go_loopw [16] (fun v wr=>∃j:Nat,v=.int .i64 j∧(j=0∨j=1∧lne k=false∨j=2∧lne k=false∧lne k2=false)∧Hid (AW w wr k b n t x (.slice ao l.length cap) k2 bb n2 t2 x2 (.slice ao2 l2.length cap2))) (fun v _=>2-(intOf v).toNat)
 case atStart=>exact⟨0,rfl,.inl rfl,AW.made _ _ _ _ _ _ _ _ _ _ _ _ _ _ rfl⟩
 case round=>
  obtain⟨j,rfl,hj,hw⟩:=hrel
  rcases hj with rfl|⟨rfl,hl1⟩|⟨rfl,hl1,hl2⟩
  ·obtain⟨z0,z1,z2,z3,z4,z5⟩:=hw.out.six0
   cases hl:lne k
   case true=>
    have hR2:(2:Int)=R:=by rw[←hR.out];unfold aliW;rw[hl];simp
    rcases lne_yes hl with rfl|rfl|rfl
    all_goals
     clear hl
     replace hR2:=Hd hR2
     clear hR
     have hbe:=Hd hw.out.below
     clear hw
     go_wp2
     go_ret
     exact⟨ret_int hR2.out,hbe.out.alloc hbe.out.size _⟩
   have e5:(k==5)=false:=beq_eq_false_iff_ne.2 (lne_no hl).1
   have e6:(k==6)=false:=beq_eq_false_iff_ne.2 (lne_no hl).2.1
   have e7:(k==7)=false:=beq_eq_false_iff_ne.2 (lne_no hl).2.2
   have hal:=Hd (hw.out.on ((Below.refl _ _).alloc (Nat.le_refl _) (.cells #[.int .i64 k,.bool b,.int .i64 n,.string t,.string x,.slice ao l.length cap] 38)))
   clear hw
   go_wp2
   go_roundw
   case rel=>exact⟨1,by go_num,by simp[hl],hal⟩
   case measure=>simp[intOf]
  ·obtain⟨z0,z1,z2,z3,z4,z5⟩:=hw.out.six1
   cases hl:lne k2
   case true=>
    have hR2:(2:Int)=R:=by rw[←hR.out];unfold aliW;rw[hl];simp
    rcases lne_yes hl with rfl|rfl|rfl
    all_goals
     clear hl
     replace hR2:=Hd hR2
     clear hR
     have hbe:=Hd hw.out.below
     clear hw
     go_wp2
     go_ret
     exact⟨ret_int hR2.out,hbe.out.alloc hbe.out.size _⟩
   have e5:(k2==5)=false:=beq_eq_false_iff_ne.2 (lne_no hl).1
   have e6:(k2==6)=false:=beq_eq_false_iff_ne.2 (lne_no hl).2.1
   have e7:(k2==7)=false:=beq_eq_false_iff_ne.2 (lne_no hl).2.2
   have hal:=Hd (hw.out.on ((Below.refl _ _).alloc (Nat.le_refl _) (.cells #[.int .i64 k2,.bool bb,.int .i64 n2,.string t2,.string x2,.slice ao2 l2.length cap2] 38)))
   clear hw
   go_wp2
   go_roundw
   case rel=>exact⟨2,by go_num,by simp[hl,hl1],hal⟩
   case measure=>simp[intOf]
  ·obtain⟨⟨x0,x1c,x2c,x3,x4,x5⟩,y0,y1,y2,y3,y4,y5⟩:=hw.out.both
   have hRq:=aliW_tail k k2 q hl1 hl2
   rw[hR.out]at hRq
   replace hRq:=Hd hRq
   clear hR hl1 hl2
   by_cases hK:k=10
   case neg=>
    have hKb:(k==10)=false:=beq_eq_false_iff_ne.2 hK
    have hR2:=Hd (hRq.out.1 hK)
    clear hK hRq
    go_wp2_with fail
    refine(hsm.out _ hw.out.below).mono ?_
    rintro e w8 ⟨rfl,hb8⟩
    have hbe:=Hd (hw.out.on hb8).below
    clear hw hb8
    go_wp2_with (go_at_call 103;refine(truth_b _ _).mono ?_;rintro e w9 ⟨rfl,hw9⟩;rw[hw9];clear hw9)
    go_ret
    exact⟨ret_int hR2.out,hbe.out⟩
   have hKb:(k==10)=true:=beq_iff_eq.2 hK
   replace hK:=Hd hK
   go_wp2_with fail
   refine(hsm.out _ hw.out.below).mono ?_
   rintro e w7 ⟨rfl,hb7⟩
   have hw7:=hw.out.on hb7
   clear hb7 hw x0 x1c x2c x3 x4 x5 y0 y1 y2 y3 y4 y5
   obtain⟨⟨x0,x1c,x2c,x3,x4,x5⟩,y0,y1,y2,y3,y4,y5⟩:=hw7.both
   have hw:=Hd hw7
   clear hw7
   cases q
   case true=>
    have hR2:=Hd (hRq.out.2.1 (by simp))
    clear hRq hK
    go_wp2_with fail
    refine(hsm.out _ hw.out.below).mono ?_
    rintro e w8 ⟨rfl,hb8⟩
    have hbe:=Hd (hw.out.on hb8).below
    clear hw hb8
    go_wp2_with (go_at_call 103;refine(truth_b _ _).mono ?_;rintro e w9 ⟨rfl,hw9⟩;rw[hw9];clear hw9)
    go_ret
    exact⟨ret_int hR2.out,hbe.out⟩
   cases hli:litK k2
   case false=>
    have hR2:=Hd (hRq.out.2.2.1 hli)
    have f1:(k2==1)=false:=beq_eq_false_iff_ne.2 (lit_no hli).1
    have f2:(k2==2)=false:=beq_eq_false_iff_ne.2 (lit_no hli).2.1
    have f3:(k2==3)=false:=beq_eq_false_iff_ne.2 (lit_no hli).2.2.1
    have f4:(k2==4)=false:=beq_eq_false_iff_ne.2 (lit_no hli).2.2.2.1
    have f10:(k2==10)=false:=beq_eq_false_iff_ne.2 (lit_no hli).2.2.2.2
    clear hRq hK hli
    go_wp2_with fail
    refine(hsm.out _ hw.out.below).mono ?_
    rintro e w8 ⟨rfl,hb8⟩
    have hbe:=Hd (hw.out.on hb8).below
    clear hw hb8
    go_wp2_with (go_at_call 103;refine(truth_b _ _).mono ?_;rintro e w9 ⟨rfl,hw9⟩;rw[hw9];clear hw9)
    go_ret
    exact⟨ret_int hR2.out,hbe.out⟩
   have hR2:=Hd (hRq.out.2.2.2 (by simp) hK.out hli)
   clear hRq hK
   rcases lit_yes hli with rfl|rfl|rfl|rfl|rfl
   all_goals
    clear hli
    have hbe:=Hd hw.out.below
    clear hw
    go_wp2
    go_ret
    exact⟨ret_int hR2.out,hbe.out⟩
theorem alike_n(N:Nat)(hN:N≤9223372036854775807)(w:World)(k:Int)(b:Bool)(n:Int)(t x:ByteArray)(s:Value)(l:List V)(k2:Int)(bb:Bool)(n2:Int)(t2 x2:ByteArray)(s2:Value)(l2:List V)(ha:LA w N s l)(ha2:LA w N s2 l2)(hk:k≠10):
 Calls Tryz.prog 131 #[agg6 k b n t x s,agg6 k2 bb n2 t2 x2 s2] w fun e w'=>e=.returned (.int .i64 (aliS k k2 (sameP (.mk k b n t x l) (.mk k2 bb n2 t2 x2 l2))))∧Below w.heap.size w w':=by
 obtain⟨hA1,hA2⟩:=aliS_W k k2 (sameP (.mk k b n t x l) (.mk k2 bb n2 t2 x2 l2))
 have hsm:∀W,Below w.heap.size w W→Calls Tryz.prog 77 #[agg6 k2 bb n2 t2 x2 s2,agg6 k b n t x s] W fun e w'=>e=.returned (.bool (sameP (.mk k b n t x l) (.mk k2 bb n2 t2 x2 l2)))∧Below W.heap.size W w':=fun W hb=>by
  rw[←sameP_sym]
  exact same_call N hN W k2 bb n2 t2 x2 s2 l2 k b n t x s l (ha2.stay hb) (ha.stay hb)
 obtain⟨ao,cap,rfl⟩:=LA.form6 ha
 obtain⟨ao2,cap2,rfl⟩:=LA.form6 ha2
 have hR:=hA2 hk
 rw[hR]
 clear ha ha2 hA1 hA2 hR
 generalize sameP (.mk k b n t x l) (.mk k2 bb n2 t2 x2 l2)=q at *
 obtain⟨R,hR⟩:∃R,aliW k2 k q=R:=⟨_,rfl⟩
 rw[hR]
 replace hR:=Hd hR
 unfold agg6 at hsm ⊢
 replace hsm:=Hd hsm
 have hkb:(k != 10)=true:=bne_iff_ne.2 hk
 clear hk
 go_enter Tryz.func131,Tryz.ntmps131
 go_wp2
 go_loopw [16] (fun v wr=>∃j:Nat,v=.int .i64 j∧(j=0∨j=1∧lne k2=false∨j=2∧lne k2=false∧lne k=false)∧Hid (AW w wr k2 bb n2 t2 x2 (.slice ao2 l2.length cap2) k b n t x (.slice ao l.length cap))) (fun v _=>2-(intOf v).toNat)
 case atStart=>exact⟨0,rfl,.inl rfl,AW.made _ _ _ _ _ _ _ _ _ _ _ _ _ _ rfl⟩
 case round=>
  obtain⟨j,rfl,hj,hw⟩:=hrel
  rcases hj with rfl|⟨rfl,hl1⟩|⟨rfl,hl1,hl2⟩
  ·obtain⟨z0,z1,z2,z3,z4,z5⟩:=hw.out.six0
   cases hl:lne k2
   case true=>
    have hR2:(2:Int)=R:=by rw[←hR.out];unfold aliW;rw[hl];simp
    rcases lne_yes hl with rfl|rfl|rfl
    all_goals
     clear hl
     replace hR2:=Hd hR2
     clear hR
     have hbe:=Hd hw.out.below
     clear hw
     go_wp2
     go_ret
     exact⟨ret_int hR2.out,hbe.out.alloc hbe.out.size _⟩
   have e5:(k2==5)=false:=beq_eq_false_iff_ne.2 (lne_no hl).1
   have e6:(k2==6)=false:=beq_eq_false_iff_ne.2 (lne_no hl).2.1
   have e7:(k2==7)=false:=beq_eq_false_iff_ne.2 (lne_no hl).2.2
   have hal:=Hd (hw.out.on ((Below.refl _ _).alloc (Nat.le_refl _) (.cells #[.int .i64 k2,.bool bb,.int .i64 n2,.string t2,.string x2,.slice ao2 l2.length cap2] 38)))
   clear hw
   go_wp2
   go_roundw
   case rel=>exact⟨1,by go_num,by simp[hl],hal⟩
   case measure=>simp[intOf]
  ·obtain⟨z0,z1,z2,z3,z4,z5⟩:=hw.out.six1
   cases hl:lne k
   case true=>
    have hR2:(2:Int)=R:=by rw[←hR.out];unfold aliW;rw[hl];simp
    rcases lne_yes hl with rfl|rfl|rfl
    all_goals
     clear hl
     replace hR2:=Hd hR2
     clear hR
     have hbe:=Hd hw.out.below
     clear hw
     go_wp2
     go_ret
     exact⟨ret_int hR2.out,hbe.out.alloc hbe.out.size _⟩
   have e5:(k==5)=false:=beq_eq_false_iff_ne.2 (lne_no hl).1
   have e6:(k==6)=false:=beq_eq_false_iff_ne.2 (lne_no hl).2.1
   have e7:(k==7)=false:=beq_eq_false_iff_ne.2 (lne_no hl).2.2
   have hal:=Hd (hw.out.on ((Below.refl _ _).alloc (Nat.le_refl _) (.cells #[.int .i64 k,.bool b,.int .i64 n,.string t,.string x,.slice ao l.length cap] 38)))
   clear hw
   go_wp2
   go_roundw
   case rel=>exact⟨2,by go_num,by simp[hl,hl1],hal⟩
   case measure=>simp[intOf]
  ·obtain⟨⟨x0,x1c,x2c,x3,x4,x5⟩,y0,y1,y2,y3,y4,y5⟩:=hw.out.both
   have hRq:=aliW_tail k2 k q hl1 hl2
   rw[hR.out]at hRq
   replace hRq:=Hd hRq
   clear hR hl1 hl2
   by_cases hK:k2=10
   case neg=>
    have hKb:(k2==10)=false:=beq_eq_false_iff_ne.2 hK
    have hR2:=Hd (hRq.out.1 hK)
    clear hK hRq
    go_wp2_with fail
    refine(hsm.out _ hw.out.below).mono ?_
    rintro e w8 ⟨rfl,hb8⟩
    have hbe:=Hd (hw.out.on hb8).below
    clear hw hb8
    go_wp2_with (go_at_call 103;refine(truth_b _ _).mono ?_;rintro e w9 ⟨rfl,hw9⟩;rw[hw9];clear hw9)
    go_ret
    exact⟨ret_int hR2.out,hbe.out⟩
   have hKb:(k2==10)=true:=beq_iff_eq.2 hK
   replace hK:=Hd hK
   go_wp2_with fail
   refine(hsm.out _ hw.out.below).mono ?_
   rintro e w7 ⟨rfl,hb7⟩
   have hw7:=hw.out.on hb7
   clear hb7 hw x0 x1c x2c x3 x4 x5 y0 y1 y2 y3 y4 y5
   obtain⟨⟨x0,x1c,x2c,x3,x4,x5⟩,y0,y1,y2,y3,y4,y5⟩:=hw7.both
   have hw:=Hd hw7
   clear hw7
   cases q
   case true=>
    have hR2:=Hd (hRq.out.2.1 (by simp))
    clear hRq hK
    go_wp2_with fail
    refine(hsm.out _ hw.out.below).mono ?_
    rintro e w8 ⟨rfl,hb8⟩
    have hbe:=Hd (hw.out.on hb8).below
    clear hw hb8
    go_wp2_with (go_at_call 103;refine(truth_b _ _).mono ?_;rintro e w9 ⟨rfl,hw9⟩;rw[hw9];clear hw9)
    go_ret
    exact⟨ret_int hR2.out,hbe.out⟩
   cases hli:litK k
   case false=>
    have hR2:=Hd (hRq.out.2.2.1 hli)
    have f1:(k==1)=false:=beq_eq_false_iff_ne.2 (lit_no hli).1
    have f2:(k==2)=false:=beq_eq_false_iff_ne.2 (lit_no hli).2.1
    have f3:(k==3)=false:=beq_eq_false_iff_ne.2 (lit_no hli).2.2.1
    have f4:(k==4)=false:=beq_eq_false_iff_ne.2 (lit_no hli).2.2.2.1
    have f10:(k==10)=false:=beq_eq_false_iff_ne.2 (lit_no hli).2.2.2.2
    clear hRq hK hli
    go_wp2_with fail
    refine(hsm.out _ hw.out.below).mono ?_
    rintro e w8 ⟨rfl,hb8⟩
    have hbe:=Hd (hw.out.on hb8).below
    clear hw hb8
    go_wp2_with (go_at_call 103;refine(truth_b _ _).mono ?_;rintro e w9 ⟨rfl,hw9⟩;rw[hw9];clear hw9)
    go_ret
    exact⟨ret_int hR2.out,hbe.out⟩
   have hR2:=Hd (hRq.out.2.2.2 (by simp) hK.out hli)
   clear hRq hK
   rcases lit_yes hli with rfl|rfl|rfl|rfl|rfl
   all_goals
    clear hli
    have hbe:=Hd hw.out.below
    clear hw
    go_wp2
    go_ret
    exact⟨ret_int hR2.out,hbe.out⟩
theorem alike_call(N:Nat)(hN:N≤9223372036854775807)(w:World)(k:Int)(b:Bool)(n:Int)(t x:ByteArray)(s:Value)(l:List V)(k2:Int)(bb:Bool)(n2:Int)(t2 x2:ByteArray)(s2:Value)(l2:List V)(ha:LA w N s l)(ha2:LA w N s2 l2):
 Calls Tryz.prog 131 #[agg6 k b n t x s,agg6 k2 bb n2 t2 x2 s2] w fun e w'=>e=.returned (.int .i64 (aliS k k2 (sameP (.mk k b n t x l) (.mk k2 bb n2 t2 x2 l2))))∧Below w.heap.size w w':=by
 by_cases hk:k=10
 ·exact alike_10 N hN w k b n t x s l k2 bb n2 t2 x2 s2 l2 ha ha2 hk
 ·exact alike_n N hN w k b n t x s l k2 bb n2 t2 x2 s2 l2 ha ha2 hk
end Go.Proofs.YtcaeipdgbaligaaGreatDoor.val
