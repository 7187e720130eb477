/- Texts ValCheck, ValCheckB, ValCheckC, one behind the other. -/
import Derived.Test.YtcaeipdgbaligaaGreatDoorValTabs
set_option linter.unusedSimpArgs false
set_option linter.unusedVariables false
set_option maxRecDepth 100000
set_option maxHeartbeats 1000000
namespace Go.Proofs.YtcaeipdgbaligaaGreatDoor.val
open Go.ChangeShapes Go.WideShapes Go.ChangeAt Go.RowKit kit dec
structure CW(w W:World)(k:Int)(b:Bool)(n:Int)(t x:ByteArray)(s:Value)(deep:Nat):Prop where
 below:Below w.heap.size w W
 b0:Blk W w.heap.size #[.int .i64 k,.bool b,.int .i64 n,.string t,.string x,s] 38
 b1:Blk W (w.heap.size+1) #[.int .i64 deep] 3
 b2:Blk W (w.heap.size+1+1) #[.int .i64 k,.bool false,.int .i64 0,.string ⟨#[]⟩,.string ⟨#[]⟩,.slice none 0 0] 38
structure CE(w W:World)(k:Int)(b:Bool)(n:Int)(t x:ByteArray)(s:Value)(B:Bool)(M:Int)(T X:ByteArray):Prop where
 below:Below w.heap.size w W
 b0:Blk W w.heap.size #[.int .i64 k,.bool b,.int .i64 n,.string t,.string x,s] 38
 b2:Blk W (w.heap.size+1+1) #[.int .i64 k,.bool B,.int .i64 M,.string T,.string X,.slice none 0 0] 38
theorem CW.ce{w W:World}{k:Int}{b:Bool}{n:Int}{t x:ByteArray}{s:Value}{deep:Nat}(h:CW w W k b n t x s deep):CE w W k b n t x s false 0 ⟨#[]⟩ ⟨#[]⟩:=⟨h.below,h.b0,h.b2⟩
section
variable{w W W':World}{k:Int}{b:Bool}{n:Int}{t x:ByteArray}{s:Value}{B:Bool}{M:Int}{T X:ByteArray}
theorem CE.on(h:CE w W k b n t x s B M T X)(hb:Below W.heap.size W W'):CE w W' k b n t x s B M T X:=⟨h.below.trans (hb.mono h.below.size),h.b0.keep (Keep.ofBelow hb) (by simp),h.b2.keep (Keep.ofBelow hb) (by simp)⟩
theorem CE.alloc(h:CE w W k b n t x s B M T X)(o:Obj):CE w (W.alloc o) k b n t x s B M T X:=h.on ((Below.refl _ _).alloc (Nat.le_refl _) _)
theorem CE.bool(h:CE w W k b n t x s B M T X)(B':Bool):CE w (W.setCell ⟨w.heap.size+1+1,1,none⟩ (.bool B')) k b n t x s B' M T X:=
 ⟨h.below.setCell (p:=⟨w.heap.size+1+1,1,none⟩) (by show w.heap.size≤w.heap.size+1+1;omega) _,h.b0.set_other ⟨w.heap.size+1+1,1,none⟩ (by show w.heap.size≠w.heap.size+1+1;omega) _,h.b2.set 1 _⟩
theorem CE.int(h:CE w W k b n t x s B M T X)(M':Int):CE w (W.setCell ⟨w.heap.size+1+1,2,none⟩ (.int .i64 M')) k b n t x s B M' T X:=
 ⟨h.below.setCell (p:=⟨w.heap.size+1+1,2,none⟩) (by show w.heap.size≤w.heap.size+1+1;omega) _,h.b0.set_other ⟨w.heap.size+1+1,2,none⟩ (by show w.heap.size≠w.heap.size+1+1;omega) _,h.b2.set 2 _⟩
theorem CE.text(h:CE w W k b n t x s B M T X)(T':ByteArray):CE w (W.setCell ⟨w.heap.size+1+1,3,none⟩ (.string T')) k b n t x s B M T' X:=
 ⟨h.below.setCell (p:=⟨w.heap.size+1+1,3,none⟩) (by show w.heap.size≤w.heap.size+1+1;omega) _,h.b0.set_other ⟨w.heap.size+1+1,3,none⟩ (by show w.heap.size≠w.heap.size+1+1;omega) _,h.b2.set 3 _⟩
theorem CE.extra(h:CE w W k b n t x s B M T X)(X':ByteArray):CE w (W.setCell ⟨w.heap.size+1+1,4,none⟩ (.string X')) k b n t x s B M T X':=
 ⟨h.below.setCell (p:=⟨w.heap.size+1+1,4,none⟩) (by show w.heap.size≤w.heap.size+1+1;omega) _,h.b0.set_other ⟨w.heap.size+1+1,4,none⟩ (by show w.heap.size≠w.heap.size+1+1;omega) _,h.b2.set 4 _⟩
end
theorem emp_iff(s:ByteArray):emp s=true↔s=⟨#[]⟩:=by
 unfold emp
 rw[decide_eq_true_iff]
 constructor
 ·intro h
  apply ba_ext
  exact List.eq_nil_of_length_eq_zero (by simpa using h)
 ·rintro rfl;rfl
theorem emp_no{s:ByteArray}(h:emp s=false):(s.toList==[])=false:=by
 rw[Go.ByteArray.toList_eq]
 apply beq_eq_false_iff_ne.2
 intro e
 have:emp s=true:=(emp_iff s).2 (ba_ext e)
 rw[h]at this;cases this
theorem CW.made(w:World)(k:Int)(b:Bool)(n:Int)(t x:ByteArray)(s:Value)(deep:Nat):
 CW w (((w.alloc (.cells #[.int .i64 k,.bool b,.int .i64 n,.string t,.string x,s] 38)).alloc (.cells #[.int .i64 deep] 3)).alloc (.cells #[.int .i64 k,.bool false,.int .i64 0,.string ⟨#[]⟩,.string ⟨#[]⟩,.slice none 0 0] 38)) k b n t x s deep:=by
 refine⟨((((Keep.refl [] w).alloc _).alloc _).alloc _).below,((Blk.new _ _ _).alloc _).alloc _,?_,?_⟩
 ·have:=(Blk.new (w.alloc (.cells #[.int .i64 k,.bool b,.int .i64 n,.string t,.string x,s] 38)) #[.int .i64 deep] 3).alloc (.cells #[.int .i64 k,.bool false,.int .i64 0,.string ⟨#[]⟩,.string ⟨#[]⟩,.slice none 0 0] 38)
  rwa [World.size_alloc]at this
 ·have:=Blk.new ((w.alloc (.cells #[.int .i64 k,.bool b,.int .i64 n,.string t,.string x,s] 38)).alloc (.cells #[.int .i64 deep] 3)) #[.int .i64 k,.bool false,.int .i64 0,.string ⟨#[]⟩,.string ⟨#[]⟩,.slice none 0 0] 38
  rwa [World.size_alloc,World.size_alloc]at this
theorem CW.on{w W W':World}{k:Int}{b:Bool}{n:Int}{t x:ByteArray}{s:Value}{deep:Nat}(h:CW w W k b n t x s deep)(hb:Below W.heap.size W W'):CW w W' k b n t x s deep:=
 ⟨h.below.trans (hb.mono h.below.size),h.b0.keep (Keep.ofBelow hb) (by simp),h.b1.keep (Keep.ofBelow hb) (by simp),h.b2.keep (Keep.ofBelow hb) (by simp)⟩
theorem CW.facts{w W:World}{k:Int}{b:Bool}{n:Int}{t x:ByteArray}{s:Value}{deep:Nat}(h:CW w W k b n t x s deep):W.cell? ⟨w.heap.size,0,none⟩=some (.int .i64 k)∧W.cell? ⟨w.heap.size,1,none⟩=some (.bool b)∧W.cell? ⟨w.heap.size,2,none⟩=some (.int .i64 n)∧W.cell? ⟨w.heap.size,3,none⟩=some (.string t)∧W.cell? ⟨w.heap.size,4,none⟩=some (.string x)∧W.cell? ⟨w.heap.size,5,none⟩=some s∧W.cell? ⟨w.heap.size+1,0,none⟩=some (.int .i64 deep)∧W.cell? ⟨w.heap.size+1+1,0,none⟩=some (.int .i64 k)∧W.cell? ⟨w.heap.size+1+1,1,none⟩=some (.bool false)∧W.cell? ⟨w.heap.size+1+1,2,none⟩=some (.int .i64 0)∧W.cell? ⟨w.heap.size+1+1,3,none⟩=some (.string ⟨#[]⟩)∧W.cell? ⟨w.heap.size+1+1,4,none⟩=some (.string ⟨#[]⟩)∧W.cell? ⟨w.heap.size+1+1,5,none⟩=some (.slice none 0 0)∧W.frozen? ⟨w.heap.size+1+1,0,none⟩=false∧W.frozen? ⟨w.heap.size+1+1,1,none⟩=false∧W.frozen? ⟨w.heap.size+1+1,2,none⟩=false∧W.frozen? ⟨w.heap.size+1+1,3,none⟩=false∧W.frozen? ⟨w.heap.size+1+1,4,none⟩=false:=
 ⟨h.b0.cell 0 rfl,h.b0.cell 1 rfl,h.b0.cell 2 rfl,h.b0.cell 3 rfl,h.b0.cell 4 rfl,h.b0.cell 5 rfl,h.b1.cell 0 rfl,h.b2.cell 0 rfl,h.b2.cell 1 rfl,h.b2.cell 2 rfl,h.b2.cell 3 rfl,h.b2.cell 4 rfl,h.b2.cell 5 rfl,h.b2.free 0,h.b2.free 1,h.b2.free 2,h.b2.free 3,h.b2.free 4⟩
theorem checked0(b:Bool)(n:Int)(t x:ByteArray)(ao:Option Addr)(len cap:Nat)(deep:Nat)(w:World):
 Calls Tryz.prog 61 #[agg6 0 b n t x (.slice ao len cap),.int .i64 deep] w fun e w'=>e=.returned (.bool (!b&&decide (n=0)&&emp t&&emp x&&decide (len=0)))∧Below w.heap.size w w':=by
 have hpt:=Hd (fun w=>part_any (0) b n t x (.slice ao len cap) w)
 unfold agg6 at hpt ⊢
 go_enter Tryz.func61,Tryz.ntmps61
 go_wp2_with fail
 refine(hpt.out _).mono ?_
 rintro e w1 ⟨he,hb1⟩
 have cw:=(CW.made w (0) b n t x (.slice ao len cap) deep).on hb1
 clear hb1 hpt
 obtain⟨x0,x1,x2,x3,x4,x5,y0,z0,z1,z2,z3,z4,z5,f0,f1,f2,f3,f4⟩:=cw.facts
 replace cw:=Hd cw
 obtain rfl:e=.returned (.iface 148 (.agg #[])):=he
 have ta0:=ta_0_0
 go_upto_region 46 with fail
 clear ta0
 have ce:=cw.out.ce.alloc (.cells #[] 148)
 generalize w1.alloc (.cells #[] 148)=w2 at *
 clear x0 x1 x2 x3 x4 x5 y0 z0 z1 z2 z3 z4 z5 f0 f1 f2 f3 f4
 have x0:=ce.b0.cell 0 rfl
 have x1:=ce.b0.cell 1 rfl
 have x2:=ce.b0.cell 2 rfl
 have x3:=ce.b0.cell 3 rfl
 have x4:=ce.b0.cell 4 rfl
 have x5:=ce.b0.cell 5 rfl
 have z1:=ce.b2.cell 1 rfl
 have z2:=ce.b2.cell 2 rfl
 have z3:=ce.b2.cell 3 rfl
 have z4:=ce.b2.cell 4 rfl
 have hbe:=Hd ce.below
 clear ce cw
 cases b
 case true=>
  go_wp2;go_ret;exact⟨ret_bool (by simp[*]),hbe.out⟩
 by_cases hn:n=0
 case neg=>
  have hnb:(n==0)=false:=beq_eq_false_iff_ne.2 hn
  go_wp2;go_ret;exact⟨ret_bool (by simp[*]),hbe.out⟩
 subst hn
 cases ht:emp t
 case false=>
  have htb:=emp_no ht
  go_wp2;go_ret;exact⟨ret_bool (by simp[*]),hbe.out⟩
 obtain rfl:=(emp_iff t).1 ht
 cases hx:emp x
 case false=>
  have hxb:=emp_no hx
  go_wp2;go_ret;exact⟨ret_bool (by simp[*]),hbe.out⟩
 obtain rfl:=(emp_iff x).1 hx
 by_cases hl:len=0
 case neg=>
  have hlb:((len:Int)==0)=false:=beq_eq_false_iff_ne.2 (by omega)
  go_wp2;go_ret;exact⟨ret_bool (by simp[*]),hbe.out⟩
 subst hl
 go_wp2;go_ret;exact⟨ret_bool (by simp[*]),hbe.out⟩
theorem checked1(b:Bool)(n:Int)(t x:ByteArray)(ao:Option Addr)(len cap:Nat)(deep:Nat)(w:World):
 Calls Tryz.prog 61 #[agg6 1 b n t x (.slice ao len cap),.int .i64 deep] w fun e w'=>e=.returned (.bool (decide (n=0)&&emp t&&emp x&&decide (len=0)))∧Below w.heap.size w w':=by
 have hpt:=Hd (fun w=>part_any (1) b n t x (.slice ao len cap) w)
 unfold agg6 at hpt ⊢
 go_enter Tryz.func61,Tryz.ntmps61
 go_wp2_with fail
 refine(hpt.out _).mono ?_
 rintro e w1 ⟨he,hb1⟩
 have cw:=(CW.made w (1) b n t x (.slice ao len cap) deep).on hb1
 clear hb1 hpt
 obtain⟨x0,x1,x2,x3,x4,x5,y0,z0,z1,z2,z3,z4,z5,f0,f1,f2,f3,f4⟩:=cw.facts
 replace cw:=Hd cw
 obtain rfl:e=.returned (.iface 149 (.bool b)):=he
 have ta0:=ta_1_0
 have ta1:=ta_1_1
 go_upto_region 46 with fail
 clear ta0 ta1
 have ce:=cw.out.ce.bool b
 generalize w1.setCell ⟨w.heap.size+1+1,1,none⟩ (.bool b)=w2 at *
 clear x0 x1 x2 x3 x4 x5 y0 z0 z1 z2 z3 z4 z5 f0 f1 f2 f3 f4
 have x0:=ce.b0.cell 0 rfl
 have x1:=ce.b0.cell 1 rfl
 have x2:=ce.b0.cell 2 rfl
 have x3:=ce.b0.cell 3 rfl
 have x4:=ce.b0.cell 4 rfl
 have x5:=ce.b0.cell 5 rfl
 have z1:=ce.b2.cell 1 rfl
 have z2:=ce.b2.cell 2 rfl
 have z3:=ce.b2.cell 3 rfl
 have z4:=ce.b2.cell 4 rfl
 have hbe:=Hd ce.below
 clear ce cw
 by_cases hn:n=0
 case neg=>
  have hnb:(n==0)=false:=beq_eq_false_iff_ne.2 hn
  go_wp2;go_ret;exact⟨ret_bool (by simp[*]),hbe.out⟩
 subst hn
 cases ht:emp t
 case false=>
  have htb:=emp_no ht
  go_wp2;go_ret;exact⟨ret_bool (by simp[*]),hbe.out⟩
 obtain rfl:=(emp_iff t).1 ht
 cases hx:emp x
 case false=>
  have hxb:=emp_no hx
  go_wp2;go_ret;exact⟨ret_bool (by simp[*]),hbe.out⟩
 obtain rfl:=(emp_iff x).1 hx
 by_cases hl:len=0
 case neg=>
  have hlb:((len:Int)==0)=false:=beq_eq_false_iff_ne.2 (by omega)
  go_wp2;go_ret;exact⟨ret_bool (by simp[*]),hbe.out⟩
 subst hl
 go_wp2;go_ret;exact⟨ret_bool (by simp[*]),hbe.out⟩
theorem checked2(b:Bool)(n:Int)(t x:ByteArray)(ao:Option Addr)(len cap:Nat)(deep:Nat)(w:World):
 Calls Tryz.prog 61 #[agg6 2 b n t x (.slice ao len cap),.int .i64 deep] w fun e w'=>e=.returned (.bool (!b&&emp t&&emp x&&decide (len=0)))∧Below w.heap.size w w':=by
 have hpt:=Hd (fun w=>part_any (2) b n t x (.slice ao len cap) w)
 unfold agg6 at hpt ⊢
 go_enter Tryz.func61,Tryz.ntmps61
 go_wp2_with fail
 refine(hpt.out _).mono ?_
 rintro e w1 ⟨he,hb1⟩
 have cw:=(CW.made w (2) b n t x (.slice ao len cap) deep).on hb1
 clear hb1 hpt
 obtain⟨x0,x1,x2,x3,x4,x5,y0,z0,z1,z2,z3,z4,z5,f0,f1,f2,f3,f4⟩:=cw.facts
 replace cw:=Hd cw
 obtain rfl:e=.returned (.iface 150 (.int .i64 n)):=he
 have ta0:=ta_2_0
 have ta1:=ta_2_1
 have ta2:=ta_2_2
 go_upto_region 46 with fail
 clear ta0 ta1 ta2
 have ce:=cw.out.ce.int n
 generalize w1.setCell ⟨w.heap.size+1+1,2,none⟩ (.int .i64 n)=w2 at *
 clear x0 x1 x2 x3 x4 x5 y0 z0 z1 z2 z3 z4 z5 f0 f1 f2 f3 f4
 have x0:=ce.b0.cell 0 rfl
 have x1:=ce.b0.cell 1 rfl
 have x2:=ce.b0.cell 2 rfl
 have x3:=ce.b0.cell 3 rfl
 have x4:=ce.b0.cell 4 rfl
 have x5:=ce.b0.cell 5 rfl
 have z1:=ce.b2.cell 1 rfl
 have z2:=ce.b2.cell 2 rfl
 have z3:=ce.b2.cell 3 rfl
 have z4:=ce.b2.cell 4 rfl
 have hbe:=Hd ce.below
 clear ce cw
 cases b
 case true=>
  go_wp2;go_ret;exact⟨ret_bool (by simp[*]),hbe.out⟩
 cases ht:emp t
 case false=>
  have htb:=emp_no ht
  go_wp2;go_ret;exact⟨ret_bool (by simp[*]),hbe.out⟩
 obtain rfl:=(emp_iff t).1 ht
 cases hx:emp x
 case false=>
  have hxb:=emp_no hx
  go_wp2;go_ret;exact⟨ret_bool (by simp[*]),hbe.out⟩
 obtain rfl:=(emp_iff x).1 hx
 by_cases hl:len=0
 case neg=>
  have hlb:((len:Int)==0)=false:=beq_eq_false_iff_ne.2 (by omega)
  go_wp2;go_ret;exact⟨ret_bool (by simp[*]),hbe.out⟩
 subst hl
 go_wp2;go_ret;exact⟨ret_bool (by simp[*]),hbe.out⟩
theorem checked3(b:Bool)(n:Int)(t x:ByteArray)(ao:Option Addr)(len cap:Nat)(deep:Nat)(w:World)(hE:Env w):
 Calls Tryz.prog 61 #[agg6 3 b n t x (.slice ao len cap),.int .i64 deep] w fun e w'=>e=.returned (.bool (!b&&decide (n=0)&&emp x&&decide (len=0)&&chk t.data.toList))∧Below w.heap.size w w':=by
 have hck:=fun w hE=>chk_any t w hE
 generalize chk t.data.toList=c at *
 replace hck:=Hd hck
 replace hE:=Hd hE
 have hpt:=Hd (fun w=>part_any (3) b n t x (.slice ao len cap) w)
 unfold agg6 at hpt ⊢
 go_enter Tryz.func61,Tryz.ntmps61
 go_wp2_with fail
 refine(hpt.out _).mono ?_
 rintro e w1 ⟨he,hb1⟩
 have cw:=(CW.made w (3) b n t x (.slice ao len cap) deep).on hb1
 clear hb1 hpt
 obtain⟨x0,x1,x2,x3,x4,x5,y0,z0,z1,z2,z3,z4,z5,f0,f1,f2,f3,f4⟩:=cw.facts
 replace cw:=Hd cw
 obtain rfl:e=.returned (.iface 151 (.string t)):=he
 have ta0:=ta_3_0
 have ta1:=ta_3_1
 have ta2:=ta_3_2
 have ta3:=ta_3_3
 have hE1:=Hd (hE.out.below cw.out.below)
 cases c
 ·go_wp2_with (go_at_call 96;refine(hck.out _ hE1.out).mono ?_;rintro e w2 ⟨rfl,hb2⟩)
  go_ret
  exact⟨ret_bool (by simp),(cw.out.on hb2).below⟩
 ·go_upto_region 46 with(go_at_call 96;refine(hck.out _ hE1.out).mono ?_;rintro e w2 ⟨rfl,hb2⟩;have f3:w2.frozen? ⟨w.heap.size+1+1,3,none⟩=false:=(cw.out.on hb2).b2.free 3;have z3:w2.cell? ⟨w.heap.size+1+1,3,none⟩=some (.string ⟨#[]⟩):=(cw.out.on hb2).b2.cell 3 rfl)
  clear ta0 ta1 ta2 ta3
  have ce:=(cw.out.ce.on hb2).text t
  clear hb2 hE1
  generalize w2.setCell ⟨w.heap.size+1+1,3,none⟩ (.string t)=w3 at *
  clear x0 x1 x2 x3 x4 x5 y0 z0 z1 z2 z3 z4 z5 f0 f1 f2 f3 f4
  have x0:=ce.b0.cell 0 rfl
  have x1:=ce.b0.cell 1 rfl
  have x2:=ce.b0.cell 2 rfl
  have x3:=ce.b0.cell 3 rfl
  have x4:=ce.b0.cell 4 rfl
  have x5:=ce.b0.cell 5 rfl
  have z1:=ce.b2.cell 1 rfl
  have z2:=ce.b2.cell 2 rfl
  have z3:=ce.b2.cell 3 rfl
  have z4:=ce.b2.cell 4 rfl
  have hbe:=Hd ce.below
  clear ce cw
  cases b
  case true=>
   go_wp2;go_ret;exact⟨ret_bool (by simp[*]),hbe.out⟩
  by_cases hn:n=0
  case neg=>
   have hnb:(n==0)=false:=beq_eq_false_iff_ne.2 hn
   go_wp2;go_ret;exact⟨ret_bool (by simp[*]),hbe.out⟩
  subst hn
  cases hx:emp x
  case false=>
   have hxb:=emp_no hx
   go_wp2;go_ret;exact⟨ret_bool (by simp[*]),hbe.out⟩
  obtain rfl:=(emp_iff x).1 hx
  by_cases hl:len=0
  case neg=>
   have hlb:((len:Int)==0)=false:=beq_eq_false_iff_ne.2 (by omega)
   go_wp2;go_ret;exact⟨ret_bool (by simp[*]),hbe.out⟩
  subst hl
  go_wp2;go_ret;exact⟨ret_bool (by simp[*]),hbe.out⟩
theorem checked6(k:Int)(hk:k=6∨k=7)(b:Bool)(n:Int)(t x:ByteArray)(ao:Option Addr)(len cap:Nat)(deep:Nat)(w:World):
 Calls Tryz.prog 61 #[agg6 k b n t x (.slice ao len cap),.int .i64 deep] w fun e w'=>e=.returned (.bool (!b&&decide (0≤n)&&emp t&&emp x&&decide (len=0)))∧Below w.heap.size w w':=by
 rcases hk with rfl|rfl
 ·skip
  have hpt:=Hd (fun w=>part_any (6) b n t x (.slice ao len cap) w)
  unfold agg6 at hpt ⊢
  go_enter Tryz.func61,Tryz.ntmps61
  go_wp2_with fail
  refine(hpt.out _).mono ?_
  rintro e w1 ⟨he,hb1⟩
  have cw:=(CW.made w (6) b n t x (.slice ao len cap) deep).on hb1
  clear hb1 hpt
  obtain⟨x0,x1,x2,x3,x4,x5,y0,z0,z1,z2,z3,z4,z5,f0,f1,f2,f3,f4⟩:=cw.facts
  replace cw:=Hd cw
  obtain rfl:e=.returned (.iface 155 (.int .i64 n)):=he
  have ta0:=ta_6_0
  have ta1:=ta_6_1
  have ta2:=ta_6_2
  have ta3:=ta_6_3
  have ta4:=ta_6_4
  have ta5:=ta_6_5
  have ta6:=ta_6_6
  by_cases hn0:n<0
  ·have hn1:¬0≤n:=by omega
   go_wp2
   go_ret
   exact⟨ret_bool (by rw[decide_eq_false (show ¬0≤n by omega)];simp),cw.out.below⟩
  ·have hn1:0≤n:=by omega
   go_upto_region 46 with fail
   clear ta0 ta1 ta2 ta3 ta4 ta5 ta6
   have ce:=cw.out.ce.int n
   generalize w1.setCell ⟨w.heap.size+1+1,2,none⟩ (.int .i64 n)=w2 at *
   clear x0 x1 x2 x3 x4 x5 y0 z0 z1 z2 z3 z4 z5 f0 f1 f2 f3 f4
   have x0:=ce.b0.cell 0 rfl
   have x1:=ce.b0.cell 1 rfl
   have x2:=ce.b0.cell 2 rfl
   have x3:=ce.b0.cell 3 rfl
   have x4:=ce.b0.cell 4 rfl
   have x5:=ce.b0.cell 5 rfl
   have z1:=ce.b2.cell 1 rfl
   have z2:=ce.b2.cell 2 rfl
   have z3:=ce.b2.cell 3 rfl
   have z4:=ce.b2.cell 4 rfl
   have hbe:=Hd ce.below
   clear ce cw
   cases b
   case true=>
    go_wp2;go_ret;exact⟨ret_bool (by simp[*]),hbe.out⟩
   cases ht:emp t
   case false=>
    have htb:=emp_no ht
    go_wp2;go_ret;exact⟨ret_bool (by simp[*]),hbe.out⟩
   obtain rfl:=(emp_iff t).1 ht
   cases hx:emp x
   case false=>
    have hxb:=emp_no hx
    go_wp2;go_ret;exact⟨ret_bool (by simp[*]),hbe.out⟩
   obtain rfl:=(emp_iff x).1 hx
   by_cases hl:len=0
   case neg=>
    have hlb:((len:Int)==0)=false:=beq_eq_false_iff_ne.2 (by omega)
    go_wp2;go_ret;exact⟨ret_bool (by simp[*]),hbe.out⟩
   subst hl
   go_wp2;go_ret;exact⟨ret_bool (by simp[*]),hbe.out⟩
 ·skip
  have hpt:=Hd (fun w=>part_any (7) b n t x (.slice ao len cap) w)
  unfold agg6 at hpt ⊢
  go_enter Tryz.func61,Tryz.ntmps61
  go_wp2_with fail
  refine(hpt.out _).mono ?_
  rintro e w1 ⟨he,hb1⟩
  have cw:=(CW.made w (7) b n t x (.slice ao len cap) deep).on hb1
  clear hb1 hpt
  obtain⟨x0,x1,x2,x3,x4,x5,y0,z0,z1,z2,z3,z4,z5,f0,f1,f2,f3,f4⟩:=cw.facts
  replace cw:=Hd cw
  obtain rfl:e=.returned (.iface 155 (.int .i64 n)):=he
  have ta0:=ta_6_0
  have ta1:=ta_6_1
  have ta2:=ta_6_2
  have ta3:=ta_6_3
  have ta4:=ta_6_4
  have ta5:=ta_6_5
  have ta6:=ta_6_6
  by_cases hn0:n<0
  ·have hn1:¬0≤n:=by omega
   go_wp2
   go_ret
   exact⟨ret_bool (by rw[decide_eq_false (show ¬0≤n by omega)];simp),cw.out.below⟩
  ·have hn1:0≤n:=by omega
   go_upto_region 46 with fail
   clear ta0 ta1 ta2 ta3 ta4 ta5 ta6
   have ce:=cw.out.ce.int n
   generalize w1.setCell ⟨w.heap.size+1+1,2,none⟩ (.int .i64 n)=w2 at *
   clear x0 x1 x2 x3 x4 x5 y0 z0 z1 z2 z3 z4 z5 f0 f1 f2 f3 f4
   have x0:=ce.b0.cell 0 rfl
   have x1:=ce.b0.cell 1 rfl
   have x2:=ce.b0.cell 2 rfl
   have x3:=ce.b0.cell 3 rfl
   have x4:=ce.b0.cell 4 rfl
   have x5:=ce.b0.cell 5 rfl
   have z1:=ce.b2.cell 1 rfl
   have z2:=ce.b2.cell 2 rfl
   have z3:=ce.b2.cell 3 rfl
   have z4:=ce.b2.cell 4 rfl
   have hbe:=Hd ce.below
   clear ce cw
   cases b
   case true=>
    go_wp2;go_ret;exact⟨ret_bool (by simp[*]),hbe.out⟩
   cases ht:emp t
   case false=>
    have htb:=emp_no ht
    go_wp2;go_ret;exact⟨ret_bool (by simp[*]),hbe.out⟩
   obtain rfl:=(emp_iff t).1 ht
   cases hx:emp x
   case false=>
    have hxb:=emp_no hx
    go_wp2;go_ret;exact⟨ret_bool (by simp[*]),hbe.out⟩
   obtain rfl:=(emp_iff x).1 hx
   by_cases hl:len=0
   case neg=>
    have hlb:((len:Int)==0)=false:=beq_eq_false_iff_ne.2 (by omega)
    go_wp2;go_ret;exact⟨ret_bool (by simp[*]),hbe.out⟩
   subst hl
   go_wp2;go_ret;exact⟨ret_bool (by simp[*]),hbe.out⟩
theorem checked4(b:Bool)(n:Int)(t x:ByteArray)(ao:Option Addr)(len cap:Nat)(deep:Nat)(w:World)(hts:t.size≤9223372036854775807):
 Calls Tryz.prog 61 #[agg6 4 b n t x (.slice ao len cap),.int .i64 deep] w fun e w'=>e=.returned (.bool (!b&&decide (n=0)&&emp x&&decide (len=0)&&decide (t.size≤1048576)))∧Below w.heap.size w w':=by
 have htsi:(t.size:Int)≤9223372036854775807:=by omega
 have hpt:=Hd (fun w=>part_any (4) b n t x (.slice ao len cap) w)
 unfold agg6 at hpt ⊢
 go_enter Tryz.func61,Tryz.ntmps61
 go_wp2_with fail
 refine(hpt.out _).mono ?_
 rintro e w1 ⟨he,hb1⟩
 have cw:=(CW.made w (4) b n t x (.slice ao len cap) deep).on hb1
 clear hb1 hpt
 obtain⟨x0,x1,x2,x3,x4,x5,y0,z0,z1,z2,z3,z4,z5,f0,f1,f2,f3,f4⟩:=cw.facts
 replace cw:=Hd cw
 obtain rfl:e=.returned (.iface 152 (.string t)):=he
 have ta0:=ta_4_0
 have ta1:=ta_4_1
 have ta2:=ta_4_2
 have ta3:=ta_4_3
 have ta4:=ta_4_4
 by_cases hm:t.size≤1048576
 ·have hmi:decide ((t.size:Int)≤1048576)=true:=decide_eq_true (by omega)
  go_upto_region 46 with fail
  clear ta0 ta1 ta2 ta3 ta4
  have ce:=cw.out.ce.text t
  generalize w1.setCell ⟨w.heap.size+1+1,3,none⟩ (.string t)=w3 at *
  clear x0 x1 x2 x3 x4 x5 y0 z0 z1 z2 z3 z4 z5 f0 f1 f2 f3 f4
  have x0:=ce.b0.cell 0 rfl
  have x1:=ce.b0.cell 1 rfl
  have x2:=ce.b0.cell 2 rfl
  have x3:=ce.b0.cell 3 rfl
  have x4:=ce.b0.cell 4 rfl
  have x5:=ce.b0.cell 5 rfl
  have z1:=ce.b2.cell 1 rfl
  have z2:=ce.b2.cell 2 rfl
  have z3:=ce.b2.cell 3 rfl
  have z4:=ce.b2.cell 4 rfl
  have hbe:=Hd ce.below
  clear ce cw
  cases b
  case true=>
   go_wp2;go_ret;exact⟨ret_bool (by simp[*]),hbe.out⟩
  by_cases hn:n=0
  case neg=>
   have hnb:(n==0)=false:=beq_eq_false_iff_ne.2 hn
   go_wp2;go_ret;exact⟨ret_bool (by simp[*]),hbe.out⟩
  subst hn
  cases hx:emp x
  case false=>
   have hxb:=emp_no hx
   go_wp2;go_ret;exact⟨ret_bool (by simp[*]),hbe.out⟩
  obtain rfl:=(emp_iff x).1 hx
  by_cases hl:len=0
  case neg=>
   have hlb:((len:Int)==0)=false:=beq_eq_false_iff_ne.2 (by omega)
   go_wp2;go_ret;exact⟨ret_bool (by simp[*]),hbe.out⟩
  subst hl
  go_wp2;go_ret;exact⟨ret_bool (by simp[*]),hbe.out⟩
 ·have hmi:decide ((t.size:Int)≤1048576)=false:=decide_eq_false (by omega)
  go_wp2
  go_ret
  exact⟨ret_bool (by rw[decide_eq_false hm];simp),cw.out.below⟩
theorem checked8(b:Bool)(n:Int)(t x:ByteArray)(ao:Option Addr)(len cap:Nat)(deep:Nat)(w:World)(hts:t.size≤9223372036854775807):
 Calls Tryz.prog 61 #[agg6 8 b n t x (.slice ao len cap),.int .i64 deep] w fun e w'=>e=.returned (.bool (!b&&decide (n=0)&&emp x&&decide (len=0)&&iriB t))∧Below w.heap.size w w':=by
 have htsi:(t.size:Int)≤9223372036854775807:=by omega
 have hir:=fun w=>iri_any t w hts
 generalize iriB t=c at *
 replace hir:=Hd hir
 have hpt:=Hd (fun w=>part_any (8) b n t x (.slice ao len cap) w)
 unfold agg6 at hpt ⊢
 go_enter Tryz.func61,Tryz.ntmps61
 go_wp2_with fail
 refine(hpt.out _).mono ?_
 rintro e w1 ⟨he,hb1⟩
 have cw:=(CW.made w (8) b n t x (.slice ao len cap) deep).on hb1
 clear hb1 hpt
 obtain⟨x0,x1,x2,x3,x4,x5,y0,z0,z1,z2,z3,z4,z5,f0,f1,f2,f3,f4⟩:=cw.facts
 replace cw:=Hd cw
 obtain rfl:e=.returned (.iface 152 (.string t)):=he
 have ta0:=ta_4_0
 have ta1:=ta_4_1
 have ta2:=ta_4_2
 have ta3:=ta_4_3
 have ta4:=ta_4_4
 cases c
 ·go_wp2_with (go_at_call 97;refine(hir.out _).mono ?_;rintro e w2 ⟨rfl,hw2⟩;rw[hw2];clear hw2)
  go_ret
  exact⟨ret_bool (by simp),cw.out.below⟩
 ·go_upto_region 46 with(go_at_call 97;refine(hir.out _).mono ?_;rintro e w2 ⟨rfl,hw2⟩;rw[hw2];clear hw2)
  clear ta0 ta1 ta2 ta3 ta4
  have ce:=cw.out.ce.text t
  generalize w1.setCell ⟨w.heap.size+1+1,3,none⟩ (.string t)=w3 at *
  clear x0 x1 x2 x3 x4 x5 y0 z0 z1 z2 z3 z4 z5 f0 f1 f2 f3 f4
  have x0:=ce.b0.cell 0 rfl
  have x1:=ce.b0.cell 1 rfl
  have x2:=ce.b0.cell 2 rfl
  have x3:=ce.b0.cell 3 rfl
  have x4:=ce.b0.cell 4 rfl
  have x5:=ce.b0.cell 5 rfl
  have z1:=ce.b2.cell 1 rfl
  have z2:=ce.b2.cell 2 rfl
  have z3:=ce.b2.cell 3 rfl
  have z4:=ce.b2.cell 4 rfl
  have hbe:=Hd ce.below
  clear ce cw
  cases b
  case true=>
   go_wp2;go_ret;exact⟨ret_bool (by simp[*]),hbe.out⟩
  by_cases hn:n=0
  case neg=>
   have hnb:(n==0)=false:=beq_eq_false_iff_ne.2 hn
   go_wp2;go_ret;exact⟨ret_bool (by simp[*]),hbe.out⟩
  subst hn
  cases hx:emp x
  case false=>
   have hxb:=emp_no hx
   go_wp2;go_ret;exact⟨ret_bool (by simp[*]),hbe.out⟩
  obtain rfl:=(emp_iff x).1 hx
  by_cases hl:len=0
  case neg=>
   have hlb:((len:Int)==0)=false:=beq_eq_false_iff_ne.2 (by omega)
   go_wp2;go_ret;exact⟨ret_bool (by simp[*]),hbe.out⟩
  subst hl
  go_wp2;go_ret;exact⟨ret_bool (by simp[*]),hbe.out⟩
theorem checked9(b:Bool)(n:Int)(t x:ByteArray)(ao:Option Addr)(len cap:Nat)(deep:Nat)(w:World)(hts:t.size≤9223372036854775807):
 Calls Tryz.prog 61 #[agg6 9 b n t x (.slice ao len cap),.int .i64 deep] w fun e w'=>e=.returned (.bool (!b&&decide (n=0)&&emp x&&decide (len=0)&&nameB t))∧Below w.heap.size w w':=by
 have htsi:(t.size:Int)≤9223372036854775807:=by omega
 have hir:=fun w=>name_any t w hts
 generalize nameB t=c at *
 replace hir:=Hd hir
 have hpt:=Hd (fun w=>part_any (9) b n t x (.slice ao len cap) w)
 unfold agg6 at hpt ⊢
 go_enter Tryz.func61,Tryz.ntmps61
 go_wp2_with fail
 refine(hpt.out _).mono ?_
 rintro e w1 ⟨he,hb1⟩
 have cw:=(CW.made w (9) b n t x (.slice ao len cap) deep).on hb1
 clear hb1 hpt
 obtain⟨x0,x1,x2,x3,x4,x5,y0,z0,z1,z2,z3,z4,z5,f0,f1,f2,f3,f4⟩:=cw.facts
 replace cw:=Hd cw
 obtain rfl:e=.returned (.iface 152 (.string t)):=he
 have ta0:=ta_4_0
 have ta1:=ta_4_1
 have ta2:=ta_4_2
 have ta3:=ta_4_3
 have ta4:=ta_4_4
 cases c
 ·go_wp2_with (go_at_call 98;refine(hir.out _).mono ?_;rintro e w2 ⟨rfl,hw2⟩;rw[hw2];clear hw2)
  go_ret
  exact⟨ret_bool (by simp),cw.out.below⟩
 ·go_upto_region 46 with(go_at_call 98;refine(hir.out _).mono ?_;rintro e w2 ⟨rfl,hw2⟩;rw[hw2];clear hw2)
  clear ta0 ta1 ta2 ta3 ta4
  have ce:=cw.out.ce.text t
  generalize w1.setCell ⟨w.heap.size+1+1,3,none⟩ (.string t)=w3 at *
  clear x0 x1 x2 x3 x4 x5 y0 z0 z1 z2 z3 z4 z5 f0 f1 f2 f3 f4
  have x0:=ce.b0.cell 0 rfl
  have x1:=ce.b0.cell 1 rfl
  have x2:=ce.b0.cell 2 rfl
  have x3:=ce.b0.cell 3 rfl
  have x4:=ce.b0.cell 4 rfl
  have x5:=ce.b0.cell 5 rfl
  have z1:=ce.b2.cell 1 rfl
  have z2:=ce.b2.cell 2 rfl
  have z3:=ce.b2.cell 3 rfl
  have z4:=ce.b2.cell 4 rfl
  have hbe:=Hd ce.below
  clear ce cw
  cases b
  case true=>
   go_wp2;go_ret;exact⟨ret_bool (by simp[*]),hbe.out⟩
  by_cases hn:n=0
  case neg=>
   have hnb:(n==0)=false:=beq_eq_false_iff_ne.2 hn
   go_wp2;go_ret;exact⟨ret_bool (by simp[*]),hbe.out⟩
  subst hn
  cases hx:emp x
  case false=>
   have hxb:=emp_no hx
   go_wp2;go_ret;exact⟨ret_bool (by simp[*]),hbe.out⟩
  obtain rfl:=(emp_iff x).1 hx
  by_cases hl:len=0
  case neg=>
   have hlb:((len:Int)==0)=false:=beq_eq_false_iff_ne.2 (by omega)
   go_wp2;go_ret;exact⟨ret_bool (by simp[*]),hbe.out⟩
  subst hl
  go_wp2;go_ret;exact⟨ret_bool (by simp[*]),hbe.out⟩
end Go.Proofs.YtcaeipdgbaligaaGreatDoor.val
