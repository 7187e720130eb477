/- Contracts of the reference's Mul, Div, Compare, Neg. -/
import Derived.Test.YtnnojhgnfmieoaaGreatDoorRefOps
import Derived.Test.YtnnojhgnfmieoaaGreatDoorDecMul
import Derived.Test.YtnnojhgnfmieoaaGreatDoorDecDiv
import Derived.Test.YtnnojhgnfmieoaaGreatDoorDecCmp
import Derived.Test.YtnnojhgnfmieoaaGreatDoorDecNeg
namespace Go.Proofs.YtnnojhgnfmieoaaGreatDoor.dec
open Go.ChangeShapes Go.WideShapes Go.ChangeAt Go.RowKit kit
set_option linter.unusedVariables false
set_option linter.unusedSimpArgs false
theorem mul_plain (s t : Bool) (A B sa sb : Nat) (x y : Int) (ha : sa ≤ 20) (hb : sb ≤ 20) (hs : s = decide (x < 0)) (ht : t = decide (y < 0)) (hx : A * 10 ^ (20 - sa) = x.natAbs) (hy : B * 10 ^ (20 - sb) = y.natAbs) :
    toldP (s != t) (A * B) (sa + sb) = mulR x y := by
  unfold mulR
  rw [← hs, ← ht, ← hx, ← hy]
  have h := told_dvd (s != t) (A * B) (sa + sb) (40 - (sa + sb))
  rw [show sa + sb + (40 - (sa + sb)) = 40 by omega] at h
  rw [← h]
  congr 1
  rw [show 40 - (sa + sb) = (20 - sa) + (20 - sb) by omega, Nat.pow_add]
  ac_rfl
theorem quo_plain (s t : Bool) (A B sa sb S : Nat) (x y : Int) (hS : max sa sb = S) (ha : sa ≤ 20) (hb : sb ≤ 20) (hs : s = decide (x < 0)) (ht : t = decide (y < 0)) (hx : A * 10 ^ (20 - sa) = x.natAbs) (hy : B * 10 ^ (20 - sb) = y.natAbs) :
    toldP (s != t) (10 ^ 20 * (10 ^ (S - sa) * A) / (10 ^ (S - sb) * B)) 20 = txt (quo x y) := by
  have hSa : sa ≤ S := by omega
  have hSb : sb ≤ S := by omega
  rw [toldP_20]
  unfold quo
  rw [← hs, ← ht, ← hx, ← hy]
  congr 2
  have e1 : 10 ^ 20 * (10 ^ (S - sa) * A) * 10 ^ (20 - S) = A * 10 ^ (20 - sa) * E20 := by
    rw [show 20 - sa = (S - sa) + (20 - S) by omega, Nat.pow_add]; unfold E20; ac_rfl
  have e2 : 10 ^ (S - sb) * B * 10 ^ (20 - S) = B * 10 ^ (20 - sb) := by
    rw [show 20 - sb = (S - sb) + (20 - S) by omega, Nat.pow_add]; ac_rfl
  rw [← e1, ← e2, Nat.mul_div_mul_right _ _ (Nat.pow_pos (by decide))]
set_option maxRecDepth 100000 in
set_option maxHeartbeats 4000000 in
theorem refmul_call (a b : ByteArray) (w : World) (ha : a.size ≤ 50000) (hb : b.size ≤ 50000) : Calls Tryz.prog 17 #[.string a, .string b] w fun e w' => e = .returned (rv (mulT a.data.toList b.data.toList)) ∧ Below w.heap.size w w' := by
  have h2 := two_any a b w ha hb
  obtain ⟨r, hr⟩ : ∃ r, mulT a.data.toList b.data.toList = r := ⟨_, rfl⟩
  rw [hr]
  replace h2 := Lib.hid h2
  replace hr := Lib.hid hr
  go_enter Tryz.func17, Tryz.ntmps17
  go_wp2_with fail
  refine h2.out.mono ?_
  rintro e w1 ⟨x, y, rfl, hb1, hx, hy⟩
  clear h2
  obtain ⟨n1, v1, D1, s1, rfl, hi1, hm1⟩ := hx
  obtain ⟨n2, v2, D2, s2, rfl, hi2, hm2⟩ := hy
  obtain ⟨vo1, vc1, rfl⟩ := hi1.form
  obtain ⟨vo2, vc2, rfl⟩ := hi2.form
  by_cases hc : (chk a.data.toList && chk b.data.toList) = true
  · skip
    rw [hc]
    have hr2 := hr.out
    unfold mulT at hr2
    rw [if_pos hc] at hr2
    rw [Bool.and_eq_true] at hc
    obtain ⟨x, zx, ex⟩ := (chk_iff _).1 hc.1
    obtain ⟨y, zy, ey⟩ := (chk_iff _).1 hc.2
    obtain ⟨d1, l1, m1, c1, q1, e1, f1⟩ := hm1.canon zx ex
    obtain ⟨d2, l2, m2, c2, q2, e2, f2⟩ := hm2.canon zy ey
    have k1 := canon_sz zx ex
    have k2 := canon_sz zy ey
    rw [ex, ey, zof_canon x zx, zof_canon y zy] at hr2
    clear hm1 hm2 hc ex ey hr
    have o1 : Below w1.heap.size w1 ((w1.alloc (.cells #[.bool n1, .slice vo1 D1.length vc1, .int .i64 s1] 49)).alloc (.cells #[.bool n2, .slice vo2 D2.length vc2, .int .i64 s2] 49)) := (((Keep.refl [] w1).alloc _).alloc _).below
    replace hb1 := Lib.hid hb1
    replace hi1 := Lib.hid hi1
    replace hi2 := Lib.hid hi2
    replace hr2 := Lib.hid hr2
    replace q1 := Lib.hid q1
    replace e1 := Lib.hid e1
    replace f1 := Lib.hid f1
    replace e2 := Lib.hid e2
    replace f2 := Lib.hid f2
    replace q2 := Lib.hid q2
    replace d1 := Lib.hid d1
    replace d2 := Lib.hid d2
    replace o1 := Lib.hid o1
    go_wp2_with fail
    obtain ⟨W2, hW2⟩ : ∃ W2, W2 = (w1.alloc (.cells #[.bool n1, .slice vo1 D1.length vc1, .int .i64 s1] 49)).alloc (.cells #[.bool n2, .slice vo2 D2.length vc2, .int .i64 s2] 49) := ⟨_, rfl⟩
    rw [← hW2] at o1 ⊢
    clear hW2
    refine (rtimes_any n1 n2 (.slice vo1 D1.length vc1) (.slice vo2 D2.length vc2) D1 D2 s1 s2 W2 (hi1.out.below o1.out) (hi2.out.below o1.out) d1.out d2.out l1 l2 (by omega) (by omega) (by omega) (by omega)).mono ?_
    rintro e w3 ⟨v3, D3, he3, hb3, hi3, d3, hv3, hl3⟩
    have hpl := mul_plain n1 n2 (vL D1) (vL D2) s1 s2 x y c1 c2 e1.out e2.out f1.out f2.out
    rw [hr2.out, ← hv3] at hpl
    have he4 : e = .returned (.agg #[.bool (n1 != n2), v3, .int .i64 (s1 + s2 : Nat)]) := he3
    subst he4
    obtain ⟨vo3, vc3, rfl⟩ := hi3.form
    have hb13 := (hb1.out.trans (o1.out.mono hb1.out.size)).trans (hb3.mono (Nat.le_trans hb1.out.size o1.out.size))
    have l3 : 1 ≤ D3.length := by omega
    obtain ⟨S, hS⟩ : ∃ S, s1 + s2 = S := ⟨_, rfl⟩
    rw [hS] at hpl he3 ⊢
    have hS20 : S ≤ 40 := by omega
    have hle3 : D3.length ≤ 300 := by omega
    obtain ⟨p, hp⟩ : ∃ p : Bool × Nat, p.1 = (n1 != n2) := ⟨(n1 != n2, 0), rfl⟩
    rw [← hp] at hpl he3 ⊢
    clear hS hp
    have hfm := rform_any p.1 (.slice vo3 D3.length vc3) D3 S w3 hi3 d3 l3 (by omega) (by omega)
    rw [hpl] at hfm
    replace hfm := Lib.hid hfm
    replace hb13 := Lib.hid hb13
    clear he3 hv3 hpl hl3 hi3 d3 hb3 hi1 hi2
    go_wp2_with fail
    refine hfm.out.mono ?_
    unfold rv
    rintro e w4 ⟨rfl, hb4⟩
    have hb14 := Lib.hid (hb13.out.trans (hb4.mono hb13.out.size))
    clear hb4 hfm
    go_wp2
    go_ret2
    exact ⟨rfl, hb14.out⟩
  · skip
    rw [Bool.eq_false_iff.2 hc]
    have hr2 : r = ([], 1) := by rw [← hr.out]; unfold mulT; rw [if_neg hc]
    subst hr2
    clear hr hm1 hm2 hi1 hi2
    replace hb1 := Lib.hid hb1
    go_wp2
    go_ret2
    exact ⟨rfl, (hb1.out.alloc hb1.out.size _).alloc (by rw [World.size_alloc]; have := hb1.out.size; omega) _⟩
set_option maxRecDepth 100000 in
set_option maxHeartbeats 4000000 in
theorem refdiv_call (a b : ByteArray) (w : World) (ha : a.size ≤ 50000) (hb : b.size ≤ 50000) : Calls Tryz.prog 19 #[.string a, .string b] w fun e w' => e = .returned (rv (divT a.data.toList b.data.toList)) ∧ Below w.heap.size w w' := by
  have h2 := two_any a b w ha hb
  obtain ⟨r, hr⟩ : ∃ r, divT a.data.toList b.data.toList = r := ⟨_, rfl⟩
  rw [hr]
  replace h2 := Lib.hid h2
  replace hr := Lib.hid hr
  go_enter Tryz.func19, Tryz.ntmps19
  go_wp2_with fail
  refine h2.out.mono ?_
  rintro e w1 ⟨x, y, rfl, hb1, hx, hy⟩
  clear h2
  obtain ⟨n1, v1, D1, s1, rfl, hi1, hm1⟩ := hx
  obtain ⟨n2, v2, D2, s2, rfl, hi2, hm2⟩ := hy
  obtain ⟨vo1, vc1, rfl⟩ := hi1.form
  obtain ⟨vo2, vc2, rfl⟩ := hi2.form
  by_cases hc : (chk a.data.toList && chk b.data.toList) = true
  · skip
    rw [hc]
    have hr2 := hr.out
    unfold divT at hr2
    rw [if_pos hc] at hr2
    rw [Bool.and_eq_true] at hc
    obtain ⟨x, zx, ex⟩ := (chk_iff _).1 hc.1
    obtain ⟨y, zy, ey⟩ := (chk_iff _).1 hc.2
    obtain ⟨d1, l1, m1, c1, q1, e1, f1⟩ := hm1.canon zx ex
    obtain ⟨d2, l2, m2, c2, q2, e2, f2⟩ := hm2.canon zy ey
    have k1 := canon_sz zx ex
    have k2 := canon_sz zy ey
    rw [ex, ey, zof_canon x zx, zof_canon y zy] at hr2
    clear hm1 hm2 hc ex ey hr
    have o1 : Below w1.heap.size w1 ((w1.alloc (.cells #[.bool n1, .slice vo1 D1.length vc1, .int .i64 s1] 49)).alloc (.cells #[.bool n2, .slice vo2 D2.length vc2, .int .i64 s2] 49)) := (((Keep.refl [] w1).alloc _).alloc _).below
    replace hb1 := Lib.hid hb1
    replace hi1 := Lib.hid hi1
    replace hi2 := Lib.hid hi2
    replace hr2 := Lib.hid hr2
    replace q1 := Lib.hid q1
    replace e1 := Lib.hid e1
    replace f1 := Lib.hid f1
    replace e2 := Lib.hid e2
    replace f2 := Lib.hid f2
    replace q2 := Lib.hid q2
    replace d1 := Lib.hid d1
    replace d2 := Lib.hid d2
    replace o1 := Lib.hid o1
    go_wp2_with fail
    have hzr := zero_any (.slice vo2 D2.length vc2) D2 _ (hi2.out.below o1.out) (by omega)
    by_cases hz : vL D2 = 0
    · rw [decide_eq_true hz] at hzr
      have hy0 : y = 0 := by have := f2.out; rw [hz, Nat.zero_mul] at this; omega
      have hr3 := hr2.out
      rw [if_pos hy0] at hr3
      subst hr3
      refine hzr.mono ?_
      rintro e w2 ⟨rfl, rfl⟩
      have hb14 := Lib.hid (hb1.out.trans (o1.out.mono hb1.out.size))
      clear hzr hr2 o1 hi1 hi2
      go_wp2
      go_ret2
      exact ⟨rfl, hb14.out⟩
    · rw [decide_eq_false hz] at hzr
      have hy0 : y ≠ 0 := by
        intro e0
        have h1 := f2.out
        rw [e0] at h1
        have h2 : 0 < vL D2 * 10 ^ (20 - s2) := Nat.mul_pos (by omega) (Nat.pow_pos (by decide))
        simp at h1
        omega
      have hr3 := hr2.out
      rw [if_neg hy0] at hr3
      refine hzr.mono ?_
      rintro e w2 ⟨rfl, rfl⟩
      clear hzr hr2
      replace hr3 := Lib.hid hr3
      go_wp2_with fail
      obtain ⟨W2, hW2⟩ : ∃ W2, W2 = (w1.alloc (.cells #[.bool n1, .slice vo1 D1.length vc1, .int .i64 s1] 49)).alloc (.cells #[.bool n2, .slice vo2 D2.length vc2, .int .i64 s2] 49) := ⟨_, rfl⟩
      rw [← hW2] at o1 ⊢
      clear hW2
      refine (rquotient_any n1 n2 (.slice vo1 D1.length vc1) (.slice vo2 D2.length vc2) D1 D2 s1 s2 W2 (hi1.out.below o1.out) (hi2.out.below o1.out) d1.out d2.out l1 l2 (by omega) (by omega) (by omega) (by omega) (by omega)).mono ?_
      rintro e w3 ⟨v3, D3, he3, hb3, hi3, d3, hv3, l3, hl3⟩
      have hpl := quo_plain n1 n2 (vL D1) (vL D2) s1 s2 (max s1 s2) x y rfl c1 c2 e1.out e2.out f1.out f2.out
      rw [hr3.out, ← hv3] at hpl
      have he4 : e = .returned (.agg #[.bool (n1 != n2), v3, .int .i64 (20 : Nat)]) := he3
      subst he4
      obtain ⟨vo3, vc3, rfl⟩ := hi3.form
      have hb13 := (hb1.out.trans (o1.out.mono hb1.out.size)).trans (hb3.mono (Nat.le_trans hb1.out.size o1.out.size))
      have hle3 : D3.length ≤ 300 := by omega
      obtain ⟨S, hS⟩ : ∃ S, 20 = S := ⟨_, rfl⟩
      have hS20 : S ≤ 40 := by omega
      rw [hS] at hpl he3 ⊢
      obtain ⟨p, hp⟩ : ∃ p : Bool × Nat, p.1 = (n1 != n2) := ⟨(n1 != n2, 0), rfl⟩
      rw [← hp] at hpl he3 ⊢
      clear hS hp
      have hfm := rform_any p.1 (.slice vo3 D3.length vc3) D3 S w3 hi3 d3 l3 (by omega) (by omega)
      rw [hpl] at hfm
      replace hfm := Lib.hid hfm
      replace hb13 := Lib.hid hb13
      clear he3 hv3 hpl hl3 hi3 d3 hb3 hi1 hi2
      go_wp2_with fail
      refine hfm.out.mono ?_
      unfold rv
      rintro e w4 ⟨rfl, hb4⟩
      have hb14 := Lib.hid (hb13.out.trans (hb4.mono hb13.out.size))
      clear hb4 hfm
      go_wp2
      go_ret2
      exact ⟨rfl, hb14.out⟩
  · skip
    rw [Bool.eq_false_iff.2 hc]
    have hr2 : r = ([], 1) := by rw [← hr.out]; unfold divT; rw [if_neg hc]
    subst hr2
    clear hr hm1 hm2 hi1 hi2
    replace hb1 := Lib.hid hb1
    go_wp2
    go_ret2
    exact ⟨rfl, (hb1.out.alloc hb1.out.size _).alloc (by rw [World.size_alloc]; have := hb1.out.size; omega) _⟩
theorem add_signed (s t : Bool) (A B sa sb S : Nat) (x y : Int) (hS : max sa sb = S) (ha : sa ≤ 20) (hb : sb ≤ 20) (hx : signed s (A * 10 ^ (20 - sa)) = x) (hy : signed t (B * 10 ^ (20 - sb)) = y) :
    signed (plusP s (10 ^ (S - sa) * A) t (10 ^ (S - sb) * B)).1 ((plusP s (10 ^ (S - sa) * A) t (10 ^ (S - sb) * B)).2 * 10 ^ (20 - S)) = x + y := by
  have e1 : 10 ^ (S - sa) * A * 10 ^ (20 - S) = A * 10 ^ (20 - sa) := by
    rw [Nat.mul_comm (10 ^ (S - sa)) A, Nat.mul_assoc, ← Nat.pow_add, show S - sa + (20 - S) = 20 - sa by omega]
  have e2 : 10 ^ (S - sb) * B * 10 ^ (20 - S) = B * 10 ^ (20 - sb) := by
    rw [Nat.mul_comm (10 ^ (S - sb)) B, Nat.mul_assoc, ← Nat.pow_add, show S - sb + (20 - S) = 20 - sb by omega]
  have hp := plusP_signed s (10 ^ (S - sa) * A) t (10 ^ (S - sb) * B)
  rw [signed_scale, hp, Int.add_mul, ← signed_scale, ← signed_scale, e1, e2, hx, hy]
set_option maxRecDepth 100000 in
set_option maxHeartbeats 4000000 in
theorem refcmp_call (a b : ByteArray) (w : World) (ha : a.size ≤ 50000) (hb : b.size ≤ 50000) : Calls Tryz.prog 11 #[.string a, .string b] w fun e w' => e = .returned (.int .i64 (cmpR a.data.toList b.data.toList)) ∧ Below w.heap.size w w' := by
  have h2 := two_any a b w ha hb
  obtain ⟨r, hr⟩ : ∃ r, cmpR a.data.toList b.data.toList = r := ⟨_, rfl⟩
  rw [hr]
  replace h2 := Lib.hid h2
  replace hr := Lib.hid hr
  go_enter Tryz.func11, Tryz.ntmps11
  go_wp2_with fail
  refine h2.out.mono ?_
  rintro e w1 ⟨x, y, rfl, hb1, hx, hy⟩
  clear h2
  obtain ⟨n1, v1, D1, s1, rfl, hi1, hm1⟩ := hx
  obtain ⟨n2, v2, D2, s2, rfl, hi2, hm2⟩ := hy
  obtain ⟨vo1, vc1, rfl⟩ := hi1.form
  obtain ⟨vo2, vc2, rfl⟩ := hi2.form
  by_cases hc : (chk a.data.toList && chk b.data.toList) = true
  · skip
    rw [hc]
    have hr2 := hr.out
    unfold cmpR at hr2
    rw [if_pos hc] at hr2
    rw [Bool.and_eq_true] at hc
    obtain ⟨x, zx, ex⟩ := (chk_iff _).1 hc.1
    obtain ⟨y, zy, ey⟩ := (chk_iff _).1 hc.2
    obtain ⟨d1, l1, m1, c1, q1, e1, f1⟩ := hm1.canon zx ex
    obtain ⟨d2, l2, m2, c2, q2, e2, f2⟩ := hm2.canon zy ey
    have k1 := canon_sz zx ex
    have k2 := canon_sz zy ey
    rw [ex, ey, zof_canon x zx, zof_canon y zy] at hr2
    clear hm1 hm2 hc ex ey hr
    have o1 : Below w1.heap.size w1 ((w1.alloc (.cells #[.bool n1, .slice vo1 D1.length vc1, .int .i64 s1] 49)).alloc (.cells #[.bool (!n2), .slice vo2 D2.length vc2, .int .i64 s2] 49)) := (((Keep.refl [] w1).alloc _).alloc _).below
    replace hb1 := Lib.hid hb1
    replace hi1 := Lib.hid hi1
    replace hi2 := Lib.hid hi2
    replace hr2 := Lib.hid hr2
    replace q1 := Lib.hid q1
    replace e1 := Lib.hid e1
    replace f1 := Lib.hid f1
    replace e2 := Lib.hid e2
    replace f2 := Lib.hid f2
    replace q2 := Lib.hid q2
    replace d1 := Lib.hid d1
    replace d2 := Lib.hid d2
    replace o1 := Lib.hid o1
    go_wp2_with fail
    obtain ⟨W2, hW2⟩ : ∃ W2, W2 = (w1.alloc (.cells #[.bool n1, .slice vo1 D1.length vc1, .int .i64 s1] 49)).alloc (.cells #[.bool (!n2), .slice vo2 D2.length vc2, .int .i64 s2] 49) := ⟨_, rfl⟩
    rw [← hW2] at o1 ⊢
    clear hW2
    refine (rplus_any n1 (!n2) (.slice vo1 D1.length vc1) (.slice vo2 D2.length vc2) D1 D2 s1 s2 W2 (hi1.out.below o1.out) (hi2.out.below o1.out) d1.out d2.out l1 l2 (by omega) (by omega) (by omega) (by omega)).mono ?_
    rintro e w3 ⟨v3, D3, he3, hb3, hi3, d3, hv3, l3, hl3⟩
    obtain ⟨S, hS⟩ : ∃ S, max s1 s2 = S := ⟨_, rfl⟩
    rw [hS] at he3 hv3 hl3
    have hS20 : S ≤ 20 := by omega
    have hle3 := plus_len n1 (!n2) D1 D2 s1 s2 S D3 d1.out d2.out (by omega) (by omega) (by omega) hv3 hl3
    have hps := add_signed n1 (!n2) (vL D1) (vL D2) s1 s2 S x (-y) hS c1 c2 q1.out (by rw [signed_not, q2.out])
    generalize plusP n1 (10 ^ (S - s1) * vL D1) (!n2) (10 ^ (S - s2) * vL D2) = p at he3 hv3 hps
    rw [← hv3] at hps
    have he4 : e = .returned (.agg #[.bool p.1, v3, .int .i64 S]) := he3
    subst he4
    obtain ⟨vo3, vc3, rfl⟩ := hi3.form
    have hb13 := (hb1.out.trans (o1.out.mono hb1.out.size)).trans (hb3.mono (Nat.le_trans hb1.out.size o1.out.size))
    have hcd := cmpD_signed p.1 (vL D3 * 10 ^ (20 - S)) x y hps
    rw [hr2.out] at hcd
    have hzr := fun W (h : IntsAt W (.slice vo3 D3.length vc3) D3) => zero_any (.slice vo3 D3.length vc3) D3 W h (by omega)
    have o3 : Below w3.heap.size w3 (w3.alloc (.cells #[.bool p.1, .slice vo3 D3.length vc3, .int .i64 S] 49)) := ((Keep.refl [] w3).alloc _).below
    have hzr2 := hzr _ (hi3.below o3)
    have hb14 := Lib.hid (hb13.trans (o3.mono hb13.size))
    clear hzr he3 hb3 hi3 hps hv3 hl3 hb13 o3 hi1 hi2
    have hcp : 0 < 10 ^ (20 - S) := Nat.pow_pos (by decide)
    by_cases hz : vL D3 = 0
    · rw [decide_eq_true hz] at hzr2
      have hr4 : r = 0 := by rw [← hcd, hz]; unfold cmpD; simp
      subst hr4
      replace hzr2 := Lib.hid hzr2
      clear hr2 hcd
      go_wp2_with (go_at_call 38; refine hzr2.out.mono ?_; rintro e w5 ⟨rfl, rfl⟩)
      go_ret
      exact ⟨rfl, hb14.out⟩
    · rw [decide_eq_false hz] at hzr2
      have hne : vL D3 * 10 ^ (20 - S) ≠ 0 := Nat.mul_ne_zero hz (by omega)
      have hr4 : r = if p.1 then -1 else 1 := by rw [← hcd]; unfold cmpD; rw [if_neg hne]
      replace hzr2 := Lib.hid hzr2
      obtain ⟨p1, p2⟩ := p
      cases p1
      · have hr5 : r = 1 := hr4
        subst hr5
        clear hr2 hcd hr4
        go_wp2_with (go_at_call 38; refine hzr2.out.mono ?_; rintro e w5 ⟨rfl, rfl⟩)
        go_ret
        exact ⟨rfl, hb14.out⟩
      · have hr5 : r = -1 := hr4
        subst hr5
        clear hr2 hcd hr4
        go_wp2_with (go_at_call 38; refine hzr2.out.mono ?_; rintro e w5 ⟨rfl, rfl⟩)
        go_ret
        exact ⟨rfl, hb14.out⟩
  · skip
    rw [Bool.eq_false_iff.2 hc]
    have hr2 : r = 0 := by rw [← hr.out]; unfold cmpR; rw [if_neg hc]
    subst hr2
    clear hr hm1 hm2 hi1 hi2
    replace hb1 := Lib.hid hb1
    go_wp2
    go_ret
    exact ⟨rfl, (hb1.out.alloc hb1.out.size _).alloc (by rw [World.size_alloc]; have := hb1.out.size; omega) _⟩
set_option maxRecDepth 100000 in
theorem refneg_call (a : ByteArray) (w : World) (ha : a.size ≤ 50000) : Calls Tryz.prog 21 #[.string a] w fun e w' => e = .returned (rv (negR a.data.toList)) ∧ Below w.heap.size w w' := by
  have h := refsub_call ⟨#[48, 46, 48]⟩ a w (by decide) ha
  have hc0 : chk [48, 46, 48] = true := by rw [show ([48, 46, 48] : List UInt8) = canon 0 by kernel_rfl]; exact chk_canon 0 (by unfold small top; decide)
  have hz0 : zof [48, 46, 48] = 0 := by rw [show ([48, 46, 48] : List UInt8) = canon 0 by kernel_rfl]; exact zof_canon 0 (by unfold small top; decide)
  have e : subR [48, 46, 48] a.data.toList = negR a.data.toList := by
    unfold subR negR
    rw [hc0, hz0, Bool.true_and, Int.zero_sub]
  have e2 : subR (⟨#[48, 46, 48]⟩ : ByteArray).data.toList a.data.toList = negR a.data.toList := e
  rw [e2] at h
  unfold rv at *
  replace h := Lib.hid h
  clear e e2 hc0 hz0
  go_enter Tryz.func21, Tryz.ntmps21
  go_wp2_with fail
  refine h.out.mono ?_
  rintro e w1 ⟨rfl, hb⟩
  go_wp2
  go_ret2
  exact ⟨rfl, hb⟩
end Go.Proofs.YtnnojhgnfmieoaaGreatDoor.dec
