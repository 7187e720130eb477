/- Contracts of the reference's Add and Sub. -/
import Derived.Test.YthecgifgjagmaaaGreatDoorRefTwo
import Derived.Test.YthecgifgjagmaaaGreatDoorDecC
namespace Go.Proofs.YthecgifgjagmaaaGreatDoor.dec
open Go.ChangeShapes Go.WideShapes Go.ChangeAt Go.RowKit kit
set_option linter.unusedVariables false
set_option linter.unusedSimpArgs false
theorem signed_scale (s : Bool) (N c : Nat) : signed s (N * c) = signed s N * (c : Int) := by
  cases s <;> simp [signed, Int.natCast_mul, Int.neg_mul]
theorem add_plain (s t : Bool) (A B sa sb S : Nat) (x y : Int) (hS : max sa sb = S) (ha : sa ≤ 20) (hb : sb ≤ 20) (hx : signed s (A * 10 ^ (20 - sa)) = x) (hy : signed t (B * 10 ^ (20 - sb)) = y) :
    toldP (plusP s (10 ^ (S - sa) * A) t (10 ^ (S - sb) * B)).1 (plusP s (10 ^ (S - sa) * A) t (10 ^ (S - sb) * B)).2 S = txt (x + y) := by
  have hSa : sa ≤ S := by omega
  have hSb : sb ≤ S := by omega
  have hS2 : S ≤ 20 := by omega
  have e1 : 10 ^ (S - sa) * A * 10 ^ (20 - S) = A * 10 ^ (20 - sa) := by
    rw [Nat.mul_comm (10 ^ (S - sa)) A, Nat.mul_assoc, ← Nat.pow_add, show S - sa + (20 - S) = 20 - sa by omega]
  have e2 : 10 ^ (S - sb) * B * 10 ^ (20 - S) = B * 10 ^ (20 - sb) := by
    rw [Nat.mul_comm (10 ^ (S - sb)) B, Nat.mul_assoc, ← Nat.pow_add, show S - sb + (20 - S) = 20 - sb by omega]
  have hp := plusP_signed s (10 ^ (S - sa) * A) t (10 ^ (S - sb) * B)
  generalize plusP s (10 ^ (S - sa) * A) t (10 ^ (S - sb) * B) = p at *
  have ht := told_dvd p.1 p.2 S (20 - S)
  rw [show S + (20 - S) = 20 by omega, toldP_20, signed_scale, hp, Int.add_mul, ← signed_scale, ← signed_scale, e1, e2, hx, hy] at ht
  exact ht.symm
theorem NumM.canon {a : ByteArray} {x : Int} {n : Bool} {D : List Nat} {sc L : Nat} (hz : small x) (ha : a.data.toList = canon x) (h : NumM (numP a.data.toList) n D sc L) :
    dgs D ∧ 1 ≤ D.length ∧ D.length ≤ L ∧ sc ≤ 20 ∧ signed n (vL D * 10 ^ (20 - sc)) = x ∧ n = decide (x < 0) ∧ vL D * 10 ^ (20 - sc) = x.natAbs := by
  obtain ⟨N, s2, hn, h20, hv⟩ := numP_canon x hz
  rw [ha, hn] at h
  obtain ⟨h1, h2, h3, h4, h5, h6, _⟩ := h
  simp only at h1 h2 h3
  subst h1 h3
  refine ⟨h4, h5, h6, h20, ?_, rfl, by rw [h2, hv]⟩
  rw [h2, hv]
  exact signed_self x
theorem canon_sz {a : ByteArray} {x : Int} (hz : small x) (ha : a.data.toList = canon x) : a.size ≤ 62 := by
  have := canon_len x hz
  rw [← ha] at this
  simpa using this
theorem pow_len {k m v : Nat} (h1 : 10 ^ (k - 1) ≤ v) (h2 : v < 10 ^ m) : k ≤ m := by
  have h3 : 10 ^ (k - 1) < 10 ^ m := Nat.lt_of_le_of_lt h1 h2
  have := (Nat.pow_lt_pow_iff_right (a := 10) (by decide)).1 h3
  omega
theorem plusP_le (s : Bool) (N : Nat) (t : Bool) (M : Nat) : (plusP s N t M).2 ≤ N + M := by
  unfold plusP
  split
  · exact Nat.le_refl _
  · split
    · show M - N ≤ N + M; omega
    · show N - M ≤ N + M; omega
theorem plus_len (s t : Bool) (A B : List Nat) (sa sb S : Nat) (D : List Nat) (hA : dgs A) (hB : dgs B) (la : A.length ≤ 200) (lb : B.length ≤ 200) (hS : S ≤ 20) (hv : vL D = (plusP s (10 ^ (S - sa) * vL A) t (10 ^ (S - sb) * vL B)).2)
    (h : D.length ≤ S - sa + A.length ∨ D.length ≤ S - sb + B.length ∨ 10 ^ (D.length - 1) ≤ vL D) : D.length ≤ 300 := by
  rcases h with h | h | h
  · omega
  · omega
  · refine Nat.le_trans (pow_len (m := 222) h ?_) (by decide)
    rw [hv]
    have h1 := plusP_le s (10 ^ (S - sa) * vL A) t (10 ^ (S - sb) * vL B)
    have key : ∀ (k : Nat) (C : List Nat), k ≤ 20 → dgs C → C.length ≤ 200 → 10 ^ k * vL C < 10 ^ 220 := fun k C hk hC lC => by
      have c1 := vL_lt hC
      have c2 : 10 ^ k * vL C < 10 ^ k * 10 ^ C.length := Nat.mul_lt_mul_of_pos_left c1 (Nat.pow_pos (by decide))
      rw [← Nat.pow_add] at c2
      exact Nat.lt_of_lt_of_le c2 (Nat.pow_le_pow_right (by decide) (by omega))
    have k1 := key (S - sa) A (by omega) hA la
    have k2 := key (S - sb) B (by omega) hB lb
    have p : 10 ^ 222 = 100 * 10 ^ 220 := by rw [show 222 = 2 + 220 from rfl, Nat.pow_add]
    omega
set_option maxRecDepth 100000 in
set_option maxHeartbeats 4000000 in
theorem refadd_call (a b : ByteArray) (w : World) (ha : a.size ≤ 50000) (hb : b.size ≤ 50000) : Calls Tryz.prog 73 #[.string a, .string b] w fun e w' => e = .returned (rv (addR a.data.toList b.data.toList)) ∧ Below w.heap.size w w' := by
  have h2 := two_any a b w ha hb
  obtain ⟨r, hr⟩ : ∃ r, addR a.data.toList b.data.toList = r := ⟨_, rfl⟩
  rw [hr]
  replace h2 := Lib.hid h2
  replace hr := Lib.hid hr
  go_enter Tryz.func73, Tryz.ntmps73
  go_wp2_with fail
  refine h2.out.mono ?_
  rintro e w1 ⟨x, y, rfl, hb1, hx, hy⟩
  clear h2
  obtain ⟨n1, v1, D1, s1, rfl, hi1, hm1⟩ := hx
  obtain ⟨n2, v2, D2, s2, rfl, hi2, hm2⟩ := hy
  obtain ⟨vo1, vc1, rfl⟩ := hi1.form
  obtain ⟨vo2, vc2, rfl⟩ := hi2.form
  by_cases hc : (chk a.data.toList && chk b.data.toList) = true
  · skip
    rw [hc]
    have hr2 := hr.out
    unfold addR at hr2
    rw [if_pos hc] at hr2
    rw [Bool.and_eq_true] at hc
    obtain ⟨x, zx, ex⟩ := (chk_iff _).1 hc.1
    obtain ⟨y, zy, ey⟩ := (chk_iff _).1 hc.2
    obtain ⟨d1, l1, m1, c1, q1, e1, f1⟩ := hm1.canon zx ex
    obtain ⟨d2, l2, m2, c2, q2, e2, f2⟩ := hm2.canon zy ey
    have k1 := canon_sz zx ex
    have k2 := canon_sz zy ey
    rw [ex, ey, zof_canon x zx, zof_canon y zy] at hr2
    clear hm1 hm2 hc ex ey hr
    have o1 : Below w1.heap.size w1 ((w1.alloc (.cells #[.bool n1, .slice vo1 D1.length vc1, .int .i64 s1] 98)).alloc (.cells #[.bool n2, .slice vo2 D2.length vc2, .int .i64 s2] 98)) := (((Keep.refl [] w1).alloc _).alloc _).below
    replace hb1 := Lib.hid hb1
    replace hi1 := Lib.hid hi1
    replace hi2 := Lib.hid hi2
    replace hr2 := Lib.hid hr2
    replace q1 := Lib.hid q1
    replace e1 := Lib.hid e1
    replace f1 := Lib.hid f1
    replace e2 := Lib.hid e2
    replace f2 := Lib.hid f2
    replace q2 := Lib.hid q2
    replace d1 := Lib.hid d1
    replace d2 := Lib.hid d2
    replace o1 := Lib.hid o1
    go_wp2_with fail
    obtain ⟨W2, hW2⟩ : ∃ W2, W2 = (w1.alloc (.cells #[.bool n1, .slice vo1 D1.length vc1, .int .i64 s1] 98)).alloc (.cells #[.bool n2, .slice vo2 D2.length vc2, .int .i64 s2] 98) := ⟨_, rfl⟩
    rw [← hW2] at o1 ⊢
    clear hW2
    refine (rplus_any n1 n2 (.slice vo1 D1.length vc1) (.slice vo2 D2.length vc2) D1 D2 s1 s2 W2 (hi1.out.below o1.out) (hi2.out.below o1.out) d1.out d2.out l1 l2 (by omega) (by omega) (by omega) (by omega)).mono ?_
    rintro e w3 ⟨v3, D3, he3, hb3, hi3, d3, hv3, l3, hl3⟩
    obtain ⟨S, hS⟩ : ∃ S, max s1 s2 = S := ⟨_, rfl⟩
    rw [hS] at he3 hv3 hl3
    have hS20 : S ≤ 20 := by omega
    have hle3 := plus_len n1 n2 D1 D2 s1 s2 S D3 d1.out d2.out (by omega) (by omega) (by omega) hv3 hl3
    have hpl := add_plain n1 n2 (vL D1) (vL D2) s1 s2 S x (y) hS c1 c2 q1.out (q2.out)
    rw [hr2.out] at hpl
    generalize plusP n1 (10 ^ (S - s1) * vL D1) n2 (10 ^ (S - s2) * vL D2) = p at he3 hv3 hpl
    rw [← hv3] at hpl
    have he4 : e = .returned (.agg #[.bool p.1, v3, .int .i64 S]) := he3
    subst he4
    obtain ⟨vo3, vc3, rfl⟩ := hi3.form
    have hb13 := (hb1.out.trans (o1.out.mono hb1.out.size)).trans (hb3.mono (Nat.le_trans hb1.out.size o1.out.size))
    have hfm := rform_any p.1 (.slice vo3 D3.length vc3) D3 S w3 hi3 d3 l3 (by omega) (by omega)
    rw [hpl] at hfm
    replace hfm := Lib.hid hfm
    replace hb13 := Lib.hid hb13
    clear he3 hv3 hpl hl3 hi3 d3 hb3 hi1 hi2
    go_wp2_with fail
    refine hfm.out.mono ?_
    unfold rv
    rintro e w4 ⟨rfl, hb4⟩
    have hb14 := Lib.hid (hb13.out.trans (hb4.mono hb13.out.size))
    clear hb4 hfm
    go_wp2
    go_ret2
    exact ⟨rfl, hb14.out⟩
  · skip
    rw [Bool.eq_false_iff.2 hc]
    have hr2 : r = ([], 1) := by rw [← hr.out]; unfold addR; rw [if_neg hc]
    subst hr2
    clear hr hm1 hm2 hi1 hi2
    replace hb1 := Lib.hid hb1
    go_wp2
    go_ret2
    exact ⟨rfl, (hb1.out.alloc hb1.out.size _).alloc (by rw [World.size_alloc]; have := hb1.out.size; omega) _⟩
set_option maxRecDepth 100000 in
set_option maxHeartbeats 4000000 in
theorem refsub_call (a b : ByteArray) (w : World) (ha : a.size ≤ 50000) (hb : b.size ≤ 50000) : Calls Tryz.prog 74 #[.string a, .string b] w fun e w' => e = .returned (rv (subR a.data.toList b.data.toList)) ∧ Below w.heap.size w w' := by
  have h2 := two_any a b w ha hb
  obtain ⟨r, hr⟩ : ∃ r, subR a.data.toList b.data.toList = r := ⟨_, rfl⟩
  rw [hr]
  replace h2 := Lib.hid h2
  replace hr := Lib.hid hr
  go_enter Tryz.func74, Tryz.ntmps74
  go_wp2_with fail
  refine h2.out.mono ?_
  rintro e w1 ⟨x, y, rfl, hb1, hx, hy⟩
  clear h2
  obtain ⟨n1, v1, D1, s1, rfl, hi1, hm1⟩ := hx
  obtain ⟨n2, v2, D2, s2, rfl, hi2, hm2⟩ := hy
  obtain ⟨vo1, vc1, rfl⟩ := hi1.form
  obtain ⟨vo2, vc2, rfl⟩ := hi2.form
  by_cases hc : (chk a.data.toList && chk b.data.toList) = true
  · skip
    rw [hc]
    have hr2 := hr.out
    unfold subR at hr2
    rw [if_pos hc] at hr2
    rw [Bool.and_eq_true] at hc
    obtain ⟨x, zx, ex⟩ := (chk_iff _).1 hc.1
    obtain ⟨y, zy, ey⟩ := (chk_iff _).1 hc.2
    obtain ⟨d1, l1, m1, c1, q1, e1, f1⟩ := hm1.canon zx ex
    obtain ⟨d2, l2, m2, c2, q2, e2, f2⟩ := hm2.canon zy ey
    have k1 := canon_sz zx ex
    have k2 := canon_sz zy ey
    rw [ex, ey, zof_canon x zx, zof_canon y zy] at hr2
    clear hm1 hm2 hc ex ey hr
    have o1 : Below w1.heap.size w1 ((w1.alloc (.cells #[.bool n1, .slice vo1 D1.length vc1, .int .i64 s1] 98)).alloc (.cells #[.bool (!n2), .slice vo2 D2.length vc2, .int .i64 s2] 98)) := (((Keep.refl [] w1).alloc _).alloc _).below
    replace hb1 := Lib.hid hb1
    replace hi1 := Lib.hid hi1
    replace hi2 := Lib.hid hi2
    replace hr2 := Lib.hid hr2
    replace q1 := Lib.hid q1
    replace e1 := Lib.hid e1
    replace f1 := Lib.hid f1
    replace e2 := Lib.hid e2
    replace f2 := Lib.hid f2
    replace q2 := Lib.hid q2
    replace d1 := Lib.hid d1
    replace d2 := Lib.hid d2
    replace o1 := Lib.hid o1
    go_wp2_with fail
    obtain ⟨W2, hW2⟩ : ∃ W2, W2 = (w1.alloc (.cells #[.bool n1, .slice vo1 D1.length vc1, .int .i64 s1] 98)).alloc (.cells #[.bool (!n2), .slice vo2 D2.length vc2, .int .i64 s2] 98) := ⟨_, rfl⟩
    rw [← hW2] at o1 ⊢
    clear hW2
    refine (rplus_any n1 (!n2) (.slice vo1 D1.length vc1) (.slice vo2 D2.length vc2) D1 D2 s1 s2 W2 (hi1.out.below o1.out) (hi2.out.below o1.out) d1.out d2.out l1 l2 (by omega) (by omega) (by omega) (by omega)).mono ?_
    rintro e w3 ⟨v3, D3, he3, hb3, hi3, d3, hv3, l3, hl3⟩
    obtain ⟨S, hS⟩ : ∃ S, max s1 s2 = S := ⟨_, rfl⟩
    rw [hS] at he3 hv3 hl3
    have hS20 : S ≤ 20 := by omega
    have hle3 := plus_len n1 (!n2) D1 D2 s1 s2 S D3 d1.out d2.out (by omega) (by omega) (by omega) hv3 hl3
    have hpl := add_plain n1 (!n2) (vL D1) (vL D2) s1 s2 S x (-y) hS c1 c2 q1.out (by rw [signed_not, q2.out])
    rw [show x + -y = x - y from rfl, hr2.out] at hpl
    generalize plusP n1 (10 ^ (S - s1) * vL D1) (!n2) (10 ^ (S - s2) * vL D2) = p at he3 hv3 hpl
    rw [← hv3] at hpl
    have he4 : e = .returned (.agg #[.bool p.1, v3, .int .i64 S]) := he3
    subst he4
    obtain ⟨vo3, vc3, rfl⟩ := hi3.form
    have hb13 := (hb1.out.trans (o1.out.mono hb1.out.size)).trans (hb3.mono (Nat.le_trans hb1.out.size o1.out.size))
    have hfm := rform_any p.1 (.slice vo3 D3.length vc3) D3 S w3 hi3 d3 l3 (by omega) (by omega)
    rw [hpl] at hfm
    replace hfm := Lib.hid hfm
    replace hb13 := Lib.hid hb13
    clear he3 hv3 hpl hl3 hi3 d3 hb3 hi1 hi2
    go_wp2_with fail
    refine hfm.out.mono ?_
    unfold rv
    rintro e w4 ⟨rfl, hb4⟩
    have hb14 := Lib.hid (hb13.out.trans (hb4.mono hb13.out.size))
    clear hb4 hfm
    go_wp2
    go_ret2
    exact ⟨rfl, hb14.out⟩
  · skip
    rw [Bool.eq_false_iff.2 hc]
    have hr2 : r = ([], 1) := by rw [← hr.out]; unfold subR; rw [if_neg hc]
    subst hr2
    clear hr hm1 hm2 hi1 hi2
    replace hb1 := Lib.hid hb1
    go_wp2
    go_ret2
    exact ⟨rfl, (hb1.out.alloc hb1.out.size _).alloc (by rw [World.size_alloc]; have := hb1.out.size; omega) _⟩
end Go.Proofs.YthecgifgjagmaaaGreatDoor.dec
