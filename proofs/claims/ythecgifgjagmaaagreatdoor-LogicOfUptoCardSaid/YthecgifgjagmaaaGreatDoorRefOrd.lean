/- Contract of the reference's Compare. -/
import Derived.Test.YthecgifgjagmaaaGreatDoorRefOps
import Derived.Test.YthecgifgjagmaaaGreatDoorDecCmp
namespace Go.Proofs.YthecgifgjagmaaaGreatDoor.dec
open Go.ChangeShapes Go.WideShapes Go.ChangeAt Go.RowKit kit
set_option linter.unusedVariables false
set_option linter.unusedSimpArgs false
theorem add_signed (s t : Bool) (A B sa sb S : Nat) (x y : Int) (hS : max sa sb = S) (ha : sa ≤ 20) (hb : sb ≤ 20) (hx : signed s (A * 10 ^ (20 - sa)) = x) (hy : signed t (B * 10 ^ (20 - sb)) = y) :
    signed (plusP s (10 ^ (S - sa) * A) t (10 ^ (S - sb) * B)).1 ((plusP s (10 ^ (S - sa) * A) t (10 ^ (S - sb) * B)).2 * 10 ^ (20 - S)) = x + y := by
  have e1 : 10 ^ (S - sa) * A * 10 ^ (20 - S) = A * 10 ^ (20 - sa) := by
    rw [Nat.mul_comm (10 ^ (S - sa)) A, Nat.mul_assoc, ← Nat.pow_add, show S - sa + (20 - S) = 20 - sa by omega]
  have e2 : 10 ^ (S - sb) * B * 10 ^ (20 - S) = B * 10 ^ (20 - sb) := by
    rw [Nat.mul_comm (10 ^ (S - sb)) B, Nat.mul_assoc, ← Nat.pow_add, show S - sb + (20 - S) = 20 - sb by omega]
  have hp := plusP_signed s (10 ^ (S - sa) * A) t (10 ^ (S - sb) * B)
  rw [signed_scale, hp, Int.add_mul, ← signed_scale, ← signed_scale, e1, e2, hx, hy]
set_option maxRecDepth 100000 in
set_option maxHeartbeats 4000000 in
theorem refcmp_call (a b : ByteArray) (w : World) (ha : a.size ≤ 50000) (hb : b.size ≤ 50000) : Calls Tryz.prog 37 #[.string a, .string b] w fun e w' => e = .returned (.int .i64 (cmpR a.data.toList b.data.toList)) ∧ Below w.heap.size w w' := by
  have h2 := two_any a b w ha hb
  obtain ⟨r, hr⟩ : ∃ r, cmpR a.data.toList b.data.toList = r := ⟨_, rfl⟩
  rw [hr]
  replace h2 := Lib.hid h2
  replace hr := Lib.hid hr
  go_enter Tryz.func37, Tryz.ntmps37
  go_wp2_with fail
  refine h2.out.mono ?_
  rintro e w1 ⟨x, y, rfl, hb1, hx, hy⟩
  clear h2
  obtain ⟨n1, v1, D1, s1, rfl, hi1, hm1⟩ := hx
  obtain ⟨n2, v2, D2, s2, rfl, hi2, hm2⟩ := hy
  obtain ⟨vo1, vc1, rfl⟩ := hi1.form
  obtain ⟨vo2, vc2, rfl⟩ := hi2.form
  by_cases hc : (chk a.data.toList && chk b.data.toList) = true
  · skip
    rw [hc]
    have hr2 := hr.out
    unfold cmpR at hr2
    rw [if_pos hc] at hr2
    rw [Bool.and_eq_true] at hc
    obtain ⟨x, zx, ex⟩ := (chk_iff _).1 hc.1
    obtain ⟨y, zy, ey⟩ := (chk_iff _).1 hc.2
    obtain ⟨d1, l1, m1, c1, q1, e1, f1⟩ := hm1.canon zx ex
    obtain ⟨d2, l2, m2, c2, q2, e2, f2⟩ := hm2.canon zy ey
    have k1 := canon_sz zx ex
    have k2 := canon_sz zy ey
    rw [ex, ey, zof_canon x zx, zof_canon y zy] at hr2
    clear hm1 hm2 hc ex ey hr
    have o1 : Below w1.heap.size w1 ((w1.alloc (.cells #[.bool n1, .slice vo1 D1.length vc1, .int .i64 s1] 98)).alloc (.cells #[.bool (!n2), .slice vo2 D2.length vc2, .int .i64 s2] 98)) := (((Keep.refl [] w1).alloc _).alloc _).below
    replace hb1 := Lib.hid hb1
    replace hi1 := Lib.hid hi1
    replace hi2 := Lib.hid hi2
    replace hr2 := Lib.hid hr2
    replace q1 := Lib.hid q1
    replace e1 := Lib.hid e1
    replace f1 := Lib.hid f1
    replace e2 := Lib.hid e2
    replace f2 := Lib.hid f2
    replace q2 := Lib.hid q2
    replace d1 := Lib.hid d1
    replace d2 := Lib.hid d2
    replace o1 := Lib.hid o1
    go_wp2_with fail
    obtain ⟨W2, hW2⟩ : ∃ W2, W2 = (w1.alloc (.cells #[.bool n1, .slice vo1 D1.length vc1, .int .i64 s1] 98)).alloc (.cells #[.bool (!n2), .slice vo2 D2.length vc2, .int .i64 s2] 98) := ⟨_, rfl⟩
    rw [← hW2] at o1 ⊢
    clear hW2
    refine (rplus_any n1 (!n2) (.slice vo1 D1.length vc1) (.slice vo2 D2.length vc2) D1 D2 s1 s2 W2 (hi1.out.below o1.out) (hi2.out.below o1.out) d1.out d2.out l1 l2 (by omega) (by omega) (by omega) (by omega)).mono ?_
    rintro e w3 ⟨v3, D3, he3, hb3, hi3, d3, hv3, l3, hl3⟩
    obtain ⟨S, hS⟩ : ∃ S, max s1 s2 = S := ⟨_, rfl⟩
    rw [hS] at he3 hv3 hl3
    have hS20 : S ≤ 20 := by omega
    have hle3 := plus_len n1 (!n2) D1 D2 s1 s2 S D3 d1.out d2.out (by omega) (by omega) (by omega) hv3 hl3
    have hps := add_signed n1 (!n2) (vL D1) (vL D2) s1 s2 S x (-y) hS c1 c2 q1.out (by rw [signed_not, q2.out])
    generalize plusP n1 (10 ^ (S - s1) * vL D1) (!n2) (10 ^ (S - s2) * vL D2) = p at he3 hv3 hps
    rw [← hv3] at hps
    have he4 : e = .returned (.agg #[.bool p.1, v3, .int .i64 S]) := he3
    subst he4
    obtain ⟨vo3, vc3, rfl⟩ := hi3.form
    have hb13 := (hb1.out.trans (o1.out.mono hb1.out.size)).trans (hb3.mono (Nat.le_trans hb1.out.size o1.out.size))
    have hcd := cmpD_signed p.1 (vL D3 * 10 ^ (20 - S)) x y hps
    rw [hr2.out] at hcd
    have hzr := fun W (h : IntsAt W (.slice vo3 D3.length vc3) D3) => zero_any (.slice vo3 D3.length vc3) D3 W h (by omega)
    have o3 : Below w3.heap.size w3 (w3.alloc (.cells #[.bool p.1, .slice vo3 D3.length vc3, .int .i64 S] 98)) := ((Keep.refl [] w3).alloc _).below
    have hzr2 := hzr _ (hi3.below o3)
    have hb14 := Lib.hid (hb13.trans (o3.mono hb13.size))
    clear hzr he3 hb3 hi3 hps hv3 hl3 hb13 o3 hi1 hi2
    have hcp : 0 < 10 ^ (20 - S) := Nat.pow_pos (by decide)
    by_cases hz : vL D3 = 0
    · rw [decide_eq_true hz] at hzr2
      have hr4 : r = 0 := by rw [← hcd, hz]; unfold cmpD; simp
      subst hr4
      replace hzr2 := Lib.hid hzr2
      clear hr2 hcd
      go_wp2_with (go_at_call 83; refine hzr2.out.mono ?_; rintro e w5 ⟨rfl, rfl⟩)
      go_ret
      exact ⟨rfl, hb14.out⟩
    · rw [decide_eq_false hz] at hzr2
      have hne : vL D3 * 10 ^ (20 - S) ≠ 0 := Nat.mul_ne_zero hz (by omega)
      have hr4 : r = if p.1 then -1 else 1 := by rw [← hcd]; unfold cmpD; rw [if_neg hne]
      replace hzr2 := Lib.hid hzr2
      obtain ⟨p1, p2⟩ := p
      cases p1
      · have hr5 : r = 1 := hr4
        subst hr5
        clear hr2 hcd hr4
        go_wp2_with (go_at_call 83; refine hzr2.out.mono ?_; rintro e w5 ⟨rfl, rfl⟩)
        go_ret
        exact ⟨rfl, hb14.out⟩
      · have hr5 : r = -1 := hr4
        subst hr5
        clear hr2 hcd hr4
        go_wp2_with (go_at_call 83; refine hzr2.out.mono ?_; rintro e w5 ⟨rfl, rfl⟩)
        go_ret
        exact ⟨rfl, hb14.out⟩
  · skip
    rw [Bool.eq_false_iff.2 hc]
    have hr2 : r = 0 := by rw [← hr.out]; unfold cmpR; rw [if_neg hc]
    subst hr2
    clear hr hm1 hm2 hi1 hi2
    replace hb1 := Lib.hid hb1
    go_wp2
    go_ret
    exact ⟨rfl, (hb1.out.alloc hb1.out.size _).alloc (by rw [World.size_alloc]; have := hb1.out.size; omega) _⟩
end Go.Proofs.YthecgifgjagmaaaGreatDoor.dec
