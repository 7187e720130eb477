/- Texts RefTell, RefOfInt, one behind the other. -/
import Derived.Test.YtidplkfhodpdhaaGreatDoorDecNum
import Derived.Test.YtidplkfhodpdhaaGreatDoorDecC
import Derived.Test.YtidplkfhodpdhaaGreatDoorRefA
namespace Go.Proofs.YtidplkfhodpdhaaGreatDoor.dec
set_option linter.unusedVariables false
theorem dd0 (d : Nat) (h : d < 10) : Lib.decDigits d = [dg d] := by rw [Lib.decDigits, dif_pos h]; rfl
theorem tell_step (M : Nat) (s t : List UInt8) (h : Lib.decDigits M ++ s = t) : (M < 10 → dg (M % 10) :: s = t) ∧ (10 ≤ M → Lib.decDigits (M / 10) ++ (dg (M % 10) :: s) = t) := by
 constructor
 ·intro hm
  rw [← h, dd0 M hm, Nat.mod_eq_of_lt hm]; rfl
 ·intro hm
  rw [← h, Lib.decDigits.eq_1 M, dif_neg (by omega)]
  simp [dg]
end Go.Proofs.YtidplkfhodpdhaaGreatDoor.dec
namespace Go.Proofs.YtidplkfhodpdhaaGreatDoor.dec
open Go.ChangeShapes Go.WideShapes Go.ChangeAt Go.RowKit kit
set_option linter.unusedVariables false
set_option linter.unusedSimpArgs false
structure OI (n m : Int) (s : ByteArray) (w wr : World) : Prop where
 tell : Lib.decDigits m.natAbs ++ s.data.toList = Lib.decDigits n.natAbs
 lo : -9223372036854775808 ≤ m
 hi : m ≤ 9223372036854775807
 below : Below w.heap.size w wr
theorem tmod10 (m : Int) : (m < 0 → m.tmod 10 = -((m.natAbs % 10 : Nat) : Int)) ∧ (0 ≤ m → m.tmod 10 = ((m.natAbs % 10 : Nat) : Int)) := by
 constructor
 ·intro h
  conv => lhs; rw [show m = -((m.natAbs : Nat) : Int) by omega, Int.neg_tmod]
  rfl
 ·intro h
  conv => lhs; rw [show m = ((m.natAbs : Nat) : Int) by omega]
  rfl
theorem tdiv10 (m : Int) : (m.tdiv 10).natAbs = m.natAbs / 10 := by
 rw [Int.natAbs_tdiv]; rfl
theorem tdiv10_in (m : Int) (h0 : -9223372036854775808 ≤ m) (h1 : m ≤ 9223372036854775807) : -9223372036854775808 ≤ m.tdiv 10 ∧ m.tdiv 10 ≤ 9223372036854775807 := by
 have := tdiv10 m
 omega
theorem dec_len (n : Int) (h0 : -9223372036854775808 ≤ n) (h1 : n ≤ 9223372036854775807) : (Lib.decDigits n.natAbs).length ≤ 62 := by
 have h2 := canon_len (n * E20) (ofInt_small n h0 h1)
 rw [← itoa_canon n, List.length_append] at h2
 unfold Lib.itoa at h2
 split at h2
 ·simp at h2; omega
 ·rw [show n.toNat = n.natAbs by omega] at h2; simp at h2; omega
set_option maxRecDepth 100000 in
set_option maxHeartbeats 4000000 in
theorem rofInt_any (n : Int) (w : World) (h0 : -9223372036854775808 ≤ n) (h1 : n ≤ 9223372036854775807) :
 Calls Tryz.prog 149 #[.int .i64 n] w fun e w' => e = .returned (.string (tx (canon (n * E20)))) ∧ Below w.heap.size w w' := by
 have hci := itoa_canon n
 have hdl := dec_len n h0 h1
 generalize canon (n * E20) = R at *
 have hneg : n < 0 → ∀ s : ByteArray, s.data.toList = Lib.decDigits n.natAbs → (⟨#[45]⟩ ++ s) ++ ⟨#[46, 48]⟩ = tx R := fun h s hs => by
  apply ba_ext
  rw [← hci]
  unfold Lib.itoa
  rw [if_pos h, ← hs]
  simp
 have hpos : ¬ n < 0 → ∀ s : ByteArray, s.data.toList = Lib.decDigits n.natAbs → s ++ ⟨#[46, 48]⟩ = tx R := fun h s hs => by
  apply ba_ext
  rw [← hci]
  unfold Lib.itoa
  rw [if_neg h, show n.toNat = n.natAbs by omega, ← hs]
  simp
 clear hci
 replace hneg := Lib.hid hneg
 replace hpos := Lib.hid hpos
 go_enter Tryz.func149, Tryz.ntmps149
 go_wp2
 go_loopw [3, 4] (fun v3 v4 wr => ∃ (m : Int) (s : ByteArray), v3 = .string s ∧ v4 = .int .i64 m ∧ Hid (OI n m s w wr)) (fun _ v4 _ => (intOf v4).natAbs)
 case atStart => exact ⟨n, _, rfl, rfl, ⟨by show _ ++ [] = _; rw [List.append_nil], h0, h1, Below.refl _ _⟩⟩
 case round =>
  obtain ⟨m, s, rfl, rfl, hr⟩ := hrel
  obtain ⟨ht, m0, m1, hbe⟩ := hr.out
  have hss : s.size ≤ 62 := by
   have := congrArg List.length ht
   rw [List.length_append] at this
   have : s.data.toList.length = s.size := by simp
   omega
  obtain ⟨d, hd⟩ : ∃ d : Nat, m.natAbs % 10 = d := ⟨_, rfl⟩
  have hd10 : d < 10 := by omega
  have hst := tell_step m.natAbs s.data.toList _ ht
  have hm1 := tmod10 m
  have hq1 := tdiv10 m
  have hq2 := tdiv10_in m m0 m1
  rw [hd] at hst hm1
  have hdi : (d : Int) < 10 := by omega
  replace hr := Lib.hid hr
  replace ht := Lib.hid ht
  replace hst := Lib.hid hst
  replace hbe := Lib.hid hbe
  go_upto_if 10 with (fail)
  go_cut [5] (fun v wx => v = .int .i64 d ∧ wx = wr)
  case first =>
   as_aux_lemma =>
    by_cases hm : m < 0
    ·have e := hm1.1 hm
     by_cases hd0 : d = 0
     ·have e2 : m.tmod 10 = 0 := by omega
      rw [e2]
      subst hd0
      go_wp2
      go_meet
      exact ⟨rfl, rfl⟩
     ·have e2 : m.tmod 10 < 0 := by omega
      go_wp2
      go_meet
      first | exact ⟨by rw [e]; congr 1; omega, rfl⟩ | exact ⟨rfl, rfl⟩
    ·have e := hm1.2 (by omega)
     have e2 : ¬ m.tmod 10 < 0 := by omega
     rw [e] at e2 ⊢
     go_wp2
     go_meet
     exact ⟨rfl, rfl⟩
  obtain ⟨rfl, hwx⟩ := hcut
  rw [hwx]; clear hwx
  have hcb : (convert 100 9 (.slice (some ⟨wr.heap.size, 0, none⟩) 1 1)).run Tryz.prog (wr.alloc (.cells #[.int .u8 (48 + (d : Int))] 5)) = .ok (.string ⟨#[dg d]⟩) (wr.alloc (.cells #[.int .u8 (48 + (d : Int))] 5)) :=
   run_convert_bytes_back (P := Tryz.prog) (wr.alloc (.cells #[.int .u8 (48 + (d : Int))] 5)) 100 9 5 ⟨wr.heap.size, 0, none⟩ 1 [dg d] Tryz.underlying100 Tryz.underlying5 Tryz.underlying9 (fun j hj => by
    obtain rfl : j = 0 := by simpa using hj
    rw [news_one wr (.int .u8 (48 + (d : Int))) 5 0 _ rfl]
    simp [dg_toNat hd10])
  have hsz : ((⟨#[dg d]⟩ : ByteArray).size : Int) + (s.size : Int) ≤ 9223372036854775807 := by
   have : (⟨#[dg d]⟩ : ByteArray).size = 1 := rfl
   rw [this]; omega
  have hbe2 := Lib.hid (hbe.out.alloc hbe.out.size (.cells #[.int .u8 (48 + (d : Int))] 5))
  obtain ⟨s2, hs2⟩ : ∃ s2 : ByteArray, (⟨#[dg d]⟩ : ByteArray) ++ s = s2 := ⟨_, rfl⟩
  have hs2l : s2.data.toList = dg d :: s.data.toList := by rw [← hs2]; simp
  have hs2s : s2.size ≤ 63 := by
   have := congrArg List.length hs2l
   have e1 : s2.data.toList.length = s2.size := by simp
   have e2 : s.data.toList.length = s.size := by simp
   rw [List.length_cons] at this
   omega
  rw [← hs2l] at hst
  clear hs2l
  replace hs2 := Lib.hid hs2
  go_upto_region 7 with (fail)
  generalize wr.alloc (.cells #[.int .u8 (48 + (d : Int))] 5) = w2 at *
  clear hcb
  rw [hs2.out]
  clear hs2
  by_cases hz : m.natAbs < 10
  ·have e : m.tdiv 10 = 0 := by omega
   have hdone := hst.out.1 hz
   clear hq1 hq2 hst hm1 hr ht
   by_cases hn : n < 0
   ·have hR := hneg.out hn s2 hdone
    have z1 : ((⟨#[45]⟩ : ByteArray).size : Int) + (s2.size : Int) ≤ 9223372036854775807 := by
     have : (⟨#[45]⟩ : ByteArray).size = 1 := rfl
     rw [this]; omega
    have z2 : (((⟨#[45]⟩ : ByteArray) ++ s2).size : Int) + ((⟨#[46, 48]⟩ : ByteArray).size : Int) ≤ 9223372036854775807 := by
     have h3 : (⟨#[45]⟩ : ByteArray).size = 1 := rfl
     have h4 : (⟨#[46, 48]⟩ : ByteArray).size = 2 := rfl
     rw [ByteArray.size_append, h3, h4]; omega
    replace hR := Lib.hid hR
    go_wp2
    go_ret
    exact ⟨by rw [hR.out]; rfl, hbe2.out⟩
   ·have hR := hpos.out (by omega) s2 hdone
    have z2 : (s2.size : Int) + ((⟨#[46, 48]⟩ : ByteArray).size : Int) ≤ 9223372036854775807 := by
     have h4 : (⟨#[46, 48]⟩ : ByteArray).size = 2 := rfl
     rw [h4]; omega
    replace hR := Lib.hid hR
    go_wp2
    go_ret
    exact ⟨by rw [hR.out]; rfl, hbe2.out⟩
  ·have e : (m.tdiv 10 == 0) = false := beq_eq_false_iff_ne.2 (by omega)
   have hnx : OI n (m.tdiv 10) s2 w w2 := ⟨by rw [hq1]; exact hst.out.2 (by omega), hq2.1, hq2.2, hbe2.out⟩
   replace hnx := Lib.hid hnx
   have hlt2 : (m.tdiv 10).natAbs < m.natAbs := by omega
   clear hst hm1 hr ht
   go_wp2
   go_roundw
   case rel => exact ⟨m.tdiv 10, s2, rfl, rfl, hnx⟩
   case measure => exact hlt2
end Go.Proofs.YtidplkfhodpdhaaGreatDoor.dec
