/- Contract of decimal.told. -/
import Derived.Test.YthecgifgjagmaaaGreatDoorDecLib
namespace Go.Proofs.YthecgifgjagmaaaGreatDoor.dec
open Go.ChangeShapes Go.WideShapes Go.ChangeAt Go.RowKit kit
set_option linter.unusedVariables false
def toldL (neg : Bool) (W P : List UInt8) : List UInt8 := if 40 < W.length ∨ 20 < P.length then [] else fmt (neg && decide (¬ (W = [] ∧ P = []))) W P
def toldE (neg : Bool) (W P : List UInt8) : Int := if 40 < W.length ∨ 20 < P.length then 2 else 0
theorem ret_told {s t : ByteArray} {a b : Int} (h : s.data.toList = t.data.toList) (hab : a = b) : Ending.returned (.tuple #[.string s, .int .i64 a]) = .returned (.tuple #[.string t, .int .i64 b]) := by rw [ba_ext h, hab]
theorem fmt_nil : fmt false [] [] = [48, 46, 48] := rfl
set_option maxRecDepth 100000 in
set_option maxHeartbeats 1000000 in
theorem told_walk (neg : Bool) (s : ByteArray) (k sc : Nat) (w : World) (hs : s.size = k + sc) (hk : 1 ≤ k) (hb : k ≤ 100000) (hsc : sc ≤ 100000) :
    Calls Tryz.prog 143 #[.bool neg, .string s, .int .i64 sc] w fun e w' => e = .returned (.tuple #[.string (tx (toldL neg (trimL (s.data.toList.take k)) (trimR ((s.data.toList.drop k).take sc)))), .int .i64 (toldE neg (trimL (s.data.toList.take k)) (trimR ((s.data.toList.drop k).take sc)))]) ∧ Below w.heap.size w w' := by
  go_enter Tryz.func143, Tryz.ntmps143
  go_wp2
  go_quiet ((go_at_call 161; exact Calls.quiet_of_same (Tryz.strings_TrimRight_one _ 48 (by decide) _ (by simp; omega))))
  go_wp2_with (go_at_call 162; refine (Tryz.strings_TrimLeft_one _ 48 (by decide) _).mono ?_; rintro e w' ⟨rfl, rfl⟩)
  all_goals
    go_ret2
    refine ⟨?_, Below_drewN _ (Below.refl _ _)⟩
    rw [show Lib.trimLeftB (List.take k s.data.toList) 48 = trimL (List.take k s.data.toList) from rfl, show Lib.trimRightB (List.take sc (List.drop k s.data.toList)) 48 = trimR (List.take sc (List.drop k s.data.toList)) from rfl] at *
    generalize trimL (List.take k s.data.toList) = W at *
    generalize trimR (List.take sc (List.drop k s.data.toList)) = P at *
    refine ret_told ?_ ?_
    · simp_all [toldL, fmt]
      try omega
    · simp_all [toldE]
      try omega

theorem repeatL_48 (c : Nat) : Lib.repeatL [48] c = List.replicate c 48 := by
  induction c with
  | zero => rfl
  | succ c ih => rw [Lib.repeatL, ih]; rfl
set_option maxRecDepth 100000 in
set_option maxHeartbeats 1000000 in
theorem told_walk2 (neg : Bool) (s : ByteArray) (sc : Nat) (w : World) (hs : s.size ≤ sc) (hsc : sc ≤ 100000) (l : List UInt8) (hl : List.replicate (sc + 1 - s.size) 48 ++ s.data.toList = l) :
    Calls Tryz.prog 143 #[.bool neg, .string s, .int .i64 sc] w fun e w' => e = .returned (.tuple #[.string (tx (toldL neg (trimL (l.take 1)) (trimR (l.tail.take sc)))), .int .i64 (toldE neg (trimL (l.take 1)) (trimR (l.tail.take sc)))]) ∧ Below w.heap.size w w' := by
  have hb1 : ((s.size : Nat) : Int) ≤ sc := by omega
  replace hl := Lib.hid hl
  go_enter Tryz.func143, Tryz.ntmps143
  go_wp2_with fail
  rw [show ((sc : Int) + 1 - (s.size : Int)) = ((sc + 1 - s.size : Nat) : Int) by omega]
  refine (Tryz.strings_Repeat ⟨#[48]⟩ (sc + 1 - s.size) w (by omega) (by have : (ByteArray.mk #[48]).size = 1 := rfl; rw [this]; omega)).mono ?_
  rintro e w1 ⟨rfl, hw1⟩
  replace hw1 := Lib.hid hw1
  have hsum : ((⟨(Lib.repeatL (ByteArray.mk #[48]).data.toList (sc + 1 - s.size)).toArray⟩ : ByteArray).size : Int) + (s.size : Int) ≤ 9223372036854775807 := by
    have : (⟨(Lib.repeatL (ByteArray.mk #[48]).data.toList (sc + 1 - s.size)).toArray⟩ : ByteArray).size = sc + 1 - s.size := by
      show (Lib.repeatL _ _).toArray.size = _
      simp [repeatL_48]
    omega
  go_wp2_with fail
  obtain ⟨t, ht⟩ : ∃ t : ByteArray, ((⟨(Lib.repeatL [48] (sc + 1 - s.size)).toArray⟩ : ByteArray) ++ s) = t := ⟨_, rfl⟩
  rw [ht]
  have htl : t.data.toList = l := by rw [← ht, ← hl.out]; simp [repeatL_48]
  have hts : t.size = 1 + sc := by
    have : t.size = t.data.toList.length := by simp
    rw [this, htl, ← hl.out]; simp; omega
  replace htl := Lib.hid htl
  clear ht hsum
  go_quiet ((go_at_call 161; exact Calls.quiet_of_same (Tryz.strings_TrimRight_one _ 48 (by decide) _ (by simp; omega))))
  go_wp2_with (go_at_call 162; refine (Tryz.strings_TrimLeft_one _ 48 (by decide) _).mono ?_; rintro e w' ⟨rfl, rfl⟩)
  all_goals
    go_ret2
    refine ⟨?_, Below_drewN _ hw1.out⟩
    have e := htl.out
    clear htl hl hw1
    subst e
    rw [show Lib.trimLeftB (List.take 1 t.data.toList) 48 = trimL (List.take 1 t.data.toList) from rfl, show Lib.trimRightB (List.take sc t.data.toList.tail) 48 = trimR (List.take sc t.data.toList.tail) from rfl] at *
    generalize trimL (List.take 1 t.data.toList) = W at *
    generalize trimR (List.take sc t.data.toList.tail) = P at *
    refine ret_told ?_ ?_
    · simp_all [toldL, fmt]
      try omega
    · simp_all [toldE]
      try omega
end Go.Proofs.YthecgifgjagmaaaGreatDoor.dec
