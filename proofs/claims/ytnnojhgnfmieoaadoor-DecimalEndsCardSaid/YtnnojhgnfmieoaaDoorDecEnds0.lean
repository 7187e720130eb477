/- Plain: the ends: as many digits as may be, and one more; the least and the greatest whole number; divided by 0. -/
import Derived.Test.YtnnojhgnfmieoaaDoorDecLaw
import Derived.Test.YtnnojhgnfmieoaaDoorDecSum
import Derived.Test.YtnnojhgnfmieoaaDoorDecInt
namespace Go.Proofs.YtnnojhgnfmieoaaDoor.dec
open Go.ChangeShapes Go.WideShapes Go.ChangeAt Go.RowKit kit
set_option linter.unusedVariables false
theorem digs_K (n : Nat) (h : n < 10 ^ 100) : digs n = trimL (pad 100 n) := by
  rw [trimL_eq (pad_allD _ _), pad_val, Nat.mod_eq_of_lt h]
theorem canon_K (z : Int) (h : z.natAbs / 10 ^ 20 < 10 ^ 100) : canon z = fmt (decide (z < 0)) (trimL (pad 100 (z.natAbs / 10 ^ 20))) (frac 20 z.natAbs) := by
  unfold canon; rw [digs_K _ h]
theorem toldP_le (neg : Bool) (N sc : Nat) (hsc : sc ≤ 20) : toldP neg N sc = txt (signed neg (N * 10 ^ (20 - sc))) := by
  rw [← toldP_20]; unfold toldP; rw [told_le neg N sc hsc]
def n40 : List UInt8 := List.replicate 40 57
def zA : Int := 999999999999999999999999999999999999999900000000000000000000
def zB : Int := 999999999999999999999999999999999999999950000000000000000000
theorem small_A : small zA := by unfold small zA top; decide
theorem small_B : small zB := by unfold small zB top; decide
theorem canon_A : canon zA = n40 ++ [46, 48] := by rw [canon_K zA (by unfold zA; decide)]; kernel_rfl
theorem canon_B : canon zB = n40 ++ [46, 53] := by rw [canon_K zB (by unfold zB; decide)]; kernel_rfl
theorem ends1 : readP n40 = (canon zA, 0) := by
  have h : readP n40 = toldP false 9999999999999999999999999999999999999999 0 := by kernel_rfl
  rw [h, toldP_le _ _ _ (by decide), show signed false (9999999999999999999999999999999999999999 * 10 ^ (20 - 0)) = zA by kernel_rfl, txt_ok small_A]
theorem ends2 : readP (n40 ++ [57]) = ([], 2) := by
  have h : readP (n40 ++ [57]) = toldP false 99999999999999999999999999999999999999999 0 := by kernel_rfl
  rw [h, toldP_le _ _ _ (by decide), txt_no]
  unfold small top; decide
theorem ends3 : readP ([48, 48, 48] ++ n40 ++ [46] ++ [53, 48, 48, 48, 48, 48, 48, 48, 48, 48, 48, 48, 48, 48, 48, 48, 48, 48, 48, 48, 48, 48, 48]) = (canon zB, 0) := by
  have h : readP ([48, 48, 48] ++ n40 ++ [46] ++ [53, 48, 48, 48, 48, 48, 48, 48, 48, 48, 48, 48, 48, 48, 48, 48, 48, 48, 48, 48, 48, 48, 48]) = toldP false (99999999999999999999999999999999999999995 * 10 ^ 22) (1 + 22) := by kernel_rfl
  rw [h, told_dvd, toldP_le _ _ _ (by decide), show signed false (99999999999999999999999999999999999999995 * 10 ^ (20 - 1)) = zB by kernel_rfl, txt_ok small_B]
def s19 : List UInt8 := 48 :: 46 :: List.replicate 19 48
theorem small_1 : small 1 := sm 1 (by decide)
theorem ends4 : readP (s19 ++ [49]) = (canon 1, 0) := by
  have h : readP (s19 ++ [49]) = toldP false 1 20 := by kernel_rfl
  rw [h, toldP_20]; exact txt_ok small_1
theorem ends5 : readP (s19 ++ [48, 49]) = ([], 2) := by
  have h : readP (s19 ++ [48, 49]) = toldP false 1 (20 + 1) := by kernel_rfl
  rw [h]; exact told_not _ _ _ (by decide)
theorem ends6 : addR (canon zA) [49, 46, 48] = ([], 2) := by
  rw [← w4, addR_z small_A (sm _ (by decide)), txt_no]
  unfold small zA top E20; decide
theorem e04 : canon 40000000000000000000 = [48, 46, 52] := by kernel_rfl
theorem ends7 : (addR (canon zB) [48, 46, 52]).2 = 0 := by
  rw [← e04, addR_z small_B (sm _ (by decide)), txt_ok]
  unfold small zB top; decide
theorem ends8 : mulT (canon 1) [48, 46, 49] = ([], 2) := by
  rw [← w1, mulT_z small_1 (sm _ (by decide))]
  unfold mulR
  rw [told40, if_neg]
  unfold E20; decide
theorem ends9 : divT [49, 46, 48] [48, 46, 48] = ([], 3) := by
  rw [← w4, ← canon_0]
  unfold divT
  rw [chk_canon _ (sm _ (by decide)), chk_canon _ small_0, zof_canon _ small_0]; rfl
theorem ends10 : divT (canon zA) [48, 46, 49] = ([], 2) := by
  rw [← w1, divT_z small_A (sm _ (by decide)) (by decide), txt_no]
  unfold small top
  rw [quo_natAbs]
  unfold zA E20; decide
theorem eM : canon (-922337203685477580800000000000000000000) = [45, 57, 50, 50, 51, 51, 55, 50, 48, 51, 54, 56, 53, 52, 55, 55, 53, 56, 48, 56, 46, 48] := by rw [canon_K _ (by decide)]; kernel_rfl
theorem eP : canon 922337203685477580800000000000000000000 = [57, 50, 50, 51, 51, 55, 50, 48, 51, 54, 56, 53, 52, 55, 55, 53, 56, 48, 56, 46, 48] := by rw [canon_K _ (by decide)]; kernel_rfl
theorem small_M : small (-922337203685477580800000000000000000000) := by unfold small top; decide
theorem small_P : small 922337203685477580800000000000000000000 := by unfold small top; decide
theorem ends11 : toIR [45, 57, 50, 50, 51, 51, 55, 50, 48, 51, 54, 56, 53, 52, 55, 55, 53, 56, 48, 56, 46, 48] = (-9223372036854775808, true) := by
  rw [← eM]; unfold toIR; rw [chk_canon _ small_M, zof_canon _ small_M]; kernel_rfl
theorem ends12 : toIR [57, 50, 50, 51, 51, 55, 50, 48, 51, 54, 56, 53, 52, 55, 55, 53, 56, 48, 56, 46, 48] = (0, false) := by
  rw [← eP]; unfold toIR; rw [chk_canon _ small_P, zof_canon _ small_P]; kernel_rfl
theorem ends13 : canon (-9223372036854775808 * E20) = [45, 57, 50, 50, 51, 51, 55, 50, 48, 51, 54, 56, 53, 52, 55, 55, 53, 56, 48, 56, 46, 48] := by
  rw [← eM]; rfl
theorem n1 : canon (-1 * E20) = [45, 49, 46, 48] := by rw [← itoa_canon, show Lib.itoa (-1) = 45 :: Lib.decDigits 1 from rfl, dd 1 (by decide)]; decide
theorem ends14 (a b c : ByteArray) (ha : a.data.toList = canon zA) (hb : b.data.toList = [49, 46, 48]) (hc : c.data.toList = [45, 49, 46, 48]) : sumR [a, b, c] = (canon zA, 0) := by
  have hs1 : small (1 * E20) := sm _ (by decide)
  have hs2 : small (-1 * E20) := sm _ (by decide)
  unfold sumR allC sumZ
  simp only [List.length_cons, List.length_nil, List.take_succ_cons, List.take_zero, List.all_cons, List.all_nil, List.map_cons, List.map_nil, List.sum_cons, List.sum_nil]
  rw [ha, hb, hc, ← n1, ← w4, chk_canon _ small_A, chk_canon _ hs1, chk_canon _ hs2, zof_canon _ small_A, zof_canon _ hs1, zof_canon _ hs2]
  have : zA + (1 * E20 + (-1 * E20 + 0)) = zA := by omega
  rw [this]
  exact txt_ok small_A
end Go.Proofs.YtnnojhgnfmieoaaDoor.dec
