/- The calls that the closed law on decimals makes, each with what it answers. -/
import Derived.Test.YtnnojhgnfmieoaaDoorDecEnds0
namespace Go.Proofs.YtnnojhgnfmieoaaDoor.dec
open Go.ChangeShapes Go.WideShapes Go.ChangeAt Go.RowKit kit
set_option linter.unusedVariables false
theorem toI_l {V w : World} (a : ByteArray) (hs : a.size ≤ 100000) (r : Int × Bool) (hr : toIR a.data.toList = r) (h : LW V w) : Calls Tryd.prog 18 #[.string a] w fun e w' => e = .returned (.tuple #[.int .i64 r.1, .bool r.2]) ∧ LW V w' := hr ▸ (toI_call a w h.env hs).mono fun e w' ⟨he, hb⟩ => ⟨he, h.step hb⟩
theorem app_list (a : ByteArray) (l : List UInt8) : (a ++ ⟨l.toArray⟩).data.toList = a.data.toList ++ l := by simp
theorem size_eq (a : ByteArray) : a.size = a.data.toList.length := rfl
theorem c1e : canon 1 = [48, 46, 48, 48, 48, 48, 48, 48, 48, 48, 48, 48, 48, 48, 48, 48, 48, 48, 48, 48, 48, 49] := by kernel_rfl
section
variable {V w : World} (s1 s3 : ByteArray)
theorem eq1 (l1 : s1.data.toList = n40) : ((tx (canon zA)).toList == (s1 ++ ⟨#[46, 48]⟩).toList) = true := by
  rw [tx_toList, Go.ByteArray.toList_eq, app_list s1 [46, 48], l1, canon_A]; exact beq_self_eq_true _
theorem eq2 (l1 : s1.data.toList = n40) : ((tx (canon zB)).toList == (s1 ++ ⟨#[46, 53]⟩).toList) = true := by
  rw [tx_toList, Go.ByteArray.toList_eq, app_list s1 [46, 53], l1, canon_B]; exact beq_self_eq_true _
theorem eq3 (l3 : s3.data.toList = s19) : ((tx (canon 1)).toList == (s3 ++ ⟨#[49]⟩).toList) = true := by
  rw [tx_toList, Go.ByteArray.toList_eq, app_list s3 [49], l3, c1e]; decide
theorem sz1 (l1 : s1.data.toList = n40) : s1.size = 40 := by rw [size_eq, l1]; rfl
theorem sz3 (l3 : s3.data.toList = s19) : s3.size = 21 := by rw [size_eq, l3]; rfl
theorem app_list2 (l : List UInt8) (a : ByteArray) : ((⟨l.toArray⟩ : ByteArray) ++ a).data.toList = l ++ a.data.toList := by simp
theorem sz4 (l1 : s1.data.toList = n40) : ((⟨#[48, 48, 48]⟩ : ByteArray) ++ s1).size = 43 := by rw [size_eq, app_list2 [48, 48, 48] s1, l1]; rfl
theorem sz5 (l1 : s1.data.toList = n40) : (((⟨#[48, 48, 48]⟩ : ByteArray) ++ s1) ++ ⟨#[46]⟩).size = 44 := by rw [size_eq, app_list _ [46], app_list2 [48, 48, 48] s1, l1]; rfl
theorem read_e {V w : World} (a : ByteArray) (l : List UInt8) (hl : a.data.toList = l) (n : Nat) (hn : l.length = n) (hs : n ≤ 100) (t : List UInt8) (e : Int) (hr : readP l = (t, e)) (h : LW V w) : Calls Tryd.prog 13 #[.string a] w fun e' w' => e' = .returned (.tuple #[.string (tx t), .int .i64 e]) ∧ LW V w' :=
  read_l a (by rw [size_eq, hl, hn]; omega) (t, e) (by rw [hl]; exact hr) h
theorem len40 : n40.length = 40 := by unfold n40; exact List.length_replicate
theorem len19 : s19.length = 21 := by unfold s19; rw [List.length_cons, List.length_cons, List.length_replicate]
theorem k1 (l1 : s1.data.toList = n40) (h : LW V w) : Calls Tryd.prog 13 #[.string s1] w fun e w' => e = .returned (.tuple #[.string (tx (canon zA)), .int .i64 0]) ∧ LW V w' :=
  read_l s1 (by rw [sz1 s1 l1]; omega) (canon zA, 0) (by rw [l1]; exact ends1) h
theorem k2 (l1 : s1.data.toList = n40) (h : LW V w) : Calls Tryd.prog 13 #[.string (s1 ++ ⟨#[57]⟩)] w fun e w' => e = .returned (.tuple #[.string (tx []), .int .i64 2]) ∧ LW V w' := by
  have hl : (s1 ++ ⟨#[57]⟩).data.toList = n40 ++ [57] := by rw [app_list s1 [57], l1]
  exact read_e _ _ hl 41 (by kernel_rfl) (by decide) [] 2 ends2 h
theorem k3 (l1 : s1.data.toList = n40) (h : LW V w) : Calls Tryd.prog 13 #[.string ((((⟨#[48, 48, 48]⟩ : ByteArray) ++ s1) ++ ⟨#[46]⟩) ++ ⟨#[53, 48, 48, 48, 48, 48, 48, 48, 48, 48, 48, 48, 48, 48, 48, 48, 48, 48, 48, 48, 48, 48, 48]⟩)] w fun e w' => e = .returned (.tuple #[.string (tx (canon zB)), .int .i64 0]) ∧ LW V w' := by
  have hl : (((((⟨#[48, 48, 48]⟩ : ByteArray) ++ s1) ++ ⟨#[46]⟩) ++ ⟨#[53, 48, 48, 48, 48, 48, 48, 48, 48, 48, 48, 48, 48, 48, 48, 48, 48, 48, 48, 48, 48, 48, 48]⟩)).data.toList = [48, 48, 48] ++ n40 ++ [46] ++ [53, 48, 48, 48, 48, 48, 48, 48, 48, 48, 48, 48, 48, 48, 48, 48, 48, 48, 48, 48, 48, 48, 48] := by rw [app_list _ [53, 48, 48, 48, 48, 48, 48, 48, 48, 48, 48, 48, 48, 48, 48, 48, 48, 48, 48, 48, 48, 48, 48], app_list _ [46], app_list2 [48, 48, 48] s1, l1]
  exact read_e _ _ hl 67 (by kernel_rfl) (by decide) (canon zB) 0 ends3 h
theorem k4 (l3 : s3.data.toList = s19) (h : LW V w) : Calls Tryd.prog 13 #[.string (s3 ++ ⟨#[49]⟩)] w fun e w' => e = .returned (.tuple #[.string (tx (canon 1)), .int .i64 0]) ∧ LW V w' := by
  have hl : (s3 ++ ⟨#[49]⟩).data.toList = s19 ++ [49] := by rw [app_list s3 [49], l3]
  exact read_e _ _ hl 22 (by kernel_rfl) (by decide) (canon 1) 0 ends4 h
theorem k5 (l3 : s3.data.toList = s19) (h : LW V w) : Calls Tryd.prog 13 #[.string (s3 ++ ⟨#[48, 49]⟩)] w fun e w' => e = .returned (.tuple #[.string (tx []), .int .i64 2]) ∧ LW V w' := by
  have hl : (s3 ++ ⟨#[48, 49]⟩).data.toList = s19 ++ [48, 49] := by rw [app_list s3 [48, 49], l3]
  exact read_e _ _ hl 23 (by kernel_rfl) (by decide) [] 2 ends5 h
theorem k6 (h : LW V w) : Calls Tryd.prog 11 #[.string (tx (canon zA)), .string ⟨#[49, 46, 48]⟩] w fun e w' => e = .returned (.tuple #[.string (tx []), .int .i64 2]) ∧ LW V w' :=
  add_l (tx (canon zA)) ⟨#[49, 46, 48]⟩ ([], 2) ends6 h
theorem k7 (h : LW V w) : Calls Tryd.prog 11 #[.string (tx (canon zB)), .string ⟨#[48, 46, 52]⟩] w fun e w' => e = .returned (.tuple #[.string (tx (addR (canon zB) [48, 46, 52]).1), .int .i64 0]) ∧ LW V w' := by
  have := add_l (V := V) (w := w) (tx (canon zB)) ⟨#[48, 46, 52]⟩ (addR (canon zB) [48, 46, 52]) rfl h
  rwa [ends7] at this
theorem k8 (h : LW V w) : Calls Tryd.prog 14 #[.string (tx (canon 1)), .string ⟨#[48, 46, 49]⟩] w fun e w' => e = .returned (.tuple #[.string (tx []), .int .i64 2]) ∧ LW V w' :=
  mul_l (tx (canon 1)) ⟨#[48, 46, 49]⟩ ([], 2) ends8 h
theorem k9 (h : LW V w) : Calls Tryd.prog 15 #[.string ⟨#[49, 46, 48]⟩, .string ⟨#[48, 46, 48]⟩] w fun e w' => e = .returned (.tuple #[.string (tx []), .int .i64 3]) ∧ LW V w' :=
  div_l ⟨#[49, 46, 48]⟩ ⟨#[48, 46, 48]⟩ ([], 3) ends9 h
theorem k10 (h : LW V w) : Calls Tryd.prog 15 #[.string (tx (canon zA)), .string ⟨#[48, 46, 49]⟩] w fun e w' => e = .returned (.tuple #[.string (tx []), .int .i64 2]) ∧ LW V w' :=
  div_l (tx (canon zA)) ⟨#[48, 46, 49]⟩ ([], 2) ends10 h
theorem k11 (h : LW V w) : Calls Tryd.prog 18 #[.string ⟨#[45, 57, 50, 50, 51, 51, 55, 50, 48, 51, 54, 56, 53, 52, 55, 55, 53, 56, 48, 56, 46, 48]⟩] w fun e w' => e = .returned (.tuple #[.int .i64 (-9223372036854775808), .bool true]) ∧ LW V w' :=
  toI_l ⟨#[45, 57, 50, 50, 51, 51, 55, 50, 48, 51, 54, 56, 53, 52, 55, 55, 53, 56, 48, 56, 46, 48]⟩ (by decide) (-9223372036854775808, true) ends11 h
theorem k12 (h : LW V w) : Calls Tryd.prog 18 #[.string ⟨#[57, 50, 50, 51, 51, 55, 50, 48, 51, 54, 56, 53, 52, 55, 55, 53, 56, 48, 56, 46, 48]⟩] w fun e w' => e = .returned (.tuple #[.int .i64 0, .bool false]) ∧ LW V w' :=
  toI_l ⟨#[57, 50, 50, 51, 51, 55, 50, 48, 51, 54, 56, 53, 52, 55, 55, 53, 56, 48, 56, 46, 48]⟩ (by decide) (0, false) ends12 h
theorem k13 (h : LW V w) : Calls Tryd.prog 19 #[.slice (some ⟨w.heap.size, 0, none⟩) 3 3] (w.alloc (.cells #[.string (tx (canon zA)), .string ⟨#[49, 46, 48]⟩, .string ⟨#[45, 49, 46, 48]⟩] 9)) fun e w' => e = .returned (.tuple #[.string (tx (canon zA)), .int .i64 0]) ∧ LW V w' := by
  have hb := (Below.refl w.heap.size w).alloc (Nat.le_refl _) (.cells #[.string (tx (canon zA)), .string ⟨#[49, 46, 48]⟩, .string ⟨#[45, 49, 46, 48]⟩] 9)
  have hl := h.step hb
  have hs := ends14 (tx (canon zA)) ⟨#[49, 46, 48]⟩ ⟨#[45, 49, 46, 48]⟩ rfl rfl rfl
  have hblk : Blk (w.alloc (.cells #[.string (tx (canon zA)), .string ⟨#[49, 46, 48]⟩, .string ⟨#[45, 49, 46, 48]⟩] 9)) w.heap.size #[.string (tx (canon zA)), .string ⟨#[49, 46, 48]⟩, .string ⟨#[45, 49, 46, 48]⟩] 9 := Blk.new _ _ _
  have hm := sum_any w.heap.size 0 3 [tx (canon zA), ⟨#[49, 46, 48]⟩, ⟨#[45, 49, 46, 48]⟩] (w.alloc (.cells #[.string (tx (canon zA)), .string ⟨#[49, 46, 48]⟩, .string ⟨#[45, 49, 46, 48]⟩] 9)) hl.env (by decide) (by simp) (fun j hj => by
    have hj3 : j < 3 := hj
    rw [Nat.zero_add]
    refine hblk.cell j ?_
    match j, hj3 with
    | 0, _ => rfl
    | 1, _ => rfl
    | 2, _ => rfl)
  rw [hs] at hm
  exact hm.mono fun e w' ⟨he, hb2⟩ => ⟨he, hl.step hb2⟩
theorem k14 (h : LW V w) : Calls Tryd.prog 20 #[.int .i64 (-9223372036854775808)] w fun e w' => e = .returned (.string ⟨#[45, 57, 50, 50, 51, 51, 55, 50, 48, 51, 54, 56, 53, 52, 55, 55, 53, 56, 48, 56, 46, 48]⟩) ∧ LW V w' :=
  ofInt_l (-9223372036854775808) (by decide) (by decide) ⟨#[45, 57, 50, 50, 51, 51, 55, 50, 48, 51, 54, 56, 53, 52, 55, 55, 53, 56, 48, 56, 46, 48]⟩ ends13 h
end
end Go.Proofs.YtnnojhgnfmieoaaDoor.dec
