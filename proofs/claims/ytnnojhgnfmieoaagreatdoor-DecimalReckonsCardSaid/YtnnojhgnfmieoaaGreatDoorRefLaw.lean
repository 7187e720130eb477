/- The reference's contracts in one world's words. -/
import Derived.Test.YtnnojhgnfmieoaaGreatDoorRefOps2
import Derived.Test.YtnnojhgnfmieoaaGreatDoorDecLaw
namespace Go.Proofs.YtnnojhgnfmieoaaGreatDoor.dec
open Go.ChangeShapes Go.WideShapes Go.ChangeAt Go.RowKit kit
set_option linter.unusedVariables false
section
variable {V w : World}
theorem sh_le {s : ByteArray} (h : sh s = true) : s.size ≤ 50000 := by
  have := of_decide_eq_true h
  omega
theorem rcmp_l (a b : ByteArray) (ha : sh a = true) (hb : sh b = true) (r : Int) (hr : cmpR a.data.toList b.data.toList = r) (h : LW V w) : Calls Tryz.prog 11 #[.string a, .string b] w fun e w' => e = .returned (.int .i64 r) ∧ LW V w' := hr ▸ (refcmp_call a b w (sh_le ha) (sh_le hb)).mono fun e w' ⟨he, hb⟩ => ⟨he, h.step hb⟩
theorem radd_l (a b : ByteArray) (ha : sh a = true) (hb : sh b = true) (r : List UInt8 × Int) (hr : addR a.data.toList b.data.toList = r) (h : LW V w) : Calls Tryz.prog 13 #[.string a, .string b] w fun e w' => e = .returned (.tuple #[.string (tx r.1), .int .i64 r.2]) ∧ LW V w' := hr ▸ (refadd_call a b w (sh_le ha) (sh_le hb)).mono fun e w' ⟨he, hb⟩ => ⟨he, h.step hb⟩
theorem rsub_l (a b : ByteArray) (ha : sh a = true) (hb : sh b = true) (r : List UInt8 × Int) (hr : subR a.data.toList b.data.toList = r) (h : LW V w) : Calls Tryz.prog 15 #[.string a, .string b] w fun e w' => e = .returned (.tuple #[.string (tx r.1), .int .i64 r.2]) ∧ LW V w' := hr ▸ (refsub_call a b w (sh_le ha) (sh_le hb)).mono fun e w' ⟨he, hb⟩ => ⟨he, h.step hb⟩
theorem rmul_l (a b : ByteArray) (ha : sh a = true) (hb : sh b = true) (r : List UInt8 × Int) (hr : mulT a.data.toList b.data.toList = r) (h : LW V w) : Calls Tryz.prog 17 #[.string a, .string b] w fun e w' => e = .returned (.tuple #[.string (tx r.1), .int .i64 r.2]) ∧ LW V w' := hr ▸ (refmul_call a b w (sh_le ha) (sh_le hb)).mono fun e w' ⟨he, hb⟩ => ⟨he, h.step hb⟩
theorem rdiv_l (a b : ByteArray) (ha : sh a = true) (hb : sh b = true) (r : List UInt8 × Int) (hr : divT a.data.toList b.data.toList = r) (h : LW V w) : Calls Tryz.prog 19 #[.string a, .string b] w fun e w' => e = .returned (.tuple #[.string (tx r.1), .int .i64 r.2]) ∧ LW V w' := hr ▸ (refdiv_call a b w (sh_le ha) (sh_le hb)).mono fun e w' ⟨he, hb⟩ => ⟨he, h.step hb⟩
theorem rneg_l (a : ByteArray) (ha : sh a = true) (r : List UInt8 × Int) (hr : negR a.data.toList = r) (h : LW V w) : Calls Tryz.prog 21 #[.string a] w fun e w' => e = .returned (.tuple #[.string (tx r.1), .int .i64 r.2]) ∧ LW V w' := hr ▸ (refneg_call a w (sh_le ha)).mono fun e w' ⟨he, hb⟩ => ⟨he, h.step hb⟩
theorem rread_l (a : ByteArray) (ha : sh a = true) (r : List UInt8 × Int) (hr : readP a.data.toList = r) (h : LW V w) : Calls Tryz.prog 23 #[.string a] w fun e w' => e = .returned (.tuple #[.string (tx r.1), .int .i64 r.2]) ∧ LW V w' := hr ▸ (rread_any a w (sh_le ha)).mono fun e w' ⟨he, hb⟩ => ⟨he, h.step hb⟩
theorem rcheck_l (a : ByteArray) (ha : sh a = true) (r : Bool) (hr : chk a.data.toList = r) (h : LW V w) : Calls Tryz.prog 27 #[.string a] w fun e w' => e = .returned (.bool r) ∧ LW V w' := hr ▸ (rcheck_any a w (sh_le ha)).mono fun e w' ⟨he, hb⟩ => ⟨he, h.step hb⟩
end
end Go.Proofs.YtnnojhgnfmieoaaGreatDoor.dec
