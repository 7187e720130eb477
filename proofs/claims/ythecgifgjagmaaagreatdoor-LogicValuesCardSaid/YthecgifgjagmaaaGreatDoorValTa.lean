/- The type switch on what part tells. -/
import Derived.Test.YthecgifgjagmaaaGreatDoorValPart
namespace Go.Proofs.YthecgifgjagmaaaGreatDoor.val
open Go.RowKit kit
set_option linter.unusedVariables false
theorem ta_0_0 (v : Value) (w : World) : (Instr.typeAssert (.iface 120 v) 20 120 true).run Tryz.prog w = .ok (.tuple #[v, .bool true]) w := by kernel_rfl
theorem ta_1_0 (v : Value) (w : World) : (Instr.typeAssert (.iface 79 v) 20 120 true).run Tryz.prog w = .ok (.tuple #[.agg #[], .bool false]) w := by kernel_rfl
theorem ta_1_1 (v : Value) (w : World) : (Instr.typeAssert (.iface 79 v) 20 79 true).run Tryz.prog w = .ok (.tuple #[v, .bool true]) w := by kernel_rfl
theorem ta_2_0 (v : Value) (w : World) : (Instr.typeAssert (.iface 73 v) 20 120 true).run Tryz.prog w = .ok (.tuple #[.agg #[], .bool false]) w := by kernel_rfl
theorem ta_2_1 (v : Value) (w : World) : (Instr.typeAssert (.iface 73 v) 20 79 true).run Tryz.prog w = .ok (.tuple #[.bool false, .bool false]) w := by kernel_rfl
theorem ta_2_2 (v : Value) (w : World) : (Instr.typeAssert (.iface 73 v) 20 73 true).run Tryz.prog w = .ok (.tuple #[v, .bool true]) w := by kernel_rfl
theorem ta_3_0 (v : Value) (w : World) : (Instr.typeAssert (.iface 74 v) 20 120 true).run Tryz.prog w = .ok (.tuple #[.agg #[], .bool false]) w := by kernel_rfl
theorem ta_3_1 (v : Value) (w : World) : (Instr.typeAssert (.iface 74 v) 20 79 true).run Tryz.prog w = .ok (.tuple #[.bool false, .bool false]) w := by kernel_rfl
theorem ta_3_2 (v : Value) (w : World) : (Instr.typeAssert (.iface 74 v) 20 73 true).run Tryz.prog w = .ok (.tuple #[.int .i64 0, .bool false]) w := by kernel_rfl
theorem ta_3_3 (v : Value) (w : World) : (Instr.typeAssert (.iface 74 v) 20 74 true).run Tryz.prog w = .ok (.tuple #[v, .bool true]) w := by kernel_rfl
theorem ta_4_0 (v : Value) (w : World) : (Instr.typeAssert (.iface 110 v) 20 120 true).run Tryz.prog w = .ok (.tuple #[.agg #[], .bool false]) w := by kernel_rfl
theorem ta_4_1 (v : Value) (w : World) : (Instr.typeAssert (.iface 110 v) 20 79 true).run Tryz.prog w = .ok (.tuple #[.bool false, .bool false]) w := by kernel_rfl
theorem ta_4_2 (v : Value) (w : World) : (Instr.typeAssert (.iface 110 v) 20 73 true).run Tryz.prog w = .ok (.tuple #[.int .i64 0, .bool false]) w := by kernel_rfl
theorem ta_4_3 (v : Value) (w : World) : (Instr.typeAssert (.iface 110 v) 20 74 true).run Tryz.prog w = .ok (.tuple #[.string ⟨#[]⟩, .bool false]) w := by kernel_rfl
theorem ta_4_4 (v : Value) (w : World) : (Instr.typeAssert (.iface 110 v) 20 110 true).run Tryz.prog w = .ok (.tuple #[v, .bool true]) w := by kernel_rfl
theorem ta_5_0 (v : Value) (w : World) : (Instr.typeAssert (.iface 75 v) 20 120 true).run Tryz.prog w = .ok (.tuple #[.agg #[], .bool false]) w := by kernel_rfl
theorem ta_5_1 (v : Value) (w : World) : (Instr.typeAssert (.iface 75 v) 20 79 true).run Tryz.prog w = .ok (.tuple #[.bool false, .bool false]) w := by kernel_rfl
theorem ta_5_2 (v : Value) (w : World) : (Instr.typeAssert (.iface 75 v) 20 73 true).run Tryz.prog w = .ok (.tuple #[.int .i64 0, .bool false]) w := by kernel_rfl
theorem ta_5_3 (v : Value) (w : World) : (Instr.typeAssert (.iface 75 v) 20 74 true).run Tryz.prog w = .ok (.tuple #[.string ⟨#[]⟩, .bool false]) w := by kernel_rfl
theorem ta_5_4 (v : Value) (w : World) : (Instr.typeAssert (.iface 75 v) 20 110 true).run Tryz.prog w = .ok (.tuple #[.string ⟨#[]⟩, .bool false]) w := by kernel_rfl
theorem ta_5_5 (v : Value) (w : World) : (Instr.typeAssert (.iface 75 v) 20 75 true).run Tryz.prog w = .ok (.tuple #[v, .bool true]) w := by kernel_rfl
theorem ta_6_0 (v : Value) (w : World) : (Instr.typeAssert (.iface 77 v) 20 120 true).run Tryz.prog w = .ok (.tuple #[.agg #[], .bool false]) w := by kernel_rfl
theorem ta_6_1 (v : Value) (w : World) : (Instr.typeAssert (.iface 77 v) 20 79 true).run Tryz.prog w = .ok (.tuple #[.bool false, .bool false]) w := by kernel_rfl
theorem ta_6_2 (v : Value) (w : World) : (Instr.typeAssert (.iface 77 v) 20 73 true).run Tryz.prog w = .ok (.tuple #[.int .i64 0, .bool false]) w := by kernel_rfl
theorem ta_6_3 (v : Value) (w : World) : (Instr.typeAssert (.iface 77 v) 20 74 true).run Tryz.prog w = .ok (.tuple #[.string ⟨#[]⟩, .bool false]) w := by kernel_rfl
theorem ta_6_4 (v : Value) (w : World) : (Instr.typeAssert (.iface 77 v) 20 110 true).run Tryz.prog w = .ok (.tuple #[.string ⟨#[]⟩, .bool false]) w := by kernel_rfl
theorem ta_6_5 (v : Value) (w : World) : (Instr.typeAssert (.iface 77 v) 20 75 true).run Tryz.prog w = .ok (.tuple #[.slice none 0 0, .bool false]) w := by kernel_rfl
theorem ta_6_6 (v : Value) (w : World) : (Instr.typeAssert (.iface 77 v) 20 77 true).run Tryz.prog w = .ok (.tuple #[v, .bool true]) w := by kernel_rfl
theorem ta_7_0 (v : Value) (w : World) : (Instr.typeAssert (.iface 112 v) 20 120 true).run Tryz.prog w = .ok (.tuple #[.agg #[], .bool false]) w := by kernel_rfl
theorem ta_7_1 (v : Value) (w : World) : (Instr.typeAssert (.iface 112 v) 20 79 true).run Tryz.prog w = .ok (.tuple #[.bool false, .bool false]) w := by kernel_rfl
theorem ta_7_2 (v : Value) (w : World) : (Instr.typeAssert (.iface 112 v) 20 73 true).run Tryz.prog w = .ok (.tuple #[.int .i64 0, .bool false]) w := by kernel_rfl
theorem ta_7_3 (v : Value) (w : World) : (Instr.typeAssert (.iface 112 v) 20 74 true).run Tryz.prog w = .ok (.tuple #[.string ⟨#[]⟩, .bool false]) w := by kernel_rfl
theorem ta_7_4 (v : Value) (w : World) : (Instr.typeAssert (.iface 112 v) 20 110 true).run Tryz.prog w = .ok (.tuple #[.string ⟨#[]⟩, .bool false]) w := by kernel_rfl
theorem ta_7_5 (v : Value) (w : World) : (Instr.typeAssert (.iface 112 v) 20 75 true).run Tryz.prog w = .ok (.tuple #[.slice none 0 0, .bool false]) w := by kernel_rfl
theorem ta_7_6 (v : Value) (w : World) : (Instr.typeAssert (.iface 112 v) 20 77 true).run Tryz.prog w = .ok (.tuple #[.int .i64 0, .bool false]) w := by kernel_rfl
theorem ta_7_7 (v : Value) (w : World) : (Instr.typeAssert (.iface 112 v) 20 112 true).run Tryz.prog w = .ok (.tuple #[v, .bool true]) w := by kernel_rfl
theorem ta_8_0 (v : Value) (w : World) : (Instr.typeAssert (.iface 122 v) 20 120 true).run Tryz.prog w = .ok (.tuple #[.agg #[], .bool false]) w := by kernel_rfl
theorem ta_8_1 (v : Value) (w : World) : (Instr.typeAssert (.iface 122 v) 20 79 true).run Tryz.prog w = .ok (.tuple #[.bool false, .bool false]) w := by kernel_rfl
theorem ta_8_2 (v : Value) (w : World) : (Instr.typeAssert (.iface 122 v) 20 73 true).run Tryz.prog w = .ok (.tuple #[.int .i64 0, .bool false]) w := by kernel_rfl
theorem ta_8_3 (v : Value) (w : World) : (Instr.typeAssert (.iface 122 v) 20 74 true).run Tryz.prog w = .ok (.tuple #[.string ⟨#[]⟩, .bool false]) w := by kernel_rfl
theorem ta_8_4 (v : Value) (w : World) : (Instr.typeAssert (.iface 122 v) 20 110 true).run Tryz.prog w = .ok (.tuple #[.string ⟨#[]⟩, .bool false]) w := by kernel_rfl
theorem ta_8_5 (v : Value) (w : World) : (Instr.typeAssert (.iface 122 v) 20 75 true).run Tryz.prog w = .ok (.tuple #[.slice none 0 0, .bool false]) w := by kernel_rfl
theorem ta_8_6 (v : Value) (w : World) : (Instr.typeAssert (.iface 122 v) 20 77 true).run Tryz.prog w = .ok (.tuple #[.int .i64 0, .bool false]) w := by kernel_rfl
theorem ta_8_7 (v : Value) (w : World) : (Instr.typeAssert (.iface 122 v) 20 112 true).run Tryz.prog w = .ok (.tuple #[.agg #[.string ⟨#[]⟩, .string ⟨#[]⟩], .bool false]) w := by kernel_rfl
theorem ta_8_8 (v : Value) (w : World) : (Instr.typeAssert (.iface 122 v) 20 122 true).run Tryz.prog w = .ok (.tuple #[v, .bool true]) w := by kernel_rfl
end Go.Proofs.YthecgifgjagmaaaGreatDoor.val
