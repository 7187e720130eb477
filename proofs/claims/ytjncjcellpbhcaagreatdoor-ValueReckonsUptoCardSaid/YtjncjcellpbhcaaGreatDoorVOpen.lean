/- The argument of the laws on values opened: values, a language. -/
import Derived.Test.YtjncjcellpbhcaaGreatDoorVPlain
import Derived.Test.YtjncjcellpbhcaaGreatDoorDecFrame
namespace Go.Proofs.YtjncjcellpbhcaaGreatDoor.val
open Go.ChangeShapes Go.WideShapes Go.ChangeAt Go.RowKit kit dec
set_option linter.unusedVariables false
set_option maxRecDepth 100000 in
theorem open_values2 {H : Type} {enc : TypeId × Value → H} {W : World} {base : Nat} {v : Value} {d : DataW H} {p : List MemPlace}
    (hv : Value.okWide Tryz.prog W .any base 35 v) (h : DataW.Trod enc Tryz.prog W 0 (fun _ => true) true 35 v d p) :
    ∃ s l lang, v = .agg #[s, .int .i64 lang] ∧ LA W maxLen s l ∧ wtL l ≤ Rows.uptoBulk d := by
  obtain ⟨cs, rfl, hsz⟩ := okWide_struct Tryz.underlying35 hv
  have hC : Tryz.prog.cellsOf 35 = 2 := by kernel_rfl
  have hC2 : Tryz.prog.cellsOf 24 = 1 := by kernel_rfl
  have hC1 : Tryz.prog.cellsOf 3 = 1 := by kernel_rfl
  obtain ⟨c, sN, rfl⟩ : ∃ c sN, cs = #[c, sN] := by
    rw [hC] at hsz
    obtain ⟨l⟩ := cs
    match l, hsz with
    | [c, s], _ => exact ⟨c, s, rfl⟩
  obtain ⟨fuel, hf⟩ := h
  obtain ⟨y0, y1, n, hx, _, h0, h1⟩ := trod_struct2 Tryz.underlying35 hf
  have h0 : DataW.trod enc Tryz.prog W 0 (fun _ => true) true n 24 [c] = some y0 := by simpa [Value.cells, hC2] using h0
  have h1 : DataW.trod enc Tryz.prog W 0 (fun _ => true) true n 3 [sN] = some y1 := by simpa [Value.cells, hC2, hC1] using h1
  obtain ⟨s, l, hs, hl, hw⟩ := la_of_trodW (N := maxLen) n h0 (.inl rfl)
  obtain ⟨k, e1, g1, w1⟩ := DataW.trod_int Tryz.underlying3 h1
  simp at hs e1
  subst hs e1
  refine ⟨_, l, k, rfl, hl, ?_⟩
  have hd : d = .agg [y0.1, y1.1] := by
    first | (have := congrArg Prod.fst hx; simpa using this) | (cases hx; rfl)
  rw [hd]
  simp only [Rows.uptoBulk, Rows.uptoBulkAll]
  omega
set_option maxRecDepth 100000 in
theorem open_values3 {H : Type} {enc : TypeId × Value → H} {W : World} {base : Nat} {v : Value} {d : DataW H} {p : List MemPlace}
    (hv : Value.okWide Tryz.prog W .any base 35 v) (h : DataW.Trod enc Tryz.prog W 0 (fun _ => true) true 35 v d p) (hb : Rows.uptoBulk d ≤ 1048576) :
    ∃ s l lang, v = .agg #[s, .int .i64 lang] ∧ LA W 1048576 s l ∧ wtL l ≤ Rows.uptoBulk d := by
  obtain ⟨cs, rfl, hsz⟩ := okWide_struct Tryz.underlying35 hv
  have hC : Tryz.prog.cellsOf 35 = 2 := by kernel_rfl
  have hC2 : Tryz.prog.cellsOf 24 = 1 := by kernel_rfl
  have hC1 : Tryz.prog.cellsOf 3 = 1 := by kernel_rfl
  obtain ⟨c, sN, rfl⟩ : ∃ c sN, cs = #[c, sN] := by
    rw [hC] at hsz
    obtain ⟨l⟩ := cs
    match l, hsz with
    | [c, s], _ => exact ⟨c, s, rfl⟩
  obtain ⟨fuel, hf⟩ := h
  obtain ⟨y0, y1, n, hx, _, h0, h1⟩ := trod_struct2 Tryz.underlying35 hf
  have h0 : DataW.trod enc Tryz.prog W 0 (fun _ => true) true n 24 [c] = some y0 := by simpa [Value.cells, hC2] using h0
  have h1 : DataW.trod enc Tryz.prog W 0 (fun _ => true) true n 3 [sN] = some y1 := by simpa [Value.cells, hC2, hC1] using h1
  have hd : d = .agg [y0.1, y1.1] := by
    first | (have := congrArg Prod.fst hx; simpa using this) | (cases hx; rfl)
  have hb0 : Rows.uptoBulk y0.1 ≤ 1048576 := by
    rw [hd] at hb
    simp only [Rows.uptoBulk, Rows.uptoBulkAll] at hb
    omega
  obtain ⟨s, l, hs, hl, hw⟩ := la_of_trodW (N := 1048576) n h0 (.inr hb0)
  obtain ⟨k, e1, g1, w1⟩ := DataW.trod_int Tryz.underlying3 h1
  simp at hs e1
  subst hs e1
  refine ⟨_, l, k, rfl, hl, ?_⟩
  rw [hd]
  simp only [Rows.uptoBulk, Rows.uptoBulkAll]
  omega
end Go.Proofs.YtjncjcellpbhcaaGreatDoor.val
