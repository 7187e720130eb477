/- A law's argument on decimals, opened: a list of texts (and one of numbers that is not looked at). -/
import Derived.Test.YtnnojhgnfmieoaaGreatDoorDecFrame
import Derived.Test.YtnnojhgnfmieoaaGreatDoorFrame
namespace Go.Proofs.YtnnojhgnfmieoaaGreatDoor.dec
open Go.ChangeShapes Go.WideShapes Go.ChangeAt Go.RowKit kit
set_option linter.unusedVariables false
set_option maxRecDepth 100000 in
/-- A struct of two fields, a slice of texts and a slice of numbers: the value written out. -/
theorem open_texts {H : Type} {enc : TypeId × Value → H} {W : World} {base : Nat} {v : Value} {d : DataW H} {p : List MemPlace}
    (hv : Value.okWide Tryz.prog W .any base 25 v) (h : DataW.Trod enc Tryz.prog W 0 (fun _ => true) true 25 v d p) (hlt : ∀ x ∈ p, x.block < W.heap.size) :
    ∃ sN, (∃ ao cap, v = .agg #[.slice ao 0 cap, sN]) ∨ ∃ (b off len cap : Nat) (ss : List ByteArray), v = .agg #[.slice (some ⟨b, off, none⟩) len cap, sN] ∧ len ≤ 9223372036854775807 ∧ b < W.heap.size ∧
      ∀ j, j < len → W.cell? ⟨b, off + j, none⟩ = some (.string (ss.getD j ByteArray.empty)) := by
  obtain ⟨cs, rfl, hsz⟩ := okWide_struct Tryz.underlying25 hv
  have hC : Tryz.prog.cellsOf 25 = 2 := by kernel_rfl
  have hC2 : Tryz.prog.cellsOf 22 = 1 := by kernel_rfl
  have hC3 : Tryz.prog.cellsOf 9 = 1 := by kernel_rfl
  obtain ⟨c, sN, rfl⟩ : ∃ c sN, cs = #[c, sN] := by
    rw [hC] at hsz
    obtain ⟨l⟩ := cs
    match l, hsz with
    | [c, s], _ => exact ⟨c, s, rfl⟩
  obtain ⟨fuel, hf⟩ := h
  obtain ⟨y0, y1, n, hx, _, h0, _⟩ := trod_struct2 Tryz.underlying25 hf
  simp only [Prod.mk.injEq] at hx
  have h0 : DataW.trod enc Tryz.prog W 0 (fun _ => true) true n 22 [c] = some y0 := by simpa [Value.cells, hC2] using h0
  refine ⟨sN, ?_⟩
  rcases open_strings Tryz.underlying22 Tryz.underlying9 hC3 h0 with ⟨hcs, _⟩ | ⟨a, len, cap, ss, hcs, _, hl, hm, hz, hy, hcell, _⟩
  · simp at hcs; subst hcs; exact .inl ⟨_, _, rfl⟩
  · simp at hcs hz; subst hcs
    unfold maxLen at hm
    by_cases h0 : len = 0
    · subst h0; exact .inl ⟨_, _, rfl⟩
    · obtain ⟨b, off, tg⟩ := a
      have htg : tg = none := by simpa [Addr.add] using World.cell?_spot (hcell 0 (by omega))
      subst htg
      have hb : b < W.heap.size := by
        have := hlt (.cell b off) (by rw [hx.2, hy]; simp [MemPlace.row]; omega)
        exact this
      exact .inr ⟨b, off, len, cap, ss, rfl, by omega, hb, fun j hj => by
        have := hcell j (by omega)
        rwa [Go.WideShapes.add_plain] at this⟩
end Go.Proofs.YtnnojhgnfmieoaaGreatDoor.dec
