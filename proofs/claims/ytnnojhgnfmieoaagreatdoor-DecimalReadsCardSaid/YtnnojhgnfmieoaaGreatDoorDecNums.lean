/- A law's argument on decimals, opened: a list of texts and a list of whole numbers. -/
import Derived.Test.YtnnojhgnfmieoaaGreatDoorDecVB
import Derived.Test.YtnnojhgnfmieoaaGreatDoorDecTexts
namespace Go.Proofs.YtnnojhgnfmieoaaGreatDoor.dec
open Go.ChangeShapes Go.WideShapes Go.ChangeAt Go.RowKit kit
set_option linter.unusedVariables false
/-- A slice of texts: where they lie. -/
def TxtAt (W : World) (ao : Option Addr) (ss : List ByteArray) : Prop := ∀ j, j < ss.length → ∃ b off, ao = some ⟨b, off, none⟩ ∧ b < W.heap.size ∧ W.cell? ⟨b, off + j, none⟩ = some (.string (ss.getD j ByteArray.empty))
/-- A slice of whole numbers: where they lie. -/
def NumAt (W : World) (bo : Option Addr) (zs : List Int) : Prop := ∀ j, j < zs.length → ∃ b off, bo = some ⟨b, off, none⟩ ∧ b < W.heap.size ∧ W.cell? ⟨b, off + j, none⟩ = some (.int .i64 (zs.getD j 0)) ∧ -9223372036854775808 ≤ zs.getD j 0 ∧ zs.getD j 0 ≤ 9223372036854775807
/-- A list of just that length. -/
theorem list_len {α : Type} (e : α) (P : Nat → α → Prop) (len : Nat) (ss : List α) (h : ∀ j, j < len → P j (ss.getD j e)) : ∃ tt : List α, tt.length = len ∧ ∀ j, j < tt.length → P j (tt.getD j e) := by
  refine ⟨(List.range len).map fun j => ss.getD j e, by simp, fun j hj => ?_⟩
  have hj' : j < len := by simpa using hj
  have e : ((List.range len).map fun j => ss.getD j e).getD j e = ss.getD j e := by
    rw [List.getD_eq_getElem?_getD, List.getElem?_map, List.getElem?_range hj']
    rfl
  rw [e]
  exact h j hj'
set_option maxRecDepth 100000 in
theorem open_nums {H : Type} {enc : TypeId × Value → H} {W : World} {base : Nat} {v : Value} {d : DataW H} {p : List MemPlace}
    (hv : Value.okWide Tryz.prog W .any base 25 v) (h : DataW.Trod enc Tryz.prog W 0 (fun _ => true) true 25 v d p) (hlt : ∀ x ∈ p, x.block < W.heap.size) :
    ∃ sL bo cap zs, v = .agg #[sL, .slice bo (zs : List Int).length cap] ∧ zs.length ≤ 9223372036854775807 ∧ NumAt W bo zs := by
  obtain ⟨cs, rfl, hsz⟩ := okWide_struct Tryz.underlying25 hv
  have hC : Tryz.prog.cellsOf 25 = 2 := by kernel_rfl
  have hC2 : Tryz.prog.cellsOf 23 = 1 := by kernel_rfl
  have hC3 : Tryz.prog.cellsOf 2 = 1 := by kernel_rfl
  obtain ⟨sL, c, rfl⟩ : ∃ sL c, cs = #[sL, c] := by
    rw [hC] at hsz
    obtain ⟨l⟩ := cs
    match l, hsz with
    | [s, c], _ => exact ⟨s, c, rfl⟩
  obtain ⟨fuel, hf⟩ := h
  obtain ⟨y0, y1, n, hx, _, _, h1⟩ := trod_struct2 Tryz.underlying25 hf
  simp only [Prod.mk.injEq] at hx
  have h1 : DataW.trod enc Tryz.prog W 0 (fun _ => true) true n 23 [c] = some y1 := by simpa [Value.cells, hC2] using h1
  rcases open_ints Tryz.underlying23 Tryz.underlying2 hC3 h1 with ⟨hcs, _⟩ | ⟨a, len, cap, zs, hcs, _, hl, hm, hz, hy, hcell, hwf⟩
  · simp at hcs; subst hcs; exact ⟨sL, none, 0, [], rfl, by simp, fun j hj => by simp at hj⟩
  · simp at hcs hz; subst hcs
    unfold maxLen at hm
    by_cases h0 : len = 0
    · subst h0; exact ⟨sL, _, cap, [], rfl, by simp, fun j hj => by simp at hj⟩
    · obtain ⟨b, off, rfl, hc⟩ := ints_at hcell (by omega)
      have hb : b < W.heap.size := by
        have := hlt (.cell b off) (by rw [hx.2, hy]; simp [MemPlace.row]; omega)
        exact this
      obtain ⟨tt, htt, ht⟩ := list_len (0 : Int) (fun j z => W.cell? ⟨b, off + j, none⟩ = some (.int .i64 z) ∧ -9223372036854775808 ≤ z ∧ z ≤ 9223372036854775807) len zs (fun j hj => by
        refine ⟨hc j (by omega), ?_⟩
        have hw := hwf (zs.getD j 0) (by rw [List.getD_eq_getElem?_getD, List.getElem?_eq_getElem (by omega)]; exact List.getElem_mem (by omega))
        simp only [Lit.wf, IntKind.min, IntKind.max, IntKind.signed, IntKind.bits, Bool.and_eq_true, decide_eq_true_eq, if_true] at hw
        exact ⟨by have := hw.1; omega, by have := hw.2; omega⟩)
      subst htt
      exact ⟨sL, some ⟨b, off, none⟩, cap, tt, rfl, by omega, fun j hj => ⟨b, off, rfl, hb, ht j hj⟩⟩
set_option maxRecDepth 100000 in
/-- Both fields. -/
theorem open_both {H : Type} {enc : TypeId × Value → H} {W : World} {base : Nat} {v : Value} {d : DataW H} {p : List MemPlace}
    (hv : Value.okWide Tryz.prog W .any base 25 v) (h : DataW.Trod enc Tryz.prog W 0 (fun _ => true) true 25 v d p) (hlt : ∀ x ∈ p, x.block < W.heap.size) :
    ∃ ao cap ss bo cap2 zs, v = .agg #[.slice ao (ss : List ByteArray).length cap, .slice bo (zs : List Int).length cap2] ∧ ss.length ≤ 9223372036854775807 ∧ zs.length ≤ 9223372036854775807 ∧ TxtAt W ao ss ∧ NumAt W bo zs := by
  obtain ⟨sL, bo, cap2, zs, rfl, hz, hn⟩ := open_nums hv h hlt
  obtain ⟨sN, ⟨ao, cap, he⟩ | ⟨b, off, len, cap, ss, he, hlen, hb, hc⟩⟩ := open_texts hv h hlt
  · simp at he
    obtain ⟨rfl, _⟩ := he
    exact ⟨ao, cap, [], bo, cap2, zs, rfl, by simp, hz, fun j hj => by simp at hj, hn⟩
  · simp at he
    obtain ⟨rfl, _⟩ := he
    obtain ⟨tt, rfl, ht⟩ := list_len ByteArray.empty (fun j s => W.cell? ⟨b, off + j, none⟩ = some (.string s)) len ss hc
    exact ⟨some ⟨b, off, none⟩, cap, tt, bo, cap2, zs, rfl, hlen, hz, fun j hj => ⟨b, off, rfl, hb, ht j hj⟩, hn⟩
end Go.Proofs.YtnnojhgnfmieoaaGreatDoor.dec
