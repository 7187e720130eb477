/- Digits put one after the other into a row of one's own. -/
import Derived.Test.YthecgifgjagmaaaGreatDoorRefBytes
import Derived.Deep.DeepCutAuto
namespace Go.Proofs.YthecgifgjagmaaaGreatDoor.dec
open Go.ChangeShapes Go.WideShapes Go.ChangeAt Go.RowKit kit
set_option linter.unusedVariables false
def intsV (l : List Nat) : List Value := l.map fun (d : Nat) => .int .i64 (d : Int)
theorem intsV_length (l : List Nat) : (intsV l).length = l.length := by simp [intsV]
/-- The world W1 holds what W held below B, and v is a row of its own that reads as l. -/
structure IW (W : World) (B : Nat) (v : Value) (l : List Nat) (W1 : World) : Prop where
  below : Below B W W1
  own : W1.ownsRow B 3 1 v l.length (intsV l)
theorem IW.start (W : World) (B : Nat) : IW W B (.slice none 0 0) [] W := ⟨Below.refl _ _, World.ownsRow_nil _ _ _ _⟩
theorem IW.grown {W W1 w' : World} {B : Nat} {v v' : Value} {l m : List Nat} (h : IW W B v l W1) (hB : B ≤ W1.heap.size) (o : Obj)
    (h1 : w'.ownsRow B 3 1 v' (l.length + m.length) (intsV l ++ intsV m)) (h2 : (W1.alloc o).grownBy w' v.ownBlock) : IW W B v' (l ++ m) w' := by
  refine ⟨(h.below.alloc hB _).grown h2 (by rw [World.size_alloc]; omega) (fun k hk => (h.own.lt k hk).1), ?_⟩
  rw [List.length_append]
  simpa [intsV] using h1
theorem IW.step {W W1 w' : World} {B : Nat} {v v' : Value} {l : List Nat} (h : IW W B v l W1) (hB : B ≤ W1.heap.size) (o : Obj) (x : Nat)
    (h1 : w'.ownsRow B 3 1 v' (l.length + 1) (intsV l ++ [.int .i64 (x : Int)])) (h2 : (W1.alloc o).grownBy w' v.ownBlock) : IW W B v' (l ++ [x]) w' :=
  h.grown hB o (m := [x]) h1 h2
theorem own_ints {W1 : World} {B : Nat} {v : Value} {l : List Nat} (h : W1.ownsRow B 3 1 v l.length (intsV l)) : IntsAt W1 v l := by
  rcases h.2 with ⟨hv, hn⟩ | ⟨g, cap, cur, hv, hg, hh, _⟩
  · exact .inl ⟨hv, List.eq_nil_of_length_eq_zero hn⟩
  · subst hv
    refine .inr ⟨g, 0, cap, rfl, (Array.getElem?_eq_some_iff.1 hh).1, fun j hj => ?_⟩
    rw [Nat.zero_add, h.cellAt j (by omega)]
    simp [intsV, List.getD_eq_getElem?_getD, List.getElem?_eq_getElem hj]
theorem IW.ints {W W1 : World} {B : Nat} {v : Value} {l : List Nat} (h : IW W B v l W1) : IntsAt W1 v l := own_ints h.own
theorem grown_set (w : World) (k i : Nat) (u : Value) : w.grownBy (w.setCell ⟨k, i, none⟩ u) (some k) :=
  ⟨rfl, rfl, rfl, by simp, fun j _ hj => heap_setCell_other w ⟨k, i, none⟩ j u (fun e => hj (by simp [e]))⟩
theorem own_set {W1 : World} {B k : Nat} {v : Value} {l : List Nat} (h : W1.ownsRow B 3 1 v l.length (intsV l)) (hk : k < B) (i : Nat) (u : Value) : (W1.setCell ⟨k, i, none⟩ u).ownsRow B 3 1 v l.length (intsV l) := by
  refine h.kept (grown_set W1 k i u) ?_
  by_cases hv : v.ownBlock = some k
  · have := (h.lt k hv).1; omega
  · exact .inr hv
/-- A slice that reads as digits, as what an append takes. -/
theorem IntsAt.news {w : World} {b off cap : Nat} {D : List Nat} (hc : ∀ j, j < D.length → w.cell? ⟨b, off + j, none⟩ = some (.int .i64 (D.getD j 0 : Nat))) :
    ∀ j u, (intsV D)[j]? = some u → w.cell? ((⟨b, off, none⟩ : Addr).add j) = some u := by
  intro j u hu
  have hj : j < D.length := by
    have := List.getElem?_eq_some_iff.1 hu
    obtain ⟨h, _⟩ := this
    simpa [intsV] using h
  have hadd : (⟨b, off, none⟩ : Addr).add j = ⟨b, off + j, none⟩ := by unfold Addr.add; split <;> simp_all
  rw [hadd, hc j hj]
  simpa [intsV, List.getD_eq_getElem?_getD, List.getElem?_eq_getElem hj] using hu
theorem BW.conv {W W1 : World} {B : Nat} {v : Value} {l : List UInt8} (h : BW W B v l W1) (hl : 0 < l.length) :
    ∃ g cap, v = .slice (some ⟨g, 0, none⟩) l.length cap ∧ (convert 39 9 (.slice (some ⟨g, 0, none⟩) l.length cap)).run Tryz.prog W1 = .ok (.string ⟨l.toArray⟩) W1 := by
  rcases h.own.2 with ⟨hv, hn⟩ | ⟨g, cap, cur, hv, hg, hh, _⟩
  · omega
  · subst hv
    exact ⟨g, cap, rfl, run_convert_bytes_back W1 39 9 5 ⟨g, 0, none⟩ cap l Tryz.underlying39 Tryz.underlying5 Tryz.underlying9 h.cells⟩
theorem news_one (w : World) (x : Value) (t : TypeId) : ∀ j u, [x][j]? = some u → (w.alloc (.cells #[x] t)).cell? ((⟨w.heap.size, 0, none⟩ : Addr).add j) = some u := by
  intro j u hu
  match j, hu with
  | 0, hu =>
    have hadd : (⟨w.heap.size, 0, none⟩ : Addr).add 0 = ⟨w.heap.size, 0, none⟩ := rfl
    rw [hadd, World.cell?_alloc_new]
    simpa using hu
  | j + 1, hu => simp at hu
theorem news_two (w : World) (x : Value) (t : TypeId) : ∀ j u, [x][j]? = some u → (w.alloc (.cells #[x] t)).cell? ⟨w.heap.size, j, none⟩ = some u := by
  intro j u hu
  match j, hu with
  | 0, hu =>
    rw [World.cell?_alloc_new]
    simpa using hu
  | j + 1, hu => simp at hu
end Go.Proofs.YthecgifgjagmaaaGreatDoor.dec
