/- Values as data, and how they lie in memory. -/
import Derived.Test.YtjpondgobogkeaaGreatDoorKit
import Derived.ChangeArms
import Derived.RangeFuncOwn
namespace Go.Proofs.YtjpondgobogkeaaGreatDoor.val
open Go.ChangeShapes Go.WideShapes Go.ChangeAt Go.RowKit kit
set_option linter.unusedVariables false
set_option linter.unusedSimpArgs false
/-- A value, as data. -/
inductive V where
  | mk (kind : Int) (b : Bool) (n : Int) (t x : ByteArray) (l : List V)
def In64 (n : Int) : Prop := -9223372036854775808 ≤ n ∧ n ≤ 9223372036854775807
/-- Six cells in a row. -/
structure Row6 (w : World) (b o : Nat) (k : Int) (bo : Bool) (n : Int) (t x : ByteArray) (s : Value) : Prop where
  lt : b < w.heap.size
  c0 : w.cell? ⟨b, o, none⟩ = some (.int .i64 k)
  c1 : w.cell? ⟨b, o + 1, none⟩ = some (.bool bo)
  c2 : w.cell? ⟨b, o + 2, none⟩ = some (.int .i64 n)
  c3 : w.cell? ⟨b, o + 3, none⟩ = some (.string t)
  c4 : w.cell? ⟨b, o + 4, none⟩ = some (.string x)
  c5 : w.cell? ⟨b, o + 5, none⟩ = some s
theorem Row6.below {w w' : World} {b o : Nat} {k : Int} {bo : Bool} {n : Int} {t x : ByteArray} {s : Value} (h : Row6 w b o k bo n t x s) (hb : Below w.heap.size w w') : Row6 w' b o k bo n t x s :=
  ⟨Nat.lt_of_lt_of_le h.lt hb.size, (hb.cell (p := ⟨b, o, none⟩) h.lt).trans h.c0, (hb.cell (p := ⟨b, o + 1, none⟩) h.lt).trans h.c1, (hb.cell (p := ⟨b, o + 2, none⟩) h.lt).trans h.c2,
    (hb.cell (p := ⟨b, o + 3, none⟩) h.lt).trans h.c3, (hb.cell (p := ⟨b, o + 4, none⟩) h.lt).trans h.c4, (hb.cell (p := ⟨b, o + 5, none⟩) h.lt).trans h.c5⟩
/-- The six parts of a value, its list by what lies in memory. -/
def agg6 (k : Int) (b : Bool) (n : Int) (t x : ByteArray) (s : Value) : Value := .agg #[.int .i64 k, .bool b, .int .i64 n, .string t, .string x, s]
mutual
/-- A slice that holds values, each text and list of at most N. -/
inductive LA (w : World) (N : Nat) : Value → List V → Prop
  | mk (ao : Option Addr) (cap : Nat) (l : List V) (hl : l.length ≤ N) (h : ∀ j (hj : j < l.length), EA w N ao (6 * j) l[j]) : LA w N (.slice ao l.length cap) l
/-- An element of it: six cells from so far on. -/
inductive EA (w : World) (N : Nat) : Option Addr → Nat → V → Prop
  | mk (b off o : Nat) (k : Int) (bo : Bool) (n : Int) (t x : ByteArray) (l : List V) (s : Value) (hr : Row6 w b (off + o) k bo n t x s) (hk : In64 k) (hn : In64 n) (ht : t.size ≤ N) (hx : x.size ≤ N) (hs : LA w N s l) : EA w N (some ⟨b, off, none⟩) o (.mk k bo n t x l)
end
/-- A value in hand. -/
structure VA (w : World) (N : Nat) (a : Value) (k : Int) (b : Bool) (n : Int) (t x : ByteArray) (l : List V) : Prop where
  ex : ∃ s, a = agg6 k b n t x s ∧ LA w N s l
  hk : In64 k
  hn : In64 n
  ht : t.size ≤ N
  hx : x.size ≤ N
mutual
theorem LA.stay {w w' : World} {N : Nat} (hb : Below w.heap.size w w') : ∀ {s : Value} {l : List V}, LA w N s l → LA w' N s l
  | _, _, .mk ao cap l hl h => .mk ao cap l hl (fun j hj => EA.stay hb (h j hj))
theorem EA.stay {w w' : World} {N : Nat} (hb : Below w.heap.size w w') : ∀ {ao : Option Addr} {o : Nat} {v : V}, EA w N ao o v → EA w' N ao o v
  | _, _, _, .mk b off o k bo n t x l s hr hk hn ht hx hs => .mk b off o k bo n t x l s (hr.below hb) hk hn ht hx (LA.stay hb hs)
end
theorem VA.below {w w' : World} {N : Nat} {a : Value} {k : Int} {b : Bool} {n : Int} {t x : ByteArray} {l : List V} (h : VA w N a k b n t x l) (hb : Below w.heap.size w w') : VA w' N a k b n t x l := by
  obtain ⟨s, ha, hs⟩ := h.ex
  exact ⟨⟨s, ha, hs.stay hb⟩, h.hk, h.hn, h.ht, h.hx⟩
/-! ### Out of a reading -/
theorem bulk_one {H : Type} (d : DataW H) : 1 ≤ Rows.uptoBulk d := by
  cases d with
  | lit l => cases l <;> simp [Rows.uptoBulk]
  | _ => simp [Rows.uptoBulk]
theorem bulk_mem {H : Type} (ds : List (DataW H)) (d : DataW H) (h : d ∈ ds) : Rows.uptoBulk d ≤ Rows.uptoBulkAll ds := by
  induction ds with
  | nil => cases h
  | cons e r ih =>
    rw [Rows.uptoBulkAll]
    rcases List.mem_cons.1 h with rfl | h
    · omega
    · have := ih h; omega
theorem bulk_len {H : Type} (ds : List (DataW H)) : ds.length ≤ Rows.uptoBulkAll ds := by
  induction ds with
  | nil => simp
  | cons e r ih =>
    rw [Rows.uptoBulkAll, List.length_cons]
    have := bulk_one e
    omega
/-- The bound: as much as may be, or what the reading holds. -/
def Bd {H : Type} (N : Nat) (d : DataW H) : Prop := N = maxLen ∨ Rows.uptoBulk d ≤ N
theorem Bd.agg {H : Type} {N : Nat} {ds : List (DataW H)} {d : DataW H} (h : Bd N (.agg ds)) (hd : d ∈ ds) : Bd N d := by
  rcases h with h | h
  · exact .inl h
  · rw [Rows.uptoBulk] at h
    have := bulk_mem ds d hd
    exact .inr (by omega)
theorem Bd.elem {H : Type} {N : Nat} {es rs : List (DataW H)} {d : DataW H} (h : Bd N (.slice es rs)) (hd : d ∈ es) : Bd N d := by
  rcases h with h | h
  · exact .inl h
  · rw [Rows.uptoBulk] at h
    have := bulk_mem es d hd
    exact .inr (by omega)
theorem Bd.len {H : Type} {N : Nat} {es rs : List (DataW H)} (h : Bd N (.slice es rs)) (hm : es.length ≤ maxLen) : es.length ≤ N := by
  rcases h with h | h
  · omega
  · rw [Rows.uptoBulk] at h
    have := bulk_len es
    omega
theorem Bd.text {H : Type} {N : Nat} {s : ByteArray} (h : Bd (H := H) N (.lit (.string s.data.toList))) (hm : s.size ≤ maxLen) : s.size ≤ N := by
  rcases h with h | h
  · omega
  · rw [Rows.uptoBulk] at h
    have : s.data.toList.length = s.size := by simp
    omega
theorem wf64 {n : Int} (h : (Lit.int .i64 n).wf = true) : In64 n := by
  simp only [Lit.wf, IntKind.min, IntKind.max, IntKind.signed, IntKind.bits, Bool.and_eq_true, decide_eq_true_eq, if_true] at h
  exact ⟨by have := h.1; omega, by have := h.2; omega⟩
section
variable {H : Type} {enc : TypeId × Value → H} {W : World} {N : Nat}
set_option maxRecDepth 100000 in
/-- Six cells that are read as a value, where what is read as a list of fewer steps is one. -/
theorem ea_of_trod {fuel : Nat} {cs : List Value} {y : DataW H × List MemPlace} {b off o : Nat}
    (ih : ∀ m, m < fuel → ∀ {cs x}, DataW.trod enc Tryz.prog W 0 (fun _ => true) true m 36 cs = some x → Bd N x.1 → ∃ s l, cs = [s] ∧ LA W N s l)
    (h : DataW.trod enc Tryz.prog W 0 (fun _ => true) true fuel 38 cs = some y) (hB : Bd N y.1) (hc : ∀ i, i < 6 → W.cell? ⟨b, off + o + i, none⟩ = cs[i]?) : ∃ v, EA W N (some ⟨b, off, none⟩) o v := by
  obtain ⟨xs, n', rfl, rfl, hcl, hxl, hf⟩ := DataW.trod_struct Tryz.underlying38 h
  have hC : Tryz.prog.cellsOf 38 = 6 := by kernel_rfl
  have hC1 : Tryz.prog.cellsOf 3 = 1 := by kernel_rfl
  have hC2 : Tryz.prog.cellsOf 4 = 1 := by kernel_rfl
  have hC3 : Tryz.prog.cellsOf 2 = 1 := by kernel_rfl
  have hC4 : Tryz.prog.cellsOf 9 = 1 := by kernel_rfl
  have hC5 : Tryz.prog.cellsOf 36 = 1 := by kernel_rfl
  rw [hC] at hcl
  match cs, hcl with
  | [c0, c1, c2, c3, c4, c5], _ =>
    match xs, hxl with
    | [y0, y1, y2, y3, y4, y5], _ =>
      have f0 := hf 0 _ rfl
      have f1 := hf 1 _ rfl
      have f2 := hf 2 _ rfl
      have f3 := hf 3 _ rfl
      have f4 := hf 4 _ rfl
      have f5 := hf 5 _ rfl
      simp [hC1, hC2, hC3, hC4, hC5] at f0 f1 f2 f3 f4 f5
      obtain ⟨k, e0, g0, w0⟩ := DataW.trod_int Tryz.underlying3 f0
      obtain ⟨bo, e1, g1⟩ := DataW.trod_bool Tryz.underlying4 f1
      obtain ⟨n, e2, g2, w2⟩ := DataW.trod_int Tryz.underlying2 f2
      obtain ⟨t, e3, g3, w3⟩ := DataW.trod_string Tryz.underlying9 f3
      obtain ⟨x, e4, g4, w4⟩ := DataW.trod_string Tryz.underlying9 f4
      obtain ⟨s, l, e5, hs⟩ := ih n' (by omega) f5 (hB.agg (by simp))
      have hb3 : Bd N y3.1 := hB.agg (by simp)
      have hb4 : Bd N y4.1 := hB.agg (by simp)
      simp at e0 e1 e2 e3 e4 e5
      subst e0 e1 e2 e3 e4 e5
      subst g3 g4
      have c0 := hc 0 (by decide)
      have c1 := hc 1 (by decide)
      have c2 := hc 2 (by decide)
      have c3 := hc 3 (by decide)
      have c4 := hc 4 (by decide)
      have c5 := hc 5 (by decide)
      have hlt : b < W.heap.size := by
        obtain ⟨ob, ho, _⟩ := cells_of_cell c0
        exact (Array.getElem?_eq_some_iff.1 ho).1
      exact ⟨.mk k bo n t x l, .mk b off o k bo n t x l _ ⟨hlt, c0, c1, c2, c3, c4, c5⟩ (wf64 w0) (wf64 w2) (hb3.text w3) (hb4.text w4) hs⟩
set_option maxRecDepth 100000 in
theorem la_of_trod : ∀ fuel {cs : List Value} {x : DataW H × List MemPlace}, DataW.trod enc Tryz.prog W 0 (fun _ => true) true fuel 36 cs = some x → Bd N x.1 → ∃ s l, cs = [s] ∧ LA W N s l := by
  intro fuel
  induction fuel using Nat.strongRecOn with
  | ind fuel ih =>
    intro cs x h hB
    have hC : Tryz.prog.cellsOf 38 = 6 := by kernel_rfl
    rcases DataW.trod_slice Tryz.underlying36 h with ⟨rfl, rfl⟩ | ⟨a, len, cap, elems, rest, n, rfl, rfl, rfl, _, hl, hm, hlen, hel, _, _⟩
    · exact ⟨_, [], rfl, .mk none 0 [] (by simp) (fun j hj => by simp at hj)⟩
    · have hNl : len ≤ N := by
        have := hB.len (by rw [List.length_map]; omega)
        rw [List.length_map] at this
        omega
      obtain ⟨b, off, tg⟩ := a
      have get : ∀ j, j < len → ∃ c6 y, W.cells? 0 ((⟨b, off, tg⟩ : Addr).add (j * 6)) 6 = some c6 ∧ DataW.trod enc Tryz.prog W 0 (fun _ => true) true n 38 c6 = some y ∧ y ∈ elems := by
        intro j hj
        have h1 := hel j hj
        rw [hC, List.getElem?_eq_getElem (by omega)] at h1
        rw [Option.bind_eq_some_iff] at h1
        obtain ⟨c6, h2, h3⟩ := h1
        exact ⟨c6, _, h2, h3, List.getElem_mem (by omega)⟩
      have htg : 0 < len → tg = none := by
        intro h0
        obtain ⟨c6, y, h2, _, _⟩ := get 0 h0
        obtain ⟨_, h5, h6⟩ := World.cells?_some h2
        have h7 := h6 0 (by decide)
        rw [List.getElem?_eq_getElem (by omega)] at h7
        simpa [Addr.add] using World.cell?_spot h7
      have each : ∀ j, j < len → ∃ v, EA W N (some ⟨b, off, tg⟩) (6 * j) v := by
        intro j hj
        obtain rfl := htg (by omega)
        obtain ⟨c6, y, h2, h3, hmem⟩ := get j hj
        obtain ⟨_, h5, h6⟩ := World.cells?_some h2
        exact ea_of_trod (fun m hm => ih m (by omega)) h3 (hB.elem (List.mem_map.2 ⟨_, hmem, rfl⟩)) (fun i hi => by
          have h7 := h6 i hi
          rw [Go.WideShapes.add_plain, Go.WideShapes.add_plain] at h7
          rw [Nat.mul_comm 6 j]
          exact h7)
      have hch : ∃ l : List V, l.length = len ∧ ∀ j (hj : j < l.length), EA W N (some ⟨b, off, tg⟩) (6 * j) l[j] := by
        refine ⟨(List.finRange len).map fun j => (each j.1 j.2).choose, by simp, fun j hj => ?_⟩
        have hj' : j < len := by simpa using hj
        simp only [List.getElem_map, List.getElem_finRange]
        exact (each j hj').choose_spec
      obtain ⟨l, rfl, hel2⟩ := hch
      exact ⟨_, l, rfl, .mk _ cap l hNl hel2⟩
end
end Go.Proofs.YtjpondgobogkeaaGreatDoor.val
