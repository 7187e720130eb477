/- The argument of the laws on hypergraphs opened: edges, a width, a seed, bags. -/
import Derived.Test.YtnocncmjdhlmkaaHChk3
import Derived.Lib.SmallJoins
namespace Go.Proofs.Ytnocncmjdhlmkaa.hyp
open Go.ChangeShapes Go.WideShapes Go.ChangeAt Go.RowKit kit
set_option linter.unusedVariables false
set_option linter.unusedSimpArgs false
set_option maxRecDepth 100000
theorem choose_list {α : Type} {n : Nat} {P : Nat → α → Prop} (h : ∀ j, j < n → ∃ a, P j a) : ∃ l : List α, l.length = n ∧ ∀ j (hj : j < l.length), P j l[j] := by
  refine ⟨(List.finRange n).map fun j => (h j.1 j.2).choose, by simp, fun j hj => ?_⟩
  have hj' : j < n := by simpa using hj
  simp only [List.getElem_map, List.getElem_finRange]
  exact (h j hj').choose_spec
theorem bulk_pos {H : Type} : ∀ d : DataW H, 1 ≤ Rows.uptoBulk d
  | .lit l => by cases l <;> simp [Rows.uptoBulk]
  | .nil => by simp [Rows.uptoBulk]
  | .ptr d => by simp [Rows.uptoBulk]
  | .slice e s => by simp [Rows.uptoBulk]
  | .agg p => by simp [Rows.uptoBulk]
  | .iface _ d => by simp [Rows.uptoBulk]
  | .map e => by simp [Rows.uptoBulk]
  | .held _ => by simp [Rows.uptoBulk]
theorem bulk_mem {H : Type} : ∀ (ds : List (DataW H)) (d : DataW H), d ∈ ds → Rows.uptoBulk d ≤ Rows.uptoBulkAll ds
  | [], d, h => by cases h
  | e :: ds, d, h => by
    rw [Rows.uptoBulkAll]
    rcases List.mem_cons.1 h with rfl | h
    · omega
    · have := bulk_mem ds d h; omega
theorem bulk_len {H : Type} : ∀ ds : List (DataW H), ds.length ≤ Rows.uptoBulkAll ds
  | [] => by simp [Rows.uptoBulkAll]
  | e :: ds => by
    rw [Rows.uptoBulkAll, List.length_cons]
    have := bulk_len ds
    have := bulk_pos e
    omega
section
variable {H : Type} {enc : TypeId × Value → H} {W : World}
/-- A slice that is read. -/
theorem open_slice {t e : TypeId} {m : Nat} (ht : Try.prog.underlying t = some (.slice e)) (hC : Try.prog.cellsOf e = m) (hm : 0 < m) {fuel : Nat} {cs : List Value} {x : DataW H × List MemPlace} (h : DataW.trod enc Try.prog W 0 (fun _ => true) true fuel t cs = some x) :
    ∃ ao len cap, cs = [.slice ao len cap] ∧ len ≤ cap ∧ len ≤ Rows.uptoBulk x.1 ∧ ∀ j, j < len → ∃ b off cc y n, ao = some ⟨b, off, none⟩ ∧ b < W.heap.size ∧ DataW.trod enc Try.prog W 0 (fun _ => true) true n e cc = some y ∧ Rows.uptoBulk y.1 ≤ Rows.uptoBulk x.1 ∧ cc.length = m ∧ ∀ i, i < m → W.cell? ⟨b, off + j * m + i, none⟩ = cc[i]? := by
  rcases DataW.trod_slice ht h with ⟨rfl, rfl⟩ | ⟨a, len, cap, elems, rest, n, rfl, rfl, rfl, _, hl, hmx, hlen, hel, _, _⟩
  · exact ⟨none, 0, 0, rfl, Nat.le_refl _, Nat.zero_le _, fun j hj => by omega⟩
  · obtain ⟨b, off, tg⟩ := a
    have hel0 : elems.length ≤ Rows.uptoBulkAll (elems.map (·.1)) := by have := bulk_len (elems.map (·.1)); simpa using this
    refine ⟨_, len, cap, rfl, hl, by simp only [Rows.uptoBulk]; omega, fun j hj => ?_⟩
    have h1 := hel j hj
    rw [hC, List.getElem?_eq_getElem (by omega), Option.bind_eq_some_iff] at h1
    obtain ⟨cc, h2, h3⟩ := h1
    obtain ⟨_, h5, h6⟩ := World.cells?_some h2
    have htg : tg = none := by
      have g1 := hel 0 (by omega)
      rw [hC, List.getElem?_eq_getElem (by omega), Option.bind_eq_some_iff] at g1
      obtain ⟨cc0, g2, g3⟩ := g1
      obtain ⟨_, g5, g6⟩ := World.cells?_some g2
      have g7 := g6 0 hm
      rw [List.getElem?_eq_getElem (by omega)] at g7
      simpa [Addr.add] using World.cell?_spot g7
    subst htg
    have hcell : ∀ i, i < m → W.cell? ⟨b, off + j * m + i, none⟩ = cc[i]? := fun i hi => by
      have h8 := h6 i hi
      rw [Go.WideShapes.add_plain, Go.WideShapes.add_plain] at h8
      exact h8
    have h9 := hcell 0 hm
    rw [List.getElem?_eq_getElem (by omega)] at h9
    obtain ⟨ob, ho, _⟩ := cells_of_cell h9
    refine ⟨b, off, cc, elems[j], n, rfl, (Array.getElem?_eq_some_iff.1 ho).1, h3, ?_, by omega, hcell⟩
    have := bulk_mem (elems.map (·.1)) elems[j].1 (List.mem_map.2 ⟨_, List.getElem_mem _, rfl⟩)
    simp only [Rows.uptoBulk]
    omega
/-- A row of one-cell values. -/
theorem row_of {ao : Option Addr} {cap : Nat} {L : List Value} (hl : L.length ≤ cap) (h : ∀ j (hj : j < L.length), ∃ b off, ao = some ⟨b, off, none⟩ ∧ b < W.heap.size ∧ W.cell? ⟨b, off + j, none⟩ = some L[j]) : RowA W W.heap.size (.slice ao L.length cap) L := by
  by_cases h0 : L = []
  · subst h0
    exact .inl ⟨ao, cap, rfl, rfl⟩
  · have hpos := List.length_pos_iff.2 h0
    obtain ⟨b, off, rfl, hb, _⟩ := h 0 hpos
    refine .inr ⟨b, off, cap, rfl, hpos, hl, hb, fun j hj => ?_⟩
    obtain ⟨b', off', e, _, hc⟩ := h j hj
    cases e
    exact hc
theorem texts_of {fuel : Nat} {cs : List Value} {x : DataW H × List MemPlace} (h : DataW.trod enc Try.prog W 0 (fun _ => true) true fuel 35 cs = some x) : ∃ v l, cs = [v] ∧ TextsA W W.heap.size v l ∧ l.length ≤ Rows.uptoBulk x.1 := by
  obtain ⟨ao, len, cap, rfl, hl, hb, hel⟩ := open_slice Try.underlying35 (e := 9) (m := 1) (by kernel_rfl) (by decide) h
  obtain ⟨l, rfl, hl2⟩ := choose_list (P := fun j (s : ByteArray) => s.size ≤ maxLen ∧ ∃ b off, ao = some ⟨b, off, none⟩ ∧ b < W.heap.size ∧ W.cell? ⟨b, off + j, none⟩ = some (.string s)) (fun j hj => by
    obtain ⟨b, off, cc, y, n, h1, h2, h3, -, -, h4⟩ := hel j hj
    obtain ⟨s, rfl, -, hs⟩ := DataW.trod_string Try.underlying9 h3
    have h5 := h4 0 (by decide)
    rw [Nat.mul_one, Nat.add_zero] at h5
    exact ⟨s, hs, b, off, h1, h2, h5⟩)
  refine ⟨_, l, rfl, ⟨?_, fun s hs => ?_⟩, hb⟩
  · have := row_of (W := W) (ao := ao) (cap := cap) (L := textsV l) (by rw [textsV_length]; exact hl) (fun j hj => by
      obtain ⟨-, b, off, h1, h2, h3⟩ := hl2 j (by simpa using hj)
      exact ⟨b, off, h1, h2, by rw [h3]; simp [textsV]⟩)
    rw [textsV_length] at this
    exact this
  · obtain ⟨j, hj, rfl⟩ := List.getElem_of_mem hs
    exact (hl2 j hj).1
theorem nums_of {fuel : Nat} {cs : List Value} {x : DataW H × List MemPlace} (h : DataW.trod enc Try.prog W 0 (fun _ => true) true fuel 43 cs = some x) : ∃ v l, cs = [v] ∧ RowA W W.heap.size v (numsV l) ∧ l.length ≤ Rows.uptoBulk x.1 := by
  obtain ⟨ao, len, cap, rfl, hl, hb, hel⟩ := open_slice Try.underlying43 (e := 3) (m := 1) (by kernel_rfl) (by decide) h
  obtain ⟨l, rfl, hl2⟩ := choose_list (P := fun j (k : Int) => ∃ b off, ao = some ⟨b, off, none⟩ ∧ b < W.heap.size ∧ W.cell? ⟨b, off + j, none⟩ = some (.int .i64 k)) (fun j hj => by
    obtain ⟨b, off, cc, y, n, h1, h2, h3, -, -, h4⟩ := hel j hj
    obtain ⟨k, rfl, -, hs⟩ := DataW.trod_int Try.underlying3 h3
    have h5 := h4 0 (by decide)
    rw [Nat.mul_one, Nat.add_zero] at h5
    exact ⟨k, b, off, h1, h2, h5⟩)
  refine ⟨_, l, rfl, ?_, hb⟩
  have := row_of (W := W) (ao := ao) (cap := cap) (L := numsV l) (by rw [numsV_length]; exact hl) (fun j hj => by
    obtain ⟨b, off, h1, h2, h3⟩ := hl2 j (by simpa using hj)
    exact ⟨b, off, h1, h2, by rw [h3]; simp [numsV]⟩)
  rw [numsV_length] at this
  exact this
theorem edges_of {fuel : Nat} {cs : List Value} {x : DataW H × List MemPlace} (h : DataW.trod enc Try.prog W 0 (fun _ => true) true fuel 22 cs = some x) : ∃ ao E cap, cs = [.slice ao E.length cap] ∧ EdgesA W W.heap.size (.slice ao E.length cap) E ∧ E.length ≤ Rows.uptoBulk x.1 ∧ ∀ e ∈ E, e.length ≤ Rows.uptoBulk x.1 := by
  obtain ⟨ao, len, cap, rfl, hl, hb, hel⟩ := open_slice Try.underlying22 (e := 35) (m := 1) (by kernel_rfl) (by decide) h
  obtain ⟨l, rfl, hl2⟩ := choose_list (P := fun j (p : Value × List ByteArray) => TextsA W W.heap.size p.1 p.2 ∧ p.2.length ≤ Rows.uptoBulk x.1 ∧ ∃ b off, ao = some ⟨b, off, none⟩ ∧ b < W.heap.size ∧ W.cell? ⟨b, off + j, none⟩ = some p.1) (fun j hj => by
    obtain ⟨b, off, cc, y, n, h1, h2, h3, hy, -, h4⟩ := hel j hj
    obtain ⟨v, l, rfl, ht, hl⟩ := texts_of h3
    have h5 := h4 0 (by decide)
    rw [Nat.mul_one, Nat.add_zero] at h5
    exact ⟨(v, l), ht, by show l.length ≤ _; omega, b, off, h1, h2, h5⟩)
  have hE : (l.map (·.2)).length = l.length := by simp
  refine ⟨ao, l.map (·.2), cap, by rw [hE], ⟨l.map (·.1), by simp, ?_, fun j hj hj' => ?_⟩, by rw [hE]; exact hb, fun e he => ?_⟩
  · have := row_of (W := W) (ao := ao) (cap := cap) (L := l.map (·.1)) (by rw [List.length_map]; exact hl) (fun j hj => by
      obtain ⟨-, -, b, off, h1, h2, h3⟩ := hl2 j (by simpa using hj)
      exact ⟨b, off, h1, h2, by rw [h3]; simp⟩)
    rw [List.length_map] at this ⊢
    exact this
  · simp only [List.getElem_map]
    exact (hl2 j (by simpa using hj)).1
  · obtain ⟨p, hp, rfl⟩ := List.mem_map.1 he
    obtain ⟨j, hj, rfl⟩ := List.getElem_of_mem hp
    exact (hl2 j hj).2.1
theorem bags_of {fuel : Nat} {cs : List Value} {x : DataW H × List MemPlace} (h : DataW.trod enc Try.prog W 0 (fun _ => true) true fuel 23 cs = some x) : ∃ v bs, cs = [v] ∧ BagsA W W.heap.size v bs ∧ bs.length ≤ Rows.uptoBulk x.1 ∧ ∀ b ∈ bs, b.names.length ≤ Rows.uptoBulk x.1 ∧ b.edges.length ≤ Rows.uptoBulk x.1 := by
  have hC1 : Try.prog.cellsOf 35 = 1 := by kernel_rfl
  have hC2 : Try.prog.cellsOf 43 = 1 := by kernel_rfl
  have hC3 : Try.prog.cellsOf 3 = 1 := by kernel_rfl
  obtain ⟨ao, len, cap, rfl, hl, hb, hel⟩ := open_slice Try.underlying23 (e := 45) (m := 3) (by kernel_rfl) (by decide) h
  obtain ⟨bs, rfl, hbs⟩ := choose_list (P := fun j (d : BagD) => d.names.length ≤ Rows.uptoBulk x.1 ∧ d.edges.length ≤ Rows.uptoBulk x.1 ∧ ∃ b off vv ve, ao = some ⟨b, off, none⟩ ∧ b < W.heap.size ∧ W.cell? ⟨b, off + j * 3, none⟩ = some vv ∧ W.cell? ⟨b, off + j * 3 + 1, none⟩ = some ve ∧ W.cell? ⟨b, off + j * 3 + 2, none⟩ = some (.int .i64 d.parent) ∧ TextsA W W.heap.size vv d.names ∧ RowA W W.heap.size ve (numsV d.edges)) (fun j hj => by
    obtain ⟨b, off, cc, y, n, h1, h2, h3, hy, hcc, h4⟩ := hel j hj
    obtain ⟨c0, c1, c2, rfl⟩ : ∃ c0 c1 c2, cc = [c0, c1, c2] := by
      match cc, hcc with
      | [a, b, c], _ => exact ⟨a, b, c, rfl⟩
    obtain ⟨y0, y1, y2, n', hx, _, k0, k1, k2⟩ := Go.Deep.trod_struct3 Try.underlying45 h3
    have k0 : DataW.trod enc Try.prog W 0 (fun _ => true) true n' 35 [c0] = some y0 := by simpa [hC1] using k0
    have k1 : DataW.trod enc Try.prog W 0 (fun _ => true) true n' 43 [c1] = some y1 := by simpa [hC2] using k1
    have k2 : DataW.trod enc Try.prog W 0 (fun _ => true) true n' 3 [c2] = some y2 := by simpa [hC3] using k2
    obtain ⟨vv, ns, e0, t0, b0⟩ := texts_of k0
    obtain ⟨ve, es, e1, t1, b1⟩ := nums_of k1
    obtain ⟨p, e2, -, -⟩ := DataW.trod_int Try.underlying3 k2
    simp only [List.cons.injEq, and_true] at e0 e1 e2
    subst e0 e1 e2
    have hby : Rows.uptoBulk y.1 = Rows.uptoBulk y0.1 + (Rows.uptoBulk y1.1 + (Rows.uptoBulk y2.1 + 0)) + 1 := by
      rw [hx]
      simp only [Rows.uptoBulk, Rows.uptoBulkAll]
    exact ⟨⟨ns, es, p⟩, by show ns.length ≤ _; omega, by show es.length ≤ _; omega, b, off, c0, c1, h1, h2, h4 0 (by decide), h4 1 (by decide), h4 2 (by decide), t0, t1⟩)
  refine ⟨_, bs, rfl, ⟨ao, cap, rfl, fun j hj => (hbs j hj).2.2⟩, hb, fun b hb => ?_⟩
  obtain ⟨j, hj, rfl⟩ := List.getElem_of_mem hb
  exact ⟨(hbs j hj).1, (hbs j hj).2.1⟩
end
/-- The argument: what it holds. -/
structure GraphA (W : World) (v : Value) (ao : Option Addr) (cap : Nat) (E : List (List ByteArray)) (width seed : Int) (lv : Value) (bs : List BagD) : Prop where
  eq : v = .agg #[.slice ao E.length cap, .int .i64 width, .int .i64 seed, lv]
  edges : EdgesA W W.heap.size (.slice ao E.length cap) E
  few : E.length ≤ 1048576
  each : ∀ e ∈ E, e.length ≤ 1048576
  bags : BagsA W W.heap.size lv bs
  bfew : bs.length ≤ 1048576
  beach : ∀ b ∈ bs, b.names.length ≤ 1048576 ∧ b.edges.length ≤ 1048576
  wwf : (Lit.int .i64 width).wf = true
  swf : (Lit.int .i64 seed).wf = true
theorem open_graph {H : Type} {enc : TypeId × Value → H} {W : World} {base : Nat} {v : Value} {d : DataW H} {p : List MemPlace}
    (hv : Value.okWide Try.prog W .any base 25 v) (h : DataW.Trod enc Try.prog W 0 (fun _ => true) true 25 v d p) (hb : Rows.uptoBulk d ≤ 1048576) :
    ∃ ao cap E width seed lv bs, GraphA W v ao cap E width seed lv bs := by
  obtain ⟨cs, rfl, hsz⟩ := okWide_struct Try.underlying25 hv
  have hC : Try.prog.cellsOf 25 = 4 := by kernel_rfl
  have hC1 : Try.prog.cellsOf 22 = 1 := by kernel_rfl
  have hC2 : Try.prog.cellsOf 3 = 1 := by kernel_rfl
  have hC3 : Try.prog.cellsOf 23 = 1 := by kernel_rfl
  obtain ⟨c0, c1, c2, c3, rfl⟩ : ∃ c0 c1 c2 c3, cs = #[c0, c1, c2, c3] := by
    rw [hC] at hsz
    obtain ⟨l⟩ := cs
    match l, hsz with
    | [a, b, c, d], _ => exact ⟨a, b, c, d, rfl⟩
  obtain ⟨fuel, hf⟩ := h
  obtain ⟨y0, y1, y2, y3, n, hx, _, k0, k1, k2, k3⟩ := Go.Joins.trod_struct4 Try.underlying25 hf
  have k0 : DataW.trod enc Try.prog W 0 (fun _ => true) true n 22 [c0] = some y0 := by simpa [Value.cells, hC1] using k0
  have k1 : DataW.trod enc Try.prog W 0 (fun _ => true) true n 3 [c1] = some y1 := by simpa [Value.cells, hC2] using k1
  have k2 : DataW.trod enc Try.prog W 0 (fun _ => true) true n 3 [c2] = some y2 := by simpa [Value.cells, hC2] using k2
  have k3 : DataW.trod enc Try.prog W 0 (fun _ => true) true n 23 [c3] = some y3 := by simpa [Value.cells, hC3] using k3
  have hd : d = .agg [y0.1, y1.1, y2.1, y3.1] := by
    first | (have := congrArg Prod.fst hx; simpa using this) | (cases hx; rfl)
  rw [hd] at hb
  simp only [Rows.uptoBulk, Rows.uptoBulkAll] at hb
  obtain ⟨ao, E, cap, e0, t0, b0, b0'⟩ := edges_of k0
  obtain ⟨wd, e1, -, w1⟩ := DataW.trod_int Try.underlying3 k1
  obtain ⟨sd, e2, -, w2⟩ := DataW.trod_int Try.underlying3 k2
  obtain ⟨lv, bs, e3, t3, b3, b3'⟩ := bags_of k3
  simp only [List.cons.injEq, and_true] at e0 e1 e2 e3
  subst e0 e1 e2 e3
  exact ⟨ao, cap, E, wd, sd, _, bs, rfl, t0, by omega, fun e he => by have := b0' e he; omega, t3, by omega, fun b hb2 => by have := b3' b hb2; omega, w1, w2⟩
end Go.Proofs.Ytnocncmjdhlmkaa.hyp
