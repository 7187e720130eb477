/- Texts HMem, HCT, one behind the other. -/
import Derived.Test.YtidplkfhodpdhaaGreatDoorKit
import Derived.RangeFuncOwn
import Derived.Laws.AppendOwn
namespace Go.Proofs.YtidplkfhodpdhaaGreatDoor.hyp
open Go.ChangeShapes Go.WideShapes Go.ChangeAt Go.RowKit kit
set_option linter.unusedVariables false
set_option linter.unusedSimpArgs false
def RowA (w : World) (B : Nat) (v : Value) (L : List Value) : Prop :=
 (∃ ao cap, v = .slice ao 0 cap ∧ L = []) ∨ ∃ b off cap, v = .slice (some ⟨b, off, none⟩) L.length cap ∧ 0 < L.length ∧ L.length ≤ cap ∧ b < B ∧ ∀ j (h : j < L.length), w.cell? ⟨b, off + j, none⟩ = some L[j]
theorem cell_heap {w w' : World} {k i : Nat} (h : w'.heap[k]? = w.heap[k]?) : w'.cell? ⟨k, i, none⟩ = w.cell? ⟨k, i, none⟩ := by
 unfold World.cell?
 simp only [h]
def CellsStay (w w' : World) : Prop := ∀ (k : Nat) (o : Obj), w.heap[k]? = some o → o.isCells = true → w'.heap[k]? = w.heap[k]?
theorem CellsStay.cell {w w' : World} (h : CellsStay w w') {k i : Nat} {v : Value} (hc : w.cell? ⟨k, i, none⟩ = some v) : w'.cell? ⟨k, i, none⟩ = some v := by
 obtain ⟨o, ho, hi⟩ := cells_of_cell hc
 exact (cell_heap (h k o ho hi)).trans hc
theorem CellsStay.blk {w w' : World} (h : CellsStay w w') {b : Nat} {cs : Array Value} {t : TypeId} (hb : Blk w b cs t) : Blk w' b cs t := (h b _ hb rfl).trans hb
theorem CellsStay.refl (w : World) : CellsStay w w := fun _ _ _ _ => rfl
theorem CellsStay.trans {a b c : World} (h : CellsStay a b) (k : CellsStay b c) : CellsStay a c := fun i o ho hi => (k i o ((h i o ho hi).trans ho) hi).trans (h i o ho hi)
theorem stay_of_below {w w' : World} (h : Below w.heap.size w w') : CellsStay w w' := fun k o ho _ => h.block k (Array.getElem?_eq_some_iff.1 ho).1
theorem RowA.stay {w w' : World} {B : Nat} {v : Value} {L : List Value} (h : RowA w B v L) (hs : CellsStay w w') : RowA w' B v L := by
 rcases h with h | ⟨b, off, cap, hv, h0, hc, hB, hj⟩
 ·exact .inl h
 ·exact .inr ⟨b, off, cap, hv, h0, hc, hB, fun j h => hs.cell (hj j h)⟩
theorem RowA.mono {w : World} {B B' : Nat} {v : Value} {L : List Value} (h : RowA w B v L) (hB : B ≤ B') : RowA w B' v L := by
 rcases h with h | ⟨b, off, cap, hv, h0, hc, hb, hj⟩
 ·exact .inl h
 ·exact .inr ⟨b, off, cap, hv, h0, hc, by omega, hj⟩
theorem RowA.form {w : World} {B : Nat} {v : Value} {L : List Value} (h : RowA w B v L) : ∃ ao cap, v = .slice ao L.length cap ∧ True ∧ ∀ j (hj : j < L.length), ∃ b off, ao = some ⟨b, off, none⟩ ∧ b < B ∧ w.cell? ⟨b, off + j, none⟩ = some L[j] := by
 rcases h with ⟨ao, cap, rfl, rfl⟩ | ⟨b, off, cap, rfl, h0, hc, hb, hj⟩
 ·exact ⟨ao, cap, rfl, trivial, fun j hj => by simp at hj⟩
 ·refine ⟨_, cap, rfl, trivial, fun j h => ⟨b, off, rfl, hb, hj j h⟩⟩
theorem own_row {w : World} {B : Nat} {e : TypeId} {v : Value} {L : List Value} (h : w.ownsRow B e 1 v L.length L) : RowA w w.heap.size v L := by
 rcases h.2 with ⟨hv, hn⟩ | ⟨g, cap, cur, hv, hg, hh, hc, _⟩
 ·exact .inl ⟨none, 0, by rw [hv], List.eq_nil_of_length_eq_zero hn⟩
 ·by_cases h0 : L = []
  ·subst h0; exact .inl ⟨_, cap, hv, rfl⟩
  ·have hpos := List.length_pos_iff.2 h0
   subst hv
   refine .inr ⟨g, 0, cap, rfl, hpos, hc, (Array.getElem?_eq_some_iff.1 hh).1, fun j hj => ?_⟩
   rw [Nat.zero_add, h.cellAt j (by omega)]
   rw [List.getElem?_eq_getElem hj]
theorem RowA.news {w : World} {b off : Nat} {L : List Value} (hc : ∀ j (h : j < L.length), w.cell? ⟨b, off + j, none⟩ = some L[j]) : ∀ j u, L[j]? = some u → w.cell? ((⟨b, off, none⟩ : Addr).add j) = some u := by
 intro j u hu
 obtain ⟨hj, rfl⟩ := List.getElem?_eq_some_iff.1 hu
 have hadd : (⟨b, off, none⟩ : Addr).add j = ⟨b, off + j, none⟩ := by unfold Addr.add; split <;> simp_all
 rw [hadd]
 exact hc j hj
def textsV (l : List ByteArray) : List Value := l.map .string
def masksV (l : List Nat) : List Value := l.map fun (s : Nat) => .int .u16 (s : Int)
def numsV (l : List Int) : List Value := l.map (.int .i64)
@[simp] theorem textsV_length (l : List ByteArray) : (textsV l).length = l.length := by simp [textsV]
@[simp] theorem masksV_length (l : List Nat) : (masksV l).length = l.length := by simp [masksV]
@[simp] theorem numsV_length (l : List Int) : (numsV l).length = l.length := by simp [numsV]
structure TextsA (w : World) (B : Nat) (v : Value) (l : List ByteArray) : Prop where
 row : RowA w B v (textsV l)
 size : ∀ s ∈ l, s.size ≤ maxLen
theorem TextsA.stay {w w' : World} {B : Nat} {v : Value} {l : List ByteArray} (h : TextsA w B v l) (hs : CellsStay w w') : TextsA w' B v l := ⟨h.row.stay hs, h.size⟩
theorem TextsA.mono {w : World} {B B' : Nat} {v : Value} {l : List ByteArray} (h : TextsA w B v l) (hB : B ≤ B') : TextsA w B' v l := ⟨h.row.mono hB, h.size⟩
theorem TextsA.form {w : World} {B : Nat} {v : Value} {l : List ByteArray} (h : TextsA w B v l) : ∃ ao cap, v = .slice ao l.length cap ∧ ∀ j (hj : j < l.length), ∃ b off, ao = some ⟨b, off, none⟩ ∧ b < B ∧ w.cell? ⟨b, off + j, none⟩ = some (.string l[j]) := by
 obtain ⟨ao, cap, hv, -, hj⟩ := h.row.form
 refine ⟨ao, cap, by rw [hv, textsV_length], fun j h => ?_⟩
 obtain ⟨b, off, h1, h2, h3⟩ := hj j (by simpa using h)
 exact ⟨b, off, h1, h2, by rw [h3]; simp [textsV]⟩
def EdgesA (w : World) (B : Nat) (v : Value) (E : List (List ByteArray)) : Prop :=
 ∃ vs : List Value, vs.length = E.length ∧ RowA w B v vs ∧ ∀ j (h : j < E.length) (h' : j < vs.length), TextsA w B vs[j] E[j]
theorem EdgesA.stay {w w' : World} {B : Nat} {v : Value} {E : List (List ByteArray)} (h : EdgesA w B v E) (hs : CellsStay w w') : EdgesA w' B v E := by
 obtain ⟨vs, h1, h2, h3⟩ := h
 exact ⟨vs, h1, h2.stay hs, fun j h h' => (h3 j h h').stay hs⟩
theorem EdgesA.mono {w : World} {B B' : Nat} {v : Value} {E : List (List ByteArray)} (h : EdgesA w B v E) (hB : B ≤ B') : EdgesA w B' v E := by
 obtain ⟨vs, h1, h2, h3⟩ := h
 exact ⟨vs, h1, h2.mono hB, fun j h h' => (h3 j h h').mono hB⟩
theorem EdgesA.form {w : World} {B : Nat} {v : Value} {E : List (List ByteArray)} (h : EdgesA w B v E) : ∃ ao cap, v = .slice ao E.length cap ∧ ∀ j (hj : j < E.length), ∃ b off u, ao = some ⟨b, off, none⟩ ∧ b < B ∧ w.cell? ⟨b, off + j, none⟩ = some u ∧ TextsA w B u E[j] := by
 obtain ⟨vs, h1, h2, h3⟩ := h
 obtain ⟨ao, cap, hv, -, hj⟩ := h2.form
 refine ⟨ao, cap, by rw [hv, h1], fun j h => ?_⟩
 obtain ⟨b, off, h4, h5, h6⟩ := hj j (by omega)
 exact ⟨b, off, _, h4, h5, h6, h3 j h (by omega)⟩
structure OW (e : TypeId) (W : World) (B : Nat) (v : Value) (L : List Value) (W1 : World) : Prop where
 below : Below B W W1
 own : W1.ownsRow B e 1 v L.length L
theorem OW.start (e : TypeId) (W : World) (B : Nat) : OW e W B (.slice none 0 0) [] W := ⟨Below.refl _ _, World.ownsRow_nil _ _ _ _⟩
theorem OW.step {e : TypeId} {W W1 w' : World} {B : Nat} {v v' : Value} {L : List Value} (h : OW e W B v L W1) (hB : B ≤ W1.heap.size) (o : Obj) (x : Value)
 (h1 : w'.ownsRow B e 1 v' (L.length + 1) (L ++ [x])) (h2 : (W1.alloc o).grownBy w' v.ownBlock) : OW e W B v' (L ++ [x]) w' := by
 refine ⟨(h.below.alloc hB _).grown h2 (by rw [World.size_alloc]; omega) (fun k hk => (h.own.lt k hk).1), ?_⟩
 rw [List.length_append]
 exact h1
theorem OW.row {e : TypeId} {W W1 : World} {B : Nat} {v : Value} {L : List Value} (h : OW e W B v L W1) : RowA W1 W1.heap.size v L := own_row h.own
theorem OW.form {e : TypeId} {W W1 : World} {B : Nat} {v : Value} {L : List Value} (h : OW e W B v L W1) : ∃ ao cap, v = .slice ao L.length cap := by
 obtain ⟨ao, cap, hv, _⟩ := h.row.form
 exact ⟨ao, cap, hv⟩
theorem news_one (w : World) (x : Value) (t : TypeId) : ∀ j u, [x][j]? = some u → (w.alloc (.cells #[x] t)).cell? ((⟨w.heap.size, 0, none⟩ : Addr).add j) = some u := by
 intro j u hu
 match j, hu with
 | 0, hu =>
  have hadd : (⟨w.heap.size, 0, none⟩ : Addr).add 0 = ⟨w.heap.size, 0, none⟩ := rfl
  rw [hadd, World.cell?_alloc_new]
  simpa using hu
 | j + 1, hu => simp at hu
end Go.Proofs.YtidplkfhodpdhaaGreatDoor.hyp
namespace Go.Proofs.YtidplkfhodpdhaaGreatDoor.hyp
open Go.ChangeShapes Go.WideShapes Go.ChangeAt Go.RowKit kit
set_option linter.unusedVariables false
set_option linter.unusedSimpArgs false
theorem infoStrC : (Tryz.prog.info? 9).map (fun i => (i.zero, i.size, i.bytes)) = some (some (.string ByteArray.empty), 1, 16) := by kernel_rfl
theorem wpList_append_run {P : Program} {w : World} {ops : Array Oper} {rest : List Oper} {o : Oper} {a : Act} {Q : Exit → Act → World → Prop} (hgd : o.guard = none) (s x : Operand) (t tn : TypeId)
 (ho : o.op = .call { callee := .builtin .append, args := #[s, x], argTypes := #[t, tn] }) (v v' y : Value) (w' : World) (hs : a.eval s = v) (hx : a.eval x = y) (hr : (Builtin.append_ #[t, tn] o.type #[v, y]).run P w = .ok v' w')
 (h : wpList P ops Q rest (a.put o.dst v') w') : wpList P ops Q (o :: rest) a w := by
 refine wpList_plain hgd fun K hK => ?_
 unfold Oper.wp execOp
 simp only [ho, resolve, invoke, builtin, Sem.run_bind, Sem.run_pure, Result.andThen_ok, List.map_toArray, List.map_cons, List.map_nil, hs, hx, hr]
 exact hK _ _ h
theorem run_append_none {P : Program} (w : World) (B : Nat) (t ty e : TypeId) (i : TypeInfo) (size : Nat) (ht : P.underlying t = some (.slice e)) (hi : P.info? e = some i) (v : Value) (n : Nat) (xs : List Value) (hown : w.ownsRow B e size v n xs) (c : Nat) :
 (Builtin.append_ #[t, t] ty #[v, .slice none 0 c]).run P w = .ok v w := by
 rcases hown.2 with ⟨rfl, rfl⟩ | ⟨g, cap, cur, rfl, _, hg, hn, _⟩
 ·simp [Builtin.append_, run_underlying ht, sizeOf, typeInfo, hi, Builtin.lenOf, Builtin.firstCells, loadCells, loadCellsFrom]
 ·simp [Builtin.append_, run_underlying ht, sizeOf, typeInfo, hi, Builtin.lenOf, Builtin.firstCells, hn, storeCells]
set_option maxRecDepth 100000 in
set_option maxHeartbeats 4000000 in
theorem copyT_any (w : World) (v : Value) (l : List ByteArray) (h : TextsA w w.heap.size v l) (hl : l.length ≤ 1048576) :
 Calls Tryz.prog 46 #[v] w fun e w' => ∃ u, e = .returned u ∧ OW 9 w w.heap.size u (textsV l) w' := by
 obtain ⟨i0, hi, hz0, hz1, hz2⟩ := info_parts infoStrC
 have hnil := World.ownsRow_nil w w.heap.size 9 1
 replace hi := Lib.hid hi
 replace hz0 := Lib.hid hz0
 replace hz1 := Lib.hid hz1
 replace hz2 := Lib.hid hz2
 have hgrow : ∀ (v' : Value) (w' : World), w'.ownsRow w.heap.size 9 1 v' (0 + (textsV l).length) ([] ++ textsV l) → w.grownBy w' (Value.ownBlock (.slice none 0 0)) → OW 9 w w.heap.size v' (textsV l) w' := by
  intro v' w' h1 h2
  rw [Nat.zero_add, List.nil_append] at h1
  exact ⟨⟨h2.os, h2.tape, h2.output, h2.size, fun k hk => h2.block k hk (by simp [Value.ownBlock])⟩, h1⟩
 replace hgrow := Lib.hid hgrow
 obtain ⟨L, hL⟩ : ∃ L, textsV l = L := ⟨_, rfl⟩
 have hlen : L.length = l.length := by rw [← hL, textsV_length]
 have hrow := h.row
 have hone : ∀ u ∈ L, u.oneCell' = true := fun u hu => by
  rw [← hL] at hu
  obtain ⟨s, -, rfl⟩ := List.mem_map.1 hu
  rfl
 rw [hL] at hgrow hrow ⊢
 clear h hL
 rcases hrow with ⟨ao, cap, rfl, rfl⟩ | ⟨b, off, cap, rfl, h0, hc, hb, hj⟩
 ·rcases ao with _ | ad
  ·have hrun := run_append_none (P := Tryz.prog) w w.heap.size 22 22 9 i0 1 Tryz.underlying22 hi.out (.slice none 0 0) 0 [] hnil cap
   replace hrun := Lib.hid hrun
   go_enter Tryz.func46, Tryz.ntmps46
   go_wp2_with (at_builtin; refine wpList_append_run rfl _ _ 22 22 rfl _ _ _ _ rfl rfl hrun.out ?_)
   go_ret
   exact ⟨_, rfl, OW.start _ _ _⟩
  ·go_enter Tryz.func46, Tryz.ntmps46
   go_wp2_with (at_builtin; refine wpList_append_own _ rfl _ _ 22 rfl w.heap.size 9 i0 (.string ByteArray.empty) 1 16 Tryz.underlying22 hi.out hz0.out hz1.out hz2.out rfl (by decide) _ 0 [] rfl hnil _ 0 _ [] rfl rfl ?c1 ?c2 ?c3 ?c4 ?c5 ?c6)
   case c1 => intro j u h; simp at h
   case c2 => intro u h; cases h
   case c3 => simp only [maxLen]; omega
   case c4 => omega
   case c5 => exact Nat.le_refl _
   case c6 =>
    intro v' w' h1 h2 _
    have h3 := hgrow.out v' w' h1 h2
    go_wp2
    go_ret
    exact ⟨_, rfl, h3⟩
 ·go_enter Tryz.func46, Tryz.ntmps46
  go_wp2_with (at_builtin; refine wpList_append_own _ rfl _ _ 22 rfl w.heap.size 9 i0 (.string ByteArray.empty) 1 16 Tryz.underlying22 hi.out hz0.out hz1.out hz2.out rfl (by decide) _ 0 [] rfl hnil _ L.length _ L rfl ?d0 ?d1 ?d2 ?d3 ?d4 ?d5 ?d6)
  case d0 => simp
  case d1 => exact RowA.news hj
  case d2 => exact hone
  case d3 => simp only [maxLen]; omega
  case d4 => omega
  case d5 => exact Nat.le_refl _
  case d6 =>
   intro v' w' h1 h2 _
   have h3 := hgrow.out v' w' (by rw [Nat.zero_add, List.nil_append, hlen]; exact h1) h2
   go_wp2
   go_ret
   exact ⟨_, rfl, h3⟩
end Go.Proofs.YtidplkfhodpdhaaGreatDoor.hyp
