/- Texts TabTog, TabTog2, one behind the other. -/
import Derived.Test.YtidplkfhodpdhaaGreatDoorTabClone
import Derived.Test.YtidplkfhodpdhaaGreatDoorTabNames
namespace Go.Proofs.YtidplkfhodpdhaaGreatDoor.tab
open Go.ChangeShapes Go.WideShapes Go.ChangeAt Go.RowKit kit dec val
open hyp (RowA TextsA CellsStay stay_of_below textsV textsV_length own_row OW)
set_option linter.unusedVariables false
set_option linter.unusedSimpArgs false
def numsN (l : List Nat) : List Value := l.map fun (n : Nat) => .int .i64 (n : Int)
@[simp] theorem numsN_length (l : List Nat) : (numsN l).length = l.length := by simp [numsN]
def atN (a b : List ByteArray) : List Nat := b.map fun v => (b.foldl addN a).idxOf v
theorem idx_addN {ns : List ByteArray} (u : ByteArray) {v : ByteArray} (h : v ∈ ns) : (addN ns u).idxOf v = ns.idxOf v := by
 unfold addN
 split
 ·rfl
 ·rw [List.idxOf_append, if_pos h]
theorem idx_fold {v : ByteArray} : ∀ (l ns : List ByteArray), v ∈ ns → (l.foldl addN ns).idxOf v = ns.idxOf v
 | [], ns, h => rfl
 | u :: l, ns, h => by rw [List.foldl_cons, idx_fold l (addN ns u) (mem_addN.2 (.inl h)), idx_addN u h]
theorem idx_new {ns : List ByteArray} {v : ByteArray} (h : v ∉ ns) : (addN ns v).idxOf v = ns.length := by
 unfold addN
 rw [if_neg h, List.idxOf_append, if_neg h]
 simp
theorem own_ne {w : World} {B : Nat} {e t : TypeId} {s : Nat} {v : Value} {n p : Nat} {xs : List Value} {cs : Array Value} (h : w.ownsRow B e s v n xs) (hb : Blk w p cs t) (hne : e ≠ t) : v.ownBlock ≠ some p := by
 intro e1
 rcases h.2 with ⟨rfl, _⟩ | ⟨g, cap, cur, rfl, _, hh, _⟩
 ·cases e1
 ·simp only [Value.ownBlock, Option.some.injEq] at e1
  subst e1
  unfold Blk at hb
  rw [hb] at hh
  cases hh
  exact hne rfl
theorem own_two {w : World} {B B' : Nat} {e e' : TypeId} {s s' : Nat} {v v' : Value} {n n' : Nat} {xs xs' : List Value} (h : w.ownsRow B e s v n xs) (h' : w.ownsRow B' e' s' v' n' xs') (hne : e ≠ e') : v.ownBlock = none ∨ v.ownBlock ≠ v'.ownBlock := by
 cases hv : v.ownBlock with
 | none => exact .inl rfl
 | some g =>
  refine .inr fun e1 => ?_
  rcases h.2 with ⟨rfl, _⟩ | ⟨g1, cap, cur, rfl, _, hh, _⟩
  ·cases hv
  ·rcases h'.2 with ⟨rfl, _⟩ | ⟨g2, cap2, cur2, rfl, _, hh2, _⟩
   ·cases e1
   ·simp only [Value.ownBlock, Option.some.injEq] at hv e1
    subst hv
    subst e1
    rw [hh] at hh2
    cases hh2
    exact hne rfl
theorem own_set {w : World} {B : Nat} {e t : TypeId} {s : Nat} {v : Value} {n p : Nat} {xs : List Value} {cs : Array Value} (h : w.ownsRow B e s v n xs) (hb : Blk w p cs t) (hne : e ≠ t) (i : Nat) (u : Value) : (w.setCell ⟨p, i, none⟩ u).ownsRow B e s v n xs :=
 own_stay h fun g hg => Below.heap_setCell w _ u g (fun e1 => own_ne h hb hne (by rw [hg, e1]))
structure TG (w0 w : World) (pb : Nat) (vv va : Value) (ns : List ByteArray) (at_ : List Nat) : Prop where
 below : Below w0.heap.size w0 w
 b0 : Blk w w0.heap.size #[.slice none 0 0, .slice none 0 0] 83
 b1 : Blk w pb #[vv, va] 83
 names : w.ownsRow w0.heap.size 9 1 vv ns.length (textsV ns)
 places : w.ownsRow w0.heap.size 3 1 va at_.length (numsN at_)
 lt : w0.heap.size < pb
theorem TG.alloc {w0 w : World} {pb : Nat} {vv va : Value} {ns : List ByteArray} {at_ : List Nat} (h : TG w0 w pb vv va ns at_) (o : Obj) : TG w0 (w.alloc o) pb vv va ns at_ :=
 ⟨h.below.alloc h.below.size o, h.b0.alloc o, h.b1.alloc o, h.names.alloc o, h.places.alloc o, h.lt⟩
theorem TG.name {w0 w w' : World} {pb : Nat} {vv va vv' : Value} {ns : List ByteArray} {at_ : List Nat} (h : TG w0 w pb vv va ns at_) (x : ByteArray) (h1 : w'.ownsRow w0.heap.size 9 1 vv' (ns.length + 1) (textsV ns ++ [.string x])) (hg : w.grownBy w' vv.ownBlock) :
 TG w0 (w'.setCell ⟨pb, 0, none⟩ vv') pb vv' va (ns ++ [x]) at_ := by
 have e0 : Blk w' w0.heap.size _ _ := (hg.block _ h.b0.lt (fun e => own_ne h.names h.b0 (by decide) e.symm)).trans h.b0
 have e1 : Blk w' pb #[vv, va] 83 := (hg.block _ h.b1.lt (fun e => own_ne h.names h.b1 (by decide) e.symm)).trans h.b1
 have e2 := h.places.kept hg (own_two h.places h.names (by decide))
 have hb := h.below.grown hg h.below.size (fun k hk => (h.names.lt k hk).1)
 refine ⟨hb.setCell (p := ⟨pb, 0, none⟩) (Nat.le_of_lt h.lt) vv', e0.set_other ⟨pb, 0, none⟩ (by have := h.lt; simp; omega) vv', e1.set 0 vv', ?_, own_set e2 e1 (by decide) 0 vv', h.lt⟩
 rw [List.length_append]
 have := own_set h1 e1 (by decide) 0 vv'
 simpa [textsV] using this
theorem TG.place {w0 w w' : World} {pb : Nat} {vv va va' : Value} {ns : List ByteArray} {at_ : List Nat} (h : TG w0 w pb vv va ns at_) (x : Nat) (h1 : w'.ownsRow w0.heap.size 3 1 va' (at_.length + 1) (numsN at_ ++ [.int .i64 (x : Int)])) (hg : w.grownBy w' va.ownBlock) :
 TG w0 (w'.setCell ⟨pb, 1, none⟩ va') pb vv va' ns (at_ ++ [x]) := by
 have e0 : Blk w' w0.heap.size _ _ := (hg.block _ h.b0.lt (fun e => own_ne h.places h.b0 (by decide) e.symm)).trans h.b0
 have e1 : Blk w' pb #[vv, va] 83 := (hg.block _ h.b1.lt (fun e => own_ne h.places h.b1 (by decide) e.symm)).trans h.b1
 have e2 := h.names.kept hg (own_two h.names h.places (by decide))
 have hb := h.below.grown hg h.below.size (fun k hk => (h.places.lt k hk).1)
 refine ⟨hb.setCell (p := ⟨pb, 1, none⟩) (Nat.le_of_lt h.lt) va', e0.set_other ⟨pb, 1, none⟩ (by have := h.lt; simp; omega) va', e1.set 1 va', own_set e2 e1 (by decide) 1 va', ?_, h.lt⟩
 rw [List.length_append]
 have := own_set h1 e1 (by decide) 1 va'
 simpa [numsN] using this
theorem fold_take {b a : List ByteArray} {k : Nat} (h : k < b.length) : (b.take (k + 1)).foldl addN a = addN ((b.take k).foldl addN a) b[k] := by
 rw [List.take_succ_eq_append_getElem h, List.foldl_append]
 rfl
theorem fold_rest (b a : List ByteArray) (k : Nat) : b.foldl addN a = (b.drop k).foldl addN ((b.take k).foldl addN a) := by
 rw [← List.foldl_append, List.take_append_drop]
theorem at_take {b a : List ByteArray} {k : Nat} (h : k < b.length) : (atN a b).take (k + 1) = (atN a b).take k ++ [(addN ((b.take k).foldl addN a) b[k]).idxOf b[k]] := by
 unfold atN
 rw [List.take_succ_eq_append_getElem (by rw [List.length_map]; exact h), List.getElem_map]
 congr 2
 rw [fold_rest b a (k + 1), idx_fold _ _ (by rw [fold_take h]; exact mem_addN.2 (.inr rfl)), fold_take h]
end Go.Proofs.YtidplkfhodpdhaaGreatDoor.tab
namespace Go.Proofs.YtidplkfhodpdhaaGreatDoor.tab
open Go.ChangeShapes Go.WideShapes Go.ChangeAt Go.RowKit kit dec val
open hyp (RowA TextsA CellsStay stay_of_below textsV textsV_length own_row OW)
set_option linter.unusedVariables false
set_option linter.unusedSimpArgs false
theorem own_form4x {w : World} {B : Nat} {e : TypeId} {s : Nat} {v : Value} {n : Nat} {xs : List Value} (h : w.ownsRow B e s v n xs) : ∃ a c, v = .slice a n c := by
 rcases h.2 with ⟨rfl, hn⟩ | ⟨g, cap, cur, rfl, _⟩
 ·exact ⟨none, 0, by rw [hn]⟩
 ·exact ⟨_, cap, rfl⟩
theorem cell_heapx {w w' : World} {k i : Nat} (h : w'.heap[k]? = w.heap[k]?) : w'.cell? ⟨k, i, none⟩ = w.cell? ⟨k, i, none⟩ := by
 unfold World.cell?
 simp only [h]
theorem own_low4 {w : World} {B B' : Nat} {e : TypeId} {s : Nat} {v : Value} {n : Nat} {xs : List Value} (h : w.ownsRow B e s v n xs) (hB : B' ≤ B) : w.ownsRow B' e s v n xs :=
 ⟨h.1, h.2.imp id fun ⟨g, cap, cur, h1, h2, r⟩ => ⟨g, cap, cur, h1, by omega, r⟩⟩
theorem own_texts {w : World} {B : Nat} {v : Value} {l : List ByteArray} (h : w.ownsRow B 9 1 v l.length (textsV l)) : ∃ a c, v = .slice a l.length c ∧ ∀ j (hj : j < l.length), ∃ b off, a = some ⟨b, off, none⟩ ∧ b < w.heap.size ∧ w.cell? ⟨b, off + j, none⟩ = some (.string l[j]) := by
 have h2 : RowA w w.heap.size v (textsV l) := own_row (by rw [textsV_length]; exact h)
 obtain ⟨a, c, hv, -, hc⟩ := h2.form
 rw [textsV_length] at hv
 refine ⟨a, c, hv, fun j hj => ?_⟩
 obtain ⟨b, off, e1, e2, e3⟩ := hc j (by rw [textsV_length]; exact hj)
 exact ⟨b, off, e1, e2, by rw [e3]; unfold textsV; rw [List.getElem_map]⟩
end Go.Proofs.YtidplkfhodpdhaaGreatDoor.tab
