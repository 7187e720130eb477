/- Texts VOver, OvL, OvR, one behind the other. -/
import Derived.Test.YtidplkfhodpdhaaGreatDoorVMadeA
import Derived.ArgAppend
import Derived.Test.YtidplkfhodpdhaaGreatDoorTabNmA
namespace Go.Proofs.YtidplkfhodpdhaaGreatDoor.val
open Go.ChangeShapes Go.WideShapes Go.ChangeAt Go.RowKit kit dec
set_option linter.unusedVariables false
set_option linter.unusedSimpArgs false
structure Out (S : Nat → Prop) (w w' : World) : Prop where
 os : w'.os = w.os
 tape : w'.tape = w.tape
 output : w'.output = w.output
 size : w.heap.size ≤ w'.heap.size
 block : ∀ b, b < w.heap.size → ¬ S b → w'.heap[b]? = w.heap[b]?
theorem Out.refl (S : Nat → Prop) (w : World) : Out S w w := ⟨rfl, rfl, rfl, Nat.le_refl _, fun _ _ _ => rfl⟩
theorem Out.trans {S T : Nat → Prop} {a b c : World} (h : Out S a b) (k : Out T b c) (hT : ∀ x, T x → S x) : Out S a c :=
 ⟨k.os.trans h.os, k.tape.trans h.tape, k.output.trans h.output, Nat.le_trans h.size k.size, fun x hx hn => (k.block x (Nat.lt_of_lt_of_le hx h.size) (fun ht => hn (hT x ht))).trans (h.block x hx hn)⟩
theorem Out.below {S : Nat → Prop} {a b : World} (h : Out S a b) (B : Nat) (hB : B ≤ a.heap.size) (hS : ∀ x, S x → B ≤ x) : Below B a b :=
 ⟨h.os, h.tape, h.output, h.size, fun k hk => h.block k (Nat.lt_of_lt_of_le hk hB) (fun hs => by have := hS k hs; omega)⟩
theorem Out.ofBelow {S : Nat → Prop} {a b : World} (h : Below a.heap.size a b) : Out S a b := ⟨h.os, h.tape, h.output, h.size, fun k hk _ => h.block k hk⟩
theorem Out.setCell {S : Nat → Prop} {a b : World} (h : Out S a b) (p : Addr) (hp : S p.block) (u : Value) : Out S a (b.setCell p u) :=
 ⟨h.os, h.tape, h.output, by simpa [World.setCell] using h.size, fun k hk hn => (Below.heap_setCell b p u k (fun e => hn (e ▸ hp))).trans (h.block k hk hn)⟩
def set6at (w : World) (b o : Nat) (v0 v1 v2 v3 v4 v5 : Value) : World := (((((w.setCell ⟨b, o, none⟩ v0).setCell ⟨b, o + 1, none⟩ v1).setCell ⟨b, o + 2, none⟩ v2).setCell ⟨b, o + 3, none⟩ v3).setCell ⟨b, o + 4, none⟩ v4).setCell ⟨b, o + 5, none⟩ v5
theorem heap_set6at (w : World) (b o : Nat) (v0 v1 v2 v3 v4 v5 : Value) (k : Nat) (h : k ≠ b) : (set6at w b o v0 v1 v2 v3 v4 v5).heap[k]? = w.heap[k]? := by
 unfold set6at
 rw [Below.heap_setCell _ _ _ _ h, Below.heap_setCell _ _ _ _ h, Below.heap_setCell _ _ _ _ h, Below.heap_setCell _ _ _ _ h, Below.heap_setCell _ _ _ _ h, Below.heap_setCell _ _ _ _ h]
theorem Out.set6at {S : Nat → Prop} {a w : World} (h : Out S a w) (b o : Nat) (hb : S b) (v0 v1 v2 v3 v4 v5 : Value) : Out S a (val.set6at w b o v0 v1 v2 v3 v4 v5) := by
 unfold val.set6at
 exact (((((h.setCell ⟨b, o, none⟩ hb v0).setCell ⟨b, o + 1, none⟩ hb v1).setCell ⟨b, o + 2, none⟩ hb v2).setCell ⟨b, o + 3, none⟩ hb v3).setCell ⟨b, o + 4, none⟩ hb v4).setCell ⟨b, o + 5, none⟩ hb v5
theorem six_sets (A B : List Value) (c0 c1 c2 c3 c4 c5 v0 v1 v2 v3 v4 v5 : Value) (o : Nat) (ho : o = A.length) :
 ((((((A ++ [c0, c1, c2, c3, c4, c5] ++ B).set o v0).set (o + 1) v1).set (o + 2) v2).set (o + 3) v3).set (o + 4) v4).set (o + 5) v5 = A ++ [v0, v1, v2, v3, v4, v5] ++ B := by
 subst ho
 simp [List.append_assoc, List.set_append_right]
theorem own_set {w : World} {g n cap : Nat} {p1 p2 : List (V × Value)} {k k' : Int} {b b' : Bool} {m m' : Int} {t t' x x' : ByteArray} {l l' : List V} {s s' : Value}
 (own : w.ownsRow 0 52 6 (.slice (some ⟨g, 0, none⟩) n cap) (p1 ++ (.mk k b m t x l, s) :: p2).length (rowL (p1 ++ (.mk k b m t x l, s) :: p2))) :
 (set6at w g (p1.length * 6) (.int .i64 k') (.bool b') (.int .i64 m') (.string t') (.string x') s').ownsRow 0 52 6 (.slice (some ⟨g, 0, none⟩) n cap) (p1 ++ (.mk k' b' m' t' x' l', s') :: p2).length (rowL (p1 ++ (.mk k' b' m' t' x' l', s') :: p2)) := by
 refine ⟨rowL_len _, .inr ?_⟩
 rcases own.2 with ⟨h, _⟩ | ⟨g', cap', cur, hv, hb, hg, hn, hm, hs, htk⟩
 ·cases h
 ·injection hv with e1 e2 e3
  injection e1 with e1
  injection e1 with e1
  subst e1 e2 e3
  have hq : Blk w g cur 52 := hg
  have hset := (((((hq.set (p1.length * 6) (.int .i64 k')).set (p1.length * 6 + 1) (.bool b')).set (p1.length * 6 + 2) (.int .i64 m')).set (p1.length * 6 + 3) (.string t')).set (p1.length * 6 + 4) (.string x')).set (p1.length * 6 + 5) s'
  refine ⟨g, cap, _, by simp, hb, hset, by simpa using hn, hm, by simpa using hs, ?_⟩
  have hd := List.take_append_drop ((p1 ++ (V.mk k b m t x l, s) :: p2).length * 6) cur.toList
  rw [htk, rowL_app, rowL, six] at hd
  simp only [Array.toList_setIfInBounds]
  rw [← hd, show rowL p1 ++ ([Value.int .i64 k, .bool b, .int .i64 m, .string t, .string x, s] ++ rowL p2) ++ cur.toList.drop ((p1 ++ (V.mk k b m t x l, s) :: p2).length * 6) = rowL p1 ++ [Value.int .i64 k, .bool b, .int .i64 m, .string t, .string x, s] ++ (rowL p2 ++ cur.toList.drop ((p1 ++ (V.mk k b m t x l, s) :: p2).length * 6)) by simp [List.append_assoc],
   six_sets _ _ _ _ _ _ _ _ _ _ _ _ _ _ _ (by rw [rowL_len])]
  rw [rowL_app, rowL, six]
  have hl : (rowL p1 ++ ([Value.int .i64 k', .bool b', .int .i64 m', .string t', .string x', s'] ++ rowL p2)).length = (p1 ++ (V.mk k' b' m' t' x' l', s') :: p2).length * 6 := by
   simp [rowL_len]; omega
  rw [← hl]
  have : rowL p1 ++ [Value.int .i64 k', .bool b', .int .i64 m', .string t', .string x', s'] ++ (rowL p2 ++ cur.toList.drop ((p1 ++ (V.mk k b m t x l, s) :: p2).length * 6)) = (rowL p1 ++ ([Value.int .i64 k', .bool b', .int .i64 m', .string t', .string x', s'] ++ rowL p2)) ++ cur.toList.drop ((p1 ++ (V.mk k b m t x l, s) :: p2).length * 6) := by simp [List.append_assoc]
  rw [this, List.take_left]
def over98 : V := .mk 98 false 0 ByteArray.empty ByteArray.empty []
theorem LF.hit {w : World} {N : Nat} {S : Nat → Prop} {s : Value} {l : List V} (h : LF w N S s l) (i : Nat) (hi : i < l.length) :
 ∃ g cap T k b n t x l1 aoE capE, s = .slice (some ⟨g, 0, none⟩) l.length cap ∧ l[i] = .mk k b n t x l1 ∧ S g ∧ ¬ T g ∧ (∀ b, T b → S b) ∧ Row6 w g (i * 6) k b n t x (.slice aoE l1.length capE) ∧ LF w N T (.slice aoE l1.length capE) l1 ∧
  (∃ cur, Blk w g cur 52 ∧ i * 6 + 6 ≤ cur.size) ∧
  ∀ w', Out T w w' → LF (set6at w' g (i * 6) (.int .i64 98) (.bool false) (.int .i64 0) (.string ByteArray.empty) (.string ByteArray.empty) (.slice none 0 0)) N S s (l.set i over98) := by
 cases h with
 | mk ps P e hN own hS nb sub dis ok h =>
  subst e
  have hi' : i < ps.length := by simpa using hi
  rcases own.2 with ⟨rfl, hn⟩ | ⟨g, cap, cur, rfl, _, hg, hn, hm, hs, _⟩
  ·omega
  ·have hc := h i hi'
   have hok := ok ps[i] (List.getElem_mem _)
   rcases he : ps[i] with ⟨⟨k, b, n, t, x, l1⟩, sE⟩
   rw [he] at hc hok
   replace hc : LF w N (P i) sE l1 := hc
   obtain ⟨aoE, capE, rfl, _⟩ := hc.form
   have hr := own_six own i hi' (k := k) (bo := b) (m := n) (t := t) (x := x) (l := l1) (by rw [he])
   rw [he, Nat.mul_comm 6 i] at hr
   refine ⟨g, cap, P i, k, b, n, t, x, l1, aoE, capE, by simp, by simp [he], hS g rfl, nb g rfl i, sub i, hr, hc, ⟨cur, hg, by omega⟩, fun w' ho => ?_⟩
   obtain ⟨p1, p2, hp, hp1⟩ : ∃ p1 p2, ps = p1 ++ (.mk k b n t x l1, .slice aoE l1.length capE) :: p2 ∧ p1.length = i :=
    ⟨ps.take i, ps.drop (i + 1), by rw [← he]; simp, by simp; omega⟩
   have own' := own_stay (w' := w') own (fun g' e => by injection e with e; subst e; exact ho.block g (own.lt g rfl).2 (nb g rfl i))
   subst hp
   subst hp1
   have own2 := own_set (k' := 98) (b' := false) (m' := 0) (t' := ByteArray.empty) (x' := ByteArray.empty) (l' := []) (s' := .slice none 0 0) own'
   refine .mk (p1 ++ (over98, .slice none 0 0) :: p2) P (by simp) (by simpa using hN) (by simpa [over98] using own2) hS nb sub dis ?_ ?_
   ·intro p hp
    rcases List.mem_append.1 hp with hp | hp
    ·exact ok p (by simp [hp])
    ·rcases List.mem_cons.1 hp with rfl | hp
     ·exact ⟨⟨by decide, by decide⟩, ⟨by decide, by decide⟩, Nat.zero_le _, Nat.zero_le _⟩
     ·exact ok p (by simp [hp])
   ·intro j hj
    have hj' : j < (p1 ++ (V.mk k b n t x l1, Value.slice aoE l1.length capE) :: p2).length := by simpa using hj
    have hjs := h j hj'
    by_cases hij : j = p1.length
    ·subst hij
     rw [List.getElem_append_right (Nat.le_refl _)]
     simp only [Nat.sub_self, List.getElem_cons_zero]
     exact LF.nil _ _ _
    ·have heq : (p1 ++ (over98, Value.slice none 0 0) :: p2)[j] = (p1 ++ (V.mk k b n t x l1, Value.slice aoE l1.length capE) :: p2)[j] := by
      rcases Nat.lt_or_ge j p1.length with hlt | hge
      ·rw [List.getElem_append_left hlt, List.getElem_append_left hlt]
      ·rw [List.getElem_append_right hge, List.getElem_append_right hge]
       obtain ⟨d, hd⟩ : ∃ d, j - p1.length = d + 1 := ⟨j - p1.length - 1, by omega⟩
       simp only [hd, List.getElem_cons_succ]
     rw [heq]
     refine hjs.stay fun b' hb hlt => ?_
     rw [heap_set6at _ _ _ _ _ _ _ _ _ _ (fun e : b' = g => nb g rfl j (by rw [← e]; exact hb))]
     exact ho.block b' hlt (fun hT => hij (dis j _ b' hb hT))
end Go.Proofs.YtidplkfhodpdhaaGreatDoor.val
namespace Go.Proofs.YtidplkfhodpdhaaGreatDoor.val
open Go.ChangeShapes Go.WideShapes Go.ChangeAt Go.RowKit kit dec
set_option linter.unusedVariables false
set_option linter.unusedSimpArgs false
end Go.Proofs.YtidplkfhodpdhaaGreatDoor.val
namespace Go.Proofs.YtidplkfhodpdhaaGreatDoor.tab
open Go.ChangeShapes Go.WideShapes Go.ChangeAt Go.RowKit kit dec val
open hyp (RowA TextsA CellsStay stay_of_below textsV own_row)
set_option linter.unusedVariables false
set_option linter.unusedSimpArgs false
structure OvF (S : Nat → Prop) (v : Value) (vs : List Value) (P : Nat → Nat → Prop) : Prop where
 hS : ∀ g, v.ownBlock = some g → S g
 nb : ∀ g, v.ownBlock = some g → ∀ j, ¬ P j g
 sub : ∀ j b, P j b → S b
 dis : ∀ i j b, P i b → P j b → i = j
structure OvW (N : Nat) (v : Value) (vs : List Value) (P : Nat → Nat → Prop) (lens : List Nat) (w : World) (rs : List (List V)) : Prop where
 len : rs.length = vs.length
 own : w.ownsRow 0 37 1 v vs.length vs
 rows : ∀ j (hj : j < vs.length) (hj' : j < rs.length), LF w N (P j) vs[j] rs[j]
 same : rs.map List.length = lens
theorem OvW.out {N : Nat} {S : Nat → Prop} {v : Value} {vs : List Value} {P : Nat → Nat → Prop} {lens : List Nat} {w w' : World} {rs : List (List V)} {i : Nat} {r : List V} (h : OvW N v vs P lens w rs) (hF : OvF S v vs P) (hO : Out (P i) w w') (hi : i < rs.length) (hr : ∀ hi : i < vs.length, LF w' N (P i) vs[i] r) (hl : r.length = rs[i].length) :
 OvW N v vs P lens w' (rs.set i r) := by
 refine ⟨by rw [List.length_set]; exact h.len, own_stay h.own fun g hg => hO.block g (h.own.lt g hg).2 (hF.nb g hg i), fun j hj hj' => ?_, ?_⟩
 ·by_cases hji : j = i
  ·subst hji
   rw [List.getElem_set_self]
   exact hr hj
  ·rw [List.getElem_set_ne (fun e => hji e.symm)]
   exact (h.rows j hj (by simpa using hj')).stay fun b hb hlt => hO.block b hlt (fun hb2 => hji (hF.dis j i b hb hb2))
 ·rw [← h.same]
  apply List.ext_getElem (by simp)
  intro j h1 h2
  rw [List.getElem_map, List.getElem_map]
  by_cases hji : j = i
  ·subst hji
   rw [List.getElem_set_self]
   exact hl
  ·rw [List.getElem_set_ne (fun e => hji e.symm)]
theorem OvW.cell {N : Nat} {v : Value} {vs : List Value} {P : Nat → Nat → Prop} {lens : List Nat} {w : World} {rs : List (List V)} (h : OvW N v vs P lens w rs) {ao : Option Addr} {c : Nat} (hv : v = .slice ao vs.length c) {i : Nat} (hi : i < vs.length) :
 ∃ g, ao = some ⟨g, 0, none⟩ ∧ w.cell? ⟨g, i, none⟩ = some vs[i] := by
 rcases h.own.2 with ⟨_, hn⟩ | ⟨g, cap, cur, e, _⟩
 ·omega
 ·subst hv
  injection e with e1 e2 e3
  subst e1
  have h9 := h.own.cells (g := g) rfl i vs[i] (List.getElem?_eq_getElem hi)
  rw [Go.WideShapes.add_plain, Nat.zero_add] at h9
  exact ⟨g, rfl, h9⟩
def markV (i : Nat) : V := .mk (100 + ((i % 100 : Nat) : Int)) false (i : Int) ByteArray.empty ByteArray.empty []
def MkA (k : Nat) (r : List (List V)) : Prop := ∀ j (hj : j < r.length), j < k → ∀ m (hm : m < r[j].length), r[j][m] = markV j
def MkB (i k : Nat) (r : List (List V)) : Prop := ∀ (hi : i < r.length) m (hm : m < r[i].length), m < k → r[i][m] = markV i
theorem MkA.set {i : Nat} {r : List (List V)} (h : MkA i r) (x : List V) : MkA i (r.set i x) := by
 intro j hj hji m hm
 have e : (r.set i x)[j] = r[j]'(by simpa using hj) := List.getElem_set_ne (by omega) _
 simp only [e] at hm ⊢
 exact h j (by simpa using hj) hji m hm
theorem MkB.set {i k : Nat} {r : List (List V)} (h : MkB i k r) (hi : i < r.length) : MkB i (k + 1) (r.set i (r[i].set k (markV i))) := by
 intro hi' m hm hmk
 have e : (r.set i (r[i].set k (markV i)))[i]'hi' = r[i].set k (markV i) := List.getElem_set_self _
 simp only [e] at hm ⊢
 by_cases hmk2 : m = k
 ·subst hmk2
  exact List.getElem_set_self _
 ·rw [List.getElem_set_ne (fun e => hmk2 e.symm)]
  exact h hi m (by simpa using hm) (by omega)
end Go.Proofs.YtidplkfhodpdhaaGreatDoor.tab
