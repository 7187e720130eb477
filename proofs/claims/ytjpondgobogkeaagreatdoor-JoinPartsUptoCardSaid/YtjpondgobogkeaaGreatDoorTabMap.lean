/- Maps from texts to whole numbers: made, looked up, stored into. -/
import Derived.Maps.OwnSet
import Derived.Test.YtjpondgobogkeaaGreatDoorKit
namespace Go.Proofs.YtjpondgobogkeaaGreatDoor.tab
open Go.ChangeMaps Go.MapKept
open Go.Maps (Keyed IsMap Tidy string_keyed KeysOf fit_keys fit_apart)
open Go.RowKit kit
set_option linter.unusedVariables false
set_option linter.unusedSimpArgs false
/-- The types of a map from texts to whole numbers. -/
structure SMap (P : Program) (T K E : TypeId) (qe : IntKind) : Prop where
  hT : P.underlying T = some (.map K E)
  hK : P.underlying K = some .string
  hE : P.underlying E = some (.int qe)
  hz : ∀ w, (zeroValue E).run P w = .ok (.int qe 0) w
theorem keyOf_text {P : Program} {k : TypeId} (hk : P.underlying k = some .string) (s : ByteArray) (hs : s.size ≤ maxLen) : keyOf P k (.string s) = some (.string s.data.toList) := by
  simp [keyOf, hk, mapKey, Go.ByteArray.toList_eq, hs]
/-- Block b is a map of at most n entries that reads as f. -/
def MapS (P : Program) (K E : TypeId) (qe : IntKind) (w : World) (b n : Nat) (f : List UInt8 → Option Int) : Prop :=
  ∃ D : DataW Unit, w.ownsMap P K (plainElem P E) b n D ∧ ∀ x : List UInt8, Maps.has D (.string x) = (f x).isSome ∧ D.atKey (.string x) (.lit (.int qe 0)) = .lit (.int qe ((f x).getD 0))
def updS (f : List UInt8 → Option Int) (k : List UInt8) (v : Int) : List UInt8 → Option Int := fun x => if x = k then some v else f x
section
variable {P : Program} {T K E : TypeId} {qe : IntKind} {w w' : World} {b n : Nat} {f : List UInt8 → Option Int}
theorem MapS.made (w : World) : MapS P K E qe (w.alloc (.map #[] 0)) w.heap.size 0 (fun _ => none) :=
  ⟨.map [], World.ownsMap_made w P K _, fun x => ⟨rfl, rfl⟩⟩
theorem MapS.kept {row : Option Nat} (h : MapS P K E qe w b n f) (hg : w.grownBy w' row) (hne : some b ≠ row) : MapS P K E qe w' b n f := by
  obtain ⟨D, h1, h2⟩ := h
  exact ⟨D, h1.kept hg hne, h2⟩
theorem MapS.same (h : MapS P K E qe w b n f) (hb : w'.heap[b]? = w.heap[b]?) : MapS P K E qe w' b n f := by
  obtain ⟨D, ⟨es, clock, h0, r⟩, h2⟩ := h
  exact ⟨D, ⟨es, clock, hb.trans h0, r⟩, h2⟩
theorem MapS.lt (h : MapS P K E qe w b n f) : b < w.heap.size := by
  obtain ⟨D, h1, _⟩ := h
  exact h1.lt
theorem MapS.isMap (h : MapS P K E qe w b n f) : ∃ es clock, w.heap[b]? = some (.map es clock) := by
  obtain ⟨D, ⟨es, clock, h0, _⟩, _⟩ := h
  exact ⟨es, clock, h0⟩
end
section
variable {P : Program} {T K E : TypeId} {qe : IntKind} (hm : SMap P T K E qe) (w : World) {ops : Array Oper} {rest : List Oper} {o : Oper} {a : Act} {Q : Exit → Act → World → Prop}
include hm
/-- 'm[k]'. -/
theorem wpList_mapS (hg : o.guard = none) (m x : Operand) (hop : o.op = Op.lookup T m x false) (b n : Nat) (f : List UInt8 → Option Int) (ha : a.eval m = .map (some b)) (h : MapS P K E qe w b n f) (key : ByteArray) (hks : key.size ≤ maxLen) (hx : a.eval x = .string key) (r : Option Int) (hr : f key.data.toList = r)
    (hK : wpList P ops Q rest (a.put o.dst (.int qe (r.getD 0))) w) : wpList P ops Q (o :: rest) a w := by
  subst hr
  obtain ⟨D, hown, hD⟩ := h
  obtain ⟨h1, h2⟩ := hD key.data.toList
  refine wpList_lookup_own_int w hg m x T hop K E qe (string_keyed hm.hK) hm.hT hm.hE (hm.hz w) b n D ha hown _ _ hx (keyOf_text hm.hK key hks) ?_
  intro c hat hwc
  rw [h2] at hat
  obtain rfl : (f key.data.toList).getD 0 = c := by
    injection hat with hat
    injection hat
  exact hK
/-- 'm[k] = v'. -/
theorem wpList_mapS_put (hg : o.guard = none) (m x v : Operand) (hop : o.op = Op.mapUpdate T m x v) (b n : Nat) (f : List UInt8 → Option Int) (ha : a.eval m = .map (some b)) (h : MapS P K E qe w b n f) (hn : n < maxLen)
    (key : ByteArray) (hks : key.size ≤ maxLen) (val : Int) (hx : a.eval x = .string key) (hv : a.eval v = .int qe val) (hwv : (Lit.int qe val).wf = true)
    (hK : ∀ w', MapS P K E qe w' b (n + 1) (updS f key.data.toList val) → w.grownBy w' (some b) → wpList P ops Q rest (a.put o.dst undef) w') : wpList P ops Q (o :: rest) a w := by
  obtain ⟨D, hown, hD⟩ := h
  have hkl := keyOf_text hm.hK key hks
  refine wpList_mapUpdate_own w hg m x v T hop K E (string_keyed hm.hK) hm.hT _ b n D ha hown hn _ _ _ hx hv hkl _ [] (plainElem_int hm.hE hwv) ?_
  intro w' hown' hgr
  refine hK w' ⟨_, hown', fun y => ?_⟩ hgr
  by_cases hyk : y = key.data.toList
  · subst hyk
    unfold updS
    rw [if_pos rfl]
    exact ⟨Maps.has_put_same hown.isMap ((string_keyed hm.hK).key hkl) _, Maps.atKey_put_same hown.isMap ((string_keyed hm.hK).key hkl) _ _⟩
  · have hne : Lit.string y ≠ Lit.string key.data.toList := fun e => hyk (by injection e)
    unfold updS
    rw [if_neg hyk, Maps.has_put_other hne, Maps.atKey_put_other hne]
    exact hD y
end
end Go.Proofs.YtjpondgobogkeaaGreatDoor.tab
