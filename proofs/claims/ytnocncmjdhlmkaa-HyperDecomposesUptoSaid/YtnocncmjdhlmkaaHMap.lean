/- Maps between whole numbers, as partial functions: made, looked up, stored into. -/
import Derived.Maps.OwnSet
import Derived.Test.YtnocncmjdhlmkaaKit
namespace Go.Proofs.Ytnocncmjdhlmkaa.hyp
open Go.ChangeMaps Go.MapKept
open Go.Maps (Keyed IsMap Tidy int_keyed keyOf_int_mk KeysOf fit_keys fit_apart)
open Go.RowKit kit
set_option linter.unusedVariables false
set_option linter.unusedSimpArgs false
/-- The types of a map between whole numbers. -/
structure IMap (P : Program) (T K E : TypeId) (qk qe : IntKind) : Prop where
  hT : P.underlying T = some (.map K E)
  hK : P.underlying K = some (.int qk)
  hE : P.underlying E = some (.int qe)
  hz : ∀ w, (zeroValue E).run P w = .ok (.int qe 0) w
/-- Block b is a map of at most n entries that reads as f. -/
def MapI (P : Program) (K E : TypeId) (qk qe : IntKind) (w : World) (b n : Nat) (f : Int → Option Int) : Prop :=
  ∃ D : DataW Unit, w.ownsMap P K (plainElem P E) b n D ∧ ∀ x, (Lit.int qk x).wf = true → Maps.has D (.int qk x) = (f x).isSome ∧ D.atKey (.int qk x) (.lit (.int qe 0)) = .lit (.int qe ((f x).getD 0))
def upd (f : Int → Option Int) (k v : Int) : Int → Option Int := fun x => if x = k then some v else f x
theorem upd_same (f : Int → Option Int) (k v : Int) : upd f k v k = some v := by unfold upd; rw [if_pos rfl]
theorem upd_other (f : Int → Option Int) {k x : Int} (v : Int) (h : x ≠ k) : upd f k v x = f x := by unfold upd; rw [if_neg h]
section
variable {P : Program} {T K E : TypeId} {qk qe : IntKind} {w w' : World} {b n : Nat} {f : Int → Option Int}
theorem MapI.made (w : World) : MapI P K E qk qe (w.alloc (.map #[] 0)) w.heap.size 0 (fun _ => none) :=
  ⟨.map [], World.ownsMap_made w P K _, fun x _ => ⟨rfl, rfl⟩⟩
theorem MapI.kept {row : Option Nat} (h : MapI P K E qk qe w b n f) (hg : w.grownBy w' row) (hne : some b ≠ row) : MapI P K E qk qe w' b n f := by
  obtain ⟨D, h1, h2⟩ := h
  exact ⟨D, h1.kept hg hne, h2⟩
theorem MapI.same (h : MapI P K E qk qe w b n f) (hb : w'.heap[b]? = w.heap[b]?) : MapI P K E qk qe w' b n f := by
  obtain ⟨D, ⟨es, clock, h0, r⟩, h2⟩ := h
  exact ⟨D, ⟨es, clock, hb.trans h0, r⟩, h2⟩
theorem MapI.alloc (h : MapI P K E qk qe w b n f) (o : Obj) : MapI P K E qk qe (w.alloc o) b n f := h.kept (World.grownBy_alloc w o none) (by simp)
theorem MapI.lt (h : MapI P K E qk qe w b n f) : b < w.heap.size := by
  obtain ⟨D, h1, _⟩ := h
  exact h1.lt
theorem MapI.isMap (h : MapI P K E qk qe w b n f) : ∃ es clock, w.heap[b]? = some (.map es clock) := by
  obtain ⟨D, ⟨es, clock, h0, _⟩, _⟩ := h
  exact ⟨es, clock, h0⟩
theorem MapI.mono (h : MapI P K E qk qe w b n f) {m : Nat} (hm : n ≤ m) : MapI P K E qk qe w b m f := by
  obtain ⟨D, h1, h2⟩ := h
  exact ⟨D, h1.mono hm, h2⟩
theorem keys_int {P : Program} {k : TypeId} {q : IntKind} (hk : P.underlying k = some (.int q)) {l : Lit} (h : KeysOf P k l) : ∃ a, l = .int q a ∧ (Lit.int q a).wf = true := by
  obtain ⟨v, h⟩ := h
  simp only [keyOf, hk] at h
  cases v <;> simp [mapKey, hk] at h
  obtain ⟨⟨rfl, hw⟩, rfl⟩ := h
  exact ⟨_, rfl, hw⟩
/-- A map keyed by numbers of sixteen bits has no more than so many entries. -/
theorem MapI.norm (hK : P.underlying K = some (.int .u16)) (h : MapI P K E .u16 qe w b n f) : MapI P K E .u16 qe w b 65536 f := by
  obtain ⟨D, ⟨es, clock, h0, F, hs, hD⟩, h2⟩ := h
  refine ⟨D, ⟨es, clock, h0, F, ?_, hD⟩, h2⟩
  have hk := fit_keys F
  have ha := fit_apart (int_keyed hK) F
  have h1 : ((es.toList.map (WideElems.rg P K (plainElem (H := Unit) P E))).map Prod.fst).Nodup := by
    unfold List.Nodup
    rw [List.pairwise_map]
    exact ha
  have h3 : ∀ l ∈ (es.toList.map (WideElems.rg P K (plainElem (H := Unit) P E))).map Prod.fst, l ∈ (List.range 65536).map fun (i : Nat) => Lit.int .u16 i := by
    intro l hl
    obtain ⟨p, hp, rfl⟩ := List.mem_map.1 hl
    obtain ⟨a, ha, hw⟩ := keys_int hK (hk p hp)
    rw [ha]
    have hr : 0 ≤ a ∧ a < 65536 := by
      simp [Lit.wf, IntKind.min, IntKind.max, IntKind.signed, IntKind.bits] at hw
      omega
    exact List.mem_map.2 ⟨a.toNat, List.mem_range.2 (by omega), by rw [Int.toNat_of_nonneg hr.1]⟩
  have := List.Nodup.length_le_of_subset h1 h3
  simpa using this
end
section
variable {P : Program} {T K E : TypeId} {qk qe : IntKind} (hm : IMap P T K E qk qe) (w : World) {ops : Array Oper} {rest : List Oper} {o : Oper} {a : Act} {Q : Exit → Act → World → Prop}
include hm
/-- 'v, ok := m[k]'. -/
theorem wpList_mapI_ok (hg : o.guard = none) (m x : Operand) (hop : o.op = Op.lookup T m x true) (b n : Nat) (f : Int → Option Int) (ha : a.eval m = .map (some b)) (h : MapI P K E qk qe w b n f) (key : Int) (hx : a.eval x = .int qk key) (hw : (Lit.int qk key).wf = true) (r : Option Int) (hr : f key = r)
    (hK : wpList P ops Q rest (a.put o.dst (.tuple #[.int qe (r.getD 0), .bool r.isSome])) w) : wpList P ops Q (o :: rest) a w := by
  subst hr
  obtain ⟨D, hown, hD⟩ := h
  obtain ⟨h1, h2⟩ := hD key hw
  refine wpList_lookup_own_ok_int w hg m x T hop K E qe (int_keyed hm.hK) hm.hT hm.hE (hm.hz w) b n D ha hown _ _ hx (keyOf_int_mk hm.hK hw) ?_
  intro c hat hwc
  rw [h2] at hat
  obtain rfl : (f key).getD 0 = c := by
    injection hat with hat
    injection hat
  rw [h1]
  exact hK
/-- 'm[k]'. -/
theorem wpList_mapI (hg : o.guard = none) (m x : Operand) (hop : o.op = Op.lookup T m x false) (b n : Nat) (f : Int → Option Int) (ha : a.eval m = .map (some b)) (h : MapI P K E qk qe w b n f) (key : Int) (hx : a.eval x = .int qk key) (hw : (Lit.int qk key).wf = true) (r : Option Int) (hr : f key = r)
    (hK : wpList P ops Q rest (a.put o.dst (.int qe (r.getD 0))) w) : wpList P ops Q (o :: rest) a w := by
  subst hr
  obtain ⟨D, hown, hD⟩ := h
  obtain ⟨h1, h2⟩ := hD key hw
  refine wpList_lookup_own_int w hg m x T hop K E qe (int_keyed hm.hK) hm.hT hm.hE (hm.hz w) b n D ha hown _ _ hx (keyOf_int_mk hm.hK hw) ?_
  intro c hat hwc
  rw [h2] at hat
  obtain rfl : (f key).getD 0 = c := by
    injection hat with hat
    injection hat
  exact hK
/-- 'm[k] = v'. -/
theorem wpList_mapI_put (hg : o.guard = none) (m x v : Operand) (hop : o.op = Op.mapUpdate T m x v) (b n : Nat) (f : Int → Option Int) (ha : a.eval m = .map (some b)) (h : MapI P K E qk qe w b n f) (hn : n < maxLen)
    (key val : Int) (hx : a.eval x = .int qk key) (hv : a.eval v = .int qe val) (hw : (Lit.int qk key).wf = true) (hwv : (Lit.int qe val).wf = true)
    (hK : ∀ w', MapI P K E qk qe w' b (n + 1) (upd f key val) → w.grownBy w' (some b) → wpList P ops Q rest (a.put o.dst undef) w') : wpList P ops Q (o :: rest) a w := by
  obtain ⟨D, hown, hD⟩ := h
  have hkl := keyOf_int_mk hm.hK hw
  refine wpList_mapUpdate_own w hg m x v T hop K E (int_keyed hm.hK) hm.hT _ b n D ha hown hn _ _ _ hx hv hkl _ [] (plainElem_int hm.hE hwv) ?_
  intro w' hown' hgr
  refine hK w' ⟨_, hown', fun y hy => ?_⟩ hgr
  by_cases hyk : y = key
  · subst hyk
    rw [upd_same]
    exact ⟨Maps.has_put_same hown.isMap ((int_keyed hm.hK).key hkl) _, Maps.atKey_put_same hown.isMap ((int_keyed hm.hK).key hkl) _ _⟩
  · have hne : Lit.int qk y ≠ Lit.int qk key := fun e => hyk (by injection e)
    rw [upd_other f val hyk, Maps.has_put_other hne, Maps.atKey_put_other hne]
    exact hD y hy
end
end Go.Proofs.Ytnocncmjdhlmkaa.hyp
