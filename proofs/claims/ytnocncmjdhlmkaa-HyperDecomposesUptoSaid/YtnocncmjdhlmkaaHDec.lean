/- Decompose: what it tells (plain), and its world. -/
import Derived.Test.YtnocncmjdhlmkaaHTold2
import Derived.Test.YtnocncmjdhlmkaaHWidth
import Derived.Test.YtnocncmjdhlmkaaHypE
namespace Go.Proofs.Ytnocncmjdhlmkaa.hyp
open Go.ChangeShapes Go.WideShapes Go.ChangeAt Go.RowKit kit
set_option linter.unusedVariables false
set_option linter.unusedSimpArgs false
/-- A bag as data: names, numbers of edges, the parent. -/
structure BagD where
  names : List ByteArray
  edges : List Int
  parent : Int
def natI (l : List Nat) : List Int := l.map fun (n : Nat) => (n : Int)
/-- The parent's number. -/
def parI (ms : List Nat) (turn all i : Nat) : Int := if i = 0 then -1 else ((parS ms turn all i : Nat) : Int)
def bagI (ns : List ByteArray) (ms : List Nat) (turn all i : Nat) : BagD := ⟨namesOf ns (bits (sS ms turn all i)), natI (bits (coverN ms (sS ms turn all i))), parI ms turn all i⟩
/-- How many are taken. -/
def stepsF (ms : List Nat) (turn : Nat) : Nat → Nat → Nat
  | 0, _ => 0
  | n + 1, out => if out = 0 then 0 else stepsF ms turn n (minus out (bit (lastN ms turn out))) + 1
def bagsR (ns : List ByteArray) (ms : List Nat) (turn all n : Nat) : List BagD := (List.range n).map (bagI ns ms turn all)
theorem bagsR_succ (ns : List ByteArray) (ms : List Nat) (turn all n : Nat) : bagsR ns ms turn all (n + 1) = bagsR ns ms turn all n ++ [bagI ns ms turn all n] := by
  unfold bagsR
  rw [List.range_succ, List.map_append]
  rfl
theorem bagsR_length (ns : List ByteArray) (ms : List Nat) (turn all n : Nat) : (bagsR ns ms turn all n).length = n := by unfold bagsR; simp
theorem atS_succ {ms : List Nat} {turn all : Nat} (g : Good ms all) {i : Nat} (h0 : outS ms turn all i ≠ 0) (u : Nat) : atS ms turn all (i + 1) u = if u = vS ms turn all i then i else atS ms turn all i u := by
  have hlow : ∀ l, l < i → outS ms turn all l ≠ 0 := fun l hl => outS_low g h0 (by omega)
  by_cases h : u = vS ms turn all i
  · rw [if_pos h, h]
    exact atS_eq g (Nat.lt_succ_self i) h0 hlow
  · rw [if_neg h]
    unfold atS
    rw [List.range_succ, List.find?_append]
    have h2 : List.find? (fun j => vS ms turn all j == u) [i] = none := by
      rw [List.find?_cons_of_neg]
      · rfl
      · simp; exact fun e => h e.symm
    rw [h2, Option.or_none]
/-- The cells of bags. -/
def bagV (vv ve : Value) (p : Int) : List Value := [vv, ve, .int .i64 p]
/-- Bags in rows of one's own. -/
def BagsO (w : World) (B : Nat) (v : Value) (bs : List BagD) : Prop :=
  ∃ rs : List (Value × Value), rs.length = bs.length ∧ w.ownsRow B 45 3 v bs.length ((rs.zip bs).flatMap fun x => bagV x.1.1 x.1.2 x.2.parent) ∧
    ∀ i (h : i < bs.length) (h' : i < rs.length), w.ownsRow B 9 1 rs[i].1 bs[i].names.length (textsV bs[i].names) ∧ w.ownsRow B 3 1 rs[i].2 bs[i].edges.length (numsV bs[i].edges)
theorem BagsO.nil (w : World) (B : Nat) : BagsO w B (.slice none 0 0) [] := ⟨[], rfl, World.ownsRow_nil _ _ _ _, fun i h => by simp at h⟩
theorem own_base {w : World} {B B' : Nat} {e : TypeId} {s : Nat} {v : Value} {n : Nat} {xs : List Value} (h : w.ownsRow B e s v n xs) (hB : B' ≤ B) : w.ownsRow B' e s v n xs := by
  refine ⟨h.1, h.2.imp id fun ⟨g, cap, cur, h1, h2, r⟩ => ⟨g, cap, cur, h1, by omega, r⟩⟩
theorem own_block3 {w : World} {B : Nat} {e : TypeId} {s : Nat} {v : Value} {n : Nat} {xs : List Value} (h : w.ownsRow B e s v n xs) {g : Nat} (hg : v.ownBlock = some g) : ∃ cur, w.heap[g]? = some (.cells cur e (0, 0)) := by
  rcases h.2 with ⟨rfl, _⟩ | ⟨g', cap, cur, rfl, _, hh, _⟩
  · cases hg
  · simp only [Value.ownBlock, Option.some.injEq] at hg
    subst hg
    exact ⟨cur, hh⟩
theorem own_apart3 {w : World} {B B' : Nat} {e e' : TypeId} {s s' : Nat} {v v' : Value} {n n' : Nat} {xs xs' : List Value} (h : w.ownsRow B e s v n xs) (h' : w.ownsRow B' e' s' v' n' xs') (hne : e ≠ e') : v.ownBlock = none ∨ v.ownBlock ≠ v'.ownBlock := by
  cases hv : v.ownBlock with
  | none => exact .inl rfl
  | some g =>
    refine .inr fun e0 => hne ?_
    obtain ⟨c, hc⟩ := own_block3 h hv
    obtain ⟨c', hc'⟩ := own_block3 h' e0.symm
    rw [hc] at hc'
    cases hc'
    rfl
theorem own_map3 {w : World} {B : Nat} {e : TypeId} {s : Nat} {v : Value} {n b : Nat} {xs : List Value} (h : w.ownsRow B e s v n xs) (hb : ∃ es clock, w.heap[b]? = some (.map es clock)) : v.ownBlock ≠ some b := by
  intro e0
  obtain ⟨c, hc⟩ := own_block3 h e0
  obtain ⟨es, cl, hm⟩ := hb
  rw [hm] at hc
  cases hc
theorem BagsO.map {w w' : World} {B m : Nat} {v : Value} {bs : List BagD} (h : BagsO w B v bs) (hm : ∃ es clock, w.heap[m]? = some (.map es clock)) (hg : w.grownBy w' (some m)) : BagsO w' B v bs := by
  obtain ⟨rs, h1, h2, h3⟩ := h
  refine ⟨rs, h1, h2.kept hg (.inr (own_map3 h2 hm)), fun i hi hi' => ?_⟩
  obtain ⟨a, b⟩ := h3 i hi hi'
  exact ⟨a.kept hg (.inr (own_map3 a hm)), b.kept hg (.inr (own_map3 b hm))⟩
theorem BagsO.below {w w' : World} {B : Nat} {v : Value} {bs : List BagD} (h : BagsO w B v bs) (hb : Below w.heap.size w w') : BagsO w' B v bs := by
  obtain ⟨rs, h1, h2, h3⟩ := h
  have hg := grown_below hb
  refine ⟨rs, h1, h2.kept hg (by cases v.ownBlock <;> simp), fun i hi hi' => ?_⟩
  obtain ⟨a, b⟩ := h3 i hi hi'
  exact ⟨a.kept hg (by cases rs[i].1.ownBlock <;> simp), b.kept hg (by cases rs[i].2.ownBlock <;> simp)⟩
/-- A bag more. -/
theorem BagsO.push {w w1 : World} {B : Nat} {v v' vv ve : Value} {bs : List BagD} (h : BagsO w B v bs) (o : Obj) (b : BagD) (hv : w.ownsRow B 9 1 vv b.names.length (textsV b.names)) (he : w.ownsRow B 3 1 ve b.edges.length (numsV b.edges))
    (h1 : ∀ xs : List Value, w.ownsRow B 45 3 v bs.length xs → w1.ownsRow B 45 3 v' (bs.length + 1) (xs ++ bagV vv ve b.parent)) (h2 : (w.alloc o).grownBy w1 v.ownBlock) : BagsO w1 B v' (bs ++ [b]) := by
  obtain ⟨rs, hl, hrow, hel⟩ := h
  have hrowa := hrow.alloc o
  refine ⟨rs ++ [(vv, ve)], by rw [List.length_append, List.length_append, hl]; rfl, ?_, fun i hi hi' => ?_⟩
  · rw [List.zip_append hl, List.flatMap_append, List.length_append]
    have := h1 _ hrow
    simpa using this
  · by_cases hib : i < bs.length
    · have h3 := hel i hib (by omega)
      simp only [List.getElem_append_left hib, List.getElem_append_left (show i < rs.length by omega)]
      exact ⟨(h3.1.alloc o).kept h2 (own_apart3 (h3.1.alloc o) hrowa (by decide)), (h3.2.alloc o).kept h2 (own_apart3 (h3.2.alloc o) hrowa (by decide))⟩
    · have hie : i = bs.length := by rw [List.length_append] at hi; simp at hi; omega
      subst hie
      simp only [List.getElem_append_right (Nat.le_refl _), hl, Nat.sub_self, List.getElem_cons_zero]
      have e : (rs ++ [(vv, ve)])[bs.length]'hi' = (vv, ve) := by
        rw [List.getElem_append_right (by omega)]
        simp [hl]
      rw [e]
      exact ⟨(hv.alloc o).kept h2 (own_apart3 (hv.alloc o) hrowa (by decide)), (he.alloc o).kept h2 (own_apart3 (he.alloc o) hrowa (by decide))⟩
end Go.Proofs.Ytnocncmjdhlmkaa.hyp
