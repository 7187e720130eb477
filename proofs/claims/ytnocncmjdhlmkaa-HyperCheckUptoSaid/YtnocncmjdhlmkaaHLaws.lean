/- HyperLaws: what its walk needs; Within. -/
import Derived.Test.YtnocncmjdhlmkaaHCopy
import Derived.Test.YtnocncmjdhlmkaaHLawP
namespace Go.Proofs.Ytnocncmjdhlmkaa.hyp
open Go.ChangeShapes Go.WideShapes Go.ChangeAt Go.RowKit kit
set_option linter.unusedVariables false
set_option linter.unusedSimpArgs false
theorem GraphA.below {w w' : World} {v : Value} {ao : Option Addr} {cap : Nat} {E : List (List ByteArray)} {width seed : Int} {lv : Value} {bs : List BagD} (h : GraphA w v ao cap E width seed lv bs) (hb : Below w.heap.size w w') : GraphA w' v ao cap E width seed lv bs :=
  ⟨h.eq, (h.edges.stay (stay_of_below hb)).mono hb.size, h.few, h.each, (h.bags.stay (stay_of_below hb)).mono hb.size, h.bfew, h.beach, h.wwf, h.swf⟩
/-- A row of one's own of edges that are not. -/
structure BE (w0 w : World) (v : Value) (F : List (List ByteArray)) : Prop where
  below : Below w0.heap.size w0 w
  rows : ∃ vs : List Value, vs.length = F.length ∧ w.ownsRow w0.heap.size 35 1 v F.length vs ∧ ∀ j (h : j < F.length) (h' : j < vs.length), TextsA w0 w0.heap.size vs[j] F[j]
theorem BE.push {w0 w w1 : World} {v v' x : Value} {F : List (List ByteArray)} {e : List ByteArray} {xs : List Value} (h : BE w0 w v F) (o : Obj) (hrow : w.ownsRow w0.heap.size 35 1 v F.length xs) (hx : TextsA w0 w0.heap.size x e)
    (h1 : w1.ownsRow w0.heap.size 35 1 v' (F.length + 1) (xs ++ [x])) (h2 : (w.alloc o).grownBy w1 v.ownBlock) : BE w0 w1 v' (F ++ [e]) := by
  obtain ⟨vs, hl, hr, hel⟩ := h.rows
  obtain rfl := own_unique hr hrow
  refine ⟨(h.below.alloc h.below.size o).grown h2 (by rw [World.size_alloc]; have := h.below.size; omega) (fun k hk => (hr.lt k hk).1), vs ++ [x], by rw [List.length_append, List.length_append, hl]; rfl, by rw [List.length_append]; exact h1, fun j hj hj' => ?_⟩
  by_cases hjb : j < F.length
  · simp only [List.getElem_append_left hjb, List.getElem_append_left (show j < vs.length by omega)]
    exact hel j hjb (by omega)
  · have hje : j = F.length := by rw [List.length_append] at hj; simp at hj; omega
    subst hje
    simp only [List.getElem_append_right (Nat.le_refl _), Nat.sub_self, List.getElem_cons_zero]
    have e0 : (vs ++ [x])[F.length]'hj' = x := by
      rw [List.getElem_append_right (by omega)]
      simp [hl]
    rw [e0]
    exact hx
theorem BE.read {w0 w : World} {v : Value} {F : List (List ByteArray)} (h : BE w0 w v F) : EdgesA w w.heap.size v F := by
  obtain ⟨vs, hl, hr, hel⟩ := h.rows
  exact ⟨vs, hl, own_row (by rw [hl]; exact hr), fun j hj hj' => ((hel j hj hj').stay (stay_of_below h.below)).mono h.below.size⟩
/-- A copy, and one more behind it. -/
theorem edges_snoc {V w w1 : World} {v v' x : Value} {E : List (List ByteArray)} {p : List ByteArray} {xs : List Value} (h : CE V w v E) (o : Obj) (hrow : w.ownsRow V.heap.size 35 1 v E.length xs) (hx : TextsA V V.heap.size x p) (hs : ∀ e ∈ E, ∀ s ∈ e, s.size ≤ maxLen)
    (h1 : w1.ownsRow V.heap.size 35 1 v' (E.length + 1) (xs ++ [x])) (h2 : (w.alloc o).grownBy w1 v.ownBlock) : EdgesA w1 w1.heap.size v' (E ++ [p]) ∧ Below V.heap.size V w1 := by
  obtain ⟨vs, hl, hr, hel⟩ := h.own
  obtain rfl := own_unique hr hrow
  have hb : Below V.heap.size V w1 := (h.below.alloc h.below.size o).grown h2 (by rw [World.size_alloc]; have := h.below.size; omega) (fun k hk => (hr.lt k hk).1)
  refine ⟨⟨vs ++ [x], by rw [List.length_append, List.length_append, hl]; rfl, own_row (by rw [List.length_append, hl]; exact h1), fun j hj hj' => ?_⟩, hb⟩
  by_cases hjb : j < E.length
  · simp only [List.getElem_append_left hjb, List.getElem_append_left (show j < vs.length by omega)]
    have h3 := hel j hjb (by omega)
    have h4 := (h3.alloc o).kept h2 (own_apart3 (h3.alloc o) (hr.alloc o) (by decide))
    exact ⟨own_row (by rw [textsV_length]; exact h4), hs _ (List.getElem_mem hjb)⟩
  · have hje : j = E.length := by rw [List.length_append] at hj; simp at hj; omega
    subst hje
    simp only [List.getElem_append_right (Nat.le_refl _), Nat.sub_self, List.getElem_cons_zero]
    have e0 : (vs ++ [x])[E.length]'hj' = x := by
      rw [List.getElem_append_right (by omega)]
      simp [hl]
    rw [e0]
    exact (hx.stay (stay_of_below hb)).mono hb.size
/-- The first part of texts. -/
theorem TextsA.part {w : World} {B : Nat} {a : Option Addr} {c : Nat} {l : List ByteArray} (h : TextsA w B (.slice a l.length c) l) {m : Nat} (hm : m ≤ l.length) : TextsA w B (.slice a m c) (l.take m) := by
  refine ⟨?_, fun s hs => h.size s (List.mem_of_mem_take hs)⟩
  have hlen : (textsV (l.take m)).length = m := by rw [textsV_length, List.length_take]; omega
  rcases h.row with ⟨ao, cap, hv, hl⟩ | ⟨b, off, cap, hv, h0, hc, hB, hj⟩
  · have : l = [] := by cases l with | nil => rfl | cons a l => simp [textsV] at hl
    subst this
    obtain rfl : m = 0 := by simpa using hm
    exact .inl ⟨a, c, rfl, rfl⟩
  · injection hv with h1 h2 h3
    subst h1 h3
    by_cases hm0 : m = 0
    · subst hm0
      exact .inl ⟨_, c, rfl, by simp [textsV]⟩
    · rw [textsV_length] at hc
      refine .inr ⟨b, off, c, by rw [hlen], by omega, by omega, hB, fun j h => ?_⟩
      have h5 := hj j (by rw [textsV_length]; omega)
      rw [h5]
      simp [textsV]
set_option maxRecDepth 100000 in
/-- A number below n. -/
theorem within_num (w : World) (i : Int) (n : Nat) (hi : (Lit.int .i64 i).wf = true) (h0 : 0 < n) (hn : n ≤ 1048576) :
    Calls Try.prog 24 #[.int .i64 i, .int .i64 (n : Int)] w fun e w' => (∃ k : Nat, k < n ∧ e = .returned (.int .i64 (k : Int))) ∧ w' = w := by
  have hne : ¬ (n : Int) = 0 := by omega
  have hi2 : -9223372036854775808 ≤ i ∧ i ≤ 9223372036854775807 := by
    simp [Lit.wf, IntKind.min, IntKind.max, IntKind.signed, IntKind.bits] at hi
    omega
  have ht : i.tmod (n : Int) < n := Int.tmod_lt_of_pos _ (by omega)
  have ht2 : -(i.tmod (n : Int)) < n := by rw [← Int.neg_tmod]; exact Int.tmod_lt_of_pos _ (by omega)
  obtain ⟨r, hr⟩ : ∃ r, i.tmod (n : Int) = r := ⟨_, rfl⟩
  rw [hr] at ht ht2
  by_cases hneg : r < 0
  · obtain ⟨k, hk⟩ := Int.eq_ofNat_of_zero_le (show 0 ≤ r + n by omega)
    have hw : IntKind.i64.wrap (r + (n : Int)) = (k : Int) := by rw [IntWalk.i64_in _ (by omega)]; exact hk
    have hkn : k < n := by omega
    replace hk := Lib.hid hk
    go_enter Try.func24, Try.ntmps24
    go_wp2
    go_ret
    exact ⟨⟨k, hkn, by first | rfl | (rw [hk.out])⟩, rfl⟩
  · obtain ⟨k, hk⟩ := Int.eq_ofNat_of_zero_le (show 0 ≤ r by omega)
    have hkn : k < n := by omega
    subst hk
    go_enter Try.func24, Try.ntmps24
    go_wp2
    go_ret
    exact ⟨⟨k, hkn, rfl⟩, rfl⟩
end Go.Proofs.Ytnocncmjdhlmkaa.hyp
