/- Ear by ear: what is left is nothing just where the width is at most one. Plain. -/
import Derived.Test.YtnocncmjdhlmkaaHypE
namespace Go.Proofs.Ytnocncmjdhlmkaa.hyp
set_option linter.unusedVariables false
theorem getD_at {l : List Nat} {i : Nat} (h : i < l.length) : l.getD i 0 = l[i] := by rw [List.getD_eq_getElem?_getD, List.getElem?_eq_getElem h, Option.getD_some]
/-- All variables of some edges. -/
def uni : List Nat → Nat
  | [] => 0
  | e :: l => e ||| uni l
theorem uni_iff (i : Nat) : ∀ l : List Nat, (uni l).testBit i = true ↔ ∃ e ∈ l, e.testBit i = true
  | [] => by simp [uni]
  | e :: l => by
    rw [uni, Nat.testBit_or, Bool.or_eq_true, uni_iff i l]
    simp
theorem uni_lt : ∀ l : List Nat, (∀ e ∈ l, e < 65536) → uni l < 65536
  | [], _ => by simp [uni]
  | e :: l, h => by
    rw [uni]
    exact or_lt (h e (by simp)) (uni_lt l fun x hx => h x (by simp [hx]))
/-- In how many edges a variable is. -/
def cnt (v : Nat) (l : List Nat) : Nat := (l.filter fun e => e.testBit v).length
/-- A variable that is in one edge alone is struck. -/
def strip (v : Nat) (l : List Nat) : List Nat := if cnt v l = 1 then l.map fun e => minus e (bit v) else l
/-- The first n variables, one behind the other. -/
def strips : Nat → List Nat → List Nat
  | 0, l => l
  | n + 1, l => strip n (strips n l)
/-- Was any struck? -/
def stripM : Nat → List Nat → Bool
  | 0, _ => false
  | n + 1, l => stripM n l || (cnt n (strips n l) == 1)
/-- Is an edge nothing, or within another one? -/
def inner (l : List Nat) (i : Nat) : Bool := l.getD i 0 == 0 || (List.range l.length).any fun k => k != i && minus (l.getD i 0) (l.getD k 0) == 0
def dropI (l : List Nat) : Option Nat := (List.range l.length).find? (inner l)
/-- One time over all: what is left, and whether anything has turned. -/
def ears (n : Nat) (l : List Nat) : List Nat × Bool :=
  match dropI (strips n l) with
  | some i => ((strips n l).eraseIdx i, true)
  | none => (strips n l, stripM n l)
def meas (l : List Nat) : Nat := l.sum + l.length
theorem cnt_le_one {v : Nat} {l : List Nat} (h : cnt v l = 1) : ∃ e ∈ l, e.testBit v = true ∧ ∀ f ∈ l, f.testBit v = true → f = e := by
  unfold cnt at h
  obtain ⟨e, he⟩ := List.length_eq_one_iff.1 h
  have hm : ∀ f, f ∈ l.filter (fun e => e.testBit v) ↔ f = e := fun f => by rw [he, List.mem_singleton]
  refine ⟨e, (List.mem_filter.1 ((hm e).2 rfl)).1, by simpa using (List.mem_filter.1 ((hm e).2 rfl)).2, fun f hf hv => (hm f).1 (List.mem_filter.2 ⟨hf, by simpa using hv⟩)⟩
theorem minus_le (e s : Nat) : minus e s ≤ e := Nat.and_le_left
theorem map_sum_le (g : Nat → Nat) (hg : ∀ e, g e ≤ e) : ∀ l : List Nat, (l.map g).sum ≤ l.sum
  | [] => by simp
  | e :: l => by
    have h1 := map_sum_le g hg l
    have h2 := hg e
    simp only [List.map_cons, List.sum_cons]
    omega
theorem map_sum_lt (g : Nat → Nat) (hg : ∀ e, g e ≤ e) : ∀ l : List Nat, (∃ e ∈ l, g e < e) → (l.map g).sum < l.sum
  | [], h => by obtain ⟨e, he, _⟩ := h; cases he
  | e :: l, h => by
    obtain ⟨x, hx, hlt⟩ := h
    have h1 := map_sum_le g hg l
    have h2 := hg e
    simp only [List.map_cons, List.sum_cons]
    rcases List.mem_cons.1 hx with rfl | hx
    · omega
    · have := map_sum_lt g hg l ⟨x, hx, hlt⟩
      omega
theorem strip_mem {v : Nat} {l : List Nat} (h : ∀ e ∈ l, e < 65536) : ∀ e ∈ strip v l, e < 65536 := by
  unfold strip
  split
  · intro e he
    obtain ⟨f, hf, rfl⟩ := List.mem_map.1 he
    exact minus_lt _ _ (h f hf)
  · exact h
theorem strips_mem {l : List Nat} (h : ∀ e ∈ l, e < 65536) : ∀ n, ∀ e ∈ strips n l, e < 65536
  | 0 => h
  | n + 1 => strip_mem (strips_mem h n)
theorem strip_length (v : Nat) (l : List Nat) : (strip v l).length = l.length := by
  unfold strip
  split
  · rw [List.length_map]
  · rfl
theorem strips_length (l : List Nat) : ∀ n, (strips n l).length = l.length
  | 0 => rfl
  | n + 1 => by rw [strips, strip_length, strips_length l n]
theorem strip_meas {v : Nat} {l : List Nat} (h : ∀ e ∈ l, e < 65536) : meas (strip v l) ≤ meas l ∧ (cnt v l = 1 → meas (strip v l) < meas l) := by
  by_cases hc : cnt v l = 1
  · have h2 : strip v l = l.map fun e => minus e (bit v) := by unfold strip; rw [if_pos hc]
    obtain ⟨e, he, hv, -⟩ := cnt_le_one hc
    have h3 := map_sum_lt (fun e => minus e (bit v)) (fun e => minus_le e _) l ⟨e, he, minus_bit_lt (h e he) hv⟩
    have h4 : meas (strip v l) < meas l := by
      unfold meas
      rw [h2, List.length_map]
      omega
    exact ⟨by omega, fun _ => h4⟩
  · have h2 : strip v l = l := by unfold strip; rw [if_neg hc]
    exact ⟨by rw [h2]; exact Nat.le_refl _, fun e => absurd e hc⟩
theorem strips_meas {l : List Nat} (h : ∀ e ∈ l, e < 65536) : ∀ n, meas (strips n l) ≤ meas l ∧ (stripM n l = true → meas (strips n l) < meas l)
  | 0 => ⟨Nat.le_refl _, fun e => by simp [stripM] at e⟩
  | n + 1 => by
    obtain ⟨h1, h2⟩ := strips_meas h n
    obtain ⟨h3, h4⟩ := strip_meas (v := n) (strips_mem h n)
    refine ⟨Nat.le_trans h3 h1, fun e => ?_⟩
    rw [stripM, Bool.or_eq_true] at e
    rcases e with e | e
    · have := h2 e
      rw [strips]
      omega
    · have := h4 (by simpa using e)
      rw [strips]
      omega
theorem eraseIdx_meas : ∀ (l : List Nat) (i : Nat), i < l.length → meas (l.eraseIdx i) < meas l
  | [], i, h => by simp at h
  | e :: l, 0, _ => by
    unfold meas
    simp
    omega
  | e :: l, i + 1, h => by
    have h1 := eraseIdx_meas l i (by simpa using h)
    unfold meas at h1 ⊢
    simp only [List.eraseIdx_cons_succ, List.sum_cons, List.length_cons]
    omega
theorem dropI_some {l : List Nat} {i : Nat} (h : dropI l = some i) : i < l.length ∧ inner l i = true := by
  unfold dropI at h
  rw [List.find?_range_eq_some] at h
  exact ⟨by simpa using h.2.1, h.1⟩
theorem dropI_none {l : List Nat} (h : dropI l = none) : ∀ i, i < l.length → inner l i = false := by
  unfold dropI at h
  rw [List.find?_range_eq_none] at h
  intro i hi
  simpa using h i hi
theorem ears_meas {n : Nat} {l : List Nat} (h : ∀ e ∈ l, e < 65536) (hm : (ears n l).2 = true) : meas (ears n l).1 < meas l := by
  obtain ⟨h1, h2⟩ := strips_meas h n
  unfold ears at hm ⊢
  cases hd : dropI (strips n l) with
  | some i =>
    have := eraseIdx_meas _ i (dropI_some hd).1
    simp only
    omega
  | none =>
    rw [hd] at hm
    exact h2 hm
theorem ears_mem {n : Nat} {l : List Nat} (h : ∀ e ∈ l, e < 65536) : ∀ e ∈ (ears n l).1, e < 65536 := by
  unfold ears
  cases hd : dropI (strips n l) with
  | some i => exact fun e he => strips_mem h n e (List.mem_of_mem_eraseIdx he)
  | none => exact strips_mem h n
/-- Till nothing turns. -/
def gyoF (n : Nat) : Nat → List Nat → List Nat
  | 0, l => l
  | f + 1, l => if (ears n l).2 = true then gyoF n f (ears n l).1 else (ears n l).1
def gyo (n : Nat) (l : List Nat) : List Nat := gyoF n (meas l + 1) l
theorem gyoF_fuel (n : Nat) : ∀ (f g : Nat) (l : List Nat), (∀ e ∈ l, e < 65536) → meas l < f → meas l < g → gyoF n f l = gyoF n g l := by
  intro f
  induction f with
  | zero => intro g l _ h; omega
  | succ f ih =>
    intro g l hl h1 h2
    obtain ⟨g, rfl⟩ : ∃ k, g = k + 1 := ⟨g - 1, by omega⟩
    rw [gyoF, gyoF]
    by_cases hm : (ears n l).2 = true
    · have := ears_meas hl hm
      rw [if_pos hm, if_pos hm]
      exact ih g _ (ears_mem hl) (by omega) (by omega)
    · rw [if_neg hm, if_neg hm]
theorem gyo_eq (n : Nat) {l : List Nat} (hl : ∀ e ∈ l, e < 65536) : gyo n l = if (ears n l).2 = true then gyo n (ears n l).1 else (ears n l).1 := by
  unfold gyo
  rw [gyoF]
  by_cases hm : (ears n l).2 = true
  · have := ears_meas hl hm
    rw [if_pos hm, if_pos hm]
    exact gyoF_fuel n _ _ _ (ears_mem hl) (by omega) (by omega)
  · rw [if_neg hm, if_neg hm]
/-! ### The law -/
theorem WP.first {E : List Nat} {k out : Nat} (h : WP E k out) : out ≠ 0 → out < 65536 → ∃ v, out.testBit v = true ∧ CovK E k (bagN E 0 v) := by
  induction h with
  | nil => intro h; exact absurd rfl h
  | @step out v hv hr hc ih =>
    intro _ ho
    by_cases h0 : minus out (bit v) = 0
    · exact ⟨v, hv, by rw [h0] at hc; exact hc⟩
    · obtain ⟨u, hu, hcu⟩ := ih h0 (minus_lt _ _ ho)
      refine ⟨u, ?_, hcu⟩
      rw [testBit_minus ho (bit_lt (lt16 ho hv)), Bool.and_eq_true] at hu
      exact hu.1
/-- Where nothing is left to strike, and something is left, the width is above one. -/
theorem stuck {n : Nat} {l : List Nat} (hl : ∀ e ∈ l, e < 65536) (hn : ∀ e ∈ l, ∀ i, e.testBit i = true → i < n) (h1 : ∀ v, v < n → cnt v l ≠ 1) (h2 : ∀ i, i < l.length → inner l i = false) (h0 : l ≠ []) :
    ¬ WP l 1 (uni l) := by
  intro h
  have hne : ∀ i (hi : i < l.length), l[i] ≠ 0 := by
    intro i hi e
    have := h2 i hi
    unfold inner at this
    rw [getD_at hi, e] at this
    simp at this
  have hu : uni l ≠ 0 := by
    intro e
    have hpos := List.length_pos_iff.2 h0
    apply hne 0 hpos
    apply Nat.eq_of_testBit_eq
    intro i
    rw [Nat.zero_testBit]
    apply Bool.eq_false_iff.2
    intro hi
    have := (uni_iff i l).2 ⟨_, List.getElem_mem hpos, hi⟩
    rw [e, Nat.zero_testBit] at this
    cases this
  obtain ⟨v, hv, L, hL, hLm, hLc⟩ := h.first hu (uni_lt l hl)
  have hv16 := lt16 (uni_lt l hl) hv
  obtain ⟨f, hf, hfv⟩ := (uni_iff v l).1 hv
  have hvn := hn f hf v hfv
  -- all edges with v are within one
  have hself : (bagN l 0 v).testBit v = true := (bagN_iff hl (by decide) hv16 v).2 ⟨.start, by simp⟩
  obtain ⟨e, he, hev⟩ := hLc v hself
  have hone : ∀ x ∈ L, x = e := by
    match L, hL, he with
    | [y], _, he => intro x hx; rw [List.mem_singleton] at he hx; rw [hx, he]
    | [], _, he => cases he
    | _ :: _ :: _, hL, _ => simp at hL
  have hsub : ∀ g ∈ l, g.testBit v = true → Sub g e := by
    intro g hg hgv x hx
    have : (bagN l 0 v).testBit x = true := (bagN_iff hl (by decide) hv16 x).2 ⟨.step .start (by rw [Nat.zero_or, testBit_bit]; simp) hg hgv hx, by simp⟩
    obtain ⟨y, hy, hyx⟩ := hLc x this
    rw [← hone y hy]; exact hyx
  obtain ⟨j, hj, hje⟩ := List.getElem_of_mem (hLm e he)
  -- another edge with v
  have h3 : ∃ i, ∃ hi : i < l.length, i ≠ j ∧ l[i].testBit v = true := by
    apply Classical.byContradiction
    intro hno
    apply h1 v hvn
    unfold cnt
    have : l.filter (fun e => e.testBit v) = [e] := by
      have hl2 : l = l.take j ++ e :: l.drop (j + 1) := by
        rw [← hje, ← List.drop_eq_getElem_cons hj, List.take_append_drop]
      have ha : (l.take j).filter (fun e => e.testBit v) = [] := by
        rw [List.filter_eq_nil_iff]
        intro x hx hxv
        obtain ⟨i, hi, rfl⟩ := List.getElem_of_mem hx
        rw [List.length_take] at hi
        apply hno
        refine ⟨i, by omega, by omega, ?_⟩
        simpa using hxv
      have hb : (l.drop (j + 1)).filter (fun e => e.testBit v) = [] := by
        rw [List.filter_eq_nil_iff]
        intro x hx hxv
        obtain ⟨i, hi, rfl⟩ := List.getElem_of_mem hx
        rw [List.length_drop] at hi
        apply hno
        refine ⟨j + 1 + i, by omega, by omega, ?_⟩
        simpa using hxv
      rw [hl2, List.filter_append, List.filter_cons, if_pos hev, ha, hb]
      rfl
    rw [this]
    rfl
  obtain ⟨i, hi, hij, hiv⟩ := h3
  have h4 := h2 i hi
  unfold inner at h4
  rw [Bool.or_eq_false_iff, List.any_eq_false] at h4
  apply h4.2 j (List.mem_range.2 hj)
  rw [getD_at hi, getD_at hj, hje]
  have h5 : minus l[i] e = 0 := (minus_zero (hl _ (List.getElem_mem hi)) (hl e (hLm e he))).2 (hsub _ (List.getElem_mem hi) hiv)
  rw [h5]
  simp
  exact fun e => hij e.symm
section
variable {l : List Nat} {v : Nat} (hl : ∀ e ∈ l, e < 65536) (hv16 : v < 16)
include hl hv16
omit hv16 in
theorem strip_lt : ∀ e ∈ l.map (fun e => minus e (bit v)), e < 65536 := by
  intro e he
  obtain ⟨f, hf, rfl⟩ := List.mem_map.1 he
  exact minus_lt _ _ (hl f hf)
theorem bit_strip {e : Nat} (he : e ∈ l) (x : Nat) : (minus e (bit v)).testBit x = true ↔ e.testBit x = true ∧ x ≠ v := by
  rw [testBit_minus (hl e he) (bit_lt hv16), testBit_bit, Bool.and_eq_true]
  simp
  intro _
  exact ⟨fun h e => h e.symm, fun h e => h e.symm⟩
/-- What one comes to without v one comes to. -/
theorem Reach.unstrip {A A' u x : Nat} (hA : Sub A A') (h : Reach (l.map fun e => minus e (bit v)) A u x) : Reach l A' u x := by
  induction h with
  | start => exact .start
  | @step x y e h hAx he hx hy ih =>
    obtain ⟨f, hf, rfl⟩ := List.mem_map.1 he
    exact .step ih (hA _ hAx) hf ((bit_strip hl hv16 hf x).1 hx).1 ((bit_strip hl hv16 hf y).1 hy).1
/-- What one comes to through v one comes to without it. -/
theorem Reach.strip {e0 : Nat} (he0 : e0 ∈ l) (huni : ∀ f ∈ l, f.testBit v = true → f = e0) {A A' u x : Nat} (huv : u ≠ v) (hA : ∀ x, x ≠ v → A.testBit x = true → A'.testBit x = true) (h : Reach l A u x) :
    (x ≠ v ∧ Reach (l.map fun e => minus e (bit v)) A' u x) ∨ (x = v ∧ ∃ y, y ≠ v ∧ e0.testBit y = true ∧ A'.testBit y = true ∧ Reach (l.map fun e => minus e (bit v)) A' u y) := by
  induction h with
  | start => exact .inl ⟨huv, .start⟩
  | @step x y e h hAx he hx hy ih =>
    have hin : ∀ e ∈ l, minus e (bit v) ∈ l.map fun e => minus e (bit v) := fun e he => List.mem_map.2 ⟨e, he, rfl⟩
    rcases ih with ⟨hxv, hr⟩ | ⟨rfl, z, hzv, hz0, hzA, hr⟩
    · by_cases hyv : y = v
      · subst hyv
        obtain rfl := huni e he hy
        exact .inr ⟨rfl, x, hxv, hx, hA x hxv hAx, hr⟩
      · exact .inl ⟨hyv, .step hr (hA x hxv hAx) (hin e he) ((bit_strip hl hv16 he x).2 ⟨hx, hxv⟩) ((bit_strip hl hv16 he y).2 ⟨hy, hyv⟩)⟩
    · obtain rfl := huni e he hx
      by_cases hyv : y = x
      · exact .inr ⟨hyv, z, hzv, hz0, hzA, hr⟩
      · exact .inl ⟨hyv, .step hr hzA (hin e he) ((bit_strip hl hv16 he z).2 ⟨hz0, hzv⟩) ((bit_strip hl hv16 he y).2 ⟨hy, hyv⟩)⟩
theorem cov_strip {k s : Nat} (h : CovK l k s) : ∀ t, (∀ x, t.testBit x = true → s.testBit x = true ∧ x ≠ v) → CovK (l.map fun e => minus e (bit v)) k t := by
  obtain ⟨L, hL, hm, hc⟩ := h
  intro t ht
  refine ⟨L.map fun e => minus e (bit v), by rw [List.length_map]; exact hL, ?_, ?_⟩
  · intro e he
    obtain ⟨f, hf, rfl⟩ := List.mem_map.1 he
    exact List.mem_map.2 ⟨f, hm f hf, rfl⟩
  · intro x hx
    obtain ⟨h1, h2⟩ := ht x hx
    obtain ⟨e, he, hex⟩ := hc x h1
    exact ⟨_, List.mem_map.2 ⟨e, he, rfl⟩, (bit_strip hl hv16 (hm e he) x).2 ⟨hex, h2⟩⟩
theorem cov_unstrip {k s : Nat} (h : CovK (l.map fun e => minus e (bit v)) k s) : CovK l k s := by
  obtain ⟨L, hL, hm, hc⟩ := h
  have : ∀ L : List Nat, (∀ e ∈ L, e ∈ l.map fun e => minus e (bit v)) → ∃ M : List Nat, M.length ≤ L.length ∧ (∀ e ∈ M, e ∈ l) ∧ ∀ e ∈ L, ∃ f ∈ M, Sub e f := by
    intro L
    induction L with
    | nil => exact fun _ => ⟨[], Nat.le_refl _, (fun e he => by cases he), (fun e he => by cases he)⟩
    | cons e L ih =>
      intro h
      obtain ⟨M, h1, h2, h3⟩ := ih fun x hx => h x (by simp [hx])
      obtain ⟨f, hf, rfl⟩ := List.mem_map.1 (h e (by simp))
      refine ⟨f :: M, by simp; omega, ?_, ?_⟩
      · intro x hx
        rcases List.mem_cons.1 hx with rfl | hx
        · exact hf
        · exact h2 x hx
      · intro x hx
        rcases List.mem_cons.1 hx with rfl | hx
        · exact ⟨f, by simp, fun y hy => ((bit_strip hl hv16 hf y).1 hy).1⟩
        · obtain ⟨g, hg, hs⟩ := h3 x hx
          exact ⟨g, by simp [hg], hs⟩
  obtain ⟨M, h1, h2, h3⟩ := this L hm
  refine ⟨M, by omega, h2, fun x hx => ?_⟩
  obtain ⟨e, he, hex⟩ := hc x hx
  obtain ⟨f, hf, hs⟩ := h3 e he
  exact ⟨f, hf, hs x hex⟩
theorem WP.strip {k out : Nat} (h : WP l k out) : out < 65536 → WP (l.map fun e => minus e (bit v)) k (minus out (bit v)) := by
  induction h with
  | nil => intro _; rw [show minus 0 (bit v) = 0 from by unfold minus; exact Nat.zero_and _]; exact .nil
  | @step out u hu hr hc ih =>
    intro ho
    have hu16 := lt16 ho hu
    have hro := minus_lt out (bit u) ho
    have ih := ih hro
    have hb : ∀ x, (minus (minus out (bit u)) (bit v)).testBit x = (out.testBit x && !decide (u = x) && !decide (v = x)) := fun x => by
      rw [testBit_minus hro (bit_lt hv16), testBit_minus ho (bit_lt hu16), testBit_bit, testBit_bit]
    have hb2 : ∀ x, (minus out (bit v)).testBit x = (out.testBit x && !decide (v = x)) := fun x => by
      rw [testBit_minus ho (bit_lt hv16), testBit_bit]
    by_cases huv : u = v
    · have : minus out (bit v) = minus (minus out (bit u)) (bit v) := by
        apply Nat.eq_of_testBit_eq
        intro x
        rw [hb, hb2, huv]
        cases out.testBit x <;> simp
      rw [this]
      exact ih
    · have hcm : minus (minus out (bit v)) (bit u) = minus (minus out (bit u)) (bit v) := by
        apply Nat.eq_of_testBit_eq
        intro x
        rw [hb, testBit_minus (minus_lt _ _ ho) (bit_lt hu16), hb2, testBit_bit]
        cases out.testBit x <;> cases decide (u = x) <;> cases decide (v = x) <;> rfl
      refine .step (v := u) (by rw [hb2, hu]; simp; exact fun e => huv e.symm) (by rw [hcm]; exact ih) ?_
      rw [hcm]
      refine cov_strip hl hv16 hc _ ?_
      intro x hx
      rw [bagN_iff (strip_lt hl) (minus_lt _ _ hro) hu16] at hx
      have hxv : x ≠ v := by
        rcases hx.1.edge with rfl | ⟨e, he, hex⟩
        · exact huv
        · obtain ⟨f, hf, rfl⟩ := List.mem_map.1 he
          exact ((bit_strip hl hv16 hf x).1 hex).2
      refine ⟨(bagN_iff hl hro hu16 x).2 ⟨hx.1.unstrip hl hv16 ?_, ?_⟩, hxv⟩
      · intro y hy
        rw [Nat.testBit_or, Bool.or_eq_true] at hy ⊢
        refine hy.imp (fun hy => ?_) id
        rw [testBit_minus hro (bit_lt hv16), Bool.and_eq_true] at hy
        exact hy.1
      · have h2 := hx.2
        rw [testBit_minus hro (bit_lt hv16), testBit_bit] at h2
        have h3 : decide (v = x) = false := decide_eq_false fun e => hxv e.symm
        rw [h3] at h2
        simpa using h2
theorem WP.unstrip {e0 k : Nat} (hk : 1 ≤ k) (he0 : e0 ∈ l) (hv0 : e0.testBit v = true) (huni : ∀ f ∈ l, f.testBit v = true → f = e0) {out : Nat} (h : WP (l.map fun e => minus e (bit v)) k out) :
    out < 65536 → out.testBit v = false → WP l k (out ||| bit v) := by
  induction h with
  | nil =>
    intro _ _
    have hz : minus (0 ||| bit v) (bit v) = 0 := (minus_zero (by rw [Nat.zero_or]; exact bit_lt hv16) (bit_lt hv16)).2 (by rw [Nat.zero_or]; exact Sub.refl _)
    refine .step (v := v) (by rw [Nat.zero_or, testBit_bit]; simp) (by rw [hz]; exact .nil) ?_
    rw [hz]
    refine ⟨[e0], by simpa using hk, by simpa using he0, fun x hx => ⟨e0, by simp, ?_⟩⟩
    rw [bagN_iff hl (by decide) hv16] at hx
    have : ∀ x, Reach l (0 ||| bit v) v x → e0.testBit x = true := by
      intro x hx
      induction hx with
      | start => exact hv0
      | @step x y e h hA he hx hy ih =>
        rw [Nat.zero_or, testBit_bit, decide_eq_true_eq] at hA
        subst hA
        obtain rfl := huni e he hx
        exact hy
    exact this x hx.1
  | @step out u hu hr hc ih =>
    intro ho hov
    have hu16 := lt16 ho hu
    have hro := minus_lt out (bit u) ho
    have huv : u ≠ v := fun e => by rw [e, hov] at hu; cases hu
    have hrv : (minus out (bit u)).testBit v = false := by rw [testBit_minus ho (bit_lt hu16), hov]; rfl
    have ih := ih hro hrv
    have hov16 := or_lt ho (bit_lt hv16)
    have hcm : minus (out ||| bit v) (bit u) = minus out (bit u) ||| bit v := by
      apply Nat.eq_of_testBit_eq
      intro x
      rw [Nat.testBit_or, testBit_minus hov16 (bit_lt hu16), testBit_minus ho (bit_lt hu16), Nat.testBit_or, testBit_bit, testBit_bit]
      by_cases h1 : u = x
      · have : ¬ v = x := fun e => huv (h1.trans e.symm)
        simp [h1, this]
      · simp [h1]
    refine .step (v := u) (by rw [Nat.testBit_or, hu]; rfl) (by rw [hcm]; exact ih) ?_
    rw [hcm]
    obtain ⟨L, hL, hm, hcc⟩ := cov_unstrip hl hv16 hc
    refine ⟨L, hL, hm, fun x hx => hcc x ?_⟩
    rw [bagN_iff hl (or_lt hro (bit_lt hv16)) hu16] at hx
    have hxo := hx.2
    rw [Nat.testBit_or, testBit_bit, Bool.or_eq_false_iff] at hxo
    have hxv : x ≠ v := fun e => by simp [e] at hxo
    have hsub : ∀ y, y ≠ v → (minus out (bit u) ||| bit v ||| bit u).testBit y = true → (minus out (bit u) ||| bit u).testBit y = true := by
      intro y hy hA
      rw [Nat.testBit_or, Nat.testBit_or, testBit_bit, Bool.or_eq_true, Bool.or_eq_true] at hA
      rw [Nat.testBit_or, Bool.or_eq_true]
      rcases hA with (hA | hA) | hA
      · exact .inl hA
      · simp at hA; exact absurd hA.symm hy
      · exact .inr hA
    rcases hx.1.strip hl hv16 he0 huni (A' := minus out (bit u) ||| bit u) huv hsub with ⟨_, hr⟩ | ⟨e, _⟩
    · exact (bagN_iff (strip_lt hl) hro hu16 x).2 ⟨hr, hxo.1⟩
    · exact absurd e hxv
end
theorem strip_iff {l : List Nat} {v : Nat} (hl : ∀ e ∈ l, e < 65536) (hv16 : v < 16) : WP (strip v l) 1 (uni (strip v l)) ↔ WP l 1 (uni l) := by
  unfold strip
  by_cases hc : cnt v l = 1
  · rw [if_pos hc]
    obtain ⟨e0, he0, hv0, huni⟩ := cnt_le_one hc
    have hu : uni (l.map fun e => minus e (bit v)) = minus (uni l) (bit v) := by
      apply Nat.eq_of_testBit_eq
      intro x
      apply Bool.eq_iff_iff.2
      rw [testBit_minus (uni_lt l hl) (bit_lt hv16), testBit_bit, Bool.and_eq_true, uni_iff, uni_iff]
      constructor
      · rintro ⟨e, he, hx⟩
        obtain ⟨f, hf, rfl⟩ := List.mem_map.1 he
        obtain ⟨h1, h2⟩ := (bit_strip hl hv16 hf x).1 hx
        exact ⟨⟨f, hf, h1⟩, by simp; exact fun e => h2 e.symm⟩
      · rintro ⟨⟨f, hf, h1⟩, h2⟩
        refine ⟨_, List.mem_map.2 ⟨f, hf, rfl⟩, (bit_strip hl hv16 hf x).2 ⟨h1, fun e => ?_⟩⟩
        simp [e] at h2
    rw [hu]
    have hub : (uni l).testBit v = true := (uni_iff v l).2 ⟨e0, he0, hv0⟩
    constructor
    · intro h
      have h1 := h.unstrip hl hv16 (Nat.le_refl 1) he0 hv0 huni (minus_lt _ _ (uni_lt l hl)) (by rw [testBit_minus (uni_lt l hl) (bit_lt hv16), testBit_bit]; simp)
      have h2 : minus (uni l) (bit v) ||| bit v = uni l := by
        apply Nat.eq_of_testBit_eq
        intro x
        rw [Nat.testBit_or, testBit_minus (uni_lt l hl) (bit_lt hv16), testBit_bit]
        by_cases hx : v = x
        · rw [← hx, hub]; simp
        · simp [hx]
      rw [h2] at h1
      exact h1
    · exact fun h => h.strip hl hv16 (uni_lt l hl)
  · rw [if_neg hc]
theorem strips_iff {l : List Nat} (hl : ∀ e ∈ l, e < 65536) : ∀ n, n ≤ 16 → (WP (strips n l) 1 (uni (strips n l)) ↔ WP l 1 (uni l))
  | 0, _ => Iff.rfl
  | n + 1, h => (strip_iff (strips_mem hl n) (by omega)).trans (strips_iff hl n (by omega))
theorem uni_within {l m : List Nat} (h1 : Within l m) (h2 : Within m l) : uni l = uni m := by
  have : ∀ {l m : List Nat}, Within l m → Sub (uni l) (uni m) := by
    intro l m h i hi
    obtain ⟨e, he, hx⟩ := (uni_iff i l).1 hi
    rcases h e he with rfl | ⟨f, hf, hs⟩
    · rw [Nat.zero_testBit] at hx; cases hx
    · exact (uni_iff i m).2 ⟨f, hf, hs i hx⟩
  exact Sub.antisymm (this h1) (this h2)
theorem erase_iff {l : List Nat} {i : Nat} (hl : ∀ e ∈ l, e < 65536) (hi : i < l.length) (hin : inner l i = true) : WP (l.eraseIdx i) 1 (uni (l.eraseIdx i)) ↔ WP l 1 (uni l) := by
  have hl2 : ∀ e ∈ l.eraseIdx i, e < 65536 := fun e he => hl e (List.mem_of_mem_eraseIdx he)
  have h1 : Within (l.eraseIdx i) l := fun e he => .inr ⟨e, List.mem_of_mem_eraseIdx he, Sub.refl _⟩
  have hmem : ∀ k (hk : k < l.length), k ≠ i → l[k] ∈ l.eraseIdx i := fun k hk hki => List.mem_eraseIdx_iff_getElem.2 ⟨k, hk, hki, rfl⟩
  have h2 : Within l (l.eraseIdx i) := by
    intro e he
    obtain ⟨j, hj, rfl⟩ := List.getElem_of_mem he
    by_cases hji : j = i
    · subst hji
      unfold inner at hin
      rw [Bool.or_eq_true, getD_at hj] at hin
      rcases hin with h0 | h0
      · exact .inl (by simpa using h0)
      · obtain ⟨k, hk, h3⟩ := List.any_eq_true.1 h0
        rw [List.mem_range] at hk
        rw [Bool.and_eq_true, getD_at hk] at h3
        have hkj : k ≠ j := by simpa using h3.1
        exact .inr ⟨_, hmem k hk hkj, (minus_zero (hl _ (List.getElem_mem hj)) (hl _ (List.getElem_mem hk))).1 (by simpa using h3.2)⟩
    · exact .inr ⟨_, hmem j hj hji, Sub.refl _⟩
  rw [uni_within h1 h2]
  exact ⟨fun h => h.within hl2 hl h1 h2 (uni_lt l hl), fun h => h.within hl hl2 h2 h1 (uni_lt l hl)⟩
theorem ears_iff {n : Nat} {l : List Nat} (hl : ∀ e ∈ l, e < 65536) (hn : n ≤ 16) : WP (ears n l).1 1 (uni (ears n l).1) ↔ WP l 1 (uni l) := by
  refine Iff.trans ?_ (strips_iff hl n hn)
  unfold ears
  cases hd : dropI (strips n l) with
  | some i => exact erase_iff (strips_mem hl n) (dropI_some hd).1 (dropI_some hd).2
  | none => exact Iff.rfl
theorem strips_fix {l : List Nat} : ∀ n, stripM n l = false → strips n l = l ∧ ∀ v, v < n → cnt v l ≠ 1
  | 0, _ => ⟨rfl, fun v hv => by omega⟩
  | n + 1, h => by
    rw [stripM, Bool.or_eq_false_iff] at h
    obtain ⟨h1, h2⟩ := strips_fix n h.1
    have h3 : cnt n l ≠ 1 := by rw [h1] at h; simpa using h.2
    refine ⟨?_, fun v hv => ?_⟩
    · rw [strips, h1]
      unfold strip
      rw [if_neg h3]
    · by_cases hvn : v = n
      · rw [hvn]; exact h3
      · exact h2 v (by omega)
theorem strips_bits {l : List Nat} {m : Nat} (hl : ∀ e ∈ l, e < 65536) (h : ∀ e ∈ l, ∀ i, e.testBit i = true → i < m) : ∀ n, ∀ e ∈ strips n l, ∀ i, e.testBit i = true → i < m
  | 0 => h
  | n + 1 => by
    have ih := strips_bits hl h n
    rw [strips]
    unfold strip
    split
    · intro e he i hi
      obtain ⟨f, hf, rfl⟩ := List.mem_map.1 he
      refine ih f hf i ?_
      unfold minus at hi
      rw [Nat.testBit_and, Bool.and_eq_true] at hi
      exact hi.1
    · exact ih
theorem ears_bits {n m : Nat} {l : List Nat} (hl : ∀ e ∈ l, e < 65536) (h : ∀ e ∈ l, ∀ i, e.testBit i = true → i < m) : ∀ e ∈ (ears n l).1, ∀ i, e.testBit i = true → i < m := by
  unfold ears
  cases hd : dropI (strips n l) with
  | some i => exact fun e he => strips_bits hl h n e (List.mem_of_mem_eraseIdx he)
  | none => exact strips_bits hl h n
/-- Ear by ear one comes to nothing just where the width is at most one. -/
theorem gyo_iff {n : Nat} (hn : n ≤ 16) : ∀ (k : Nat) (l : List Nat), meas l ≤ k → (∀ e ∈ l, e < 65536) → (∀ e ∈ l, ∀ i, e.testBit i = true → i < n) → (gyo n l = [] ↔ WP l 1 (uni l)) := by
  intro k
  induction k with
  | zero =>
    intro l hk hl hb
    have h0 : l = [] := List.length_eq_zero_iff.1 (by unfold meas at hk; omega)
    subst h0
    rw [gyo_eq n hl]
    have h1 := ears_meas (n := n) hl
    have h2 : (ears n []).2 = false := by
      cases h : (ears n []).2
      · rfl
      · have := h1 h; simp [meas] at this
    rw [h2]
    have h3 : (ears n []).1 = [] := by
      have h4 : strips n [] = [] := List.length_eq_zero_iff.1 (by rw [strips_length]; rfl)
      unfold ears
      rw [h4]
      rfl
    simp [h3]
    exact .nil
  | succ k ih =>
    intro l hk hl hb
    rw [gyo_eq n hl]
    have he := ears_iff (n := n) hl hn
    cases hm : (ears n l).2 with
    | true =>
      have h1 := ears_meas hl hm
      simp only [if_true]
      exact (ih _ (by omega) (ears_mem hl) (ears_bits hl hb)).trans he
    | false =>
      simp only [Bool.false_eq_true, if_false]
      constructor
      · intro h
        rw [h] at he
        exact he.1 .nil
      · intro h
        have hd : dropI (strips n l) = none ∧ stripM n l = false := by
          unfold ears at hm
          cases hd : dropI (strips n l) with
          | some i => rw [hd] at hm; cases hm
          | none => rw [hd] at hm; exact ⟨rfl, hm⟩
        obtain ⟨h2, h3⟩ := strips_fix n hd.2
        have h4 : (ears n l).1 = l := by unfold ears; rw [hd.1]; exact h2
        rw [h4]
        apply Classical.byContradiction
        intro hne
        rw [h2] at hd
        exact stuck hl hb h3 (dropI_none hd.1) hne h
end Go.Proofs.Ytnocncmjdhlmkaa.hyp
