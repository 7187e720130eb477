/- Texts HRSets, HRCov, HRBag, HRWid, one behind the other. -/
import Derived.Test.YtnocncmjdhlmkaaHRef3
import Derived.Test.YtnocncmjdhlmkaaHTold2
import Derived.Test.YtnocncmjdhlmkaaHBag
import Derived.Deep.OwnRows
/- The reference: edges as sets in bits of whole numbers. -/
namespace Go.Proofs.Ytnocncmjdhlmkaa.hyp
open Go.ChangeShapes Go.WideShapes Go.ChangeAt Go.RowKit kit
set_option linter.unusedVariables false
set_option linter.unusedSimpArgs false
theorem bit_i64 (k : Nat) (hk : k < 16) : IntKind.i64.wrap (2 ^ k) = ((bit k : Nat) : Int) := by
  have h := bit_lt hk
  have e : ((2 : Int) ^ k) = ((bit k : Nat) : Int) := by unfold bit; simp
  rw [e]
  exact IntWalk.i64_in _ (by omega)
theorem natsV_snoc (L : List Nat) (x : Nat) : natsV (L ++ [x]) = natsV L ++ [.int .i64 (x : Int)] := by simp [natsV]
theorem idxI_in {ns : List ByteArray} {s : ByteArray} (h : s ∈ ns) : idxI ns s = ((ns.idxOf s : Nat) : Int) := by unfold idxI; rw [if_pos h]
theorem setN_take {ns e : List ByteArray} {j : Nat} (h : j < e.length) : setN ns (e.take (j + 1)) = setN ns (e.take j) ||| bit (ns.idxOf e[j]) := by
  rw [List.take_succ_eq_append_getElem h, setN_snoc]
theorem setN_small {ns e : List ByteArray} (hn : ns.length ≤ 12) (he : ∀ v ∈ e, v ∈ ns) : setN ns e < 65536 := by
  have : Sub (setN ns e) (2 ^ ns.length - 1) := fun i hi => by
    obtain ⟨v, hv, rfl⟩ := (setN_iff ns e i).1 hi
    rw [full_bit]
    exact decide_eq_true (List.idxOf_lt_length_of_mem (he v hv))
  have h2 := this.le
  have h3 := pow_le12 hn
  omega
set_option maxRecDepth 100000 in
set_option maxHeartbeats 4000000 in
theorem rsets_any (w : World) (ao : Option Addr) (cap : Nat) (E : List (List ByteArray)) (hE : EdgesA w w.heap.size (.slice ao E.length cap) E) (hs : sizeE E ≤ 1000) (hl : E.length ≤ 1048576) (hn12 : (varsR E).length ≤ 12) :
    Calls Try.prog 36 #[.slice ao E.length cap] w fun e w' => ∃ v, e = .returned v ∧ OW 3 w w.heap.size v (natsV (setsR E)) w' := by
  have hvs := vars_any w ao cap E hE hs hl
  obtain ⟨ao2, cap2, hv, hec⟩ := hE.form
  obtain ⟨rfl, rfl⟩ : ao = ao2 ∧ cap = cap2 := by injection hv with h1 h2 h3; exact ⟨h1, h3⟩
  replace hec : Hid (∀ i (hi : i < E.length), ∃ b off a c, ao = some ⟨b, off, none⟩ ∧ w.cell? ⟨b, off + i, none⟩ = some (.slice a E[i].length c) ∧ ∀ j (hj : j < E[i].length), ∃ b2 off2, a = some ⟨b2, off2, none⟩ ∧ w.cell? ⟨b2, off2 + j, none⟩ = some (.string E[i][j])) := Lib.hid fun i hi => by
    obtain ⟨b, off, u, h1, -, h2, h3⟩ := hec i hi
    obtain ⟨a, c, rfl, h4⟩ := h3.form
    exact ⟨b, off, a, c, h1, h2, fun j hj => by obtain ⟨b2, off2, h5, -, h6⟩ := h4 j hj; exact ⟨b2, off2, h5, h6⟩⟩
  obtain ⟨i0, hi, hz0, hz1, hz2⟩ := info_parts infoInt
  replace hi := Lib.hid hi
  replace hz0 := Lib.hid hz0
  replace hz1 := Lib.hid hz1
  replace hz2 := Lib.hid hz2
  have hmem : Hid (∀ i (hi : i < E.length), ∀ v ∈ E[i], v ∈ varsR E) := Lib.hid fun i hi v hv => mem_vars (List.getElem_mem hi) hv
  have hset : Hid (∀ k, (E.take k).map (setN (varsR E)) = (setsR E).take k) := Lib.hid fun k => by unfold setsR; rw [List.map_take]
  have hsl : (setsR E).length = E.length := by unfold setsR; simp
  have hsg : Hid (∀ i (hi : i < E.length), (setsR E).take (i + 1) = (setsR E).take i ++ [setN (varsR E) E[i]]) := Lib.hid fun i hi => by
    rw [List.take_succ_eq_append_getElem (by omega)]
    simp [setsR]
  obtain ⟨S, hS⟩ : ∃ S, setsR E = S := ⟨_, rfl⟩
  rw [hS] at hset hsl hsg ⊢
  replace hvs := Lib.hid hvs
  clear hE hv hS
  go_enter Try.func36, Try.ntmps36
  go_wp2_with fail
  refine hvs.out.mono ?_
  rintro e w1 ⟨nv, rfl, hW1⟩
  obtain ⟨an, cn, rfl, hnc⟩ := hW1.at
  replace hnc := Lib.hid hnc
  generalize varsR E = ns at *
  have hb1 := Lib.hid hW1.below
  clear hW1 hvs
  go_wp2
  go_loopw [4, 5] (fun v i wr => ∃ n : Nat, n ≤ E.length ∧ i = .int .i64 (n : Int) ∧ Hid (OW 3 w1 w1.heap.size v (natsV (S.take n)) wr)) (fun _ i _ => E.length - (intOf i).toNat)
  case atStart => exact ⟨0, by omega, rfl, Lib.hid (OW.start _ _ _)⟩
  case round =>
    obtain ⟨n, hn, rfl, hW⟩ := hrel
    have hst := stay_of_below hW.out.below
    by_cases hlt : n < E.length
    · have hki : (n : Int) < (E.length : Int) := by omega
      have hn1 := Lib.hid (show n + 1 ≤ E.length from hlt)
      obtain ⟨b, off, a, c, rfl, hc, hcc⟩ := hec.out n hlt
      have hcr := hst.cell ((stay_of_below hb1.out).cell hc)
      have hxl := Nat.le_trans (edge_le hlt) hs
      have hmx := Lib.hid (hmem.out n hlt)
      have hS1 := hsg.out n hlt
      have hStl : (S.take n).length = n := by rw [List.length_take]; omega
      have hcc2 : Hid (∀ j (hj : j < E[n].length), ∃ b2 off2, a = some ⟨b2, off2, none⟩ ∧ wr.cell? ⟨b2, off2 + j, none⟩ = some (.string E[n][j])) := Lib.hid fun j hj => by
        obtain ⟨b2, off2, h1, h2⟩ := hcc j hj
        exact ⟨b2, off2, h1, hst.cell ((stay_of_below hb1.out).cell h2)⟩
      have hnc2 := Lib.hid (fun j (hj : j < ns.length) => (by
        obtain ⟨b, off, h1, h2, h3⟩ := hnc.out j hj
        exact ⟨b, off, h1, Nat.lt_of_lt_of_le h2 hW.out.below.size, hst.cell h3⟩ : ∃ b off, an = some ⟨b, off, none⟩ ∧ b < wr.heap.size ∧ wr.cell? ⟨b, off + j, none⟩ = some (.string ns[j])))
      generalize hx : E[n] = x at *
      clear hx hlt hcc hc hst
      go_wp2
      go_loop [6, 7] (fun s i => ∃ j : Nat, j ≤ x.length ∧ i = .int .i64 (j : Int) ∧ s = .int .i64 ((setN ns (x.take j) : Nat) : Int)) (fun _ i => x.length - (intOf i).toNat)
      case atStart => exact ⟨0, by omega, rfl, rfl⟩
      case round =>
        obtain ⟨j, hj, rfl, rfl⟩ := hrel
        by_cases hlj : j < x.length
        · have hkj : (j : Int) < (x.length : Int) := by omega
          have hj1 := Lib.hid (show j + 1 ≤ x.length from hlj)
          obtain ⟨b2, off2, rfl, hc2⟩ := hcc2.out j hlj
          have hsm := setN_small (e := x.take j) hn12 (fun v hv => hmx.out v (List.mem_of_mem_take hv))
          have hs1 := setN_take (ns := ns) hlj
          have hxm := hmx.out _ (List.getElem_mem hlj)
          have hix := rindex_any wr an cn ns x[j] (by omega) hnc2.out
          have hxi := idxI_in hxm
          generalize idxI ns x[j] = ii at *
          subst hxi
          have hi12 := List.idxOf_lt_length_of_mem hxm
          generalize ns.idxOf x[j] = ix at *
          generalize hs2 : setN ns (x.take (j + 1)) = s2 at *
          replace hs2 := Lib.hid hs2
          generalize setN ns (x.take j) = s at *
          generalize x[j] = t at *
          have hbi := bit_i64 ix (by omega)
          have hor := i64_or_nat s (bit ix) hsm (bit_lt (by omega))
          rw [← hs1] at hor
          have hbl := bit_lt (v := ix) (by omega)
          generalize bit ix = bx at *
          replace hix := Lib.hid hix
          replace hs1 := Lib.hid hs1
          clear hlj hxm
          go_wp2_with fail
          refine hix.out.mono ?_
          rintro e w4 ⟨rfl, rfl⟩
          go_wp2
          go_round
          case rel => exact ⟨j + 1, hj1.out, by go_num, by rw [hs2.out]⟩
          case measure => have := hj1.out; simp [intOf]; omega
        · have hkj : ¬ (j : Int) < (x.length : Int) := by omega
          obtain rfl : j = x.length := by omega
          rw [List.take_length]
          have hown := hW.out.own
          have hsz := hW.out.below.size
          have hnl : (natsV (S.take n)).length ≤ 1048576 := by rw [natsV_length]; omega
          have hmv : natsV (S.take n) ++ [.int .i64 ((setN ns x : Nat) : Int)] = natsV (S.take (n + 1)) := by rw [hS1, natsV_snoc]
          generalize hT2 : S.take (n + 1) = T2 at *
          replace hT2 := Lib.hid hT2
          generalize S.take n = T at *
          generalize setN ns x = s at *
          replace hS1 := Lib.hid hS1
          replace hmv := Lib.hid hmv
          go_wp2_with (at_builtin; refine wpList_append_own _ rfl _ _ 43 rfl w1.heap.size 3 i0 (.int .i64 0) 1 8 Try.underlying43 hi.out hz0.out hz1.out hz2.out rfl (by decide) _ (natsV T).length (natsV T) rfl (hown.alloc _) _ 1 _ [.int .i64 (s : Int)] rfl rfl ?c1 ?c2 ?c3 ?c4 ?c5 ?c6)
          case c2 => simp [Value.oneCell']
          case c3 => simp only [maxLen]; omega
          case c4 => omega
          case c5 => first | omega | (simp; omega)
          case c6 =>
            intro v' w5 h1 h2 _
            have hW5 := hW.out.step (v' := v') (w' := w5) hsz (.cells #[.int .i64 (s : Int)] 3) (.int .i64 (s : Int)) (by rw [natsV_length, hStl]; exact h1) h2
            rw [hmv.out] at hW5
            replace hW5 := Lib.hid hW5
            clear hown h1 h2 hW
            go_wp2
            go_roundw
            case rel => exact ⟨n + 1, hn1.out, by go_num, by rw [hT2.out]; exact hW5⟩
            case measure => have := hn1.out; simp [intOf]; omega
    · have hki : ¬ (n : Int) < (E.length : Int) := by omega
      obtain rfl : n = E.length := by omega
      rw [List.take_of_length_le (by omega)] at hW
      go_wp2
      go_ret
      exact ⟨_, rfl, ⟨hb1.out.trans (hW.out.below.mono hb1.out.size), own_base hW.out.own hb1.out.size⟩⟩
end Go.Proofs.Ytnocncmjdhlmkaa.hyp

/- The reference: cover and bag. -/
namespace Go.Proofs.Ytnocncmjdhlmkaa.hyp
open Go.ChangeShapes Go.WideShapes Go.ChangeAt Go.RowKit kit
set_option linter.unusedVariables false
set_option linter.unusedSimpArgs false
/-- A slice of sets, to be read. -/
def SetsA (w : World) (a : Option Addr) (ms : List Nat) : Prop := ∀ j (hj : j < ms.length), ∃ b off, a = some ⟨b, off, none⟩ ∧ w.cell? ⟨b, off + j, none⟩ = some (.int .i64 ((ms[j] : Nat) : Int))
theorem SetsA.stay {w w' : World} {a : Option Addr} {ms : List Nat} (h : SetsA w a ms) (hs : CellsStay w w') : SetsA w' a ms := fun j hj => by
  obtain ⟨b, off, h1, h2⟩ := h j hj
  exact ⟨b, off, h1, hs.cell h2⟩
def orC (ms : List Nat) (c : Nat) : Nat → Nat
  | 0 => 0
  | k + 1 => if c.testBit k = true then orC ms c k ||| ms.getD k 0 else orC ms c k
def cnC (c : Nat) : Nat → Nat
  | 0 => 0
  | k + 1 => if c.testBit k = true then cnC c k + 1 else cnC c k
def covR (ms : List Nat) (s : Nat) : Nat → Nat
  | 0 => ms.length + 1
  | c + 1 => if orC ms c ms.length &&& s = s ∧ cnC c ms.length < covR ms s c then cnC c ms.length else covR ms s c
def refCov (ms : List Nat) (s : Nat) : Nat := covR ms s (2 ^ ms.length)
theorem orC_lt {ms : List Nat} (hE : ∀ e ∈ ms, e < 65536) (c : Nat) : ∀ k, orC ms c k < 65536
  | 0 => by rw [orC]; omega
  | k + 1 => by
    have ih := orC_lt hE c k
    have hg : ms.getD k 0 < 65536 := by
      by_cases h : k < ms.length
      · rw [getD_at h]; exact hE _ (List.getElem_mem h)
      · rw [List.getD_eq_getElem?_getD, List.getElem?_eq_none (by omega)]; decide
    rw [orC]
    split
    · exact or_lt ih hg
    · exact ih
theorem cnC_le (c : Nat) : ∀ k, cnC c k ≤ k
  | 0 => Nat.le_refl _
  | k + 1 => by
    have := cnC_le c k
    rw [cnC]
    split <;> omega
theorem covR_le (ms : List Nat) (s : Nat) : ∀ n, covR ms s n ≤ ms.length + 1
  | 0 => Nat.le_refl _
  | n + 1 => by
    have := covR_le ms s n
    have := cnC_le n ms.length
    rw [covR]
    split <;> omega
theorem orC_bit (ms : List Nat) (c i : Nat) : ∀ k, (orC ms c k).testBit i = true ↔ ∃ j, j < k ∧ c.testBit j = true ∧ (ms.getD j 0).testBit i = true
  | 0 => by simp [orC]
  | k + 1 => by
    have ih := orC_bit ms c i k
    rw [orC]
    by_cases hc : c.testBit k = true
    · rw [if_pos hc, Nat.testBit_or, Bool.or_eq_true, ih]
      constructor
      · rintro (⟨j, h1, h2⟩ | h)
        · exact ⟨j, by omega, h2⟩
        · exact ⟨k, by omega, hc, h⟩
      · rintro ⟨j, h1, h2, h3⟩
        by_cases hj : j = k
        · subst hj; exact .inr h3
        · exact .inl ⟨j, by omega, h2, h3⟩
    · rw [if_neg hc, ih]
      constructor
      · rintro ⟨j, h1, h2⟩; exact ⟨j, by omega, h2⟩
      · rintro ⟨j, h1, h2, h3⟩
        refine ⟨j, ?_, h2, h3⟩
        by_cases hj : j = k
        · subst hj; exact absurd h2 hc
        · omega
theorem cnC_eq (c : Nat) : ∀ k, cnC c k = ((List.range k).filter fun i => c.testBit i).length
  | 0 => rfl
  | k + 1 => by
    rw [cnC, List.range_succ, List.filter_append, List.length_append, ← cnC_eq c k]
    cases h : c.testBit k <;> simp [h]
theorem cnC_stay {c n : Nat} (hc : c < 2 ^ n) : ∀ m, cnC c (n + m) = cnC c n
  | 0 => rfl
  | m + 1 => by
    rw [← Nat.add_assoc, cnC, if_neg (fun h => by have := lt_of_testBit hc h; omega), cnC_stay hc m]
theorem cnC_pop {c n : Nat} (hc : c < 2 ^ n) (hn : n ≤ 16) : cnC c n = pop c := by
  have h := cnC_stay hc (16 - n)
  rw [show n + (16 - n) = 16 by omega, cnC_eq] at h
  exact h.symm
theorem orC_sub {ms : List Nat} {c s : Nat} (hE : ∀ e ∈ ms, e < 65536) (hs : s < 65536) : orC ms c ms.length &&& s = s ↔ minus s (unionN ms c) = 0 := by
  rw [minus_zero hs (unionN_lt ms hE c)]
  have hb : ∀ i, (orC ms c ms.length).testBit i = true ↔ (unionN ms c).testBit i = true := fun i => by
    rw [orC_bit, unionN_iff]
    constructor
    · rintro ⟨j, h1, h2, h3⟩
      rw [getD_at h1] at h3
      exact ⟨j, _, List.getElem?_eq_getElem h1, h2, h3⟩
    · rintro ⟨j, e, h1, h2, h3⟩
      obtain ⟨h4, rfl⟩ := List.getElem?_eq_some_iff.1 h1
      exact ⟨j, h4, h2, by rw [getD_at h4]; exact h3⟩
  constructor
  · intro h i hi
    rw [← h, Nat.testBit_and, Bool.and_eq_true] at hi
    exact (hb i).1 hi.1
  · intro h
    apply Nat.eq_of_testBit_eq
    intro i
    rw [Nat.testBit_and]
    cases hi : s.testBit i with
    | false => simp
    | true => rw [(hb i).2 (h i hi)]; rfl
theorem covR_spec {ms : List Nat} {s : Nat} (hE : ∀ e ∈ ms, e < 65536) (hlen : ms.length ≤ 8) (hs : s < 65536) : ∀ n, n ≤ 2 ^ ms.length →
    (covR ms s n = ms.length + 1 ∨ ∃ c, c < n ∧ minus s (unionN ms c) = 0 ∧ covR ms s n = pop c) ∧ ∀ c, c < n → minus s (unionN ms c) = 0 → covR ms s n ≤ pop c
  | 0, _ => ⟨.inl rfl, fun c h => by omega⟩
  | n + 1, hn => by
    obtain ⟨h1, h2⟩ := covR_spec hE hlen hs n (by omega)
    have hp : cnC n ms.length = pop n := cnC_pop (by omega) (by omega)
    have hsub := orC_sub (c := n) hE hs
    rw [covR]
    by_cases hc : orC ms n ms.length &&& s = s ∧ cnC n ms.length < covR ms s n
    · rw [if_pos hc, hp]
      refine ⟨.inr ⟨n, by omega, hsub.1 hc.1, rfl⟩, fun c h3 h4 => ?_⟩
      by_cases hcn : c = n
      · rw [hcn]; exact Nat.le_refl _
      · have := h2 c (by omega) h4; have := hc.2; omega
    · rw [if_neg hc]
      refine ⟨h1.imp id fun ⟨c, h3, h4⟩ => ⟨c, by omega, h4⟩, fun c h3 h4 => ?_⟩
      by_cases hcn : c = n
      · subst hcn
        have : ¬ cnC c ms.length < covR ms s c := fun h => hc ⟨hsub.2 h4, h⟩
        omega
      · exact h2 c (by omega) h4
theorem pop_full {n : Nat} (hn : n ≤ 8) : pop (2 ^ n - 1) = n := by
  have h0 : 0 < 2 ^ n := Nat.two_pow_pos n
  rw [← cnC_pop (n := n) (by omega) (by omega), cnC_eq]
  have : (List.range n).filter (fun i => (2 ^ n - 1).testBit i) = List.range n := by
    rw [List.filter_eq_self]
    intro i hi
    rw [full_bit]
    exact decide_eq_true (List.mem_range.1 hi)
  rw [this, List.length_range]
theorem refCov_eq {ms : List Nat} {s : Nat} (hE : ∀ e ∈ ms, e < 65536) (hlen : ms.length ≤ 8) (hs : s < 65536) (hv : ∀ i, s.testBit i = true → ∃ e ∈ ms, e.testBit i = true) : refCov ms s = pop (coverN ms s) := by
  obtain ⟨h1, h2⟩ := covR_spec hE hlen hs (2 ^ ms.length) (Nat.le_refl _)
  obtain ⟨-, h3, h4⟩ := coverN_spec hE hs hv
  replace h3 := (minus_zero hs (unionN_lt ms hE _)).2 h3
  have h0 : 0 < 2 ^ ms.length := Nat.two_pow_pos _
  have h5 := h2 (2 ^ ms.length - 1) (by omega) (full_covers hE hs hv)
  rw [pop_full hlen] at h5
  have h6 := h2 (coverN ms s) (coverN_lt ms s) h3
  unfold refCov
  rcases h1 with h1 | ⟨c, hc, hc2, hc3⟩
  · omega
  · have := h4 c hc ((minus_zero hs (unionN_lt ms hE _)).1 hc2)
    omega
theorem shl_i64 {n : Nat} (h : n ≤ 12) : IntKind.i64.wrap (2 ^ n) = ((2 ^ n : Nat) : Int) := by
  have h8 := pow_le12 h
  have e : ((2 : Int) ^ n) = ((2 ^ n : Nat) : Int) := by simp
  rw [e]
  obtain ⟨N, hN⟩ : ∃ N, 2 ^ n = N := ⟨_, rfl⟩
  rw [hN] at h8 ⊢
  exact IntWalk.i64_in _ (by omega)
theorem has_i64 (s k : Nat) (hs : s < 65536) : Go.bits BinOp.and IntKind.i64 ((s : Int) / 2 ^ k) 1 = (if s.testBit k = true then 1 else 0 : Int) := by
  have h1 : ((s : Int) / 2 ^ k) = ((s / 2 ^ k : Nat) : Int) := by simp
  have h2 : s / 2 ^ k < 65536 := Nat.lt_of_le_of_lt (Nat.div_le_self _ _) hs
  have h3 := i64_and_nat (s / 2 ^ k) 1 h2 (by decide)
  rw [nat_mask1, shift_bit] at h3
  rw [h1, show (1 : Int) = ((1 : Nat) : Int) from rfl, h3]
  cases s.testBit k <;> rfl
set_option maxRecDepth 100000 in
set_option maxHeartbeats 4000000 in
theorem rcover_any (w : World) (a : Option Addr) (cap : Nat) (ms : List Nat) (hA : SetsA w a ms) (hE : ∀ e ∈ ms, e < 65536) (hlen : ms.length ≤ 8) (s : Nat) (hs : s < 65536) :
    Calls Try.prog 37 #[.slice a ms.length cap, .int .i64 (s : Int)] w fun e w' => e = .returned (.int .i64 ((refCov ms s : Nat) : Int)) ∧ w' = w := by
  have h8 := pow_le8 hlen
  have hpw := shl_i64 (n := ms.length) (by omega)
  have hor := orC_lt hE
  have hwl : IntKind.i64.wrap ((ms.length : Int) + 1) = ((ms.length + 1 : Nat) : Int) := by rw [IntWalk.i64_in _ (by omega)]; push_cast; rfl
  have hfin : covR ms s (2 ^ ms.length) = refCov ms s := rfl
  have h0 : covR ms s 0 = ms.length + 1 := rfl
  have hsucc : ∀ c, covR ms s (c + 1) = if orC ms c ms.length &&& s = s ∧ cnC c ms.length < covR ms s c then cnC c ms.length else covR ms s c := fun _ => rfl
  have hcl := covR_le ms s
  have hnl := cnC_le
  obtain ⟨N, hN⟩ : ∃ N, 2 ^ ms.length = N := ⟨_, rfl⟩
  rw [hN] at h8 hpw hfin
  replace hA := Lib.hid hA
  replace hor := Lib.hid hor
  replace hfin := Lib.hid hfin
  replace h0 := Lib.hid h0
  replace hsucc := Lib.hid hsucc
  replace hE := Lib.hid hE
  replace hcl := Lib.hid hcl
  replace hnl := Lib.hid hnl
  clear hN
  go_enter Try.func37, Try.ntmps37
  go_wp2
  go_loop [5, 6] (fun b c => ∃ k : Nat, k ≤ N ∧ c = .int .i64 (k : Int) ∧ b = .int .i64 ((covR ms s k : Nat) : Int)) (fun _ c => N - (intOf c).toNat)
  case atStart => exact ⟨0, by omega, rfl, by rw [h0.out]; push_cast; rfl⟩
  case round =>
    obtain ⟨k, hk, rfl, rfl⟩ := hrel
    by_cases hlt : k < N
    · have hki : (k : Int) < (N : Int) := by omega
      have hk1 := Lib.hid (show k + 1 ≤ N from hlt)
      go_wp2
      go_loop [7, 8, 9] (fun n al i => ∃ j : Nat, j ≤ ms.length ∧ i = .int .i64 (j : Int) ∧ n = .int .i64 ((cnC k j : Nat) : Int) ∧ al = .int .i64 ((orC ms k j : Nat) : Int)) (fun _ _ i => ms.length - (intOf i).toNat)
      case atStart => exact ⟨0, by omega, rfl, rfl, rfl⟩
      case round =>
        obtain ⟨j, hj, rfl, rfl, rfl⟩ := hrel
        by_cases hlj : j < ms.length
        · have hji : (j : Int) < (ms.length : Int) := by omega
          have hj1 := Lib.hid (show j + 1 ≤ ms.length from hlj)
          obtain ⟨b, off, rfl, hc⟩ := hA.out j hlj
          have hb := has_i64 k j (by omega)
          have ho1 : orC ms k (j + 1) = if k.testBit j = true then orC ms k j ||| ms[j] else orC ms k j := by rw [orC, getD_at hlj]; rfl
          have hc1 : cnC k (j + 1) = if k.testBit j = true then cnC k j + 1 else cnC k j := rfl
          have hol := hor.out k j
          have hel := hE.out _ (List.getElem_mem hlj)
          have hnj := hnl.out k j
          generalize hO2 : orC ms k (j + 1) = O2 at *
          generalize hC2 : cnC k (j + 1) = C2 at *
          replace hO2 := Lib.hid hO2
          replace hC2 := Lib.hid hC2
          generalize orC ms k j = O at *
          generalize cnC k j = C at *
          generalize ms[j] = e at *
          have hoo := i64_or_nat O e hol hel
          generalize O ||| e = oe at *
          cases hbt : k.testBit j with
          | true =>
            rw [hbt, if_pos rfl] at hb ho1 hc1
            replace hbt := Lib.hid hbt
            go_wp2
            go_round
            case rel => exact ⟨j + 1, hj1.out, by go_num, by rw [hC2.out, hc1]; go_num, by rw [hO2.out, ho1]⟩
            case measure => have := hj1.out; simp [intOf]; omega
          | false =>
            rw [hbt, if_neg (by simp)] at hb ho1 hc1
            replace hbt := Lib.hid hbt
            go_wp2
            go_round
            case rel => exact ⟨j + 1, hj1.out, by go_num, by rw [hC2.out, hc1], by rw [hO2.out, ho1]⟩
            case measure => have := hj1.out; simp [intOf]; omega
        · have hji : ¬ (j : Int) < (ms.length : Int) := by omega
          obtain rfl : j = ms.length := by omega
          have hs1 := hsucc.out k
          have hol := hor.out k ms.length
          have hnj := hnl.out k ms.length
          have hcv := hcl.out k
          generalize hV2 : covR ms s (k + 1) = V2 at *
          replace hV2 := Lib.hid hV2
          generalize covR ms s k = V at *
          generalize orC ms k ms.length = O at *
          generalize cnC k ms.length = C at *
          have han := i64_and_nat O s hol hs
          by_cases hq : O &&& s = s
          · have hqi : (((O &&& s : Nat) : Int) == (s : Int)) = true := by rw [hq]; simp
            by_cases hcl2 : C < V
            · have hci : (C : Int) < (V : Int) := by omega
              rw [if_pos ⟨hq, hcl2⟩] at hs1
              generalize O &&& s = os at *
              replace hq := Lib.hid hq
              go_wp2
              go_round
              case rel => exact ⟨k + 1, hk1.out, by go_num, by rw [hV2.out, hs1]⟩
              case measure => have := hk1.out; simp [intOf]; omega
            · have hci : ¬ (C : Int) < (V : Int) := by omega
              rw [if_neg (fun h => hcl2 h.2)] at hs1
              generalize O &&& s = os at *
              replace hq := Lib.hid hq
              go_wp2
              go_round
              case rel => exact ⟨k + 1, hk1.out, by go_num, by rw [hV2.out, hs1]⟩
              case measure => have := hk1.out; simp [intOf]; omega
          · have hqi : (((O &&& s : Nat) : Int) == (s : Int)) = false := beq_eq_false_iff_ne.2 (by omega)
            rw [if_neg (fun h => hq h.1)] at hs1
            generalize O &&& s = os at *
            replace hq := Lib.hid hq
            go_wp2
            go_round
            case rel => exact ⟨k + 1, hk1.out, by go_num, by rw [hV2.out, hs1]⟩
            case measure => have := hk1.out; simp [intOf]; omega
    · have hki : ¬ (k : Int) < (N : Int) := by omega
      obtain rfl : k = N := by omega
      rw [hfin.out]
      go_wp2
      go_ret
      exact ⟨rfl, rfl⟩
end Go.Proofs.Ytnocncmjdhlmkaa.hyp

/- The reference: bag. -/
namespace Go.Proofs.Ytnocncmjdhlmkaa.hyp
open Go.ChangeShapes Go.WideShapes Go.ChangeAt Go.RowKit kit
set_option linter.unusedVariables false
set_option linter.unusedSimpArgs false
set_option maxRecDepth 100000 in
set_option maxHeartbeats 4000000 in
theorem rbag_any (w : World) (a : Option Addr) (cap : Nat) (ms : List Nat) (hA : SetsA w a ms) (hE : ∀ e ∈ ms, e < 65536) (hlen : ms.length ≤ 8) (v out : Nat) (hv : v < 16) (ho : out < 65536) :
    Calls Try.prog 38 #[.slice a ms.length cap, .int .i64 (out : Int), .int .i64 (v : Int)] w fun e w' => e = .returned (.int .i64 ((bagN ms out v : Nat) : Int)) ∧ w' = w := by
  have hA16 : out ||| bit v < 65536 := or_lt ho (bit_lt hv)
  have hfin : ∀ s, Bagging ms (out ||| bit v) v s → pass ms (out ||| bit v) s = s → minus s out = bagN ms out v := fun s h hp => by
    unfold bagN
    rw [(IsClos.of h.self h.sound hp).eq (seen_is hE hv)]
  have h0 : Bagging ms (out ||| bit v) v (bit v) := ⟨bit_lt hv, by rw [testBit_bit]; simp, start_sound⟩
  have hstep : ∀ s, Bagging ms (out ||| bit v) v s → Bagging ms (out ||| bit v) v (pass ms (out ||| bit v) s) := fun s h =>
    ⟨pass_lt _ _ _ hE h.lt, pass_sub _ _ _ _ h.self, pass_sound ms s (fun _ h => h) h.sound⟩
  have hplt : ∀ k s, s < 65536 → pass (ms.take k) (out ||| bit v) s < 65536 := fun k s h => pass_lt _ _ _ (fun e he => hE e (List.mem_of_mem_take he)) h
  have hple : ∀ s, s ≤ pass ms (out ||| bit v) s := fun s => (pass_sub ms _ s).le
  have hpk : ∀ k s, s ≤ pass (ms.take k) (out ||| bit v) s := fun k s => (pass_sub _ _ s).le
  have hpm : ∀ k s, pass (ms.take k) (out ||| bit v) s ≤ pass ms (out ||| bit v) s := fun k s => by
    have h := pass_sub (ms.drop k) (out ||| bit v) (pass (ms.take k) (out ||| bit v) s)
    have e : pass (ms.drop k) (out ||| bit v) (pass (ms.take k) (out ||| bit v) s) = pass ms (out ||| bit v) s := by
      unfold pass
      rw [← List.foldl_append, List.take_append_drop]
    rw [e] at h
    exact h.le
  have hbl := bit_lt hv
  have hbi := bit_i64 v hv
  have hoA := i64_or_nat out (bit v) ho (bit_lt hv)
  generalize bagN ms out v = R at *
  generalize out ||| bit v = A at *
  generalize bit v = bv at *
  replace hfin := Lib.hid hfin
  replace hstep := Lib.hid hstep
  replace hplt := Lib.hid hplt
  replace hple := Lib.hid hple
  replace hpk := Lib.hid hpk
  replace hpm := Lib.hid hpm
  replace hE := Lib.hid hE
  replace h0 := Lib.hid h0
  replace hA := Lib.hid hA
  go_enter Try.func38, Try.ntmps38
  go_wp2
  go_loop [7, 8] (fun s m => ∃ (u : Nat) (q : Bool), s = .int .i64 (u : Int) ∧ m = .bool q ∧ Hid (Bagging ms A v u) ∧ Hid (q = false → pass ms A u = u)) (fun s m => if goesOn m then 65537 - seenOf s else 0)
  case atStart => exact ⟨bv, true, rfl, rfl, h0, Lib.hid (fun e => by cases e)⟩
  case round =>
    obtain ⟨u, q, rfl, rfl, hB, hq⟩ := hrel
    cases q with
    | false =>
      have hR := hfin.out u hB.out (hq.out rfl)
      have hm := i64_andNot_nat u out hB.out.lt ho
      rw [hR] at hm
      go_wp2
      go_ret
      exact ⟨rfl, rfl⟩
    | true =>
      have hu := hB.out.lt
      have hpt := hstep.out u hB.out
      have hge := hple.out u
      replace hB := Lib.hid hpt
      clear hpt hq
      go_wp2
      go_loop [7, 8, 9] (fun s m i => ∃ k : Nat, k ≤ ms.length ∧ i = .int .i64 (k : Int) ∧ s = .int .i64 ((pass (ms.take k) A u : Nat) : Int) ∧ m = .bool (decide (pass (ms.take k) A u ≠ u))) (fun _ _ i => ms.length - (intOf i).toNat)
      case atStart => exact ⟨0, by omega, rfl, rfl, by simp [pass]⟩
      case round =>
        obtain ⟨k, hk, rfl, rfl, rfl⟩ := hrel
        by_cases hlt : k < ms.length
        · have hki : (k : Int) < (ms.length : Int) := by omega
          have hk1 := Lib.hid (show k + 1 ≤ ms.length from hlt)
          obtain ⟨b, off, rfl, hc⟩ := hA.out k hlt
          have htk : ms.take (k + 1) = ms.take k ++ [ms[k]] := List.take_succ_eq_append_getElem hlt
          have hps := pass_snoc (ms.take k) ms[k] A u
          rw [← htk] at hps
          have hel := hE.out _ (List.getElem_mem hlt)
          have hpl := hplt.out k u hu
          have hp2 := hpk.out k u
          generalize hp1 : pass (ms.take (k + 1)) A u = p1 at *
          replace hp1 := Lib.hid hp1
          generalize pass (ms.take k) A u = p at *
          generalize ms[k] = e at *
          clear htk
          have hsubp : ((minus e p = 0) → p ||| e = p) := fun h => by
            have h2 := (minus_zero hel hpl).1 h
            apply Nat.eq_of_testBit_eq
            intro i
            rw [Nat.testBit_or]
            cases hi : e.testBit i with
            | false => simp
            | true => rw [h2 i hi]; rfl
          have hgr : minus e p ≠ 0 → p ||| e ≠ u := fun h h2 => by
            have h3 : p ≤ p ||| e := (Sub.or_left p e).le
            have h4 : p ||| e = p := by omega
            refine h ((minus_zero hel hpl).2 fun i hi => ?_)
            rw [← h4, Nat.testBit_or, hi, Bool.or_true]
          have ha0 : Go.bits .and .i64 (p : Int) (A : Int) = ((p &&& A : Nat) : Int) := i64_and_nat _ _ hpl hA16
          have hpA : p &&& A < 65536 := Nat.lt_of_le_of_lt Nat.and_le_left hpl
          have ha1 : Go.bits .and .i64 (e : Int) ((p &&& A : Nat) : Int) = ((e &&& (p &&& A) : Nat) : Int) := i64_and_nat _ _ hel hpA
          rw [← Nat.and_assoc] at ha1
          have ha2 := i64_andNot_nat e p hel hpl
          have ha3 := i64_or_nat p e hpl hel
          generalize e &&& p &&& A = c at *
          generalize p &&& A = d at *
          by_cases h0 : c = 0
          · have h0i : ((c : Int) != 0) = false := by rw [h0]; rfl
            rw [if_pos h0] at hps
            replace hsubp := Lib.hid hsubp
            replace hgr := Lib.hid hgr
            go_wp2
            go_round
            case rel => exact ⟨k + 1, hk1.out, by go_num, by rw [hp1.out, hps], by rw [hp1.out, hps]⟩
            case measure => have := hk1.out; simp [intOf]; omega
          · have h0i : ((c : Int) != 0) = true := by simp; omega
            rw [if_neg h0] at hps
            by_cases hm : minus e p = 0
            · have hmi : (((minus e p : Nat) : Int) != 0) = false := by rw [hm]; rfl
              rw [hsubp hm] at hps
              generalize minus e p = mm at *
              replace hm := Lib.hid hm
              replace hsubp := Lib.hid hsubp
              replace hgr := Lib.hid hgr
              go_wp2
              go_round
              case rel => exact ⟨k + 1, hk1.out, by go_num, by rw [hp1.out, hps], by rw [hp1.out, hps]⟩
              case measure => have := hk1.out; simp [intOf]; omega
            · have hmi : (((minus e p : Nat) : Int) != 0) = true := by simp; omega
              have hne := hgr hm
              rw [← hps] at hne ha3
              generalize minus e p = mm at *
              replace hm := Lib.hid hm
              replace hsubp := Lib.hid hsubp
              replace hgr := Lib.hid hgr
              replace hne := Lib.hid hne
              replace hps := Lib.hid hps
              go_wp2
              go_round
              case rel => exact ⟨k + 1, hk1.out, by go_num, by rw [hp1.out], by rw [hp1.out, decide_eq_true hne.out]⟩
              case measure => have := hk1.out; simp [intOf]; omega
        · have hki : ¬ (k : Int) < (ms.length : Int) := by omega
          obtain rfl : k = ms.length := by omega
          rw [List.take_length]
          by_cases he : pass ms A u = u
          · rw [decide_eq_false (fun h => h he)]
            go_wp2
            go_round
            case rel => exact ⟨_, false, rfl, rfl, hB, Lib.hid (fun _ => by rw [he, he])⟩
            case measure => simp [goesOn, seenOf] <;> omega
          · rw [decide_eq_true he]
            go_wp2
            go_round
            case rel => exact ⟨_, true, rfl, rfl, hB, Lib.hid (fun e => by cases e)⟩
            case measure => simp [goesOn, seenOf]; omega
end Go.Proofs.Ytnocncmjdhlmkaa.hyp

/- The reference: Width. -/
namespace Go.Proofs.Ytnocncmjdhlmkaa.hyp
open Go.ChangeShapes Go.WideShapes Go.ChangeAt Go.RowKit kit
set_option linter.unusedVariables false
set_option linter.unusedSimpArgs false
/-- The table's block. -/
structure RD (w0 w : World) (b : Nat) (L : List Nat) : Prop where
  below : Below w0.heap.size w0 w
  blk : Blk w b (natsV L).toArray 3
  hb : w0.heap.size ≤ b
theorem natsV_set (L : List Nat) (j x : Nat) : (natsV L).set j (.int .i64 (x : Int)) = natsV (L.set j x) := by unfold natsV; rw [List.map_set]
theorem RD.set {w0 w : World} {b : Nat} {L : List Nat} (h : RD w0 w b L) (j x : Nat) : RD w0 (w.setCell ⟨b, j, none⟩ (.int .i64 (x : Int))) b (L.set j x) := by
  refine ⟨h.below.trans (Keep.under (m := [b]) ((Keep.refl [b] w).setCell (by simp) _) _ h.below.size (by simp; exact h.hb)), ?_, h.hb⟩
  have := h.blk.set j (.int .i64 (x : Int))
  rw [List.setIfInBounds_toArray, natsV_set] at this
  exact this
theorem RD.at {w0 w : World} {b : Nat} {L : List Nat} (h : RD w0 w b L) {j : Nat} (hj : j < L.length) : w.cell? ⟨b, j, none⟩ = some (.int .i64 ((L[j] : Nat) : Int)) ∧ w.frozen? ⟨b, j, none⟩ = false := by
  refine ⟨h.blk.cell j ?_, h.blk.free j⟩
  simp [natsV, hj]
/-- The best of the first v's costs. -/
def BestTo (ms : List Nat) (s v x : Nat) : Prop := ((x = 99 ∧ ∀ u, u < v → s.testBit u = false) ∨ ∃ u, s.testBit u = true ∧ x = costN ms 0 s u) ∧ ∀ u, u < v → s.testBit u = true → x ≤ costN ms 0 s u
theorem BestTo.start (ms : List Nat) (s : Nat) : BestTo ms s 0 99 := ⟨.inl ⟨rfl, fun u h => by omega⟩, fun u h => by omega⟩
theorem BestTo.skip {ms : List Nat} {s v x : Nat} (h : BestTo ms s v x) (hb : s.testBit v = false) : BestTo ms s (v + 1) x := by
  refine ⟨?_, fun u hu hs => ?_⟩
  · rcases h.1 with ⟨h1, h2⟩ | h1
    · refine .inl ⟨h1, fun u hu => ?_⟩
      by_cases huv : u = v
      · rw [huv]; exact hb
      · exact h2 u (by omega)
    · exact .inr h1
  · by_cases huv : u = v
    · rw [huv, hb] at hs; cases hs
    · exact h.2 u (by omega) hs
theorem BestTo.take {ms : List Nat} {s v x : Nat} (h : BestTo ms s v x) (hb : s.testBit v = true) (h99 : costN ms 0 s v < 99) : BestTo ms s (v + 1) (if costN ms 0 s v < x then costN ms 0 s v else x) := by
  by_cases hc : costN ms 0 s v < x
  · rw [if_pos hc]
    refine ⟨.inr ⟨v, hb, rfl⟩, fun u hu hs => ?_⟩
    by_cases huv : u = v
    · rw [huv]; exact Nat.le_refl _
    · have := h.2 u (by omega) hs; omega
  · rw [if_neg hc]
    refine ⟨.inr ?_, fun u hu hs => ?_⟩
    · rcases h.1 with ⟨h1, -⟩ | h1
      · omega
      · exact h1
    · by_cases huv : u = v
      · rw [huv]; omega
      · exact h.2 u (by omega) hs
theorem BestTo.done {ms : List Nat} {s n x : Nat} (h : BestTo ms s n x) (h8 : ms.length ≤ 8) (hs : s < 65536) (hn : s < 2 ^ n) (h0 : s ≠ 0) : x = widN ms 0 s := by
  obtain ⟨h1, h2, h3⟩ := (widN_le ms 0 h8 s s (Nat.le_refl _) hs).2 h0
  have hl := lt_of_testBit hn h1
  have h4 := h.2 _ hl h1
  rw [← h2] at h4
  rcases h.1 with ⟨-, h5⟩ | ⟨u, h5, h6⟩
  · rw [h5 _ hl] at h1; cases h1
  · have := h3 u h5
    omega
theorem cost_small {ms : List Nat} {s v : Nat} (h8 : ms.length ≤ 8) (hs : s < 65536) : costN ms 0 s v ≤ 8 ∧ pop (coverN ms (bagN ms (minus s (bit v)) v)) ≤ 8 := by
  have h1 := (widN_le ms 0 h8 _ _ (Nat.le_refl _) (minus_lt s (bit v) hs)).1
  have h2 := pop_le (coverN_lt ms (bagN ms (minus s (bit v)) v))
  refine ⟨?_, by omega⟩
  unfold costN
  omega
theorem made_zero (N : Nat) : madeCells #[.int .i64 0] N = (natsV (List.replicate N 0)).toArray := by
  unfold madeCells natsV
  apply Array.ext
  · simp
  · intro i h1 h2
    have : i % 1 = 0 := Nat.mod_one i
    simp [this]
set_option maxRecDepth 100000 in
set_option maxHeartbeats 8000000 in
theorem rwidth_any (w : World) (ao : Option Addr) (cap : Nat) (E : List (List ByteArray)) (hE : EdgesA w w.heap.size (.slice ao E.length cap) E) (hs : sizeE E ≤ 1000) (hl : E.length ≤ 1048576) (hm : mayR nameB E = true) :
    Calls Try.prog 16 #[.slice ao E.length cap] w fun e w' => e = .returned (.int .i64 ((widN (setsR E) 0 (allR E) : Nat) : Int)) ∧ Below w.heap.size w w' := by
  obtain ⟨hm1, hm2, hm3⟩ := may_parts hm
  have hg := good_of hm
  have hrs := rsets_any w ao cap E hE hs hl hm3
  have hrv := fun V (h : Below w.heap.size w V) => vars_any V ao cap E ((hE.stay (stay_of_below h)).mono h.size) hs hl
  have hal : allR E = 2 ^ (varsR E).length - 1 := rfl
  have hln : (setsR E).length ≤ 8 := hg.hlen
  have hmE := hg.hE
  generalize setsR E = ms at *
  generalize allR E = all at *
  obtain ⟨n, hn⟩ : ∃ n, (varsR E).length = n := ⟨_, rfl⟩
  rw [hn] at hm3 hal
  have hsh := shl_i64 hm3
  have h12 := pow_le12 hm3
  have hN1 : 1 ≤ 2 ^ n := Nat.one_le_two_pow
  have hlow : ∀ s v, s < 2 ^ n → s.testBit v = true → v < n := fun s v => lt_of_testBit
  have hdone : ∀ s x, BestTo ms s n x → s < 2 ^ n → s ≠ 0 → x = widN ms 0 s := fun s x h h1 h0 => h.done hln (by omega) h1 h0
  have hcv : ∀ s v, s < 2 ^ n → s.testBit v = true → refCov ms (bagN ms (minus s (bit v)) v) = pop (coverN ms (bagN ms (minus s (bit v)) v)) := fun s v h h1 =>
    refCov_eq hmE hln (bagN_lt hmE (by have := hlow s v h h1; omega)) (bag_in hg (fun i hi => by rw [hal, full_bit]; exact decide_eq_true (hlow s i h hi)) (by omega) h1)
  obtain ⟨N, hN⟩ : ∃ N, 2 ^ n = N := ⟨_, rfl⟩
  rw [hN] at hsh h12 hN1 hal
  simp only [hN] at hlow hdone hcv
  have hmk := fun V => run_make_row' (P := Try.prog) 43 3 (.int .i64 0) 8 Try.underlying43 infoInt rfl .i64 .i64 N (by omega) (by omega) V
  have hwN : IntKind.i64.wrap ((N : Int) - 1) = ((N - 1 : Nat) : Int) := by rw [IntWalk.i64_in _ (by omega)]; omega
  have hNl : (N : Int) - 1 = ((N - 1 : Nat) : Int) := by omega
  replace hal := Lib.hid hal
  replace hlow := Lib.hid hlow
  replace hdone := Lib.hid hdone
  replace hcv := Lib.hid hcv
  replace hrs := Lib.hid hrs
  replace hrv := Lib.hid hrv
  replace hmE := Lib.hid hmE
  replace hN := Lib.hid hN
  clear hE hm hm1 hm2 hg
  go_enter Try.func16, Try.ntmps16
  go_wp2_with fail
  refine hrs.out.mono ?_
  rintro e w1 ⟨ev, rfl, hW1⟩
  have hb1 := Lib.hid hW1.below
  have hrv1 := Lib.hid (hrv.out w1 hb1.out)
  have hrow := hW1.row
  obtain ⟨ae, ce, rfl, -, hec⟩ := hrow.form
  have hes : SetsA w1 ae ms := fun j hj => by
    obtain ⟨b, off, h1, -, h3⟩ := hec j (by rw [natsV_length]; exact hj)
    exact ⟨b, off, h1, by rw [h3]; simp [natsV]⟩
  replace hes := Lib.hid hes
  rw [natsV_length]
  clear hrs hrv hW1 hrow hec
  go_wp2_with fail
  refine hrv1.out.mono ?_
  rintro e w2 ⟨nv, rfl, hW2⟩
  have hb2 := Lib.hid (hb1.out.trans (hW2.below.mono hb1.out.size))
  obtain ⟨an, cn, rfl, -⟩ := hW2.at
  have hes2 := Lib.hid (hes.out.stay (stay_of_below hW2.below))
  rw [hn]
  clear hrv1 hW2 hes hb1
  have hRD0 : RD w2 (w2.alloc (.cells (madeCells #[.int .i64 0] N) 3)) w2.heap.size (List.replicate N 0) := by
    refine ⟨(Below.refl _ _).alloc (Nat.le_refl _) _, ?_, Nat.le_refl _⟩
    have h := Blk.new w2 (madeCells #[.int .i64 0] N) 3
    rw [made_zero] at h ⊢
    exact h
  have hRD0 := Lib.hid hRD0
  have hmk2 := hmk w2
  rw [made_zero] at hmk2 hRD0
  replace hn := Lib.hid hn
  clear hmk
  generalize hw3 : w2.alloc (.cells (natsV (List.replicate N 0)).toArray 3) = w3 at *
  replace hw3 := Lib.hid hw3
  go_wp2
  go_loopw [6] (fun i wr => ∃ (s : Nat) (L : List Nat), 1 ≤ s ∧ s ≤ N ∧ i = .int .i64 (s : Int) ∧ Hid (RD w2 wr w2.heap.size L) ∧ L.length = N ∧ Hid (∀ t (ht : t < L.length), t < s → L[t] = widN ms 0 t)) (fun i _ => N - (intOf i).toNat)
  case atStart => exact ⟨1, _, by omega, hN1, rfl, hRD0, by simp, Lib.hid (fun t ht h => by
    obtain rfl : t = 0 := by omega
    simp [widN_zero])⟩
  case round =>
    clear hRD0
    obtain ⟨s, L, hs1, hsN, rfl, hR, hLl, hLw⟩ := hrel
    by_cases hlt : s < N
    · have hsi : (s : Int) < (N : Int) := by omega
      have hs2 := Lib.hid (show s + 1 ≤ N from hlt)
      obtain ⟨hcz, hfz⟩ := hR.out.at (j := s) (by omega)
      have hR2 := Lib.hid (hR.out.set s 99)
      have hne0 : s ≠ 0 := by omega
      have hset99 : Hid ((L.set s 99).length = N) := Lib.hid (by rw [List.length_set]; exact hLl)
      have hL2w : Hid (∀ t (ht : t < (L.set s 99).length), t < s → (L.set s 99)[t] = widN ms 0 t) := Lib.hid fun t ht h => by
        rw [List.getElem_set_ne (by omega)]
        exact hLw.out t (by rw [List.length_set] at ht; exact ht) h
      have hL2s : Hid (∀ ht : s < (L.set s 99).length, (L.set s 99)[s] = 99) := Lib.hid fun ht => by rw [List.getElem_set_self]
      generalize L.set s 99 = L2 at *
      generalize L[s] = old at *
      clear hR hLw hLl
      go_wp2
      go_loopw [7] (fun i wr => ∃ (v : Nat) (L : List Nat) (x : Nat), v ≤ n ∧ i = .int .i64 (v : Int) ∧ Hid (RD w2 wr w2.heap.size L) ∧ Hid (L.length = N) ∧ Hid (∀ t (ht : t < L.length), t < s → L[t] = widN ms 0 t) ∧ Hid (∀ ht : s < L.length, L[s] = x) ∧ x ≤ 99 ∧ Hid (BestTo ms s v x)) (fun i _ => n - (intOf i).toNat)
      case atStart => exact ⟨0, L2, 99, by omega, rfl, hR2, hset99, hL2w, hL2s, by omega, Lib.hid (BestTo.start ms s)⟩
      case round =>
        clear hR2 hset99 hL2w hL2s hfz hcz
        obtain ⟨v, L, x, hv, rfl, hR, hLl, hLw, hLs, hx, hB⟩ := hrel
        by_cases hlv : v < n
        · have hvi : (v : Int) < (n : Int) := by omega
          have hv1 := Lib.hid (show v + 1 ≤ n from hlv)
          have hbt := has_i64 s v (by omega)
          cases hb : s.testBit v with
          | false =>
            rw [hb, if_neg (by simp)] at hbt
            have hB2 := Lib.hid (hB.out.skip hb)
            replace hb := Lib.hid hb
            clear hB
            go_wp2
            go_roundw
            case rel => exact ⟨v + 1, L, x, hv1.out, by go_num, hR, hLl, hLw, hLs, hx, hB2⟩
            case measure => have := hv1.out; simp [intOf]; omega
          | true =>
            rw [hb, if_pos rfl] at hbt
            have hcs := cost_small (ms := ms) (s := s) (v := v) hln (by omega)
            have hB2 := Lib.hid (hB.out.take hb (by omega))
            have hcost : costN ms 0 s v = max (widN ms 0 (minus s (bit v))) (pop (coverN ms (bagN ms (minus s (bit v)) v))) := rfl
            have hcv1 := hcv.out s v hlt hb
            have hrl := minus_bit_lt (by omega : s < 65536) hb
            have hbi := bit_i64 v (by omega)
            have han := i64_andNot_nat s (bit v) (by omega) (bit_lt (by omega))
            have hrb := rbag_any wr ae ce ms (hes2.out.stay (stay_of_below hR.out.below)) hmE.out hln v (minus s (bit v)) (by omega) (by omega)
            have hrc := rcover_any wr ae ce ms (hes2.out.stay (stay_of_below hR.out.below)) hmE.out hln (bagN ms (minus s (bit v)) v) (bagN_lt hmE.out (by omega))
            rw [hcv1] at hrc
            obtain ⟨hcr, -⟩ := hR.out.at (j := minus s (bit v)) (by have := hLl.out; omega)
            rw [hLw.out _ _ hrl] at hcr
            obtain ⟨hcx, hfx⟩ := hR.out.at (j := s) (by have := hLl.out; omega)
            rw [hLs.out] at hcx
            have hset := fun y => hR.out.set s y
            generalize bagN ms (minus s (bit v)) v = bg at *
            generalize pop (coverN ms bg) = c at *
            generalize bit v = bv at *
            generalize minus s bv = r at *
            generalize widN ms 0 r = q at *
            generalize costN ms 0 s v = k at *
            have hri : (r : Int) < (N : Int) := by omega
            replace hrb := Lib.hid hrb
            replace hrc := Lib.hid hrc
            replace hb := Lib.hid hb
            replace hset := Lib.hid hset
            clear hB hcv1
            go_wp2_with fail
            refine hrb.out.mono ?_
            rintro e w4 ⟨rfl, rfl⟩
            go_wp2_with fail
            refine hrc.out.mono ?_
            rintro e w5 ⟨rfl, rfl⟩
            replace hB2 := hB2.out
            by_cases hqc : c < q
            · have hqi : (c : Int) < (q : Int) := by omega
              obtain rfl : k = q := by rw [hcost]; omega
              by_cases hkx : k < x
              · have hki : (k : Int) < (x : Int) := by omega
                rw [if_pos hkx] at hB2
                replace hB2 := Lib.hid hB2
                have hR3 := Lib.hid (hset.out k)
                have hL3 : Hid ((L.set s k).length = N) := Lib.hid (by rw [List.length_set]; exact hLl.out)
                have hL3w : Hid (∀ t (ht : t < (L.set s k).length), t < s → (L.set s k)[t] = widN ms 0 t) := Lib.hid fun t ht h => by
                  rw [List.getElem_set_ne (by omega)]
                  exact hLw.out t (by rw [List.length_set] at ht; exact ht) h
                have hL3s : Hid (∀ ht : s < (L.set s k).length, (L.set s k)[s] = k) := Lib.hid fun ht => by rw [List.getElem_set_self]
                generalize L.set s k = L3 at *
                clear hR hLw hLl hLs hcost
                go_wp2
                go_roundw
                case rel => exact ⟨v + 1, L3, k, hv1.out, by go_num, hR3, hL3, hL3w, hL3s, by omega, hB2⟩
                case measure => have := hv1.out; simp [intOf]; omega
              · have hki : ¬ (k : Int) < (x : Int) := by omega
                rw [if_neg hkx] at hB2
                replace hB2 := Lib.hid hB2
                clear hcost
                go_wp2
                go_roundw
                case rel => exact ⟨v + 1, L, x, hv1.out, by go_num, hR, hLl, hLw, hLs, hx, hB2⟩
                case measure => have := hv1.out; simp [intOf]; omega
            · have hqi : ¬ (c : Int) < (q : Int) := by omega
              obtain rfl : k = c := by rw [hcost]; omega
              by_cases hkx : k < x
              · have hki : (k : Int) < (x : Int) := by omega
                rw [if_pos hkx] at hB2
                replace hB2 := Lib.hid hB2
                have hR3 := Lib.hid (hset.out k)
                have hL3 : Hid ((L.set s k).length = N) := Lib.hid (by rw [List.length_set]; exact hLl.out)
                have hL3w : Hid (∀ t (ht : t < (L.set s k).length), t < s → (L.set s k)[t] = widN ms 0 t) := Lib.hid fun t ht h => by
                  rw [List.getElem_set_ne (by omega)]
                  exact hLw.out t (by rw [List.length_set] at ht; exact ht) h
                have hL3s : Hid (∀ ht : s < (L.set s k).length, (L.set s k)[s] = k) := Lib.hid fun ht => by rw [List.getElem_set_self]
                generalize L.set s k = L3 at *
                clear hR hLw hLl hLs hcost
                go_wp2
                go_roundw
                case rel => exact ⟨v + 1, L3, k, hv1.out, by go_num, hR3, hL3, hL3w, hL3s, by omega, hB2⟩
                case measure => have := hv1.out; simp [intOf]; omega
              · have hki : ¬ (k : Int) < (x : Int) := by omega
                rw [if_neg hkx] at hB2
                replace hB2 := Lib.hid hB2
                clear hcost
                go_wp2
                go_roundw
                case rel => exact ⟨v + 1, L, x, hv1.out, by go_num, hR, hLl, hLw, hLs, hx, hB2⟩
                case measure => have := hv1.out; simp [intOf]; omega
        · have hvi : ¬ (v : Int) < (n : Int) := by omega
          obtain rfl : v = n := by omega
          have hxe := hdone.out s x hB.out hlt hne0
          have hLw2 : Hid (∀ t (ht : t < L.length), t < s + 1 → L[t] = widN ms 0 t) := Lib.hid fun t ht h => by
            by_cases hts : t = s
            · subst hts; rw [hLs.out ht]; exact hxe
            · exact hLw.out t ht (by omega)
          replace hxe := Lib.hid hxe
          have hLl2 := hLl.out
          clear hB hLw hLs
          go_wp2
          go_roundw
          case rel => exact ⟨s + 1, L, by omega, hs2.out, by go_num, hR, hLl2, hLw2⟩
          case measure => have := hs2.out; simp [intOf]; omega
    · have hsi : ¬ (s : Int) < (N : Int) := by omega
      obtain rfl : s = N := by omega
      obtain ⟨hc, -⟩ := hR.out.at (j := s - 1) (by omega)
      rw [hLw.out (s - 1) (by omega) (by omega)] at hc
      have hc2 : wr.cell? ⟨w2.heap.size, s - 1, none⟩ = some (.int .i64 ((widN ms 0 all : Nat) : Int)) := by rw [hal.out]; exact hc
      have hls : s - 1 < s := by omega
      clear hc
      have hbf := Lib.hid (hb2.out.trans (hR.out.below.mono hb2.out.size))
      go_wp2
      go_ret
      exact ⟨by rfl, hbf.out⟩
end Go.Proofs.Ytnocncmjdhlmkaa.hyp
