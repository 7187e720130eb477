/- The reference: Vars. -/
import Derived.Test.YtnocncmjdhlmkaaHRef2
namespace Go.Proofs.Ytnocncmjdhlmkaa.hyp
open Go.ChangeShapes Go.WideShapes Go.ChangeAt Go.RowKit kit
set_option linter.unusedVariables false
set_option linter.unusedSimpArgs false
theorem OW.at {w W1 : World} {B : Nat} {v : Value} {ns : List ByteArray} (h : OW 9 w B v (textsV ns) W1) : ∃ a c, v = .slice a ns.length c ∧ ∀ j (hj : j < ns.length), ∃ b off, a = some ⟨b, off, none⟩ ∧ b < W1.heap.size ∧ W1.cell? ⟨b, off + j, none⟩ = some (.string ns[j]) := by
  obtain ⟨a, c, rfl, -, hj⟩ := h.row.form
  refine ⟨a, c, by rw [textsV_length], fun j h => ?_⟩
  obtain ⟨b, off, h1, h2, h3⟩ := hj j (by simpa using h)
  exact ⟨b, off, h1, h2, by rw [h3]; simp [textsV]⟩
theorem foldN_len : ∀ (e ns : List ByteArray), (e.foldl addN ns).length ≤ ns.length + e.length
  | [], ns => by simp
  | x :: e, ns => by
    have h1 := foldN_len e (addN ns x)
    have h2 : (addN ns x).length ≤ ns.length + 1 := by unfold addN; split <;> simp
    simp only [List.foldl_cons, List.length_cons]
    omega
/-- The variables of the first i edges, and of the next one's first j. -/
def varsT (E : List (List ByteArray)) (i j : Nat) : List ByteArray := ((E.getD i []).take j).foldl addN ((E.take i).flatten.foldl addN [])
theorem varsT_zero (E : List (List ByteArray)) (i : Nat) : varsT E i 0 = (E.take i).flatten.foldl addN [] := by unfold varsT; simp
theorem varsT_next {E : List (List ByteArray)} {i : Nat} (h : i < E.length) : varsT E i E[i].length = varsT E (i + 1) 0 := by
  rw [varsT_zero, List.take_succ_eq_append_getElem h, List.flatten_append, List.foldl_append]
  unfold varsT
  rw [List.getD_eq_getElem?_getD, List.getElem?_eq_getElem h, Option.getD_some, List.take_length]
  simp
theorem varsT_succ {E : List (List ByteArray)} {i j : Nat} (h : i < E.length) (hj : j < E[i].length) : varsT E i (j + 1) = addN (varsT E i j) E[i][j] := by
  unfold varsT
  rw [List.getD_eq_getElem?_getD, List.getElem?_eq_getElem h, Option.getD_some, List.take_succ_eq_append_getElem hj, List.foldl_append]
  rfl
theorem varsT_end (E : List (List ByteArray)) : varsT E E.length 0 = varsR E := by rw [varsT_zero, List.take_length]; rfl
theorem sum_le_take {α : Type} (f : α → Nat) (L : List α) (k : Nat) : ((L.take k).map f).sum ≤ (L.map f).sum := by
  conv => rhs; rw [← List.take_append_drop k L]
  rw [List.map_append, List.sum_append]
  omega
theorem flat_len (E : List (List ByteArray)) : E.flatten.length ≤ sizeE E := by
  unfold sizeE
  induction E with
  | nil => simp
  | cons e E ih =>
    rw [List.flatten_cons, List.length_append, List.map_cons, List.sum_cons]
    omega
theorem varsT_len {E : List (List ByteArray)} {i j : Nat} (h : i < E.length) (hj : j ≤ E[i].length) : (varsT E i j).length ≤ sizeE E := by
  unfold varsT
  rw [List.getD_eq_getElem?_getD, List.getElem?_eq_getElem h, Option.getD_some]
  have h1 := foldN_len (E[i].take j) ((E.take i).flatten.foldl addN [])
  have h2 := foldN_len (E.take i).flatten []
  have h3 := flat_len (E.take i)
  have h4 := sum_take (fun e : List ByteArray => 1 + e.length) E h
  have h5 := sum_le_take (fun e : List ByteArray => 1 + e.length) E (i + 1)
  have h6 : (E[i].take j).length ≤ E[i].length := by rw [List.length_take]; omega
  have e1 : sizeE (E.take i) = ((E.take i).map fun e => 1 + e.length).sum := rfl
  have e2 : sizeE E = (E.map fun e => 1 + e.length).sum := rfl
  simp only [List.length_nil] at h2
  omega
theorem edge_le {E : List (List ByteArray)} {i : Nat} (h : i < E.length) : E[i].length ≤ sizeE E := by
  have h4 := sum_take (fun e : List ByteArray => 1 + e.length) E h
  have h5 := sum_le_take (fun e : List ByteArray => 1 + e.length) E (i + 1)
  have e2 : sizeE E = (E.map fun e => 1 + e.length).sum := rfl
  omega
set_option maxRecDepth 100000 in
set_option maxHeartbeats 4000000 in
theorem vars_any (w : World) (ao : Option Addr) (cap : Nat) (E : List (List ByteArray)) (hE : EdgesA w w.heap.size (.slice ao E.length cap) E) (hs : sizeE E ≤ 1000) (hl : E.length ≤ 1048576) :
    Calls Try.prog 25 #[.slice ao E.length cap] w fun e w' => ∃ v, e = .returned v ∧ OW 9 w w.heap.size v (textsV (varsR E)) w' := by
  obtain ⟨ao2, cap2, hv, hec⟩ := hE.form
  obtain ⟨rfl, rfl⟩ : ao = ao2 ∧ cap = cap2 := by injection hv with h1 h2 h3; exact ⟨h1, h3⟩
  replace hec : Hid (∀ i (hi : i < E.length), ∃ b off a c, ao = some ⟨b, off, none⟩ ∧ w.cell? ⟨b, off + i, none⟩ = some (.slice a E[i].length c) ∧ ∀ j (hj : j < E[i].length), ∃ b2 off2, a = some ⟨b2, off2, none⟩ ∧ w.cell? ⟨b2, off2 + j, none⟩ = some (.string E[i][j])) := Lib.hid fun i hi => by
    obtain ⟨b, off, u, h1, -, h2, h3⟩ := hec i hi
    obtain ⟨a, c, rfl, h4⟩ := h3.form
    exact ⟨b, off, a, c, h1, h2, fun j hj => by obtain ⟨b2, off2, h5, -, h6⟩ := h4 j hj; exact ⟨b2, off2, h5, h6⟩⟩
  obtain ⟨i0, hi, hz0, hz1, hz2⟩ := info_parts infoStr
  replace hi := Lib.hid hi
  replace hz0 := Lib.hid hz0
  replace hz1 := Lib.hid hz1
  replace hz2 := Lib.hid hz2
  clear hE hv
  go_enter Try.func25, Try.ntmps25
  go_wp2
  go_loopw [3, 4] (fun v i wr => ∃ n : Nat, n ≤ E.length ∧ i = .int .i64 (n : Int) ∧ Hid (OW 9 w w.heap.size v (textsV (varsT E n 0)) wr)) (fun _ i _ => E.length - (intOf i).toNat)
  case atStart => exact ⟨0, by omega, rfl, Lib.hid (OW.start _ _ _)⟩
  case round =>
    obtain ⟨n, hn, rfl, hW⟩ := hrel
    by_cases hlt : n < E.length
    · have hki : (n : Int) < (E.length : Int) := by omega
      have hn1 := Lib.hid (show n + 1 ≤ E.length from hlt)
      obtain ⟨b, off, a, c, rfl, hc, hcc⟩ := hec.out n hlt
      have hnext := Lib.hid (varsT_next hlt)
      have hxl := Nat.le_trans (edge_le hlt) hs
      have hsucc := Lib.hid (fun j hj => varsT_succ (j := j) hlt hj)
      have hlen := Lib.hid (fun j hj => varsT_len (j := j) hlt hj)
      replace hcc := Lib.hid hcc
      generalize hx : E[n] = x at *
      clear hx hlt
      go_wp2
      go_loopw [3, 5] (fun v i wr => ∃ j : Nat, j ≤ x.length ∧ i = .int .i64 (j : Int) ∧ Hid (OW 9 w w.heap.size v (textsV (varsT E n j)) wr)) (fun _ i _ => x.length - (intOf i).toNat)
      case atStart => exact ⟨0, by omega, rfl, hW⟩
      case round =>
        clear hW
        obtain ⟨j, hj, rfl, hW⟩ := hrel
        have hst := stay_of_below hW.out.below
        have hcr := hst.cell hc
        by_cases hlj : j < x.length
        · have hkj : (j : Int) < (x.length : Int) := by omega
          have hj1 := Lib.hid (show j + 1 ≤ x.length from hlj)
          obtain ⟨b2, off2, rfl, hc2⟩ := hcc.out j hlj
          have hc2r := hst.cell hc2
          have hs1 := hsucc.out j hlj
          have hl1 := hlen.out j (by omega)
          obtain ⟨av, cv, rfl, hvc⟩ := hW.out.at
          have hix := rindex_any wr av cv (varsT E n j) x[j] (by omega) hvc
          have hneg := idxI_neg (varsT E n j) x[j]
          have hsz := hW.out.below.size
          have hown := hW.out.own
          unfold addN at hs1
          generalize hns2 : varsT E n (j + 1) = ns2 at *
          replace hns2 := Lib.hid hns2
          generalize varsT E n j = ns at *
          clear hvc hst hc2
          generalize x[j] = s at *
          generalize idxI ns s = ix at *
          clear hlj
          by_cases hm : s ∈ ns
          · rw [if_pos hm] at hs1
            subst hs1
            rw [decide_eq_true hm] at hneg
            have hge : ¬ ix < 0 := by simpa using hneg
            clear hm hneg hown
            replace hix := Lib.hid hix
            go_wp2_with fail
            refine hix.out.mono ?_
            rintro e w4 ⟨rfl, rfl⟩
            go_wp2
            go_roundw
            case rel => exact ⟨j + 1, hj1.out, by go_num, by rw [hns2.out]; exact hW⟩
            case measure => have := hj1.out; simp [intOf]; omega
          · rw [if_neg hm] at hs1
            rw [decide_eq_false hm] at hneg
            have hge : ix < 0 := by simpa using hneg
            have hnl : (textsV ns).length ≤ 1000 := by rw [textsV_length]; omega
            have hmv : textsV ns ++ [.string s] = textsV ns2 := by rw [hs1]; simp [textsV]
            clear hm hneg
            replace hix := Lib.hid hix
            replace hs1 := Lib.hid hs1
            go_wp2_with fail
            refine hix.out.mono ?_
            rintro e w4 ⟨rfl, rfl⟩
            go_wp2_with (at_builtin; refine wpList_append_own _ rfl _ _ 35 rfl w.heap.size 9 i0 (.string ByteArray.empty) 1 16 Try.underlying35 hi.out hz0.out hz1.out hz2.out rfl (by decide) _ (textsV ns).length (textsV ns) rfl (hown.alloc _) _ 1 _ [.string s] rfl rfl ?c1 ?c2 ?c3 ?c4 ?c5 ?c6)
            case c1 => exact news_one _ _ _
            case c2 => simp [Value.oneCell']
            case c3 => simp only [maxLen]; omega
            case c4 => omega
            case c5 => simp; omega
            case c6 =>
              intro v' w5 h1 h2 _
              have hW5 := hW.out.step (v' := v') (w' := w5) hsz (.cells #[.string s] 9) (.string s) (by rw [hmv]; first | exact h1 | (rw [textsV_length]; exact h1)) h2
              rw [hmv] at hW5
              replace hW5 := Lib.hid hW5
              clear hown h1 h2 hW
              go_wp2
              go_roundw
              case rel => exact ⟨j + 1, hj1.out, by go_num, by rw [hns2.out]; exact hW5⟩
              case measure => have := hj1.out; simp [intOf]; omega
        · have hkj : ¬ (j : Int) < (x.length : Int) := by omega
          obtain rfl : j = x.length := by omega
          rw [hnext.out] at hW
          clear hst
          go_wp2
          go_roundw
          case rel => exact ⟨n + 1, hn1.out, by go_num, hW⟩
          case measure => have := hn1.out; simp [intOf]; omega
    · have hki : ¬ (n : Int) < (E.length : Int) := by omega
      obtain rfl : n = E.length := by omega
      rw [varsT_end] at hW
      go_wp2
      go_ret
      exact ⟨_, rfl, hW.out⟩
end Go.Proofs.Ytnocncmjdhlmkaa.hyp
