/- The reference: Index, within. -/
import Derived.Test.YtnocncmjdhlmkaaHLight
namespace Go.Proofs.Ytnocncmjdhlmkaa.hyp
open Go.ChangeShapes Go.WideShapes Go.ChangeAt Go.RowKit kit
set_option linter.unusedVariables false
set_option linter.unusedSimpArgs false
set_option maxRecDepth 100000 in
set_option maxHeartbeats 2000000 in
theorem rindex_any (w : World) (ao : Option Addr) (cap : Nat) (ns : List ByteArray) (s : ByteArray) (hn : ns.length ≤ 1048576)
    (hc : ∀ j (hj : j < ns.length), ∃ b off, ao = some ⟨b, off, none⟩ ∧ b < w.heap.size ∧ w.cell? ⟨b, off + j, none⟩ = some (.string ns[j])) :
    Calls Try.prog 44 #[.slice ao ns.length cap, .string s] w fun e w' => e = .returned (.int .i64 (idxI ns s)) ∧ w' = w := by
  replace hc := Lib.hid hc
  go_enter Try.func44, Try.ntmps44
  go_wp2
  go_loop [5] (fun i => ∃ k : Nat, k ≤ ns.length ∧ i = .int .i64 (k : Int) ∧ Hid (∀ j (hj : j < ns.length), j < k → ns[j] ≠ s)) (fun i => ns.length - (intOf i).toNat)
  case atStart => exact ⟨0, by omega, rfl, Lib.hid (fun j _ h => by omega)⟩
  case round =>
    obtain ⟨k, hk, rfl, hno⟩ := hrel
    by_cases hlt : k < ns.length
    · have hki : (k : Int) < (ns.length : Int) := by omega
      obtain ⟨b, off, rfl, -, hck⟩ := hc.out k hlt
      have hxe := text_eq ns[k] s
      by_cases he : s = ns[k]
      · have hr : idxI ns s = (k : Int) := by
          unfold idxI
          rw [if_pos (by rw [he]; exact List.getElem_mem hlt)]
          have h1 : ns.idxOf s = k := by
            have hmem : s ∈ ns := by rw [he]; exact List.getElem_mem hlt
            have h2 := List.idxOf_lt_length_of_mem hmem
            have h3 := List.getElem_idxOf h2
            have h4 : ¬ ns.idxOf s < k := fun h => hno.out _ h2 h h3
            have h5 : ns.idxOf s ≤ k := by
              apply Classical.byContradiction
              intro h6
              have h7 : k < ns.findIdx (· == s) := by show k < ns.idxOf s; omega
              have h8 := List.not_of_lt_findIdx h7
              simp [← he] at h8
            omega
          rw [h1]
        rw [decide_eq_true he.symm] at hxe
        replace hr := Lib.hid hr
        replace he := Lib.hid he
        generalize ns[k] = x at *
        go_wp2
        go_ret
        exact ⟨ret_int hr.out.symm, rfl⟩
      · rw [decide_eq_false (fun e => he e.symm)] at hxe
        have hno2 : Hid (∀ j (hj : j < ns.length), j < k + 1 → ns[j] ≠ s) := Lib.hid fun j hj h => by
          by_cases hjk : j = k
          · subst hjk; exact fun e => he e.symm
          · exact hno.out j hj (by omega)
        have hk1 := Lib.hid (show k + 1 ≤ ns.length from hlt)
        clear he hno
        generalize ns[k] = x at *
        go_wp2
        go_round
        case rel => exact ⟨k + 1, hk1.out, by go_num, hno2⟩
        case measure => have := hk1.out; simp [intOf]; omega
    · have hki : ¬ (k : Int) < (ns.length : Int) := by omega
      obtain rfl : k = ns.length := by omega
      have hr : idxI ns s = -1 := by
        unfold idxI
        rw [if_neg]
        intro hmem
        obtain ⟨j, hj, he⟩ := List.getElem_of_mem hmem
        exact hno.out j hj hj he
      replace hr := Lib.hid hr
      go_wp2
      go_ret
      exact ⟨ret_int hr.out.symm, rfl⟩
theorem idxI_neg (ns : List ByteArray) (s : ByteArray) : decide (idxI ns s < 0) = !decide (s ∈ ns) := by
  unfold idxI
  by_cases h : s ∈ ns
  · rw [if_pos h, decide_eq_true h, decide_eq_false (by omega)]; rfl
  · rw [if_neg h, decide_eq_false h]; rfl
/-- All of a's texts stand in b. -/
def withinB (a b : List ByteArray) : Bool := a.all fun s => decide (s ∈ b)
set_option maxRecDepth 100000 in
set_option maxHeartbeats 2000000 in
theorem within_any (w : World) (aa : Option Addr) (ca : Nat) (a : List ByteArray) (ab : Option Addr) (cb : Nat) (b : List ByteArray) (hal : a.length ≤ 1048576) (hbl : b.length ≤ 1048576)
    (ha : ∀ j (hj : j < a.length), ∃ b off, aa = some ⟨b, off, none⟩ ∧ b < w.heap.size ∧ w.cell? ⟨b, off + j, none⟩ = some (.string a[j]))
    (hb : ∀ j (hj : j < b.length), ∃ d off, ab = some ⟨d, off, none⟩ ∧ d < w.heap.size ∧ w.cell? ⟨d, off + j, none⟩ = some (.string b[j])) :
    Calls Try.prog 43 #[.slice aa a.length ca, .slice ab b.length cb] w fun e w' => e = .returned (.bool (withinB a b)) ∧ w' = w := by
  have hix := Lib.hid (fun s => rindex_any w ab cb b s hbl hb)
  obtain ⟨q, hq⟩ : ∃ q, withinB a b = q := ⟨_, rfl⟩
  rw [hq]
  replace ha := Lib.hid ha
  replace hq := Lib.hid hq
  clear hb
  go_enter Try.func43, Try.ntmps43
  go_wp2
  go_loop [5] (fun i => ∃ k : Nat, k ≤ a.length ∧ i = .int .i64 (k : Int) ∧ Hid (∀ j (hj : j < a.length), j < k → a[j] ∈ b)) (fun i => a.length - (intOf i).toNat)
  case atStart => exact ⟨0, by omega, rfl, Lib.hid (fun j _ h => by omega)⟩
  case round =>
    obtain ⟨k, hk, rfl, hin⟩ := hrel
    by_cases hlt : k < a.length
    · have hki : (k : Int) < (a.length : Int) := by omega
      have hk1 := Lib.hid (show k + 1 ≤ a.length from hlt)
      obtain ⟨d, off, rfl, -, hck⟩ := ha.out k hlt
      have hx := Lib.hid (hix.out a[k])
      have hneg := idxI_neg b a[k]
      by_cases hm : a[k] ∈ b
      · have hin2 : Hid (∀ j (hj : j < a.length), j < k + 1 → a[j] ∈ b) := Lib.hid fun j hj h => by
          by_cases hjk : j = k
          · subst hjk; exact hm
          · exact hin.out j hj (by omega)
        rw [decide_eq_true hm] at hneg
        have hge : ¬ idxI b a[k] < 0 := by simpa using hneg
        clear hin hm hneg
        generalize a[k] = s at *
        generalize idxI b s = ix at *
        clear hlt
        go_wp2_with fail
        refine hx.out.mono ?_
        rintro e w1 ⟨rfl, rfl⟩
        go_wp2
        go_round
        case rel => exact ⟨k + 1, hk1.out, by go_num, hin2⟩
        case measure => have := hk1.out; simp [intOf]; omega
      · have hqf : Hid (q = false) := Lib.hid (by
          rw [← hq.out]
          unfold withinB
          rw [List.all_eq_false]
          exact ⟨_, List.getElem_mem hlt, fun h2 => hm (of_decide_eq_true h2)⟩)
        rw [decide_eq_false hm] at hneg
        have hge : idxI b a[k] < 0 := by simpa using hneg
        clear hin hm hneg
        generalize a[k] = s at *
        generalize idxI b s = ix at *
        clear hlt
        go_wp2_with fail
        refine hx.out.mono ?_
        rintro e w1 ⟨rfl, rfl⟩
        go_wp2
        go_ret
        exact ⟨ret_bool hqf.out.symm, rfl⟩
    · have hki : ¬ (k : Int) < (a.length : Int) := by omega
      obtain rfl : k = a.length := by omega
      have hqt : Hid (q = true) := Lib.hid (by
        rw [← hq.out]
        unfold withinB
        rw [List.all_eq_true]
        intro s hs
        obtain ⟨j, hj, rfl⟩ := List.getElem_of_mem hs
        exact decide_eq_true (hin.out j hj hj))
      clear hin
      go_wp2
      go_ret
      exact ⟨ret_bool hqt.out.symm, rfl⟩
end Go.Proofs.Ytnocncmjdhlmkaa.hyp
