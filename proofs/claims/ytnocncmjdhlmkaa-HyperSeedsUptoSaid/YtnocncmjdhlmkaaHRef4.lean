/- The reference: May. -/
import Derived.Test.YtnocncmjdhlmkaaHRef3
namespace Go.Proofs.Ytnocncmjdhlmkaa.hyp
open Go.ChangeShapes Go.WideShapes Go.ChangeAt Go.RowKit kit
set_option linter.unusedVariables false
set_option linter.unusedSimpArgs false
def goodE (e : List ByteArray) : Bool := decide (e.length ≤ 12) && unlikeR nameB e
theorem mayR_eq (E : List (List ByteArray)) : mayR nameB E = (decide (E.length ≤ 8) && E.all goodE && decide ((varsR E).length ≤ 12)) := rfl
set_option maxRecDepth 100000 in
set_option maxHeartbeats 4000000 in
theorem may_any (w : World) (ao : Option Addr) (cap : Nat) (E : List (List ByteArray)) (hE : EdgesA w w.heap.size (.slice ao E.length cap) E) (hs : sizeE E ≤ 1000) (hl : E.length ≤ 1048576) :
    Calls Try.prog 15 #[.slice ao E.length cap] w fun e w' => e = .returned (.bool (mayR nameB E)) ∧ Below w.heap.size w w' := by
  obtain ⟨q, hq⟩ : ∃ q, mayR nameB E = q := ⟨_, rfl⟩
  rw [hq]
  rw [mayR_eq] at hq
  by_cases h8 : 8 < E.length
  · have h8i : (8 : Int) < (E.length : Int) := by omega
    have hqf : Hid (q = false) := Lib.hid (by rw [← hq, decide_eq_false (by omega)]; rfl)
    clear hE hq hs
    go_enter Try.func15, Try.ntmps15
    go_wp2
    go_ret
    exact ⟨ret_bool hqf.out.symm, Below.refl _ _⟩
  · have h8i : ¬ (8 : Int) < (E.length : Int) := by omega
    rw [decide_eq_true (by omega), Bool.true_and] at hq
    have hva := Lib.hid (fun V (h : Below w.heap.size w V) => vars_any V ao cap E ((hE.stay (stay_of_below h)).mono h.size) hs hl)
    obtain ⟨ao2, cap2, hv, hec⟩ := hE.form
    obtain ⟨rfl, rfl⟩ : ao = ao2 ∧ cap = cap2 := by injection hv with h1 h2 h3; exact ⟨h1, h3⟩
    replace hec := Lib.hid hec
    replace hq := Lib.hid hq
    have hlen := Lib.hid (fun i (hi : i < E.length) => Nat.le_trans (edge_le hi) hs)
    clear hE hv
    go_enter Try.func15, Try.ntmps15
    go_wp2
    go_loopw [3] (fun i wr => ∃ n : Nat, n ≤ E.length ∧ i = .int .i64 (n : Int) ∧ Hid (Below w.heap.size w wr) ∧ Hid (∀ j (hj : j < E.length), j < n → goodE E[j] = true)) (fun i _ => E.length - (intOf i).toNat)
    case atStart => exact ⟨0, by omega, rfl, Lib.hid (Below.refl _ _), Lib.hid (fun j _ h => by omega)⟩
    case round =>
      obtain ⟨n, hn, rfl, hb, hin⟩ := hrel
      by_cases hlt : n < E.length
      · have hki : (n : Int) < (E.length : Int) := by omega
        have hn1 := Lib.hid (show n + 1 ≤ E.length from hlt)
        obtain ⟨b, off, u, rfl, -, hc, ht⟩ := hec.out n hlt
        have hst := stay_of_below hb.out
        replace hc := hst.cell hc
        have hxl := hlen.out n hlt
        have hun := unlike_any wr u E[n] ((ht.stay hst).mono hb.out.size) (by omega)
        obtain ⟨au, cu, rfl, -⟩ := ht.form
        have hno : Hid (goodE E[n] = false → q = false) := Lib.hid fun h => by
          rw [← hq.out]
          rw [show E.all goodE = false by rw [List.all_eq_false]; exact ⟨_, List.getElem_mem hlt, fun h2 => Bool.noConfusion (h.symm.trans h2)⟩]
          rfl
        have hyes : Hid (goodE E[n] = true → ∀ j (hj : j < E.length), j < n + 1 → goodE E[j] = true) := Lib.hid fun h j hj hjn => by
          by_cases e : j = n
          · subst e; exact h
          · exact hin.out j hj (by omega)
        have hg : goodE E[n] = (decide (E[n].length ≤ 12) && unlikeR nameB E[n]) := rfl
        clear hin ht hst
        generalize E[n] = x at *
        clear hlt
        generalize goodE x = g at *
        generalize unlikeR nameB x = d at *
        by_cases h12 : 12 < x.length
        · have h12i : (12 : Int) < (x.length : Int) := by omega
          have hqf := Lib.hid (hno.out (by rw [hg, decide_eq_false (by omega)]; rfl))
          clear hun hno hyes hg
          go_wp2
          go_ret
          exact ⟨ret_bool hqf.out.symm, hb.out⟩
        · have h12i : ¬ (12 : Int) < (x.length : Int) := by omega
          rw [decide_eq_true (by omega), Bool.true_and] at hg
          subst hg
          replace hun := Lib.hid hun
          cases g with
          | false =>
            have hqf := Lib.hid (hno.out rfl)
            clear hno hyes
            go_wp2_with fail
            refine hun.out.mono ?_
            rintro e w2 ⟨rfl, hb2⟩
            have hb3 := Lib.hid (hb.out.trans (hb2.mono hb.out.size))
            clear hb2 hun
            go_wp2
            go_ret
            exact ⟨ret_bool hqf.out.symm, hb3.out⟩
          | true =>
            have hin2 := Lib.hid (hyes.out rfl)
            clear hno hyes
            go_wp2_with fail
            refine hun.out.mono ?_
            rintro e w2 ⟨rfl, hb2⟩
            have hb3 := Lib.hid (hb.out.trans (hb2.mono hb.out.size))
            clear hb2 hun
            go_wp2
            go_roundw
            case rel => exact ⟨n + 1, hn1.out, by go_num, hb3, hin2⟩
            case measure => have := hn1.out; simp [intOf]; omega
      · have hki : ¬ (n : Int) < (E.length : Int) := by omega
        obtain rfl : n = E.length := by omega
        have hall : E.all goodE = true := by
          rw [List.all_eq_true]
          intro e he
          obtain ⟨j, hj, rfl⟩ := List.getElem_of_mem he
          exact hin.out j hj hj
        have hq2 : Hid (q = decide ((varsR E).length ≤ 12)) := Lib.hid (by rw [← hq.out, hall, Bool.true_and])
        clear hall
        have hv1 := Lib.hid (hva.out wr hb.out)
        have hdec : decide (((varsR E).length : Int) ≤ 12) = decide ((varsR E).length ≤ 12) := by
          by_cases h : (varsR E).length ≤ 12
          · rw [decide_eq_true h, decide_eq_true (by omega)]
          · rw [decide_eq_false h, decide_eq_false (by omega)]
        clear hin
        go_wp2_with fail
        refine hv1.out.mono ?_
        rintro e w2 ⟨v, rfl, hW⟩
        obtain ⟨av, cv, rfl, -⟩ := hW.at
        have hb3 := Lib.hid (hb.out.trans (hW.below.mono hb.out.size))
        clear hW hv1
        go_wp2
        go_ret
        exact ⟨ret_bool (by rw [hq2.out]; first | done | exact hdec), hb3.out⟩
end Go.Proofs.Ytnocncmjdhlmkaa.hyp
