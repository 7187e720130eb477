/- The reference: Acyclic. -/
import Derived.Test.YtnocncmjdhlmkaaHRSetsA
import Derived.Test.YtnocncmjdhlmkaaHAcyc
namespace Go.Proofs.Ytnocncmjdhlmkaa.hyp
open Go.ChangeShapes Go.WideShapes Go.ChangeAt Go.RowKit kit
set_option linter.unusedVariables false
set_option linter.unusedSimpArgs false
/-- A row of one's own of sets. -/
structure AI (w0 w : World) (v : Value) (L : List Nat) : Prop where
  below : Below w0.heap.size w0 w
  own : w.ownsRow w0.heap.size 3 1 v L.length (natsV L)
  lt : ∀ e ∈ L, e < 65536
  len : L.length ≤ 8
theorem AI.form {w0 w : World} {v : Value} {L : List Nat} (h : AI w0 w v L) : ∃ a c, v = .slice a L.length c := by
  rcases h.own.2 with ⟨rfl, hn⟩ | ⟨g, cap, cur, rfl, _⟩
  · exact ⟨none, 0, by rw [hn]⟩
  · exact ⟨_, cap, rfl⟩
theorem AI.at {w0 w : World} {n cl : Nat} {al : Option Addr} {L : List Nat} (h : AI w0 w (.slice al n cl) L) {j : Nat} (hj : j < L.length) : ∃ b, al = some ⟨b, 0, none⟩ ∧ w.cell? ⟨b, j, none⟩ = some (.int .i64 ((L[j] : Nat) : Int)) ∧ w.frozen? ⟨b, j, none⟩ = false ∧ L.length ≤ cl ∧
    ∀ x : Nat, x < 65536 → AI w0 (w.setCell ⟨b, j, none⟩ (.int .i64 (x : Int))) (.slice al n cl) (L.set j x) := by
  rcases h.own.2 with ⟨-, hn⟩ | ⟨g, cap, cur, hv, hg, hb, hc, hm, hs, ht⟩
  · omega
  · injection hv with h1 h2 h3
    subst h1 h2 h3
    have ho := h.own
    refine ⟨g, rfl, ?_, ho.frozenAt j, hc, fun x hx => ?_⟩
    · rw [ho.cellAt j (by omega)]
      simp [natsV, hj]
    · obtain ⟨h4, h5⟩ := ho.stored j (.int .i64 (x : Int))
      refine ⟨h.below.grown h5 h.below.size (fun k hk => by cases hk; exact hg), ?_, fun e he => ?_, by rw [List.length_set]; exact h.len⟩
      · rw [natsV_set] at h4
        rw [List.length_set]
        exact h4
      · rcases List.mem_or_eq_of_mem_set he with he | he
        · exact h.lt e he
        · rw [he]; exact hx
theorem AI.meas {w0 w : World} {v : Value} {L : List Nat} (h : AI w0 w v L) : measOf w v = meas L := by
  obtain ⟨al, cl, rfl⟩ := h.form
  by_cases h0 : L = []
  · subst h0
    rcases h.own.2 with ⟨hv, -⟩ | ⟨g, cap, cur, hv, _⟩
    · rw [hv]; rfl
    · rw [hv]; rfl
  · have hp := List.length_pos_iff.2 h0
    obtain ⟨b, rfl, -, -, -, -⟩ := h.at hp
    have e : ((List.range L.length).map fun j => match w.cell? ⟨b, j, none⟩ with | some (.int _ x) => x.toNat | _ => 0) = L := by
      apply List.ext_getElem
      · simp
      · intro j h6 h7
        obtain ⟨b2, h8, h9, -, -⟩ := h.at h7
        obtain rfl : b2 = b := by cases h8; rfl
        simp only [List.getElem_map, List.getElem_range]
        rw [h9]
        simp
    have h6 : measOf w (.slice (some ⟨b, 0, none⟩) L.length cl) = ((List.range L.length).map fun j => match w.cell? ⟨b, j, none⟩ with | some (.int _ x) => x.toNat | _ => 0).sum + L.length := rfl
    rw [h6, e]
    rfl
theorem AI.drewN {w0 w : World} {v : Value} {L : List Nat} (h : AI w0 w v L) (q : Nat) : AI w0 (w.drewN q) v L := ⟨Below_drewN q h.below, h.own, h.lt, h.len⟩
theorem stp_off {v c : Nat} {L : List Nat} (h : c ≠ 1) (i j : Nat) : stp v c L i = stp v c L j := by unfold stp; rw [if_neg h, if_neg h]
theorem flg_off {m : Bool} {v c : Nat} {L : List Nat} (h : c ≠ 1) (i j : Nat) : flg m v c L i = flg m v c L j := by unfold flg; rw [decide_eq_false h]; simp
/-- Ear by ear, whichever number of variables one looks at. -/
theorem gyo_any {E : List (List ByteArray)} (hm : mayR nameB E = true) : gyo 12 (setsR E) = [] ↔ gyo (varsR E).length (setsR E) = [] := by
  have hg := good_of hm
  have h12 := (may_parts hm).2.2
  have hb : ∀ e ∈ setsR E, ∀ i, e.testBit i = true → i < (varsR E).length := fun e he i hi => by
    obtain ⟨x, hx, rfl⟩ := List.mem_map.1 he
    have := setN_sub hx i hi
    unfold allR at this
    rw [full_bit] at this
    exact of_decide_eq_true this
  rw [gyo_iff (by omega) _ _ (Nat.le_refl _) hg.hE (fun e he i hi => by have := hb e he i hi; omega), gyo_iff (by omega) _ _ (Nat.le_refl _) hg.hE hb]
set_option maxRecDepth 100000 in
set_option maxHeartbeats 8000000 in
theorem racyclic_any (w : World) (ao : Option Addr) (cap : Nat) (E : List (List ByteArray)) (hE : EdgesA w w.heap.size (.slice ao E.length cap) E) (hs : sizeE E ≤ 1000) (hl : E.length ≤ 1048576) (hm : mayR nameB E = true) :
    Calls Try.prog 17 #[.slice ao E.length cap] w fun e w' => e = .returned (.bool (decide (gyo (varsR E).length (setsR E) = []))) ∧ Below w.heap.size w w' := by
  have hrs := rsets_any w ao cap E hE hs hl (may_parts hm).2.2
  have hgood := good_of hm
  have hms := hgood.hE
  have hm8 : (setsR E).length ≤ 8 := hgood.hlen
  have h12 := gyo_any hm
  obtain ⟨nn, hnn⟩ : ∃ nn, nn = 12 := ⟨12, rfl⟩
  rw [← hnn] at h12
  rw [show decide (gyo (varsR E).length (setsR E) = []) = decide (gyo nn (setsR E) = []) from decide_eq_decide.2 h12.symm]
  replace hnn := Lib.hid hnn
  clear h12
  obtain ⟨R, hR⟩ : ∃ R, gyo nn (setsR E) = R := ⟨_, rfl⟩
  rw [show decide (gyo nn (setsR E) = []) = decide (R = []) from decide_eq_decide.2 (by rw [hR])]
  generalize setsR E = ms at *
  obtain ⟨iI, hiI, hz0, hz1, hz2⟩ := info_parts infoInt
  replace hiI := Lib.hid hiI
  replace hz0 := Lib.hid hz0
  replace hz1 := Lib.hid hz1
  replace hz2 := Lib.hid hz2
  replace hrs := Lib.hid hrs
  replace hR := Lib.hid hR
  clear hE hgood
  go_enter Try.func17, Try.ntmps17
  go_wp2_with fail
  refine hrs.out.mono ?_
  rintro e w1 ⟨ev, rfl, hW1⟩
  have hA0 : Hid (AI w w1 ev ms) := Lib.hid ⟨hW1.below, by have := hW1.own; rw [natsV_length] at this; exact this, hms, hm8⟩
  clear hrs hW1
  go_wp2
  go_loopw [3, 4] (fun l m wr => ∃ (L : List Nat) (q : Bool), m = .bool q ∧ Hid (AI w wr l L) ∧ Hid (q = true → gyo nn L = R) ∧ Hid (q = false → L = R)) (fun l m wr => if goesOn m then measOf wr l + 1 else 0)
  case atStart => exact ⟨ms, true, rfl, hA0, Lib.hid (fun _ => hR.out), Lib.hid (fun h => by cases h)⟩
  case round =>
    clear hA0 hR
    obtain ⟨L, q, rfl, hA, hq1, hq2⟩ := hrel
    obtain ⟨al, cl, rfl⟩ := hA.out.form
    cases q with
    | false =>
      obtain rfl := hq2.out rfl
      have hbe := Lib.hid hA.out.below
      by_cases h0 : L = []
      · have h0i : ((L.length : Int) == 0) = true := by rw [h0]; rfl
        have hd := Lib.hid (decide_eq_true h0)
        replace h0 := Lib.hid h0
        clear hA hq1 hq2
        go_wp2
        go_ret
        exact ⟨ret_bool hd.out.symm, hbe.out⟩
      · have h0i : ((L.length : Int) == 0) = false := beq_eq_false_iff_ne.2 (by have := List.length_pos_iff.2 h0; omega)
        have hd := Lib.hid (decide_eq_false h0)
        replace h0 := Lib.hid h0
        clear hA hq1 hq2
        go_wp2
        go_ret
        exact ⟨ret_bool hd.out.symm, hbe.out⟩
    | true =>
      have hgy := Lib.hid ((gyo_eq nn hA.out.lt).symm.trans (hq1.out rfl))
      have hme := hA.out.meas
      have hem := Lib.hid (ears_meas (n := nn) hA.out.lt)
      clear hq1 hq2
      replace hme := Lib.hid hme
      generalize meas L = M0 at *
      have hA0 : Hid (AI w wr (.slice al L.length cl) (strips 0 L)) := hA
      obtain ⟨n8, hn8⟩ : ∃ n, L.length = n := ⟨_, rfl⟩
      have hL8 : n8 ≤ 8 := by rw [← hn8]; exact hA.out.len
      have hsl : Hid (∀ k, (strips k L).length = n8) := Lib.hid fun k => (strips_length L k).trans hn8
      rw [hn8] at hA0 ⊢
      replace hme := Lib.hid (show measOf wr (.slice al n8 cl) = M0 by rw [← hn8]; exact hme.out)
      have hsm : Hid (∀ k, ∀ e ∈ strips k L, e < 65536) := Lib.hid (strips_mem hA.out.lt)
      replace hn8 := Lib.hid hn8
      clear hA
      go_wp2
      go_loopw [4, 5] (fun m i wr => ∃ k : Nat, k ≤ 12 ∧ i = .int .i64 (k : Int) ∧ m = .bool (stripM k L) ∧ Hid (AI w wr (.slice al n8 cl) (strips k L))) (fun _ i _ => 12 - (intOf i).toNat)
      case atStart => exact ⟨0, by omega, rfl, rfl, hA0⟩
      case round =>
        clear hA0
        obtain ⟨k, hk, rfl, rfl, hA⟩ := hrel
        by_cases hlt : k < 12
        · have hki : (k : Int) < 12 := by omega
          have hk1 := Lib.hid (show k + 1 ≤ 12 from hlt)
          have hk16 : k < 16 := by omega
          have hS := hsl.out k
          have hS1 := hsm.out k
          have hstr : strips (k + 1) L = strip k (strips k L) := rfl
          have hstm : stripM (k + 1) L = (stripM k L || (cnt k (strips k L) == 1)) := rfl
          generalize hS2 : strips (k + 1) L = S2 at *
          replace hS2 := Lib.hid hS2
          generalize strips k L = S at *
          generalize stripM k L = m0 at *
          replace hstr := Lib.hid hstr
          replace hstm := Lib.hid hstm
          have hS1 := Lib.hid hS1
          go_wp2
          go_loop [6, 7] (fun c j => ∃ i : Nat, i ≤ n8 ∧ j = .int .i64 (i : Int) ∧ c = .int .i64 ((cnt k (S.take i) : Nat) : Int)) (fun _ j => n8 - (intOf j).toNat)
          case atStart => exact ⟨0, by omega, rfl, rfl⟩
          case round =>
            obtain ⟨i, hi, rfl, rfl⟩ := hrel
            by_cases hlt2 : i < n8
            · have hii : (i : Int) < (n8 : Int) := by omega
              have hi1 := Lib.hid (show i + 1 ≤ n8 from hlt2)
              have hiS : i < S.length := by omega
              obtain ⟨b, rfl, hc, -, -, -⟩ := hA.out.at hiS
              have hct := cnt_take k S hiS
              have hcl2 : cnt k (S.take i) ≤ 8 := by
                have := List.length_filter_le (fun e => e.testBit k) (S.take i)
                unfold cnt
                rw [List.length_take] at this
                omega
              have hh := has_i64 S[i] k (hS1.out _ (List.getElem_mem hiS))
              generalize S[i] = e at *
              generalize hcn : cnt k (S.take (i + 1)) = c2 at *
              replace hcn := Lib.hid hcn
              generalize cnt k (S.take i) = c at *
              cases hb : e.testBit k with
              | true =>
                rw [hb, if_pos rfl] at hh
                rw [hb, if_pos rfl] at hct
                replace hb := Lib.hid hb
                go_wp2
                go_round
                case rel => exact ⟨i + 1, hi1.out, by go_num, by rw [hcn.out, hct]; go_num⟩
                case measure => have := hi1.out; simp [intOf]; omega
              | false =>
                rw [hb, if_neg (by simp)] at hh
                rw [hb] at hct
                replace hb := Lib.hid hb
                go_wp2
                go_round
                case rel => exact ⟨i + 1, hi1.out, by go_num, by rw [hcn.out, hct]; rfl⟩
                case measure => have := hi1.out; simp [intOf]; omega
            · have hii : ¬ (i : Int) < (n8 : Int) := by omega
              obtain rfl : i = S.length := by omega
              rw [List.take_length]
              have hA0 : Hid (AI w wr (.slice al n8 cl) (stp k (cnt k S) S 0)) := by rw [stp_zero]; exact hA
              have hall := stp_all k S
              have hfa := flg_all m0 k S
              have hsl2 : Hid (∀ i, (stp k (cnt k S) S i).length = n8) := Lib.hid fun i => (stp_length k _ S i).trans hS
              have hc8 : cnt k S ≤ 8 := by
                have := List.length_filter_le (fun e => e.testBit k) S
                unfold cnt
                omega
              generalize cnt k S = c at *
              rw [hS] at hall hfa ⊢
              have hf0 : flg m0 k c S 0 = m0 := flg_zero m0 k c S
              replace hall := Lib.hid hall
              replace hfa := Lib.hid hfa
              replace hf0 := Lib.hid hf0
              replace hS := Lib.hid hS
              clear hA
              go_wp2
              go_loopw [4, 8] (fun m j wr => ∃ i : Nat, i ≤ n8 ∧ j = .int .i64 (i : Int) ∧ m = .bool (flg m0 k c S i) ∧ Hid (AI w wr (.slice al n8 cl) (stp k c S i))) (fun _ j _ => n8 - (intOf j).toNat)
              case atStart => exact ⟨0, by omega, rfl, by rw [hf0.out], hA0⟩
              case round =>
                clear hA0
                obtain ⟨i, hi, rfl, rfl, hA⟩ := hrel
                by_cases hlt2 : i < n8 ∧ c = 1
                · obtain ⟨hlt2, hc1⟩ := hlt2
                  have hii : (i : Int) < (n8 : Int) := by omega
                  have hci : ((c : Int) == 1) = true := by rw [hc1]; rfl
                  have hi1 := Lib.hid (show i + 1 ≤ n8 from hlt2)
                  have hiS : i < S.length := by have := hS.out; omega
                  have hiT : i < (stp k c S i).length := by have := hsl2.out i; omega
                  obtain ⟨b, rfl, hc, hfz, -, hset⟩ := hA.out.at hiT
                  rw [stp_at hiS hiT] at hc
                  have hel := hS1.out _ (List.getElem_mem hiS)
                  have hfs := flg_succ m0 k c S hiS
                  have hyes := stp_yes (v := k) hc1 hiS
                  have hno := stp_no (v := k) (c := c) hS1.out hk16 hiS
                  have hh := has_i64 S[i] k hel
                  have hbi := bit_i64 k hk16
                  have hwo := i64_andNot_nat S[i] (bit k) hel (bit_lt hk16)
                  have hwl := minus_lt S[i] (bit k) hel
                  generalize S[i] = e at *
                  generalize hst1 : stp k c S (i + 1) = T1 at *
                  generalize hfl1 : flg m0 k c S (i + 1) = f1 at *
                  generalize flg m0 k c S i = f0 at *
                  replace hst1 := Lib.hid hst1
                  replace hfl1 := Lib.hid hfl1
                  generalize stp k c S i = T0 at *
                  generalize bit k = bk at *
                  generalize minus e bk = e2 at *
                  replace hfs := Lib.hid hfs
                  replace hyes := Lib.hid hyes
                  replace hno := Lib.hid hno
                  replace hset := Lib.hid hset
                  replace hc1 := Lib.hid hc1
                  cases hb : e.testBit k with
                  | true =>
                    rw [hb, if_pos rfl] at hh
                    have hA2 := Lib.hid (hset.out e2 hwl)
                    rw [← hyes.out] at hA2
                    have hf : f1 = true := by rw [hfs.out, hb, decide_eq_true hc1.out]; simp
                    replace hb := Lib.hid hb
                    replace hf := Lib.hid hf
                    clear hA hyes hno hset
                    go_wp2
                    go_roundw
                    case rel => exact ⟨i + 1, hi1.out, by go_num, by rw [hfl1.out, hf.out], by rw [hst1.out]; exact hA2⟩
                    case measure => have := hi1.out; simp [intOf]; omega
                  | false =>
                    rw [hb, if_neg (by simp)] at hh
                    have hT := hno.out (fun h => by rw [hb] at h; exact absurd h.2 (by simp))
                    have hf : f1 = f0 := by rw [hfs.out, hb]; simp
                    rw [← hT] at hA
                    replace hb := Lib.hid hb
                    replace hf := Lib.hid hf
                    replace hT := Lib.hid hT
                    clear hyes hno hset
                    go_wp2
                    go_roundw
                    case rel => exact ⟨i + 1, hi1.out, by go_num, by rw [hfl1.out, hf.out], by rw [hst1.out]; exact hA⟩
                    case measure => have := hi1.out; simp [intOf]; omega
                · have hAe : Hid (AI w wr (.slice al n8 cl) (stp k c S n8)) := by
                    by_cases hc1 : c = 1
                    · obtain rfl : i = n8 := by omega
                      exact hA
                    · rw [stp_off hc1 n8 i]; exact hA
                  have hfe : flg m0 k c S i = flg m0 k c S n8 := by
                    by_cases hc1 : c = 1
                    · obtain rfl : i = n8 := by omega
                      rfl
                    · exact flg_off hc1 i n8
                  rw [hall.out, ← hstr.out] at hAe
                  rw [hfe, hfa.out, ← hstm.out]
                  clear hA
                  replace hfe := Lib.hid hfe
                  by_cases hlt3 : i < n8
                  · have hii : (i : Int) < (n8 : Int) := by omega
                    have hci : ((c : Int) == 1) = false := beq_eq_false_iff_ne.2 (by omega)
                    replace hlt2 := Lib.hid hlt2
                    go_wp2
                    go_roundw
                    case rel => exact ⟨k + 1, hk1.out, by go_num, rfl, by rw [hS2.out]; exact hAe⟩
                    case measure => have := hk1.out; simp [intOf]; omega
                  · have hii : ¬ (i : Int) < (n8 : Int) := by omega
                    replace hlt2 := Lib.hid hlt2
                    go_wp2
                    go_roundw
                    case rel => exact ⟨k + 1, hk1.out, by go_num, rfl, by rw [hS2.out]; exact hAe⟩
                    case measure => have := hk1.out; simp [intOf]; omega
        · have hki : ¬ (k : Int) < 12 := by omega
          have hkn : nn = k := by have := hnn.out; omega
          subst hkn
          have hS := hsl.out nn
          have hS1 := hsm.out nn
          have hsome := Lib.hid (fun i (hi : i < (strips nn L).length) => ears_some (n := nn) (L := L) hi)
          have hnone := Lib.hid (ears_none (n := nn) (L := L))
          have hin := Lib.hid (fun i => inn_all (strips nn L) i)
          generalize strips nn L = S at *
          generalize hm0 : stripM nn L = m0 at *
          replace hS1 := Lib.hid hS1
          replace hm0 := Lib.hid hm0
          have hn0 : Hid (∀ j, j < 0 → inner S j = false) := Lib.hid (fun j h => by omega)
          go_wp2
          go_loopw [3, 4, 9] (fun l m i wr => ∃ q : Nat, q ≤ n8 ∧ l = .slice al n8 cl ∧ m = .bool m0 ∧ i = .int .i64 (q : Int) ∧ Hid (AI w wr (.slice al n8 cl) S) ∧ Hid (∀ j, j < q → inner S j = false)) (fun _ _ i _ => n8 - (intOf i).toNat)
          case atStart => exact ⟨0, by omega, rfl, rfl, rfl, hA, hn0⟩
          case round =>
            clear hA hn0
            obtain ⟨q, hq, rfl, rfl, rfl, hA, hno⟩ := hrel
            by_cases hlt2 : q < n8
            · have hqi : (q : Int) < (n8 : Int) := by omega
              have hq1 := Lib.hid (show q + 1 ≤ n8 from hlt2)
              have hqS : q < S.length := by omega
              obtain ⟨b, rfl, hcq, -, -, -⟩ := hA.out.at hqS
              have hz := inn_zero S q
              have hgq : S.getD q 0 = S[q] := getD_at hqS
              rw [hgq] at hz
              have hsuc := fun k => inn_succ S q k
              rw [hgq] at hsuc
              have heq := hS1.out _ (List.getElem_mem hqS)
              generalize he : S[q] = e at *
              replace he := Lib.hid he
              replace hgq := Lib.hid hgq
              replace hsuc := Lib.hid hsuc
              have hei : ((e : Int) == 0) = (e == 0) := by
                by_cases h0 : e = 0
                · rw [h0]; rfl
                · rw [beq_eq_false_iff_ne.2 h0]; exact beq_eq_false_iff_ne.2 (by omega)
              rw [← hz] at hei
              replace hz := Lib.hid hz
              replace hS := Lib.hid hS
              generalize hi0 : inn S q 0 = i0 at *
              replace hi0 := Lib.hid hi0
              go_wp2
              go_loopw [10, 11] (fun wi kk wr => ∃ r : Nat, r ≤ n8 ∧ kk = .int .i64 (r : Int) ∧ wi = .bool (inn S q r) ∧ Hid (AI w wr (.slice (some ⟨b, 0, none⟩) n8 cl) S)) (fun _ kk _ => n8 - (intOf kk).toNat)
              case atStart => exact ⟨0, by omega, rfl, by rw [hi0.out], hA⟩
              case round =>
                clear hA hcq
                obtain ⟨r, hr, rfl, rfl, hA⟩ := hrel
                by_cases hlt3 : r < n8
                · have hri : (r : Int) < (n8 : Int) := by omega
                  have hr1 := Lib.hid (show r + 1 ≤ n8 from hlt3)
                  have hrS : r < S.length := by have := hS.out; omega
                  obtain ⟨b2, hb2, hcq, -, -, -⟩ := hA.out.at hqS
                  rw [he.out] at hcq
                  obtain rfl : b = b2 := by cases hb2; rfl
                  obtain ⟨b2, hb2, hcr, -, -, -⟩ := hA.out.at hrS
                  obtain rfl : b = b2 := by cases hb2; rfl
                  clear hb2
                  have hs := hsuc.out r
                  rw [getD_at hrS] at hs
                  have her := hS1.out _ (List.getElem_mem hrS)
                  generalize S[r] = f at *
                  generalize hi1 : inn S q (r + 1) = i1 at *
                  replace hi1 := Lib.hid hi1
                  have hmi := i64_andNot_nat e f heq her
                  cases hir : inn S q r with
                  | true =>
                    rw [hir, Bool.true_or] at hs
                    replace hs := Lib.hid hs
                    go_wp2_with fail
                    go_quiet (fail)
                    go_wp2
                    go_roundw
                    case rel => exact ⟨r + 1, hr1.out, by go_num, by rw [hi1.out, hs.out], Lib.hid (hA.out.drewN _)⟩
                    case measure => have := hr1.out; simp [intOf]; omega
                  | false =>
                    rw [hir, Bool.false_or] at hs
                    by_cases hrq : r = q
                    · have hrqi : ((r : Int) != (q : Int)) = false := by rw [hrq]; simp
                      have hs1 : i1 = false := by rw [hs, hrq]; simp
                      replace hs1 := Lib.hid hs1
                      replace hrq := Lib.hid hrq
                      replace hs := Lib.hid hs
                      go_wp2_with fail
                      go_quiet (fail)
                      go_wp2
                      go_roundw
                      case rel => exact ⟨r + 1, hr1.out, by go_num, by rw [hi1.out, hs1.out], Lib.hid (hA.out.drewN _)⟩
                      case measure => have := hr1.out; simp [intOf]; omega
                    · have hrqi : ((r : Int) != (q : Int)) = true := by simp; omega
                      have hrqn : (r != q) = true := by simpa using hrq
                      rw [hrqn, Bool.true_and] at hs
                      have hmz : (((minus e f : Nat) : Int) == 0) = i1 := by
                        rw [hs]
                        by_cases h0 : minus e f = 0
                        · rw [h0]; rfl
                        · rw [beq_eq_false_iff_ne.2 h0]; exact beq_eq_false_iff_ne.2 (by omega)
                      generalize minus e f = mm at *
                      replace hs := Lib.hid hs
                      replace hrq := Lib.hid hrq
                      go_wp2_with fail
                      go_quiet (fail)
                      go_wp2
                      go_roundw
                      case rel => exact ⟨r + 1, hr1.out, by go_num, by rw [hi1.out], Lib.hid (hA.out.drewN _)⟩
                      case measure => have := hr1.out; simp [intOf]; omega
                · have hri : ¬ (r : Int) < (n8 : Int) := by omega
                  obtain rfl : r = n8 := by omega
                  have hinn := hin.out q
                  rw [hS.out] at hinn
                  rw [hinn]
                  cases hir : inner S q with
                  | true =>
                    have hea := hsome.out q hqS hir hno.out
                    have hme2 := hem.out
                    rw [hea] at hme2
                    have hgy2 := hgy.out
                    rw [hea] at hgy2
                    simp only [if_true] at hgy2
                    have hme3 := hme2 rfl
                    have hlt65 : ∀ e ∈ S.eraseIdx q, e < 65536 := fun e he => hS1.out e (List.mem_of_mem_eraseIdx he)
                    have hl65 : (S.eraseIdx q).length ≤ 8 := by
                      have := List.length_eraseIdx_le S q
                      have := hS.out
                      omega
                    obtain ⟨b2, hb2, -, -, hcl, -⟩ := hA.out.at hqS
                    rw [hS.out] at hcl
                    replace hgy2 := Lib.hid hgy2
                    replace hlt65 := Lib.hid hlt65
                    replace hme3 := Lib.hid hme3
                    clear hea hme2 hsome hnone hinn hno hir hb2
                    have hnl := hS.out
                    have hown := hA.out.own
                    have hszb := hA.out.below.size
                    have hqle : q ≤ S.length := by omega
                    have hlen1 : (natsV (S.take q)).length = q * 1 := by rw [natsV_length, List.length_take]; omega
                    have hnew1 : ∀ j u, (natsV (S.take q))[j]? = some u → wr.cell? ((⟨b, 0, none⟩ : Addr).add j) = some u := fun j u hu => by
                      have hj : j < (S.take q).length := by
                        have := (List.getElem?_eq_some_iff.1 hu).1
                        simpa using this
                      rw [List.length_take] at hj
                      have hjS : j < S.length := by omega
                      obtain ⟨b3, hb3, hc3, -, -, -⟩ := hA.out.at hjS
                      obtain rfl : b = b3 := by cases hb3; rfl
                      have hadd : (⟨b, 0, none⟩ : Addr).add j = ⟨b, j, none⟩ := by unfold Addr.add; split <;> simp_all
                      rw [hadd, hc3]
                      have hjq : j < q := Nat.lt_of_lt_of_le hj (Nat.min_le_left _ _)
                      rw [← hu]
                      unfold natsV
                      rw [List.getElem?_map, List.getElem?_take_of_lt hjq, List.getElem?_eq_getElem hjS]
                      rfl
                    go_wp2_with (at_builtin; refine wpList_append_own _ rfl _ _ 43 rfl w.heap.size 3 iI (.int .i64 0) 1 8 Try.underlying43 hiI.out hz0.out hz1.out hz2.out rfl (by decide) _ 0 [] rfl (World.ownsRow_nil _ _ _ _) _ q _ (natsV (S.take q)) rfl hlen1 hnew1 ?lc ?ld ?le hszb ?lg)
                    case lc => intro u hu; obtain ⟨x, -, rfl⟩ := List.mem_map.1 hu; rfl
                    case ld => simp only [maxLen]; omega
                    case le => omega
                    case lg =>
                      intro v5 w5 h1 h2 _
                      obtain ⟨a5, c5, rfl⟩ := own_form3 h1
                      have hown5 : w5.ownsRow w.heap.size 3 1 (.slice a5 q c5) q (natsV (S.take q)) := by
                        exact h1
                      have hkeep5 := hown.kept h2 (.inr (by simp [Value.ownBlock]))
                      have hb5 : Below w.heap.size w w5 := hA.out.below.grown h2 hszb (fun k hk => by simp [Value.ownBlock] at hk)
                      have hwr5 : ∀ j (hj : j < S.length), w5.cell? ⟨b, j, none⟩ = some (.int .i64 ((S[j] : Nat) : Int)) := fun j hj => by
                        obtain ⟨b3, hb3, hc3, -, -, -⟩ := hA.out.at hj
                        obtain rfl : b = b3 := by cases hb3; rfl
                        have hlt5 : b < wr.heap.size := (hown.lt b rfl).2
                        rw [cell_heap (h2.block b hlt5 (by simp [Value.ownBlock]))]
                        exact hc3
                      have hq63 : IntKind.i64.wrap ((q : Int) + 1) = (q : Int) + 1 := IntWalk.i64_in _ (by omega)
                      clear h1 h2
                      replace hown5 := Lib.hid hown5
                      replace hkeep5 := Lib.hid hkeep5
                      replace hb5 := Lib.hid hb5
                      replace hwr5 := Lib.hid hwr5
                      replace hnew1 := Lib.hid hnew1
                      clear hown hnew1 hlen1
                      by_cases hcq : cl = q + 1
                      · have hcq0 : cl - (q + 1) = 0 := by omega
                        have hrq : r = q + 1 := by omega
                        subst hcq
                        subst hrq
                        go_wp2_with (at_builtin; (refine wpList_append_own _ rfl _ _ 43 rfl w.heap.size 3 iI (.int .i64 0) 1 8 Try.underlying43 hiI.out hz0.out hz1.out hz2.out rfl (by decide) _ q (natsV (S.take q)) rfl hown5.out ⟨b, 0, none⟩ 0 _ (natsV (S.drop (q + 1))) rfl ?ma ?mb ?mc ?md ?me ?mf ?mg))
                        case ma => rw [natsV_length, List.length_drop]; omega
                        case mb =>
                          intro j u hu
                          have hj : q + 1 + j < S.length := by
                            have := (List.getElem?_eq_some_iff.1 hu).1
                            rw [natsV_length, List.length_drop] at this
                            omega
                          omega
                        case mc => intro u hu; obtain ⟨x, -, rfl⟩ := List.mem_map.1 hu; rfl
                        case md => simp only [maxLen]; omega
                        case me => omega
                        case mf => exact hb5.out.size
                        case mg =>
                          intro v6 w6 h1 h2 _
                          have hlen6 : (S.eraseIdx q).length = q := by
                            rw [List.length_eraseIdx]
                            split <;> omega
                          have hA6 : AI w w6 v6 (S.eraseIdx q) := by
                            refine ⟨hb5.out.grown h2 hb5.out.size (fun k hk => (hown5.out.lt k hk).1), ?_, hlt65.out, hl65⟩
                            have e : natsV (S.take q) ++ natsV (S.drop (q + 1)) = natsV (S.eraseIdx q) := by
                              unfold natsV
                              rw [← List.map_append, List.eraseIdx_eq_take_drop_succ]
                            rw [e] at h1
                            rw [hlen6]
                            exact h1
                          have hm6 := Lib.hid hA6.meas
                          replace hA6 := Lib.hid hA6
                          clear h1 h2 hown5 hkeep5 hb5 hwr5
                          go_wp2
                          go_roundw
                          case rel => exact ⟨S.eraseIdx q, true, rfl, hA6, Lib.hid (fun _ => hgy2.out), Lib.hid (fun h => by cases h)⟩
                          case measure =>
                            simp only [goesOn, if_true]
                            rw [hm6.out, hme.out]
                            have := hme3.out
                            omega
                      · have hcq0 : ¬ cl - (q + 1) = 0 := by omega
                        have hcq1 : q + 1 ≤ r := by omega
                        go_wp2_with (at_builtin; (refine wpList_append_own _ rfl _ _ 43 rfl w.heap.size 3 iI (.int .i64 0) 1 8 Try.underlying43 hiI.out hz0.out hz1.out hz2.out rfl (by decide) _ q (natsV (S.take q)) rfl hown5.out ⟨b, q + 1, none⟩ (r - (q + 1)) _ (natsV (S.drop (q + 1))) rfl ?na ?nb ?nc ?nd ?ne ?nf ?ng))
                        case na => rw [natsV_length, List.length_drop]; omega
                        case nb =>
                          intro j u hu
                          have hj : q + 1 + j < S.length := by
                            have := (List.getElem?_eq_some_iff.1 hu).1
                            rw [natsV_length, List.length_drop] at this
                            omega
                          have hadd : (⟨b, q + 1, none⟩ : Addr).add j = ⟨b, q + 1 + j, none⟩ := by unfold Addr.add; split <;> simp_all
                          rw [hadd, hwr5.out _ hj, ← hu]
                          unfold natsV
                          rw [List.getElem?_map, List.getElem?_drop, List.getElem?_eq_getElem hj]
                          rfl
                        case nc => intro u hu; obtain ⟨x, -, rfl⟩ := List.mem_map.1 hu; rfl
                        case nd => simp only [maxLen]; omega
                        case ne => omega
                        case nf => exact hb5.out.size
                        case ng =>
                          intro v6 w6 h1 h2 _
                          have hlen6 : (S.eraseIdx q).length = q + (r - (q + 1)) := by
                            rw [List.length_eraseIdx]
                            split <;> omega
                          have hA6 : AI w w6 v6 (S.eraseIdx q) := by
                            refine ⟨hb5.out.grown h2 hb5.out.size (fun k hk => (hown5.out.lt k hk).1), ?_, hlt65.out, hl65⟩
                            have e : natsV (S.take q) ++ natsV (S.drop (q + 1)) = natsV (S.eraseIdx q) := by
                              unfold natsV
                              rw [← List.map_append, List.eraseIdx_eq_take_drop_succ]
                            rw [e] at h1
                            rw [hlen6]
                            exact h1
                          have hm6 := Lib.hid hA6.meas
                          replace hA6 := Lib.hid hA6
                          clear h1 h2 hown5 hkeep5 hb5 hwr5
                          go_wp2
                          go_roundw
                          case rel => exact ⟨S.eraseIdx q, true, rfl, hA6, Lib.hid (fun _ => hgy2.out), Lib.hid (fun h => by cases h)⟩
                          case measure =>
                            simp only [goesOn, if_true]
                            rw [hm6.out, hme.out]
                            have := hme3.out
                            omega
                  | false =>
                    have hno2 : Hid (∀ j, j < q + 1 → inner S j = false) := Lib.hid fun j hj => by
                      by_cases hjq : j = q
                      · rw [hjq]; exact hir
                      · exact hno.out j (by omega)
                    clear hno hinn
                    go_wp2
                    go_roundw
                    case rel => exact ⟨q + 1, hq1.out, rfl, rfl, by go_num, hA, hno2⟩
                    case measure => have := hq1.out; simp [intOf]; omega
            · have hqi : ¬ (q : Int) < (n8 : Int) := by omega
              obtain rfl : q = n8 := by omega
              have hea := hnone.out (by rw [hS]; exact hno.out)
              have hme2 := hem.out
              rw [hea] at hme2
              have hgy2 := hgy.out
              rw [hea] at hgy2
              simp only at hme2 hgy2
              have hm5 := Lib.hid hA.out.meas
              replace hme2 := Lib.hid hme2
              replace hgy2 := Lib.hid hgy2
              clear hsome hnone hea hno
              go_wp2
              go_roundw
              case rel =>
                refine ⟨S, m0, rfl, hA, Lib.hid (fun h => ?_), Lib.hid (fun h => ?_)⟩
                · have := hgy2.out; rw [h] at this; simpa using this
                · have := hgy2.out; rw [h] at this; simpa using this
              case measure =>
                cases m0 with
                | false => simp [goesOn]
                | true =>
                  simp only [goesOn, if_true]
                  rw [hm5.out, hme.out]
                  have := hme2.out rfl
                  omega
end Go.Proofs.Ytnocncmjdhlmkaa.hyp
