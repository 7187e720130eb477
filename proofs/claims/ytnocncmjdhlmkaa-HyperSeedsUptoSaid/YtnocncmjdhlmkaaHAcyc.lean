/- The contract of Acyclic. -/
import Derived.Test.YtnocncmjdhlmkaaHRow
import Derived.Test.YtnocncmjdhlmkaaHypH
import Derived.Test.YtnocncmjdhlmkaaHBag
import Derived.Deep.RegionHeld
import Derived.BigQuiet
namespace Go.Proofs.Ytnocncmjdhlmkaa.hyp
open Go.ChangeShapes Go.WideShapes Go.ChangeAt Go.RowKit kit
set_option linter.unusedVariables false
set_option linter.unusedSimpArgs false
/-- The sum of what a row of sets holds, and how many. -/
def measOf (w : World) : Value → Nat
  | .slice (some a) n _ => ((List.range n).map fun j => match w.cell? ⟨a.block, j, none⟩ with | some (.int _ x) => x.toNat | _ => 0).sum + n
  | _ => 0
theorem measOf_eq {w : World} {b : Nat} {v : Value} {L : List Nat} (h : MRow w b v L) : measOf w v = meas L := by
  obtain ⟨cap, h1, h2, h3⟩ := h
  rcases h3 with ⟨rfl, ao, rfl⟩ | ⟨rfl, h4, h5⟩
  · cases ao <;> simp [measOf, meas]
  · have e : ((List.range L.length).map fun j => match w.cell? ⟨b, j, none⟩ with | some (.int _ x) => x.toNat | _ => 0) = L := by
      apply List.ext_getElem
      · simp
      · intro j h6 h7
        simp only [List.getElem_map, List.getElem_range]
        rw [(holds_at h5 h7).1]
        simp
    have h6 : measOf w (.slice (some ⟨b, 0, none⟩) L.length cap) = ((List.range L.length).map fun j => match w.cell? ⟨b, j, none⟩ with | some (.int _ x) => x.toNat | _ => 0).sum + L.length := rfl
    rw [h6, e]
    rfl
/-- The world of Acyclic: what was stays, the graph's block, the row. -/
structure AS (w0 w : World) (gb b nn : Nat) (v : Value) (L : List Nat) : Prop where
  below : Below w0.heap.size w0 w
  blk : ∃ an cn x y, Blk w gb #[.slice an nn cn, x, y] 63
  row : MRow w b v L
  hb : w0.heap.size ≤ b
  ne : gb ≠ b
  lt : ∀ e ∈ L, e < 65536
  len : L.length ≤ 8
theorem AS.turn {w0 w w' : World} {gb b nn : Nat} {v v' : Value} {L L' : List Nat} (h : AS w0 w gb b nn v L) (hk : Keep [b] w w') (hr : MRow w' b v' L') (hl : ∀ e ∈ L', e < 65536) (hn : L'.length ≤ 8) : AS w0 w' gb b nn v' L' := by
  obtain ⟨an, cn, x, y, h1⟩ := h.blk
  exact ⟨h.below.trans (hk.under w0.heap.size h.below.size (fun k hk => by simp at hk; rw [hk]; exact h.hb)), ⟨an, cn, x, y, (hk.block _ h1.lt (by simp [h.ne])).trans h1⟩, hr, h.hb, h.ne, hl, hn⟩
theorem AS.set {w0 w : World} {gb b nn : Nat} {v : Value} {L : List Nat} (h : AS w0 w gb b nn v L) {j x : Nat} (hj : j < L.length) (hx : x < 65536) : AS w0 (w.setCell ⟨b, j, none⟩ (.int .u16 (x : Int))) gb b nn v (L.set j x) :=
  h.turn (Keep.setAt w b j _) (h.row.set hj) (fun e he => by
    rcases List.mem_or_eq_of_mem_set he with he | he
    · exact h.lt e he
    · rw [he]; exact hx) (by rw [List.length_set]; exact h.len)
theorem MRow.same {w w' : World} {b : Nat} {v : Value} {L : List Nat} (h : MRow w b v L) (hh : w'.heap = w.heap) : MRow w' b v L := by
  obtain ⟨cap, h1, h2, h3⟩ := h
  refine ⟨cap, h1, h2, h3.imp id fun ⟨h4, h5, h6⟩ => ⟨h4, by rw [hh]; exact h5, fun j hj => ?_⟩⟩
  have := h6 j hj
  unfold World.cell? World.frozen? at this ⊢
  rw [hh]
  exact this
theorem AS.drewN {w0 w : World} {gb b nn : Nat} {v : Value} {L : List Nat} (h : AS w0 w gb b nn v L) (q : Nat) : AS w0 (w.drewN q) gb b nn v L :=
  h.turn ((Keep.refl [b] w).drewN q) (h.row.same rfl) h.lt h.len
theorem AS.at {w0 w : World} {gb b nn n cl : Nat} {al : Option Addr} {L : List Nat} (h : AS w0 w gb b nn (.slice al n cl) L) {j : Nat} (hj : j < L.length) : al = some ⟨b, 0, none⟩ ∧ w.cell? ⟨b, j, none⟩ = some (.int .u16 ((L[j] : Nat) : Int)) ∧ w.frozen? ⟨b, j, none⟩ = false := by
  obtain ⟨cap, -, -, hv, -, hH⟩ := h.row.cell (by omega)
  injection hv with h1 h2 h3
  exact ⟨h1, holds_at hH hj⟩
/-- What Acyclic tells. -/
def acyR (E : List (List ByteArray)) : Option Bool := if mayR nameB E = true then some (decide (gyo (varsR E).length (setsR E) = [])) else none
def AcyOut (w : World) (E : List (List ByteArray)) (e : Ending) (w' : World) : Prop :=
  Below w.heap.size w w' ∧ e = .returned (match acyR E with | some n => .tuple #[.bool n, .int .i64 0] | none => .tuple #[.bool false, .int .i64 1])
set_option maxRecDepth 100000 in
set_option maxHeartbeats 8000000 in
theorem acyclic_any (w : World) (ao : Option Addr) (cap : Nat) (E : List (List ByteArray)) (hl : E.length ≤ 1048576) (hle : ∀ e ∈ E, e.length ≤ 1048576) (hE : EdgesA w w.heap.size (.slice ao E.length cap) E) :
    Calls Try.prog 13 #[.slice ao E.length cap] w fun e w' => AcyOut w E e w' := by
  have hrd := read_any w ao cap E hl hle hE
  rw [readG_eq] at hrd
  have hwr : acyR E = if mayR nameB E = true then some (decide (gyo (varsR E).length (setsR E) = [])) else none := rfl
  cases hm : mayR nameB E with
  | false =>
    rw [hm] at hrd hwr
    replace hrd := Lib.hid hrd
    replace hwr := Lib.hid hwr
    clear hE
    go_enter Try.func13, Try.ntmps13
    go_wp2_with fail
    refine hrd.out.mono ?_
    rintro e w1 ⟨hb, rfl⟩
    replace hb := Lib.hid hb
    go_wp2
    go_ret2
    exact ⟨hb.out, by rw [hwr.out]; rfl⟩
  | true =>
    have hgood := good_of hm
    have h12 := (may_parts hm).2.2
    rw [hm] at hrd hwr
    simp only [if_true] at hrd hwr
    have hms : ∀ e ∈ setsR E, e < 65536 := hgood.hE
    have hm8 : (setsR E).length ≤ 8 := hgood.hlen
    generalize setsR E = ms at *
    generalize hnn : (varsR E).length = nn at *
    replace hrd := Lib.hid hrd
    replace hwr := Lib.hid hwr
    clear hE hgood
    go_enter Try.func13, Try.ntmps13
    go_wp2_with fail
    refine hrd.out.mono ?_
    rintro e w1 ⟨hb, gb, mb, rfl, hG, hgb, hmb⟩
    replace hb := Lib.hid hb
    obtain ⟨vn, ve, hblk, htn, hrow⟩ := hG.ex
    obtain ⟨ae, ce, rfl, -, -⟩ := hrow.form
    obtain ⟨an, cn, rfl, -⟩ := htn.form
    rw [masksV_length] at hblk hrow
    replace hnn : (varsR E).length = nn := hnn
    rw [hnn] at hblk
    have z1 := hblk.cell 1 rfl
    have hcl := Lib.hid (clone_any w1 ae ce ms hm8 hrow)
    have hglt := hblk.lt
    replace hblk := Lib.hid hblk
    clear hrow htn hrd hG hnn
    go_wp2_with fail
    refine hcl.out.mono ?_
    rintro e w2 ⟨b, v, rfl, hb2, hmr, hbb⟩
    have hAS : AS w w2 gb b nn v ms := ⟨hb.out.trans (hb2.mono hb.out.size), ⟨an, cn, _, _, (hb2.block _ hglt).trans hblk.out⟩, hmr, Nat.le_trans hb.out.size hbb, by omega, hms, hm8⟩
    obtain ⟨av, cv, rfl⟩ := hmr.form
    obtain ⟨R, hR⟩ : ∃ R, gyo nn ms = R := ⟨_, rfl⟩
    rw [hR] at hwr
    replace hAS := Lib.hid hAS
    replace hR := Lib.hid hR
    clear hb hb2 hmr hcl z1 hblk
    go_wp2
    go_loopw [6, 7] (fun l m wr => ∃ (L : List Nat) (q : Bool), m = .bool q ∧ Hid (AS w wr gb b nn l L) ∧ Hid (q = true → gyo nn L = R) ∧ Hid (q = false → L = R)) (fun l m wr => if goesOn m then measOf wr l + 1 else 0)
    case atStart => exact ⟨ms, true, rfl, hAS, Lib.hid (fun _ => hR.out), Lib.hid (fun h => by cases h)⟩
    case round =>
      clear hAS hR
      obtain ⟨L, q, rfl, hA, hq1, hq2⟩ := hrel
      obtain ⟨al, cl, rfl⟩ := hA.out.row.form
      cases q with
      | false =>
        obtain rfl := hq2.out rfl
        have hbe := Lib.hid hA.out.below
        by_cases h0 : L = []
        · have h0i : ((L.length : Int) == 0) = true := by rw [h0]; rfl
          rw [decide_eq_true h0] at hwr
          clear hA hq1 hq2
          go_wp2
          go_ret2
          exact ⟨hbe.out, by rw [hwr.out]; rfl⟩
        · have h0i : ((L.length : Int) == 0) = false := beq_eq_false_iff_ne.2 (by have := List.length_pos_iff.2 h0; omega)
          rw [decide_eq_false h0] at hwr
          clear hA hq1 hq2
          go_wp2
          go_ret2
          exact ⟨hbe.out, by rw [hwr.out]; rfl⟩
      | true =>
        have hgy := Lib.hid ((gyo_eq nn hA.out.lt).symm.trans (hq1.out rfl))
        have hme := measOf_eq hA.out.row
        have hem := Lib.hid (ears_meas (n := nn) hA.out.lt)
        clear hq1 hq2
        replace hme := Lib.hid hme
        generalize meas L = M0 at *
        obtain ⟨an2, cn2, x2, y2, hblk⟩ := hA.out.blk
        have z0 := hblk.cell 0 rfl
        clear hblk
        have hA0 : Hid (AS w wr gb b nn (.slice al L.length cl) (strips 0 L)) := hA
        obtain ⟨n8, hn8⟩ : ∃ n, L.length = n := ⟨_, rfl⟩
        have hL8 : n8 ≤ 8 := by rw [← hn8]; exact hA.out.len
        have hsl : Hid (∀ k, (strips k L).length = n8) := Lib.hid fun k => (strips_length L k).trans hn8
        rw [hn8] at hA0 ⊢
        replace hme := Lib.hid (show measOf wr (.slice al n8 cl) = M0 by rw [← hn8]; exact hme.out)
        have hsm : Hid (∀ k, ∀ e ∈ strips k L, e < 65536) := Lib.hid (strips_mem hA.out.lt)
        replace hn8 := Lib.hid hn8
        clear hA
        go_wp2
        go_loopw [7, 34] (fun m i wr => ∃ k : Nat, k ≤ nn ∧ i = .int .i64 (k : Int) ∧ m = .bool (stripM k L) ∧ Hid (AS w wr gb b nn (.slice al n8 cl) (strips k L))) (fun _ i _ => nn - (intOf i).toNat)
        case atStart => exact ⟨0, by omega, rfl, rfl, hA0⟩
        case round =>
          clear hA0 z0
          obtain ⟨k, hk, rfl, rfl, hA⟩ := hrel
          by_cases hlt : k < nn
          · have hki : (k : Int) < (nn : Int) := by omega
            have hk1 := Lib.hid (show k + 1 ≤ nn from hlt)
            have hk16 : k < 16 := by omega
            have hS := hsl.out k
            have hS1 := hsm.out k
            have hstr : strips (k + 1) L = strip k (strips k L) := rfl
            have hstm : stripM (k + 1) L = (stripM k L || (cnt k (strips k L) == 1)) := rfl
            generalize hS2 : strips (k + 1) L = S2 at *
            replace hS2 := Lib.hid hS2
            generalize strips k L = S at *
            generalize stripM k L = m0 at *
            replace hstr := Lib.hid hstr
            replace hstm := Lib.hid hstm
            have hS1 := Lib.hid hS1
            go_wp2
            go_loop [9, 39] (fun c j => ∃ i : Nat, i ≤ n8 ∧ j = .int .i64 (i : Int) ∧ c = .int .i64 ((cnt k (S.take i) : Nat) : Int)) (fun _ j => n8 - (intOf j).toNat)
            case atStart => exact ⟨0, by omega, rfl, rfl⟩
            case round =>
              obtain ⟨i, hi, rfl, rfl⟩ := hrel
              by_cases hlt2 : i < n8
              · have hii : (i : Int) < (n8 : Int) := by omega
                have hi1 := Lib.hid (show i + 1 ≤ n8 from hlt2)
                have hiS : i < S.length := by omega
                obtain ⟨rfl, hc, -⟩ := hA.out.at hiS
                have hct := cnt_take k S hiS
                have hcl2 : cnt k (S.take i) ≤ 8 := by
                  have := List.length_filter_le (fun e => e.testBit k) (S.take i)
                  unfold cnt
                  rw [List.length_take] at this
                  omega
                have hh := Lib.hid (has_v S[i] k wr (hS1.out _ (List.getElem_mem hiS)) hk16)
                generalize S[i] = e at *
                generalize hcn : cnt k (S.take (i + 1)) = c2 at *
                replace hcn := Lib.hid hcn
                generalize cnt k (S.take i) = c at *
                cases hb : e.testBit k with
                | true =>
                  rw [hb] at hh
                  rw [hb, if_pos rfl] at hct
                  go_wp2_with (go_at_call 32; refine hh.out.mono ?_; rintro e1 w4 ⟨rfl, rfl⟩)
                  go_round
                  case rel => exact ⟨i + 1, hi1.out, by go_num, by rw [hcn.out, hct]; go_num⟩
                  case measure => have := hi1.out; simp [intOf]; omega
                | false =>
                  rw [hb] at hh hct
                  go_wp2_with (go_at_call 32; refine hh.out.mono ?_; rintro e1 w4 ⟨rfl, rfl⟩)
                  go_round
                  case rel => exact ⟨i + 1, hi1.out, by go_num, by rw [hcn.out, hct]; rfl⟩
                  case measure => have := hi1.out; simp [intOf]; omega
              · have hii : ¬ (i : Int) < (n8 : Int) := by omega
                obtain rfl : i = S.length := by omega
                rw [List.take_length]
                have hA0 : Hid (AS w wr gb b nn (.slice al n8 cl) (stp k (cnt k S) S 0)) := by rw [stp_zero]; exact hA
                have hall := stp_all k S
                have hfa := flg_all m0 k S
                have hsl2 : Hid (∀ i, (stp k (cnt k S) S i).length = n8) := Lib.hid fun i => (stp_length k _ S i).trans hS
                have hc8 : cnt k S ≤ 8 := by
                  have := List.length_filter_le (fun e => e.testBit k) S
                  unfold cnt
                  omega
                generalize cnt k S = c at *
                rw [hS] at hall hfa ⊢
                have hf0 : flg m0 k c S 0 = m0 := flg_zero m0 k c S
                replace hall := Lib.hid hall
                replace hfa := Lib.hid hfa
                replace hf0 := Lib.hid hf0
                replace hS := Lib.hid hS
                clear hA
                go_wp2
                go_loopw [7, 51] (fun m j wr => ∃ i : Nat, i ≤ n8 ∧ j = .int .i64 (i : Int) ∧ m = .bool (flg m0 k c S i) ∧ Hid (AS w wr gb b nn (.slice al n8 cl) (stp k c S i))) (fun _ j _ => n8 - (intOf j).toNat)
                case atStart => exact ⟨0, by omega, rfl, by rw [hf0.out], hA0⟩
                case round =>
                  clear hA0
                  obtain ⟨i, hi, rfl, rfl, hA⟩ := hrel
                  by_cases hlt2 : i < n8
                  · have hii : (i : Int) < (n8 : Int) := by omega
                    have hi1 := Lib.hid (show i + 1 ≤ n8 from hlt2)
                    have hiS : i < S.length := by have := hS.out; omega
                    have hiT : i < (stp k c S i).length := by have := hsl2.out i; omega
                    obtain ⟨rfl, hc, hfz⟩ := hA.out.at hiT
                    rw [stp_at hiS hiT] at hc
                    have hel := hS1.out _ (List.getElem_mem hiS)
                    have hfs := flg_succ m0 k c S hiS
                    have hyes := fun h => stp_yes (v := k) (c := c) h hiS
                    have hno := stp_no (v := k) (c := c) hS1.out hk16 hiS
                    have hset := fun x (hx : x < 65536) => hA.out.set (x := x) hiT hx
                    have hh := Lib.hid (fun W => has_v S[i] k W hel hk16)
                    have hwo := Lib.hid (fun W => without_v S[i] k W hel hk16)
                    have hwl := minus_lt S[i] (bit k) hel
                    generalize S[i] = e at *
                    generalize hst1 : stp k c S (i + 1) = T1 at *
                    generalize hfl1 : flg m0 k c S (i + 1) = f1 at *
                    generalize flg m0 k c S i = f0 at *
                    replace hst1 := Lib.hid hst1
                    replace hfl1 := Lib.hid hfl1
                    generalize stp k c S i = T0 at *
                    generalize minus e (bit k) = e2 at *
                    replace hfs := Lib.hid hfs
                    replace hyes := Lib.hid hyes
                    replace hno := Lib.hid hno
                    replace hset := Lib.hid hset
                    by_cases hc1 : c = 1
                    · have hci : ((c : Int) == 1) = true := by rw [hc1]; rfl
                      replace hc1 := Lib.hid hc1
                      cases hb : e.testBit k with
                      | true =>
                        rw [hb] at hh
                        have hT := hyes.out hc1.out
                        have hA2 := Lib.hid (hset.out e2 hwl)
                        rw [← hT] at hA2
                        have hf : f1 = true := by rw [hfs.out, hb, decide_eq_true hc1.out]; simp
                        clear hA hyes hno hset
                        go_wp2_with fail
                        refine (hh.out _).mono ?_
                        rintro e1 w4 ⟨rfl, rfl⟩
                        go_wp2_with fail
                        refine (hwo.out _).mono ?_
                        rintro e1 w4 ⟨rfl, rfl⟩
                        go_wp2
                        go_roundw
                        case rel => exact ⟨i + 1, hi1.out, by go_num, by rw [hfl1.out, hf], by rw [hst1.out]; exact hA2⟩
                        case measure => have := hi1.out; simp [intOf]; omega
                      | false =>
                        rw [hb] at hh
                        have hT := hno.out (fun h => by rw [hb] at h; exact absurd h.2 (by simp))
                        have hf : f1 = f0 := by rw [hfs.out, hb]; simp
                        rw [← hT] at hA
                        clear hyes hno hset
                        go_wp2_with fail
                        refine (hh.out _).mono ?_
                        rintro e1 w4 ⟨rfl, rfl⟩
                        go_wp2
                        go_roundw
                        case rel => exact ⟨i + 1, hi1.out, by go_num, by rw [hfl1.out, hf], by rw [hst1.out]; exact hA⟩
                        case measure => have := hi1.out; simp [intOf]; omega
                    · have hci : ((c : Int) == 1) = false := beq_eq_false_iff_ne.2 (by omega)
                      have hT := hno.out (fun h => hc1 h.1)
                      have hf : f1 = f0 := by rw [hfs.out, decide_eq_false hc1]; simp
                      rw [← hT] at hA
                      clear hyes hno hset
                      go_wp2
                      go_roundw
                      case rel => exact ⟨i + 1, hi1.out, by go_num, by rw [hfl1.out, hf], by rw [hst1.out]; exact hA⟩
                      case measure => have := hi1.out; simp [intOf]; omega
                  · have hii : ¬ (i : Int) < (n8 : Int) := by omega
                    obtain rfl : i = n8 := by omega
                    rw [hall.out, ← hstr.out] at hA
                    rw [hfa.out, ← hstm.out]
                    go_wp2
                    go_roundw
                    case rel => exact ⟨k + 1, hk1.out, by go_num, rfl, by rw [hS2.out]; exact hA⟩
                    case measure => have := hk1.out; simp [intOf]; omega
          · have hki : ¬ (k : Int) < (nn : Int) := by omega
            obtain rfl : k = nn := by omega
            have hS := hsl.out k
            have hS1 := hsm.out k
            have hsome := Lib.hid (fun i (hi : i < (strips k L).length) => ears_some (n := k) (L := L) hi)
            have hnone := Lib.hid (ears_none (n := k) (L := L))
            have hin := Lib.hid (fun i => inn_all (strips k L) i)
            generalize strips k L = S at *
            generalize hm0 : stripM k L = m0 at *
            replace hS1 := Lib.hid hS1
            replace hm0 := Lib.hid hm0
            have hn0 : Hid (∀ j, j < 0 → inner S j = false) := Lib.hid (fun j h => by omega)
            go_wp2
            go_loopw [6, 7, 77] (fun l m i wr => ∃ q : Nat, q ≤ n8 ∧ l = .slice al n8 cl ∧ m = .bool m0 ∧ i = .int .i64 (q : Int) ∧ Hid (AS w wr gb b k (.slice al n8 cl) S) ∧ Hid (∀ j, j < q → inner S j = false)) (fun _ _ i _ => n8 - (intOf i).toNat)
            case atStart => exact ⟨0, by omega, rfl, rfl, rfl, hA, hn0⟩
            case round =>
              clear hA hn0
              obtain ⟨q, hq, rfl, rfl, rfl, hA, hno⟩ := hrel
              by_cases hlt2 : q < n8
              · have hqi : (q : Int) < (n8 : Int) := by omega
                have hq1 := Lib.hid (show q + 1 ≤ n8 from hlt2)
                have hqS : q < S.length := by omega
                obtain ⟨rfl, hcq, -⟩ := hA.out.at hqS
                have hz := inn_zero S q
                have hgq : S.getD q 0 = S[q] := getD_at hqS
                rw [hgq] at hz
                have hsuc := fun k => inn_succ S q k
                rw [hgq] at hsuc
                have heq := hS1.out _ (List.getElem_mem hqS)
                generalize he : S[q] = e at *
                replace he := Lib.hid he
                replace hgq := Lib.hid hgq
                replace hsuc := Lib.hid hsuc
                have hei : ((e : Int) == 0) = (e == 0) := by
                  by_cases h0 : e = 0
                  · rw [h0]; rfl
                  · rw [beq_eq_false_iff_ne.2 h0]; exact beq_eq_false_iff_ne.2 (by omega)
                rw [← hz] at hei
                replace hz := Lib.hid hz
                replace hS := Lib.hid hS
                generalize hi0 : inn S q 0 = i0 at *
                replace hi0 := Lib.hid hi0
                go_wp2
                go_loopw [14, 87] (fun wi kk wr => ∃ r : Nat, r ≤ n8 ∧ kk = .int .i64 (r : Int) ∧ wi = .bool (inn S q r) ∧ Hid (AS w wr gb b k (.slice (some ⟨b, 0, none⟩) n8 cl) S)) (fun _ kk _ => n8 - (intOf kk).toNat)
                case atStart => exact ⟨0, by omega, rfl, by rw [hi0.out], hA⟩
                case round =>
                  clear hA hcq
                  obtain ⟨r, hr, rfl, rfl, hA⟩ := hrel
                  by_cases hlt3 : r < n8
                  · have hri : (r : Int) < (n8 : Int) := by omega
                    have hr1 := Lib.hid (show r + 1 ≤ n8 from hlt3)
                    have hrS : r < S.length := by have := hS.out; omega
                    obtain ⟨-, hcq, -⟩ := hA.out.at hqS
                    rw [he.out] at hcq
                    obtain ⟨-, hcr, -⟩ := hA.out.at hrS
                    have hs := hsuc.out r
                    rw [getD_at hrS] at hs
                    have her := hS1.out _ (List.getElem_mem hrS)
                    generalize S[r] = f at *
                    generalize hi1 : inn S q (r + 1) = i1 at *
                    replace hi1 := Lib.hid hi1
                    have hmi : Go.bits .andNot .u16 (e : Int) (f : Int) = ((minus e f : Nat) : Int) := u16_andNot_nat _ _ heq her
                    cases hir : inn S q r with
                    | true =>
                      rw [hir, Bool.true_or] at hs
                      replace hs := Lib.hid hs
                      go_wp2_with fail
                      go_quiet (fail)
                      go_wp2
                      go_roundw
                      case rel => exact ⟨r + 1, hr1.out, by go_num, by rw [hi1.out, hs.out], Lib.hid (hA.out.drewN _)⟩
                      case measure => have := hr1.out; simp [intOf]; omega
                    | false =>
                      rw [hir, Bool.false_or] at hs
                      by_cases hrq : r = q
                      · have hrqi : ((r : Int) != (q : Int)) = false := by rw [hrq]; simp
                        have hs1 : i1 = false := by rw [hs, hrq]; simp
                        replace hs1 := Lib.hid hs1
                        replace hrq := Lib.hid hrq
                        replace hs := Lib.hid hs
                        go_wp2_with fail
                        go_quiet (fail)
                        go_wp2
                        go_roundw
                        case rel => exact ⟨r + 1, hr1.out, by go_num, by rw [hi1.out, hs1.out], Lib.hid (hA.out.drewN _)⟩
                        case measure => have := hr1.out; simp [intOf]; omega
                      · have hrqi : ((r : Int) != (q : Int)) = true := by simp; omega
                        have hrqn : (r != q) = true := by simpa using hrq
                        rw [hrqn, Bool.true_and] at hs
                        have hmz : (((minus e f : Nat) : Int) == 0) = i1 := by
                          rw [hs]
                          by_cases h0 : minus e f = 0
                          · rw [h0]; rfl
                          · rw [beq_eq_false_iff_ne.2 h0]; exact beq_eq_false_iff_ne.2 (by omega)
                        generalize minus e f = mm at *
                        replace hs := Lib.hid hs
                        replace hrq := Lib.hid hrq
                        go_wp2_with fail
                        go_quiet (fail)
                        go_wp2
                        go_roundw
                        case rel => exact ⟨r + 1, hr1.out, by go_num, by rw [hi1.out], Lib.hid (hA.out.drewN _)⟩
                        case measure => have := hr1.out; simp [intOf]; omega
                  · have hri : ¬ (r : Int) < (n8 : Int) := by omega
                    obtain rfl : r = n8 := by omega
                    have hinn := hin.out q
                    rw [hS.out] at hinn
                    rw [hinn]
                    cases hir : inner S q with
                    | true =>
                      have hea := hsome.out q hqS hir hno.out
                      obtain ⟨cap2, hc1, hc2, hv, hbl, hH⟩ := hA.out.row.cell (by omega)
                      obtain rfl : cl = cap2 := by injection hv
                      have hdel := delete_any b cl q S wr hbl hH hc1 hc2 hqS
                      rw [hS.out, show ((q + 1 : Nat) : Int) = (q : Int) + 1 by omega] at hdel
                      have hme2 := hem.out
                      rw [hea] at hme2
                      have hgy2 := hgy.out
                      rw [hea] at hgy2
                      simp only [if_true] at hgy2
                      have hme3 := hme2 rfl
                      have hlt65 : ∀ e ∈ S.eraseIdx q, e < 65536 := fun e he => hS1.out e (List.mem_of_mem_eraseIdx he)
                      have hl65 : (S.eraseIdx q).length ≤ 8 := by
                        have := List.length_eraseIdx_le S q
                        have := hS.out
                        omega
                      replace hdel := Lib.hid hdel
                      replace hgy2 := Lib.hid hgy2
                      replace hlt65 := Lib.hid hlt65
                      replace hme3 := Lib.hid hme3
                      clear hc1 hc2 hv hbl hH hea hme2 hsome hnone hinn hno hir
                      go_wp2_with fail
                      refine hdel.out.mono ?_
                      rintro e5 w5 ⟨v5, rfl, hr5, hk5⟩
                      have hA5 := Lib.hid (hA.out.turn hk5 hr5 hlt65.out hl65)
                      obtain ⟨a5, c5, rfl⟩ := hr5.form
                      have hm5 := Lib.hid (measOf_eq hr5)
                      clear hr5 hk5 hdel
                      go_wp2
                      go_roundw
                      case rel => exact ⟨S.eraseIdx q, true, rfl, hA5, Lib.hid (fun _ => hgy2.out), Lib.hid (fun h => by cases h)⟩
                      case measure =>
                        simp only [goesOn, if_true]
                        rw [hm5.out, hme.out]
                        have := hme3.out
                        omega
                    | false =>
                      have hno2 : Hid (∀ j, j < q + 1 → inner S j = false) := Lib.hid fun j hj => by
                        by_cases hjq : j = q
                        · rw [hjq]; exact hir
                        · exact hno.out j (by omega)
                      clear hno hinn
                      go_wp2
                      go_roundw
                      case rel => exact ⟨q + 1, hq1.out, rfl, rfl, by go_num, hA, hno2⟩
                      case measure => have := hq1.out; simp [intOf]; omega
              · have hqi : ¬ (q : Int) < (n8 : Int) := by omega
                obtain rfl : q = n8 := by omega
                have hea := hnone.out (by rw [hS]; exact hno.out)
                have hme2 := hem.out
                rw [hea] at hme2
                have hgy2 := hgy.out
                rw [hea] at hgy2
                simp only at hme2 hgy2
                have hm5 := Lib.hid (measOf_eq hA.out.row)
                replace hme2 := Lib.hid hme2
                replace hgy2 := Lib.hid hgy2
                clear hsome hnone hea hno
                go_wp2
                go_roundw
                case rel =>
                  refine ⟨S, m0, rfl, hA, Lib.hid (fun h => ?_), Lib.hid (fun h => ?_)⟩
                  · have := hgy2.out; rw [h] at this; simpa using this
                  · have := hgy2.out; rw [h] at this; simpa using this
                case measure =>
                  cases m0 with
                  | false => simp [goesOn]
                  | true =>
                    simp only [goesOn, if_true]
                    rw [hm5.out, hme.out]
                    have := hme2.out rfl
                    omega
end Go.Proofs.Ytnocncmjdhlmkaa.hyp
