/- The contract of bag. -/
import Derived.Test.YtnocncmjdhlmkaaHGraph
namespace Go.Proofs.Ytnocncmjdhlmkaa.hyp
open Go.ChangeShapes Go.WideShapes Go.ChangeAt Go.RowKit kit
set_option linter.unusedVariables false
set_option linter.unusedSimpArgs false
theorem pass_snoc (L : List Nat) (e A s : Nat) : pass (L ++ [e]) A s = if e &&& pass L A s &&& A = 0 then pass L A s else pass L A s ||| e := by
  unfold pass
  rw [List.foldl_append]
  rfl
/-- What a time over all edges keeps. -/
structure Bagging (E : List Nat) (A v s : Nat) : Prop where
  lt : s < 65536
  self : s.testBit v = true
  sound : ∀ i, s.testBit i = true → Reach E A v i
def seenOf : Value → Nat
  | .int _ n => n.toNat
  | _ => 0
def goesOn : Value → Bool
  | .bool b => b
  | _ => false
set_option maxRecDepth 100000 in
set_option maxHeartbeats 4000000 in
theorem bag_any (w : World) (gb mb : Nat) (ns : List ByteArray) (ms : List Nat) (hG : GM w gb mb ns ms) (v out : Nat) (hv : v < 16) (ho : out < 65536) (hvo : out.testBit v = false) :
    Calls Try.prog 45 #[.pointer (some ⟨gb, 0, none⟩), .int .i64 v, .int .u16 out] w fun e w' => e = .returned (.int .u16 ((bagN ms out v : Nat) : Int)) ∧ w' = w := by
  obtain ⟨an, cn, ae, ce, hb, -, hes⟩ := hG.cells
  have x1 := hb.cell 1 rfl
  have hw0 := Lib.hid (with_v 0 v w (by decide) hv)
  have hwo := Lib.hid (with_v out v w ho hv)
  have hwi := Lib.hid (without_v out v w ho hv)
  have hmo : minus out (bit v) = out := by
    apply Nat.eq_of_testBit_eq
    intro i
    rw [testBit_minus ho (bit_lt hv), testBit_bit]
    by_cases h : v = i
    · rw [← h, hvo]; rfl
    · simp [h]
  rw [hmo] at hwi
  rw [Nat.zero_or] at hw0
  have hA : out ||| bit v < 65536 := or_lt ho (bit_lt hv)
  have hfin : ∀ s, Bagging ms (out ||| bit v) v s → pass ms (out ||| bit v) s = s → minus s out = bagN ms out v := fun s h hp => by
    unfold bagN
    rw [(IsClos.of h.self h.sound hp).eq (seen_is hG.hE hv)]
  have h0 : Bagging ms (out ||| bit v) v (bit v) := ⟨bit_lt hv, by rw [testBit_bit]; simp, start_sound⟩
  have hstep : ∀ s, Bagging ms (out ||| bit v) v s → Bagging ms (out ||| bit v) v (pass ms (out ||| bit v) s) := fun s h =>
    ⟨pass_lt _ _ _ hG.hE h.lt, pass_sub _ _ _ _ h.self, pass_sound ms s (fun _ h => h) h.sound⟩
  have hplt : ∀ k s, s < 65536 → pass (ms.take k) (out ||| bit v) s < 65536 := fun k s h => pass_lt _ _ _ (fun e he => hG.hE e (List.mem_of_mem_take he)) h
  have hple : ∀ s, s ≤ pass ms (out ||| bit v) s := fun s => (pass_sub ms _ s).le
  have hE := hG.hE
  have hlen8 := hG.hlen
  have hbl := bit_lt hv
  generalize bagN ms out v = R at *
  generalize out ||| bit v = A at *
  generalize bit v = bv at *
  replace hfin := Lib.hid hfin
  replace hstep := Lib.hid hstep
  replace hplt := Lib.hid hplt
  replace hple := Lib.hid hple
  replace hes := Lib.hid hes
  replace hE := Lib.hid hE
  replace h0 := Lib.hid h0
  clear hG hb hmo hvo
  go_enter Try.func45, Try.ntmps45
  go_wp2_with fail
  refine hw0.out.mono ?_
  rintro e w1 ⟨rfl, rfl⟩
  go_wp2
  go_loop [7, 8] (fun s m => ∃ (u : Nat) (q : Bool), s = .int .u16 (u : Int) ∧ m = .bool q ∧ Hid (Bagging ms A v u) ∧ Hid (q = false → pass ms A u = u)) (fun s m => if goesOn m then 65537 - seenOf s else 0)
  case atStart => exact ⟨bv, true, rfl, rfl, h0, Lib.hid (fun e => by cases e)⟩
  case round =>
    obtain ⟨u, q, rfl, rfl, hB, hq⟩ := hrel
    cases q with
    | false =>
      have hR := hfin.out u hB.out (hq.out rfl)
      have hm : Go.bits .andNot .u16 (u : Int) (out : Int) = ((minus u out : Nat) : Int) := u16_andNot_nat _ _ hB.out.lt ho
      rw [hR] at hm
      go_wp2_with fail
      refine hwi.out.mono ?_
      rintro e w1 ⟨rfl, rfl⟩
      go_wp2
      go_ret
      exact ⟨rfl, rfl⟩
    | true =>
      have hu := hB.out.lt
      have hpt := hstep.out u hB.out
      have hge := hple.out u
      replace hB := Lib.hid hpt
      clear hpt hq
      go_wp2
      go_loop [7, 21] (fun s i => ∃ k : Nat, k ≤ ms.length ∧ i = .int .i64 (k : Int) ∧ s = .int .u16 ((pass (ms.take k) A u : Nat) : Int)) (fun _ i => ms.length - (intOf i).toNat)
      case atStart => exact ⟨0, by omega, rfl, rfl⟩
      case round =>
        obtain ⟨k, hk, rfl, rfl⟩ := hrel
        by_cases hlt : k < ms.length
        · have hki : (k : Int) < (ms.length : Int) := by omega
          have hk1 := Lib.hid (show k + 1 ≤ ms.length from hlt)
          obtain ⟨b, off, rfl, -, hc⟩ := hes.out k hlt
          have htk : ms.take (k + 1) = ms.take k ++ [ms[k]] := List.take_succ_eq_append_getElem hlt
          have hps := pass_snoc (ms.take k) ms[k] A u
          rw [← htk] at hps
          have hel := hE.out _ (List.getElem_mem hlt)
          have hpl := hplt.out k u hu
          generalize hp1 : pass (ms.take (k + 1)) A u = p1 at *
          replace hp1 := Lib.hid hp1
          generalize pass (ms.take k) A u = p at *
          generalize ms[k] = e at *
          clear htk
          have ha1 : Go.bits .and .u16 (e : Int) (p : Int) = ((e &&& p : Nat) : Int) := u16_and_nat _ _ hel hpl
          have ha2 : Go.bits .and .u16 ((e &&& p : Nat) : Int) (A : Int) = ((e &&& p &&& A : Nat) : Int) := u16_and_nat _ _ (Nat.lt_of_le_of_lt Nat.and_le_left hel) hA
          have ha3 : Go.bits .or .u16 (p : Int) (e : Int) = ((p ||| e : Nat) : Int) := u16_or_nat _ _ hpl hel
          generalize e &&& p &&& A = c at *
          generalize e &&& p = d at *
          generalize p ||| e = o at *
          by_cases h0 : c = 0
          · have h0i : ((c : Int) != 0) = false := by rw [h0]; rfl
            rw [if_pos h0] at hps
            go_wp2_with fail
            refine hwo.out.mono ?_
            rintro e w1 ⟨rfl, rfl⟩
            go_wp2
            go_round
            case rel => exact ⟨k + 1, hk1.out, by go_num, by rw [hp1.out, hps]⟩
            case measure => have := hk1.out; simp [intOf]; omega
          · have h0i : ((c : Int) != 0) = true := by simp; omega
            rw [if_neg h0] at hps
            go_wp2_with fail
            refine hwo.out.mono ?_
            rintro e w1 ⟨rfl, rfl⟩
            go_wp2
            go_round
            case rel => exact ⟨k + 1, hk1.out, by go_num, by rw [hp1.out, hps]⟩
            case measure => have := hk1.out; simp [intOf]; omega
        · have hki : ¬ (k : Int) < (ms.length : Int) := by omega
          obtain rfl : k = ms.length := by omega
          rw [List.take_length]
          by_cases he : pass ms A u = u
          · have hei : (((pass ms A u : Nat) : Int) != (u : Int)) = false := by rw [he]; simp
            go_wp2
            go_round
            case rel => exact ⟨_, false, rfl, rfl, hB, Lib.hid (fun _ => by rw [he, he])⟩
            case measure => simp [goesOn, seenOf]; omega
          · have hei : (((pass ms A u : Nat) : Int) != (u : Int)) = true := by simp; omega
            go_wp2
            go_round
            case rel => exact ⟨_, true, rfl, rfl, hB, Lib.hid (fun e => by cases e)⟩
            case measure => simp [goesOn, seenOf]; omega
end Go.Proofs.Ytnocncmjdhlmkaa.hyp
