/- Contracts of cover and bag. -/
import Derived.Test.YtnocncmjdhlmkaaHGraph
namespace Go.Proofs.Ytnocncmjdhlmkaa.hyp
open Go.ChangeShapes Go.WideShapes Go.ChangeAt Go.RowKit kit
set_option linter.unusedVariables false
set_option linter.unusedSimpArgs false
theorem wf16 {s : Nat} (h : s < 65536) : (Lit.int .u16 (s : Int)).wf = true := by
  simp [Lit.wf, IntKind.min, IntKind.max, IntKind.signed, IntKind.bits]
  omega
theorem coverF_lt (E : List Nat) (s b n : Nat) (hn : n ≤ 256) (hb : b < 256) : coverF E s b n < 256 := by
  rcases (coverF_spec E s b n).1 with h | h <;> omega
theorem coverF_succ (E : List Nat) (s b n : Nat) : coverF E s b (n + 1) = if pop n < pop (coverF E s b n) ∧ minus s (unionN E n) = 0 then n else coverF E s b n := rfl
set_option maxRecDepth 100000 in
set_option maxHeartbeats 4000000 in
theorem cover_any (w : World) (gb mb : Nat) (ns : List ByteArray) (ms : List Nat) (hG : GM w gb mb ns ms) (s : Nat) (hs : s < 65536) :
    Calls Try.prog 52 #[.pointer (some ⟨gb, 0, none⟩), .int .u16 s] w fun e w' => e = .returned (.int .u16 ((coverN ms s : Nat) : Int)) ∧ GM w' gb mb ns ms ∧ Keep [mb] w w' := by
  obtain ⟨f, hf, hfv⟩ := hG.known
  obtain ⟨an, cn, ae, ce, hb, -, hes⟩ := hG.cells
  have x1 := hb.cell 1 rfl
  have x2 := hb.cell 2 rfl
  have hws := wf16 hs
  cases hfs : f (s : Int) with
  | some v =>
    obtain rfl := hfv s v hs hfs
    replace hG := Lib.hid hG
    replace hf := Lib.hid hf
    replace hfs := Lib.hid hfs
    clear hb hes hfv
    generalize coverN ms s = c at *
    go_enter Try.func52, Try.ntmps52
    go_wp2_with (at_lookup; refine wpList_mapI_ok imK _ rfl _ _ rfl mb 65536 f rfl hf.out (s : Int) rfl hws _ hfs.out ?_)
    go_ret
    exact ⟨rfl, hG.out, Keep.refl _ _⟩
  | none =>
    have hlen := hG.hlen
    have h8 := pow_le8 hlen
    have h1 := shl_wrap (n := ms.length) (by omega)
    have h2 := full_wrap (n := ms.length) (by omega)
    have hmin : min ms.length 16 = ms.length := Nat.min_eq_left (by omega)
    have hcov : coverF ms s (2 ^ ms.length - 1) (2 ^ ms.length) = coverN ms s := rfl
    have hun := fun (w : World) (h : GM w gb mb ns ms) (l : Nat) (hl : l < 2 ^ ms.length) => union_any w gb mb ns ms h l hl
    have hul := fun l => unionN_lt ms hG.hE l
    have hNle : 1 ≤ 2 ^ ms.length := Nat.one_le_two_pow
    obtain ⟨n, hn⟩ : ∃ n, ms.length = n := ⟨_, rfl⟩
    rw [hn] at hb x1 hlen h8 h1 h2 hmin hcov hun hNle
    obtain ⟨N, hN⟩ : ∃ N, 2 ^ n = N := ⟨_, rfl⟩
    rw [hN] at h8 h1 h2 hcov hun hNle
    replace hG := Lib.hid hG
    replace hf := Lib.hid hf
    replace hfs := Lib.hid hfs
    replace hcov := Lib.hid hcov
    replace hun := Lib.hid hun
    replace hul := Lib.hid hul
    replace hfv := Lib.hid hfv
    replace hb := Lib.hid hb
    clear hes hn hN
    go_enter Try.func52, Try.ntmps52
    go_wp2_with (at_lookup; refine wpList_mapI_ok imK _ rfl _ _ rfl mb 65536 f rfl hf.out (s : Int) rfl hws _ hfs.out ?_)
    go_loopw [7, 8] (fun b l wr => (∃ k : Nat, k ≤ N ∧ l = .int .u16 (k : Int) ∧ b = .int .u16 ((coverF ms s (N - 1) k : Nat) : Int)) ∧ Hid (Below w.heap.size w wr)) (fun _ l _ => N - (intOf l).toNat)
    case atStart => exact ⟨⟨0, by omega, rfl, rfl⟩, Lib.hid (Below.refl _ _)⟩
    case round =>
      obtain ⟨⟨k, hk, rfl, rfl⟩, hbw⟩ := hrel
      have hbr : Blk wr gb _ _ := (hbw.out.block gb hb.out.lt).trans hb.out
      have x1 := hbr.cell 1 rfl
      have x2 := hbr.cell 2 rfl
      have hGr := Lib.hid (hG.out.below hbw.out)
      have hfr := Lib.hid (hf.out.same (hbw.out.block mb hf.out.lt))
      clear hbr
      by_cases hlt : k < N
      · have hki : (k : Int) < (N : Int) := by omega
        have hk1 : IntKind.u16.wrap ((k : Int) + 1) = ((k + 1 : Nat) : Int) := by rw [IntKind.wrap_u16]; omega
        have hsucc := coverF_succ ms s (N - 1) k
        have hc256 := coverF_lt ms s (N - 1) k (by omega) (by omega)
        generalize hc' : coverF ms s (N - 1) (k + 1) = c' at *
        replace hc' := Lib.hid hc'
        generalize coverF ms s (N - 1) k = c at *
        have hc1 := Lib.hid (fun w => count_e k w (by omega))
        have hc2 := Lib.hid (fun w => count_e c w hc256)
        generalize pop k = p1 at *
        generalize pop c = p2 at *
        replace hsucc := Lib.hid hsucc
        go_wp2_with fail
        refine (hc1.out wr).mono ?_
        rintro e w1 ⟨rfl, hb1⟩
        have hbw1 := Lib.hid (hbw.out.trans (hb1.mono hbw.out.size))
        have hG1 := Lib.hid (hGr.out.below hb1)
        clear hb1 hbw hGr hc1
        go_wp2_with fail
        refine (hc2.out w1).mono ?_
        rintro e w2 ⟨rfl, hb2⟩
        have hbw2 := Lib.hid (hbw1.out.trans (hb2.mono hbw1.out.size))
        have hG2 := Lib.hid (hG1.out.below hb2)
        clear hb2 hbw1 hG1 hc2
        by_cases hp : p1 < p2
        · have hpi : (p1 : Int) < (p2 : Int) := by omega
          have hu := Lib.hid (hun.out w2 hG2.out k hlt)
          have hm : Go.bits .andNot .u16 (s : Int) ((unionN ms k : Nat) : Int) = ((minus s (unionN ms k) : Nat) : Int) := u16_andNot_nat _ _ hs (hul.out k)
          generalize unionN ms k = u at *
          generalize minus s u = m at *
          go_wp2_with fail
          refine (hu.out).mono ?_
          rintro e w3 ⟨rfl, hb3⟩
          have hbw3 := Lib.hid (hbw2.out.trans (hb3.mono hbw2.out.size))
          clear hb3 hbw2 hG2 hu
          by_cases h0 : m = 0
          · have h0i : ((m : Int) == 0) = true := by rw [h0]; rfl
            obtain rfl : c' = k := by rw [hsucc.out, if_pos ⟨hp, h0⟩]
            go_wp2
            go_roundw
            case rel => exact ⟨⟨c' + 1, by omega, by go_num, by rw [hc'.out]⟩, hbw3⟩
            case measure => simp [intOf]; omega
          · have h0i : ((m : Int) == 0) = false := beq_eq_false_iff_ne.2 (by omega)
            obtain rfl : c' = c := by rw [hsucc.out, if_neg (fun e => h0 e.2)]
            go_wp2
            go_roundw
            case rel => exact ⟨⟨k + 1, by omega, by go_num, by rw [hc'.out]⟩, hbw3⟩
            case measure => simp [intOf]; omega
        · have hpi : ¬ (p1 : Int) < (p2 : Int) := by omega
          obtain rfl : c' = c := by rw [hsucc.out, if_neg (fun e => hp e.1)]
          go_wp2
          go_roundw
          case rel => exact ⟨⟨k + 1, by omega, by go_num, by rw [hc'.out]⟩, hbw2⟩
          case measure => simp [intOf]; omega
      · have hki : ¬ (k : Int) < (N : Int) := by omega
        obtain rfl : k = N := by omega
        have hcl : coverN ms s < 65536 := by have := coverN_lt ms s; have := pow_le8 hG.out.hlen; omega
        rw [hcov.out]
        generalize hcc : coverN ms s = c at *
        have hwc := wf16 hcl
        replace hcc := Lib.hid hcc
        go_wp2_with (at_mapUpdate; refine wpList_mapI_put imK _ rfl _ _ _ rfl mb 65536 f rfl hfr.out (by unfold maxLen; omega) (s : Int) (c : Int) rfl rfl hws hwc ?_; intro w2 hm2 hg2)
        go_ret
        have hkp : Keep [mb] wr w2 := (Keep.refl [mb] wr).grown hg2 (fun k hk _ => by cases hk; simp)
        have hst : CellsStay wr w2 := stay_of_keep hkp (fun x hx => by rw [List.mem_singleton] at hx; rw [hx]; exact hGr.out.known.isMap)
        refine ⟨ret_int (by rw [hcc.out]), hGr.out.stay hst hkp.size ⟨_, hm2.norm Try.underlying57, fun x v hx hv => ?_⟩, ((Keep.ofBelow hbw.out).mono (by simp)).trans hkp (fun x hx _ => hx)⟩
        by_cases hxs : x = s
        · subst hxs
          rw [upd_same] at hv
          rw [hcc.out]
          exact (Option.some.inj hv).symm
        · rw [upd_other _ _ (by omega)] at hv
          exact hfv.out x v hx hv
end Go.Proofs.Ytnocncmjdhlmkaa.hyp
