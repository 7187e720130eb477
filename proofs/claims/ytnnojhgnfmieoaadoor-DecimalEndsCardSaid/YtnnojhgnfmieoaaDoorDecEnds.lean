/- The ends of decimals: as many digits as may be, and one more; the least and the greatest whole number; divided by 0: where the listed variables of the library hold what the program's text lays. -/
import Derived.Test.YtnnojhgnfmieoaaDoorDecEnds1
import Derived.Test.YtnnojhgnfmieoaaDoorDecOrder
import Derived.Test.YtnnojhgnfmieoaaDoorFrame
namespace Go.Proofs.YtnnojhgnfmieoaaDoor.dec
open Go.ChangeShapes Go.WideShapes Go.ChangeAt Go.RowKit kit
set_option linter.unusedVariables false
set_option linter.unusedSimpArgs false
theorem rep_snoc (k : Nat) (c : UInt8) : tx (List.replicate k c) ++ ⟨#[c]⟩ = tx (List.replicate (k + 1) c) := by
  apply ba_ext
  rw [show (tx (List.replicate k c) ++ ⟨#[c]⟩).data.toList = List.replicate k c ++ [c] by simp, List.replicate_succ']; rfl
theorem rep_snoc2 (k : Nat) : tx (48 :: 46 :: List.replicate k 48) ++ ⟨#[48]⟩ = tx (48 :: 46 :: List.replicate (k + 1) 48) := by
  apply ba_ext
  rw [show (tx (48 :: 46 :: List.replicate k 48) ++ ⟨#[48]⟩).data.toList = 48 :: 46 :: (List.replicate k 48 ++ [48]) by simp, List.replicate_succ']; rfl
set_option maxRecDepth 100000 in
set_option maxHeartbeats 8000000 in
theorem ends_any (W : World) (hE : Env W) : Calls Tryd.prog 6 #[] W fun e w' => e = .returned (.bool true) ∧ Below W.heap.size W w' := by
  have hlw : LW W W := ⟨Below.refl _ _, hE⟩
  clear hE
  go_enter Tryd.func6, Tryd.ntmps6
  go_wp2
  go_loop [1, 2] (fun v1 v2 => ∃ k : Nat, k ≤ 40 ∧ v2 = .int .i64 k ∧ v1 = .string (tx (List.replicate k 57))) (fun _ v2 => 40 - (intOf v2).toNat)
  case atStart => exact ⟨0, by omega, rfl, rfl⟩
  case round =>
    obtain ⟨k, hk, rfl, rfl⟩ := hrel
    by_cases hlt : k < 40
    · have hki : (k : Int) < 40 := by omega
      have hsz : ((tx (List.replicate k 57)).size : Int) + ((⟨#[57]⟩ : ByteArray).size : Int) ≤ 9223372036854775807 := by
        rw [tx_size, List.length_replicate, show (⟨#[57]⟩ : ByteArray).size = 1 from rfl]; omega
      have hsn := rep_snoc k 57
      replace hsn := Lib.hid hsn
      go_wp2
      go_round
      case rel => exact ⟨k + 1, by omega, by go_num, by rw [hsn.out]⟩
      case measure => simp [intOf]; omega
    · obtain rfl : k = 40 := by omega
      obtain ⟨s1, hs1⟩ : ∃ s, tx (List.replicate 40 57) = s := ⟨_, rfl⟩
      rw [hs1]
      replace hs1 := Lib.hid hs1
      go_wp2
      go_loop [3, 4] (fun v3 v4 => ∃ k : Nat, k ≤ 19 ∧ v4 = .int .i64 ((k : Int) + 1) ∧ v3 = .string (tx (48 :: 46 :: List.replicate k 48))) (fun _ v4 => 20 - (intOf v4).toNat)
      case atStart => exact ⟨0, by omega, rfl, rfl⟩
      case round =>
        obtain ⟨k, hk2, rfl, rfl⟩ := hrel
        by_cases hlt2 : k < 19
        · have hki : (k : Int) + 1 < 20 := by omega
          have hsz : ((tx (48 :: 46 :: List.replicate k 48)).size : Int) + ((⟨#[48]⟩ : ByteArray).size : Int) ≤ 9223372036854775807 := by
            rw [tx_size, List.length_cons, List.length_cons, List.length_replicate, show (⟨#[48]⟩ : ByteArray).size = 1 from rfl]; omega
          have hsn := rep_snoc2 k
          replace hsn := Lib.hid hsn
          go_wp2
          go_round
          case rel => exact ⟨k + 1, by omega, by go_num, by rw [hsn.out]⟩
          case measure => simp [intOf]; omega
        · obtain rfl : k = 19 := by omega
          obtain ⟨s3, hs3⟩ : ∃ s, tx (48 :: 46 :: List.replicate 19 48) = s := ⟨_, rfl⟩
          rw [hs3]
          replace hs3 := Lib.hid hs3
          have l1 : s1.data.toList = n40 := by rw [← hs1.out]; rfl
          have l3 : s3.data.toList = s19 := by rw [← hs3.out]; rfl
          have q1 := eq1 s1 l1
          have q2 := eq2 s1 l1
          have q3 := eq3 s3 l3
          have z1 := sz1 s1 l1
          have z3 := sz3 s3 l3
          have z4 := sz4 s1 l1
          have z5 := sz5 s1 l1
          have q4 : ((tx (canon zA)).toList == (tx (canon zA)).toList) = true := beq_self_eq_true _
          clear hs1 hs3 hlt hlt2 hk hk2
          replace l1 := Lib.hid l1
          replace l3 := Lib.hid l3
          go_wp2_with fail
          refine (k1 s1 l1.out hlw).mono ?_
          rintro e w_h1 ⟨rfl, h1⟩
          clear hlw
          go_wp2_with fail
          refine (k2 s1 l1.out h1).mono ?_
          rintro e w_h2 ⟨rfl, h2⟩
          clear h1
          go_wp2_with fail
          refine (k3 s1 l1.out h2).mono ?_
          rintro e w_h3 ⟨rfl, h3⟩
          clear h2
          go_wp2_with fail
          refine (k4 s3 l3.out h3).mono ?_
          rintro e w_h4 ⟨rfl, h4⟩
          clear h3
          go_wp2_with fail
          refine (k5 s3 l3.out h4).mono ?_
          rintro e w_h5 ⟨rfl, h5⟩
          clear h4
          go_wp2_with fail
          refine (k6 h5).mono ?_
          rintro e w_h6 ⟨rfl, h6⟩
          clear h5
          go_wp2_with fail
          refine (k7 h6).mono ?_
          rintro e w_h7 ⟨rfl, h7⟩
          clear h6
          go_wp2_with fail
          refine (k8 h7).mono ?_
          rintro e w_h8 ⟨rfl, h8⟩
          clear h7
          go_wp2_with fail
          refine (k9 h8).mono ?_
          rintro e w_h9 ⟨rfl, h9⟩
          clear h8
          go_wp2_with fail
          refine (k10 h9).mono ?_
          rintro e w_h10 ⟨rfl, h10⟩
          clear h9
          go_wp2_with fail
          refine (k11 h10).mono ?_
          rintro e w_h11 ⟨rfl, h11⟩
          clear h10
          go_wp2_with fail
          refine (k12 h11).mono ?_
          rintro e w_h12 ⟨rfl, h12⟩
          clear h11
          go_wp2_with fail
          refine (k13 h12).mono ?_
          rintro e w_h13 ⟨rfl, h13⟩
          clear h12
          go_wp2_with fail
          refine (k14 h13).mono ?_
          rintro e w_h14 ⟨rfl, h14⟩
          clear h13
          go_wp2_with fail
          refine (wakes_l h14).mono ?_
          rintro e w_z ⟨rfl, hz⟩
          go_wp2_with fail
          go_ret
          exact ⟨rfl, hz.1⟩
set_option maxRecDepth 100000 in
theorem decimalEnds_lifted (os : Os) (started : os.Started) (H : Type) (enc : TypeId × Value → H) :
    ReturnsInHanded {} Tryd.checked os 6 .any (fun w args => (Rows.decimalEndsSpec.pre enc Tryd.prog Tryd.f6 [] false w args ∧ laidMetH Tryd.prog laidList w) ∧ sizedMet enc Tryd.prog Tryd.f6 (OpenSpec.ofChange Rows.decimalEndsSpec) false w args)
      (Rows.decimalEndsSpec.post enc Tryd.prog Tryd.f6 false true false false) := by
  refine frame.change_and_shaped (C := Tryd.checked) (X := fun w _ => laidMetH Tryd.prog laidList w) (fun _ _ _ hh h => h.of_heap hh) frame.own started (by kernel_rfl) Tryd.func6
    (ChangeSpec.witness_shaped (enc := enc) (C := Tryd.checked) (os := os) (X := fun w _ => laidMetH Tryd.prog laidList w) false (World.laidAll Tryd.prog os laidList) #[] 8 (World.laidAll_os _ _ _)
      (World.shaped_of_ZipB (by kernel_rfl) (by kernel_rfl)) (by kernel_rfl) (by kernel_rfl) (by kernel_rfl)
      (by rw [MakeChecks.laidMetH_plain _ _ _ (by kernel_rfl)]; exact laidMet_laidAll _ (by kernel_rfl) (by kernel_rfl))) ?_
  intro W base args ds gs before hval0 hW hsz0 hL hsh
  have hW' := hW
  obtain ⟨p, q, hA0, hV, rfl, hfz, hnd⟩ := hW
  have hA : DataW.TrodAll enc Tryd.prog W 0 (fun _ => true) true Tryd.f6.params.toList args.toList ds p := hA0
  rw [Tryd.params6] at hA
  obtain ⟨rfl, rfl, rfl⟩ := trodAll_none hA
  obtain ⟨rfl, rfl⟩ := trodVars_none hV
  clear hA0 hval0
  simp only [List.append_nil] at hW'
  refine (ends_any W (env_of hL hsh)).mono fun e W' ⟨he, hg⟩ => ?_
  subst he
  exact ⟨_, rfl, frame.post_of_below (pa := []) (pv := []) hW' (fun _ _ _ => (trodAll_cons_mk (shut_bool Tryd.underlying4 _) trodAll_mk0)) (fun sp _ => rfl) (fun _ _ => rfl) rfl
    hg (ok_one (by kernel_rfl) rfl (okWide_bool_mk Tryd.underlying4 _))⟩
theorem decimalEnds_over : Rows.decimalEndsRow.holds Tryd.pinned (OpenSpec.ofChange Rows.decimalEndsSpec) :=
  OpenClaim.holds_of_wide 6 Tryd.f6 rfl rfl rfl rfl rfl rfl rfl ⟨rfl, rfl, rfl, rfl, rfl⟩ rfl rfl rfl rfl rfl (by kernel_rfl) Tryd.func6 (by kernel_rfl)
    (of_decide_eq_true (by kernel_rfl)) (by unfold Func.isWrapper; first | (rw [if_pos (by decide +kernel)]; kernel_rfl) | (rw [if_neg (by decide +kernel)]; exact ⟨rfl, rfl⟩))
    (fun os started H enc _ => decimalEnds_lifted os started H enc)
/-- The statement: the card. -/
theorem DecimalEnds_holds : Rows.DecimalEndsCardSaid :=
  Claim7.holds_tied_plain_at .later [] [.data, .data, .data, .data, .sentinel, .sentinel, .pinned] true (true, "c9935853e1f4fa0d47051326b00e220ec7822b2710fcf961373b95b33347e3da") true
    decimalEnds_over (fun _ h => by cases h) (by kernel_rfl) (fun _ h => by cases h) decimalEnds_row_tie rfl ⟨rfl, rfl⟩ (by kernel_rfl) rfl
    (fun f fn hf hfn => by
      obtain rfl : f = 6 := Option.some.inj ((show Tryd.prog.funcNamed "diptych/diptychlaw1.DecimalEnds" = some 6 by kernel_rfl).symm.trans hf) |>.symm
      obtain rfl : fn = Tryd.f6 := (Option.some.inj (Tryd.func6.symm.trans hfn)).symm
      exact ⟨by kernel_rfl, fun j t ht => by
        rw [Tryd.params6] at ht
        have hm : t ∈ ([] : List TypeId) := by simpa using Array.mem_of_getElem? ht
        have hall : (([] : List TypeId).all fun u => !Tryd.prog.wantsStandIn u) = true := by kernel_rfl
        exact (show Tryd.prog.wantsStandIn t = false by simpa using List.all_eq_true.1 hall t hm)⟩)
    (by kernel_rfl)
end Go.Proofs.YtnnojhgnfmieoaaDoor.dec
