/- A quotient times its divisor is not more, in amount, than what was divided, and less than it by less than the divisor's share of the last digit: for every list of texts that may be read, where the listed variables of the library hold what the program's text lays. -/
import Derived.Test.YtnnojhgnfmieoaaDoorDecCuts
import Derived.Test.YtnnojhgnfmieoaaDoorDecTexts
namespace Go.Proofs.YtnnojhgnfmieoaaDoor.dec
open Go.ChangeShapes Go.WideShapes Go.ChangeAt Go.RowKit kit
set_option linter.unusedVariables false
set_option maxRecDepth 100000 in
set_option maxHeartbeats 1000000 in
theorem cuts_none (ao : Option Addr) (cap : Nat) (sN : Value) (W : World) (hE : Env W) :
    Calls Tryd.prog 5 #[.agg #[.slice ao 0 cap, sN]] W fun e w' => e = .returned (.bool true) ∧ Below W.heap.size W w' := by
  have hlw := VB.lw hE (.slice ao 0 cap) sN
  replace hE := Lib.hid hE
  go_enter Tryd.func5, Tryd.ntmps5
  go_wp2
  refine wp_loop_rounds 1 ?_; rw [rounds_succ]
  go_wp2_with (go_at_call 12; refine (wakes_l hlw).mono ?_; rintro e w' ⟨rfl, hw⟩)
  go_ret
  exact ⟨rfl, hw.below⟩
set_option maxRecDepth 100000 in
theorem cuts_all {H : Type} (enc : TypeId × Value → H) (W : World) (base : Nat) (v0 : Value) (d0 : DataW H) (p0 : List MemPlace) (hv : Value.okWide Tryd.prog W .any base 25 v0)
    (h : DataW.Trod enc Tryd.prog W 0 (fun _ => true) true 25 v0 d0 p0) (hlt : ∀ x ∈ p0, x.block < W.heap.size) (_ : (DataW.weightsEach Tryd.prog ([25] ++ []) ([d0] ++ [])).all (· ≤ reachBytes) = true) (hE : Env W) :
    Calls Tryd.prog 5 #[v0] W fun e w' => e = .returned (.bool true) ∧ Below W.heap.size W w' := by
  obtain ⟨sN, ⟨ao, cap, rfl⟩ | ⟨b, off, len, cap, ss, rfl, hlen, hb, hc⟩⟩ := open_texts hv h hlt
  · exact cuts_none ao cap sN W hE
  · exact cuts_any b off len cap ss sN W hE hlen hb hc
set_option maxRecDepth 100000 in
theorem decimalCuts_lifted (os : Os) (started : os.Started) (H : Type) (enc : TypeId × Value → H) :
    ReturnsInHanded {} Tryd.checked os 5 .any (fun w args => (Rows.decimalCutsSpec.pre enc Tryd.prog Tryd.f5 [] false w args ∧ laidMetH Tryd.prog laidList w) ∧ sizedMet enc Tryd.prog Tryd.f5 (OpenSpec.ofChange Rows.decimalCutsSpec) false w args)
      (Rows.decimalCutsSpec.post enc Tryd.prog Tryd.f5 false true false false) := by
  refine frame.change_and_shaped (C := Tryd.checked) (X := fun w _ => laidMetH Tryd.prog laidList w) (fun _ _ _ hh h => h.of_heap hh) frame.own started (by kernel_rfl) Tryd.func5
    (ChangeSpec.witness_shaped (enc := enc) (C := Tryd.checked) (os := os) (X := fun w _ => laidMetH Tryd.prog laidList w) false (World.laidAll Tryd.prog os laidList) #[.agg #[.slice none 0 0, .slice none 0 0]] 8 (World.laidAll_os _ _ _)
      (World.shaped_of_ZipB (by kernel_rfl) (by kernel_rfl)) (by kernel_rfl) (by kernel_rfl) (by kernel_rfl)
      (by rw [MakeChecks.laidMetH_plain _ _ _ (by kernel_rfl)]; exact laidMet_laidAll _ (by kernel_rfl) (by kernel_rfl))) ?_
  intro W base args ds gs before hval0 hW hsz0 hL hsh
  have hval : ∀ (j : Nat) t v, Tryd.f5.params[j]? = some t → args[j]? = some v → Value.okWide Tryd.prog W .any base t v := hval0
  have hsz : (DataW.weightsEach Tryd.prog (Tryd.f5.params.toList ++ Rows.decimalCutsSpec.plain.varTypes Tryd.prog) (ds ++ gs)).all (· ≤ reachBytes) = true := hsz0
  have hW' := hW
  obtain ⟨p, q, hA0, hV, rfl, hfz, hnd⟩ := hW
  have hA : DataW.TrodAll enc Tryd.prog W 0 (fun _ => true) true Tryd.f5.params.toList args.toList ds p := hA0
  rw [Tryd.params5] at hA hval hsz
  obtain ⟨v0, vs0, d0, ds0, p0, q0, hargs, rfl, rfl, h0, r0⟩ := trodAll_cons hA
  obtain ⟨rfl, rfl, rfl⟩ := trodAll_nil r0
  obtain rfl : args = #[v0] := by cases args; simp_all
  obtain ⟨rfl, rfl⟩ := trodVars_none hV
  clear hA0 hval0
  simp only [List.append_nil] at hW'
  have hlt : ∀ x ∈ p0, x.block < W.heap.size := fun x hx => hW'.lt x hx
  refine (cuts_all enc W base v0 d0 p0 (hval 0 _ v0 rfl rfl) h0 hlt hsz (env_of hL hsh)).mono fun e W' ⟨he, hg⟩ => ?_
  subst he
  exact ⟨_, rfl, frame.post_of_below (pa := p0 ++ []) (pv := []) hW' (fun _ _ _ => (trodAll_cons_mk (shut_bool Tryd.underlying4 _) trodAll_mk0))
    (fun sp hsp => trodAll_cons_mk (WideElems.Trod_stays frame.laid (by kernel_rfl) (of_decide_eq_true (by kernel_rfl)) h0 (fun x hx => hg.same (hlt x hx)) (sp' := sp) (fun x hx => hsp x hx)) trodAll_mk0)
    (fun _ _ => rfl) (by simp) hg (ok_one (by kernel_rfl) rfl (okWide_bool_mk Tryd.underlying4 _))⟩
theorem decimalCuts_over : Rows.decimalCutsRow.holds Tryd.pinned (OpenSpec.ofChange Rows.decimalCutsSpec) :=
  OpenClaim.holds_of_wide 5 Tryd.f5 rfl rfl rfl rfl rfl rfl rfl ⟨rfl, rfl, rfl, rfl, rfl⟩ rfl rfl rfl rfl rfl (by kernel_rfl) Tryd.func5 (by kernel_rfl)
    (of_decide_eq_true (by kernel_rfl)) (by unfold Func.isWrapper; first | (rw [if_pos (by decide +kernel)]; kernel_rfl) | (rw [if_neg (by decide +kernel)]; exact ⟨rfl, rfl⟩))
    (fun os started H enc _ => decimalCuts_lifted os started H enc)
/-- The statement: the card. -/
theorem DecimalCuts_holds : Rows.DecimalCutsCardSaid :=
  Claim7.holds_tied_plain_at .later [] [.data, .data, .data, .data, .sentinel, .sentinel, .pinned] true (true, "c9935853e1f4fa0d47051326b00e220ec7822b2710fcf961373b95b33347e3da") true
    decimalCuts_over (fun _ h => by cases h) (by kernel_rfl) (fun _ h => by cases h) decimalCuts_row_tie rfl ⟨rfl, rfl⟩ (by kernel_rfl) rfl
    (fun f fn hf hfn => by
      obtain rfl : f = 5 := Option.some.inj ((show Tryd.prog.funcNamed "diptych/diptychlaw1.DecimalCuts" = some 5 by kernel_rfl).symm.trans hf) |>.symm
      obtain rfl : fn = Tryd.f5 := (Option.some.inj (Tryd.func5.symm.trans hfn)).symm
      exact ⟨by kernel_rfl, fun j t ht => by
        rw [Tryd.params5] at ht
        have hm : t ∈ ([25] : List TypeId) := by simpa using Array.mem_of_getElem? ht
        have hall : (([25] : List TypeId).all fun u => !Tryd.prog.wantsStandIn u) = true := by kernel_rfl
        exact (show Tryd.prog.wantsStandIn t = false by simpa using List.all_eq_true.1 hall t hm)⟩)
    (by kernel_rfl)
end Go.Proofs.YtnnojhgnfmieoaaDoor.dec
