/- Any bytes: the value that is read, or the refusal, is the reference's; what is handed in stays: for every list of bytes that may be read, where the listed variables of the library hold what the program's text lays. -/
import Derived.Test.YtjncjcellpbhcaaGreatDoorLVDec
import Derived.Test.YtjncjcellpbhcaaGreatDoorDecFrame
import Derived.Test.YtjncjcellpbhcaaGreatDoorFrame
import Derived.Deep.DeepHandedRow
namespace Go.Proofs.YtjncjcellpbhcaaGreatDoor.val
open Go.ChangeShapes Go.WideShapes Go.ChangeAt Go.RowKit kit dec
set_option linter.unusedVariables false
set_option maxRecDepth 100000 in
theorem vdec_all {H : Type} (enc : TypeId × Value → H) (W : World) (base : Nat) (v0 : Value) (d0 : DataW H) (p0 : List MemPlace) (hv : Value.okWide Tryz.prog W .any base 22 v0)
    (h : DataW.Trod enc Tryz.prog W 0 (fun _ => true) true 22 v0 d0 p0) (hlt : ∀ x ∈ p0, x.block < W.heap.size) (_ : (DataW.weightsEach Tryz.prog ([22] ++ []) ([d0] ++ [])).all (· ≤ reachBytes) = true) (hE : Env W) :
    Calls Tryz.prog 3 #[v0] W fun e w' => e = .returned (.bool true) ∧ Below W.heap.size W w' := by
  obtain ⟨fuel, hf⟩ := h
  obtain ⟨ao, cap, l, hcs, hb⟩ := bl_of_trod fuel hf
  obtain ⟨a1, n1, c1, rfl⟩ := okWide_slice Tryz.underlying22 hv
  have hce : [Value.slice a1 n1 c1] = [.slice ao l.length cap] := hcs
  injection hce with hce _
  rw [hce]
  exact vdec_any ao cap l W hE hb
set_option maxRecDepth 100000 in
theorem valueDecodes_lifted (os : Os) (started : os.Started) (H : Type) (enc : TypeId × Value → H) :
    ReturnsInHanded {} Tryz.checked os 3 .any (fun w args => (Rows.valueDecodesSpec.pre enc Tryz.prog Tryz.f3 [] false w args ∧ laidMetH Tryz.prog laidList w) ∧ sizedMet enc Tryz.prog Tryz.f3 (OpenSpec.ofChange Rows.valueDecodesSpec) false w args)
      (Rows.valueDecodesSpec.post enc Tryz.prog Tryz.f3 false true false false) := by
  refine frame.change_and_shaped (C := Tryz.checked) (X := fun w _ => laidMetH Tryz.prog laidList w) (fun _ _ _ hh h => h.of_heap hh) frame.own started (by kernel_rfl) Tryz.func3
    (ChangeSpec.witness_shaped (enc := enc) (C := Tryz.checked) (os := os) (X := fun w _ => laidMetH Tryz.prog laidList w) false (World.laidAll Tryz.prog os laidList) #[.slice none 0 0] 8 (World.laidAll_os _ _ _)
      (World.shaped_of_ZipB (by kernel_rfl) (by kernel_rfl)) (by kernel_rfl) (by kernel_rfl) (by kernel_rfl)
      (by rw [MakeChecks.laidMetH_plain _ _ _ (by kernel_rfl)]; exact laidMet_laidAll _ (by kernel_rfl) (by kernel_rfl))) ?_
  intro W base args ds gs before hval0 hW hsz0 hL hsh
  have hval : ∀ (j : Nat) t v, Tryz.f3.params[j]? = some t → args[j]? = some v → Value.okWide Tryz.prog W .any base t v := hval0
  have hsz : (DataW.weightsEach Tryz.prog (Tryz.f3.params.toList ++ Rows.valueDecodesSpec.plain.varTypes Tryz.prog) (ds ++ gs)).all (· ≤ reachBytes) = true := hsz0
  have hW' := hW
  obtain ⟨p, q, hA0, hV, rfl, hfz, hnd⟩ := hW
  have hA : DataW.TrodAll enc Tryz.prog W 0 (fun _ => true) true Tryz.f3.params.toList args.toList ds p := hA0
  rw [Tryz.params3] at hA hval hsz
  obtain ⟨v0, vs0, d0, ds0, p0, q0, hargs, rfl, rfl, h0, r0⟩ := trodAll_cons hA
  obtain ⟨rfl, rfl, rfl⟩ := trodAll_nil r0
  obtain rfl : args = #[v0] := by cases args; simp_all
  obtain ⟨rfl, rfl⟩ := trodVars_none hV
  clear hA0 hval0
  simp only [List.append_nil] at hW'
  have hlt : ∀ x ∈ p0, x.block < W.heap.size := fun x hx => hW'.lt x hx
  refine (vdec_all enc W base v0 d0 p0 (hval 0 _ v0 rfl rfl) h0 hlt hsz (env_of hL hsh)).mono fun e W' ⟨he, hg⟩ => ?_
  subst he
  exact ⟨_, rfl, frame.post_of_below (pa := p0 ++ []) (pv := []) hW' (fun _ _ _ => (trodAll_cons_mk (shut_bool Tryz.underlying4 _) trodAll_mk0))
    (fun sp hsp => trodAll_cons_mk (WideElems.Trod_stays frame.laid (by kernel_rfl) (of_decide_eq_true (by kernel_rfl)) h0 (fun x hx => hg.same (hlt x hx)) (sp' := sp) (fun x hx => hsp x hx)) trodAll_mk0)
    (fun _ _ => rfl) (by simp) hg (ok_one (by kernel_rfl) rfl (okWide_bool_mk Tryz.underlying4 _))⟩
theorem valueDecodes_over : Rows.valueDecodesRow.holds Tryz.pinned (OpenSpec.ofChange Rows.valueDecodesSpec) :=
  OpenClaim.holds_of_wide 3 Tryz.f3 rfl rfl rfl rfl rfl rfl rfl ⟨rfl, rfl, rfl, rfl, rfl⟩ rfl rfl rfl rfl rfl (by kernel_rfl) Tryz.func3 (by kernel_rfl)
    (of_decide_eq_true (by kernel_rfl)) (by unfold Func.isWrapper; first | (rw [if_pos (by decide +kernel)]; kernel_rfl) | (rw [if_neg (by decide +kernel)]; exact ⟨rfl, rfl⟩))
    (fun os started H enc _ => valueDecodes_lifted os started H enc)
/-- The statement: the card. -/
theorem ValueDecodes_holds : Rows.ValueDecodesCardSaid :=
  Claim7.holds_tied_plain_at .later [] [.data, .data, .data, .data, .sentinel, .sentinel, .pinned] true (true, "25b5b34728ccf0dcf9e300508e4ae7bd747cf157303c1920865febb309db6660") true
    valueDecodes_over (fun _ h => by cases h) (by kernel_rfl) (fun _ h => by cases h) valueDecodes_row_tie rfl ⟨rfl, rfl⟩ (by kernel_rfl) rfl
    (fun f fn hf hfn => by
      obtain rfl : f = 3 := Option.some.inj ((show Tryz.prog.funcNamed "diptych/diptychlaw2.ValueDecodes" = some 3 by kernel_rfl).symm.trans hf) |>.symm
      obtain rfl : fn = Tryz.f3 := (Option.some.inj (Tryz.func3.symm.trans hfn)).symm
      exact ⟨by kernel_rfl, fun j t ht => by
        rw [Tryz.params3] at ht
        have hm : t ∈ ([22] : List TypeId) := by simpa using Array.mem_of_getElem? ht
        have hall : (([22] : List TypeId).all fun u => !Tryz.prog.wantsStandIn u) = true := by kernel_rfl
        exact (show Tryz.prog.wantsStandIn t = false by simpa using List.all_eq_true.1 hall t hm)⟩)
    (by kernel_rfl)
end Go.Proofs.YtjncjcellpbhcaaGreatDoor.val
