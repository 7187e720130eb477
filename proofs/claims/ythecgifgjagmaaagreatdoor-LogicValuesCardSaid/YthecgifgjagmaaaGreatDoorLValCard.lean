/- Of two values the truth of being unlike is Not of the truth of being equal; what Back tells is read by Of as it was: for every list of values that may be read, where the listed variables of the library hold what the program's text lays. -/
import Derived.Test.YthecgifgjagmaaaGreatDoorLVal
import Derived.Test.YthecgifgjagmaaaGreatDoorDecFrame
import Derived.Test.YthecgifgjagmaaaGreatDoorFrame
namespace Go.Proofs.YthecgifgjagmaaaGreatDoor.val
open Go.ChangeShapes Go.WideShapes Go.ChangeAt Go.RowKit kit dec
set_option linter.unusedVariables false
set_option maxRecDepth 100000 in
theorem open_values {H : Type} {enc : TypeId × Value → H} {W : World} {base : Nat} {v : Value} {d : DataW H} {p : List MemPlace}
    (hv : Value.okWide Tryz.prog W .any base 24 v) (h : DataW.Trod enc Tryz.prog W 0 (fun _ => true) true 24 v d p) : ∃ s l lang, v = .agg #[s, lang] ∧ LA W maxLen s l := by
  obtain ⟨cs, rfl, hsz⟩ := okWide_struct Tryz.underlying24 hv
  have hC : Tryz.prog.cellsOf 24 = 2 := by kernel_rfl
  have hC2 : Tryz.prog.cellsOf 22 = 1 := by kernel_rfl
  obtain ⟨c, sN, rfl⟩ : ∃ c sN, cs = #[c, sN] := by
    rw [hC] at hsz
    obtain ⟨l⟩ := cs
    match l, hsz with
    | [c, s], _ => exact ⟨c, s, rfl⟩
  obtain ⟨fuel, hf⟩ := h
  obtain ⟨y0, y1, n, hx, _, h0, _⟩ := trod_struct2 Tryz.underlying24 hf
  have h0 : DataW.trod enc Tryz.prog W 0 (fun _ => true) true n 22 [c] = some y0 := by simpa [Value.cells, hC2] using h0
  obtain ⟨s, l, hs, hl⟩ := la_of_trod (N := maxLen) n h0 (.inl rfl)
  simp at hs
  subst hs
  exact ⟨_, l, sN, rfl, hl⟩
set_option maxRecDepth 100000 in
theorem lvalues_all {H : Type} (enc : TypeId × Value → H) (W : World) (base : Nat) (v0 : Value) (d0 : DataW H) (p0 : List MemPlace) (hv : Value.okWide Tryz.prog W .any base 24 v0)
    (h : DataW.Trod enc Tryz.prog W 0 (fun _ => true) true 24 v0 d0 p0) (hlt : ∀ x ∈ p0, x.block < W.heap.size) (_ : (DataW.weightsEach Tryz.prog ([24] ++ []) ([d0] ++ [])).all (· ≤ reachBytes) = true) (hE : Env W) :
    Calls Tryz.prog 4 #[v0] W fun e w' => e = .returned (.bool true) ∧ Below W.heap.size W w' := by
  obtain ⟨s, l, lang, rfl, hl⟩ := open_values hv h
  cases hl with
  | mk ao cap l hl ha => exact values_any maxLen (by simp [maxLen]) ao cap l lang W hE hl ha
set_option maxRecDepth 100000 in
theorem logicValues_lifted (os : Os) (started : os.Started) (H : Type) (enc : TypeId × Value → H) :
    ReturnsInHanded {} Tryz.checked os 4 .any (fun w args => (Rows.logicValuesSpec.pre enc Tryz.prog Tryz.f4 [] false w args ∧ laidMetH Tryz.prog laidList w) ∧ sizedMet enc Tryz.prog Tryz.f4 (OpenSpec.ofChange Rows.logicValuesSpec) false w args)
      (Rows.logicValuesSpec.post enc Tryz.prog Tryz.f4 false true false false) := by
  refine frame.change_and_shaped (C := Tryz.checked) (X := fun w _ => laidMetH Tryz.prog laidList w) (fun _ _ _ hh h => h.of_heap hh) frame.own started (by kernel_rfl) Tryz.func4
    (ChangeSpec.witness_shaped (enc := enc) (C := Tryz.checked) (os := os) (X := fun w _ => laidMetH Tryz.prog laidList w) false (World.laidAll Tryz.prog os laidList) #[.agg #[.slice none 0 0, .int .i64 0]] 8 (World.laidAll_os _ _ _)
      (World.shaped_of_ZipB (by kernel_rfl) (by kernel_rfl)) (by kernel_rfl) (by kernel_rfl) (by kernel_rfl)
      (by rw [MakeChecks.laidMetH_plain _ _ _ (by kernel_rfl)]; exact laidMet_laidAll _ (by kernel_rfl) (by kernel_rfl))) ?_
  intro W base args ds gs before hval0 hW hsz0 hL hsh
  have hval : ∀ (j : Nat) t v, Tryz.f4.params[j]? = some t → args[j]? = some v → Value.okWide Tryz.prog W .any base t v := hval0
  have hsz : (DataW.weightsEach Tryz.prog (Tryz.f4.params.toList ++ Rows.logicValuesSpec.plain.varTypes Tryz.prog) (ds ++ gs)).all (· ≤ reachBytes) = true := hsz0
  have hW' := hW
  obtain ⟨p, q, hA0, hV, rfl, hfz, hnd⟩ := hW
  have hA : DataW.TrodAll enc Tryz.prog W 0 (fun _ => true) true Tryz.f4.params.toList args.toList ds p := hA0
  rw [Tryz.params4] at hA hval hsz
  obtain ⟨v0, vs0, d0, ds0, p0, q0, hargs, rfl, rfl, h0, r0⟩ := trodAll_cons hA
  obtain ⟨rfl, rfl, rfl⟩ := trodAll_nil r0
  obtain rfl : args = #[v0] := by cases args; simp_all
  obtain ⟨rfl, rfl⟩ := trodVars_none hV
  clear hA0 hval0
  simp only [List.append_nil] at hW'
  have hlt : ∀ x ∈ p0, x.block < W.heap.size := fun x hx => hW'.lt x hx
  refine (lvalues_all enc W base v0 d0 p0 (hval 0 _ v0 rfl rfl) h0 hlt hsz (env_of hL hsh)).mono fun e W' ⟨he, hg⟩ => ?_
  subst he
  exact ⟨_, rfl, frame.post_of_below (pa := p0 ++ []) (pv := []) hW' (fun _ _ _ => (trodAll_cons_mk (shut_bool Tryz.underlying4 _) trodAll_mk0))
    (fun sp hsp => trodAll_cons_mk (WideElems.Trod_stays frame.laid (by kernel_rfl) (of_decide_eq_true (by kernel_rfl)) h0 (fun x hx => hg.same (hlt x hx)) (sp' := sp) (fun x hx => hsp x hx)) trodAll_mk0)
    (fun _ _ => rfl) (by simp) hg (ok_one (by kernel_rfl) rfl (okWide_bool_mk Tryz.underlying4 _))⟩
theorem logicValues_over : Rows.logicValuesRow.holds Tryz.pinned (OpenSpec.ofChange Rows.logicValuesSpec) :=
  OpenClaim.holds_of_wide 4 Tryz.f4 rfl rfl rfl rfl rfl rfl rfl ⟨rfl, rfl, rfl, rfl, rfl⟩ rfl rfl rfl rfl rfl (by kernel_rfl) Tryz.func4 (by kernel_rfl)
    (of_decide_eq_true (by kernel_rfl)) (by unfold Func.isWrapper; first | (rw [if_pos (by decide +kernel)]; kernel_rfl) | (rw [if_neg (by decide +kernel)]; exact ⟨rfl, rfl⟩))
    (fun os started H enc _ => logicValues_lifted os started H enc)
/-- The statement: the card. -/
theorem LogicValues_holds : Rows.LogicValuesCardSaid :=
  Claim7.holds_tied_plain_at .later [] [.data, .data, .data, .data, .sentinel, .sentinel, .pinned] true (true, "2080214037ec86daff79ab70f96052d1011728f769c3f38fed92afc55e28f25a") true
    logicValues_over (fun _ h => by cases h) (by kernel_rfl) (fun _ h => by cases h) logicValues_row_tie rfl ⟨rfl, rfl⟩ (by kernel_rfl) rfl
    (fun f fn hf hfn => by
      obtain rfl : f = 4 := Option.some.inj ((show Tryz.prog.funcNamed "diptych/diptychlaw3.LogicValues" = some 4 by kernel_rfl).symm.trans hf) |>.symm
      obtain rfl : fn = Tryz.f4 := (Option.some.inj (Tryz.func4.symm.trans hfn)).symm
      exact ⟨by kernel_rfl, fun j t ht => by
        rw [Tryz.params4] at ht
        have hm : t ∈ ([24] : List TypeId) := by simpa using Array.mem_of_getElem? ht
        have hall : (([24] : List TypeId).all fun u => !Tryz.prog.wantsStandIn u) = true := by kernel_rfl
        exact (show Tryz.prog.wantsStandIn t = false by simpa using List.all_eq_true.1 hall t hm)⟩)
    (by kernel_rfl)
end Go.Proofs.YthecgifgjagmaaaGreatDoor.val
