/- Any values in either language as conditions, and truth values back as values, as the reference tells: for every list of values that may be read and that is not above the bound of the statement (1048576 values and letters), where the listed variables of the library hold what the program's text lays. -/
import Derived.Test.YthecgifgjagmaaaGreatDoorLLogOf
import Derived.Test.YthecgifgjagmaaaGreatDoorDecFrame
import Derived.Test.YthecgifgjagmaaaGreatDoorFrame
import Derived.Test.YthecgifgjagmaaaGreatDoorVOpen
import Derived.Deep.DeepHandedRow
namespace Go.Proofs.YthecgifgjagmaaaGreatDoor.val
open Go.ChangeShapes Go.WideShapes Go.ChangeAt Go.RowKit kit dec
set_option linter.unusedVariables false
set_option maxRecDepth 100000 in
theorem open_values4 {H : Type} {enc : TypeId × Value → H} {W : World} {base : Nat} {v : Value} {d : DataW H} {p : List MemPlace}
    (hv : Value.okWide Tryz.prog W .any base 24 v) (h : DataW.Trod enc Tryz.prog W 0 (fun _ => true) true 24 v d p) (hb : Rows.uptoBulk d ≤ 1048576) :
    ∃ s l lang, v = .agg #[s, .int .i64 lang] ∧ LA W 1048576 s l ∧ wtL l ≤ Rows.uptoBulk d := by
  obtain ⟨cs, rfl, hsz⟩ := okWide_struct Tryz.underlying24 hv
  have hC : Tryz.prog.cellsOf 24 = 2 := by kernel_rfl
  have hC2 : Tryz.prog.cellsOf 22 = 1 := by kernel_rfl
  have hC1 : Tryz.prog.cellsOf 3 = 1 := by kernel_rfl
  obtain ⟨c, sN, rfl⟩ : ∃ c sN, cs = #[c, sN] := by
    rw [hC] at hsz
    obtain ⟨l⟩ := cs
    match l, hsz with
    | [c, s], _ => exact ⟨c, s, rfl⟩
  obtain ⟨fuel, hf⟩ := h
  obtain ⟨y0, y1, n, hx, _, h0, h1⟩ := trod_struct2 Tryz.underlying24 hf
  have h0 : DataW.trod enc Tryz.prog W 0 (fun _ => true) true n 22 [c] = some y0 := by simpa [Value.cells, hC2] using h0
  have h1 : DataW.trod enc Tryz.prog W 0 (fun _ => true) true n 3 [sN] = some y1 := by simpa [Value.cells, hC2, hC1] using h1
  have hd : d = .agg [y0.1, y1.1] := by
    first | (have := congrArg Prod.fst hx; simpa using this) | (cases hx; rfl)
  have hb0 : Rows.uptoBulk y0.1 ≤ 1048576 := by
    rw [hd] at hb
    simp only [Rows.uptoBulk, Rows.uptoBulkAll] at hb
    omega
  obtain ⟨s, l, hs, hl, hw⟩ := la_of_trodW (N := 1048576) n h0 (.inr hb0)
  obtain ⟨k, e1, g1, w1⟩ := DataW.trod_int Tryz.underlying3 h1
  simp at hs e1
  subst hs e1
  refine ⟨_, l, k, rfl, hl, ?_⟩
  rw [hd]
  simp only [Rows.uptoBulk, Rows.uptoBulkAll]
  omega
set_option maxRecDepth 100000 in
theorem logicOfL_all {H : Type} (enc : TypeId × Value → H) (W : World) (base : Nat) (v0 : Value) (d0 : DataW H) (p0 : List MemPlace) (hv : Value.okWide Tryz.prog W .any base 24 v0)
    (h : DataW.Trod enc Tryz.prog W 0 (fun _ => true) true 24 v0 d0 p0) (hlt : ∀ x ∈ p0, x.block < W.heap.size) (hb : Rows.uptoBulk d0 ≤ 1048576) (hE : Env W) :
    Calls Tryz.prog 3 #[v0] W fun e w' => e = .returned (.bool true) ∧ Below W.heap.size W w' := by
  obtain ⟨s, l, lang, rfl, hl, hw⟩ := open_values4 hv h hb
  cases hl with
  | mk ao cap l hl ha => exact logicOf_any 1048576 (by omega) ao cap l lang W hE hl ha
set_option maxRecDepth 100000 in
theorem logicOf_witness (os : Os) {H : Type} (enc : TypeId × Value → H) :
    ∃ (w : World) (tape : Tape) (i : Input), w.os = os ∧ (w.forCall tape i).Shaped Tryz.prog ∧ i.vars = [] ∧ Input.okWide Tryz.prog (w.forCall tape i) .any w.heap.size 3 i ∧
      (Rows.OpenSpec.upto Rows.logicOfSpec).preRow enc Tryz.prog Tryz.f3 Rows.logicOfUptoRow.domain false Rows.logicOfUptoRow.laid (w.forCall tape i).memory i.args ∧ ({} : Assume).holds Tryz.prog (lone (Frame.enter Tryz.prog 3 i.args .normal) [] (w.forCall tape i)) := by
  have hx : ∃ places, DataW.whole enc Tryz.prog ((World.laidAll Tryz.prog os laidList).forCall (fun _ _ => 0) ⟨#[], #[.agg #[.slice none 0 0, .int .i64 0]], []⟩).memory Tryz.f3.params.toList Rows.logicOfSpec.vars false (#[.agg #[.slice none 0 0, .int .i64 0]] : Array Value).toList 8 = some ([.agg [.nil, .lit (.int .i64 0)]], [], places) := ⟨[], by kernel_rfl⟩
  obtain ⟨places, hx⟩ := hx
  have hok : Input.okWideB Tryz.prog ((World.laidAll Tryz.prog os laidList).forCall (fun _ _ => 0) ⟨#[], #[.agg #[.slice none 0 0, .int .i64 0]], []⟩) 3 ⟨#[], #[.agg #[.slice none 0 0, .int .i64 0]], []⟩ = true := by kernel_rfl
  refine ⟨World.laidAll Tryz.prog os laidList, fun _ _ => 0, ⟨#[], #[.agg #[.slice none 0 0, .int .i64 0]], []⟩, World.laidAll_os _ _ _, World.shaped_of_ZipB (by kernel_rfl) (by kernel_rfl), (Input.okWide_of_okWideB (base := 0) hok).1, (Input.okWide_of_okWideB hok).2, ?_, ?_⟩
  · exact OpenSpec.preRow_of_cond 8 hx (by kernel_rfl) (fun k hk => by cases hk; kernel_rfl) (by kernel_rfl) (by
      rw [show Rows.logicOfUptoRow.laid = laidList from rfl, MakeChecks.laidMetH_plain _ _ _ (by kernel_rfl)]; exact laidMet_laidAll _ (by kernel_rfl) (by kernel_rfl))
  · simp only [Assume.holds]
    exact ⟨by simp, by simp, fun _ => Modest.zero, by simp, by simp⟩
set_option maxRecDepth 100000 in
theorem logicOf_lifted (os : Os) (started : os.Started) (H : Type) (enc : TypeId × Value → H) (F : Stop.Interp) :
    ReturnsInHanded {} Tryz.checked os 3 .any ((Rows.OpenSpec.upto Rows.logicOfSpec).preRow enc Tryz.prog Tryz.f3 Rows.logicOfUptoRow.domain false Rows.logicOfUptoRow.laid) (((Rows.OpenSpec.upto Rows.logicOfSpec).at F).post enc Tryz.prog Tryz.f3 false true false false) := by
  refine returnsInHanded_of_row (C := Tryz.checked) (s := Rows.OpenSpec.upto Rows.logicOfSpec) frame.own started (by kernel_rfl) Tryz.func3 (logicOf_witness os enc) ?_
  intro W base args ds gs before hval0 hW _ hcond hsz0 hL hsh _
  have hbulk : Rows.uptoBulkAll (ds ++ gs) ≤ 1048576 := of_decide_eq_true (hcond _ rfl)
  have hval : ∀ (j : Nat) t v, Tryz.f3.params[j]? = some t → args[j]? = some v → Value.okWide Tryz.prog W .any base t v := hval0
  have hW' := hW
  obtain ⟨p, q, hA0, hV, rfl, hfz, hnd⟩ := hW
  have hA : DataW.TrodAll enc Tryz.prog W 0 (fun _ => true) true Tryz.f3.params.toList args.toList ds p := hA0
  rw [Tryz.params3] at hA hval
  obtain ⟨v0, vs0, d0, ds0, p0, q0, hargs, rfl, rfl, h0, r0⟩ := trodAll_cons hA
  obtain ⟨rfl, rfl, rfl⟩ := trodAll_nil r0
  obtain rfl : args = #[v0] := by cases args; simp_all
  obtain ⟨rfl, rfl⟩ := trodVars_none hV
  clear hA0 hval0
  simp only [List.append_nil] at hW'
  have hlt : ∀ x ∈ p0, x.block < W.heap.size := fun x hx => hW'.lt x hx
  have hb0 : Rows.uptoBulk d0 ≤ 1048576 := by
    have h1 : ([d0] ++ [] : List (DataW H)) = [d0] := rfl
    rw [h1] at hbulk
    simp only [Rows.uptoBulkAll] at hbulk
    omega
  refine (logicOfL_all enc W base v0 d0 p0 (hval 0 _ v0 rfl rfl) h0 hlt hb0 (env_of hL hsh)).mono fun e W' ⟨he, hg⟩ => ?_
  subst he
  exact ⟨_, rfl, frame.post_of_below (pa := p0 ++ []) (pv := []) hW' (fun _ _ _ => (trodAll_cons_mk (shut_bool Tryz.underlying4 _) trodAll_mk0))
    (fun sp hsp => trodAll_cons_mk (WideElems.Trod_stays frame.laid (by kernel_rfl) (of_decide_eq_true (by kernel_rfl)) h0 (fun x hx => hg.same (hlt x hx)) (sp' := sp) (fun x hx => hsp x hx)) trodAll_mk0)
    (fun _ _ => rfl) (by simp) hg (ok_one (by kernel_rfl) rfl (okWide_bool_mk Tryz.underlying4 _))⟩
theorem logicOf_over : Rows.logicOfUptoRow.holds Tryz.pinned (Rows.OpenSpec.upto Rows.logicOfSpec) :=
  OpenClaim.holds_of_cond 3 Tryz.f3 rfl rfl rfl rfl rfl rfl rfl ⟨rfl, rfl, rfl, rfl, rfl⟩ rfl rfl rfl rfl rfl (by kernel_rfl) Tryz.func3 (by kernel_rfl)
    (of_decide_eq_true (by kernel_rfl)) (by unfold Func.isWrapper; first | (rw [if_pos (by decide +kernel)]; kernel_rfl) | (rw [if_neg (by decide +kernel)]; exact ⟨rfl, rfl⟩))
    (fun os started H enc _ F => by rw [OpenClaim.pre_eq_preRow]; exact logicOf_lifted os started H enc F)
/-- The statement: the card. -/
theorem LogicOf_holds : Rows.LogicOfUptoCardSaid :=
  Claim7.holds_tied_plain_at .later [] [.data, .data, .data, .data, .sentinel, .sentinel, .pinned] true (true, "2080214037ec86daff79ab70f96052d1011728f769c3f38fed92afc55e28f25a") true
    logicOf_over (fun _ h => by cases h) (by kernel_rfl) (fun _ h => by cases h) logicOfUpto_row_tie rfl ⟨rfl, rfl⟩ (by kernel_rfl) rfl
    (fun f fn hf hfn => by
      obtain rfl : f = 3 := Option.some.inj ((show Tryz.prog.funcNamed "diptych/diptychlaw3.LogicOf" = some 3 by kernel_rfl).symm.trans hf) |>.symm
      obtain rfl : fn = Tryz.f3 := (Option.some.inj (Tryz.func3.symm.trans hfn)).symm
      exact ⟨by kernel_rfl, fun j t ht => by
        rw [Tryz.params3] at ht
        have hm : t ∈ ([24] : List TypeId) := by simpa using Array.mem_of_getElem? ht
        have hall : (([24] : List TypeId).all fun u => !Tryz.prog.wantsStandIn u) = true := by kernel_rfl
        exact (show Tryz.prog.wantsStandIn t = false by simpa using List.all_eq_true.1 hall t hm)⟩)
    (by kernel_rfl)
end Go.Proofs.YthecgifgjagmaaaGreatDoor.val
