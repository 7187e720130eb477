/- HyperSeeds. -/
import Derived.Test.YtnocncmjdhlmkaaFrame
import Derived.Test.YtnocncmjdhlmkaaHSeedsA
namespace Go.Proofs.Ytnocncmjdhlmkaa.hyp
open Go.ChangeShapes Go.WideShapes Go.ChangeAt Go.RowKit kit
set_option linter.unusedVariables false
set_option maxRecDepth 100000
theorem hseeds_all {H : Type} (enc : TypeId × Value → H) (W : World) (base : Nat) (v0 : Value) (d0 : DataW H) (p0 : List MemPlace) (hv : Value.okWide Try.prog W .any base 25 v0)
    (h : DataW.Trod enc Try.prog W 0 (fun _ => true) true 25 v0 d0 p0) (hlt : ∀ x ∈ p0, x.block < W.heap.size) (hb : Rows.uptoBulk d0 ≤ 1048576) :
    Calls Try.prog 7 #[v0] W fun e w' => e = .returned (.bool true) ∧ Below W.heap.size W w' := by
  obtain ⟨ao, cap, E, width, seed, lv, bs, hG⟩ := open_graph hv h hb
  exact hseeds_any W v0 ao cap E width seed lv bs hG
set_option maxRecDepth 100000 in
/-- The statement, out of what the walk gives: diptychlaw16.HyperSeeds, of one argument of type diptychlaw16.Graph, of bulk at most so much. -/
theorem hyperSeeds_lifted (os : Os) (started : os.Started) (H : Type) (enc : TypeId × Value → H) (F : Stop.Interp) :
    ReturnsInHanded {} Try.checked os 7 .any ((Rows.OpenSpec.upto Rows.hyperSeedsSpec).pre6 enc Try.prog Try.f7 Rows.hyperSeedsUptoRow.domain false) (((Rows.OpenSpec.upto Rows.hyperSeedsSpec).at F).post enc Try.prog Try.f7 false true false false) := by
  refine returnsInHanded_of_cond (C := Try.checked) (s := Rows.OpenSpec.upto Rows.hyperSeedsSpec) (k := Rows.uptoSmall) rfl frame.own started (by kernel_rfl) Try.func7
    (OpenSpec.witness (enc := enc) (C := Try.checked) (s := Rows.OpenSpec.upto Rows.hyperSeedsSpec) (k := Rows.uptoSmall) rfl false ⟨#[], #[.agg #[.slice none 0 0, .int .i64 0, .int .i64 0, .slice none 0 0]], []⟩ 8 (by kernel_rfl) (by kernel_rfl) (by kernel_rfl)
      (x := ([.agg [.nil, .lit (.int .i64 0), .lit (.int .i64 0), .nil]], [], [])) (by kernel_rfl) rfl (by kernel_rfl)) ?_
  intro W base args ds gs before hval0 hW _ hk _
  have hbulk : Rows.uptoBulkAll (ds ++ gs) ≤ 1048576 := of_decide_eq_true hk
  have hval : ∀ (j : Nat) t v, Try.f7.params[j]? = some t → args[j]? = some v → Value.okWide Try.prog W .any base t v := hval0
  have hW' := hW
  obtain ⟨p, q, hA0, hV, rfl, hfz, hnd⟩ := hW
  have hA : DataW.TrodAll enc Try.prog W 0 (fun _ => true) true Try.f7.params.toList args.toList ds p := hA0
  rw [Try.params7] at hA hval
  obtain ⟨v0, vs0, d0, ds0, p0, q0, hargs, rfl, rfl, h0, r0⟩ := trodAll_cons hA
  obtain ⟨rfl, rfl, rfl⟩ := trodAll_nil r0
  obtain rfl : args = #[v0] := by cases args; simp_all
  obtain ⟨rfl, rfl⟩ := trodVars_none hV
  clear hA0 hval0
  simp only [List.append_nil] at hW'
  have hlt : ∀ x ∈ p0, x.block < W.heap.size := fun x hx => hW'.lt x hx
  have hb0 : Rows.uptoBulk d0 ≤ 1048576 := by
    have h1 : ([d0] ++ [] : List (DataW H)) = [d0] := rfl
    rw [h1] at hbulk
    simp only [Rows.uptoBulkAll] at hbulk
    omega
  refine (hseeds_all enc W base v0 d0 p0 (hval 0 _ v0 rfl rfl) h0 hlt hb0).mono fun e W' ⟨he, hg⟩ => ?_
  subst he
  exact ⟨_, rfl, frame.post_of_below (pa := p0 ++ []) (pv := []) hW' (fun _ _ _ => (trodAll_cons_mk (shut_bool Try.underlying4 _) trodAll_mk0))
    (fun sp hsp => trodAll_cons_mk (WideElems.Trod_stays frame.laid (by kernel_rfl) (of_decide_eq_true (by kernel_rfl)) h0 (fun x hx => hg.same (hlt x hx)) (sp' := sp) (fun x hx => hsp x hx)) trodAll_mk0)
    (fun _ _ => rfl) (by simp) hg (ok_one (by kernel_rfl) rfl (okWide_bool_mk Try.underlying4 _))⟩
/-- The statement. -/
theorem HyperSeeds_holds : Rows.HyperSeedsUptoSaid :=
  OpenClaim.holds_of_cond 7 Try.f7 rfl rfl rfl rfl rfl rfl rfl ⟨rfl, rfl, rfl, rfl, rfl⟩ rfl rfl rfl rfl rfl (by kernel_rfl) Try.func7 (by kernel_rfl)
    (of_decide_eq_true (by kernel_rfl)) (by unfold Func.isWrapper; first | (rw [if_pos (by decide +kernel)]; kernel_rfl) | (rw [if_neg (by decide +kernel)]; exact ⟨rfl, rfl⟩))
    (fun os started H enc _ F => hyperSeeds_lifted os started H enc F)
end Go.Proofs.Ytnocncmjdhlmkaa.hyp
