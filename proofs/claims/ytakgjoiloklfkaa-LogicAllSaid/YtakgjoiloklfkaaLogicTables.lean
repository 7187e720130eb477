/- At any whole numbers the operations of package logic answer as the reference's tables. -/
import Derived.Test.YtakgjoiloklfkaaLogicLaws
namespace Go.Proofs.Ytakgjoiloklfkaa.logic
open Go.ChangeShapes Go.WideShapes Go.ChangeAt Go.RowKit
set_option linter.unusedVariables false


theorem Below_drewN {B : Nat} {w w' : World} (n : Nat) (h : Below B w w') : Below B w (w'.drewN n) := h.trans (below_drewN B w' n)

set_option maxRecDepth 100000 in
set_option maxHeartbeats 1000000 in
theorem tables_any (b off len cap : Nat) (zs : List Int) (W : World) (hlen : len ≤ 9223372036854775807) (hb : b < W.heap.size)
    (hc : ∀ j, j < len → W.cell? ⟨b, off + j, none⟩ = some (.int .i64 (zs.getD j 0))) :
    Calls Try.prog 3 #[.agg #[.slice (some ⟨b, off, none⟩) len cap]] W fun e w' => e = .returned (.bool true) ∧ Below W.heap.size W w' := by
  replace hc := Lib.hid hc
  go_enter Try.func3, Try.ntmps3
  go_wp2
  go_loopw [3] (fun i wr => (∃ k : Nat, k ≤ len ∧ i = .int .i64 k) ∧ Below W.heap.size W wr ∧ wr.cell? ⟨W.heap.size, 0, none⟩ = some (.slice (some ⟨b, off, none⟩) len cap)) (fun i _ => len - (intOf i).toNat)
  case atStart => exact ⟨⟨0, by omega, rfl⟩, (Below.refl _ _).alloc (Nat.le_refl _) _, by simp [World.cell?_alloc_new]⟩
  case round =>
    obtain ⟨⟨k, hk, rfl⟩, hb1, hp⟩ := hrel
    by_cases hlt : k < len
    · have hck := (hb1.cell (p := ⟨b, off + k, none⟩) hb).trans (hc.out k hlt)
      generalize zs.getD k 0 = a at hck
      by_cases h12 : k < 12
      · go_wp2_with (first | (go_at_call 6; refine (not_any _ _).mono ?_; rintro e w' ⟨rfl, rfl⟩) | (go_at_call 8; refine (and_any _ _ _).mono ?_; rintro e w' ⟨rfl, n, rfl⟩) | (go_at_call 10; refine (or_any _ _ _).mono ?_; rintro e w' ⟨rfl, n, rfl⟩) | (go_at_call 12; refine (xor_any _ _ _).mono ?_; rintro e w' ⟨rfl, n, rfl⟩) | (go_at_call 7; refine (rnot_any _ _).mono ?_; rintro e w' ⟨rfl, rfl⟩) | (go_at_call 9; refine (rand_any _ _ _).mono ?_; rintro e w' ⟨rfl, rfl⟩) | (go_at_call 11; refine (ror_any _ _ _).mono ?_; rintro e w' ⟨rfl, rfl⟩) | (go_at_call 13; refine (rxor_any _ _ _).mono ?_; rintro e w' ⟨rfl, rfl⟩) | (go_at_call 14; refine (wakes_any _).mono ?_; rintro e w' ⟨rfl, n, rfl⟩))
        have hb1' := Lib.hid hb1
        clear hck
        go_loopw [5] (fun i wr => (∃ k : Nat, k ≤ len ∧ i = .int .i64 k) ∧ Below W.heap.size W wr ∧ wr.cell? ⟨W.heap.size, 0, none⟩ = some (.slice (some ⟨b, off, none⟩) len cap)) (fun i _ => len - (intOf i).toNat)
        case atStart => exact ⟨⟨0, by omega, rfl⟩, hb1, hp⟩
        case round =>
          obtain ⟨⟨m, hm, rfl⟩, hb2, hp2⟩ := hrel
          by_cases hlt : m < len
          · have hck := (hb2.cell (p := ⟨b, off + m, none⟩) hb).trans (hc.out m hlt)
            generalize zs.getD m 0 = a at hck
            by_cases h12 : m < 12
            · go_wp2_with (first | (go_at_call 6; refine (not_any _ _).mono ?_; rintro e w' ⟨rfl, rfl⟩) | (go_at_call 8; refine (and_any _ _ _).mono ?_; rintro e w' ⟨rfl, n, rfl⟩) | (go_at_call 10; refine (or_any _ _ _).mono ?_; rintro e w' ⟨rfl, n, rfl⟩) | (go_at_call 12; refine (xor_any _ _ _).mono ?_; rintro e w' ⟨rfl, n, rfl⟩) | (go_at_call 7; refine (rnot_any _ _).mono ?_; rintro e w' ⟨rfl, rfl⟩) | (go_at_call 9; refine (rand_any _ _ _).mono ?_; rintro e w' ⟨rfl, rfl⟩) | (go_at_call 11; refine (ror_any _ _ _).mono ?_; rintro e w' ⟨rfl, rfl⟩) | (go_at_call 13; refine (rxor_any _ _ _).mono ?_; rintro e w' ⟨rfl, rfl⟩) | (go_at_call 14; refine (wakes_any _).mono ?_; rintro e w' ⟨rfl, n, rfl⟩))
              go_roundw
              case rel => exact ⟨⟨m + 1, by omega, by go_num⟩, Below_drewN _ hb2, by simpa using hp2⟩
              case measure => simp [intOf]; omega
            · go_wp2_with (first | (go_at_call 6; refine (not_any _ _).mono ?_; rintro e w' ⟨rfl, rfl⟩) | (go_at_call 8; refine (and_any _ _ _).mono ?_; rintro e w' ⟨rfl, n, rfl⟩) | (go_at_call 10; refine (or_any _ _ _).mono ?_; rintro e w' ⟨rfl, n, rfl⟩) | (go_at_call 12; refine (xor_any _ _ _).mono ?_; rintro e w' ⟨rfl, n, rfl⟩) | (go_at_call 7; refine (rnot_any _ _).mono ?_; rintro e w' ⟨rfl, rfl⟩) | (go_at_call 9; refine (rand_any _ _ _).mono ?_; rintro e w' ⟨rfl, rfl⟩) | (go_at_call 11; refine (ror_any _ _ _).mono ?_; rintro e w' ⟨rfl, rfl⟩) | (go_at_call 13; refine (rxor_any _ _ _).mono ?_; rintro e w' ⟨rfl, rfl⟩) | (go_at_call 14; refine (wakes_any _).mono ?_; rintro e w' ⟨rfl, n, rfl⟩))
              go_roundw
              case rel => exact ⟨⟨k + 1, by omega, by go_num⟩, hb2, hp2⟩
              case measure => simp [intOf]; omega
          · go_wp2_with (first | (go_at_call 6; refine (not_any _ _).mono ?_; rintro e w' ⟨rfl, rfl⟩) | (go_at_call 8; refine (and_any _ _ _).mono ?_; rintro e w' ⟨rfl, n, rfl⟩) | (go_at_call 10; refine (or_any _ _ _).mono ?_; rintro e w' ⟨rfl, n, rfl⟩) | (go_at_call 12; refine (xor_any _ _ _).mono ?_; rintro e w' ⟨rfl, n, rfl⟩) | (go_at_call 7; refine (rnot_any _ _).mono ?_; rintro e w' ⟨rfl, rfl⟩) | (go_at_call 9; refine (rand_any _ _ _).mono ?_; rintro e w' ⟨rfl, rfl⟩) | (go_at_call 11; refine (ror_any _ _ _).mono ?_; rintro e w' ⟨rfl, rfl⟩) | (go_at_call 13; refine (rxor_any _ _ _).mono ?_; rintro e w' ⟨rfl, rfl⟩) | (go_at_call 14; refine (wakes_any _).mono ?_; rintro e w' ⟨rfl, n, rfl⟩))
            go_roundw
            case rel => exact ⟨⟨k + 1, by omega, by go_num⟩, hb2, hp2⟩
            case measure => simp [intOf]; omega
      · go_wp2_with (first | (go_at_call 6; refine (not_any _ _).mono ?_; rintro e w' ⟨rfl, rfl⟩) | (go_at_call 8; refine (and_any _ _ _).mono ?_; rintro e w' ⟨rfl, n, rfl⟩) | (go_at_call 10; refine (or_any _ _ _).mono ?_; rintro e w' ⟨rfl, n, rfl⟩) | (go_at_call 12; refine (xor_any _ _ _).mono ?_; rintro e w' ⟨rfl, n, rfl⟩) | (go_at_call 7; refine (rnot_any _ _).mono ?_; rintro e w' ⟨rfl, rfl⟩) | (go_at_call 9; refine (rand_any _ _ _).mono ?_; rintro e w' ⟨rfl, rfl⟩) | (go_at_call 11; refine (ror_any _ _ _).mono ?_; rintro e w' ⟨rfl, rfl⟩) | (go_at_call 13; refine (rxor_any _ _ _).mono ?_; rintro e w' ⟨rfl, rfl⟩) | (go_at_call 14; refine (wakes_any _).mono ?_; rintro e w' ⟨rfl, n, rfl⟩))
        go_ret
        exact ⟨rfl, Below_drewN _ hb1⟩
    · go_wp2_with (first | (go_at_call 6; refine (not_any _ _).mono ?_; rintro e w' ⟨rfl, rfl⟩) | (go_at_call 8; refine (and_any _ _ _).mono ?_; rintro e w' ⟨rfl, n, rfl⟩) | (go_at_call 10; refine (or_any _ _ _).mono ?_; rintro e w' ⟨rfl, n, rfl⟩) | (go_at_call 12; refine (xor_any _ _ _).mono ?_; rintro e w' ⟨rfl, n, rfl⟩) | (go_at_call 7; refine (rnot_any _ _).mono ?_; rintro e w' ⟨rfl, rfl⟩) | (go_at_call 9; refine (rand_any _ _ _).mono ?_; rintro e w' ⟨rfl, rfl⟩) | (go_at_call 11; refine (ror_any _ _ _).mono ?_; rintro e w' ⟨rfl, rfl⟩) | (go_at_call 13; refine (rxor_any _ _ _).mono ?_; rintro e w' ⟨rfl, rfl⟩) | (go_at_call 14; refine (wakes_any _).mono ?_; rintro e w' ⟨rfl, n, rfl⟩))
      go_ret
      exact ⟨rfl, Below_drewN _ hb1⟩

set_option maxRecDepth 100000 in
theorem tables_none (ao : Option Addr) (cap : Nat) (W : World) :
    Calls Try.prog 3 #[.agg #[.slice ao 0 cap]] W fun e w' => e = .returned (.bool true) ∧ Below W.heap.size W w' := by
  go_enter Try.func3, Try.ntmps3
  go_wp2
  refine wp_loop_rounds 1 ?_; rw [rounds_succ]
  go_wp2_with (first | (go_at_call 6; refine (not_any _ _).mono ?_; rintro e w' ⟨rfl, rfl⟩) | (go_at_call 8; refine (and_any _ _ _).mono ?_; rintro e w' ⟨rfl, n, rfl⟩) | (go_at_call 10; refine (or_any _ _ _).mono ?_; rintro e w' ⟨rfl, n, rfl⟩) | (go_at_call 12; refine (xor_any _ _ _).mono ?_; rintro e w' ⟨rfl, n, rfl⟩) | (go_at_call 7; refine (rnot_any _ _).mono ?_; rintro e w' ⟨rfl, rfl⟩) | (go_at_call 9; refine (rand_any _ _ _).mono ?_; rintro e w' ⟨rfl, rfl⟩) | (go_at_call 11; refine (ror_any _ _ _).mono ?_; rintro e w' ⟨rfl, rfl⟩) | (go_at_call 13; refine (rxor_any _ _ _).mono ?_; rintro e w' ⟨rfl, rfl⟩) | (go_at_call 14; refine (wakes_any _).mono ?_; rintro e w' ⟨rfl, n, rfl⟩))
  go_ret
  exact ⟨rfl, Below_drewN _ ((Below.refl _ _).alloc (Nat.le_refl _) _)⟩

/-- A struct of one field, a slice of whole numbers: the value written out. -/
theorem open_truths {H : Type} {enc : TypeId × Value → H} {W : World} {base : Nat} {v : Value} {d : DataW H} {p : List MemPlace}
    (hv : Value.okWide Try.prog W .any base 24 v) (h : DataW.Trod enc Try.prog W 0 (fun _ => true) true 24 v d p) (hlt : ∀ x ∈ p, x.block < W.heap.size) :
    (∃ ao cap, v = .agg #[.slice ao 0 cap]) ∨ ∃ (b off len cap : Nat) (zs : List Int), v = .agg #[.slice (some ⟨b, off, none⟩) len cap] ∧ len ≤ 9223372036854775807 ∧ b < W.heap.size ∧
      ∀ j, j < len → W.cell? ⟨b, off + j, none⟩ = some (.int .i64 (zs.getD j 0)) := by
  obtain ⟨cs, rfl, hsz⟩ := okWide_struct Try.underlying24 hv
  have hC : Try.prog.cellsOf 24 = 1 := by kernel_rfl
  have hC2 : Try.prog.cellsOf 22 = 1 := by kernel_rfl
  have hC3 : Try.prog.cellsOf 3 = 1 := by kernel_rfl
  obtain ⟨c, rfl⟩ : ∃ c, cs = #[c] := by
    rw [hC] at hsz
    obtain ⟨l⟩ := cs
    match l, hsz with
    | [c], _ => exact ⟨c, rfl⟩
  obtain ⟨fuel, hf⟩ := h
  obtain ⟨y0, n, hx, _, h0⟩ := trod_struct1 Try.underlying24 hf
  simp only [Prod.mk.injEq] at hx
  have h0 : DataW.trod enc Try.prog W 0 (fun _ => true) true n 22 [c] = some y0 := by simpa [Value.cells, hC2] using h0
  rcases open_ints Try.underlying22 Try.underlying3 hC3 h0 with ⟨hcs, _⟩ | ⟨a, len, cap, zs, hcs, _, hl, hm, hz, hy, hcell, _⟩
  · simp at hcs; subst hcs; exact .inl ⟨_, _, rfl⟩
  · simp at hcs hz; subst hcs
    unfold maxLen at hm
    by_cases h0 : len = 0
    · subst h0; exact .inl ⟨_, _, rfl⟩
    · obtain ⟨b, off, rfl, hc⟩ := ints_at hcell (by omega)
      have hb : b < W.heap.size := by
        have := hlt (.cell b off) (by rw [hx.2, hy]; simp [MemPlace.row]; omega)
        exact this
      exact .inr ⟨b, off, len, cap, zs, rfl, by omega, hb, fun j hj => hc j (by omega)⟩

theorem tables_all {H : Type} (enc : TypeId × Value → H) (W : World) (base : Nat) (v0 : Value) (d0 : DataW H) (p0 : List MemPlace) (hv : Value.okWide Try.prog W .any base 24 v0)
    (h : DataW.Trod enc Try.prog W 0 (fun _ => true) true 24 v0 d0 p0) (hlt : ∀ x ∈ p0, x.block < W.heap.size) (_ : (DataW.weightsEach Try.prog ([24] ++ []) ([d0] ++ [])).all (· ≤ reachBytes) = true) :
    Calls Try.prog 3 #[v0] W fun e w' => e = .returned (.bool true) ∧ Below W.heap.size W w' := by
  rcases open_truths hv h hlt with ⟨ao, cap, rfl⟩ | ⟨b, off, len, cap, zs, rfl, hlen, hb, hc⟩
  · exact tables_none ao cap W
  · exact tables_any b off len cap zs W hlen hb hc

/-- The statement, out of what the walk gives: diptychlaw3.LogicTables, of one argument of type diptychlaw3.Truths. -/
theorem logicTables_lifted (os : Os) (started : os.Started) (H : Type) (enc : TypeId × Value → H) :
    ReturnsInHanded {} Try.checked os 3 .any (Rows.logicTablesSpec.pre6 enc Try.prog Try.f3 Rows.logicTablesRow.domain false) (Rows.logicTablesSpec.post enc Try.prog Try.f3 false true false false) := by
  refine returnsInHanded_of_change_sized (C := Try.checked) frame.own started (by kernel_rfl) Try.func3
    (ChangeSpec.witness6 (enc := enc) (C := Try.checked) false ⟨#[], #[.agg #[.slice none 0 0]], []⟩ 8 (by kernel_rfl) (by kernel_rfl) (by kernel_rfl) (by kernel_rfl)) ?_
  intro W base args ds gs before hval0 hW hcnd hsz0 _
  have hval : ∀ (j : Nat) t v, Try.f3.params[j]? = some t → args[j]? = some v → Value.okWide Try.prog W .any base t v := hval0
  have hsz : (DataW.weightsEach Try.prog (Try.f3.params.toList ++ Rows.logicTablesSpec.plain.varTypes Try.prog) (ds ++ gs)).all (· ≤ reachBytes) = true := hsz0
  have hW' := hW
  obtain ⟨p, q, hA0, hV, rfl, hfz, hnd⟩ := hW
  have hA : DataW.TrodAll enc Try.prog W 0 (fun _ => true) true Try.f3.params.toList args.toList ds p := hA0
  rw [Try.params3] at hA hval hsz
  obtain ⟨v0, vs0, d0, ds0, p0, q0, hargs, rfl, rfl, h0, r0⟩ := trodAll_cons hA
  obtain ⟨rfl, rfl, rfl⟩ := trodAll_nil r0
  obtain rfl : args = #[v0] := by cases args; simp_all
  obtain ⟨rfl, rfl⟩ := trodVars_none hV
  clear hA0 hval0
  simp only [List.append_nil] at hW'
  have hlt : ∀ x ∈ p0, x.block < W.heap.size := fun x hx => hW'.lt x hx
  refine (tables_all enc W base v0 d0 p0 (hval 0 _ v0 rfl rfl) h0 hlt hsz).mono fun e W' ⟨he, hg⟩ => ?_
  subst he
  exact ⟨_, rfl, frame.post_of_below (pa := p0 ++ []) (pv := []) hW' (fun _ _ _ => (trodAll_cons_mk (shut_bool Try.underlying4 _) trodAll_mk0))
    (fun sp hsp => trodAll_cons_mk (WideElems.Trod_stays frame.laid (by kernel_rfl) (of_decide_eq_true (by kernel_rfl)) h0 (fun x hx => hg.same (hlt x hx)) (sp' := sp) (fun x hx => hsp x hx)) trodAll_mk0)
    (fun _ _ => rfl) (by simp) hg (ok_one (by kernel_rfl) rfl (okWide_bool_mk Try.underlying4 _))⟩
theorem logicTables_over : Rows.logicTablesRow.holds Try.pinned (OpenSpec.ofChange Rows.logicTablesSpec) :=
  OpenClaim.holds_of_wide 3 Try.f3 rfl rfl rfl rfl rfl rfl rfl ⟨rfl, rfl, rfl, rfl, rfl⟩ rfl rfl rfl rfl rfl (by kernel_rfl) Try.func3 (by kernel_rfl)
    (of_decide_eq_true (by kernel_rfl)) (by unfold Func.isWrapper; first | (rw [if_pos (by decide +kernel)]; kernel_rfl) | (rw [if_neg (by decide +kernel)]; exact ⟨rfl, rfl⟩))
    (fun os started H enc _ => logicTables_lifted os started H enc)
/-- The statement. -/
theorem LogicTables_holds : Rows.LogicTablesSaid := logicTables_over
end Go.Proofs.Ytakgjoiloklfkaa.logic
