/- The copies: CopyTexts, copied. -/
import Derived.Test.YtnocncmjdhlmkaaHRef4
import Derived.Test.YtnocncmjdhlmkaaHEdge
namespace Go.Proofs.Ytnocncmjdhlmkaa.hyp
open Go.ChangeShapes Go.WideShapes Go.ChangeAt Go.RowKit kit
set_option linter.unusedVariables false
set_option linter.unusedSimpArgs false
theorem wpList_append_run {P : Program} {w : World} {ops : Array Oper} {rest : List Oper} {o : Oper} {a : Act} {Q : Exit → Act → World → Prop} (hgd : o.guard = none) (s x : Operand) (t tn : TypeId)
    (ho : o.op = .call { callee := .builtin .append, args := #[s, x], argTypes := #[t, tn] }) (v v' y : Value) (w' : World) (hs : a.eval s = v) (hx : a.eval x = y) (hr : (Builtin.append_ #[t, tn] o.type #[v, y]).run P w = .ok v' w')
    (h : wpList P ops Q rest (a.put o.dst v') w') : wpList P ops Q (o :: rest) a w := by
  refine wpList_plain hgd fun K hK => ?_
  unfold Oper.wp execOp
  simp only [ho, resolve, invoke, builtin, Sem.run_bind, Sem.run_pure, Result.andThen_ok, List.map_toArray, List.map_cons, List.map_nil, hs, hx, hr]
  exact hK _ _ h
theorem run_append_none {P : Program} (w : World) (B : Nat) (t ty e : TypeId) (i : TypeInfo) (size : Nat) (ht : P.underlying t = some (.slice e)) (hi : P.info? e = some i) (v : Value) (n : Nat) (xs : List Value) (hown : w.ownsRow B e size v n xs) (c : Nat) :
    (Builtin.append_ #[t, t] ty #[v, .slice none 0 c]).run P w = .ok v w := by
  rcases hown.2 with ⟨rfl, rfl⟩ | ⟨g, cap, cur, rfl, _, hg, hn, _⟩
  · simp [Builtin.append_, run_underlying ht, sizeOf, typeInfo, hi, Builtin.lenOf, Builtin.firstCells, loadCells, loadCellsFrom]
  · simp [Builtin.append_, run_underlying ht, sizeOf, typeInfo, hi, Builtin.lenOf, Builtin.firstCells, hn, storeCells]
set_option maxRecDepth 100000 in
set_option maxHeartbeats 4000000 in
theorem copyT_any (w : World) (v : Value) (l : List ByteArray) (h : TextsA w w.heap.size v l) (hl : l.length ≤ 1048576) :
    Calls Try.prog 26 #[v] w fun e w' => ∃ u, e = .returned u ∧ OW 9 w w.heap.size u (textsV l) w' := by
  obtain ⟨i0, hi, hz0, hz1, hz2⟩ := info_parts infoStr
  have hnil := World.ownsRow_nil w w.heap.size 9 1
  replace hi := Lib.hid hi
  replace hz0 := Lib.hid hz0
  replace hz1 := Lib.hid hz1
  replace hz2 := Lib.hid hz2
  have hgrow : ∀ (v' : Value) (w' : World), w'.ownsRow w.heap.size 9 1 v' (0 + (textsV l).length) ([] ++ textsV l) → w.grownBy w' (Value.ownBlock (.slice none 0 0)) → OW 9 w w.heap.size v' (textsV l) w' := by
    intro v' w' h1 h2
    rw [Nat.zero_add, List.nil_append] at h1
    exact ⟨⟨h2.os, h2.tape, h2.output, h2.size, fun k hk => h2.block k hk (by simp [Value.ownBlock])⟩, h1⟩
  replace hgrow := Lib.hid hgrow
  obtain ⟨L, hL⟩ : ∃ L, textsV l = L := ⟨_, rfl⟩
  have hlen : L.length = l.length := by rw [← hL, textsV_length]
  have hrow := h.row
  have hone : ∀ u ∈ L, u.oneCell' = true := fun u hu => by
    rw [← hL] at hu
    obtain ⟨s, -, rfl⟩ := List.mem_map.1 hu
    rfl
  rw [hL] at hgrow hrow ⊢
  clear h hL
  rcases hrow with ⟨ao, cap, rfl, rfl⟩ | ⟨b, off, cap, rfl, h0, hc, hb, hj⟩
  · rcases ao with _ | ad
    · have hrun := run_append_none (P := Try.prog) w w.heap.size 35 35 9 i0 1 Try.underlying35 hi.out (.slice none 0 0) 0 [] hnil cap
      replace hrun := Lib.hid hrun
      go_enter Try.func26, Try.ntmps26
      go_wp2_with (at_builtin; refine wpList_append_run rfl _ _ 35 35 rfl _ _ _ _ rfl rfl hrun.out ?_)
      go_ret
      exact ⟨_, rfl, OW.start _ _ _⟩
    · go_enter Try.func26, Try.ntmps26
      go_wp2_with (at_builtin; refine wpList_append_own _ rfl _ _ 35 rfl w.heap.size 9 i0 (.string ByteArray.empty) 1 16 Try.underlying35 hi.out hz0.out hz1.out hz2.out rfl (by decide) _ 0 [] rfl hnil _ 0 _ [] rfl rfl ?c1 ?c2 ?c3 ?c4 ?c5 ?c6)
      case c1 => intro j u h; simp at h
      case c2 => intro u h; cases h
      case c3 => simp only [maxLen]; omega
      case c4 => omega
      case c5 => exact Nat.le_refl _
      case c6 =>
        intro v' w' h1 h2 _
        have h3 := hgrow.out v' w' h1 h2
        go_wp2
        go_ret
        exact ⟨_, rfl, h3⟩
  · go_enter Try.func26, Try.ntmps26
    go_wp2_with (at_builtin; refine wpList_append_own _ rfl _ _ 35 rfl w.heap.size 9 i0 (.string ByteArray.empty) 1 16 Try.underlying35 hi.out hz0.out hz1.out hz2.out rfl (by decide) _ 0 [] rfl hnil _ L.length _ L rfl ?d0 ?d1 ?d2 ?d3 ?d4 ?d5 ?d6)
    case d0 => simp
    case d1 => exact RowA.news hj
    case d2 => exact hone
    case d3 => simp only [maxLen]; omega
    case d4 => omega
    case d5 => exact Nat.le_refl _
    case d6 =>
      intro v' w' h1 h2 _
      have h3 := hgrow.out v' w' (by rw [Nat.zero_add, List.nil_append, hlen]; exact h1) h2
      go_wp2
      go_ret
      exact ⟨_, rfl, h3⟩
/-- What copied leaves. -/
structure CE (w0 w : World) (v : Value) (E : List (List ByteArray)) : Prop where
  below : Below w0.heap.size w0 w
  own : EdgesO w w0.heap.size v E
theorem infoTexts2 : (Try.prog.info? 35).map (fun i => (i.zero, i.size, i.bytes)) = some (some (.slice none 0 0), 1, 24) := by kernel_rfl
set_option maxRecDepth 100000 in
set_option maxHeartbeats 4000000 in
theorem copied_any (w : World) (ao : Option Addr) (cap : Nat) (E : List (List ByteArray)) (hE : EdgesA w w.heap.size (.slice ao E.length cap) E) (hl : E.length ≤ 1048576) (hle : ∀ e ∈ E, e.length ≤ 1048576) :
    Calls Try.prog 11 #[.slice ao E.length cap] w fun e w' => ∃ v, e = .returned v ∧ CE w w' v E := by
  obtain ⟨i1, hi1, hy0, hy1, hy2⟩ := info_parts infoTexts2
  replace hi1 := Lib.hid hi1
  replace hy0 := Lib.hid hy0
  replace hy1 := Lib.hid hy1
  replace hy2 := Lib.hid hy2
  obtain ⟨ao2, cap2, hv, hec⟩ := hE.form
  obtain ⟨rfl, rfl⟩ : ao = ao2 ∧ cap = cap2 := by injection hv with h1 h2 h3; exact ⟨h1, h3⟩
  replace hec := Lib.hid hec
  clear hE hv
  go_enter Try.func11, Try.ntmps11
  go_wp2
  go_loopw [3, 4] (fun v i wr => ∃ n : Nat, n ≤ E.length ∧ i = .int .i64 (n : Int) ∧ Hid (CE w wr v (E.take n))) (fun _ i _ => E.length - (intOf i).toNat)
  case atStart => exact ⟨0, by omega, rfl, Lib.hid ⟨Below.refl _ _, EdgesO.nil _ _⟩⟩
  case round =>
    obtain ⟨n, hn, rfl, hC⟩ := hrel
    by_cases hlt : n < E.length
    · have hki : (n : Int) < (E.length : Int) := by omega
      have hn1 := Lib.hid (show n + 1 ≤ E.length from hlt)
      obtain ⟨b, off, u, rfl, -, hc, ht⟩ := hec.out n hlt
      have hst := stay_of_below hC.out.below
      replace hc := hst.cell hc
      have hxl := hle _ (List.getElem_mem hlt)
      have htk : E.take (n + 1) = E.take n ++ [E[n]] := List.take_succ_eq_append_getElem hlt
      have htl : (E.take n).length = n := by rw [List.length_take]; omega
      have hcp := copyT_any wr u E[n] ((ht.stay hst).mono hC.out.below.size) hxl
      obtain ⟨au, cu, rfl, -⟩ := ht.form
      clear ht hst
      generalize E[n] = x at *
      generalize hF2 : E.take (n + 1) = F2 at *
      replace hF2 := Lib.hid hF2
      generalize E.take n = F at *
      subst htk
      clear hlt
      replace hcp := Lib.hid hcp
      go_wp2_with fail
      refine hcp.out.mono ?_
      rintro e w2 ⟨u2, rfl, hW⟩
      have hC2 := hC.out.own.below hW.below
      have hb2 := hC.out.below.trans (hW.below.mono hC.out.below.size)
      have hx := own_base hW.own hC.out.below.size
      rw [textsV_length] at hx
      obtain ⟨xs, -, hown, -⟩ := id hC2
      rw [htl] at hown
      have hsz := hb2.size
      obtain ⟨a2, c2, rfl⟩ := hW.form
      rw [textsV_length] at hx ⊢
      clear hcp hW hC
      go_wp2_with (at_builtin; refine wpList_append_own _ rfl _ _ 22 rfl w.heap.size 35 i1 (.slice none 0 0) 1 24 Try.underlying22 hi1.out hy0.out hy1.out hy2.out rfl (by decide) _ n xs rfl (hown.alloc _) _ 1 _ [.slice a2 x.length c2] rfl rfl ?c1 ?c2 ?c3 ?c4 ?c5 ?c6)
      case c1 => exact news_one _ _ _
      case c2 => simp [Value.oneCell']
      case c3 => simp only [maxLen]; omega
      case c4 => omega
      case c5 => simp; omega
      case c6 =>
        intro v' w5 h1 h2 _
        have hE5 := hC2.push (by rw [htl]; exact hown) (.cells #[.slice a2 x.length c2] 35) x hx (by rw [htl]; exact h1) h2
        have hb5 := (hb2.alloc hb2.size (.cells #[.slice a2 x.length c2] 35)).grown h2 (by rw [World.size_alloc]; omega) (fun k hk => (hown.lt k hk).1)
        have hC5 : Hid (CE w w5 v' (F ++ [x])) := Lib.hid ⟨hb5, hE5⟩
        clear hown h1 h2 hE5 hb5 hC2 hb2 hx
        go_wp2
        go_roundw
        case rel => exact ⟨n + 1, hn1.out, by go_num, by rw [hF2.out]; exact hC5⟩
        case measure => have := hn1.out; simp [intOf]; omega
    · have hki : ¬ (n : Int) < (E.length : Int) := by omega
      obtain rfl : n = E.length := by omega
      rw [List.take_length] at hC
      go_wp2
      go_ret
      exact ⟨_, rfl, hC.out⟩
end Go.Proofs.Ytnocncmjdhlmkaa.hyp
