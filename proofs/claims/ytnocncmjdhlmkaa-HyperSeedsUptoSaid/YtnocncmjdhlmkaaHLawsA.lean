/- Texts HCopy, HLawP, HLaws, one behind the other. -/
import Derived.Test.YtnocncmjdhlmkaaHRef4
import Derived.Test.YtnocncmjdhlmkaaHEdge
import Derived.Test.YtnocncmjdhlmkaaHypG
/- The copies: CopyTexts, copied. -/
namespace Go.Proofs.Ytnocncmjdhlmkaa.hyp
open Go.ChangeShapes Go.WideShapes Go.ChangeAt Go.RowKit kit
set_option linter.unusedVariables false
set_option linter.unusedSimpArgs false
theorem wpList_append_run {P : Program} {w : World} {ops : Array Oper} {rest : List Oper} {o : Oper} {a : Act} {Q : Exit → Act → World → Prop} (hgd : o.guard = none) (s x : Operand) (t tn : TypeId)
    (ho : o.op = .call { callee := .builtin .append, args := #[s, x], argTypes := #[t, tn] }) (v v' y : Value) (w' : World) (hs : a.eval s = v) (hx : a.eval x = y) (hr : (Builtin.append_ #[t, tn] o.type #[v, y]).run P w = .ok v' w')
    (h : wpList P ops Q rest (a.put o.dst v') w') : wpList P ops Q (o :: rest) a w := by
  refine wpList_plain hgd fun K hK => ?_
  unfold Oper.wp execOp
  simp only [ho, resolve, invoke, builtin, Sem.run_bind, Sem.run_pure, Result.andThen_ok, List.map_toArray, List.map_cons, List.map_nil, hs, hx, hr]
  exact hK _ _ h
theorem run_append_none {P : Program} (w : World) (B : Nat) (t ty e : TypeId) (i : TypeInfo) (size : Nat) (ht : P.underlying t = some (.slice e)) (hi : P.info? e = some i) (v : Value) (n : Nat) (xs : List Value) (hown : w.ownsRow B e size v n xs) (c : Nat) :
    (Builtin.append_ #[t, t] ty #[v, .slice none 0 c]).run P w = .ok v w := by
  rcases hown.2 with ⟨rfl, rfl⟩ | ⟨g, cap, cur, rfl, _, hg, hn, _⟩
  · simp [Builtin.append_, run_underlying ht, sizeOf, typeInfo, hi, Builtin.lenOf, Builtin.firstCells, loadCells, loadCellsFrom]
  · simp [Builtin.append_, run_underlying ht, sizeOf, typeInfo, hi, Builtin.lenOf, Builtin.firstCells, hn, storeCells]
set_option maxRecDepth 100000 in
set_option maxHeartbeats 4000000 in
theorem copyT_any (w : World) (v : Value) (l : List ByteArray) (h : TextsA w w.heap.size v l) (hl : l.length ≤ 1048576) :
    Calls Try.prog 26 #[v] w fun e w' => ∃ u, e = .returned u ∧ OW 9 w w.heap.size u (textsV l) w' := by
  obtain ⟨i0, hi, hz0, hz1, hz2⟩ := info_parts infoStr
  have hnil := World.ownsRow_nil w w.heap.size 9 1
  replace hi := Lib.hid hi
  replace hz0 := Lib.hid hz0
  replace hz1 := Lib.hid hz1
  replace hz2 := Lib.hid hz2
  have hgrow : ∀ (v' : Value) (w' : World), w'.ownsRow w.heap.size 9 1 v' (0 + (textsV l).length) ([] ++ textsV l) → w.grownBy w' (Value.ownBlock (.slice none 0 0)) → OW 9 w w.heap.size v' (textsV l) w' := by
    intro v' w' h1 h2
    rw [Nat.zero_add, List.nil_append] at h1
    exact ⟨⟨h2.os, h2.tape, h2.output, h2.size, fun k hk => h2.block k hk (by simp [Value.ownBlock])⟩, h1⟩
  replace hgrow := Lib.hid hgrow
  obtain ⟨L, hL⟩ : ∃ L, textsV l = L := ⟨_, rfl⟩
  have hlen : L.length = l.length := by rw [← hL, textsV_length]
  have hrow := h.row
  have hone : ∀ u ∈ L, u.oneCell' = true := fun u hu => by
    rw [← hL] at hu
    obtain ⟨s, -, rfl⟩ := List.mem_map.1 hu
    rfl
  rw [hL] at hgrow hrow ⊢
  clear h hL
  rcases hrow with ⟨ao, cap, rfl, rfl⟩ | ⟨b, off, cap, rfl, h0, hc, hb, hj⟩
  · rcases ao with _ | ad
    · have hrun := run_append_none (P := Try.prog) w w.heap.size 35 35 9 i0 1 Try.underlying35 hi.out (.slice none 0 0) 0 [] hnil cap
      replace hrun := Lib.hid hrun
      go_enter Try.func26, Try.ntmps26
      go_wp2_with (at_builtin; refine wpList_append_run rfl _ _ 35 35 rfl _ _ _ _ rfl rfl hrun.out ?_)
      go_ret
      exact ⟨_, rfl, OW.start _ _ _⟩
    · go_enter Try.func26, Try.ntmps26
      go_wp2_with (at_builtin; refine wpList_append_own _ rfl _ _ 35 rfl w.heap.size 9 i0 (.string ByteArray.empty) 1 16 Try.underlying35 hi.out hz0.out hz1.out hz2.out rfl (by decide) _ 0 [] rfl hnil _ 0 _ [] rfl rfl ?c1 ?c2 ?c3 ?c4 ?c5 ?c6)
      case c1 => intro j u h; simp at h
      case c2 => intro u h; cases h
      case c3 => simp only [maxLen]; omega
      case c4 => omega
      case c5 => exact Nat.le_refl _
      case c6 =>
        intro v' w' h1 h2 _
        have h3 := hgrow.out v' w' h1 h2
        go_wp2
        go_ret
        exact ⟨_, rfl, h3⟩
  · go_enter Try.func26, Try.ntmps26
    go_wp2_with (at_builtin; refine wpList_append_own _ rfl _ _ 35 rfl w.heap.size 9 i0 (.string ByteArray.empty) 1 16 Try.underlying35 hi.out hz0.out hz1.out hz2.out rfl (by decide) _ 0 [] rfl hnil _ L.length _ L rfl ?d0 ?d1 ?d2 ?d3 ?d4 ?d5 ?d6)
    case d0 => simp
    case d1 => exact RowA.news hj
    case d2 => exact hone
    case d3 => simp only [maxLen]; omega
    case d4 => omega
    case d5 => exact Nat.le_refl _
    case d6 =>
      intro v' w' h1 h2 _
      have h3 := hgrow.out v' w' (by rw [Nat.zero_add, List.nil_append, hlen]; exact h1) h2
      go_wp2
      go_ret
      exact ⟨_, rfl, h3⟩
/-- What copied leaves. -/
structure CE (w0 w : World) (v : Value) (E : List (List ByteArray)) : Prop where
  below : Below w0.heap.size w0 w
  own : EdgesO w w0.heap.size v E
theorem infoTexts2 : (Try.prog.info? 35).map (fun i => (i.zero, i.size, i.bytes)) = some (some (.slice none 0 0), 1, 24) := by kernel_rfl
set_option maxRecDepth 100000 in
set_option maxHeartbeats 4000000 in
theorem copied_any (w : World) (ao : Option Addr) (cap : Nat) (E : List (List ByteArray)) (hE : EdgesA w w.heap.size (.slice ao E.length cap) E) (hl : E.length ≤ 1048576) (hle : ∀ e ∈ E, e.length ≤ 1048576) :
    Calls Try.prog 11 #[.slice ao E.length cap] w fun e w' => ∃ v, e = .returned v ∧ CE w w' v E := by
  obtain ⟨i1, hi1, hy0, hy1, hy2⟩ := info_parts infoTexts2
  replace hi1 := Lib.hid hi1
  replace hy0 := Lib.hid hy0
  replace hy1 := Lib.hid hy1
  replace hy2 := Lib.hid hy2
  obtain ⟨ao2, cap2, hv, hec⟩ := hE.form
  obtain ⟨rfl, rfl⟩ : ao = ao2 ∧ cap = cap2 := by injection hv with h1 h2 h3; exact ⟨h1, h3⟩
  replace hec := Lib.hid hec
  clear hE hv
  go_enter Try.func11, Try.ntmps11
  go_wp2
  go_loopw [3, 4] (fun v i wr => ∃ n : Nat, n ≤ E.length ∧ i = .int .i64 (n : Int) ∧ Hid (CE w wr v (E.take n))) (fun _ i _ => E.length - (intOf i).toNat)
  case atStart => exact ⟨0, by omega, rfl, Lib.hid ⟨Below.refl _ _, EdgesO.nil _ _⟩⟩
  case round =>
    obtain ⟨n, hn, rfl, hC⟩ := hrel
    by_cases hlt : n < E.length
    · have hki : (n : Int) < (E.length : Int) := by omega
      have hn1 := Lib.hid (show n + 1 ≤ E.length from hlt)
      obtain ⟨b, off, u, rfl, -, hc, ht⟩ := hec.out n hlt
      have hst := stay_of_below hC.out.below
      replace hc := hst.cell hc
      have hxl := hle _ (List.getElem_mem hlt)
      have htk : E.take (n + 1) = E.take n ++ [E[n]] := List.take_succ_eq_append_getElem hlt
      have htl : (E.take n).length = n := by rw [List.length_take]; omega
      have hcp := copyT_any wr u E[n] ((ht.stay hst).mono hC.out.below.size) hxl
      obtain ⟨au, cu, rfl, -⟩ := ht.form
      clear ht hst
      generalize E[n] = x at *
      generalize hF2 : E.take (n + 1) = F2 at *
      replace hF2 := Lib.hid hF2
      generalize E.take n = F at *
      subst htk
      clear hlt
      replace hcp := Lib.hid hcp
      go_wp2_with fail
      refine hcp.out.mono ?_
      rintro e w2 ⟨u2, rfl, hW⟩
      have hC2 := hC.out.own.below hW.below
      have hb2 := hC.out.below.trans (hW.below.mono hC.out.below.size)
      have hx := own_base hW.own hC.out.below.size
      rw [textsV_length] at hx
      obtain ⟨xs, -, hown, -⟩ := id hC2
      rw [htl] at hown
      have hsz := hb2.size
      obtain ⟨a2, c2, rfl⟩ := hW.form
      rw [textsV_length] at hx ⊢
      clear hcp hW hC
      go_wp2_with (at_builtin; refine wpList_append_own _ rfl _ _ 22 rfl w.heap.size 35 i1 (.slice none 0 0) 1 24 Try.underlying22 hi1.out hy0.out hy1.out hy2.out rfl (by decide) _ n xs rfl (hown.alloc _) _ 1 _ [.slice a2 x.length c2] rfl rfl ?c1 ?c2 ?c3 ?c4 ?c5 ?c6)
      case c1 => exact news_one _ _ _
      case c2 => simp [Value.oneCell']
      case c3 => simp only [maxLen]; omega
      case c4 => omega
      case c5 => simp; omega
      case c6 =>
        intro v' w5 h1 h2 _
        have hE5 := hC2.push (by rw [htl]; exact hown) (.cells #[.slice a2 x.length c2] 35) x hx (by rw [htl]; exact h1) h2
        have hb5 := (hb2.alloc hb2.size (.cells #[.slice a2 x.length c2] 35)).grown h2 (by rw [World.size_alloc]; omega) (fun k hk => (hown.lt k hk).1)
        have hC5 : Hid (CE w w5 v' (F ++ [x])) := Lib.hid ⟨hb5, hE5⟩
        clear hown h1 h2 hE5 hb5 hC2 hb2 hx
        go_wp2
        go_roundw
        case rel => exact ⟨n + 1, hn1.out, by go_num, by rw [hF2.out]; exact hC5⟩
        case measure => have := hn1.out; simp [intOf]; omega
    · have hki : ¬ (n : Int) < (E.length : Int) := by omega
      obtain rfl : n = E.length := by omega
      rw [List.take_length] at hC
      go_wp2
      go_ret
      exact ⟨_, rfl, hC.out⟩
end Go.Proofs.Ytnocncmjdhlmkaa.hyp

/- Laws of widths (plain): any turn, any order of the edges, an edge more. -/
namespace Go.Proofs.Ytnocncmjdhlmkaa.hyp
open Go.ChangeShapes Go.WideShapes Go.ChangeAt Go.RowKit kit
set_option linter.unusedVariables false
set_option linter.unusedSimpArgs false
theorem le_of_iff {a b : Nat} (h : ∀ k, a ≤ k ↔ b ≤ k) : a = b := Nat.le_antisymm ((h b).2 (Nat.le_refl _)) ((h a).1 (Nat.le_refl _))
theorem wid_turn {E : List Nat} {all : Nat} (g : Good E all) (t u : Nat) : widN E t all = widN E u all :=
  le_of_iff fun k => (wid_iff g t k all all (Nat.le_refl _) g.hall (Sub.refl _)).trans (wid_iff g u k all all (Nat.le_refl _) g.hall (Sub.refl _)).symm
theorem vars_iff (E : List (List ByteArray)) (v : ByteArray) : v ∈ varsR E ↔ ∃ e ∈ E, v ∈ e := ⟨fun h => vars_mem h, fun ⟨e, he, hv⟩ => mem_vars he hv⟩
/-- The same edges in another order. -/
def SameE (E F : List (List ByteArray)) : Prop := E.length = F.length ∧ ∀ e, e ∈ E ↔ e ∈ F
theorem SameE.symm {E F : List (List ByteArray)} (h : SameE E F) : SameE F E := ⟨h.1.symm, fun e => (h.2 e).symm⟩
theorem SameE.vars {E F : List (List ByteArray)} (h : SameE E F) (v : ByteArray) : v ∈ varsR E ↔ v ∈ varsR F := by
  rw [vars_iff, vars_iff]
  exact ⟨fun ⟨e, he, hv⟩ => ⟨e, (h.2 e).1 he, hv⟩, fun ⟨e, he, hv⟩ => ⟨e, (h.2 e).2 he, hv⟩⟩
theorem SameE.len {E F : List (List ByteArray)} (h : SameE E F) : (varsR E).length = (varsR F).length :=
  List.Perm.length_eq ((List.perm_ext_iff_of_nodup vars_nodup vars_nodup).2 h.vars)
theorem SameE.may {E F : List (List ByteArray)} (h : SameE E F) (hm : mayR nameB E = true) : mayR nameB F = true := by
  unfold mayR at hm ⊢
  rw [Bool.and_eq_true, Bool.and_eq_true, List.all_eq_true] at hm ⊢
  obtain ⟨⟨h1, h2⟩, h3⟩ := hm
  rw [← h.1, ← h.len]
  exact ⟨⟨h1, fun e he => h2 e ((h.2 e).2 he)⟩, h3⟩
theorem all_bit (E : List (List ByteArray)) (i : Nat) : (allR E).testBit i = decide (i < (varsR E).length) := by unfold allR; rw [full_bit]
theorem getD_in {l : List ByteArray} {i : Nat} (h : i < l.length) : l.getD i ByteArray.empty = l[i] := by rw [List.getD_eq_getElem?_getD, List.getElem?_eq_getElem h, Option.getD_some]
theorem ren_map {ns ms : List ByteArray} (hn : ns.Nodup) (hm : ms.Nodup) (hv : ∀ v, v ∈ ns → v ∈ ms) {i : Nat} (hi : i < ns.length) :
    ms.idxOf (ns.getD i ByteArray.empty) < ms.length ∧ ns.idxOf (ms.getD (ms.idxOf (ns.getD i ByteArray.empty)) ByteArray.empty) = i := by
  rw [getD_in hi]
  have h1 := List.idxOf_lt_length_of_mem (hv _ (List.getElem_mem hi))
  refine ⟨h1, ?_⟩
  rw [getD_in h1, List.getElem_idxOf h1, List.Nodup.idxOf_getElem hn]
theorem set_bit {ns e : List ByteArray} (hn : ns.Nodup) (he : ∀ v ∈ e, v ∈ ns) {i : Nat} (hi : i < ns.length) : (setN ns e).testBit i = decide (ns[i] ∈ e) := by
  have h := setN_mem (v := ns[i]) he
  rw [List.Nodup.idxOf_getElem hn] at h
  apply Bool.eq_iff_iff.2
  rw [h, decide_eq_true_eq]
theorem same_ren {E F : List (List ByteArray)} (h : SameE E F) (hE : mayR nameB E = true) (hF : mayR nameB F = true) :
    Ren (setsR E) (setsR F) (allR E) (allR F) (fun i => (varsR F).idxOf ((varsR E).getD i ByteArray.empty)) (fun j => (varsR E).idxOf ((varsR F).getD j ByteArray.empty)) := by
  have gE := good_of hE
  have gF := good_of hF
  have key : ∀ (E F : List (List ByteArray)), SameE E F → mayR nameB E = true → ∀ e ∈ E, ∀ i, (allR E).testBit i = true → (setN (varsR F) e).testBit ((varsR F).idxOf ((varsR E).getD i ByteArray.empty)) = (setN (varsR E) e).testBit i := by
    intro E F h hE e he i hi
    rw [all_bit, decide_eq_true_eq] at hi
    rw [set_bit vars_nodup (fun v hv => mem_vars he hv) hi, getD_in hi]
    apply Bool.eq_iff_iff.2
    rw [setN_mem (fun v hv => mem_vars ((h.2 e).1 he) hv), decide_eq_true_eq]
  refine ⟨gE.hE, gF.hE, gE.hall, gF.hall, ?_, ?_, ?_, ?_, ?_, ?_⟩
  · intro e he i hi
    exact (gE.hcov i).2 ⟨e, he, hi⟩
  · intro e he i hi
    exact (gF.hcov i).2 ⟨e, he, hi⟩
  · intro i hi
    rw [all_bit, decide_eq_true_eq] at hi
    obtain ⟨h1, h2⟩ := ren_map (ms := varsR F) vars_nodup vars_nodup (fun v hv => (h.vars v).1 hv) hi
    exact ⟨by rw [all_bit, decide_eq_true_eq]; exact h1, h2⟩
  · intro i hi
    rw [all_bit, decide_eq_true_eq] at hi
    obtain ⟨h1, h2⟩ := ren_map (ms := varsR E) vars_nodup vars_nodup (fun v hv => (h.vars v).2 hv) hi
    exact ⟨by rw [all_bit, decide_eq_true_eq]; exact h1, h2⟩
  · intro e he
    obtain ⟨t, ht, rfl⟩ := List.mem_map.1 he
    exact ⟨_, List.mem_map.2 ⟨t, (h.2 t).1 ht, rfl⟩, fun i hi => key E F h hE t ht i hi⟩
  · intro f hf
    obtain ⟨t, ht, rfl⟩ := List.mem_map.1 hf
    exact ⟨_, List.mem_map.2 ⟨t, (h.2 t).2 ht, rfl⟩, fun i hi => key E F h hE t ((h.2 t).2 ht) i hi⟩
theorem same_le {E F : List (List ByteArray)} (h : SameE E F) (hE : mayR nameB E = true) (hF : mayR nameB F = true) (t k : Nat) (hw : widN (setsR E) t (allR E) ≤ k) : widN (setsR F) t (allR F) ≤ k := by
  have gE := good_of hE
  have gF := good_of hF
  have hr := same_ren h hE hF
  have h1 := (wid_iff gE t k _ _ (Nat.le_refl _) gE.hall (Sub.refl _)).1 hw
  exact (wid_iff gF t k _ _ (Nat.le_refl _) gF.hall (Sub.refl _)).2 (hr.wp h1 gE.hall (Sub.refl _) _ gF.hall (Sub.refl _) (fun i hi => by rw [hi]; exact (hr.hσ i hi).1))
/-- In another order the width is the same. -/
theorem same_wid {E F : List (List ByteArray)} (h : SameE E F) (hE : mayR nameB E = true) : mayR nameB F = true ∧ ∀ t, widN (setsR F) t (allR F) = widN (setsR E) t (allR E) := by
  have hF := h.may hE
  exact ⟨hF, fun t => le_of_iff fun k => ⟨same_le h.symm hF hE t k, same_le h hE hF t k⟩⟩
theorem addN_same {ns : List ByteArray} : ∀ e : List ByteArray, (∀ v ∈ e, v ∈ ns) → e.foldl addN ns = ns
  | [], _ => rfl
  | v :: e, h => by
    have h1 : addN ns v = ns := by unfold addN; rw [if_pos (h v (List.mem_cons_self ..))]
    rw [List.foldl_cons, h1]
    exact addN_same e fun u hu => h u (List.mem_cons_of_mem _ hu)
/-- An edge more of the same variables: variables and sets. -/
theorem vars_more {E : List (List ByteArray)} {p : List ByteArray} (hp : ∀ v ∈ p, v ∈ varsR E) : varsR (E ++ [p]) = varsR E := by
  unfold varsR
  rw [List.flatten_append, List.foldl_append]
  simp only [List.flatten_cons, List.flatten_nil, List.append_nil]
  exact addN_same p hp
theorem sets_more {E : List (List ByteArray)} {p : List ByteArray} (hp : ∀ v ∈ p, v ∈ varsR E) : setsR (E ++ [p]) = setsR E ++ [setN (varsR E) p] := by
  unfold setsR
  rw [vars_more hp, List.map_append]
  rfl
theorem all_more {E : List (List ByteArray)} {p : List ByteArray} (hp : ∀ v ∈ p, v ∈ varsR E) : allR (E ++ [p]) = allR E := by unfold allR; rw [vars_more hp]
theorem may_more {E : List (List ByteArray)} {p : List ByteArray} (hm : mayR nameB E = true) (h8 : E.length < 8) (hp : ∀ v ∈ p, v ∈ varsR E) (hl : p.length ≤ 12) (hn : p.Nodup) : mayR nameB (E ++ [p]) = true := by
  have hparts := may_parts hm
  have hnm : unlikeR nameB p = true := by
    unfold unlikeR
    rw [Bool.and_eq_true, List.all_eq_true, decide_eq_true_eq]
    refine ⟨fun v hv => ?_, hn⟩
    obtain ⟨e, he, hve⟩ := vars_mem (hp v hv)
    exact (hparts.2.1 e he).2.2 v hve
  unfold mayR at hm ⊢
  rw [vars_more hp]
  rw [Bool.and_eq_true, Bool.and_eq_true, List.all_eq_true] at hm ⊢
  refine ⟨⟨decide_eq_true (by rw [List.length_append]; simp; omega), fun e he => ?_⟩, hm.2⟩
  rcases List.mem_append.1 he with he | he
  · exact hm.1.2 e he
  · rw [List.mem_singleton.1 he, hnm, decide_eq_true hl]; rfl
theorem setN_mono {ns a b : List ByteArray} (h : ∀ v ∈ a, v ∈ b) : Sub (setN ns a) (setN ns b) := fun i hi => by
  obtain ⟨v, hv, e⟩ := (setN_iff ns a i).1 hi
  exact (setN_iff ns b i).2 ⟨v, h v hv, e⟩
/-- An edge more within another one changes nothing. -/
theorem part_wid {E : List (List ByteArray)} {p e : List ByteArray} (hm : mayR nameB E = true) (h8 : E.length < 8) (he : e ∈ E) (hp : ∀ v ∈ p, v ∈ e) (hn : p.Nodup) (hl : p.length ≤ 12) :
    mayR nameB (E ++ [p]) = true ∧ ∀ t, widN (setsR (E ++ [p])) t (allR (E ++ [p])) = widN (setsR E) t (allR E) := by
  have hpv : ∀ v ∈ p, v ∈ varsR E := fun v hv => mem_vars he (hp v hv)
  have hM := may_more hm h8 hpv hl hn
  have g := good_of hm
  have gM := good_of hM
  refine ⟨hM, fun t => ?_⟩
  have e1 := sets_more hpv
  have e2 := all_more hpv
  have w1 : Within (setsR E) (setsR (E ++ [p])) := fun x hx => .inr ⟨x, by rw [e1]; exact List.mem_append_left _ hx, Sub.refl _⟩
  have w2 : Within (setsR (E ++ [p])) (setsR E) := fun x hx => by
    rw [e1] at hx
    rcases List.mem_append.1 hx with hx | hx
    · exact .inr ⟨x, hx, Sub.refl _⟩
    · rw [List.mem_singleton.1 hx]
      exact .inr ⟨_, List.mem_map.2 ⟨e, he, rfl⟩, setN_mono hp⟩
  refine le_of_iff fun k => ?_
  rw [wid_iff gM t k _ _ (Nat.le_refl _) gM.hall (Sub.refl _), wid_iff g t k _ _ (Nat.le_refl _) g.hall (Sub.refl _), e2]
  exact ⟨fun h => h.within gM.hE g.hE w2 w1 g.hall, fun h => h.within g.hE gM.hE w1 w2 g.hall⟩
theorem wp_one {E : List Nat} {all f : Nat} (g : Good E all) (hf : f ∈ E) (hs : Sub all f) : ∀ n out, out ≤ n → out < 65536 → Sub out all → WP E 1 out := by
  intro n
  induction n with
  | zero =>
    intro out h _ _
    obtain rfl : out = 0 := by omega
    exact .nil
  | succ n ih =>
    intro out h ho hsub
    by_cases h0 : out = 0
    · subst h0; exact .nil
    · obtain ⟨v, hv⟩ : ∃ v, out.testBit v = true := Nat.exists_testBit_of_ne_zero h0
      have hv16 := lt16 ho hv
      have hlt := minus_bit_lt ho hv
      have hsub2 : Sub (minus out (bit v)) all := fun i hi => by
        rw [testBit_minus ho (bit_lt hv16), Bool.and_eq_true] at hi
        exact hsub i hi.1
      refine .step hv (ih _ (by omega) (minus_lt _ _ ho) hsub2) ⟨[f], by simp, fun e he => by rw [List.mem_singleton.1 he]; exact hf, fun x hx => ⟨f, by simp, ?_⟩⟩
      obtain ⟨e, he, hi⟩ := bag_in g hsub ho hv x hx
      exact hs x ((g.hcov x).2 ⟨e, he, hi⟩)
/-- One edge of all variables makes it 1, or 0 where there is none. -/
theorem all_wid {E : List (List ByteArray)} (hm : mayR nameB E = true) (h8 : E.length < 8) :
    mayR nameB (E ++ [varsR E]) = true ∧ ∀ t, widN (setsR (E ++ [varsR E])) t (allR (E ++ [varsR E])) = if varsR E = [] then 0 else 1 := by
  have hpv : ∀ v ∈ varsR E, v ∈ varsR E := fun v hv => hv
  have hM := may_more hm h8 hpv (may_parts hm).2.2 vars_nodup
  have gM := good_of hM
  refine ⟨hM, fun t => ?_⟩
  have e1 := sets_more hpv
  have e2 := all_more hpv
  by_cases h0 : varsR E = []
  · rw [if_pos h0, e2]
    have : allR E = 0 := by unfold allR; rw [h0]; rfl
    rw [this]
    rfl
  · rw [if_neg h0]
    have hne : allR (E ++ [varsR E]) ≠ 0 := by
      rw [e2]
      intro h
      have h1 := all_bit E 0
      rw [h, Nat.zero_testBit] at h1
      have := of_decide_eq_false h1.symm
      have := List.length_pos_iff.2 h0
      omega
    have h1 := wid_pos (turn := t) gM hne
    have hsub : Sub (allR (E ++ [varsR E])) (setN (varsR E) (varsR E)) := fun i hi => by
      rw [e2, all_bit, decide_eq_true_eq] at hi
      rw [set_bit vars_nodup hpv hi]
      exact decide_eq_true (List.getElem_mem hi)
    have h2 := (wid_iff gM t 1 _ _ (Nat.le_refl _) gM.hall (Sub.refl _)).2 (wp_one gM (by rw [e1]; simp) hsub _ _ (Nat.le_refl _) gM.hall (Sub.refl _))
    omega
/-- The width is at most the number of edges. -/
theorem wid_few {E : List (List ByteArray)} (hm : mayR nameB E = true) (t : Nat) : widN (setsR E) t (allR E) ≤ E.length := by
  have := wid_edges (good_of hm) t
  unfold setsR at this
  rw [List.length_map] at this
  exact this
theorem rev_same (E : List (List ByteArray)) : SameE E E.reverse := ⟨by simp, fun e => by simp⟩
end Go.Proofs.Ytnocncmjdhlmkaa.hyp

/- HyperLaws: what its walk needs; Within. -/
namespace Go.Proofs.Ytnocncmjdhlmkaa.hyp
open Go.ChangeShapes Go.WideShapes Go.ChangeAt Go.RowKit kit
set_option linter.unusedVariables false
set_option linter.unusedSimpArgs false
theorem GraphA.below {w w' : World} {v : Value} {ao : Option Addr} {cap : Nat} {E : List (List ByteArray)} {width seed : Int} {lv : Value} {bs : List BagD} (h : GraphA w v ao cap E width seed lv bs) (hb : Below w.heap.size w w') : GraphA w' v ao cap E width seed lv bs :=
  ⟨h.eq, (h.edges.stay (stay_of_below hb)).mono hb.size, h.few, h.each, (h.bags.stay (stay_of_below hb)).mono hb.size, h.bfew, h.beach, h.wwf, h.swf⟩
/-- A row of one's own of edges that are not. -/
structure BE (w0 w : World) (v : Value) (F : List (List ByteArray)) : Prop where
  below : Below w0.heap.size w0 w
  rows : ∃ vs : List Value, vs.length = F.length ∧ w.ownsRow w0.heap.size 35 1 v F.length vs ∧ ∀ j (h : j < F.length) (h' : j < vs.length), TextsA w0 w0.heap.size vs[j] F[j]
theorem BE.push {w0 w w1 : World} {v v' x : Value} {F : List (List ByteArray)} {e : List ByteArray} {xs : List Value} (h : BE w0 w v F) (o : Obj) (hrow : w.ownsRow w0.heap.size 35 1 v F.length xs) (hx : TextsA w0 w0.heap.size x e)
    (h1 : w1.ownsRow w0.heap.size 35 1 v' (F.length + 1) (xs ++ [x])) (h2 : (w.alloc o).grownBy w1 v.ownBlock) : BE w0 w1 v' (F ++ [e]) := by
  obtain ⟨vs, hl, hr, hel⟩ := h.rows
  obtain rfl := own_unique hr hrow
  refine ⟨(h.below.alloc h.below.size o).grown h2 (by rw [World.size_alloc]; have := h.below.size; omega) (fun k hk => (hr.lt k hk).1), vs ++ [x], by rw [List.length_append, List.length_append, hl]; rfl, by rw [List.length_append]; exact h1, fun j hj hj' => ?_⟩
  by_cases hjb : j < F.length
  · simp only [List.getElem_append_left hjb, List.getElem_append_left (show j < vs.length by omega)]
    exact hel j hjb (by omega)
  · have hje : j = F.length := by rw [List.length_append] at hj; simp at hj; omega
    subst hje
    simp only [List.getElem_append_right (Nat.le_refl _), Nat.sub_self, List.getElem_cons_zero]
    have e0 : (vs ++ [x])[F.length]'hj' = x := by
      rw [List.getElem_append_right (by omega)]
      simp [hl]
    rw [e0]
    exact hx
theorem BE.read {w0 w : World} {v : Value} {F : List (List ByteArray)} (h : BE w0 w v F) : EdgesA w w.heap.size v F := by
  obtain ⟨vs, hl, hr, hel⟩ := h.rows
  exact ⟨vs, hl, own_row (by rw [hl]; exact hr), fun j hj hj' => ((hel j hj hj').stay (stay_of_below h.below)).mono h.below.size⟩
/-- A copy, and one more behind it. -/
theorem edges_snoc {V w w1 : World} {v v' x : Value} {E : List (List ByteArray)} {p : List ByteArray} {xs : List Value} (h : CE V w v E) (o : Obj) (hrow : w.ownsRow V.heap.size 35 1 v E.length xs) (hx : TextsA V V.heap.size x p) (hs : ∀ e ∈ E, ∀ s ∈ e, s.size ≤ maxLen)
    (h1 : w1.ownsRow V.heap.size 35 1 v' (E.length + 1) (xs ++ [x])) (h2 : (w.alloc o).grownBy w1 v.ownBlock) : EdgesA w1 w1.heap.size v' (E ++ [p]) ∧ Below V.heap.size V w1 := by
  obtain ⟨vs, hl, hr, hel⟩ := h.own
  obtain rfl := own_unique hr hrow
  have hb : Below V.heap.size V w1 := (h.below.alloc h.below.size o).grown h2 (by rw [World.size_alloc]; have := h.below.size; omega) (fun k hk => (hr.lt k hk).1)
  refine ⟨⟨vs ++ [x], by rw [List.length_append, List.length_append, hl]; rfl, own_row (by rw [List.length_append, hl]; exact h1), fun j hj hj' => ?_⟩, hb⟩
  by_cases hjb : j < E.length
  · simp only [List.getElem_append_left hjb, List.getElem_append_left (show j < vs.length by omega)]
    have h3 := hel j hjb (by omega)
    have h4 := (h3.alloc o).kept h2 (own_apart3 (h3.alloc o) (hr.alloc o) (by decide))
    exact ⟨own_row (by rw [textsV_length]; exact h4), hs _ (List.getElem_mem hjb)⟩
  · have hje : j = E.length := by rw [List.length_append] at hj; simp at hj; omega
    subst hje
    simp only [List.getElem_append_right (Nat.le_refl _), Nat.sub_self, List.getElem_cons_zero]
    have e0 : (vs ++ [x])[E.length]'hj' = x := by
      rw [List.getElem_append_right (by omega)]
      simp [hl]
    rw [e0]
    exact (hx.stay (stay_of_below hb)).mono hb.size
/-- The first part of texts. -/
theorem TextsA.part {w : World} {B : Nat} {a : Option Addr} {c : Nat} {l : List ByteArray} (h : TextsA w B (.slice a l.length c) l) {m : Nat} (hm : m ≤ l.length) : TextsA w B (.slice a m c) (l.take m) := by
  refine ⟨?_, fun s hs => h.size s (List.mem_of_mem_take hs)⟩
  have hlen : (textsV (l.take m)).length = m := by rw [textsV_length, List.length_take]; omega
  rcases h.row with ⟨ao, cap, hv, hl⟩ | ⟨b, off, cap, hv, h0, hc, hB, hj⟩
  · have : l = [] := by cases l with | nil => rfl | cons a l => simp [textsV] at hl
    subst this
    obtain rfl : m = 0 := by simpa using hm
    exact .inl ⟨a, c, rfl, rfl⟩
  · injection hv with h1 h2 h3
    subst h1 h3
    by_cases hm0 : m = 0
    · subst hm0
      exact .inl ⟨_, c, rfl, by simp [textsV]⟩
    · rw [textsV_length] at hc
      refine .inr ⟨b, off, c, by rw [hlen], by omega, by omega, hB, fun j h => ?_⟩
      have h5 := hj j (by rw [textsV_length]; omega)
      rw [h5]
      simp [textsV]
set_option maxRecDepth 100000 in
/-- A number below n. -/
theorem within_num (w : World) (i : Int) (n : Nat) (hi : (Lit.int .i64 i).wf = true) (h0 : 0 < n) (hn : n ≤ 1048576) :
    Calls Try.prog 24 #[.int .i64 i, .int .i64 (n : Int)] w fun e w' => (∃ k : Nat, k < n ∧ e = .returned (.int .i64 (k : Int))) ∧ w' = w := by
  have hne : ¬ (n : Int) = 0 := by omega
  have hi2 : -9223372036854775808 ≤ i ∧ i ≤ 9223372036854775807 := by
    simp [Lit.wf, IntKind.min, IntKind.max, IntKind.signed, IntKind.bits] at hi
    omega
  have ht : i.tmod (n : Int) < n := Int.tmod_lt_of_pos _ (by omega)
  have ht2 : -(i.tmod (n : Int)) < n := by rw [← Int.neg_tmod]; exact Int.tmod_lt_of_pos _ (by omega)
  obtain ⟨r, hr⟩ : ∃ r, i.tmod (n : Int) = r := ⟨_, rfl⟩
  rw [hr] at ht ht2
  by_cases hneg : r < 0
  · obtain ⟨k, hk⟩ := Int.eq_ofNat_of_zero_le (show 0 ≤ r + n by omega)
    have hw : IntKind.i64.wrap (r + (n : Int)) = (k : Int) := by rw [IntWalk.i64_in _ (by omega)]; exact hk
    have hkn : k < n := by omega
    replace hk := Lib.hid hk
    go_enter Try.func24, Try.ntmps24
    go_wp2
    go_ret
    exact ⟨⟨k, hkn, by first | rfl | (rw [hk.out])⟩, rfl⟩
  · obtain ⟨k, hk⟩ := Int.eq_ofNat_of_zero_le (show 0 ≤ r by omega)
    have hkn : k < n := by omega
    subst hk
    go_enter Try.func24, Try.ntmps24
    go_wp2
    go_ret
    exact ⟨⟨k, hkn, rfl⟩, rfl⟩
end Go.Proofs.Ytnocncmjdhlmkaa.hyp
