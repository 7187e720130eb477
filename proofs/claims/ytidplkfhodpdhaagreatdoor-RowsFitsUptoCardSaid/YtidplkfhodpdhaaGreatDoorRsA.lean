/- Texts RowsO, RsSort, RsSame, one behind the other. -/
import Derived.Test.YtidplkfhodpdhaaGreatDoorTabIA
import Derived.Test.YtidplkfhodpdhaaGreatDoorTabTogA
import Derived.Test.YtidplkfhodpdhaaGreatDoorROrdA
import Derived.Test.YtidplkfhodpdhaaGreatDoorSortA
import Derived.Test.YtidplkfhodpdhaaGreatDoorTabEqA
import Derived.Test.YtidplkfhodpdhaaGreatDoorTabMayA
namespace Go.Proofs.YtidplkfhodpdhaaGreatDoor.tab
open Go.ChangeShapes Go.WideShapes Go.ChangeAt Go.RowKit kit dec val
open hyp (RowA TextsA CellsStay stay_of_below textsV textsV_length own_row OW)
set_option linter.unusedVariables false
set_option linter.unusedSimpArgs false
def RO (w0 wr : World) (B N : Nat) (v : Value) (rs : List (List V)) : Prop :=
 ∃ vs : List Value, vs.length = rs.length ∧ wr.ownsRow B 37 1 v vs.length vs ∧ ∀ j (hj : j < vs.length) (hj' : j < rs.length), LA w0 N vs[j] rs[j]
theorem RO.nil (w0 wr : World) (B N : Nat) : RO w0 wr B N (.slice none 0 0) [] := ⟨[], rfl, World.ownsRow_nil _ _ _ _, fun j hj => by simp at hj⟩
theorem RO.form {w0 wr : World} {B N : Nat} {v : Value} {rs : List (List V)} (h : RO w0 wr B N v rs) : ∃ a c, v = .slice a rs.length c := by
 obtain ⟨vs, h1, own, -⟩ := h
 obtain ⟨a, c, e⟩ := own_form4x own
 exact ⟨a, c, by rw [e, h1]⟩
theorem RO.read {w0 wr : World} {B N : Nat} {v : Value} {rs : List (List V)} (h : RO w0 wr B N v rs) (hb : Below w0.heap.size w0 wr) : RowsA wr N v rs := by
 obtain ⟨vs, h1, own, hr⟩ := h
 exact ⟨vs, h1, own_row own, fun j hj hj' => (hr j hj hj').stay hb⟩
theorem RO.lt {w0 wr : World} {B N : Nat} {v : Value} {rs : List (List V)} (h : RO w0 wr B N v rs) : ∀ g, v.ownBlock = some g → B ≤ g ∧ g < wr.heap.size := by
 obtain ⟨vs, h1, own, -⟩ := h
 exact own.lt
theorem RO.keep {w0 wr W : World} {B N : Nat} {v : Value} {rs : List (List V)} (h : RO w0 wr B N v rs) (hk : ∀ g, v.ownBlock = some g → W.heap[g]? = wr.heap[g]?) : RO w0 W B N v rs := by
 obtain ⟨vs, h1, own, hr⟩ := h
 exact ⟨vs, h1, val.own_stay own hk, hr⟩
theorem RO.low {w0 wr : World} {B B' N : Nat} {v : Value} {rs : List (List V)} (h : RO w0 wr B N v rs) (hB : B' ≤ B) : RO w0 wr B' N v rs := by
 obtain ⟨vs, h1, own, hr⟩ := h
 exact ⟨vs, h1, own_low4 own hB, hr⟩
def PO (w0 w : World) (N : Nat) (y : Value) (ss : List (List V)) : Prop :=
 ∃ us : List Value, us.length = ss.length ∧ RowA w w.heap.size y us ∧ ∀ j (hj : j < us.length) (hj' : j < ss.length), LA w0 N us[j] ss[j]
theorem PO.stay {w0 w W : World} {N : Nat} {y : Value} {ss : List (List V)} (h : PO w0 w N y ss) (hb : Below w.heap.size w W) : PO w0 W N y ss := by
 obtain ⟨us, h1, h2, h3⟩ := h
 exact ⟨us, h1, (h2.stay (stay_of_below hb)).mono hb.size, h3⟩
theorem PO.one {w0 w : World} {N g : Nat} {t : Value} {r : List V} (hg : w.cell? ⟨g, 0, none⟩ = some t) (hla : LA w0 N t r) : PO w0 w N (.slice (some ⟨g, 0, none⟩) 1 1) [r] := by
 obtain ⟨ob, ho, _⟩ := cells_of_cell hg
 refine ⟨[t], rfl, .inr ⟨g, 0, 1, rfl, by simp, by simp, (Array.getElem?_eq_some_iff.1 ho).1, fun j hj => ?_⟩, fun j hj hj' => ?_⟩
 ·obtain rfl : j = 0 := by simp at hj; omega
  exact hg
 ·obtain rfl : j = 0 := by simp at hj; omega
  exact hla
theorem RO.parts {w0 w : World} {B N : Nat} {v : Value} {L : List (List V)} (h : RO w0 w B N v L) {p : Nat} (hp : p ≤ L.length) (hlen : L.length ≤ 1048576) :
 ∃ y1 y2, (∀ W : World, (Instr.sliceAt 23 v none (some (.int .i64 (p : Int))) none).run Tryz.prog W = .ok y1 W) ∧ (∀ W : World, (Instr.sliceAt 23 v (some (.int .i64 (p : Int))) none none).run Tryz.prog W = .ok y2 W) ∧ PO w0 w N y1 (L.take p) ∧ PO w0 w N y2 (L.drop p) := by
 obtain ⟨i0, hi, hz1, hz2, hz3⟩ := info_parts infoRow
 obtain ⟨vs, h1, own, hr⟩ := h
 have hU := Tryz.underlying23
 have hT : PO w0 w N .nilIface (L.take p) → True := fun _ => trivial
 rcases own.2 with ⟨rfl, hn⟩ | ⟨g, cap, cur, rfl, hg, hcell, hnc, hcap, hsz, htake⟩
 ·have hL : L = [] := List.eq_nil_of_length_eq_zero (by omega)
  subst hL
  obtain rfl : p = 0 := by simpa using hp
  refine ⟨.slice none 0 0, .slice none 0 0, fun W => by go_simp, fun W => by go_simp, ⟨[], rfl, .inl ⟨_, _, rfl, rfl⟩, fun j hj => by simp at hj⟩, ⟨[], rfl, .inl ⟨_, _, rfl, rfl⟩, fun j hj => by simp at hj⟩⟩
 ·have hrow := own_row own
  have hlt : g < w.heap.size := (Array.getElem?_eq_some_iff.1 hcell).1
  have hcells : ∀ j (hj : j < vs.length), w.cell? ⟨g, j, none⟩ = some vs[j] := fun j hj => by
   rw [cell_of_row w g j cur _ (0, 0) hcell]
   have h2 : vs = cur.toList.take vs.length := by rw [← htake]; simp
   have h3 : cur.toList[j]? = some vs[j] := by
    have := congrArg (fun l : List Value => l[j]?) h2
    simp only [List.getElem?_take, hj, if_true, List.getElem?_eq_getElem hj] at this
    exact this.symm
   rw [← Array.getElem?_toList]
   exact h3
  have hmx : cap ≤ 9223372036854775807 := by unfold maxLen at hcap; omega
  have hpc : (p : Int) ≤ (cap : Int) := by omega
  have hpn : (p : Int) ≤ (vs.length : Int) := by omega
  have hp0 : (0 : Int) ≤ (p : Int) := by omega
  have hp63 : (p : Int) ≤ 9223372036854775807 := by omega
  refine ⟨.slice (some ⟨g, 0, none⟩) p cap, .slice (some ⟨g, if cap - p = 0 then 0 else p, none⟩) (vs.length - p) (cap - p), fun W => by go_simp, fun W => ?_, ?_, ?_⟩
  ·by_cases hc : cap - p = 0
   ·have hcp : cap = p := by omega
    rw [if_pos hc]
    subst hcp
    go_simp
   ·rw [if_neg hc]
    have hcp : ¬ cap = p := by omega
    have hadd : (⟨g, 0, none⟩ : Addr).add p = ⟨g, p, none⟩ := by rw [Go.WideShapes.add_plain, Nat.zero_add]
    go_simp
  ·refine ⟨vs.take p, by simp [h1], ?_, fun j hj hj' => ?_⟩
   ·by_cases h0 : p = 0
    ·subst h0
     exact .inl ⟨_, _, rfl, by simp⟩
    ·have hl : (vs.take p).length = p := by rw [List.length_take]; omega
     refine .inr ⟨g, 0, cap, by rw [hl], by omega, by omega, hlt, fun j hj => ?_⟩
     rw [Nat.zero_add, hcells j (by omega)]
     simp
   ·simp only [List.getElem_take]
    exact hr j _ _
  ·refine ⟨vs.drop p, by simp [h1], ?_, fun j hj hj' => ?_⟩
   ·have hl : (vs.drop p).length = vs.length - p := by rw [List.length_drop]
    by_cases h0 : vs.length - p = 0
    ·rw [h0]
     exact .inl ⟨_, _, rfl, List.eq_nil_of_length_eq_zero (by omega)⟩
    ·rw [if_neg (by omega)]
     refine .inr ⟨g, p, cap - p, by rw [hl], by omega, by omega, hlt, fun j hj => ?_⟩
     rw [hcells (p + j) (by omega)]
     simp
   ·simp only [List.getElem_drop]
    exact hr _ _ _
theorem app_run {P : Program} {w : World} {ops : Array Oper} {rest : List Oper} {o : Oper} {a : Act} {Q : Exit → Act → World → Prop} (hgd : o.guard = none) (s x : Operand) (t tn : TypeId)
 (ho : o.op = .call { callee := .builtin .append, args := #[s, x], argTypes := #[t, tn] }) (v v' y : Value) (w' : World) (hs : a.eval s = v) (hx : a.eval x = y) (hr : (Builtin.append_ #[t, tn] o.type #[v, y]).run P w = .ok v' w')
 (h : wpList P ops Q rest (a.put o.dst v') w') : wpList P ops Q (o :: rest) a w := by
 refine wpList_plain hgd fun K hK => ?_
 unfold Oper.wp execOp
 simp only [ho, resolve, invoke, builtin, Sem.run_bind, Sem.run_pure, Result.andThen_ok, List.map_toArray, List.map_cons, List.map_nil, hs, hx, hr]
 exact hK _ _ h
theorem app_none {P : Program} (w : World) (B : Nat) (t ty e : TypeId) (i : TypeInfo) (size : Nat) (ht : P.underlying t = some (.slice e)) (hi : P.info? e = some i) (v : Value) (n : Nat) (xs : List Value) (hown : w.ownsRow B e size v n xs) (c : Nat) :
 (Builtin.append_ #[t, t] ty #[v, .slice none 0 c]).run P w = .ok v w := by
 rcases hown.2 with ⟨rfl, rfl⟩ | ⟨g, cap, cur, rfl, _, hg, hn, _⟩
 ·simp [Builtin.append_, run_underlying ht, sizeOf, typeInfo, hi, Builtin.lenOf, Builtin.firstCells, loadCells, loadCellsFrom]
 ·simp [Builtin.append_, run_underlying ht, sizeOf, typeInfo, hi, Builtin.lenOf, Builtin.firstCells, hn, storeCells]
theorem la_one {w : World} {N : Nat} {s : Value} {l : List V} (h : LA w N s l) : s.oneCell' = true := by
 obtain ⟨a, c, rfl⟩ := LA.form6 h
 rfl
set_option maxRecDepth 100000 in
theorem wpList_appO {w : World} {ops : Array Oper} {rest : List Oper} {o : Oper} {a : Act} {Q : Exit → Act → World → Prop} (hgd : o.guard = none) (s x : Operand)
 (ho : o.op = .call { callee := .builtin .append, args := #[s, x], argTypes := #[23, 23] })
 (w0 : World) (B N : Nat) (v y : Value) (rs ss : List (List V)) (hs : a.eval s = v) (hx : a.eval x = y) (hR : RO w0 w B N v rs) (hB : B ≤ w.heap.size) (hM : PO w0 w N y ss) (hlen : rs.length + ss.length ≤ 1048576)
 (hK : ∀ v' w', RO w0 w' B N v' (rs ++ ss) → w.grownBy w' v.ownBlock → wpList Tryz.prog ops Q rest (a.put o.dst v') w') : wpList Tryz.prog ops Q (o :: rest) a w := by
 obtain ⟨i0, hi, hz1, hz2, hz3⟩ := info_parts infoRow
 obtain ⟨vs, h1, own, hr⟩ := id hR
 obtain ⟨us, g1, g2, g3⟩ := hM
 have hone : ∀ u ∈ us, u.oneCell' = true := fun u hu => by
  obtain ⟨j, hj, rfl⟩ := List.getElem_of_mem hu
  exact la_one (g3 j hj (by omega))
 have hend : ∀ v' w', w'.ownsRow B 37 1 v' (vs.length + us.length) (vs ++ us) → RO w0 w' B N v' (rs ++ ss) := fun v' w' k2 => by
  refine ⟨vs ++ us, by rw [List.length_append, List.length_append, h1, g1], by rw [List.length_append]; exact k2, fun j hj hj' => ?_⟩
  by_cases hlt : j < vs.length
  ·have e1 : (vs ++ us)[j]'hj = vs[j] := List.getElem_append_left hlt
   have e2 : (rs ++ ss)[j]'hj' = rs[j]'(by omega) := List.getElem_append_left (by omega)
   rw [e1, e2]
   exact hr j hlt (by omega)
  ·have hj2 : j - vs.length < us.length := by rw [List.length_append] at hj; omega
   have e1 : (vs ++ us)[j]'hj = us[j - vs.length]'hj2 := List.getElem_append_right (by omega)
   have e2 : (rs ++ ss)[j]'hj' = ss[j - rs.length]'(by omega) := List.getElem_append_right (by omega)
   rw [e1, e2]
   have e3 : ss[j - rs.length]'(by omega) = ss[j - vs.length]'(by omega) := by congr 1; omega
   rw [e3]
   exact g3 _ hj2 (by omega)
 have h63 : vs.length + us.length ≤ maxLen := by unfold maxLen; omega
 rcases g2 with ⟨ao, cap, rfl, h0⟩ | ⟨b, off, cap, rfl, h0, hc, hb, hj⟩
 ·subst h0
  rcases ao with _ | ad
  ·exact app_run hgd s x _ _ ho v v _ w hs hx (app_none w B _ _ _ i0 1 Tryz.underlying23 hi v _ _ own cap) (hK v w (hend v w (by simpa using own)) ⟨rfl, rfl, rfl, Nat.le_refl _, fun _ _ _ => rfl⟩)
  ·refine wpList_append_own w hgd s x _ ho B 37 i0 (.slice none 0 0) 1 24 Tryz.underlying23 hi hz1 hz2 hz3 rfl (by decide) v vs.length vs hs own ad 0 cap [] hx rfl (fun j u h => by simp at h) (fun u h => by cases h) (by simpa using h63) (by omega) hB ?_
   intro v' w' k1 k2 _
   exact hK v' w' (hend v' w' k1) k2
 ·refine wpList_append_own w hgd s x _ ho B 37 i0 (.slice none 0 0) 1 24 Tryz.underlying23 hi hz1 hz2 hz3 rfl (by decide) v vs.length vs hs own ⟨b, off, none⟩ us.length cap us hx (by omega) (fun j u hu => ?_) hone h63 (by omega) hB ?_
  ·have hjl : j < us.length := by
    rcases Nat.lt_or_ge j us.length with h | h
    ·exact h
    ·rw [List.getElem?_eq_none h] at hu; cases hu
   rw [List.getElem?_eq_getElem hjl] at hu
   injection hu with hu
   rw [Go.WideShapes.add_plain, hj j hjl, hu]
  ·intro v' w' k1 k2 _
   exact hK v' w' (hend v' w' k1) k2
end Go.Proofs.YtidplkfhodpdhaaGreatDoor.tab
namespace Go.Proofs.YtidplkfhodpdhaaGreatDoor.tab
open Go.ChangeShapes Go.WideShapes Go.ChangeAt Go.RowKit kit dec val
open hyp (RowA TextsA CellsStay stay_of_below textsV textsV_length own_row OW)
set_option linter.unusedVariables false
set_option linter.unusedSimpArgs false
theorem rRows_any (N : Nat) (hN : N ≤ 1048576) (lang : Int) (w : World) (s s2 : Value) (l l2 : List V) (ha : LA w N s l) (ha2 : LA w N s2 l2) :
 Calls Tryz.prog 24 #[.int .i64 lang, s, s2] w fun e w' => e = .returned (.int .i64 (ordL (decide (lang = 1)) l l2)) ∧ Below w.heap.size w w' := by
 have hc := Lib.hid (rrows_call N (SizeOf.sizeOf l) hN lang (rord_all N hN lang _) w s s2 l l2 (Nat.le_refl _) ha ha2)
 clear ha ha2
 go_enter Tryz.func24, Tryz.ntmps24
 go_wp2_with fail
 refine hc.out.mono ?_
 rintro e w' ⟨rfl, hb⟩
 go_wp2
 go_ret
 exact ⟨rfl, hb⟩
theorem insPos_step {s : Bool} {l : List (List V)} {r : List V} {k : Nat} (hk : k < l.length) : insPos s l r (k + 1) = if 0 < ordL s l[k] r then insPos s l r k else k + 1 := by
 rw [insPos, getD_at l hk]
theorem sortR_take {s : Bool} {L : List (List V)} {k : Nat} (h : k < L.length) : sortR s (L.take (k + 1)) = insR s (sortR s (L.take k)) L[k] := by
 unfold sortR
 rw [List.take_succ_eq_append_getElem h, List.foldl_append]
 rfl
set_option maxRecDepth 100000 in
set_option maxHeartbeats 4000000 in
theorem rSort_any (N : Nat) (hN : N ≤ 1048576) (lang : Int) (w : World) (v : Value) (L : List (List V)) (hR : RowsA w N v L) (hl : L.length ≤ 1000000) :
 Calls Tryz.prog 71 #[.int .i64 lang, v] w fun e w' => ∃ v', e = .returned v' ∧ Below w.heap.size w w' ∧ RO w w' w.heap.size N v' (sortR (decide (lang = 1)) L) := by
 obtain ⟨ao, cap, rfl, hcap, hat⟩ := hR.form
 replace hat := Lib.hid hat
 have hLi : (L.length : Int) ≤ 1000000 := by omega
 clear hR
 go_enter Tryz.func71, Tryz.ntmps71
 go_wp2
 go_loopw [5, 6] (fun vo vi wr => ∃ k : Nat, k ≤ L.length ∧ vi = .int .i64 k ∧ Hid (Below w.heap.size w wr) ∧ Hid (RO w wr w.heap.size N vo (sortR (decide (lang = 1)) (L.take k)))) (fun _ vi _ => L.length - (intOf vi).toNat)
 case atStart => exact ⟨0, by omega, rfl, Lib.hid (Below.refl _ _), Lib.hid (by rw [List.take_zero]; exact RO.nil _ _ _ _)⟩
 case round =>
  obtain ⟨k, hk, rfl, hb, hO⟩ := hrel
  obtain ⟨w1, rfl⟩ : ∃ w1 : World, w1 = wr := ⟨_, rfl⟩
  by_cases hlt : k < L.length
  ·have hki : (k : Int) < (L.length : Int) := by omega
   obtain ⟨O, hOe⟩ : ∃ O, sortR (decide (lang = 1)) (L.take k) = O := ⟨_, rfl⟩
   rw [hOe] at hO
   have hOl : O.length = k := by rw [← hOe, sortR_len, List.length_take]; omega
   replace hOe := Lib.hid hOe
   obtain ⟨a1, c1, rfl⟩ := hO.out.form
   obtain ⟨b2, off2, ar, cr, rfl, hb2, hcell, hla⟩ := hat.out k hlt
   have hcw := (stay_of_below hb.out).cell hcell
   replace hOl := Lib.hid hOl
   have hOi : (O.length : Int) ≤ 1000000 := by have := hOl.out; omega
   have hOn : O.length ≤ 1000000 := by have := hOl.out; omega
   clear hcell
   replace hla := Lib.hid hla
   go_wp2
   generalize hvo : Value.slice a1 O.length c1 = vo at *
   replace hvo := Lib.hid hvo
   go_loopw [7] (fun vj wj => ∃ m : Nat, m ≤ O.length ∧ vj = .int .i64 m ∧ Hid (Below w1.heap.size w1 wj) ∧ Hid (insPos (decide (lang = 1)) O L[k] O.length = insPos (decide (lang = 1)) O L[k] m)) (fun vj _ => (intOf vj).toNat)
   case atStart => exact ⟨O.length, Nat.le_refl _, rfl, Lib.hid (Below.refl _ _), Lib.hid rfl⟩
   case round =>
    obtain ⟨m, hm, rfl, hbj, hpos⟩ := hrel
    obtain ⟨wj, rfl⟩ : ∃ wj : World, wj = wr := ⟨_, rfl⟩
    have hdr : Below wj.heap.size wj wj.drew := below_drewN (Below.refl _ _) 1
    by_cases hm0 : m = 0
    ·have hmi : ¬ (0 : Int) < (m : Int) := by omega
     replace hpos : Hid (insPos (decide (lang = 1)) O L[k] O.length = m) := Lib.hid (by rw [hpos.out, hm0]; rfl)
     go_upto_region 6 with fail
     refine wp_region_held_drew (S := fun V => Below wj.heap.size wj V) (by kernel_rfl) hdr (fun hS => ?_)
     refine tkH 0 ?_ rfl (fun w' hS => ?_) hS ?_
     rotate_left
     ·
      skip
      go_simp
      try with_reducible rfl
     refine tkH 1 ?_ rfl (fun w' hS => ?_) hS ?_
     rotate_left
     ·
      skip
      go_simp
      try with_reducible rfl
     refine tkH 2 ?_ rfl (fun w' hS => ?_) hS ?_
     rotate_left
     ·
      skip
      go_simp
      try with_reducible rfl
     refine wpAnyH_take (i := 3) (v := undef) rfl (by kernel_rfl) (by kernel_rfl) (by kernel_rfl) (fun _ _ _ h => h) (.inr ⟨by kernel_rfl, rfl⟩) hS ?_
     simp only [List.getElem_toArray, List.getElem_cons_succ, List.getElem_cons_zero, Act.put, List.setIfInBounds_toArray, List.set_cons_zero, List.set_cons_succ]
     refine wpAnyH_take (i := 4) (v := undef) rfl (by kernel_rfl) (by kernel_rfl) (by kernel_rfl) (fun _ _ _ h => h) (.inr ⟨by kernel_rfl, rfl⟩) hS ?_
     simp only [List.getElem_toArray, List.getElem_cons_succ, List.getElem_cons_zero, Act.put, List.setIfInBounds_toArray, List.set_cons_zero, List.set_cons_succ]
     refine wpAnyH_take (i := 5) (v := undef) rfl (by kernel_rfl) (by kernel_rfl) (by kernel_rfl) (fun _ _ _ h => h) (.inr ⟨by kernel_rfl, rfl⟩) hS ?_
     simp only [List.getElem_toArray, List.getElem_cons_succ, List.getElem_cons_zero, Act.put, List.setIfInBounds_toArray, List.set_cons_zero, List.set_cons_succ]
     refine wpAnyH_take (i := 6) (v := undef) rfl (by kernel_rfl) (by kernel_rfl) (by kernel_rfl) (fun _ _ _ h => h) (.inr ⟨by kernel_rfl, rfl⟩) hS ?_
     simp only [List.getElem_toArray, List.getElem_cons_succ, List.getElem_cons_zero, Act.put, List.setIfInBounds_toArray, List.set_cons_zero, List.set_cons_succ]
     refine wpAnyH_take (i := 7) (v := undef) rfl (by kernel_rfl) (by kernel_rfl) (by kernel_rfl) (fun _ _ _ h => h) (.inr ⟨by kernel_rfl, rfl⟩) hS ?_
     simp only [List.getElem_toArray, List.getElem_cons_succ, List.getElem_cons_zero, Act.put, List.setIfInBounds_toArray, List.set_cons_zero, List.set_cons_succ]
     refine wpAnyH_take (i := 8) (v := undef) rfl (by kernel_rfl) (by kernel_rfl) (by kernel_rfl) (fun _ _ _ h => h) (.inr ⟨by kernel_rfl, rfl⟩) hS ?_
     simp only [List.getElem_toArray, List.getElem_cons_succ, List.getElem_cons_zero, Act.put, List.setIfInBounds_toArray, List.set_cons_zero, List.set_cons_succ]
     refine wpAnyH_take (i := 9) (v := undef) rfl (by kernel_rfl) (by kernel_rfl) (by kernel_rfl) (fun _ _ _ h => h) (.inr ⟨by kernel_rfl, rfl⟩) hS ?_
     simp only [List.getElem_toArray, List.getElem_cons_succ, List.getElem_cons_zero, Act.put, List.setIfInBounds_toArray, List.set_cons_zero, List.set_cons_succ]
     refine wpAnyH_take (i := 10) (v := undef) rfl (by kernel_rfl) (by kernel_rfl) (by kernel_rfl) (fun _ _ _ h => h) (.inr ⟨by kernel_rfl, rfl⟩) hS ?_
     simp only [List.getElem_toArray, List.getElem_cons_succ, List.getElem_cons_zero, Act.put, List.setIfInBounds_toArray, List.set_cons_zero, List.set_cons_succ]
     refine wpAnyH_take (i := 11) (v := undef) rfl (by kernel_rfl) (by kernel_rfl) (by kernel_rfl) (fun _ _ _ h => h) (.inr ⟨by kernel_rfl, rfl⟩) hS ?_
     simp only [List.getElem_toArray, List.getElem_cons_succ, List.getElem_cons_zero, Act.put, List.setIfInBounds_toArray, List.set_cons_zero, List.set_cons_succ]
     refine wpAnyH_take (i := 12) (v := undef) rfl (by kernel_rfl) (by kernel_rfl) (by kernel_rfl) (fun _ _ _ h => h) (.inr ⟨by kernel_rfl, rfl⟩) hS ?_
     simp only [List.getElem_toArray, List.getElem_cons_succ, List.getElem_cons_zero, Act.put, List.setIfInBounds_toArray, List.set_cons_zero, List.set_cons_succ]
     refine wpAnyH_take (i := 13) (v := undef) rfl (by kernel_rfl) (by kernel_rfl) (by kernel_rfl) (fun _ _ _ h => h) (.inr ⟨by kernel_rfl, rfl⟩) hS ?_
     simp only [List.getElem_toArray, List.getElem_cons_succ, List.getElem_cons_zero, Act.put, List.setIfInBounds_toArray, List.set_cons_zero, List.set_cons_succ]
     refine wpAnyH_take (i := 14) (v := undef) rfl (by kernel_rfl) (by kernel_rfl) (by kernel_rfl) (fun _ _ _ h => h) (.inr ⟨by kernel_rfl, rfl⟩) hS ?_
     simp only [List.getElem_toArray, List.getElem_cons_succ, List.getElem_cons_zero, Act.put, List.setIfInBounds_toArray, List.set_cons_zero, List.set_cons_succ]
     refine tkH 15 ?_ rfl (fun w' hS => ?_) hS ?_
     rotate_left
     ·
      skip
      go_simp
      try with_reducible rfl
     refine wpAnyH_done (by kernel_rfl) ?_ _
     clear hS
     have hbj2 : Hid (Below w1.heap.size w1 wj.drew) := Lib.hid (hbj.out.trans (hdr.mono hbj.out.size))
     clear hdr hbj
     generalize wj.drew = wj at *
     have hbj := hbj2
     clear hbj2
     replace hm0 := Lib.hid hm0
     have hpl : m ≤ O.length := by omega
     obtain ⟨y1, y2, hy1, hy2, hP1, hP2⟩ := RO.parts (hO.out.keep (fun g hg => hbj.out.block g (hO.out.lt g hg).2)) hpl (by omega)
     have hwj : Below w.heap.size w wj := hb.out.trans (hbj.out.mono hb.out.size)
     have hins : Hid (sortR (decide (lang = 1)) (L.take (k + 1)) = O.take (m) ++ [L[k]] ++ O.drop (m)) := Lib.hid (by rw [sortR_take hlt, hOe.out]; unfold insR; rw [hpos.out]; simp)
     have hl1 : (O.take (m)).length = m := by rw [List.length_take]; omega
     have hl2 : (O.drop (m)).length = O.length - m := by rw [List.length_drop]
     have hcj := Lib.hid (fun V (h : Below wj.heap.size wj V) => (stay_of_below (hbj.out.trans (h.mono hbj.out.size))).cell hcw)
     replace hP1 := Lib.hid hP1
     replace hP2 := Lib.hid hP2
     replace hwj := Lib.hid hwj
     replace hl1 := Lib.hid hl1
     replace hl2 := Lib.hid hl2
     clear hcw hb hO hbj hpos
     go_wp2_with (at_builtin; refine wpList_appO rfl _ _ rfl w wj.heap.size N _ _ [] (O.take (m)) rfl rfl (RO.nil _ _ _ _) (Nat.le_refl _) hP1.out (by rw [hl1.out]; simp; omega) ?pa)
     case pa =>
      intro v3 w3 hR3 hg3
      try rw [List.nil_append] at hR3
      have hb3 : Below wj.heap.size wj w3 := (Below.refl _ _).grown hg3 (Nat.le_refl _) (fun k hk => by simp [Value.ownBlock] at hk)
      have hc3 := hcj.out w3 hb3
      have hal : Below w3.heap.size w3 (w3.alloc (.cells #[.slice ar L[k].length cr] 37)) := (Below.refl _ _).alloc (Nat.le_refl _) _
      have hq := Blk.new w3 #[.slice ar L[k].length cr] 37
      have hR4 := Lib.hid (hR3.keep (fun g hg => hal.block g (hR3.lt g hg).2))
      have hb4 := Lib.hid (hb3.trans (hal.mono hb3.size))
      have hone := Lib.hid (PO.one (N := N) (hq.cell 0 rfl) hla)
      clear hg3 hR3 hq hb3 hal
      go_wp2_with (at_builtin; refine wpList_appO rfl _ _ rfl w wj.heap.size N _ _ (O.take (m)) [L[k]] rfl rfl hR4.out hb4.out.size hone.out (by rw [hl1.out]; simp; omega) ?pb)
      case pb =>
       intro v5 w5 hR5 hg5
       have hb5 := Lib.hid (hb4.out.grown hg5 hb4.out.size (fun g hg => (hR4.out.lt g hg).1))
       have hP5 := Lib.hid (hP2.out.stay hb5.out)
       replace hR5 := Lib.hid hR5
       clear hg5 hone hc3 hR4 hb4
       go_wp2_with (at_builtin; refine wpList_appO rfl _ _ rfl w wj.heap.size N _ _ (O.take (m) ++ [L[k]]) (O.drop (m)) rfl rfl hR5.out hb5.out.size hP5.out (by rw [List.length_append, hl1.out, hl2.out]; simp; omega) ?pc)
       case pc =>
        intro v6 w6 hR6 hg6
        have hb6 := hb5.out.grown hg6 hb5.out.size (fun g hg => (hR5.out.lt g hg).1)
        have hfin := Lib.hid (hwj.out.trans (hb6.mono hwj.out.size))
        have hRf : Hid (RO w w6 w.heap.size N v6 (sortR (decide (lang = 1)) (L.take (k + 1)))) := Lib.hid (by rw [hins.out]; have h := hR6.low hwj.out.size; simpa using h)
        clear hR6 hg6 hb6 hR5 hb5 hP5 hcj hP1 hP2 hy1 hy2 hins
        go_wp2
        go_roundw
        case rel => exact ⟨k + 1, by omega, by go_num, hfin, hRf⟩
        case measure => simp [intOf]; omega
    ·obtain ⟨q, hq⟩ : ∃ q, m = q + 1 := ⟨m - 1, by omega⟩
     have hmi : (0 : Int) < (m : Int) := by omega
     have hmn : 0 < m := by omega
     have hmq : IntKind.i64.wrap ((m : Int) - 1) = (q : Int) := by rw [IntWalk.i64_in _ (by omega)]; omega
     have hql : q < O.length := by omega
     have hqi : (q : Int) < (O.length : Int) := by omega
     have hOj := hO.out.keep (fun g hg => hbj.out.block g (hO.out.lt g hg).2)
     obtain ⟨a9, c9, e9, -, hat9⟩ := (hOj.read (hb.out.trans (hbj.out.mono hb.out.size))).form
     obtain ⟨b3, off3, aq, cq, e3, hb3, hcell3, hla3⟩ := hat9 q hql
     subst e3
     have hvo2 := hvo.out.trans e9
     injection hvo2 with i1 i2 i3
     subst i1 i3
     have hvo3 := hvo.out
     subst hvo3
     clear hvo e9 i2 hat9
     have hcj2 := (stay_of_below hbj.out).cell hcw
     have hst := insPos_step (s := decide (lang = 1)) (r := L[k]) hql
     rw [← hq] at hst
     have hcl := Lib.hid (fun V (h : Below wj.heap.size wj V) => rRows_any N hN lang V _ _ _ _ (hla3.stay h) ((hla.out.stay (hb.out.trans (hbj.out.mono hb.out.size))).stay h))
     obtain ⟨c, hc⟩ : ∃ c, ordL (decide (lang = 1)) O[q] L[k] = c := ⟨_, rfl⟩
     rw [hc] at hst
     rw [hc] at hcl
     replace hst := Lib.hid hst
     replace hc := Lib.hid hc
     replace hq := Lib.hid hq
     replace hO := Lib.hid hO
     clear hla3 hOj
     go_upto_region 6 with fail
     refine wp_region_held_drew (S := fun V => Below wj.heap.size wj V) (by kernel_rfl) hdr (fun hS => ?_)
     have hV := hS
     generalize wj.drew = V0 at *
     refine tkH 0 ?_ rfl (fun w' hS => ?_) hS ?_
     rotate_left
     ·
      skip
      go_simp
      try with_reducible rfl
     refine tkH 1 ?_ rfl (fun w' hS => ?_) hS ?_
     rotate_left
     ·
      skip
      go_simp
      try with_reducible rfl
     refine tkH 2 ?_ rfl (fun w' hS => ?_) hS ?_
     rotate_left
     ·
      skip
      go_simp
      try with_reducible rfl
     refine tkH 3 ?_ rfl (fun w' hS => ?_) hS ?_
     rotate_left
     ·
      skip
      go_simp
      try with_reducible rfl
     refine tkH 4 ?_ rfl (fun w' hS => ?_) hS ?_
     rotate_left
     ·
      skip
      go_simp
      try with_reducible rfl
     refine tkH 5 ?_ rfl (fun w' hS => ?_) hS ?_
     rotate_left
     ·
      skip
      go_simp
      try with_reducible rfl
     refine tkH 6 ?_ rfl (fun w' hS => ?_) hS ?_
     rotate_left
     ·
      skip
      go_simp
      try with_reducible rfl
     refine tkH 7 ?_ rfl (fun w' hS => ?_) hS ?_
     rotate_left
     ·
      skip
      go_simp
      try with_reducible rfl
     refine tkH 8 ?_ rfl (fun w' hS => ?_) hS ?_
     rotate_left
     ·
      have x0 := (stay_of_below hS).cell hcell3
      go_simp
      try with_reducible rfl
     refine tkH 9 ?_ rfl (fun w' hS => ?_) hS ?_
     rotate_left
     ·
      skip
      go_simp
      try with_reducible rfl
     refine tkH 10 ?_ rfl (fun w' hS => ?_) hS ?_
     rotate_left
     ·
      skip
      go_simp
      try with_reducible rfl
     refine tkH 11 ?_ rfl (fun w' hS => ?_) hS ?_
     rotate_left
     ·
      skip
      go_simp
      try with_reducible rfl
     refine tkH 12 ?_ rfl (fun w' hS => ?_) hS ?_
     rotate_left
     ·
      have x0 := (stay_of_below hS).cell hcj2
      go_simp
      try with_reducible rfl
     refine rdH 13 rfl (fun K hK => ?_)
     clear hS
     go_simp
     refine (hcl.out _ hV).mono ?_
     rintro e wk ⟨rfl, hbk⟩
     go_wp2_with fail
     refine hK.out _ _ (hV.trans (hbk.mono hV.size)) (fun hS => ?_)
     clear hK K
     try simp only [List.getElem_toArray, List.getElem_cons_succ, List.getElem_cons_zero, Act.put, List.setIfInBounds_toArray, List.set_cons_zero, List.set_cons_succ]
     have hbk2 : Hid (Below w1.heap.size w1 wk) := Lib.hid (hbj.out.trans ((hV.trans (hbk.mono hV.size)).mono hbj.out.size))
     refine tkH 14 ?_ rfl (fun w' hS => ?_) hS ?_
     rotate_left
     ·
      skip
      go_simp
      try with_reducible rfl
     refine tkH 15 ?_ rfl (fun w' hS => ?_) hS ?_
     rotate_left
     ·
      skip
      go_simp
      try with_reducible rfl
     refine wpAnyH_done (by kernel_rfl) ?_ _
     clear hS hbk hV hdr hcl hcell3 hcj2 hbj
     by_cases hgt : 0 < c
     ·have hst2 := Lib.hid (hpos.out.trans (hst.out.trans (if_pos hgt)))
      clear hst hpos
      go_wp2
      go_roundw
      case rel => exact ⟨q, by omega, rfl, hbk2, hst2⟩
      case measure => have := hq.out; simp [intOf]; omega
     ·have hst2 : Hid (insPos (decide (lang = 1)) O L[k] O.length = m) := Lib.hid (hpos.out.trans (hst.out.trans (if_neg hgt)))
      clear hst hpos hmq hqi
      replace hO := hO.out
      generalize hvo : Value.slice (some ⟨b3, off3, none⟩) O.length c1 = vo at *
      replace hvo := Lib.hid hvo
      clear hc hq
      obtain ⟨wj, rfl⟩ : ∃ z : World, z = wk := ⟨_, rfl⟩
      have hpos := hst2
      have hbj := hbk2
      clear hst2 hbk2
      have hpl : m ≤ O.length := by omega
      obtain ⟨y1, y2, hy1, hy2, hP1, hP2⟩ := RO.parts (hO.out.keep (fun g hg => hbj.out.block g (hO.out.lt g hg).2)) hpl (by omega)
      have hwj : Below w.heap.size w wj := hb.out.trans (hbj.out.mono hb.out.size)
      have hins : Hid (sortR (decide (lang = 1)) (L.take (k + 1)) = O.take (m) ++ [L[k]] ++ O.drop (m)) := Lib.hid (by rw [sortR_take hlt, hOe.out]; unfold insR; rw [hpos.out]; simp)
      have hl1 : (O.take (m)).length = m := by rw [List.length_take]; omega
      have hl2 : (O.drop (m)).length = O.length - m := by rw [List.length_drop]
      have hcj := Lib.hid (fun V (h : Below wj.heap.size wj V) => (stay_of_below (hbj.out.trans (h.mono hbj.out.size))).cell hcw)
      replace hP1 := Lib.hid hP1
      replace hP2 := Lib.hid hP2
      replace hwj := Lib.hid hwj
      replace hl1 := Lib.hid hl1
      replace hl2 := Lib.hid hl2
      clear hcw hb hO hbj hpos
      go_wp2_with (at_builtin; refine wpList_appO rfl _ _ rfl w wj.heap.size N _ _ [] (O.take (m)) rfl rfl (RO.nil _ _ _ _) (Nat.le_refl _) hP1.out (by rw [hl1.out]; simp; omega) ?ra)
      case ra =>
       intro v3 w3 hR3 hg3
       try rw [List.nil_append] at hR3
       have hb3 : Below wj.heap.size wj w3 := (Below.refl _ _).grown hg3 (Nat.le_refl _) (fun k hk => by simp [Value.ownBlock] at hk)
       have hc3 := hcj.out w3 hb3
       have hal : Below w3.heap.size w3 (w3.alloc (.cells #[.slice ar L[k].length cr] 37)) := (Below.refl _ _).alloc (Nat.le_refl _) _
       have hq := Blk.new w3 #[.slice ar L[k].length cr] 37
       have hR4 := Lib.hid (hR3.keep (fun g hg => hal.block g (hR3.lt g hg).2))
       have hb4 := Lib.hid (hb3.trans (hal.mono hb3.size))
       have hone := Lib.hid (PO.one (N := N) (hq.cell 0 rfl) hla)
       clear hg3 hR3 hq hb3 hal
       go_wp2_with (at_builtin; refine wpList_appO rfl _ _ rfl w wj.heap.size N _ _ (O.take (m)) [L[k]] rfl rfl hR4.out hb4.out.size hone.out (by rw [hl1.out]; simp; omega) ?rb)
       case rb =>
        intro v5 w5 hR5 hg5
        have hb5 := Lib.hid (hb4.out.grown hg5 hb4.out.size (fun g hg => (hR4.out.lt g hg).1))
        have hP5 := Lib.hid (hP2.out.stay hb5.out)
        replace hR5 := Lib.hid hR5
        clear hg5 hone hc3 hR4 hb4
        go_wp2_with (at_builtin; refine wpList_appO rfl _ _ rfl w wj.heap.size N _ _ (O.take (m) ++ [L[k]]) (O.drop (m)) rfl rfl hR5.out hb5.out.size hP5.out (by rw [List.length_append, hl1.out, hl2.out]; simp; omega) ?rc)
        case rc =>
         intro v6 w6 hR6 hg6
         have hb6 := hb5.out.grown hg6 hb5.out.size (fun g hg => (hR5.out.lt g hg).1)
         have hfin := Lib.hid (hwj.out.trans (hb6.mono hwj.out.size))
         have hRf : Hid (RO w w6 w.heap.size N v6 (sortR (decide (lang = 1)) (L.take (k + 1)))) := Lib.hid (by rw [hins.out]; have h := hR6.low hwj.out.size; simpa using h)
         clear hR6 hg6 hb6 hR5 hb5 hP5 hcj hP1 hP2 hy1 hy2 hins
         go_wp2
         go_roundw
         case rel => exact ⟨k + 1, by omega, by go_num, hfin, hRf⟩
         case measure => simp [intOf]; omega
  ·have hki : ¬ (k : Int) < (L.length : Int) := by omega
   obtain rfl : k = L.length := by omega
   rw [List.take_length] at hO
   go_wp2
   go_ret
   exact ⟨_, rfl, hb.out, hO.out⟩
end Go.Proofs.YtidplkfhodpdhaaGreatDoor.tab
namespace Go.Proofs.YtidplkfhodpdhaaGreatDoor.tab
open Go.ChangeShapes Go.WideShapes Go.ChangeAt Go.RowKit kit dec val
open hyp (RowA TextsA CellsStay stay_of_below textsV textsV_length own_row OW)
set_option linter.unusedVariables false
set_option linter.unusedSimpArgs false
theorem textsA_at {w : World} {B : Nat} {u : Value} {l : List ByteArray} (h : TextsA w B u l) : ∃ ao cap, u = .slice ao l.length cap ∧ ∀ j (hj : j < l.length), ∃ b off, ao = some ⟨b, off, none⟩ ∧ w.cell? ⟨b, off + j, none⟩ = some (.string l[j]) := by
 obtain ⟨ao, cap, rfl, hat⟩ := h.form
 exact ⟨ao, cap, rfl, fun j hj => by obtain ⟨b, off, e, -, h⟩ := hat j hj; exact ⟨b, off, e, h⟩⟩
set_option maxRecDepth 100000 in
set_option maxHeartbeats 4000000 in
theorem eqTexts_any (w : World) (u v : Value) (l m : List ByteArray) (h1 : TextsA w w.heap.size u l) (h2 : TextsA w w.heap.size v m) (hl : l.length ≤ 1048576) (hm : m.length ≤ 1048576) :
 Calls Tryz.prog 59 #[u, v] w fun e w' => e = .returned (.bool (decide (l = m))) ∧ Below w.heap.size w w' := by
 obtain ⟨a, c, rfl, hc⟩ := textsA_at h1
 obtain ⟨a2, c2, rfl, hc2⟩ := textsA_at h2
 replace hc := Lib.hid hc
 replace hc2 := Lib.hid hc2
 clear h1 h2
 by_cases hlen : l.length = m.length
 case neg =>
  have hlb : ((l.length : Int) != (m.length : Int)) = true := bne_iff_ne.2 (by omega)
  rw [decide_eq_false (fun e => hlen (by rw [e]))]
  go_enter Tryz.func59, Tryz.ntmps59
  go_wp2
  go_ret
  exact ⟨rfl, Below.refl _ _⟩
 obtain ⟨n, hn⟩ : ∃ n, l.length = n := ⟨_, rfl⟩
 have hn2 : m.length = n := by omega
 rw [hn2, hn]
 replace hn := Lib.hid hn
 replace hn2 := Lib.hid hn2
 have hni : (n : Int) ≤ 1048576 := by have := hn.out; omega
 clear hlen
 go_enter Tryz.func59, Tryz.ntmps59
 go_wp2
 go_loopw [5] (fun i wr => ∃ k : Nat, k ≤ n ∧ i = .int .i64 (k : Int) ∧ Hid (Below w.heap.size w wr) ∧ Hid (l.take k = m.take k)) (fun i _ => n - (intOf i).toNat)
 case atStart => exact ⟨0, by omega, rfl, Lib.hid (Below.refl _ _), Lib.hid (by simp)⟩
 case round =>
  obtain ⟨k, hk, rfl, hb, hp⟩ := hrel
  by_cases hlt : k < n
  ·have hki : (k : Int) < (n : Int) := by omega
   have hk1 : k < l.length := by have := hn.out; omega
   have hk2 : k < m.length := by have := hn2.out; omega
   obtain ⟨b, off, rfl, x0⟩ := hc.out k hk1
   obtain ⟨b2, off2, rfl, x1⟩ := hc2.out k hk2
   have hbd : Hid (Below w.heap.size w wr.drew) := Lib.hid (hb.out.trans ⟨rfl, rfl, rfl, Nat.le_refl _, fun _ _ => rfl⟩)
   have hst : l.take (k + 1) = m.take (k + 1) ↔ l[k] = m[k] := by
    rw [List.take_succ_eq_append_getElem hk1, List.take_succ_eq_append_getElem hk2, hp.out]
    exact ⟨fun h => by simpa using List.append_cancel_left h, fun h => by rw [h]⟩
   have hno : ¬ l[k] = m[k] → ¬ l = m := fun h e => h (by subst e; rfl)
   generalize l[k] = t1 at *
   generalize m[k] = t2 at *
   replace hst := Lib.hid hst
   replace hno := Lib.hid hno
   obtain ⟨q, hq⟩ : ∃ q, (t1.toList == t2.toList) = q := ⟨_, rfl⟩
   have hqe : Hid (q = true ↔ t1 = t2) := Lib.hid (by
    rw [← hq, beq_iff_eq]
    exact ⟨fun h => (cmpT_zero t1 t2).1 ((cmpL_zero _ _).2 h), fun h => by rw [h]⟩)
   clear hb
   go_wp2_with fail
   refine wp_region_held_drew (S := fun V => Below w.heap.size w V) (by kernel_rfl) hbd.out (fun hS => ?_)
   generalize wr.drew = V0 at *
   refine tkH 0 ?_ rfl (fun w' hS => ?_) hS ?_
   rotate_left
   ·
    have q0 := (stay_of_below hS).cell x0; have q1 := (stay_of_below hS).cell x1
    go_simp
    try with_reducible rfl
   refine tkH 1 ?_ rfl (fun w' hS => ?_) hS ?_
   rotate_left
   ·
    have q0 := (stay_of_below hS).cell x0; have q1 := (stay_of_below hS).cell x1
    go_simp
    try with_reducible rfl
   refine tkH 2 ?_ rfl (fun w' hS => ?_) hS ?_
   rotate_left
   ·
    have q0 := (stay_of_below hS).cell x0; have q1 := (stay_of_below hS).cell x1
    go_simp
    try with_reducible rfl
   refine tkH 3 ?_ rfl (fun w' hS => ?_) hS ?_
   rotate_left
   ·
    have q0 := (stay_of_below hS).cell x0; have q1 := (stay_of_below hS).cell x1
    go_simp
    try with_reducible rfl
   refine tkH 4 ?_ rfl (fun w' hS => ?_) hS ?_
   rotate_left
   ·
    have q0 := (stay_of_below hS).cell x0; have q1 := (stay_of_below hS).cell x1
    go_simp
    try with_reducible rfl
   refine tkH 5 ?_ rfl (fun w' hS => ?_) hS ?_
   rotate_left
   ·
    have q0 := (stay_of_below hS).cell x0; have q1 := (stay_of_below hS).cell x1
    go_simp
    try with_reducible rfl
   refine tkH 6 ?_ rfl (fun w' hS => ?_) hS ?_
   rotate_left
   ·
    have q0 := (stay_of_below hS).cell x0; have q1 := (stay_of_below hS).cell x1
    go_simp
    try with_reducible rfl
   refine tkH 7 ?_ rfl (fun w' hS => ?_) hS ?_
   rotate_left
   ·
    have q0 := (stay_of_below hS).cell x0; have q1 := (stay_of_below hS).cell x1
    go_simp
    try with_reducible rfl
   refine tkH 8 ?_ rfl (fun w' hS => ?_) hS ?_
   rotate_left
   ·
    have q0 := (stay_of_below hS).cell x0; have q1 := (stay_of_below hS).cell x1
    go_simp
    try with_reducible rfl
   refine wpAnyH_done (by kernel_rfl) ?_ _
   clear hS x0 x1
   replace hq := Lib.hid hq
   cases q
   ·have hf : Hid (false = decide (l = m)) := Lib.hid (decide_eq_false (hno.out (fun e => by have := hqe.out.2 e; cases this))).symm
    clear hst hno hp hqe
    go_wp2
    go_ret
    exact ⟨ret_bool hf.out, hbd.out⟩
   ·have hfin := Lib.hid (hst.out.2 (hqe.out.1 rfl))
    clear hst hno hp hqe
    go_wp2
    go_roundw
    case rel => exact ⟨k + 1, by omega, by go_num, hbd, hfin⟩
    case measure => simp [intOf]; omega
  ·have hki : ¬ (k : Int) < (n : Int) := by omega
   obtain rfl : k = n := by omega
   have he : l = m := by
    have := hp.out
    rwa [List.take_of_length_le (by have := hn.out; omega), List.take_of_length_le (by have := hn2.out; omega)] at this
   have hf : Hid (true = decide (l = m)) := Lib.hid (decide_eq_true he).symm
   clear hp he
   go_wp2
   go_ret
   exact ⟨ret_bool hf.out, hb.out⟩
set_option maxRecDepth 100000 in
set_option maxHeartbeats 4000000 in
theorem eqRows_any (N : Nat) (hN : N ≤ 9223372036854775807) (w : World) (u v : Value) (rs ss : List (List V)) (h1 : RowsA w N u rs) (h2 : RowsA w N v ss) (hlen : rs.length = ss.length) (hl : rs.length ≤ 1048576) :
 Calls Tryz.prog 60 #[u, v] w fun e w' => e = .returned (.bool (eqRowsB rs ss)) ∧ Below w.heap.size w w' := by
 obtain ⟨a, c, rfl, -, hc⟩ := h1.form
 obtain ⟨a2, c2, rfl, -, hc2⟩ := h2.form
 obtain ⟨n, hn⟩ : ∃ n, rs.length = n := ⟨_, rfl⟩
 have hn2 : ss.length = n := by omega
 rw [hn2, hn]
 replace hn := Lib.hid hn
 replace hn2 := Lib.hid hn2
 replace hc := Lib.hid hc
 replace hc2 := Lib.hid hc2
 have hni : (n : Int) ≤ 1048576 := by have := hn.out; omega
 clear h1 h2 hlen
 go_enter Tryz.func60, Tryz.ntmps60
 go_wp2
 go_loopw [5] (fun i wr => ∃ k : Nat, k ≤ n ∧ i = .int .i64 (k : Int) ∧ Hid (Below w.heap.size w wr) ∧ Hid (rs.take k = ss.take k)) (fun i _ => n - (intOf i).toNat)
 case atStart => exact ⟨0, by omega, rfl, Lib.hid (Below.refl _ _), Lib.hid (by simp)⟩
 case round =>
  obtain ⟨k, hk, rfl, hb, hp⟩ := hrel
  by_cases hlt : k < n
  ·have hki : (k : Int) < (n : Int) := by omega
   have hk1 : k < rs.length := by have := hn.out; omega
   have hk2 : k < ss.length := by have := hn2.out; omega
   obtain ⟨b, off, e1, f1, rfl, -, x0, la1⟩ := hc.out k hk1
   obtain ⟨b2, off2, e2, f2, rfl, -, x1, la2⟩ := hc2.out k hk2
   have hbd : Below w.heap.size w wr.drew := hb.out.trans ⟨rfl, rfl, rfl, Nat.le_refl _, fun _ _ => rfl⟩
   have hst : rs.take (k + 1) = ss.take (k + 1) ↔ rs[k] = ss[k] := by
    rw [List.take_succ_eq_append_getElem hk1, List.take_succ_eq_append_getElem hk2, hp.out]
    exact ⟨fun h => by simpa using List.append_cancel_left h, fun h => by rw [h]⟩
   have hno : ¬ rs[k] = ss[k] → ¬ rs = ss := fun h e => h (by subst e; rfl)
   have hcal := Lib.hid (eqRow_call N (SizeOf.sizeOf rs[k]) hN (rsame_all N hN _) wr.drew _ _ rs[k] ss[k] (Nat.le_refl _) (la1.stay hbd) (la2.stay hbd))
   generalize rs[k] = t1 at *
   generalize ss[k] = t2 at *
   obtain ⟨q, hq⟩ : ∃ q, sameL t1 t2 = q := ⟨_, rfl⟩
   rw [hq] at hcal
   replace hq := Lib.hid hq
   replace hst := Lib.hid hst
   replace hno := Lib.hid hno
   clear la1 la2
   go_wp2_with fail
   refine wp_region_held_drew (S := fun V => Below w.heap.size w V) (by kernel_rfl) hbd (fun hS => ?_)
   generalize wr.drew = V0 at *
   refine tkH 0 ?_ rfl (fun w' hS => ?_) hS ?_
   rotate_left
   ·
    have q0 := (stay_of_below hS).cell x0; have q1 := (stay_of_below hS).cell x1
    go_simp
    try with_reducible rfl
   refine tkH 1 ?_ rfl (fun w' hS => ?_) hS ?_
   rotate_left
   ·
    have q0 := (stay_of_below hS).cell x0; have q1 := (stay_of_below hS).cell x1
    go_simp
    try with_reducible rfl
   refine tkH 2 ?_ rfl (fun w' hS => ?_) hS ?_
   rotate_left
   ·
    have q0 := (stay_of_below hS).cell x0; have q1 := (stay_of_below hS).cell x1
    go_simp
    try with_reducible rfl
   refine tkH 3 ?_ rfl (fun w' hS => ?_) hS ?_
   rotate_left
   ·
    have q0 := (stay_of_below hS).cell x0; have q1 := (stay_of_below hS).cell x1
    go_simp
    try with_reducible rfl
   refine tkH 4 ?_ rfl (fun w' hS => ?_) hS ?_
   rotate_left
   ·
    have q0 := (stay_of_below hS).cell x0; have q1 := (stay_of_below hS).cell x1
    go_simp
    try with_reducible rfl
   refine tkH 5 ?_ rfl (fun w' hS => ?_) hS ?_
   rotate_left
   ·
    have q0 := (stay_of_below hS).cell x0; have q1 := (stay_of_below hS).cell x1
    go_simp
    try with_reducible rfl
   refine tkH 6 ?_ rfl (fun w' hS => ?_) hS ?_
   rotate_left
   ·
    have q0 := (stay_of_below hS).cell x0; have q1 := (stay_of_below hS).cell x1
    go_simp
    try with_reducible rfl
   refine tkH 7 ?_ rfl (fun w' hS => ?_) hS ?_
   rotate_left
   ·
    have q0 := (stay_of_below hS).cell x0; have q1 := (stay_of_below hS).cell x1
    go_simp
    try with_reducible rfl
   refine rdH 8 rfl (fun K hK => ?_)
   clear hS
   go_simp
   refine (hcal.out).mono ?_
   rintro e w5 ⟨rfl, hb5⟩
   go_wp2_with fail
   refine hK.out _ _ (hbd.trans (hb5.mono hbd.size)) (fun hS => ?_)
   clear hK K
   try simp only [List.getElem_toArray, List.getElem_cons_succ, List.getElem_cons_zero, Act.put, List.setIfInBounds_toArray, List.set_cons_zero, List.set_cons_succ]
   have hbe := Lib.hid (hbd.trans (hb5.mono hbd.size))
   refine tkH 9 ?_ rfl (fun w' hS => ?_) hS ?_
   rotate_left
   ·
    skip
    go_simp
    try with_reducible rfl
   refine wpAnyH_done (by kernel_rfl) ?_ _
   clear hS hbd hb5 hcal
   cases q
   ·have hf := hno.out (fun e => by have := hq.out; rw [e, (sameL_iff _ _).2 rfl] at this; cases this)
    have hf2 : Hid (false = eqRowsB rs ss) := Lib.hid (Bool.eq_false_iff.2 (fun h => hf ((eqRowsB_iff rs ss).1 h))).symm
    clear hst hno hf hp
    go_wp2
    go_ret
    exact ⟨ret_bool hf2.out, hbe.out⟩
   ·have hfin := Lib.hid (hst.out.2 ((sameL_iff _ _).1 hq.out))
    clear hst hno hp
    go_wp2
    go_roundw
    case rel => exact ⟨k + 1, by omega, by go_num, hbe, hfin⟩
    case measure => simp [intOf]; omega
  ·have hki : ¬ (k : Int) < (n : Int) := by omega
   obtain rfl : k = n := by omega
   have he : rs = ss := by
    have := hp.out
    rwa [List.take_of_length_le (by have := hn.out; omega), List.take_of_length_le (by have := hn2.out; omega)] at this
   have hf2 : Hid (true = eqRowsB rs ss) := Lib.hid ((eqRowsB_iff rs ss).2 he).symm
   clear hp he
   go_wp2
   go_ret
   exact ⟨ret_bool hf2.out, hb.out⟩
def refSameT (A B : Tab) : Bool := mayT A && mayT B && decide (A.vars = B.vars) && decide (A.rows.length = B.rows.length) && eqRowsB (sortR false A.rows) (sortR false B.rows)
set_option maxRecDepth 100000 in
set_option maxHeartbeats 4000000 in
theorem refSame_any (N : Nat) (hN : N ≤ 1048576) (w : World) (va vb : Value) (A B : Tab) (hA : TabA w N va A) (hB : TabA w N vb B) (a1 : A.vars.length ≤ 1048576) (a2 : A.rows.length ≤ 100000) (b1 : B.vars.length ≤ 1048576) (b2 : B.rows.length ≤ 100000) :
 Calls Tryz.prog 27 #[va, vb] w fun e w' => e = .returned (.bool (refSameT A B)) ∧ Below w.heap.size w w' := by
 obtain ⟨nv, rv, rfl, hV, hR⟩ := hA.ex
 obtain ⟨nv2, rv2, rfl, hV2, hR2⟩ := hB.ex
 obtain ⟨an, cn, rfl, -⟩ := hV.form
 obtain ⟨ar, cr, rfl, -, -⟩ := hR.form
 obtain ⟨an2, cn2, rfl, -⟩ := hV2.form
 obtain ⟨ar2, cr2, rfl, -, -⟩ := hR2.form
 obtain ⟨w1, hw1⟩ : ∃ w1, ((w.alloc (.cells #[.slice an A.vars.length cn, .slice ar A.rows.length cr] 25)).alloc (.cells #[.slice an2 B.vars.length cn2, .slice ar2 B.rows.length cr2] 25)) = w1 := ⟨_, rfl⟩
 have hal : Below w.heap.size w w1 := by rw [← hw1]; exact ((Below.refl _ _).alloc (Nat.le_refl _) _).alloc (by simp) _
 have hq0 : Blk w1 w.heap.size #[.slice an A.vars.length cn, .slice ar A.rows.length cr] 25 := by rw [← hw1]; exact (Blk.new w _ _).alloc _
 have hq1 : Blk w1 (w.heap.size + 1) #[.slice an2 B.vars.length cn2, .slice ar2 B.rows.length cr2] 25 := by
  have h := Blk.new (w.alloc (.cells #[.slice an A.vars.length cn, .slice ar A.rows.length cr] 25)) #[.slice an2 B.vars.length cn2, .slice ar2 B.rows.length cr2] 25
  rw [World.size_alloc] at h
  rw [← hw1]
  exact h
 have cA := Lib.hid (fun V (h : Below w.heap.size w V) => refMay_any N hN V _ A (hA.stay h) (by omega) (by omega))
 have cB := Lib.hid (fun V (h : Below w.heap.size w V) => refMay_any N hN V _ B (hB.stay h) (by omega) (by omega))
 have cT := Lib.hid (fun V (h : Below w.heap.size w V) => eqTexts_any V _ _ A.vars B.vars (TextsA.below hV h) (TextsA.below hV2 h) a1 b1)
 have cS := Lib.hid (fun V (h : Below w.heap.size w V) => rSort_any N hN 0 V _ A.rows (hR.stay h) (by omega))
 have cS2 := Lib.hid (fun V (h : Below w.heap.size w V) => rSort_any N hN 0 V _ B.rows (hR2.stay h) (by omega))
 have hres : refSameT A B = (mayT A && (mayT B && (decide (A.vars = B.vars) && (decide (A.rows.length = B.rows.length) && eqRowsB (sortR false A.rows) (sortR false B.rows))))) := by unfold refSameT; simp only [Bool.and_assoc]
 rw [hres]
 obtain ⟨mA, hmA⟩ : ∃ m, mayT A = m := ⟨_, rfl⟩
 obtain ⟨mB, hmB⟩ : ∃ m, mayT B = m := ⟨_, rfl⟩
 obtain ⟨q, hq⟩ : ∃ q, decide (A.vars = B.vars) = q := ⟨_, rfl⟩
 rw [hmA] at cA ⊢
 rw [hmB] at cB ⊢
 rw [hq] at cT ⊢
 have x0 := hq0.cell 0 rfl
 have x1 := hq0.cell 1 rfl
 have x2 := hq1.cell 0 rfl
 have x3 := hq1.cell 1 rfl
 have hlA : (A.rows.length : Int) ≤ 100000 := by omega
 have hlB : (B.rows.length : Int) ≤ 100000 := by omega
 replace hal := Lib.hid hal
 obtain ⟨RES, hRES⟩ : ∃ r, (mA && (mB && (q && (decide (A.rows.length = B.rows.length) && eqRowsB (sortR false A.rows) (sortR false B.rows))))) = r := ⟨_, rfl⟩
 rw [hRES]
 replace hRES := Lib.hid hRES
 replace hq := Lib.hid hq
 replace hmA := Lib.hid hmA
 replace hmB := Lib.hid hmB
 clear hres hA hB hV hV2 hR hR2 hq0 hq1
 go_enter Tryz.func27, Tryz.ntmps27
 go_wp2_with fail
 try rw [hw1]
 replace hw1 := Lib.hid hw1
 refine (cA.out w1 hal.out).mono ?_
 rintro e w2 ⟨rfl, hb2⟩
 replace x0 := (stay_of_below hb2).cell x0
 replace x1 := (stay_of_below hb2).cell x1
 replace x2 := (stay_of_below hb2).cell x2
 replace x3 := (stay_of_below hb2).cell x3
 have hB2 := Lib.hid (hal.out.trans (hb2.mono hal.out.size))
 clear cA hb2 hal hw1
 cases mA with
 | false =>
  have hf : Hid (false = RES) := Lib.hid (by have h := hRES.out; simpa using h)
  go_wp2
  go_ret
  exact ⟨ret_bool hf.out, hB2.out⟩
 | true =>
  have cB2 := Lib.hid (cB.out w2 hB2.out)
  clear cB
  go_wp2_with fail
  refine cB2.out.mono ?_
  rintro e w3 ⟨rfl, hb3⟩
  replace x0 := (stay_of_below hb3).cell x0
  replace x1 := (stay_of_below hb3).cell x1
  replace x2 := (stay_of_below hb3).cell x2
  replace x3 := (stay_of_below hb3).cell x3
  have hB3 := Lib.hid (hB2.out.trans (hb3.mono hB2.out.size))
  clear cB2 hb3 hB2
  cases mB with
  | false =>
   have hf : Hid (false = RES) := Lib.hid (by have h := hRES.out; simpa using h)
   go_wp2
   go_ret
   exact ⟨ret_bool hf.out, hB3.out⟩
  | true =>
   have cT2 := Lib.hid (cT.out w3 hB3.out)
   clear cT
   go_wp2_with fail
   refine cT2.out.mono ?_
   rintro e w4 ⟨rfl, hb4⟩
   replace x0 := (stay_of_below hb4).cell x0
   replace x1 := (stay_of_below hb4).cell x1
   replace x2 := (stay_of_below hb4).cell x2
   replace x3 := (stay_of_below hb4).cell x3
   have hB4 := Lib.hid (hB3.out.trans (hb4.mono hB3.out.size))
   clear cT2 hb4 hB3
   cases q with
   | false =>
    have hf : Hid (false = RES) := Lib.hid (by have h := hRES.out; simpa using h)
    go_wp2
    go_ret
    exact ⟨ret_bool hf.out, hB4.out⟩
   | true =>
    by_cases hln : A.rows.length = B.rows.length
    case neg =>
     have hlb : ((A.rows.length : Int) != (B.rows.length : Int)) = true := bne_iff_ne.2 (by omega)
     have hf : Hid (false = RES) := Lib.hid (by have h := hRES.out; simpa [hln] using h)
     clear hln
     go_wp2
     go_ret
     exact ⟨ret_bool hf.out, hB4.out⟩
    have hlb : ((A.rows.length : Int) != (B.rows.length : Int)) = false := by rw [hln]; simp
    have hRR : Hid (eqRowsB (sortR false A.rows) (sortR false B.rows) = RES) := Lib.hid (by have h := hRES.out; simpa [hln] using h)
    replace hln := Lib.hid hln
    go_upto_region 3 with fail
    have hdr : Below w4.heap.size w4 w4.drew := below_drewN (Below.refl _ _) 1
    refine wp_region_held_drew (S := fun V => Below w4.heap.size w4 V) (by kernel_rfl) hdr (fun hS => ?_)
    have hV0 := hS
    generalize w4.drew = V0 at *
    refine tkH 0 ?_ rfl (fun w' hS => ?_) hS ?_
    rotate_left
    ·
     have y1 := (stay_of_below hS).cell x1; have y3 := (stay_of_below hS).cell x3
     go_simp
     try with_reducible rfl
    refine tkH 1 ?_ rfl (fun w' hS => ?_) hS ?_
    rotate_left
    ·
     have y1 := (stay_of_below hS).cell x1; have y3 := (stay_of_below hS).cell x3
     go_simp
     try with_reducible rfl
    refine tkH 3 ?_ rfl (fun w' hS => ?_) hS ?_
    rotate_left
    ·
     have y1 := (stay_of_below hS).cell x1; have y3 := (stay_of_below hS).cell x3
     go_simp
     try with_reducible rfl
    refine tkH 4 ?_ rfl (fun w' hS => ?_) hS ?_
    rotate_left
    ·
     have y1 := (stay_of_below hS).cell x1; have y3 := (stay_of_below hS).cell x3
     go_simp
     try with_reducible rfl
    refine rdH 2 rfl (fun K hK => ?_)
    clear hS
    go_simp
    refine (cS.out V0 (hB4.out.trans (hV0.mono hB4.out.size))).mono ?_
    rintro e w5 ⟨v5, rfl, hb5, hO5⟩
    go_wp2_with fail
    have hS5 : Below w4.heap.size w4 w5 := hV0.trans (hb5.mono hV0.size)
    refine hK.out _ _ hS5 (fun hS => ?_)
    clear hK K
    try simp only [List.getElem_toArray, List.getElem_cons_succ, List.getElem_cons_zero, Act.put, List.setIfInBounds_toArray, List.set_cons_zero, List.set_cons_succ]
    refine rdH 5 rfl (fun K hK => ?_)
    clear hS
    go_simp
    refine (cS2.out w5 (hB4.out.trans (hS5.mono hB4.out.size))).mono ?_
    rintro e w6 ⟨v6, rfl, hb6, hO6⟩
    go_wp2_with fail
    have hS6 : Below w4.heap.size w4 w6 := hS5.trans (hb6.mono hS5.size)
    refine hK.out _ _ hS6 (fun hS => ?_)
    clear hK K
    try simp only [List.getElem_toArray, List.getElem_cons_succ, List.getElem_cons_zero, Act.put, List.setIfInBounds_toArray, List.set_cons_zero, List.set_cons_succ]
    have hr5 : RowsA w6 N v5 (sortR false A.rows) := (hO5.read hb5).stay hb6
    have hr6 : RowsA w6 N v6 (sortR false B.rows) := hO6.read hb6
    have cE := eqRows_any N (by omega) w6 v5 v6 _ _ hr5 hr6 (by rw [sortR_len, sortR_len]; exact hln.out) (by rw [sortR_len]; omega)
    rw [hRR.out] at cE
    replace cE := Lib.hid cE
    refine rdH 6 rfl (fun K hK => ?_)
    clear hS
    go_simp
    refine (cE.out).mono ?_
    rintro e w7 ⟨rfl, hb7⟩
    go_wp2_with fail
    refine hK.out _ _ (hS6.trans (hb7.mono hS6.size)) (fun hS => ?_)
    clear hK K
    try simp only [List.getElem_toArray, List.getElem_cons_succ, List.getElem_cons_zero, Act.put, List.setIfInBounds_toArray, List.set_cons_zero, List.set_cons_succ]
    have hS7 := Lib.hid (hB4.out.trans ((hS6.trans (hb7.mono hS6.size)).mono hB4.out.size))
    refine tkH 7 ?_ rfl (fun w' hS => ?_) hS ?_
    rotate_left
    ·
     skip
     go_simp
     try with_reducible rfl
    refine wpAnyH_done (by kernel_rfl) ?_ _
    clear hS hb5 hb6 hb7 hS5 hS6 hO5 hO6 hr5 hr6 cE
    go_wp2
    go_ret
    exact ⟨rfl, hS7.out⟩
end Go.Proofs.YtidplkfhodpdhaaGreatDoor.tab
