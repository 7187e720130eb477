/- Texts VConcat, VPush2, VJoined, VJoinNo, VDecs, one behind the other. -/
import Derived.Test.YtjncjcellpbhcaaGreatDoorVMadeA
import Derived.Lib.AppendZerosOnto
import Derived.Test.YtjncjcellpbhcaaGreatDoorDecC
import Derived.Test.YtjncjcellpbhcaaGreatDoorVNum
import Derived.Test.YtjncjcellpbhcaaGreatDoorDecMulA
/- Contracts of slices.Grow of nil, slices.Concat of two lists of values. -/
namespace Go.Proofs.YtjncjcellpbhcaaGreatDoor.val
open Go.ChangeShapes Go.WideShapes Go.ChangeAt Go.RowKit kit dec
set_option linter.unusedVariables false
set_option linter.unusedSimpArgs false
/-- A row of one's own, of values whose lists lie in what was there at the start. -/
structure LO (W0 : World) (B : Nat) (w : World) (N : Nat) (v : Value) (l : List V) : Prop where
  below : Below W0.heap.size W0 w
  base : W0.heap.size ≤ B
  ex : ∃ ps : List (V × Value), l = ps.map (·.1) ∧ w.ownsRow B 26 6 v ps.length (rowL ps) ∧ (∀ p ∈ ps, okV N p.1) ∧ ∀ p ∈ ps, LA W0 N p.2 (kids p.1)
/-- What lies in a list, as one row. -/
theorem LA.row {w : World} {N : Nat} {s : Value} {l : List V} (h : LA w N s l) : ∃ (ps : List (V × Value)) (ao : Option Addr) (cap : Nat), s = .slice ao l.length cap ∧ l.length ≤ N ∧ l = ps.map (·.1) ∧ (∀ p ∈ ps, okV N p.1) ∧ (∀ p ∈ ps, LA w N p.2 (kids p.1)) ∧
    ((l = [] ∧ ps = []) ∨ ∃ b off, ao = some ⟨b, off, none⟩ ∧ ∀ j u, (rowL ps)[j]? = some u → w.cell? ⟨b, off + j, none⟩ = some u) := by
  cases h with
  | mk ao cap l hl h =>
    have hch : ∃ ps : List (V × Value), l = ps.map (·.1) ∧ ∀ j (hj : j < ps.length), okV N ps[j].1 ∧ LA w N ps[j].2 (kids ps[j].1) ∧ ∃ b off, ao = some ⟨b, off, none⟩ ∧ ∀ i, i < 6 → ∀ u, (six ps[j].1 ps[j].2)[i]? = some u → w.cell? ⟨b, off + (6 * j + i), none⟩ = some u := by
      have each : ∀ j (hj : j < l.length), ∃ s, okV N l[j] ∧ LA w N s (kids l[j]) ∧ ∃ b off, ao = some ⟨b, off, none⟩ ∧ ∀ i, i < 6 → ∀ u, (six l[j] s)[i]? = some u → w.cell? ⟨b, off + (6 * j + i), none⟩ = some u := by
        intro j hj
        have hel := h j hj
        generalize l[j] = v at hel
        generalize ho : 6 * j = o at hel
        cases hel with
        | mk b off o k bo n t x l1 s hr hk hn ht hx hs =>
          refine ⟨s, ⟨hk, hn, ht, hx⟩, hs, b, off, rfl, fun i hi u hu => ?_⟩
          rw [← Nat.add_assoc]
          match i, hi, hu with
          | 0, _, hu => simp [six] at hu; subst hu; exact hr.c0
          | 1, _, hu => simp [six] at hu; subst hu; exact hr.c1
          | 2, _, hu => simp [six] at hu; subst hu; exact hr.c2
          | 3, _, hu => simp [six] at hu; subst hu; exact hr.c3
          | 4, _, hu => simp [six] at hu; subst hu; exact hr.c4
          | 5, _, hu => simp [six] at hu; subst hu; exact hr.c5
      refine ⟨(List.finRange l.length).map fun j => (l[j.1], (each j.1 j.2).choose), ?_, fun j hj => ?_⟩
      · apply List.ext_getElem
        · simp
        · intro j h1 h2
          simp
      · have hj' : j < l.length := by simpa using hj
        simp only [List.getElem_map, List.getElem_finRange]
        exact (each j hj').choose_spec
    obtain ⟨ps, rfl, hps⟩ := hch
    refine ⟨ps, ao, cap, rfl, hl, rfl, ?_, ?_, ?_⟩
    · intro p hp
      obtain ⟨j, hj, rfl⟩ := List.getElem_of_mem hp
      exact (hps j hj).1
    · intro p hp
      obtain ⟨j, hj, rfl⟩ := List.getElem_of_mem hp
      exact (hps j hj).2.1
    · rcases Nat.eq_zero_or_pos ps.length with h0 | h0
      · left
        obtain rfl := List.eq_nil_of_length_eq_zero h0
        exact ⟨rfl, rfl⟩
      · right
        obtain ⟨_, _, b, off, rfl, _⟩ := hps 0 h0
        refine ⟨b, off, rfl, fun j u hu => ?_⟩
        have hjl : j < ps.length * 6 := by
          rw [← rowL_len]
          exact (List.getElem?_eq_some_iff.1 hu).1
        have hjd : j / 6 < ps.length := by omega
        obtain ⟨_, _, b', off', e, hc⟩ := hps (j / 6) hjd
        injection e with e
        injection e with e1 e2
        subst e1 e2
        have hat := rowL_at ps (j / 6) hjd (j % 6) (by omega)
        rw [show 6 * (j / 6) + j % 6 = j by omega] at hat
        have := hc (j % 6) (by omega) u (hat ▸ hu)
        rwa [show 6 * (j / 6) + j % 6 = j by omega] at this
theorem LO.toLA {W0 w : World} {B N : Nat} {v : Value} {l : List V} (h : LO W0 B w N v l) (hN : l.length ≤ N) : LA w N v l := by
  obtain ⟨ps, rfl, own, ok, hc⟩ := h.ex
  have own0 : w.ownsRow 0 26 6 v ps.length (rowL ps) := ⟨own.1, own.2.imp id fun ⟨g, cap, cur, h1, h2, h3⟩ => ⟨g, cap, cur, h1, Nat.zero_le _, h3⟩⟩
  rcases own.2 with ⟨rfl, hn⟩ | ⟨g, cap, cur, rfl, _⟩
  · obtain rfl : ps = [] := List.eq_nil_of_length_eq_zero hn
    exact .mk none 0 [] (Nat.zero_le _) (fun j hj => by simp at hj)
  · have := LA.mk (w := w) (N := N) (some ⟨g, 0, none⟩) cap (ps.map (·.1)) hN (fun j hj => by
      have hj' : j < ps.length := by simpa using hj
      rw [List.getElem_map]
      have hok := ok ps[j] (List.getElem_mem _)
      have hi := (hc ps[j] (List.getElem_mem _)).stay h.below
      rcases he : ps[j].1 with ⟨k, bo, m, t, x, l⟩
      rw [he] at hok hi
      exact .mk g 0 (6 * j) k bo m t x l ps[j].2 (by rw [Nat.zero_add]; exact own_six own0 j hj' he) hok.1 hok.2.1 hok.2.2.1 hok.2.2.2 hi)
    simpa using this
/-- An append whose run is known, as a law for the walk. -/
theorem wpList_append_run {P : Program} {w : World} {ops : Array Oper} {rest : List Oper} {o : Oper} {a : Act} {Q : Exit → Act → World → Prop} (hgd : o.guard = none) (s x : Operand) (t tn : TypeId)
    (ho : o.op = .call { callee := .builtin .append, args := #[s, x], argTypes := #[t, tn] }) (v v' y : Value) (w' : World) (hs : a.eval s = v) (hx : a.eval x = y) (hr : (Builtin.append_ #[t, tn] o.type #[v, y]).run P w = .ok v' w')
    (h : wpList P ops Q rest (a.put o.dst v') w') : wpList P ops Q (o :: rest) a w := by
  refine wpList_plain hgd fun K hK => ?_
  unfold Oper.wp execOp
  simp only [ho, resolve, invoke, builtin, Sem.run_bind, Sem.run_pure, Result.andThen_ok, List.map_toArray, List.map_cons, List.map_nil, hs, hx, hr]
  exact hK _ _ h
set_option maxRecDepth 100000 in
set_option maxHeartbeats 1000000 in
theorem grow_nil (n : Nat) (hn : n ≤ 1000000) (w : World) :
    Calls Tryz.prog 91 #[.slice none 0 0, .int .i64 n] w fun e w' => ∃ v, e = .returned v ∧ Below w.heap.size w w' ∧ ∀ B, B ≤ w.heap.size → w'.ownsRow B 26 6 v 0 [] := by
  obtain ⟨i0, hi, hp⟩ := Option.map_eq_some_iff.1 Tryz.infoV
  have hz2 : i0.size = 6 := congrArg (fun p => p.2.1) hp
  have hz3 : i0.bytes = 80 := congrArg (fun p => p.2.2) hp
  have hz1 : i0.zero.map (·.cells.size) = some 6 := congrArg (fun p => p.1) hp
  obtain ⟨z, hz, hzs⟩ := Option.map_eq_some_iff.1 hz1
  rcases Nat.eq_zero_or_pos n with rfl | hpos
  · go_enter Tryz.func91, Tryz.ntmps91
    go_wp2
    go_ret
    exact ⟨_, rfl, Below.refl _ _, fun B _ => World.ownsRow_nil _ _ _ _⟩
  · have hni : 0 < (n : Int) := by omega
    have hcap := grownCap_ge w n 0 26
    have hcm := grownCap_le_maxLen w n 0 26 (by unfold maxLen; omega)
    have hap := Lib.run_append_grow_zeros (P := Tryz.prog) w 24 3 24 26 i0 z .i64 .i64 Tryz.underlying24 Tryz.underlying3 hi hz none 0 0 [] (run_firstCells_none _ _ _ _ _) n hpos (by omega) (by omega) (by omega) (by rw [hz3]; omega) (growslice_fits (by omega) (by rw [hz3]; omega))
    rw [Nat.zero_add] at hap
    have hsz : (([] : List Value).toArray ++ Builtin.zeroCells z.cells n ++ Builtin.zeroCells z.cells (grownCap w n 0 26 - n)).size = grownCap w n 0 26 * 6 := by
      simp only [Array.size_append, size_zeroCells, hzs, List.size_toArray, List.length_nil, Nat.zero_add, ← Nat.add_mul]
      congr 1
      omega
    replace hap := Lib.hid hap
    generalize ([] : List Value).toArray ++ Builtin.zeroCells z.cells n ++ Builtin.zeroCells z.cells (grownCap w n 0 26 - n) = cur at *
    generalize grownCap w n 0 26 = C at *
    have hn0 : ¬ (n : Int) < 0 := by omega
    clear hi hz hp hz1 hz2 hz3
    go_enter Tryz.func91, Tryz.ntmps91
    go_wp2_with (at_builtin; refine wpList_append_run rfl _ _ 24 3 rfl _ _ _ _ rfl rfl hap.out ?_)
    go_ret
    exact ⟨_, rfl, ((Below.refl _ _).drew).alloc (Nat.le_refl _) _, fun B hB => World.ownsRow_made w.drew cur C hB hcm hsz⟩
theorem run_append_none {P : Program} (w : World) (B : Nat) (t ty e : TypeId) (i : TypeInfo) (size : Nat) (ht : P.underlying t = some (.slice e)) (hi : P.info? e = some i) (v : Value) (n : Nat) (xs : List Value) (hown : w.ownsRow B e size v n xs) (c : Nat) :
    (Builtin.append_ #[t, t] ty #[v, .slice none 0 c]).run P w = .ok v w := by
  rcases hown.2 with ⟨rfl, rfl⟩ | ⟨g, cap, cur, rfl, _, hg, hn, _⟩
  · simp [Builtin.append_, run_underlying ht, sizeOf, typeInfo, hi, Builtin.lenOf, Builtin.firstCells, loadCells, loadCellsFrom]
  · simp [Builtin.append_, run_underlying ht, sizeOf, typeInfo, hi, Builtin.lenOf, Builtin.firstCells, hn, storeCells]
/-- A list behind a row of one's own, as a law for the walk. -/
theorem wpList_app {W0 w : World} {ops : Array Oper} {rest : List Oper} {o : Oper} {a : Act} {Q : Exit → Act → World → Prop} (hgd : o.guard = none) (s x : Operand)
    (ho : o.op = .call { callee := .builtin .append, args := #[s, x], argTypes := #[24, 24] })
    (B N : Nat) (v y : Value) (l m : List V) (hs : a.eval s = v) (hx : a.eval x = y) (hL : LO W0 B w N v l) (hB2 : B ≤ w.heap.size) (hM : LA W0 N y m) (hlen : l.length + m.length ≤ 1000000)
    (hK : ∀ v' w', LO W0 B w' N v' (l ++ m) → Below B w w' → wpList Tryz.prog ops Q rest (a.put o.dst v') w') : wpList Tryz.prog ops Q (o :: rest) a w := by
  obtain ⟨i0, hi, hp⟩ := Option.map_eq_some_iff.1 Tryz.infoV
  have hz2 : i0.size = 6 := congrArg (fun p => p.2.1) hp
  have hz3 : i0.bytes = 80 := congrArg (fun p => p.2.2) hp
  have hz1 : i0.zero.map (·.cells.size) = some 6 := congrArg (fun p => p.1) hp
  obtain ⟨z, hz, hzs⟩ := Option.map_eq_some_iff.1 hz1
  have hB := hL.below.size
  have hbase := hL.base
  obtain ⟨ps, rfl, own, ok, hc⟩ := hL.ex
  obtain ⟨qs, ao, cap, rfl, hmN, rfl, ok2, hc2, hrow⟩ := hM.row
  rw [List.length_map, List.length_map] at hlen
  rw [List.length_map] at hmN hx
  have hbel := hL.below
  have frm : ∀ w', w.grownBy w' v.ownBlock → Below B w w' := fun w' h2 => (Below.refl _ _).grown h2 hB2 (fun g e => (own.lt g e).1)
  have done : ∀ v' w', w'.ownsRow B 26 6 v' (ps.length + qs.length) (rowL ps ++ rowL qs) → w.grownBy w' v.ownBlock → LO W0 B w' N v' (ps.map (·.1) ++ qs.map (·.1)) := by
    intro v' w' h1 h2
    refine ⟨hbel.grown h2 hB (fun g e => Nat.le_trans hbase (own.lt g e).1), hbase, ps ++ qs, by rw [List.map_append], by rw [List.length_append, rowL_app]; exact h1, ?_, ?_⟩
    · intro p hp
      rcases List.mem_append.1 hp with hp | hp
      · exact ok p hp
      · exact ok2 p hp
    · intro p hp
      rcases List.mem_append.1 hp with hp | hp
      · exact hc p hp
      · exact hc2 p hp
  by_cases h0 : qs = []
  · subst h0
    have hsame := done v w (by simpa [rowL] using own) ⟨rfl, rfl, rfl, Nat.le_refl _, fun _ _ _ => rfl⟩
    rcases ao with _ | ad
    · exact wpList_append_run hgd s x _ _ ho v v _ w hs hx (run_append_none w B _ _ _ i0 6 Tryz.underlying24 hi v _ _ own cap) (hK v w hsame (Below.refl _ _))
    · refine wpList_append_own w hgd s x _ ho B 26 i0 z 6 80 Tryz.underlying24 hi hz hz2 hz3 hzs (by decide) v ps.length (rowL ps) hs own ad 0 cap [] hx rfl (fun j u h => by simp at h) (fun u h => by cases h) (by unfold maxLen; omega) (by omega) hB2 ?_
      intro v' w' h1 h2 _
      exact hK v' w' (done v' w' (by simpa [rowL] using h1) h2) (frm w' h2)
  · rcases hrow with ⟨h, h'⟩ | ⟨b, off, rfl, hcells⟩
    · exact absurd h' h0
    · have hone : ∀ u ∈ rowL qs, u.oneCell' = true := by
        refine rowL_one qs fun p hp => ?_
        obtain ⟨ao, cap, e⟩ := (hc2 p hp).form6
        rw [e]; rfl
      refine wpList_append_own w hgd s x _ ho B 26 i0 z 6 80 Tryz.underlying24 hi hz hz2 hz3 hzs (by decide) v ps.length (rowL ps) hs own ⟨b, off, none⟩ qs.length cap (rowL qs) hx (rowL_len qs) ?_ hone (by unfold maxLen; omega) (by omega) hB2 ?_
      · intro j u hu
        have hc := hcells j u hu
        rw [Go.WideShapes.add_plain]
        exact (hbel.cell (p := ⟨b, off + j, none⟩) (World.block_lt_of_cell? W0 _ hc)).trans hc
      · intro v' w' h1 h2 _
        exact hK v' w' (done v' w' h1 h2) (frm w' h2)
/-- The first so many of two lists, one behind the other. -/
def firsts (la lb : List V) : Nat → List V
  | 0 => []
  | 1 => la
  | _ => la ++ lb
set_option maxRecDepth 100000 in
set_option maxHeartbeats 2000000 in
theorem concat_call (N : Nat) (hN : N ≤ 1048576) (W0 w : World) (hbel0 : Below W0.heap.size W0 w) (sa sb : Value) (la lb : List V) (g : Nat) (ha : LA W0 N sa la) (hb : LA W0 N sb lb) (hl : la.length + lb.length ≤ 4096) (hlN : la.length + lb.length ≤ N) (hg : Blk w g #[sa, sb] 24) :
    Calls Tryz.prog 56 #[.slice (some ⟨g, 0, none⟩) 2 2] w fun e w' => ∃ ao cap, e = .returned (.slice ao (la.length + lb.length) cap) ∧ Below w.heap.size w w' ∧ LO W0 w.heap.size w' N (.slice ao (la.length + lb.length) cap) (la ++ lb) := by
  obtain ⟨aoA, capA, rfl⟩ := ha.form6
  obtain ⟨aoB, capB, rfl⟩ := hb.form6
  have hgrow := Lib.hid (grow_nil (la.length + lb.length) (by omega) w)
  have hai : (la.length : Int) ≤ 4096 := by omega
  have hbi : (lb.length : Int) ≤ 4096 := by omega
  have x0 := hg.cell 0 rfl
  have x1 := hg.cell 1 rfl
  replace ha := Lib.hid ha
  replace hb := Lib.hid hb
  replace hbel0 := Lib.hid hbel0
  go_enter Tryz.func56, Tryz.ntmps56
  go_wp2
  go_loopw [3, 11] (fun v3 v wr => wr = w ∧ ((v = .int .i64 0 ∧ v3 = .int .i64 0) ∨ (v = .int .i64 1 ∧ v3 = .int .i64 la.length) ∨ (v = .int .i64 2 ∧ v3 = .int .i64 (la.length + lb.length : Nat)))) (fun _ v _ => 2 - (intOf v).toNat)
  case atStart => exact ⟨rfl, .inl ⟨rfl, rfl⟩⟩
  case round =>
    obtain ⟨hwr, h3⟩ := hrel
    have hwr' := hwr.symm
    subst hwr'
    clear hwr
    rcases h3 with ⟨rfl, rfl⟩ | ⟨rfl, rfl⟩ | ⟨rfl, rfl⟩
    · go_wp2
      go_roundw
      case rel => exact ⟨trivial, .inr (.inl ⟨rfl, rfl⟩)⟩
      case measure => simp [intOf]
    · go_wp2
      exact ⟨⟨trivial, .inr (.inr ⟨rfl, congrArg (Value.int .i64) (Int.natCast_add _ _).symm⟩)⟩, by simp [intOf]⟩
    · go_wp2_with fail
      refine (hgrow.out).mono ?_
      rintro e w2 ⟨v2, rfl, hb2, hown⟩
      have hlo : Hid (LO W0 w.heap.size w2 N v2 []) := Lib.hid ⟨hbel0.out.trans (hb2.mono hbel0.out.size), hbel0.out.size, [], rfl, hown _ (Nat.le_refl _), fun p hp => (by cases hp), fun p hp => (by cases hp)⟩
      replace hb2 := Lib.hid hb2
      clear hgrow hown x0 x1
      replace hg := Lib.hid hg
      have y0 : ∀ wr, Below w.heap.size w wr → wr.cell? ⟨g, 0, none⟩ = some (.slice aoA la.length capA) := fun wr h => (h.cell (p := ⟨g, 0, none⟩) hg.out.lt).trans (hg.out.cell 0 rfl)
      have y1 : ∀ wr, Below w.heap.size w wr → wr.cell? ⟨g, 1, none⟩ = some (.slice aoB lb.length capB) := fun wr h => (h.cell (p := ⟨g, 1, none⟩) hg.out.lt).trans (hg.out.cell 1 rfl)
      replace y0 := Lib.hid y0
      replace y1 := Lib.hid y1
      go_wp2
      go_loopw [6, 27] (fun v6 v wx => Hid (Below w.heap.size w wx) ∧ ((v = .int .i64 0 ∧ Hid (LO W0 w.heap.size wx N v6 [])) ∨ (v = .int .i64 1 ∧ Hid (LO W0 w.heap.size wx N v6 la)) ∨ (v = .int .i64 2 ∧ Hid (LO W0 w.heap.size wx N v6 (la ++ lb))))) (fun _ v _ => 2 - (intOf v).toNat)
      case atStart => exact ⟨hb2, .inl ⟨rfl, hlo⟩⟩
      case round =>
        clear hlo hb2
        obtain ⟨hbw, hrel⟩ := hrel
        rcases hrel with ⟨rfl, hlo⟩ | ⟨rfl, hlo⟩ | ⟨rfl, hlo⟩
        · have x0 := y0.out _ hbw.out
          go_wp2_with (at_builtin; refine wpList_app (W0 := W0) rfl _ _ rfl w.heap.size N _ _ [] la rfl rfl hlo.out hbw.out.size ha.out (by simp; omega) ?k1)
          case k1 =>
            intro v' w' h hbx
            replace h := Lib.hid h
            have hb3 := Lib.hid (hbw.out.trans hbx)
            clear hbx hbw
            clear x0 hlo
            go_wp2
            go_roundw
            case rel => exact ⟨hb3, .inr (.inl ⟨rfl, h⟩)⟩
            case measure => simp [intOf]
        · have x1 := y1.out _ hbw.out
          go_wp2_with (at_builtin; refine wpList_app (W0 := W0) rfl _ _ rfl w.heap.size N _ _ la lb rfl rfl hlo.out hbw.out.size hb.out (by omega) ?k2)
          case k2 =>
            intro v' w' h hbx
            replace h := Lib.hid h
            have hb3 := Lib.hid (hbw.out.trans hbx)
            clear hbx hbw
            clear x1 hlo
            go_wp2
            go_roundw
            case rel => exact ⟨hb3, .inr (.inr ⟨rfl, h⟩)⟩
            case measure => simp [intOf]
        · have hla := hlo.out.toLA (by rw [List.length_append]; exact hlN)
          obtain ⟨ao3, cap3, e3⟩ := hla.form6
          rw [List.length_append] at e3
          subst e3
          clear hla
          go_wp2
          go_ret
          exact ⟨ao3, cap3, rfl, hbw.out, hlo.out⟩
end Go.Proofs.YtjncjcellpbhcaaGreatDoor.val

/- A law for the walk: a list that was made, behind another one. -/
namespace Go.Proofs.YtjncjcellpbhcaaGreatDoor.val
open Go.ChangeShapes Go.WideShapes Go.ChangeAt Go.RowKit kit dec
set_option linter.unusedVariables false
set_option linter.unusedSimpArgs false
theorem wp_pushLF {w : World} {o : Oper} {a : Act} {K : Act → World → Prop} {Q : Exit → Act → World → Prop} (s x : Operand)
    (ho : o.op = .call { callee := .builtin .append, args := #[s, x], argTypes := #[24, 24] })
    (N : Nat) (hN : N ≤ 1048576) (S T : Nat → Prop) (v : Value) (l : List V) (hs : a.eval s = v) (hL : LF w N S v l) (hSlt : ∀ b, S b → b < w.heap.size)
    (v2 : Value) (l2 : List V) (hx : a.eval x = v2) (hM : LF w N T v2 l2) (hTlt : ∀ b, T b → b < w.heap.size ∧ ¬ S b) (hlen : l.length + l2.length ≤ N)
    (hK : ∀ v' w', LF w' N (fun b => S b ∨ T b ∨ (w.heap.size ≤ b ∧ b < w'.heap.size)) v' (l ++ l2) → w.grownBy w' v.ownBlock → (∀ g, v.ownBlock = some g → S g) → K (a.put o.dst v') w') :
    o.wp Tryz.prog a w K Q := by
  cases hM with
  | mk ps P e hN1 own hT nb sub dis ok h =>
    subst e
    rcases own.2 with ⟨rfl, hn⟩ | ⟨g, cap, cur, rfl, _⟩
    · obtain rfl : ps = [] := List.eq_nil_of_length_eq_zero hn
      have hlf : LF w N (fun b => S b ∨ T b ∨ (w.heap.size ≤ b ∧ b < w.heap.size)) v l := hL.mono fun b hb => .inl hb
      obtain ⟨i0, hi, hp⟩ := Option.map_eq_some_iff.1 Tryz.infoV
      have hS : ∀ g, v.ownBlock = some g → S g := by
        cases hL with
        | mk ps P e hN1 own hS nb sub dis ok h => exact hS
      have hr : (Builtin.append_ #[24, 24] o.type #[v, .slice none 0 0]).run Tryz.prog w = .ok v w := by
        cases hL with
        | mk ps P e hN1 own hS nb sub dis ok h => exact run_append_none w 0 _ _ _ i0 6 Tryz.underlying24 hi v _ _ own 0
      have hfin := hK v w (by simpa using hlf) ⟨rfl, rfl, rfl, Nat.le_refl _, fun _ _ _ => rfl⟩ hS
      unfold Oper.wp execOp
      simp only [ho, resolve, invoke, builtin, Sem.run_bind, Sem.run_pure, Result.andThen_ok, List.map_toArray, List.map_cons, List.map_nil, hs, hx, hr]
      exact hfin
    · rw [List.length_map] at hlen
      refine wp_push s x ho N hN S v l hs hL hSlt ⟨g, 0, none⟩ cap ps.length ps P hx rfl ?_ h (fun j b hb => hTlt b (sub j b hb)) dis ok hlen ?_
      · intro j u hu
        exact own.cells (g := g) rfl j u hu
      · intro v' w' h1 h2 h3
        refine hK v' w' (h1.mono fun b hb => ?_) h2 h3
        rcases hb with hb | ⟨j, hb⟩ | hb
        · exact .inl hb
        · exact .inr (.inl (sub j b hb))
        · exact .inr (.inr hb)
end Go.Proofs.YtjncjcellpbhcaaGreatDoor.val

/- Contract of value.joined: two texts, or lists, one behind the other. -/
namespace Go.Proofs.YtjncjcellpbhcaaGreatDoor.val
open Go.ChangeShapes Go.WideShapes Go.ChangeAt Go.RowKit kit dec
set_option linter.unusedVariables false
set_option linter.unusedSimpArgs false
theorem LO.keep {W0 w w' : World} {B N : Nat} {v : Value} {l : List V} (h : LO W0 B w N v l) (h0 : Below W0.heap.size W0 w') (hm : ∀ b, B ≤ b → b < w.heap.size → w'.heap[b]? = w.heap[b]?) : LO W0 B w' N v l := by
  obtain ⟨ps, e, own, ok, hc⟩ := h.ex
  exact ⟨h0, h.base, ps, e, own_stay own fun g hg => hm g (own.lt g hg).1 (own.lt g hg).2, ok, hc⟩
/-- What lies between is as it was. -/
def Mid (lo : Nat) (a b : World) : Prop := ∀ k, lo ≤ k → k < a.heap.size → b.heap[k]? = a.heap[k]?
theorem Mid.step {lo : Nat} {a b c : World} (h : Mid lo a b) (hs : a.heap.size ≤ b.heap.size) (hb : ∀ k, k < b.heap.size → c.heap[k]? = b.heap[k]?) : Mid lo a c :=
  fun k h1 h2 => (hb k (Nat.lt_of_lt_of_le h2 hs)).trans (h k h1 h2)
theorem joined_world (w : World) (A0 A1 Z A3 : Array Value) (A4 : Array Value) : Below w.heap.size w (((((w.alloc (.cells A0 26)).alloc (.cells A1 26)).alloc (.cells Z 26)).alloc (.cells A3 26)).alloc (.cells A4 24)) ∧
    (((((w.alloc (.cells A0 26)).alloc (.cells A1 26)).alloc (.cells Z 26)).alloc (.cells A3 26)).alloc (.cells A4 24)).heap.size = w.heap.size + 5 ∧
    Blk (((((w.alloc (.cells A0 26)).alloc (.cells A1 26)).alloc (.cells Z 26)).alloc (.cells A3 26)).alloc (.cells A4 24)) (w.heap.size + 1 + 1) Z 26 ∧
    Blk (((((w.alloc (.cells A0 26)).alloc (.cells A1 26)).alloc (.cells Z 26)).alloc (.cells A3 26)).alloc (.cells A4 24)) (w.heap.size + 1 + 1 + 1) A3 26 ∧
    Blk (((((w.alloc (.cells A0 26)).alloc (.cells A1 26)).alloc (.cells Z 26)).alloc (.cells A3 26)).alloc (.cells A4 24)) (w.heap.size + 1 + 1 + 1 + 1) A4 24 := by
  refine ⟨((((((Below.refl _ _).alloc (Nat.le_refl _) _).alloc ?_ _).alloc ?_ _).alloc ?_ _).alloc ?_ _), by simp only [World.size_alloc], ?_, ?_, ?_⟩
  · simp only [World.size_alloc]; omega
  · simp only [World.size_alloc]; omega
  · simp only [World.size_alloc]; omega
  · simp only [World.size_alloc]; omega
  · have := ((Blk.new ((w.alloc (.cells A0 26)).alloc (.cells A1 26)) Z 26).alloc (.cells A3 26)).alloc (.cells A4 24)
    simpa only [World.size_alloc] using this
  · have := (Blk.new (((w.alloc (.cells A0 26)).alloc (.cells A1 26)).alloc (.cells Z 26)) A3 26).alloc (.cells A4 24)
    simpa only [World.size_alloc] using this
  · have := Blk.new ((((w.alloc (.cells A0 26)).alloc (.cells A1 26)).alloc (.cells Z 26)).alloc (.cells A3 26)) A4 24
    simpa only [World.size_alloc] using this
set_option maxRecDepth 100000 in
set_option maxHeartbeats 4000000 in
theorem joined_call (N : Nat) (hN : N ≤ 1048576) (w : World) (k : Int) (b : Bool) (n : Int) (t x : ByteArray) (s : Value) (l : List V) (k2 : Int) (b2 : Bool) (n2 : Int) (t2 x2 : ByteArray) (s2 : Value) (l2 : List V) (ha : LA w N s l) (hb : LA w N s2 l2) (ht : t.size ≤ N) (ht2 : t2.size ≤ N) (hfit : t.size + t2.size ≤ 1048576) (hl : l.length + l2.length ≤ 4096) (hlN : l.length + l2.length ≤ N) :
    Calls Tryz.prog 27 #[agg6 k b n t x s, agg6 k2 b2 n2 t2 x2 s2] w fun e w' => ∃ ao cap, e = .returned (.tuple #[agg6 k false 0 (t ++ t2) ByteArray.empty (.slice ao (l.length + l2.length) cap), .int .i64 0]) ∧ Below w.heap.size w w' ∧ LF w' N (Fr w.heap.size w') (.slice ao (l.length + l2.length) cap) (l ++ l2) := by
  obtain ⟨aoA, capA, rfl⟩ := ha.form6
  obtain ⟨aoB, capB, rfl⟩ := hb.form6
  have hti : (t.size : Int) + t2.size ≤ 1048576 := by omega
  have htn : ¬ ((t.size : Int) + t2.size > 1048576) := by omega
  have hli : (l.length : Int) + l2.length ≤ 4096 := by omega
  have hln : ¬ ((l.length : Int) + l2.length > 4096) := by omega
  have hW := joined_world w #[.int .i64 k, .bool b, .int .i64 n, .string t, .string x, .slice aoA l.length capA] #[.int .i64 k2, .bool b2, .int .i64 n2, .string t2, .string x2, .slice aoB l2.length capB] #[.int .i64 0, .bool false, .int .i64 0, .string ByteArray.empty, .string ByteArray.empty, .slice none 0 0] #[.int .i64 k, .bool false, .int .i64 0, .string (t ++ t2), .string ByteArray.empty, .slice none 0 0] #[.slice aoA l.length capA, .slice aoB l2.length capB]
  obtain ⟨W5, hW5⟩ : ∃ W5, W5 = (((((w.alloc (.cells #[.int .i64 k, .bool b, .int .i64 n, .string t, .string x, .slice aoA l.length capA] 26)).alloc (.cells #[.int .i64 k2, .bool b2, .int .i64 n2, .string t2, .string x2, .slice aoB l2.length capB] 26)).alloc (.cells #[.int .i64 0, .bool false, .int .i64 0, .string ByteArray.empty, .string ByteArray.empty, .slice none 0 0] 26)).alloc (.cells #[.int .i64 k, .bool false, .int .i64 0, .string (t ++ t2), .string ByteArray.empty, .slice none 0 0] 26)).alloc (.cells #[.slice aoA l.length capA, .slice aoB l2.length capB] 24)) := ⟨_, rfl⟩
  rw [← hW5] at hW
  obtain ⟨hb5, hs5, hq2, hq3, hq4⟩ := hW
  have hcall := concat_call N hN w W5 hb5 _ _ l l2 _ ha hb hl hlN hq4
  rw [hW5] at hcall
  replace hcall := Lib.hid hcall
  replace ha := Lib.hid ha
  replace hb := Lib.hid hb
  replace hW5 := Lib.hid hW5
  replace hq2 := Lib.hid hq2
  replace hq3 := Lib.hid hq3
  replace hb5 := Lib.hid hb5
  clear hq4
  go_enter Tryz.func27, Tryz.ntmps27
  unfold agg6
  go_wp2_with fail
  refine (hcall.out).mono ?_
  rintro e w6 ⟨ao, cap, rfl, hb6, hlo⟩
  rw [← hW5.out] at hb6 hlo
  clear hcall hW5
  have hq26 := Lib.hid (hq2.out.keep (Keep.ofBelow hb6) (by simp))
  have hq36 := Lib.hid (hq3.out.keep (Keep.ofBelow hb6) (by simp))
  have hb66 := Lib.hid (hb5.out.trans (hb6.mono hb5.out.size))
  have hs6 := hb6.size
  rw [hs5] at hs6 hlo
  replace hlo := Lib.hid hlo
  clear hq2 hq3 hb5 hb6 ha hb
  have hlen : (l ++ l2).length = l.length + l2.length := List.length_append
  generalize hLL : l ++ l2 = LL at *
  rw [← hlen] at hlo ⊢
  have hLn : LL.length ≤ 4096 := by omega
  have hLN : LL.length ≤ N := by omega
  replace hLL := Lib.hid hLL
  clear hlN htn hln hl hlen hli
  generalize hG2 : w.heap.size + 1 + 1 = G2 at *
  have hG : w.heap.size + 2 = G2 := by omega
  replace hG := Lib.hid hG
  clear hG2
  go_wp2
  go_loopw [43] (fun v wr => ∃ (i : Nat) (sv : Value), i ≤ LL.length ∧ v = .int .i64 i ∧ Hid (LF wr N (Fr w6.heap.size wr) sv (LL.take i)) ∧ Hid (Blk wr (G2 + 1) #[.int .i64 k, .bool false, .int .i64 0, .string (t ++ t2), .string ByteArray.empty, sv] 26) ∧ Hid (Blk wr G2 #[.int .i64 0, .bool false, .int .i64 0, .string ByteArray.empty, .string ByteArray.empty, .slice none 0 0] 26) ∧ Hid (Below w.heap.size w wr) ∧ Hid (Mid (w.heap.size + 5) w6 wr) ∧ w6.heap.size ≤ wr.heap.size) (fun v _ => LL.length - (intOf v).toNat)
  case atStart => exact ⟨0, _, by omega, rfl, LF.nil _ _ _, hq36, hq26, hb66, Lib.hid fun _ _ _ => rfl, Nat.le_refl _⟩
  case round =>
    clear hq26 hq36 hb66
    obtain ⟨i, sv, hi, rfl, hlf, hq0, hq1, hb, hmid, hsz⟩ := hrel
    obtain ⟨w0, rfl⟩ : ∃ w0 : World, w0 = wr := ⟨_, rfl⟩
    have hG2 := hG.out
    have hla := (hlo.out.keep hb.out hmid.out).toLA hLN
    by_cases hlt : i < LL.length
    · have hki : (i : Int) < (LL.length : Int) := by omega
      obtain ⟨b1, off, k1, bo, n1, t1, x1, l1, aoE, capE, rfl, he, hr, hok, hsl⟩ := la_at hla i hlt
      have htk := List.take_succ_eq_append_getElem hlt
      rw [he] at htk
      replace htk := Lib.hid htk
      obtain ⟨x0, x1a, x2, x3, x4, x5⟩ := hr.six
      replace hsl := Lib.hid hsl
      clear hr he hla hG2
      go_upto_region 7 with fail
      have hG2 := hG.out
      clear x0 x1a x2 x3 x4 x5
      have hal : Below w0.heap.size w0 (w0.alloc (.cells #[.int .i64 k1, .bool bo, .int .i64 n1, .string t1, .string x1, .slice aoE l1.length capE] 26)).drew := ((Below.refl _ _).alloc (Nat.le_refl _) _).drew
      have hE := (Blk.new w0 #[.int .i64 k1, .bool bo, .int .i64 n1, .string t1, .string x1, .slice aoE l1.length capE] 26).drewN 1
      have hS0 : Blk (w0.alloc (.cells #[.int .i64 k1, .bool bo, .int .i64 n1, .string t1, .string x1, .slice aoE l1.length capE] 26)).drew (G2 + 1) #[.int .i64 k, .bool false, .int .i64 0, .string (t ++ t2), .string ByteArray.empty, sv] 26 ∧ Blk (w0.alloc (.cells #[.int .i64 k1, .bool bo, .int .i64 n1, .string t1, .string x1, .slice aoE l1.length capE] 26)).drew w0.heap.size #[.int .i64 k1, .bool bo, .int .i64 n1, .string t1, .string x1, .slice aoE l1.length capE] 26 := ⟨(hq0.out.alloc _).drewN 1, hE⟩
      have hlfV := hlf.out.stay fun b hS hlt => hal.block b hlt
      have hslV := hsl.out.stay hal
      have hq1V : Blk (w0.alloc (.cells #[.int .i64 k1, .bool bo, .int .i64 n1, .string t1, .string x1, .slice aoE l1.length capE] 26)).drew G2 #[.int .i64 0, .bool false, .int .i64 0, .string ByteArray.empty, .string ByteArray.empty, .slice none 0 0] 26 := (hq1.out.alloc (.cells #[.int .i64 k1, .bool bo, .int .i64 n1, .string t1, .string x1, .slice aoE l1.length capE] 26)).drewN 1
      have hbV := hb.out.trans (hal.mono hb.out.size)
      have hmV := hmid.out.step hsz (fun b hb => hal.block b hb)
      have hsV := hal.size
      refine wp_region_late [7] (S := fun V => Blk V (G2 + 1) #[.int .i64 k, .bool false, .int .i64 0, .string (t ++ t2), .string ByteArray.empty, sv] 26 ∧ Blk V w0.heap.size #[.int .i64 k1, .bool bo, .int .i64 n1, .string t1, .string x1, .slice aoE l1.length capE] 26) (by kernel_rfl) hS0 (fun hS => ?_)
      have hV := hS0
      clear hS0 hal hE hsl hq0 hq1 hb hlf hmid
      generalize (w0.alloc (.cells #[.int .i64 k1, .bool bo, .int .i64 n1, .string t1, .string x1, .slice aoE l1.length capE] 26)).drew = V0 at *
      have hcall := copied_all N hN _ V0 k1 bo n1 t1 x1 _ l1 (Nat.lt_succ_self _) hslV
      unfold agg6 at hcall
      replace hcall := Lib.hid hcall
      refine wpAnyL_take (i := 0) (v := ?_) rfl (by kernel_rfl) (by kernel_rfl) (by kernel_rfl) (by kernel_rfl) (by kernel_rfl) (fun _ _ _ h => h) (.inl ⟨by kernel_rfl, fun w' hS => ?_⟩) hS ?_
      rotate_left
      ·
        skip
        go_simp
        try with_reducible rfl
      simp only [List.getElem_toArray, List.getElem_cons_succ, List.getElem_cons_zero, Act.put, List.setIfInBounds_toArray, List.set_cons_zero, List.set_cons_succ]
      refine wpAnyL_take (i := 1) (v := ?_) rfl (by kernel_rfl) (by kernel_rfl) (by kernel_rfl) (by kernel_rfl) (by kernel_rfl) (fun _ _ _ h => h) (.inl ⟨by kernel_rfl, fun w' hS => ?_⟩) hS ?_
      rotate_left
      ·
        have x0 := hS.1.cell 0 rfl
        have x1 := hS.1.cell 1 rfl
        have x2 := hS.1.cell 2 rfl
        have x3 := hS.1.cell 3 rfl
        have x4 := hS.1.cell 4 rfl
        have x5 := hS.1.cell 5 rfl
        go_simp
        try with_reducible rfl
      simp only [List.getElem_toArray, List.getElem_cons_succ, List.getElem_cons_zero, Act.put, List.setIfInBounds_toArray, List.set_cons_zero, List.set_cons_succ]
      refine wpAnyL_take (i := 2) (v := ?_) rfl (by kernel_rfl) (by kernel_rfl) (by kernel_rfl) (by kernel_rfl) (by kernel_rfl) (fun _ _ _ h => h) (.inl ⟨by kernel_rfl, fun w' hS => ?_⟩) hS ?_
      rotate_left
      ·
        have x0 := hS.2.cell 0 rfl
        have x1 := hS.2.cell 1 rfl
        have x2 := hS.2.cell 2 rfl
        have x3 := hS.2.cell 3 rfl
        have x4 := hS.2.cell 4 rfl
        have x5 := hS.2.cell 5 rfl
        go_simp
        try with_reducible rfl
      simp only [List.getElem_toArray, List.getElem_cons_succ, List.getElem_cons_zero, Act.put, List.setIfInBounds_toArray, List.set_cons_zero, List.set_cons_succ]
      refine wpAnyL_ready (i := 3) (by kernel_rfl) rfl (fun K hK => ?_)
      clear hS
      go_simp
      refine (hcall.out).mono ?_
      rintro e w5 ⟨ao2, cap2, rfl, hb5, hl5⟩
      go_wp2_with fail
      refine hK.out _ _ (⟨hV.1.keep (Keep.ofBelow hb5) (by simp), hV.2.keep (Keep.ofBelow hb5) (by simp)⟩) (fun hS => ?_)
      clear hK K
      try simp only [List.getElem_toArray, List.getElem_cons_succ, List.getElem_cons_zero, Act.put, List.setIfInBounds_toArray, List.set_cons_zero, List.set_cons_succ]
      have hV5 : Blk w5 (G2 + 1) _ _ ∧ Blk w5 w0.heap.size _ _ := ⟨hV.1.keep (Keep.ofBelow hb5) (by simp), hV.2.keep (Keep.ofBelow hb5) (by simp)⟩
      have hlf5 := hlfV.stay fun b hS hlt => hb5.block b hlt
      have hq5 : Blk w5 G2 _ _ := hq1V.keep (Keep.ofBelow hb5) (by simp)
      have hb5' := hbV.trans (hb5.mono hbV.size)
      have hm5 := hmV.step (by omega) (fun b hb => hb5.block b hb)
      have hs5 := hb5.size
      clear hcall hV hlfV hq1V hslV
      refine wpAnyL_ready (i := 4) (by kernel_rfl) rfl (fun K hK => ?_)
      clear hS
      go_simp
      go_wp2_with fail
      have hal := ((Below.refl w5.heap.size w5).alloc (Nat.le_refl _) (.cells (six (.mk k1 bo n1 t1 x1 l1) (.slice ao2 l1.length cap2)).toArray 26))
      have hV6 := (⟨hV5.1.alloc _, hV5.2.alloc _⟩ : Blk (w5.alloc (.cells (six (.mk k1 bo n1 t1 x1 l1) (.slice ao2 l1.length cap2)).toArray 26)) (G2 + 1) _ _ ∧ Blk (w5.alloc (.cells (six (.mk k1 bo n1 t1 x1 l1) (.slice ao2 l1.length cap2)).toArray 26)) w0.heap.size _ _)
      have hq6 := hq5.alloc (.cells (six (.mk k1 bo n1 t1 x1 l1) (.slice ao2 l1.length cap2)).toArray 26)
      have hn6 := Blk.new w5 (six (.mk k1 bo n1 t1 x1 l1) (.slice ao2 l1.length cap2)).toArray 26
      have hlf6 := hlf5.stay fun b hS hlt => hal.block b hlt
      have hl6 := hl5.stay fun b hS hlt => hal.block b hlt
      have hb6 := hb5'.trans (hal.mono hb5'.size)
      have hm6 := hm5.step (by omega) (fun b hb => hal.block b hb)
      refine hK.out _ _ hV6 (fun hS => ?_)
      clear hK K hV5 hq5 hlf5 hl5 hb5' hal
      try simp only [List.getElem_toArray, List.getElem_cons_succ, List.getElem_cons_zero, Act.put, List.setIfInBounds_toArray, List.set_cons_zero, List.set_cons_succ]
      refine wpAnyL_ready (i := 5) (by kernel_rfl) rfl (fun K hK => ?_)
      clear hS
      refine wp_push1 (.tmp 48) (.tmp 51) rfl N hN (Fr w6.heap.size w0) (Fr V0.heap.size w5) sv (LL.take i) rfl hlf6 ?d2 w5.heap.size (.mk k1 bo n1 t1 x1 l1) (.slice ao2 l1.length cap2) rfl hn6 hl6 ?d3 hok ?d4 ?d5
      case d2 => intro b hb; rw [World.size_alloc]; have := hb.2; omega
      case d3 => intro b hb; exact ⟨by rw [World.size_alloc]; have := hb.2; omega, fun h => by have := h.2; have := hb.1; omega⟩
      case d4 => rw [List.length_take]; omega
      case d5 =>
        intro v' w' hlf' hg hvS
        have hV7 := (⟨(hg.block _ hV6.1.lt (fun e => by have := (hvS _ e.symm).1; omega)).trans hV6.1, (hg.block _ hV6.2.lt (fun e => by have := (hvS _ e.symm).2; omega)).trans hV6.2⟩ : Blk w' (G2 + 1) _ _ ∧ Blk w' w0.heap.size _ _)
        have hq7 : Blk w' G2 _ _ := (hg.block _ hq6.lt (fun e => by have := (hvS _ e.symm).1; omega)).trans hq6
        have hb7 := hb6.grown hg hb6.size (fun g e => by have := (hvS _ e).1; omega)
        have hs7 := hg.size
        rw [World.size_alloc] at hs7
        have hm7 : Mid (w.heap.size + 5) w6 w' := fun b h1 h2 => (hg.block b (by rw [World.size_alloc]; omega) (fun e => by have := (hvS _ e.symm).1; omega)).trans (hm6 b h1 h2)
        have hlf7 := hlf'.mono (S' := Fr w6.heap.size w') (by
          rintro b (hb | hb | hb)
          · exact ⟨hb.1, by have := hb.2; omega⟩
          · exact ⟨by have := hb.1; omega, by have := hb.2; omega⟩
          · exact ⟨by have := hb.1; rw [World.size_alloc] at this; omega, hb.2⟩)
        have hlen7 : (LL.take i ++ [V.mk k1 bo n1 t1 x1 l1]).length = i + 1 := by rw [List.length_append, List.length_take]; simp; omega
        obtain ⟨ao7, cap7, rfl, _⟩ := hlf7.form
        refine hK.out _ _ hV7 (fun hS => ?_)
        clear hK K hV6 hq6 hlf6 hl6 hb6 hn6 hlf' hg hvS hm6 hm5 hmV
        try simp only [List.getElem_toArray, List.getElem_cons_succ, List.getElem_cons_zero, Act.put, List.setIfInBounds_toArray, List.set_cons_zero, List.set_cons_succ]
        refine wpAnyL_take (i := 6) (v := ?_) rfl (by kernel_rfl) (by kernel_rfl) (by kernel_rfl) (by kernel_rfl) (by kernel_rfl) (fun _ _ _ h => h) (.inl ⟨by kernel_rfl, fun w' hS => ?_⟩) hS ?_
        rotate_left
        ·
          skip
          go_simp
          try with_reducible rfl
        simp only [List.getElem_toArray, List.getElem_cons_succ, List.getElem_cons_zero, Act.put, List.setIfInBounds_toArray, List.set_cons_zero, List.set_cons_succ]
        refine wpAnyL_late (i := 7) (by kernel_rfl) rfl (by kernel_rfl) (fun K hK => ?_)
        clear hS
        have f0 := hV7.1.free 5
        have x0 := hV7.1.cell 0 rfl
        have x1 := hV7.1.cell 1 rfl
        have x2 := hV7.1.cell 2 rfl
        have x3 := hV7.1.cell 3 rfl
        have x4 := hV7.1.cell 4 rfl
        have x5 := hV7.1.cell 5 rfl
        go_simp
        go_wp2_with fail
        refine hK.out _ _ ?_
        clear hK K x0 x1 x2 x3 x4 x5 f0
        try simp only [List.getElem_toArray, List.getElem_cons_succ, List.getElem_cons_zero, Act.put, List.setIfInBounds_toArray, List.set_cons_zero, List.set_cons_succ]
        refine wpAnyL_done (by kernel_rfl) ?_ _
        have hq8 := Lib.hid (hq7.set_other ⟨G2 + 1, 5, none⟩ (by simp) (.slice ao7 (i + 1) cap7))
        have hV8 := Lib.hid (hV7.1.set 5 (.slice ao7 (i + 1) cap7))
        have hlf8 := Lib.hid ((hlf7.setCell ⟨G2 + 1, 5, none⟩ (fun h => by have := h.1; simp at this; omega) (.slice ao7 (i + 1) cap7)).mono (S' := Fr w6.heap.size (w'.setCell ⟨G2 + 1, 5, none⟩ (.slice ao7 (i + 1) cap7))) fun b hb => ⟨hb.1, by have := hb.2; simpa only [World.setCell, Array.size_modify] using this⟩)
        rw [hlen7] at hlf8
        have hb8 := Lib.hid (hb7.setCell (p := ⟨G2 + 1, 5, none⟩) (by simp; omega) (.slice ao7 (i + 1) cap7))
        have hm8 : Hid (Mid (w.heap.size + 5) w6 (w'.setCell ⟨G2 + 1, 5, none⟩ (.slice ao7 (i + 1) cap7))) := Lib.hid fun b h1 h2 => (Below.heap_setCell w' ⟨G2 + 1, 5, none⟩ _ b (by simp; omega)).trans (hm7 b h1 h2)
        have hs8 : w6.heap.size ≤ w'.heap.size := by omega
        clear hq7 hV7 hlf7 hb7 hm7
        clear hlen7 hG2
        go_wp2
        go_roundw
        case rel => exact ⟨i + 1, _, by omega, by go_num, by rw [htk.out]; exact hlf8, hV8, hq8, hb8, hm8, by simp [World.setCell]; omega⟩
        case measure => simp [intOf]; omega
    · have hki : ¬ (i : Int) < (LL.length : Int) := by omega
      obtain rfl : i = LL.length := by omega
      have hl3 := hlf.out
      rw [List.take_length] at hl3
      obtain ⟨ao3, cap3, rfl, _⟩ := hl3.form
      have x0 := hq0.out.cell 0 rfl
      have x1 := hq0.out.cell 1 rfl
      have x2 := hq0.out.cell 2 rfl
      have x3 := hq0.out.cell 3 rfl
      have x4 := hq0.out.cell 4 rfl
      have x5 := hq0.out.cell 5 rfl
      have y0 := hq1.out.cell 0 rfl
      have y1 := hq1.out.cell 1 rfl
      have y2 := hq1.out.cell 2 rfl
      have y3 := hq1.out.cell 3 rfl
      have y4 := hq1.out.cell 4 rfl
      have y5 := hq1.out.cell 5 rfl
      have f1 := hq1.out.free
      replace hl3 := Lib.hid hl3
      clear hlf hla hG2
      go_wp2
      have hG2 := hG.out
      have hfin := Blk.set6 hq1.out (.int .i64 k) (.bool false) (.int .i64 0) (.string (t ++ t2)) (.string ByteArray.empty) (.slice ao3 LL.length cap3)
      have hlf := hl3.out.set6 G2 (fun h => by have := h.1; omega) (.int .i64 k) (.bool false) (.int .i64 0) (.string (t ++ t2)) (.string ByteArray.empty) (.slice ao3 LL.length cap3)
      have hbf := Below.set6 hb.out (b := G2) (by omega) (.int .i64 k) (.bool false) (.int .i64 0) (.string (t ++ t2)) (.string ByteArray.empty) (.slice ao3 LL.length cap3)
      obtain rfl := hLL.out
      have hlen : (l ++ l2).length = l.length + l2.length := List.length_append
      refine bodyPost_ret (v := .tuple #[agg6 k false 0 (t ++ t2) ByteArray.empty (.slice ao3 (l ++ l2).length cap3), .int .i64 0]) (res2 rfl _ _ G2 26 _ (0, 0) _ _ rfl rfl hfin.eq Tryz.underlying26 rfl infoV6) rfl ⟨ao3, cap3, by rw [← hlen]; rfl, hbf, ?_⟩
      rw [← hlen]
      exact hlf.mono fun b hb => ⟨by have := hb.1; omega, by have := hb.2; simpa only [World.setCell, Array.size_modify] using this⟩
end Go.Proofs.YtjncjcellpbhcaaGreatDoor.val

/- Contract of value.joined where there is too much. -/
namespace Go.Proofs.YtjncjcellpbhcaaGreatDoor.val
open Go.ChangeShapes Go.WideShapes Go.ChangeAt Go.RowKit kit dec
set_option linter.unusedVariables false
set_option linter.unusedSimpArgs false
/-- The value of nothing. -/
def zeroV : Value := .agg #[.int .i64 0, .bool false, .int .i64 0, .string ByteArray.empty, .string ByteArray.empty, .slice none 0 0]
set_option maxRecDepth 100000 in
set_option maxHeartbeats 4000000 in
theorem joined_no (N : Nat) (hN : N ≤ 1048576) (w : World) (k : Int) (b : Bool) (n : Int) (t x : ByteArray) (s : Value) (l : List V) (k2 : Int) (b2 : Bool) (n2 : Int) (t2 x2 : ByteArray) (s2 : Value) (l2 : List V) (ha : LA w N s l) (hb : LA w N s2 l2) (ht : t.size ≤ N) (ht2 : t2.size ≤ N) (hno : 1048576 < t.size + t2.size ∨ 4096 < l.length + l2.length) :
    Calls Tryz.prog 27 #[agg6 k b n t x s, agg6 k2 b2 n2 t2 x2 s2] w fun e w' => e = .returned (.tuple #[zeroV, .int .i64 2]) ∧ Below w.heap.size w w' := by
  obtain ⟨aoA, capA, rfl⟩ := ha.form6
  obtain ⟨aoB, capB, rfl⟩ := hb.form6
  have h1 := (ha.elems _ _ _ rfl).1
  have h2 := (hb.elems _ _ _ rfl).1
  have hW := (Blk.new ((w.alloc (.cells #[.int .i64 k, .bool b, .int .i64 n, .string t, .string x, .slice aoA l.length capA] 26)).alloc (.cells #[.int .i64 k2, .bool b2, .int .i64 n2, .string t2, .string x2, .slice aoB l2.length capB] 26)) #[.int .i64 0, .bool false, .int .i64 0, .string ByteArray.empty, .string ByteArray.empty, .slice none 0 0] 26)
  have hB : Below w.heap.size w (((w.alloc (.cells #[.int .i64 k, .bool b, .int .i64 n, .string t, .string x, .slice aoA l.length capA] 26)).alloc (.cells #[.int .i64 k2, .bool b2, .int .i64 n2, .string t2, .string x2, .slice aoB l2.length capB] 26)).alloc (.cells #[.int .i64 0, .bool false, .int .i64 0, .string ByteArray.empty, .string ByteArray.empty, .slice none 0 0] 26)) :=
    (((Below.refl _ _).alloc (Nat.le_refl _) _).alloc (by rw [World.size_alloc]; omega) _).alloc (by rw [World.size_alloc, World.size_alloc]; omega) _
  rw [World.size_alloc, World.size_alloc] at hW
  have hti : (t.size : Int) + t2.size ≤ 4000000 := by omega
  have hli : (l.length : Int) + l2.length ≤ 4000000 := by omega
  clear ha hb
  replace hW := Lib.hid hW
  replace hB := Lib.hid hB
  by_cases hx : 1048576 < t.size + t2.size
  · have htn : (t.size : Int) + t2.size > 1048576 := by omega
    clear hno
    go_enter Tryz.func27, Tryz.ntmps27
    unfold agg6
    go_wp2
    refine bodyPost_ret (v := .tuple #[zeroV, .int .i64 2]) (res2 rfl _ _ (w.heap.size + 1 + 1) 26 _ (0, 0) _ _ rfl rfl hW.out.eq Tryz.underlying26 rfl infoV6) rfl ⟨rfl, hB.out⟩
  · have htn : ¬ ((t.size : Int) + t2.size > 1048576) := by omega
    have hln : (l.length : Int) + l2.length > 4096 := by omega
    clear hno
    go_enter Tryz.func27, Tryz.ntmps27
    unfold agg6
    go_wp2
    refine bodyPost_ret (v := .tuple #[zeroV, .int .i64 2]) (res2 rfl _ _ (w.heap.size + 1 + 1) 26 _ (0, 0) _ _ rfl rfl hW.out.eq Tryz.underlying26 rfl infoV6) rfl ⟨rfl, hB.out⟩
end Go.Proofs.YtjncjcellpbhcaaGreatDoor.val

/- Contracts of value.decimals, diptychref2.whole: what an operation makes of two decimals. -/
namespace Go.Proofs.YtjncjcellpbhcaaGreatDoor.val
open Go.ChangeShapes Go.WideShapes Go.ChangeAt Go.RowKit kit dec
set_option linter.unusedVariables false
set_option linter.unusedSimpArgs false
/-- What an operation makes of two decimals' texts. -/
def decP (op : Int) (a b : List UInt8) : List UInt8 × Int :=
  if op = 17 then addR a b else if op = 18 then subR a b else if op = 19 then mulT a b else if op = 20 then divT a b else ([], 4)
/-- A decimal told as a value, or its error. -/
def wholeR (p : List UInt8 × Int) : Value := if p.2 = 0 then .tuple #[.agg #[.int .i64 3, .bool false, .int .i64 0, .string (tx p.1), .string ByteArray.empty, .slice none 0 0], .int .i64 0] else .tuple #[zeroV, .int .i64 p.2]
set_option maxRecDepth 100000 in
set_option maxHeartbeats 4000000 in
theorem rwhole_call (p : List UInt8 × Int) (w : World) : Calls Tryz.prog 34 #[.string (tx p.1), .int .i64 p.2] w fun e w' => e = .returned (wholeR p) ∧ Below w.heap.size w w' := by
  obtain ⟨l, e⟩ := p
  unfold wholeR
  have hbl : ∀ cs : Array Value, Below w.heap.size w (w.alloc (.cells cs 26)) := fun cs => (Below.refl _ _).alloc (Nat.le_refl _) _
  replace hbl := Lib.hid hbl
  generalize tx l = T
  by_cases he : e = 0
  · subst he
    simp only [if_true]
    go_enter Tryz.func34, Tryz.ntmps34
    go_wp2
    exact bodyPost_ret (v := .tuple #[.agg #[.int .i64 3, .bool false, .int .i64 0, .string T, .string ByteArray.empty, .slice none 0 0], .int .i64 0]) (res2 rfl _ _ w.heap.size 26 _ (0, 0) _ _ rfl rfl (Blk.new w _ _).eq Tryz.underlying26 rfl infoV6) rfl ⟨rfl, hbl.out _⟩
  · simp only [if_neg he]
    go_enter Tryz.func34, Tryz.ntmps34
    go_wp2
    exact bodyPost_ret (v := .tuple #[zeroV, .int .i64 e]) (res2 rfl _ _ w.heap.size 26 _ (0, 0) _ _ rfl rfl (Blk.new w _ _).eq Tryz.underlying26 rfl infoV6) rfl ⟨rfl, hbl.out _⟩
set_option maxRecDepth 100000 in
set_option maxHeartbeats 4000000 in
theorem decimals_call (op : Int) (a b : ByteArray) (w : World) (hE : Env w) : Calls Tryz.prog 30 #[.int .i64 op, .string a, .string b] w fun e w' => e = .returned (wholeR (decP op a.data.toList b.data.toList)) ∧ Below w.heap.size w w' := by
  have hbl : Below w.heap.size w (w.alloc (.cells #[.int .i64 0, .bool false, .int .i64 0, .string ByteArray.empty, .string ByteArray.empty, .slice none 0 0] 26)) := (Below.refl _ _).alloc (Nat.le_refl _) _
  have hq := Blk.new w #[.int .i64 0, .bool false, .int .i64 0, .string ByteArray.empty, .string ByteArray.empty, .slice none 0 0] 26
  by_cases h : op = 17
  · subst h
    have hcl := add_call a b (w.alloc (.cells #[.int .i64 0, .bool false, .int .i64 0, .string ByteArray.empty, .string ByteArray.empty, .slice none 0 0] 26)) (hE.below hbl)
    have hR : decP 17 a.data.toList b.data.toList = addR a.data.toList b.data.toList := by unfold decP; simp
    rw [hR]
    clear hR
    generalize addR a.data.toList b.data.toList = R at *
    obtain ⟨l, e⟩ := R
    unfold rv at hcl
    unfold wholeR
    generalize tx l = T at *
    replace hcl := Lib.hid hcl
    replace hbl := Lib.hid hbl
    replace hq := Lib.hid hq
    clear hE
    by_cases he : e = 0
    · subst he
      simp only [if_true]
      go_enter Tryz.func30, Tryz.ntmps30
      go_wp2_with fail
      refine (hcl.out).mono ?_
      rintro e w1 ⟨rfl, hb1⟩
      have hq1 : Blk w1 w.heap.size _ _ := hq.out.keep (Keep.ofBelow hb1) (by simp)
      have hb2 := Lib.hid (hbl.out.trans (hb1.mono hbl.out.size))
      have x0 := hq1.cell 0 rfl
      have x1 := hq1.cell 1 rfl
      have x2 := hq1.cell 2 rfl
      have x3 := hq1.cell 3 rfl
      have x4 := hq1.cell 4 rfl
      have x5 := hq1.cell 5 rfl
      have f1 := hq1.free
      replace hq1 := Lib.hid hq1
      clear hcl hb1
      go_wp2
      have hfin := Blk.set6 hq1.out (.int .i64 3) (.bool false) (.int .i64 0) (.string T) (.string ByteArray.empty) (.slice none 0 0)
      exact bodyPost_ret (v := .tuple #[.agg #[.int .i64 3, .bool false, .int .i64 0, .string T, .string ByteArray.empty, .slice none 0 0], .int .i64 0]) (res2 rfl _ _ w.heap.size 26 _ (0, 0) _ _ rfl rfl hfin.eq Tryz.underlying26 rfl infoV6) rfl ⟨rfl, Below.set6 hb2.out (Nat.le_refl _) _ _ _ _ _ _⟩
    · simp only [if_neg he]
      go_enter Tryz.func30, Tryz.ntmps30
      go_wp2_with fail
      refine (hcl.out).mono ?_
      rintro e1 w1 ⟨rfl, hb1⟩
      have hq1 : Blk w1 w.heap.size _ _ := hq.out.keep (Keep.ofBelow hb1) (by simp)
      have hb2 := Lib.hid (hbl.out.trans (hb1.mono hbl.out.size))
      have x0 := hq1.cell 0 rfl
      have x1 := hq1.cell 1 rfl
      have x2 := hq1.cell 2 rfl
      have x3 := hq1.cell 3 rfl
      have x4 := hq1.cell 4 rfl
      have x5 := hq1.cell 5 rfl
      have f1 := hq1.free
      replace hq1 := Lib.hid hq1
      clear hcl hb1
      go_wp2
      have hfin := Blk.set6 hq1.out (.int .i64 0) (.bool false) (.int .i64 0) (.string ByteArray.empty) (.string ByteArray.empty) (.slice none 0 0)
      exact bodyPost_ret (v := .tuple #[zeroV, .int .i64 e]) (res2 rfl _ _ w.heap.size 26 _ (0, 0) _ _ rfl rfl hfin.eq Tryz.underlying26 rfl infoV6) rfl ⟨rfl, Below.set6 hb2.out (Nat.le_refl _) _ _ _ _ _ _⟩
  by_cases h : op = 18
  · subst h
    have hcl := sub_call a b (w.alloc (.cells #[.int .i64 0, .bool false, .int .i64 0, .string ByteArray.empty, .string ByteArray.empty, .slice none 0 0] 26)) (hE.below hbl)
    have hR : decP 18 a.data.toList b.data.toList = subR a.data.toList b.data.toList := by unfold decP; simp
    rw [hR]
    clear hR
    generalize subR a.data.toList b.data.toList = R at *
    obtain ⟨l, e⟩ := R
    unfold rv at hcl
    unfold wholeR
    generalize tx l = T at *
    replace hcl := Lib.hid hcl
    replace hbl := Lib.hid hbl
    replace hq := Lib.hid hq
    clear hE
    by_cases he : e = 0
    · subst he
      simp only [if_true]
      go_enter Tryz.func30, Tryz.ntmps30
      go_wp2_with fail
      refine (hcl.out).mono ?_
      rintro e w1 ⟨rfl, hb1⟩
      have hq1 : Blk w1 w.heap.size _ _ := hq.out.keep (Keep.ofBelow hb1) (by simp)
      have hb2 := Lib.hid (hbl.out.trans (hb1.mono hbl.out.size))
      have x0 := hq1.cell 0 rfl
      have x1 := hq1.cell 1 rfl
      have x2 := hq1.cell 2 rfl
      have x3 := hq1.cell 3 rfl
      have x4 := hq1.cell 4 rfl
      have x5 := hq1.cell 5 rfl
      have f1 := hq1.free
      replace hq1 := Lib.hid hq1
      clear hcl hb1
      go_wp2
      have hfin := Blk.set6 hq1.out (.int .i64 3) (.bool false) (.int .i64 0) (.string T) (.string ByteArray.empty) (.slice none 0 0)
      exact bodyPost_ret (v := .tuple #[.agg #[.int .i64 3, .bool false, .int .i64 0, .string T, .string ByteArray.empty, .slice none 0 0], .int .i64 0]) (res2 rfl _ _ w.heap.size 26 _ (0, 0) _ _ rfl rfl hfin.eq Tryz.underlying26 rfl infoV6) rfl ⟨rfl, Below.set6 hb2.out (Nat.le_refl _) _ _ _ _ _ _⟩
    · simp only [if_neg he]
      go_enter Tryz.func30, Tryz.ntmps30
      go_wp2_with fail
      refine (hcl.out).mono ?_
      rintro e1 w1 ⟨rfl, hb1⟩
      have hq1 : Blk w1 w.heap.size _ _ := hq.out.keep (Keep.ofBelow hb1) (by simp)
      have hb2 := Lib.hid (hbl.out.trans (hb1.mono hbl.out.size))
      have x0 := hq1.cell 0 rfl
      have x1 := hq1.cell 1 rfl
      have x2 := hq1.cell 2 rfl
      have x3 := hq1.cell 3 rfl
      have x4 := hq1.cell 4 rfl
      have x5 := hq1.cell 5 rfl
      have f1 := hq1.free
      replace hq1 := Lib.hid hq1
      clear hcl hb1
      go_wp2
      have hfin := Blk.set6 hq1.out (.int .i64 0) (.bool false) (.int .i64 0) (.string ByteArray.empty) (.string ByteArray.empty) (.slice none 0 0)
      exact bodyPost_ret (v := .tuple #[zeroV, .int .i64 e]) (res2 rfl _ _ w.heap.size 26 _ (0, 0) _ _ rfl rfl hfin.eq Tryz.underlying26 rfl infoV6) rfl ⟨rfl, Below.set6 hb2.out (Nat.le_refl _) _ _ _ _ _ _⟩
  by_cases h : op = 19
  · subst h
    have hcl := mul_call a b (w.alloc (.cells #[.int .i64 0, .bool false, .int .i64 0, .string ByteArray.empty, .string ByteArray.empty, .slice none 0 0] 26)) (hE.below hbl)
    have hR : decP 19 a.data.toList b.data.toList = mulT a.data.toList b.data.toList := by unfold decP; simp
    rw [hR]
    clear hR
    generalize mulT a.data.toList b.data.toList = R at *
    obtain ⟨l, e⟩ := R
    unfold rv at hcl
    unfold wholeR
    generalize tx l = T at *
    replace hcl := Lib.hid hcl
    replace hbl := Lib.hid hbl
    replace hq := Lib.hid hq
    clear hE
    by_cases he : e = 0
    · subst he
      simp only [if_true]
      go_enter Tryz.func30, Tryz.ntmps30
      go_wp2_with fail
      refine (hcl.out).mono ?_
      rintro e w1 ⟨rfl, hb1⟩
      have hq1 : Blk w1 w.heap.size _ _ := hq.out.keep (Keep.ofBelow hb1) (by simp)
      have hb2 := Lib.hid (hbl.out.trans (hb1.mono hbl.out.size))
      have x0 := hq1.cell 0 rfl
      have x1 := hq1.cell 1 rfl
      have x2 := hq1.cell 2 rfl
      have x3 := hq1.cell 3 rfl
      have x4 := hq1.cell 4 rfl
      have x5 := hq1.cell 5 rfl
      have f1 := hq1.free
      replace hq1 := Lib.hid hq1
      clear hcl hb1
      go_wp2
      have hfin := Blk.set6 hq1.out (.int .i64 3) (.bool false) (.int .i64 0) (.string T) (.string ByteArray.empty) (.slice none 0 0)
      exact bodyPost_ret (v := .tuple #[.agg #[.int .i64 3, .bool false, .int .i64 0, .string T, .string ByteArray.empty, .slice none 0 0], .int .i64 0]) (res2 rfl _ _ w.heap.size 26 _ (0, 0) _ _ rfl rfl hfin.eq Tryz.underlying26 rfl infoV6) rfl ⟨rfl, Below.set6 hb2.out (Nat.le_refl _) _ _ _ _ _ _⟩
    · simp only [if_neg he]
      go_enter Tryz.func30, Tryz.ntmps30
      go_wp2_with fail
      refine (hcl.out).mono ?_
      rintro e1 w1 ⟨rfl, hb1⟩
      have hq1 : Blk w1 w.heap.size _ _ := hq.out.keep (Keep.ofBelow hb1) (by simp)
      have hb2 := Lib.hid (hbl.out.trans (hb1.mono hbl.out.size))
      have x0 := hq1.cell 0 rfl
      have x1 := hq1.cell 1 rfl
      have x2 := hq1.cell 2 rfl
      have x3 := hq1.cell 3 rfl
      have x4 := hq1.cell 4 rfl
      have x5 := hq1.cell 5 rfl
      have f1 := hq1.free
      replace hq1 := Lib.hid hq1
      clear hcl hb1
      go_wp2
      have hfin := Blk.set6 hq1.out (.int .i64 0) (.bool false) (.int .i64 0) (.string ByteArray.empty) (.string ByteArray.empty) (.slice none 0 0)
      exact bodyPost_ret (v := .tuple #[zeroV, .int .i64 e]) (res2 rfl _ _ w.heap.size 26 _ (0, 0) _ _ rfl rfl hfin.eq Tryz.underlying26 rfl infoV6) rfl ⟨rfl, Below.set6 hb2.out (Nat.le_refl _) _ _ _ _ _ _⟩
  by_cases h : op = 20
  · subst h
    have hcl := div_call a b (w.alloc (.cells #[.int .i64 0, .bool false, .int .i64 0, .string ByteArray.empty, .string ByteArray.empty, .slice none 0 0] 26)) (hE.below hbl)
    have hR : decP 20 a.data.toList b.data.toList = divT a.data.toList b.data.toList := by unfold decP; simp
    rw [hR]
    clear hR
    generalize divT a.data.toList b.data.toList = R at *
    obtain ⟨l, e⟩ := R
    unfold rv at hcl
    unfold wholeR
    generalize tx l = T at *
    replace hcl := Lib.hid hcl
    replace hbl := Lib.hid hbl
    replace hq := Lib.hid hq
    clear hE
    by_cases he : e = 0
    · subst he
      simp only [if_true]
      go_enter Tryz.func30, Tryz.ntmps30
      go_wp2_with fail
      refine (hcl.out).mono ?_
      rintro e w1 ⟨rfl, hb1⟩
      have hq1 : Blk w1 w.heap.size _ _ := hq.out.keep (Keep.ofBelow hb1) (by simp)
      have hb2 := Lib.hid (hbl.out.trans (hb1.mono hbl.out.size))
      have x0 := hq1.cell 0 rfl
      have x1 := hq1.cell 1 rfl
      have x2 := hq1.cell 2 rfl
      have x3 := hq1.cell 3 rfl
      have x4 := hq1.cell 4 rfl
      have x5 := hq1.cell 5 rfl
      have f1 := hq1.free
      replace hq1 := Lib.hid hq1
      clear hcl hb1
      go_wp2
      have hfin := Blk.set6 hq1.out (.int .i64 3) (.bool false) (.int .i64 0) (.string T) (.string ByteArray.empty) (.slice none 0 0)
      exact bodyPost_ret (v := .tuple #[.agg #[.int .i64 3, .bool false, .int .i64 0, .string T, .string ByteArray.empty, .slice none 0 0], .int .i64 0]) (res2 rfl _ _ w.heap.size 26 _ (0, 0) _ _ rfl rfl hfin.eq Tryz.underlying26 rfl infoV6) rfl ⟨rfl, Below.set6 hb2.out (Nat.le_refl _) _ _ _ _ _ _⟩
    · simp only [if_neg he]
      go_enter Tryz.func30, Tryz.ntmps30
      go_wp2_with fail
      refine (hcl.out).mono ?_
      rintro e1 w1 ⟨rfl, hb1⟩
      have hq1 : Blk w1 w.heap.size _ _ := hq.out.keep (Keep.ofBelow hb1) (by simp)
      have hb2 := Lib.hid (hbl.out.trans (hb1.mono hbl.out.size))
      have x0 := hq1.cell 0 rfl
      have x1 := hq1.cell 1 rfl
      have x2 := hq1.cell 2 rfl
      have x3 := hq1.cell 3 rfl
      have x4 := hq1.cell 4 rfl
      have x5 := hq1.cell 5 rfl
      have f1 := hq1.free
      replace hq1 := Lib.hid hq1
      clear hcl hb1
      go_wp2
      have hfin := Blk.set6 hq1.out (.int .i64 0) (.bool false) (.int .i64 0) (.string ByteArray.empty) (.string ByteArray.empty) (.slice none 0 0)
      exact bodyPost_ret (v := .tuple #[zeroV, .int .i64 e]) (res2 rfl _ _ w.heap.size 26 _ (0, 0) _ _ rfl rfl hfin.eq Tryz.underlying26 rfl infoV6) rfl ⟨rfl, Below.set6 hb2.out (Nat.le_refl _) _ _ _ _ _ _⟩
  have hR : decP op a.data.toList b.data.toList = ([], 4) := by unfold decP; simp [*]
  rw [hR]
  clear hR hE
  replace hbl := Lib.hid hbl
  replace hq := Lib.hid hq
  unfold wholeR
  go_enter Tryz.func30, Tryz.ntmps30
  go_wp2
  exact bodyPost_ret (v := .tuple #[zeroV, .int .i64 4]) (res2 rfl _ _ w.heap.size 26 _ (0, 0) _ _ rfl rfl hq.out.eq Tryz.underlying26 rfl infoV6) rfl ⟨rfl, hbl.out⟩
end Go.Proofs.YtjncjcellpbhcaaGreatDoor.val
