/- Joins by hash and by loop, differences, half joins and what is left are the reference's, of any two tables, which may be or not; what is handed in stays: for every two tables, a language and conditions, not above the bound of the statement, that may be read, where the listed variables of the library hold what the program's text lays. -/
import Derived.Test.YtidplkfhodpdhaaGreatDoorJxA
import Derived.Test.YtidplkfhodpdhaaGreatDoorVMadeA
namespace Go.Proofs.YtidplkfhodpdhaaGreatDoor.tab
open Go.ChangeShapes Go.WideShapes Go.ChangeAt Go.RowKit kit dec val
open hyp (RowA TextsA CellsStay stay_of_below textsV textsV_length own_row)
set_option linter.unusedVariables false
set_option linter.unusedSimpArgs false
theorem out_cell {S : Nat → Prop} {a b : World} (h : Out S a b) {k i : Nat} {v : Value} (hk : ¬ S k) (hc : a.cell? ⟨k, i, none⟩ = some v) : b.cell? ⟨k, i, none⟩ = some v := (cell_heapx (h.block k (cell_lowT hc) hk)).trans hc
theorem _root_.Go.Proofs.YtidplkfhodpdhaaGreatDoor.val.Out.mono {S S' : Nat → Prop} {a b : World} (h : Out S a b) (hs : ∀ b, S b → S' b) : Out S' a b := (Out.refl S' a).trans h hs
def pick5 (l0 l1 l2 l3 l4 l5 : Nat) : Nat → Nat
 | 0 => l0
 | 1 => l1
 | 2 => l2
 | 3 => l3
 | 4 => l4
 | _ => l5
theorem tab_small {t : Tab} {n : Nat} (h : mayT t = true) (hn : t.rows.length ≤ n) : t.vars.length ≤ 64 ∧ t.rows.length ≤ n ∧ ∀ r ∈ t.rows, r.length ≤ 64 := by
 obtain ⟨h1, h2⟩ := may_rows h
 obtain ⟨h3, -, -⟩ := names_parts h1
 exact ⟨h3, hn, fun r hr => by rw [row_len (h2 r hr)]; exact h3⟩
structure ExW (w0 w9 wr : World) (pw N : Nat) (s0 s1 m0 m1 na rv3 rv4 : Value) (L3 L4 : List (List V)) : Prop where
 bl : Below w0.heap.size w0 wr
 out : Out (fun b => b = pw) w9 wr
 q : Blk wr pw #[s0, s1, s0, s1, m0, m1, na, rv3, na, rv4] 32
 r3 : RO w0 wr w9.heap.size N rv3 L3
 r4 : RO w0 wr w9.heap.size N rv4 L4
 apart : rv3.ownBlock = none ∨ rv3.ownBlock ≠ rv4.ownBlock
 low : w0.heap.size ≤ pw ∧ pw < w9.heap.size
theorem ExW.stay {w0 w9 wr W : World} {pw N : Nat} {s0 s1 m0 m1 na rv3 rv4 : Value} {L3 L4 : List (List V)} (h : ExW w0 w9 wr pw N s0 s1 m0 m1 na rv3 rv4 L3 L4) (hb : Below wr.heap.size wr W) : ExW w0 w9 W pw N s0 s1 m0 m1 na rv3 rv4 L3 L4 :=
 ⟨h.bl.trans (hb.mono h.bl.size), h.out.trans (Out.ofBelow (S := fun b => b = pw) hb) (fun _ h => h), (hb.block _ h.q.lt).trans h.q, h.r3.keep fun g hg => hb.block g (h.r3.lt g hg).2, h.r4.keep fun g hg => hb.block g (h.r4.lt g hg).2, h.apart, h.low⟩
theorem ex_new {wr : World} {v' v u : Value} (hu : ∀ g, u.ownBlock = some g → g < wr.heap.size) (h : v.ownBlock = none ∨ v.ownBlock ≠ u.ownBlock) (hat : v'.ownBlock = v.ownBlock ∨ v'.ownBlock = some wr.heap.size) : v'.ownBlock = none ∨ v'.ownBlock ≠ u.ownBlock := by
 rcases hat with e | e
 ·rw [e]; exact h
 ·refine .inr ?_
  rw [e]
  intro e2
  have := hu _ e2.symm
  omega
theorem _root_.Go.Proofs.YtidplkfhodpdhaaGreatDoor.val.Out.grownNew {S : Nat → Prop} {a b c : World} {o : Option Nat} (h : Out S a b) (hg : b.grownBy c o) (ho : ∀ g, o = some g → a.heap.size ≤ g) : Out S a c :=
 ⟨hg.os.trans h.os, hg.tape.trans h.tape, hg.output.trans h.output, Nat.le_trans h.size hg.size, fun k hk hn => (hg.block k (Nat.lt_of_lt_of_le hk h.size) (fun e => by have := ho k e.symm; omega)).trans (h.block k hk hn)⟩
theorem ExW.next3 {w0 w9 wr w' : World} {pw N : Nat} {s0 s1 m0 m1 na rv3 rv4 v' : Value} {L3 L4 L : List (List V)} (h : ExW w0 w9 wr pw N s0 s1 m0 m1 na rv3 rv4 L3 L4) (hR : RO w0 w' w9.heap.size N v' L) (hg : wr.grownBy w' rv3.ownBlock) (hat : v'.ownBlock = rv3.ownBlock ∨ v'.ownBlock = some wr.heap.size) :
 Blk w' pw #[s0, s1, s0, s1, m0, m1, na, rv3, na, rv4] 32 ∧ Below w0.heap.size w0 w' ∧ ExW w0 w9 (w'.setCell ⟨pw, 7, none⟩ v') pw N s0 s1 m0 m1 na v' rv4 L L4 := by
 have h1 : Blk w' pw #[s0, s1, s0, s1, m0, m1, na, rv3, na, rv4] 32 := (hg.block _ h.q.lt (fun e => by have := (h.r3.lt _ e.symm).1; have := h.low.2; omega)).trans h.q
 have hw9 : w0.heap.size ≤ w9.heap.size := by have := h.low; omega
 have h2 := h.bl.grown hg h.bl.size (fun g e => by have := (h.r3.lt g e).1; omega)
 have h3 := Out.grownNew h.out hg (fun g e => (h.r3.lt g e).1)
 refine ⟨h1, h2, h2.setCell (p := ⟨pw, 7, none⟩) h.low.1 v', h3.setCell ⟨pw, 7, none⟩ rfl v', h1.set 7 v', ?_, ?_, ex_new (fun g e => (h.r4.lt g e).2) h.apart hat, h.low⟩
 ·exact hR.keep fun g e => Below.heap_setCell _ _ _ g (by have := (hR.lt g e).1; have := h.low.2; simp; omega)
 ·exact h.r4.keep fun g e => (Below.heap_setCell _ _ _ g (by have := (h.r4.lt g e).1; have := h.low.2; simp; omega)).trans (hg.block g (h.r4.lt g e).2 (fun e2 => by
   rcases h.apart with h5 | h5
   ·rw [h5] at e2; cases e2
   ·exact h5 (by rw [e, ← e2])))
theorem ExW.next4 {w0 w9 wr w' : World} {pw N : Nat} {s0 s1 m0 m1 na rv3 rv4 v' : Value} {L3 L4 L : List (List V)} (h : ExW w0 w9 wr pw N s0 s1 m0 m1 na rv3 rv4 L3 L4) (hR : RO w0 w' w9.heap.size N v' L) (hg : wr.grownBy w' rv4.ownBlock) (hat : v'.ownBlock = rv4.ownBlock ∨ v'.ownBlock = some wr.heap.size) :
 Blk w' pw #[s0, s1, s0, s1, m0, m1, na, rv3, na, rv4] 32 ∧ Below w0.heap.size w0 w' ∧ ExW w0 w9 (w'.setCell ⟨pw, 9, none⟩ v') pw N s0 s1 m0 m1 na rv3 v' L3 L := by
 have h1 : Blk w' pw #[s0, s1, s0, s1, m0, m1, na, rv3, na, rv4] 32 := (hg.block _ h.q.lt (fun e => by have := (h.r4.lt _ e.symm).1; have := h.low.2; omega)).trans h.q
 have hw9 : w0.heap.size ≤ w9.heap.size := by have := h.low; omega
 have h2 := h.bl.grown hg h.bl.size (fun g e => by have := (h.r4.lt g e).1; omega)
 have h3 := Out.grownNew h.out hg (fun g e => (h.r4.lt g e).1)
 have hap : rv4.ownBlock = none ∨ rv4.ownBlock ≠ rv3.ownBlock := by
  rcases h.apart with h5 | h5
  ·cases h6 : rv4.ownBlock with
   | none => exact .inl rfl
   | some g => exact .inr (by rw [h5]; simp)
  ·exact .inr (Ne.symm h5)
 have hap2 := ex_new (fun g e => (h.r3.lt g e).2) hap hat
 refine ⟨h1, h2, h2.setCell (p := ⟨pw, 9, none⟩) h.low.1 v', h3.setCell ⟨pw, 9, none⟩ rfl v', h1.set 9 v', ?_, ?_, ?_, h.low⟩
 ·exact h.r3.keep fun g e => (Below.heap_setCell _ _ _ g (by have := (h.r3.lt g e).1; have := h.low.2; simp; omega)).trans (hg.block g (h.r3.lt g e).2 (fun e2 => by
   rcases hap with h5 | h5
   ·rw [h5] at e2; cases e2
   ·exact h5 (by rw [e, ← e2])))
 ·exact hR.keep fun g e => Below.heap_setCell _ _ _ g (by have := (hR.lt g e).1; have := h.low.2; simp; omega)
 ·rcases hap2 with h5 | h5
  ·cases h6 : rv3.ownBlock with
   | none => exact .inl rfl
   | some g => exact .inr (by rw [h5]; simp)
  ·exact .inr (Ne.symm h5)
set_option maxRecDepth 100000 in
set_option maxHeartbeats 16000000 in
theorem jexact_any (w : World) (hE : Env w) (v va ra vb rb ov : Value) (A B : Tab) (lang : Int) (hT : TwoJ w 1048576 v va ra vb rb ov A B lang) :
 Calls Tryz.prog 3 #[v] w fun e w' => e = .returned (.bool true) ∧ Below w.heap.size w w' := by
 obtain ⟨av, cv, hav, -⟩ := hT.av.form
 obtain ⟨ar, cr, har, -, -⟩ := hT.ar.form
 obtain ⟨bv, dv, hbv, -⟩ := hT.bv.form
 obtain ⟨br, dr, hbr, -, -⟩ := hT.br.form
 obtain ⟨oo, lo, co, hov⟩ := hT.ov
 subst hav har hbv hbr hov
 have hveq := hT.eq
 subst hveq
 have hfew := hT.few
 have hq := Blk.new w #[.slice av A.vars.length cv, .slice ar A.rows.length cr, .slice bv B.vars.length dv, .slice br B.rows.length dr, .int .i64 lang, .slice oo lo co] 28
 have hal : Below w.heap.size w (w.alloc (.cells #[.slice av A.vars.length cv, .slice ar A.rows.length cr, .slice bv B.vars.length dv, .slice br B.rows.length dr, .int .i64 lang, .slice oo lo co] 28)) := (Below.refl _ _).alloc (Nat.le_refl _) _
 have cL := Lib.hid (lightJ_any _ 1048576 (by omega) _ _ _ _ _ _ A B lang (hT.stay hal))
 have x0 := hq.cell 0 rfl
 have x1 := hq.cell 1 rfl
 have x2 := hq.cell 2 rfl
 have x3 := hq.cell 3 rfl
 have x4 := hq.cell 4 rfl
 have x5 := hq.cell 5 rfl
 replace hal := Lib.hid hal
 clear hq
 go_enter Tryz.func3, Tryz.ntmps3
 go_wp2_with fail
 refine cL.out.mono ?_
 rintro e w2 ⟨rfl, hb2⟩
 replace x0 := (stay_of_below hb2).cell x0
 replace x1 := (stay_of_below hb2).cell x1
 replace x2 := (stay_of_below hb2).cell x2
 replace x3 := (stay_of_below hb2).cell x3
 replace x4 := (stay_of_below hb2).cell x4
 replace x5 := (stay_of_below hb2).cell x5
 have hB2 := hal.out.trans (hb2.mono hal.out.size)
 cases hl : lightJ A B with
 | false =>
  replace hB2 := Lib.hid hB2
  clear cL hb2 hal x0 x1 x2 x3 x4 x5
  go_wp2_with fail
  refine (wakesJ_any _ (hE.below hB2.out)).mono ?_
  rintro e wz ⟨rfl, hbz⟩
  have hbzz := Lib.hid (hB2.out.trans (hbz.mono hB2.out.size))
  clear hbz
  go_wp2
  go_ret
  exact ⟨rfl, hbzz.out⟩
 | true =>
  obtain ⟨l1, l2, l3, l4, l5, l6⟩ := lightJ_parts hl
  obtain ⟨wtA, wtB⟩ := wt_lightJ hl
  replace hl := Lib.hid hl
  replace wtA := Lib.hid wtA
  replace wtB := Lib.hid wtB
  have hTh := Lib.hid (fun V (h : Below w.heap.size w V) => hT.stay h)
  have hEh := Lib.hid (fun V (h : Below w.heap.size w V) => hE.below h)
  have c1 := Lib.hid (copyTab_any 1048576 (by omega) w2 _ A (hTh.out _ hB2).tabA (by omega) (by omega))
  have c2 := Lib.hid (fun V (h : Below w.heap.size w V) => copyTab_any 1048576 (by omega) V _ B (hTh.out _ h).tabB (by omega) (by omega))
  clear cL hb2 hal l1 l2 hT hE
  go_wp2_with fail
  refine (c1.out).mono ?_
  rintro e w3 ⟨v, rfl, hO⟩
  obtain ⟨vv, rv, rfl, hbw3, hown, hszs, hMR⟩ := hO
  obtain ⟨anw3, cnw3, hvn⟩ := own_form4x hown
  obtain ⟨arw3, crw3, hvr⟩ := hMR.form
  subst hvn
  subst hvr
  have tw3 : TabA w3 1048576 _ _ := ⟨_, _, rfl, ⟨own_row (by rw [textsV_length]; exact hown), hszs⟩, hMR.read⟩
  clear hown hszs hMR
  have halw4 : Below w3.heap.size w3 (w3.alloc (.cells #[.slice anw3 A.vars.length cnw3, .slice arw3 A.rows.length crw3] 25)) := (Below.refl _ _).alloc (Nat.le_refl _) _
  have qw4 := Blk.new w3 #[.slice anw3 A.vars.length cnw3, .slice arw3 A.rows.length crw3] 25
  have tw4 := tw3.stay halw4
  have hw3 := hB2.trans (hbw3.mono hB2.size)
  have hw4 := hw3.trans (halw4.mono hw3.size)
  replace x0 := (stay_of_below hbw3).cell x0
  replace x1 := (stay_of_below hbw3).cell x1
  replace x2 := (stay_of_below hbw3).cell x2
  replace x3 := (stay_of_below hbw3).cell x3
  replace x4 := (stay_of_below hbw3).cell x4
  replace x5 := (stay_of_below hbw3).cell x5
  replace x0 := (stay_of_below halw4).cell x0
  replace x1 := (stay_of_below halw4).cell x1
  replace x2 := (stay_of_below halw4).cell x2
  replace x3 := (stay_of_below halw4).cell x3
  replace x4 := (stay_of_below halw4).cell x4
  replace x5 := (stay_of_below halw4).cell x5
  clear hbw3 halw4 hw3 tw3 c1
  have c2' := Lib.hid (c2.out _ hw4)
  clear c2
  go_wp2_with fail
  obtain ⟨pa, hpa⟩ : ∃ p, w3.heap.size = p := ⟨_, rfl⟩
  rw [hpa] at qw4
  try rw [hpa]
  generalize w3.alloc (.cells #[.slice anw3 A.vars.length cnw3, .slice arw3 A.rows.length crw3] 25) = w4 at *
  replace hpa := Lib.hid hpa
  refine (c2'.out).mono ?_
  rintro e w5 ⟨v, rfl, hO⟩
  obtain ⟨vv, rv, rfl, hbw5, hown, hszs, hMR⟩ := hO
  obtain ⟨anw5, cnw5, hvn⟩ := own_form4x hown
  obtain ⟨arw5, crw5, hvr⟩ := hMR.form
  subst hvn
  subst hvr
  have tw5 : TabA w5 1048576 _ _ := ⟨_, _, rfl, ⟨own_row (by rw [textsV_length]; exact hown), hszs⟩, hMR.read⟩
  clear hown hszs hMR
  have halw6 : Below w5.heap.size w5 (w5.alloc (.cells #[.slice anw5 B.vars.length cnw5, .slice arw5 B.rows.length crw5] 25)) := (Below.refl _ _).alloc (Nat.le_refl _) _
  have qw6 := Blk.new w5 #[.slice anw5 B.vars.length cnw5, .slice arw5 B.rows.length crw5] 25
  have tw6 := tw5.stay halw6
  have hw5 := hw4.trans (hbw5.mono hw4.size)
  have hw6 := hw5.trans (halw6.mono hw5.size)
  replace x0 := (stay_of_below hbw5).cell x0
  replace x1 := (stay_of_below hbw5).cell x1
  replace x2 := (stay_of_below hbw5).cell x2
  replace x3 := (stay_of_below hbw5).cell x3
  replace x4 := (stay_of_below hbw5).cell x4
  replace x5 := (stay_of_below hbw5).cell x5
  replace x0 := (stay_of_below halw6).cell x0
  replace x1 := (stay_of_below halw6).cell x1
  replace x2 := (stay_of_below halw6).cell x2
  replace x3 := (stay_of_below halw6).cell x3
  replace x4 := (stay_of_below halw6).cell x4
  replace x5 := (stay_of_below halw6).cell x5
  have hb46 := hbw5.trans (halw6.mono hbw5.size)
  have q46 := qw4.keep (Keep.ofBelow hb46) (by simp)
  have t46 := tw4.stay hb46
  clear hbw5 halw6 hw5 tw5 c2' hb46 qw4 tw4 hw4
  go_upto_region 6 with fail
  obtain ⟨pb, hpb⟩ : ∃ p, w5.heap.size = p := ⟨_, rfl⟩
  have hs6 := World.size_alloc w5 (.cells #[.slice anw5 B.vars.length cnw5, .slice arw5 B.rows.length crw5] 25)
  rw [hpb] at qw6 hs6
  try rw [hpb]
  replace hpb := Lib.hid hpb
  generalize w5.alloc (.cells #[.slice anw5 B.vars.length cnw5, .slice arw5 B.rows.length crw5] 25) = w6 at *
  have hq7 := Blk.new w6 #[.slice none 0 0, .slice none 0 0, .slice none 0 0, .slice none 0 0, .slice none 0 0, .slice none 0 0, .slice none 0 0, .slice none 0 0, .slice none 0 0, .slice none 0 0] 32
  have hal7 : Below w6.heap.size w6 (w6.alloc (.cells #[.slice none 0 0, .slice none 0 0, .slice none 0 0, .slice none 0 0, .slice none 0 0, .slice none 0 0, .slice none 0 0, .slice none 0 0, .slice none 0 0, .slice none 0 0] 32)) := (Below.refl _ _).alloc (Nat.le_refl _) _
  have hx0 := Lib.hid x0
  have hx1 := Lib.hid x1
  have hx2 := Lib.hid x2
  have hx3 := Lib.hid x3
  replace x0 := (stay_of_below hal7).cell x0
  replace x1 := (stay_of_below hal7).cell x1
  replace x2 := (stay_of_below hal7).cell x2
  replace x3 := (stay_of_below hal7).cell x3
  replace x4 := (stay_of_below hal7).cell x4
  replace x5 := (stay_of_below hal7).cell x5
  obtain ⟨pw, hpw0⟩ : ∃ p, pb + 1 = p := ⟨_, rfl⟩
  rw [hpw0] at hs6 ⊢
  have hpw := hs6
  rw [hpw] at hq7
  replace hpw0 := Lib.hid hpw0
  replace hs6 := Lib.hid hs6
  generalize hw7 : w6.alloc (.cells #[.slice none 0 0, .slice none 0 0, .slice none 0 0, .slice none 0 0, .slice none 0 0, .slice none 0 0, .slice none 0 0, .slice none 0 0, .slice none 0 0, .slice none 0 0] 32) = w7 at *
  replace hw7 := Lib.hid hw7
  have hq7h : Hid (Blk w7 pw #[.slice none 0 0, .slice none 0 0, .slice none 0 0, .slice none 0 0, .slice none 0 0, .slice none 0 0, .slice none 0 0, .slice none 0 0, .slice none 0 0, .slice none 0 0] 32) := Lib.hid hq7
  have hal7h := Lib.hid hal7
  have hw6h := Lib.hid hw6
  have hpw2 := Lib.hid hpw
  have hw6s := hw6.size
  have hlow : Hid (w.heap.size < pw ∧ w6.heap.size ≤ pw) := Lib.hid ⟨by have := cell_lowT hx0.out; omega, by omega⟩
  have hT6 := Lib.hid (hTh.out w6 hw6)
  have tA6 := Lib.hid t46
  have tB6 := Lib.hid tw6
  have qa6 := Lib.hid q46
  have qb6 := Lib.hid qw6
  have cA := Lib.hid (fun V (h : Below w6.heap.size w6 V) => refMay_any 1048576 (by omega) V _ A (hT6.out.stay h).tabA (by omega) (by omega))
  have cB := Lib.hid (fun V (h : Below w6.heap.size w6 V) => refMay_any 1048576 (by omega) V _ B (hT6.out.stay h).tabB (by omega) (by omega))
  obtain ⟨mA, hmA⟩ : ∃ m, mayT A = m := ⟨_, rfl⟩
  obtain ⟨mB, hmB⟩ : ∃ m, mayT B = m := ⟨_, rfl⟩
  rw [hmA] at cA
  rw [hmB] at cB
  replace hmA := Lib.hid hmA
  replace hmB := Lib.hid hmB
  clear hq7 hal7 hw6 hpw t46 tw6 q46 qw6 hw6s
  go_cut [30] (fun v wx => v = .bool (mA && mB) ∧ Hid (Below w7.heap.size w7 wx))
  case first =>
   as_aux_lemma =>
    have cA7 := Lib.hid (cA.out w7 hal7h.out)
    go_wp2_with fail
    refine cA7.out.mono ?_
    rintro e w8 ⟨rfl, hb8⟩
    replace x0 := (stay_of_below hb8).cell x0
    replace x1 := (stay_of_below hb8).cell x1
    replace x2 := (stay_of_below hb8).cell x2
    replace x3 := (stay_of_below hb8).cell x3
    replace x4 := (stay_of_below hb8).cell x4
    replace x5 := (stay_of_below hb8).cell x5
    clear cA7
    cases mA with
    | false =>
     go_wp2_with fail
     go_meet
     exact ⟨rfl, Lib.hid hb8⟩
    | true =>
     have cB8 := Lib.hid (cB.out w8 (hal7h.out.trans (hb8.mono hal7h.out.size)))
     have hb8h := Lib.hid hb8
     clear hb8
     go_wp2_with fail
     refine cB8.out.mono ?_
     rintro e w9 ⟨rfl, hb9⟩
     have hbf := Lib.hid (hb8h.out.trans (hb9.mono hb8h.out.size))
     clear hb9 cB8 hb8h
     go_wp2_with fail
     go_meet
     exact ⟨rfl, hbf⟩
  obtain ⟨w8, rfl⟩ : ∃ w8 : World, w8 = wc := ⟨_, rfl⟩
  obtain ⟨rfl, hb78⟩ := hcut
  replace x0 := (stay_of_below hb78.out).cell x0
  replace x1 := (stay_of_below hb78.out).cell x1
  replace x2 := (stay_of_below hb78.out).cell x2
  replace x3 := (stay_of_below hb78.out).cell x3
  replace x4 := (stay_of_below hb78.out).cell x4
  replace x5 := (stay_of_below hb78.out).cell x5
  have hb68 := Lib.hid (hal7h.out.trans (hb78.out.mono hal7h.out.size))
  have q8 : Hid (Blk w8 pw #[.slice none 0 0, .slice none 0 0, .slice none 0 0, .slice none 0 0, .slice none 0 0, .slice none 0 0, .slice none 0 0, .slice none 0 0, .slice none 0 0, .slice none 0 0] 32) := Lib.hid ((hb78.out.block _ hq7h.out.lt).trans hq7h.out)
  obtain ⟨mm, hmm⟩ : ∃ m, (mA && mB) = m := ⟨_, rfl⟩
  rw [hmm]
  replace hmm := Lib.hid hmm
  clear hq7h hal7h hb78 cA cB
  go_upto_if 30 with (fail)
  go_cut [] (fun wx => Hid (WantP A B 1048576 w6 wx pw))
  case first =>
   as_aux_lemma =>
    cases mm with
    | false =>
     have hnm : ¬ (mayT A = true ∧ mayT B = true) := fun h => by
      have h1 := hmm.out
      rw [← hmA.out, ← hmB.out, h.1, h.2] at h1
      cases h1
     have hjz : joinZ A B = ⟨[], []⟩ := by unfold joinZ; rw [if_neg hnm]
     have hsz : ∀ h b, someZ A B h b = ⟨[], []⟩ := fun h b => by unfold someZ; rw [if_neg (fun h => hnm (by rw [Bool.and_eq_true] at h; exact h))]
     have hz : TabA w8 1048576 (.agg #[.slice none 0 0, .slice none 0 0]) ⟨[], []⟩ := (tabO_zero (Below.refl _ _)).read
     have hfin : Hid (WantP A B 1048576 w6 w8 pw) := Lib.hid ⟨_, _, _, _, _, _, _, _, _, _, q8.out, hb68.out, by rw [hjz]; exact hz, by rw [hjz]; exact hz, by rw [hsz]; exact hz, by rw [hsz]; exact hz, by rw [hsz]; exact hz⟩
     clear hjz hsz hz hnm
     go_wp2_with fail
     go_meet
     exact hfin
    | true =>
     have hboth : mayT A = true ∧ mayT B = true := by
      have h1 := hmm.out
      rw [Bool.and_eq_true] at h1
      exact ⟨hmA.out.trans h1.1, hmB.out.trans h1.2⟩
     have hjz := Lib.hid (show joinZ A B = joinT A B by unfold joinZ; rw [if_pos hboth])
     have hsz := Lib.hid (show ∀ h b, someZ A B h b = someT A B h b from fun h b => by unfold someZ; rw [if_pos (by rw [hboth.1, hboth.2]; rfl)])
     have cJ := Lib.hid (rJoin_any 1048576 (by omega) w6 w8 hb68.out _ _ A B hT6.out.tabA hT6.out.tabB hboth.1 hboth.2 (by omega) (by omega) (by omega))
     have cM := Lib.hid (fun V (h : Below w6.heap.size w6 V) => rMinus_any 1048576 (by omega) w6 V h _ _ A B hT6.out.tabA hT6.out.tabB hboth.1 hboth.2 (by omega) (by omega) (by omega))
     obtain ⟨hnA, hrA⟩ := may_rows hboth.1
     obtain ⟨hnB, hrB⟩ := may_rows hboth.2
     obtain ⟨hA9, -, hdA⟩ := names_parts hnA
     obtain ⟨hB9, -, hdB⟩ := names_parts hnB
     replace hdA := Lib.hid hdA
     replace hrA := Lib.hid hrA
     replace hrB := Lib.hid hrB
     clear hboth hnA hnB hdB
     go_wp2_with fail
     refine cJ.out.mono ?_
     rintro e wJ ⟨v, rfl, hT0⟩
     obtain ⟨hb8J, ⟨a0, c0, a1, c1, hve⟩, hR0⟩ := hT0
     subst hve
     obtain ⟨n0, hn0⟩ : ∃ n, (joinT A B).vars.length = n := ⟨_, rfl⟩
     obtain ⟨n1, hn1⟩ : ∃ n, (joinT A B).rows.length = n := ⟨_, rfl⟩
     rw [hn0, hn1] at hR0 ⊢
     replace hn0 := Lib.hid hn0
     replace hn1 := Lib.hid hn1
     replace hR0 := Lib.hid hR0
     replace x0 := (stay_of_below hb8J).cell x0
     replace x1 := (stay_of_below hb8J).cell x1
     replace x2 := (stay_of_below hb8J).cell x2
     replace x3 := (stay_of_below hb8J).cell x3
     replace x4 := (stay_of_below hb8J).cell x4
     replace x5 := (stay_of_below hb8J).cell x5
     have qJ : Blk wJ pw #[.slice none 0 0, .slice none 0 0, .slice none 0 0, .slice none 0 0, .slice none 0 0, .slice none 0 0, .slice none 0 0, .slice none 0 0, .slice none 0 0, .slice none 0 0] 32 := (hb8J.block _ q8.out.lt).trans q8.out
     have hb6J := hb68.out.trans (hb8J.mono hb68.out.size)
     have qK := (((qJ.set 0 (.slice a0 n0 c0)).set 1 (.slice a1 n1 c1)).set 2 (.slice a0 n0 c0)).set 3 (.slice a1 n1 c1)
     have oK := ((((Out.refl (fun b => b = pw) wJ).setCell ⟨pw, 0, none⟩ rfl (.slice a0 n0 c0)).setCell ⟨pw, 1, none⟩ rfl (.slice a1 n1 c1)).setCell ⟨pw, 2, none⟩ rfl (.slice a0 n0 c0)).setCell ⟨pw, 3, none⟩ rfl (.slice a1 n1 c1)
     have hpl := hlow.out
     have hb6K := (((hb6J.setCell (p := ⟨pw, 0, none⟩) hpl.2 (.slice a0 n0 c0)).setCell (p := ⟨pw, 1, none⟩) hpl.2 (.slice a1 n1 c1)).setCell (p := ⟨pw, 2, none⟩) hpl.2 (.slice a0 n0 c0)).setCell (p := ⟨pw, 3, none⟩) hpl.2 (.slice a1 n1 c1)
     have f := qJ.free
     have z0 := qJ.cell 0 rfl
     have z1 := qJ.cell 1 rfl
     have z2 := qJ.cell 2 rfl
     have z3 := qJ.cell 3 rfl
     have hq8l := Lib.hid q8.out.lt
     have hb8Jh := Lib.hid hb8J
     replace qK := Lib.hid qK
     replace oK := Lib.hid oK
     replace hb6K := Lib.hid hb6K
     clear cJ hb8J qJ hb6J hpl
     go_upto_region 9 with fail
     have hne : ¬ (w.heap.size = pw) := by have := hlow.out.1; omega
     have y0 := out_cell oK.out hne x0
     have y1 := out_cell oK.out hne x1
     have y2 := out_cell oK.out hne x2
     have y3 := out_cell oK.out hne x3
     have hqk0 : Hid (Blk ((((wJ.setCell ⟨pw, 0, none⟩ (.slice a0 n0 c0)).setCell ⟨pw, 1, none⟩ (.slice a1 n1 c1)).setCell ⟨pw, 2, none⟩ (.slice a0 n0 c0)).setCell ⟨pw, 3, none⟩ (.slice a1 n1 c1)) pw #[.slice a0 n0 c0, .slice a1 n1 c1, .slice a0 n0 c0, .slice a1 n1 c1, .slice none 0 0, .slice none 0 0, .slice none 0 0, .slice none 0 0, .slice none 0 0, .slice none 0 0] 32) := qK
     clear x0 x1 x2 x3 x4 x5 z0 z1 z2 z3 f qK
     generalize (((wJ.setCell ⟨pw, 0, none⟩ (.slice a0 n0 c0)).setCell ⟨pw, 1, none⟩ (.slice a1 n1 c1)).setCell ⟨pw, 2, none⟩ (.slice a0 n0 c0)).setCell ⟨pw, 3, none⟩ (.slice a1 n1 c1) = wK at *
     have cMK := Lib.hid (cM.out wK hb6K.out)
     clear cM
     go_wp2_with fail
     refine cMK.out.mono ?_
     rintro e wM ⟨v, rfl, hT1⟩
     obtain ⟨hbKM, ⟨a2, c2, a3, c3, hve⟩, hR1⟩ := hT1
     subst hve
     obtain ⟨n2, hn2⟩ : ∃ n, (someT A B false true).vars.length = n := ⟨_, rfl⟩
     obtain ⟨n3, hn3⟩ : ∃ n, (someT A B false true).rows.length = n := ⟨_, rfl⟩
     rw [hn2, hn3] at hR1 ⊢
     replace hn2 := Lib.hid hn2
     replace hn3 := Lib.hid hn3
     replace hR1 := Lib.hid hR1
     replace y0 := (stay_of_below hbKM).cell y0
     replace y1 := (stay_of_below hbKM).cell y1
     replace y2 := (stay_of_below hbKM).cell y2
     replace y3 := (stay_of_below hbKM).cell y3
     have qM : Blk wM pw #[.slice a0 n0 c0, .slice a1 n1 c1, .slice a0 n0 c0, .slice a1 n1 c1, .slice none 0 0, .slice none 0 0, .slice none 0 0, .slice none 0 0, .slice none 0 0, .slice none 0 0] 32 := (hbKM.block _ hqk0.out.lt).trans hqk0.out
     have hb6M := hb6K.out.trans (hbKM.mono hb6K.out.size)
     have q9 := (((((qM.set 4 (.slice a2 n2 c2)).set 5 (.slice a3 n3 c3)).set 6 (.slice av A.vars.length cv)).set 7 (.slice none 0 0)).set 8 (.slice av A.vars.length cv)).set 9 (.slice none 0 0)
     have o9 := ((((((Out.refl (fun b => b = pw) wM).setCell ⟨pw, 4, none⟩ rfl (.slice a2 n2 c2)).setCell ⟨pw, 5, none⟩ rfl (.slice a3 n3 c3)).setCell ⟨pw, 6, none⟩ rfl (.slice av A.vars.length cv)).setCell ⟨pw, 7, none⟩ rfl (.slice none 0 0)).setCell ⟨pw, 8, none⟩ rfl (.slice av A.vars.length cv)).setCell ⟨pw, 9, none⟩ rfl (.slice none 0 0)
     have hpl := hlow.out
     have hb69 := (((((hb6M.setCell (p := ⟨pw, 4, none⟩) hpl.2 (.slice a2 n2 c2)).setCell (p := ⟨pw, 5, none⟩) hpl.2 (.slice a3 n3 c3)).setCell (p := ⟨pw, 6, none⟩) hpl.2 (.slice av A.vars.length cv)).setCell (p := ⟨pw, 7, none⟩) hpl.2 (.slice none 0 0)).setCell (p := ⟨pw, 8, none⟩) hpl.2 (.slice av A.vars.length cv)).setCell (p := ⟨pw, 9, none⟩) hpl.2 (.slice none 0 0)
     have f := qM.free
     have z4 := qM.cell 4 rfl
     have z5 := qM.cell 5 rfl
     have z6 := qM.cell 6 rfl
     have z7 := qM.cell 7 rfl
     have z8 := qM.cell 8 rfl
     have z9 := qM.cell 9 rfl
     have hqMl := Lib.hid qM.lt
     have hbKMh := Lib.hid hbKM
     have q9h : Hid (Blk ((((((wM.setCell ⟨pw, 4, none⟩ (.slice a2 n2 c2)).setCell ⟨pw, 5, none⟩ (.slice a3 n3 c3)).setCell ⟨pw, 6, none⟩ (.slice av A.vars.length cv)).setCell ⟨pw, 7, none⟩ (.slice none 0 0)).setCell ⟨pw, 8, none⟩ (.slice av A.vars.length cv)).setCell ⟨pw, 9, none⟩ (.slice none 0 0)) pw #[.slice a0 n0 c0, .slice a1 n1 c1, .slice a0 n0 c0, .slice a1 n1 c1, .slice a2 n2 c2, .slice a3 n3 c3, .slice av A.vars.length cv, .slice none 0 0, .slice av A.vars.length cv, .slice none 0 0] 32) := Lib.hid q9
     replace o9 := Lib.hid o9
     replace hb69 := Lib.hid hb69
     clear cMK hbKM qM hb6M q9 hpl hqk0
     go_upto_region 12 with fail
     clear y0 y1 y2 y3 z4 z5 z6 z7 z8 z9 f
     generalize (((((wM.setCell ⟨pw, 4, none⟩ (.slice a2 n2 c2)).setCell ⟨pw, 5, none⟩ (.slice a3 n3 c3)).setCell ⟨pw, 6, none⟩ (.slice av A.vars.length cv)).setCell ⟨pw, 7, none⟩ (.slice none 0 0)).setCell ⟨pw, 8, none⟩ (.slice av A.vars.length cv)).setCell ⟨pw, 9, none⟩ (.slice none 0 0) = w9 at *
     obtain ⟨s0, hs0⟩ : ∃ s, Value.slice a0 n0 c0 = s := ⟨_, rfl⟩
     obtain ⟨s1, hs1⟩ : ∃ s, Value.slice a1 n1 c1 = s := ⟨_, rfl⟩
     obtain ⟨m0, hm0⟩ : ∃ s, Value.slice a2 n2 c2 = s := ⟨_, rfl⟩
     obtain ⟨m1, hm1⟩ : ∃ s, Value.slice a3 n3 c3 = s := ⟨_, rfl⟩
     rw [hs0, hs1, hm0, hm1] at q9h
     rw [hs0, hs1] at hR0
     rw [hm0, hm1] at hR1
     have hJ0 : Hid (ExW w6 w9 w9 pw 1048576 s0 s1 m0 m1 (.slice av A.vars.length cv) (.slice none 0 0) (.slice none 0 0) (someK A B true false 0) (someK A B false false 0)) := Lib.hid ⟨hb69.out, Out.refl _ _, q9h.out, RO.nil _ _ _ _, RO.nil _ _ _ _, .inl rfl, hlow.out.2, q9h.out.lt⟩
     have hRA : Hid (∀ j (hj : j < A.rows.length), ∃ b off a c, ar = some ⟨b, off, none⟩ ∧ w6.cell? ⟨b, off + j, none⟩ = some (.slice a A.rows[j].length c) ∧ LA w6 1048576 (.slice a A.rows[j].length c) A.rows[j]) := Lib.hid fun j hj => by
      obtain ⟨_, _, e1, -, h⟩ := hT6.out.ar.form
      injection e1 with e1 _ _
      subst e1
      obtain ⟨b, off, a, c, h1, h2, h3, h4⟩ := h j hj
      exact ⟨b, off, a, c, h1, h3, h4⟩
     have hRB : Hid (∀ j (hj : j < B.rows.length), ∃ b off a c, br = some ⟨b, off, none⟩ ∧ w6.cell? ⟨b, off + j, none⟩ = some (.slice a B.rows[j].length c) ∧ LA w6 1048576 (.slice a B.rows[j].length c) B.rows[j]) := Lib.hid fun j hj => by
      obtain ⟨_, _, e1, -, h⟩ := hT6.out.br.form
      injection e1 with e1 _ _
      subst e1
      obtain ⟨b, off, a, c, h1, h2, h3, h4⟩ := h j hj
      exact ⟨b, off, a, c, h1, h3, h4⟩
     replace hs0 := Lib.hid hs0
     replace hs1 := Lib.hid hs1
     replace hm0 := Lib.hid hm0
     replace hm1 := Lib.hid hm1
     have x1' := (stay_of_below hb69.out).cell hx1.out
     clear q9h
     go_wp2
     go_loopw [6] (fun i wr => ∃ (k : Nat) (rv3 rv4 : Value), k ≤ A.rows.length ∧ i = .int .i64 (k : Int) ∧ Hid (ExW w6 w9 wr pw 1048576 s0 s1 m0 m1 (.slice av A.vars.length cv) rv3 rv4 (someK A B true false k) (someK A B false false k))) (fun i _ => A.rows.length - (intOf i).toNat)
     case atStart => exact ⟨0, _, _, Nat.zero_le _, rfl, hJ0⟩
     case round =>
      clear hJ0 x1'
      obtain ⟨i, rv3, rv4, hi, rfl, hJ⟩ := hrel
      obtain ⟨w10, rfl⟩ : ∃ w10 : World, w10 = wr := ⟨_, rfl⟩
      have x1' := (stay_of_below hJ.out.bl).cell hx1.out
      have x3' := (stay_of_below hJ.out.bl).cell hx3.out
      by_cases hlt : i < A.rows.length
      ·have hki : (i : Int) < (A.rows.length : Int) := by omega
       have hi1 := Lib.hid (show i + 1 ≤ A.rows.length from hlt)
       obtain ⟨b1, o1, a1, c1, rfl, hc1, hla1⟩ := hRA.out i hlt
       have hrw := hrA.out _ (List.getElem_mem hlt)
       have hyes3 := Lib.hid (fun h => someK_yes (a := A) (b := B) (has := true) (bd := false) hlt h)
       have hno3 := Lib.hid (fun h => someK_no (a := A) (b := B) (has := true) (bd := false) hlt h)
       have hyes4 := Lib.hid (fun h => someK_yes (a := A) (b := B) (has := false) (bd := false) hlt h)
       have hno4 := Lib.hid (fun h => someK_no (a := A) (b := B) (has := false) (bd := false) hlt h)
       have hlen3 := Lib.hid (show (someK A B true false i).length + 1 ≤ 1048576 by have := someK_len A B true false i hi; omega)
       have hlen4 := Lib.hid (show (someK A B false false i).length + 1 ≤ 1048576 by have := someK_len A B false false i hi; omega)
       have hrl := Lib.hid (row_len hrw)
       generalize someK A B true false i = L3 at *
       generalize hN3 : someK A B true false (i + 1) = N3 at *
       generalize someK A B false false i = L4 at *
       generalize hN4 : someK A B false false (i + 1) = N4 at *
       generalize (A.rows[i]'hlt) = r at *
       replace hN3 := Lib.hid hN3
       replace hN4 := Lib.hid hN4
       replace hc1 := Lib.hid hc1
       replace hla1 := Lib.hid hla1
       clear hrw
       go_wp2
       go_loopw [7, 8] (fun v7 j wr => ∃ (k : Nat), k ≤ B.rows.length ∧ j = .int .i64 (k : Int) ∧ v7 = .bool (anyK A.vars B.vars false B.rows r k) ∧ Hid (ExW w6 w9 wr pw 1048576 s0 s1 m0 m1 (.slice av A.vars.length cv) rv3 rv4 L3 L4)) (fun _ j _ => B.rows.length - (intOf j).toNat)
       case atStart => exact ⟨0, Nat.zero_le _, rfl, rfl, hJ⟩
       case round =>
        clear hJ x3' x1'
        obtain ⟨j, hj, rfl, rfl, hJ⟩ := hrel
        obtain ⟨w11, rfl⟩ : ∃ w11 : World, w11 = wr := ⟨_, rfl⟩
        have hbj := hJ.out.bl
        have x3' := (stay_of_below hbj).cell hx3.out
        obtain ⟨g, hg⟩ : ∃ g, anyK A.vars B.vars false B.rows r j = g := ⟨_, rfl⟩
        by_cases hlj : j < B.rows.length
        ·have hkj : (j : Int) < (B.rows.length : Int) := by omega
         have hj1 := Lib.hid (show j + 1 ≤ B.rows.length from hlj)
         obtain ⟨b2, o2, a3', c3', rfl, hc2, hla2⟩ := hRB.out j hlj
         have hrs := hrB.out _ (List.getElem_mem hlj)
         have hst := anyK_step (A := A.vars) (B := B.vars) (bd := false) (r := r) hlj
         have hsl := row_len hrs
         have hdr0 : Below w11.heap.size w11 w11.drew := below_drewN (Below.refl _ _) 1
         have hdr : Below w6.heap.size w6 w11.drew := hbj.trans (hdr0.mono hbj.size)
         have hJd := Lib.hid (hJ.out.stay hdr0)
         have hT11 := hT6.out.stay hdr
         have cF := Lib.hid (rFits_any 1048576 (by omega) w11.drew _ _ _ _ A.vars B.vars r (B.rows[j]'hlj) hT11.av hT11.bv hdA.out (hla1.out.stay hdr) (hla2.stay hdr) hrl.out hsl (by omega) (by omega))
         rw [hg] at hst ⊢
         replace hg := Lib.hid hg
         generalize hA2 : anyK A.vars B.vars false B.rows r (j + 1) = g2 at *
         generalize (B.rows[j]'hlj) = s at *
         replace hA2 := Lib.hid hA2
         replace hc2 := Lib.hid hc2
         replace hst := Lib.hid hst
         clear hla2 hrs hsl hJ hT11
         go_upto_region 19 with fail
         refine wp_region_held_drew (S := fun V => Below w6.heap.size w6 V) (by kernel_rfl) hdr (fun hS => ?_)
         generalize w11.drew = V0 at *
         refine tkH 0 ?_ rfl (fun w' hS => ?_) hS ?_
         rotate_left
         ·
          have p0 := (stay_of_below hS).cell hx0.out; have p1 := (stay_of_below hS).cell hx1.out; have p2 := (stay_of_below hS).cell hx2.out; have p3 := (stay_of_below hS).cell hx3.out; have p4 := (stay_of_below hS).cell hc1.out; have p5 := (stay_of_below hS).cell hc2.out
          go_simp
          try with_reducible rfl
         refine tkH 1 ?_ rfl (fun w' hS => ?_) hS ?_
         rotate_left
         ·
          have p0 := (stay_of_below hS).cell hx0.out; have p1 := (stay_of_below hS).cell hx1.out; have p2 := (stay_of_below hS).cell hx2.out; have p3 := (stay_of_below hS).cell hx3.out; have p4 := (stay_of_below hS).cell hc1.out; have p5 := (stay_of_below hS).cell hc2.out
          go_simp
          try with_reducible rfl
         refine tkH 2 ?_ rfl (fun w' hS => ?_) hS ?_
         rotate_left
         ·
          have p0 := (stay_of_below hS).cell hx0.out; have p1 := (stay_of_below hS).cell hx1.out; have p2 := (stay_of_below hS).cell hx2.out; have p3 := (stay_of_below hS).cell hx3.out; have p4 := (stay_of_below hS).cell hc1.out; have p5 := (stay_of_below hS).cell hc2.out
          go_simp
          try with_reducible rfl
         refine tkH 3 ?_ rfl (fun w' hS => ?_) hS ?_
         rotate_left
         ·
          have p0 := (stay_of_below hS).cell hx0.out; have p1 := (stay_of_below hS).cell hx1.out; have p2 := (stay_of_below hS).cell hx2.out; have p3 := (stay_of_below hS).cell hx3.out; have p4 := (stay_of_below hS).cell hc1.out; have p5 := (stay_of_below hS).cell hc2.out
          go_simp
          try with_reducible rfl
         refine tkH 4 ?_ rfl (fun w' hS => ?_) hS ?_
         rotate_left
         ·
          have p0 := (stay_of_below hS).cell hx0.out; have p1 := (stay_of_below hS).cell hx1.out; have p2 := (stay_of_below hS).cell hx2.out; have p3 := (stay_of_below hS).cell hx3.out; have p4 := (stay_of_below hS).cell hc1.out; have p5 := (stay_of_below hS).cell hc2.out
          go_simp
          try with_reducible rfl
         refine tkH 5 ?_ rfl (fun w' hS => ?_) hS ?_
         rotate_left
         ·
          have p0 := (stay_of_below hS).cell hx0.out; have p1 := (stay_of_below hS).cell hx1.out; have p2 := (stay_of_below hS).cell hx2.out; have p3 := (stay_of_below hS).cell hx3.out; have p4 := (stay_of_below hS).cell hc1.out; have p5 := (stay_of_below hS).cell hc2.out
          go_simp
          try with_reducible rfl
         refine tkH 6 ?_ rfl (fun w' hS => ?_) hS ?_
         rotate_left
         ·
          have p0 := (stay_of_below hS).cell hx0.out; have p1 := (stay_of_below hS).cell hx1.out; have p2 := (stay_of_below hS).cell hx2.out; have p3 := (stay_of_below hS).cell hx3.out; have p4 := (stay_of_below hS).cell hc1.out; have p5 := (stay_of_below hS).cell hc2.out
          go_simp
          try with_reducible rfl
         refine tkH 7 ?_ rfl (fun w' hS => ?_) hS ?_
         rotate_left
         ·
          have p0 := (stay_of_below hS).cell hx0.out; have p1 := (stay_of_below hS).cell hx1.out; have p2 := (stay_of_below hS).cell hx2.out; have p3 := (stay_of_below hS).cell hx3.out; have p4 := (stay_of_below hS).cell hc1.out; have p5 := (stay_of_below hS).cell hc2.out
          go_simp
          try with_reducible rfl
         refine tkH 8 ?_ rfl (fun w' hS => ?_) hS ?_
         rotate_left
         ·
          have p0 := (stay_of_below hS).cell hx0.out; have p1 := (stay_of_below hS).cell hx1.out; have p2 := (stay_of_below hS).cell hx2.out; have p3 := (stay_of_below hS).cell hx3.out; have p4 := (stay_of_below hS).cell hc1.out; have p5 := (stay_of_below hS).cell hc2.out
          go_simp
          try with_reducible rfl
         refine tkH 9 ?_ rfl (fun w' hS => ?_) hS ?_
         rotate_left
         ·
          have p0 := (stay_of_below hS).cell hx0.out; have p1 := (stay_of_below hS).cell hx1.out; have p2 := (stay_of_below hS).cell hx2.out; have p3 := (stay_of_below hS).cell hx3.out; have p4 := (stay_of_below hS).cell hc1.out; have p5 := (stay_of_below hS).cell hc2.out
          go_simp
          try with_reducible rfl
         refine tkH 10 ?_ rfl (fun w' hS => ?_) hS ?_
         rotate_left
         ·
          have p0 := (stay_of_below hS).cell hx0.out; have p1 := (stay_of_below hS).cell hx1.out; have p2 := (stay_of_below hS).cell hx2.out; have p3 := (stay_of_below hS).cell hx3.out; have p4 := (stay_of_below hS).cell hc1.out; have p5 := (stay_of_below hS).cell hc2.out
          go_simp
          try with_reducible rfl
         refine tkH 11 ?_ rfl (fun w' hS => ?_) hS ?_
         rotate_left
         ·
          have p0 := (stay_of_below hS).cell hx0.out; have p1 := (stay_of_below hS).cell hx1.out; have p2 := (stay_of_below hS).cell hx2.out; have p3 := (stay_of_below hS).cell hx3.out; have p4 := (stay_of_below hS).cell hc1.out; have p5 := (stay_of_below hS).cell hc2.out
          go_simp
          try with_reducible rfl
         refine tkH 12 ?_ rfl (fun w' hS => ?_) hS ?_
         rotate_left
         ·
          have p0 := (stay_of_below hS).cell hx0.out; have p1 := (stay_of_below hS).cell hx1.out; have p2 := (stay_of_below hS).cell hx2.out; have p3 := (stay_of_below hS).cell hx3.out; have p4 := (stay_of_below hS).cell hc1.out; have p5 := (stay_of_below hS).cell hc2.out
          go_simp
          try with_reducible rfl
         refine tkH 13 ?_ rfl (fun w' hS => ?_) hS ?_
         rotate_left
         ·
          have p0 := (stay_of_below hS).cell hx0.out; have p1 := (stay_of_below hS).cell hx1.out; have p2 := (stay_of_below hS).cell hx2.out; have p3 := (stay_of_below hS).cell hx3.out; have p4 := (stay_of_below hS).cell hc1.out; have p5 := (stay_of_below hS).cell hc2.out
          go_simp
          try with_reducible rfl
         refine tkH 14 ?_ rfl (fun w' hS => ?_) hS ?_
         rotate_left
         ·
          have p0 := (stay_of_below hS).cell hx0.out; have p1 := (stay_of_below hS).cell hx1.out; have p2 := (stay_of_below hS).cell hx2.out; have p3 := (stay_of_below hS).cell hx3.out; have p4 := (stay_of_below hS).cell hc1.out; have p5 := (stay_of_below hS).cell hc2.out
          go_simp
          try with_reducible rfl
         refine tkH 15 ?_ rfl (fun w' hS => ?_) hS ?_
         rotate_left
         ·
          have p0 := (stay_of_below hS).cell hx0.out; have p1 := (stay_of_below hS).cell hx1.out; have p2 := (stay_of_below hS).cell hx2.out; have p3 := (stay_of_below hS).cell hx3.out; have p4 := (stay_of_below hS).cell hc1.out; have p5 := (stay_of_below hS).cell hc2.out
          go_simp
          try with_reducible rfl
         refine tkH 16 ?_ rfl (fun w' hS => ?_) hS ?_
         rotate_left
         ·
          have p0 := (stay_of_below hS).cell hx0.out; have p1 := (stay_of_below hS).cell hx1.out; have p2 := (stay_of_below hS).cell hx2.out; have p3 := (stay_of_below hS).cell hx3.out; have p4 := (stay_of_below hS).cell hc1.out; have p5 := (stay_of_below hS).cell hc2.out
          go_simp
          try with_reducible rfl
         refine tkH 17 ?_ rfl (fun w' hS => ?_) hS ?_
         rotate_left
         ·
          have p0 := (stay_of_below hS).cell hx0.out; have p1 := (stay_of_below hS).cell hx1.out; have p2 := (stay_of_below hS).cell hx2.out; have p3 := (stay_of_below hS).cell hx3.out; have p4 := (stay_of_below hS).cell hc1.out; have p5 := (stay_of_below hS).cell hc2.out
          go_simp
          try with_reducible rfl
         refine rdH 18 rfl (fun K hK => ?_)
         clear hS
         go_simp
         refine (cF.out).mono ?_
         rintro e w12 ⟨rfl, hb12⟩
         go_wp2_with fail
         refine hK.out _ _ (hdr.trans (hb12.mono hdr.size)) (fun hS => ?_)
         clear hK K
         try simp only [List.getElem_toArray, List.getElem_cons_succ, List.getElem_cons_zero, Act.put, List.setIfInBounds_toArray, List.set_cons_zero, List.set_cons_succ]
         have hJ6 := Lib.hid (hJd.out.stay hb12)
         refine tkH 19 ?_ rfl (fun w' hS => ?_) hS ?_
         rotate_left
         ·
          skip
          go_simp
          try with_reducible rfl
         refine tkH 20 ?_ rfl (fun w' hS => ?_) hS ?_
         rotate_left
         ·
          skip
          go_simp
          try with_reducible rfl
         refine tkH 21 ?_ rfl (fun w' hS => ?_) hS ?_
         rotate_left
         ·
          skip
          go_simp
          try with_reducible rfl
         refine tkH 22 ?_ rfl (fun w' hS => ?_) hS ?_
         rotate_left
         ·
          skip
          go_simp
          try with_reducible rfl
         refine tkH 23 ?_ rfl (fun w' hS => ?_) hS ?_
         rotate_left
         ·
          skip
          go_simp
          try with_reducible rfl
         refine wpAnyH_done (by kernel_rfl) ?_ _
         clear hS cF hb12 hdr hdr0 hJd x3' hbj
         generalize (compat A.vars B.vars r s && shared A.vars B.vars r s) = cs at *
         generalize shared A.vars B.vars r s = sh at *
         generalize compat A.vars B.vars r s = cm at *
         cases g with
         | true =>
          have h2 : g2 = true := by rw [hst.out]; rfl
          replace h2 := Lib.hid h2
          clear hst
          go_wp2
          go_roundw
          case rel => exact ⟨j + 1, hj1.out, by go_num, by rw [hA2.out, h2.out], hJ6⟩
          case measure => have := hj1.out; simp [intOf]; omega
         | false =>
          have h2 : g2 = cm := by rw [hst.out]; simp
          replace h2 := Lib.hid h2
          clear hst
          go_wp2
          go_roundw
          case rel => exact ⟨j + 1, hj1.out, by go_num, by rw [hA2.out, h2.out], hJ6⟩
          case measure => have := hj1.out; simp [intOf]; omega
        ·have hkj : ¬ (j : Int) < (B.rows.length : Int) := by omega
         obtain rfl : j = B.rows.length := by omega
         rw [anyK_end] at hg
         rw [anyK_end, hg]
         clear hbj
         cases g with
         | true =>
          have h3 := Lib.hid (hyes3.out hg)
          have h4 := hno4.out (by rw [hg]; decide)
          rw [← h4] at hJ
          have hlen := hlen3
          replace hg := Lib.hid hg
          clear h4 hyes3 hno3 hyes4 hno4
          go_upto_region 22 with fail
          have hal : Below w11.heap.size w11 w11.drew := below_drewN (Below.refl _ _) 1
          have hJV := hJ.out.stay hal
          have hS0 : Blk w11.drew pw #[s0, s1, s0, s1, m0, m1, .slice av A.vars.length cv, rv3, .slice av A.vars.length cv, rv4] 32 ∧ Below w6.heap.size w6 w11.drew := ⟨hJV.q, hJV.bl⟩
          refine wp_region_late [13] (S := fun V => Blk V pw #[s0, s1, s0, s1, m0, m1, .slice av A.vars.length cv, rv3, .slice av A.vars.length cv, rv4] 32 ∧ Below w6.heap.size w6 V) (by kernel_rfl) hS0 (fun hS => ?_)
          generalize w11.drew = V0 at *
          clear hS0 hal hJ x3'
          refine wpAnyL_take (i := 0) (v := ?_) rfl (by kernel_rfl) (by kernel_rfl) (by kernel_rfl) (by kernel_rfl) (by kernel_rfl) (fun _ _ _ h => h) (.inl ⟨by kernel_rfl, fun w' hS => ?_⟩) hS ?_
          rotate_left
          ·
           have z0 := hS.1.cell 7 rfl; have y0 := (stay_of_below hS.2).cell hx0.out; have y1 := (stay_of_below hS.2).cell hx1.out; have y2 := (stay_of_below hS.2).cell hx2.out; have y3 := (stay_of_below hS.2).cell hx3.out; have p4 := (stay_of_below hS.2).cell hc1.out
           go_simp
           try with_reducible rfl
          simp only [List.getElem_toArray, List.getElem_cons_succ, List.getElem_cons_zero, Act.put, List.setIfInBounds_toArray, List.set_cons_zero, List.set_cons_succ]
          refine wpAnyL_take (i := 1) (v := ?_) rfl (by kernel_rfl) (by kernel_rfl) (by kernel_rfl) (by kernel_rfl) (by kernel_rfl) (fun _ _ _ h => h) (.inl ⟨by kernel_rfl, fun w' hS => ?_⟩) hS ?_
          rotate_left
          ·
           have z0 := hS.1.cell 7 rfl; have y0 := (stay_of_below hS.2).cell hx0.out; have y1 := (stay_of_below hS.2).cell hx1.out; have y2 := (stay_of_below hS.2).cell hx2.out; have y3 := (stay_of_below hS.2).cell hx3.out; have p4 := (stay_of_below hS.2).cell hc1.out
           go_simp
           try with_reducible rfl
          simp only [List.getElem_toArray, List.getElem_cons_succ, List.getElem_cons_zero, Act.put, List.setIfInBounds_toArray, List.set_cons_zero, List.set_cons_succ]
          refine wpAnyL_take (i := 2) (v := ?_) rfl (by kernel_rfl) (by kernel_rfl) (by kernel_rfl) (by kernel_rfl) (by kernel_rfl) (fun _ _ _ h => h) (.inl ⟨by kernel_rfl, fun w' hS => ?_⟩) hS ?_
          rotate_left
          ·
           have z0 := hS.1.cell 7 rfl; have y0 := (stay_of_below hS.2).cell hx0.out; have y1 := (stay_of_below hS.2).cell hx1.out; have y2 := (stay_of_below hS.2).cell hx2.out; have y3 := (stay_of_below hS.2).cell hx3.out; have p4 := (stay_of_below hS.2).cell hc1.out
           go_simp
           try with_reducible rfl
          simp only [List.getElem_toArray, List.getElem_cons_succ, List.getElem_cons_zero, Act.put, List.setIfInBounds_toArray, List.set_cons_zero, List.set_cons_succ]
          refine wpAnyL_take (i := 3) (v := ?_) rfl (by kernel_rfl) (by kernel_rfl) (by kernel_rfl) (by kernel_rfl) (by kernel_rfl) (fun _ _ _ h => h) (.inl ⟨by kernel_rfl, fun w' hS => ?_⟩) hS ?_
          rotate_left
          ·
           have z0 := hS.1.cell 7 rfl; have y0 := (stay_of_below hS.2).cell hx0.out; have y1 := (stay_of_below hS.2).cell hx1.out; have y2 := (stay_of_below hS.2).cell hx2.out; have y3 := (stay_of_below hS.2).cell hx3.out; have p4 := (stay_of_below hS.2).cell hc1.out
           go_simp
           try with_reducible rfl
          simp only [List.getElem_toArray, List.getElem_cons_succ, List.getElem_cons_zero, Act.put, List.setIfInBounds_toArray, List.set_cons_zero, List.set_cons_succ]
          refine wpAnyL_take (i := 4) (v := ?_) rfl (by kernel_rfl) (by kernel_rfl) (by kernel_rfl) (by kernel_rfl) (by kernel_rfl) (fun _ _ _ h => h) (.inl ⟨by kernel_rfl, fun w' hS => ?_⟩) hS ?_
          rotate_left
          ·
           have z0 := hS.1.cell 7 rfl; have y0 := (stay_of_below hS.2).cell hx0.out; have y1 := (stay_of_below hS.2).cell hx1.out; have y2 := (stay_of_below hS.2).cell hx2.out; have y3 := (stay_of_below hS.2).cell hx3.out; have p4 := (stay_of_below hS.2).cell hc1.out
           go_simp
           try with_reducible rfl
          simp only [List.getElem_toArray, List.getElem_cons_succ, List.getElem_cons_zero, Act.put, List.setIfInBounds_toArray, List.set_cons_zero, List.set_cons_succ]
          refine wpAnyL_take (i := 5) (v := ?_) rfl (by kernel_rfl) (by kernel_rfl) (by kernel_rfl) (by kernel_rfl) (by kernel_rfl) (fun _ _ _ h => h) (.inl ⟨by kernel_rfl, fun w' hS => ?_⟩) hS ?_
          rotate_left
          ·
           have z0 := hS.1.cell 7 rfl; have y0 := (stay_of_below hS.2).cell hx0.out; have y1 := (stay_of_below hS.2).cell hx1.out; have y2 := (stay_of_below hS.2).cell hx2.out; have y3 := (stay_of_below hS.2).cell hx3.out; have p4 := (stay_of_below hS.2).cell hc1.out
           go_simp
           try with_reducible rfl
          simp only [List.getElem_toArray, List.getElem_cons_succ, List.getElem_cons_zero, Act.put, List.setIfInBounds_toArray, List.set_cons_zero, List.set_cons_succ]
          refine wpAnyL_take (i := 6) (v := ?_) rfl (by kernel_rfl) (by kernel_rfl) (by kernel_rfl) (by kernel_rfl) (by kernel_rfl) (fun _ _ _ h => h) (.inl ⟨by kernel_rfl, fun w' hS => ?_⟩) hS ?_
          rotate_left
          ·
           have z0 := hS.1.cell 7 rfl; have y0 := (stay_of_below hS.2).cell hx0.out; have y1 := (stay_of_below hS.2).cell hx1.out; have y2 := (stay_of_below hS.2).cell hx2.out; have y3 := (stay_of_below hS.2).cell hx3.out; have p4 := (stay_of_below hS.2).cell hc1.out
           go_simp
           try with_reducible rfl
          simp only [List.getElem_toArray, List.getElem_cons_succ, List.getElem_cons_zero, Act.put, List.setIfInBounds_toArray, List.set_cons_zero, List.set_cons_succ]
          refine wpAnyL_take (i := 7) (v := ?_) rfl (by kernel_rfl) (by kernel_rfl) (by kernel_rfl) (by kernel_rfl) (by kernel_rfl) (fun _ _ _ h => h) (.inl ⟨by kernel_rfl, fun w' hS => ?_⟩) hS ?_
          rotate_left
          ·
           have z0 := hS.1.cell 7 rfl; have y0 := (stay_of_below hS.2).cell hx0.out; have y1 := (stay_of_below hS.2).cell hx1.out; have y2 := (stay_of_below hS.2).cell hx2.out; have y3 := (stay_of_below hS.2).cell hx3.out; have p4 := (stay_of_below hS.2).cell hc1.out
           go_simp
           try with_reducible rfl
          simp only [List.getElem_toArray, List.getElem_cons_succ, List.getElem_cons_zero, Act.put, List.setIfInBounds_toArray, List.set_cons_zero, List.set_cons_succ]
          refine wpAnyL_take (i := 8) (v := ?_) rfl (by kernel_rfl) (by kernel_rfl) (by kernel_rfl) (by kernel_rfl) (by kernel_rfl) (fun _ _ _ h => h) (.inl ⟨by kernel_rfl, fun w' hS => ?_⟩) hS ?_
          rotate_left
          ·
           have z0 := hS.1.cell 7 rfl; have y0 := (stay_of_below hS.2).cell hx0.out; have y1 := (stay_of_below hS.2).cell hx1.out; have y2 := (stay_of_below hS.2).cell hx2.out; have y3 := (stay_of_below hS.2).cell hx3.out; have p4 := (stay_of_below hS.2).cell hc1.out
           go_simp
           try with_reducible rfl
          simp only [List.getElem_toArray, List.getElem_cons_succ, List.getElem_cons_zero, Act.put, List.setIfInBounds_toArray, List.set_cons_zero, List.set_cons_succ]
          refine wpAnyL_ready (i := 9) (by kernel_rfl) rfl (fun K hK => ?_)
          clear hS
          go_simp
          go_wp2_with fail
          have hal8 := ((Below.refl V0.heap.size V0).alloc (Nat.le_refl _) (.cells #[.slice a1 r.length c1] 37))
          have hJ8 := hJV.stay hal8
          have hn8 : (V0.alloc (.cells #[.slice a1 r.length c1] 37)).cell? ⟨V0.heap.size, 0, none⟩ = some (.slice a1 r.length c1) := (Blk.new V0 #[.slice a1 r.length c1] 37).cell 0 rfl
          refine hK.out _ _ ⟨hJ8.q, hJ8.bl⟩ (fun hS => ?_)
          clear hK K hJV
          try simp only [List.getElem_toArray, List.getElem_cons_succ, List.getElem_cons_zero, Act.put, List.setIfInBounds_toArray, List.set_cons_zero, List.set_cons_succ]
          refine wpAnyL_ready (i := 10) (by kernel_rfl) rfl (fun K hK => ?_)
          clear hS
          refine wp_pushO (.tmp 101) (.tmp 108) rfl w6 w9.heap.size 1048576 _ _ rfl hJ8.r3 hJ8.out.size V0.heap.size r (.slice a1 r.length c1) rfl hn8 rfl hla1.out hlen.out ?d4
          intro v' w12 hR9 hg9 hat9
          obtain ⟨ao9, cap9, hv9⟩ := hR9.form
          rw [List.length_append, List.length_singleton] at hv9
          subst hv9
          obtain ⟨hq9, hbl9, hJ9⟩ := hJ8.next3 hR9 hg9 hat9
          refine hK.out _ _ ⟨hq9, hbl9⟩ (fun hS => ?_)
          clear hK K hJ8 hn8 hR9 hg9 hal8
          try simp only [List.getElem_toArray, List.getElem_cons_succ, List.getElem_cons_zero, Act.put, List.setIfInBounds_toArray, List.set_cons_zero, List.set_cons_succ]
          refine wpAnyL_ready (i := 11) (by kernel_rfl) rfl (fun K hK => ?_)
          clear hS
          go_simp
          try go_wp2_with fail
          refine hK.out _ _ ⟨hq9, hbl9⟩ (fun hS => ?_)
          clear hK K
          try simp only [List.getElem_toArray, List.getElem_cons_succ, List.getElem_cons_zero, Act.put, List.setIfInBounds_toArray, List.set_cons_zero, List.set_cons_succ]
          refine wpAnyL_take (i := 12) (v := ?_) rfl (by kernel_rfl) (by kernel_rfl) (by kernel_rfl) (by kernel_rfl) (by kernel_rfl) (fun _ _ _ h => h) (.inl ⟨by kernel_rfl, fun w' hS => ?_⟩) hS ?_
          rotate_left
          ·
           skip
           go_simp
           try with_reducible rfl
          simp only [List.getElem_toArray, List.getElem_cons_succ, List.getElem_cons_zero, Act.put, List.setIfInBounds_toArray, List.set_cons_zero, List.set_cons_succ]
          refine wpAnyL_late (i := 13) (by kernel_rfl) rfl (by kernel_rfl) (fun K hK => ?_)
          clear hS
          have f1 := hq9.free 7
          have z0 := hq9.cell 7 rfl
          replace hJ9 := Lib.hid hJ9
          go_simp
          go_wp2_with fail
          refine hK.out _ _ ?_
          clear hK K f1 hq9 z0
          try simp only [List.getElem_toArray, List.getElem_cons_succ, List.getElem_cons_zero, Act.put, List.setIfInBounds_toArray, List.set_cons_zero, List.set_cons_succ]
          refine wpAnyL_done (by kernel_rfl) ?_ _
          rw [← h3.out] at hJ9
          go_wp2
          go_roundw
          case rel => exact ⟨i + 1, _, _, hi1.out, by go_num, by rw [hN3.out, hN4.out]; exact hJ9⟩
          case measure => have := hi1.out; simp [intOf]; omega
         | false =>
          have h4 := Lib.hid (hyes4.out hg)
          have h3 := hno3.out (by rw [hg]; decide)
          rw [← h3] at hJ
          have hlen := hlen4
          replace hg := Lib.hid hg
          clear h3 hyes3 hno3 hyes4 hno4
          go_upto_region 23 with fail
          have hal : Below w11.heap.size w11 w11.drew := below_drewN (Below.refl _ _) 1
          have hJV := hJ.out.stay hal
          have hS0 : Blk w11.drew pw #[s0, s1, s0, s1, m0, m1, .slice av A.vars.length cv, rv3, .slice av A.vars.length cv, rv4] 32 ∧ Below w6.heap.size w6 w11.drew := ⟨hJV.q, hJV.bl⟩
          refine wp_region_late [13] (S := fun V => Blk V pw #[s0, s1, s0, s1, m0, m1, .slice av A.vars.length cv, rv3, .slice av A.vars.length cv, rv4] 32 ∧ Below w6.heap.size w6 V) (by kernel_rfl) hS0 (fun hS => ?_)
          generalize w11.drew = V0 at *
          clear hS0 hal hJ x3'
          refine wpAnyL_take (i := 0) (v := ?_) rfl (by kernel_rfl) (by kernel_rfl) (by kernel_rfl) (by kernel_rfl) (by kernel_rfl) (fun _ _ _ h => h) (.inl ⟨by kernel_rfl, fun w' hS => ?_⟩) hS ?_
          rotate_left
          ·
           have z0 := hS.1.cell 9 rfl; have y0 := (stay_of_below hS.2).cell hx0.out; have y1 := (stay_of_below hS.2).cell hx1.out; have y2 := (stay_of_below hS.2).cell hx2.out; have y3 := (stay_of_below hS.2).cell hx3.out; have p4 := (stay_of_below hS.2).cell hc1.out
           go_simp
           try with_reducible rfl
          simp only [List.getElem_toArray, List.getElem_cons_succ, List.getElem_cons_zero, Act.put, List.setIfInBounds_toArray, List.set_cons_zero, List.set_cons_succ]
          refine wpAnyL_take (i := 1) (v := ?_) rfl (by kernel_rfl) (by kernel_rfl) (by kernel_rfl) (by kernel_rfl) (by kernel_rfl) (fun _ _ _ h => h) (.inl ⟨by kernel_rfl, fun w' hS => ?_⟩) hS ?_
          rotate_left
          ·
           have z0 := hS.1.cell 9 rfl; have y0 := (stay_of_below hS.2).cell hx0.out; have y1 := (stay_of_below hS.2).cell hx1.out; have y2 := (stay_of_below hS.2).cell hx2.out; have y3 := (stay_of_below hS.2).cell hx3.out; have p4 := (stay_of_below hS.2).cell hc1.out
           go_simp
           try with_reducible rfl
          simp only [List.getElem_toArray, List.getElem_cons_succ, List.getElem_cons_zero, Act.put, List.setIfInBounds_toArray, List.set_cons_zero, List.set_cons_succ]
          refine wpAnyL_take (i := 2) (v := ?_) rfl (by kernel_rfl) (by kernel_rfl) (by kernel_rfl) (by kernel_rfl) (by kernel_rfl) (fun _ _ _ h => h) (.inl ⟨by kernel_rfl, fun w' hS => ?_⟩) hS ?_
          rotate_left
          ·
           have z0 := hS.1.cell 9 rfl; have y0 := (stay_of_below hS.2).cell hx0.out; have y1 := (stay_of_below hS.2).cell hx1.out; have y2 := (stay_of_below hS.2).cell hx2.out; have y3 := (stay_of_below hS.2).cell hx3.out; have p4 := (stay_of_below hS.2).cell hc1.out
           go_simp
           try with_reducible rfl
          simp only [List.getElem_toArray, List.getElem_cons_succ, List.getElem_cons_zero, Act.put, List.setIfInBounds_toArray, List.set_cons_zero, List.set_cons_succ]
          refine wpAnyL_take (i := 3) (v := ?_) rfl (by kernel_rfl) (by kernel_rfl) (by kernel_rfl) (by kernel_rfl) (by kernel_rfl) (fun _ _ _ h => h) (.inl ⟨by kernel_rfl, fun w' hS => ?_⟩) hS ?_
          rotate_left
          ·
           have z0 := hS.1.cell 9 rfl; have y0 := (stay_of_below hS.2).cell hx0.out; have y1 := (stay_of_below hS.2).cell hx1.out; have y2 := (stay_of_below hS.2).cell hx2.out; have y3 := (stay_of_below hS.2).cell hx3.out; have p4 := (stay_of_below hS.2).cell hc1.out
           go_simp
           try with_reducible rfl
          simp only [List.getElem_toArray, List.getElem_cons_succ, List.getElem_cons_zero, Act.put, List.setIfInBounds_toArray, List.set_cons_zero, List.set_cons_succ]
          refine wpAnyL_take (i := 4) (v := ?_) rfl (by kernel_rfl) (by kernel_rfl) (by kernel_rfl) (by kernel_rfl) (by kernel_rfl) (fun _ _ _ h => h) (.inl ⟨by kernel_rfl, fun w' hS => ?_⟩) hS ?_
          rotate_left
          ·
           have z0 := hS.1.cell 9 rfl; have y0 := (stay_of_below hS.2).cell hx0.out; have y1 := (stay_of_below hS.2).cell hx1.out; have y2 := (stay_of_below hS.2).cell hx2.out; have y3 := (stay_of_below hS.2).cell hx3.out; have p4 := (stay_of_below hS.2).cell hc1.out
           go_simp
           try with_reducible rfl
          simp only [List.getElem_toArray, List.getElem_cons_succ, List.getElem_cons_zero, Act.put, List.setIfInBounds_toArray, List.set_cons_zero, List.set_cons_succ]
          refine wpAnyL_take (i := 5) (v := ?_) rfl (by kernel_rfl) (by kernel_rfl) (by kernel_rfl) (by kernel_rfl) (by kernel_rfl) (fun _ _ _ h => h) (.inl ⟨by kernel_rfl, fun w' hS => ?_⟩) hS ?_
          rotate_left
          ·
           have z0 := hS.1.cell 9 rfl; have y0 := (stay_of_below hS.2).cell hx0.out; have y1 := (stay_of_below hS.2).cell hx1.out; have y2 := (stay_of_below hS.2).cell hx2.out; have y3 := (stay_of_below hS.2).cell hx3.out; have p4 := (stay_of_below hS.2).cell hc1.out
           go_simp
           try with_reducible rfl
          simp only [List.getElem_toArray, List.getElem_cons_succ, List.getElem_cons_zero, Act.put, List.setIfInBounds_toArray, List.set_cons_zero, List.set_cons_succ]
          refine wpAnyL_take (i := 6) (v := ?_) rfl (by kernel_rfl) (by kernel_rfl) (by kernel_rfl) (by kernel_rfl) (by kernel_rfl) (fun _ _ _ h => h) (.inl ⟨by kernel_rfl, fun w' hS => ?_⟩) hS ?_
          rotate_left
          ·
           have z0 := hS.1.cell 9 rfl; have y0 := (stay_of_below hS.2).cell hx0.out; have y1 := (stay_of_below hS.2).cell hx1.out; have y2 := (stay_of_below hS.2).cell hx2.out; have y3 := (stay_of_below hS.2).cell hx3.out; have p4 := (stay_of_below hS.2).cell hc1.out
           go_simp
           try with_reducible rfl
          simp only [List.getElem_toArray, List.getElem_cons_succ, List.getElem_cons_zero, Act.put, List.setIfInBounds_toArray, List.set_cons_zero, List.set_cons_succ]
          refine wpAnyL_take (i := 7) (v := ?_) rfl (by kernel_rfl) (by kernel_rfl) (by kernel_rfl) (by kernel_rfl) (by kernel_rfl) (fun _ _ _ h => h) (.inl ⟨by kernel_rfl, fun w' hS => ?_⟩) hS ?_
          rotate_left
          ·
           have z0 := hS.1.cell 9 rfl; have y0 := (stay_of_below hS.2).cell hx0.out; have y1 := (stay_of_below hS.2).cell hx1.out; have y2 := (stay_of_below hS.2).cell hx2.out; have y3 := (stay_of_below hS.2).cell hx3.out; have p4 := (stay_of_below hS.2).cell hc1.out
           go_simp
           try with_reducible rfl
          simp only [List.getElem_toArray, List.getElem_cons_succ, List.getElem_cons_zero, Act.put, List.setIfInBounds_toArray, List.set_cons_zero, List.set_cons_succ]
          refine wpAnyL_take (i := 8) (v := ?_) rfl (by kernel_rfl) (by kernel_rfl) (by kernel_rfl) (by kernel_rfl) (by kernel_rfl) (fun _ _ _ h => h) (.inl ⟨by kernel_rfl, fun w' hS => ?_⟩) hS ?_
          rotate_left
          ·
           have z0 := hS.1.cell 9 rfl; have y0 := (stay_of_below hS.2).cell hx0.out; have y1 := (stay_of_below hS.2).cell hx1.out; have y2 := (stay_of_below hS.2).cell hx2.out; have y3 := (stay_of_below hS.2).cell hx3.out; have p4 := (stay_of_below hS.2).cell hc1.out
           go_simp
           try with_reducible rfl
          simp only [List.getElem_toArray, List.getElem_cons_succ, List.getElem_cons_zero, Act.put, List.setIfInBounds_toArray, List.set_cons_zero, List.set_cons_succ]
          refine wpAnyL_ready (i := 9) (by kernel_rfl) rfl (fun K hK => ?_)
          clear hS
          go_simp
          go_wp2_with fail
          have hal8 := ((Below.refl V0.heap.size V0).alloc (Nat.le_refl _) (.cells #[.slice a1 r.length c1] 37))
          have hJ8 := hJV.stay hal8
          have hn8 : (V0.alloc (.cells #[.slice a1 r.length c1] 37)).cell? ⟨V0.heap.size, 0, none⟩ = some (.slice a1 r.length c1) := (Blk.new V0 #[.slice a1 r.length c1] 37).cell 0 rfl
          refine hK.out _ _ ⟨hJ8.q, hJ8.bl⟩ (fun hS => ?_)
          clear hK K hJV
          try simp only [List.getElem_toArray, List.getElem_cons_succ, List.getElem_cons_zero, Act.put, List.setIfInBounds_toArray, List.set_cons_zero, List.set_cons_succ]
          refine wpAnyL_ready (i := 10) (by kernel_rfl) rfl (fun K hK => ?_)
          clear hS
          refine wp_pushO (.tmp 114) (.tmp 121) rfl w6 w9.heap.size 1048576 _ _ rfl hJ8.r4 hJ8.out.size V0.heap.size r (.slice a1 r.length c1) rfl hn8 rfl hla1.out hlen.out ?d5
          intro v' w12 hR9 hg9 hat9
          obtain ⟨ao9, cap9, hv9⟩ := hR9.form
          rw [List.length_append, List.length_singleton] at hv9
          subst hv9
          obtain ⟨hq9, hbl9, hJ9⟩ := hJ8.next4 hR9 hg9 hat9
          refine hK.out _ _ ⟨hq9, hbl9⟩ (fun hS => ?_)
          clear hK K hJ8 hn8 hR9 hg9 hal8
          try simp only [List.getElem_toArray, List.getElem_cons_succ, List.getElem_cons_zero, Act.put, List.setIfInBounds_toArray, List.set_cons_zero, List.set_cons_succ]
          refine wpAnyL_ready (i := 11) (by kernel_rfl) rfl (fun K hK => ?_)
          clear hS
          go_simp
          try go_wp2_with fail
          refine hK.out _ _ ⟨hq9, hbl9⟩ (fun hS => ?_)
          clear hK K
          try simp only [List.getElem_toArray, List.getElem_cons_succ, List.getElem_cons_zero, Act.put, List.setIfInBounds_toArray, List.set_cons_zero, List.set_cons_succ]
          refine wpAnyL_take (i := 12) (v := ?_) rfl (by kernel_rfl) (by kernel_rfl) (by kernel_rfl) (by kernel_rfl) (by kernel_rfl) (fun _ _ _ h => h) (.inl ⟨by kernel_rfl, fun w' hS => ?_⟩) hS ?_
          rotate_left
          ·
           skip
           go_simp
           try with_reducible rfl
          simp only [List.getElem_toArray, List.getElem_cons_succ, List.getElem_cons_zero, Act.put, List.setIfInBounds_toArray, List.set_cons_zero, List.set_cons_succ]
          refine wpAnyL_late (i := 13) (by kernel_rfl) rfl (by kernel_rfl) (fun K hK => ?_)
          clear hS
          have f1 := hq9.free 9
          have z0 := hq9.cell 9 rfl
          replace hJ9 := Lib.hid hJ9
          go_simp
          go_wp2_with fail
          refine hK.out _ _ ?_
          clear hK K f1 hq9 z0
          try simp only [List.getElem_toArray, List.getElem_cons_succ, List.getElem_cons_zero, Act.put, List.setIfInBounds_toArray, List.set_cons_zero, List.set_cons_succ]
          refine wpAnyL_done (by kernel_rfl) ?_ _
          rw [← h4.out] at hJ9
          go_wp2
          go_roundw
          case rel => exact ⟨i + 1, _, _, hi1.out, by go_num, by rw [hN3.out, hN4.out]; exact hJ9⟩
          case measure => have := hi1.out; simp [intOf]; omega
      ·have hki : ¬ (i : Int) < (A.rows.length : Int) := by omega
       obtain rfl : i = A.rows.length := by omega
       rw [someK_all, someK_all] at hJ
       have ho := hJ.out.out
       have hbl := hJ.out.bl
       have hpp := hlow.out.2
       have e9 : ∀ b, b < w9.heap.size → b ≠ pw → w10.heap[b]? = w9.heap[b]? := fun b h1 h2 => ho.block b h1 h2
       have hsM := o9.out.size
       have hsK := hbKMh.out.size
       have hsJ := oK.out.size
       have hfin : Hid (WantP A B 1048576 w6 w10 pw) := Lib.hid (by
        refine ⟨_, _, _, _, _, _, _, _, _, _, hJ.out.q, hbl, ?_, ?_, ?_, ?_, ?_⟩
        ·rw [hjz.out]
         exact hR0.out w10 hbl (by have := ho.size; omega) fun b h1 h2 => (((e9 b (by omega) (by have := hq8l.out; omega)).trans (o9.out.block b (by omega) (by have := hq8l.out; omega))).trans (hbKMh.out.block b (by omega))).trans (oK.out.block b h2 (by have := hq8l.out; omega))
        ·rw [hjz.out]
         exact hR0.out w10 hbl (by have := ho.size; omega) fun b h1 h2 => (((e9 b (by omega) (by have := hq8l.out; omega)).trans (o9.out.block b (by omega) (by have := hq8l.out; omega))).trans (hbKMh.out.block b (by omega))).trans (oK.out.block b h2 (by have := hq8l.out; omega))
        ·rw [hsz.out]
         exact hR1.out w10 hbl (by have := ho.size; omega) fun b h1 h2 => (e9 b (by omega) (by have := hq8l.out; have := hb8Jh.out.size; omega)).trans (o9.out.block b h2 (by have := hq8l.out; have := hb8Jh.out.size; omega))
        ·rw [hsz.out]
         exact ⟨_, _, rfl, TextsA.below hT6.out.av hbl, hJ.out.r3.read hbl⟩
        ·rw [hsz.out]
         exact ⟨_, _, rfl, TextsA.below hT6.out.av hbl, hJ.out.r4.read hbl⟩)
       clear ho hbl e9 hJ
       go_wp2_with fail
       go_meet
       exact hfin
  obtain ⟨wx, rfl⟩ : ∃ wx : World, wx = wc := ⟨_, rfl⟩
  have hWant := hcut
  have hb6x : Below w6.heap.size w6 wx := by
   obtain ⟨_, _, _, _, _, _, _, _, _, _, _, h, -⟩ := hcut.out
   exact h
  have hbwx := hw6h.out.trans (hb6x.mono hw6h.out.size)
  have d0 := (stay_of_below hb6x).cell (qa6.out.cell 0 rfl)
  have d1 := (stay_of_below hb6x).cell (qa6.out.cell 1 rfl)
  have d2 := (stay_of_below hb6x).cell (qb6.out.cell 0 rfl)
  have d3 := (stay_of_below hb6x).cell (qb6.out.cell 1 rfl)
  have kA : ∀ r ∈ A.rows, wtL r ≤ 1100000 := fun r hr => by have := wtA.out r hr; omega
  have kB : ∀ r ∈ B.rows, wtL r ≤ 1100000 := fun r hr => by have := wtB.out r hr; omega
  have hpr : A.rows.length * B.rows.length ≤ 1048576 := Nat.le_trans (Nat.mul_le_mul l3 l4) (by decide)
  have hEx := Lib.hid (fun V (h : Below wx.heap.size wx V) => hEh.out V (hbwx.trans (h.mono hbwx.size)))
  have tAx := Lib.hid (fun V (h : Below wx.heap.size wx V) => tA6.out.stay (hb6x.trans (h.mono hb6x.size)))
  have tBx := Lib.hid (fun V (h : Below wx.heap.size wx V) => tB6.out.stay (hb6x.trans (h.mono hb6x.size)))
  have cH := Lib.hid (fun V (h : Below wx.heap.size wx V) => jhash_any 1048576 (by omega) V (hEx.out V h) _ _ A B (tAx.out V h) (tBx.out V h) (by omega) (by omega) (by omega) (by omega) (by omega) hpr kA kB)
  have cLo := Lib.hid (fun V (h : Below wx.heap.size wx V) => jloop_any 1048576 (by omega) V (hEx.out V h) _ _ A B (tAx.out V h) (tBx.out V h) (by omega) (by omega) (by omega) (by omega) (by omega) hpr)
  have cMi := Lib.hid (fun V (h : Below wx.heap.size wx V) => jminus_any 1048576 (by omega) V (hEx.out V h) _ _ A B (tAx.out V h) (tBx.out V h) (by omega) (by omega) (by omega) (by omega) (by omega) kA kB)
  have cSe := Lib.hid (fun V (h : Below wx.heap.size wx V) => jsemi_any 1048576 (by omega) V (hEx.out V h) _ _ A B (tAx.out V h) (tBx.out V h) (by omega) (by omega) (by omega) (by omega) (by omega) kA kB)
  have cAn := Lib.hid (fun V (h : Below wx.heap.size wx V) => janti_any 1048576 (by omega) V (hEx.out V h) _ _ A B (tAx.out V h) (tBx.out V h) (by omega) (by omega) (by omega) (by omega) (by omega) kA kB)
  have hbwxh := Lib.hid hbwx
  have hb6xh := Lib.hid hb6x
  clear hcut hbwx hb6x kA kB hpr x0 x1 x2 x3 x4 x5 q8
  go_upto_region 24 with fail
  go_cut [11] (fun v wy => ∃ pg, v = .pointer (some ⟨pg, 0, none⟩) ∧ Hid (GotP A B 1048576 wx wy pg))
  case first =>
   as_aux_lemma =>
    have h_V0 : Below wx.heap.size wx wx.drew := below_drewN (Below.refl _ _) 1
    refine wp_region_held_drew (S := fun V => Below wx.heap.size wx V) (by kernel_rfl) h_V0 (fun hS => ?_)
    generalize wx.drew = V0 at *
    refine tkH 0 ?_ rfl (fun w' hS => ?_) hS ?_
    rotate_left
    ·
     have p0 := (stay_of_below hS).cell d0; have p1 := (stay_of_below hS).cell d1; have p2 := (stay_of_below hS).cell d2; have p3 := (stay_of_below hS).cell d3
     go_simp
     try with_reducible rfl
    refine tkH 1 ?_ rfl (fun w' hS => ?_) hS ?_
    rotate_left
    ·
     have p0 := (stay_of_below hS).cell d0; have p1 := (stay_of_below hS).cell d1; have p2 := (stay_of_below hS).cell d2; have p3 := (stay_of_below hS).cell d3
     go_simp
     try with_reducible rfl
    refine tkH 3 ?_ rfl (fun w' hS => ?_) hS ?_
    rotate_left
    ·
     have p0 := (stay_of_below hS).cell d0; have p1 := (stay_of_below hS).cell d1; have p2 := (stay_of_below hS).cell d2; have p3 := (stay_of_below hS).cell d3
     go_simp
     try with_reducible rfl
    refine tkH 4 ?_ rfl (fun w' hS => ?_) hS ?_
    rotate_left
    ·
     have p0 := (stay_of_below hS).cell d0; have p1 := (stay_of_below hS).cell d1; have p2 := (stay_of_below hS).cell d2; have p3 := (stay_of_below hS).cell d3
     go_simp
     try with_reducible rfl
    refine tkH 6 ?_ rfl (fun w' hS => ?_) hS ?_
    rotate_left
    ·
     have p0 := (stay_of_below hS).cell d0; have p1 := (stay_of_below hS).cell d1; have p2 := (stay_of_below hS).cell d2; have p3 := (stay_of_below hS).cell d3
     go_simp
     try with_reducible rfl
    refine tkH 7 ?_ rfl (fun w' hS => ?_) hS ?_
    rotate_left
    ·
     have p0 := (stay_of_below hS).cell d0; have p1 := (stay_of_below hS).cell d1; have p2 := (stay_of_below hS).cell d2; have p3 := (stay_of_below hS).cell d3
     go_simp
     try with_reducible rfl
    refine tkH 9 ?_ rfl (fun w' hS => ?_) hS ?_
    rotate_left
    ·
     have p0 := (stay_of_below hS).cell d0; have p1 := (stay_of_below hS).cell d1; have p2 := (stay_of_below hS).cell d2; have p3 := (stay_of_below hS).cell d3
     go_simp
     try with_reducible rfl
    refine tkH 10 ?_ rfl (fun w' hS => ?_) hS ?_
    rotate_left
    ·
     have p0 := (stay_of_below hS).cell d0; have p1 := (stay_of_below hS).cell d1; have p2 := (stay_of_below hS).cell d2; have p3 := (stay_of_below hS).cell d3
     go_simp
     try with_reducible rfl
    refine tkH 12 ?_ rfl (fun w' hS => ?_) hS ?_
    rotate_left
    ·
     have p0 := (stay_of_below hS).cell d0; have p1 := (stay_of_below hS).cell d1; have p2 := (stay_of_below hS).cell d2; have p3 := (stay_of_below hS).cell d3
     go_simp
     try with_reducible rfl
    refine tkH 13 ?_ rfl (fun w' hS => ?_) hS ?_
    rotate_left
    ·
     have p0 := (stay_of_below hS).cell d0; have p1 := (stay_of_below hS).cell d1; have p2 := (stay_of_below hS).cell d2; have p3 := (stay_of_below hS).cell d3
     go_simp
     try with_reducible rfl
    refine wpAnyH_ready (rs := [2, 16]) (by kernel_rfl) (by simp) ?_
    refine AllReadyH.cons rfl (fun K hK => ?_) (AllReadyH.cons rfl (fun K hK => ?_) AllReadyH.nil)
    ·
     clear hS
     go_simp
     refine (cH.out V0 h_V0).mono ?_
     rintro e g0 ⟨v, rfl, hO⟩
     obtain ⟨vv, rv, rfl, hb, hown, hszs, hMR⟩ := hO
     obtain ⟨an0, cn0, hvn⟩ := own_form4x hown
     obtain ⟨ar0, cr0, hvr⟩ := hMR.form
     subst hvn
     subst hvr
     have G0 := GotT.of (⟨_, _, rfl, hb, hown, hszs, hMR⟩ : TabO V0 g0 1048576 _ _)
     have h_g0 := h_V0.trans (hb.mono h_V0.size)
     have s_g0 := hb.size
     clear hb hown hszs hMR
     go_wp2_with fail
     refine hK.out _ _ h_g0 (fun hS => ?_)
     clear hK K
     try simp only [List.getElem_toArray, List.getElem_cons_succ, List.getElem_cons_zero, Act.put, List.setIfInBounds_toArray, List.set_cons_zero, List.set_cons_succ]
     refine wpAnyH_ready (rs := [5, 16]) (by kernel_rfl) (by simp) ?_
     refine AllReadyH.cons rfl (fun K hK => ?_) (AllReadyH.cons rfl (fun K hK => ?_) AllReadyH.nil)
     ·
      clear hS
      go_simp
      refine (cLo.out g0 h_g0).mono ?_
      rintro e g1 ⟨v, rfl, hO⟩
      obtain ⟨vv, rv, rfl, hb, hown, hszs, hMR⟩ := hO
      obtain ⟨an1, cn1, hvn⟩ := own_form4x hown
      obtain ⟨ar1, cr1, hvr⟩ := hMR.form
      subst hvn
      subst hvr
      have G1 := GotT.of (⟨_, _, rfl, hb, hown, hszs, hMR⟩ : TabO g0 g1 1048576 _ _)
      replace G0 := G0.keep (fun b hS hlt => hb.block b hlt)
      have h_g1 := h_g0.trans (hb.mono h_g0.size)
      have s_g1 := hb.size
      clear hb hown hszs hMR
      go_wp2_with fail
      refine hK.out _ _ h_g1 (fun hS => ?_)
      clear hK K
      try simp only [List.getElem_toArray, List.getElem_cons_succ, List.getElem_cons_zero, Act.put, List.setIfInBounds_toArray, List.set_cons_zero, List.set_cons_succ]
      refine wpAnyH_ready (rs := [8, 16]) (by kernel_rfl) (by simp) ?_
      refine AllReadyH.cons rfl (fun K hK => ?_) (AllReadyH.cons rfl (fun K hK => ?_) AllReadyH.nil)
      ·
       clear hS
       go_simp
       refine (cMi.out g1 h_g1).mono ?_
       rintro e g2 ⟨v, rfl, hO⟩
       obtain ⟨vv, rv, rfl, hb, hown, hszs, hMR⟩ := hO
       obtain ⟨an2, cn2, hvn⟩ := own_form4x hown
       obtain ⟨ar2, cr2, hvr⟩ := hMR.form
       subst hvn
       subst hvr
       have G2 := GotT.of (⟨_, _, rfl, hb, hown, hszs, hMR⟩ : TabO g1 g2 1048576 _ _)
       replace G0 := G0.keep (fun b hS hlt => hb.block b hlt)
       replace G1 := G1.keep (fun b hS hlt => hb.block b hlt)
       have h_g2 := h_g1.trans (hb.mono h_g1.size)
       have s_g2 := hb.size
       clear hb hown hszs hMR
       go_wp2_with fail
       refine hK.out _ _ h_g2 (fun hS => ?_)
       clear hK K
       try simp only [List.getElem_toArray, List.getElem_cons_succ, List.getElem_cons_zero, Act.put, List.setIfInBounds_toArray, List.set_cons_zero, List.set_cons_succ]
       refine wpAnyH_ready (rs := [11, 16]) (by kernel_rfl) (by simp) ?_
       refine AllReadyH.cons rfl (fun K hK => ?_) (AllReadyH.cons rfl (fun K hK => ?_) AllReadyH.nil)
       ·
        clear hS
        go_simp
        refine (cSe.out g2 h_g2).mono ?_
        rintro e g3 ⟨v, rfl, hO⟩
        obtain ⟨vv, rv, rfl, hb, hown, hszs, hMR⟩ := hO
        obtain ⟨an3, cn3, hvn⟩ := own_form4x hown
        obtain ⟨ar3, cr3, hvr⟩ := hMR.form
        subst hvn
        subst hvr
        have G3 := GotT.of (⟨_, _, rfl, hb, hown, hszs, hMR⟩ : TabO g2 g3 1048576 _ _)
        replace G0 := G0.keep (fun b hS hlt => hb.block b hlt)
        replace G1 := G1.keep (fun b hS hlt => hb.block b hlt)
        replace G2 := G2.keep (fun b hS hlt => hb.block b hlt)
        have h_g3 := h_g2.trans (hb.mono h_g2.size)
        have s_g3 := hb.size
        clear hb hown hszs hMR
        go_wp2_with fail
        refine hK.out _ _ h_g3 (fun hS => ?_)
        clear hK K
        try simp only [List.getElem_toArray, List.getElem_cons_succ, List.getElem_cons_zero, Act.put, List.setIfInBounds_toArray, List.set_cons_zero, List.set_cons_succ]
        refine wpAnyH_ready (rs := [14, 16]) (by kernel_rfl) (by simp) ?_
        refine AllReadyH.cons rfl (fun K hK => ?_) (AllReadyH.cons rfl (fun K hK => ?_) AllReadyH.nil)
        ·
         clear hS
         go_simp
         refine (cAn.out g3 h_g3).mono ?_
         rintro e g4 ⟨v, rfl, hO⟩
         obtain ⟨vv, rv, rfl, hb, hown, hszs, hMR⟩ := hO
         obtain ⟨an4, cn4, hvn⟩ := own_form4x hown
         obtain ⟨ar4, cr4, hvr⟩ := hMR.form
         subst hvn
         subst hvr
         have G4 := GotT.of (⟨_, _, rfl, hb, hown, hszs, hMR⟩ : TabO g3 g4 1048576 _ _)
         replace G0 := G0.keep (fun b hS hlt => hb.block b hlt)
         replace G1 := G1.keep (fun b hS hlt => hb.block b hlt)
         replace G2 := G2.keep (fun b hS hlt => hb.block b hlt)
         replace G3 := G3.keep (fun b hS hlt => hb.block b hlt)
         have h_g4 := h_g3.trans (hb.mono h_g3.size)
         have s_g4 := hb.size
         clear hb hown hszs hMR
         go_wp2_with fail
         refine hK.out _ _ h_g4 (fun hS => ?_)
         clear hK K
         try simp only [List.getElem_toArray, List.getElem_cons_succ, List.getElem_cons_zero, Act.put, List.setIfInBounds_toArray, List.set_cons_zero, List.set_cons_succ]
         refine tkH 15 (.agg #[.slice an0 (joinZ A B).vars.length cn0, .slice ar0 (joinZ A B).rows.length cr0, .slice an1 (joinZ A B).vars.length cn1, .slice ar1 (joinZ A B).rows.length cr1, .slice an2 (someZ A B false true).vars.length cn2, .slice ar2 (someZ A B false true).rows.length cr2, .slice an3 (someZ A B true false).vars.length cn3, .slice ar3 (someZ A B true false).rows.length cr3, .slice an4 (someZ A B false false).vars.length cn4, .slice ar4 (someZ A B false false).rows.length cr4]) rfl (fun w' hS => exec_build 32 _ rfl _ _ w' (by kernel_rfl) (built_five an0 ar0 an1 ar1 an2 ar2 an3 ar3 an4 ar4 _ _ _ _ _ _ _ _ _ _ _ _ _ _ _ _ _ _ _ _)) hS ?_
         refine rdH 16 rfl (fun K hK => ?_)
         clear hS
         go_simp
         go_wp2_with fail
         have hal : Below g4.heap.size g4 (g4.alloc (.cells #[.slice none 0 0, .slice none 0 0, .slice none 0 0, .slice none 0 0, .slice none 0 0, .slice none 0 0, .slice none 0 0, .slice none 0 0, .slice none 0 0, .slice none 0 0] 32)) := (Below.refl _ _).alloc (Nat.le_refl _) _
         have hqg0 := Blk.new g4 #[.slice none 0 0, .slice none 0 0, .slice none 0 0, .slice none 0 0, .slice none 0 0, .slice none 0 0, .slice none 0 0, .slice none 0 0, .slice none 0 0, .slice none 0 0] 32
         have h_ga := h_g4.trans (hal.mono h_g4.size)
         have s_ga := hal.size
         replace G0 := G0.keep (fun b hS hlt => hal.block b hlt)
         replace G1 := G1.keep (fun b hS hlt => hal.block b hlt)
         replace G2 := G2.keep (fun b hS hlt => hal.block b hlt)
         replace G3 := G3.keep (fun b hS hlt => hal.block b hlt)
         replace G4 := G4.keep (fun b hS hlt => hal.block b hlt)
         refine hK.out _ _ h_ga (fun hS => ?_)
         clear hK K
         try simp only [List.getElem_toArray, List.getElem_cons_succ, List.getElem_cons_zero, Act.put, List.setIfInBounds_toArray, List.set_cons_zero, List.set_cons_succ]
         obtain ⟨pg, hpg⟩ : ∃ p, g4.heap.size = p := ⟨_, rfl⟩
         have hpga : pg < (g4.alloc (.cells #[.slice none 0 0, .slice none 0 0, .slice none 0 0, .slice none 0 0, .slice none 0 0, .slice none 0 0, .slice none 0 0, .slice none 0 0, .slice none 0 0, .slice none 0 0] 32)).heap.size := by rw [← hpg]; exact hqg0.lt
         rw [hpg] at hqg0
         try rw [hpg]
         have hqg : Blk (g4.alloc (.cells #[.slice none 0 0, .slice none 0 0, .slice none 0 0, .slice none 0 0, .slice none 0 0, .slice none 0 0, .slice none 0 0, .slice none 0 0, .slice none 0 0, .slice none 0 0] 32)) pg #[.slice none 0 0, .slice none 0 0, .slice none 0 0, .slice none 0 0, .slice none 0 0, .slice none 0 0, .slice none 0 0, .slice none 0 0, .slice none 0 0, .slice none 0 0] 32 := hqg0
         replace hpg := Lib.hid hpg
         clear hqg0 hal
         generalize g4.alloc (.cells #[.slice none 0 0, .slice none 0 0, .slice none 0 0, .slice none 0 0, .slice none 0 0, .slice none 0 0, .slice none 0 0, .slice none 0 0, .slice none 0 0, .slice none 0 0] 32) = ga at *
         refine rdH 17 rfl (fun K hK => ?_)
         clear hS
         rw [if_pos (by kernel_rfl)]
         have hpx : wx.heap.size ≤ pg := Nat.le_trans h_g4.size (Nat.le_of_eq hpg.out)
         refine wp_store_row 32 (.tmp 11) (.tmp 140) rfl pg #[.slice an0 (joinZ A B).vars.length cn0, .slice ar0 (joinZ A B).rows.length cr0, .slice an1 (joinZ A B).vars.length cn1, .slice ar1 (joinZ A B).rows.length cr1, .slice an2 (someZ A B false true).vars.length cn2, .slice ar2 (someZ A B false true).rows.length cr2, .slice an3 (someZ A B true false).vars.length cn3, .slice ar3 (someZ A B true false).rows.length cr3, .slice an4 (someZ A B false false).vars.length cn4, .slice ar4 (someZ A B false false).rows.length cr4] rfl rfl 32 #[.slice none 0 0, .slice none 0 0, .slice none 0 0, .slice none 0 0, .slice none 0 0, .slice none 0 0, .slice none 0 0, .slice none 0 0, .slice none 0 0, .slice none 0 0] hqg (by kernel_rfl) rfl (by kernel_rfl) ?_
         have hfin : Hid (GotP A B 1048576 wx (World.setRow ga pg #[.slice an0 (joinZ A B).vars.length cn0, .slice ar0 (joinZ A B).rows.length cr0, .slice an1 (joinZ A B).vars.length cn1, .slice ar1 (joinZ A B).rows.length cr1, .slice an2 (someZ A B false true).vars.length cn2, .slice ar2 (someZ A B false true).rows.length cr2, .slice an3 (someZ A B true false).vars.length cn3, .slice ar3 (someZ A B true false).rows.length cr3, .slice an4 (someZ A B false false).vars.length cn4, .slice ar4 (someZ A B false false).rows.length cr4]) pg) := Lib.hid (gotP_row hqg h_ga hpx G0 G1 G2 G3 G4 ⟨h_V0.size, s_g0, Nat.le_refl _, s_g1, Nat.le_refl _, s_g2, Nat.le_refl _, s_g3, Nat.le_refl _, s_g4, s_ga⟩ (.inr (.inr (.inr (.inr (.inr (hpg.out)))))))
         have hbz := below_setRow h_ga hpx #[.slice an0 (joinZ A B).vars.length cn0, .slice ar0 (joinZ A B).rows.length cr0, .slice an1 (joinZ A B).vars.length cn1, .slice ar1 (joinZ A B).rows.length cr1, .slice an2 (someZ A B false true).vars.length cn2, .slice ar2 (someZ A B false true).rows.length cr2, .slice an3 (someZ A B true false).vars.length cn3, .slice ar3 (someZ A B true false).rows.length cr3, .slice an4 (someZ A B false false).vars.length cn4, .slice ar4 (someZ A B false false).rows.length cr4]
         generalize World.setRow ga pg #[.slice an0 (joinZ A B).vars.length cn0, .slice ar0 (joinZ A B).rows.length cr0, .slice an1 (joinZ A B).vars.length cn1, .slice ar1 (joinZ A B).rows.length cr1, .slice an2 (someZ A B false true).vars.length cn2, .slice ar2 (someZ A B false true).rows.length cr2, .slice an3 (someZ A B true false).vars.length cn3, .slice ar3 (someZ A B true false).rows.length cr3, .slice an4 (someZ A B false false).vars.length cn4, .slice ar4 (someZ A B false false).rows.length cr4] = wz at *
         refine hK.out _ _ hbz (fun hS => ?_)
         clear hK K
         try simp only [List.getElem_toArray, List.getElem_cons_succ, List.getElem_cons_zero, Act.put, List.setIfInBounds_toArray, List.set_cons_zero, List.set_cons_succ]
         refine wpAnyH_done (by kernel_rfl) ?_ _
         clear hS hbz
         go_wp2_with fail
         go_meet
         exact ⟨pg, rfl, hfin⟩
        ·
         clear hS
         go_simp
         go_wp2_with fail
         have hal : Below g3.heap.size g3 (g3.alloc (.cells #[.slice none 0 0, .slice none 0 0, .slice none 0 0, .slice none 0 0, .slice none 0 0, .slice none 0 0, .slice none 0 0, .slice none 0 0, .slice none 0 0, .slice none 0 0] 32)) := (Below.refl _ _).alloc (Nat.le_refl _) _
         have hqg0 := Blk.new g3 #[.slice none 0 0, .slice none 0 0, .slice none 0 0, .slice none 0 0, .slice none 0 0, .slice none 0 0, .slice none 0 0, .slice none 0 0, .slice none 0 0, .slice none 0 0] 32
         have h_ga := h_g3.trans (hal.mono h_g3.size)
         have s_ga := hal.size
         replace G0 := G0.keep (fun b hS hlt => hal.block b hlt)
         replace G1 := G1.keep (fun b hS hlt => hal.block b hlt)
         replace G2 := G2.keep (fun b hS hlt => hal.block b hlt)
         replace G3 := G3.keep (fun b hS hlt => hal.block b hlt)
         refine hK.out _ _ h_ga (fun hS => ?_)
         clear hK K
         try simp only [List.getElem_toArray, List.getElem_cons_succ, List.getElem_cons_zero, Act.put, List.setIfInBounds_toArray, List.set_cons_zero, List.set_cons_succ]
         obtain ⟨pg, hpg⟩ : ∃ p, g3.heap.size = p := ⟨_, rfl⟩
         have hpga : pg < (g3.alloc (.cells #[.slice none 0 0, .slice none 0 0, .slice none 0 0, .slice none 0 0, .slice none 0 0, .slice none 0 0, .slice none 0 0, .slice none 0 0, .slice none 0 0, .slice none 0 0] 32)).heap.size := by rw [← hpg]; exact hqg0.lt
         rw [hpg] at hqg0
         try rw [hpg]
         have hqg : Blk (g3.alloc (.cells #[.slice none 0 0, .slice none 0 0, .slice none 0 0, .slice none 0 0, .slice none 0 0, .slice none 0 0, .slice none 0 0, .slice none 0 0, .slice none 0 0, .slice none 0 0] 32)) pg #[.slice none 0 0, .slice none 0 0, .slice none 0 0, .slice none 0 0, .slice none 0 0, .slice none 0 0, .slice none 0 0, .slice none 0 0, .slice none 0 0, .slice none 0 0] 32 := hqg0
         replace hpg := Lib.hid hpg
         clear hqg0 hal
         generalize g3.alloc (.cells #[.slice none 0 0, .slice none 0 0, .slice none 0 0, .slice none 0 0, .slice none 0 0, .slice none 0 0, .slice none 0 0, .slice none 0 0, .slice none 0 0, .slice none 0 0] 32) = ga at *
         refine rdH 14 rfl (fun K hK => ?_)
         clear hS
         go_simp
         refine (cAn.out ga h_ga).mono ?_
         rintro e g4 ⟨v, rfl, hO⟩
         obtain ⟨vv, rv, rfl, hb, hown, hszs, hMR⟩ := hO
         obtain ⟨an4, cn4, hvn⟩ := own_form4x hown
         obtain ⟨ar4, cr4, hvr⟩ := hMR.form
         subst hvn
         subst hvr
         have G4 := GotT.of (⟨_, _, rfl, hb, hown, hszs, hMR⟩ : TabO ga g4 1048576 _ _)
         replace G0 := G0.keep (fun b hS hlt => hb.block b hlt)
         replace G1 := G1.keep (fun b hS hlt => hb.block b hlt)
         replace G2 := G2.keep (fun b hS hlt => hb.block b hlt)
         replace G3 := G3.keep (fun b hS hlt => hb.block b hlt)
         replace hqg := blk_stay hqg hb
         have h_g4 := h_ga.trans (hb.mono h_ga.size)
         have s_g4 := hb.size
         clear hb hown hszs hMR
         go_wp2_with fail
         refine hK.out _ _ h_g4 (fun hS => ?_)
         clear hK K
         try simp only [List.getElem_toArray, List.getElem_cons_succ, List.getElem_cons_zero, Act.put, List.setIfInBounds_toArray, List.set_cons_zero, List.set_cons_succ]
         refine tkH 15 (.agg #[.slice an0 (joinZ A B).vars.length cn0, .slice ar0 (joinZ A B).rows.length cr0, .slice an1 (joinZ A B).vars.length cn1, .slice ar1 (joinZ A B).rows.length cr1, .slice an2 (someZ A B false true).vars.length cn2, .slice ar2 (someZ A B false true).rows.length cr2, .slice an3 (someZ A B true false).vars.length cn3, .slice ar3 (someZ A B true false).rows.length cr3, .slice an4 (someZ A B false false).vars.length cn4, .slice ar4 (someZ A B false false).rows.length cr4]) rfl (fun w' hS => exec_build 32 _ rfl _ _ w' (by kernel_rfl) (built_five an0 ar0 an1 ar1 an2 ar2 an3 ar3 an4 ar4 _ _ _ _ _ _ _ _ _ _ _ _ _ _ _ _ _ _ _ _)) hS ?_
         refine rdH 17 rfl (fun K hK => ?_)
         clear hS
         rw [if_pos (by kernel_rfl)]
         have hpx : wx.heap.size ≤ pg := Nat.le_trans h_g3.size (Nat.le_of_eq hpg.out)
         refine wp_store_row 32 (.tmp 11) (.tmp 140) rfl pg #[.slice an0 (joinZ A B).vars.length cn0, .slice ar0 (joinZ A B).rows.length cr0, .slice an1 (joinZ A B).vars.length cn1, .slice ar1 (joinZ A B).rows.length cr1, .slice an2 (someZ A B false true).vars.length cn2, .slice ar2 (someZ A B false true).rows.length cr2, .slice an3 (someZ A B true false).vars.length cn3, .slice ar3 (someZ A B true false).rows.length cr3, .slice an4 (someZ A B false false).vars.length cn4, .slice ar4 (someZ A B false false).rows.length cr4] rfl rfl 32 #[.slice none 0 0, .slice none 0 0, .slice none 0 0, .slice none 0 0, .slice none 0 0, .slice none 0 0, .slice none 0 0, .slice none 0 0, .slice none 0 0, .slice none 0 0] hqg (by kernel_rfl) rfl (by kernel_rfl) ?_
         have hfin : Hid (GotP A B 1048576 wx (World.setRow g4 pg #[.slice an0 (joinZ A B).vars.length cn0, .slice ar0 (joinZ A B).rows.length cr0, .slice an1 (joinZ A B).vars.length cn1, .slice ar1 (joinZ A B).rows.length cr1, .slice an2 (someZ A B false true).vars.length cn2, .slice ar2 (someZ A B false true).rows.length cr2, .slice an3 (someZ A B true false).vars.length cn3, .slice ar3 (someZ A B true false).rows.length cr3, .slice an4 (someZ A B false false).vars.length cn4, .slice ar4 (someZ A B false false).rows.length cr4]) pg) := Lib.hid (gotP_row hqg h_g4 hpx G0 G1 G2 G3 G4 ⟨h_V0.size, s_g0, Nat.le_refl _, s_g1, Nat.le_refl _, s_g2, Nat.le_refl _, s_g3, s_ga, s_g4, Nat.le_refl _⟩ (.inr (.inr (.inr (.inr (.inl ⟨hpg.out, hpga⟩))))))
         have hbz := below_setRow h_g4 hpx #[.slice an0 (joinZ A B).vars.length cn0, .slice ar0 (joinZ A B).rows.length cr0, .slice an1 (joinZ A B).vars.length cn1, .slice ar1 (joinZ A B).rows.length cr1, .slice an2 (someZ A B false true).vars.length cn2, .slice ar2 (someZ A B false true).rows.length cr2, .slice an3 (someZ A B true false).vars.length cn3, .slice ar3 (someZ A B true false).rows.length cr3, .slice an4 (someZ A B false false).vars.length cn4, .slice ar4 (someZ A B false false).rows.length cr4]
         generalize World.setRow g4 pg #[.slice an0 (joinZ A B).vars.length cn0, .slice ar0 (joinZ A B).rows.length cr0, .slice an1 (joinZ A B).vars.length cn1, .slice ar1 (joinZ A B).rows.length cr1, .slice an2 (someZ A B false true).vars.length cn2, .slice ar2 (someZ A B false true).rows.length cr2, .slice an3 (someZ A B true false).vars.length cn3, .slice ar3 (someZ A B true false).rows.length cr3, .slice an4 (someZ A B false false).vars.length cn4, .slice ar4 (someZ A B false false).rows.length cr4] = wz at *
         refine hK.out _ _ hbz (fun hS => ?_)
         clear hK K
         try simp only [List.getElem_toArray, List.getElem_cons_succ, List.getElem_cons_zero, Act.put, List.setIfInBounds_toArray, List.set_cons_zero, List.set_cons_succ]
         refine wpAnyH_done (by kernel_rfl) ?_ _
         clear hS hbz
         go_wp2_with fail
         go_meet
         exact ⟨pg, rfl, hfin⟩
       ·
        clear hS
        go_simp
        go_wp2_with fail
        have hal : Below g2.heap.size g2 (g2.alloc (.cells #[.slice none 0 0, .slice none 0 0, .slice none 0 0, .slice none 0 0, .slice none 0 0, .slice none 0 0, .slice none 0 0, .slice none 0 0, .slice none 0 0, .slice none 0 0] 32)) := (Below.refl _ _).alloc (Nat.le_refl _) _
        have hqg0 := Blk.new g2 #[.slice none 0 0, .slice none 0 0, .slice none 0 0, .slice none 0 0, .slice none 0 0, .slice none 0 0, .slice none 0 0, .slice none 0 0, .slice none 0 0, .slice none 0 0] 32
        have h_ga := h_g2.trans (hal.mono h_g2.size)
        have s_ga := hal.size
        replace G0 := G0.keep (fun b hS hlt => hal.block b hlt)
        replace G1 := G1.keep (fun b hS hlt => hal.block b hlt)
        replace G2 := G2.keep (fun b hS hlt => hal.block b hlt)
        refine hK.out _ _ h_ga (fun hS => ?_)
        clear hK K
        try simp only [List.getElem_toArray, List.getElem_cons_succ, List.getElem_cons_zero, Act.put, List.setIfInBounds_toArray, List.set_cons_zero, List.set_cons_succ]
        obtain ⟨pg, hpg⟩ : ∃ p, g2.heap.size = p := ⟨_, rfl⟩
        have hpga : pg < (g2.alloc (.cells #[.slice none 0 0, .slice none 0 0, .slice none 0 0, .slice none 0 0, .slice none 0 0, .slice none 0 0, .slice none 0 0, .slice none 0 0, .slice none 0 0, .slice none 0 0] 32)).heap.size := by rw [← hpg]; exact hqg0.lt
        rw [hpg] at hqg0
        try rw [hpg]
        have hqg : Blk (g2.alloc (.cells #[.slice none 0 0, .slice none 0 0, .slice none 0 0, .slice none 0 0, .slice none 0 0, .slice none 0 0, .slice none 0 0, .slice none 0 0, .slice none 0 0, .slice none 0 0] 32)) pg #[.slice none 0 0, .slice none 0 0, .slice none 0 0, .slice none 0 0, .slice none 0 0, .slice none 0 0, .slice none 0 0, .slice none 0 0, .slice none 0 0, .slice none 0 0] 32 := hqg0
        replace hpg := Lib.hid hpg
        clear hqg0 hal
        generalize g2.alloc (.cells #[.slice none 0 0, .slice none 0 0, .slice none 0 0, .slice none 0 0, .slice none 0 0, .slice none 0 0, .slice none 0 0, .slice none 0 0, .slice none 0 0, .slice none 0 0] 32) = ga at *
        refine rdH 11 rfl (fun K hK => ?_)
        clear hS
        go_simp
        refine (cSe.out ga h_ga).mono ?_
        rintro e g3 ⟨v, rfl, hO⟩
        obtain ⟨vv, rv, rfl, hb, hown, hszs, hMR⟩ := hO
        obtain ⟨an3, cn3, hvn⟩ := own_form4x hown
        obtain ⟨ar3, cr3, hvr⟩ := hMR.form
        subst hvn
        subst hvr
        have G3 := GotT.of (⟨_, _, rfl, hb, hown, hszs, hMR⟩ : TabO ga g3 1048576 _ _)
        replace G0 := G0.keep (fun b hS hlt => hb.block b hlt)
        replace G1 := G1.keep (fun b hS hlt => hb.block b hlt)
        replace G2 := G2.keep (fun b hS hlt => hb.block b hlt)
        replace hqg := blk_stay hqg hb
        have h_g3 := h_ga.trans (hb.mono h_ga.size)
        have s_g3 := hb.size
        clear hb hown hszs hMR
        go_wp2_with fail
        refine hK.out _ _ h_g3 (fun hS => ?_)
        clear hK K
        try simp only [List.getElem_toArray, List.getElem_cons_succ, List.getElem_cons_zero, Act.put, List.setIfInBounds_toArray, List.set_cons_zero, List.set_cons_succ]
        refine rdH 14 rfl (fun K hK => ?_)
        clear hS
        go_simp
        refine (cAn.out g3 h_g3).mono ?_
        rintro e g4 ⟨v, rfl, hO⟩
        obtain ⟨vv, rv, rfl, hb, hown, hszs, hMR⟩ := hO
        obtain ⟨an4, cn4, hvn⟩ := own_form4x hown
        obtain ⟨ar4, cr4, hvr⟩ := hMR.form
        subst hvn
        subst hvr
        have G4 := GotT.of (⟨_, _, rfl, hb, hown, hszs, hMR⟩ : TabO g3 g4 1048576 _ _)
        replace G0 := G0.keep (fun b hS hlt => hb.block b hlt)
        replace G1 := G1.keep (fun b hS hlt => hb.block b hlt)
        replace G2 := G2.keep (fun b hS hlt => hb.block b hlt)
        replace G3 := G3.keep (fun b hS hlt => hb.block b hlt)
        replace hqg := blk_stay hqg hb
        have h_g4 := h_g3.trans (hb.mono h_g3.size)
        have s_g4 := hb.size
        clear hb hown hszs hMR
        go_wp2_with fail
        refine hK.out _ _ h_g4 (fun hS => ?_)
        clear hK K
        try simp only [List.getElem_toArray, List.getElem_cons_succ, List.getElem_cons_zero, Act.put, List.setIfInBounds_toArray, List.set_cons_zero, List.set_cons_succ]
        refine tkH 15 (.agg #[.slice an0 (joinZ A B).vars.length cn0, .slice ar0 (joinZ A B).rows.length cr0, .slice an1 (joinZ A B).vars.length cn1, .slice ar1 (joinZ A B).rows.length cr1, .slice an2 (someZ A B false true).vars.length cn2, .slice ar2 (someZ A B false true).rows.length cr2, .slice an3 (someZ A B true false).vars.length cn3, .slice ar3 (someZ A B true false).rows.length cr3, .slice an4 (someZ A B false false).vars.length cn4, .slice ar4 (someZ A B false false).rows.length cr4]) rfl (fun w' hS => exec_build 32 _ rfl _ _ w' (by kernel_rfl) (built_five an0 ar0 an1 ar1 an2 ar2 an3 ar3 an4 ar4 _ _ _ _ _ _ _ _ _ _ _ _ _ _ _ _ _ _ _ _)) hS ?_
        refine rdH 17 rfl (fun K hK => ?_)
        clear hS
        rw [if_pos (by kernel_rfl)]
        have hpx : wx.heap.size ≤ pg := Nat.le_trans h_g2.size (Nat.le_of_eq hpg.out)
        refine wp_store_row 32 (.tmp 11) (.tmp 140) rfl pg #[.slice an0 (joinZ A B).vars.length cn0, .slice ar0 (joinZ A B).rows.length cr0, .slice an1 (joinZ A B).vars.length cn1, .slice ar1 (joinZ A B).rows.length cr1, .slice an2 (someZ A B false true).vars.length cn2, .slice ar2 (someZ A B false true).rows.length cr2, .slice an3 (someZ A B true false).vars.length cn3, .slice ar3 (someZ A B true false).rows.length cr3, .slice an4 (someZ A B false false).vars.length cn4, .slice ar4 (someZ A B false false).rows.length cr4] rfl rfl 32 #[.slice none 0 0, .slice none 0 0, .slice none 0 0, .slice none 0 0, .slice none 0 0, .slice none 0 0, .slice none 0 0, .slice none 0 0, .slice none 0 0, .slice none 0 0] hqg (by kernel_rfl) rfl (by kernel_rfl) ?_
        have hfin : Hid (GotP A B 1048576 wx (World.setRow g4 pg #[.slice an0 (joinZ A B).vars.length cn0, .slice ar0 (joinZ A B).rows.length cr0, .slice an1 (joinZ A B).vars.length cn1, .slice ar1 (joinZ A B).rows.length cr1, .slice an2 (someZ A B false true).vars.length cn2, .slice ar2 (someZ A B false true).rows.length cr2, .slice an3 (someZ A B true false).vars.length cn3, .slice ar3 (someZ A B true false).rows.length cr3, .slice an4 (someZ A B false false).vars.length cn4, .slice ar4 (someZ A B false false).rows.length cr4]) pg) := Lib.hid (gotP_row hqg h_g4 hpx G0 G1 G2 G3 G4 ⟨h_V0.size, s_g0, Nat.le_refl _, s_g1, Nat.le_refl _, s_g2, s_ga, s_g3, Nat.le_refl _, s_g4, Nat.le_refl _⟩ (.inr (.inr (.inr (.inl ⟨hpg.out, hpga⟩)))))
        have hbz := below_setRow h_g4 hpx #[.slice an0 (joinZ A B).vars.length cn0, .slice ar0 (joinZ A B).rows.length cr0, .slice an1 (joinZ A B).vars.length cn1, .slice ar1 (joinZ A B).rows.length cr1, .slice an2 (someZ A B false true).vars.length cn2, .slice ar2 (someZ A B false true).rows.length cr2, .slice an3 (someZ A B true false).vars.length cn3, .slice ar3 (someZ A B true false).rows.length cr3, .slice an4 (someZ A B false false).vars.length cn4, .slice ar4 (someZ A B false false).rows.length cr4]
        generalize World.setRow g4 pg #[.slice an0 (joinZ A B).vars.length cn0, .slice ar0 (joinZ A B).rows.length cr0, .slice an1 (joinZ A B).vars.length cn1, .slice ar1 (joinZ A B).rows.length cr1, .slice an2 (someZ A B false true).vars.length cn2, .slice ar2 (someZ A B false true).rows.length cr2, .slice an3 (someZ A B true false).vars.length cn3, .slice ar3 (someZ A B true false).rows.length cr3, .slice an4 (someZ A B false false).vars.length cn4, .slice ar4 (someZ A B false false).rows.length cr4] = wz at *
        refine hK.out _ _ hbz (fun hS => ?_)
        clear hK K
        try simp only [List.getElem_toArray, List.getElem_cons_succ, List.getElem_cons_zero, Act.put, List.setIfInBounds_toArray, List.set_cons_zero, List.set_cons_succ]
        refine wpAnyH_done (by kernel_rfl) ?_ _
        clear hS hbz
        go_wp2_with fail
        go_meet
        exact ⟨pg, rfl, hfin⟩
      ·
       clear hS
       go_simp
       go_wp2_with fail
       have hal : Below g1.heap.size g1 (g1.alloc (.cells #[.slice none 0 0, .slice none 0 0, .slice none 0 0, .slice none 0 0, .slice none 0 0, .slice none 0 0, .slice none 0 0, .slice none 0 0, .slice none 0 0, .slice none 0 0] 32)) := (Below.refl _ _).alloc (Nat.le_refl _) _
       have hqg0 := Blk.new g1 #[.slice none 0 0, .slice none 0 0, .slice none 0 0, .slice none 0 0, .slice none 0 0, .slice none 0 0, .slice none 0 0, .slice none 0 0, .slice none 0 0, .slice none 0 0] 32
       have h_ga := h_g1.trans (hal.mono h_g1.size)
       have s_ga := hal.size
       replace G0 := G0.keep (fun b hS hlt => hal.block b hlt)
       replace G1 := G1.keep (fun b hS hlt => hal.block b hlt)
       refine hK.out _ _ h_ga (fun hS => ?_)
       clear hK K
       try simp only [List.getElem_toArray, List.getElem_cons_succ, List.getElem_cons_zero, Act.put, List.setIfInBounds_toArray, List.set_cons_zero, List.set_cons_succ]
       obtain ⟨pg, hpg⟩ : ∃ p, g1.heap.size = p := ⟨_, rfl⟩
       have hpga : pg < (g1.alloc (.cells #[.slice none 0 0, .slice none 0 0, .slice none 0 0, .slice none 0 0, .slice none 0 0, .slice none 0 0, .slice none 0 0, .slice none 0 0, .slice none 0 0, .slice none 0 0] 32)).heap.size := by rw [← hpg]; exact hqg0.lt
       rw [hpg] at hqg0
       try rw [hpg]
       have hqg : Blk (g1.alloc (.cells #[.slice none 0 0, .slice none 0 0, .slice none 0 0, .slice none 0 0, .slice none 0 0, .slice none 0 0, .slice none 0 0, .slice none 0 0, .slice none 0 0, .slice none 0 0] 32)) pg #[.slice none 0 0, .slice none 0 0, .slice none 0 0, .slice none 0 0, .slice none 0 0, .slice none 0 0, .slice none 0 0, .slice none 0 0, .slice none 0 0, .slice none 0 0] 32 := hqg0
       replace hpg := Lib.hid hpg
       clear hqg0 hal
       generalize g1.alloc (.cells #[.slice none 0 0, .slice none 0 0, .slice none 0 0, .slice none 0 0, .slice none 0 0, .slice none 0 0, .slice none 0 0, .slice none 0 0, .slice none 0 0, .slice none 0 0] 32) = ga at *
       refine rdH 8 rfl (fun K hK => ?_)
       clear hS
       go_simp
       refine (cMi.out ga h_ga).mono ?_
       rintro e g2 ⟨v, rfl, hO⟩
       obtain ⟨vv, rv, rfl, hb, hown, hszs, hMR⟩ := hO
       obtain ⟨an2, cn2, hvn⟩ := own_form4x hown
       obtain ⟨ar2, cr2, hvr⟩ := hMR.form
       subst hvn
       subst hvr
       have G2 := GotT.of (⟨_, _, rfl, hb, hown, hszs, hMR⟩ : TabO ga g2 1048576 _ _)
       replace G0 := G0.keep (fun b hS hlt => hb.block b hlt)
       replace G1 := G1.keep (fun b hS hlt => hb.block b hlt)
       replace hqg := blk_stay hqg hb
       have h_g2 := h_ga.trans (hb.mono h_ga.size)
       have s_g2 := hb.size
       clear hb hown hszs hMR
       go_wp2_with fail
       refine hK.out _ _ h_g2 (fun hS => ?_)
       clear hK K
       try simp only [List.getElem_toArray, List.getElem_cons_succ, List.getElem_cons_zero, Act.put, List.setIfInBounds_toArray, List.set_cons_zero, List.set_cons_succ]
       refine rdH 11 rfl (fun K hK => ?_)
       clear hS
       go_simp
       refine (cSe.out g2 h_g2).mono ?_
       rintro e g3 ⟨v, rfl, hO⟩
       obtain ⟨vv, rv, rfl, hb, hown, hszs, hMR⟩ := hO
       obtain ⟨an3, cn3, hvn⟩ := own_form4x hown
       obtain ⟨ar3, cr3, hvr⟩ := hMR.form
       subst hvn
       subst hvr
       have G3 := GotT.of (⟨_, _, rfl, hb, hown, hszs, hMR⟩ : TabO g2 g3 1048576 _ _)
       replace G0 := G0.keep (fun b hS hlt => hb.block b hlt)
       replace G1 := G1.keep (fun b hS hlt => hb.block b hlt)
       replace G2 := G2.keep (fun b hS hlt => hb.block b hlt)
       replace hqg := blk_stay hqg hb
       have h_g3 := h_g2.trans (hb.mono h_g2.size)
       have s_g3 := hb.size
       clear hb hown hszs hMR
       go_wp2_with fail
       refine hK.out _ _ h_g3 (fun hS => ?_)
       clear hK K
       try simp only [List.getElem_toArray, List.getElem_cons_succ, List.getElem_cons_zero, Act.put, List.setIfInBounds_toArray, List.set_cons_zero, List.set_cons_succ]
       refine rdH 14 rfl (fun K hK => ?_)
       clear hS
       go_simp
       refine (cAn.out g3 h_g3).mono ?_
       rintro e g4 ⟨v, rfl, hO⟩
       obtain ⟨vv, rv, rfl, hb, hown, hszs, hMR⟩ := hO
       obtain ⟨an4, cn4, hvn⟩ := own_form4x hown
       obtain ⟨ar4, cr4, hvr⟩ := hMR.form
       subst hvn
       subst hvr
       have G4 := GotT.of (⟨_, _, rfl, hb, hown, hszs, hMR⟩ : TabO g3 g4 1048576 _ _)
       replace G0 := G0.keep (fun b hS hlt => hb.block b hlt)
       replace G1 := G1.keep (fun b hS hlt => hb.block b hlt)
       replace G2 := G2.keep (fun b hS hlt => hb.block b hlt)
       replace G3 := G3.keep (fun b hS hlt => hb.block b hlt)
       replace hqg := blk_stay hqg hb
       have h_g4 := h_g3.trans (hb.mono h_g3.size)
       have s_g4 := hb.size
       clear hb hown hszs hMR
       go_wp2_with fail
       refine hK.out _ _ h_g4 (fun hS => ?_)
       clear hK K
       try simp only [List.getElem_toArray, List.getElem_cons_succ, List.getElem_cons_zero, Act.put, List.setIfInBounds_toArray, List.set_cons_zero, List.set_cons_succ]
       refine tkH 15 (.agg #[.slice an0 (joinZ A B).vars.length cn0, .slice ar0 (joinZ A B).rows.length cr0, .slice an1 (joinZ A B).vars.length cn1, .slice ar1 (joinZ A B).rows.length cr1, .slice an2 (someZ A B false true).vars.length cn2, .slice ar2 (someZ A B false true).rows.length cr2, .slice an3 (someZ A B true false).vars.length cn3, .slice ar3 (someZ A B true false).rows.length cr3, .slice an4 (someZ A B false false).vars.length cn4, .slice ar4 (someZ A B false false).rows.length cr4]) rfl (fun w' hS => exec_build 32 _ rfl _ _ w' (by kernel_rfl) (built_five an0 ar0 an1 ar1 an2 ar2 an3 ar3 an4 ar4 _ _ _ _ _ _ _ _ _ _ _ _ _ _ _ _ _ _ _ _)) hS ?_
       refine rdH 17 rfl (fun K hK => ?_)
       clear hS
       rw [if_pos (by kernel_rfl)]
       have hpx : wx.heap.size ≤ pg := Nat.le_trans h_g1.size (Nat.le_of_eq hpg.out)
       refine wp_store_row 32 (.tmp 11) (.tmp 140) rfl pg #[.slice an0 (joinZ A B).vars.length cn0, .slice ar0 (joinZ A B).rows.length cr0, .slice an1 (joinZ A B).vars.length cn1, .slice ar1 (joinZ A B).rows.length cr1, .slice an2 (someZ A B false true).vars.length cn2, .slice ar2 (someZ A B false true).rows.length cr2, .slice an3 (someZ A B true false).vars.length cn3, .slice ar3 (someZ A B true false).rows.length cr3, .slice an4 (someZ A B false false).vars.length cn4, .slice ar4 (someZ A B false false).rows.length cr4] rfl rfl 32 #[.slice none 0 0, .slice none 0 0, .slice none 0 0, .slice none 0 0, .slice none 0 0, .slice none 0 0, .slice none 0 0, .slice none 0 0, .slice none 0 0, .slice none 0 0] hqg (by kernel_rfl) rfl (by kernel_rfl) ?_
       have hfin : Hid (GotP A B 1048576 wx (World.setRow g4 pg #[.slice an0 (joinZ A B).vars.length cn0, .slice ar0 (joinZ A B).rows.length cr0, .slice an1 (joinZ A B).vars.length cn1, .slice ar1 (joinZ A B).rows.length cr1, .slice an2 (someZ A B false true).vars.length cn2, .slice ar2 (someZ A B false true).rows.length cr2, .slice an3 (someZ A B true false).vars.length cn3, .slice ar3 (someZ A B true false).rows.length cr3, .slice an4 (someZ A B false false).vars.length cn4, .slice ar4 (someZ A B false false).rows.length cr4]) pg) := Lib.hid (gotP_row hqg h_g4 hpx G0 G1 G2 G3 G4 ⟨h_V0.size, s_g0, Nat.le_refl _, s_g1, s_ga, s_g2, Nat.le_refl _, s_g3, Nat.le_refl _, s_g4, Nat.le_refl _⟩ (.inr (.inr (.inl ⟨hpg.out, hpga⟩))))
       have hbz := below_setRow h_g4 hpx #[.slice an0 (joinZ A B).vars.length cn0, .slice ar0 (joinZ A B).rows.length cr0, .slice an1 (joinZ A B).vars.length cn1, .slice ar1 (joinZ A B).rows.length cr1, .slice an2 (someZ A B false true).vars.length cn2, .slice ar2 (someZ A B false true).rows.length cr2, .slice an3 (someZ A B true false).vars.length cn3, .slice ar3 (someZ A B true false).rows.length cr3, .slice an4 (someZ A B false false).vars.length cn4, .slice ar4 (someZ A B false false).rows.length cr4]
       generalize World.setRow g4 pg #[.slice an0 (joinZ A B).vars.length cn0, .slice ar0 (joinZ A B).rows.length cr0, .slice an1 (joinZ A B).vars.length cn1, .slice ar1 (joinZ A B).rows.length cr1, .slice an2 (someZ A B false true).vars.length cn2, .slice ar2 (someZ A B false true).rows.length cr2, .slice an3 (someZ A B true false).vars.length cn3, .slice ar3 (someZ A B true false).rows.length cr3, .slice an4 (someZ A B false false).vars.length cn4, .slice ar4 (someZ A B false false).rows.length cr4] = wz at *
       refine hK.out _ _ hbz (fun hS => ?_)
       clear hK K
       try simp only [List.getElem_toArray, List.getElem_cons_succ, List.getElem_cons_zero, Act.put, List.setIfInBounds_toArray, List.set_cons_zero, List.set_cons_succ]
       refine wpAnyH_done (by kernel_rfl) ?_ _
       clear hS hbz
       go_wp2_with fail
       go_meet
       exact ⟨pg, rfl, hfin⟩
     ·
      clear hS
      go_simp
      go_wp2_with fail
      have hal : Below g0.heap.size g0 (g0.alloc (.cells #[.slice none 0 0, .slice none 0 0, .slice none 0 0, .slice none 0 0, .slice none 0 0, .slice none 0 0, .slice none 0 0, .slice none 0 0, .slice none 0 0, .slice none 0 0] 32)) := (Below.refl _ _).alloc (Nat.le_refl _) _
      have hqg0 := Blk.new g0 #[.slice none 0 0, .slice none 0 0, .slice none 0 0, .slice none 0 0, .slice none 0 0, .slice none 0 0, .slice none 0 0, .slice none 0 0, .slice none 0 0, .slice none 0 0] 32
      have h_ga := h_g0.trans (hal.mono h_g0.size)
      have s_ga := hal.size
      replace G0 := G0.keep (fun b hS hlt => hal.block b hlt)
      refine hK.out _ _ h_ga (fun hS => ?_)
      clear hK K
      try simp only [List.getElem_toArray, List.getElem_cons_succ, List.getElem_cons_zero, Act.put, List.setIfInBounds_toArray, List.set_cons_zero, List.set_cons_succ]
      obtain ⟨pg, hpg⟩ : ∃ p, g0.heap.size = p := ⟨_, rfl⟩
      have hpga : pg < (g0.alloc (.cells #[.slice none 0 0, .slice none 0 0, .slice none 0 0, .slice none 0 0, .slice none 0 0, .slice none 0 0, .slice none 0 0, .slice none 0 0, .slice none 0 0, .slice none 0 0] 32)).heap.size := by rw [← hpg]; exact hqg0.lt
      rw [hpg] at hqg0
      try rw [hpg]
      have hqg : Blk (g0.alloc (.cells #[.slice none 0 0, .slice none 0 0, .slice none 0 0, .slice none 0 0, .slice none 0 0, .slice none 0 0, .slice none 0 0, .slice none 0 0, .slice none 0 0, .slice none 0 0] 32)) pg #[.slice none 0 0, .slice none 0 0, .slice none 0 0, .slice none 0 0, .slice none 0 0, .slice none 0 0, .slice none 0 0, .slice none 0 0, .slice none 0 0, .slice none 0 0] 32 := hqg0
      replace hpg := Lib.hid hpg
      clear hqg0 hal
      generalize g0.alloc (.cells #[.slice none 0 0, .slice none 0 0, .slice none 0 0, .slice none 0 0, .slice none 0 0, .slice none 0 0, .slice none 0 0, .slice none 0 0, .slice none 0 0, .slice none 0 0] 32) = ga at *
      refine rdH 5 rfl (fun K hK => ?_)
      clear hS
      go_simp
      refine (cLo.out ga h_ga).mono ?_
      rintro e g1 ⟨v, rfl, hO⟩
      obtain ⟨vv, rv, rfl, hb, hown, hszs, hMR⟩ := hO
      obtain ⟨an1, cn1, hvn⟩ := own_form4x hown
      obtain ⟨ar1, cr1, hvr⟩ := hMR.form
      subst hvn
      subst hvr
      have G1 := GotT.of (⟨_, _, rfl, hb, hown, hszs, hMR⟩ : TabO ga g1 1048576 _ _)
      replace G0 := G0.keep (fun b hS hlt => hb.block b hlt)
      replace hqg := blk_stay hqg hb
      have h_g1 := h_ga.trans (hb.mono h_ga.size)
      have s_g1 := hb.size
      clear hb hown hszs hMR
      go_wp2_with fail
      refine hK.out _ _ h_g1 (fun hS => ?_)
      clear hK K
      try simp only [List.getElem_toArray, List.getElem_cons_succ, List.getElem_cons_zero, Act.put, List.setIfInBounds_toArray, List.set_cons_zero, List.set_cons_succ]
      refine rdH 8 rfl (fun K hK => ?_)
      clear hS
      go_simp
      refine (cMi.out g1 h_g1).mono ?_
      rintro e g2 ⟨v, rfl, hO⟩
      obtain ⟨vv, rv, rfl, hb, hown, hszs, hMR⟩ := hO
      obtain ⟨an2, cn2, hvn⟩ := own_form4x hown
      obtain ⟨ar2, cr2, hvr⟩ := hMR.form
      subst hvn
      subst hvr
      have G2 := GotT.of (⟨_, _, rfl, hb, hown, hszs, hMR⟩ : TabO g1 g2 1048576 _ _)
      replace G0 := G0.keep (fun b hS hlt => hb.block b hlt)
      replace G1 := G1.keep (fun b hS hlt => hb.block b hlt)
      replace hqg := blk_stay hqg hb
      have h_g2 := h_g1.trans (hb.mono h_g1.size)
      have s_g2 := hb.size
      clear hb hown hszs hMR
      go_wp2_with fail
      refine hK.out _ _ h_g2 (fun hS => ?_)
      clear hK K
      try simp only [List.getElem_toArray, List.getElem_cons_succ, List.getElem_cons_zero, Act.put, List.setIfInBounds_toArray, List.set_cons_zero, List.set_cons_succ]
      refine rdH 11 rfl (fun K hK => ?_)
      clear hS
      go_simp
      refine (cSe.out g2 h_g2).mono ?_
      rintro e g3 ⟨v, rfl, hO⟩
      obtain ⟨vv, rv, rfl, hb, hown, hszs, hMR⟩ := hO
      obtain ⟨an3, cn3, hvn⟩ := own_form4x hown
      obtain ⟨ar3, cr3, hvr⟩ := hMR.form
      subst hvn
      subst hvr
      have G3 := GotT.of (⟨_, _, rfl, hb, hown, hszs, hMR⟩ : TabO g2 g3 1048576 _ _)
      replace G0 := G0.keep (fun b hS hlt => hb.block b hlt)
      replace G1 := G1.keep (fun b hS hlt => hb.block b hlt)
      replace G2 := G2.keep (fun b hS hlt => hb.block b hlt)
      replace hqg := blk_stay hqg hb
      have h_g3 := h_g2.trans (hb.mono h_g2.size)
      have s_g3 := hb.size
      clear hb hown hszs hMR
      go_wp2_with fail
      refine hK.out _ _ h_g3 (fun hS => ?_)
      clear hK K
      try simp only [List.getElem_toArray, List.getElem_cons_succ, List.getElem_cons_zero, Act.put, List.setIfInBounds_toArray, List.set_cons_zero, List.set_cons_succ]
      refine rdH 14 rfl (fun K hK => ?_)
      clear hS
      go_simp
      refine (cAn.out g3 h_g3).mono ?_
      rintro e g4 ⟨v, rfl, hO⟩
      obtain ⟨vv, rv, rfl, hb, hown, hszs, hMR⟩ := hO
      obtain ⟨an4, cn4, hvn⟩ := own_form4x hown
      obtain ⟨ar4, cr4, hvr⟩ := hMR.form
      subst hvn
      subst hvr
      have G4 := GotT.of (⟨_, _, rfl, hb, hown, hszs, hMR⟩ : TabO g3 g4 1048576 _ _)
      replace G0 := G0.keep (fun b hS hlt => hb.block b hlt)
      replace G1 := G1.keep (fun b hS hlt => hb.block b hlt)
      replace G2 := G2.keep (fun b hS hlt => hb.block b hlt)
      replace G3 := G3.keep (fun b hS hlt => hb.block b hlt)
      replace hqg := blk_stay hqg hb
      have h_g4 := h_g3.trans (hb.mono h_g3.size)
      have s_g4 := hb.size
      clear hb hown hszs hMR
      go_wp2_with fail
      refine hK.out _ _ h_g4 (fun hS => ?_)
      clear hK K
      try simp only [List.getElem_toArray, List.getElem_cons_succ, List.getElem_cons_zero, Act.put, List.setIfInBounds_toArray, List.set_cons_zero, List.set_cons_succ]
      refine tkH 15 (.agg #[.slice an0 (joinZ A B).vars.length cn0, .slice ar0 (joinZ A B).rows.length cr0, .slice an1 (joinZ A B).vars.length cn1, .slice ar1 (joinZ A B).rows.length cr1, .slice an2 (someZ A B false true).vars.length cn2, .slice ar2 (someZ A B false true).rows.length cr2, .slice an3 (someZ A B true false).vars.length cn3, .slice ar3 (someZ A B true false).rows.length cr3, .slice an4 (someZ A B false false).vars.length cn4, .slice ar4 (someZ A B false false).rows.length cr4]) rfl (fun w' hS => exec_build 32 _ rfl _ _ w' (by kernel_rfl) (built_five an0 ar0 an1 ar1 an2 ar2 an3 ar3 an4 ar4 _ _ _ _ _ _ _ _ _ _ _ _ _ _ _ _ _ _ _ _)) hS ?_
      refine rdH 17 rfl (fun K hK => ?_)
      clear hS
      rw [if_pos (by kernel_rfl)]
      have hpx : wx.heap.size ≤ pg := Nat.le_trans h_g0.size (Nat.le_of_eq hpg.out)
      refine wp_store_row 32 (.tmp 11) (.tmp 140) rfl pg #[.slice an0 (joinZ A B).vars.length cn0, .slice ar0 (joinZ A B).rows.length cr0, .slice an1 (joinZ A B).vars.length cn1, .slice ar1 (joinZ A B).rows.length cr1, .slice an2 (someZ A B false true).vars.length cn2, .slice ar2 (someZ A B false true).rows.length cr2, .slice an3 (someZ A B true false).vars.length cn3, .slice ar3 (someZ A B true false).rows.length cr3, .slice an4 (someZ A B false false).vars.length cn4, .slice ar4 (someZ A B false false).rows.length cr4] rfl rfl 32 #[.slice none 0 0, .slice none 0 0, .slice none 0 0, .slice none 0 0, .slice none 0 0, .slice none 0 0, .slice none 0 0, .slice none 0 0, .slice none 0 0, .slice none 0 0] hqg (by kernel_rfl) rfl (by kernel_rfl) ?_
      have hfin : Hid (GotP A B 1048576 wx (World.setRow g4 pg #[.slice an0 (joinZ A B).vars.length cn0, .slice ar0 (joinZ A B).rows.length cr0, .slice an1 (joinZ A B).vars.length cn1, .slice ar1 (joinZ A B).rows.length cr1, .slice an2 (someZ A B false true).vars.length cn2, .slice ar2 (someZ A B false true).rows.length cr2, .slice an3 (someZ A B true false).vars.length cn3, .slice ar3 (someZ A B true false).rows.length cr3, .slice an4 (someZ A B false false).vars.length cn4, .slice ar4 (someZ A B false false).rows.length cr4]) pg) := Lib.hid (gotP_row hqg h_g4 hpx G0 G1 G2 G3 G4 ⟨h_V0.size, s_g0, s_ga, s_g1, Nat.le_refl _, s_g2, Nat.le_refl _, s_g3, Nat.le_refl _, s_g4, Nat.le_refl _⟩ (.inr (.inl ⟨hpg.out, hpga⟩)))
      have hbz := below_setRow h_g4 hpx #[.slice an0 (joinZ A B).vars.length cn0, .slice ar0 (joinZ A B).rows.length cr0, .slice an1 (joinZ A B).vars.length cn1, .slice ar1 (joinZ A B).rows.length cr1, .slice an2 (someZ A B false true).vars.length cn2, .slice ar2 (someZ A B false true).rows.length cr2, .slice an3 (someZ A B true false).vars.length cn3, .slice ar3 (someZ A B true false).rows.length cr3, .slice an4 (someZ A B false false).vars.length cn4, .slice ar4 (someZ A B false false).rows.length cr4]
      generalize World.setRow g4 pg #[.slice an0 (joinZ A B).vars.length cn0, .slice ar0 (joinZ A B).rows.length cr0, .slice an1 (joinZ A B).vars.length cn1, .slice ar1 (joinZ A B).rows.length cr1, .slice an2 (someZ A B false true).vars.length cn2, .slice ar2 (someZ A B false true).rows.length cr2, .slice an3 (someZ A B true false).vars.length cn3, .slice ar3 (someZ A B true false).rows.length cr3, .slice an4 (someZ A B false false).vars.length cn4, .slice ar4 (someZ A B false false).rows.length cr4] = wz at *
      refine hK.out _ _ hbz (fun hS => ?_)
      clear hK K
      try simp only [List.getElem_toArray, List.getElem_cons_succ, List.getElem_cons_zero, Act.put, List.setIfInBounds_toArray, List.set_cons_zero, List.set_cons_succ]
      refine wpAnyH_done (by kernel_rfl) ?_ _
      clear hS hbz
      go_wp2_with fail
      go_meet
      exact ⟨pg, rfl, hfin⟩
    ·
     clear hS
     go_simp
     go_wp2_with fail
     have hal : Below V0.heap.size V0 (V0.alloc (.cells #[.slice none 0 0, .slice none 0 0, .slice none 0 0, .slice none 0 0, .slice none 0 0, .slice none 0 0, .slice none 0 0, .slice none 0 0, .slice none 0 0, .slice none 0 0] 32)) := (Below.refl _ _).alloc (Nat.le_refl _) _
     have hqg0 := Blk.new V0 #[.slice none 0 0, .slice none 0 0, .slice none 0 0, .slice none 0 0, .slice none 0 0, .slice none 0 0, .slice none 0 0, .slice none 0 0, .slice none 0 0, .slice none 0 0] 32
     have h_ga := h_V0.trans (hal.mono h_V0.size)
     have s_ga := hal.size
     refine hK.out _ _ h_ga (fun hS => ?_)
     clear hK K
     try simp only [List.getElem_toArray, List.getElem_cons_succ, List.getElem_cons_zero, Act.put, List.setIfInBounds_toArray, List.set_cons_zero, List.set_cons_succ]
     obtain ⟨pg, hpg⟩ : ∃ p, V0.heap.size = p := ⟨_, rfl⟩
     have hpga : pg < (V0.alloc (.cells #[.slice none 0 0, .slice none 0 0, .slice none 0 0, .slice none 0 0, .slice none 0 0, .slice none 0 0, .slice none 0 0, .slice none 0 0, .slice none 0 0, .slice none 0 0] 32)).heap.size := by rw [← hpg]; exact hqg0.lt
     rw [hpg] at hqg0
     try rw [hpg]
     have hqg : Blk (V0.alloc (.cells #[.slice none 0 0, .slice none 0 0, .slice none 0 0, .slice none 0 0, .slice none 0 0, .slice none 0 0, .slice none 0 0, .slice none 0 0, .slice none 0 0, .slice none 0 0] 32)) pg #[.slice none 0 0, .slice none 0 0, .slice none 0 0, .slice none 0 0, .slice none 0 0, .slice none 0 0, .slice none 0 0, .slice none 0 0, .slice none 0 0, .slice none 0 0] 32 := hqg0
     replace hpg := Lib.hid hpg
     clear hqg0 hal
     generalize V0.alloc (.cells #[.slice none 0 0, .slice none 0 0, .slice none 0 0, .slice none 0 0, .slice none 0 0, .slice none 0 0, .slice none 0 0, .slice none 0 0, .slice none 0 0, .slice none 0 0] 32) = ga at *
     refine rdH 2 rfl (fun K hK => ?_)
     clear hS
     go_simp
     refine (cH.out ga h_ga).mono ?_
     rintro e g0 ⟨v, rfl, hO⟩
     obtain ⟨vv, rv, rfl, hb, hown, hszs, hMR⟩ := hO
     obtain ⟨an0, cn0, hvn⟩ := own_form4x hown
     obtain ⟨ar0, cr0, hvr⟩ := hMR.form
     subst hvn
     subst hvr
     have G0 := GotT.of (⟨_, _, rfl, hb, hown, hszs, hMR⟩ : TabO ga g0 1048576 _ _)
     replace hqg := blk_stay hqg hb
     have h_g0 := h_ga.trans (hb.mono h_ga.size)
     have s_g0 := hb.size
     clear hb hown hszs hMR
     go_wp2_with fail
     refine hK.out _ _ h_g0 (fun hS => ?_)
     clear hK K
     try simp only [List.getElem_toArray, List.getElem_cons_succ, List.getElem_cons_zero, Act.put, List.setIfInBounds_toArray, List.set_cons_zero, List.set_cons_succ]
     refine rdH 5 rfl (fun K hK => ?_)
     clear hS
     go_simp
     refine (cLo.out g0 h_g0).mono ?_
     rintro e g1 ⟨v, rfl, hO⟩
     obtain ⟨vv, rv, rfl, hb, hown, hszs, hMR⟩ := hO
     obtain ⟨an1, cn1, hvn⟩ := own_form4x hown
     obtain ⟨ar1, cr1, hvr⟩ := hMR.form
     subst hvn
     subst hvr
     have G1 := GotT.of (⟨_, _, rfl, hb, hown, hszs, hMR⟩ : TabO g0 g1 1048576 _ _)
     replace G0 := G0.keep (fun b hS hlt => hb.block b hlt)
     replace hqg := blk_stay hqg hb
     have h_g1 := h_g0.trans (hb.mono h_g0.size)
     have s_g1 := hb.size
     clear hb hown hszs hMR
     go_wp2_with fail
     refine hK.out _ _ h_g1 (fun hS => ?_)
     clear hK K
     try simp only [List.getElem_toArray, List.getElem_cons_succ, List.getElem_cons_zero, Act.put, List.setIfInBounds_toArray, List.set_cons_zero, List.set_cons_succ]
     refine rdH 8 rfl (fun K hK => ?_)
     clear hS
     go_simp
     refine (cMi.out g1 h_g1).mono ?_
     rintro e g2 ⟨v, rfl, hO⟩
     obtain ⟨vv, rv, rfl, hb, hown, hszs, hMR⟩ := hO
     obtain ⟨an2, cn2, hvn⟩ := own_form4x hown
     obtain ⟨ar2, cr2, hvr⟩ := hMR.form
     subst hvn
     subst hvr
     have G2 := GotT.of (⟨_, _, rfl, hb, hown, hszs, hMR⟩ : TabO g1 g2 1048576 _ _)
     replace G0 := G0.keep (fun b hS hlt => hb.block b hlt)
     replace G1 := G1.keep (fun b hS hlt => hb.block b hlt)
     replace hqg := blk_stay hqg hb
     have h_g2 := h_g1.trans (hb.mono h_g1.size)
     have s_g2 := hb.size
     clear hb hown hszs hMR
     go_wp2_with fail
     refine hK.out _ _ h_g2 (fun hS => ?_)
     clear hK K
     try simp only [List.getElem_toArray, List.getElem_cons_succ, List.getElem_cons_zero, Act.put, List.setIfInBounds_toArray, List.set_cons_zero, List.set_cons_succ]
     refine rdH 11 rfl (fun K hK => ?_)
     clear hS
     go_simp
     refine (cSe.out g2 h_g2).mono ?_
     rintro e g3 ⟨v, rfl, hO⟩
     obtain ⟨vv, rv, rfl, hb, hown, hszs, hMR⟩ := hO
     obtain ⟨an3, cn3, hvn⟩ := own_form4x hown
     obtain ⟨ar3, cr3, hvr⟩ := hMR.form
     subst hvn
     subst hvr
     have G3 := GotT.of (⟨_, _, rfl, hb, hown, hszs, hMR⟩ : TabO g2 g3 1048576 _ _)
     replace G0 := G0.keep (fun b hS hlt => hb.block b hlt)
     replace G1 := G1.keep (fun b hS hlt => hb.block b hlt)
     replace G2 := G2.keep (fun b hS hlt => hb.block b hlt)
     replace hqg := blk_stay hqg hb
     have h_g3 := h_g2.trans (hb.mono h_g2.size)
     have s_g3 := hb.size
     clear hb hown hszs hMR
     go_wp2_with fail
     refine hK.out _ _ h_g3 (fun hS => ?_)
     clear hK K
     try simp only [List.getElem_toArray, List.getElem_cons_succ, List.getElem_cons_zero, Act.put, List.setIfInBounds_toArray, List.set_cons_zero, List.set_cons_succ]
     refine rdH 14 rfl (fun K hK => ?_)
     clear hS
     go_simp
     refine (cAn.out g3 h_g3).mono ?_
     rintro e g4 ⟨v, rfl, hO⟩
     obtain ⟨vv, rv, rfl, hb, hown, hszs, hMR⟩ := hO
     obtain ⟨an4, cn4, hvn⟩ := own_form4x hown
     obtain ⟨ar4, cr4, hvr⟩ := hMR.form
     subst hvn
     subst hvr
     have G4 := GotT.of (⟨_, _, rfl, hb, hown, hszs, hMR⟩ : TabO g3 g4 1048576 _ _)
     replace G0 := G0.keep (fun b hS hlt => hb.block b hlt)
     replace G1 := G1.keep (fun b hS hlt => hb.block b hlt)
     replace G2 := G2.keep (fun b hS hlt => hb.block b hlt)
     replace G3 := G3.keep (fun b hS hlt => hb.block b hlt)
     replace hqg := blk_stay hqg hb
     have h_g4 := h_g3.trans (hb.mono h_g3.size)
     have s_g4 := hb.size
     clear hb hown hszs hMR
     go_wp2_with fail
     refine hK.out _ _ h_g4 (fun hS => ?_)
     clear hK K
     try simp only [List.getElem_toArray, List.getElem_cons_succ, List.getElem_cons_zero, Act.put, List.setIfInBounds_toArray, List.set_cons_zero, List.set_cons_succ]
     refine tkH 15 (.agg #[.slice an0 (joinZ A B).vars.length cn0, .slice ar0 (joinZ A B).rows.length cr0, .slice an1 (joinZ A B).vars.length cn1, .slice ar1 (joinZ A B).rows.length cr1, .slice an2 (someZ A B false true).vars.length cn2, .slice ar2 (someZ A B false true).rows.length cr2, .slice an3 (someZ A B true false).vars.length cn3, .slice ar3 (someZ A B true false).rows.length cr3, .slice an4 (someZ A B false false).vars.length cn4, .slice ar4 (someZ A B false false).rows.length cr4]) rfl (fun w' hS => exec_build 32 _ rfl _ _ w' (by kernel_rfl) (built_five an0 ar0 an1 ar1 an2 ar2 an3 ar3 an4 ar4 _ _ _ _ _ _ _ _ _ _ _ _ _ _ _ _ _ _ _ _)) hS ?_
     refine rdH 17 rfl (fun K hK => ?_)
     clear hS
     rw [if_pos (by kernel_rfl)]
     have hpx : wx.heap.size ≤ pg := Nat.le_trans h_V0.size (Nat.le_of_eq hpg.out)
     refine wp_store_row 32 (.tmp 11) (.tmp 140) rfl pg #[.slice an0 (joinZ A B).vars.length cn0, .slice ar0 (joinZ A B).rows.length cr0, .slice an1 (joinZ A B).vars.length cn1, .slice ar1 (joinZ A B).rows.length cr1, .slice an2 (someZ A B false true).vars.length cn2, .slice ar2 (someZ A B false true).rows.length cr2, .slice an3 (someZ A B true false).vars.length cn3, .slice ar3 (someZ A B true false).rows.length cr3, .slice an4 (someZ A B false false).vars.length cn4, .slice ar4 (someZ A B false false).rows.length cr4] rfl rfl 32 #[.slice none 0 0, .slice none 0 0, .slice none 0 0, .slice none 0 0, .slice none 0 0, .slice none 0 0, .slice none 0 0, .slice none 0 0, .slice none 0 0, .slice none 0 0] hqg (by kernel_rfl) rfl (by kernel_rfl) ?_
     have hfin : Hid (GotP A B 1048576 wx (World.setRow g4 pg #[.slice an0 (joinZ A B).vars.length cn0, .slice ar0 (joinZ A B).rows.length cr0, .slice an1 (joinZ A B).vars.length cn1, .slice ar1 (joinZ A B).rows.length cr1, .slice an2 (someZ A B false true).vars.length cn2, .slice ar2 (someZ A B false true).rows.length cr2, .slice an3 (someZ A B true false).vars.length cn3, .slice ar3 (someZ A B true false).rows.length cr3, .slice an4 (someZ A B false false).vars.length cn4, .slice ar4 (someZ A B false false).rows.length cr4]) pg) := Lib.hid (gotP_row hqg h_g4 hpx G0 G1 G2 G3 G4 ⟨(Nat.le_trans h_V0.size s_ga), s_g0, Nat.le_refl _, s_g1, Nat.le_refl _, s_g2, Nat.le_refl _, s_g3, Nat.le_refl _, s_g4, Nat.le_refl _⟩ (.inl ⟨hpx, hpga⟩))
     have hbz := below_setRow h_g4 hpx #[.slice an0 (joinZ A B).vars.length cn0, .slice ar0 (joinZ A B).rows.length cr0, .slice an1 (joinZ A B).vars.length cn1, .slice ar1 (joinZ A B).rows.length cr1, .slice an2 (someZ A B false true).vars.length cn2, .slice ar2 (someZ A B false true).rows.length cr2, .slice an3 (someZ A B true false).vars.length cn3, .slice ar3 (someZ A B true false).rows.length cr3, .slice an4 (someZ A B false false).vars.length cn4, .slice ar4 (someZ A B false false).rows.length cr4]
     generalize World.setRow g4 pg #[.slice an0 (joinZ A B).vars.length cn0, .slice ar0 (joinZ A B).rows.length cr0, .slice an1 (joinZ A B).vars.length cn1, .slice ar1 (joinZ A B).rows.length cr1, .slice an2 (someZ A B false true).vars.length cn2, .slice ar2 (someZ A B false true).rows.length cr2, .slice an3 (someZ A B true false).vars.length cn3, .slice ar3 (someZ A B true false).rows.length cr3, .slice an4 (someZ A B false false).vars.length cn4, .slice ar4 (someZ A B false false).rows.length cr4] = wz at *
     refine hK.out _ _ hbz (fun hS => ?_)
     clear hK K
     try simp only [List.getElem_toArray, List.getElem_cons_succ, List.getElem_cons_zero, Act.put, List.setIfInBounds_toArray, List.set_cons_zero, List.set_cons_succ]
     refine wpAnyH_done (by kernel_rfl) ?_ _
     clear hS hbz
     go_wp2_with fail
     go_meet
     exact ⟨pg, rfl, hfin⟩
  have tl0 : Hid ((joinZ A B).vars.length ≤ 64 ∧ (joinZ A B).rows.length ≤ 1600 ∧ ∀ r ∈ (joinZ A B).rows, r.length ≤ 64) := Lib.hid (tab_small (joinZ_may A B) (joinZ_len A B (Nat.mul_le_mul l3 l4)))
  have tl1 : Hid ((joinZ A B).vars.length ≤ 64 ∧ (joinZ A B).rows.length ≤ 1600 ∧ ∀ r ∈ (joinZ A B).rows, r.length ≤ 64) := Lib.hid (tab_small (joinZ_may A B) (joinZ_len A B (Nat.mul_le_mul l3 l4)))
  have tl2 : Hid ((someZ A B false true).vars.length ≤ 64 ∧ (someZ A B false true).rows.length ≤ 1600 ∧ ∀ r ∈ (someZ A B false true).rows, r.length ≤ 64) := Lib.hid (tab_small (someZ_may A B false true) (Nat.le_trans (someZ_len A B false true) (by omega)))
  have tl3 : Hid ((someZ A B true false).vars.length ≤ 64 ∧ (someZ A B true false).rows.length ≤ 1600 ∧ ∀ r ∈ (someZ A B true false).rows, r.length ≤ 64) := Lib.hid (tab_small (someZ_may A B true false) (Nat.le_trans (someZ_len A B true false) (by omega)))
  have tl4 : Hid ((someZ A B false false).vars.length ≤ 64 ∧ (someZ A B false false).rows.length ≤ 1600 ∧ ∀ r ∈ (someZ A B false false).rows, r.length ≤ 64) := Lib.hid (tab_small (someZ_may A B false false) (Nat.le_trans (someZ_len A B false false) (by omega)))
  obtain ⟨wy, rfl⟩ : ∃ wy : World, wy = wc := ⟨_, rfl⟩
  obtain ⟨pg, rfl, hGot⟩ := hcut
  obtain ⟨v0, v1, v2, v3, v4, v5, v6, v7, v8, v9, qW, -, tw0, tw1, tw2, tw3, tw4⟩ := hWant.out
  obtain ⟨n0, r0, n1, r1, n2, r2, n3, r3, n4, r4, l0, l1, l2, l3, l4, l5, qG, hbxy, b0, b1, b2, b3, b4, b5, b6, G0, G1, G2, G3, G4⟩ := hGot.out
  replace qW := Lib.hid qW
  replace qG := Lib.hid qG
  replace tw0 := Lib.hid tw0
  replace tw1 := Lib.hid tw1
  replace tw2 := Lib.hid tw2
  replace tw3 := Lib.hid tw3
  replace tw4 := Lib.hid tw4
  replace G0 := Lib.hid G0
  replace G1 := Lib.hid G1
  replace G2 := Lib.hid G2
  replace G3 := Lib.hid G3
  replace G4 := Lib.hid G4
  have hpwl : Hid (pw < wx.heap.size ∧ wx.heap.size ≤ l0) := Lib.hid ⟨qW.out.lt, b0⟩
  have hbxyh := Lib.hid hbxy
  have hO0 : Hid (Out (fun b => l0 ≤ b ∧ b < pick5 l0 l1 l2 l3 l4 l5 0 ∧ b ≠ pg) wy wy) := Lib.hid (Out.refl _ _)
  clear hWant hGot cH cLo cMi cSe cAn hbxy d0 d1 d2 d3
  go_wp2
  go_loopw [12] (fun i wr => ∃ k : Nat, k ≤ 5 ∧ i = .int .i64 (k : Int) ∧ Hid (Out (fun b => l0 ≤ b ∧ b < pick5 l0 l1 l2 l3 l4 l5 k ∧ b ≠ pg) wy wr)) (fun i _ => 5 - (intOf i).toNat)
  case atStart => exact ⟨0, by omega, rfl, hO0⟩
  case round =>
   clear hO0
   obtain ⟨k, hk, rfl, hO⟩ := hrel
   obtain ⟨w9, rfl⟩ : ∃ w9 : World, w9 = wr := ⟨_, rfl⟩
   have hpk : ∀ b, (l0 ≤ b ∧ b < pick5 l0 l1 l2 l3 l4 l5 k ∧ b ≠ pg) → wx.heap.size ≤ b := fun b hb => by have := hb.1; omega
   have hB9 : Below wx.heap.size wx w9 := hbxyh.out.trans (Out.below hO.out wx.heap.size hbxyh.out.size hpk)
   have qG9 : Blk w9 pg #[n0, r0, n1, r1, n2, r2, n3, r3, n4, r4] 32 := (hO.out.block _ qG.out.lt (fun h => h.2.2 rfl)).trans qG.out
   have qW9 : Blk w9 pw #[v0, v1, v2, v3, v4, v5, v6, v7, v8, v9] 32 := (hB9.block _ qW.out.lt).trans qW.out
   by_cases hlt : k < 5
   ·have hki : (k : Int) < 5 := by omega
    have hdr : Below w9.heap.size w9 w9.drew := below_drewN (Below.refl _ _) 1
    have hBV := hB9.trans (hdr.mono hB9.size)
    have qGV : Blk w9.drew pg #[n0, r0, n1, r1, n2, r2, n3, r3, n4, r4] 32 := qG9
    have qWV : Blk w9.drew pw #[v0, v1, v2, v3, v4, v5, v6, v7, v8, v9] 32 := qW9
    have hVs : l5 ≤ w9.drew.heap.size := by have := hO.out.size; have := hdr.size; omega
    clear hpk qG9 qW9
    go_upto_region 28 with fail
    refine wp_region_held_drew (S := fun V => Blk V pg #[n0, r0, n1, r1, n2, r2, n3, r3, n4, r4] 32 ∧ Blk V pw #[v0, v1, v2, v3, v4, v5, v6, v7, v8, v9] 32) (by kernel_rfl) ⟨qGV, qWV⟩ (fun hS => ?_)
    generalize w9.drew = V0 at *
    obtain rfl | rfl | rfl | rfl | rfl : k = 0 ∨ k = 1 ∨ k = 2 ∨ k = 3 ∨ k = 4 := by omega
    ·have hOs := hO.out.mono (S' := fun b => l0 ≤ b ∧ b < l0 ∧ b ≠ pg) (fun b hb => hb)
     have hGw := G0.out.keep (W' := V0) (fun b hS hlt => (hdr.block b (Nat.lt_of_lt_of_le hlt hOs.size)).trans (hOs.block b hlt (fun h => by have := h.2.1; have := hS.1; omega)))
     have cE := Lib.hid (eqTab_same 1048576 (by omega) V0 _ _ (joinZ A B) hGw.read ((tw0.out).stay hBV) (by have := tl0.out.1; omega) (by have := tl0.out.2.1; omega))
     have cR := Lib.hid (fun V (h : Below V0.heap.size V0 V) => overRows_any 1048576 (by omega) V r0 (joinZ A B).rows (fun b => l0 ≤ b ∧ b < l1 ∧ b ≠ pg) ((hGw.keep (fun b hS hlt => h.block b hlt)).rows) (fun b hb => by have := hb.2.1; have := h.size; have := hVs; omega) (by have := tl0.out.2.1; omega) (fun r hr => by have := tl0.out.2.2 r hr; omega))
     refine tkH 0 ?_ rfl (fun w' hS => ?_) hS ?_
     rotate_left
     ·
      have z0 := hS.1.cell 0 rfl; have z1 := hS.1.cell 1 rfl; have z2 := hS.1.cell 2 rfl; have z3 := hS.1.cell 3 rfl; have z4 := hS.1.cell 4 rfl; have z5 := hS.1.cell 5 rfl; have z6 := hS.1.cell 6 rfl; have z7 := hS.1.cell 7 rfl; have z8 := hS.1.cell 8 rfl; have z9 := hS.1.cell 9 rfl; have y0 := hS.2.cell 0 rfl; have y1 := hS.2.cell 1 rfl; have y2 := hS.2.cell 2 rfl; have y3 := hS.2.cell 3 rfl; have y4 := hS.2.cell 4 rfl; have y5 := hS.2.cell 5 rfl; have y6 := hS.2.cell 6 rfl; have y7 := hS.2.cell 7 rfl; have y8 := hS.2.cell 8 rfl; have y9 := hS.2.cell 9 rfl
      go_simp
      try with_reducible rfl
     refine tkH 1 ?_ rfl (fun w' hS => ?_) hS ?_
     rotate_left
     ·
      have z0 := hS.1.cell 0 rfl; have z1 := hS.1.cell 1 rfl; have z2 := hS.1.cell 2 rfl; have z3 := hS.1.cell 3 rfl; have z4 := hS.1.cell 4 rfl; have z5 := hS.1.cell 5 rfl; have z6 := hS.1.cell 6 rfl; have z7 := hS.1.cell 7 rfl; have z8 := hS.1.cell 8 rfl; have z9 := hS.1.cell 9 rfl; have y0 := hS.2.cell 0 rfl; have y1 := hS.2.cell 1 rfl; have y2 := hS.2.cell 2 rfl; have y3 := hS.2.cell 3 rfl; have y4 := hS.2.cell 4 rfl; have y5 := hS.2.cell 5 rfl; have y6 := hS.2.cell 6 rfl; have y7 := hS.2.cell 7 rfl; have y8 := hS.2.cell 8 rfl; have y9 := hS.2.cell 9 rfl
      go_simp
      try with_reducible rfl
     refine tkH 2 ?_ rfl (fun w' hS => ?_) hS ?_
     rotate_left
     ·
      have z0 := hS.1.cell 0 rfl; have z1 := hS.1.cell 1 rfl; have z2 := hS.1.cell 2 rfl; have z3 := hS.1.cell 3 rfl; have z4 := hS.1.cell 4 rfl; have z5 := hS.1.cell 5 rfl; have z6 := hS.1.cell 6 rfl; have z7 := hS.1.cell 7 rfl; have z8 := hS.1.cell 8 rfl; have z9 := hS.1.cell 9 rfl; have y0 := hS.2.cell 0 rfl; have y1 := hS.2.cell 1 rfl; have y2 := hS.2.cell 2 rfl; have y3 := hS.2.cell 3 rfl; have y4 := hS.2.cell 4 rfl; have y5 := hS.2.cell 5 rfl; have y6 := hS.2.cell 6 rfl; have y7 := hS.2.cell 7 rfl; have y8 := hS.2.cell 8 rfl; have y9 := hS.2.cell 9 rfl
      go_simp
      try with_reducible rfl
     refine tkH 3 ?_ rfl (fun w' hS => ?_) hS ?_
     rotate_left
     ·
      have z0 := hS.1.cell 0 rfl; have z1 := hS.1.cell 1 rfl; have z2 := hS.1.cell 2 rfl; have z3 := hS.1.cell 3 rfl; have z4 := hS.1.cell 4 rfl; have z5 := hS.1.cell 5 rfl; have z6 := hS.1.cell 6 rfl; have z7 := hS.1.cell 7 rfl; have z8 := hS.1.cell 8 rfl; have z9 := hS.1.cell 9 rfl; have y0 := hS.2.cell 0 rfl; have y1 := hS.2.cell 1 rfl; have y2 := hS.2.cell 2 rfl; have y3 := hS.2.cell 3 rfl; have y4 := hS.2.cell 4 rfl; have y5 := hS.2.cell 5 rfl; have y6 := hS.2.cell 6 rfl; have y7 := hS.2.cell 7 rfl; have y8 := hS.2.cell 8 rfl; have y9 := hS.2.cell 9 rfl
      go_simp
      try with_reducible rfl
     refine tkH 4 ?_ rfl (fun w' hS => ?_) hS ?_
     rotate_left
     ·
      have z0 := hS.1.cell 0 rfl; have z1 := hS.1.cell 1 rfl; have z2 := hS.1.cell 2 rfl; have z3 := hS.1.cell 3 rfl; have z4 := hS.1.cell 4 rfl; have z5 := hS.1.cell 5 rfl; have z6 := hS.1.cell 6 rfl; have z7 := hS.1.cell 7 rfl; have z8 := hS.1.cell 8 rfl; have z9 := hS.1.cell 9 rfl; have y0 := hS.2.cell 0 rfl; have y1 := hS.2.cell 1 rfl; have y2 := hS.2.cell 2 rfl; have y3 := hS.2.cell 3 rfl; have y4 := hS.2.cell 4 rfl; have y5 := hS.2.cell 5 rfl; have y6 := hS.2.cell 6 rfl; have y7 := hS.2.cell 7 rfl; have y8 := hS.2.cell 8 rfl; have y9 := hS.2.cell 9 rfl
      go_simp
      try with_reducible rfl
     refine tkH 5 ?_ rfl (fun w' hS => ?_) hS ?_
     rotate_left
     ·
      have z0 := hS.1.cell 0 rfl; have z1 := hS.1.cell 1 rfl; have z2 := hS.1.cell 2 rfl; have z3 := hS.1.cell 3 rfl; have z4 := hS.1.cell 4 rfl; have z5 := hS.1.cell 5 rfl; have z6 := hS.1.cell 6 rfl; have z7 := hS.1.cell 7 rfl; have z8 := hS.1.cell 8 rfl; have z9 := hS.1.cell 9 rfl; have y0 := hS.2.cell 0 rfl; have y1 := hS.2.cell 1 rfl; have y2 := hS.2.cell 2 rfl; have y3 := hS.2.cell 3 rfl; have y4 := hS.2.cell 4 rfl; have y5 := hS.2.cell 5 rfl; have y6 := hS.2.cell 6 rfl; have y7 := hS.2.cell 7 rfl; have y8 := hS.2.cell 8 rfl; have y9 := hS.2.cell 9 rfl
      go_simp
      try with_reducible rfl
     refine rdH 6 rfl (fun K hK => ?_)
     clear hS
     go_simp
     refine (cE.out).mono ?_
     rintro e w5 ⟨rfl, hb5⟩
     go_wp2_with fail
     refine hK.out _ _ (⟨(hb5.block _ qGV.lt).trans qGV, (hb5.block _ qWV.lt).trans qWV⟩) (fun hS => ?_)
     clear hK K
     try simp only [List.getElem_toArray, List.getElem_cons_succ, List.getElem_cons_zero, Act.put, List.setIfInBounds_toArray, List.set_cons_zero, List.set_cons_succ]
     have cR5 := Lib.hid (cR.out w5 hb5)
     have qG5 : Blk w5 pg _ _ := (hb5.block _ qGV.lt).trans qGV
     have qW5 : Blk w5 pw _ _ := (hb5.block _ qWV.lt).trans qWV
     clear cE cR
     refine tkH 7 ?_ rfl (fun w' hS => ?_) hS ?_
     rotate_left
     ·
      have z0 := hS.1.cell 0 rfl; have z1 := hS.1.cell 1 rfl; have z2 := hS.1.cell 2 rfl; have z3 := hS.1.cell 3 rfl; have z4 := hS.1.cell 4 rfl; have z5 := hS.1.cell 5 rfl; have z6 := hS.1.cell 6 rfl; have z7 := hS.1.cell 7 rfl; have z8 := hS.1.cell 8 rfl; have z9 := hS.1.cell 9 rfl
      go_simp
      try with_reducible rfl
     refine tkH 8 ?_ rfl (fun w' hS => ?_) hS ?_
     rotate_left
     ·
      have z0 := hS.1.cell 0 rfl; have z1 := hS.1.cell 1 rfl; have z2 := hS.1.cell 2 rfl; have z3 := hS.1.cell 3 rfl; have z4 := hS.1.cell 4 rfl; have z5 := hS.1.cell 5 rfl; have z6 := hS.1.cell 6 rfl; have z7 := hS.1.cell 7 rfl; have z8 := hS.1.cell 8 rfl; have z9 := hS.1.cell 9 rfl
      go_simp
      try with_reducible rfl
     refine tkH 9 ?_ rfl (fun w' hS => ?_) hS ?_
     rotate_left
     ·
      have z0 := hS.1.cell 0 rfl; have z1 := hS.1.cell 1 rfl; have z2 := hS.1.cell 2 rfl; have z3 := hS.1.cell 3 rfl; have z4 := hS.1.cell 4 rfl; have z5 := hS.1.cell 5 rfl; have z6 := hS.1.cell 6 rfl; have z7 := hS.1.cell 7 rfl; have z8 := hS.1.cell 8 rfl; have z9 := hS.1.cell 9 rfl
      go_simp
      try with_reducible rfl
     refine tkH 10 ?_ rfl (fun w' hS => ?_) hS ?_
     rotate_left
     ·
      have z0 := hS.1.cell 0 rfl; have z1 := hS.1.cell 1 rfl; have z2 := hS.1.cell 2 rfl; have z3 := hS.1.cell 3 rfl; have z4 := hS.1.cell 4 rfl; have z5 := hS.1.cell 5 rfl; have z6 := hS.1.cell 6 rfl; have z7 := hS.1.cell 7 rfl; have z8 := hS.1.cell 8 rfl; have z9 := hS.1.cell 9 rfl
      go_simp
      try with_reducible rfl
     refine tkH 11 ?_ rfl (fun w' hS => ?_) hS ?_
     rotate_left
     ·
      have z0 := hS.1.cell 0 rfl; have z1 := hS.1.cell 1 rfl; have z2 := hS.1.cell 2 rfl; have z3 := hS.1.cell 3 rfl; have z4 := hS.1.cell 4 rfl; have z5 := hS.1.cell 5 rfl; have z6 := hS.1.cell 6 rfl; have z7 := hS.1.cell 7 rfl; have z8 := hS.1.cell 8 rfl; have z9 := hS.1.cell 9 rfl
      go_simp
      try with_reducible rfl
     refine tkH 12 ?_ rfl (fun w' hS => ?_) hS ?_
     rotate_left
     ·
      have z0 := hS.1.cell 0 rfl; have z1 := hS.1.cell 1 rfl; have z2 := hS.1.cell 2 rfl; have z3 := hS.1.cell 3 rfl; have z4 := hS.1.cell 4 rfl; have z5 := hS.1.cell 5 rfl; have z6 := hS.1.cell 6 rfl; have z7 := hS.1.cell 7 rfl; have z8 := hS.1.cell 8 rfl; have z9 := hS.1.cell 9 rfl
      go_simp
      try with_reducible rfl
     refine rdH 13 rfl (fun K hK => ?_)
     clear hS
     go_simp
     refine (cR5.out).mono ?_
     rintro e w6' ⟨rfl, ho6⟩
     go_wp2_with fail
     refine hK.out _ _ (⟨(ho6.block _ qG5.lt (fun h => h.2.2 rfl)).trans qG5, (ho6.block _ qW5.lt (fun h => by have := h.1; have := hpwl.out; omega)).trans qW5⟩) (fun hS => ?_)
     clear hK K
     try simp only [List.getElem_toArray, List.getElem_cons_succ, List.getElem_cons_zero, Act.put, List.setIfInBounds_toArray, List.set_cons_zero, List.set_cons_succ]
     have hOn := Lib.hid (((hOs.mono (S' := fun b => l0 ≤ b ∧ b < l1 ∧ b ≠ pg) (fun b hb => ⟨hb.1, by have := hb.2.1; omega, hb.2.2⟩)).trans (Out.ofBelow (S := fun b => l0 ≤ b ∧ b < l1 ∧ b ≠ pg) (hdr.trans (hb5.mono hdr.size))) (fun _ h => h)).trans ho6 (fun b hb => ⟨by have := hb.1; omega, hb.2.1, hb.2.2⟩))
     clear ho6 cR5 hb5 hGw hOs hdr hBV qG5 qW5 qGV qWV
     refine tkH 14 ?_ rfl (fun w' hS => ?_) hS ?_
     rotate_left
     ·
      skip
      go_simp
      try with_reducible rfl
     refine tkH 15 ?_ rfl (fun w' hS => ?_) hS ?_
     rotate_left
     ·
      skip
      go_simp
      try with_reducible rfl
     refine wpAnyH_done (by kernel_rfl) ?_ _
     clear hS
     go_wp2
     go_roundw
     case rel => exact ⟨1, by omega, by go_num, hOn⟩
     case measure => simp [intOf]
    ·have hOs := hO.out.mono (S' := fun b => l0 ≤ b ∧ b < l1 ∧ b ≠ pg) (fun b hb => hb)
     have hGw := G1.out.keep (W' := V0) (fun b hS hlt => (hdr.block b (Nat.lt_of_lt_of_le hlt hOs.size)).trans (hOs.block b hlt (fun h => by have := h.2.1; have := hS.1; omega)))
     have cE := Lib.hid (eqTab_same 1048576 (by omega) V0 _ _ (joinZ A B) hGw.read ((tw1.out).stay hBV) (by have := tl1.out.1; omega) (by have := tl1.out.2.1; omega))
     have cR := Lib.hid (fun V (h : Below V0.heap.size V0 V) => overRows_any 1048576 (by omega) V r1 (joinZ A B).rows (fun b => l1 ≤ b ∧ b < l2 ∧ b ≠ pg) ((hGw.keep (fun b hS hlt => h.block b hlt)).rows) (fun b hb => by have := hb.2.1; have := h.size; have := hVs; omega) (by have := tl1.out.2.1; omega) (fun r hr => by have := tl1.out.2.2 r hr; omega))
     refine tkH 0 ?_ rfl (fun w' hS => ?_) hS ?_
     rotate_left
     ·
      have z0 := hS.1.cell 0 rfl; have z1 := hS.1.cell 1 rfl; have z2 := hS.1.cell 2 rfl; have z3 := hS.1.cell 3 rfl; have z4 := hS.1.cell 4 rfl; have z5 := hS.1.cell 5 rfl; have z6 := hS.1.cell 6 rfl; have z7 := hS.1.cell 7 rfl; have z8 := hS.1.cell 8 rfl; have z9 := hS.1.cell 9 rfl; have y0 := hS.2.cell 0 rfl; have y1 := hS.2.cell 1 rfl; have y2 := hS.2.cell 2 rfl; have y3 := hS.2.cell 3 rfl; have y4 := hS.2.cell 4 rfl; have y5 := hS.2.cell 5 rfl; have y6 := hS.2.cell 6 rfl; have y7 := hS.2.cell 7 rfl; have y8 := hS.2.cell 8 rfl; have y9 := hS.2.cell 9 rfl
      go_simp
      try with_reducible rfl
     refine tkH 1 ?_ rfl (fun w' hS => ?_) hS ?_
     rotate_left
     ·
      have z0 := hS.1.cell 0 rfl; have z1 := hS.1.cell 1 rfl; have z2 := hS.1.cell 2 rfl; have z3 := hS.1.cell 3 rfl; have z4 := hS.1.cell 4 rfl; have z5 := hS.1.cell 5 rfl; have z6 := hS.1.cell 6 rfl; have z7 := hS.1.cell 7 rfl; have z8 := hS.1.cell 8 rfl; have z9 := hS.1.cell 9 rfl; have y0 := hS.2.cell 0 rfl; have y1 := hS.2.cell 1 rfl; have y2 := hS.2.cell 2 rfl; have y3 := hS.2.cell 3 rfl; have y4 := hS.2.cell 4 rfl; have y5 := hS.2.cell 5 rfl; have y6 := hS.2.cell 6 rfl; have y7 := hS.2.cell 7 rfl; have y8 := hS.2.cell 8 rfl; have y9 := hS.2.cell 9 rfl
      go_simp
      try with_reducible rfl
     refine tkH 2 ?_ rfl (fun w' hS => ?_) hS ?_
     rotate_left
     ·
      have z0 := hS.1.cell 0 rfl; have z1 := hS.1.cell 1 rfl; have z2 := hS.1.cell 2 rfl; have z3 := hS.1.cell 3 rfl; have z4 := hS.1.cell 4 rfl; have z5 := hS.1.cell 5 rfl; have z6 := hS.1.cell 6 rfl; have z7 := hS.1.cell 7 rfl; have z8 := hS.1.cell 8 rfl; have z9 := hS.1.cell 9 rfl; have y0 := hS.2.cell 0 rfl; have y1 := hS.2.cell 1 rfl; have y2 := hS.2.cell 2 rfl; have y3 := hS.2.cell 3 rfl; have y4 := hS.2.cell 4 rfl; have y5 := hS.2.cell 5 rfl; have y6 := hS.2.cell 6 rfl; have y7 := hS.2.cell 7 rfl; have y8 := hS.2.cell 8 rfl; have y9 := hS.2.cell 9 rfl
      go_simp
      try with_reducible rfl
     refine tkH 3 ?_ rfl (fun w' hS => ?_) hS ?_
     rotate_left
     ·
      have z0 := hS.1.cell 0 rfl; have z1 := hS.1.cell 1 rfl; have z2 := hS.1.cell 2 rfl; have z3 := hS.1.cell 3 rfl; have z4 := hS.1.cell 4 rfl; have z5 := hS.1.cell 5 rfl; have z6 := hS.1.cell 6 rfl; have z7 := hS.1.cell 7 rfl; have z8 := hS.1.cell 8 rfl; have z9 := hS.1.cell 9 rfl; have y0 := hS.2.cell 0 rfl; have y1 := hS.2.cell 1 rfl; have y2 := hS.2.cell 2 rfl; have y3 := hS.2.cell 3 rfl; have y4 := hS.2.cell 4 rfl; have y5 := hS.2.cell 5 rfl; have y6 := hS.2.cell 6 rfl; have y7 := hS.2.cell 7 rfl; have y8 := hS.2.cell 8 rfl; have y9 := hS.2.cell 9 rfl
      go_simp
      try with_reducible rfl
     refine tkH 4 ?_ rfl (fun w' hS => ?_) hS ?_
     rotate_left
     ·
      have z0 := hS.1.cell 0 rfl; have z1 := hS.1.cell 1 rfl; have z2 := hS.1.cell 2 rfl; have z3 := hS.1.cell 3 rfl; have z4 := hS.1.cell 4 rfl; have z5 := hS.1.cell 5 rfl; have z6 := hS.1.cell 6 rfl; have z7 := hS.1.cell 7 rfl; have z8 := hS.1.cell 8 rfl; have z9 := hS.1.cell 9 rfl; have y0 := hS.2.cell 0 rfl; have y1 := hS.2.cell 1 rfl; have y2 := hS.2.cell 2 rfl; have y3 := hS.2.cell 3 rfl; have y4 := hS.2.cell 4 rfl; have y5 := hS.2.cell 5 rfl; have y6 := hS.2.cell 6 rfl; have y7 := hS.2.cell 7 rfl; have y8 := hS.2.cell 8 rfl; have y9 := hS.2.cell 9 rfl
      go_simp
      try with_reducible rfl
     refine tkH 5 ?_ rfl (fun w' hS => ?_) hS ?_
     rotate_left
     ·
      have z0 := hS.1.cell 0 rfl; have z1 := hS.1.cell 1 rfl; have z2 := hS.1.cell 2 rfl; have z3 := hS.1.cell 3 rfl; have z4 := hS.1.cell 4 rfl; have z5 := hS.1.cell 5 rfl; have z6 := hS.1.cell 6 rfl; have z7 := hS.1.cell 7 rfl; have z8 := hS.1.cell 8 rfl; have z9 := hS.1.cell 9 rfl; have y0 := hS.2.cell 0 rfl; have y1 := hS.2.cell 1 rfl; have y2 := hS.2.cell 2 rfl; have y3 := hS.2.cell 3 rfl; have y4 := hS.2.cell 4 rfl; have y5 := hS.2.cell 5 rfl; have y6 := hS.2.cell 6 rfl; have y7 := hS.2.cell 7 rfl; have y8 := hS.2.cell 8 rfl; have y9 := hS.2.cell 9 rfl
      go_simp
      try with_reducible rfl
     refine rdH 6 rfl (fun K hK => ?_)
     clear hS
     go_simp
     refine (cE.out).mono ?_
     rintro e w5 ⟨rfl, hb5⟩
     go_wp2_with fail
     refine hK.out _ _ (⟨(hb5.block _ qGV.lt).trans qGV, (hb5.block _ qWV.lt).trans qWV⟩) (fun hS => ?_)
     clear hK K
     try simp only [List.getElem_toArray, List.getElem_cons_succ, List.getElem_cons_zero, Act.put, List.setIfInBounds_toArray, List.set_cons_zero, List.set_cons_succ]
     have cR5 := Lib.hid (cR.out w5 hb5)
     have qG5 : Blk w5 pg _ _ := (hb5.block _ qGV.lt).trans qGV
     have qW5 : Blk w5 pw _ _ := (hb5.block _ qWV.lt).trans qWV
     clear cE cR
     refine tkH 7 ?_ rfl (fun w' hS => ?_) hS ?_
     rotate_left
     ·
      have z0 := hS.1.cell 0 rfl; have z1 := hS.1.cell 1 rfl; have z2 := hS.1.cell 2 rfl; have z3 := hS.1.cell 3 rfl; have z4 := hS.1.cell 4 rfl; have z5 := hS.1.cell 5 rfl; have z6 := hS.1.cell 6 rfl; have z7 := hS.1.cell 7 rfl; have z8 := hS.1.cell 8 rfl; have z9 := hS.1.cell 9 rfl
      go_simp
      try with_reducible rfl
     refine tkH 8 ?_ rfl (fun w' hS => ?_) hS ?_
     rotate_left
     ·
      have z0 := hS.1.cell 0 rfl; have z1 := hS.1.cell 1 rfl; have z2 := hS.1.cell 2 rfl; have z3 := hS.1.cell 3 rfl; have z4 := hS.1.cell 4 rfl; have z5 := hS.1.cell 5 rfl; have z6 := hS.1.cell 6 rfl; have z7 := hS.1.cell 7 rfl; have z8 := hS.1.cell 8 rfl; have z9 := hS.1.cell 9 rfl
      go_simp
      try with_reducible rfl
     refine tkH 9 ?_ rfl (fun w' hS => ?_) hS ?_
     rotate_left
     ·
      have z0 := hS.1.cell 0 rfl; have z1 := hS.1.cell 1 rfl; have z2 := hS.1.cell 2 rfl; have z3 := hS.1.cell 3 rfl; have z4 := hS.1.cell 4 rfl; have z5 := hS.1.cell 5 rfl; have z6 := hS.1.cell 6 rfl; have z7 := hS.1.cell 7 rfl; have z8 := hS.1.cell 8 rfl; have z9 := hS.1.cell 9 rfl
      go_simp
      try with_reducible rfl
     refine tkH 10 ?_ rfl (fun w' hS => ?_) hS ?_
     rotate_left
     ·
      have z0 := hS.1.cell 0 rfl; have z1 := hS.1.cell 1 rfl; have z2 := hS.1.cell 2 rfl; have z3 := hS.1.cell 3 rfl; have z4 := hS.1.cell 4 rfl; have z5 := hS.1.cell 5 rfl; have z6 := hS.1.cell 6 rfl; have z7 := hS.1.cell 7 rfl; have z8 := hS.1.cell 8 rfl; have z9 := hS.1.cell 9 rfl
      go_simp
      try with_reducible rfl
     refine tkH 11 ?_ rfl (fun w' hS => ?_) hS ?_
     rotate_left
     ·
      have z0 := hS.1.cell 0 rfl; have z1 := hS.1.cell 1 rfl; have z2 := hS.1.cell 2 rfl; have z3 := hS.1.cell 3 rfl; have z4 := hS.1.cell 4 rfl; have z5 := hS.1.cell 5 rfl; have z6 := hS.1.cell 6 rfl; have z7 := hS.1.cell 7 rfl; have z8 := hS.1.cell 8 rfl; have z9 := hS.1.cell 9 rfl
      go_simp
      try with_reducible rfl
     refine tkH 12 ?_ rfl (fun w' hS => ?_) hS ?_
     rotate_left
     ·
      have z0 := hS.1.cell 0 rfl; have z1 := hS.1.cell 1 rfl; have z2 := hS.1.cell 2 rfl; have z3 := hS.1.cell 3 rfl; have z4 := hS.1.cell 4 rfl; have z5 := hS.1.cell 5 rfl; have z6 := hS.1.cell 6 rfl; have z7 := hS.1.cell 7 rfl; have z8 := hS.1.cell 8 rfl; have z9 := hS.1.cell 9 rfl
      go_simp
      try with_reducible rfl
     refine rdH 13 rfl (fun K hK => ?_)
     clear hS
     go_simp
     refine (cR5.out).mono ?_
     rintro e w6' ⟨rfl, ho6⟩
     go_wp2_with fail
     refine hK.out _ _ (⟨(ho6.block _ qG5.lt (fun h => h.2.2 rfl)).trans qG5, (ho6.block _ qW5.lt (fun h => by have := h.1; have := hpwl.out; omega)).trans qW5⟩) (fun hS => ?_)
     clear hK K
     try simp only [List.getElem_toArray, List.getElem_cons_succ, List.getElem_cons_zero, Act.put, List.setIfInBounds_toArray, List.set_cons_zero, List.set_cons_succ]
     have hOn := Lib.hid (((hOs.mono (S' := fun b => l0 ≤ b ∧ b < l2 ∧ b ≠ pg) (fun b hb => ⟨hb.1, by have := hb.2.1; omega, hb.2.2⟩)).trans (Out.ofBelow (S := fun b => l0 ≤ b ∧ b < l2 ∧ b ≠ pg) (hdr.trans (hb5.mono hdr.size))) (fun _ h => h)).trans ho6 (fun b hb => ⟨by have := hb.1; omega, hb.2.1, hb.2.2⟩))
     clear ho6 cR5 hb5 hGw hOs hdr hBV qG5 qW5 qGV qWV
     refine tkH 14 ?_ rfl (fun w' hS => ?_) hS ?_
     rotate_left
     ·
      skip
      go_simp
      try with_reducible rfl
     refine tkH 15 ?_ rfl (fun w' hS => ?_) hS ?_
     rotate_left
     ·
      skip
      go_simp
      try with_reducible rfl
     refine wpAnyH_done (by kernel_rfl) ?_ _
     clear hS
     go_wp2
     go_roundw
     case rel => exact ⟨2, by omega, by go_num, hOn⟩
     case measure => simp [intOf]
    ·have hOs := hO.out.mono (S' := fun b => l0 ≤ b ∧ b < l2 ∧ b ≠ pg) (fun b hb => hb)
     have hGw := G2.out.keep (W' := V0) (fun b hS hlt => (hdr.block b (Nat.lt_of_lt_of_le hlt hOs.size)).trans (hOs.block b hlt (fun h => by have := h.2.1; have := hS.1; omega)))
     have cE := Lib.hid (eqTab_same 1048576 (by omega) V0 _ _ (someZ A B false true) hGw.read ((tw2.out).stay hBV) (by have := tl2.out.1; omega) (by have := tl2.out.2.1; omega))
     have cR := Lib.hid (fun V (h : Below V0.heap.size V0 V) => overRows_any 1048576 (by omega) V r2 (someZ A B false true).rows (fun b => l2 ≤ b ∧ b < l3 ∧ b ≠ pg) ((hGw.keep (fun b hS hlt => h.block b hlt)).rows) (fun b hb => by have := hb.2.1; have := h.size; have := hVs; omega) (by have := tl2.out.2.1; omega) (fun r hr => by have := tl2.out.2.2 r hr; omega))
     refine tkH 0 ?_ rfl (fun w' hS => ?_) hS ?_
     rotate_left
     ·
      have z0 := hS.1.cell 0 rfl; have z1 := hS.1.cell 1 rfl; have z2 := hS.1.cell 2 rfl; have z3 := hS.1.cell 3 rfl; have z4 := hS.1.cell 4 rfl; have z5 := hS.1.cell 5 rfl; have z6 := hS.1.cell 6 rfl; have z7 := hS.1.cell 7 rfl; have z8 := hS.1.cell 8 rfl; have z9 := hS.1.cell 9 rfl; have y0 := hS.2.cell 0 rfl; have y1 := hS.2.cell 1 rfl; have y2 := hS.2.cell 2 rfl; have y3 := hS.2.cell 3 rfl; have y4 := hS.2.cell 4 rfl; have y5 := hS.2.cell 5 rfl; have y6 := hS.2.cell 6 rfl; have y7 := hS.2.cell 7 rfl; have y8 := hS.2.cell 8 rfl; have y9 := hS.2.cell 9 rfl
      go_simp
      try with_reducible rfl
     refine tkH 1 ?_ rfl (fun w' hS => ?_) hS ?_
     rotate_left
     ·
      have z0 := hS.1.cell 0 rfl; have z1 := hS.1.cell 1 rfl; have z2 := hS.1.cell 2 rfl; have z3 := hS.1.cell 3 rfl; have z4 := hS.1.cell 4 rfl; have z5 := hS.1.cell 5 rfl; have z6 := hS.1.cell 6 rfl; have z7 := hS.1.cell 7 rfl; have z8 := hS.1.cell 8 rfl; have z9 := hS.1.cell 9 rfl; have y0 := hS.2.cell 0 rfl; have y1 := hS.2.cell 1 rfl; have y2 := hS.2.cell 2 rfl; have y3 := hS.2.cell 3 rfl; have y4 := hS.2.cell 4 rfl; have y5 := hS.2.cell 5 rfl; have y6 := hS.2.cell 6 rfl; have y7 := hS.2.cell 7 rfl; have y8 := hS.2.cell 8 rfl; have y9 := hS.2.cell 9 rfl
      go_simp
      try with_reducible rfl
     refine tkH 2 ?_ rfl (fun w' hS => ?_) hS ?_
     rotate_left
     ·
      have z0 := hS.1.cell 0 rfl; have z1 := hS.1.cell 1 rfl; have z2 := hS.1.cell 2 rfl; have z3 := hS.1.cell 3 rfl; have z4 := hS.1.cell 4 rfl; have z5 := hS.1.cell 5 rfl; have z6 := hS.1.cell 6 rfl; have z7 := hS.1.cell 7 rfl; have z8 := hS.1.cell 8 rfl; have z9 := hS.1.cell 9 rfl; have y0 := hS.2.cell 0 rfl; have y1 := hS.2.cell 1 rfl; have y2 := hS.2.cell 2 rfl; have y3 := hS.2.cell 3 rfl; have y4 := hS.2.cell 4 rfl; have y5 := hS.2.cell 5 rfl; have y6 := hS.2.cell 6 rfl; have y7 := hS.2.cell 7 rfl; have y8 := hS.2.cell 8 rfl; have y9 := hS.2.cell 9 rfl
      go_simp
      try with_reducible rfl
     refine tkH 3 ?_ rfl (fun w' hS => ?_) hS ?_
     rotate_left
     ·
      have z0 := hS.1.cell 0 rfl; have z1 := hS.1.cell 1 rfl; have z2 := hS.1.cell 2 rfl; have z3 := hS.1.cell 3 rfl; have z4 := hS.1.cell 4 rfl; have z5 := hS.1.cell 5 rfl; have z6 := hS.1.cell 6 rfl; have z7 := hS.1.cell 7 rfl; have z8 := hS.1.cell 8 rfl; have z9 := hS.1.cell 9 rfl; have y0 := hS.2.cell 0 rfl; have y1 := hS.2.cell 1 rfl; have y2 := hS.2.cell 2 rfl; have y3 := hS.2.cell 3 rfl; have y4 := hS.2.cell 4 rfl; have y5 := hS.2.cell 5 rfl; have y6 := hS.2.cell 6 rfl; have y7 := hS.2.cell 7 rfl; have y8 := hS.2.cell 8 rfl; have y9 := hS.2.cell 9 rfl
      go_simp
      try with_reducible rfl
     refine tkH 4 ?_ rfl (fun w' hS => ?_) hS ?_
     rotate_left
     ·
      have z0 := hS.1.cell 0 rfl; have z1 := hS.1.cell 1 rfl; have z2 := hS.1.cell 2 rfl; have z3 := hS.1.cell 3 rfl; have z4 := hS.1.cell 4 rfl; have z5 := hS.1.cell 5 rfl; have z6 := hS.1.cell 6 rfl; have z7 := hS.1.cell 7 rfl; have z8 := hS.1.cell 8 rfl; have z9 := hS.1.cell 9 rfl; have y0 := hS.2.cell 0 rfl; have y1 := hS.2.cell 1 rfl; have y2 := hS.2.cell 2 rfl; have y3 := hS.2.cell 3 rfl; have y4 := hS.2.cell 4 rfl; have y5 := hS.2.cell 5 rfl; have y6 := hS.2.cell 6 rfl; have y7 := hS.2.cell 7 rfl; have y8 := hS.2.cell 8 rfl; have y9 := hS.2.cell 9 rfl
      go_simp
      try with_reducible rfl
     refine tkH 5 ?_ rfl (fun w' hS => ?_) hS ?_
     rotate_left
     ·
      have z0 := hS.1.cell 0 rfl; have z1 := hS.1.cell 1 rfl; have z2 := hS.1.cell 2 rfl; have z3 := hS.1.cell 3 rfl; have z4 := hS.1.cell 4 rfl; have z5 := hS.1.cell 5 rfl; have z6 := hS.1.cell 6 rfl; have z7 := hS.1.cell 7 rfl; have z8 := hS.1.cell 8 rfl; have z9 := hS.1.cell 9 rfl; have y0 := hS.2.cell 0 rfl; have y1 := hS.2.cell 1 rfl; have y2 := hS.2.cell 2 rfl; have y3 := hS.2.cell 3 rfl; have y4 := hS.2.cell 4 rfl; have y5 := hS.2.cell 5 rfl; have y6 := hS.2.cell 6 rfl; have y7 := hS.2.cell 7 rfl; have y8 := hS.2.cell 8 rfl; have y9 := hS.2.cell 9 rfl
      go_simp
      try with_reducible rfl
     refine rdH 6 rfl (fun K hK => ?_)
     clear hS
     go_simp
     refine (cE.out).mono ?_
     rintro e w5 ⟨rfl, hb5⟩
     go_wp2_with fail
     refine hK.out _ _ (⟨(hb5.block _ qGV.lt).trans qGV, (hb5.block _ qWV.lt).trans qWV⟩) (fun hS => ?_)
     clear hK K
     try simp only [List.getElem_toArray, List.getElem_cons_succ, List.getElem_cons_zero, Act.put, List.setIfInBounds_toArray, List.set_cons_zero, List.set_cons_succ]
     have cR5 := Lib.hid (cR.out w5 hb5)
     have qG5 : Blk w5 pg _ _ := (hb5.block _ qGV.lt).trans qGV
     have qW5 : Blk w5 pw _ _ := (hb5.block _ qWV.lt).trans qWV
     clear cE cR
     refine tkH 7 ?_ rfl (fun w' hS => ?_) hS ?_
     rotate_left
     ·
      have z0 := hS.1.cell 0 rfl; have z1 := hS.1.cell 1 rfl; have z2 := hS.1.cell 2 rfl; have z3 := hS.1.cell 3 rfl; have z4 := hS.1.cell 4 rfl; have z5 := hS.1.cell 5 rfl; have z6 := hS.1.cell 6 rfl; have z7 := hS.1.cell 7 rfl; have z8 := hS.1.cell 8 rfl; have z9 := hS.1.cell 9 rfl
      go_simp
      try with_reducible rfl
     refine tkH 8 ?_ rfl (fun w' hS => ?_) hS ?_
     rotate_left
     ·
      have z0 := hS.1.cell 0 rfl; have z1 := hS.1.cell 1 rfl; have z2 := hS.1.cell 2 rfl; have z3 := hS.1.cell 3 rfl; have z4 := hS.1.cell 4 rfl; have z5 := hS.1.cell 5 rfl; have z6 := hS.1.cell 6 rfl; have z7 := hS.1.cell 7 rfl; have z8 := hS.1.cell 8 rfl; have z9 := hS.1.cell 9 rfl
      go_simp
      try with_reducible rfl
     refine tkH 9 ?_ rfl (fun w' hS => ?_) hS ?_
     rotate_left
     ·
      have z0 := hS.1.cell 0 rfl; have z1 := hS.1.cell 1 rfl; have z2 := hS.1.cell 2 rfl; have z3 := hS.1.cell 3 rfl; have z4 := hS.1.cell 4 rfl; have z5 := hS.1.cell 5 rfl; have z6 := hS.1.cell 6 rfl; have z7 := hS.1.cell 7 rfl; have z8 := hS.1.cell 8 rfl; have z9 := hS.1.cell 9 rfl
      go_simp
      try with_reducible rfl
     refine tkH 10 ?_ rfl (fun w' hS => ?_) hS ?_
     rotate_left
     ·
      have z0 := hS.1.cell 0 rfl; have z1 := hS.1.cell 1 rfl; have z2 := hS.1.cell 2 rfl; have z3 := hS.1.cell 3 rfl; have z4 := hS.1.cell 4 rfl; have z5 := hS.1.cell 5 rfl; have z6 := hS.1.cell 6 rfl; have z7 := hS.1.cell 7 rfl; have z8 := hS.1.cell 8 rfl; have z9 := hS.1.cell 9 rfl
      go_simp
      try with_reducible rfl
     refine tkH 11 ?_ rfl (fun w' hS => ?_) hS ?_
     rotate_left
     ·
      have z0 := hS.1.cell 0 rfl; have z1 := hS.1.cell 1 rfl; have z2 := hS.1.cell 2 rfl; have z3 := hS.1.cell 3 rfl; have z4 := hS.1.cell 4 rfl; have z5 := hS.1.cell 5 rfl; have z6 := hS.1.cell 6 rfl; have z7 := hS.1.cell 7 rfl; have z8 := hS.1.cell 8 rfl; have z9 := hS.1.cell 9 rfl
      go_simp
      try with_reducible rfl
     refine tkH 12 ?_ rfl (fun w' hS => ?_) hS ?_
     rotate_left
     ·
      have z0 := hS.1.cell 0 rfl; have z1 := hS.1.cell 1 rfl; have z2 := hS.1.cell 2 rfl; have z3 := hS.1.cell 3 rfl; have z4 := hS.1.cell 4 rfl; have z5 := hS.1.cell 5 rfl; have z6 := hS.1.cell 6 rfl; have z7 := hS.1.cell 7 rfl; have z8 := hS.1.cell 8 rfl; have z9 := hS.1.cell 9 rfl
      go_simp
      try with_reducible rfl
     refine rdH 13 rfl (fun K hK => ?_)
     clear hS
     go_simp
     refine (cR5.out).mono ?_
     rintro e w6' ⟨rfl, ho6⟩
     go_wp2_with fail
     refine hK.out _ _ (⟨(ho6.block _ qG5.lt (fun h => h.2.2 rfl)).trans qG5, (ho6.block _ qW5.lt (fun h => by have := h.1; have := hpwl.out; omega)).trans qW5⟩) (fun hS => ?_)
     clear hK K
     try simp only [List.getElem_toArray, List.getElem_cons_succ, List.getElem_cons_zero, Act.put, List.setIfInBounds_toArray, List.set_cons_zero, List.set_cons_succ]
     have hOn := Lib.hid (((hOs.mono (S' := fun b => l0 ≤ b ∧ b < l3 ∧ b ≠ pg) (fun b hb => ⟨hb.1, by have := hb.2.1; omega, hb.2.2⟩)).trans (Out.ofBelow (S := fun b => l0 ≤ b ∧ b < l3 ∧ b ≠ pg) (hdr.trans (hb5.mono hdr.size))) (fun _ h => h)).trans ho6 (fun b hb => ⟨by have := hb.1; omega, hb.2.1, hb.2.2⟩))
     clear ho6 cR5 hb5 hGw hOs hdr hBV qG5 qW5 qGV qWV
     refine tkH 14 ?_ rfl (fun w' hS => ?_) hS ?_
     rotate_left
     ·
      skip
      go_simp
      try with_reducible rfl
     refine tkH 15 ?_ rfl (fun w' hS => ?_) hS ?_
     rotate_left
     ·
      skip
      go_simp
      try with_reducible rfl
     refine wpAnyH_done (by kernel_rfl) ?_ _
     clear hS
     go_wp2
     go_roundw
     case rel => exact ⟨3, by omega, by go_num, hOn⟩
     case measure => simp [intOf]
    ·have hOs := hO.out.mono (S' := fun b => l0 ≤ b ∧ b < l3 ∧ b ≠ pg) (fun b hb => hb)
     have hGw := G3.out.keep (W' := V0) (fun b hS hlt => (hdr.block b (Nat.lt_of_lt_of_le hlt hOs.size)).trans (hOs.block b hlt (fun h => by have := h.2.1; have := hS.1; omega)))
     have cE := Lib.hid (eqTab_same 1048576 (by omega) V0 _ _ (someZ A B true false) hGw.read ((tw3.out).stay hBV) (by have := tl3.out.1; omega) (by have := tl3.out.2.1; omega))
     have cR := Lib.hid (fun V (h : Below V0.heap.size V0 V) => overRows_any 1048576 (by omega) V r3 (someZ A B true false).rows (fun b => l3 ≤ b ∧ b < l4 ∧ b ≠ pg) ((hGw.keep (fun b hS hlt => h.block b hlt)).rows) (fun b hb => by have := hb.2.1; have := h.size; have := hVs; omega) (by have := tl3.out.2.1; omega) (fun r hr => by have := tl3.out.2.2 r hr; omega))
     refine tkH 0 ?_ rfl (fun w' hS => ?_) hS ?_
     rotate_left
     ·
      have z0 := hS.1.cell 0 rfl; have z1 := hS.1.cell 1 rfl; have z2 := hS.1.cell 2 rfl; have z3 := hS.1.cell 3 rfl; have z4 := hS.1.cell 4 rfl; have z5 := hS.1.cell 5 rfl; have z6 := hS.1.cell 6 rfl; have z7 := hS.1.cell 7 rfl; have z8 := hS.1.cell 8 rfl; have z9 := hS.1.cell 9 rfl; have y0 := hS.2.cell 0 rfl; have y1 := hS.2.cell 1 rfl; have y2 := hS.2.cell 2 rfl; have y3 := hS.2.cell 3 rfl; have y4 := hS.2.cell 4 rfl; have y5 := hS.2.cell 5 rfl; have y6 := hS.2.cell 6 rfl; have y7 := hS.2.cell 7 rfl; have y8 := hS.2.cell 8 rfl; have y9 := hS.2.cell 9 rfl
      go_simp
      try with_reducible rfl
     refine tkH 1 ?_ rfl (fun w' hS => ?_) hS ?_
     rotate_left
     ·
      have z0 := hS.1.cell 0 rfl; have z1 := hS.1.cell 1 rfl; have z2 := hS.1.cell 2 rfl; have z3 := hS.1.cell 3 rfl; have z4 := hS.1.cell 4 rfl; have z5 := hS.1.cell 5 rfl; have z6 := hS.1.cell 6 rfl; have z7 := hS.1.cell 7 rfl; have z8 := hS.1.cell 8 rfl; have z9 := hS.1.cell 9 rfl; have y0 := hS.2.cell 0 rfl; have y1 := hS.2.cell 1 rfl; have y2 := hS.2.cell 2 rfl; have y3 := hS.2.cell 3 rfl; have y4 := hS.2.cell 4 rfl; have y5 := hS.2.cell 5 rfl; have y6 := hS.2.cell 6 rfl; have y7 := hS.2.cell 7 rfl; have y8 := hS.2.cell 8 rfl; have y9 := hS.2.cell 9 rfl
      go_simp
      try with_reducible rfl
     refine tkH 2 ?_ rfl (fun w' hS => ?_) hS ?_
     rotate_left
     ·
      have z0 := hS.1.cell 0 rfl; have z1 := hS.1.cell 1 rfl; have z2 := hS.1.cell 2 rfl; have z3 := hS.1.cell 3 rfl; have z4 := hS.1.cell 4 rfl; have z5 := hS.1.cell 5 rfl; have z6 := hS.1.cell 6 rfl; have z7 := hS.1.cell 7 rfl; have z8 := hS.1.cell 8 rfl; have z9 := hS.1.cell 9 rfl; have y0 := hS.2.cell 0 rfl; have y1 := hS.2.cell 1 rfl; have y2 := hS.2.cell 2 rfl; have y3 := hS.2.cell 3 rfl; have y4 := hS.2.cell 4 rfl; have y5 := hS.2.cell 5 rfl; have y6 := hS.2.cell 6 rfl; have y7 := hS.2.cell 7 rfl; have y8 := hS.2.cell 8 rfl; have y9 := hS.2.cell 9 rfl
      go_simp
      try with_reducible rfl
     refine tkH 3 ?_ rfl (fun w' hS => ?_) hS ?_
     rotate_left
     ·
      have z0 := hS.1.cell 0 rfl; have z1 := hS.1.cell 1 rfl; have z2 := hS.1.cell 2 rfl; have z3 := hS.1.cell 3 rfl; have z4 := hS.1.cell 4 rfl; have z5 := hS.1.cell 5 rfl; have z6 := hS.1.cell 6 rfl; have z7 := hS.1.cell 7 rfl; have z8 := hS.1.cell 8 rfl; have z9 := hS.1.cell 9 rfl; have y0 := hS.2.cell 0 rfl; have y1 := hS.2.cell 1 rfl; have y2 := hS.2.cell 2 rfl; have y3 := hS.2.cell 3 rfl; have y4 := hS.2.cell 4 rfl; have y5 := hS.2.cell 5 rfl; have y6 := hS.2.cell 6 rfl; have y7 := hS.2.cell 7 rfl; have y8 := hS.2.cell 8 rfl; have y9 := hS.2.cell 9 rfl
      go_simp
      try with_reducible rfl
     refine tkH 4 ?_ rfl (fun w' hS => ?_) hS ?_
     rotate_left
     ·
      have z0 := hS.1.cell 0 rfl; have z1 := hS.1.cell 1 rfl; have z2 := hS.1.cell 2 rfl; have z3 := hS.1.cell 3 rfl; have z4 := hS.1.cell 4 rfl; have z5 := hS.1.cell 5 rfl; have z6 := hS.1.cell 6 rfl; have z7 := hS.1.cell 7 rfl; have z8 := hS.1.cell 8 rfl; have z9 := hS.1.cell 9 rfl; have y0 := hS.2.cell 0 rfl; have y1 := hS.2.cell 1 rfl; have y2 := hS.2.cell 2 rfl; have y3 := hS.2.cell 3 rfl; have y4 := hS.2.cell 4 rfl; have y5 := hS.2.cell 5 rfl; have y6 := hS.2.cell 6 rfl; have y7 := hS.2.cell 7 rfl; have y8 := hS.2.cell 8 rfl; have y9 := hS.2.cell 9 rfl
      go_simp
      try with_reducible rfl
     refine tkH 5 ?_ rfl (fun w' hS => ?_) hS ?_
     rotate_left
     ·
      have z0 := hS.1.cell 0 rfl; have z1 := hS.1.cell 1 rfl; have z2 := hS.1.cell 2 rfl; have z3 := hS.1.cell 3 rfl; have z4 := hS.1.cell 4 rfl; have z5 := hS.1.cell 5 rfl; have z6 := hS.1.cell 6 rfl; have z7 := hS.1.cell 7 rfl; have z8 := hS.1.cell 8 rfl; have z9 := hS.1.cell 9 rfl; have y0 := hS.2.cell 0 rfl; have y1 := hS.2.cell 1 rfl; have y2 := hS.2.cell 2 rfl; have y3 := hS.2.cell 3 rfl; have y4 := hS.2.cell 4 rfl; have y5 := hS.2.cell 5 rfl; have y6 := hS.2.cell 6 rfl; have y7 := hS.2.cell 7 rfl; have y8 := hS.2.cell 8 rfl; have y9 := hS.2.cell 9 rfl
      go_simp
      try with_reducible rfl
     refine rdH 6 rfl (fun K hK => ?_)
     clear hS
     go_simp
     refine (cE.out).mono ?_
     rintro e w5 ⟨rfl, hb5⟩
     go_wp2_with fail
     refine hK.out _ _ (⟨(hb5.block _ qGV.lt).trans qGV, (hb5.block _ qWV.lt).trans qWV⟩) (fun hS => ?_)
     clear hK K
     try simp only [List.getElem_toArray, List.getElem_cons_succ, List.getElem_cons_zero, Act.put, List.setIfInBounds_toArray, List.set_cons_zero, List.set_cons_succ]
     have cR5 := Lib.hid (cR.out w5 hb5)
     have qG5 : Blk w5 pg _ _ := (hb5.block _ qGV.lt).trans qGV
     have qW5 : Blk w5 pw _ _ := (hb5.block _ qWV.lt).trans qWV
     clear cE cR
     refine tkH 7 ?_ rfl (fun w' hS => ?_) hS ?_
     rotate_left
     ·
      have z0 := hS.1.cell 0 rfl; have z1 := hS.1.cell 1 rfl; have z2 := hS.1.cell 2 rfl; have z3 := hS.1.cell 3 rfl; have z4 := hS.1.cell 4 rfl; have z5 := hS.1.cell 5 rfl; have z6 := hS.1.cell 6 rfl; have z7 := hS.1.cell 7 rfl; have z8 := hS.1.cell 8 rfl; have z9 := hS.1.cell 9 rfl
      go_simp
      try with_reducible rfl
     refine tkH 8 ?_ rfl (fun w' hS => ?_) hS ?_
     rotate_left
     ·
      have z0 := hS.1.cell 0 rfl; have z1 := hS.1.cell 1 rfl; have z2 := hS.1.cell 2 rfl; have z3 := hS.1.cell 3 rfl; have z4 := hS.1.cell 4 rfl; have z5 := hS.1.cell 5 rfl; have z6 := hS.1.cell 6 rfl; have z7 := hS.1.cell 7 rfl; have z8 := hS.1.cell 8 rfl; have z9 := hS.1.cell 9 rfl
      go_simp
      try with_reducible rfl
     refine tkH 9 ?_ rfl (fun w' hS => ?_) hS ?_
     rotate_left
     ·
      have z0 := hS.1.cell 0 rfl; have z1 := hS.1.cell 1 rfl; have z2 := hS.1.cell 2 rfl; have z3 := hS.1.cell 3 rfl; have z4 := hS.1.cell 4 rfl; have z5 := hS.1.cell 5 rfl; have z6 := hS.1.cell 6 rfl; have z7 := hS.1.cell 7 rfl; have z8 := hS.1.cell 8 rfl; have z9 := hS.1.cell 9 rfl
      go_simp
      try with_reducible rfl
     refine tkH 10 ?_ rfl (fun w' hS => ?_) hS ?_
     rotate_left
     ·
      have z0 := hS.1.cell 0 rfl; have z1 := hS.1.cell 1 rfl; have z2 := hS.1.cell 2 rfl; have z3 := hS.1.cell 3 rfl; have z4 := hS.1.cell 4 rfl; have z5 := hS.1.cell 5 rfl; have z6 := hS.1.cell 6 rfl; have z7 := hS.1.cell 7 rfl; have z8 := hS.1.cell 8 rfl; have z9 := hS.1.cell 9 rfl
      go_simp
      try with_reducible rfl
     refine tkH 11 ?_ rfl (fun w' hS => ?_) hS ?_
     rotate_left
     ·
      have z0 := hS.1.cell 0 rfl; have z1 := hS.1.cell 1 rfl; have z2 := hS.1.cell 2 rfl; have z3 := hS.1.cell 3 rfl; have z4 := hS.1.cell 4 rfl; have z5 := hS.1.cell 5 rfl; have z6 := hS.1.cell 6 rfl; have z7 := hS.1.cell 7 rfl; have z8 := hS.1.cell 8 rfl; have z9 := hS.1.cell 9 rfl
      go_simp
      try with_reducible rfl
     refine tkH 12 ?_ rfl (fun w' hS => ?_) hS ?_
     rotate_left
     ·
      have z0 := hS.1.cell 0 rfl; have z1 := hS.1.cell 1 rfl; have z2 := hS.1.cell 2 rfl; have z3 := hS.1.cell 3 rfl; have z4 := hS.1.cell 4 rfl; have z5 := hS.1.cell 5 rfl; have z6 := hS.1.cell 6 rfl; have z7 := hS.1.cell 7 rfl; have z8 := hS.1.cell 8 rfl; have z9 := hS.1.cell 9 rfl
      go_simp
      try with_reducible rfl
     refine rdH 13 rfl (fun K hK => ?_)
     clear hS
     go_simp
     refine (cR5.out).mono ?_
     rintro e w6' ⟨rfl, ho6⟩
     go_wp2_with fail
     refine hK.out _ _ (⟨(ho6.block _ qG5.lt (fun h => h.2.2 rfl)).trans qG5, (ho6.block _ qW5.lt (fun h => by have := h.1; have := hpwl.out; omega)).trans qW5⟩) (fun hS => ?_)
     clear hK K
     try simp only [List.getElem_toArray, List.getElem_cons_succ, List.getElem_cons_zero, Act.put, List.setIfInBounds_toArray, List.set_cons_zero, List.set_cons_succ]
     have hOn := Lib.hid (((hOs.mono (S' := fun b => l0 ≤ b ∧ b < l4 ∧ b ≠ pg) (fun b hb => ⟨hb.1, by have := hb.2.1; omega, hb.2.2⟩)).trans (Out.ofBelow (S := fun b => l0 ≤ b ∧ b < l4 ∧ b ≠ pg) (hdr.trans (hb5.mono hdr.size))) (fun _ h => h)).trans ho6 (fun b hb => ⟨by have := hb.1; omega, hb.2.1, hb.2.2⟩))
     clear ho6 cR5 hb5 hGw hOs hdr hBV qG5 qW5 qGV qWV
     refine tkH 14 ?_ rfl (fun w' hS => ?_) hS ?_
     rotate_left
     ·
      skip
      go_simp
      try with_reducible rfl
     refine tkH 15 ?_ rfl (fun w' hS => ?_) hS ?_
     rotate_left
     ·
      skip
      go_simp
      try with_reducible rfl
     refine wpAnyH_done (by kernel_rfl) ?_ _
     clear hS
     go_wp2
     go_roundw
     case rel => exact ⟨4, by omega, by go_num, hOn⟩
     case measure => simp [intOf]
    ·have hOs := hO.out.mono (S' := fun b => l0 ≤ b ∧ b < l4 ∧ b ≠ pg) (fun b hb => hb)
     have hGw := G4.out.keep (W' := V0) (fun b hS hlt => (hdr.block b (Nat.lt_of_lt_of_le hlt hOs.size)).trans (hOs.block b hlt (fun h => by have := h.2.1; have := hS.1; omega)))
     have cE := Lib.hid (eqTab_same 1048576 (by omega) V0 _ _ (someZ A B false false) hGw.read ((tw4.out).stay hBV) (by have := tl4.out.1; omega) (by have := tl4.out.2.1; omega))
     have cR := Lib.hid (fun V (h : Below V0.heap.size V0 V) => overRows_any 1048576 (by omega) V r4 (someZ A B false false).rows (fun b => l4 ≤ b ∧ b < l5 ∧ b ≠ pg) ((hGw.keep (fun b hS hlt => h.block b hlt)).rows) (fun b hb => by have := hb.2.1; have := h.size; have := hVs; omega) (by have := tl4.out.2.1; omega) (fun r hr => by have := tl4.out.2.2 r hr; omega))
     refine tkH 0 ?_ rfl (fun w' hS => ?_) hS ?_
     rotate_left
     ·
      have z0 := hS.1.cell 0 rfl; have z1 := hS.1.cell 1 rfl; have z2 := hS.1.cell 2 rfl; have z3 := hS.1.cell 3 rfl; have z4 := hS.1.cell 4 rfl; have z5 := hS.1.cell 5 rfl; have z6 := hS.1.cell 6 rfl; have z7 := hS.1.cell 7 rfl; have z8 := hS.1.cell 8 rfl; have z9 := hS.1.cell 9 rfl; have y0 := hS.2.cell 0 rfl; have y1 := hS.2.cell 1 rfl; have y2 := hS.2.cell 2 rfl; have y3 := hS.2.cell 3 rfl; have y4 := hS.2.cell 4 rfl; have y5 := hS.2.cell 5 rfl; have y6 := hS.2.cell 6 rfl; have y7 := hS.2.cell 7 rfl; have y8 := hS.2.cell 8 rfl; have y9 := hS.2.cell 9 rfl
      go_simp
      try with_reducible rfl
     refine tkH 1 ?_ rfl (fun w' hS => ?_) hS ?_
     rotate_left
     ·
      have z0 := hS.1.cell 0 rfl; have z1 := hS.1.cell 1 rfl; have z2 := hS.1.cell 2 rfl; have z3 := hS.1.cell 3 rfl; have z4 := hS.1.cell 4 rfl; have z5 := hS.1.cell 5 rfl; have z6 := hS.1.cell 6 rfl; have z7 := hS.1.cell 7 rfl; have z8 := hS.1.cell 8 rfl; have z9 := hS.1.cell 9 rfl; have y0 := hS.2.cell 0 rfl; have y1 := hS.2.cell 1 rfl; have y2 := hS.2.cell 2 rfl; have y3 := hS.2.cell 3 rfl; have y4 := hS.2.cell 4 rfl; have y5 := hS.2.cell 5 rfl; have y6 := hS.2.cell 6 rfl; have y7 := hS.2.cell 7 rfl; have y8 := hS.2.cell 8 rfl; have y9 := hS.2.cell 9 rfl
      go_simp
      try with_reducible rfl
     refine tkH 2 ?_ rfl (fun w' hS => ?_) hS ?_
     rotate_left
     ·
      have z0 := hS.1.cell 0 rfl; have z1 := hS.1.cell 1 rfl; have z2 := hS.1.cell 2 rfl; have z3 := hS.1.cell 3 rfl; have z4 := hS.1.cell 4 rfl; have z5 := hS.1.cell 5 rfl; have z6 := hS.1.cell 6 rfl; have z7 := hS.1.cell 7 rfl; have z8 := hS.1.cell 8 rfl; have z9 := hS.1.cell 9 rfl; have y0 := hS.2.cell 0 rfl; have y1 := hS.2.cell 1 rfl; have y2 := hS.2.cell 2 rfl; have y3 := hS.2.cell 3 rfl; have y4 := hS.2.cell 4 rfl; have y5 := hS.2.cell 5 rfl; have y6 := hS.2.cell 6 rfl; have y7 := hS.2.cell 7 rfl; have y8 := hS.2.cell 8 rfl; have y9 := hS.2.cell 9 rfl
      go_simp
      try with_reducible rfl
     refine tkH 3 ?_ rfl (fun w' hS => ?_) hS ?_
     rotate_left
     ·
      have z0 := hS.1.cell 0 rfl; have z1 := hS.1.cell 1 rfl; have z2 := hS.1.cell 2 rfl; have z3 := hS.1.cell 3 rfl; have z4 := hS.1.cell 4 rfl; have z5 := hS.1.cell 5 rfl; have z6 := hS.1.cell 6 rfl; have z7 := hS.1.cell 7 rfl; have z8 := hS.1.cell 8 rfl; have z9 := hS.1.cell 9 rfl; have y0 := hS.2.cell 0 rfl; have y1 := hS.2.cell 1 rfl; have y2 := hS.2.cell 2 rfl; have y3 := hS.2.cell 3 rfl; have y4 := hS.2.cell 4 rfl; have y5 := hS.2.cell 5 rfl; have y6 := hS.2.cell 6 rfl; have y7 := hS.2.cell 7 rfl; have y8 := hS.2.cell 8 rfl; have y9 := hS.2.cell 9 rfl
      go_simp
      try with_reducible rfl
     refine tkH 4 ?_ rfl (fun w' hS => ?_) hS ?_
     rotate_left
     ·
      have z0 := hS.1.cell 0 rfl; have z1 := hS.1.cell 1 rfl; have z2 := hS.1.cell 2 rfl; have z3 := hS.1.cell 3 rfl; have z4 := hS.1.cell 4 rfl; have z5 := hS.1.cell 5 rfl; have z6 := hS.1.cell 6 rfl; have z7 := hS.1.cell 7 rfl; have z8 := hS.1.cell 8 rfl; have z9 := hS.1.cell 9 rfl; have y0 := hS.2.cell 0 rfl; have y1 := hS.2.cell 1 rfl; have y2 := hS.2.cell 2 rfl; have y3 := hS.2.cell 3 rfl; have y4 := hS.2.cell 4 rfl; have y5 := hS.2.cell 5 rfl; have y6 := hS.2.cell 6 rfl; have y7 := hS.2.cell 7 rfl; have y8 := hS.2.cell 8 rfl; have y9 := hS.2.cell 9 rfl
      go_simp
      try with_reducible rfl
     refine tkH 5 ?_ rfl (fun w' hS => ?_) hS ?_
     rotate_left
     ·
      have z0 := hS.1.cell 0 rfl; have z1 := hS.1.cell 1 rfl; have z2 := hS.1.cell 2 rfl; have z3 := hS.1.cell 3 rfl; have z4 := hS.1.cell 4 rfl; have z5 := hS.1.cell 5 rfl; have z6 := hS.1.cell 6 rfl; have z7 := hS.1.cell 7 rfl; have z8 := hS.1.cell 8 rfl; have z9 := hS.1.cell 9 rfl; have y0 := hS.2.cell 0 rfl; have y1 := hS.2.cell 1 rfl; have y2 := hS.2.cell 2 rfl; have y3 := hS.2.cell 3 rfl; have y4 := hS.2.cell 4 rfl; have y5 := hS.2.cell 5 rfl; have y6 := hS.2.cell 6 rfl; have y7 := hS.2.cell 7 rfl; have y8 := hS.2.cell 8 rfl; have y9 := hS.2.cell 9 rfl
      go_simp
      try with_reducible rfl
     refine rdH 6 rfl (fun K hK => ?_)
     clear hS
     go_simp
     refine (cE.out).mono ?_
     rintro e w5 ⟨rfl, hb5⟩
     go_wp2_with fail
     refine hK.out _ _ (⟨(hb5.block _ qGV.lt).trans qGV, (hb5.block _ qWV.lt).trans qWV⟩) (fun hS => ?_)
     clear hK K
     try simp only [List.getElem_toArray, List.getElem_cons_succ, List.getElem_cons_zero, Act.put, List.setIfInBounds_toArray, List.set_cons_zero, List.set_cons_succ]
     have cR5 := Lib.hid (cR.out w5 hb5)
     have qG5 : Blk w5 pg _ _ := (hb5.block _ qGV.lt).trans qGV
     have qW5 : Blk w5 pw _ _ := (hb5.block _ qWV.lt).trans qWV
     clear cE cR
     refine tkH 7 ?_ rfl (fun w' hS => ?_) hS ?_
     rotate_left
     ·
      have z0 := hS.1.cell 0 rfl; have z1 := hS.1.cell 1 rfl; have z2 := hS.1.cell 2 rfl; have z3 := hS.1.cell 3 rfl; have z4 := hS.1.cell 4 rfl; have z5 := hS.1.cell 5 rfl; have z6 := hS.1.cell 6 rfl; have z7 := hS.1.cell 7 rfl; have z8 := hS.1.cell 8 rfl; have z9 := hS.1.cell 9 rfl
      go_simp
      try with_reducible rfl
     refine tkH 8 ?_ rfl (fun w' hS => ?_) hS ?_
     rotate_left
     ·
      have z0 := hS.1.cell 0 rfl; have z1 := hS.1.cell 1 rfl; have z2 := hS.1.cell 2 rfl; have z3 := hS.1.cell 3 rfl; have z4 := hS.1.cell 4 rfl; have z5 := hS.1.cell 5 rfl; have z6 := hS.1.cell 6 rfl; have z7 := hS.1.cell 7 rfl; have z8 := hS.1.cell 8 rfl; have z9 := hS.1.cell 9 rfl
      go_simp
      try with_reducible rfl
     refine tkH 9 ?_ rfl (fun w' hS => ?_) hS ?_
     rotate_left
     ·
      have z0 := hS.1.cell 0 rfl; have z1 := hS.1.cell 1 rfl; have z2 := hS.1.cell 2 rfl; have z3 := hS.1.cell 3 rfl; have z4 := hS.1.cell 4 rfl; have z5 := hS.1.cell 5 rfl; have z6 := hS.1.cell 6 rfl; have z7 := hS.1.cell 7 rfl; have z8 := hS.1.cell 8 rfl; have z9 := hS.1.cell 9 rfl
      go_simp
      try with_reducible rfl
     refine tkH 10 ?_ rfl (fun w' hS => ?_) hS ?_
     rotate_left
     ·
      have z0 := hS.1.cell 0 rfl; have z1 := hS.1.cell 1 rfl; have z2 := hS.1.cell 2 rfl; have z3 := hS.1.cell 3 rfl; have z4 := hS.1.cell 4 rfl; have z5 := hS.1.cell 5 rfl; have z6 := hS.1.cell 6 rfl; have z7 := hS.1.cell 7 rfl; have z8 := hS.1.cell 8 rfl; have z9 := hS.1.cell 9 rfl
      go_simp
      try with_reducible rfl
     refine tkH 11 ?_ rfl (fun w' hS => ?_) hS ?_
     rotate_left
     ·
      have z0 := hS.1.cell 0 rfl; have z1 := hS.1.cell 1 rfl; have z2 := hS.1.cell 2 rfl; have z3 := hS.1.cell 3 rfl; have z4 := hS.1.cell 4 rfl; have z5 := hS.1.cell 5 rfl; have z6 := hS.1.cell 6 rfl; have z7 := hS.1.cell 7 rfl; have z8 := hS.1.cell 8 rfl; have z9 := hS.1.cell 9 rfl
      go_simp
      try with_reducible rfl
     refine tkH 12 ?_ rfl (fun w' hS => ?_) hS ?_
     rotate_left
     ·
      have z0 := hS.1.cell 0 rfl; have z1 := hS.1.cell 1 rfl; have z2 := hS.1.cell 2 rfl; have z3 := hS.1.cell 3 rfl; have z4 := hS.1.cell 4 rfl; have z5 := hS.1.cell 5 rfl; have z6 := hS.1.cell 6 rfl; have z7 := hS.1.cell 7 rfl; have z8 := hS.1.cell 8 rfl; have z9 := hS.1.cell 9 rfl
      go_simp
      try with_reducible rfl
     refine rdH 13 rfl (fun K hK => ?_)
     clear hS
     go_simp
     refine (cR5.out).mono ?_
     rintro e w6' ⟨rfl, ho6⟩
     go_wp2_with fail
     refine hK.out _ _ (⟨(ho6.block _ qG5.lt (fun h => h.2.2 rfl)).trans qG5, (ho6.block _ qW5.lt (fun h => by have := h.1; have := hpwl.out; omega)).trans qW5⟩) (fun hS => ?_)
     clear hK K
     try simp only [List.getElem_toArray, List.getElem_cons_succ, List.getElem_cons_zero, Act.put, List.setIfInBounds_toArray, List.set_cons_zero, List.set_cons_succ]
     have hOn := Lib.hid (((hOs.mono (S' := fun b => l0 ≤ b ∧ b < l5 ∧ b ≠ pg) (fun b hb => ⟨hb.1, by have := hb.2.1; omega, hb.2.2⟩)).trans (Out.ofBelow (S := fun b => l0 ≤ b ∧ b < l5 ∧ b ≠ pg) (hdr.trans (hb5.mono hdr.size))) (fun _ h => h)).trans ho6 (fun b hb => ⟨by have := hb.1; omega, hb.2.1, hb.2.2⟩))
     clear ho6 cR5 hb5 hGw hOs hdr hBV qG5 qW5 qGV qWV
     refine tkH 14 ?_ rfl (fun w' hS => ?_) hS ?_
     rotate_left
     ·
      skip
      go_simp
      try with_reducible rfl
     refine tkH 15 ?_ rfl (fun w' hS => ?_) hS ?_
     rotate_left
     ·
      skip
      go_simp
      try with_reducible rfl
     refine wpAnyH_done (by kernel_rfl) ?_ _
     clear hS
     go_wp2
     go_roundw
     case rel => exact ⟨5, by omega, by go_num, hOn⟩
     case measure => simp [intOf]
   ·have hki : ¬ (k : Int) < 5 := by omega
    have hB69 := hb6xh.out.trans (hB9.mono hb6xh.out.size)
    have hTw := hT6.out.stay hB69
    have e0 := (stay_of_below hB69).cell (qa6.out.cell 0 rfl)
    have e1 := (stay_of_below hB69).cell (qa6.out.cell 1 rfl)
    have e2 := (stay_of_below hB69).cell (qb6.out.cell 0 rfl)
    have e3 := (stay_of_below hB69).cell (qb6.out.cell 1 rfl)
    have y0 := (stay_of_below hB69).cell hx0.out
    have y1 := (stay_of_below hB69).cell hx1.out
    have y2 := (stay_of_below hB69).cell hx2.out
    have y3 := (stay_of_below hB69).cell hx3.out
    have cE1 := Lib.hid (eqTab_same 1048576 (by omega) w9 _ _ A (tA6.out.stay hB69) hTw.tabA (by omega) (by omega))
    have cE2 := Lib.hid (fun V (h : Below w9.heap.size w9 V) => eqTab_same 1048576 (by omega) V _ _ B ((tB6.out.stay hB69).stay h) (hTw.stay h).tabB (by omega) (by omega))
    have hBf := Lib.hid (hbwxh.out.trans (hB9.mono hbwxh.out.size))
    clear hTw qG9 qW9 hpk hO hB9 hB69
    go_wp2_with fail
    refine cE1.out.mono ?_
    rintro e wE ⟨rfl, hbE⟩
    replace e2 := (stay_of_below hbE).cell e2
    replace e3 := (stay_of_below hbE).cell e3
    replace y2 := (stay_of_below hbE).cell y2
    replace y3 := (stay_of_below hbE).cell y3
    have cE3 := Lib.hid (cE2.out wE hbE)
    have hBE := Lib.hid (hBf.out.trans (hbE.mono hBf.out.size))
    clear cE1 cE2 e0 e1 y0 y1 hbE hBf
    go_wp2_with fail
    refine cE3.out.mono ?_
    rintro e wF ⟨rfl, hbF⟩
    have hBF := Lib.hid (hBE.out.trans (hbF.mono hBE.out.size))
    clear cE3 e2 e3 y2 y3 hbF hBE
    go_wp2_with fail
    refine (wakesJ_any _ (hEh.out _ hBF.out)).mono ?_
    rintro e wz ⟨rfl, hbz⟩
    have hbzz := Lib.hid (hBF.out.trans (hbz.mono hBF.out.size))
    clear hbz
    go_wp2
    go_ret
    exact ⟨rfl, hbzz.out⟩
end Go.Proofs.YtidplkfhodpdhaaGreatDoor.tab
