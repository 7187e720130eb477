/- Texts RtBoth, RtCell, RtJnd, RtRJ, one behind the other. -/
import Derived.Test.YtidplkfhodpdhaaGreatDoorHMemA
import Derived.Test.YtidplkfhodpdhaaGreatDoorTabTogA
import Derived.Test.YtidplkfhodpdhaaGreatDoorTabJmA
import Derived.Test.YtidplkfhodpdhaaGreatDoorTabPA
import Derived.Test.YtidplkfhodpdhaaGreatDoorTabEqA
import Derived.Test.YtidplkfhodpdhaaGreatDoorTabJnA
import Derived.Maps.AppendAt
namespace Go.Proofs.YtidplkfhodpdhaaGreatDoor.tab
open Go.ChangeShapes Go.WideShapes Go.ChangeAt Go.RowKit kit dec val
open hyp (RowA TextsA CellsStay stay_of_below textsV textsV_length own_row OW)
set_option linter.unusedVariables false
set_option linter.unusedSimpArgs false
def fitK (A B : List ByteArray) (r s : List V) (i : Nat) : Prop := ∀ x ∈ A.take i, x ∈ B → okC (cellF A r x) (cellF B s x) = true
def shrK (A B : List ByteArray) (r s : List V) (i : Nat) : Bool := (A.take i).any fun x => decide (x ∈ B) && (!isN (cellF A r x) && !isN (cellF B s x))
theorem fitK_step {A B : List ByteArray} {r s : List V} {i : Nat} (h : i < A.length) (h1 : fitK A B r s i) (h2 : A[i] ∈ B → okC (cellF A r A[i]) (cellF B s A[i]) = true) : fitK A B r s (i + 1) := by
 intro x hx hb
 rw [List.take_succ_eq_append_getElem h, List.mem_append, List.mem_singleton] at hx
 rcases hx with hx | rfl
 ·exact h1 x hx hb
 ·exact h2 hb
theorem fitK_end {A B : List ByteArray} {r s : List V} (h : fitK A B r s A.length) : compat A B r s = true := by
 rw [compat_iff]
 unfold fitK at h
 rw [List.take_length] at h
 exact h
theorem fitK_no {A B : List ByteArray} {r s : List V} {i : Nat} (h : i < A.length) (hb : A[i] ∈ B) (hc : okC (cellF A r A[i]) (cellF B s A[i]) = false) : compat A B r s = false := by
 apply Bool.eq_false_iff.2
 intro h2
 rw [(compat_iff A B r s).1 h2 A[i] (List.getElem_mem h) hb] at hc
 cases hc
theorem shrK_step {A B : List ByteArray} {r s : List V} {i : Nat} (h : i < A.length) : shrK A B r s (i + 1) = (shrK A B r s i || (decide (A[i] ∈ B) && (!isN (cellF A r A[i]) && !isN (cellF B s A[i])))) := by
 unfold shrK
 rw [List.take_succ_eq_append_getElem h, List.any_append]
 simp
theorem shrK_end (A B : List ByteArray) (r s : List V) : shrK A B r s A.length = shared A B r s := by
 unfold shrK shared
 rw [List.take_length, Bool.eq_iff_iff, List.any_eq_true, List.any_eq_true]
 constructor
 ·rintro ⟨x, hx, h⟩
  rw [Bool.and_eq_true, decide_eq_true_eq] at h
  exact ⟨x, h.1, by rw [Bool.and_eq_true, decide_eq_true_eq]; exact ⟨hx, h.2⟩⟩
 ·rintro ⟨x, hx, h⟩
  rw [Bool.and_eq_true, decide_eq_true_eq] at h
  exact ⟨x, h.1, by rw [Bool.and_eq_true, decide_eq_true_eq]; exact ⟨hx, h.2⟩⟩
theorem cell_get {A : List ByteArray} {r : List V} (hl : r.length = A.length) {x : ByteArray} {k : Nat} (hk : A.idxOf x = k) (hlt : k < r.length) : cellF A r x = r[k] := by
 unfold cellF
 rw [hk, List.getD_eq_getElem?_getD, List.getElem?_eq_getElem hlt]
 rfl
theorem isN_mk (k : Int) (b : Bool) (n : Int) (t x : ByteArray) (l : List V) : isN (.mk k b n t x l) = (k == 0) := by
 unfold isN kindV
 rw [Bool.eq_iff_iff, decide_eq_true_eq, beq_iff_eq]
set_option maxRecDepth 100000 in
set_option maxHeartbeats 4000000 in
theorem rFits_any (N : Nat) (hN : N ≤ 1048576) (w : World) (va vb ur us : Value) (A B : List ByteArray) (r s : List V) (hA : TextsA w w.heap.size va A) (hB : TextsA w w.heap.size vb B) (hAn : A.Nodup) (hr : LA w N ur r) (hs : LA w N us s) (hrl : r.length = A.length) (hsl : s.length = B.length) (la : A.length ≤ 100000) (lb : B.length ≤ 100000) :
 Calls Tryz.prog 13 #[va, ur, vb, us] w fun e w' => e = .returned (.tuple #[.bool (compat A B r s), .bool (compat A B r s && shared A B r s)]) ∧ Below w.heap.size w w' := by
 obtain ⟨aa, ca, rfl, hat⟩ := hA.form
 obtain ⟨ab, cb, rfl, hbt⟩ := hB.form
 obtain ⟨ar, cr, rfl⟩ := hr.form6
 obtain ⟨as', cs, rfl⟩ := hs.form6
 replace hat := Lib.hid hat
 replace hbt := Lib.hid hbt
 replace hr := Lib.hid hr
 replace hs := Lib.hid hs
 replace hrl := Lib.hid hrl
 replace hsl := Lib.hid hsl
 have hf0 := Lib.hid (show fitK A B r s 0 from fun x hx => by simp at hx)
 clear hA hB
 go_enter Tryz.func13, Tryz.ntmps13
 go_wp2
 go_loopw [10, 11] (fun v10 i wr => ∃ k : Nat, k ≤ A.length ∧ i = .int .i64 (k : Int) ∧ v10 = .bool (shrK A B r s k) ∧ Hid (fitK A B r s k) ∧ Hid (Below w.heap.size w wr)) (fun _ i _ => A.length - (intOf i).toNat)
 case atStart => exact ⟨0, Nat.zero_le _, rfl, rfl, hf0, Lib.hid (Below.refl _ _)⟩
 case round =>
  clear hf0
  obtain ⟨i, hi, rfl, rfl, hf, hb⟩ := hrel
  obtain ⟨w2, rfl⟩ : ∃ w2 : World, w2 = wr := ⟨_, rfl⟩
  obtain ⟨sh, hsh⟩ : ∃ sh, shrK A B r s i = sh := ⟨_, rfl⟩
  by_cases hlt : i < A.length
  ·have hki : (i : Int) < (A.length : Int) := by omega
   have hk1 := Lib.hid (show i + 1 ≤ A.length from hlt)
   have hir : i < r.length := by rw [hrl.out]; exact hlt
   have hiri : (i : Int) < (r.length : Int) := by omega
   obtain ⟨b, off, rfl, -, hca⟩ := hat.out i hlt
   replace hca := (stay_of_below hb.out).cell hca
   obtain ⟨b1, o1, k1, bo1, n1, t1, x1, l1, aoE, capE, rfl, he1, hr1, -, hl1⟩ := la_at hr.out i hir
   replace hr1 := hr1.below hb.out
   replace hl1 := hl1.stay hb.out
   have hcx : cellF A r (A[i]'hlt) = .mk k1 bo1 n1 t1 x1 l1 := by
    rw [cell_get hrl.out (List.Nodup.idxOf_getElem hAn i hlt) hir]
    exact he1
   have cI := Lib.hid (rindex_any w2 ab cb B (A[i]'hlt) (by omega) (fun j hj => by
    obtain ⟨b, off, h1, h2, h3⟩ := hbt.out j hj
    exact ⟨b, off, h1, Nat.lt_of_lt_of_le h2 hb.out.size, (stay_of_below hb.out).cell h3⟩))
   have hfs := Lib.hid (fun h2 => fitK_step (s := s) (B := B) (r := r) hlt hf.out h2)
   have hfn := Lib.hid (fun h1 h2 => fitK_no (s := s) (B := B) (r := r) hlt h1 h2)
   have hss := shrK_step (s := s) (B := B) (r := r) hlt
   rw [hcx] at hfs hss hfn
   rw [hsh] at hss ⊢
   have hss2 := Lib.hid hss
   replace hsh := Lib.hid hsh
   clear hss he1 hcx
   generalize (A[i]'hlt) = x at *
   by_cases hm : x ∈ B
   ·have hxi : idxI B x = ((B.idxOf x : Nat) : Int) := by unfold idxI; rw [if_pos hm]
    have hxl := List.idxOf_lt_length_of_mem hm
    obtain ⟨q, hq⟩ : ∃ q, B.idxOf x = q := ⟨_, rfl⟩
    rw [hq] at hxi hxl
    have hqs : q < s.length := by rw [hsl.out]; exact hxl
    have hqsi : (q : Int) < (s.length : Int) := by omega
    obtain ⟨b2, o2, k2, bo2, n2, t2, x2, l2, aoF, capF, rfl, he2, hr2, -, hl2⟩ := la_at hs.out q hqs
    replace hr2 := hr2.below hb.out
    replace hl2 := hl2.stay hb.out
    have hcy : cellF B s x = .mk k2 bo2 n2 t2 x2 l2 := by
     rw [cell_get hsl.out hq hqs]
     exact he2
    rw [hcy, decide_eq_true hm] at hss2
    rw [hcy] at hfs hfn
    rw [hxi] at cI
    have hq0 : ¬ (q : Int) < 0 := by omega
    replace hq := Lib.hid hq
    replace hxi := Lib.hid hxi
    clear he2 hcy
    by_cases hz1 : k1 = 0
    ·have hz1b : (k1 == 0) = true := by rw [hz1]; rfl
     have hfk := Lib.hid (hfs.out (fun _ => by unfold okC; rw [isN_mk, hz1b]; rfl))
     have hsk : shrK A B r s (i + 1) = sh := by rw [hss2.out, isN_mk, hz1b]; simp
     replace hsk := Lib.hid hsk
     obtain ⟨y0, y1, y2, y3, y4, y5⟩ := hr1.six
     subst hz1
     clear hfs hfn hss2 hr1 hr2 hl1 hl2 hz1b
     go_wp2_with fail
     refine cI.out.mono ?_
     rintro e w3 ⟨rfl, rfl⟩
     clear cI
     go_wp2
     go_roundw
     case rel => exact ⟨i + 1, hk1.out, by go_num, by rw [hsk.out], hfk, hb⟩
     case measure => have := hk1.out; simp [intOf]; omega
    ·have hz1b : (k1 == 0) = false := beq_eq_false_iff_ne.2 hz1
     by_cases hz2 : k2 = 0
     ·have hz2b : (k2 == 0) = true := by rw [hz2]; rfl
      have hfk := Lib.hid (hfs.out (fun _ => by unfold okC; rw [isN_mk, isN_mk, hz2b]; simp))
      have hsk : shrK A B r s (i + 1) = sh := by rw [hss2.out, isN_mk, isN_mk, hz2b]; simp
      replace hsk := Lib.hid hsk
      obtain ⟨y0, y1, y2, y3, y4, y5⟩ := hr1.six
      obtain ⟨z0, z1, z2, z3, z4, z5⟩ := hr2.six
      subst hz2
      clear hfs hfn hss2 hr1 hr2 hl1 hl2 hz2b
      go_wp2_with fail
      refine cI.out.mono ?_
      rintro e w3 ⟨rfl, rfl⟩
      clear cI
      go_wp2
      go_roundw
      case rel => exact ⟨i + 1, hk1.out, by go_num, by rw [hsk.out], hfk, hb⟩
      case measure => have := hk1.out; simp [intOf]; omega
     ·have hz2b : (k2 == 0) = false := beq_eq_false_iff_ne.2 hz2
      have hok : okC (.mk k1 bo1 n1 t1 x1 l1) (.mk k2 bo2 n2 t2 x2 l2) = sameP (.mk k1 bo1 n1 t1 x1 l1) (.mk k2 bo2 n2 t2 x2 l2) := by unfold okC; rw [isN_mk, isN_mk, hz1b, hz2b]; simp
      rw [hok] at hfs hfn
      have hsk : shrK A B r s (i + 1) = true := by rw [hss2.out, isN_mk, isN_mk, hz1b, hz2b]; simp
      replace hsk := Lib.hid hsk
      have hdr : Below w2.heap.size w2 w2.drew := below_drewN (Below.refl _ _) 1
      have cS := rsame_call N (by omega) w2.drew k1 bo1 n1 t1 x1 _ l1 k2 bo2 n2 t2 x2 _ l2 (hl1.stay hdr) (hl2.stay hdr)
      unfold agg6 at cS
      have hB3 := Lib.hid (hb.out.trans (hdr.mono hb.out.size))
      obtain ⟨y0, y1, y2, y3, y4, y5⟩ := hr1.six
      obtain ⟨z0, z1, z2, z3, z4, z5⟩ := hr2.six
      generalize sameP (.mk k1 bo1 n1 t1 x1 l1) (.mk k2 bo2 n2 t2 x2 l2) = sm at *
      replace cS := Lib.hid cS
      have hm2 := Lib.hid hm
      clear hss2 hr1 hr2 hl1 hl2 hok hm
      go_wp2_with fail
      refine cI.out.mono ?_
      rintro e w3 ⟨rfl, rfl⟩
      clear cI
      go_upto_region 7 with fail
      refine wp_region_held_drew (S := fun V => Below w3.heap.size w3 V) (by kernel_rfl) hdr (fun hS => ?_)
      generalize w3.drew = V0 at *
      refine tkH 0 ?_ rfl (fun w' hS => ?_) hS ?_
      rotate_left
      ·
       have p0 := (stay_of_below hS).cell y0; have p1 := (stay_of_below hS).cell y1; have p2 := (stay_of_below hS).cell y2; have p3 := (stay_of_below hS).cell y3; have p4 := (stay_of_below hS).cell y4; have p5 := (stay_of_below hS).cell y5; have q0 := (stay_of_below hS).cell z0; have q1 := (stay_of_below hS).cell z1; have q2 := (stay_of_below hS).cell z2; have q3 := (stay_of_below hS).cell z3; have q4 := (stay_of_below hS).cell z4; have q5 := (stay_of_below hS).cell z5
       go_simp
       try with_reducible rfl
      refine tkH 1 ?_ rfl (fun w' hS => ?_) hS ?_
      rotate_left
      ·
       have p0 := (stay_of_below hS).cell y0; have p1 := (stay_of_below hS).cell y1; have p2 := (stay_of_below hS).cell y2; have p3 := (stay_of_below hS).cell y3; have p4 := (stay_of_below hS).cell y4; have p5 := (stay_of_below hS).cell y5; have q0 := (stay_of_below hS).cell z0; have q1 := (stay_of_below hS).cell z1; have q2 := (stay_of_below hS).cell z2; have q3 := (stay_of_below hS).cell z3; have q4 := (stay_of_below hS).cell z4; have q5 := (stay_of_below hS).cell z5
       go_simp
       try with_reducible rfl
      refine tkH 2 ?_ rfl (fun w' hS => ?_) hS ?_
      rotate_left
      ·
       have p0 := (stay_of_below hS).cell y0; have p1 := (stay_of_below hS).cell y1; have p2 := (stay_of_below hS).cell y2; have p3 := (stay_of_below hS).cell y3; have p4 := (stay_of_below hS).cell y4; have p5 := (stay_of_below hS).cell y5; have q0 := (stay_of_below hS).cell z0; have q1 := (stay_of_below hS).cell z1; have q2 := (stay_of_below hS).cell z2; have q3 := (stay_of_below hS).cell z3; have q4 := (stay_of_below hS).cell z4; have q5 := (stay_of_below hS).cell z5
       go_simp
       try with_reducible rfl
      refine tkH 3 ?_ rfl (fun w' hS => ?_) hS ?_
      rotate_left
      ·
       have p0 := (stay_of_below hS).cell y0; have p1 := (stay_of_below hS).cell y1; have p2 := (stay_of_below hS).cell y2; have p3 := (stay_of_below hS).cell y3; have p4 := (stay_of_below hS).cell y4; have p5 := (stay_of_below hS).cell y5; have q0 := (stay_of_below hS).cell z0; have q1 := (stay_of_below hS).cell z1; have q2 := (stay_of_below hS).cell z2; have q3 := (stay_of_below hS).cell z3; have q4 := (stay_of_below hS).cell z4; have q5 := (stay_of_below hS).cell z5
       go_simp
       try with_reducible rfl
      refine tkH 4 ?_ rfl (fun w' hS => ?_) hS ?_
      rotate_left
      ·
       have p0 := (stay_of_below hS).cell y0; have p1 := (stay_of_below hS).cell y1; have p2 := (stay_of_below hS).cell y2; have p3 := (stay_of_below hS).cell y3; have p4 := (stay_of_below hS).cell y4; have p5 := (stay_of_below hS).cell y5; have q0 := (stay_of_below hS).cell z0; have q1 := (stay_of_below hS).cell z1; have q2 := (stay_of_below hS).cell z2; have q3 := (stay_of_below hS).cell z3; have q4 := (stay_of_below hS).cell z4; have q5 := (stay_of_below hS).cell z5
       go_simp
       try with_reducible rfl
      refine tkH 5 ?_ rfl (fun w' hS => ?_) hS ?_
      rotate_left
      ·
       have p0 := (stay_of_below hS).cell y0; have p1 := (stay_of_below hS).cell y1; have p2 := (stay_of_below hS).cell y2; have p3 := (stay_of_below hS).cell y3; have p4 := (stay_of_below hS).cell y4; have p5 := (stay_of_below hS).cell y5; have q0 := (stay_of_below hS).cell z0; have q1 := (stay_of_below hS).cell z1; have q2 := (stay_of_below hS).cell z2; have q3 := (stay_of_below hS).cell z3; have q4 := (stay_of_below hS).cell z4; have q5 := (stay_of_below hS).cell z5
       go_simp
       try with_reducible rfl
      refine tkH 6 ?_ rfl (fun w' hS => ?_) hS ?_
      rotate_left
      ·
       have p0 := (stay_of_below hS).cell y0; have p1 := (stay_of_below hS).cell y1; have p2 := (stay_of_below hS).cell y2; have p3 := (stay_of_below hS).cell y3; have p4 := (stay_of_below hS).cell y4; have p5 := (stay_of_below hS).cell y5; have q0 := (stay_of_below hS).cell z0; have q1 := (stay_of_below hS).cell z1; have q2 := (stay_of_below hS).cell z2; have q3 := (stay_of_below hS).cell z3; have q4 := (stay_of_below hS).cell z4; have q5 := (stay_of_below hS).cell z5
       go_simp
       try with_reducible rfl
      refine tkH 7 ?_ rfl (fun w' hS => ?_) hS ?_
      rotate_left
      ·
       have p0 := (stay_of_below hS).cell y0; have p1 := (stay_of_below hS).cell y1; have p2 := (stay_of_below hS).cell y2; have p3 := (stay_of_below hS).cell y3; have p4 := (stay_of_below hS).cell y4; have p5 := (stay_of_below hS).cell y5; have q0 := (stay_of_below hS).cell z0; have q1 := (stay_of_below hS).cell z1; have q2 := (stay_of_below hS).cell z2; have q3 := (stay_of_below hS).cell z3; have q4 := (stay_of_below hS).cell z4; have q5 := (stay_of_below hS).cell z5
       go_simp
       try with_reducible rfl
      refine rdH 8 rfl (fun K hK => ?_)
      clear hS
      go_simp
      refine (cS.out).mono ?_
      rintro e w5 ⟨rfl, hb5⟩
      go_wp2_with fail
      refine hK.out _ _ (hdr.trans (hb5.mono hdr.size)) (fun hS => ?_)
      clear hK K
      try simp only [List.getElem_toArray, List.getElem_cons_succ, List.getElem_cons_zero, Act.put, List.setIfInBounds_toArray, List.set_cons_zero, List.set_cons_succ]
      have hB5 := Lib.hid (hB3.out.trans (hb5.mono hB3.out.size))
      clear hb5 cS hB3 hdr hb
      refine tkH 9 ?_ rfl (fun w' hS => ?_) hS ?_
      rotate_left
      ·
       skip
       go_simp
       try with_reducible rfl
      refine wpAnyH_done (by kernel_rfl) ?_ _
      clear hS y0 y1 y2 y3 y4 y5 z0 z1 z2 z3 z4 z5 hca
      cases sm with
      | true =>
       have hfk := Lib.hid (hfs.out (fun _ => rfl))
       clear hfs hfn
       go_wp2
       go_roundw
       case rel => exact ⟨i + 1, hk1.out, by go_num, by rw [hsk.out], hfk, hB5⟩
       case measure => have := hk1.out; simp [intOf]; omega
      | false =>
       have hcn := Lib.hid (hfn.out hm2.out rfl)
       clear hfs hfn
       go_wp2
       go_ret2
       exact ⟨by rw [hcn.out]; rfl, hB5.out⟩
   ·have hxi : idxI B x = -1 := by unfold idxI; rw [if_neg hm]
    rw [hxi] at cI
    have hfk := Lib.hid (hfs.out (fun h => absurd h hm))
    have hsk : shrK A B r s (i + 1) = sh := by rw [hss2.out, decide_eq_false hm]; simp
    replace hsk := Lib.hid hsk
    replace hxi := Lib.hid hxi
    clear hfs hfn hss2 hr1 hl1 hm
    go_wp2_with fail
    refine cI.out.mono ?_
    rintro e w3 ⟨rfl, rfl⟩
    clear cI
    go_wp2
    go_roundw
    case rel => exact ⟨i + 1, hk1.out, by go_num, by rw [hsk.out], hfk, hb⟩
    case measure => have := hk1.out; simp [intOf]; omega
  ·have hki : ¬ (i : Int) < (A.length : Int) := by omega
   obtain rfl : i = A.length := by omega
   have hc := Lib.hid (fitK_end hf.out)
   have hs2 := Lib.hid (shrK_end A B r s)
   replace hsh := Lib.hid hsh
   go_wp2
   go_ret2
   exact ⟨by rw [hc.out, hs2.out]; rfl, hb.out⟩
end Go.Proofs.YtidplkfhodpdhaaGreatDoor.tab
namespace Go.Proofs.YtidplkfhodpdhaaGreatDoor.tab
open Go.ChangeShapes Go.WideShapes Go.ChangeAt Go.RowKit kit dec val
open hyp (RowA TextsA CellsStay stay_of_below textsV textsV_length own_row OW)
set_option linter.unusedVariables false
set_option linter.unusedSimpArgs false
theorem la_none (w : World) (N : Nat) : LA w N (.slice none 0 0) [] := .mk none 0 [] (Nat.zero_le _) (fun j hj => by simp at hj)
end Go.Proofs.YtidplkfhodpdhaaGreatDoor.tab
namespace Go.Proofs.YtidplkfhodpdhaaGreatDoor.tab
open Go.ChangeShapes Go.WideShapes Go.ChangeAt Go.RowKit kit dec val
open hyp (RowA TextsA CellsStay stay_of_below textsV textsV_length own_row OW)
set_option linter.unusedVariables false
set_option linter.unusedSimpArgs false
structure Rob (w0 w w' : World) (N : Nat) (v : Value) (l : List V) : Prop where
 below : Below w.heap.size w w'
 ex : ∃ ps : List (V × Value), l = ps.map (·.1) ∧ ps.length ≤ N ∧ w'.ownsRow w.heap.size 52 6 v ps.length (rowL ps) ∧ ∀ p ∈ ps, okV N p.1 ∧ LA w0 N p.2 (kids p.1)
theorem Rob.form {w0 w w' : World} {N : Nat} {v : Value} {l : List V} (h : Rob w0 w w' N v l) : ∃ a c, v = .slice a l.length c := by
 obtain ⟨ps, e, _, own, _⟩ := h.ex
 subst e
 obtain ⟨a, c, e⟩ := own_form4x own
 exact ⟨a, c, by rw [e, List.length_map]⟩
theorem Rob.la {w0 w w' W : World} {N : Nat} {v : Value} {l : List V} (h : Rob w0 w w' N v l) (hb : Below w0.heap.size w0 W) (hg : ∀ b, w.heap.size ≤ b → b < w'.heap.size → W.heap[b]? = w'.heap[b]?) : LA W N v l := by
 obtain ⟨ps, e, hN, own, hp⟩ := h.ex
 subst e
 have own2 := val.own_stay own fun g hgk => hg g (own.lt g hgk).1 (own.lt g hgk).2
 rcases own2.2 with ⟨rfl, hn⟩ | ⟨g, cap, cur, rfl, _⟩
 ·obtain rfl : ps = [] := List.eq_nil_of_length_eq_zero hn
  exact la_none _ _
 ·have own0 : W.ownsRow 0 52 6 (.slice (some ⟨g, 0, none⟩) ps.length cap) ps.length (rowL ps) := own_low4 own2 (Nat.zero_le _)
  have := LA.mk (w := W) (N := N) (some ⟨g, 0, none⟩) cap (ps.map (·.1)) (by simpa using hN) (fun j hj => by
   have hj' : j < ps.length := by simpa using hj
   rw [List.getElem_map]
   obtain ⟨hok, hla⟩ := hp ps[j] (List.getElem_mem _)
   rcases he : ps[j].1 with ⟨k, bo, m, t, x, l⟩
   rw [he] at hok hla
   exact .mk g 0 (6 * j) k bo m t x l ps[j].2 (by rw [Nat.zero_add]; exact own_six own0 j hj' he) hok.1 hok.2.1 hok.2.2.1 hok.2.2.2 (hla.stay hb))
  simpa using this
end Go.Proofs.YtidplkfhodpdhaaGreatDoor.tab
namespace Go.Proofs.YtidplkfhodpdhaaGreatDoor.tab
open Go.ChangeShapes Go.WideShapes Go.ChangeAt Go.RowKit kit dec val
open hyp (RowA TextsA CellsStay stay_of_below textsV textsV_length own_row OW)
set_option linter.unusedVariables false
set_option linter.unusedSimpArgs false
def RobR (w wr : World) (N : Nat) (F : Nat → Prop) (v : Value) (l : List V) : Prop := ∀ W, Below w.heap.size w W → wr.heap.size ≤ W.heap.size → (∀ b, F b → W.heap[b]? = wr.heap[b]?) → LA W N v l
theorem RobR.made {w w1 wr : World} {N : Nat} {v : Value} {l : List V} (h : Rob w w1 wr N v l) (w2 : World) (F : Nat → Prop) (hF : ∀ b, w1.heap.size ≤ b → b < wr.heap.size → F b) (hk2 : ∀ b, b < wr.heap.size → w2.heap[b]? = wr.heap[b]?) : RobR w w2 N F v l :=
 fun W hW hs hk => h.la hW (fun b h1 h2 => (hk b (hF b h1 h2)).trans (hk2 b h2))
theorem RobR.move {w wr w' : World} {N : Nat} {F F' : Nat → Prop} {v : Value} {l : List V} (h : RobR w wr N F v l) (hs : wr.heap.size ≤ w'.heap.size) (hF : ∀ b, F b → F' b) (hk : ∀ b, F b → w'.heap[b]? = wr.heap[b]?) : RobR w w' N F' v l :=
 fun W hW hsW hkW => h W hW (Nat.le_trans hs hsW) fun b hb => (hkW b (hF b hb)).trans (hk b hb)
structure RJ (w wr : World) (X : Nat → Prop) (N : Nat) (v : Value) (rs : List (List V)) : Prop where
 below : Below w.heap.size w wr
 ex : ∃ (vs : List Value) (F : Nat → Prop), vs.length = rs.length ∧ wr.ownsRow w.heap.size 37 1 v vs.length vs ∧ (∀ b, F b → w.heap.size ≤ b ∧ b < wr.heap.size ∧ v.ownBlock ≠ some b ∧ ¬ X b) ∧ (∀ g, v.ownBlock = some g → ¬ X g) ∧ ∀ j (hj : j < vs.length) (hj' : j < rs.length), RobR w wr N F vs[j] rs[j]
theorem RJ.nil {w wr : World} {X : Nat → Prop} {N : Nat} (hb : Below w.heap.size w wr) : RJ w wr X N (.slice none 0 0) [] :=
 ⟨hb, [], fun _ => False, rfl, World.ownsRow_nil _ _ _ _, fun _ h => h.elim, fun g h => (by cases h), fun j hj => by simp at hj⟩
theorem RJ.form {w wr : World} {X : Nat → Prop} {N : Nat} {v : Value} {rs : List (List V)} (h : RJ w wr X N v rs) : ∃ a c, v = .slice a rs.length c := by
 obtain ⟨vs, F, h1, own, -⟩ := h.ex
 obtain ⟨a, c, e⟩ := own_form4x own
 exact ⟨a, c, by rw [e, h1]⟩
theorem RJ.read {w wr : World} {X : Nat → Prop} {N : Nat} {v : Value} {rs : List (List V)} (h : RJ w wr X N v rs) : RowsA wr N v rs := by
 obtain ⟨vs, F, h1, own, hF, hX, hr⟩ := h.ex
 exact ⟨vs, h1, own_row own, fun j hj hj' => hr j hj hj' wr h.below (Nat.le_refl _) fun _ _ => rfl⟩
theorem RJ.keep {w wr W : World} {X : Nat → Prop} {N : Nat} {v : Value} {rs : List (List V)} (h : RJ w wr X N v rs) (hb : Below w.heap.size w W) (hs : wr.heap.size ≤ W.heap.size) (hk : ∀ b, b < wr.heap.size → ¬ X b → W.heap[b]? = wr.heap[b]?) : RJ w W X N v rs := by
 obtain ⟨vs, F, h1, own, hF, hX, hr⟩ := h.ex
 refine ⟨hb, vs, F, h1, val.own_stay own fun g hg => hk g (own.lt g hg).2 (hX g hg), fun b hb => ⟨(hF b hb).1, by have := (hF b hb).2.1; omega, (hF b hb).2.2⟩, hX, fun j hj hj' => ?_⟩
 exact (hr j hj hj').move hs (fun _ h => h) fun b hb => hk b (hF b hb).2.1 (hF b hb).2.2.2
theorem RJ.stay {w wr W : World} {X : Nat → Prop} {N : Nat} {v : Value} {rs : List (List V)} (h : RJ w wr X N v rs) (hb : Below wr.heap.size wr W) : RJ w W X N v rs :=
 h.keep (h.below.trans (hb.mono h.below.size)) hb.size fun b hlt _ => hb.block b hlt
theorem RJ.cell {w wr : World} {X : Nat → Prop} {N : Nat} {v : Value} {rs : List (List V)} (h : RJ w wr X N v rs) (b : Nat) (hX : X b) (hb : w.heap.size ≤ b) (i : Nat) (u : Value) : RJ w (wr.setCell ⟨b, i, none⟩ u) X N v rs :=
 h.keep (h.below.setCell (p := ⟨b, i, none⟩) hb u) (by simp [World.setCell]) fun k _ hne => Below.heap_setCell _ _ _ k (fun e => hne (by rw [show k = b from e]; exact hX))
end Go.Proofs.YtidplkfhodpdhaaGreatDoor.tab
