/- Contracts of Order and of what it hands to the library. -/
import Derived.Test.YthecgifgjagmaaaGreatDoorVCmp
import Derived.Test.YthecgifgjagmaaaGreatDoorVNum
import Derived.Test.YthecgifgjagmaaaGreatDoorVKit
import Derived.Test.YthecgifgjagmaaaGreatDoorValTabs
namespace Go.Proofs.YthecgifgjagmaaaGreatDoor.val
open Go.ChangeShapes Go.WideShapes Go.ChangeAt Go.RowKit kit dec
set_option linter.unusedVariables false
set_option linter.unusedSimpArgs false
/-- Order is told, where the first list is of less than so much. -/
def OrdX (N m : Nat) (lang : Int) : Prop := ∀ (w : World) (hE : Env w) (k : Int) (b : Bool) (n : Int) (hn : In64 n) (t x : ByteArray) (s : Value) (l : List V) (k2 : Int) (bb : Bool) (n2 : Int) (hn2 : In64 n2) (t2 x2 : ByteArray) (s2 : Value) (l2 : List V), SizeOf.sizeOf l < m → LA w N s l → LA w N s2 l2 →
  Calls Tryz.prog 28 #[.int .i64 lang, agg6 k b n t x s, agg6 k2 bb n2 t2 x2 s2] w fun e w' => e = .returned (.int .i64 (ordV (decide (lang = 1)) (.mk k b n t x l) (.mk k2 bb n2 t2 x2 l2))) ∧ Below w.heap.size w w'
set_option maxRecDepth 100000 in
set_option maxHeartbeats 1000000 in
theorem oclosure_call (N m : Nat) (lang : Int) (hs : OrdX N m lang) (w : World) (hE : Env w) (B : Nat) (hB : w.cell? ⟨B, 0, none⟩ = some (.int .i64 lang)) (k : Int) (b : Bool) (n : Int) (hn : In64 n) (t x : ByteArray) (s : Value) (l : List V) (k2 : Int) (bb : Bool) (n2 : Int) (hn2 : In64 n2) (t2 x2 : ByteArray) (s2 : Value) (l2 : List V) (hm : SizeOf.sizeOf l < m) (ha : LA w N s l) (ha2 : LA w N s2 l2) :
    Calls Tryz.prog 62 #[agg6 k b n t x s, agg6 k2 bb n2 t2 x2 s2, .pointer (some ⟨B, 0, none⟩)] w fun e w' => e = .returned (.int .i64 (ordV (decide (lang = 1)) (.mk k b n t x l) (.mk k2 bb n2 t2 x2 l2))) ∧ Below w.heap.size w w' := by
  have h2 := B2.made w (c6 k b n t x s) (c6 k2 bb n2 t2 x2 s2)
  have hBl : B < w.heap.size := by
    obtain ⟨ob, ho, _⟩ := cells_of_cell hB
    exact (Array.getElem?_eq_some_iff.1 ho).1
  have cB := (h2.below.cell (p := ⟨B, 0, none⟩) hBl).trans hB
  have hcall := hs _ (hE.below h2.below) k b n hn t x s l k2 bb n2 hn2 t2 x2 s2 l2 hm (ha.stay h2.below) (ha2.stay h2.below)
  have hbe := Lib.hid h2.below
  unfold c6 at h2 hcall cB
  unfold agg6 at hcall ⊢
  generalize ordV (decide (lang = 1)) (.mk k b n t x l) (.mk k2 bb n2 t2 x2 l2) = r at *
  replace hcall := Lib.hid hcall
  replace hbe := hbe.out
  unfold c6 at hbe
  replace hbe := Lib.hid hbe
  clear h2 ha ha2 hs hB hE
  go_enter Tryz.func62, Tryz.ntmps62
  go_wp2_with fail
  refine hcall.out.mono ?_
  rintro e w2 ⟨rfl, hb2⟩
  go_wp2
  go_ret
  exact ⟨rfl, hbe.out.trans (hb2.mono hbe.out.size)⟩
theorem ordL_step (s : Bool) (l m : List V) (k : Nat) (h1 : k < l.length) (h2 : k < m.length) : ordL s (l.drop k) (m.drop k) = orI (ordV s l[k] m[k]) (ordL s (l.drop (k + 1)) (m.drop (k + 1))) := by
  rw [List.drop_eq_getElem_cons h1, List.drop_eq_getElem_cons h2, ordL]
theorem ordL_more (s : Bool) (l m : List V) (k : Nat) (h1 : k < l.length) (h2 : m.length ≤ k) : ordL s (l.drop k) (m.drop k) = 1 := by
  rw [List.drop_eq_getElem_cons h1, List.drop_eq_nil_of_le h2, ordL]
theorem ordL_less (s : Bool) (l m : List V) (k : Nat) (h1 : l.length ≤ k) (h2 : k < m.length) : ordL s (l.drop k) (m.drop k) = -1 := by
  rw [List.drop_eq_getElem_cons h2, List.drop_eq_nil_of_le h1, ordL]
theorem ordL_done (s : Bool) (l m : List V) (k : Nat) (h1 : l.length ≤ k) (h2 : m.length ≤ k) : ordL s (l.drop k) (m.drop k) = 0 := by
  rw [List.drop_eq_nil_of_le h1, List.drop_eq_nil_of_le h2, ordL]
set_option maxRecDepth 100000 in
set_option maxHeartbeats 2000000 in
theorem compareFunc_call (N m : Nat) (hN : N ≤ 9223372036854775807) (lang : Int) (hs : OrdX N m lang) (w : World) (hE : Env w) (B : Nat) (hB : w.cell? ⟨B, 0, none⟩ = some (.int .i64 lang)) (s s2 : Value) (l l2 : List V) (hm : SizeOf.sizeOf l ≤ m) (ha : LA w N s l) (ha2 : LA w N s2 l2) :
    Calls Tryz.prog 61 #[s, s2, .func (.func 62) #[] #[.pointer (some ⟨B, 0, none⟩)]] w fun e w' => e = .returned (.int .i64 (ordL (decide (lang = 1)) l l2)) ∧ Below w.heap.size w w' := by
  have hBl : B < w.heap.size := by
    obtain ⟨ob, ho, _⟩ := cells_of_cell hB
    exact (Array.getElem?_eq_some_iff.1 ho).1
  cases ha with
  | mk ao cap l hl h =>
  cases ha2 with
  | mk ao2 cap2 l2 hl2 h2 =>
    replace h := Lib.hid h
    replace h2 := Lib.hid h2
    replace hs := Lib.hid hs
    replace hB := Lib.hid hB
    replace hE := Lib.hid hE
    have hLi : (l.length : Int) ≤ 9223372036854775807 := by omega
    have hLi2 : (l2.length : Int) ≤ 9223372036854775807 := by omega
    go_enter Tryz.func61, Tryz.ntmps61
    go_wp2
    go_loopw [13] (fun v wr => ∃ k : Nat, k ≤ l.length ∧ v = .int .i64 k ∧ Hid (Below w.heap.size w wr) ∧ Hid (ordL (decide (lang = 1)) l l2 = ordL (decide (lang = 1)) (l.drop k) (l2.drop k))) (fun v _ => l.length - (intOf v).toNat)
    case atStart => exact ⟨0, by omega, rfl, Below.refl _ _, by rw [List.drop_zero, List.drop_zero]; exact Lib.hid rfl⟩
    case round =>
      obtain ⟨k, hk, rfl, hb, hpre⟩ := hrel
      by_cases hlt : k < l.length
      · have hki : (k : Int) < (l.length : Int) := by omega
        have hel := (h.out k (by omega)).stay hb.out
        rw [Nat.mul_comm 6 k] at hel
        by_cases hlt2 : k < l2.length
        · have hki2 : ¬ (l2.length : Int) ≤ (k : Int) := by omega
          have hki3 : (k : Int) < (l2.length : Int) := by omega
          have hel2 := (h2.out k (by omega)).stay hb.out
          rw [Nat.mul_comm 6 k] at hel2
          have hmem : SizeOf.sizeOf (l[k]'(by omega)) < SizeOf.sizeOf l := List.sizeOf_lt_of_mem (List.getElem_mem _)
          have hst := hpre.out.trans (ordL_step _ l l2 k hlt hlt2)
          generalize l[k]'(by omega) = v at hel hmem hst
          generalize l2[k]'(by omega) = v2 at hel2 hst
          cases hel with
          | mk b off o k1 bo n t x l1 s hr hk1 hn ht hx hsl =>
          cases hel2 with
          | mk b2 off2 o2 k12 bo2 n2 t2 x2 l12 s2 hr2 hk12 hn2 ht2 hx2 hsl2 =>
            obtain ⟨aoE, capE, rfl⟩ := LA.form6 hsl
            obtain ⟨aoF, capF, rfl⟩ := LA.form6 hsl2
            have hm1 : SizeOf.sizeOf l1 < m := by simp at hmem; omega
            obtain ⟨x0, x1, x2c, x3, x4, x5⟩ := hr.six
            have hb1 : Below wr.heap.size wr (wr.alloc (.cells #[.int .i64 k1, .bool bo, .int .i64 n, .string t, .string x, .slice aoE l1.length capE] 26)) := (Below.refl _ _).alloc (Nat.le_refl _) _
            have hr2' := hr2.below hb1
            obtain ⟨y0, y1, y2, y3, y4, y5⟩ := hr2.six
            obtain ⟨y0', y1', y2', y3', y4', y5'⟩ := hr2'.six
            have hbb : Below wr.heap.size wr ((wr.alloc (.cells #[.int .i64 k1, .bool bo, .int .i64 n, .string t, .string x, .slice aoE l1.length capE] 26)).alloc (.cells #[.int .i64 k12, .bool bo2, .int .i64 n2, .string t2, .string x2, .slice aoF l12.length capF] 26)) := hb1.alloc hb1.size _
            have hB2 := ((hb.out.trans (hbb.mono hb.out.size)).cell (p := ⟨B, 0, none⟩) hBl).trans hB.out
            have hcall := oclosure_call N m lang hs.out _ (hE.out.below (hb.out.trans (hbb.mono hb.out.size))) B hB2 k1 bo n hn t x _ l1 k12 bo2 n2 hn2 t2 x2 _ l12 hm1 (hsl.stay hbb) (hsl2.stay hbb)
            unfold agg6 at hcall
            generalize ordV (decide (lang = 1)) (.mk k1 bo n t x l1) (.mk k12 bo2 n2 t2 x2 l12) = c at hcall hst
            replace hcall := Lib.hid hcall
            replace hst := Lib.hid hst
            clear hr hr2 hr2' hsl hsl2 hmem hB2 hpre
            go_wp2_with fail
            refine hcall.out.mono ?_
            rintro e w2 ⟨rfl, hb2⟩
            have hb3 := Lib.hid (hb.out.trans ((hbb.trans (hb2.mono hbb.size)).mono hb.out.size))
            clear hb2 hcall hbb hb1 hb
            by_cases hc : c = 0
            · subst hc
              go_wp2
              go_roundw
              case rel => exact ⟨k + 1, by omega, by go_num, hb3, by have := hst.out; unfold orI at this; rw [if_pos rfl] at this; exact Lib.hid this⟩
              case measure => simp [intOf]; omega
            · have hcb : (c != 0) = true := bne_iff_ne.2 hc
              have hst2 : ordL (decide (lang = 1)) l l2 = c := by have := hst.out; unfold orI at this; rw [if_neg hc] at this; exact this
              replace hst2 := Lib.hid hst2
              clear hst hc
              go_wp2
              go_ret
              exact ⟨ret_int hst2.out.symm, hb3.out⟩
        · have hki2 : (l2.length : Int) ≤ (k : Int) := by omega
          have hst := Lib.hid (hpre.out.trans (ordL_more _ l l2 k hlt (by omega)))
          generalize l[k]'(by omega) = v at hel
          cases hel with
          | mk b off o k1 bo n t x l1 s hr hk1 hn ht hx hsl =>
            obtain ⟨aoE, capE, rfl⟩ := LA.form6 hsl
            obtain ⟨x0, x1, x2c, x3, x4, x5⟩ := hr.six
            have hb1 : Below wr.heap.size wr (wr.alloc (.cells #[.int .i64 k1, .bool bo, .int .i64 n, .string t, .string x, .slice aoE l1.length capE] 26)) := (Below.refl _ _).alloc (Nat.le_refl _) _
            have hb3 := Lib.hid (hb.out.trans (hb1.mono hb.out.size))
            clear hb1 hr hsl hpre
            go_wp2
            go_ret
            exact ⟨ret_int hst.out.symm, hb3.out⟩
      · have hki : ¬ (k : Int) < (l.length : Int) := by omega
        obtain rfl : k = l.length := by omega
        by_cases hlt2 : l.length < l2.length
        · have hst := Lib.hid (hpre.out.trans (ordL_less _ l l2 _ (Nat.le_refl _) hlt2))
          have hki2 : (l.length : Int) < (l2.length : Int) := by omega
          clear hpre
          go_wp2
          go_ret
          exact ⟨ret_int hst.out.symm, hb.out⟩
        · have hst := Lib.hid (hpre.out.trans (ordL_done _ l l2 _ (Nat.le_refl _) (by omega)))
          have hki2 : ¬ (l.length : Int) < (l2.length : Int) := by omega
          clear hpre
          go_wp2
          go_ret
          exact ⟨ret_int hst.out.symm, hb.out⟩
end Go.Proofs.YthecgifgjagmaaaGreatDoor.val
