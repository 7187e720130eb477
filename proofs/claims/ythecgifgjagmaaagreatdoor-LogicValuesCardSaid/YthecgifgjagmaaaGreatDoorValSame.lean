/- Contract of Same: that it answers. -/
import Derived.Test.YthecgifgjagmaaaGreatDoorValCmp
namespace Go.Proofs.YthecgifgjagmaaaGreatDoor.val
open Go.ChangeShapes Go.WideShapes Go.ChangeAt Go.RowKit kit dec
set_option linter.unusedVariables false
set_option linter.unusedSimpArgs false
/-- A bool is handed back. -/
def BoolEnd (e : Ending) : Prop := ∃ c, e = .returned (.bool c)
theorem LA.form {w : World} {N : Nat} {s : Value} {l : List V} (h : LA w N s l) : ∃ ao cap, s = .slice ao l.length cap := by
  cases h with
  | mk ao cap l hl h => exact ⟨ao, cap, rfl⟩
/-- Same answers, where the first list is of less than so much. -/
def SmeU (N m : Nat) : Prop := ∀ (w : World) (k : Int) (b : Bool) (n : Int) (t x : ByteArray) (s : Value) (l : List V) (k2 : Int) (bb : Bool) (n2 : Int) (t2 x2 : ByteArray) (s2 : Value) (l2 : List V), SizeOf.sizeOf l < m → LA w N s l → LA w N s2 l2 →
  Calls Tryz.prog 47 #[agg6 k b n t x s, agg6 k2 bb n2 t2 x2 s2] w fun e w' => BoolEnd e ∧ Below w.heap.size w w'
set_option maxRecDepth 100000 in
set_option maxHeartbeats 1000000 in
theorem equalFunc_any (N m : Nat) (hN : N ≤ 9223372036854775807) (hs : SmeU N m) (w : World) (s s2 : Value) (l l2 : List V) (hm : SizeOf.sizeOf l ≤ m) (ha : LA w N s l) (ha2 : LA w N s2 l2) :
    Calls Tryz.prog 88 #[s, s2, .func (.func 47) #[] #[]] w fun e w' => BoolEnd e ∧ Below w.heap.size w w' := by
  cases ha with
  | mk ao cap l hl h =>
  cases ha2 with
  | mk ao2 cap2 l2 hl2 h2 =>
    replace h := Lib.hid h
    replace h2 := Lib.hid h2
    replace hs := Lib.hid hs
    by_cases hne : l.length = l2.length
    · obtain ⟨L, hL⟩ : ∃ L, l.length = L := ⟨_, rfl⟩
      have hL2 : l2.length = L := by omega
      rw [hL, hL2]
      have hLi : (L : Int) ≤ 9223372036854775807 := by omega
      go_enter Tryz.func88, Tryz.ntmps88
      go_wp2
      go_loopw [17] (fun v wr => ∃ k : Nat, k ≤ L ∧ v = .int .i64 k ∧ Hid (Below w.heap.size w wr)) (fun v _ => L - (intOf v).toNat)
      case atStart => exact ⟨0, by omega, rfl, Below.refl _ _⟩
      case round =>
        obtain ⟨k, hk, rfl, hb⟩ := hrel
        by_cases hlt : k < L
        · have hki : (k : Int) < (L : Int) := by omega
          have hel := (h.out k (by omega)).stay hb.out
          have hel2 := (h2.out k (by omega)).stay hb.out
          rw [Nat.mul_comm 6 k] at hel hel2
          have hmem : SizeOf.sizeOf (l[k]'(by omega)) < SizeOf.sizeOf l := List.sizeOf_lt_of_mem (List.getElem_mem _)
          generalize l[k]'(by omega) = v at hel hmem
          generalize l2[k]'(by omega) = v2 at hel2
          cases hel with
          | mk b off o k1 bo n t x l1 s hr hk1 hn ht hx hsl =>
          cases hel2 with
          | mk b2 off2 o2 k12 bo2 n2 t2 x2 l12 s2 hr2 hk12 hn2 ht2 hx2 hsl2 =>
            obtain ⟨aoE, capE, rfl⟩ := LA.form hsl
            obtain ⟨aoF, capF, rfl⟩ := LA.form hsl2
            have hm1 : SizeOf.sizeOf l1 < m := by simp at hmem; omega
            have x0 := hr.c0
            have x1 := hr.c1
            have x2c := hr.c2
            have x3 := hr.c3
            have x4 := hr.c4
            have x5 := hr.c5
            have y0 := hr2.c0
            have y1 := hr2.c1
            have y2 := hr2.c2
            have y3 := hr2.c3
            have y4 := hr2.c4
            have y5 := hr2.c5
            have hb1 : Below wr.heap.size wr (wr.alloc (.cells #[.int .i64 k1, .bool bo, .int .i64 n, .string t, .string x, .slice aoE l1.length capE] 26)) := (Below.refl _ _).alloc (Nat.le_refl _) _
            have hr2' := hr2.below hb1
            have y0' := hr2'.c0
            have y1' := hr2'.c1
            have y2' := hr2'.c2
            have y3' := hr2'.c3
            have y4' := hr2'.c4
            have y5' := hr2'.c5
            have hbb : Below wr.heap.size wr ((wr.alloc (.cells #[.int .i64 k1, .bool bo, .int .i64 n, .string t, .string x, .slice aoE l1.length capE] 26)).alloc (.cells #[.int .i64 k12, .bool bo2, .int .i64 n2, .string t2, .string x2, .slice aoF l12.length capF] 26)) := hb1.alloc hb1.size _
            have hcall := hs.out _ k1 bo n t x _ l1 k12 bo2 n2 t2 x2 _ l12 hm1 (hsl.stay hbb) (hsl2.stay hbb)
            unfold agg6 at hcall
            replace hcall := Lib.hid hcall
            clear hr hr2 hr2' hsl hsl2 hmem
            go_wp2_with fail
            refine hcall.out.mono ?_
            rintro e w2 ⟨⟨c, rfl⟩, hb2⟩
            have hb3 := Lib.hid (hb.out.trans ((hbb.trans (hb2.mono hbb.size)).mono hb.out.size))
            clear hb2 hcall hbb hb1
            cases c
            · go_wp2
              go_ret
              exact ⟨⟨_, rfl⟩, hb3.out⟩
            · go_wp2
              go_roundw
              case rel => exact ⟨k + 1, by omega, by go_num, hb3⟩
              case measure => simp [intOf]; omega
        · have hki : ¬ (k : Int) < (L : Int) := by omega
          go_wp2
          go_ret
          exact ⟨⟨_, rfl⟩, hb.out⟩
    · have hnei : ((l.length : Int) != (l2.length : Int)) = true := bne_iff_ne.2 (by omega)
      go_enter Tryz.func88, Tryz.ntmps88
      go_wp2
      go_ret
      exact ⟨⟨_, rfl⟩, Below.refl _ _⟩
set_option maxRecDepth 100000 in
set_option maxHeartbeats 1000000 in
theorem same_all (N : Nat) (hN : N ≤ 9223372036854775807) : ∀ m, SmeU N m := by
  intro m
  induction m with
  | zero => intro w k b n t x s l k2 bb n2 t2 x2 s2 l2 hm; omega
  | succ m ih =>
    intro w k b n t x s l k2 bb n2 t2 x2 s2 l2 hm ha ha2
    have h2 := B2.made w (c6 k b n t x s) (c6 k2 bb n2 t2 x2 s2)
    have hcall := equalFunc_any N m hN ih _ s s2 l l2 (by omega) (ha.stay h2.below) (ha2.stay h2.below)
    unfold c6 at h2 hcall
    unfold agg6
    have hbe := Lib.hid h2.below
    clear h2 ha ha2 ih
    replace hcall := Lib.hid hcall
    by_cases e1 : k = k2
    case neg =>
      have q1 : (k == k2) = false := beq_eq_false_iff_ne.2 e1
      go_enter Tryz.func47, Tryz.ntmps47
      go_wp2; go_ret; exact ⟨⟨_, rfl⟩, hbe.out⟩
    subst e1
    by_cases e2 : b = bb
    case neg =>
      have q2 : (b == bb) = false := beq_eq_false_iff_ne.2 e2
      go_enter Tryz.func47, Tryz.ntmps47
      go_wp2; go_ret; exact ⟨⟨_, rfl⟩, hbe.out⟩
    subst e2
    by_cases e3 : n = n2
    case neg =>
      have q3 : (n == n2) = false := beq_eq_false_iff_ne.2 e3
      go_enter Tryz.func47, Tryz.ntmps47
      go_wp2; go_ret; exact ⟨⟨_, rfl⟩, hbe.out⟩
    subst e3
    cases e4 : (t.toList == t2.toList)
    case false =>
      go_enter Tryz.func47, Tryz.ntmps47
      go_wp2; go_ret; exact ⟨⟨_, rfl⟩, hbe.out⟩
    cases e5 : (x.toList == x2.toList)
    case false =>
      go_enter Tryz.func47, Tryz.ntmps47
      go_wp2; go_ret; exact ⟨⟨_, rfl⟩, hbe.out⟩
    go_enter Tryz.func47, Tryz.ntmps47
    go_wp2_with (go_at_call 88; refine hcall.out.mono ?_; rintro e w2 ⟨⟨c, rfl⟩, hb2⟩)
    go_ret
    exact ⟨⟨_, rfl⟩, hbe.out.trans (hb2.mono hbe.out.size)⟩
theorem same_any (N : Nat) (hN : N ≤ 9223372036854775807) (w : World) (k : Int) (b : Bool) (n : Int) (t x : ByteArray) (s : Value) (l : List V) (k2 : Int) (bb : Bool) (n2 : Int) (t2 x2 : ByteArray) (s2 : Value) (l2 : List V) (ha : LA w N s l) (ha2 : LA w N s2 l2) :
    Calls Tryz.prog 47 #[agg6 k b n t x s, agg6 k2 bb n2 t2 x2 s2] w fun e w' => BoolEnd e ∧ Below w.heap.size w w' :=
  same_all N hN (SizeOf.sizeOf l + 1) w k b n t x s l k2 bb n2 t2 x2 s2 l2 (Nat.lt_succ_self _) ha ha2
end Go.Proofs.YthecgifgjagmaaaGreatDoor.val
