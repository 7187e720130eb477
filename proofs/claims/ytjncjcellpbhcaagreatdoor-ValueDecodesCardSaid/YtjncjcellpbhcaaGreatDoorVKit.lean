/- Contracts of diptychkit.Size, diptychlaw2.deep, light. -/
import Derived.Test.YtjncjcellpbhcaaGreatDoorVPlain
import Derived.Test.YtjncjcellpbhcaaGreatDoorValCmp
import Derived.IntWalk
namespace Go.Proofs.YtjncjcellpbhcaaGreatDoor.val
open Go.ChangeShapes Go.WideShapes Go.ChangeAt Go.RowKit kit dec
set_option linter.unusedVariables false
set_option linter.unusedSimpArgs false
theorem Row6.six {w : World} {b o : Nat} {k : Int} {bo : Bool} {n : Int} {t x : ByteArray} {s : Value} (h : Row6 w b o k bo n t x s) :
    w.cell? ⟨b, o, none⟩ = some (.int .i64 k) ∧ w.cell? ⟨b, o + 1, none⟩ = some (.bool bo) ∧ w.cell? ⟨b, o + 2, none⟩ = some (.int .i64 n) ∧ w.cell? ⟨b, o + 3, none⟩ = some (.string t) ∧ w.cell? ⟨b, o + 4, none⟩ = some (.string x) ∧ w.cell? ⟨b, o + 5, none⟩ = some s :=
  ⟨h.c0, h.c1, h.c2, h.c3, h.c4, h.c5⟩
theorem sizeL_take (l : List V) (k : Nat) (h : k < l.length) : sizeL (l.take (k + 1)) = sizeL (l.take k) + sizeV l[k] := by
  induction l generalizing k with
  | nil => simp at h
  | cons v r ih =>
    cases k with
    | zero => simp [sizeL]
    | succ k =>
      rw [List.take_succ_cons, List.take_succ_cons, sizeL, sizeL, ih k (by simpa using h)]
      simp
      omega
theorem sizeL_take_le (l : List V) (k : Nat) : sizeL (l.take k) ≤ sizeL l := by
  induction l generalizing k with
  | nil => simp [sizeL]
  | cons v r ih =>
    cases k with
    | zero => simp [sizeL]
    | succ k => rw [List.take_succ_cons, sizeL, sizeL]; have := ih k; omega
theorem LA.form6 {w : World} {N : Nat} {s : Value} {l : List V} (h : LA w N s l) : ∃ ao cap, s = .slice ao l.length cap := by
  cases h with
  | mk ao cap l hl h => exact ⟨ao, cap, rfl⟩
theorem size_sum (n t x r : Nat) (h : n + 1 + t / 64 + x / 64 + r ≤ 1000000000000000000) (ht : t ≤ 9223372036854775807) (hx : x ≤ 9223372036854775807) :
    IntKind.i64.wrap (IntKind.i64.wrap (IntKind.i64.wrap (IntKind.i64.wrap ((n : Int) + 1) + IntKind.i64.wrap ((t : Int).tdiv 64)) + IntKind.i64.wrap ((x : Int).tdiv 64)) + (r : Int)) = ((n + 1 + t / 64 + x / 64 + r : Nat) : Int) := by
  have e1 : (t : Int).tdiv 64 = ((t / 64 : Nat) : Int) := by simp [Int.tdiv]
  have e2 : (x : Int).tdiv 64 = ((x / 64 : Nat) : Int) := by simp [Int.tdiv]
  rw [e1, e2, IntWalk.i64_in ((n : Int) + 1) (by omega), IntWalk.i64_in ((t / 64 : Nat) : Int) (by omega), IntWalk.i64_in ((n : Int) + 1 + ((t / 64 : Nat) : Int)) (by omega), IntWalk.i64_in ((x / 64 : Nat) : Int) (by omega), IntWalk.i64_in ((n : Int) + 1 + ((t / 64 : Nat) : Int) + ((x / 64 : Nat) : Int)) (by omega), IntWalk.i64_in _ (by omega)]
  omega
set_option maxRecDepth 100000 in
set_option maxHeartbeats 2000000 in
theorem size_all (N : Nat) (hN : N ≤ 9223372036854775807) : ∀ m (w : World) (s : Value) (l : List V), SizeOf.sizeOf l < m → LA w N s l → sizeL l ≤ 1000000000000000000 →
    Calls Tryz.prog 24 #[s] w fun e w' => e = .returned (.int .i64 (sizeL l)) ∧ Below w.heap.size w w' := by
  intro m
  induction m with
  | zero => intro w s l hm; omega
  | succ m ih =>
    intro w s l hm ha hsz
    cases ha with
    | mk ao cap l hl h =>
      replace h := Lib.hid h
      replace ih := Lib.hid ih
      have hli : (l.length : Int) ≤ 9223372036854775807 := by omega
      go_enter Tryz.func24, Tryz.ntmps24
      go_wp2
      go_loopw [3, 4] (fun v3 v wr => ∃ k : Nat, k ≤ l.length ∧ v = .int .i64 k ∧ v3 = .int .i64 (sizeL (l.take k) : Nat) ∧ Hid (Below w.heap.size w wr)) (fun _ v _ => l.length - (intOf v).toNat)
      case atStart => exact ⟨0, by omega, rfl, by simp [sizeL], Below.refl _ _⟩
      case round =>
        obtain ⟨k, hk, rfl, rfl, hb⟩ := hrel
        obtain ⟨w0, rfl⟩ : ∃ w0 : World, w0 = wr := ⟨_, rfl⟩
        by_cases hlt : k < l.length
        · have hki : (k : Int) < (l.length : Int) := by omega
          have hel := (h.out k hlt).stay hb.out
          have hst := sizeL_take l k hlt
          have hsle := sizeL_take_le l (k + 1)
          rw [Nat.mul_comm 6 k] at hel
          have hmem : SizeOf.sizeOf (l[k]'(by omega)) < SizeOf.sizeOf l := List.sizeOf_lt_of_mem (List.getElem_mem _)
          generalize l[k]'(by omega) = v at hel hmem hst
          cases hel with
          | mk b off o k1 bo n t x l1 s hr hk1 hn ht hx hsl =>
            obtain ⟨aoE, capE, rfl⟩ := LA.form6 hsl
            rw [sizeV] at hst
            have hm1 : SizeOf.sizeOf l1 < m := by simp at hmem; omega
            have hdw : Below w0.heap.size w0 w0.drew := below_drewN (Below.refl _ _) 1
            have hb0 := Lib.hid (hb.out.trans (hdw.mono hb.out.size))
            have hcall := ih.out w0.drew _ l1 hm1 (hsl.stay hdw) (by omega)
            have hsum := size_sum (sizeL (l.take k)) t.size x.size (sizeL l1) (by omega) (by omega) (by omega)
            have hnx : sizeL (l.take k) + 1 + t.size / 64 + x.size / 64 + sizeL l1 = sizeL (l.take (k + 1)) := by omega
            rw [hnx] at hsum
            replace hcall := Lib.hid hcall
            replace hsum := Lib.hid hsum
            have hS0 : Row6 w0.drew b (off + k * 6) k1 bo n t x (.slice aoE l1.length capE) := hr.below hdw
            clear hr hsl hmem hdw hst hsle hnx hm1
            go_upto_region 5 with fail
            refine wp_region_held_drew (S := fun V => Row6 V b (off + k * 6) k1 bo n t x (.slice aoE l1.length capE)) (by kernel_rfl) hS0 (fun hS => ?_)
            have hV := hS0
            clear hS0
            generalize w0.drew = V0 at *
            refine wpAnyH_take (i := 0) (v := ?_) rfl (by kernel_rfl) (by kernel_rfl) (by kernel_rfl) (fun _ _ _ h => h) (.inl ⟨by kernel_rfl, fun w' hS => ?_⟩) hS ?_
            rotate_left
            ·
              skip
              go_simp
              try with_reducible rfl
            simp only [List.getElem_toArray, List.getElem_cons_succ, List.getElem_cons_zero, Act.put, List.setIfInBounds_toArray, List.set_cons_zero, List.set_cons_succ]
            refine wpAnyH_take (i := 1) (v := ?_) rfl (by kernel_rfl) (by kernel_rfl) (by kernel_rfl) (fun _ _ _ h => h) (.inl ⟨by kernel_rfl, fun w' hS => ?_⟩) hS ?_
            rotate_left
            ·
              skip
              go_simp
              try with_reducible rfl
            simp only [List.getElem_toArray, List.getElem_cons_succ, List.getElem_cons_zero, Act.put, List.setIfInBounds_toArray, List.set_cons_zero, List.set_cons_succ]
            refine wpAnyH_take (i := 2) (v := ?_) rfl (by kernel_rfl) (by kernel_rfl) (by kernel_rfl) (fun _ _ _ h => h) (.inl ⟨by kernel_rfl, fun w' hS => ?_⟩) hS ?_
            rotate_left
            ·
              skip
              go_simp
              try with_reducible rfl
            simp only [List.getElem_toArray, List.getElem_cons_succ, List.getElem_cons_zero, Act.put, List.setIfInBounds_toArray, List.set_cons_zero, List.set_cons_succ]
            refine wpAnyH_take (i := 3) (v := ?_) rfl (by kernel_rfl) (by kernel_rfl) (by kernel_rfl) (fun _ _ _ h => h) (.inl ⟨by kernel_rfl, fun w' hS => ?_⟩) hS ?_
            rotate_left
            ·
              skip
              go_simp
              try with_reducible rfl
            simp only [List.getElem_toArray, List.getElem_cons_succ, List.getElem_cons_zero, Act.put, List.setIfInBounds_toArray, List.set_cons_zero, List.set_cons_succ]
            refine wpAnyH_take (i := 4) (v := ?_) rfl (by kernel_rfl) (by kernel_rfl) (by kernel_rfl) (fun _ _ _ h => h) (.inl ⟨by kernel_rfl, fun w' hS => ?_⟩) hS ?_
            rotate_left
            ·
              skip
              go_simp
              try with_reducible rfl
            simp only [List.getElem_toArray, List.getElem_cons_succ, List.getElem_cons_zero, Act.put, List.setIfInBounds_toArray, List.set_cons_zero, List.set_cons_succ]
            refine wpAnyH_take (i := 5) (v := ?_) rfl (by kernel_rfl) (by kernel_rfl) (by kernel_rfl) (fun _ _ _ h => h) (.inl ⟨by kernel_rfl, fun w' hS => ?_⟩) hS ?_
            rotate_left
            ·
              skip
              go_simp
              try with_reducible rfl
            simp only [List.getElem_toArray, List.getElem_cons_succ, List.getElem_cons_zero, Act.put, List.setIfInBounds_toArray, List.set_cons_zero, List.set_cons_succ]
            refine wpAnyH_take (i := 6) (v := ?_) rfl (by kernel_rfl) (by kernel_rfl) (by kernel_rfl) (fun _ _ _ h => h) (.inl ⟨by kernel_rfl, fun w' hS => ?_⟩) hS ?_
            rotate_left
            ·
              obtain ⟨x0, x1, x2, x3, x4, x5⟩ := hS.six
              go_simp
              try with_reducible rfl
            simp only [List.getElem_toArray, List.getElem_cons_succ, List.getElem_cons_zero, Act.put, List.setIfInBounds_toArray, List.set_cons_zero, List.set_cons_succ]
            refine wpAnyH_take (i := 7) (v := ?_) rfl (by kernel_rfl) (by kernel_rfl) (by kernel_rfl) (fun _ _ _ h => h) (.inl ⟨by kernel_rfl, fun w' hS => ?_⟩) hS ?_
            rotate_left
            ·
              skip
              go_simp
              try with_reducible rfl
            simp only [List.getElem_toArray, List.getElem_cons_succ, List.getElem_cons_zero, Act.put, List.setIfInBounds_toArray, List.set_cons_zero, List.set_cons_succ]
            refine wpAnyH_take (i := 8) (v := ?_) rfl (by kernel_rfl) (by kernel_rfl) (by kernel_rfl) (fun _ _ _ h => h) (.inl ⟨by kernel_rfl, fun w' hS => ?_⟩) hS ?_
            rotate_left
            ·
              skip
              go_simp
              try with_reducible rfl
            simp only [List.getElem_toArray, List.getElem_cons_succ, List.getElem_cons_zero, Act.put, List.setIfInBounds_toArray, List.set_cons_zero, List.set_cons_succ]
            refine wpAnyH_take (i := 9) (v := ?_) rfl (by kernel_rfl) (by kernel_rfl) (by kernel_rfl) (fun _ _ _ h => h) (.inl ⟨by kernel_rfl, fun w' hS => ?_⟩) hS ?_
            rotate_left
            ·
              skip
              go_simp
              try with_reducible rfl
            simp only [List.getElem_toArray, List.getElem_cons_succ, List.getElem_cons_zero, Act.put, List.setIfInBounds_toArray, List.set_cons_zero, List.set_cons_succ]
            refine wpAnyH_take (i := 10) (v := ?_) rfl (by kernel_rfl) (by kernel_rfl) (by kernel_rfl) (fun _ _ _ h => h) (.inl ⟨by kernel_rfl, fun w' hS => ?_⟩) hS ?_
            rotate_left
            ·
              skip
              go_simp
              try with_reducible rfl
            simp only [List.getElem_toArray, List.getElem_cons_succ, List.getElem_cons_zero, Act.put, List.setIfInBounds_toArray, List.set_cons_zero, List.set_cons_succ]
            refine wpAnyH_take (i := 11) (v := ?_) rfl (by kernel_rfl) (by kernel_rfl) (by kernel_rfl) (fun _ _ _ h => h) (.inl ⟨by kernel_rfl, fun w' hS => ?_⟩) hS ?_
            rotate_left
            ·
              skip
              go_simp
              try with_reducible rfl
            simp only [List.getElem_toArray, List.getElem_cons_succ, List.getElem_cons_zero, Act.put, List.setIfInBounds_toArray, List.set_cons_zero, List.set_cons_succ]
            refine wpAnyH_take (i := 12) (v := ?_) rfl (by kernel_rfl) (by kernel_rfl) (by kernel_rfl) (fun _ _ _ h => h) (.inl ⟨by kernel_rfl, fun w' hS => ?_⟩) hS ?_
            rotate_left
            ·
              skip
              go_simp
              try with_reducible rfl
            simp only [List.getElem_toArray, List.getElem_cons_succ, List.getElem_cons_zero, Act.put, List.setIfInBounds_toArray, List.set_cons_zero, List.set_cons_succ]
            refine wpAnyH_take (i := 13) (v := ?_) rfl (by kernel_rfl) (by kernel_rfl) (by kernel_rfl) (fun _ _ _ h => h) (.inl ⟨by kernel_rfl, fun w' hS => ?_⟩) hS ?_
            rotate_left
            ·
              skip
              go_simp
              try with_reducible rfl
            simp only [List.getElem_toArray, List.getElem_cons_succ, List.getElem_cons_zero, Act.put, List.setIfInBounds_toArray, List.set_cons_zero, List.set_cons_succ]
            refine wpAnyH_take (i := 14) (v := ?_) rfl (by kernel_rfl) (by kernel_rfl) (by kernel_rfl) (fun _ _ _ h => h) (.inl ⟨by kernel_rfl, fun w' hS => ?_⟩) hS ?_
            rotate_left
            ·
              obtain ⟨x0, x1, x2, x3, x4, x5⟩ := hS.six
              go_simp
              try with_reducible rfl
            simp only [List.getElem_toArray, List.getElem_cons_succ, List.getElem_cons_zero, Act.put, List.setIfInBounds_toArray, List.set_cons_zero, List.set_cons_succ]
            refine wpAnyH_take (i := 15) (v := ?_) rfl (by kernel_rfl) (by kernel_rfl) (by kernel_rfl) (fun _ _ _ h => h) (.inl ⟨by kernel_rfl, fun w' hS => ?_⟩) hS ?_
            rotate_left
            ·
              skip
              go_simp
              try with_reducible rfl
            simp only [List.getElem_toArray, List.getElem_cons_succ, List.getElem_cons_zero, Act.put, List.setIfInBounds_toArray, List.set_cons_zero, List.set_cons_succ]
            refine wpAnyH_take (i := 16) (v := ?_) rfl (by kernel_rfl) (by kernel_rfl) (by kernel_rfl) (fun _ _ _ h => h) (.inl ⟨by kernel_rfl, fun w' hS => ?_⟩) hS ?_
            rotate_left
            ·
              skip
              go_simp
              try with_reducible rfl
            simp only [List.getElem_toArray, List.getElem_cons_succ, List.getElem_cons_zero, Act.put, List.setIfInBounds_toArray, List.set_cons_zero, List.set_cons_succ]
            refine wpAnyH_take (i := 17) (v := ?_) rfl (by kernel_rfl) (by kernel_rfl) (by kernel_rfl) (fun _ _ _ h => h) (.inl ⟨by kernel_rfl, fun w' hS => ?_⟩) hS ?_
            rotate_left
            ·
              skip
              go_simp
              try with_reducible rfl
            simp only [List.getElem_toArray, List.getElem_cons_succ, List.getElem_cons_zero, Act.put, List.setIfInBounds_toArray, List.set_cons_zero, List.set_cons_succ]
            refine wpAnyH_take (i := 18) (v := ?_) rfl (by kernel_rfl) (by kernel_rfl) (by kernel_rfl) (fun _ _ _ h => h) (.inl ⟨by kernel_rfl, fun w' hS => ?_⟩) hS ?_
            rotate_left
            ·
              skip
              go_simp
              try with_reducible rfl
            simp only [List.getElem_toArray, List.getElem_cons_succ, List.getElem_cons_zero, Act.put, List.setIfInBounds_toArray, List.set_cons_zero, List.set_cons_succ]
            refine wpAnyH_take (i := 19) (v := ?_) rfl (by kernel_rfl) (by kernel_rfl) (by kernel_rfl) (fun _ _ _ h => h) (.inl ⟨by kernel_rfl, fun w' hS => ?_⟩) hS ?_
            rotate_left
            ·
              skip
              go_simp
              try with_reducible rfl
            simp only [List.getElem_toArray, List.getElem_cons_succ, List.getElem_cons_zero, Act.put, List.setIfInBounds_toArray, List.set_cons_zero, List.set_cons_succ]
            refine wpAnyH_take (i := 20) (v := ?_) rfl (by kernel_rfl) (by kernel_rfl) (by kernel_rfl) (fun _ _ _ h => h) (.inl ⟨by kernel_rfl, fun w' hS => ?_⟩) hS ?_
            rotate_left
            ·
              skip
              go_simp
              try with_reducible rfl
            simp only [List.getElem_toArray, List.getElem_cons_succ, List.getElem_cons_zero, Act.put, List.setIfInBounds_toArray, List.set_cons_zero, List.set_cons_succ]
            refine wpAnyH_take (i := 21) (v := ?_) rfl (by kernel_rfl) (by kernel_rfl) (by kernel_rfl) (fun _ _ _ h => h) (.inl ⟨by kernel_rfl, fun w' hS => ?_⟩) hS ?_
            rotate_left
            ·
              skip
              go_simp
              try with_reducible rfl
            simp only [List.getElem_toArray, List.getElem_cons_succ, List.getElem_cons_zero, Act.put, List.setIfInBounds_toArray, List.set_cons_zero, List.set_cons_succ]
            refine wpAnyH_take (i := 22) (v := ?_) rfl (by kernel_rfl) (by kernel_rfl) (by kernel_rfl) (fun _ _ _ h => h) (.inl ⟨by kernel_rfl, fun w' hS => ?_⟩) hS ?_
            rotate_left
            ·
              obtain ⟨x0, x1, x2, x3, x4, x5⟩ := hS.six
              go_simp
              try with_reducible rfl
            simp only [List.getElem_toArray, List.getElem_cons_succ, List.getElem_cons_zero, Act.put, List.setIfInBounds_toArray, List.set_cons_zero, List.set_cons_succ]
            refine wpAnyH_ready (rs := [23]) (by kernel_rfl) (by simp) ?_
            refine AllReadyH.cons rfl (fun K hK => ?_) AllReadyH.nil
            clear hS
            go_simp
            refine (hcall.out).mono ?_
            rintro e w5 ⟨rfl, hb5⟩
            go_wp2_with fail
            refine hK.out _ _ (hV.below hb5) (fun hS => ?_)
            clear hK K
            try simp only [List.getElem_toArray, List.getElem_cons_succ, List.getElem_cons_zero, Act.put, List.setIfInBounds_toArray, List.set_cons_zero, List.set_cons_succ]
            have hb3 := Lib.hid (hb0.out.trans (hb5.mono hb0.out.size))
            refine wpAnyH_take (i := 24) (v := ?_) rfl (by kernel_rfl) (by kernel_rfl) (by kernel_rfl) (fun _ _ _ h => h) (.inl ⟨by kernel_rfl, fun w' hS => ?_⟩) hS ?_
            rotate_left
            ·
              skip
              go_simp
              try with_reducible rfl
            simp only [List.getElem_toArray, List.getElem_cons_succ, List.getElem_cons_zero, Act.put, List.setIfInBounds_toArray, List.set_cons_zero, List.set_cons_succ]
            refine wpAnyH_take (i := 25) (v := ?_) rfl (by kernel_rfl) (by kernel_rfl) (by kernel_rfl) (fun _ _ _ h => h) (.inl ⟨by kernel_rfl, fun w' hS => ?_⟩) hS ?_
            rotate_left
            ·
              skip
              go_simp
              try with_reducible rfl
            simp only [List.getElem_toArray, List.getElem_cons_succ, List.getElem_cons_zero, Act.put, List.setIfInBounds_toArray, List.set_cons_zero, List.set_cons_succ]
            refine wpAnyH_done (by kernel_rfl) ?_ _
            clear hS hb5 hcall hV hb0 hb
            go_wp2
            go_roundw
            case rel => exact ⟨k + 1, by omega, by go_num, congrArg (Value.int .i64) hsum.out, hb3⟩
            case measure => simp [intOf]; omega
        · have hki : ¬ (k : Int) < (l.length : Int) := by omega
          obtain rfl : k = l.length := by omega
          go_wp2
          go_ret
          exact ⟨ret_int (by first | rfl | rw [List.take_length]), hb.out⟩
theorem deepL_drop (d : Nat) (l : List V) (k : Nat) (h : k < l.length) : deepL d (l.drop k) = (deepV d l[k] && deepL d (l.drop (k + 1))) := by
  rw [List.drop_eq_getElem_cons h, deepL]
theorem deepV_no (d : Nat) (v : V) (h : 100 < d) : deepV d v = false := by
  cases v
  rw [deepV, decide_eq_false (by omega)]; rfl
set_option maxRecDepth 100000 in
set_option maxHeartbeats 2000000 in
theorem deep_all (N : Nat) (hN : N ≤ 9223372036854775807) : ∀ m (w : World) (d : Nat) (s : Value) (l : List V), d ≤ 101 → SizeOf.sizeOf l < m → LA w N s l →
    Calls Tryz.prog 25 #[s, .int .i64 d] w fun e w' => e = .returned (.bool (deepL d l)) ∧ Below w.heap.size w w' := by
  intro m
  induction m with
  | zero => intro w d s l hd hm; omega
  | succ m ih =>
    intro w d s l hd hm ha
    cases ha with
    | mk ao cap l hl h =>
      replace h := Lib.hid h
      replace ih := Lib.hid ih
      have hli : (l.length : Int) ≤ 9223372036854775807 := by omega
      go_enter Tryz.func25, Tryz.ntmps25
      go_wp2
      go_loopw [5] (fun v wr => ∃ k : Nat, k ≤ l.length ∧ v = .int .i64 k ∧ Hid (deepL d l = deepL d (l.drop k)) ∧ Hid (Below w.heap.size w wr)) (fun v _ => l.length - (intOf v).toNat)
      case atStart => exact ⟨0, by omega, rfl, by rw [List.drop_zero]; exact Lib.hid rfl, Below.refl _ _⟩
      case round =>
        obtain ⟨k, hk, rfl, hpre, hb⟩ := hrel
        by_cases hlt : k < l.length
        · have hki : (k : Int) < (l.length : Int) := by omega
          have hst := deepL_drop d l k hlt
          rw [← hpre.out] at hst
          by_cases hd1 : 100 < d
          · have hdi : (100 : Int) < (d : Int) := by omega
            rw [deepV_no d _ hd1] at hst
            have hst := Lib.hid hst
            go_wp2
            go_ret
            exact ⟨ret_bool (by rw [hst.out]; rfl), hb.out⟩
          have hdi : ¬ (100 : Int) < (d : Int) := by omega
          have hel := (h.out k hlt).stay hb.out
          rw [Nat.mul_comm 6 k] at hel
          have hmem : SizeOf.sizeOf (l[k]'(by omega)) < SizeOf.sizeOf l := List.sizeOf_lt_of_mem (List.getElem_mem _)
          generalize l[k]'(by omega) = v at hel hmem hst
          cases hel with
          | mk b off o k1 bo n t x l1 s hr hk1 hn ht hx hsl =>
            obtain ⟨aoE, capE, rfl⟩ := LA.form6 hsl
            rw [deepV, decide_eq_true (by omega), Bool.true_and] at hst
            have hm1 : SizeOf.sizeOf l1 < m := by simp at hmem; omega
            have hcall := ih.out wr (d + 1) _ l1 (by omega) hm1 hsl
            generalize deepL (d + 1) l1 = c at hcall hst
            obtain ⟨x0, x1, x2, x3, x4, x5⟩ := hr.six
            replace hcall := Lib.hid hcall
            replace hst := Lib.hid hst
            clear hr hsl hmem hm1 hpre
            have hd2 : 0 ≤ (d : Int) := by omega
            have hd3 : (d : Int) ≤ 100 := by omega
            go_wp2_with fail
            refine hcall.out.mono ?_
            rintro e w2 ⟨rfl, hb2⟩
            have hb3 := Lib.hid (hb.out.trans (hb2.mono hb.out.size))
            clear hb2 hcall hb
            cases c
            · go_wp2
              go_ret
              exact ⟨ret_bool (by rw [hst.out]; rfl), hb3.out⟩
            · go_wp2
              go_roundw
              case rel => exact ⟨k + 1, by omega, by go_num, by have := hst.out; rw [Bool.true_and] at this; exact Lib.hid this, hb3⟩
              case measure => simp [intOf]; omega
        · have hki : ¬ (k : Int) < (l.length : Int) := by omega
          obtain rfl : k = l.length := by omega
          go_wp2
          go_ret
          exact ⟨ret_bool (by rw [hpre.out, List.drop_length, deepL]), hb.out⟩
/-- Are so many values, so deep, light? -/
def lightL (l : List V) : Bool := decide (sizeL l ≤ 9000) && deepL 0 l
set_option maxRecDepth 100000 in
theorem light_call (N : Nat) (hN : N ≤ 9223372036854775807) (w : World) (s : Value) (l : List V) (ha : LA w N s l) (hs : sizeL l ≤ 1000000000000000000) :
    Calls Tryz.prog 10 #[s] w fun e w' => e = .returned (.bool (lightL l)) ∧ Below w.heap.size w w' := by
  have h1 := size_all N hN (SizeOf.sizeOf l + 1) w s l (Nat.lt_succ_self _) ha hs
  have h2 : ∀ w2, Below w.heap.size w w2 → Calls Tryz.prog 25 #[s, .int .i64 (0 : Nat)] w2 fun e w' => e = .returned (.bool (deepL 0 l)) ∧ Below w2.heap.size w2 w' := fun w2 hb => deep_all N hN (SizeOf.sizeOf l + 1) w2 0 s l (by omega) (Nat.lt_succ_self _) (ha.stay hb)
  rw [show ((0 : Nat) : Int) = 0 from rfl] at h2
  unfold lightL
  generalize deepL 0 l = c at *
  clear ha
  replace h1 := Lib.hid h1
  replace h2 := Lib.hid h2
  by_cases hq : sizeL l ≤ 9000
  · have hqi : (sizeL l : Int) ≤ 9000 := by omega
    rw [decide_eq_true hq]
    go_enter Tryz.func10, Tryz.ntmps10
    go_wp2_with fail
    refine h1.out.mono ?_
    rintro e w2 ⟨rfl, hb2⟩
    go_wp2_with fail
    refine (h2.out w2 hb2).mono ?_
    rintro e w3 ⟨rfl, hb3⟩
    go_wp2
    go_ret
    exact ⟨ret_bool (by simp), hb2.trans (hb3.mono hb2.size)⟩
  · have hqi : ¬ (sizeL l : Int) ≤ 9000 := by omega
    rw [decide_eq_false hq]
    go_enter Tryz.func10, Tryz.ntmps10
    go_wp2_with fail
    refine h1.out.mono ?_
    rintro e w2 ⟨rfl, hb2⟩
    go_wp2
    go_ret
    exact ⟨ret_bool (by simp), hb2⟩
end Go.Proofs.YtjncjcellpbhcaaGreatDoor.val
