/- Contracts of the reference's four, text, Bytes: a value's bytes; of Eq: whether two rows of bytes are the same. -/
import Derived.Test.YthecgifgjagmaaaGreatDoorVWakes
namespace Go.Proofs.YthecgifgjagmaaaGreatDoor.val
open Go.ChangeShapes Go.WideShapes Go.ChangeAt Go.RowKit kit dec
set_option linter.unusedVariables false
set_option linter.unusedSimpArgs false
/-- A slice that reads as bytes. -/
def BytesAt (w : World) (v : Value) (l : List UInt8) : Prop :=
  (v = .slice none 0 0 ∧ l = []) ∨ ∃ b off cap, v = .slice (some ⟨b, off, none⟩) l.length cap ∧ b < w.heap.size ∧ ∀ j (hj : j < l.length), w.cell? ⟨b, off + j, none⟩ = some (.int .u8 (l[j].toNat : Int))
theorem BytesAt.below {w w' : World} {v : Value} {l : List UInt8} (h : BytesAt w v l) (hb : Below w.heap.size w w') : BytesAt w' v l := by
  rcases h with h | ⟨b, off, cap, hv, hlt, hc⟩
  · exact .inl h
  · exact .inr ⟨b, off, cap, hv, Nat.lt_of_lt_of_le hlt hb.size, fun j hj => (hb.cell (p := ⟨b, off + j, none⟩) hlt).trans (hc j hj)⟩
theorem BW.reads {W W1 : World} {B : Nat} {v : Value} {l : List UInt8} (h : BW W B v l W1) : BytesAt W1 v l := by
  rcases h.own.2 with ⟨hv, hn⟩ | ⟨g, cap, cur, hv, hg, hh, _⟩
  · exact .inl ⟨hv, List.eq_nil_of_length_eq_zero hn⟩
  · subst hv
    refine .inr ⟨g, 0, cap, rfl, (Array.getElem?_eq_some_iff.1 hh).1, fun j hj => ?_⟩
    rw [Nat.zero_add, h.own.cellAt j (by omega)]
    simp [bytesV, List.getElem?_eq_getElem hj]
def eqB (l m : List UInt8) : Bool := decide (l = m)
def PreB (l m : List UInt8) (k : Nat) : Prop := ∀ j (h1 : j < l.length) (h2 : j < m.length), j < k → l[j] = m[j]
set_option maxRecDepth 100000 in
set_option maxHeartbeats 2000000 in
theorem eq_call (w : World) (va vb : Value) (l m : List UInt8) (ha : BytesAt w va l) (hb : BytesAt w vb m) (hl : l.length ≤ 9223372036854775807) (hm : m.length ≤ 9223372036854775807) :
    Calls Tryz.prog 22 #[va, vb] w fun e w' => e = .returned (.bool (eqB l m)) ∧ Below w.heap.size w w' := by
  have hfa : ∃ ao cap, va = .slice ao l.length cap := by
    rcases ha with ⟨hv, hn⟩ | ⟨b, off, cap, hv, _⟩
    · exact ⟨none, 0, by rw [hv, hn]; rfl⟩
    · exact ⟨_, cap, hv⟩
  have hfb : ∃ ao cap, vb = .slice ao m.length cap := by
    rcases hb with ⟨hv, hn⟩ | ⟨b, off, cap, hv, _⟩
    · exact ⟨none, 0, by rw [hv, hn]; rfl⟩
    · exact ⟨_, cap, hv⟩
  obtain ⟨ao, cap, rfl⟩ := hfa
  obtain ⟨ao2, cap2, rfl⟩ := hfb
  replace ha := Lib.hid ha
  replace hb := Lib.hid hb
  by_cases hne : l.length = m.length
  · obtain ⟨L, hL⟩ : ∃ L, l.length = L := ⟨_, rfl⟩
    have hL2 : m.length = L := by omega
    have hLi : (L : Int) ≤ 9223372036854775807 := by omega
    rw [hL, hL2]
    replace hL := Lib.hid hL
    replace hL2 := Lib.hid hL2
    go_enter Tryz.func22, Tryz.ntmps22
    go_wp2
    go_loopw [5] (fun v wr => ∃ k : Nat, k ≤ L ∧ v = .int .i64 k ∧ Hid (PreB l m k) ∧ Hid (Below w.heap.size w wr)) (fun v _ => L - (intOf v).toNat)
    case atStart => exact ⟨0, by omega, rfl, fun j _ _ h => by omega, Below.refl _ _⟩
    case round =>
      obtain ⟨k, hk, rfl, hpre, hbe⟩ := hrel
      obtain ⟨w0, rfl⟩ : ∃ w0 : World, w0 = wr := ⟨_, rfl⟩
      by_cases hlt : k < L
      · have hki : (k : Int) < (L : Int) := by omega
        have h1 : k < l.length := by rw [hL.out]; exact hlt
        have h2 : k < m.length := by rw [hL2.out]; exact hlt
        rcases ha.out with ⟨_, hn⟩ | ⟨b, off, cp, hv, hblt, hc⟩
        · rw [hn] at h1; simp at h1
        rcases hb.out with ⟨_, hn⟩ | ⟨b2, off2, cp2, hv2, hblt2, hc2⟩
        · rw [hn] at h2; simp at h2
        obtain rfl : ao = some ⟨b, off, none⟩ := by injection hv
        obtain rfl : ao2 = some ⟨b2, off2, none⟩ := by injection hv2
        have x0 := (hbe.out.cell (p := ⟨b, off + k, none⟩) hblt).trans (hc k h1)
        have y0 := (hbe.out.cell (p := ⟨b2, off2 + k, none⟩) hblt2).trans (hc2 k h2)
        have hst : ∀ u v : UInt8, l[k] = u → m[k] = v → (u.toNat ≠ v.toNat → eqB l m = false) ∧ (u.toNat = v.toNat → PreB l m (k + 1)) := by
          intro u v hu hv
          refine ⟨fun e => ?_, fun e j j1 j2 hj => ?_⟩
          · unfold eqB
            rw [decide_eq_false_iff_not]
            rintro rfl
            rw [hu] at hv
            exact e (by rw [hv])
          · rcases Nat.lt_or_ge j k with h3 | h3
            · exact hpre.out j j1 j2 h3
            · obtain rfl : j = k := by omega
              rw [hu, hv]
              exact UInt8.toNat_inj.1 e
        replace hst := hst _ _ rfl rfl
        generalize (l[k]'h1).toNat = u at hst x0
        generalize (m[k]'h2).toNat = v at hst y0
        replace hst := Lib.hid hst
        clear hv hv2 hc hc2
        have hS0 : w0.drew.cell? ⟨b, off + k, none⟩ = some (.int .u8 (u : Int)) ∧ w0.drew.cell? ⟨b2, off2 + k, none⟩ = some (.int .u8 (v : Int)) := ⟨x0, y0⟩
        have hbe2 := Lib.hid (hbe.out.trans ((below_drew w0).mono hbe.out.size))
        clear x0 y0
        go_upto_region 6 with fail
        refine wp_region_held_drew (S := fun V => V.cell? ⟨b, off + k, none⟩ = some (.int .u8 (u : Int)) ∧ V.cell? ⟨b2, off2 + k, none⟩ = some (.int .u8 (v : Int))) (by kernel_rfl) hS0 (fun hS => ?_)
        clear hS0
        generalize w0.drew = V0 at *
        refine wpAnyH_take (i := 0) (v := ?_) rfl (by kernel_rfl) (by kernel_rfl) (by kernel_rfl) (fun _ _ _ h => h) (.inl ⟨by kernel_rfl, fun w' hS => ?_⟩) hS ?_
        rotate_left
        ·
          obtain ⟨x0, y0⟩ := hS
          go_simp
          try with_reducible rfl
        simp only [List.getElem_toArray, List.getElem_cons_succ, List.getElem_cons_zero, Act.put, List.setIfInBounds_toArray, List.set_cons_zero, List.set_cons_succ]
        refine wpAnyH_take (i := 1) (v := ?_) rfl (by kernel_rfl) (by kernel_rfl) (by kernel_rfl) (fun _ _ _ h => h) (.inl ⟨by kernel_rfl, fun w' hS => ?_⟩) hS ?_
        rotate_left
        ·
          obtain ⟨x0, y0⟩ := hS
          go_simp
          try with_reducible rfl
        simp only [List.getElem_toArray, List.getElem_cons_succ, List.getElem_cons_zero, Act.put, List.setIfInBounds_toArray, List.set_cons_zero, List.set_cons_succ]
        refine wpAnyH_take (i := 2) (v := ?_) rfl (by kernel_rfl) (by kernel_rfl) (by kernel_rfl) (fun _ _ _ h => h) (.inl ⟨by kernel_rfl, fun w' hS => ?_⟩) hS ?_
        rotate_left
        ·
          obtain ⟨x0, y0⟩ := hS
          go_simp
          try with_reducible rfl
        simp only [List.getElem_toArray, List.getElem_cons_succ, List.getElem_cons_zero, Act.put, List.setIfInBounds_toArray, List.set_cons_zero, List.set_cons_succ]
        refine wpAnyH_take (i := 3) (v := ?_) rfl (by kernel_rfl) (by kernel_rfl) (by kernel_rfl) (fun _ _ _ h => h) (.inl ⟨by kernel_rfl, fun w' hS => ?_⟩) hS ?_
        rotate_left
        ·
          obtain ⟨x0, y0⟩ := hS
          go_simp
          try with_reducible rfl
        simp only [List.getElem_toArray, List.getElem_cons_succ, List.getElem_cons_zero, Act.put, List.setIfInBounds_toArray, List.set_cons_zero, List.set_cons_succ]
        refine wpAnyH_take (i := 4) (v := ?_) rfl (by kernel_rfl) (by kernel_rfl) (by kernel_rfl) (fun _ _ _ h => h) (.inl ⟨by kernel_rfl, fun w' hS => ?_⟩) hS ?_
        rotate_left
        ·
          obtain ⟨x0, y0⟩ := hS
          go_simp
          try with_reducible rfl
        simp only [List.getElem_toArray, List.getElem_cons_succ, List.getElem_cons_zero, Act.put, List.setIfInBounds_toArray, List.set_cons_zero, List.set_cons_succ]
        refine wpAnyH_take (i := 5) (v := ?_) rfl (by kernel_rfl) (by kernel_rfl) (by kernel_rfl) (fun _ _ _ h => h) (.inl ⟨by kernel_rfl, fun w' hS => ?_⟩) hS ?_
        rotate_left
        ·
          obtain ⟨x0, y0⟩ := hS
          go_simp
          try with_reducible rfl
        simp only [List.getElem_toArray, List.getElem_cons_succ, List.getElem_cons_zero, Act.put, List.setIfInBounds_toArray, List.set_cons_zero, List.set_cons_succ]
        refine wpAnyH_take (i := 6) (v := ?_) rfl (by kernel_rfl) (by kernel_rfl) (by kernel_rfl) (fun _ _ _ h => h) (.inl ⟨by kernel_rfl, fun w' hS => ?_⟩) hS ?_
        rotate_left
        ·
          obtain ⟨x0, y0⟩ := hS
          go_simp
          try with_reducible rfl
        simp only [List.getElem_toArray, List.getElem_cons_succ, List.getElem_cons_zero, Act.put, List.setIfInBounds_toArray, List.set_cons_zero, List.set_cons_succ]
        refine wpAnyH_take (i := 7) (v := ?_) rfl (by kernel_rfl) (by kernel_rfl) (by kernel_rfl) (fun _ _ _ h => h) (.inl ⟨by kernel_rfl, fun w' hS => ?_⟩) hS ?_
        rotate_left
        ·
          obtain ⟨x0, y0⟩ := hS
          go_simp
          try with_reducible rfl
        simp only [List.getElem_toArray, List.getElem_cons_succ, List.getElem_cons_zero, Act.put, List.setIfInBounds_toArray, List.set_cons_zero, List.set_cons_succ]
        refine wpAnyH_take (i := 8) (v := ?_) rfl (by kernel_rfl) (by kernel_rfl) (by kernel_rfl) (fun _ _ _ h => h) (.inl ⟨by kernel_rfl, fun w' hS => ?_⟩) hS ?_
        rotate_left
        ·
          obtain ⟨x0, y0⟩ := hS
          go_simp
          try with_reducible rfl
        simp only [List.getElem_toArray, List.getElem_cons_succ, List.getElem_cons_zero, Act.put, List.setIfInBounds_toArray, List.set_cons_zero, List.set_cons_succ]
        refine wpAnyH_done (by kernel_rfl) ?_ _
        clear hS hbe
        by_cases huv : u = v
        · subst huv
          go_wp2
          go_roundw
          case rel => exact ⟨k + 1, by omega, by go_num, hst.out.2 (by simp), hbe2⟩
          case measure => simp [intOf]; omega
        · have huvb : ((u : Int) != (v : Int)) = true := bne_iff_ne.2 (by omega)
          have hR := Lib.hid (hst.out.1 huv)
          clear huv hst
          go_wp2
          go_ret
          exact ⟨ret_bool hR.out.symm, hbe2.out⟩
      · have hki : ¬ (k : Int) < (L : Int) := by omega
        obtain rfl : k = L := by omega
        have hR : eqB l m = true := by
          unfold eqB
          rw [decide_eq_true_iff]
          exact List.ext_getElem hne fun j h1 h2 => hpre.out j h1 h2 (by rw [← hL.out]; exact h1)
        replace hR := Lib.hid hR
        go_wp2
        go_ret
        exact ⟨ret_bool hR.out.symm, hbe.out⟩
  · have hnei : ((l.length : Int) != (m.length : Int)) = true := bne_iff_ne.2 (by omega)
    have hR : eqB l m = false := by unfold eqB; rw [decide_eq_false_iff_not]; rintro rfl; exact hne rfl
    rw [hR]
    clear hR
    go_enter Tryz.func22, Tryz.ntmps22
    go_wp2
    go_ret
    exact ⟨rfl, Below.refl _ _⟩
theorem lo8_mod (n : Nat) : (n : Int) % 256 = ((lo8 n).toNat : Int) := by
  unfold lo8
  simp
/-- A made row is one's own. -/
theorem own_made (W : World) (cs : List UInt8) (B : Nat) (hB : B ≤ W.heap.size) (hl : cs.length ≤ 1000) :
    (W.alloc (.cells (bytesV cs).toArray 5)).ownsRow B 5 1 (.slice (some ⟨W.heap.size, 0, none⟩) cs.length cs.length) cs.length (bytesV cs) := by
  have hbl : (bytesV cs).length = cs.length := by simp [bytesV]
  refine ⟨by rw [hbl]; omega, .inr ⟨W.heap.size, cs.length, (bytesV cs).toArray, rfl, hB, heap_alloc_new W _, Nat.le_refl _, by simp only [maxLen]; omega, by simp [hbl], ?_⟩⟩
  rw [Nat.mul_one, ← hbl]
  simp
set_option maxRecDepth 100000 in
theorem four_call (n : Nat) (w : World) : Calls Tryz.prog 95 #[.int .i64 n] w fun e w' => e = .returned (.slice (some ⟨w.heap.size, 0, none⟩) 4 4) ∧ w' = w.alloc (.cells (bytesV (bigL n 4)).toArray 5) := by
  have hn : 0 ≤ (n : Int) := by omega
  have h1 := lo8_div n 24
  have h2 := lo8_div n 16
  have h3 := lo8_div n 8
  have h4 := lo8_mod n
  have hb : bytesV (bigL n 4) = [.int .u8 ((n : Int) / 2 ^ 24 % 256), .int .u8 ((n : Int) / 2 ^ 16 % 256), .int .u8 ((n : Int) / 2 ^ 8 % 256), .int .u8 ((n : Int) % 256)] := by
    rw [h1, h2, h3, h4]
    simp [bigL, bytesV]
  rw [hb]
  clear h1 h2 h3 h4 hb
  go_enter Tryz.func95, Tryz.ntmps95
  go_wp2
  go_ret
  exact ⟨rfl, rfl⟩
end Go.Proofs.YthecgifgjagmaaaGreatDoor.val
