/- The contract of light. -/
import Derived.Test.YtnocncmjdhlmkaaHOpen
namespace Go.Proofs.Ytnocncmjdhlmkaa.hyp
open Go.ChangeShapes Go.WideShapes Go.ChangeAt Go.RowKit kit
set_option linter.unusedVariables false
set_option linter.unusedSimpArgs false
def sizeE (E : List (List ByteArray)) : Nat := (E.map fun e => 1 + e.length).sum
def sizeB (bs : List BagD) : Nat := (bs.map fun b => 1 + b.names.length + b.edges.length).sum
def lightB (E : List (List ByteArray)) (bs : List BagD) : Bool := decide (sizeE E + sizeB bs ≤ 400)
theorem sum_take {α : Type} (f : α → Nat) (L : List α) {k : Nat} (h : k < L.length) : ((L.take (k + 1)).map f).sum = ((L.take k).map f).sum + f L[k] := by
  rw [List.take_succ_eq_append_getElem h, List.map_append, List.sum_append]
  simp
theorem sum_few {α : Type} (f : α → Nat) (L : List α) (M : Nat) (h : ∀ a ∈ L, f a ≤ M) : ∀ k, ((L.take k).map f).sum ≤ k * M
  | 0 => by simp
  | k + 1 => by
    have ih := sum_few f L M h k
    by_cases hk : k < L.length
    · rw [sum_take f L hk, Nat.add_mul]
      have := h _ (List.getElem_mem hk)
      omega
    · rw [List.take_of_length_le (by omega)]
      rw [List.take_of_length_le (by omega)] at ih
      rw [Nat.add_mul]
      omega
theorem bags_at {w : World} {B : Nat} {v : Value} {bs : List BagD} (h : BagsA w B v bs) : ∃ al cl, v = .slice al bs.length cl ∧ ∀ j (hj : j < bs.length), ∃ b off a1 c1 a2 c2, al = some ⟨b, off, none⟩ ∧ w.cell? ⟨b, off + j * 3, none⟩ = some (.slice a1 bs[j].names.length c1) ∧ w.cell? ⟨b, off + j * 3 + 1, none⟩ = some (.slice a2 bs[j].edges.length c2) := by
  obtain ⟨al, cl, rfl, hj⟩ := h
  refine ⟨al, cl, rfl, fun j hjl => ?_⟩
  obtain ⟨b, off, vv, ve, h1, -, h2, h3, -, h4, h5⟩ := hj j hjl
  obtain ⟨a1, c1, rfl, -⟩ := h4.form
  obtain ⟨a2, c2, rfl, -⟩ := h5.form
  rw [numsV_length] at h3
  exact ⟨b, off, a1, c1, a2, c2, h1, h2, h3⟩
set_option maxRecDepth 100000 in
set_option maxHeartbeats 4000000 in
theorem light_any (w : World) (v : Value) (ao : Option Addr) (cap : Nat) (E : List (List ByteArray)) (width seed : Int) (lv : Value) (bs : List BagD) (hG : GraphA w v ao cap E width seed lv bs) :
    Calls Try.prog 9 #[v] w fun e w' => e = .returned (.bool (lightB E bs)) ∧ Below w.heap.size w w' := by
  obtain ⟨rfl, hE, hl, hle, hB, hbl, hbs, -, -⟩ := hG
  obtain ⟨al, cl, rfl, hbc⟩ := bags_at hB
  obtain ⟨ao2, cap2, hv, hec⟩ := hE.form
  obtain ⟨rfl, rfl⟩ : ao = ao2 ∧ cap = cap2 := by injection hv with h1 h2 h3; exact ⟨h1, h3⟩
  have hbw : Hid (Below w.heap.size w (w.alloc (.cells #[.slice ao E.length cap, .int .i64 width, .int .i64 seed, .slice al bs.length cl] 25))) := Lib.hid ((Below.refl _ _).alloc (Nat.le_refl _) _)
  have hq := Blk.new w #[.slice ao E.length cap, .int .i64 width, .int .i64 seed, .slice al bs.length cl] 25
  have z0 := hq.cell 0 rfl
  have z3 := hq.cell 3 rfl
  have hfe := sum_few (fun e : List ByteArray => 1 + e.length) E 1048577 (fun e he => by have := hle e he; omega)
  have hfb := sum_few (fun b : BagD => 1 + b.names.length + b.edges.length) bs 2097153 (fun b hb => by have := hbs b hb; omega)
  replace hec : Hid (∀ j (hj : j < E.length), ∃ b off a c, ao = some ⟨b, off, none⟩ ∧ (w.alloc (.cells #[.slice ao E.length cap, .int .i64 width, .int .i64 seed, .slice al bs.length cl] 25)).cell? ⟨b, off + j, none⟩ = some (.slice a E[j].length c)) := Lib.hid fun j hj => by
    obtain ⟨b, off, u, h1, -, h2, h3⟩ := hec j hj
    obtain ⟨a, c, rfl, -⟩ := h3.form
    exact ⟨b, off, a, c, h1, (stay_of_below hbw.out).cell h2⟩
  replace hbc : Hid (∀ j (hj : j < bs.length), ∃ b off a1 c1 a2 c2, al = some ⟨b, off, none⟩ ∧ (w.alloc (.cells #[.slice ao E.length cap, .int .i64 width, .int .i64 seed, .slice al bs.length cl] 25)).cell? ⟨b, off + j * 3, none⟩ = some (.slice a1 bs[j].names.length c1) ∧ (w.alloc (.cells #[.slice ao E.length cap, .int .i64 width, .int .i64 seed, .slice al bs.length cl] 25)).cell? ⟨b, off + j * 3 + 1, none⟩ = some (.slice a2 bs[j].edges.length c2)) := Lib.hid fun j hj => by
    obtain ⟨b, off, a1, c1, a2, c2, h1, h2, h3⟩ := hbc j hj
    exact ⟨b, off, a1, c1, a2, c2, h1, (stay_of_below hbw.out).cell h2, (stay_of_below hbw.out).cell h3⟩
  obtain ⟨q, hqd⟩ : ∃ q, lightB E bs = q := ⟨_, rfl⟩
  rw [hqd]
  replace hqd := Lib.hid hqd
  replace hfe := Lib.hid hfe
  replace hfb := Lib.hid hfb
  clear hq hE hB hv
  go_enter Try.func9, Try.ntmps9
  go_wp2
  generalize w.alloc (.cells #[.slice ao E.length cap, .int .i64 width, .int .i64 seed, .slice al bs.length cl] 25) = w1 at *
  go_loop [3, 4] (fun n i => ∃ k s : Nat, k ≤ E.length ∧ i = .int .i64 (k : Int) ∧ n = .int .i64 (s : Int) ∧ s ≤ 1099512676352 ∧ Hid (((E.take k).map fun e => 1 + e.length).sum = s)) (fun _ i => E.length - (intOf i).toNat)
  case atStart => exact ⟨0, 0, by omega, rfl, rfl, by omega, Lib.hid (by simp)⟩
  case round =>
    obtain ⟨k, s, hk, rfl, rfl, hs, hsum⟩ := hrel
    by_cases hlt : k < E.length
    · have hki : (k : Int) < (E.length : Int) := by omega
      have hk1 := Lib.hid (show k + 1 ≤ E.length from hlt)
      obtain ⟨b, off, a, c, rfl, hc⟩ := hec.out k hlt
      have hs1 := sum_take (fun e : List ByteArray => 1 + e.length) E hlt
      have hf := hfe.out (k + 1)
      have hm : (k + 1) * 1048577 ≤ 1048576 * 1048577 := Nat.mul_le_mul_right _ (by omega)
      have hle1 := hle _ (List.getElem_mem hlt)
      rw [hsum.out] at hs1
      generalize E[k] = e at *
      have hs2 : Hid (((E.take (k + 1)).map fun e => 1 + e.length).sum = s + 1 + e.length) := Lib.hid (by rw [hs1]; omega)
      have hsl : s + 1 + e.length ≤ 1099512676352 := by rw [← hs2.out]; omega
      clear hs1 hf hm hsum
      go_wp2
      go_round
      case rel => exact ⟨k + 1, s + 1 + e.length, hk1.out, by go_num, by go_num, hsl, hs2⟩
      case measure => have := hk1.out; simp [intOf]; omega
    · have hki : ¬ (k : Int) < (E.length : Int) := by omega
      obtain rfl : k = E.length := by omega
      have hsE : Hid (sizeE E = s) := Lib.hid (by rw [← hsum.out, List.take_length]; rfl)
      clear hsum hfe hec
      go_wp2
      go_loopw [3, 5] (fun n i wr => ∃ k t : Nat, k ≤ bs.length ∧ i = .int .i64 (k : Int) ∧ n = .int .i64 ((s + t : Nat) : Int) ∧ t ≤ 2199024304128 ∧ Hid (((bs.take k).map fun b => 1 + b.names.length + b.edges.length).sum = t) ∧ Hid (Below w1.heap.size w1 wr)) (fun _ i _ => bs.length - (intOf i).toNat)
      case atStart => exact ⟨0, 0, by omega, rfl, rfl, by omega, Lib.hid (by simp), Lib.hid (Below.refl _ _)⟩
      case round =>
        obtain ⟨k, t, hk, rfl, rfl, ht, hsum, hbr⟩ := hrel
        have hst := stay_of_below hbr.out
        have z3r := hst.cell z3
        by_cases hlt : k < bs.length
        · have hki : (k : Int) < (bs.length : Int) := by omega
          have hk1 := Lib.hid (show k + 1 ≤ bs.length from hlt)
          obtain ⟨b, off, a1, c1, a2, c2, rfl, y0, y1⟩ := hbc.out k hlt
          replace y0 := hst.cell y0
          replace y1 := hst.cell y1
          have hs1 := sum_take (fun b : BagD => 1 + b.names.length + b.edges.length) bs hlt
          have hf := hfb.out (k + 1)
          have hm : (k + 1) * 2097153 ≤ 1048576 * 2097153 := Nat.mul_le_mul_right _ (by omega)
          have hbs1 := hbs _ (List.getElem_mem hlt)
          rw [hsum.out] at hs1
          generalize bs[k] = bd at *
          generalize bd.names.length = x1 at *
          generalize bd.edges.length = x2 at *
          have hs2 : Hid (((bs.take (k + 1)).map fun b => 1 + b.names.length + b.edges.length).sum = t + 1 + x1 + x2) := Lib.hid (by rw [hs1]; omega)
          have htl : t + 1 + x1 + x2 ≤ 2199024304128 := by rw [← hs2.out]; omega
          clear hs1 hf hm hsum hst
          obtain ⟨u, hu⟩ : ∃ u, s + t = u := ⟨_, rfl⟩
          have hu1 : Hid (s + (t + 1 + x1 + x2) = u + 1 + x1 + x2) := Lib.hid (by omega)
          have huL : u ≤ 3298536980480 := by omega
          rw [hu]
          replace hu := Lib.hid hu
          have ew1 : IntKind.i64.wrap ((u : Int) + 1) = (u : Int) + 1 := IntWalk.i64_in _ (by omega)
          have ew2 : IntKind.i64.wrap ((u : Int) + 1 + (x1 : Int)) = (u : Int) + 1 + (x1 : Int) := IntWalk.i64_in _ (by omega)
          have ew3 : IntKind.i64.wrap ((u : Int) + 1 + (x1 : Int) + (x2 : Int)) = (u : Int) + 1 + (x1 : Int) + (x2 : Int) := IntWalk.i64_in _ (by omega)
          have hbd : Hid (Below w1.heap.size w1 wr.drew) := Lib.hid (hbr.out.trans ⟨rfl, rfl, rfl, Nat.le_refl _, fun _ _ => rfl⟩)
          clear hbr
          go_wp2_with fail
          refine wp_region_held_drew (S := fun V => V.cell? ⟨w.heap.size, 3, none⟩ = some (.slice (some ⟨b, off, none⟩) bs.length cl) ∧ V.cell? ⟨b, off + k * 3, none⟩ = some (.slice a1 x1 c1) ∧ V.cell? ⟨b, off + k * 3 + 1, none⟩ = some (.slice a2 x2 c2)) (by kernel_rfl) ⟨z3r, y0, y1⟩ (fun hS => ?_)
          clear z3r y0 y1
          generalize wr.drew = V at *
          refine wpAnyH_take (i := 0) (v := ?_) rfl (by kernel_rfl) (by kernel_rfl) (by kernel_rfl) (fun _ _ _ h => h) (.inl ⟨by kernel_rfl, fun w' hS => ?_⟩) hS ?_
          rotate_left
          ·
            obtain ⟨q1, q2, q3⟩ := hS
            go_simp
            try with_reducible rfl
          simp only [List.getElem_toArray, List.getElem_cons_succ, List.getElem_cons_zero, Act.put, List.setIfInBounds_toArray, List.set_cons_zero, List.set_cons_succ]
          refine wpAnyH_take (i := 1) (v := ?_) rfl (by kernel_rfl) (by kernel_rfl) (by kernel_rfl) (fun _ _ _ h => h) (.inl ⟨by kernel_rfl, fun w' hS => ?_⟩) hS ?_
          rotate_left
          ·
            obtain ⟨q1, q2, q3⟩ := hS
            go_simp
            try with_reducible rfl
          simp only [List.getElem_toArray, List.getElem_cons_succ, List.getElem_cons_zero, Act.put, List.setIfInBounds_toArray, List.set_cons_zero, List.set_cons_succ]
          refine wpAnyH_take (i := 2) (v := ?_) rfl (by kernel_rfl) (by kernel_rfl) (by kernel_rfl) (fun _ _ _ h => h) (.inl ⟨by kernel_rfl, fun w' hS => ?_⟩) hS ?_
          rotate_left
          ·
            obtain ⟨q1, q2, q3⟩ := hS
            go_simp
            try with_reducible rfl
          simp only [List.getElem_toArray, List.getElem_cons_succ, List.getElem_cons_zero, Act.put, List.setIfInBounds_toArray, List.set_cons_zero, List.set_cons_succ]
          refine wpAnyH_take (i := 3) (v := ?_) rfl (by kernel_rfl) (by kernel_rfl) (by kernel_rfl) (fun _ _ _ h => h) (.inl ⟨by kernel_rfl, fun w' hS => ?_⟩) hS ?_
          rotate_left
          ·
            obtain ⟨q1, q2, q3⟩ := hS
            go_simp
            try with_reducible rfl
          simp only [List.getElem_toArray, List.getElem_cons_succ, List.getElem_cons_zero, Act.put, List.setIfInBounds_toArray, List.set_cons_zero, List.set_cons_succ]
          refine wpAnyH_take (i := 4) (v := ?_) rfl (by kernel_rfl) (by kernel_rfl) (by kernel_rfl) (fun _ _ _ h => h) (.inl ⟨by kernel_rfl, fun w' hS => ?_⟩) hS ?_
          rotate_left
          ·
            obtain ⟨q1, q2, q3⟩ := hS
            go_simp
            try with_reducible rfl
          simp only [List.getElem_toArray, List.getElem_cons_succ, List.getElem_cons_zero, Act.put, List.setIfInBounds_toArray, List.set_cons_zero, List.set_cons_succ]
          refine wpAnyH_take (i := 5) (v := ?_) rfl (by kernel_rfl) (by kernel_rfl) (by kernel_rfl) (fun _ _ _ h => h) (.inl ⟨by kernel_rfl, fun w' hS => ?_⟩) hS ?_
          rotate_left
          ·
            obtain ⟨q1, q2, q3⟩ := hS
            go_simp
            try with_reducible rfl
          simp only [List.getElem_toArray, List.getElem_cons_succ, List.getElem_cons_zero, Act.put, List.setIfInBounds_toArray, List.set_cons_zero, List.set_cons_succ]
          refine wpAnyH_take (i := 6) (v := ?_) rfl (by kernel_rfl) (by kernel_rfl) (by kernel_rfl) (fun _ _ _ h => h) (.inl ⟨by kernel_rfl, fun w' hS => ?_⟩) hS ?_
          rotate_left
          ·
            obtain ⟨q1, q2, q3⟩ := hS
            go_simp
            try with_reducible rfl
          simp only [List.getElem_toArray, List.getElem_cons_succ, List.getElem_cons_zero, Act.put, List.setIfInBounds_toArray, List.set_cons_zero, List.set_cons_succ]
          refine wpAnyH_take (i := 7) (v := ?_) rfl (by kernel_rfl) (by kernel_rfl) (by kernel_rfl) (fun _ _ _ h => h) (.inl ⟨by kernel_rfl, fun w' hS => ?_⟩) hS ?_
          rotate_left
          ·
            obtain ⟨q1, q2, q3⟩ := hS
            go_simp
            try with_reducible rfl
          simp only [List.getElem_toArray, List.getElem_cons_succ, List.getElem_cons_zero, Act.put, List.setIfInBounds_toArray, List.set_cons_zero, List.set_cons_succ]
          refine wpAnyH_take (i := 8) (v := ?_) rfl (by kernel_rfl) (by kernel_rfl) (by kernel_rfl) (fun _ _ _ h => h) (.inl ⟨by kernel_rfl, fun w' hS => ?_⟩) hS ?_
          rotate_left
          ·
            obtain ⟨q1, q2, q3⟩ := hS
            go_simp
            try with_reducible rfl
          simp only [List.getElem_toArray, List.getElem_cons_succ, List.getElem_cons_zero, Act.put, List.setIfInBounds_toArray, List.set_cons_zero, List.set_cons_succ]
          refine wpAnyH_take (i := 9) (v := ?_) rfl (by kernel_rfl) (by kernel_rfl) (by kernel_rfl) (fun _ _ _ h => h) (.inl ⟨by kernel_rfl, fun w' hS => ?_⟩) hS ?_
          rotate_left
          ·
            obtain ⟨q1, q2, q3⟩ := hS
            go_simp
            try with_reducible rfl
          simp only [List.getElem_toArray, List.getElem_cons_succ, List.getElem_cons_zero, Act.put, List.setIfInBounds_toArray, List.set_cons_zero, List.set_cons_succ]
          refine wpAnyH_take (i := 10) (v := ?_) rfl (by kernel_rfl) (by kernel_rfl) (by kernel_rfl) (fun _ _ _ h => h) (.inl ⟨by kernel_rfl, fun w' hS => ?_⟩) hS ?_
          rotate_left
          ·
            obtain ⟨q1, q2, q3⟩ := hS
            go_simp
            try with_reducible rfl
          simp only [List.getElem_toArray, List.getElem_cons_succ, List.getElem_cons_zero, Act.put, List.setIfInBounds_toArray, List.set_cons_zero, List.set_cons_succ]
          refine wpAnyH_take (i := 11) (v := ?_) rfl (by kernel_rfl) (by kernel_rfl) (by kernel_rfl) (fun _ _ _ h => h) (.inl ⟨by kernel_rfl, fun w' hS => ?_⟩) hS ?_
          rotate_left
          ·
            obtain ⟨q1, q2, q3⟩ := hS
            go_simp
            try with_reducible rfl
          simp only [List.getElem_toArray, List.getElem_cons_succ, List.getElem_cons_zero, Act.put, List.setIfInBounds_toArray, List.set_cons_zero, List.set_cons_succ]
          refine wpAnyH_take (i := 12) (v := ?_) rfl (by kernel_rfl) (by kernel_rfl) (by kernel_rfl) (fun _ _ _ h => h) (.inl ⟨by kernel_rfl, fun w' hS => ?_⟩) hS ?_
          rotate_left
          ·
            obtain ⟨q1, q2, q3⟩ := hS
            go_simp
            try with_reducible rfl
          simp only [List.getElem_toArray, List.getElem_cons_succ, List.getElem_cons_zero, Act.put, List.setIfInBounds_toArray, List.set_cons_zero, List.set_cons_succ]
          refine wpAnyH_take (i := 13) (v := ?_) rfl (by kernel_rfl) (by kernel_rfl) (by kernel_rfl) (fun _ _ _ h => h) (.inl ⟨by kernel_rfl, fun w' hS => ?_⟩) hS ?_
          rotate_left
          ·
            obtain ⟨q1, q2, q3⟩ := hS
            go_simp
            try with_reducible rfl
          simp only [List.getElem_toArray, List.getElem_cons_succ, List.getElem_cons_zero, Act.put, List.setIfInBounds_toArray, List.set_cons_zero, List.set_cons_succ]
          refine wpAnyH_take (i := 14) (v := ?_) rfl (by kernel_rfl) (by kernel_rfl) (by kernel_rfl) (fun _ _ _ h => h) (.inl ⟨by kernel_rfl, fun w' hS => ?_⟩) hS ?_
          rotate_left
          ·
            obtain ⟨q1, q2, q3⟩ := hS
            go_simp
            try with_reducible rfl
          simp only [List.getElem_toArray, List.getElem_cons_succ, List.getElem_cons_zero, Act.put, List.setIfInBounds_toArray, List.set_cons_zero, List.set_cons_succ]
          refine wpAnyH_take (i := 15) (v := ?_) rfl (by kernel_rfl) (by kernel_rfl) (by kernel_rfl) (fun _ _ _ h => h) (.inl ⟨by kernel_rfl, fun w' hS => ?_⟩) hS ?_
          rotate_left
          ·
            obtain ⟨q1, q2, q3⟩ := hS
            go_simp
            try with_reducible rfl
          simp only [List.getElem_toArray, List.getElem_cons_succ, List.getElem_cons_zero, Act.put, List.setIfInBounds_toArray, List.set_cons_zero, List.set_cons_succ]
          refine wpAnyH_take (i := 16) (v := ?_) rfl (by kernel_rfl) (by kernel_rfl) (by kernel_rfl) (fun _ _ _ h => h) (.inl ⟨by kernel_rfl, fun w' hS => ?_⟩) hS ?_
          rotate_left
          ·
            obtain ⟨q1, q2, q3⟩ := hS
            go_simp
            try with_reducible rfl
          simp only [List.getElem_toArray, List.getElem_cons_succ, List.getElem_cons_zero, Act.put, List.setIfInBounds_toArray, List.set_cons_zero, List.set_cons_succ]
          refine wpAnyH_take (i := 17) (v := ?_) rfl (by kernel_rfl) (by kernel_rfl) (by kernel_rfl) (fun _ _ _ h => h) (.inl ⟨by kernel_rfl, fun w' hS => ?_⟩) hS ?_
          rotate_left
          ·
            obtain ⟨q1, q2, q3⟩ := hS
            go_simp
            try with_reducible rfl
          simp only [List.getElem_toArray, List.getElem_cons_succ, List.getElem_cons_zero, Act.put, List.setIfInBounds_toArray, List.set_cons_zero, List.set_cons_succ]
          refine wpAnyH_take (i := 18) (v := ?_) rfl (by kernel_rfl) (by kernel_rfl) (by kernel_rfl) (fun _ _ _ h => h) (.inl ⟨by kernel_rfl, fun w' hS => ?_⟩) hS ?_
          rotate_left
          ·
            obtain ⟨q1, q2, q3⟩ := hS
            go_simp
            try with_reducible rfl
          simp only [List.getElem_toArray, List.getElem_cons_succ, List.getElem_cons_zero, Act.put, List.setIfInBounds_toArray, List.set_cons_zero, List.set_cons_succ]
          refine wpAnyH_done (by kernel_rfl) ?_ _
          clear hS ew1 ew2 ew3
          go_wp2
          go_roundw
          case rel => exact ⟨k + 1, t + 1 + x1 + x2, hk1.out, by go_num, by rw [hu1.out]; go_num, htl, hs2, hbd⟩
          case measure => have := hk1.out; simp [intOf]; omega
        · have hki : ¬ (k : Int) < (bs.length : Int) := by omega
          obtain rfl : k = bs.length := by omega
          have hqe : Hid (q = decide (s + t ≤ 400)) := Lib.hid (by rw [← hqd.out, ← hsE.out, ← hsum.out, List.take_length]; rfl)
          have hfin := Lib.hid (hbw.out.trans (hbr.out.mono hbw.out.size))
          have hdec : decide (((s + t : Nat) : Int) ≤ 400) = decide (s + t ≤ 400) := by
            by_cases h : s + t ≤ 400
            · rw [decide_eq_true h, decide_eq_true (by omega)]
            · rw [decide_eq_false h, decide_eq_false (by omega)]
          clear hsum hst hbr
          go_wp2
          go_ret
          exact ⟨ret_bool (by rw [hqe.out]; simpa using hdec), hfin.out⟩
end Go.Proofs.Ytnocncmjdhlmkaa.hyp
