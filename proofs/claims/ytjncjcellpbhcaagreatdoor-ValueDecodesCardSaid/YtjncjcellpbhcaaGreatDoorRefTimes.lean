/- Contract of the reference's times. -/
import Derived.Test.YtjncjcellpbhcaaGreatDoorRefPlus
namespace Go.Proofs.YtjncjcellpbhcaaGreatDoor.dec
open Go.ChangeShapes Go.WideShapes Go.ChangeAt Go.RowKit kit
set_option linter.unusedVariables false
set_option linter.unusedSimpArgs false
theorem vL_set (L : List Nat) (j x : Nat) (hj : j < L.length) : vL (L.set j x) + 10 ^ j * L.getD j 0 = vL L + 10 ^ j * x := by
  induction L generalizing j with
  | nil => simp at hj
  | cons d r ih =>
    cases j with
    | zero => simp [vL]; omega
    | succ j =>
      have h := ih j (by simpa using hj)
      rw [List.set_cons_succ, vL, vL, List.getD_cons_succ, Nat.pow_succ]
      have e1 : 10 ^ j * 10 * r.getD j 0 = 10 * (10 ^ j * r.getD j 0) := by rw [Nat.mul_comm (10 ^ j) 10, Nat.mul_assoc]
      have e2 : 10 ^ j * 10 * x = 10 * (10 ^ j * x) := by rw [Nat.mul_comm (10 ^ j) 10, Nat.mul_assoc]
      omega
theorem dgs_set {L : List Nat} (h : dgs L) (j : Nat) {x : Nat} (hx : x < 10) : dgs (L.set j x) := by
  intro d hd
  rcases List.mem_or_eq_of_mem_set hd with h1 | rfl
  · exact h d h1
  · exact hx
/-- What holds inside the inner loop. -/
structure TI (A B : List Nat) (n i k c : Nat) (L : List Nat) : Prop where
  len : L.length = n
  dig : dgs L
  c9 : c ≤ 9
  kl : k ≤ B.length ∨ (k = B.length + 1 ∧ c = 0)
  val : vL L + c * 10 ^ (i + k) = vL A % 10 ^ i * vL B + A.getD i 0 * (vL B % 10 ^ k) * 10 ^ i
theorem mod_ge {B : List Nat} (hB : dgs B) {k : Nat} (hk : B.length ≤ k) : vL B % 10 ^ k = vL B :=
  Nat.mod_eq_of_lt (Nat.lt_of_lt_of_le (vL_lt hB) (Nat.pow_le_pow_right (by decide) hk))
theorem times_row {A B : List Nat} (hA : dgs A) (i : Nat) : vL A % 10 ^ i * vL B + A.getD i 0 * vL B * 10 ^ i = vL A % 10 ^ (i + 1) * vL B := by
  rw [mod_step A hA, Nat.add_mul]; congr 1; ac_rfl
theorem TI.start {A B : List Nat} (hB : dgs B) {n i : Nat} {L : List Nat} (hl : L.length = n) (hd : dgs L) (hv : vL L = vL A % 10 ^ i * vL B) : TI A B n i 0 0 L :=
  ⟨hl, hd, by omega, .inl (by omega), by rw [hv]; simp [Nat.mod_one]⟩
theorem TI.done {A B : List Nat} (hA : dgs A) (hB : dgs B) {n i k c : Nat} {L : List Nat} (h : TI A B n i k c L) (hk : B.length ≤ k) (hc : c = 0) : L.length = n ∧ dgs L ∧ vL L = vL A % 10 ^ (i + 1) * vL B := by
  refine ⟨h.len, h.dig, ?_⟩
  have := h.val
  rw [mod_ge hB hk, hc, times_row hA] at this
  omega
theorem TI.step {A B : List Nat} (hA : dgs A) (hB : dgs B) {n i k c : Nat} {L : List Nat} (h : TI A B n i k c L) (hn : n = A.length + B.length + 1) (hi : i < A.length) (hk : k < B.length ∨ 0 < c) (m : Nat) (hm : m = L.getD (i + k) 0 + A.getD i 0 * B.getD k 0 + c) :
    m ≤ 99 ∧ i + k < n ∧ k ≤ B.length ∧ TI A B n i (k + 1) (m / 10) (L.set (i + k) (m % 10)) := by
  have hkb : k ≤ B.length := by rcases h.kl with h1 | h1 <;> omega
  have hj : i + k < L.length := by rw [h.len]; omega
  have l9 := dgs_getD h.dig (i + k)
  have a9 := dgs_getD hA i
  have b9 := dgs_getD hB k
  have hab : A.getD i 0 * B.getD k 0 ≤ 9 * 9 := Nat.mul_le_mul (by omega) (by omega)
  have hc := h.c9
  have hset := vL_set L (i + k) (m % 10) hj
  have e0 : m / 10 * 10 ^ (i + (k + 1)) = 10 ^ (i + k) * (10 * (m / 10)) := by rw [← Nat.add_assoc, Nat.pow_succ, Nat.mul_comm (m / 10), Nat.mul_assoc]
  have e1 : 10 ^ (i + k) * (m % 10) + 10 ^ (i + k) * (10 * (m / 10)) = 10 ^ (i + k) * m := by rw [← Nat.mul_add, Nat.mod_add_div]
  have e2 : 10 ^ (i + k) * m = 10 ^ (i + k) * L.getD (i + k) 0 + 10 ^ (i + k) * (A.getD i 0 * B.getD k 0) + c * 10 ^ (i + k) := by rw [hm, Nat.mul_add, Nat.mul_add, Nat.mul_comm c]
  have e3 : A.getD i 0 * (vL B % 10 ^ (k + 1)) * 10 ^ i = A.getD i 0 * (vL B % 10 ^ k) * 10 ^ i + 10 ^ (i + k) * (A.getD i 0 * B.getD k 0) := by
    rw [mod_step B hB, Nat.mul_add, Nat.add_mul, Nat.pow_add]
    congr 1
    ac_rfl
  have hv := h.val
  refine ⟨by omega, by omega, hkb, ⟨by rw [List.length_set]; exact h.len, dgs_set h.dig _ (Nat.mod_lt _ (by decide)), by omega, ?_, by omega⟩⟩
  rcases Nat.lt_or_ge k B.length with h1 | h1
  · exact .inl h1
  · right
    refine ⟨by omega, ?_⟩
    have hb0 : B.getD k 0 = 0 := by rw [List.getD_eq_getElem?_getD, List.getElem?_eq_none h1]; rfl
    rw [hb0, Nat.mul_zero, Nat.add_zero] at hm
    rw [mod_ge hB h1, times_row hA] at hv
    have p1 : vL A % 10 ^ (i + 1) < 10 ^ (i + 1) := Nat.mod_lt _ (Nat.pow_pos (by decide))
    have p2 := vL_lt hB
    have p3 : vL A % 10 ^ (i + 1) * vL B < 10 ^ (i + 1) * 10 ^ B.length := Nat.mul_lt_mul'' p1 p2
    have p4 : 10 ^ (i + 1) * 10 ^ B.length = 10 ^ (i + k) * 10 := by rw [← Nat.pow_add, ← Nat.pow_succ]; congr 1; omega
    have p5 : 10 ^ (i + k) * L.getD (i + k) 0 ≤ vL L := by
      have q := vL_get h.dig (i + k)
      have : L.getD (i + k) 0 ≤ vL L / 10 ^ (i + k) := by rw [← q]; exact Nat.mod_le _ _
      rw [Nat.mul_comm]
      exact (Nat.le_div_iff_mul_le (Nat.pow_pos (by decide))).1 this
    have p6 : 10 ^ (i + k) * m < 10 ^ (i + k) * 10 := by
      rw [hm, Nat.mul_add, Nat.mul_comm _ c]; omega
    have := Nat.lt_of_mul_lt_mul_left p6
    omega
/-- What holds of the world: the boxes, and the digits in their row. -/
structure TWr (w wr : World) (s t : Bool) (va vb : Value) (sa sb : Nat) (g n : Nat) (L : List Nat) : Prop where
  rw : RW w wr s t va vb sa sb
  own : wr.ownsRow (w.heap.size + 1 + 1 + 1) 3 1 (.slice (some ⟨g, 0, none⟩) n n) n (intsV L)
theorem TWr.drewN {w wr : World} {s t : Bool} {va vb : Value} {sa sb g n : Nat} {L : List Nat} (h : TWr w wr s t va vb sa sb g n L) (m : Nat) : TWr w (wr.drewN m) s t va vb sa sb g n L := ⟨h.rw.drewN m, h.own⟩
theorem TWr.set {w wr : World} {s t : Bool} {va vb : Value} {sa sb g n : Nat} {L : List Nat} (h : TWr w wr s t va vb sa sb g n L) (j x : Nat) : TWr w (wr.setCell ⟨g, j, none⟩ (.int .i64 (x : Int))) s t va vb sa sb g n (L.set j x) := by
  have hg : w.heap.size + 1 + 1 + 1 ≤ g := (h.own.lt g rfl).1
  refine ⟨⟨h.rw.below.setCell (by show w.heap.size ≤ g; omega) _, h.rw.b0.set_other _ (by show w.heap.size ≠ g; omega) _, h.rw.b1.set_other _ (by show w.heap.size + 1 ≠ g; omega) _, h.rw.b2.set_other _ (by show w.heap.size + 1 + 1 ≠ g; omega) _⟩, ?_⟩
  have h1 := (h.own.stored j (.int .i64 (x : Int))).1
  rw [intsV, List.map_set]
  exact h1
theorem TWr.cell {w wr : World} {s t : Bool} {va vb : Value} {sa sb g n : Nat} {L : List Nat} (h : TWr w wr s t va vb sa sb g n L) (j : Nat) (hj : j < n) (hn : L.length = n) : wr.cell? ⟨g, j, none⟩ = some (.int .i64 (L.getD j 0 : Nat)) ∧ wr.frozen? ⟨g, j, none⟩ = false := by
  refine ⟨?_, h.own.frozenAt j⟩
  rw [h.own.cellAt j (by omega)]
  simp [intsV, List.getD_eq_getElem?_getD, List.getElem?_eq_getElem (show j < L.length by omega)]
theorem IntsAt.nonempty {w : World} {v : Value} {D : List Nat} (h : IntsAt w v D) (hn : 1 ≤ D.length) : ∃ b off cap, v = .slice (some ⟨b, off, none⟩) D.length cap ∧ b < w.heap.size ∧ ∀ j, j < D.length → w.cell? ⟨b, off + j, none⟩ = some (.int .i64 (D.getD j 0 : Nat)) := by
  rcases h with ⟨_, rfl⟩ | h
  · simp at hn
  · exact h
set_option maxRecDepth 100000 in
set_option maxHeartbeats 4000000 in
theorem rtimes_any (s t : Bool) (va vb : Value) (A B : List Nat) (sa sb : Nat) (w : World) (hva : IntsAt w va A) (hvb : IntsAt w vb B) (hA : dgs A) (hB : dgs B) (na : 1 ≤ A.length) (nb : 1 ≤ B.length)
    (la : A.length ≤ 50000) (lb : B.length ≤ 50000) (ha : sa ≤ 40000) (hb : sb ≤ 40000) :
    Calls Tryz.prog 70 #[.agg (numc s va sa), .agg (numc t vb sb)] w fun e w' => ∃ v D,
      e = .returned (.agg (numc (s != t) v (sa + sb))) ∧ Below w.heap.size w w' ∧ IntsAt w' v D ∧ dgs D ∧ vL D = vL A * vL B ∧ D.length = A.length + B.length + 1 := by
  obtain ⟨n, hn⟩ : ∃ n, A.length + B.length + 1 = n := ⟨_, rfl⟩
  rw [hn]
  replace hn := Lib.hid hn
  have hni : (n : Int) = (A.length : Int) + (B.length : Int) + 1 := by have := hn.out; omega
  have hai : (sa : Int) ≤ 40000 := by omega
  have hbi : (sb : Int) ≤ 40000 := by omega
  have lai : (A.length : Int) ≤ 50000 := by omega
  have lbi : (B.length : Int) ≤ 50000 := by omega
  obtain ⟨i0, hi, hx⟩ := Option.map_eq_some_iff.1 infoInt
  simp only [Prod.mk.injEq] at hx
  obtain ⟨hz0, hz1, hz2⟩ := hx
  replace hi := Lib.hid hi
  replace hz0 := Lib.hid hz0
  replace hz1 := Lib.hid hz1
  replace hz2 := Lib.hid hz2
  replace hni := Lib.hid hni
  have hva0 := Lib.hid hva
  have hvb0 := Lib.hid hvb
  obtain ⟨ba, oa, ca, rfl, hlta, hca⟩ := hva.nonempty na
  obtain ⟨bo, cb, rfl⟩ := hvb.form
  replace hca := Lib.hid hca
  replace hA := Lib.hid hA
  replace hB := Lib.hid hB
  clear hva hvb
  go_enter Tryz.func70, Tryz.ntmps70
  go_upto_region 1 with (fail)
  have pw : RW w (((w.alloc (.cells (numc s (.slice (some ⟨ba, oa, none⟩) A.length ca) sa) 91)).alloc (.cells (numc t (.slice bo B.length cb) sb) 91)).alloc (.cells #[.bool false, .slice none 0 0, .int .i64 0] 91)) s t (.slice (some ⟨ba, oa, none⟩) A.length ca) (.slice bo B.length cb) sa sb := RW.made w s t _ _ sa sb
  generalize (((w.alloc (.cells (numc s (.slice (some ⟨ba, oa, none⟩) A.length ca) sa) 91)).alloc (.cells (numc t (.slice bo B.length cb) sb) 91)).alloc (.cells #[.bool false, .slice none 0 0, .int .i64 0] 91)) = W at *
  have a1 : W.cell? ⟨w.heap.size, 1, none⟩ = some (.slice (some ⟨ba, oa, none⟩) A.length ca) := pw.b0.cell 1 rfl
  have b1 : W.cell? ⟨w.heap.size + 1, 1, none⟩ = some (.slice bo B.length cb) := pw.b1.cell 1 rfl
  have hW3 := pw.b2.lt
  replace pw := Lib.hid pw
  go_wp2_with (first | (at_make; refine wpList_make_full _ rfl _ _ 89 rfl (w.heap.size + 1 + 1 + 1) 3 i0 (.int .i64 0) 1 Tryz.underlying89 hi.out hz0.out hz1.out .i64 .i64 ((A.length : Int) + (B.length : Int) + 1) ((A.length : Int) + (B.length : Int) + 1) n rfl rfl ?m1 ?m2 ?m3 ?m4 ?m5 ?m6) | fail)
  case m1 => exact hni.out.symm
  case m2 => exact hni.out.symm
  case m3 => rw [hz2.out]; have := hn.out; omega
  case m4 => simp only [maxLen]; have := hn.out; omega
  case m5 => omega
  case m6 =>
  intro w1 h1 h2
  have htw : TWr w w1 s t (.slice (some ⟨ba, oa, none⟩) A.length ca) (.slice bo B.length cb) sa sb W.heap.size n (List.replicate n 0) := ⟨pw.out.on ((Below.refl _ _).grown h2 (Nat.le_refl _) (fun k hk => by cases hk)), by rw [← made_ints]; exact h1⟩
  clear h1 h2 a1 b1
  generalize W.heap.size = g at *
  clear pw
  replace htw := Lib.hid htw
  go_wp2_with fail
  go_loopw [6] (fun v6 wr => ∃ (i : Nat) (L : List Nat), i ≤ A.length ∧ v6 = .int .i64 i ∧ Hid (L.length = n ∧ dgs L ∧ vL L = vL A % 10 ^ i * vL B) ∧ Hid (TWr w wr s t (.slice (some ⟨ba, oa, none⟩) A.length ca) (.slice bo B.length cb) sa sb g n L)) (fun v6 _ => A.length - (intOf v6).toNat)
  case atStart => exact ⟨0, List.replicate n 0, by omega, rfl, ⟨by simp, fun d hd => by rw [List.eq_of_mem_replicate hd]; decide, by rw [vL_zero.2 (fun d hd => List.eq_of_mem_replicate hd)]; simp [Nat.mod_one]⟩, htw⟩
  case round =>
    clear htw
    obtain ⟨i, L, hiA, rfl, hL, hT⟩ := hrel
    obtain ⟨wo, rfl⟩ : ∃ wo : World, wo = wr := ⟨_, rfl⟩
    have a0 : wo.cell? ⟨w.heap.size, 0, none⟩ = some (.bool s) := hT.out.rw.b0.cell 0 rfl
    have a1 : wo.cell? ⟨w.heap.size, 1, none⟩ = some (.slice (some ⟨ba, oa, none⟩) A.length ca) := hT.out.rw.b0.cell 1 rfl
    have a2 : wo.cell? ⟨w.heap.size, 2, none⟩ = some (.int .i64 sa) := hT.out.rw.b0.cell 2 rfl
    have b0 : wo.cell? ⟨w.heap.size + 1, 0, none⟩ = some (.bool t) := hT.out.rw.b1.cell 0 rfl
    have b2 : wo.cell? ⟨w.heap.size + 1, 2, none⟩ = some (.int .i64 sb) := hT.out.rw.b1.cell 2 rfl
    have hii : (i : Int) ≤ 50000 := by omega
    by_cases hil : i < A.length
    · have hili : (i : Int) < (A.length : Int) := by omega
      clear a0 a2 b0 b2
      go_wp2_with fail
      go_loopw [7, 8] (fun v7 v8 wr => ∃ (k c : Nat) (L : List Nat), v8 = .int .i64 k ∧ v7 = .int .i64 c ∧ Hid (TI A B n i k c L) ∧ Hid (TWr w wr s t (.slice (some ⟨ba, oa, none⟩) A.length ca) (.slice bo B.length cb) sa sb g n L)) (fun _ v8 _ => B.length + 2 - (intOf v8).toNat)
      case atStart => exact ⟨0, 0, L, rfl, rfl, TI.start hB.out hL.out.1 hL.out.2.1 hL.out.2.2, hT⟩
      case round =>
        clear a1 hT hL
        obtain ⟨k, c, L, rfl, rfl, hI, hT⟩ := hrel
        have hki : (k : Int) ≤ 50001 := by have := hI.out.kl; omega
        have hci : (c : Int) ≤ 9 := by have := hI.out.c9; omega
        have b1 : wr.cell? ⟨w.heap.size + 1, 1, none⟩ = some (.slice bo B.length cb) := hT.out.rw.b1.cell 1 rfl
        obtain ⟨q, hq⟩ : ∃ q : Bool, decide (k < B.length ∨ 0 < c) = q := ⟨_, rfl⟩
        replace hq := Lib.hid hq
        go_upto_region 7 with (fail)
        go_cut [34] (fun v wx => v = .bool q ∧ wx = wr)
        case first =>
          as_aux_lemma =>
            by_cases h1 : k < B.length
            · have h1i : (k : Int) < (B.length : Int) := by omega
              obtain rfl : true = q := by rw [← hq.out]; exact (decide_eq_true (.inl h1)).symm
              go_wp2
              go_meet
              exact ⟨rfl, rfl⟩
            · have h1i : ¬ (k : Int) < (B.length : Int) := by omega
              by_cases h3 : 0 < c
              · have h3i : 0 < (c : Int) := by omega
                obtain rfl : true = q := by rw [← hq.out]; exact (decide_eq_true (.inr h3)).symm
                go_wp2
                go_meet
                exact ⟨rfl, rfl⟩
              · have h3i : ¬ 0 < (c : Int) := by omega
                obtain rfl : false = q := by rw [← hq.out]; exact (decide_eq_false (fun e => e.elim h1 h3)).symm
                go_wp2
                go_meet
                exact ⟨rfl, rfl⟩
        obtain ⟨rfl, hwx⟩ := hcut
        rw [hwx]; clear hwx
        cases q
        case true =>
          obtain ⟨m, hm⟩ : ∃ m, m = L.getD (i + k) 0 + A.getD i 0 * B.getD k 0 + c := ⟨_, rfl⟩
          obtain ⟨hm99, hikn, hkb, hI2⟩ := TI.step hA.out hB.out hI.out hn.out.symm hil (of_decide_eq_true hq.out) m hm
          obtain ⟨lc, lf⟩ := hT.out.cell (i + k) hikn hI.out.len
          have ac : wr.cell? ⟨ba, oa + i, none⟩ = some (.int .i64 (A.getD i 0 : Nat)) := (hT.out.rw.below.cell (p := ⟨ba, oa + i, none⟩) hlta).trans (hca.out i hil)
          have a1 : wr.cell? ⟨w.heap.size, 1, none⟩ = some (.slice (some ⟨ba, oa, none⟩) A.length ca) := hT.out.rw.b0.cell 1 rfl
          have hbk := fun n => at_any (.slice bo B.length cb) B (k : Int) (wr.drewN n) ((hvb0.out.below hT.out.rw.below).drewN n) (by omega) (by omega) (by omega)
          rw [atL_nat] at hbk
          have hx9 : A.getD i 0 ≤ 9 := by have := dgs_getD hA.out i; omega
          have hy9 : B.getD k 0 ≤ 9 := by have := dgs_getD hB.out k; omega
          have hz9 : L.getD (i + k) 0 ≤ 9 := by have := dgs_getD hI.out.dig (i + k); omega
          have hp81 : A.getD i 0 * B.getD k 0 ≤ 81 := Nat.mul_le_mul hx9 hy9
          have hpi : ((A.getD i 0 : Nat) : Int) * ((B.getD k 0 : Nat) : Int) = ((A.getD i 0 * B.getD k 0 : Nat) : Int) := by rw [Int.natCast_mul]
          generalize A.getD i 0 * B.getD k 0 = p at *
          generalize A.getD i 0 = x at *
          generalize B.getD k 0 = y at *
          generalize L.getD (i + k) 0 = z at *
          have hmi : (z : Int) + (p : Int) + (c : Int) = (m : Int) := by omega
          have j0 : 0 ≤ (i : Int) + (k : Int) := by omega
          have j1 : (i : Int) + (k : Int) < (n : Int) := by omega
          have j2 : ((i : Int) + (k : Int)).toNat = i + k := by omega
          replace hbk := Lib.hid hbk
          replace hI2 := Lib.hid hI2
          clear hq hm
          go_wp2_with fail
          go_quiet ((go_at_call 103; exact Calls.quiet_of_same (hbk.out _)))
          go_wp2
          have hT2 := (hT.out.drewN nq).set (i + k) (m % 10)
          rw [show ((m % 10 : Nat) : Int) = (m : Int) % 10 from rfl] at hT2
          refine ⟨⟨k + 1, m / 10, L.set (i + k) (m % 10), congrArg _ (by omega), congrArg _ rfl, hI2.out, hT2⟩, ?_⟩
          simp only [intOf]
          omega
        case false =>
          have hq3 := of_decide_eq_false hq.out
          have hdone := Lib.hid (TI.done hA.out hB.out hI.out (by omega) (by omega))
          clear hq hq3 hI
          go_wp2
          refine ⟨⟨i + 1, L, by omega, congrArg _ (by omega), hdone, hT⟩, ?_⟩
          simp only [intOf]
          omega
    · have hili : ¬ (i : Int) < (A.length : Int) := by omega
      have hie : i = A.length := by omega
      have hv : vL L = vL A * vL B := by rw [hL.out.2.2, hie, Nat.mod_eq_of_lt (vL_lt hA.out)]
      have pw3 := hT.out.rw
      have hown := hT.out.own
      have hLl := hL.out.1
      have hd := Lib.hid hL.out.2.1
      have e0 : wo.cell? ⟨w.heap.size + 1 + 1, 0, none⟩ = some (.bool false) := pw3.b2.cell 0 rfl; have e1 : wo.cell? ⟨w.heap.size + 1 + 1, 1, none⟩ = some (.slice none 0 0) := pw3.b2.cell 1 rfl; have e2 : wo.cell? ⟨w.heap.size + 1 + 1, 2, none⟩ = some (.int .i64 0) := pw3.b2.cell 2 rfl; have g0 : wo.frozen? ⟨w.heap.size + 1 + 1, 0, none⟩ = false := pw3.b2.free 0; have g1 : wo.frozen? ⟨w.heap.size + 1 + 1, 1, none⟩ = false := pw3.b2.free 1; have g2 : wo.frozen? ⟨w.heap.size + 1 + 1, 2, none⟩ = false := pw3.b2.free 2
      have r0 := Lib.hid (((pw3.b2.set 0 (.bool (s != t))).set 1 (.slice (some ⟨g, 0, none⟩) n n)).set 2 (.int .i64 ((sa : Int) + (sb : Int))))
      have rb := Lib.hid (((pw3.below.setCell (p := ⟨w.heap.size + 1 + 1, 0, none⟩) (by show w.heap.size ≤ w.heap.size + 1 + 1; omega) (.bool (s != t))).setCell (p := ⟨w.heap.size + 1 + 1, 1, none⟩) (by show w.heap.size ≤ w.heap.size + 1 + 1; omega) (.slice (some ⟨g, 0, none⟩) n n)).setCell (p := ⟨w.heap.size + 1 + 1, 2, none⟩) (by show w.heap.size ≤ w.heap.size + 1 + 1; omega) (.int .i64 ((sa : Int) + (sb : Int))))
      have hlt2 : w.heap.size + 1 + 1 < w.heap.size + 1 + 1 + 1 := by omega
      have ri : IntsAt (((wo.setCell ⟨w.heap.size + 1 + 1, 0, none⟩ (.bool (s != t))).setCell ⟨w.heap.size + 1 + 1, 1, none⟩ (.slice (some ⟨g, 0, none⟩) n n)).setCell ⟨w.heap.size + 1 + 1, 2, none⟩ (.int .i64 ((sa : Int) + (sb : Int)))) (.slice (some ⟨g, 0, none⟩) n n) L := by
        rw [← hLl] at hown ⊢
        exact own_ints (own_set (own_set (own_set hown hlt2 0 _) hlt2 1 _) hlt2 2 _)
      replace ri := Lib.hid ri
      replace hv := Lib.hid hv
      replace hLl := Lib.hid hLl
      clear pw3 hown hT hL
      go_wp2_with fail
      exact bodyPost_ret (v := .agg (numc (s != t) (.slice (some ⟨g, 0, none⟩) n n) (sa + sb))) (results_cell_row rfl _ _ (w.heap.size + 1 + 1) 91 _ (0, 0) _ rfl r0.out.eq Tryz.underlying91 rfl infoNum) rfl
        ⟨_, rfl, rb.out, L, ri.out, hd.out, hv.out, hLl.out⟩
end Go.Proofs.YtjncjcellpbhcaaGreatDoor.dec
