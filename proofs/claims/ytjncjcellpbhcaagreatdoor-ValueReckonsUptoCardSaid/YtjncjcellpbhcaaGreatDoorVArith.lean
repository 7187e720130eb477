/- Contract of value.Arith: what an operation makes of two values. -/
import Derived.Test.YtjncjcellpbhcaaGreatDoorVInts
import Derived.Test.YtjncjcellpbhcaaGreatDoorVEqA
namespace Go.Proofs.YtjncjcellpbhcaaGreatDoor.val
open Go.ChangeShapes Go.WideShapes Go.ChangeAt Go.RowKit kit dec
set_option linter.unusedVariables false
set_option linter.unusedSimpArgs false
/-- Two values in boxes, and the box of what is told. -/
structure A3 (w W : World) (c d : Array Value) : Prop where
  below : Below w.heap.size w W
  size : w.heap.size + 3 ≤ W.heap.size
  b0 : Blk W w.heap.size c 26
  b1 : Blk W (w.heap.size + 1) d 26
  b2 : Blk W (w.heap.size + 1 + 1) #[.int .i64 0, .bool false, .int .i64 0, .string ByteArray.empty, .string ByteArray.empty, .slice none 0 0] 26
theorem A3.made (w : World) (c d : Array Value) : A3 w (((w.alloc (.cells c 26)).alloc (.cells d 26)).alloc (.cells #[.int .i64 0, .bool false, .int .i64 0, .string ByteArray.empty, .string ByteArray.empty, .slice none 0 0] 26)) c d := by
  refine ⟨((((Keep.refl [] w).alloc _).alloc _).alloc _).below, by simp only [World.size_alloc]; omega, ((Blk.new _ _ _).alloc _).alloc _, ?_, ?_⟩
  · have := (Blk.new (w.alloc (.cells c 26)) d 26).alloc (.cells #[.int .i64 0, .bool false, .int .i64 0, .string ByteArray.empty, .string ByteArray.empty, .slice none 0 0] 26)
    rwa [World.size_alloc] at this
  · have := Blk.new ((w.alloc (.cells c 26)).alloc (.cells d 26)) #[.int .i64 0, .bool false, .int .i64 0, .string ByteArray.empty, .string ByteArray.empty, .slice none 0 0] 26
    rwa [World.size_alloc, World.size_alloc] at this
theorem A3.on {w W W' : World} {c d : Array Value} (h : A3 w W c d) (hb : Below W.heap.size W W') : A3 w W' c d :=
  ⟨h.below.trans (hb.mono h.below.size), Nat.le_trans h.size hb.size, h.b0.keep (Keep.ofBelow hb) (by simp), h.b1.keep (Keep.ofBelow hb) (by simp), h.b2.keep (Keep.ofBelow hb) (by simp)⟩
theorem A3.cells {w W : World} {c0 c1 c2 c3 c4 c5 d0 d1 d2 d3 d4 d5 : Value} (h : A3 w W #[c0, c1, c2, c3, c4, c5] #[d0, d1, d2, d3, d4, d5]) :
    W.cell? ⟨w.heap.size, 0, none⟩ = some c0 ∧ W.cell? ⟨w.heap.size, 1, none⟩ = some c1 ∧ W.cell? ⟨w.heap.size, 2, none⟩ = some c2 ∧ W.cell? ⟨w.heap.size, 3, none⟩ = some c3 ∧ W.cell? ⟨w.heap.size, 4, none⟩ = some c4 ∧ W.cell? ⟨w.heap.size, 5, none⟩ = some c5 ∧
    W.cell? ⟨w.heap.size + 1, 0, none⟩ = some d0 ∧ W.cell? ⟨w.heap.size + 1, 1, none⟩ = some d1 ∧ W.cell? ⟨w.heap.size + 1, 2, none⟩ = some d2 ∧ W.cell? ⟨w.heap.size + 1, 3, none⟩ = some d3 ∧ W.cell? ⟨w.heap.size + 1, 4, none⟩ = some d4 ∧ W.cell? ⟨w.heap.size + 1, 5, none⟩ = some d5 ∧
    W.cell? ⟨w.heap.size + 1 + 1, 0, none⟩ = some (.int .i64 0) ∧ W.cell? ⟨w.heap.size + 1 + 1, 1, none⟩ = some (.bool false) ∧ W.cell? ⟨w.heap.size + 1 + 1, 2, none⟩ = some (.int .i64 0) ∧ W.cell? ⟨w.heap.size + 1 + 1, 3, none⟩ = some (.string ByteArray.empty) ∧ W.cell? ⟨w.heap.size + 1 + 1, 4, none⟩ = some (.string ByteArray.empty) ∧ W.cell? ⟨w.heap.size + 1 + 1, 5, none⟩ = some (.slice none 0 0) ∧
    ∀ i, W.frozen? ⟨w.heap.size + 1 + 1, i, none⟩ = false :=
  ⟨h.b0.cell 0 rfl, h.b0.cell 1 rfl, h.b0.cell 2 rfl, h.b0.cell 3 rfl, h.b0.cell 4 rfl, h.b0.cell 5 rfl, h.b1.cell 0 rfl, h.b1.cell 1 rfl, h.b1.cell 2 rfl, h.b1.cell 3 rfl, h.b1.cell 4 rfl, h.b1.cell 5 rfl, h.b2.cell 0 rfl, h.b2.cell 1 rfl, h.b2.cell 2 rfl, h.b2.cell 3 rfl, h.b2.cell 4 rfl, h.b2.cell 5 rfl, h.b2.free⟩
theorem _root_.Go.Proofs.YtjncjcellpbhcaaGreatDoor.kit.Blk.heap6 {w : World} {b g : Nat} {cs : Array Value} {t : TypeId} (h : Blk w b cs t) (hne : b ≠ g) (v0 v1 v2 v3 v4 v5 : Value) : Blk (set6 w g v0 v1 v2 v3 v4 v5) b cs t := (heap_set6 w g v0 v1 v2 v3 v4 v5 b hne).trans h
theorem A3.set {w W : World} {c d : Array Value} (h : A3 w W c d) (v0 v1 v2 v3 v4 v5 : Value) : Blk (set6 W (w.heap.size + 1 + 1) v0 v1 v2 v3 v4 v5) (w.heap.size + 1 + 1) #[v0, v1, v2, v3, v4, v5] 26 ∧ Below w.heap.size w (set6 W (w.heap.size + 1 + 1) v0 v1 v2 v3 v4 v5) :=
  ⟨Blk.set6 h.b2 _ _ _ _ _ _, Below.set6 h.below (by omega) _ _ _ _ _ _⟩
set_option maxRecDepth 100000 in
set_option maxHeartbeats 8000000 in
theorem arith_call (lang op : Int) (w : World) (hE : Env w) (k : Int) (b : Bool) (n : Int) (hn : In64 n) (t x : ByteArray) (s : Value) (l : List V) (k2 : Int) (bb : Bool) (n2 : Int) (hn2 : In64 n2) (t2 x2 : ByteArray) (s2 : Value) (l2 : List V)
    (ha : LA w 1048576 s l) (ht : t.size ≤ 1048576) (hx : x.size ≤ 1048576) (ha2 : LA w 1048576 s2 l2) (ht2 : t2.size ≤ 1048576) (hx2 : x2.size ≤ 1048576) :
    Calls Tryz.prog 12 #[.int .i64 lang, .int .i64 op, agg6 k b n t x s, agg6 k2 bb n2 t2 x2 s2] w (AR w 1048576 (arithV (decide (lang = 1)) op (.mk k b n t x l) (.mk k2 bb n2 t2 x2 l2))) := by
  obtain ⟨aoA, capA, rfl⟩ := ha.form6
  obtain ⟨aoB, capB, rfl⟩ := ha2.form6
  have hq := A3.made w #[.int .i64 k, .bool b, .int .i64 n, .string t, .string x, .slice aoA l.length capA] #[.int .i64 k2, .bool bb, .int .i64 n2, .string t2, .string x2, .slice aoB l2.length capB]
  have hck := fun W (h : A3 w W #[.int .i64 k, .bool b, .int .i64 n, .string t, .string x, .slice aoA l.length capA] #[.int .i64 k2, .bool bb, .int .i64 n2, .string t2, .string x2, .slice aoB l2.length capB]) => check_any 1048576 (by omega) W (hE.below h.below) k b n t x _ l (ha.stay h.below) ht hx
  have hck2 := fun W (h : A3 w W #[.int .i64 k, .bool b, .int .i64 n, .string t, .string x, .slice aoA l.length capA] #[.int .i64 k2, .bool bb, .int .i64 n2, .string t2, .string x2, .slice aoB l2.length capB]) => check_any 1048576 (by omega) W (hE.below h.below) k2 bb n2 t2 x2 _ l2 (ha2.stay h.below) ht2 hx2
  have hnum : ∀ W, Calls Tryz.prog 28 #[agg6 k b n t x (.slice aoA l.length capA)] W fun e w' => e = .returned (.bool (isNum k)) ∧ Below W.heap.size W w' := fun W => number_any k b n t x _ W
  have hnum2 : ∀ W, Calls Tryz.prog 28 #[agg6 k2 bb n2 t2 x2 (.slice aoB l2.length capB)] W fun e w' => e = .returned (.bool (isNum k2)) ∧ Below W.heap.size W w' := fun W => number_any k2 bb n2 t2 x2 _ W
  have hint := fun W (h : A3 w W #[.int .i64 k, .bool b, .int .i64 n, .string t, .string x, .slice aoA l.length capA] #[.int .i64 k2, .bool bb, .int .i64 n2, .string t2, .string x2, .slice aoB l2.length capB]) => ints_call lang op n n2 W (hE.below h.below) hn hn2
  have hex := fun W (h : A3 w W #[.int .i64 k, .bool b, .int .i64 n, .string t, .string x, .slice aoA l.length capA] #[.int .i64 k2, .bool bb, .int .i64 n2, .string t2, .string x2, .slice aoB l2.length capB]) => exact_call k b n hn t x (.slice aoA l.length capA) W (hE.below h.below)
  have hex2 := fun W (h : A3 w W #[.int .i64 k, .bool b, .int .i64 n, .string t, .string x, .slice aoA l.length capA] #[.int .i64 k2, .bool bb, .int .i64 n2, .string t2, .string x2, .slice aoB l2.length capB]) => exact_call k2 bb n2 hn2 t2 x2 (.slice aoB l2.length capB) W (hE.below h.below)
  have hdec := fun u u2 W (h : A3 w W #[.int .i64 k, .bool b, .int .i64 n, .string t, .string x, .slice aoA l.length capA] #[.int .i64 k2, .bool bb, .int .i64 n2, .string t2, .string x2, .slice aoB l2.length capB]) => decimals_call op u u2 W (hE.below h.below)
  have hm4 : k = 4 → mayV (.mk k b n t x l) = true → l = [] ∧ t.size ≤ 1048576 := fun h => may_text h
  have hm5 : k = 5 → mayV (.mk k b n t x l) = true → t = ByteArray.empty ∧ l.length ≤ 4096 := fun h => may_list h
  have hm42 : k2 = 4 → mayV (.mk k2 bb n2 t2 x2 l2) = true → l2 = [] ∧ t2.size ≤ 1048576 := fun h => may_text h
  have hm52 : k2 = 5 → mayV (.mk k2 bb n2 t2 x2 l2) = true → t2 = ByteArray.empty ∧ l2.length ≤ 4096 := fun h => may_list h
  obtain ⟨R, hR⟩ : ∃ R, arithV (decide (lang = 1)) op (.mk k b n t x l) (.mk k2 bb n2 t2 x2 l2) = R := ⟨_, rfl⟩
  rw [hR]
  unfold arithV at hR
  dsimp only at hR
  generalize mayV (.mk k b n t x l) = p at *
  generalize mayV (.mk k2 bb n2 t2 x2 l2) = p2 at *
  unfold agg6 at hck hck2 hnum hnum2 hex hex2 ⊢
  replace hck := Lib.hid hck
  replace hck2 := Lib.hid hck2
  replace hnum := Lib.hid hnum
  replace hnum2 := Lib.hid hnum2
  replace hint := Lib.hid hint
  replace hex := Lib.hid hex
  replace hex2 := Lib.hid hex2
  replace hdec := Lib.hid hdec
  replace hm4 := Lib.hid hm4
  replace hm5 := Lib.hid hm5
  replace hm42 := Lib.hid hm42
  replace hm52 := Lib.hid hm52
  replace hR := Lib.hid hR
  replace hq := Lib.hid hq
  by_cases hop : ¬ (17 ≤ op ∧ op ≤ 21)
  · obtain rfl : (zV, 1) = R := by rw [← hR.out, if_pos (.inl hop)]
    by_cases h1 : op < 17
    · clear hop
      go_enter Tryz.func12, Tryz.ntmps12
      go_wp2
      exact bodyPost_ret (v := tupR (zV, 1)) (res2 rfl _ _ (w.heap.size + 1 + 1) 26 _ (0, 0) _ _ rfl rfl hq.out.b2.eq Tryz.underlying26 rfl infoV6) rfl (AR.plain rfl hq.out.below)
    · have h2 : 21 < op := by omega
      have h3 : ¬ op ≤ 21 := by omega
      clear hop
      go_enter Tryz.func12, Tryz.ntmps12
      go_wp2
      exact bodyPost_ret (v := tupR (zV, 1)) (res2 rfl _ _ (w.heap.size + 1 + 1) 26 _ (0, 0) _ _ rfl rfl hq.out.b2.eq Tryz.underlying26 rfl infoV6) rfl (AR.plain rfl hq.out.below)
  have hop1 : ¬ op < 17 := by omega
  have hop2 : ¬ 21 < op := by omega
  have hA : ¬ (¬ (17 ≤ op ∧ op ≤ 21) ∨ true = false ∨ true = false) := by simp [hop1]; omega
  go_enter Tryz.func12, Tryz.ntmps12
  go_wp2_with fail
  refine (hck.out _ hq.out).mono ?_
  rintro e w3 ⟨rfl, hb⟩
  have hn := Lib.hid (hq.out.on hb)
  clear hq hb hck
  have hq := hn
  clear hn
  obtain ⟨x0, x1, x2', x3, x4, x5, y0, y1, y2, y3, y4, y5, z0, z1, z2, z3, z4, z5, f2⟩ := hq.out.cells
  cases p
  case false =>
    obtain rfl : (zV, 1) = R := by rw [← hR.out, if_pos (.inr (.inl rfl))]
    go_wp2
    obtain ⟨hf, hbf⟩ := hq.out.set (.int .i64 0) (.bool false) (.int .i64 0) (.string ByteArray.empty) (.string ByteArray.empty) (.slice none 0 0)
    exact bodyPost_ret (v := tupR (zV, 1)) (res2 rfl _ _ (w.heap.size + 1 + 1) 26 _ (0, 0) _ _ rfl rfl hf.eq Tryz.underlying26 rfl infoV6) rfl (AR.plain rfl hbf)
  go_wp2_with fail
  refine (hck2.out _ hq.out).mono ?_
  rintro e w4 ⟨rfl, hb⟩
  have hn := Lib.hid (hq.out.on hb)
  clear hq hb
  try clear x0 x1 x2' x3 x4 x5 y0 y1 y2 y3 y4 y5 z0 z1 z2 z3 z4 z5 f2
  obtain ⟨x0, x1, x2', x3, x4, x5, y0, y1, y2, y3, y4, y5, z0, z1, z2, z3, z4, z5, f2⟩ := hn.out.cells
  have hq := hn
  clear hn
  clear hck2
  cases p2
  case false =>
    obtain rfl : (zV, 1) = R := by rw [← hR.out, if_pos (.inr (.inr rfl))]
    go_wp2
    obtain ⟨hf, hbf⟩ := hq.out.set (.int .i64 0) (.bool false) (.int .i64 0) (.string ByteArray.empty) (.string ByteArray.empty) (.slice none 0 0)
    exact bodyPost_ret (v := tupR (zV, 1)) (res2 rfl _ _ (w.heap.size + 1 + 1) 26 _ (0, 0) _ _ rfl rfl hf.eq Tryz.underlying26 rfl infoV6) rfl (AR.plain rfl hbf)
  by_cases h0 : k = 0 ∨ k2 = 0
  · have hR2 : (zV, if decide (lang = 1) = true then (5 : Int) else 0) = R := by rw [← hR.out, if_neg hA, if_pos h0]
    clear hR hint hex hex2 hdec hnum hnum2 hm4 hm5 hm42 hm52
    by_cases hl : lang = 1
    · subst hl
      obtain rfl : (zV, 5) = R := hR2
      by_cases hk : k = 0
      · subst hk
        go_wp2
        obtain ⟨hf, hbf⟩ := hq.out.set (.int .i64 0) (.bool false) (.int .i64 0) (.string ByteArray.empty) (.string ByteArray.empty) (.slice none 0 0)
        exact bodyPost_ret (v := tupR (zV, 5)) (res2 rfl _ _ (w.heap.size + 1 + 1) 26 _ (0, 0) _ _ rfl rfl hf.eq Tryz.underlying26 rfl infoV6) rfl (AR.plain rfl hbf)
      · obtain rfl : k2 = 0 := h0.resolve_left hk
        have hkb : (k == 0) = false := beq_eq_false_iff_ne.2 hk
        go_wp2
        obtain ⟨hf, hbf⟩ := hq.out.set (.int .i64 0) (.bool false) (.int .i64 0) (.string ByteArray.empty) (.string ByteArray.empty) (.slice none 0 0)
        exact bodyPost_ret (v := tupR (zV, 5)) (res2 rfl _ _ (w.heap.size + 1 + 1) 26 _ (0, 0) _ _ rfl rfl hf.eq Tryz.underlying26 rfl infoV6) rfl (AR.plain rfl hbf)
    · obtain rfl : (zV, 0) = R := by rw [← hR2, if_neg (by simpa using hl)]
      have hlb : (lang == 1) = false := beq_eq_false_iff_ne.2 hl
      by_cases hk : k = 0
      · subst hk
        go_wp2
        obtain ⟨hf, hbf⟩ := hq.out.set (.int .i64 0) (.bool false) (.int .i64 0) (.string ByteArray.empty) (.string ByteArray.empty) (.slice none 0 0)
        exact bodyPost_ret (v := tupR (zV, 0)) (res2 rfl _ _ (w.heap.size + 1 + 1) 26 _ (0, 0) _ _ rfl rfl hf.eq Tryz.underlying26 rfl infoV6) rfl (AR.plain rfl hbf)
      · obtain rfl : k2 = 0 := h0.resolve_left hk
        have hkb : (k == 0) = false := beq_eq_false_iff_ne.2 hk
        go_wp2
        obtain ⟨hf, hbf⟩ := hq.out.set (.int .i64 0) (.bool false) (.int .i64 0) (.string ByteArray.empty) (.string ByteArray.empty) (.slice none 0 0)
        exact bodyPost_ret (v := tupR (zV, 0)) (res2 rfl _ _ (w.heap.size + 1 + 1) 26 _ (0, 0) _ _ rfl rfl hf.eq Tryz.underlying26 rfl infoV6) rfl (AR.plain rfl hbf)
  have hkb : (k == 0) = false := beq_eq_false_iff_ne.2 fun e => h0 (.inl e)
  have hkb2 : (k2 == 0) = false := beq_eq_false_iff_ne.2 fun e => h0 (.inr e)
  by_cases hj : ¬ lang = 1 ∧ op = 17 ∧ k = k2 ∧ (k = 4 ∨ k = 5)
  · obtain ⟨hl, rfl, rfl, hk⟩ := hj
    have hlb : (lang != 1) = true := bne_iff_ne.2 hl
    have hR2 : (if 1048576 < t.size + t2.size ∨ 4096 < l.length + l2.length then (zV, (2 : Int)) else (V.mk k false 0 (t ++ t2) ByteArray.empty (l ++ l2), 0)) = R := by
      have hc : decide (lang = 1) = false ∧ (17 : Int) = 17 ∧ k = k ∧ (k = 4 ∨ k = 5) := ⟨decide_eq_false hl, rfl, rfl, hk⟩
      rw [← hR.out, if_neg hA, if_neg h0, if_pos hc]
    clear hR hint hex hex2 hdec hnum hnum2 hm4 hm5 hm42 hm52 hl
    by_cases hbig : 1048576 < t.size + t2.size ∨ 4096 < l.length + l2.length
    · obtain rfl : (zV, 2) = R := by rw [← hR2, if_pos hbig]
      have hjo := fun W (h : A3 w W #[.int .i64 k, .bool b, .int .i64 n, .string t, .string x, .slice aoA l.length capA] #[.int .i64 k, .bool bb, .int .i64 n2, .string t2, .string x2, .slice aoB l2.length capB]) => joined_no 1048576 (by omega) W k b n t x _ l k bb n2 t2 x2 _ l2 (ha.stay h.below) (ha2.stay h.below) ht ht2 hbig
      unfold agg6 zeroV at hjo
      replace hjo := Lib.hid hjo
      clear hR2 hbig
      rcases hk with rfl | rfl
      · go_wp2_with fail
        refine (hjo.out _ hq.out).mono ?_
        rintro e w5 ⟨rfl, hb⟩
        have hn := Lib.hid (hq.out.on hb)
        clear hq hb
        try clear x0 x1 x2' x3 x4 x5 y0 y1 y2 y3 y4 y5 z0 z1 z2 z3 z4 z5 f2
        obtain ⟨x0, x1, x2', x3, x4, x5, y0, y1, y2, y3, y4, y5, z0, z1, z2, z3, z4, z5, f2⟩ := hn.out.cells
        have hq := hn
        clear hn
        go_wp2
        obtain ⟨hf, hbf⟩ := hq.out.set (.int .i64 0) (.bool false) (.int .i64 0) (.string ByteArray.empty) (.string ByteArray.empty) (.slice none 0 0)
        exact bodyPost_ret (v := tupR (zV, 2)) (res2 rfl _ _ (w.heap.size + 1 + 1) 26 _ (0, 0) _ _ rfl rfl hf.eq Tryz.underlying26 rfl infoV6) rfl (AR.plain rfl hbf)
      · go_wp2_with fail
        refine (hjo.out _ hq.out).mono ?_
        rintro e w5 ⟨rfl, hb⟩
        have hn := Lib.hid (hq.out.on hb)
        clear hq hb
        try clear x0 x1 x2' x3 x4 x5 y0 y1 y2 y3 y4 y5 z0 z1 z2 z3 z4 z5 f2
        obtain ⟨x0, x1, x2', x3, x4, x5, y0, y1, y2, y3, y4, y5, z0, z1, z2, z3, z4, z5, f2⟩ := hn.out.cells
        have hq := hn
        clear hn
        go_wp2
        obtain ⟨hf, hbf⟩ := hq.out.set (.int .i64 0) (.bool false) (.int .i64 0) (.string ByteArray.empty) (.string ByteArray.empty) (.slice none 0 0)
        exact bodyPost_ret (v := tupR (zV, 2)) (res2 rfl _ _ (w.heap.size + 1 + 1) 26 _ (0, 0) _ _ rfl rfl hf.eq Tryz.underlying26 rfl infoV6) rfl (AR.plain rfl hbf)
    · obtain rfl : (V.mk k false 0 (t ++ t2) ByteArray.empty (l ++ l2), (0 : Int)) = R := by rw [← hR2, if_neg hbig]
      have hjo := fun W (h : A3 w W #[.int .i64 k, .bool b, .int .i64 n, .string t, .string x, .slice aoA l.length capA] #[.int .i64 k, .bool bb, .int .i64 n2, .string t2, .string x2, .slice aoB l2.length capB]) => joined_call 1048576 (by omega) W k b n t x _ l k bb n2 t2 x2 _ l2 (ha.stay h.below) (ha2.stay h.below) ht ht2 (by omega) (by omega) (by omega)
      unfold agg6 at hjo
      generalize t ++ t2 = T at *
      replace hjo := Lib.hid hjo
      clear hR2 hbig
      rcases hk with rfl | rfl
      · go_wp2_with fail
        refine (hjo.out _ hq.out).mono ?_
        rintro e w5 ⟨ao, cap, rfl, hb, hlf⟩
        have hn := Lib.hid (hq.out.on hb)
        have hsz := hq.out.size
        replace hlf := Lib.hid hlf
        clear hq hb
        clear x0 x1 x2' x3 x4 x5 y0 y1 y2 y3 y4 y5 z0 z1 z2 z3 z4 z5 f2
        obtain ⟨x0, x1, x2', x3, x4, x5, y0, y1, y2, y3, y4, y5, z0, z1, z2, z3, z4, z5, f2⟩ := hn.out.cells
        have hq := hn
        clear hn
        go_wp2
        obtain ⟨hf, hbf⟩ := hq.out.set (.int .i64 4) (.bool false) (.int .i64 0) (.string T) (.string ByteArray.empty) (.slice ao (l.length + l2.length) cap)
        have hl2 := hlf.out.set6 (w.heap.size + 1 + 1) (fun h => by have := h.1; omega) (.int .i64 4) (.bool false) (.int .i64 0) (.string T) (.string ByteArray.empty) (.slice ao (l.length + l2.length) cap)
        exact bodyPost_ret (v := .tuple #[agg6 4 false 0 T ByteArray.empty (.slice ao (l.length + l2.length) cap), .int .i64 0]) (res2 rfl _ _ (w.heap.size + 1 + 1) 26 _ (0, 0) _ _ rfl rfl hf.eq Tryz.underlying26 rfl infoV6) rfl ⟨_, rfl, hbf, hl2.mono fun b hb => ⟨by have := hb.1; omega, by have := hb.2; simpa only [World.setCell, Array.size_modify] using this⟩⟩
      · go_wp2_with fail
        refine (hjo.out _ hq.out).mono ?_
        rintro e w5 ⟨ao, cap, rfl, hb, hlf⟩
        have hn := Lib.hid (hq.out.on hb)
        have hsz := hq.out.size
        replace hlf := Lib.hid hlf
        clear hq hb
        clear x0 x1 x2' x3 x4 x5 y0 y1 y2 y3 y4 y5 z0 z1 z2 z3 z4 z5 f2
        obtain ⟨x0, x1, x2', x3, x4, x5, y0, y1, y2, y3, y4, y5, z0, z1, z2, z3, z4, z5, f2⟩ := hn.out.cells
        have hq := hn
        clear hn
        go_wp2
        obtain ⟨hf, hbf⟩ := hq.out.set (.int .i64 5) (.bool false) (.int .i64 0) (.string T) (.string ByteArray.empty) (.slice ao (l.length + l2.length) cap)
        have hl2 := hlf.out.set6 (w.heap.size + 1 + 1) (fun h => by have := h.1; omega) (.int .i64 5) (.bool false) (.int .i64 0) (.string T) (.string ByteArray.empty) (.slice ao (l.length + l2.length) cap)
        exact bodyPost_ret (v := .tuple #[agg6 5 false 0 T ByteArray.empty (.slice ao (l.length + l2.length) cap), .int .i64 0]) (res2 rfl _ _ (w.heap.size + 1 + 1) 26 _ (0, 0) _ _ rfl rfl hf.eq Tryz.underlying26 rfl infoV6) rfl ⟨_, rfl, hbf, hl2.mono fun b hb => ⟨by have := hb.1; omega, by have := hb.2; simpa only [World.setCell, Array.size_modify] using this⟩⟩
  have hj2 : ¬ (decide (lang = 1) = false ∧ op = 17 ∧ k = k2 ∧ (k = 4 ∨ k = 5)) := fun e => hj ⟨of_decide_eq_false e.1, e.2⟩
  go_upto_region 7 with (fail)
  go_cut [41] (fun v wx => v = .bool false ∧ wx = w4)
  case first =>
    as_aux_lemma =>
      by_cases hl : lang = 1
      · subst hl
        go_wp2
        go_meet
        exact ⟨rfl, rfl⟩
      have hlb : (lang == 1) = false := beq_eq_false_iff_ne.2 hl
      by_cases ho : op = 17
      · subst ho
        by_cases hkk : k = k2
        · subst hkk
          have h4 : (k == 4) = false := beq_eq_false_iff_ne.2 fun e => hj ⟨hl, rfl, rfl, .inl e⟩
          have h5 : (k == 5) = false := beq_eq_false_iff_ne.2 fun e => hj ⟨hl, rfl, rfl, .inr e⟩
          go_wp2
          go_meet
          exact ⟨rfl, rfl⟩
        · have hkk2 : (k == k2) = false := beq_eq_false_iff_ne.2 hkk
          go_wp2
          go_meet
          exact ⟨rfl, rfl⟩
      · have ho2 : (op == 17) = false := beq_eq_false_iff_ne.2 ho
        go_wp2
        go_meet
        exact ⟨rfl, rfl⟩
  obtain ⟨rfl, hwx⟩ := hcut
  rw [hwx]; clear hwx
  have hR2 : (if isNum k = false ∨ isNum k2 = false then (zV, 4) else if k = 2 ∧ k2 = 2 then intsV (decide (lang = 1)) op n n2 else decV op (numV k n t) (numV k2 n2 t2)) = R := by rw [← hR.out, if_neg hA, if_neg h0, if_neg hj2]
  replace hR2 := Lib.hid hR2
  clear hR hj hj2 hm4 hm5 hm42 hm52
  obtain ⟨q, hqn⟩ : ∃ q, isNum k = q := ⟨_, rfl⟩
  obtain ⟨q2, hqn2⟩ : ∃ q, isNum k2 = q := ⟨_, rfl⟩
  rw [hqn] at hnum hR2
  rw [hqn2] at hnum2 hR2
  clear hqn hqn2
  go_wp2_with fail
  refine (hnum.out _).mono ?_
  rintro e w5 ⟨rfl, hb⟩
  have hn := Lib.hid (hq.out.on hb)
  clear hq hb
  try clear x0 x1 x2' x3 x4 x5 y0 y1 y2 y3 y4 y5 z0 z1 z2 z3 z4 z5 f2
  obtain ⟨x0, x1, x2', x3, x4, x5, y0, y1, y2, y3, y4, y5, z0, z1, z2, z3, z4, z5, f2⟩ := hn.out.cells
  have hq := hn
  clear hn
  clear hnum
  cases q
  case false =>
    obtain rfl : (zV, 4) = R := by rw [← hR2.out, if_pos (.inl rfl)]
    go_wp2
    obtain ⟨hf, hbf⟩ := hq.out.set (.int .i64 0) (.bool false) (.int .i64 0) (.string ByteArray.empty) (.string ByteArray.empty) (.slice none 0 0)
    exact bodyPost_ret (v := tupR (zV, 4)) (res2 rfl _ _ (w.heap.size + 1 + 1) 26 _ (0, 0) _ _ rfl rfl hf.eq Tryz.underlying26 rfl infoV6) rfl (AR.plain rfl hbf)
  go_wp2_with fail
  refine (hnum2.out _).mono ?_
  rintro e w6 ⟨rfl, hb⟩
  have hn := Lib.hid (hq.out.on hb)
  clear hq hb
  try clear x0 x1 x2' x3 x4 x5 y0 y1 y2 y3 y4 y5 z0 z1 z2 z3 z4 z5 f2
  obtain ⟨x0, x1, x2', x3, x4, x5, y0, y1, y2, y3, y4, y5, z0, z1, z2, z3, z4, z5, f2⟩ := hn.out.cells
  have hq := hn
  clear hn
  clear hnum2
  cases q2
  case false =>
    obtain rfl : (zV, 4) = R := by rw [← hR2.out, if_pos (.inr rfl)]
    go_wp2
    obtain ⟨hf, hbf⟩ := hq.out.set (.int .i64 0) (.bool false) (.int .i64 0) (.string ByteArray.empty) (.string ByteArray.empty) (.slice none 0 0)
    exact bodyPost_ret (v := tupR (zV, 4)) (res2 rfl _ _ (w.heap.size + 1 + 1) 26 _ (0, 0) _ _ rfl rfl hf.eq Tryz.underlying26 rfl infoV6) rfl (AR.plain rfl hbf)
  by_cases h22 : k = 2 ∧ k2 = 2
  · have hR3 : intsV (decide (lang = 1)) op n n2 = R := by rw [← hR2.out, if_neg (by simp), if_pos h22]
    have hkd := intsV_kids (decide (lang = 1)) op n n2
    rw [hR3] at hint hkd
    obtain ⟨⟨kr, br, nr, tr, xr, lr⟩, er⟩ := R
    obtain rfl : lr = [] := hkd
    unfold tupR val6 agg6 at hint
    clear hR3 hR2 hex hex2 hdec
    obtain ⟨rfl, rfl⟩ := h22
    go_wp2_with fail
    refine (hint.out _ hq.out).mono ?_
    rintro e w7 ⟨rfl, hb⟩
    have hn := Lib.hid (hq.out.on hb)
    clear hq hb
    try clear x0 x1 x2' x3 x4 x5 y0 y1 y2 y3 y4 y5 z0 z1 z2 z3 z4 z5 f2
    obtain ⟨x0, x1, x2', x3, x4, x5, y0, y1, y2, y3, y4, y5, z0, z1, z2, z3, z4, z5, f2⟩ := hn.out.cells
    have hq := hn
    clear hn
    clear hint
    go_wp2
    obtain ⟨hf, hbf⟩ := hq.out.set (.int .i64 kr) (.bool br) (.int .i64 nr) (.string tr) (.string xr) (.slice none 0 0)
    exact bodyPost_ret (v := tupR (.mk kr br nr tr xr [], er)) (res2 rfl _ _ (w.heap.size + 1 + 1) 26 _ (0, 0) _ _ rfl rfl hf.eq Tryz.underlying26 rfl infoV6) rfl (AR.plain rfl hbf)
  · have hR3 : decV op (numV k n t) (numV k2 n2 t2) = R := by rw [← hR2.out, if_neg (by simp), if_neg h22]
    have hkd := decV_kids op (numV k n t) (numV k2 n2 t2)
    have hd2 : ∀ u u2 : ByteArray, (chk u.data.toList = true ∧ zof u.data.toList = numV k n t) → (chk u2.data.toList = true ∧ zof u2.data.toList = numV k2 n2 t2) → ∀ W, A3 w W #[.int .i64 k, .bool b, .int .i64 n, .string t, .string x, .slice aoA l.length capA] #[.int .i64 k2, .bool bb, .int .i64 n2, .string t2, .string x2, .slice aoB l2.length capB] → Calls Tryz.prog 30 #[.int .i64 op, .string u, .string u2] W fun e w' => e = .returned (tupR R) ∧ Below W.heap.size W w' := by
      intro u u2 hu hu2 W h
      have := hdec.out u u2 W h
      rw [wholeR_V, text_of hu.1 hu.2, text_of hu2.1 hu2.2] at this
      unfold decV at hR3
      rw [hR3] at this
      exact this
    rw [hR3] at hkd
    obtain ⟨⟨kr, br, nr, tr, xr, lr⟩, er⟩ := R
    obtain rfl : lr = [] := hkd
    unfold tupR val6 agg6 at hd2
    replace hd2 := Lib.hid hd2
    obtain ⟨q, hq2⟩ : ∃ q : Bool, (k == 2) = q := ⟨_, rfl⟩
    obtain ⟨q2, hq22⟩ : ∃ q : Bool, (k2 == 2) = q := ⟨_, rfl⟩
    have hqq : (q && q2) = false := by
      rw [← hq2, ← hq22]
      apply Bool.eq_false_iff.2
      intro h
      rw [Bool.and_eq_true, beq_iff_eq, beq_iff_eq] at h
      exact h22 h
    generalize numV k n t = Z1 at *
    generalize numV k2 n2 t2 = Z2 at *
    clear hR2 hint hdec h22 hR3 h0 hA hop ha ha2
    cases q
    · clear hqq
      go_upto_region 13 with (fail)
      clear hq2 hq22
      clear x0 x1 x2' x3 x4 x5 y0 y1 y2 y3 y4 y5 z0 z1 z2 z3 z4 z5 f2
      have hd := hq.out.on (below_drewN (Below.refl _ _) 1)
      clear hq
      have hS0 : B2 w w6.drew #[.int .i64 k, .bool b, .int .i64 n, .string t, .string x, .slice aoA l.length capA] #[.int .i64 k2, .bool bb, .int .i64 n2, .string t2, .string x2, .slice aoB l2.length capB] := ⟨hd.below, hd.b0, hd.b1⟩
      refine wp_region_held_drew (S := fun V => B2 w V #[.int .i64 k, .bool b, .int .i64 n, .string t, .string x, .slice aoA l.length capA] #[.int .i64 k2, .bool bb, .int .i64 n2, .string t2, .string x2, .slice aoB l2.length capB]) (by kernel_rfl) hS0 (fun hS => ?_)
      clear hS0
      replace hd : A3 w w6.drew #[.int .i64 k, .bool b, .int .i64 n, .string t, .string x, .slice aoA l.length capA] #[.int .i64 k2, .bool bb, .int .i64 n2, .string t2, .string x2, .slice aoB l2.length capB] := hd
      generalize w6.drew = V0 at *
      refine wpAnyH_take (i := 0) (v := ?_) rfl (by kernel_rfl) (by kernel_rfl) (by kernel_rfl) (fun _ _ _ h => h) (.inl ⟨by kernel_rfl, fun w' hS => ?_⟩) hS ?_
      rotate_left
      ·
        skip
        go_simp
        try with_reducible rfl
      simp only [List.getElem_toArray, List.getElem_cons_succ, List.getElem_cons_zero, Act.put, List.setIfInBounds_toArray, List.set_cons_zero, List.set_cons_succ]
      refine wpAnyH_take (i := 1) (v := ?_) rfl (by kernel_rfl) (by kernel_rfl) (by kernel_rfl) (fun _ _ _ h => h) (.inl ⟨by kernel_rfl, fun w' hS => ?_⟩) hS ?_
      rotate_left
      ·
        have x0 := hS.b0.cell 0 rfl
        have x1 := hS.b0.cell 1 rfl
        have x2 := hS.b0.cell 2 rfl
        have x3 := hS.b0.cell 3 rfl
        have x4 := hS.b0.cell 4 rfl
        have x5 := hS.b0.cell 5 rfl
        go_simp
        try with_reducible rfl
      simp only [List.getElem_toArray, List.getElem_cons_succ, List.getElem_cons_zero, Act.put, List.setIfInBounds_toArray, List.set_cons_zero, List.set_cons_succ]
      refine wpAnyH_take (i := 3) (v := ?_) rfl (by kernel_rfl) (by kernel_rfl) (by kernel_rfl) (fun _ _ _ h => h) (.inl ⟨by kernel_rfl, fun w' hS => ?_⟩) hS ?_
      rotate_left
      ·
        have y0 := hS.b1.cell 0 rfl
        have y1 := hS.b1.cell 1 rfl
        have y2 := hS.b1.cell 2 rfl
        have y3 := hS.b1.cell 3 rfl
        have y4 := hS.b1.cell 4 rfl
        have y5 := hS.b1.cell 5 rfl
        go_simp
        try with_reducible rfl
      simp only [List.getElem_toArray, List.getElem_cons_succ, List.getElem_cons_zero, Act.put, List.setIfInBounds_toArray, List.set_cons_zero, List.set_cons_succ]
      refine wpAnyH_ready (rs := [2]) (by kernel_rfl) (by simp) ?_
      refine AllReadyH.cons rfl (fun K hK => ?_) AllReadyH.nil
      clear hS
      go_simp
      refine (hex.out _ hd).mono ?_
      rintro e w8 ⟨u, rfl, hu, hb⟩
      go_wp2_with fail
      refine hK.out _ _ (⟨(hd.on hb).below, (hd.on hb).b0, (hd.on hb).b1⟩) (fun hS => ?_)
      clear hK K
      try simp only [List.getElem_toArray, List.getElem_cons_succ, List.getElem_cons_zero, Act.put, List.setIfInBounds_toArray, List.set_cons_zero, List.set_cons_succ]
      have hd8 := hd.on hb
      clear hd hb
      replace hu := Lib.hid hu
      refine wpAnyH_ready (rs := [4]) (by kernel_rfl) (by simp) ?_
      refine AllReadyH.cons rfl (fun K hK => ?_) AllReadyH.nil
      clear hS
      go_simp
      refine (hex2.out _ hd8).mono ?_
      rintro e w9 ⟨u2, rfl, hu2, hb⟩
      go_wp2_with fail
      refine hK.out _ _ (⟨(hd8.on hb).below, (hd8.on hb).b0, (hd8.on hb).b1⟩) (fun hS => ?_)
      clear hK K
      try simp only [List.getElem_toArray, List.getElem_cons_succ, List.getElem_cons_zero, Act.put, List.setIfInBounds_toArray, List.set_cons_zero, List.set_cons_succ]
      have hd9 := hd8.on hb
      clear hd8 hb
      replace hu2 := Lib.hid hu2
      refine wpAnyH_ready (rs := [5]) (by kernel_rfl) (by simp) ?_
      refine AllReadyH.cons rfl (fun K hK => ?_) AllReadyH.nil
      clear hS
      go_simp
      refine (hd2.out u u2 hu.out hu2.out _ hd9).mono ?_
      rintro e w10 ⟨rfl, hb⟩
      go_wp2_with fail
      refine hK.out _ _ (⟨(hd9.on hb).below, (hd9.on hb).b0, (hd9.on hb).b1⟩) (fun hS => ?_)
      clear hK K
      try simp only [List.getElem_toArray, List.getElem_cons_succ, List.getElem_cons_zero, Act.put, List.setIfInBounds_toArray, List.set_cons_zero, List.set_cons_succ]
      have hd10 := hd9.on hb
      clear hd9 hb
      refine wpAnyH_take (i := 6) (v := ?_) rfl (by kernel_rfl) (by kernel_rfl) (by kernel_rfl) (fun _ _ _ h => h) (.inl ⟨by kernel_rfl, fun w' hS => ?_⟩) hS ?_
      rotate_left
      ·
        skip
        go_simp
        try with_reducible rfl
      simp only [List.getElem_toArray, List.getElem_cons_succ, List.getElem_cons_zero, Act.put, List.setIfInBounds_toArray, List.set_cons_zero, List.set_cons_succ]
      refine wpAnyH_take (i := 7) (v := ?_) rfl (by kernel_rfl) (by kernel_rfl) (by kernel_rfl) (fun _ _ _ h => h) (.inl ⟨by kernel_rfl, fun w' hS => ?_⟩) hS ?_
      rotate_left
      ·
        skip
        go_simp
        try with_reducible rfl
      simp only [List.getElem_toArray, List.getElem_cons_succ, List.getElem_cons_zero, Act.put, List.setIfInBounds_toArray, List.set_cons_zero, List.set_cons_succ]
      refine wpAnyH_ready (rs := [8]) (by kernel_rfl) (by simp) ?_
      refine AllReadyH.cons rfl (fun K hK => ?_) AllReadyH.nil
      clear hS
      have hq := Lib.hid hd10
      clear hd10
      obtain ⟨x0, x1, x2', x3, x4, x5, y0, y1, y2, y3, y4, y5, z0, z1, z2, z3, z4, z5, f2⟩ := hq.out.cells
      obtain ⟨hf, hbf⟩ := hq.out.set (.int .i64 kr) (.bool br) (.int .i64 nr) (.string tr) (.string xr) (.slice none 0 0)
      go_simp
      go_wp2_with fail
      refine hK.out _ _ ⟨hbf, hq.out.b0.heap6 (by omega) _ _ _ _ _ _, hq.out.b1.heap6 (by omega) _ _ _ _ _ _⟩ (fun hS => ?_)
      clear hK K
      clear x0 x1 x2' x3 x4 x5 y0 y1 y2 y3 y4 y5 z0 z1 z2 z3 z4 z5 f2
      try simp only [List.getElem_toArray, List.getElem_cons_succ, List.getElem_cons_zero, Act.put, List.setIfInBounds_toArray, List.set_cons_zero, List.set_cons_succ]
      refine wpAnyH_take (i := 9) (v := ?_) rfl (by kernel_rfl) (by kernel_rfl) (by kernel_rfl) (fun _ _ _ h => h) (.inl ⟨by kernel_rfl, fun w' hS => ?_⟩) hS ?_
      rotate_left
      ·
        skip
        go_simp
        try with_reducible rfl
      simp only [List.getElem_toArray, List.getElem_cons_succ, List.getElem_cons_zero, Act.put, List.setIfInBounds_toArray, List.set_cons_zero, List.set_cons_succ]
      refine wpAnyH_done (by kernel_rfl) ?_ _
      go_wp2
      exact bodyPost_ret (v := tupR (.mk kr br nr tr xr [], er)) (res2 rfl _ _ (w.heap.size + 1 + 1) 26 _ (0, 0) _ _ rfl rfl hf.eq Tryz.underlying26 rfl infoV6) rfl (AR.plain rfl hbf)
    · obtain rfl : q2 = false := by simpa using hqq
      clear hqq
      go_upto_region 13 with (fail)
      clear hq2 hq22
      clear x0 x1 x2' x3 x4 x5 y0 y1 y2 y3 y4 y5 z0 z1 z2 z3 z4 z5 f2
      have hd := hq.out.on (below_drewN (Below.refl _ _) 1)
      clear hq
      have hS0 : B2 w w6.drew #[.int .i64 k, .bool b, .int .i64 n, .string t, .string x, .slice aoA l.length capA] #[.int .i64 k2, .bool bb, .int .i64 n2, .string t2, .string x2, .slice aoB l2.length capB] := ⟨hd.below, hd.b0, hd.b1⟩
      refine wp_region_held_drew (S := fun V => B2 w V #[.int .i64 k, .bool b, .int .i64 n, .string t, .string x, .slice aoA l.length capA] #[.int .i64 k2, .bool bb, .int .i64 n2, .string t2, .string x2, .slice aoB l2.length capB]) (by kernel_rfl) hS0 (fun hS => ?_)
      clear hS0
      replace hd : A3 w w6.drew #[.int .i64 k, .bool b, .int .i64 n, .string t, .string x, .slice aoA l.length capA] #[.int .i64 k2, .bool bb, .int .i64 n2, .string t2, .string x2, .slice aoB l2.length capB] := hd
      generalize w6.drew = V0 at *
      refine wpAnyH_take (i := 0) (v := ?_) rfl (by kernel_rfl) (by kernel_rfl) (by kernel_rfl) (fun _ _ _ h => h) (.inl ⟨by kernel_rfl, fun w' hS => ?_⟩) hS ?_
      rotate_left
      ·
        skip
        go_simp
        try with_reducible rfl
      simp only [List.getElem_toArray, List.getElem_cons_succ, List.getElem_cons_zero, Act.put, List.setIfInBounds_toArray, List.set_cons_zero, List.set_cons_succ]
      refine wpAnyH_take (i := 1) (v := ?_) rfl (by kernel_rfl) (by kernel_rfl) (by kernel_rfl) (fun _ _ _ h => h) (.inl ⟨by kernel_rfl, fun w' hS => ?_⟩) hS ?_
      rotate_left
      ·
        have x0 := hS.b0.cell 0 rfl
        have x1 := hS.b0.cell 1 rfl
        have x2 := hS.b0.cell 2 rfl
        have x3 := hS.b0.cell 3 rfl
        have x4 := hS.b0.cell 4 rfl
        have x5 := hS.b0.cell 5 rfl
        go_simp
        try with_reducible rfl
      simp only [List.getElem_toArray, List.getElem_cons_succ, List.getElem_cons_zero, Act.put, List.setIfInBounds_toArray, List.set_cons_zero, List.set_cons_succ]
      refine wpAnyH_take (i := 3) (v := ?_) rfl (by kernel_rfl) (by kernel_rfl) (by kernel_rfl) (fun _ _ _ h => h) (.inl ⟨by kernel_rfl, fun w' hS => ?_⟩) hS ?_
      rotate_left
      ·
        have y0 := hS.b1.cell 0 rfl
        have y1 := hS.b1.cell 1 rfl
        have y2 := hS.b1.cell 2 rfl
        have y3 := hS.b1.cell 3 rfl
        have y4 := hS.b1.cell 4 rfl
        have y5 := hS.b1.cell 5 rfl
        go_simp
        try with_reducible rfl
      simp only [List.getElem_toArray, List.getElem_cons_succ, List.getElem_cons_zero, Act.put, List.setIfInBounds_toArray, List.set_cons_zero, List.set_cons_succ]
      refine wpAnyH_ready (rs := [2]) (by kernel_rfl) (by simp) ?_
      refine AllReadyH.cons rfl (fun K hK => ?_) AllReadyH.nil
      clear hS
      go_simp
      refine (hex.out _ hd).mono ?_
      rintro e w8 ⟨u, rfl, hu, hb⟩
      go_wp2_with fail
      refine hK.out _ _ (⟨(hd.on hb).below, (hd.on hb).b0, (hd.on hb).b1⟩) (fun hS => ?_)
      clear hK K
      try simp only [List.getElem_toArray, List.getElem_cons_succ, List.getElem_cons_zero, Act.put, List.setIfInBounds_toArray, List.set_cons_zero, List.set_cons_succ]
      have hd8 := hd.on hb
      clear hd hb
      replace hu := Lib.hid hu
      refine wpAnyH_ready (rs := [4]) (by kernel_rfl) (by simp) ?_
      refine AllReadyH.cons rfl (fun K hK => ?_) AllReadyH.nil
      clear hS
      go_simp
      refine (hex2.out _ hd8).mono ?_
      rintro e w9 ⟨u2, rfl, hu2, hb⟩
      go_wp2_with fail
      refine hK.out _ _ (⟨(hd8.on hb).below, (hd8.on hb).b0, (hd8.on hb).b1⟩) (fun hS => ?_)
      clear hK K
      try simp only [List.getElem_toArray, List.getElem_cons_succ, List.getElem_cons_zero, Act.put, List.setIfInBounds_toArray, List.set_cons_zero, List.set_cons_succ]
      have hd9 := hd8.on hb
      clear hd8 hb
      replace hu2 := Lib.hid hu2
      refine wpAnyH_ready (rs := [5]) (by kernel_rfl) (by simp) ?_
      refine AllReadyH.cons rfl (fun K hK => ?_) AllReadyH.nil
      clear hS
      go_simp
      refine (hd2.out u u2 hu.out hu2.out _ hd9).mono ?_
      rintro e w10 ⟨rfl, hb⟩
      go_wp2_with fail
      refine hK.out _ _ (⟨(hd9.on hb).below, (hd9.on hb).b0, (hd9.on hb).b1⟩) (fun hS => ?_)
      clear hK K
      try simp only [List.getElem_toArray, List.getElem_cons_succ, List.getElem_cons_zero, Act.put, List.setIfInBounds_toArray, List.set_cons_zero, List.set_cons_succ]
      have hd10 := hd9.on hb
      clear hd9 hb
      refine wpAnyH_take (i := 6) (v := ?_) rfl (by kernel_rfl) (by kernel_rfl) (by kernel_rfl) (fun _ _ _ h => h) (.inl ⟨by kernel_rfl, fun w' hS => ?_⟩) hS ?_
      rotate_left
      ·
        skip
        go_simp
        try with_reducible rfl
      simp only [List.getElem_toArray, List.getElem_cons_succ, List.getElem_cons_zero, Act.put, List.setIfInBounds_toArray, List.set_cons_zero, List.set_cons_succ]
      refine wpAnyH_take (i := 7) (v := ?_) rfl (by kernel_rfl) (by kernel_rfl) (by kernel_rfl) (fun _ _ _ h => h) (.inl ⟨by kernel_rfl, fun w' hS => ?_⟩) hS ?_
      rotate_left
      ·
        skip
        go_simp
        try with_reducible rfl
      simp only [List.getElem_toArray, List.getElem_cons_succ, List.getElem_cons_zero, Act.put, List.setIfInBounds_toArray, List.set_cons_zero, List.set_cons_succ]
      refine wpAnyH_ready (rs := [8]) (by kernel_rfl) (by simp) ?_
      refine AllReadyH.cons rfl (fun K hK => ?_) AllReadyH.nil
      clear hS
      have hq := Lib.hid hd10
      clear hd10
      obtain ⟨x0, x1, x2', x3, x4, x5, y0, y1, y2, y3, y4, y5, z0, z1, z2, z3, z4, z5, f2⟩ := hq.out.cells
      obtain ⟨hf, hbf⟩ := hq.out.set (.int .i64 kr) (.bool br) (.int .i64 nr) (.string tr) (.string xr) (.slice none 0 0)
      go_simp
      go_wp2_with fail
      refine hK.out _ _ ⟨hbf, hq.out.b0.heap6 (by omega) _ _ _ _ _ _, hq.out.b1.heap6 (by omega) _ _ _ _ _ _⟩ (fun hS => ?_)
      clear hK K
      clear x0 x1 x2' x3 x4 x5 y0 y1 y2 y3 y4 y5 z0 z1 z2 z3 z4 z5 f2
      try simp only [List.getElem_toArray, List.getElem_cons_succ, List.getElem_cons_zero, Act.put, List.setIfInBounds_toArray, List.set_cons_zero, List.set_cons_succ]
      refine wpAnyH_take (i := 9) (v := ?_) rfl (by kernel_rfl) (by kernel_rfl) (by kernel_rfl) (fun _ _ _ h => h) (.inl ⟨by kernel_rfl, fun w' hS => ?_⟩) hS ?_
      rotate_left
      ·
        skip
        go_simp
        try with_reducible rfl
      simp only [List.getElem_toArray, List.getElem_cons_succ, List.getElem_cons_zero, Act.put, List.setIfInBounds_toArray, List.set_cons_zero, List.set_cons_succ]
      refine wpAnyH_done (by kernel_rfl) ?_ _
      go_wp2
      exact bodyPost_ret (v := tupR (.mk kr br nr tr xr [], er)) (res2 rfl _ _ (w.heap.size + 1 + 1) 26 _ (0, 0) _ _ rfl rfl hf.eq Tryz.underlying26 rfl infoV6) rfl (AR.plain rfl hbf)
end Go.Proofs.YtjncjcellpbhcaaGreatDoor.val
