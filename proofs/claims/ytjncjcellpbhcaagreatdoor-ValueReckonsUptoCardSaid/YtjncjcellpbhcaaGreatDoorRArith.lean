/- Contract of the reference's Arith: what an operation makes of two values. -/
import Derived.Test.YtjncjcellpbhcaaGreatDoorVArith
import Derived.Test.YtjncjcellpbhcaaGreatDoorRInts
import Derived.Test.YtjncjcellpbhcaaGreatDoorRNum
import Derived.Test.YtjncjcellpbhcaaGreatDoorVMadeA
import Derived.Test.YtjncjcellpbhcaaGreatDoorVJoinA
namespace Go.Proofs.YtjncjcellpbhcaaGreatDoor.val
open Go.ChangeShapes Go.WideShapes Go.ChangeAt Go.RowKit kit dec
set_option linter.unusedVariables false
set_option linter.unusedSimpArgs false
theorem rnumber_any (k : Int) (b : Bool) (n : Int) (t x : ByteArray) (s : Value) (w : World) : Calls Tryz.prog 32 #[agg6 k b n t x s] w fun e w' => e = .returned (.bool (isNum k)) ∧ Below w.heap.size w w' := by
  have hb : Below w.heap.size w (w.alloc (.cells #[.int .i64 k, .bool b, .int .i64 n, .string t, .string x, s] 26)) := (Below.refl _ _).alloc (Nat.le_refl _) _
  unfold agg6 isNum
  by_cases h2 : k = 2
  · subst h2
    go_enter Tryz.func32, Tryz.ntmps32
    go_wp2
    go_ret
    exact ⟨rfl, hb⟩
  · by_cases h3 : k = 3
    · subst h3
      go_enter Tryz.func32, Tryz.ntmps32
      go_wp2
      go_ret
      exact ⟨rfl, hb⟩
    · have q2 : (k == 2) = false := by simpa using h2
      have q3 : (k == 3) = false := by simpa using h3
      rw [decide_eq_false (by omega)]
      clear h2 h3
      go_enter Tryz.func32, Tryz.ntmps32
      go_wp2
      go_ret
      exact ⟨rfl, hb⟩
theorem A3.grown {w W W' : World} {c d : Array Value} {row : Option Nat} (h : A3 w W c d) (hg : W.grownBy W' row) (hr : ∀ g, row = some g → w.heap.size + 3 ≤ g) : A3 w W' c d := by
  have hs := h.size
  have hs2 := h.below.size
  have ne : ∀ g, g < w.heap.size + 3 → some g ≠ row := fun g hg e => by have := hr g e.symm; omega
  exact ⟨h.below.grown hg hs2 (fun g e => by have := hr g e; omega), Nat.le_trans hs hg.size, (hg.block _ h.b0.lt (ne _ (by omega))).trans h.b0, (hg.block _ h.b1.lt (ne _ (by omega))).trans h.b1, (hg.block _ h.b2.lt (ne _ (by omega))).trans h.b2⟩
/-- The reference's operation on two decimals' texts. -/
theorem refdec_call (op x y : Int) (u u2 : ByteArray) (w : World) (hu : chk u.data.toList = true ∧ zof u.data.toList = x) (hu2 : chk u2.data.toList = true ∧ zof u2.data.toList = y) :
    (op = 17 → Calls Tryz.prog 35 #[.string u, .string u2] w fun e w' => e = .returned (rv (decP op (canon x) (canon y))) ∧ Below w.heap.size w w') ∧
    (op = 18 → Calls Tryz.prog 37 #[.string u, .string u2] w fun e w' => e = .returned (rv (decP op (canon x) (canon y))) ∧ Below w.heap.size w w') ∧
    (op = 19 → Calls Tryz.prog 38 #[.string u, .string u2] w fun e w' => e = .returned (rv (decP op (canon x) (canon y))) ∧ Below w.heap.size w w') ∧
    (op = 20 → Calls Tryz.prog 39 #[.string u, .string u2] w fun e w' => e = .returned (rv (decP op (canon x) (canon y))) ∧ Below w.heap.size w w') := by
  have s1 : u.size ≤ 50000 := by have := chk_sz u hu.1; omega
  have s2 : u2.size ≤ 50000 := by have := chk_sz u2 hu2.1; omega
  have e1 := text_of hu.1 hu.2
  have e2 := text_of hu2.1 hu2.2
  rw [← e1, ← e2]
  unfold decP
  refine ⟨?_, ?_, ?_, ?_⟩
  · rintro rfl
    exact refadd_call u u2 w s1 s2
  · rintro rfl
    exact refsub_call u u2 w s1 s2
  · rintro rfl
    exact refmul_call u u2 w s1 s2
  · rintro rfl
    exact refdiv_call u u2 w s1 s2
set_option maxRecDepth 100000 in
set_option maxHeartbeats 8000000 in
theorem rarith_call (lang op : Int) (w : World) (k : Int) (b : Bool) (n : Int) (hn : In64 n) (t x : ByteArray) (s : Value) (l : List V) (k2 : Int) (bb : Bool) (n2 : Int) (hn2 : In64 n2) (t2 x2 : ByteArray) (s2 : Value) (l2 : List V)
    (ha : LA w 1048576 s l) (ht : t.size ≤ 1048576) (hx : x.size ≤ 1048576) (ha2 : LA w 1048576 s2 l2) (ht2 : t2.size ≤ 1048576) (hx2 : x2.size ≤ 1048576) :
    Calls Tryz.prog 13 #[.int .i64 lang, .int .i64 op, agg6 k b n t x s, agg6 k2 bb n2 t2 x2 s2] w (AR w 1048576 (arithV (decide (lang = 1)) op (.mk k b n t x l) (.mk k2 bb n2 t2 x2 l2))) := by
  obtain ⟨aoA, capA, rfl⟩ := ha.form6
  obtain ⟨aoB, capB, rfl⟩ := ha2.form6
  have hq := A3.made w #[.int .i64 k, .bool b, .int .i64 n, .string t, .string x, .slice aoA l.length capA] #[.int .i64 k2, .bool bb, .int .i64 n2, .string t2, .string x2, .slice aoB l2.length capB]
  have hck := fun W (h : A3 w W #[.int .i64 k, .bool b, .int .i64 n, .string t, .string x, .slice aoA l.length capA] #[.int .i64 k2, .bool bb, .int .i64 n2, .string t2, .string x2, .slice aoB l2.length capB]) => rMay_call 1048576 (by omega) W k b n t x _ l (ha.stay h.below) ht hx
  have hck2 := fun W (h : A3 w W #[.int .i64 k, .bool b, .int .i64 n, .string t, .string x, .slice aoA l.length capA] #[.int .i64 k2, .bool bb, .int .i64 n2, .string t2, .string x2, .slice aoB l2.length capB]) => rMay_call 1048576 (by omega) W k2 bb n2 t2 x2 _ l2 (ha2.stay h.below) ht2 hx2
  have hnum : ∀ W, Calls Tryz.prog 32 #[agg6 k b n t x (.slice aoA l.length capA)] W fun e w' => e = .returned (.bool (isNum k)) ∧ Below W.heap.size W w' := fun W => rnumber_any k b n t x _ W
  have hnum2 : ∀ W, Calls Tryz.prog 32 #[agg6 k2 bb n2 t2 x2 (.slice aoB l2.length capB)] W fun e w' => e = .returned (.bool (isNum k2)) ∧ Below W.heap.size W w' := fun W => rnumber_any k2 bb n2 t2 x2 _ W
  have hint := fun W h1 h2 => twoInts_call lang op n n2 W hn hn2 h1 h2
  have hex := fun W => rdec_call k b n hn t x (.slice aoA l.length capA) W ht
  have hex2 := fun W => rdec_call k2 bb n2 hn2 t2 x2 (.slice aoB l2.length capB) W ht2
  have hm4 : k = 4 → mayV (.mk k b n t x l) = true → l = [] ∧ t.size ≤ 1048576 := fun h => may_text h
  have hm5 : k = 5 → mayV (.mk k b n t x l) = true → t = ByteArray.empty ∧ l.length ≤ 4096 := fun h => may_list h
  have hm42 : k2 = 4 → mayV (.mk k2 bb n2 t2 x2 l2) = true → l2 = [] ∧ t2.size ≤ 1048576 := fun h => may_text h
  have hm52 : k2 = 5 → mayV (.mk k2 bb n2 t2 x2 l2) = true → t2 = ByteArray.empty ∧ l2.length ≤ 4096 := fun h => may_list h
  obtain ⟨R, hR⟩ : ∃ R, arithV (decide (lang = 1)) op (.mk k b n t x l) (.mk k2 bb n2 t2 x2 l2) = R := ⟨_, rfl⟩
  rw [hR]
  unfold arithV at hR
  dsimp only at hR
  generalize mayV (.mk k b n t x l) = p at *
  generalize mayV (.mk k2 bb n2 t2 x2 l2) = p2 at *
  unfold agg6 at hck hck2 hnum hnum2 hex hex2 ⊢
  replace hck := Lib.hid hck
  replace hck2 := Lib.hid hck2
  replace hnum := Lib.hid hnum
  replace hnum2 := Lib.hid hnum2
  replace hint := Lib.hid hint
  replace hex := Lib.hid hex
  replace hex2 := Lib.hid hex2
  replace hm4 := Lib.hid hm4
  replace hm5 := Lib.hid hm5
  replace hm42 := Lib.hid hm42
  replace hm52 := Lib.hid hm52
  replace hR := Lib.hid hR
  replace hq := Lib.hid hq
  obtain ⟨q0, hq0⟩ : ∃ q : Bool, (!(p && p2 && decide (17 ≤ op ∧ op ≤ 21))) = q := ⟨_, rfl⟩
  go_enter Tryz.func13, Tryz.ntmps13
  go_upto_region 1 with (fail)
  go_cut [37] (fun v wx => v = .bool q0 ∧ Hid (A3 w wx #[.int .i64 k, .bool b, .int .i64 n, .string t, .string x, .slice aoA l.length capA] #[.int .i64 k2, .bool bb, .int .i64 n2, .string t2, .string x2, .slice aoB l2.length capB]))
  case first =>
    as_aux_lemma =>
      clear hR hm4 hm5 hm42 hm52 hint hex hex2 hnum hnum2
      go_wp2_with fail
      refine (hck.out _ hq.out).mono ?_
      rintro e w3 ⟨rfl, hb⟩
      have hn := Lib.hid (hq.out.on hb)
      clear hq hb hck
      have hq := hn
      clear hn
      obtain ⟨x0, x1, x2', x3, x4, x5, y0, y1, y2, y3, y4, y5, z0, z1, z2, z3, z4, z5, f2⟩ := hq.out.cells
      cases p
      case false =>
        obtain rfl : true = q0 := by rw [← hq0]; rfl
        go_wp2
        go_meet
        exact ⟨rfl, hq⟩
      go_wp2_with fail
      refine (hck2.out _ hq.out).mono ?_
      rintro e w4 ⟨rfl, hb⟩
      have hn := Lib.hid (hq.out.on hb)
      clear hq hb
      try clear x0 x1 x2' x3 x4 x5 y0 y1 y2 y3 y4 y5 z0 z1 z2 z3 z4 z5 f2
      obtain ⟨x0, x1, x2', x3, x4, x5, y0, y1, y2, y3, y4, y5, z0, z1, z2, z3, z4, z5, f2⟩ := hn.out.cells
      have hq := hn
      clear hn
      clear hck2
      cases p2
      case false =>
        obtain rfl : true = q0 := by rw [← hq0]; rfl
        go_wp2
        go_meet
        exact ⟨rfl, hq⟩
      by_cases hop : ¬ (17 ≤ op ∧ op ≤ 21)
      · obtain rfl : true = q0 := by rw [← hq0, decide_eq_false hop]; rfl
        have e17 : (op != 17) = true := bne_iff_ne.2 (by omega)
        have e18 : (op != 18) = true := bne_iff_ne.2 (by omega)
        have e19 : (op != 19) = true := bne_iff_ne.2 (by omega)
        have e20 : (op != 20) = true := bne_iff_ne.2 (by omega)
        have e21 : (op != 21) = true := bne_iff_ne.2 (by omega)
        clear hop
        go_wp2
        go_meet
        exact ⟨rfl, hq⟩
      · obtain rfl : false = q0 := by rw [← hq0, decide_eq_true (Classical.byContradiction hop)]; rfl
        have hopc : op = 17 ∨ op = 18 ∨ op = 19 ∨ op = 20 ∨ op = 21 := by omega
        clear hop hq0
        rcases hopc with rfl | rfl | rfl | rfl | rfl
        · go_wp2
          go_meet
          exact ⟨rfl, hq⟩
        · go_wp2
          go_meet
          exact ⟨rfl, hq⟩
        · go_wp2
          go_meet
          exact ⟨rfl, hq⟩
        · go_wp2
          go_meet
          exact ⟨rfl, hq⟩
        · go_wp2
          go_meet
          exact ⟨rfl, hq⟩
  obtain ⟨w4, rfl⟩ : ∃ w4 : World, w4 = wc := ⟨_, rfl⟩
  obtain ⟨rfl, hq4⟩ := hcut
  clear hq hck hck2
  have hq := hq4
  clear hq4
  obtain ⟨x0, x1, x2', x3, x4, x5, y0, y1, y2, y3, y4, y5, z0, z1, z2, z3, z4, z5, f2⟩ := hq.out.cells
  cases q0
  case true =>
    have hor : ¬ (17 ≤ op ∧ op ≤ 21) ∨ p = false ∨ p2 = false := by
      cases p
      · exact .inr (.inl rfl)
      · cases p2
        · exact .inr (.inr rfl)
        · exact .inl (by simp at hq0; omega)
    obtain rfl : (zV, 1) = R := by rw [← hR.out, if_pos hor]
    clear hor hq0
    go_wp2
    obtain ⟨hf, hbf⟩ := hq.out.set (.int .i64 0) (.bool false) (.int .i64 0) (.string ByteArray.empty) (.string ByteArray.empty) (.slice none 0 0)
    exact bodyPost_ret (v := tupR (zV, 1)) (res2 rfl _ _ (w.heap.size + 1 + 1) 26 _ (0, 0) _ _ rfl rfl hf.eq Tryz.underlying26 rfl infoV6) rfl (AR.plain rfl hbf)
  obtain ⟨⟨rfl, rfl⟩, hop⟩ : (p = true ∧ p2 = true) ∧ (17 ≤ op ∧ op ≤ 21) := by simpa using hq0
  have hA : ¬ (¬ (17 ≤ op ∧ op ≤ 21) ∨ true = false ∨ true = false) := by simp; omega
  have hopc : op = 17 ∨ op = 18 ∨ op = 19 ∨ op = 20 ∨ op = 21 := by omega
  have hop1 : 17 ≤ op := by omega
  have hop2 : op ≤ 21 := by omega
  clear hop hq0
  by_cases h0 : k = 0 ∨ k2 = 0
  · have hR2 : (zV, if decide (lang = 1) = true then (5 : Int) else 0) = R := by rw [← hR.out, if_neg hA, if_pos h0]
    clear hR hint hex hex2 hnum hnum2 hm4 hm5 hm42 hm52
    by_cases hl : lang = 1
    · subst hl
      obtain rfl : (zV, 5) = R := hR2
      by_cases hk : k = 0
      · subst hk
        go_wp2
        obtain ⟨hf, hbf⟩ := hq.out.set (.int .i64 0) (.bool false) (.int .i64 0) (.string ByteArray.empty) (.string ByteArray.empty) (.slice none 0 0)
        exact bodyPost_ret (v := tupR (zV, 5)) (res2 rfl _ _ (w.heap.size + 1 + 1) 26 _ (0, 0) _ _ rfl rfl hf.eq Tryz.underlying26 rfl infoV6) rfl (AR.plain rfl hbf)
      · obtain rfl : k2 = 0 := h0.resolve_left hk
        have hkb : (k == 0) = false := beq_eq_false_iff_ne.2 hk
        go_wp2
        obtain ⟨hf, hbf⟩ := hq.out.set (.int .i64 0) (.bool false) (.int .i64 0) (.string ByteArray.empty) (.string ByteArray.empty) (.slice none 0 0)
        exact bodyPost_ret (v := tupR (zV, 5)) (res2 rfl _ _ (w.heap.size + 1 + 1) 26 _ (0, 0) _ _ rfl rfl hf.eq Tryz.underlying26 rfl infoV6) rfl (AR.plain rfl hbf)
    · obtain rfl : (zV, 0) = R := by rw [← hR2, if_neg (by simpa using hl)]
      have hlb : (lang == 1) = false := beq_eq_false_iff_ne.2 hl
      by_cases hk : k = 0
      · subst hk
        go_wp2
        obtain ⟨hf, hbf⟩ := hq.out.set (.int .i64 0) (.bool false) (.int .i64 0) (.string ByteArray.empty) (.string ByteArray.empty) (.slice none 0 0)
        exact bodyPost_ret (v := tupR (zV, 0)) (res2 rfl _ _ (w.heap.size + 1 + 1) 26 _ (0, 0) _ _ rfl rfl hf.eq Tryz.underlying26 rfl infoV6) rfl (AR.plain rfl hbf)
      · obtain rfl : k2 = 0 := h0.resolve_left hk
        have hkb : (k == 0) = false := beq_eq_false_iff_ne.2 hk
        go_wp2
        obtain ⟨hf, hbf⟩ := hq.out.set (.int .i64 0) (.bool false) (.int .i64 0) (.string ByteArray.empty) (.string ByteArray.empty) (.slice none 0 0)
        exact bodyPost_ret (v := tupR (zV, 0)) (res2 rfl _ _ (w.heap.size + 1 + 1) 26 _ (0, 0) _ _ rfl rfl hf.eq Tryz.underlying26 rfl infoV6) rfl (AR.plain rfl hbf)
  have hkb : (k == 0) = false := beq_eq_false_iff_ne.2 fun e => h0 (.inl e)
  have hkb2 : (k2 == 0) = false := beq_eq_false_iff_ne.2 fun e => h0 (.inr e)
  by_cases hj : ¬ lang = 1 ∧ op = 17 ∧ k = k2 ∧ (k = 4 ∨ k = 5)
  · obtain ⟨hl, rfl, rfl, hk⟩ := hj
    have hlb : (lang != 1) = true := bne_iff_ne.2 hl
    have hR2 : (if 1048576 < t.size + t2.size ∨ 4096 < l.length + l2.length then (zV, (2 : Int)) else (V.mk k false 0 (t ++ t2) ByteArray.empty (l ++ l2), 0)) = R := by
      have hc : decide (lang = 1) = false ∧ (17 : Int) = 17 ∧ k = k ∧ (k = 4 ∨ k = 5) := ⟨decide_eq_false hl, rfl, rfl, hk⟩
      rw [← hR.out, if_neg hA, if_neg h0, if_pos hc]
    clear hR hint hex hex2 hnum hnum2 hl hA hopc hop1 hop2
    rcases hk with rfl | rfl
    · obtain ⟨rfl, -⟩ := hm4.out (by simp) (by simp)
      obtain ⟨rfl, -⟩ := hm42.out (by simp) (by simp)
      clear hm4 hm42 hm5 hm52
      by_cases hbig : 1048576 < t.size + t2.size
      · obtain rfl : (zV, 2) = R := by rw [← hR2, if_pos (.inl hbig)]
        have hbi : (1048576 : Int) - (t2.size : Int) < (t.size : Int) := by omega
        clear hR2 hbig
        go_wp2
        obtain ⟨hf, hbf⟩ := hq.out.set (.int .i64 0) (.bool false) (.int .i64 0) (.string ByteArray.empty) (.string ByteArray.empty) (.slice none 0 0)
        exact bodyPost_ret (v := tupR (zV, 2)) (res2 rfl _ _ (w.heap.size + 1 + 1) 26 _ (0, 0) _ _ rfl rfl hf.eq Tryz.underlying26 rfl infoV6) rfl (AR.plain rfl hbf)
      · obtain rfl : (V.mk 4 false 0 (t ++ t2) ByteArray.empty ([] ++ []), (0 : Int)) = R := by
          rw [← hR2, if_neg]
          simp only [List.length_nil]; omega
        have hbi : ¬ (1048576 : Int) - (t2.size : Int) < (t.size : Int) := by omega
        have hbi2 : (t.size : Int) + (t2.size : Int) ≤ 1048576 := by omega
        clear hR2 hbig
        go_wp2
        obtain ⟨hf, hbf⟩ := hq.out.set (.int .i64 4) (.bool false) (.int .i64 0) (.string (t ++ t2)) (.string ByteArray.empty) (.slice none 0 0)
        exact bodyPost_ret (v := tupR (.mk 4 false 0 (t ++ t2) ByteArray.empty [], 0)) (res2 rfl _ _ (w.heap.size + 1 + 1) 26 _ (0, 0) _ _ rfl rfl hf.eq Tryz.underlying26 rfl infoV6) rfl (AR.plain rfl hbf)
    · obtain ⟨rfl, hl1⟩ := hm5.out (by simp) (by simp)
      obtain ⟨rfl, hl2⟩ := hm52.out (by simp) (by simp)
      clear hm4 hm42 hm5 hm52
      have hez : ByteArray.empty.size = 0 := rfl
      by_cases hbig : 4096 < l.length + l2.length
      · obtain rfl : (zV, 2) = R := by rw [← hR2, if_pos (.inr hbig)]
        have hbi : (4096 : Int) < (l.length : Int) + (l2.length : Int) := by omega
        clear hR2 hbig
        go_wp2
        obtain ⟨hf, hbf⟩ := hq.out.set (.int .i64 0) (.bool false) (.int .i64 0) (.string ByteArray.empty) (.string ByteArray.empty) (.slice none 0 0)
        exact bodyPost_ret (v := tupR (zV, 2)) (res2 rfl _ _ (w.heap.size + 1 + 1) 26 _ (0, 0) _ _ rfl rfl hf.eq Tryz.underlying26 rfl infoV6) rfl (AR.plain rfl hbf)
      · have hee : ByteArray.empty ++ ByteArray.empty = ByteArray.empty := by decide
        obtain rfl : (V.mk 5 false 0 ByteArray.empty ByteArray.empty (l ++ l2), (0 : Int)) = R := by
          rw [← hR2, if_neg, hee]
          rw [hez]; omega
        have hbi : ¬ (4096 : Int) < (l.length : Int) + (l2.length : Int) := by omega
        have hbi2 : (l.length : Int) + (l2.length : Int) ≤ 4096 := by omega
        clear hR2 hee hez h0
        go_upto_region 15 with (fail)
        have hd := hq.out.on (below_drewN (Below.refl _ _) 1)
        clear hq
        clear x0 x1 x2' x3 x4 x5 y0 y1 y2 y3 y4 y5 z0 z1 z2 z3 z4 z5 f2
        have hS0 : B2 w w4.drew #[.int .i64 5, .bool b, .int .i64 n, .string ByteArray.empty, .string x, .slice aoA l.length capA] #[.int .i64 5, .bool bb, .int .i64 n2, .string ByteArray.empty, .string x2, .slice aoB l2.length capB] := ⟨hd.below, hd.b0, hd.b1⟩
        refine wp_region_held_drew (S := fun V => B2 w V #[.int .i64 5, .bool b, .int .i64 n, .string ByteArray.empty, .string x, .slice aoA l.length capA] #[.int .i64 5, .bool bb, .int .i64 n2, .string ByteArray.empty, .string x2, .slice aoB l2.length capB]) (by kernel_rfl) hS0 (fun hS => ?_)
        clear hS0
        replace hd : A3 w w4.drew #[.int .i64 5, .bool b, .int .i64 n, .string ByteArray.empty, .string x, .slice aoA l.length capA] #[.int .i64 5, .bool bb, .int .i64 n2, .string ByteArray.empty, .string x2, .slice aoB l2.length capB] := hd
        generalize w4.drew = V0 at *
        have hlaA := ha.stay hd.below
        refine wpAnyH_take (i := 0) (v := ?_) rfl (by kernel_rfl) (by kernel_rfl) (by kernel_rfl) (fun _ _ _ h => h) (.inl ⟨by kernel_rfl, fun w' hS => ?_⟩) hS ?_
        rotate_left
        ·
          skip
          go_simp
          try with_reducible rfl
        simp only [List.getElem_toArray, List.getElem_cons_succ, List.getElem_cons_zero, Act.put, List.setIfInBounds_toArray, List.set_cons_zero, List.set_cons_succ]
        refine wpAnyH_take (i := 1) (v := ?_) rfl (by kernel_rfl) (by kernel_rfl) (by kernel_rfl) (fun _ _ _ h => h) (.inl ⟨by kernel_rfl, fun w' hS => ?_⟩) hS ?_
        rotate_left
        ·
          have x5 := hS.b0.cell 5 rfl
          go_simp
          try with_reducible rfl
        simp only [List.getElem_toArray, List.getElem_cons_succ, List.getElem_cons_zero, Act.put, List.setIfInBounds_toArray, List.set_cons_zero, List.set_cons_succ]
        refine wpAnyH_take (i := 3) (v := ?_) rfl (by kernel_rfl) (by kernel_rfl) (by kernel_rfl) (fun _ _ _ h => h) (.inl ⟨by kernel_rfl, fun w' hS => ?_⟩) hS ?_
        rotate_left
        ·
          skip
          go_simp
          try with_reducible rfl
        simp only [List.getElem_toArray, List.getElem_cons_succ, List.getElem_cons_zero, Act.put, List.setIfInBounds_toArray, List.set_cons_zero, List.set_cons_succ]
        refine wpAnyH_take (i := 4) (v := ?_) rfl (by kernel_rfl) (by kernel_rfl) (by kernel_rfl) (fun _ _ _ h => h) (.inl ⟨by kernel_rfl, fun w' hS => ?_⟩) hS ?_
        rotate_left
        ·
          have x5 := hS.b1.cell 5 rfl
          go_simp
          try with_reducible rfl
        simp only [List.getElem_toArray, List.getElem_cons_succ, List.getElem_cons_zero, Act.put, List.setIfInBounds_toArray, List.set_cons_zero, List.set_cons_succ]
        refine wpAnyH_ready (rs := [2]) (by kernel_rfl) (by simp) ?_
        refine AllReadyH.cons rfl (fun K hK => ?_) AllReadyH.nil
        clear hS
        go_simp
        refine (copyRow_all 1048576 (by omega) _ V0 _ l (Nat.lt_succ_self _) hlaA).mono ?_
        rintro e w8 ⟨ao1, cap1, rfl, hb, hl1⟩
        go_wp2_with fail
        refine hK.out _ _ (⟨(hd.on hb).below, (hd.on hb).b0, (hd.on hb).b1⟩) (fun hS => ?_)
        clear hK K
        try simp only [List.getElem_toArray, List.getElem_cons_succ, List.getElem_cons_zero, Act.put, List.setIfInBounds_toArray, List.set_cons_zero, List.set_cons_succ]
        have hd8 := hd.on hb
        have hs8 := hb.size
        clear hb hlaA
        have hlaB := ha2.stay hd8.below
        refine wpAnyH_ready (rs := [5]) (by kernel_rfl) (by simp) ?_
        refine AllReadyH.cons rfl (fun K hK => ?_) AllReadyH.nil
        clear hS
        go_simp
        refine (copyRow_all 1048576 (by omega) _ w8 _ l2 (Nat.lt_succ_self _) hlaB).mono ?_
        rintro e w9 ⟨ao2, cap2, rfl, hb, hl2⟩
        go_wp2_with fail
        refine hK.out _ _ (⟨(hd8.on hb).below, (hd8.on hb).b0, (hd8.on hb).b1⟩) (fun hS => ?_)
        clear hK K
        try simp only [List.getElem_toArray, List.getElem_cons_succ, List.getElem_cons_zero, Act.put, List.setIfInBounds_toArray, List.set_cons_zero, List.set_cons_succ]
        have hd9 := hd8.on hb
        have hl19 := hl1.stay fun b hS hlt => hb.block b hlt
        have hs9 := hb.size
        clear hb hlaB hd8 hl1
        have hsz := hd.size
        refine wpAnyH_ready (rs := [6]) (by kernel_rfl) (by simp) ?_
        refine AllReadyH.cons rfl (fun K hK => ?_) AllReadyH.nil
        clear hS
        refine wp_pushLF (.tmp 96) (.tmp 99) rfl 1048576 (by omega) (Fr V0.heap.size w8) (Fr w8.heap.size w9) _ l rfl hl19 (fun b h => by have := h.2; omega) _ l2 rfl hl2 (fun b h => ⟨h.2, fun h2 => by have := h.1; have := h2.2; omega⟩) (by omega) ?_
        intro v' w' hlf hg hvS
        have hdw := hd9.grown hg (fun g e => by have := (hvS g e).1; omega)
        have hsw := hg.size
        obtain ⟨LL, hLL⟩ : ∃ LL, l ++ l2 = LL := ⟨_, rfl⟩
        rw [hLL] at hlf
        replace hLL := Lib.hid hLL
        obtain ⟨ao3, cap3, rfl, _⟩ := hlf.form
        refine hK.out _ _ ⟨hdw.below, hdw.b0, hdw.b1⟩ (fun hS => ?_)
        clear hK K hd hd9 hl19 hl2 hg hvS
        try simp only [List.getElem_toArray, List.getElem_cons_succ, List.getElem_cons_zero, Act.put, List.setIfInBounds_toArray, List.set_cons_zero, List.set_cons_succ]
        refine wpAnyH_take (i := 7) (v := ?_) rfl (by kernel_rfl) (by kernel_rfl) (by kernel_rfl) (fun _ _ _ h => h) (.inl ⟨by kernel_rfl, fun w' hS => ?_⟩) hS ?_
        rotate_left
        ·
          skip
          go_simp
          try with_reducible rfl
        simp only [List.getElem_toArray, List.getElem_cons_succ, List.getElem_cons_zero, Act.put, List.setIfInBounds_toArray, List.set_cons_zero, List.set_cons_succ]
        refine wpAnyH_ready (rs := [8]) (by kernel_rfl) (by simp) ?_
        refine AllReadyH.cons rfl (fun K hK => ?_) AllReadyH.nil
        clear hS
        have hq := Lib.hid hdw
        have hlf2 := Lib.hid (hlf.mono (S' := Fr V0.heap.size w') (by
          rintro b (h | h | h)
          · exact ⟨h.1, by have := h.2; omega⟩
          · exact ⟨by have := h.1; omega, by have := h.2; omega⟩
          · exact ⟨by have := h.1; omega, h.2⟩))
        clear hdw hlf
        obtain ⟨x0, x1, x2', x3, x4, x5, y0, y1, y2, y3, y4, y5, z0, z1, z2, z3, z4, z5, f2⟩ := hq.out.cells
        obtain ⟨hf, hbf⟩ := hq.out.set (.int .i64 5) (.bool false) (.int .i64 0) (.string ByteArray.empty) (.string ByteArray.empty) (.slice ao3 LL.length cap3)
        have hl2 := hlf2.out.set6 (w.heap.size + 1 + 1) (fun h => by have := h.1; omega) (.int .i64 5) (.bool false) (.int .i64 0) (.string ByteArray.empty) (.string ByteArray.empty) (.slice ao3 LL.length cap3)
        go_simp
        go_wp2_with fail
        refine hK.out _ _ ⟨hbf, hq.out.b0.heap6 (by omega) _ _ _ _ _ _, hq.out.b1.heap6 (by omega) _ _ _ _ _ _⟩ (fun hS => ?_)
        clear hK K
        clear x0 x1 x2' x3 x4 x5 y0 y1 y2 y3 y4 y5 z0 z1 z2 z3 z4 z5 f2
        try simp only [List.getElem_toArray, List.getElem_cons_succ, List.getElem_cons_zero, Act.put, List.setIfInBounds_toArray, List.set_cons_zero, List.set_cons_succ]
        refine wpAnyH_take (i := 9) (v := ?_) rfl (by kernel_rfl) (by kernel_rfl) (by kernel_rfl) (fun _ _ _ h => h) (.inl ⟨by kernel_rfl, fun w' hS => ?_⟩) hS ?_
        rotate_left
        ·
          skip
          go_simp
          try with_reducible rfl
        simp only [List.getElem_toArray, List.getElem_cons_succ, List.getElem_cons_zero, Act.put, List.setIfInBounds_toArray, List.set_cons_zero, List.set_cons_succ]
        refine wpAnyH_done (by kernel_rfl) ?_ _
        go_wp2
        obtain rfl := hLL.out
        exact bodyPost_ret (v := .tuple #[agg6 5 false 0 ByteArray.empty ByteArray.empty (.slice ao3 (l ++ l2).length cap3), .int .i64 0]) (res2 rfl _ _ (w.heap.size + 1 + 1) 26 _ (0, 0) _ _ rfl rfl hf.eq Tryz.underlying26 rfl infoV6) rfl ⟨_, rfl, hbf, hl2.mono fun b hb => ⟨by have := hb.1; omega, by have := hb.2; simpa only [World.setCell, Array.size_modify] using this⟩⟩
  have hj2 : ¬ (decide (lang = 1) = false ∧ op = 17 ∧ k = k2 ∧ (k = 4 ∨ k = 5)) := fun e => hj ⟨of_decide_eq_false e.1, e.2⟩
  have hR2 : (if isNum k = false ∨ isNum k2 = false then (zV, 4) else if k = 2 ∧ k2 = 2 then intsV (decide (lang = 1)) op n n2 else decV op (numV k n t) (numV k2 n2 t2)) = R := by rw [← hR.out, if_neg hA, if_neg h0, if_neg hj2]
  replace hR2 := Lib.hid hR2
  clear hR hj2 hm4 hm5 hm42 hm52 hA h0
  obtain ⟨q7, hq7⟩ : ∃ q : Bool, decide (¬ lang = 1 ∧ op = 17 ∧ k = k2) = q := ⟨_, rfl⟩
  go_upto_region 7 with (fail)
  go_cut [63] (fun v wx => v = .bool q7 ∧ wx = w4)
  case first =>
    as_aux_lemma =>
      by_cases hl : lang = 1
      · obtain rfl : false = q7 := by rw [← hq7, decide_eq_false (fun e => e.1 hl)]
        subst hl
        go_wp2
        go_meet
        exact ⟨rfl, rfl⟩
      have hlb : (lang != 1) = true := bne_iff_ne.2 hl
      by_cases ho : op = 17
      · by_cases hkk : k = k2
        · obtain rfl : true = q7 := by rw [← hq7, decide_eq_true ⟨hl, ho, hkk⟩]
          subst ho hkk
          go_wp2
          go_meet
          exact ⟨rfl, rfl⟩
        · obtain rfl : false = q7 := by rw [← hq7, decide_eq_false (fun e => hkk e.2.2)]
          subst ho
          have hkk2 : (k == k2) = false := beq_eq_false_iff_ne.2 hkk
          go_wp2
          go_meet
          exact ⟨rfl, rfl⟩
      · obtain rfl : false = q7 := by rw [← hq7, decide_eq_false (fun e => ho e.2.1)]
        have ho2 : (op == 17) = false := beq_eq_false_iff_ne.2 ho
        go_wp2
        go_meet
        exact ⟨rfl, rfl⟩
  obtain ⟨rfl, hwx⟩ := hcut
  rw [hwx]; clear hwx
  go_upto_if 63 with (fail)
  go_cut [] (fun wx => wx = w4)
  case first =>
    as_aux_lemma =>
      cases q7
      · go_wp2
        go_meet
        exact rfl
      · have h7 := of_decide_eq_true hq7
        have h4 : (k == 4) = false := beq_eq_false_iff_ne.2 fun e => hj ⟨h7.1, h7.2.1, h7.2.2, .inl e⟩
        have h5 : (k == 5) = false := beq_eq_false_iff_ne.2 fun e => hj ⟨h7.1, h7.2.1, h7.2.2, .inr e⟩
        go_wp2
        go_meet
        exact rfl
  rw [hcut]; clear hcut hj hq7
  obtain ⟨q, hqn⟩ : ∃ q, isNum k = q := ⟨_, rfl⟩
  obtain ⟨q2, hqn2⟩ : ∃ q, isNum k2 = q := ⟨_, rfl⟩
  rw [hqn] at hnum hR2
  rw [hqn2] at hnum2 hR2
  clear hqn hqn2
  go_wp2_with fail
  refine (hnum.out _).mono ?_
  rintro e w5 ⟨rfl, hb⟩
  have hn := Lib.hid (hq.out.on hb)
  clear hq hb
  try clear x0 x1 x2' x3 x4 x5 y0 y1 y2 y3 y4 y5 z0 z1 z2 z3 z4 z5 f2
  obtain ⟨x0, x1, x2', x3, x4, x5, y0, y1, y2, y3, y4, y5, z0, z1, z2, z3, z4, z5, f2⟩ := hn.out.cells
  have hq := hn
  clear hn
  clear hnum
  cases q
  case false =>
    obtain rfl : (zV, 4) = R := by rw [← hR2.out, if_pos (.inl rfl)]
    go_wp2
    obtain ⟨hf, hbf⟩ := hq.out.set (.int .i64 0) (.bool false) (.int .i64 0) (.string ByteArray.empty) (.string ByteArray.empty) (.slice none 0 0)
    exact bodyPost_ret (v := tupR (zV, 4)) (res2 rfl _ _ (w.heap.size + 1 + 1) 26 _ (0, 0) _ _ rfl rfl hf.eq Tryz.underlying26 rfl infoV6) rfl (AR.plain rfl hbf)
  go_wp2_with fail
  refine (hnum2.out _).mono ?_
  rintro e w6 ⟨rfl, hb⟩
  have hn := Lib.hid (hq.out.on hb)
  clear hq hb
  try clear x0 x1 x2' x3 x4 x5 y0 y1 y2 y3 y4 y5 z0 z1 z2 z3 z4 z5 f2
  obtain ⟨x0, x1, x2', x3, x4, x5, y0, y1, y2, y3, y4, y5, z0, z1, z2, z3, z4, z5, f2⟩ := hn.out.cells
  have hq := hn
  clear hn
  clear hnum2
  cases q2
  case false =>
    obtain rfl : (zV, 4) = R := by rw [← hR2.out, if_pos (.inr rfl)]
    go_wp2
    obtain ⟨hf, hbf⟩ := hq.out.set (.int .i64 0) (.bool false) (.int .i64 0) (.string ByteArray.empty) (.string ByteArray.empty) (.slice none 0 0)
    exact bodyPost_ret (v := tupR (zV, 4)) (res2 rfl _ _ (w.heap.size + 1 + 1) 26 _ (0, 0) _ _ rfl rfl hf.eq Tryz.underlying26 rfl infoV6) rfl (AR.plain rfl hbf)
  by_cases h22 : k = 2 ∧ k2 = 2
  · have hR3 : intsV (decide (lang = 1)) op n n2 = R := by rw [← hR2.out, if_neg (by simp), if_pos h22]
    have hkd := intsV_kids (decide (lang = 1)) op n n2
    have hint2 := fun W => hint.out W hop1 hop2
    rw [hR3] at hint2 hkd
    obtain ⟨⟨kr, br, nr, tr, xr, lr⟩, er⟩ := R
    obtain rfl : lr = [] := hkd
    unfold tupR val6 agg6 at hint2
    replace hint2 := Lib.hid hint2
    clear hR3 hR2 hex hex2 hint
    obtain ⟨rfl, rfl⟩ := h22
    go_wp2_with fail
    refine (hint2.out _).mono ?_
    rintro e w7 ⟨rfl, hb⟩
    have hn := Lib.hid (hq.out.on hb)
    clear hq hb
    try clear x0 x1 x2' x3 x4 x5 y0 y1 y2 y3 y4 y5 z0 z1 z2 z3 z4 z5 f2
    obtain ⟨x0, x1, x2', x3, x4, x5, y0, y1, y2, y3, y4, y5, z0, z1, z2, z3, z4, z5, f2⟩ := hn.out.cells
    have hq := hn
    clear hn
    clear hint2
    go_wp2
    obtain ⟨hf, hbf⟩ := hq.out.set (.int .i64 kr) (.bool br) (.int .i64 nr) (.string tr) (.string xr) (.slice none 0 0)
    exact bodyPost_ret (v := tupR (.mk kr br nr tr xr [], er)) (res2 rfl _ _ (w.heap.size + 1 + 1) 26 _ (0, 0) _ _ rfl rfl hf.eq Tryz.underlying26 rfl infoV6) rfl (AR.plain rfl hbf)
  · have hR3 : decV op (numV k n t) (numV k2 n2 t2) = R := by rw [← hR2.out, if_neg (by simp), if_neg h22]
    have hkd := decV_kids op (numV k n t) (numV k2 n2 t2)
    have hd2 := fun u u2 hu hu2 W => refdec_call op (numV k n t) (numV k2 n2 t2) u u2 W hu hu2
    have hwh := fun W => rwhole_call (decP op (canon (numV k n t)) (canon (numV k2 n2 t2))) W
    have h21 : op = 21 → R = (zV, 4) := by
      rintro rfl
      rw [← hR3]
      rfl
    unfold decV at hR3
    rw [wholeR_V, hR3] at hwh
    unfold decV at hkd
    rw [hR3] at hkd
    obtain ⟨q, hq2⟩ : ∃ q : Bool, (k == 2) = q := ⟨_, rfl⟩
    obtain ⟨q2, hq22⟩ : ∃ q : Bool, (k2 == 2) = q := ⟨_, rfl⟩
    have hqq : (q && q2) = false := by
      rw [← hq2, ← hq22]
      apply Bool.eq_false_iff.2
      intro h
      rw [Bool.and_eq_true, beq_iff_eq, beq_iff_eq] at h
      exact h22 h
    generalize decP op (canon (numV k n t)) (canon (numV k2 n2 t2)) = D at *
    generalize numV k n t = Z1 at *
    generalize numV k2 n2 t2 = Z2 at *
    unfold rv at hd2
    obtain ⟨D0, D2⟩ := D
    dsimp only at hd2 hwh
    generalize tx D0 = D1 at *
    obtain ⟨⟨kr, br, nr, tr, xr, lr⟩, er⟩ := R
    obtain rfl : lr = [] := hkd
    unfold tupR val6 agg6 at hwh
    clear hR2 hint h22 hR3 ha ha2 hop1 hop2
    go_upto_region 18 with (fail)
    go_cut [118] (fun v wx => v = .bool false ∧ wx = w6)
    case first =>
      as_aux_lemma =>
        cases q
        · go_wp2
          go_meet
          exact ⟨rfl, rfl⟩
        · obtain rfl : q2 = false := by simpa using hqq
          go_wp2
          go_meet
          exact ⟨rfl, rfl⟩
    obtain ⟨rfl, hwx⟩ := hcut
    rw [hwx]; clear hwx hqq hq2 hq22
    rcases hopc with rfl | rfl | rfl | rfl | rfl
    · have hdd := Lib.hid fun u u2 hu hu2 W => (hd2 u u2 hu hu2 W).1 rfl
      clear hd2 h21
      replace hwh := Lib.hid hwh
      go_upto_region 24 with (fail)
      have hd := hq.out.on (below_drewN (Below.refl _ _) 1)
      clear hq
      clear x0 x1 x2' x3 x4 x5 y0 y1 y2 y3 y4 y5 z0 z1 z2 z3 z4 z5 f2
      have hS0 : B2 w w6.drew #[.int .i64 k, .bool b, .int .i64 n, .string t, .string x, .slice aoA l.length capA] #[.int .i64 k2, .bool bb, .int .i64 n2, .string t2, .string x2, .slice aoB l2.length capB] := ⟨hd.below, hd.b0, hd.b1⟩
      refine wp_region_held_drew (S := fun V => B2 w V #[.int .i64 k, .bool b, .int .i64 n, .string t, .string x, .slice aoA l.length capA] #[.int .i64 k2, .bool bb, .int .i64 n2, .string t2, .string x2, .slice aoB l2.length capB]) (by kernel_rfl) hS0 (fun hS => ?_)
      clear hS0
      replace hd : A3 w w6.drew #[.int .i64 k, .bool b, .int .i64 n, .string t, .string x, .slice aoA l.length capA] #[.int .i64 k2, .bool bb, .int .i64 n2, .string t2, .string x2, .slice aoB l2.length capB] := hd
      generalize w6.drew = V0 at *
      refine wpAnyH_take (i := 0) (v := ?_) rfl (by kernel_rfl) (by kernel_rfl) (by kernel_rfl) (fun _ _ _ h => h) (.inl ⟨by kernel_rfl, fun w' hS => ?_⟩) hS ?_
      rotate_left
      ·
        have x0 := hS.b0.cell 0 rfl
        have x1 := hS.b0.cell 1 rfl
        have x2 := hS.b0.cell 2 rfl
        have x3 := hS.b0.cell 3 rfl
        have x4 := hS.b0.cell 4 rfl
        have x5 := hS.b0.cell 5 rfl
        go_simp
        try with_reducible rfl
      simp only [List.getElem_toArray, List.getElem_cons_succ, List.getElem_cons_zero, Act.put, List.setIfInBounds_toArray, List.set_cons_zero, List.set_cons_succ]
      refine wpAnyH_take (i := 2) (v := ?_) rfl (by kernel_rfl) (by kernel_rfl) (by kernel_rfl) (fun _ _ _ h => h) (.inl ⟨by kernel_rfl, fun w' hS => ?_⟩) hS ?_
      rotate_left
      ·
        have y0 := hS.b1.cell 0 rfl
        have y1 := hS.b1.cell 1 rfl
        have y2 := hS.b1.cell 2 rfl
        have y3 := hS.b1.cell 3 rfl
        have y4 := hS.b1.cell 4 rfl
        have y5 := hS.b1.cell 5 rfl
        go_simp
        try with_reducible rfl
      simp only [List.getElem_toArray, List.getElem_cons_succ, List.getElem_cons_zero, Act.put, List.setIfInBounds_toArray, List.set_cons_zero, List.set_cons_succ]
      refine wpAnyH_ready (rs := [1]) (by kernel_rfl) (by simp) ?_
      refine AllReadyH.cons rfl (fun K hK => ?_) AllReadyH.nil
      clear hS
      go_simp
      refine (hex.out _).mono ?_
      rintro e w8 ⟨u, rfl, hu, hb⟩
      go_wp2_with fail
      refine hK.out _ _ (⟨(hd.on hb).below, (hd.on hb).b0, (hd.on hb).b1⟩) (fun hS => ?_)
      clear hK K
      try simp only [List.getElem_toArray, List.getElem_cons_succ, List.getElem_cons_zero, Act.put, List.setIfInBounds_toArray, List.set_cons_zero, List.set_cons_succ]
      have hd8 := hd.on hb
      clear hd hb
      replace hu := Lib.hid hu
      refine wpAnyH_ready (rs := [3]) (by kernel_rfl) (by simp) ?_
      refine AllReadyH.cons rfl (fun K hK => ?_) AllReadyH.nil
      clear hS
      go_simp
      refine (hex2.out _).mono ?_
      rintro e w9 ⟨u2, rfl, hu2, hb⟩
      go_wp2_with fail
      refine hK.out _ _ (⟨(hd8.on hb).below, (hd8.on hb).b0, (hd8.on hb).b1⟩) (fun hS => ?_)
      clear hK K
      try simp only [List.getElem_toArray, List.getElem_cons_succ, List.getElem_cons_zero, Act.put, List.setIfInBounds_toArray, List.set_cons_zero, List.set_cons_succ]
      have hd9 := hd8.on hb
      clear hd8 hb
      replace hu2 := Lib.hid hu2
      refine wpAnyH_ready (rs := [4]) (by kernel_rfl) (by simp) ?_
      refine AllReadyH.cons rfl (fun K hK => ?_) AllReadyH.nil
      clear hS
      go_simp
      refine (hdd.out u u2 hu.out hu2.out _).mono ?_
      rintro e w10 ⟨rfl, hb⟩
      go_wp2_with fail
      refine hK.out _ _ (⟨(hd9.on hb).below, (hd9.on hb).b0, (hd9.on hb).b1⟩) (fun hS => ?_)
      clear hK K
      try simp only [List.getElem_toArray, List.getElem_cons_succ, List.getElem_cons_zero, Act.put, List.setIfInBounds_toArray, List.set_cons_zero, List.set_cons_succ]
      have hd10 := hd9.on hb
      clear hd9 hb
      refine wpAnyH_take (i := 5) (v := ?_) rfl (by kernel_rfl) (by kernel_rfl) (by kernel_rfl) (fun _ _ _ h => h) (.inl ⟨by kernel_rfl, fun w' hS => ?_⟩) hS ?_
      rotate_left
      ·
        skip
        go_simp
        try with_reducible rfl
      simp only [List.getElem_toArray, List.getElem_cons_succ, List.getElem_cons_zero, Act.put, List.setIfInBounds_toArray, List.set_cons_zero, List.set_cons_succ]
      refine wpAnyH_take (i := 6) (v := ?_) rfl (by kernel_rfl) (by kernel_rfl) (by kernel_rfl) (fun _ _ _ h => h) (.inl ⟨by kernel_rfl, fun w' hS => ?_⟩) hS ?_
      rotate_left
      ·
        skip
        go_simp
        try with_reducible rfl
      simp only [List.getElem_toArray, List.getElem_cons_succ, List.getElem_cons_zero, Act.put, List.setIfInBounds_toArray, List.set_cons_zero, List.set_cons_succ]
      refine wpAnyH_ready (rs := [7]) (by kernel_rfl) (by simp) ?_
      refine AllReadyH.cons rfl (fun K hK => ?_) AllReadyH.nil
      clear hS
      go_simp
      refine (hwh.out _).mono ?_
      rintro e w11 ⟨rfl, hb⟩
      go_wp2_with fail
      refine hK.out _ _ (⟨(hd10.on hb).below, (hd10.on hb).b0, (hd10.on hb).b1⟩) (fun hS => ?_)
      clear hK K
      try simp only [List.getElem_toArray, List.getElem_cons_succ, List.getElem_cons_zero, Act.put, List.setIfInBounds_toArray, List.set_cons_zero, List.set_cons_succ]
      have hd11 := hd10.on hb
      clear hd10 hb
      refine wpAnyH_take (i := 8) (v := ?_) rfl (by kernel_rfl) (by kernel_rfl) (by kernel_rfl) (fun _ _ _ h => h) (.inl ⟨by kernel_rfl, fun w' hS => ?_⟩) hS ?_
      rotate_left
      ·
        skip
        go_simp
        try with_reducible rfl
      simp only [List.getElem_toArray, List.getElem_cons_succ, List.getElem_cons_zero, Act.put, List.setIfInBounds_toArray, List.set_cons_zero, List.set_cons_succ]
      refine wpAnyH_take (i := 9) (v := ?_) rfl (by kernel_rfl) (by kernel_rfl) (by kernel_rfl) (fun _ _ _ h => h) (.inl ⟨by kernel_rfl, fun w' hS => ?_⟩) hS ?_
      rotate_left
      ·
        skip
        go_simp
        try with_reducible rfl
      simp only [List.getElem_toArray, List.getElem_cons_succ, List.getElem_cons_zero, Act.put, List.setIfInBounds_toArray, List.set_cons_zero, List.set_cons_succ]
      refine wpAnyH_ready (rs := [10]) (by kernel_rfl) (by simp) ?_
      refine AllReadyH.cons rfl (fun K hK => ?_) AllReadyH.nil
      clear hS
      have hq := Lib.hid hd11
      clear hd11
      obtain ⟨x0, x1, x2', x3, x4, x5, y0, y1, y2, y3, y4, y5, z0, z1, z2, z3, z4, z5, f2⟩ := hq.out.cells
      obtain ⟨hf, hbf⟩ := hq.out.set (.int .i64 kr) (.bool br) (.int .i64 nr) (.string tr) (.string xr) (.slice none 0 0)
      go_simp
      go_wp2_with fail
      refine hK.out _ _ ⟨hbf, hq.out.b0.heap6 (by omega) _ _ _ _ _ _, hq.out.b1.heap6 (by omega) _ _ _ _ _ _⟩ (fun hS => ?_)
      clear hK K
      clear x0 x1 x2' x3 x4 x5 y0 y1 y2 y3 y4 y5 z0 z1 z2 z3 z4 z5 f2
      try simp only [List.getElem_toArray, List.getElem_cons_succ, List.getElem_cons_zero, Act.put, List.setIfInBounds_toArray, List.set_cons_zero, List.set_cons_succ]
      refine wpAnyH_take (i := 11) (v := ?_) rfl (by kernel_rfl) (by kernel_rfl) (by kernel_rfl) (fun _ _ _ h => h) (.inl ⟨by kernel_rfl, fun w' hS => ?_⟩) hS ?_
      rotate_left
      ·
        skip
        go_simp
        try with_reducible rfl
      simp only [List.getElem_toArray, List.getElem_cons_succ, List.getElem_cons_zero, Act.put, List.setIfInBounds_toArray, List.set_cons_zero, List.set_cons_succ]
      refine wpAnyH_done (by kernel_rfl) ?_ _
      go_wp2
      exact bodyPost_ret (v := tupR (.mk kr br nr tr xr [], er)) (res2 rfl _ _ (w.heap.size + 1 + 1) 26 _ (0, 0) _ _ rfl rfl hf.eq Tryz.underlying26 rfl infoV6) rfl (AR.plain rfl hbf)
    · have hdd := Lib.hid fun u u2 hu hu2 W => (hd2 u u2 hu hu2 W).2.1 rfl
      clear hd2 h21
      replace hwh := Lib.hid hwh
      go_upto_region 26 with (fail)
      have hd := hq.out.on (below_drewN (Below.refl _ _) 1)
      clear hq
      clear x0 x1 x2' x3 x4 x5 y0 y1 y2 y3 y4 y5 z0 z1 z2 z3 z4 z5 f2
      have hS0 : B2 w w6.drew #[.int .i64 k, .bool b, .int .i64 n, .string t, .string x, .slice aoA l.length capA] #[.int .i64 k2, .bool bb, .int .i64 n2, .string t2, .string x2, .slice aoB l2.length capB] := ⟨hd.below, hd.b0, hd.b1⟩
      refine wp_region_held_drew (S := fun V => B2 w V #[.int .i64 k, .bool b, .int .i64 n, .string t, .string x, .slice aoA l.length capA] #[.int .i64 k2, .bool bb, .int .i64 n2, .string t2, .string x2, .slice aoB l2.length capB]) (by kernel_rfl) hS0 (fun hS => ?_)
      clear hS0
      replace hd : A3 w w6.drew #[.int .i64 k, .bool b, .int .i64 n, .string t, .string x, .slice aoA l.length capA] #[.int .i64 k2, .bool bb, .int .i64 n2, .string t2, .string x2, .slice aoB l2.length capB] := hd
      generalize w6.drew = V0 at *
      refine wpAnyH_take (i := 0) (v := ?_) rfl (by kernel_rfl) (by kernel_rfl) (by kernel_rfl) (fun _ _ _ h => h) (.inl ⟨by kernel_rfl, fun w' hS => ?_⟩) hS ?_
      rotate_left
      ·
        have x0 := hS.b0.cell 0 rfl
        have x1 := hS.b0.cell 1 rfl
        have x2 := hS.b0.cell 2 rfl
        have x3 := hS.b0.cell 3 rfl
        have x4 := hS.b0.cell 4 rfl
        have x5 := hS.b0.cell 5 rfl
        go_simp
        try with_reducible rfl
      simp only [List.getElem_toArray, List.getElem_cons_succ, List.getElem_cons_zero, Act.put, List.setIfInBounds_toArray, List.set_cons_zero, List.set_cons_succ]
      refine wpAnyH_take (i := 2) (v := ?_) rfl (by kernel_rfl) (by kernel_rfl) (by kernel_rfl) (fun _ _ _ h => h) (.inl ⟨by kernel_rfl, fun w' hS => ?_⟩) hS ?_
      rotate_left
      ·
        have y0 := hS.b1.cell 0 rfl
        have y1 := hS.b1.cell 1 rfl
        have y2 := hS.b1.cell 2 rfl
        have y3 := hS.b1.cell 3 rfl
        have y4 := hS.b1.cell 4 rfl
        have y5 := hS.b1.cell 5 rfl
        go_simp
        try with_reducible rfl
      simp only [List.getElem_toArray, List.getElem_cons_succ, List.getElem_cons_zero, Act.put, List.setIfInBounds_toArray, List.set_cons_zero, List.set_cons_succ]
      refine wpAnyH_ready (rs := [1]) (by kernel_rfl) (by simp) ?_
      refine AllReadyH.cons rfl (fun K hK => ?_) AllReadyH.nil
      clear hS
      go_simp
      refine (hex.out _).mono ?_
      rintro e w8 ⟨u, rfl, hu, hb⟩
      go_wp2_with fail
      refine hK.out _ _ (⟨(hd.on hb).below, (hd.on hb).b0, (hd.on hb).b1⟩) (fun hS => ?_)
      clear hK K
      try simp only [List.getElem_toArray, List.getElem_cons_succ, List.getElem_cons_zero, Act.put, List.setIfInBounds_toArray, List.set_cons_zero, List.set_cons_succ]
      have hd8 := hd.on hb
      clear hd hb
      replace hu := Lib.hid hu
      refine wpAnyH_ready (rs := [3]) (by kernel_rfl) (by simp) ?_
      refine AllReadyH.cons rfl (fun K hK => ?_) AllReadyH.nil
      clear hS
      go_simp
      refine (hex2.out _).mono ?_
      rintro e w9 ⟨u2, rfl, hu2, hb⟩
      go_wp2_with fail
      refine hK.out _ _ (⟨(hd8.on hb).below, (hd8.on hb).b0, (hd8.on hb).b1⟩) (fun hS => ?_)
      clear hK K
      try simp only [List.getElem_toArray, List.getElem_cons_succ, List.getElem_cons_zero, Act.put, List.setIfInBounds_toArray, List.set_cons_zero, List.set_cons_succ]
      have hd9 := hd8.on hb
      clear hd8 hb
      replace hu2 := Lib.hid hu2
      refine wpAnyH_ready (rs := [4]) (by kernel_rfl) (by simp) ?_
      refine AllReadyH.cons rfl (fun K hK => ?_) AllReadyH.nil
      clear hS
      go_simp
      refine (hdd.out u u2 hu.out hu2.out _).mono ?_
      rintro e w10 ⟨rfl, hb⟩
      go_wp2_with fail
      refine hK.out _ _ (⟨(hd9.on hb).below, (hd9.on hb).b0, (hd9.on hb).b1⟩) (fun hS => ?_)
      clear hK K
      try simp only [List.getElem_toArray, List.getElem_cons_succ, List.getElem_cons_zero, Act.put, List.setIfInBounds_toArray, List.set_cons_zero, List.set_cons_succ]
      have hd10 := hd9.on hb
      clear hd9 hb
      refine wpAnyH_take (i := 5) (v := ?_) rfl (by kernel_rfl) (by kernel_rfl) (by kernel_rfl) (fun _ _ _ h => h) (.inl ⟨by kernel_rfl, fun w' hS => ?_⟩) hS ?_
      rotate_left
      ·
        skip
        go_simp
        try with_reducible rfl
      simp only [List.getElem_toArray, List.getElem_cons_succ, List.getElem_cons_zero, Act.put, List.setIfInBounds_toArray, List.set_cons_zero, List.set_cons_succ]
      refine wpAnyH_take (i := 6) (v := ?_) rfl (by kernel_rfl) (by kernel_rfl) (by kernel_rfl) (fun _ _ _ h => h) (.inl ⟨by kernel_rfl, fun w' hS => ?_⟩) hS ?_
      rotate_left
      ·
        skip
        go_simp
        try with_reducible rfl
      simp only [List.getElem_toArray, List.getElem_cons_succ, List.getElem_cons_zero, Act.put, List.setIfInBounds_toArray, List.set_cons_zero, List.set_cons_succ]
      refine wpAnyH_ready (rs := [7]) (by kernel_rfl) (by simp) ?_
      refine AllReadyH.cons rfl (fun K hK => ?_) AllReadyH.nil
      clear hS
      go_simp
      refine (hwh.out _).mono ?_
      rintro e w11 ⟨rfl, hb⟩
      go_wp2_with fail
      refine hK.out _ _ (⟨(hd10.on hb).below, (hd10.on hb).b0, (hd10.on hb).b1⟩) (fun hS => ?_)
      clear hK K
      try simp only [List.getElem_toArray, List.getElem_cons_succ, List.getElem_cons_zero, Act.put, List.setIfInBounds_toArray, List.set_cons_zero, List.set_cons_succ]
      have hd11 := hd10.on hb
      clear hd10 hb
      refine wpAnyH_take (i := 8) (v := ?_) rfl (by kernel_rfl) (by kernel_rfl) (by kernel_rfl) (fun _ _ _ h => h) (.inl ⟨by kernel_rfl, fun w' hS => ?_⟩) hS ?_
      rotate_left
      ·
        skip
        go_simp
        try with_reducible rfl
      simp only [List.getElem_toArray, List.getElem_cons_succ, List.getElem_cons_zero, Act.put, List.setIfInBounds_toArray, List.set_cons_zero, List.set_cons_succ]
      refine wpAnyH_take (i := 9) (v := ?_) rfl (by kernel_rfl) (by kernel_rfl) (by kernel_rfl) (fun _ _ _ h => h) (.inl ⟨by kernel_rfl, fun w' hS => ?_⟩) hS ?_
      rotate_left
      ·
        skip
        go_simp
        try with_reducible rfl
      simp only [List.getElem_toArray, List.getElem_cons_succ, List.getElem_cons_zero, Act.put, List.setIfInBounds_toArray, List.set_cons_zero, List.set_cons_succ]
      refine wpAnyH_ready (rs := [10]) (by kernel_rfl) (by simp) ?_
      refine AllReadyH.cons rfl (fun K hK => ?_) AllReadyH.nil
      clear hS
      have hq := Lib.hid hd11
      clear hd11
      obtain ⟨x0, x1, x2', x3, x4, x5, y0, y1, y2, y3, y4, y5, z0, z1, z2, z3, z4, z5, f2⟩ := hq.out.cells
      obtain ⟨hf, hbf⟩ := hq.out.set (.int .i64 kr) (.bool br) (.int .i64 nr) (.string tr) (.string xr) (.slice none 0 0)
      go_simp
      go_wp2_with fail
      refine hK.out _ _ ⟨hbf, hq.out.b0.heap6 (by omega) _ _ _ _ _ _, hq.out.b1.heap6 (by omega) _ _ _ _ _ _⟩ (fun hS => ?_)
      clear hK K
      clear x0 x1 x2' x3 x4 x5 y0 y1 y2 y3 y4 y5 z0 z1 z2 z3 z4 z5 f2
      try simp only [List.getElem_toArray, List.getElem_cons_succ, List.getElem_cons_zero, Act.put, List.setIfInBounds_toArray, List.set_cons_zero, List.set_cons_succ]
      refine wpAnyH_take (i := 11) (v := ?_) rfl (by kernel_rfl) (by kernel_rfl) (by kernel_rfl) (fun _ _ _ h => h) (.inl ⟨by kernel_rfl, fun w' hS => ?_⟩) hS ?_
      rotate_left
      ·
        skip
        go_simp
        try with_reducible rfl
      simp only [List.getElem_toArray, List.getElem_cons_succ, List.getElem_cons_zero, Act.put, List.setIfInBounds_toArray, List.set_cons_zero, List.set_cons_succ]
      refine wpAnyH_done (by kernel_rfl) ?_ _
      go_wp2
      exact bodyPost_ret (v := tupR (.mk kr br nr tr xr [], er)) (res2 rfl _ _ (w.heap.size + 1 + 1) 26 _ (0, 0) _ _ rfl rfl hf.eq Tryz.underlying26 rfl infoV6) rfl (AR.plain rfl hbf)
    · have hdd := Lib.hid fun u u2 hu hu2 W => (hd2 u u2 hu hu2 W).2.2.1 rfl
      clear hd2 h21
      replace hwh := Lib.hid hwh
      go_upto_region 28 with (fail)
      have hd := hq.out.on (below_drewN (Below.refl _ _) 1)
      clear hq
      clear x0 x1 x2' x3 x4 x5 y0 y1 y2 y3 y4 y5 z0 z1 z2 z3 z4 z5 f2
      have hS0 : B2 w w6.drew #[.int .i64 k, .bool b, .int .i64 n, .string t, .string x, .slice aoA l.length capA] #[.int .i64 k2, .bool bb, .int .i64 n2, .string t2, .string x2, .slice aoB l2.length capB] := ⟨hd.below, hd.b0, hd.b1⟩
      refine wp_region_held_drew (S := fun V => B2 w V #[.int .i64 k, .bool b, .int .i64 n, .string t, .string x, .slice aoA l.length capA] #[.int .i64 k2, .bool bb, .int .i64 n2, .string t2, .string x2, .slice aoB l2.length capB]) (by kernel_rfl) hS0 (fun hS => ?_)
      clear hS0
      replace hd : A3 w w6.drew #[.int .i64 k, .bool b, .int .i64 n, .string t, .string x, .slice aoA l.length capA] #[.int .i64 k2, .bool bb, .int .i64 n2, .string t2, .string x2, .slice aoB l2.length capB] := hd
      generalize w6.drew = V0 at *
      refine wpAnyH_take (i := 0) (v := ?_) rfl (by kernel_rfl) (by kernel_rfl) (by kernel_rfl) (fun _ _ _ h => h) (.inl ⟨by kernel_rfl, fun w' hS => ?_⟩) hS ?_
      rotate_left
      ·
        have x0 := hS.b0.cell 0 rfl
        have x1 := hS.b0.cell 1 rfl
        have x2 := hS.b0.cell 2 rfl
        have x3 := hS.b0.cell 3 rfl
        have x4 := hS.b0.cell 4 rfl
        have x5 := hS.b0.cell 5 rfl
        go_simp
        try with_reducible rfl
      simp only [List.getElem_toArray, List.getElem_cons_succ, List.getElem_cons_zero, Act.put, List.setIfInBounds_toArray, List.set_cons_zero, List.set_cons_succ]
      refine wpAnyH_take (i := 2) (v := ?_) rfl (by kernel_rfl) (by kernel_rfl) (by kernel_rfl) (fun _ _ _ h => h) (.inl ⟨by kernel_rfl, fun w' hS => ?_⟩) hS ?_
      rotate_left
      ·
        have y0 := hS.b1.cell 0 rfl
        have y1 := hS.b1.cell 1 rfl
        have y2 := hS.b1.cell 2 rfl
        have y3 := hS.b1.cell 3 rfl
        have y4 := hS.b1.cell 4 rfl
        have y5 := hS.b1.cell 5 rfl
        go_simp
        try with_reducible rfl
      simp only [List.getElem_toArray, List.getElem_cons_succ, List.getElem_cons_zero, Act.put, List.setIfInBounds_toArray, List.set_cons_zero, List.set_cons_succ]
      refine wpAnyH_ready (rs := [1]) (by kernel_rfl) (by simp) ?_
      refine AllReadyH.cons rfl (fun K hK => ?_) AllReadyH.nil
      clear hS
      go_simp
      refine (hex.out _).mono ?_
      rintro e w8 ⟨u, rfl, hu, hb⟩
      go_wp2_with fail
      refine hK.out _ _ (⟨(hd.on hb).below, (hd.on hb).b0, (hd.on hb).b1⟩) (fun hS => ?_)
      clear hK K
      try simp only [List.getElem_toArray, List.getElem_cons_succ, List.getElem_cons_zero, Act.put, List.setIfInBounds_toArray, List.set_cons_zero, List.set_cons_succ]
      have hd8 := hd.on hb
      clear hd hb
      replace hu := Lib.hid hu
      refine wpAnyH_ready (rs := [3]) (by kernel_rfl) (by simp) ?_
      refine AllReadyH.cons rfl (fun K hK => ?_) AllReadyH.nil
      clear hS
      go_simp
      refine (hex2.out _).mono ?_
      rintro e w9 ⟨u2, rfl, hu2, hb⟩
      go_wp2_with fail
      refine hK.out _ _ (⟨(hd8.on hb).below, (hd8.on hb).b0, (hd8.on hb).b1⟩) (fun hS => ?_)
      clear hK K
      try simp only [List.getElem_toArray, List.getElem_cons_succ, List.getElem_cons_zero, Act.put, List.setIfInBounds_toArray, List.set_cons_zero, List.set_cons_succ]
      have hd9 := hd8.on hb
      clear hd8 hb
      replace hu2 := Lib.hid hu2
      refine wpAnyH_ready (rs := [4]) (by kernel_rfl) (by simp) ?_
      refine AllReadyH.cons rfl (fun K hK => ?_) AllReadyH.nil
      clear hS
      go_simp
      refine (hdd.out u u2 hu.out hu2.out _).mono ?_
      rintro e w10 ⟨rfl, hb⟩
      go_wp2_with fail
      refine hK.out _ _ (⟨(hd9.on hb).below, (hd9.on hb).b0, (hd9.on hb).b1⟩) (fun hS => ?_)
      clear hK K
      try simp only [List.getElem_toArray, List.getElem_cons_succ, List.getElem_cons_zero, Act.put, List.setIfInBounds_toArray, List.set_cons_zero, List.set_cons_succ]
      have hd10 := hd9.on hb
      clear hd9 hb
      refine wpAnyH_take (i := 5) (v := ?_) rfl (by kernel_rfl) (by kernel_rfl) (by kernel_rfl) (fun _ _ _ h => h) (.inl ⟨by kernel_rfl, fun w' hS => ?_⟩) hS ?_
      rotate_left
      ·
        skip
        go_simp
        try with_reducible rfl
      simp only [List.getElem_toArray, List.getElem_cons_succ, List.getElem_cons_zero, Act.put, List.setIfInBounds_toArray, List.set_cons_zero, List.set_cons_succ]
      refine wpAnyH_take (i := 6) (v := ?_) rfl (by kernel_rfl) (by kernel_rfl) (by kernel_rfl) (fun _ _ _ h => h) (.inl ⟨by kernel_rfl, fun w' hS => ?_⟩) hS ?_
      rotate_left
      ·
        skip
        go_simp
        try with_reducible rfl
      simp only [List.getElem_toArray, List.getElem_cons_succ, List.getElem_cons_zero, Act.put, List.setIfInBounds_toArray, List.set_cons_zero, List.set_cons_succ]
      refine wpAnyH_ready (rs := [7]) (by kernel_rfl) (by simp) ?_
      refine AllReadyH.cons rfl (fun K hK => ?_) AllReadyH.nil
      clear hS
      go_simp
      refine (hwh.out _).mono ?_
      rintro e w11 ⟨rfl, hb⟩
      go_wp2_with fail
      refine hK.out _ _ (⟨(hd10.on hb).below, (hd10.on hb).b0, (hd10.on hb).b1⟩) (fun hS => ?_)
      clear hK K
      try simp only [List.getElem_toArray, List.getElem_cons_succ, List.getElem_cons_zero, Act.put, List.setIfInBounds_toArray, List.set_cons_zero, List.set_cons_succ]
      have hd11 := hd10.on hb
      clear hd10 hb
      refine wpAnyH_take (i := 8) (v := ?_) rfl (by kernel_rfl) (by kernel_rfl) (by kernel_rfl) (fun _ _ _ h => h) (.inl ⟨by kernel_rfl, fun w' hS => ?_⟩) hS ?_
      rotate_left
      ·
        skip
        go_simp
        try with_reducible rfl
      simp only [List.getElem_toArray, List.getElem_cons_succ, List.getElem_cons_zero, Act.put, List.setIfInBounds_toArray, List.set_cons_zero, List.set_cons_succ]
      refine wpAnyH_take (i := 9) (v := ?_) rfl (by kernel_rfl) (by kernel_rfl) (by kernel_rfl) (fun _ _ _ h => h) (.inl ⟨by kernel_rfl, fun w' hS => ?_⟩) hS ?_
      rotate_left
      ·
        skip
        go_simp
        try with_reducible rfl
      simp only [List.getElem_toArray, List.getElem_cons_succ, List.getElem_cons_zero, Act.put, List.setIfInBounds_toArray, List.set_cons_zero, List.set_cons_succ]
      refine wpAnyH_ready (rs := [10]) (by kernel_rfl) (by simp) ?_
      refine AllReadyH.cons rfl (fun K hK => ?_) AllReadyH.nil
      clear hS
      have hq := Lib.hid hd11
      clear hd11
      obtain ⟨x0, x1, x2', x3, x4, x5, y0, y1, y2, y3, y4, y5, z0, z1, z2, z3, z4, z5, f2⟩ := hq.out.cells
      obtain ⟨hf, hbf⟩ := hq.out.set (.int .i64 kr) (.bool br) (.int .i64 nr) (.string tr) (.string xr) (.slice none 0 0)
      go_simp
      go_wp2_with fail
      refine hK.out _ _ ⟨hbf, hq.out.b0.heap6 (by omega) _ _ _ _ _ _, hq.out.b1.heap6 (by omega) _ _ _ _ _ _⟩ (fun hS => ?_)
      clear hK K
      clear x0 x1 x2' x3 x4 x5 y0 y1 y2 y3 y4 y5 z0 z1 z2 z3 z4 z5 f2
      try simp only [List.getElem_toArray, List.getElem_cons_succ, List.getElem_cons_zero, Act.put, List.setIfInBounds_toArray, List.set_cons_zero, List.set_cons_succ]
      refine wpAnyH_take (i := 11) (v := ?_) rfl (by kernel_rfl) (by kernel_rfl) (by kernel_rfl) (fun _ _ _ h => h) (.inl ⟨by kernel_rfl, fun w' hS => ?_⟩) hS ?_
      rotate_left
      ·
        skip
        go_simp
        try with_reducible rfl
      simp only [List.getElem_toArray, List.getElem_cons_succ, List.getElem_cons_zero, Act.put, List.setIfInBounds_toArray, List.set_cons_zero, List.set_cons_succ]
      refine wpAnyH_done (by kernel_rfl) ?_ _
      go_wp2
      exact bodyPost_ret (v := tupR (.mk kr br nr tr xr [], er)) (res2 rfl _ _ (w.heap.size + 1 + 1) 26 _ (0, 0) _ _ rfl rfl hf.eq Tryz.underlying26 rfl infoV6) rfl (AR.plain rfl hbf)
    · have hdd := Lib.hid fun u u2 hu hu2 W => (hd2 u u2 hu hu2 W).2.2.2 rfl
      clear hd2 h21
      replace hwh := Lib.hid hwh
      go_upto_region 29 with (fail)
      have hd := hq.out.on (below_drewN (Below.refl _ _) 1)
      clear hq
      clear x0 x1 x2' x3 x4 x5 y0 y1 y2 y3 y4 y5 z0 z1 z2 z3 z4 z5 f2
      have hS0 : B2 w w6.drew #[.int .i64 k, .bool b, .int .i64 n, .string t, .string x, .slice aoA l.length capA] #[.int .i64 k2, .bool bb, .int .i64 n2, .string t2, .string x2, .slice aoB l2.length capB] := ⟨hd.below, hd.b0, hd.b1⟩
      refine wp_region_held_drew (S := fun V => B2 w V #[.int .i64 k, .bool b, .int .i64 n, .string t, .string x, .slice aoA l.length capA] #[.int .i64 k2, .bool bb, .int .i64 n2, .string t2, .string x2, .slice aoB l2.length capB]) (by kernel_rfl) hS0 (fun hS => ?_)
      clear hS0
      replace hd : A3 w w6.drew #[.int .i64 k, .bool b, .int .i64 n, .string t, .string x, .slice aoA l.length capA] #[.int .i64 k2, .bool bb, .int .i64 n2, .string t2, .string x2, .slice aoB l2.length capB] := hd
      generalize w6.drew = V0 at *
      refine wpAnyH_take (i := 0) (v := ?_) rfl (by kernel_rfl) (by kernel_rfl) (by kernel_rfl) (fun _ _ _ h => h) (.inl ⟨by kernel_rfl, fun w' hS => ?_⟩) hS ?_
      rotate_left
      ·
        have x0 := hS.b0.cell 0 rfl
        have x1 := hS.b0.cell 1 rfl
        have x2 := hS.b0.cell 2 rfl
        have x3 := hS.b0.cell 3 rfl
        have x4 := hS.b0.cell 4 rfl
        have x5 := hS.b0.cell 5 rfl
        go_simp
        try with_reducible rfl
      simp only [List.getElem_toArray, List.getElem_cons_succ, List.getElem_cons_zero, Act.put, List.setIfInBounds_toArray, List.set_cons_zero, List.set_cons_succ]
      refine wpAnyH_take (i := 2) (v := ?_) rfl (by kernel_rfl) (by kernel_rfl) (by kernel_rfl) (fun _ _ _ h => h) (.inl ⟨by kernel_rfl, fun w' hS => ?_⟩) hS ?_
      rotate_left
      ·
        have y0 := hS.b1.cell 0 rfl
        have y1 := hS.b1.cell 1 rfl
        have y2 := hS.b1.cell 2 rfl
        have y3 := hS.b1.cell 3 rfl
        have y4 := hS.b1.cell 4 rfl
        have y5 := hS.b1.cell 5 rfl
        go_simp
        try with_reducible rfl
      simp only [List.getElem_toArray, List.getElem_cons_succ, List.getElem_cons_zero, Act.put, List.setIfInBounds_toArray, List.set_cons_zero, List.set_cons_succ]
      refine wpAnyH_ready (rs := [1]) (by kernel_rfl) (by simp) ?_
      refine AllReadyH.cons rfl (fun K hK => ?_) AllReadyH.nil
      clear hS
      go_simp
      refine (hex.out _).mono ?_
      rintro e w8 ⟨u, rfl, hu, hb⟩
      go_wp2_with fail
      refine hK.out _ _ (⟨(hd.on hb).below, (hd.on hb).b0, (hd.on hb).b1⟩) (fun hS => ?_)
      clear hK K
      try simp only [List.getElem_toArray, List.getElem_cons_succ, List.getElem_cons_zero, Act.put, List.setIfInBounds_toArray, List.set_cons_zero, List.set_cons_succ]
      have hd8 := hd.on hb
      clear hd hb
      replace hu := Lib.hid hu
      refine wpAnyH_ready (rs := [3]) (by kernel_rfl) (by simp) ?_
      refine AllReadyH.cons rfl (fun K hK => ?_) AllReadyH.nil
      clear hS
      go_simp
      refine (hex2.out _).mono ?_
      rintro e w9 ⟨u2, rfl, hu2, hb⟩
      go_wp2_with fail
      refine hK.out _ _ (⟨(hd8.on hb).below, (hd8.on hb).b0, (hd8.on hb).b1⟩) (fun hS => ?_)
      clear hK K
      try simp only [List.getElem_toArray, List.getElem_cons_succ, List.getElem_cons_zero, Act.put, List.setIfInBounds_toArray, List.set_cons_zero, List.set_cons_succ]
      have hd9 := hd8.on hb
      clear hd8 hb
      replace hu2 := Lib.hid hu2
      refine wpAnyH_ready (rs := [4]) (by kernel_rfl) (by simp) ?_
      refine AllReadyH.cons rfl (fun K hK => ?_) AllReadyH.nil
      clear hS
      go_simp
      refine (hdd.out u u2 hu.out hu2.out _).mono ?_
      rintro e w10 ⟨rfl, hb⟩
      go_wp2_with fail
      refine hK.out _ _ (⟨(hd9.on hb).below, (hd9.on hb).b0, (hd9.on hb).b1⟩) (fun hS => ?_)
      clear hK K
      try simp only [List.getElem_toArray, List.getElem_cons_succ, List.getElem_cons_zero, Act.put, List.setIfInBounds_toArray, List.set_cons_zero, List.set_cons_succ]
      have hd10 := hd9.on hb
      clear hd9 hb
      refine wpAnyH_take (i := 5) (v := ?_) rfl (by kernel_rfl) (by kernel_rfl) (by kernel_rfl) (fun _ _ _ h => h) (.inl ⟨by kernel_rfl, fun w' hS => ?_⟩) hS ?_
      rotate_left
      ·
        skip
        go_simp
        try with_reducible rfl
      simp only [List.getElem_toArray, List.getElem_cons_succ, List.getElem_cons_zero, Act.put, List.setIfInBounds_toArray, List.set_cons_zero, List.set_cons_succ]
      refine wpAnyH_take (i := 6) (v := ?_) rfl (by kernel_rfl) (by kernel_rfl) (by kernel_rfl) (fun _ _ _ h => h) (.inl ⟨by kernel_rfl, fun w' hS => ?_⟩) hS ?_
      rotate_left
      ·
        skip
        go_simp
        try with_reducible rfl
      simp only [List.getElem_toArray, List.getElem_cons_succ, List.getElem_cons_zero, Act.put, List.setIfInBounds_toArray, List.set_cons_zero, List.set_cons_succ]
      refine wpAnyH_ready (rs := [7]) (by kernel_rfl) (by simp) ?_
      refine AllReadyH.cons rfl (fun K hK => ?_) AllReadyH.nil
      clear hS
      go_simp
      refine (hwh.out _).mono ?_
      rintro e w11 ⟨rfl, hb⟩
      go_wp2_with fail
      refine hK.out _ _ (⟨(hd10.on hb).below, (hd10.on hb).b0, (hd10.on hb).b1⟩) (fun hS => ?_)
      clear hK K
      try simp only [List.getElem_toArray, List.getElem_cons_succ, List.getElem_cons_zero, Act.put, List.setIfInBounds_toArray, List.set_cons_zero, List.set_cons_succ]
      have hd11 := hd10.on hb
      clear hd10 hb
      refine wpAnyH_take (i := 8) (v := ?_) rfl (by kernel_rfl) (by kernel_rfl) (by kernel_rfl) (fun _ _ _ h => h) (.inl ⟨by kernel_rfl, fun w' hS => ?_⟩) hS ?_
      rotate_left
      ·
        skip
        go_simp
        try with_reducible rfl
      simp only [List.getElem_toArray, List.getElem_cons_succ, List.getElem_cons_zero, Act.put, List.setIfInBounds_toArray, List.set_cons_zero, List.set_cons_succ]
      refine wpAnyH_take (i := 9) (v := ?_) rfl (by kernel_rfl) (by kernel_rfl) (by kernel_rfl) (fun _ _ _ h => h) (.inl ⟨by kernel_rfl, fun w' hS => ?_⟩) hS ?_
      rotate_left
      ·
        skip
        go_simp
        try with_reducible rfl
      simp only [List.getElem_toArray, List.getElem_cons_succ, List.getElem_cons_zero, Act.put, List.setIfInBounds_toArray, List.set_cons_zero, List.set_cons_succ]
      refine wpAnyH_ready (rs := [10]) (by kernel_rfl) (by simp) ?_
      refine AllReadyH.cons rfl (fun K hK => ?_) AllReadyH.nil
      clear hS
      have hq := Lib.hid hd11
      clear hd11
      obtain ⟨x0, x1, x2', x3, x4, x5, y0, y1, y2, y3, y4, y5, z0, z1, z2, z3, z4, z5, f2⟩ := hq.out.cells
      obtain ⟨hf, hbf⟩ := hq.out.set (.int .i64 kr) (.bool br) (.int .i64 nr) (.string tr) (.string xr) (.slice none 0 0)
      go_simp
      go_wp2_with fail
      refine hK.out _ _ ⟨hbf, hq.out.b0.heap6 (by omega) _ _ _ _ _ _, hq.out.b1.heap6 (by omega) _ _ _ _ _ _⟩ (fun hS => ?_)
      clear hK K
      clear x0 x1 x2' x3 x4 x5 y0 y1 y2 y3 y4 y5 z0 z1 z2 z3 z4 z5 f2
      try simp only [List.getElem_toArray, List.getElem_cons_succ, List.getElem_cons_zero, Act.put, List.setIfInBounds_toArray, List.set_cons_zero, List.set_cons_succ]
      refine wpAnyH_take (i := 11) (v := ?_) rfl (by kernel_rfl) (by kernel_rfl) (by kernel_rfl) (fun _ _ _ h => h) (.inl ⟨by kernel_rfl, fun w' hS => ?_⟩) hS ?_
      rotate_left
      ·
        skip
        go_simp
        try with_reducible rfl
      simp only [List.getElem_toArray, List.getElem_cons_succ, List.getElem_cons_zero, Act.put, List.setIfInBounds_toArray, List.set_cons_zero, List.set_cons_succ]
      refine wpAnyH_done (by kernel_rfl) ?_ _
      go_wp2
      exact bodyPost_ret (v := tupR (.mk kr br nr tr xr [], er)) (res2 rfl _ _ (w.heap.size + 1 + 1) 26 _ (0, 0) _ _ rfl rfl hf.eq Tryz.underlying26 rfl infoV6) rfl (AR.plain rfl hbf)
    · have h4 := h21 rfl
      clear hd2 h21 hwh hex hex2
      injection h4 with e1 e2
      subst e2
      injection e1 with e3 e4 e5 e6 e7 e8
      subst e3 e4 e5 e6 e7
      go_wp2
      obtain ⟨hf, hbf⟩ := hq.out.set (.int .i64 0) (.bool false) (.int .i64 0) (.string ByteArray.empty) (.string ByteArray.empty) (.slice none 0 0)
      exact bodyPost_ret (v := tupR (zV, 4)) (res2 rfl _ _ (w.heap.size + 1 + 1) 26 _ (0, 0) _ _ rfl rfl hf.eq Tryz.underlying26 rfl infoV6) rfl (AR.plain rfl hbf)
end Go.Proofs.YtjncjcellpbhcaaGreatDoor.val
