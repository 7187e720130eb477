/- Contract of the reference's text, Bytes, Encode: a value's bytes. -/
import Derived.Test.YthecgifgjagmaaaGreatDoorVRBytes
namespace Go.Proofs.YthecgifgjagmaaaGreatDoor.val
open Go.ChangeShapes Go.WideShapes Go.ChangeAt Go.RowKit kit dec
set_option linter.unusedVariables false
set_option linter.unusedSimpArgs false
theorem bytes_one (l : List UInt8) : ∀ u ∈ bytesV l, u.oneCell' = true := by
  intro u hu
  unfold bytesV at hu
  rw [List.mem_map] at hu
  obtain ⟨b, _, rfl⟩ := hu
  simp [Value.oneCell']
theorem bytesV_len (l : List UInt8) : (bytesV l).length = l.length := by simp [bytesV]
theorem add0 (g j : Nat) : (⟨g, 0, none⟩ : Addr).add j = ⟨g, j, none⟩ := by unfold Addr.add; split <;> simp_all
theorem news_made (w : World) (l : List UInt8) : ∀ j u, (bytesV l)[j]? = some u → (w.alloc (.cells (bytesV l).toArray 5)).cell? ((⟨w.heap.size, 0, none⟩ : Addr).add j) = some u := by
  intro j u hu
  rw [add0, World.cell?_alloc_new]
  simpa using hu
theorem news_own {W W1 : World} {B : Nat} {g n cap : Nat} {l : List UInt8} (h : BW W B (.slice (some ⟨g, 0, none⟩) n cap) l W1) : ∀ j u, (bytesV l)[j]? = some u → W1.cell? ((⟨g, 0, none⟩ : Addr).add j) = some u := fun j u hu =>
  h.own.cells rfl j _ hu
set_option maxRecDepth 100000 in
set_option maxHeartbeats 1000000 in
theorem rtext_call (W0 : World) (l : List UInt8) (v : Value) (t : ByteArray) (w : World) (h : BW W0 W0.heap.size v l w) (hl : l.length ≤ 10000000) (ht : t.size ≤ 10000000) :
    Calls Tryz.prog 94 #[v, .string t] w fun e w' => ∃ v', e = .returned v' ∧ BW W0 W0.heap.size v' (l ++ txL t) w' ∧ Gr w w' := by
  obtain ⟨i0, hi, hz0, hz1, hz2⟩ := info_parts Tryz.infoB
  replace hi := Lib.hid hi
  replace hz0 := Lib.hid hz0
  replace hz1 := Lib.hid hz1
  replace hz2 := Lib.hid hz2
  have hfour := Lib.hid (four_call t.size w)
  have hti : (t.size : Int) ≤ 10000000 := by omega
  have hB := h.below.size
  have hal := h.alloc hB (.cells (bytesV (bigL t.size 4)).toArray 5)
  have hg0 : Gr w (w.alloc (.cells (bytesV (bigL t.size 4)).toArray 5)) := Gr.below ((Below.refl _ _).alloc (Nat.le_refl _) _)
  have hown := hal.own
  have hB1 := hal.below.size
  have hnw := news_made w (bigL t.size 4)
  replace hnw := Lib.hid hnw
  go_enter Tryz.func94, Tryz.ntmps94
  go_wp2_with fail
  refine (hfour.out).mono ?_
  rintro e w1 ⟨rfl, hw1⟩
  rw [hw1]
  clear hw1 hfour
  generalize w.alloc (.cells (bytesV (bigL t.size 4)).toArray 5) = w2 at *
  go_wp2_with (first | (at_builtin; refine wpList_append_own _ rfl _ _ 39 rfl W0.heap.size 5 i0 (.int .u8 0) 1 1 Tryz.underlying39 hi.out hz0.out hz1.out hz2.out rfl (by decide) _ l.length (bytesV l) rfl (hown) _ 4 _ (bytesV (bigL t.size 4)) rfl (by rw [bytesV_len, bigL_len]) hnw.out (bytes_one _) (by simp only [maxLen]; omega) (by omega) (by omega) ?c1))
  case c1 =>
    intro v2 w3 hown' hgrow _
    have hb2 := hal.grown0 hB1 (m := bigL t.size 4) (by rw [bigL_len]; exact hown') hgrow
    have hg2 := Lib.hid (hg0.trans (Gr.grown hown hgrow))
    have hown2 := hb2.own
    have hB2 := hb2.below.size
    have hlen : (l ++ bigL t.size 4).length ≤ 10000004 := by rw [List.length_append, bigL_len]; omega
    generalize hL : l ++ bigL t.size 4 = L at *
    replace hL := Lib.hid hL
    replace hb2 := Lib.hid hb2
    clear hown' hgrow hown hal hg0 hnw h
    go_wp2_with (at_builtin; refine Lib.wpList_append_own_string _ rfl _ _ 39 9 rfl W0.heap.size 5 i0 Tryz.underlying39 Tryz.underlying9 hi.out hz0.out hz1.out hz2.out _ _ _ rfl hown2 t rfl ?c3 ?c4 ?c5 ?c6)
    case c3 => unfold maxLen; omega
    case c4 => omega
    case c5 => omega
    case c6 =>
      intro v' w4 hown' hgrow _
      rw [strCells_b] at hown'
      have hb3 := Lib.hid (hb2.out.grown0 hB2 (m := t.data.toList) hown' hgrow)
      have hg3 := Lib.hid (hg2.out.trans (Gr.grown hown2 hgrow))
      clear hown2 hown' hgrow hb2 hg2
      go_wp2
      go_ret
      exact ⟨_, rfl, by have := hb3.out; rw [← hL.out, List.append_assoc] at this; exact this, hg3.out⟩
theorem Blk.tx {w : World} {g : Nat} {c0 c1 c2 c3 c4 c5 : Value} {t : TypeId} (h : Blk w g #[c0, c1, c2, c3, c4, c5] t) : w.cell? ⟨g, 3, none⟩ = some c3 ∧ w.cell? ⟨g, 4, none⟩ = some c4 := ⟨h.cell 3 rfl, h.cell 4 rfl⟩
/-- Bytes tells a value's bytes, where its list is of less than so much. -/
def RByX (N m : Nat) : Prop := ∀ (w : World) (k : Int) (b : Bool) (n : Int) (hk : In64 k) (hn : In64 n) (t x : ByteArray) (s : Value) (l : List V), SizeOf.sizeOf l < m → LA w N s l → (encV (.mk k b n t x l)).length ≤ 10000000 →
  Calls Tryz.prog 50 #[agg6 k b n t x s] w fun e w' => ∃ v', e = .returned v' ∧ BW w w.heap.size v' (encV (.mk k b n t x l)) w'
theorem shr_byte (n : Int) (hn : In64 n) (j : Nat) (hj : j ≤ 7) : n / 2 ^ (8 * j) % 256 = ((lo8 (u64 n / 2 ^ (8 * j))).toNat : Int) := by
  unfold In64 at hn
  have h1 : ((n % 18446744073709551616).toNat : Int) = n % 18446744073709551616 := by omega
  have key : (n % 18446744073709551616) / 2 ^ (8 * j) % 256 = n / 2 ^ (8 * j) % 256 := by
    have hcase : j = 0 ∨ j = 1 ∨ j = 2 ∨ j = 3 ∨ j = 4 ∨ j = 5 ∨ j = 6 ∨ j = 7 := by omega
    rcases hcase with rfl | rfl | rfl | rfl | rfl | rfl | rfl | rfl
    · rw [show (2 : Int) ^ (8 * 0) = 1 from rfl]; omega
    · rw [show (2 : Int) ^ (8 * 1) = 256 from rfl]; omega
    · rw [show (2 : Int) ^ (8 * 2) = 65536 from rfl]; omega
    · rw [show (2 : Int) ^ (8 * 3) = 16777216 from rfl]; omega
    · rw [show (2 : Int) ^ (8 * 4) = 4294967296 from rfl]; omega
    · rw [show (2 : Int) ^ (8 * 5) = 1099511627776 from rfl]; omega
    · rw [show (2 : Int) ^ (8 * 6) = 281474976710656 from rfl]; omega
    · rw [show (2 : Int) ^ (8 * 7) = 72057594037927936 from rfl]; omega
  have h2 := lo8_div (n % 18446744073709551616).toNat (8 * j)
  rw [h1, key] at h2
  exact h2
set_option maxRecDepth 100000 in
set_option maxHeartbeats 8000000 in
theorem rbytes_all (N : Nat) (hN : N ≤ 9223372036854775807) : ∀ m, RByX N m := by
  intro m
  induction m with
  | zero => intro w k b n hk hn t x s l hm; omega
  | succ m ih =>
    intro w k b n hk hn t x s l hm ha hlen
    obtain ⟨ao, cap, rfl⟩ := LA.form6 ha
    have hal : Below w.heap.size w (w.alloc (.cells #[.int .i64 k, .bool b, .int .i64 n, .string t, .string x, .slice ao l.length cap] 26)) := (Below.refl _ _).alloc (Nat.le_refl _) _
    have hal2 : Below w.heap.size w ((w.alloc (.cells #[.int .i64 k, .bool b, .int .i64 n, .string t, .string x, .slice ao l.length cap] 26)).alloc (.cells #[.int .u8 (k % 256)] 5)) := hal.alloc hal.size _
    have hb1 : BW w w.heap.size (.slice (some ⟨w.heap.size + 1, 0, none⟩) 1 1) [lo8 (u64 k)] ((w.alloc (.cells #[.int .i64 k, .bool b, .int .i64 n, .string t, .string x, .slice ao l.length cap] 26)).alloc (.cells #[.int .u8 (k % 256)] 5)) := by
      refine ⟨hal2, ?_⟩
      have h1 := own_made (w.alloc (.cells #[.int .i64 k, .bool b, .int .i64 n, .string t, .string x, .slice ao l.length cap] 26)) [lo8 (u64 k)] w.heap.size hal.size (by simp)
      rw [World.size_alloc] at h1
      rw [lo8_u64]
      exact h1
    have hblk : Blk ((w.alloc (.cells #[.int .i64 k, .bool b, .int .i64 n, .string t, .string x, .slice ao l.length cap] 26)).alloc (.cells #[.int .u8 (k % 256)] 5)) w.heap.size #[.int .i64 k, .bool b, .int .i64 n, .string t, .string x, .slice ao l.length cap] 26 := (Blk.new _ _ _).alloc _
    obtain ⟨E, hE0⟩ : ∃ E, encV (.mk k b n t x l) = E := ⟨_, rfl⟩
    rw [hE0]
    replace hE0 := Lib.hid hE0
    have hel0 := (ha.elems _ _ _ rfl)
    replace hel0 := Lib.hid hel0
    unfold agg6
    clear ha
    obtain ⟨i0, hi, hz0, hz1, hz2⟩ := info_parts Tryz.infoB
    replace hi := Lib.hid hi
    replace hz0 := Lib.hid hz0
    replace hz1 := Lib.hid hz1
    replace hz2 := Lib.hid hz2
    go_enter Tryz.func50, Tryz.ntmps50
    go_upto_region 2 with fail
    generalize (w.alloc (.cells #[.int .i64 k, .bool b, .int .i64 n, .string t, .string x, .slice ao l.length cap] 26)).alloc (.cells #[.int .u8 (k % 256)] 5) = w1 at *
    clear hal hal2
    have x0 := hblk.cell 0 rfl
    have x1 := hblk.cell 1 rfl
    have x2c := hblk.cell 2 rfl
    have x3 := hblk.cell 3 rfl
    have x4 := hblk.cell 4 rfl
    have x5 := hblk.cell 5 rfl
    replace hb1 := Lib.hid hb1
    replace hblk := Lib.hid hblk
    rcases kinds k with rfl | rfl | rfl | rfl | rfl | rfl | rfl | rfl | rfl | rfl | rfl | ⟨h0, h1, h2, h3, h4, h5, h6, h7, h8, h9, h10⟩
    · have hE : Hid ([lo8 (u64 0)] = E) := Lib.hid (by rw [← hE0.out, encV_mk]; simp)
      clear hblk hE0
      go_wp2
      go_ret
      exact ⟨_, rfl, by rw [← hE.out]; exact hb1.out⟩
    · cases b
      · have hE : Hid ([lo8 (u64 1)] ++ [(0 : UInt8)] = E) := Lib.hid (by rw [← hE0.out, encV_mk]; simp)
        clear hblk hE0
        have hown := hb1.out.own
        have hB := hb1.out.below.size
        have hnw := news_b w1 (.int .u8 (0)) 5
        replace hnw := Lib.hid hnw
        go_wp2_with (first | (at_builtin; refine wpList_append_own _ rfl _ _ 39 rfl w.heap.size 5 i0 (.int .u8 0) 1 1 Tryz.underlying39 hi.out hz0.out hz1.out hz2.out rfl (by decide) _ [lo8 (u64 1)].length (bytesV [lo8 (u64 1)]) rfl (hown.alloc _) _ 1 _ ([.int .u8 (0)]) rfl rfl hnw.out (bytes_one [(0 : UInt8)]) (by simp only [maxLen]; simp) (by simp) (by rw [World.size_alloc]; omega) ?d1))
        case d1 =>
          intro v2 w3 hown' hgrow _
          have hb2 := Lib.hid (hb1.out.grown hB (.cells #[.int .u8 (0)] 5) (m := [(0 : UInt8)]) hown' hgrow)
          clear hown' hgrow hown hb1 hnw
          go_wp2
          go_ret
          exact ⟨_, rfl, by have := hb2.out; rw [hE.out] at this; exact this⟩
      · have hE : Hid ([lo8 (u64 1)] ++ [(1 : UInt8)] = E) := Lib.hid (by rw [← hE0.out, encV_mk]; simp)
        clear hblk hE0
        have hown := hb1.out.own
        have hB := hb1.out.below.size
        have hnw := news_b w1 (.int .u8 (1)) 5
        replace hnw := Lib.hid hnw
        go_wp2_with (first | (at_builtin; refine wpList_append_own _ rfl _ _ 39 rfl w.heap.size 5 i0 (.int .u8 0) 1 1 Tryz.underlying39 hi.out hz0.out hz1.out hz2.out rfl (by decide) _ [lo8 (u64 1)].length (bytesV [lo8 (u64 1)]) rfl (hown.alloc _) _ 1 _ ([.int .u8 (1)]) rfl rfl hnw.out (bytes_one [(1 : UInt8)]) (by simp only [maxLen]; simp) (by simp) (by rw [World.size_alloc]; omega) ?d2))
        case d2 =>
          intro v2 w3 hown' hgrow _
          have hb2 := Lib.hid (hb1.out.grown hB (.cells #[.int .u8 (1)] 5) (m := [(1 : UInt8)]) hown' hgrow)
          clear hown' hgrow hown hb1 hnw
          go_wp2
          go_ret
          exact ⟨_, rfl, by have := hb2.out; rw [hE.out] at this; exact this⟩
    · have hE : Hid ([lo8 (u64 2)] ++ bigL (u64 n) 8 = E) := Lib.hid (by rw [← hE0.out, encV_mk]; simp)
      clear hE0
      clear x0 x1 x2c x3 x4 x5
      have x2c := hblk.out.cell 2 rfl
      have x0 := hblk.out.cell 0 rfl
      go_wp2
      clear x0 x2c
      go_loopw [3, 4] (fun v3 v4 wr => ∃ (j : Nat) (pre : List UInt8), ((v4 = .int .i64 ((8 * j : Nat) : Int) ∧ j < 8 ∧ Hid (pre ++ bigL (u64 n) (j + 1) = bigL (u64 n) 8)) ∨ (j = 0 ∧ v4 = .int .i64 (-8) ∧ Hid (pre = bigL (u64 n) 8))) ∧ Hid (BW w w.heap.size v3 ([lo8 (u64 2)] ++ pre) wr) ∧ Hid (Blk wr w.heap.size #[.int .i64 2, .bool b, .int .i64 n, .string t, .string x, .slice ao l.length cap] 26)) (fun _ v4 _ => (intOf v4 + 8).toNat)
      case atStart => exact ⟨7, [], .inl ⟨rfl, by omega, by rw [List.nil_append]; exact Lib.hid rfl⟩, by rw [List.append_nil]; exact hb1, hblk⟩
      case round =>
        clear hb1 hblk
        obtain ⟨j, pre, hj, hb, hbk⟩ := hrel
        rcases hj with ⟨rfl, hjw, hpre⟩ | ⟨rfl, rfl, hpre⟩
        · have hpl : pre.length ≤ 8 := by
            have := congrArg List.length hpre.out
            rw [List.length_append, bigL_len, bigL_len] at this
            omega
          have hB := hb.out.below.size
          have hbyte := Lib.hid (shr_byte n hn j (by omega))
          have hown := hb.out.own
          have hll : ([lo8 (u64 2)] ++ pre).length ≤ 1000 := by rw [List.length_append]; simp; omega
          have hji : ((8 * j : Nat) : Int) = 8 * (j : Int) := by omega
          rw [hji]
          have hj0 : 0 ≤ (j : Int) := by omega
          have hj8 : (j : Int) ≤ 7 := by omega
          clear hji
          generalize hL : [lo8 (u64 2)] ++ pre = L at *
          replace hL := Lib.hid hL
          have x2c := hbk.out.cell 2 rfl
          have hnw := news_b wr (.int .u8 (n / 2 ^ (8 * j) % 256)) 5
          replace hnw := Lib.hid hnw
          go_wp2_with (first | (at_builtin; refine wpList_append_own _ rfl _ _ 39 rfl w.heap.size 5 i0 (.int .u8 0) 1 1 Tryz.underlying39 hi.out hz0.out hz1.out hz2.out rfl (by decide) _ L.length (bytesV L) rfl (hown.alloc _) _ 1 _ ([.int .u8 (n / 2 ^ (8 * j) % 256)]) rfl rfl hnw.out (by simp [Value.oneCell']) (by simp only [maxLen]; omega) (by omega) (by rw [World.size_alloc]; omega) ?e1))
          case e1 =>
            intro v' w' hown' hgrow _
            rw [hbyte.out] at hown'
            have hb2 := Lib.hid (hb.out.grown hB (.cells #[.int .u8 (n / 2 ^ (8 * j) % 256)] 5) (m := [lo8 (u64 n / 2 ^ (8 * j))]) hown' hgrow)
            have hg2 := (Gr.below ((Below.refl _ _).alloc (Nat.le_refl _) (.cells #[.int .u8 (n / 2 ^ (8 * j) % 256)] 5))).trans (Gr.grown (hown.alloc _) hgrow)
            have hbk2 := Lib.hid (hg2.blk hbk.out (by decide))
            clear hown' hgrow hown hbyte hb hbk hg2 x2c hnw
            have hst := hpre.out
            rw [bigL] at hst
            rcases Nat.eq_zero_or_pos j with rfl | hjp
            · have hfin : pre ++ [lo8 (u64 n / 2 ^ (8 * 0))] = bigL (u64 n) 8 := by rw [← hst]; rfl
              replace hfin := Lib.hid hfin
              clear hpre hst
              go_wp2
              go_roundw
              case rel =>
                repeat apply Exists.intro
                exact ⟨⟨0, pre ++ [lo8 (u64 n / 2 ^ (8 * 0))], .inr ⟨rfl, rfl, hfin⟩, by rw [← List.append_assoc, hL.out]; exact hb2, hbk2⟩, rfl⟩
              case measure => simp [intOf]
            · obtain ⟨i, rfl⟩ : ∃ i, j = i + 1 := ⟨j - 1, by omega⟩
              have hfin : (pre ++ [lo8 (u64 n / 2 ^ (8 * (i + 1)))]) ++ bigL (u64 n) (i + 1) = bigL (u64 n) 8 := by rw [← hst, List.append_assoc]; rfl
              replace hfin := Lib.hid hfin
              clear hpre hst
              go_wp2
              go_roundw
              case rel =>
                repeat apply Exists.intro
                exact ⟨⟨i, pre ++ [lo8 (u64 n / 2 ^ (8 * (i + 1)))], .inl ⟨congrArg (Value.int .i64) (by omega), by omega, hfin⟩, by rw [← List.append_assoc, hL.out]; exact hb2, hbk2⟩, rfl⟩
              case measure => simp [intOf]; omega
        · go_wp2
          go_ret
          exact ⟨_, rfl, by have := hb.out; rw [hpre.out, hE.out] at this; exact this⟩
    · have hE : Hid ([lo8 (u64 3)] ++ txL t = E) := Lib.hid (by rw [← hE0.out, encV_mk]; simp)
      have htl : t.size ≤ 10000000 := by
        have := hlen
        rw [encV_mk] at this
        simp [txL, bigL_len] at this
        omega
      have htx := Lib.hid (rtext_call w [lo8 (u64 3)] _ t w1 hb1.out (by simp) htl)
      clear hE0 hb1 hblk
      go_wp2_with fail
      refine (htx.out).mono ?_
      rintro e w3 ⟨v3, rfl, hb3, hg3⟩
      replace hb3 := Lib.hid hb3
      clear hg3 htx
      go_wp2
      go_ret
      exact ⟨_, rfl, by have := hb3.out; rw [hE.out] at this; exact this⟩
    · have hE : Hid ([lo8 (u64 4)] ++ txL t = E) := Lib.hid (by rw [← hE0.out, encV_mk]; simp)
      have htl : t.size ≤ 10000000 := by
        have := hlen
        rw [encV_mk] at this
        simp [txL, bigL_len] at this
        omega
      have htx := Lib.hid (rtext_call w [lo8 (u64 4)] _ t w1 hb1.out (by simp) htl)
      clear hE0 hb1 hblk
      go_wp2_with fail
      refine (htx.out).mono ?_
      rintro e w3 ⟨v3, rfl, hb3, hg3⟩
      replace hb3 := Lib.hid hb3
      clear hg3 htx
      go_wp2
      go_ret
      exact ⟨_, rfl, by have := hb3.out; rw [hE.out] at this; exact this⟩
    · have hE : Hid (([lo8 (u64 5)] ++ bigL l.length 4) ++ encL l = E) := Lib.hid (by rw [← hE0.out, encV_mk]; simp)
      have htl : 5 + (encL l).length ≤ 10000000 := by
        have := hlen
        rw [encV_mk] at this
        simp [bigL_len] at this
        omega
      clear hE0
      have hNl : l.length ≤ N := hel0.out.1
      have hli : (l.length : Int) ≤ 9223372036854775807 := by omega
      have hfour := Lib.hid (four_call l.length w1)
      have hB := hb1.out.below.size
      have hbw2 := hb1.out.alloc hB (.cells (bytesV (bigL l.length 4)).toArray 5)
      have hblk2 := hblk.out.alloc (.cells (bytesV (bigL l.length 4)).toArray 5)
      have hnw := Lib.hid (news_made w1 (bigL l.length 4))
      have hown := hbw2.own
      have hB2 := hbw2.below.size
      go_wp2_with fail
      refine (hfour.out).mono ?_
      rintro e w2 ⟨rfl, hw2⟩
      rw [hw2]
      clear hw2 hfour hb1 hblk x0 x1 x2c x3 x4 x5
      generalize w1.alloc (.cells (bytesV (bigL l.length 4)).toArray 5) = w3 at *
      go_wp2_with (first | (at_builtin; refine wpList_append_own _ rfl _ _ 39 rfl w.heap.size 5 i0 (.int .u8 0) 1 1 Tryz.underlying39 hi.out hz0.out hz1.out hz2.out rfl (by decide) _ [lo8 (u64 5)].length (bytesV [lo8 (u64 5)]) rfl (hown) _ 4 _ (bytesV (bigL l.length 4)) rfl (by rw [bytesV_len, bigL_len]) hnw.out (bytes_one _) (by simp only [maxLen]; simp) (by simp) (by omega) ?f1))
      case f1 =>
        intro v4 w4 hown' hgrow _
        have hbw4 := hbw2.grown0 hB2 (m := bigL l.length 4) (by rw [bigL_len]; exact hown') hgrow
        have hblk4 := Lib.hid ((Gr.grown hown hgrow).blk hblk2 (by decide))
        have hlenP : ([lo8 (u64 5)] ++ bigL l.length 4).length ≤ 5 := by rw [List.length_append, bigL_len]; simp
        generalize hP : [lo8 (u64 5)] ++ bigL l.length 4 = P at *
        replace hbw4 := Lib.hid hbw4
        clear hown' hgrow hown hbw2 hblk2 hnw hP
        go_wp2
        go_loopw [3, 5] (fun v3 v5 wr => ∃ (k : Nat), v5 = .int .i64 k ∧ k ≤ l.length ∧ Hid (BW w w.heap.size v3 (P ++ encL (l.take k)) wr) ∧ Hid (Blk wr w.heap.size #[.int .i64 5, .bool b, .int .i64 n, .string t, .string x, .slice ao l.length cap] 26)) (fun _ v5 _ => l.length - (intOf v5).toNat)
        case atStart => exact ⟨0, rfl, by omega, by simpa [encL] using hbw4, hblk4⟩
        case round =>
          clear hbw4 hblk4
          obtain ⟨k, rfl, hk, hb, hbk⟩ := hrel
          have x5 := hbk.out.cell 5 rfl
          by_cases hlt : k < l.length
          · have hki : (k : Int) < (l.length : Int) := by omega
            have hst := encL_take l k hlt
            have hlt2 := encL_take_le l (k + 1)
            have hmem : SizeOf.sizeOf (l[k]'(by omega)) < SizeOf.sizeOf l := List.sizeOf_lt_of_mem (List.getElem_mem _)
            have hel2 := (hel0.out.2 k hlt).into hb.out.below
            rw [Nat.mul_comm 6 k] at hel2
            generalize l[k]'(by omega) = v at hel2 hmem hst
            cases hel2 with
            | mk b0 off o k1 bo n1 t1 x1 l1 s hr hk1 hn1 ht hx hsl =>
              obtain ⟨aoE, capE, rfl⟩ := LA.form6 hsl
              have hm1 : SizeOf.sizeOf l1 < m := by simp at hmem; omega
              obtain ⟨z0, z1, z2, z3, z4, z5⟩ := hr.six
              rw [hst, List.length_append] at hlt2
              have hcall := ih wr k1 bo n1 hk1 hn1 t1 x1 _ l1 hm1 hsl (by omega)
              have he1 : 1 ≤ (encV (.mk k1 bo n1 t1 x1 l1)).length := by rw [encV_mk, List.length_cons]; omega
              generalize encV (.mk k1 bo n1 t1 x1 l1) = EV at *
              unfold agg6 at hcall
              replace hcall := Lib.hid hcall
              clear hr hsl
              go_wp2_with fail
              refine hcall.out.mono ?_
              rintro e w6 ⟨v6, rfl, hbw6⟩
              obtain ⟨g6, cap6, rfl⟩ : ∃ g cap, v6 = .slice (some ⟨g, 0, none⟩) EV.length cap := by
                rcases hbw6.own.2 with ⟨_, hn⟩ | ⟨g, cp, cur, hv, _⟩
                · omega
                · exact ⟨g, cp, hv⟩
              have hnw := Lib.hid (news_own hbw6)
              have hb6 := hb.out.on hb.out.below.size hbw6.below
              have hbk6 := hbk.out.keep (Keep.ofBelow hbw6.below) (by simp)
              have hown := hb6.own
              have hB6 := hb6.below.size
              have hlen6 : (P ++ encL (l.take k)).length + EV.length ≤ 10000000 := by rw [List.length_append]; omega
              have hst2 : P ++ encL (l.take (k + 1)) = (P ++ encL (l.take k)) ++ EV := by rw [hst, List.append_assoc]
              replace hst2 := Lib.hid hst2
              generalize P ++ encL (l.take k) = Q at *
              clear hcall hbw6 hb hbk hst x5 z0 z1 z2 z3 z4 z5
              go_wp2_with (first | (at_builtin; refine wpList_append_own _ rfl _ _ 39 rfl w.heap.size 5 i0 (.int .u8 0) 1 1 Tryz.underlying39 hi.out hz0.out hz1.out hz2.out rfl (by decide) _ Q.length (bytesV Q) rfl (hown) _ EV.length _ (bytesV EV) rfl (by rw [bytesV_len]; omega) hnw.out (bytes_one _) (by simp only [maxLen]; omega) (by omega) (by omega) ?f2))
              case f2 =>
                intro v7 w7 hown' hgrow _
                have hbw7 := Lib.hid (hb6.grown0 hB6 (m := EV) hown' hgrow)
                have hbk7 := Lib.hid ((Gr.grown hown hgrow).blk hbk6 (by decide))
                clear hown' hgrow hown hb6 hbk6 hnw
                go_wp2
                go_roundw
                case rel => exact ⟨k + 1, by go_num, by omega, by rw [hst2.out]; exact hbw7, hbk7⟩
                case measure => simp [intOf]; omega
          · have hki : ¬ (k : Int) < (l.length : Int) := by omega
            obtain rfl : k = l.length := by omega
            go_wp2
            go_ret
            exact ⟨_, rfl, by have := hb.out; rw [List.take_length, hE.out] at this; exact this⟩
    · have hE : Hid ([lo8 (u64 6)] ++ bigL (u64 n) 8 = E) := Lib.hid (by rw [← hE0.out, encV_mk]; simp)
      clear hE0
      clear x0 x1 x2c x3 x4 x5
      have x2c := hblk.out.cell 2 rfl
      have x0 := hblk.out.cell 0 rfl
      go_wp2
      clear x0 x2c
      go_loopw [3, 4] (fun v3 v4 wr => ∃ (j : Nat) (pre : List UInt8), ((v4 = .int .i64 ((8 * j : Nat) : Int) ∧ j < 8 ∧ Hid (pre ++ bigL (u64 n) (j + 1) = bigL (u64 n) 8)) ∨ (j = 0 ∧ v4 = .int .i64 (-8) ∧ Hid (pre = bigL (u64 n) 8))) ∧ Hid (BW w w.heap.size v3 ([lo8 (u64 6)] ++ pre) wr) ∧ Hid (Blk wr w.heap.size #[.int .i64 6, .bool b, .int .i64 n, .string t, .string x, .slice ao l.length cap] 26)) (fun _ v4 _ => (intOf v4 + 8).toNat)
      case atStart => exact ⟨7, [], .inl ⟨rfl, by omega, by rw [List.nil_append]; exact Lib.hid rfl⟩, by rw [List.append_nil]; exact hb1, hblk⟩
      case round =>
        clear hb1 hblk
        obtain ⟨j, pre, hj, hb, hbk⟩ := hrel
        rcases hj with ⟨rfl, hjw, hpre⟩ | ⟨rfl, rfl, hpre⟩
        · have hpl : pre.length ≤ 8 := by
            have := congrArg List.length hpre.out
            rw [List.length_append, bigL_len, bigL_len] at this
            omega
          have hB := hb.out.below.size
          have hbyte := Lib.hid (shr_byte n hn j (by omega))
          have hown := hb.out.own
          have hll : ([lo8 (u64 6)] ++ pre).length ≤ 1000 := by rw [List.length_append]; simp; omega
          have hji : ((8 * j : Nat) : Int) = 8 * (j : Int) := by omega
          rw [hji]
          have hj0 : 0 ≤ (j : Int) := by omega
          have hj8 : (j : Int) ≤ 7 := by omega
          clear hji
          generalize hL : [lo8 (u64 6)] ++ pre = L at *
          replace hL := Lib.hid hL
          have x2c := hbk.out.cell 2 rfl
          have hnw := news_b wr (.int .u8 (n / 2 ^ (8 * j) % 256)) 5
          replace hnw := Lib.hid hnw
          go_wp2_with (first | (at_builtin; refine wpList_append_own _ rfl _ _ 39 rfl w.heap.size 5 i0 (.int .u8 0) 1 1 Tryz.underlying39 hi.out hz0.out hz1.out hz2.out rfl (by decide) _ L.length (bytesV L) rfl (hown.alloc _) _ 1 _ ([.int .u8 (n / 2 ^ (8 * j) % 256)]) rfl rfl hnw.out (by simp [Value.oneCell']) (by simp only [maxLen]; omega) (by omega) (by rw [World.size_alloc]; omega) ?e2))
          case e2 =>
            intro v' w' hown' hgrow _
            rw [hbyte.out] at hown'
            have hb2 := Lib.hid (hb.out.grown hB (.cells #[.int .u8 (n / 2 ^ (8 * j) % 256)] 5) (m := [lo8 (u64 n / 2 ^ (8 * j))]) hown' hgrow)
            have hg2 := (Gr.below ((Below.refl _ _).alloc (Nat.le_refl _) (.cells #[.int .u8 (n / 2 ^ (8 * j) % 256)] 5))).trans (Gr.grown (hown.alloc _) hgrow)
            have hbk2 := Lib.hid (hg2.blk hbk.out (by decide))
            clear hown' hgrow hown hbyte hb hbk hg2 x2c hnw
            have hst := hpre.out
            rw [bigL] at hst
            rcases Nat.eq_zero_or_pos j with rfl | hjp
            · have hfin : pre ++ [lo8 (u64 n / 2 ^ (8 * 0))] = bigL (u64 n) 8 := by rw [← hst]; rfl
              replace hfin := Lib.hid hfin
              clear hpre hst
              go_wp2
              go_roundw
              case rel =>
                repeat apply Exists.intro
                exact ⟨⟨0, pre ++ [lo8 (u64 n / 2 ^ (8 * 0))], .inr ⟨rfl, rfl, hfin⟩, by rw [← List.append_assoc, hL.out]; exact hb2, hbk2⟩, rfl⟩
              case measure => simp [intOf]
            · obtain ⟨i, rfl⟩ : ∃ i, j = i + 1 := ⟨j - 1, by omega⟩
              have hfin : (pre ++ [lo8 (u64 n / 2 ^ (8 * (i + 1)))]) ++ bigL (u64 n) (i + 1) = bigL (u64 n) 8 := by rw [← hst, List.append_assoc]; rfl
              replace hfin := Lib.hid hfin
              clear hpre hst
              go_wp2
              go_roundw
              case rel =>
                repeat apply Exists.intro
                exact ⟨⟨i, pre ++ [lo8 (u64 n / 2 ^ (8 * (i + 1)))], .inl ⟨congrArg (Value.int .i64) (by omega), by omega, hfin⟩, by rw [← List.append_assoc, hL.out]; exact hb2, hbk2⟩, rfl⟩
              case measure => simp [intOf]; omega
        · go_wp2
          go_ret
          exact ⟨_, rfl, by have := hb.out; rw [hpre.out, hE.out] at this; exact this⟩
    · have hE : Hid ([lo8 (u64 7)] ++ bigL (u64 n) 8 = E) := Lib.hid (by rw [← hE0.out, encV_mk]; simp)
      clear hE0
      clear x0 x1 x2c x3 x4 x5
      have x2c := hblk.out.cell 2 rfl
      have x0 := hblk.out.cell 0 rfl
      go_wp2
      clear x0 x2c
      go_loopw [3, 4] (fun v3 v4 wr => ∃ (j : Nat) (pre : List UInt8), ((v4 = .int .i64 ((8 * j : Nat) : Int) ∧ j < 8 ∧ Hid (pre ++ bigL (u64 n) (j + 1) = bigL (u64 n) 8)) ∨ (j = 0 ∧ v4 = .int .i64 (-8) ∧ Hid (pre = bigL (u64 n) 8))) ∧ Hid (BW w w.heap.size v3 ([lo8 (u64 7)] ++ pre) wr) ∧ Hid (Blk wr w.heap.size #[.int .i64 7, .bool b, .int .i64 n, .string t, .string x, .slice ao l.length cap] 26)) (fun _ v4 _ => (intOf v4 + 8).toNat)
      case atStart => exact ⟨7, [], .inl ⟨rfl, by omega, by rw [List.nil_append]; exact Lib.hid rfl⟩, by rw [List.append_nil]; exact hb1, hblk⟩
      case round =>
        clear hb1 hblk
        obtain ⟨j, pre, hj, hb, hbk⟩ := hrel
        rcases hj with ⟨rfl, hjw, hpre⟩ | ⟨rfl, rfl, hpre⟩
        · have hpl : pre.length ≤ 8 := by
            have := congrArg List.length hpre.out
            rw [List.length_append, bigL_len, bigL_len] at this
            omega
          have hB := hb.out.below.size
          have hbyte := Lib.hid (shr_byte n hn j (by omega))
          have hown := hb.out.own
          have hll : ([lo8 (u64 7)] ++ pre).length ≤ 1000 := by rw [List.length_append]; simp; omega
          have hji : ((8 * j : Nat) : Int) = 8 * (j : Int) := by omega
          rw [hji]
          have hj0 : 0 ≤ (j : Int) := by omega
          have hj8 : (j : Int) ≤ 7 := by omega
          clear hji
          generalize hL : [lo8 (u64 7)] ++ pre = L at *
          replace hL := Lib.hid hL
          have x2c := hbk.out.cell 2 rfl
          have hnw := news_b wr (.int .u8 (n / 2 ^ (8 * j) % 256)) 5
          replace hnw := Lib.hid hnw
          go_wp2_with (first | (at_builtin; refine wpList_append_own _ rfl _ _ 39 rfl w.heap.size 5 i0 (.int .u8 0) 1 1 Tryz.underlying39 hi.out hz0.out hz1.out hz2.out rfl (by decide) _ L.length (bytesV L) rfl (hown.alloc _) _ 1 _ ([.int .u8 (n / 2 ^ (8 * j) % 256)]) rfl rfl hnw.out (by simp [Value.oneCell']) (by simp only [maxLen]; omega) (by omega) (by rw [World.size_alloc]; omega) ?e3))
          case e3 =>
            intro v' w' hown' hgrow _
            rw [hbyte.out] at hown'
            have hb2 := Lib.hid (hb.out.grown hB (.cells #[.int .u8 (n / 2 ^ (8 * j) % 256)] 5) (m := [lo8 (u64 n / 2 ^ (8 * j))]) hown' hgrow)
            have hg2 := (Gr.below ((Below.refl _ _).alloc (Nat.le_refl _) (.cells #[.int .u8 (n / 2 ^ (8 * j) % 256)] 5))).trans (Gr.grown (hown.alloc _) hgrow)
            have hbk2 := Lib.hid (hg2.blk hbk.out (by decide))
            clear hown' hgrow hown hbyte hb hbk hg2 x2c hnw
            have hst := hpre.out
            rw [bigL] at hst
            rcases Nat.eq_zero_or_pos j with rfl | hjp
            · have hfin : pre ++ [lo8 (u64 n / 2 ^ (8 * 0))] = bigL (u64 n) 8 := by rw [← hst]; rfl
              replace hfin := Lib.hid hfin
              clear hpre hst
              go_wp2
              go_roundw
              case rel =>
                repeat apply Exists.intro
                exact ⟨⟨0, pre ++ [lo8 (u64 n / 2 ^ (8 * 0))], .inr ⟨rfl, rfl, hfin⟩, by rw [← List.append_assoc, hL.out]; exact hb2, hbk2⟩, rfl⟩
              case measure => simp [intOf]
            · obtain ⟨i, rfl⟩ : ∃ i, j = i + 1 := ⟨j - 1, by omega⟩
              have hfin : (pre ++ [lo8 (u64 n / 2 ^ (8 * (i + 1)))]) ++ bigL (u64 n) (i + 1) = bigL (u64 n) 8 := by rw [← hst, List.append_assoc]; rfl
              replace hfin := Lib.hid hfin
              clear hpre hst
              go_wp2
              go_roundw
              case rel =>
                repeat apply Exists.intro
                exact ⟨⟨i, pre ++ [lo8 (u64 n / 2 ^ (8 * (i + 1)))], .inl ⟨congrArg (Value.int .i64) (by omega), by omega, hfin⟩, by rw [← List.append_assoc, hL.out]; exact hb2, hbk2⟩, rfl⟩
              case measure => simp [intOf]; omega
        · go_wp2
          go_ret
          exact ⟨_, rfl, by have := hb.out; rw [hpre.out, hE.out] at this; exact this⟩
    · have hE : Hid ([lo8 (u64 8)] ++ txL t = E) := Lib.hid (by rw [← hE0.out, encV_mk]; simp)
      have htl : t.size ≤ 10000000 := by
        have := hlen
        rw [encV_mk] at this
        simp [txL, bigL_len] at this
        omega
      have htx := Lib.hid (rtext_call w [lo8 (u64 8)] _ t w1 hb1.out (by simp) htl)
      clear hE0 hb1 hblk
      go_wp2_with fail
      refine (htx.out).mono ?_
      rintro e w3 ⟨v3, rfl, hb3, hg3⟩
      replace hb3 := Lib.hid hb3
      clear hg3 htx
      go_wp2
      go_ret
      exact ⟨_, rfl, by have := hb3.out; rw [hE.out] at this; exact this⟩
    · have hE : Hid ([lo8 (u64 9)] ++ txL t = E) := Lib.hid (by rw [← hE0.out, encV_mk]; simp)
      have htl : t.size ≤ 10000000 := by
        have := hlen
        rw [encV_mk] at this
        simp [txL, bigL_len] at this
        omega
      have htx := Lib.hid (rtext_call w [lo8 (u64 9)] _ t w1 hb1.out (by simp) htl)
      clear hE0 hb1 hblk
      go_wp2_with fail
      refine (htx.out).mono ?_
      rintro e w3 ⟨v3, rfl, hb3, hg3⟩
      replace hb3 := Lib.hid hb3
      clear hg3 htx
      go_wp2
      go_ret
      exact ⟨_, rfl, by have := hb3.out; rw [hE.out] at this; exact this⟩
    · have hE : Hid (([lo8 (u64 10)] ++ txL t) ++ txL x = E) := Lib.hid (by rw [← hE0.out, encV_mk]; simp)
      have htl : t.size ≤ 1000000 + 9000000 ∧ x.size ≤ 10000000 ∧ t.size + 5 ≤ 10000000 := by
        have := hlen
        rw [encV_mk] at this
        simp [txL, bigL_len] at this
        omega
      go_upto_region 20 with fail
      clear x0 x1 x2c x3 x4 x5
      have hbw5 := hb1.out.on hb1.out.below.size (below_drew _)
      have hS0 : Blk w1.drew w.heap.size #[.int .i64 10, .bool b, .int .i64 n, .string t, .string x, .slice ao l.length cap] 26 := hblk.out.drewN 1
      clear hb1 hblk hE0
      refine wp_region_held_drew (S := fun V => Blk V w.heap.size #[.int .i64 10, .bool b, .int .i64 n, .string t, .string x, .slice ao l.length cap] 26) (by kernel_rfl) hS0 (fun hS => ?_)
      have hV := hS0
      clear hS0
      generalize w1.drew = V0 at *
      refine wpAnyH_take (i := 0) (v := ?_) rfl (by kernel_rfl) (by kernel_rfl) (by kernel_rfl) (fun _ _ _ h => h) (.inl ⟨by kernel_rfl, fun w' hS => ?_⟩) hS ?_
      rotate_left
      ·
        obtain ⟨x3, x4⟩ := Blk.tx hS
        go_simp
        try with_reducible rfl
      simp only [List.getElem_toArray, List.getElem_cons_succ, List.getElem_cons_zero, Act.put, List.setIfInBounds_toArray, List.set_cons_zero, List.set_cons_succ]
      refine wpAnyH_take (i := 1) (v := ?_) rfl (by kernel_rfl) (by kernel_rfl) (by kernel_rfl) (fun _ _ _ h => h) (.inl ⟨by kernel_rfl, fun w' hS => ?_⟩) hS ?_
      rotate_left
      ·
        obtain ⟨x3, x4⟩ := Blk.tx hS
        go_simp
        try with_reducible rfl
      simp only [List.getElem_toArray, List.getElem_cons_succ, List.getElem_cons_zero, Act.put, List.setIfInBounds_toArray, List.set_cons_zero, List.set_cons_succ]
      refine wpAnyH_take (i := 2) (v := ?_) rfl (by kernel_rfl) (by kernel_rfl) (by kernel_rfl) (fun _ _ _ h => h) (.inl ⟨by kernel_rfl, fun w' hS => ?_⟩) hS ?_
      rotate_left
      ·
        obtain ⟨x3, x4⟩ := Blk.tx hS
        go_simp
        try with_reducible rfl
      simp only [List.getElem_toArray, List.getElem_cons_succ, List.getElem_cons_zero, Act.put, List.setIfInBounds_toArray, List.set_cons_zero, List.set_cons_succ]
      refine wpAnyH_take (i := 4) (v := ?_) rfl (by kernel_rfl) (by kernel_rfl) (by kernel_rfl) (fun _ _ _ h => h) (.inl ⟨by kernel_rfl, fun w' hS => ?_⟩) hS ?_
      rotate_left
      ·
        obtain ⟨x3, x4⟩ := Blk.tx hS
        go_simp
        try with_reducible rfl
      simp only [List.getElem_toArray, List.getElem_cons_succ, List.getElem_cons_zero, Act.put, List.setIfInBounds_toArray, List.set_cons_zero, List.set_cons_succ]
      refine wpAnyH_take (i := 5) (v := ?_) rfl (by kernel_rfl) (by kernel_rfl) (by kernel_rfl) (fun _ _ _ h => h) (.inl ⟨by kernel_rfl, fun w' hS => ?_⟩) hS ?_
      rotate_left
      ·
        obtain ⟨x3, x4⟩ := Blk.tx hS
        go_simp
        try with_reducible rfl
      simp only [List.getElem_toArray, List.getElem_cons_succ, List.getElem_cons_zero, Act.put, List.setIfInBounds_toArray, List.set_cons_zero, List.set_cons_succ]
      refine wpAnyH_ready (rs := [3]) (by kernel_rfl) (by simp) ?_
      refine AllReadyH.cons rfl (fun K hK => ?_) AllReadyH.nil
      clear hS
      go_simp
      refine (rtext_call w _ _ t V0 hbw5 (by simp) (by omega)).mono ?_
      rintro e w6 ⟨v6, rfl, hbw6, hg6⟩
      go_wp2_with fail
      refine hK.out _ _ (hg6.blk hV (by decide)) (fun hS => ?_)
      clear hK K
      try simp only [List.getElem_toArray, List.getElem_cons_succ, List.getElem_cons_zero, Act.put, List.setIfInBounds_toArray, List.set_cons_zero, List.set_cons_succ]
      refine wpAnyH_ready (rs := [6]) (by kernel_rfl) (by simp) ?_
      refine AllReadyH.cons rfl (fun K hK => ?_) AllReadyH.nil
      clear hS
      go_simp
      refine (rtext_call w _ v6 x _ hbw6 (by rw [List.length_append]; simp [txL, bigL_len]; omega) htl.2.1).mono ?_
      rintro e w7 ⟨v7, rfl, hbw7, hg7⟩
      go_wp2_with fail
      refine hK.out _ _ (hg7.blk (hg6.blk hV (by decide)) (by decide)) (fun hS => ?_)
      clear hK K
      try simp only [List.getElem_toArray, List.getElem_cons_succ, List.getElem_cons_zero, Act.put, List.setIfInBounds_toArray, List.set_cons_zero, List.set_cons_succ]
      refine wpAnyH_take (i := 7) (v := ?_) rfl (by kernel_rfl) (by kernel_rfl) (by kernel_rfl) (fun _ _ _ h => h) (.inl ⟨by kernel_rfl, fun w' hS => ?_⟩) hS ?_
      rotate_left
      ·
        skip
        go_simp
        try with_reducible rfl
      simp only [List.getElem_toArray, List.getElem_cons_succ, List.getElem_cons_zero, Act.put, List.setIfInBounds_toArray, List.set_cons_zero, List.set_cons_succ]
      refine wpAnyH_done (by kernel_rfl) ?_ _
      clear hS
      have hbw8 := Lib.hid hbw7
      clear hbw5 hbw6 hg6 hbw7 hg7 hV
      go_wp2
      go_ret
      exact ⟨_, rfl, by have := hbw8.out; rw [hE.out] at this; exact this⟩
    · have hE : Hid ([lo8 (u64 k)] = E) := Lib.hid (by rw [← hE0.out, encV_mk, if_neg h1, if_neg (by omega), if_neg (by omega), if_neg h10, if_neg h5])
      have q0 : (k == 0) = false := by simpa using h0
      have q1 : (k == 1) = false := by simpa using h1
      have q2 : (k == 2) = false := by simpa using h2
      have q3 : (k == 3) = false := by simpa using h3
      have q4 : (k == 4) = false := by simpa using h4
      have q5 : (k == 5) = false := by simpa using h5
      have q6 : (k == 6) = false := by simpa using h6
      have q7 : (k == 7) = false := by simpa using h7
      have q8 : (k == 8) = false := by simpa using h8
      have q9 : (k == 9) = false := by simpa using h9
      have q10 : (k == 10) = false := by simpa using h10
      clear h0 h1 h2 h3 h4 h5 h6 h7 h8 h9 h10
      clear hblk hE0
      go_wp2
      go_ret
      exact ⟨_, rfl, by rw [← hE.out]; exact hb1.out⟩
end Go.Proofs.YthecgifgjagmaaaGreatDoor.val
