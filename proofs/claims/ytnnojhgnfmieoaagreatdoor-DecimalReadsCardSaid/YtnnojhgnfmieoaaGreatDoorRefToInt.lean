/- Contract of the reference's ToInt. -/
import Derived.Test.YtnnojhgnfmieoaaGreatDoorRefInt
namespace Go.Proofs.YtnnojhgnfmieoaaGreatDoor.dec
open Go.ChangeShapes Go.WideShapes Go.ChangeAt Go.RowKit kit
set_option linter.unusedVariables false
set_option linter.unusedSimpArgs false
/-- The text of a whole number's last part. -/
theorem tail_two {a : ByteArray} {L P : List UInt8} (h : a.data.toList = L ++ 46 :: P) (hP : 0 < P.length) (hD : allD P = true) : 2 ≤ a.size ∧ ((a.extract (a.size - 2) a.size).data.toList = [46, 48] ↔ P = [48]) ∧ (P = [48] → (a.extract 0 (a.size - 2)).data.toList = L) := by
  have hs : a.size = L.length + (P.length + 1) := by
    have := congrArg List.length h
    have e1 : a.data.toList.length = a.size := by simp
    rw [e1, List.length_append, List.length_cons] at this
    exact this
  refine ⟨by omega, ?_, ?_⟩
  · rw [ByteArray.data_extract, Array.toList_extract, h]
    rw [show a.size - 2 = L.length + (P.length - 1) by omega]
    constructor
    · intro he
      have hd := congrArg (List.take 2) he
      cases P with
      | nil => simp at hP
      | cons c r =>
        cases r with
        | nil =>
          simp [List.extract_eq_take_drop, hs] at he
          rw [he]
        | cons c2 r2 =>
          exfalso
          have hlast : ∃ x y, (c :: c2 :: r2).drop (r2.length) = [x, y] := by
            have hl : ((c :: c2 :: r2).drop (r2.length)).length = 2 := by simp; omega
            match hm : (c :: c2 :: r2).drop (r2.length), hl with
            | [x, y], _ => exact ⟨x, y, rfl⟩
          obtain ⟨x, y, hxy⟩ := hlast
          have hx : isD x = true := by
            have : x ∈ (c :: c2 :: r2) := List.mem_of_mem_drop (by rw [hxy]; simp)
            exact List.all_eq_true.1 hD x this
          simp only [List.extract_eq_take_drop, List.length_cons, hs] at he
          rw [List.drop_append, List.drop_eq_nil_of_le (by omega), List.nil_append, show L.length + (r2.length + 1 + 1 - 1) - L.length = r2.length + 1 by omega, List.drop_succ_cons, hxy] at he
          have h1 : x = 46 := by
            rw [show L.length + (r2.length + 1 + 1 + 1) - (L.length + (r2.length + 1 + 1 - 1)) = 2 by omega] at he
            simp at he
            exact he.1
          rw [h1] at hx
          exact absurd hx (by decide)
    · rintro rfl
      simp [List.extract_eq_take_drop, hs]
  · rintro rfl
    rw [ByteArray.data_extract, Array.toList_extract, h]
    simp [List.extract_eq_take_drop, hs]
set_option maxRecDepth 100000 in
set_option maxHeartbeats 4000000 in
theorem rtoInt_any (a : ByteArray) (w : World) (hs : a.size ≤ 50000) :
    Calls Tryz.prog 25 #[.string a] w fun e w' => e = .returned (.tuple #[.int .i64 (toIR a.data.toList).1, .bool (toIR a.data.toList).2]) ∧ Below w.heap.size w w' := by
  have hck := fun w => rcheck_any a w hs
  have hai : (a.size : Int) ≤ 50000 := by omega
  cases hc : chk a.data.toList
  · rw [hc] at hck
    have hR : toIR a.data.toList = (0, false) := by unfold toIR; rw [hc]; rfl
    rw [hR]
    replace hck := Lib.hid hck
    clear hc hR
    go_enter Tryz.func25, Tryz.ntmps25
    go_wp2_with (go_at_call 27; refine (hck.out _).mono ?_; rintro e w1 ⟨rfl, hb1⟩)
    go_ret2
    exact ⟨rfl, hb1⟩
  · rw [hc] at hck
    obtain ⟨neg, W, P, hsh, hW, hWl, hP, hPl, hl, h22, hR⟩ := whole_parts _ hc
    have hsz : a.size = (if neg then 1 else 0) + (W.length + (P.length + 1)) := by
      have := congrArg List.length hsh
      have e1 : a.data.toList.length = a.size := by simp
      rw [e1, List.length_append, List.length_append, List.length_cons] at this
      rw [this]; cases neg <;> rfl
    obtain ⟨h2s, htl, hhd⟩ := tail_two (a := a) (L := (if neg then [45] else []) ++ W) (P := P) (by rw [hsh, List.append_assoc]) hPl hP
    rw [hR]
    generalize chk a.data.toList = ck at *
    clear hR hsh hP hl
    replace hck := Lib.hid hck
    by_cases h25 : 25 < a.size
    · have h25i : (25 : Int) < (a.size : Int) := by omega
      have e : ¬ (P = [48] ∧ val W ≤ wmax neg) := by
        rintro ⟨e1, e2⟩
        have h3 : 22 < W.length := by rw [e1] at hsz; cases neg <;> simp at hsz <;> omega
        have h4 := h22 h3
        unfold wmax at e2
        have h5 : (10 : Nat) ^ 22 = 10000000000000000000000 := by decide
        cases neg <;> simp at e2 <;> omega
      rw [if_neg e]
      clear e h22 htl hhd hsz
      go_enter Tryz.func25, Tryz.ntmps25
      go_wp2_with (go_at_call 27; refine (hck.out _).mono ?_; rintro e w1 ⟨rfl, hb1⟩)
      go_ret2
      exact ⟨rfl, hb1⟩
    · have h25i : ¬ (25 : Int) < (a.size : Int) := by omega
      by_cases hP8 : P = [48]
      · have htf : ((a.extract (a.size - 2) a.size).toList == [46, 48]) = true := by
          rw [Go.ByteArray.toList_eq, htl.2 hP8]; rfl
        obtain ⟨t, ht⟩ : ∃ t, a.extract 0 (a.size - 2) = t := ⟨_, rfl⟩
        have hhd2 := hhd hP8
        rw [ht] at hhd2
        have hts : t.size = (if neg then 1 else 0) + W.length := by
          have e1 : t.data.toList.length = t.size := by simp
          rw [← e1, hhd2, List.length_append]
          cases neg <;> rfl
        have hP1 : P.length = 1 := by rw [hP8]; rfl
        have hWl2 : W.length ≤ 24 := by cases neg <;> simp at hsz <;> omega
        have hRe : (if P = [48] ∧ val W ≤ wmax neg then (signed neg (val W), true) else ((0 : Int), false)) = if val W ≤ wmax neg then (signed neg (val W), true) else ((0 : Int), false) := by
          by_cases e : val W ≤ wmax neg
          · rw [if_pos ⟨hP8, e⟩, if_pos e]
          · rw [if_neg (fun h => e h.2), if_neg e]
        rw [hRe]
        clear hRe htl hhd hsz hP1 hP8 h22 hPl
        have hti : (t.size : Int) ≤ 50000 := by rw [hts]; cases neg <;> simp <;> omega
        have ht0 : 0 < t.size := by rw [hts]; omega
        have ht0i : (0 : Int) < (t.size : Int) := by omega
        have ht1i : (1 : Int) ≤ (t.size : Int) := by omega
        cases neg
        · have hu : t.data.toList = W := hhd2
          have hus : t.size = W.length := by simpa using hts
          obtain ⟨n, hn⟩ : ∃ n, t[0].toNat = n := ⟨_, rfl⟩
          have hn5 : ((n : Int) == 45) = false := by
            obtain ⟨r, hr, _⟩ := first_tail ht0
            rw [hu] at hr
            have h1 : isD t[0] = true := by
              rw [hr] at hW
              rw [allD_cons, Bool.and_eq_true] at hW
              exact hW.1
            unfold isD at h1
            rw [hn] at h1
            have := of_decide_eq_true h1
            exact beq_eq_false_iff_ne.2 (by omega)
          obtain ⟨r, hrr⟩ : ∃ r, (if val W ≤ wmax false then (signed false (val W), true) else ((0 : Int), false)) = r := ⟨_, rfl⟩
          rw [hrr]
          replace hrr := Lib.hid hrr
          clear hhd2 hts
          replace hu := Lib.hid hu
          replace hW := Lib.hid hW
          go_enter Tryz.func25, Tryz.ntmps25
          go_upto_region 8 with (go_at_call 27; refine (hck.out _).mono ?_; rintro e w1 ⟨rfl, hb1⟩)
          obtain ⟨u, rfl⟩ : ∃ u : ByteArray, u = t := ⟨_, rfl⟩
          rw [ht] at *
          clear ht
          replace htf := Lib.hid htf
          have huz : u.size = W.length := by rw [← hu.out]; simp
          have hui : (u.size : Int) ≤ 24 := by omega
          go_wp2_with fail
          go_loop [4, 7] (fun v4 v7 => ∃ i v : Nat, i ≤ u.size ∧ v7 = .int .i64 i ∧ v4 = .int .i64 (-(v : Int)) ∧ Hid (v = val (W.take i)) ∧ v ≤ 9223372036854775808) (fun _ v7 => u.size - (intOf v7).toNat)
          case atStart => exact ⟨0, 0, by omega, rfl, rfl, rfl, by omega⟩
          case round =>
            obtain ⟨i, v, hi, rfl, rfl, hv, hv63⟩ := hrel
            have hii : (i : Int) ≤ 24 := by omega
            by_cases hlt : i < u.size
            · have hlti : (i : Int) < (u.size : Int) := by omega
              have htk := take_at hu.out i hlt
              have hdr := drop_at hu.out i hlt
              obtain ⟨n, hn⟩ : ∃ n, (u[i]'hlt).toNat = n := ⟨_, rfl⟩
              have hid : isD (u[i]'hlt) = true := by
                have h1 := allD_drop i hW.out
                rw [hdr, allD_cons, Bool.and_eq_true] at h1
                exact h1.1
              have hdv : dv (u[i]'hlt) = n - 48 := by unfold dv; rw [hn]
              unfold isD at hid
              rw [hn] at hid
              have hn48 := of_decide_eq_true hid
              have hw48 := wrap48 hn48
              have hv2 : val (W.take (i + 1)) = v * 10 + (n - 48) := by rw [htk, val_snoc, ← hv.out, hdv]
              have hle := val_take_le W (i + 1)
              rw [hv2] at hle
              have htest := low_test v (n - 48) hv63 (by omega)
              obtain ⟨k, hk⟩ : ∃ k, n - 48 = k := ⟨_, rfl⟩
              rw [hk] at hv2 hle htest hw48
              have hk10 : k < 10 := by omega
              clear hdv hid hdr htk
              have hkn : (k : Int) = (n : Int) - 48 := by omega
              rw [hkn] at htest
              have hn57 : (n : Int) ≤ 57 := by omega
              have hn47 : 48 ≤ (n : Int) := by omega
              replace hv2 := Lib.hid hv2
              by_cases hov : v * 10 + k ≤ 9223372036854775808
              · have hte : ¬ (-(v : Int) < Int.tdiv (-9223372036854775808 + ((n : Int) - 48)) 10) := fun e => htest.1 e hov
                clear htest
                go_wp2
                refine ⟨⟨i + 1, v * 10 + k, by omega, congrArg _ (by omega), congrArg _ (by omega), hv2.out.symm, hov⟩, ?_⟩
                simp only [intOf]
                omega
              · have hte : (-(v : Int) < Int.tdiv (-9223372036854775808 + ((n : Int) - 48)) 10) := htest.2 hov
                have hr2 := hrr.out
                rw [if_neg (by unfold wmax; simp; omega)] at hr2
                subst hr2
                clear htest
                go_wp2
                go_ret2
                exact ⟨rfl, hb1⟩
            · obtain rfl : i = u.size := by omega
              have hvv : v = val W := by rw [hv.out, List.take_of_length_le (by omega)]
              have hr2 := hrr.out
              rw [← hvv] at hr2
              clear hvv
          
              by_cases hmx : v = 9223372036854775808
              · have hmi : ((-(v : Int)) == -9223372036854775808) = true := by rw [hmx]; rfl
                rw [if_neg (by unfold wmax; simp; omega)] at hr2
                subst hr2
                go_wp2
                go_ret2
                exact ⟨rfl, hb1⟩
              · have hmi : ((-(v : Int)) == -9223372036854775808) = false := beq_eq_false_iff_ne.2 (by omega)
                rw [if_pos (by unfold wmax; simp; omega)] at hr2
                subst hr2
                go_wp2
                go_ret2
                exact ⟨by simp [signed], hb1⟩
        · have hsp : t.data.toList = 45 :: W := hhd2
          obtain ⟨hu, hul⟩ := tail_list hsp
          have hus : t.size = W.length + 1 := by simp at hts; omega
          obtain ⟨n, hn⟩ : ∃ n, t[0].toNat = n := ⟨_, rfl⟩
          obtain rfl : n = 45 := by rw [← hn]; exact first_eq hsp ht0
          obtain ⟨r, hrr⟩ : ∃ r, (if val W ≤ wmax true then (signed true (val W), true) else ((0 : Int), false)) = r := ⟨_, rfl⟩
          rw [hrr]
          replace hrr := Lib.hid hrr
          clear hhd2 hts hsp
          replace hu := Lib.hid hu
          replace hW := Lib.hid hW
          go_enter Tryz.func25, Tryz.ntmps25
          go_upto_region 8 with (go_at_call 27; refine (hck.out _).mono ?_; rintro e w1 ⟨rfl, hb1⟩)
          generalize t.extract 1 (W.length + 1) = u at *
          rw [ht] at *
          clear ht
          replace htf := Lib.hid htf
          have huz : u.size = W.length := by rw [← hu.out]; simp
          have hui : (u.size : Int) ≤ 24 := by omega
          go_wp2_with fail
          go_loop [4, 7] (fun v4 v7 => ∃ i v : Nat, i ≤ u.size ∧ v7 = .int .i64 i ∧ v4 = .int .i64 (-(v : Int)) ∧ Hid (v = val (W.take i)) ∧ v ≤ 9223372036854775808) (fun _ v7 => u.size - (intOf v7).toNat)
          case atStart => exact ⟨0, 0, by omega, rfl, rfl, rfl, by omega⟩
          case round =>
            obtain ⟨i, v, hi, rfl, rfl, hv, hv63⟩ := hrel
            have hii : (i : Int) ≤ 24 := by omega
            by_cases hlt : i < u.size
            · have hlti : (i : Int) < (u.size : Int) := by omega
              have htk := take_at hu.out i hlt
              have hdr := drop_at hu.out i hlt
              obtain ⟨n, hn⟩ : ∃ n, (u[i]'hlt).toNat = n := ⟨_, rfl⟩
              have hid : isD (u[i]'hlt) = true := by
                have h1 := allD_drop i hW.out
                rw [hdr, allD_cons, Bool.and_eq_true] at h1
                exact h1.1
              have hdv : dv (u[i]'hlt) = n - 48 := by unfold dv; rw [hn]
              unfold isD at hid
              rw [hn] at hid
              have hn48 := of_decide_eq_true hid
              have hw48 := wrap48 hn48
              have hv2 : val (W.take (i + 1)) = v * 10 + (n - 48) := by rw [htk, val_snoc, ← hv.out, hdv]
              have hle := val_take_le W (i + 1)
              rw [hv2] at hle
              have htest := low_test v (n - 48) hv63 (by omega)
              obtain ⟨k, hk⟩ : ∃ k, n - 48 = k := ⟨_, rfl⟩
              rw [hk] at hv2 hle htest hw48
              have hk10 : k < 10 := by omega
              clear hdv hid hdr htk
              have hkn : (k : Int) = (n : Int) - 48 := by omega
              rw [hkn] at htest
              have hn57 : (n : Int) ≤ 57 := by omega
              have hn47 : 48 ≤ (n : Int) := by omega
              replace hv2 := Lib.hid hv2
              by_cases hov : v * 10 + k ≤ 9223372036854775808
              · have hte : ¬ (-(v : Int) < Int.tdiv (-9223372036854775808 + ((n : Int) - 48)) 10) := fun e => htest.1 e hov
                clear htest
                go_wp2
                refine ⟨⟨i + 1, v * 10 + k, by omega, congrArg _ (by omega), congrArg _ (by omega), hv2.out.symm, hov⟩, ?_⟩
                simp only [intOf]
                omega
              · have hte : (-(v : Int) < Int.tdiv (-9223372036854775808 + ((n : Int) - 48)) 10) := htest.2 hov
                have hr2 := hrr.out
                rw [if_neg (by unfold wmax; simp; omega)] at hr2
                subst hr2
                clear htest
                go_wp2
                go_ret2
                exact ⟨rfl, hb1⟩
            · obtain rfl : i = u.size := by omega
              have hvv : v = val W := by rw [hv.out, List.take_of_length_le (by omega)]
              have hr2 := hrr.out
              rw [← hvv] at hr2
              clear hvv
          
              by_cases hmx : v ≤ 9223372036854775808
              · rw [if_pos (by unfold wmax; simpa using hmx)] at hr2
                subst hr2
                go_wp2
                go_ret2
                exact ⟨rfl, hb1⟩
              · exact absurd hv63 hmx
      · rw [if_neg (fun e => hP8 e.1)]
        have htf : ((a.extract (a.size - 2) a.size).toList == [46, 48]) = false := by
          rw [Go.ByteArray.toList_eq]
          exact beq_eq_false_iff_ne.2 (fun e => hP8 (htl.1 e))
        clear h22 htl hhd hsz
        go_enter Tryz.func25, Tryz.ntmps25
        go_wp2_with (go_at_call 27; refine (hck.out _).mono ?_; rintro e w1 ⟨rfl, hb1⟩)
        go_ret2
        exact ⟨rfl, hb1⟩
end Go.Proofs.YtnnojhgnfmieoaaGreatDoor.dec
