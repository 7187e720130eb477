/- The contract of set. -/
import Derived.Test.YtnocncmjdhlmkaaHChk
namespace Go.Proofs.Ytnocncmjdhlmkaa.hyp
open Go.ChangeShapes Go.WideShapes Go.ChangeAt Go.RowKit kit
set_option linter.unusedVariables false
set_option linter.unusedSimpArgs false
def SetOut (w : World) (R : Option Nat) (e : Ending) (w' : World) : Prop :=
  Below w.heap.size w w' ∧ ∃ x : Nat, e = .returned (.tuple #[.int .u16 (x : Int), .bool R.isSome]) ∧ ∀ s, R = some s → x = s ∧ s < 65536
theorem idxI_lt {ns : List ByteArray} {x : ByteArray} (h : -1 < idxI ns x) : ∃ i : Nat, idxI ns x = (i : Int) ∧ i < ns.length := by
  unfold idxI at h ⊢
  by_cases hm : x ∈ ns
  · rw [if_pos hm]
    exact ⟨_, rfl, List.idxOf_lt_length_of_mem hm⟩
  · rw [if_neg hm] at h
    omega
theorem idxI_ge (ns : List ByteArray) (x : ByteArray) : -1 ≤ idxI ns x := by
  unfold idxI
  split <;> omega
set_option maxRecDepth 100000 in
set_option maxHeartbeats 8000000 in
theorem set_any (w : World) (gb mb : Nat) (ns : List ByteArray) (ms : List Nat) (hG : GM w gb mb ns ms) (vv ve : Value) (p : Int) (vs : List ByteArray) (es : List Int) (hv : TextsA w w.heap.size vv vs) (he : RowA w w.heap.size ve (numsV es)) (hvl : vs.length ≤ 1048576) (hel : es.length ≤ 1048576) :
    Calls Try.prog 39 #[.pointer (some ⟨gb, 0, none⟩), .agg #[vv, ve, .int .i64 p]] w fun e w' => SetOut w (setP ns ms vs es) e w' := by
  obtain ⟨av, cv, rfl, hvc⟩ := hv.form
  obtain ⟨ae, ce, rfl, -, hec⟩ := he.form
  rw [numsV_length]
  have hbl : Below w.heap.size w (w.alloc (.cells #[.slice av vs.length cv, .slice ae es.length ce, .int .i64 p] 45)) := (Below.refl _ _).alloc (Nat.le_refl _) _
  have hst := stay_of_below hbl
  have hG1 := Lib.hid (hG.below hbl)
  have hvc1 : Hid (∀ j (hj : j < vs.length), ∃ b off, av = some ⟨b, off, none⟩ ∧ (w.alloc (.cells #[.slice av vs.length cv, .slice ae es.length ce, .int .i64 p] 45)).cell? ⟨b, off + j, none⟩ = some (.string vs[j])) := Lib.hid fun j hj => by
    obtain ⟨b, off, h1, -, h3⟩ := hvc j hj
    exact ⟨b, off, h1, hst.cell h3⟩
  have hec1 : Hid (∀ j (hj : j < es.length), ∃ b off, ae = some ⟨b, off, none⟩ ∧ (w.alloc (.cells #[.slice av vs.length cv, .slice ae es.length ce, .int .i64 p] 45)).cell? ⟨b, off + j, none⟩ = some (.int .i64 es[j])) := Lib.hid fun j hj => by
    obtain ⟨b, off, h1, -, h3⟩ := hec j (by simpa using hj)
    exact ⟨b, off, h1, by rw [hst.cell h3]; simp [numsV]⟩
  have hqB := Blk.new w #[.slice av vs.length cv, .slice ae es.length ce, .int .i64 p] 45
  have hn12 := hG.hns
  have hm8 := hG.hlen
  have hE := Lib.hid hG.hE
  have hbl2 := Lib.hid hbl
  obtain ⟨R, hR⟩ : ∃ R, setP ns ms vs es = R := ⟨_, rfl⟩
  have hnone : Hid (vsF ns vs (-1) 0 = none → R = none) := Lib.hid fun h => by rw [← hR]; unfold setP; rw [h]
  have hsome : Hid (∀ s, vsF ns vs (-1) 0 = some s → R = match esF ms es (-1) 0 with | none => none | some c => if minus s c = 0 then some s else none) := Lib.hid fun s h => by
    rw [← hR]
    unfold setP
    rw [h]
    rfl
  obtain ⟨R1, hR1⟩ : ∃ R, vsF ns vs (-1) 0 = R := ⟨_, rfl⟩
  rw [hR]
  have hR1b : Hid (vsF ns (vs.drop 0) (-1) 0 = R1) := hR1
  rw [hR1] at hnone hsome
  obtain ⟨an, cn, ae2, ce2, hgb, hnc, hmc⟩ := hG1.out.cells
  have x0 := hgb.cell 0 rfl
  have x1 := hgb.cell 1 rfl
  have y0 := hqB.cell 0 rfl
  have y1 := hqB.cell 1 rfl
  have hix := Lib.hid (fun x => index_any (w.alloc (.cells #[.slice av vs.length cv, .slice ae es.length ce, .int .i64 p] 45)) an cn ns x (by omega) hnc)
  replace hmc := Lib.hid hmc
  clear hv he hvc hec hbl hst hG hqB hR hR1 hgb hnc hG1
  go_enter Try.func39, Try.ntmps39
  go_wp2
  generalize w.alloc (.cells #[.slice av vs.length cv, .slice ae es.length ce, .int .i64 p] 45) = w1 at *
  go_loop [6, 7, 17] (fun la s i => ∃ (k : Nat) (l : Int) (u : Nat), k ≤ vs.length ∧ i = .int .i64 (k : Int) ∧ la = .int .i64 l ∧ s = .int .u16 (u : Int) ∧ -1 ≤ l ∧ u < 65536 ∧ Hid (vsF ns (vs.drop k) l u = R1)) (fun _ _ i => vs.length - (intOf i).toNat)
  case atStart => exact ⟨0, -1, 0, by omega, rfl, rfl, rfl, by omega, by omega, hR1b⟩
  case round =>
    clear hR1b
    obtain ⟨k, l, u, hk, rfl, rfl, rfl, hl, hu, hvs⟩ := hrel
    by_cases hlt : k < vs.length
    · have hki : (k : Int) < (vs.length : Int) := by omega
      have hk1 := Lib.hid (show k + 1 ≤ vs.length from hlt)
      obtain ⟨b, off, rfl, hc⟩ := hvc1.out k hlt
      have hdr : vs.drop k = vs[k] :: vs.drop (k + 1) := List.drop_eq_getElem_cons hlt
      rw [hdr, vsF] at hvs
      generalize vs[k] = x at *
      clear hdr hlt
      have hi := Lib.hid (hix.out x)
      have hlt2 := idxI_lt (ns := ns) (x := x)
      generalize idxI ns x = ix at *
      by_cases hle : ix ≤ l
      · have hrn : R = none := hnone.out (by rw [if_pos hle] at hvs; exact hvs.out.symm)
        replace hrn := Lib.hid hrn
        clear hvs hlt2
        go_wp2_with fail
        refine hi.out.mono ?_
        rintro e1 w4 ⟨rfl, rfl⟩
        go_wp2
        go_ret2
        exact ⟨hbl2.out, 0, by rw [hrn.out]; rfl, fun s h => by rw [hrn.out] at h; cases h⟩
      · rw [if_neg hle] at hvs
        obtain ⟨n, rfl, hn⟩ := hlt2 (by omega)
        have hwv := Lib.hid (with_v u n w1 hu (by omega))
        have hu2 : u ||| bit n < 65536 := or_lt hu (bit_lt (by omega))
        rw [Int.toNat_natCast] at hvs
        generalize u ||| bit n = u2 at *
        go_wp2_with fail
        refine hi.out.mono ?_
        rintro e1 w4 ⟨rfl, rfl⟩
        go_wp2_with fail
        refine hwv.out.mono ?_
        rintro e1 w5 ⟨rfl, rfl⟩
        go_wp2
        go_round
        case rel => exact ⟨k + 1, (n : Int), u2, hk1.out, by go_num, rfl, rfl, by omega, hu2, hvs⟩
        case measure => have := hk1.out; simp [intOf]; omega
    · have hki : ¬ (k : Int) < (vs.length : Int) := by omega
      obtain rfl : k = vs.length := by omega
      rw [List.drop_length, vsF] at hvs
      have hs2 := hsome.out u hvs.out.symm
      obtain ⟨R2, hR2⟩ : ∃ R, esF ms es (-1) 0 = R := ⟨_, rfl⟩
      rw [hR2] at hs2
      have hR2b : Hid (esF ms (es.drop 0) (-1) 0 = R2) := hR2
      replace hs2 := Lib.hid hs2
      clear hR2 hvs hnone hsome
      go_wp2
      go_loop [6, 11, 38] (fun la c i => ∃ (k : Nat) (l : Int) (v : Nat), k ≤ es.length ∧ i = .int .i64 (k : Int) ∧ la = .int .i64 l ∧ c = .int .u16 (v : Int) ∧ -1 ≤ l ∧ v < 65536 ∧ Hid (esF ms (es.drop k) l v = R2)) (fun _ _ i => es.length - (intOf i).toNat)
      case atStart => exact ⟨0, -1, 0, by omega, rfl, rfl, rfl, by omega, by omega, hR2b⟩
      case round =>
        clear hR2b
        obtain ⟨k, l2, v, hk2, rfl, rfl, rfl, hl2, hv2, hes⟩ := hrel
        by_cases hlt : k < es.length
        · have hki : (k : Int) < (es.length : Int) := by omega
          have hk1 := Lib.hid (show k + 1 ≤ es.length from hlt)
          obtain ⟨b, off, rfl, hc⟩ := hec1.out k hlt
          have hdr : es.drop k = es[k] :: es.drop (k + 1) := List.drop_eq_getElem_cons hlt
          rw [hdr, esF] at hes
          generalize es[k] = x at *
          clear hdr hlt
          by_cases hle : x ≤ l2
          · have hrn : R = none := by rw [if_pos (.inl hle)] at hes; rw [hs2.out, ← hes.out]
            replace hrn := Lib.hid hrn
            clear hes
            go_wp2
            go_ret2
            exact ⟨hbl2.out, 0, by rw [hrn.out]; rfl, fun s h => by rw [hrn.out] at h; cases h⟩
          · by_cases hge : (ms.length : Int) ≤ x
            · have hrn : R = none := by rw [if_pos (.inr hge)] at hes; rw [hs2.out, ← hes.out]
              replace hrn := Lib.hid hrn
              clear hes
              go_wp2
              go_ret2
              exact ⟨hbl2.out, 0, by rw [hrn.out]; rfl, fun s h => by rw [hrn.out] at h; cases h⟩
            · rw [if_neg (fun h => h.elim hle hge)] at hes
              obtain ⟨n, rfl⟩ := Int.eq_ofNat_of_zero_le (show 0 ≤ x by omega)
              have hnm : n < ms.length := by omega
              obtain ⟨b2, off2, rfl, -, hc2⟩ := hmc.out n hnm
              rw [Int.toNat_natCast, List.getD_eq_getElem?_getD, List.getElem?_eq_getElem hnm, Option.getD_some] at hes
              have hme := hE.out _ (List.getElem_mem hnm)
              have hor : Go.bits .or .u16 (v : Int) ((ms[n] : Nat) : Int) = ((v ||| ms[n] : Nat) : Int) := u16_or_nat _ _ hv2 hme
              have hv3 : v ||| ms[n] < 65536 := or_lt hv2 hme
              generalize v ||| ms[n] = v3 at *
              generalize ms[n] = e at *
              go_wp2
              go_round
              case rel => exact ⟨k + 1, (n : Int), v3, hk1.out, by go_num, rfl, rfl, by omega, hv3, hes⟩
              case measure => have := hk1.out; simp [intOf]; omega
        · have hki : ¬ (k : Int) < (es.length : Int) := by omega
          obtain rfl : k = es.length := by omega
          rw [List.drop_length, esF] at hes
          have hs3 := hs2.out
          rw [← hes.out] at hs3
          have hmi : Go.bits .andNot .u16 (u : Int) (v : Int) = ((minus u v : Nat) : Int) := u16_andNot_nat _ _ hu hv2
          by_cases h0 : minus u v = 0
          · have h0i : (((minus u v : Nat) : Int) == 0) = true := by rw [h0]; rfl
            have hs4 : R = some u := by rw [hs3]; exact if_pos h0
            replace hs4 := Lib.hid hs4
            replace h0 := Lib.hid h0
            clear hs3 hs2 hes
            generalize minus u v = m at *
            go_wp2
            go_ret2
            exact ⟨hbl2.out, u, by rw [hs4.out]; rfl, fun s h => by rw [hs4.out] at h; cases h; exact ⟨rfl, hu⟩⟩
          · have h0i : (((minus u v : Nat) : Int) == 0) = false := beq_eq_false_iff_ne.2 (by omega)
            have hs4 : R = none := by rw [hs3]; exact if_neg h0
            replace hs4 := Lib.hid hs4
            replace h0 := Lib.hid h0
            clear hs3 hs2 hes
            generalize minus u v = m at *
            go_wp2
            go_ret2
            exact ⟨hbl2.out, u, by rw [hs4.out]; rfl, fun s h => by rw [hs4.out] at h; cases h⟩
end Go.Proofs.Ytnocncmjdhlmkaa.hyp
