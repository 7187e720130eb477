/- The contract of least, walked. -/
import Derived.Test.YtnocncmjdhlmkaaHLeast
import Derived.Deep.RegionHeld
namespace Go.Proofs.Ytnocncmjdhlmkaa.hyp
open Go.ChangeShapes Go.WideShapes Go.ChangeAt Go.RowKit kit
set_option linter.unusedVariables false
set_option linter.unusedSimpArgs false
theorem rot_at (l : List Nat) (k i : Nat) (h : i < l.length) : (rot l k)[i]? = some (l.getD ((i + k) % l.length) 0) := by
  unfold rot
  rw [List.getElem?_map, List.getElem?_range h]
  rfl
theorem rot_length (l : List Nat) (k : Nat) : (rot l k).length = l.length := by unfold rot; simp
/-- The best of the first k. -/
def BF (ms : List Nat) (turn out k : Nat) : Nat × Nat := bestF (costN ms turn out) ((rot (bits out) turn).take k) (9, 0)
/-- The k-th that is tried. -/
def vAt (turn out k : Nat) : Nat := (bits out).getD ((k + turn) % (bits out).length) 0
theorem BF_zero (ms : List Nat) (turn out : Nat) : BF ms turn out 0 = (9, 0) := rfl
theorem rot_take {turn out k : Nat} (h : k < (bits out).length) : (rot (bits out) turn).take (k + 1) = (rot (bits out) turn).take k ++ [vAt turn out k] := by
  have h1 := rot_at (bits out) turn k h
  obtain ⟨h2, h3⟩ := List.getElem?_eq_some_iff.1 h1
  rw [List.take_succ_eq_append_getElem h2, h3]
  rfl
theorem BF_succ {ms : List Nat} {turn out k : Nat} (h : k < (bits out).length) : BF ms turn out (k + 1) = if costN ms turn out (vAt turn out k) < (BF ms turn out k).1 then (costN ms turn out (vAt turn out k), vAt turn out k) else BF ms turn out k := by
  unfold BF
  rw [rot_take h, bestF_snoc]
theorem vAt_in {turn out k : Nat} (ho : out < 65536) (h : k < (bits out).length) : out.testBit (vAt turn out k) = true := by
  have h2 : (k + turn) % (bits out).length < (bits out).length := Nat.mod_lt _ (by omega)
  unfold vAt
  rw [List.getD_eq_getElem?_getD, List.getElem?_eq_getElem h2]
  exact (mem_bits ho).1 (List.getElem_mem h2)
theorem BF_all {ms : List Nat} {turn out : Nat} (ho : out < 65536) (h0 : out ≠ 0) : BF ms turn out (bits out).length = widF ms turn out out := by
  unfold BF
  rw [List.take_of_length_le (by rw [rot_length]; exact Nat.le_refl _), widF_eq ms turn ho h0]
/-- In the loop: so many have been tried. -/
structure LL (w wr : World) (wb gb mb kb lb turn : Nat) (ns : List ByteArray) (ms : List Nat) (fw fl : Int → Option Int) (out k : Nat) (fw1 fl1 : Int → Option Int) : Prop where
  wm : WM wr wb gb mb kb lb turn ns ms fw1 fl1
  keep : Keep [mb, kb, lb] w wr
  wi : WI ms turn fw1 fl1
  more : More fw fw1
  above : ∀ x : Nat, out < x → x < 65536 → fl1 (x : Int) = fl (x : Int) ∧ fw1 (x : Int) = fw (x : Int)
  none : fw1 (out : Int) = Option.none
  last : 0 < k → fl1 (out : Int) = some (((BF ms turn out k).2 : Nat) : Int)
  kids : ∀ v ∈ (rot (bits out) turn).take k, minus out (bit v) ≠ 0 → (fw1 ((minus out (bit v) : Nat) : Int)).isSome = true
theorem LL.below {w w1 w2 : World} {wb gb mb kb lb turn : Nat} {ns : List ByteArray} {ms : List Nat} {fw fl fw1 fl1 : Int → Option Int} {out k : Nat} (h : LL w w1 wb gb mb kb lb turn ns ms fw fl out k fw1 fl1) (hb : Below w1.heap.size w1 w2) : LL w w2 wb gb mb kb lb turn ns ms fw fl out k fw1 fl1 :=
  ⟨h.wm.below hb, h.keep.trans ((Keep.ofBelow hb).mono (m' := [mb, kb, lb]) (by simp)) (fun x hx _ => hx), h.wi, h.more, h.above, h.none, h.last, h.kids⟩
section
variable {w w1 w2 : World} {wb gb mb kb lb turn : Nat} {ns : List ByteArray} {ms : List Nat} {fw fl fw1 fl1 fw2 fl2 : Int → Option Int} {out k : Nat}
theorem LL.cover (h : LL w w1 wb gb mb kb lb turn ns ms fw fl out k fw1 fl1) (hg : GM w2 gb mb ns ms) (hk : Keep [mb] w1 w2) : LL w w2 wb gb mb kb lb turn ns ms fw fl out k fw1 fl1 :=
  ⟨h.wm.cover hg hk, h.keep.trans (hk.mono (m' := [mb, kb, lb]) (fun x hx _ => by simp at hx; simp [hx])) (fun x hx _ => hx), h.wi, h.more, h.above, h.none, h.last, h.kids⟩
theorem LL.least {r : Nat} (h : LL w w1 wb gb mb kb lb turn ns ms fw fl out k fw1 fl1) (hr : r < out) (ho : out < 65536) (k2 : LA w1 w2 wb gb mb kb lb turn ns ms fw1 fl1 r fw2 fl2) : LL w w2 wb gb mb kb lb turn ns ms fw fl out k fw2 fl2 :=
  ⟨k2.wm, h.keep.trans k2.keep (fun x hx _ => hx), k2.wi, h.more.trans k2.more, fun x hx hx2 => ⟨(k2.above x (by omega) hx2).1.trans (h.above x hx hx2).1, (k2.above x (by omega) hx2).2.trans (h.above x hx hx2).2⟩,
    (k2.above out hr ho).2.trans h.none, fun h0 => (k2.above out hr ho).1.trans (h.last h0), fun v hv h0 => k2.more _ (h.kids v hv h0)⟩
theorem LL.no (h : LL w w1 wb gb mb kb lb turn ns ms fw fl out k fw1 fl1) (hk : k < (bits out).length) (hc : costN ms turn out (vAt turn out k) ≤ 8) (hn : ¬ costN ms turn out (vAt turn out k) < (BF ms turn out k).1)
    (hs : minus out (bit (vAt turn out k)) ≠ 0 → (fw1 ((minus out (bit (vAt turn out k)) : Nat) : Int)).isSome = true) : LL w w1 wb gb mb kb lb turn ns ms fw fl out (k + 1) fw1 fl1 := by
  refine ⟨h.wm, h.keep, h.wi, h.more, h.above, h.none, fun _ => ?_, fun v hv h0 => ?_⟩
  · have hk0 : 0 < k := by
      apply Nat.pos_of_ne_zero
      rintro rfl
      rw [BF_zero] at hn
      simp only at hn
      omega
    rw [BF_succ hk, if_neg hn]
    exact h.last hk0
  · rw [rot_take hk, List.mem_append, List.mem_singleton] at hv
    rcases hv with hv | rfl
    · exact h.kids v hv h0
    · exact hs h0
theorem LL.yes (h : LL w w1 wb gb mb kb lb turn ns ms fw fl out k fw1 fl1) (ho : out < 65536) (hk : k < (bits out).length) (hn : costN ms turn out (vAt turn out k) < (BF ms turn out k).1)
    (hs : minus out (bit (vAt turn out k)) ≠ 0 → (fw1 ((minus out (bit (vAt turn out k)) : Nat) : Int)).isSome = true)
    (hm : MapI Try.prog 57 64 .u16 .i64 w2 lb 65537 (upd fl1 (out : Int) ((vAt turn out k : Nat) : Int))) (hg : w1.grownBy w2 (some lb)) : LL w w2 wb gb mb kb lb turn ns ms fw fl out (k + 1) fw1 (upd fl1 (out : Int) ((vAt turn out k : Nat) : Int)) := by
  have hkp : Keep [lb] w1 w2 := (Keep.refl [lb] w1).grown hg (fun k hk _ => by cases hk; simp)
  have hst : CellsStay w1 w2 := stay_of_keep hkp fun x hx => h.wm.maps x (by simp at hx; simp [hx])
  refine ⟨⟨hst.blk h.wm.blk, h.wm.g.stay hst hkp.size (h.wm.g.known.same (hkp.block _ h.wm.g.known.lt (by simp [h.wm.n2]))), h.wm.mw.same (hkp.block _ h.wm.mw.lt (by simp [h.wm.n3])), hm.norm Try.underlying57, h.wm.n1, h.wm.n2, h.wm.n3⟩,
    h.keep.trans (hkp.mono (m' := [mb, kb, lb]) (fun x hx _ => by simp at hx; simp [hx])) (fun x hx _ => hx), fun x v hx hv => ?_, h.more, fun x hx hx2 => ⟨?_, (h.above x hx hx2).2⟩, h.none, fun _ => ?_, fun v hv h0 => ?_⟩
  · obtain ⟨h1, h2, h3⟩ := h.wi x v hx hv
    refine ⟨h1, ?_, h3⟩
    rw [upd_other _ _ (fun e => by rw [e, h.none] at hv; cases hv)]
    exact h2
  · rw [upd_other _ _ (by omega)]
    exact (h.above x hx hx2).1
  · rw [upd_same, BF_succ hk, if_pos hn]
  · rw [rot_take hk, List.mem_append, List.mem_singleton] at hv
    rcases hv with hv | rfl
    · exact h.kids v hv h0
    · exact hs h0
end
theorem upd_isSome {f : Int → Option Int} {k v x : Int} (h : (f x).isSome = true) : (upd f k v x).isSome = true := by
  unfold upd
  split
  · rfl
  · exact h
def Out (ms : List Nat) (turn : Nat) (ns : List ByteArray) (w : World) (wb gb mb kb lb : Nat) (fw fl : Int → Option Int) (out : Nat) (e : Ending) (w' : World) : Prop :=
  e = .returned (.int .i64 ((widN ms turn out : Nat) : Int)) ∧ ∃ fw' fl', LA w w' wb gb mb kb lb turn ns ms fw fl out fw' fl' ∧ (out ≠ 0 → (fw' (out : Int)).isSome = true)
theorem LL.done {w w1 w2 : World} {wb gb mb kb lb turn : Nat} {ns : List ByteArray} {ms : List Nat} {fw fl fw1 fl1 : Int → Option Int} {out : Nat} (h : LL w w1 wb gb mb kb lb turn ns ms fw fl out (bits out).length fw1 fl1) (ho : out < 65536) (h0 : out ≠ 0)
    (hm : MapI Try.prog 57 3 .u16 .i64 w2 kb 65537 (upd fw1 (out : Int) (((BF ms turn out (bits out).length).1 : Nat) : Int))) (hg : w1.grownBy w2 (some kb)) :
    Out ms turn ns w wb gb mb kb lb fw fl out (.returned (.int .i64 (((BF ms turn out (bits out).length).1 : Nat) : Int))) w2 := by
  have hB := BF_all (ms := ms) (turn := turn) ho h0
  have hw : (BF ms turn out (bits out).length).1 = widN ms turn out := by rw [hB]; rfl
  have hl : (BF ms turn out (bits out).length).2 = lastN ms turn out := by rw [hB]; rfl
  have hb0 : 0 < (bits out).length := List.length_pos_iff.2 fun e => h0 ((bits_nil ho).1 e)
  have hkp : Keep [kb] w1 w2 := (Keep.refl [kb] w1).grown hg (fun k hk _ => by cases hk; simp)
  have hst : CellsStay w1 w2 := stay_of_keep hkp fun x hx => h.wm.maps x (by simp at hx; simp [hx])
  have hself : (upd fw1 (out : Int) (((BF ms turn out (bits out).length).1 : Nat) : Int) (out : Int)).isSome = true := by rw [upd_same]; rfl
  refine ⟨by rw [hw], _, _, ⟨⟨hst.blk h.wm.blk, h.wm.g.stay hst hkp.size (h.wm.g.known.same (hkp.block _ h.wm.g.known.lt (by simp [h.wm.n1]))), hm.norm Try.underlying57, h.wm.ml.same (hkp.block _ h.wm.ml.lt (by simp [h.wm.n3.symm])), h.wm.n1, h.wm.n2, h.wm.n3⟩,
    h.keep.trans (hkp.mono (m' := [mb, kb, lb]) (fun x hx _ => by simp at hx; simp [hx])) (fun x hx _ => hx), fun x v hx hv => ?_, fun x hx => upd_isSome (h.more x hx), fun x hx hx2 => ⟨(h.above x hx hx2).1, ?_⟩⟩, fun _ => hself⟩
  · by_cases hxo : x = out
    · subst hxo
      rw [upd_same] at hv
      refine ⟨by rw [← Option.some.inj hv, hw], by rw [h.last hb0, hl], fun u hu hne => upd_isSome (h.kids u ?_ hne)⟩
      rw [List.take_of_length_le (by rw [rot_length]; exact Nat.le_refl _), mem_rot, mem_bits hx]
      exact hu
    · rw [upd_other _ _ (by omega)] at hv
      obtain ⟨h1, h2, h3⟩ := h.wi x v hx hv
      exact ⟨h1, h2, fun u hu hne => upd_isSome (h3 u hu hne)⟩
  · rw [upd_other _ _ (by omega)]
    exact (h.above x hx hx2).2
set_option maxRecDepth 100000 in
set_option maxHeartbeats 8000000 in
theorem least_any (wb gb mb kb lb turn : Nat) (ns : List ByteArray) (ms : List Nat) (ht : turn < 12) : ∀ (n out : Nat), out ≤ n → out < 65536 → ∀ (w : World) (fw fl : Int → Option Int), WM w wb gb mb kb lb turn ns ms fw fl → WI ms turn fw fl →
    Calls Try.prog 29 #[.pointer (some ⟨wb, 0, none⟩), .int .u16 out] w fun e w' => Out ms turn ns w wb gb mb kb lb fw fl out e w' := by
  intro n
  induction n with
  | zero =>
    intro out hon ho w fw fl hW hI
    obtain rfl : out = 0 := by omega
    have hpost : Out ms turn ns w wb gb mb kb lb fw fl 0 (.returned (.int .i64 0)) w := ⟨rfl, fw, fl, ⟨hW, Keep.refl _ _, hI, More.refl _, fun _ _ _ => ⟨rfl, rfl⟩⟩, fun h => absurd rfl h⟩
    replace hpost := Lib.hid hpost
    clear hW hI
    go_enter Try.func29, Try.ntmps29
    go_wp2
    go_ret
    exact hpost.out
  | succ n ih =>
    intro out hon ho w fw fl hW hI
    by_cases h0 : out = 0
    · subst h0
      exact ih 0 (Nat.zero_le _) ho w fw fl hW hI
    have h0i : ((out : Int) == 0) = false := beq_eq_false_iff_ne.2 (by omega)
    have z0 := hW.blk.cell 0 rfl
    have z1 := hW.blk.cell 1 rfl
    have z2 := hW.blk.cell 2 rfl
    have z3 := hW.blk.cell 3 rfl
    have hwo := wf16 ho
    cases hfo : fw (out : Int) with
    | some v =>
      obtain ⟨rfl, -, -⟩ := hI out v ho hfo
      have hpost : Out ms turn ns w wb gb mb kb lb fw fl out (.returned (.int .i64 ((widN ms turn out : Nat) : Int))) w := ⟨rfl, fw, fl, ⟨hW, Keep.refl _ _, hI, More.refl _, fun _ _ _ => ⟨rfl, rfl⟩⟩, fun _ => by rw [hfo]; rfl⟩
      replace hpost := Lib.hid hpost
      have hmw := Lib.hid hW.mw
      replace hfo := Lib.hid hfo
      clear hW hI ih
      generalize widN ms turn out = c at *
      go_enter Try.func29, Try.ntmps29
      go_wp2_with (at_lookup; refine wpList_mapI_ok imW _ rfl _ _ rfl kb 65536 fw rfl hmw.out (out : Int) rfl hwo _ hfo.out ?_)
      go_ret
      exact hpost.out
    | none =>
      have hli := Lib.hid (list_v out w ho)
      have hmw := Lib.hid hW.mw
      have hLL : LL w w wb gb mb kb lb turn ns ms fw fl out 0 fw fl := ⟨hW, Keep.refl _ _, hI, More.refl _, fun _ _ _ => ⟨rfl, rfl⟩, hfo, fun h => by omega, fun v hv => by simp at hv⟩
      replace hLL := Lib.hid hLL
      replace hfo := Lib.hid hfo
      replace ih := Lib.hid ih
      clear hW hI
      go_enter Try.func29, Try.ntmps29
      go_wp2_with (at_lookup; refine wpList_mapI_ok imW _ rfl _ _ rfl kb 65536 fw rfl hmw.out (out : Int) rfl hwo _ hfo.out ?_)
      refine hli.out.mono ?_
      rintro e w1 ⟨v, rfl, hv⟩
      obtain ⟨ao, cap, rfl, -, hrow⟩ := hv.row.form
      rw [natsV_length]
      have hLL1 := Lib.hid (hLL.out.below hv.below)
      replace hrow := Lib.hid hrow
      have hbl := bits_le out
      have hb0 : 0 < (bits out).length := List.length_pos_iff.2 fun e => h0 ((bits_nil ho).1 e)
      clear hv hli hLL z0 z1 z2 z3 hmw
      go_wp2
      go_loopw [7, 30] (fun b i wr => ∃ k : Nat, k ≤ (bits out).length ∧ i = .int .i64 (k : Int) ∧ b = .int .i64 (((BF ms turn out k).1 : Nat) : Int) ∧ Hid (∃ fw1 fl1, LL w wr wb gb mb kb lb turn ns ms fw fl out k fw1 fl1) ∧ Hid (CellsStay w1 wr)) (fun _ i _ => (bits out).length - (intOf i).toNat)
      case atStart => exact ⟨0, by omega, rfl, rfl, Lib.hid ⟨_, _, hLL1.out⟩, Lib.hid (CellsStay.refl _)⟩
      case round =>
        obtain ⟨k, hk, rfl, rfl, hex, hst⟩ := hrel
        obtain ⟨fw1, fl1, hL⟩ := hex.out
        have z0 := hL.wm.blk.cell 0 rfl
        have z1 := hL.wm.blk.cell 1 rfl
        have z2 := hL.wm.blk.cell 2 rfl
        have z3 := hL.wm.blk.cell 3 rfl
        clear hex
        by_cases hlt : k < (bits out).length
        · have hki : (k : Int) < ((bits out).length : Int) := by omega
          have hj : (k + turn) % (bits out).length < (bits out).length := Nat.mod_lt _ hb0
          obtain ⟨b, off, rfl, -, hc⟩ := hrow.out _ (by rw [natsV_length]; exact hj)
          have hcv : wr.cell? ⟨b, off + (k + turn) % (bits out).length, none⟩ = some (.int .i64 ((vAt turn out k : Nat) : Int)) := by
            rw [hst.out.cell hc]
            unfold vAt natsV
            rw [List.getElem_map, List.getD_eq_getElem?_getD, List.getElem?_eq_getElem hj]
            rfl
          have hvin := vAt_in (turn := turn) ho hlt
          have hv16 := lt16 ho hvin
          have hBF := BF_succ (ms := ms) (turn := turn) hlt
          have hrt := rot_take (turn := turn) hlt
          have hcost := cost_le (k := turn) hL.wm.g.hlen ho hvin
          have hcd : costN ms turn out (vAt turn out k) = max (widN ms turn (minus out (bit (vAt turn out k)))) (pop (coverN ms (bagN ms (minus out (bit (vAt turn out k))) (vAt turn out k)))) := rfl
          have hwo2 := Lib.hid (without_v out (vAt turn out k) wr ho hv16)
          have hrl := minus_bit_lt ho hvin
          have hrv : (minus out (bit (vAt turn out k))).testBit (vAt turn out k) = false := by rw [testBit_minus ho (bit_lt hv16), testBit_bit]; simp
          have hr16 := minus_lt out (bit (vAt turn out k)) ho
          have hbg := fun (V : World) (h : GM V gb mb ns ms) => bag_any V gb mb ns ms h (vAt turn out k) (minus out (bit (vAt turn out k))) hv16 hr16 hrv
          have hbl16 := bagN_lt (out := minus out (bit (vAt turn out k))) hL.wm.g.hE hv16
          have hcv2 := fun (V : World) (h : GM V gb mb ns ms) => cover_any V gb mb ns ms h _ hbl16
          have hcl := coverN_lt ms (bagN ms (minus out (bit (vAt turn out k))) (vAt turn out k))
          have hc256 := pow_le8 hL.wm.g.hlen
          have hcn := fun (V : World) => count_e _ V (show coverN ms (bagN ms (minus out (bit (vAt turn out k))) (vAt turn out k)) < 256 by omega)
          have hle := fun (V : World) (a b) (h : WM V wb gb mb kb lb turn ns ms a b) (h2 : WI ms turn a b) => ih.out (minus out (bit (vAt turn out k))) (by omega) hr16 V a b h h2
          have hno := fun (w1 : World) (a b : Int → Option Int) (h : LL w w1 wb gb mb kb lb turn ns ms fw fl out k a b) => LL.no h hlt hcost
          have hyes := fun (w1 w2 : World) (a b : Int → Option Int) (h : LL w w1 wb gb mb kb lb turn ns ms fw fl out k a b) => LL.yes (w2 := w2) h ho hlt
          have hla := fun (w1 w2 : World) (a b c d : Int → Option Int) (h : LL w w1 wb gb mb kb lb turn ns ms fw fl out k a b) (k2 : LA w1 w2 wb gb mb kb lb turn ns ms a b (minus out (bit (vAt turn out k))) c d) => LL.least h hrl ho k2
          clear hcl hc256 hvin
          have hBle : (BF ms turn out k).1 ≤ 9 := (bestF_spec (costN ms turn out) ((rot (bits out) turn).take k) (9, 0)).2.1
          generalize hB2 : BF ms turn out (k + 1) = B2 at *
          replace hB2 := Lib.hid hB2
          obtain ⟨Bk, hBk⟩ : ∃ x, BF ms turn out k = x := ⟨_, rfl⟩
          rw [hBk] at hBF hBle
          simp only [hBk] at hno hyes
          rw [hBk]
          generalize vAt turn out k = v at *
          generalize costN ms turn out v = q at *
          generalize minus out (bit v) = r at *
          have hrem : ((k : Int) + (turn : Int)).tmod ((bits out).length : Int) = (((k + turn) % (bits out).length : Nat) : Int) := by
            rw [← Int.natCast_add, ← Int.ofNat_tmod]
          have hjl : (((k + turn) % (bits out).length : Nat) : Int) < ((bits out).length : Int) := by omega
          have hml0 : (((bits out).length : Int) == 0) = false := beq_eq_false_iff_ne.2 (by omega)
          generalize (k + turn) % (bits out).length = j at *
          have hL0 := Lib.hid hL
          have hkm : k + 1 ≤ (bits out).length := hlt
          clear hc hrt hL
          replace hle := Lib.hid hle
          replace hbg := Lib.hid hbg
          replace hcv2 := Lib.hid hcv2
          replace hcn := Lib.hid hcn
          replace hno := Lib.hid hno
          replace hyes := Lib.hid hyes
          replace hla := Lib.hid hla
          replace hBF := Lib.hid hBF
          replace hcd := Lib.hid hcd
          replace hBk := Lib.hid hBk
          replace hst := Lib.hid hst.out
          go_wp2_with fail
          refine hwo2.out.mono ?_
          rintro e w2 ⟨rfl, rfl⟩
          go_upto_region 13 with (fail)
          have hS0 : Blk w2.drew wb #[.pointer (some ⟨gb, 0, none⟩), .map (some kb), .map (some lb), .int .i64 ((turn : Nat) : Int)] 83 := hL0.out.wm.blk
          have hL3 := Lib.hid (hL0.out.below (w2 := w2.drew) ⟨rfl, rfl, rfl, Nat.le_refl _, fun _ _ => rfl⟩)
          have hst3 : Hid (CellsStay w1 w2.drew) := hst
          have hmx : (if widN ms turn r < pop (coverN ms (bagN ms r v)) then ((pop (coverN ms (bagN ms r v)) : Nat) : Int) else ((widN ms turn r : Nat) : Int)) = (q : Int) := by rw [hcd.out]; split <;> omega
          generalize hcc : coverN ms (bagN ms r v) = cc at *
          generalize hpp : pop cc = pp at *
          replace hmx := Lib.hid hmx
          replace hcc := Lib.hid hcc
          replace hpp := Lib.hid hpp
          clear hL0 hst hcd z0 z1 z2 z3 hcv hrem hjl hml0 hwo2
          refine wp_region_held_drew (S := fun V => Blk V wb #[.pointer (some ⟨gb, 0, none⟩), .map (some kb), .map (some lb), .int .i64 ((turn : Nat) : Int)] 83) (by kernel_rfl) hS0 (fun hS => ?_)
          clear hS0
          generalize w2.drew = V0 at *
          refine wpAnyH_take (i := 0) (v := ?_) rfl (by kernel_rfl) (by kernel_rfl) (by kernel_rfl) (fun _ _ _ h => h) (.inl ⟨by kernel_rfl, fun w' hS => ?_⟩) hS ?_
          rotate_left
          ·
            have z0 := hS.cell 0 rfl
            have z1 := hS.cell 1 rfl
            have z2 := hS.cell 2 rfl
            have z3 := hS.cell 3 rfl
            go_simp
            try with_reducible rfl
          simp only [List.getElem_toArray, List.getElem_cons_succ, List.getElem_cons_zero, Act.put, List.setIfInBounds_toArray, List.set_cons_zero, List.set_cons_succ]
          refine wpAnyH_take (i := 1) (v := ?_) rfl (by kernel_rfl) (by kernel_rfl) (by kernel_rfl) (fun _ _ _ h => h) (.inl ⟨by kernel_rfl, fun w' hS => ?_⟩) hS ?_
          rotate_left
          ·
            have z0 := hS.cell 0 rfl
            have z1 := hS.cell 1 rfl
            have z2 := hS.cell 2 rfl
            have z3 := hS.cell 3 rfl
            go_simp
            try with_reducible rfl
          simp only [List.getElem_toArray, List.getElem_cons_succ, List.getElem_cons_zero, Act.put, List.setIfInBounds_toArray, List.set_cons_zero, List.set_cons_succ]
          refine wpAnyH_take (i := 3) (v := ?_) rfl (by kernel_rfl) (by kernel_rfl) (by kernel_rfl) (fun _ _ _ h => h) (.inl ⟨by kernel_rfl, fun w' hS => ?_⟩) hS ?_
          rotate_left
          ·
            have z0 := hS.cell 0 rfl
            have z1 := hS.cell 1 rfl
            have z2 := hS.cell 2 rfl
            have z3 := hS.cell 3 rfl
            go_simp
            try with_reducible rfl
          simp only [List.getElem_toArray, List.getElem_cons_succ, List.getElem_cons_zero, Act.put, List.setIfInBounds_toArray, List.set_cons_zero, List.set_cons_succ]
          refine wpAnyH_take (i := 4) (v := ?_) rfl (by kernel_rfl) (by kernel_rfl) (by kernel_rfl) (fun _ _ _ h => h) (.inl ⟨by kernel_rfl, fun w' hS => ?_⟩) hS ?_
          rotate_left
          ·
            have z0 := hS.cell 0 rfl
            have z1 := hS.cell 1 rfl
            have z2 := hS.cell 2 rfl
            have z3 := hS.cell 3 rfl
            go_simp
            try with_reducible rfl
          simp only [List.getElem_toArray, List.getElem_cons_succ, List.getElem_cons_zero, Act.put, List.setIfInBounds_toArray, List.set_cons_zero, List.set_cons_succ]
          refine wpAnyH_take (i := 5) (v := ?_) rfl (by kernel_rfl) (by kernel_rfl) (by kernel_rfl) (fun _ _ _ h => h) (.inl ⟨by kernel_rfl, fun w' hS => ?_⟩) hS ?_
          rotate_left
          ·
            have z0 := hS.cell 0 rfl
            have z1 := hS.cell 1 rfl
            have z2 := hS.cell 2 rfl
            have z3 := hS.cell 3 rfl
            go_simp
            try with_reducible rfl
          simp only [List.getElem_toArray, List.getElem_cons_succ, List.getElem_cons_zero, Act.put, List.setIfInBounds_toArray, List.set_cons_zero, List.set_cons_succ]
          refine wpAnyH_take (i := 6) (v := ?_) rfl (by kernel_rfl) (by kernel_rfl) (by kernel_rfl) (fun _ _ _ h => h) (.inl ⟨by kernel_rfl, fun w' hS => ?_⟩) hS ?_
          rotate_left
          ·
            have z0 := hS.cell 0 rfl
            have z1 := hS.cell 1 rfl
            have z2 := hS.cell 2 rfl
            have z3 := hS.cell 3 rfl
            go_simp
            try with_reducible rfl
          simp only [List.getElem_toArray, List.getElem_cons_succ, List.getElem_cons_zero, Act.put, List.setIfInBounds_toArray, List.set_cons_zero, List.set_cons_succ]
          refine wpAnyH_take (i := 7) (v := ?_) rfl (by kernel_rfl) (by kernel_rfl) (by kernel_rfl) (fun _ _ _ h => h) (.inl ⟨by kernel_rfl, fun w' hS => ?_⟩) hS ?_
          rotate_left
          ·
            have z0 := hS.cell 0 rfl
            have z1 := hS.cell 1 rfl
            have z2 := hS.cell 2 rfl
            have z3 := hS.cell 3 rfl
            go_simp
            try with_reducible rfl
          simp only [List.getElem_toArray, List.getElem_cons_succ, List.getElem_cons_zero, Act.put, List.setIfInBounds_toArray, List.set_cons_zero, List.set_cons_succ]
          refine wpAnyH_take (i := 8) (v := ?_) rfl (by kernel_rfl) (by kernel_rfl) (by kernel_rfl) (fun _ _ _ h => h) (.inl ⟨by kernel_rfl, fun w' hS => ?_⟩) hS ?_
          rotate_left
          ·
            have z0 := hS.cell 0 rfl
            have z1 := hS.cell 1 rfl
            have z2 := hS.cell 2 rfl
            have z3 := hS.cell 3 rfl
            go_simp
            try with_reducible rfl
          simp only [List.getElem_toArray, List.getElem_cons_succ, List.getElem_cons_zero, Act.put, List.setIfInBounds_toArray, List.set_cons_zero, List.set_cons_succ]
          refine wpAnyH_take (i := 9) (v := ?_) rfl (by kernel_rfl) (by kernel_rfl) (by kernel_rfl) (fun _ _ _ h => h) (.inl ⟨by kernel_rfl, fun w' hS => ?_⟩) hS ?_
          rotate_left
          ·
            have z0 := hS.cell 0 rfl
            have z1 := hS.cell 1 rfl
            have z2 := hS.cell 2 rfl
            have z3 := hS.cell 3 rfl
            go_simp
            try with_reducible rfl
          simp only [List.getElem_toArray, List.getElem_cons_succ, List.getElem_cons_zero, Act.put, List.setIfInBounds_toArray, List.set_cons_zero, List.set_cons_succ]
          refine wpAnyH_take (i := 10) (v := ?_) rfl (by kernel_rfl) (by kernel_rfl) (by kernel_rfl) (fun _ _ _ h => h) (.inl ⟨by kernel_rfl, fun w' hS => ?_⟩) hS ?_
          rotate_left
          ·
            have z0 := hS.cell 0 rfl
            have z1 := hS.cell 1 rfl
            have z2 := hS.cell 2 rfl
            have z3 := hS.cell 3 rfl
            go_simp
            try with_reducible rfl
          simp only [List.getElem_toArray, List.getElem_cons_succ, List.getElem_cons_zero, Act.put, List.setIfInBounds_toArray, List.set_cons_zero, List.set_cons_succ]
          refine wpAnyH_take (i := 11) (v := ?_) rfl (by kernel_rfl) (by kernel_rfl) (by kernel_rfl) (fun _ _ _ h => h) (.inl ⟨by kernel_rfl, fun w' hS => ?_⟩) hS ?_
          rotate_left
          ·
            have z0 := hS.cell 0 rfl
            have z1 := hS.cell 1 rfl
            have z2 := hS.cell 2 rfl
            have z3 := hS.cell 3 rfl
            go_simp
            try with_reducible rfl
          simp only [List.getElem_toArray, List.getElem_cons_succ, List.getElem_cons_zero, Act.put, List.setIfInBounds_toArray, List.set_cons_zero, List.set_cons_succ]
          refine wpAnyH_take (i := 12) (v := ?_) rfl (by kernel_rfl) (by kernel_rfl) (by kernel_rfl) (fun _ _ _ h => h) (.inl ⟨by kernel_rfl, fun w' hS => ?_⟩) hS ?_
          rotate_left
          ·
            have z0 := hS.cell 0 rfl
            have z1 := hS.cell 1 rfl
            have z2 := hS.cell 2 rfl
            have z3 := hS.cell 3 rfl
            go_simp
            try with_reducible rfl
          simp only [List.getElem_toArray, List.getElem_cons_succ, List.getElem_cons_zero, Act.put, List.setIfInBounds_toArray, List.set_cons_zero, List.set_cons_succ]
          refine wpAnyH_ready (rs := [2]) (by kernel_rfl) (by simp) ?_
          refine AllReadyH.cons rfl (fun K hK => ?_) AllReadyH.nil
          clear hS
          go_simp
          refine (hle.out V0 fw1 fl1 hL3.out.wm hL3.out.wi).mono ?_
          rintro e V1 ⟨rfl, fw2, fl2, hA, hs⟩
          go_wp2_with fail
          refine hK.out _ _ (hA.wm.blk) (fun hS => ?_)
          clear hK K
          try simp only [List.getElem_toArray, List.getElem_cons_succ, List.getElem_cons_zero, Act.put, List.setIfInBounds_toArray, List.set_cons_zero, List.set_cons_succ]
          have hL4 := Lib.hid (hla.out V0 V1 fw1 fl1 fw2 fl2 hL3.out hA)
          have hst4 := Lib.hid (hst3.out.trans (stay_of_keep hA.keep hL3.out.wm.maps))
          replace hs := Lib.hid hs
          clear hA hL3 hst3
          refine wpAnyH_ready (rs := [13]) (by kernel_rfl) (by simp) ?_
          refine AllReadyH.cons rfl (fun K hK => ?_) AllReadyH.nil
          clear hS
          go_simp
          refine (hbg.out V1 hL4.out.wm.g).mono ?_
          rintro e V2 ⟨rfl, rfl⟩
          go_wp2_with fail
          refine hK.out _ _ (hL4.out.wm.blk) (fun hS => ?_)
          clear hK K
          try simp only [List.getElem_toArray, List.getElem_cons_succ, List.getElem_cons_zero, Act.put, List.setIfInBounds_toArray, List.set_cons_zero, List.set_cons_succ]
          refine wpAnyH_ready (rs := [14]) (by kernel_rfl) (by simp) ?_
          refine AllReadyH.cons rfl (fun K hK => ?_) AllReadyH.nil
          clear hS
          go_simp
          refine (hcv2.out V2 hL4.out.wm.g).mono ?_
          rintro e V3 ⟨rfl, hg3, hk3⟩
          go_wp2_with fail
          refine hK.out _ _ ((hL4.out.cover hg3 hk3).wm.blk) (fun hS => ?_)
          clear hK K
          try simp only [List.getElem_toArray, List.getElem_cons_succ, List.getElem_cons_zero, Act.put, List.setIfInBounds_toArray, List.set_cons_zero, List.set_cons_succ]
          have hL5 := Lib.hid (hL4.out.cover hg3 hk3)
          have hst5 := Lib.hid (hst4.out.trans (stay_of_keep hk3 (fun x hx => hL4.out.wm.maps x (by simp at hx; simp [hx]))))
          clear hg3 hk3 hL4 hst4
          refine wpAnyH_ready (rs := [15]) (by kernel_rfl) (by simp) ?_
          refine AllReadyH.cons rfl (fun K hK => ?_) AllReadyH.nil
          clear hS
          go_simp
          refine (hcn.out V3).mono ?_
          rintro e V4 ⟨rfl, hb4⟩
          go_wp2_with fail
          refine hK.out _ _ ((hL5.out.below hb4).wm.blk) (fun hS => ?_)
          clear hK K
          try simp only [List.getElem_toArray, List.getElem_cons_succ, List.getElem_cons_zero, Act.put, List.setIfInBounds_toArray, List.set_cons_zero, List.set_cons_succ]
          have hL6 := Lib.hid (hL5.out.below hb4)
          have hst6 := Lib.hid (hst5.out.trans (stay_of_below hb4))
          clear hb4 hL5 hst5
          refine wpAnyH_take (i := 16) (v := ?_) rfl (by kernel_rfl) (by kernel_rfl) (by kernel_rfl) (fun _ _ _ h => h) (.inl ⟨by kernel_rfl, fun w' hS => ?_⟩) hS ?_
          rotate_left
          ·
            skip
            go_simp
            try with_reducible rfl
          simp only [List.getElem_toArray, List.getElem_cons_succ, List.getElem_cons_zero, Act.put, List.setIfInBounds_toArray, List.set_cons_zero, List.set_cons_succ]
          refine wpAnyH_take (i := 17) (v := ?_) rfl (by kernel_rfl) (by kernel_rfl) (by kernel_rfl) (fun _ _ _ h => h) (.inl ⟨by kernel_rfl, fun w' hS => ?_⟩) hS ?_
          rotate_left
          ·
            skip
            go_simp
            try with_reducible rfl
          simp only [List.getElem_toArray, List.getElem_cons_succ, List.getElem_cons_zero, Act.put, List.setIfInBounds_toArray, List.set_cons_zero, List.set_cons_succ]
          refine wpAnyH_done (by kernel_rfl) ?_ _
          clear hS
          have z0 := hL6.out.wm.blk.cell 0 rfl
          have z1 := hL6.out.wm.blk.cell 1 rfl
          have z2 := hL6.out.wm.blk.cell 2 rfl
          have z3 := hL6.out.wm.blk.cell 3 rfl
          rw [hmx.out]
          have hwv : (Lit.int .i64 (v : Int)).wf = true := WalkArith.wf_i64 (by omega)
          have hmb := Lib.hid hL6.out.wm.ml
          by_cases hq : q < Bk.1
          · have hqi : (q : Int) < (Bk.1 : Int) := by omega
            have hL7 := Lib.hid (hyes.out V4)
            go_wp2_with (at_mapUpdate; refine wpList_mapI_put imL _ rfl _ _ _ rfl lb 65536 fl2 rfl hmb.out (by unfold maxLen; omega) (out : Int) (v : Int) rfl rfl hwo hwv ?_; intro V5 hm5 hg5)
            have hL8 := hL7.out V5 fw2 fl2 hL6.out hq hs.out hm5 hg5
            have hst7 := hst6.out.trans (stay_of_keep ((Keep.refl [lb] V4).grown hg5 (fun k hk _ => by cases hk; simp)) (fun x hx => hL6.out.wm.maps x (by simp at hx; simp [hx])))
            replace hL8 := Lib.hid hL8
            replace hst7 := Lib.hid hst7
            clear hL6 hst6 hm5 hg5 hL7
            go_wp2
            go_roundw
            case rel => exact ⟨k + 1, by omega, by go_num, by rw [hB2.out, hBF.out, if_pos hq], Lib.hid ⟨_, _, hL8.out⟩, hst7⟩
            case measure => simp [intOf]; omega
          · have hqi : ¬ (q : Int) < (Bk.1 : Int) := by omega
            have hL7 := hno.out V4 fw2 fl2 hL6.out hq hs.out
            go_wp2
            go_roundw
            case rel => exact ⟨k + 1, by omega, by go_num, by rw [hB2.out, hBF.out, if_neg hq], Lib.hid ⟨_, _, hL7⟩, hst6⟩
            case measure => simp [intOf]; omega
        · have hki : ¬ (k : Int) < ((bits out).length : Int) := by omega
          obtain rfl : k = (bits out).length := by omega
          have hB9 : (BF ms turn out (bits out).length).1 ≤ 9 := (bestF_spec (costN ms turn out) ((rot (bits out) turn).take (bits out).length) (9, 0)).2.1
          have hend := Lib.hid (fun w2 => hL.done (w2 := w2) ho h0)
          have hmk := Lib.hid hL.wm.mw
          generalize (BF ms turn out (bits out).length).1 = q at *
          have hwq : (Lit.int .i64 (q : Int)).wf = true := WalkArith.wf_i64 (by omega)
          clear hL
          go_wp2_with (at_mapUpdate; refine wpList_mapI_put imW _ rfl _ _ _ rfl kb 65536 fw1 rfl hmk.out (by unfold maxLen; omega) (out : Int) (q : Int) rfl rfl hwo hwq ?_; intro V5 hm5 hg5)
          have hlast := Lib.hid (hend.out V5 hm5 hg5)
          clear hm5 hg5 hend
          go_wp2
          go_ret
          exact hlast.out
end Go.Proofs.Ytnocncmjdhlmkaa.hyp
