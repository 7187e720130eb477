/- All of what is yielded is And of it, Any Or; nothing is asked for behind what settles it: for every list of whole numbers that may be read. -/
import Derived.Test.YtakgjoiloklfkaaLogicSome
import Derived.Test.YtakgjoiloklfkaaLogicTables
import Derived.IntWalk
import Derived.Deep.DeepCutAuto
namespace Go.Proofs.Ytakgjoiloklfkaa.logic
open Go.ChangeShapes Go.WideShapes Go.ChangeAt Go.RowKit kit
set_option linter.unusedVariables false
set_option linter.unusedSimpArgs false
/-- How many are asked for: so long as it is not settled. -/
def cnt (f : Int → Int → Int) (i z : Int) (l : List Int) : Nat → Nat
  | 0 => 0
  | k + 1 => cnt f i z l k + if fo f i (l.take k) = z then 0 else 1
theorem cnt_le (f : Int → Int → Int) (i z : Int) (l : List Int) (k : Nat) : cnt f i z l k ≤ k := by
  induction k with
  | zero => simp [cnt]
  | succ k ih => rw [cnt]; split <;> omega
theorem fo_stays (f : Int → Int → Int) (i z : Int) (hz : ∀ x, f z x = z) (l : List Int) (k : Nat) (h : fo f i (l.take k) = z) : ∀ m, k ≤ m → fo f i (l.take m) = z := by
  intro m hm
  have e : l.take m = l.take k ++ (l.drop k).take (m - k) := by
    rw [← List.take_add]; congr 1; omega
  rw [e]
  clear e hm
  generalize (l.drop k).take (m - k) = r
  generalize l.take k = p at *
  induction r generalizing p with
  | nil => simpa using h
  | cons x r ih =>
    rw [show p ++ x :: r = (p ++ [x]) ++ r by simp]
    exact ih (p ++ [x]) (by rw [fo_snoc, h, hz])
theorem cnt_all (f : Int → Int → Int) (i z : Int) (l : List Int) (k : Nat) (h : ∀ j, j < k → fo f i (l.take j) ≠ z) : cnt f i z l k = k := by
  induction k with
  | zero => rfl
  | succ k ih => rw [cnt, ih (fun j hj => h j (by omega)), if_neg (h k (by omega))]
theorem cnt_stays (f : Int → Int → Int) (i z : Int) (hz : ∀ x, f z x = z) (l : List Int) (k : Nat) (h : fo f i (l.take k) = z) : ∀ m, k ≤ m → cnt f i z l m = cnt f i z l k := by
  intro m hm
  induction m with
  | zero => rw [show k = 0 by omega]
  | succ m ih =>
    by_cases e : k = m + 1
    · rw [e]
    · rw [cnt, ih (by omega), if_pos (fo_stays f i z hz l k h m (by omega))]
      rfl
/-- What All, Any answer and ask for. -/
theorem Ends.tells {f : Int → Int → Int} {i z : Int} {l : List Int} {k : Nat} (h : Ends f i z l k) (hz : ∀ x, f z x = z) : fo f i (l.take k) = fo f i l ∧ k = cnt f i z l l.length := by
  have h1 := cnt_all f i z l k h.no
  rcases h.fin with e | e
  · subst e
    exact ⟨by rw [List.take_length], h1.symm⟩
  · have h2 := fo_stays f i z hz l k e l.length h.le
    rw [List.take_length] at h2
    exact ⟨by rw [e, h2], by rw [cnt_stays f i z hz l k e l.length h.le, h1]⟩
theorem and_stop (x : Int) : and3 0 x = 0 := by
  unfold and3
  rcases pl_cases x with h | h | h <;> rw [h] <;> decide
theorem or_stop (x : Int) : or3 1 x = 1 := by
  unfold or3
  rcases pl_cases x with h | h | h <;> rw [h] <;> decide
theorem eq_nil_yes (W : World) : (binOp .eql 30 Value.nilFunc Value.nilFunc).run Try.prog W = .ok (.bool true) W := by kernel_rfl
set_option maxRecDepth 100000 in
theorem all_nil (w : World) : Calls Try.prog 16 #[Value.nilFunc] w fun e w' => e = .returned (.int .i64 1) ∧ Below w.heap.size w w' := by
  have hy := eq_nil_yes
  go_enter Try.func16, Try.ntmps16
  go_wp2
  go_ret
  exact ⟨rfl, (Below.refl _ _).alloc (Nat.le_refl _) _⟩
set_option maxRecDepth 100000 in
theorem any_nil (w : World) : Calls Try.prog 17 #[Value.nilFunc] w fun e w' => e = .returned (.int .i64 0) ∧ Below w.heap.size w w' := by
  have hy := eq_nil_yes
  go_enter Try.func17, Try.ntmps17
  go_wp2
  go_ret
  exact ⟨rfl, (Below.refl _ _).alloc (Nat.le_refl _) _⟩
/-- Where the numbers lie. -/
def NumsAt (W : World) (ao : Option Addr) (zs : List Int) : Prop := ∀ j, j < zs.length → ∃ b off, ao = some ⟨b, off, none⟩ ∧ b < W.heap.size ∧ W.cell? ⟨b, off + j, none⟩ = some (.int .i64 (zs.getD j 0))
set_option maxRecDepth 100000 in
set_option maxHeartbeats 4000000 in
theorem logicAll_any (ao : Option Addr) (cap : Nat) (zs : List Int) (W : World) (hlen : zs.length ≤ 9223372036854775807) (hz : NumsAt W ao zs) :
    Calls Try.prog 5 #[.agg #[.slice ao zs.length cap]] W fun e w' => e = .returned (.bool true) ∧ Below W.heap.size W w' := by
  replace hz := Lib.hid hz
  go_enter Try.func5, Try.ntmps5
  go_wp2
  have hB : Blk ((W.alloc (.cells #[.slice ao zs.length cap] 24)).alloc (.cells #[.int .i64 0] 3)) W.heap.size #[.slice ao zs.length cap] 24 := (Blk.new _ _ _).alloc _
  have hCC : Blk ((W.alloc (.cells #[.slice ao zs.length cap] 24)).alloc (.cells #[.int .i64 0] 3)) (W.heap.size + 1) #[.int .i64 0] 3 := by
    have := Blk.new (W.alloc (.cells #[.slice ao zs.length cap] 24)) #[.int .i64 0] 3
    rwa [World.size_alloc] at this
  have hbe : Below W.heap.size W ((W.alloc (.cells #[.slice ao zs.length cap] 24)).alloc (.cells #[.int .i64 0] 3)) := (((Keep.refl [] W).alloc _).alloc _).below
  have hsz : ((W.alloc (.cells #[.slice ao zs.length cap] 24)).alloc (.cells #[.int .i64 0] 3)).heap.size = W.heap.size + 2 := by rw [World.size_alloc, World.size_alloc]
  generalize (W.alloc (.cells #[.slice ao zs.length cap] 24)).alloc (.cells #[.int .i64 0] 3) = V at *
  have cB : V.cell? ⟨W.heap.size, 0, none⟩ = some (.slice ao zs.length cap) := hB.cell 0 rfl
  have hzV : ∀ j, j < zs.length → ∃ b off, ao = some ⟨b, off, none⟩ ∧ b < W.heap.size ∧ V.cell? ⟨b, off + j, none⟩ = some (.int .i64 (zs.getD j 0)) := fun j hj => by
    obtain ⟨b, off, h1, h2, h3⟩ := hz.out j hj
    exact ⟨b, off, h1, h2, (hbe.cell (p := ⟨b, off + j, none⟩) h2).trans h3⟩
  replace hzV := Lib.hid hzV
  replace hB := Lib.hid hB
  replace hCC := Lib.hid hCC
  replace hbe := Lib.hid hbe
  replace hsz := Lib.hid hsz
  clear hz
  have hcl := comes_length zs
  go_loop [5, 6, 7, 8, 9] (fun v5 v6 v7 v8 v9 => ∃ (k c1 c2 : Nat) (a o : Int), v9 = .int .i64 k ∧ v5 = .int .i64 a ∧ v6 = .int .i64 o ∧ v7 = .int .i64 c1 ∧ v8 = .int .i64 c2 ∧ k ≤ zs.length ∧ k ≤ 50 ∧
    Hid (a = fo and3 1 ((comes zs).take k)) ∧ Hid (o = fo or3 0 ((comes zs).take k)) ∧ Hid (c1 = cnt and3 1 0 (comes zs) k) ∧ Hid (c2 = cnt or3 0 1 (comes zs) k) ∧ c1 ≤ k ∧ c2 ≤ k) (fun _ _ _ _ v9 => zs.length - (intOf v9).toNat)
  case atStart => exact ⟨0, 0, 0, 1, 0, rfl, rfl, rfl, rfl, rfl, by omega, by omega, rfl, rfl, rfl, rfl, by omega, by omega⟩
  case round =>
    obtain ⟨k, c1, c2, a, o, rfl, rfl, rfl, rfl, rfl, hk, hk50, ha, ho, h1, h2, l1, l2⟩ := hrel
    obtain ⟨q, hq⟩ : ∃ q : Bool, decide (k < zs.length ∧ k < 50) = q := ⟨_, rfl⟩
    replace hq := Lib.hid hq
    go_upto_region 7 with (fail)
    go_cut [20] (fun v wx => v = .bool q ∧ wx = V)
    case first =>
      as_aux_lemma =>
        by_cases h1 : k < zs.length
        · have h1i : (k : Int) < (zs.length : Int) := by omega
          by_cases h2 : k < 50
          · have h2i : (k : Int) < 50 := by omega
            obtain rfl : true = q := by rw [← hq.out]; exact (decide_eq_true ⟨h1, h2⟩).symm
            go_wp2
            go_meet
            exact ⟨rfl, rfl⟩
          · have h2i : ¬ (k : Int) < 50 := by omega
            obtain rfl : false = q := by rw [← hq.out]; exact (decide_eq_false (fun e => h2 e.2)).symm
            go_wp2
            go_meet
            exact ⟨rfl, rfl⟩
        · have h1i : ¬ (k : Int) < (zs.length : Int) := by omega
          obtain rfl : false = q := by rw [← hq.out]; exact (decide_eq_false (fun e => h1 e.1)).symm
          go_wp2
          go_meet
          exact ⟨rfl, rfl⟩
    obtain ⟨rfl, hwx⟩ := hcut
    rw [hwx]; clear hwx
    cases q
    case true =>
      obtain ⟨hlt, h50⟩ := of_decide_eq_true hq.out
      have hki : (k : Int) < (zs.length : Int) := by omega
      obtain ⟨b, off, rfl, hb, cz⟩ := hzV.out k hlt
      have htk := comes_take zs k hlt h50
      generalize zs.getD k 0 = z at *
      obtain ⟨x, hx⟩ : ∃ x, not3 (not3 z) = x := ⟨_, rfl⟩
      rw [hx] at htk
      have ha2 : and3 a x = fo and3 1 ((comes zs).take (k + 1)) := by rw [htk, fo_snoc, ← ha.out]
      have ho2 : or3 o x = fo or3 0 ((comes zs).take (k + 1)) := by rw [htk, fo_snoc, ← ho.out]
      have h12 : cnt and3 1 0 (comes zs) (k + 1) = c1 + if a = 0 then 0 else 1 := by rw [cnt, ← h1.out, ← ha.out]
      have h22 : cnt or3 0 1 (comes zs) (k + 1) = c2 + if o = 1 then 0 else 1 := by rw [cnt, ← h2.out, ← ho.out]
      replace ha2 := Lib.hid ha2
      replace ho2 := Lib.hid ho2
      replace htk := Lib.hid htk
      clear hq ha ho h1 h2
      by_cases e1 : a = 0
      · have e1b : (a != 0) = false := by rw [e1]; rfl
        rw [if_pos e1] at h12
        replace h12 := Lib.hid h12
        by_cases e2 : o = 1
        · have e2b : (o != 1) = false := by rw [e2]; rfl
          rw [if_pos e2] at h22
          replace h22 := Lib.hid h22
          clear e1 e2
          go_wp2_with (first | (go_at_call 7; refine (rnot_any _ _).mono ?_; rintro e w' ⟨rfl, rfl⟩) | (go_at_call 9; refine (rand_any _ _ _).mono ?_; rintro e w' ⟨rfl, rfl⟩) | (go_at_call 11; refine (ror_any _ _ _).mono ?_; rintro e w' ⟨rfl, rfl⟩))
          refine ⟨⟨k + 1, c1, c2, and3 a x, or3 o x, by go_num, rfl, rfl, rfl, rfl, by omega, by omega, ha2, ho2, by have := h12.out; show _ = _; omega, by have := h22.out; show _ = _; omega, by omega, by omega⟩, ?_⟩
          simp only [intOf]; omega
        · have e2b : (o != 1) = true := by simpa using e2
          rw [if_neg e2] at h22
          replace h22 := Lib.hid h22
          clear e1 e2
          go_wp2_with (first | (go_at_call 7; refine (rnot_any _ _).mono ?_; rintro e w' ⟨rfl, rfl⟩) | (go_at_call 9; refine (rand_any _ _ _).mono ?_; rintro e w' ⟨rfl, rfl⟩) | (go_at_call 11; refine (ror_any _ _ _).mono ?_; rintro e w' ⟨rfl, rfl⟩))
          refine ⟨⟨k + 1, c1, c2 + 1, and3 a x, or3 o x, by go_num, rfl, rfl, rfl, by go_num, by omega, by omega, ha2, ho2, by have := h12.out; show _ = _; omega, by have := h22.out; show _ = _; omega, by omega, by omega⟩, ?_⟩
          simp only [intOf]; omega
      · have e1b : (a != 0) = true := by simpa using e1
        rw [if_neg e1] at h12
        replace h12 := Lib.hid h12
        by_cases e2 : o = 1
        · have e2b : (o != 1) = false := by rw [e2]; rfl
          rw [if_pos e2] at h22
          replace h22 := Lib.hid h22
          clear e1 e2
          go_wp2_with (first | (go_at_call 7; refine (rnot_any _ _).mono ?_; rintro e w' ⟨rfl, rfl⟩) | (go_at_call 9; refine (rand_any _ _ _).mono ?_; rintro e w' ⟨rfl, rfl⟩) | (go_at_call 11; refine (ror_any _ _ _).mono ?_; rintro e w' ⟨rfl, rfl⟩))
          refine ⟨⟨k + 1, c1 + 1, c2, and3 a x, or3 o x, by go_num, rfl, rfl, by go_num, rfl, by omega, by omega, ha2, ho2, by have := h12.out; show _ = _; omega, by have := h22.out; show _ = _; omega, by omega, by omega⟩, ?_⟩
          simp only [intOf]; omega
        · have e2b : (o != 1) = true := by simpa using e2
          rw [if_neg e2] at h22
          replace h22 := Lib.hid h22
          clear e1 e2
          go_wp2_with (first | (go_at_call 7; refine (rnot_any _ _).mono ?_; rintro e w' ⟨rfl, rfl⟩) | (go_at_call 9; refine (rand_any _ _ _).mono ?_; rintro e w' ⟨rfl, rfl⟩) | (go_at_call 11; refine (ror_any _ _ _).mono ?_; rintro e w' ⟨rfl, rfl⟩))
          refine ⟨⟨k + 1, c1 + 1, c2 + 1, and3 a x, or3 o x, by go_num, rfl, rfl, by go_num, by go_num, by omega, by omega, ha2, ho2, by have := h12.out; show _ = _; omega, by have := h22.out; show _ = _; omega, by omega, by omega⟩, ?_⟩
          simp only [intOf]; omega
    case false =>
      have hq2 := of_decide_eq_false hq.out
      have he : (comes zs).take k = comes zs := List.take_of_length_le (by omega)
      have hkl : (comes zs).length = k := by omega
      have ha2 := ha.out
      have ho2 := ho.out
      have h12 := h1.out
      have h22 := h2.out
      rw [he] at ha2 ho2
      rw [← hkl] at h12 h22
      clear hq hq2 ha ho h1 h2 he
      replace ha2 := Lib.hid ha2
      replace ho2 := Lib.hid ho2
      replace h12 := Lib.hid h12
      replace h22 := Lib.hid h22
      have hz1 : ∀ j, j < zs.length → ∃ b off, ao = some ⟨b, off, none⟩ ∧ b < V.heap.size ∧ b ≠ W.heap.size + 1 ∧ V.cell? ⟨b, off + j, none⟩ = some (.int .i64 (zs.getD j 0)) := fun j hj => by
        obtain ⟨b, off, g1, g2, g3⟩ := hzV.out j hj
        have := hsz.out
        exact ⟨b, off, g1, by omega, by omega, g3⟩
      have hall := all_x V W.heap.size (W.heap.size + 1) cap ao zs hlen (by have := hsz.out; omega) (by have := hsz.out; omega) (by omega) cB hCC.out hz1
      replace hall := Lib.hid hall
      clear cB hz1
      go_wp2_with fail
      refine hall.out.mono ?_
      rintro e w1 ⟨k1, hE, rfl, hk1, hb1⟩
      obtain ⟨t1, t2⟩ := hE.tells and_stop
      rw [t1, ← ha2.out]
      rw [t2, ← h12.out] at hb1
      have cC := hb1.cell 0 rfl
      have fC := hb1.free 0
      have kk : Keep [W.heap.size + 1] V (w1.setCell ⟨W.heap.size + 1, 0, none⟩ (.int .i64 0)) := hk1.setCell (by simp) _
      have hb2 : Blk (w1.setCell ⟨W.heap.size + 1, 0, none⟩ (.int .i64 0)) (W.heap.size + 1) #[.int .i64 0] 3 := by
        have := hb1.set 0 (.int .i64 0)
        simpa using this
      clear hall hk1 hE t1 t2 hcl
      replace hb1 := Lib.hid hb1
      replace hb2 := Lib.hid hb2
      replace kk := Lib.hid kk
      go_wp2_with fail
      clear cC fC hb1
      generalize w1.setCell ⟨W.heap.size + 1, 0, none⟩ (.int .i64 0) = w2 at *
      have hs2 := kk.out.size
      have cB2 : w2.cell? ⟨W.heap.size, 0, none⟩ = some (.slice ao zs.length cap) := (World.cell?_of_block (kk.out.block _ hB.out.lt (by simp))).trans (hB.out.cell 0 rfl)
      have hz2 : ∀ j, j < zs.length → ∃ b off, ao = some ⟨b, off, none⟩ ∧ b < w2.heap.size ∧ b ≠ W.heap.size + 1 ∧ w2.cell? ⟨b, off + j, none⟩ = some (.int .i64 (zs.getD j 0)) := fun j hj => by
        obtain ⟨b, off, g1, g2, g3⟩ := hzV.out j hj
        have := hsz.out
        exact ⟨b, off, g1, by omega, by omega, (World.cell?_of_block (kk.out.block b (by omega) (by simp; omega))).trans g3⟩
      have hany := any_x w2 W.heap.size (W.heap.size + 1) cap ao zs hlen (by have := hsz.out; omega) (by have := hsz.out; omega) (by omega) cB2 hb2.out hz2
      replace hany := Lib.hid hany
      clear cB2 hz2
      refine hany.out.mono ?_
      rintro e w3 ⟨k2, hE, rfl, hk3, hb3⟩
      obtain ⟨t1, t2⟩ := hE.tells or_stop
      rw [t1, ← ho2.out]
      rw [t2, ← h22.out] at hb3
      have cC := hb3.cell 0 rfl
      have hbF : Below W.heap.size W w3 := hbe.out.trans ((kk.out.trans hk3 (fun x hx _ => hx)).under W.heap.size (by have := hsz.out; omega) (fun x hx => by simp at hx; omega))
      clear hany hE t1 t2 hk3 hb3 hb2 kk
      replace hbF := Lib.hid hbF
      go_wp2_with (first | (go_at_call 16; refine (all_nil _).mono ?_; rintro e w4 ⟨rfl, hb4⟩) | (go_at_call 17; refine (any_nil _).mono ?_; rintro e w5 ⟨rfl, hb5⟩) | (go_at_call 14; refine (wakes_any _).mono ?_; rintro e w6 ⟨rfl, n6, rfl⟩))
      go_ret
      exact ⟨rfl, Below_drewN _ ((hbF.out.trans (hb4.mono hbF.out.size)).trans (hb5.mono (Nat.le_trans hbF.out.size hb4.size)))⟩
theorem logicAll_all {H : Type} (enc : TypeId × Value → H) (W : World) (base : Nat) (v0 : Value) (d0 : DataW H) (p0 : List MemPlace) (hv : Value.okWide Try.prog W .any base 24 v0)
    (h : DataW.Trod enc Try.prog W 0 (fun _ => true) true 24 v0 d0 p0) (hlt : ∀ x ∈ p0, x.block < W.heap.size) (_ : (DataW.weightsEach Try.prog ([24] ++ []) ([d0] ++ [])).all (· ≤ reachBytes) = true) :
    Calls Try.prog 5 #[v0] W fun e w' => e = .returned (.bool true) ∧ Below W.heap.size W w' := by
  rcases open_truths hv h hlt with ⟨ao, cap, rfl⟩ | ⟨b, off, len, cap, zs, rfl, hlen, hb, hc⟩
  · exact logicAll_any ao cap [] W (by simp) (fun j hj => by simp at hj)
  · obtain ⟨tt, rfl, ht⟩ : ∃ tt : List Int, tt.length = len ∧ ∀ j, j < tt.length → W.cell? ⟨b, off + j, none⟩ = some (.int .i64 (tt.getD j 0)) := by
      refine ⟨(List.range len).map fun j => zs.getD j 0, by simp, fun j hj => ?_⟩
      have hj' : j < len := by simpa using hj
      have e : ((List.range len).map fun j => zs.getD j 0).getD j 0 = zs.getD j 0 := by
        rw [List.getD_eq_getElem?_getD, List.getElem?_map, List.getElem?_range hj']
        rfl
      rw [e]
      exact hc j hj'
    exact logicAll_any (some ⟨b, off, none⟩) cap tt W hlen (fun j hj => ⟨b, off, rfl, hb, ht j hj⟩)
/-- The statement, out of what the walk gives: diptychlaw3.LogicAll, of one argument of type diptychlaw3.Truths. -/
theorem logicAll_lifted (os : Os) (started : os.Started) (H : Type) (enc : TypeId × Value → H) :
    ReturnsInHanded {} Try.checked os 5 .any (Rows.logicAllSpec.pre6 enc Try.prog Try.f5 Rows.logicAllRow.domain false) (Rows.logicAllSpec.post enc Try.prog Try.f5 false true false false) := by
  refine returnsInHanded_of_change_sized (C := Try.checked) frame.own started (by kernel_rfl) Try.func5
    (ChangeSpec.witness6 (enc := enc) (C := Try.checked) false ⟨#[], #[.agg #[.slice none 0 0]], []⟩ 8 (by kernel_rfl) (by kernel_rfl) (by kernel_rfl) (by kernel_rfl)) ?_
  intro W base args ds gs before hval0 hW hcnd hsz0 _
  have hval : ∀ (j : Nat) t v, Try.f5.params[j]? = some t → args[j]? = some v → Value.okWide Try.prog W .any base t v := hval0
  have hsz : (DataW.weightsEach Try.prog (Try.f5.params.toList ++ Rows.logicAllSpec.plain.varTypes Try.prog) (ds ++ gs)).all (· ≤ reachBytes) = true := hsz0
  have hW' := hW
  obtain ⟨p, q, hA0, hV, rfl, hfz, hnd⟩ := hW
  have hA : DataW.TrodAll enc Try.prog W 0 (fun _ => true) true Try.f5.params.toList args.toList ds p := hA0
  rw [Try.params5] at hA hval hsz
  obtain ⟨v0, vs0, d0, ds0, p0, q0, hargs, rfl, rfl, h0, r0⟩ := trodAll_cons hA
  obtain ⟨rfl, rfl, rfl⟩ := trodAll_nil r0
  obtain rfl : args = #[v0] := by cases args; simp_all
  obtain ⟨rfl, rfl⟩ := trodVars_none hV
  clear hA0 hval0
  simp only [List.append_nil] at hW'
  have hlt : ∀ x ∈ p0, x.block < W.heap.size := fun x hx => hW'.lt x hx
  refine (logicAll_all enc W base v0 d0 p0 (hval 0 _ v0 rfl rfl) h0 hlt hsz).mono fun e W' ⟨he, hg⟩ => ?_
  subst he
  exact ⟨_, rfl, frame.post_of_below (pa := p0 ++ []) (pv := []) hW' (fun _ _ _ => (trodAll_cons_mk (shut_bool Try.underlying4 _) trodAll_mk0))
    (fun sp hsp => trodAll_cons_mk (WideElems.Trod_stays frame.laid (by kernel_rfl) (of_decide_eq_true (by kernel_rfl)) h0 (fun x hx => hg.same (hlt x hx)) (sp' := sp) (fun x hx => hsp x hx)) trodAll_mk0)
    (fun _ _ => rfl) (by simp) hg (ok_one (by kernel_rfl) rfl (okWide_bool_mk Try.underlying4 _))⟩
theorem logicAll_over : Rows.logicAllRow.holds Try.pinned (OpenSpec.ofChange Rows.logicAllSpec) :=
  OpenClaim.holds_of_wide 5 Try.f5 rfl rfl rfl rfl rfl rfl rfl ⟨rfl, rfl, rfl, rfl, rfl⟩ rfl rfl rfl rfl rfl (by kernel_rfl) Try.func5 (by kernel_rfl)
    (of_decide_eq_true (by kernel_rfl)) (by unfold Func.isWrapper; first | (rw [if_pos (by decide +kernel)]; kernel_rfl) | (rw [if_neg (by decide +kernel)]; exact ⟨rfl, rfl⟩))
    (fun os started H enc _ => logicAll_lifted os started H enc)
/-- The statement. -/
theorem LogicAll_holds : Rows.LogicAllSaid := logicAll_over
end Go.Proofs.Ytakgjoiloklfkaa.logic
