/- Contracts of decimal.load, both. -/
import Derived.Test.YthecgifgjagmaaaGreatDoorDecText
import Derived.Test.YthecgifgjagmaaaGreatDoorDecCanon
import Derived.Great.BuildSlice
namespace Go.Proofs.YthecgifgjagmaaaGreatDoor.dec
open Go.ChangeShapes Go.WideShapes Go.ChangeAt Go.RowKit kit
set_option linter.unusedVariables false
/-- A number's value, of an amount z in units of the twentieth place. -/
def numV (z : Int) : Value := .agg (nv (decide (z < 0)) (wd z.natAbs))
theorem canon_shape (z : Int) : canon z = (if decide (z < 0) then [45] else []) ++ (orZero (digs (z.natAbs / 10 ^ 20)) ++ 46 :: orZero (frac 20 z.natAbs)) := by
  unfold canon; rw [fmt_eq]
theorem orZero_head {l : List UInt8} (h : allD l = true) : ∃ c r, orZero l = c :: r ∧ isD c = true := by
  have h1 := orZero_allD h
  have h2 := orZero_numB h
  generalize orZero l = m at *
  cases m with
  | nil => exact absurd h2 (by decide)
  | cons c r => rw [allD_cons, Bool.and_eq_true] at h1; exact ⟨c, r, rfl, h1.1⟩
/-- What load makes of the parts of a canonical text. -/
theorem load_val (z : Int) : val (orZero (digs (z.natAbs / 10 ^ 20)) ++ orZero (frac 20 z.natAbs) ++ List.replicate (20 - (orZero (frac 20 z.natAbs)).length) 48) = z.natAbs := by
  rw [val_append, val_replicate, List.length_replicate, Nat.add_zero]
  exact (amount z).1
theorem res2 {P : Program} {fn : Func} {p u : Tmp} {ty : TypeId} (h : fn.results = #[.cell p ty, .tmp u]) (tmps : Array Value) (w : World) (g : Nat) (t : TypeId) (cs : Array Value) (fr : Nat × Nat) (d : TypeDesc) (v : Value) (hv : tmps.getD u undef = v)
    (hp : tmps.getD p undef = .pointer (some ⟨g, 0, none⟩)) (hg : w.heap[g]? = some (.cells cs t fr))
    (hu : P.underlying ty = some d) (hd : (match d with | .struct _ | .array _ _ => true | _ => false) = true) (hi : (P.info? ty).map (·.size) = some cs.size) :
    (results fn tmps).run P w = .ok (.tuple #[.agg cs, v]) w := by
  subst hv
  rw [results_cell_tmp h, hp]
  simp only [asAddr, Sem.run_pure, Result.andThen_ok, run_loadVar_row w g t ty cs fr d hg hu hd hi]
theorem zerosN : (Tryz.prog.info? 92).map (·.size) = some (#[.bool false, .int .u64 0, .int .u64 0, .int .u64 0, .int .u64 0, .int .u64 0, .int .u64 0, .int .u64 0, .int .u64 0, .int .u64 0, .int .u64 0, .int .u64 0, .int .u64 0, .int .u64 0, .int .u64 0, .int .u64 0, .int .u64 0] : Array Value).size := Tryz.infoN
theorem zerosS : (nv false fun _ => 0).size = (#[.bool false, .int .u64 0, .int .u64 0, .int .u64 0, .int .u64 0, .int .u64 0, .int .u64 0, .int .u64 0, .int .u64 0, .int .u64 0, .int .u64 0, .int .u64 0, .int .u64 0, .int .u64 0, .int .u64 0, .int .u64 0, .int .u64 0] : Array Value).size := rfl
theorem zerosC : (#[.bool false, .int .u64 0, .int .u64 0, .int .u64 0, .int .u64 0, .int .u64 0, .int .u64 0, .int .u64 0, .int .u64 0, .int .u64 0, .int .u64 0, .int .u64 0, .int .u64 0, .int .u64 0, .int .u64 0, .int .u64 0, .int .u64 0] : Array Value).all (·.oneCell') = true := by rw [← nv_falses]; exact nv_one _ _
set_option maxHeartbeats 2000000 in
set_option maxRecDepth 100000 in
theorem load_no (s : ByteArray) (w : World) (hE : Env w) (hc : chk s.data.toList = false) :
    Calls Tryz.prog 121 #[.string s] w fun e w' => e = .returned (.tuple #[.agg (nv false fun _ => 0), .bool false]) ∧ Below w.heap.size w w' := by
  have hch := fun w hE => chk_any s w hE
  rw [hc] at hch
  replace hch := Lib.hid hch
  replace hE := Lib.hid hE
  go_enter Tryz.func121, Tryz.ntmps121
  go_wp2_with fail
  rw [← nv_falses]
  have k0 : Below w.heap.size w (w.alloc (.cells (nv false fun _ => 0) 92)) := (Below.refl _ _).alloc (Nat.le_refl _) _
  have b0 : Blk (w.alloc (.cells (nv false fun _ => 0) 92)) w.heap.size (nv false fun _ => 0) 92 := Blk.new _ _ _
  generalize w.alloc (.cells (nv false fun _ => 0) 92) = W at *
  have hEW := hE.out.below k0
  refine (hch.out W hEW).mono ?_
  rintro e w1 ⟨rfl, hb1⟩
  have k1 : Keep [] w w1 := Keep.ofBelow (k0.trans (hb1.mono k0.size))
  have b1 : Blk w1 w.heap.size (nv false fun _ => 0) 92 := b0.keep (Keep.ofBelow hb1) (by simp)
  have hE1 := hEW.below hb1
  clear k0 b0 hb1 hEW hE hch
  replace k1 := Lib.hid k1
  replace b1 := Lib.hid b1
  replace hE1 := Lib.hid hE1
  go_wp2_with (first | (with_reducible refine wpList_store_row rfl 92 (.tmp 2) (.tmp 11) rfl (w.heap.size) #[.bool false, .int .u64 0, .int .u64 0, .int .u64 0, .int .u64 0, .int .u64 0, .int .u64 0, .int .u64 0, .int .u64 0, .int .u64 0, .int .u64 0, .int .u64 0, .int .u64 0, .int .u64 0, .int .u64 0, .int .u64 0, .int .u64 0] rfl rfl 92 _ (Blk.eq b1.out) zerosN zerosS zerosC ?_))
  exact bodyPost_ret (v := .tuple #[.agg #[.bool false, .int .u64 0, .int .u64 0, .int .u64 0, .int .u64 0, .int .u64 0, .int .u64 0, .int .u64 0, .int .u64 0, .int .u64 0, .int .u64 0, .int .u64 0, .int .u64 0, .int .u64 0, .int .u64 0, .int .u64 0, .int .u64 0], .bool false]) (res2 rfl _ _ w.heap.size 92 #[.bool false, .int .u64 0, .int .u64 0, .int .u64 0, .int .u64 0, .int .u64 0, .int .u64 0, .int .u64 0, .int .u64 0, .int .u64 0, .int .u64 0, .int .u64 0, .int .u64 0, .int .u64 0, .int .u64 0, .int .u64 0, .int .u64 0] (0, 0) _ _ rfl rfl (Blk.setRow b1.out).eq Tryz.underlying92 rfl Tryz.infoN) rfl
    ⟨rfl, (Keep.setRow k1.out (by omega) _).below⟩
theorem built_num (b : Bool) (f : Nat → Nat) : Tryz.prog.built 92 [(0, .bool b), (1, .agg (wv f))] = some (nv b f) := by kernel_rfl
theorem pad_list (a b c : List UInt8) : (((⟨a.toArray⟩ : ByteArray) ++ ⟨b.toArray⟩) ++ ⟨c.toArray⟩).data.toList = a ++ b ++ c := by simp
theorem pad_size (a b : List UInt8) (n : Nat) : (((⟨a.toArray⟩ : ByteArray) ++ ⟨b.toArray⟩) ++ ⟨(List.replicate n 48).toArray⟩).size = a.length + b.length + n := by
  have : ∀ x : ByteArray, x.size = x.data.toList.length := fun _ => rfl
  rw [this, pad_list]; simp; omega
set_option maxHeartbeats 2000000 in
set_option maxRecDepth 100000 in
theorem load_neg (s : ByteArray) (Wl Pl : List UInt8) (w : World) (hE : Env w) (hs : s.data.toList = 45 :: (Wl ++ 46 :: Pl)) (hc : chk s.data.toList = true) (hW : allD Wl = true) (hP : allD Pl = true) (hP20 : Pl.length ≤ 20) (hW40 : Wl.length ≤ 40) :
    Calls Tryz.prog 121 #[.string s] w fun e w' => e = .returned (.tuple #[.agg (nv true (wd (val (Wl ++ Pl ++ List.replicate (20 - Pl.length) 48)))), .bool true]) ∧ Below w.heap.size w w' := by
  have hch := fun w hE => chk_any s w hE
  rw [hc] at hch
  replace hch := Lib.hid hch
  replace hE := Lib.hid hE
  have hlen : s.size = Wl.length + Pl.length + 2 := by
    have : s.size = s.data.toList.length := rfl
    rw [this, hs]; simp; omega
  have hpos : 0 < s.size := by omega
  have hbyte : (((s[0]'hpos).toNat : Int) == 45) = true := by
    have : s[0]'hpos = 45 := by
      have h2 : s.data.toList[0]? = some 45 := by rw [hs]; rfl
      have h3 := (List.getElem?_eq_some_iff.1 h2).2
      exact h3
    rw [this]; rfl
  replace hs := Lib.hid hs
  replace hlen := Lib.hid hlen
  go_enter Tryz.func121, Tryz.ntmps121
  go_wp2_with fail
  rw [← nv_falses]
  have k0 : Below w.heap.size w (w.alloc (.cells (nv false fun _ => 0) 92)) := (Below.refl _ _).alloc (Nat.le_refl _) _
  have b0 : Blk (w.alloc (.cells (nv false fun _ => 0) 92)) w.heap.size (nv false fun _ => 0) 92 := Blk.new _ _ _
  generalize w.alloc (.cells (nv false fun _ => 0) 92) = W at *
  have hEW := hE.out.below k0
  refine (hch.out W hEW).mono ?_
  rintro e w1 ⟨rfl, hb1⟩
  have k1 : Keep [] w w1 := Keep.ofBelow (k0.trans (hb1.mono k0.size))
  have b1 : Blk w1 w.heap.size (nv false fun _ => 0) 92 := b0.keep (Keep.ofBelow hb1) (by simp)
  have hE1 := hEW.below hb1
  clear k0 b0 hb1 hEW hE hch
  replace k1 := Lib.hid k1
  replace b1 := Lib.hid b1
  replace hE1 := Lib.hid hE1
  have hsz1 : s.size ≤ 100 := by have := hlen.out; omega
  go_wp2_with fail
  obtain ⟨m, hm⟩ := hE1.out.max
  have hlt : ((s.extract 1 s.size).data.toList) = Wl ++ 46 :: Pl := by
    rw [Lib.extract_data, List.drop_one, List.take_of_length_le, hs.out]
    · rfl
    · show s.data.toList.tail.length ≤ s.size - 1
      rw [List.length_tail]; exact Nat.le_refl _
  have hlz : (s.extract 1 s.size).size ≤ 100 := by
    have : (s.extract 1 s.size).size = (s.extract 1 s.size).data.toList.length := rfl
    rw [this, hlt]; simp; omega
  generalize s.extract 1 s.size = t at *
  refine (Tryz.strings_Cut t ⟨#[46]⟩ m _ (by omega) hm).mono ?_
  rintro e w2 ⟨rfl, n1, rfl⟩
  rw [hlt, show (ByteArray.mk #[46]).data.toList = [46] from rfl, cut_dot Wl Pl hW]
  have hr : Lib.repeatL [48] (20 - Pl.length) = List.replicate (20 - Pl.length) 48 := repeatL_48 _
  go_wp2_with fail
  rw [show ((20 : Int) - (Pl.length : Int)) = ((20 - Pl.length : Nat) : Int) by omega]
  refine (Tryz.strings_Repeat ⟨#[48]⟩ (20 - Pl.length) _ (by omega) (by have : (ByteArray.mk #[48]).size = 1 := rfl; rw [this]; omega)).mono ?_
  rintro e w3 ⟨rfl, hb3⟩
  rw [show (ByteArray.mk #[48]).data.toList = [48] from rfl, hr]
  replace hb3 := Lib.hid hb3
  obtain ⟨rp, hrp⟩ : ∃ rp : ByteArray, (⟨(List.replicate (20 - Pl.length) (48 : UInt8)).toArray⟩ : ByteArray) = rp := ⟨_, rfl⟩
  have hrl : rp.data.toList = List.replicate (20 - Pl.length) 48 := by rw [← hrp]
  have hrs : rp.size ≤ 20 := by
    have : rp.size = rp.data.toList.length := rfl
    rw [this, hrl]; simp
  rw [hrp]
  replace hrl := Lib.hid hrl
  clear hrp hr
  have hsm : (((⟨Wl.toArray⟩ : ByteArray) ++ ⟨Pl.toArray⟩).size : Int) + (rp.size : Int) ≤ 9223372036854775807 := by
    rw [two_size]; omega
  go_wp2_with fail
  obtain ⟨tb, htb⟩ : ∃ tb : ByteArray, (((⟨Wl.toArray⟩ : ByteArray) ++ ⟨Pl.toArray⟩) ++ rp) = tb := ⟨_, rfl⟩
  have htl : tb.data.toList = Wl ++ Pl ++ List.replicate (20 - Pl.length) (48 : UInt8) := by rw [← htb, ← hrl.out]; simp
  have hts : tb.size ≤ 144 := by
    have : tb.size = tb.data.toList.length := rfl
    rw [this, htl]; simp; omega
  have htd : allD tb.data.toList = true := by rw [htl, allD_append, allD_append, hW, hP, allD_replicate]; rfl
  rw [htb]
  clear hsm htb
  refine (wordsOf_any tb _ htd hts).mono ?_
  rintro e w4 ⟨rfl, hb4⟩
  rw [htl]
  clear htl htd hts
  generalize hV : val (Wl ++ Pl ++ List.replicate (20 - Pl.length) 48) = V
  have k4 : Below w1.heap.size w1 w4 := (Below_drewN _ (Below.refl _ _)).trans (hb3.out.trans (hb4.mono hb3.out.size))
  have kk : Keep [] w w4 := k1.out.trans (Keep.ofBelow k4) (by simp)
  have b4 : Blk w4 w.heap.size (nv false fun _ => 0) 92 := b1.out.keep (Keep.ofBelow k4) (by simp)
  dsimp only
  rename_i K ha
  refine ha _ _ ?_
  with_reducible refine wpList_buildTo rfl 92 #[(0, .tmp 24), (1, .tmp 33)] rfl (some 34) rfl (nv true (wd V)) ?_ ?_
  · simpa [Act.eval] using built_num true (wd V)
  with_reducible refine wpList_store_rowTo rfl 92 (.tmp 2) (.tmp 34) rfl rfl w.heap.size (nv true (wd V)) rfl rfl 92 _ (Blk.eq b4) (by rw [nv_size]; exact Tryz.infoN) (by rw [nv_size, nv_size]) (nv_one _ _) ?_
  go_wp2_with fail
  exact bodyPost_ret (v := .tuple #[.agg (nv true (wd V)), .bool true]) (res2 rfl _ _ w.heap.size 92 _ (0, 0) _ _ rfl rfl (Blk.setRow b4).eq Tryz.underlying92 rfl (by rw [nv_size]; exact Tryz.infoN)) rfl
    ⟨by rw [hV], (Keep.setRow kk (by omega) _).below⟩
set_option maxHeartbeats 2000000 in
set_option maxRecDepth 100000 in
theorem load_pos (s : ByteArray) (Wl Pl : List UInt8) (w : World) (hE : Env w) (hs : s.data.toList = Wl ++ 46 :: Pl) (hc : chk s.data.toList = true) (hW : allD Wl = true) (hP : allD Pl = true) (hP20 : Pl.length ≤ 20) (hW40 : Wl.length ≤ 40) :
    Calls Tryz.prog 121 #[.string s] w fun e w' => e = .returned (.tuple #[.agg (nv false (wd (val (Wl ++ Pl ++ List.replicate (20 - Pl.length) 48)))), .bool true]) ∧ Below w.heap.size w w' := by
  have hch := fun w hE => chk_any s w hE
  rw [hc] at hch
  replace hch := Lib.hid hch
  replace hE := Lib.hid hE
  have hlen : s.size = Wl.length + Pl.length + 1 := by
    have : s.size = s.data.toList.length := rfl
    rw [this, hs]; simp; omega
  have hpos : 0 < s.size := by omega
  have hbyte : (((s[0]'hpos).toNat : Int) == 45) = false := by
    have h1 : s[0]'hpos ≠ 45 := by
      obtain ⟨c, hc0, hc1⟩ : ∃ c, s.data.toList[0]? = some c ∧ c ≠ 45 := by
        rw [hs]
        cases Wl with
        | nil => exact ⟨46, rfl, by decide⟩
        | cons c r =>
          refine ⟨c, rfl, fun h => ?_⟩
          rw [allD_cons, Bool.and_eq_true] at hW
          rw [h] at hW
          exact absurd hW.1 (by decide)
      have h3 : s.data.toList[0]? = some s[0] := by
        rw [List.getElem?_eq_getElem (by rw [hs]; simp; omega)]; rfl
      rw [h3] at hc0
      cases hc0; exact hc1
    have h2 : s[0].toNat ≠ 45 := fun h => h1 (UInt8.toNat_inj.1 h)
    rw [beq_eq_false_iff_ne]; omega
  replace hs := Lib.hid hs
  replace hlen := Lib.hid hlen
  go_enter Tryz.func121, Tryz.ntmps121
  go_wp2_with fail
  rw [← nv_falses]
  have k0 : Below w.heap.size w (w.alloc (.cells (nv false fun _ => 0) 92)) := (Below.refl _ _).alloc (Nat.le_refl _) _
  have b0 : Blk (w.alloc (.cells (nv false fun _ => 0) 92)) w.heap.size (nv false fun _ => 0) 92 := Blk.new _ _ _
  generalize w.alloc (.cells (nv false fun _ => 0) 92) = W at *
  have hEW := hE.out.below k0
  refine (hch.out W hEW).mono ?_
  rintro e w1 ⟨rfl, hb1⟩
  have k1 : Keep [] w w1 := Keep.ofBelow (k0.trans (hb1.mono k0.size))
  have b1 : Blk w1 w.heap.size (nv false fun _ => 0) 92 := b0.keep (Keep.ofBelow hb1) (by simp)
  have hE1 := hEW.below hb1
  clear k0 b0 hb1 hEW hE hch
  replace k1 := Lib.hid k1
  replace b1 := Lib.hid b1
  replace hE1 := Lib.hid hE1
  have hsz1 : s.size ≤ 100 := by have := hlen.out; omega
  go_wp2_with fail
  obtain ⟨m, hm⟩ := hE1.out.max
  refine (Tryz.strings_Cut s ⟨#[46]⟩ m _ (by omega) hm).mono ?_
  rintro e w2 ⟨rfl, n1, rfl⟩
  rw [hs.out, show (ByteArray.mk #[46]).data.toList = [46] from rfl, cut_dot Wl Pl hW]
  have hr : Lib.repeatL [48] (20 - Pl.length) = List.replicate (20 - Pl.length) 48 := repeatL_48 _
  go_wp2_with fail
  rw [show ((20 : Int) - (Pl.length : Int)) = ((20 - Pl.length : Nat) : Int) by omega]
  refine (Tryz.strings_Repeat ⟨#[48]⟩ (20 - Pl.length) _ (by omega) (by have : (ByteArray.mk #[48]).size = 1 := rfl; rw [this]; omega)).mono ?_
  rintro e w3 ⟨rfl, hb3⟩
  rw [show (ByteArray.mk #[48]).data.toList = [48] from rfl, hr]
  replace hb3 := Lib.hid hb3
  obtain ⟨rp, hrp⟩ : ∃ rp : ByteArray, (⟨(List.replicate (20 - Pl.length) (48 : UInt8)).toArray⟩ : ByteArray) = rp := ⟨_, rfl⟩
  have hrl : rp.data.toList = List.replicate (20 - Pl.length) 48 := by rw [← hrp]
  have hrs : rp.size ≤ 20 := by
    have : rp.size = rp.data.toList.length := rfl
    rw [this, hrl]; simp
  rw [hrp]
  replace hrl := Lib.hid hrl
  clear hrp hr
  have hsm : (((⟨Wl.toArray⟩ : ByteArray) ++ ⟨Pl.toArray⟩).size : Int) + (rp.size : Int) ≤ 9223372036854775807 := by
    rw [two_size]; omega
  go_wp2_with fail
  obtain ⟨tb, htb⟩ : ∃ tb : ByteArray, (((⟨Wl.toArray⟩ : ByteArray) ++ ⟨Pl.toArray⟩) ++ rp) = tb := ⟨_, rfl⟩
  have htl : tb.data.toList = Wl ++ Pl ++ List.replicate (20 - Pl.length) (48 : UInt8) := by rw [← htb, ← hrl.out]; simp
  have hts : tb.size ≤ 144 := by
    have : tb.size = tb.data.toList.length := rfl
    rw [this, htl]; simp; omega
  have htd : allD tb.data.toList = true := by rw [htl, allD_append, allD_append, hW, hP, allD_replicate]; rfl
  rw [htb]
  clear hsm htb
  refine (wordsOf_any tb _ htd hts).mono ?_
  rintro e w4 ⟨rfl, hb4⟩
  rw [htl]
  clear htl htd hts
  generalize hV : val (Wl ++ Pl ++ List.replicate (20 - Pl.length) 48) = V
  have k4 : Below w1.heap.size w1 w4 := (Below_drewN _ (Below.refl _ _)).trans (hb3.out.trans (hb4.mono hb3.out.size))
  have kk : Keep [] w w4 := k1.out.trans (Keep.ofBelow k4) (by simp)
  have b4 : Blk w4 w.heap.size (nv false fun _ => 0) 92 := b1.out.keep (Keep.ofBelow k4) (by simp)
  dsimp only
  rename_i K ha
  refine ha _ _ ?_
  with_reducible refine wpList_buildTo rfl 92 #[(0, .tmp 24), (1, .tmp 33)] rfl (some 34) rfl (nv false (wd V)) ?_ ?_
  · simpa [Act.eval] using built_num false (wd V)
  with_reducible refine wpList_store_rowTo rfl 92 (.tmp 2) (.tmp 34) rfl rfl w.heap.size (nv false (wd V)) rfl rfl 92 _ (Blk.eq b4) (by rw [nv_size]; exact Tryz.infoN) (by rw [nv_size, nv_size]) (nv_one _ _) ?_
  go_wp2_with fail
  exact bodyPost_ret (v := .tuple #[.agg (nv false (wd V)), .bool true]) (res2 rfl _ _ w.heap.size 92 _ (0, 0) _ _ rfl rfl (Blk.setRow b4).eq Tryz.underlying92 rfl (by rw [nv_size]; exact Tryz.infoN)) rfl
    ⟨by rw [hV], (Keep.setRow kk (by omega) _).below⟩
end Go.Proofs.YthecgifgjagmaaaGreatDoor.dec
