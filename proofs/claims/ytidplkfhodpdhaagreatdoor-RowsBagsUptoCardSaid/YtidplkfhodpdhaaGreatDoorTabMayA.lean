/- Texts TabUnl, TabRMay, TabLMay, one behind the other. -/
import Derived.Test.YtidplkfhodpdhaaGreatDoorTabIA
import Derived.Test.YtidplkfhodpdhaaGreatDoorTabPA
import Derived.Test.YtidplkfhodpdhaaGreatDoorRMayA
import Derived.Test.YtidplkfhodpdhaaGreatDoorTabLightA
namespace Go.Proofs.YtidplkfhodpdhaaGreatDoor.tab
open Go.ChangeShapes Go.WideShapes Go.ChangeAt Go.RowKit kit dec val
open hyp (RowA TextsA CellsStay stay_of_below textsV textsV_length own_row)
set_option linter.unusedVariables false
set_option linter.unusedSimpArgs false
def unlikeB (l : List ByteArray) : Bool := l.all val.nameB && decide l.Nodup
theorem nodup_of {l : List ByteArray} (h : ∀ j (hj : j < l.length), l[j] ∉ l.take j) : l.Nodup := by
 unfold List.Nodup
 rw [List.pairwise_iff_getElem]
 intro i j hi hj hij e
 refine h j hj ?_
 rw [← e]
 rw [List.mem_iff_getElem]
 exact ⟨i, by rw [List.length_take]; omega, by rw [List.getElem_take]⟩
theorem not_nodup {l : List ByteArray} {k : Nat} (hk : k < l.length) (h : l[k] ∈ l.take k) : ¬ l.Nodup := by
 intro hn
 unfold List.Nodup at hn
 rw [List.pairwise_iff_getElem] at hn
 obtain ⟨i, hi, e⟩ := List.getElem_of_mem h
 rw [List.length_take] at hi
 rw [List.getElem_take] at e
 exact hn i k (by omega) hk (by omega) e
set_option maxRecDepth 100000 in
set_option maxHeartbeats 4000000 in
theorem unlike_any (w : World) (v : Value) (l : List ByteArray) (h : TextsA w w.heap.size v l) (hl : l.length ≤ 1048576) :
 Calls Tryz.prog 31 #[v] w fun e w' => e = .returned (.bool (unlikeB l)) ∧ Below w.heap.size w w' := by
 obtain ⟨ao, cap, rfl, hc⟩ := h.form
 obtain ⟨q, hq⟩ : ∃ q, unlikeB l = q := ⟨_, rfl⟩
 rw [hq]
 have hcap : 0 < l.length → l.length ≤ cap := by
  intro h0
  rcases h.row with ⟨_, _, he, h1⟩ | ⟨b, off, c, he, -, h1, -⟩
  ·have := congrArg List.length h1; rw [textsV_length, List.length_nil] at this; omega
  ·injection he with e1 e2 e3
   rw [textsV_length] at h1
   omega
 have hsz := Lib.hid h.size
 replace hc := Lib.hid hc
 replace hq := Lib.hid hq
 clear h
 go_enter Tryz.func31, Tryz.ntmps31
 go_wp2
 go_loopw [3] (fun i wr => ∃ k : Nat, k ≤ l.length ∧ i = .int .i64 (k : Int) ∧ Hid (Below w.heap.size w wr) ∧ Hid (∀ j (hj : j < l.length), j < k → val.nameB l[j] = true ∧ l[j] ∉ l.take j)) (fun i _ => l.length - (intOf i).toNat)
 case atStart => exact ⟨0, by omega, rfl, Lib.hid (Below.refl _ _), Lib.hid (fun j _ h => by omega)⟩
 case round =>
  obtain ⟨k, hk, rfl, hb, hin⟩ := hrel
  by_cases hlt : k < l.length
  ·have hki : (k : Int) < (l.length : Int) := by omega
   have hk1 := Lib.hid (show k + 1 ≤ l.length from hlt)
   obtain ⟨b, off, hao, -, hck⟩ := hc.out k hlt
   have hbd : Hid (Below w.heap.size w wr.drew) := Lib.hid (hb.out.trans ⟨rfl, rfl, rfl, Nat.le_refl _, fun _ _ => rfl⟩)
   have hnm := fun V => val.rname_any l[k] V (by have := hsz.out _ (List.getElem_mem hlt); unfold maxLen at this; omega)
   have hlen : (l.take k).length = k := by rw [List.length_take]; omega
   have hix := fun V (hV : Below w.heap.size w V) => rindex_any V ao cap (l.take k) l[k] (by omega) (fun j hj => by
    rw [hlen] at hj
    obtain ⟨b, off, h1, h2, h3⟩ := hc.out j (by omega)
    exact ⟨b, off, h1, Nat.lt_of_lt_of_le h2 hV.size, by rw [(stay_of_below hV).cell h3, List.getElem_take]⟩)
   rw [hlen] at hix
   have hneg := idxI_neg (l.take k) l[k]
   have hcap2 := hcap (by omega)
   have hkc : (k : Int) ≤ (cap : Int) := by omega
   have hall : Hid (val.nameB l[k] = true → l[k] ∉ l.take k → ∀ j (hj : j < l.length), j < k + 1 → val.nameB l[j] = true ∧ l[j] ∉ l.take j) := Lib.hid fun h1 h2 j hj h => by
    by_cases hjk : j = k
    ·subst hjk; exact ⟨h1, h2⟩
    ·exact hin.out j hj (by omega)
   have hno1 : Hid (val.nameB l[k] = false → q = false) := Lib.hid fun h1 => by
    rw [← hq.out]
    unfold unlikeB
    rw [show l.all val.nameB = false by rw [List.all_eq_false]; exact ⟨_, List.getElem_mem hlt, fun h2 => Bool.noConfusion (h1.symm.trans h2)⟩]
    rfl
   have hno2 : Hid (l[k] ∈ l.take k → q = false) := Lib.hid fun h1 => by
    rw [← hq.out]
    unfold unlikeB
    rw [decide_eq_false (not_nodup hlt h1), Bool.and_false]
   obtain ⟨d, hd⟩ : ∃ d, decide (l[k] ∈ l.take k) = d := ⟨_, rfl⟩
   have hdm : Hid (d = true → l[k] ∈ l.take k) := Lib.hid fun h => of_decide_eq_true (hd.trans h)
   have hdn : Hid (d = false → l[k] ∉ l.take k) := Lib.hid fun h => of_decide_eq_false (hd.trans h)
   rw [hd] at hneg
   clear hin hd
   subst hao
   generalize hx : l[k] = s at *
   generalize l.take k = lt at *
   generalize idxI lt s = ix at *
   clear hx
   clear hb
   cases hnb : val.nameB s with
   | false =>
    have hqf := Lib.hid (hno1.out hnb)
    rw [hnb] at hnm
    replace hnm := Lib.hid hnm
    replace hnb := Lib.hid hnb
    clear hix hno1 hno2 hall hdm hdn hneg
    go_wp2_with fail
    refine wp_region_held_drew (S := fun V => Below w.heap.size w V) (by kernel_rfl) hbd.out (fun hS => ?_)
    generalize wr.drew = V0 at *
    refine tkH 0 ?_ rfl (fun w' hS => ?_) hS ?_
    rotate_left
    ·
     have q1 := (stay_of_below hS).cell hck
     go_simp
     try with_reducible rfl
    refine tkH 1 ?_ rfl (fun w' hS => ?_) hS ?_
    rotate_left
    ·
     have q1 := (stay_of_below hS).cell hck
     go_simp
     try with_reducible rfl
    refine tkH 2 ?_ rfl (fun w' hS => ?_) hS ?_
    rotate_left
    ·
     have q1 := (stay_of_below hS).cell hck
     go_simp
     try with_reducible rfl
    refine tkH 3 ?_ rfl (fun w' hS => ?_) hS ?_
    rotate_left
    ·
     have q1 := (stay_of_below hS).cell hck
     go_simp
     try with_reducible rfl
    refine rdH 4 rfl (fun K hK => ?_)
    clear hS
    go_simp
    refine (hnm.out V0).mono ?_
    rintro e w6 ⟨rfl, rfl⟩
    go_wp2_with fail
    refine hK.out _ _ (hbd.out) (fun hS => ?_)
    clear hK K
    try simp only [List.getElem_toArray, List.getElem_cons_succ, List.getElem_cons_zero, Act.put, List.setIfInBounds_toArray, List.set_cons_zero, List.set_cons_succ]
    refine tkH 5 ?_ rfl (fun w' hS => ?_) hS ?_
    rotate_left
    ·
     skip
     go_simp
     try with_reducible rfl
    refine tkH 6 ?_ rfl (fun w' hS => ?_) hS ?_
    rotate_left
    ·
     skip
     go_simp
     try with_reducible rfl
    refine wpAnyH_take (i := 7) (v := undef) rfl (by kernel_rfl) (by kernel_rfl) (by kernel_rfl) (fun _ _ _ h => h) (.inr ⟨by kernel_rfl, rfl⟩) hS ?_
    simp only [List.getElem_toArray, List.getElem_cons_succ, List.getElem_cons_zero, Act.put, List.setIfInBounds_toArray, List.set_cons_zero, List.set_cons_succ]
    refine wpAnyH_take (i := 8) (v := undef) rfl (by kernel_rfl) (by kernel_rfl) (by kernel_rfl) (fun _ _ _ h => h) (.inr ⟨by kernel_rfl, rfl⟩) hS ?_
    simp only [List.getElem_toArray, List.getElem_cons_succ, List.getElem_cons_zero, Act.put, List.setIfInBounds_toArray, List.set_cons_zero, List.set_cons_succ]
    refine wpAnyH_take (i := 9) (v := undef) rfl (by kernel_rfl) (by kernel_rfl) (by kernel_rfl) (fun _ _ _ h => h) (.inr ⟨by kernel_rfl, rfl⟩) hS ?_
    simp only [List.getElem_toArray, List.getElem_cons_succ, List.getElem_cons_zero, Act.put, List.setIfInBounds_toArray, List.set_cons_zero, List.set_cons_succ]
    refine wpAnyH_take (i := 10) (v := undef) rfl (by kernel_rfl) (by kernel_rfl) (by kernel_rfl) (fun _ _ _ h => h) (.inr ⟨by kernel_rfl, rfl⟩) hS ?_
    simp only [List.getElem_toArray, List.getElem_cons_succ, List.getElem_cons_zero, Act.put, List.setIfInBounds_toArray, List.set_cons_zero, List.set_cons_succ]
    refine wpAnyH_take (i := 11) (v := undef) rfl (by kernel_rfl) (by kernel_rfl) (by kernel_rfl) (fun _ _ _ h => h) (.inr ⟨by kernel_rfl, rfl⟩) hS ?_
    simp only [List.getElem_toArray, List.getElem_cons_succ, List.getElem_cons_zero, Act.put, List.setIfInBounds_toArray, List.set_cons_zero, List.set_cons_succ]
    refine wpAnyH_take (i := 12) (v := undef) rfl (by kernel_rfl) (by kernel_rfl) (by kernel_rfl) (fun _ _ _ h => h) (.inr ⟨by kernel_rfl, rfl⟩) hS ?_
    simp only [List.getElem_toArray, List.getElem_cons_succ, List.getElem_cons_zero, Act.put, List.setIfInBounds_toArray, List.set_cons_zero, List.set_cons_succ]
    refine wpAnyH_take (i := 13) (v := undef) rfl (by kernel_rfl) (by kernel_rfl) (by kernel_rfl) (fun _ _ _ h => h) (.inr ⟨by kernel_rfl, rfl⟩) hS ?_
    simp only [List.getElem_toArray, List.getElem_cons_succ, List.getElem_cons_zero, Act.put, List.setIfInBounds_toArray, List.set_cons_zero, List.set_cons_succ]
    refine wpAnyH_take (i := 14) (v := undef) rfl (by kernel_rfl) (by kernel_rfl) (by kernel_rfl) (fun _ _ _ h => h) (.inr ⟨by kernel_rfl, rfl⟩) hS ?_
    simp only [List.getElem_toArray, List.getElem_cons_succ, List.getElem_cons_zero, Act.put, List.setIfInBounds_toArray, List.set_cons_zero, List.set_cons_succ]
    refine wpAnyH_take (i := 15) (v := undef) rfl (by kernel_rfl) (by kernel_rfl) (by kernel_rfl) (fun _ _ _ h => h) (.inr ⟨by kernel_rfl, rfl⟩) hS ?_
    simp only [List.getElem_toArray, List.getElem_cons_succ, List.getElem_cons_zero, Act.put, List.setIfInBounds_toArray, List.set_cons_zero, List.set_cons_succ]
    refine tkH 16 ?_ rfl (fun w' hS => ?_) hS ?_
    rotate_left
    ·
     skip
     go_simp
     try with_reducible rfl
    refine wpAnyH_done (by kernel_rfl) ?_ _
    clear hS
    go_wp2
    go_ret
    exact ⟨ret_bool hqf.out.symm, hbd.out⟩
   | true =>
    rw [hnb] at hnm
    replace hnm := Lib.hid hnm
    replace hix := Lib.hid hix
    cases d with
    | true =>
     have hqf := Lib.hid (hno2.out (hdm.out rfl))
     have h0 : 0 ≤ ix := by
      have : ¬ ix < 0 := by simpa using hneg
      omega
     replace hnb := Lib.hid hnb
     clear hno1 hno2 hall hdm hdn hneg
     go_wp2_with fail
     refine wp_region_held_drew (S := fun V => Below w.heap.size w V) (by kernel_rfl) hbd.out (fun hS => ?_)
     have hixV := Lib.hid (hix.out wr.drew hbd.out)
     generalize wr.drew = V0 at *
     refine tkH 0 ?_ rfl (fun w' hS => ?_) hS ?_
     rotate_left
     ·
      have q1 := (stay_of_below hS).cell hck
      go_simp
      try with_reducible rfl
     refine tkH 1 ?_ rfl (fun w' hS => ?_) hS ?_
     rotate_left
     ·
      have q1 := (stay_of_below hS).cell hck
      go_simp
      try with_reducible rfl
     refine tkH 2 ?_ rfl (fun w' hS => ?_) hS ?_
     rotate_left
     ·
      have q1 := (stay_of_below hS).cell hck
      go_simp
      try with_reducible rfl
     refine tkH 3 ?_ rfl (fun w' hS => ?_) hS ?_
     rotate_left
     ·
      have q1 := (stay_of_below hS).cell hck
      go_simp
      try with_reducible rfl
     refine rdH 4 rfl (fun K hK => ?_)
     clear hS
     go_simp
     refine (hnm.out V0).mono ?_
     rintro e w6 ⟨rfl, rfl⟩
     go_wp2_with fail
     refine hK.out _ _ (hbd.out) (fun hS => ?_)
     clear hK K
     try simp only [List.getElem_toArray, List.getElem_cons_succ, List.getElem_cons_zero, Act.put, List.setIfInBounds_toArray, List.set_cons_zero, List.set_cons_succ]
     refine tkH 5 ?_ rfl (fun w' hS => ?_) hS ?_
     rotate_left
     ·
      have q1 := (stay_of_below hS).cell hck
      go_simp
      try with_reducible rfl
     refine tkH 6 ?_ rfl (fun w' hS => ?_) hS ?_
     rotate_left
     ·
      have q1 := (stay_of_below hS).cell hck
      go_simp
      try with_reducible rfl
     refine tkH 7 ?_ rfl (fun w' hS => ?_) hS ?_
     rotate_left
     ·
      have q1 := (stay_of_below hS).cell hck
      go_simp
      try with_reducible rfl
     refine tkH 8 ?_ rfl (fun w' hS => ?_) hS ?_
     rotate_left
     ·
      have q1 := (stay_of_below hS).cell hck
      go_simp
      try with_reducible rfl
     refine tkH 9 ?_ rfl (fun w' hS => ?_) hS ?_
     rotate_left
     ·
      have q1 := (stay_of_below hS).cell hck
      go_simp
      try with_reducible rfl
     refine tkH 10 ?_ rfl (fun w' hS => ?_) hS ?_
     rotate_left
     ·
      have q1 := (stay_of_below hS).cell hck
      go_simp
      try with_reducible rfl
     refine tkH 11 ?_ rfl (fun w' hS => ?_) hS ?_
     rotate_left
     ·
      have q1 := (stay_of_below hS).cell hck
      go_simp
      try with_reducible rfl
     refine tkH 12 ?_ rfl (fun w' hS => ?_) hS ?_
     rotate_left
     ·
      have q1 := (stay_of_below hS).cell hck
      go_simp
      try with_reducible rfl
     refine tkH 13 ?_ rfl (fun w' hS => ?_) hS ?_
     rotate_left
     ·
      have q1 := (stay_of_below hS).cell hck
      go_simp
      try with_reducible rfl
     refine rdH 14 rfl (fun K hK => ?_)
     clear hS
     go_simp
     refine (hixV.out).mono ?_
     rintro e w7 ⟨rfl, rfl⟩
     go_wp2_with fail
     refine hK.out _ _ (hbd.out) (fun hS => ?_)
     clear hK K
     try simp only [List.getElem_toArray, List.getElem_cons_succ, List.getElem_cons_zero, Act.put, List.setIfInBounds_toArray, List.set_cons_zero, List.set_cons_succ]
     refine tkH 15 ?_ rfl (fun w' hS => ?_) hS ?_
     rotate_left
     ·
      skip
      go_simp
      try with_reducible rfl
     refine tkH 16 ?_ rfl (fun w' hS => ?_) hS ?_
     rotate_left
     ·
      skip
      go_simp
      try with_reducible rfl
     refine wpAnyH_done (by kernel_rfl) ?_ _
     clear hS
     go_wp2
     go_ret
     exact ⟨ret_bool hqf.out.symm, hbd.out⟩
    | false =>
     have hin2 := Lib.hid (hall.out hnb (hdn.out rfl))
     have h0 : ¬ 0 ≤ ix := by
      have : ix < 0 := by simpa using hneg
      omega
     replace hnb := Lib.hid hnb
     clear hno1 hno2 hall hdm hdn hneg
     go_wp2_with fail
     refine wp_region_held_drew (S := fun V => Below w.heap.size w V) (by kernel_rfl) hbd.out (fun hS => ?_)
     have hixV := Lib.hid (hix.out wr.drew hbd.out)
     generalize wr.drew = V0 at *
     refine tkH 0 ?_ rfl (fun w' hS => ?_) hS ?_
     rotate_left
     ·
      have q1 := (stay_of_below hS).cell hck
      go_simp
      try with_reducible rfl
     refine tkH 1 ?_ rfl (fun w' hS => ?_) hS ?_
     rotate_left
     ·
      have q1 := (stay_of_below hS).cell hck
      go_simp
      try with_reducible rfl
     refine tkH 2 ?_ rfl (fun w' hS => ?_) hS ?_
     rotate_left
     ·
      have q1 := (stay_of_below hS).cell hck
      go_simp
      try with_reducible rfl
     refine tkH 3 ?_ rfl (fun w' hS => ?_) hS ?_
     rotate_left
     ·
      have q1 := (stay_of_below hS).cell hck
      go_simp
      try with_reducible rfl
     refine rdH 4 rfl (fun K hK => ?_)
     clear hS
     go_simp
     refine (hnm.out V0).mono ?_
     rintro e w6 ⟨rfl, rfl⟩
     go_wp2_with fail
     refine hK.out _ _ (hbd.out) (fun hS => ?_)
     clear hK K
     try simp only [List.getElem_toArray, List.getElem_cons_succ, List.getElem_cons_zero, Act.put, List.setIfInBounds_toArray, List.set_cons_zero, List.set_cons_succ]
     refine tkH 5 ?_ rfl (fun w' hS => ?_) hS ?_
     rotate_left
     ·
      have q1 := (stay_of_below hS).cell hck
      go_simp
      try with_reducible rfl
     refine tkH 6 ?_ rfl (fun w' hS => ?_) hS ?_
     rotate_left
     ·
      have q1 := (stay_of_below hS).cell hck
      go_simp
      try with_reducible rfl
     refine tkH 7 ?_ rfl (fun w' hS => ?_) hS ?_
     rotate_left
     ·
      have q1 := (stay_of_below hS).cell hck
      go_simp
      try with_reducible rfl
     refine tkH 8 ?_ rfl (fun w' hS => ?_) hS ?_
     rotate_left
     ·
      have q1 := (stay_of_below hS).cell hck
      go_simp
      try with_reducible rfl
     refine tkH 9 ?_ rfl (fun w' hS => ?_) hS ?_
     rotate_left
     ·
      have q1 := (stay_of_below hS).cell hck
      go_simp
      try with_reducible rfl
     refine tkH 10 ?_ rfl (fun w' hS => ?_) hS ?_
     rotate_left
     ·
      have q1 := (stay_of_below hS).cell hck
      go_simp
      try with_reducible rfl
     refine tkH 11 ?_ rfl (fun w' hS => ?_) hS ?_
     rotate_left
     ·
      have q1 := (stay_of_below hS).cell hck
      go_simp
      try with_reducible rfl
     refine tkH 12 ?_ rfl (fun w' hS => ?_) hS ?_
     rotate_left
     ·
      have q1 := (stay_of_below hS).cell hck
      go_simp
      try with_reducible rfl
     refine tkH 13 ?_ rfl (fun w' hS => ?_) hS ?_
     rotate_left
     ·
      have q1 := (stay_of_below hS).cell hck
      go_simp
      try with_reducible rfl
     refine rdH 14 rfl (fun K hK => ?_)
     clear hS
     go_simp
     refine (hixV.out).mono ?_
     rintro e w7 ⟨rfl, rfl⟩
     go_wp2_with fail
     refine hK.out _ _ (hbd.out) (fun hS => ?_)
     clear hK K
     try simp only [List.getElem_toArray, List.getElem_cons_succ, List.getElem_cons_zero, Act.put, List.setIfInBounds_toArray, List.set_cons_zero, List.set_cons_succ]
     refine tkH 15 ?_ rfl (fun w' hS => ?_) hS ?_
     rotate_left
     ·
      skip
      go_simp
      try with_reducible rfl
     refine tkH 16 ?_ rfl (fun w' hS => ?_) hS ?_
     rotate_left
     ·
      skip
      go_simp
      try with_reducible rfl
     refine wpAnyH_done (by kernel_rfl) ?_ _
     clear hS
     go_wp2
     go_roundw
     case rel => exact ⟨k + 1, hk1.out, by go_num, hbd, hin2⟩
     case measure => have := hk1.out; simp [intOf]; omega
  ·have hki : ¬ (k : Int) < (l.length : Int) := by omega
   obtain rfl : k = l.length := by omega
   have hqt : Hid (q = true) := Lib.hid (by
    rw [← hq.out]
    unfold unlikeB
    rw [decide_eq_true (nodup_of fun j hj => (hin.out j hj hj).2), Bool.and_true, List.all_eq_true]
    intro s hs
    obtain ⟨j, hj, rfl⟩ := List.getElem_of_mem hs
    exact (hin.out j hj hj).1)
   clear hin
   go_wp2
   go_ret
   exact ⟨ret_bool hqt.out.symm, hb.out⟩
end Go.Proofs.YtidplkfhodpdhaaGreatDoor.tab
namespace Go.Proofs.YtidplkfhodpdhaaGreatDoor.tab
open Go.ChangeShapes Go.WideShapes Go.ChangeAt Go.RowKit kit dec val
open hyp (RowA TextsA CellsStay stay_of_below textsV textsV_length own_row)
set_option linter.unusedVariables false
set_option linter.unusedSimpArgs false
theorem mayT_row {t : Tab} {j : Nat} (hj : j < t.rows.length) (h : rowB t.vars.length t.rows[j] = false) : mayT t = false := by
 apply Bool.eq_false_iff.2
 intro h2
 rw [(may_rows h2).2 _ (List.getElem_mem hj)] at h
 cases h
theorem names_unlike (l : List ByteArray) : namesB l = (decide (l.length ≤ 64) && unlikeB l) := by unfold namesB unlikeB; rw [Bool.and_assoc]
set_option maxRecDepth 100000 in
set_option maxHeartbeats 4000000 in
theorem refMay_any (N : Nat) (hN : N ≤ 1048576) (w : World) (v : Value) (t : Tab) (hT : TabA w N v t) (hv64 : t.vars.length ≤ 1048576) (hr64 : t.rows.length ≤ 1048576) :
 Calls Tryz.prog 10 #[v] w fun e w' => e = .returned (.bool (mayT t)) ∧ Below w.heap.size w w' := by
 obtain ⟨vv, rv, rfl, hV, hR⟩ := hT.ex
 have hal : Below w.heap.size w (w.alloc (.cells #[vv, rv] 25)) := (Below.refl _ _).alloc (Nat.le_refl _) _
 have hq := Blk.new w #[vv, rv] 25
 have hun := unlike_any (w.alloc (.cells #[vv, rv] 25)) vv t.vars (TextsA.below hV hal) hv64
 obtain ⟨av, cv, rfl, -⟩ := hV.form
 obtain ⟨ar, cr, rfl, hlc, hrc⟩ := (hR.stay hal).form
 obtain ⟨q, hqd⟩ : ∃ q, mayT t = q := ⟨_, rfl⟩
 have hq1 : Hid (64 < t.vars.length → q = false) := Lib.hid fun h => by rw [← hqd]; unfold mayT namesB; rw [decide_eq_false (by omega)]; rfl
 have hq1b : Hid (unlikeB t.vars = false → q = false) := Lib.hid fun h => by rw [← hqd]; unfold mayT; rw [names_unlike, h, Bool.and_false]; rfl
 have hq2 : Hid (∀ j (hj : j < t.rows.length), rowB t.vars.length t.rows[j] = false → q = false) := Lib.hid fun j hj h => by rw [← hqd]; exact mayT_row hj h
 have hq3 : Hid (t.vars.length ≤ 64 → unlikeB t.vars = true → (∀ j (hj : j < t.rows.length), rowB t.vars.length t.rows[j] = true) → q = true) := Lib.hid fun h1 h1b h2 => by
  rw [← hqd]
  unfold mayT
  rw [names_unlike, decide_eq_true h1, h1b, Bool.true_and, Bool.true_and, List.all_eq_true]
  intro r hr
  obtain ⟨j, hj, rfl⟩ := List.getElem_of_mem hr
  exact h2 j hj
 rw [hqd]
 have x0 := hq.cell 0 rfl
 have x1 := hq.cell 1 rfl
 have hal2 := Lib.hid hal
 replace hrc := Lib.hid hrc
 replace hun := Lib.hid hun
 generalize unlikeB t.vars = nb at *
 clear hal hT hV hR hq hqd hlc
 go_enter Tryz.func10, Tryz.ntmps10
 by_cases h64 : 64 < t.vars.length
 ·have h64i : (64 : Int) < (t.vars.length : Int) := by omega
  have hz := hq1.out h64
  clear hun
  replace hz := Lib.hid hz
  go_wp2
  go_ret
  exact ⟨ret_bool hz.out.symm, hal2.out⟩
 have h64i : ¬ (64 : Int) < (t.vars.length : Int) := by omega
 go_wp2_with fail
 generalize w.alloc (.cells #[.slice av t.vars.length cv, .slice ar t.rows.length cr] 25) = w1 at *
 refine hun.out.mono ?_
 rintro e w2 ⟨rfl, hb2⟩
 have hB2 := Lib.hid (hal2.out.trans (hb2.mono hal2.out.size))
 have hb2h := Lib.hid hb2
 replace x0 := (stay_of_below hb2).cell x0
 replace x1 := (stay_of_below hb2).cell x1
 clear hun hb2
 cases nb with
 | false =>
  have hz := hq1b.out rfl
  replace hz := Lib.hid hz
  go_wp2
  go_ret
  exact ⟨ret_bool hz.out.symm, hB2.out⟩
 | true =>
  have hq4 := Lib.hid (hq3.out (by omega) rfl)
  have x0h := Lib.hid x0
  have x1h := Lib.hid x1
  clear hq1 hq1b hq3 x0 x1
  go_wp2
  go_loopw [3] (fun i wr => ∃ k : Nat, k ≤ t.rows.length ∧ i = .int .i64 (k : Int) ∧ Hid (Below w2.heap.size w2 wr) ∧ Hid (∀ j (hj : j < t.rows.length), j < k → rowB t.vars.length t.rows[j] = true)) (fun i _ => t.rows.length - (intOf i).toNat)
  case atStart => exact ⟨0, by omega, rfl, Lib.hid (Below.refl _ _), Lib.hid fun j _ h => by omega⟩
  case round =>
   obtain ⟨k, hk, rfl, hb, hall⟩ := hrel
   obtain ⟨w5, rfl⟩ : ∃ w5 : World, w5 = wr := ⟨_, rfl⟩
   have x0 := (stay_of_below hb.out).cell x0h.out
   have x1 := (stay_of_below hb.out).cell x1h.out
   by_cases hlt : k < t.rows.length
   ·have hki : (k : Int) < (t.rows.length : Int) := by omega
    have hk1 := Lib.hid (show k + 1 ≤ t.rows.length from hlt)
    have hb12 := hb2h.out.trans (hb.out.mono hb2h.out.size)
    obtain ⟨b, off, a, c, rfl, hbl, hcell, hla⟩ := hrc.out k hlt
    replace hcell := (stay_of_below hb12).cell hcell
    replace hla := Lib.hid (hla.stay hb12)
    have hno : Hid (rowB t.vars.length t.rows[k] = false → q = false) := Lib.hid fun h => hq2.out k hlt h
    have hall2 : Hid (rowB t.vars.length t.rows[k] = true → ∀ j (hj : j < t.rows.length), j < k + 1 → rowB t.vars.length t.rows[j] = true) := Lib.hid fun h j hj hjk => by
     by_cases he : j = k
     ·subst he; exact h
     ·exact hall.out j hj (by omega)
    clear hall hb12 hbl
    generalize t.rows[k] = r at *
    have hdw : Below w5.heap.size w5 w5.drew := below_drewN (Below.refl _ _) 1
    have hbd := hb.out.trans (hdw.mono hb.out.size)
    have hbd2 := hb2h.out.trans (hbd.mono hb2h.out.size)
    have hB5 := Lib.hid (hal2.out.trans (hbd2.mono hal2.out.size))
    have z0 := (stay_of_below hdw).cell x0
    have z1 := (stay_of_below hdw).cell x1
    have z2 := (stay_of_below hdw).cell hcell
    have hla2 := Lib.hid (hla.out.stay hdw)
    replace hbd := Lib.hid hbd
    have hrl : ((r.length : Int) != (t.vars.length : Int)) = !decide (r.length = t.vars.length) := by
     by_cases h : r.length = t.vars.length
     ·rw [h]; simp
     ·rw [decide_eq_false h]; simp; omega
    obtain ⟨ql, hql⟩ : ∃ ql, (!decide (r.length = t.vars.length)) = ql := ⟨_, rfl⟩
    rw [hql] at hrl
    replace hql := Lib.hid hql
    clear hb hla hbd2
    go_upto_region 6 with fail
    refine wp_region_held_drew (S := fun V => Below w5.heap.size w5 V) (by kernel_rfl) hdw (fun hS => ?_)
    generalize w5.drew = V0 at *
    refine tkH 0 ?_ rfl (fun w' hS => ?_) hS ?_
    rotate_left
    ·
     have p0 := (stay_of_below hS).cell x0; have p1 := (stay_of_below hS).cell x1; have p2 := (stay_of_below hS).cell hcell
     go_simp
     try with_reducible rfl
    refine tkH 1 ?_ rfl (fun w' hS => ?_) hS ?_
    rotate_left
    ·
     have p0 := (stay_of_below hS).cell x0; have p1 := (stay_of_below hS).cell x1; have p2 := (stay_of_below hS).cell hcell
     go_simp
     try with_reducible rfl
    refine tkH 2 ?_ rfl (fun w' hS => ?_) hS ?_
    rotate_left
    ·
     have p0 := (stay_of_below hS).cell x0; have p1 := (stay_of_below hS).cell x1; have p2 := (stay_of_below hS).cell hcell
     go_simp
     try with_reducible rfl
    refine tkH 3 ?_ rfl (fun w' hS => ?_) hS ?_
    rotate_left
    ·
     have p0 := (stay_of_below hS).cell x0; have p1 := (stay_of_below hS).cell x1; have p2 := (stay_of_below hS).cell hcell
     go_simp
     try with_reducible rfl
    refine tkH 4 ?_ rfl (fun w' hS => ?_) hS ?_
    rotate_left
    ·
     have p0 := (stay_of_below hS).cell x0; have p1 := (stay_of_below hS).cell x1; have p2 := (stay_of_below hS).cell hcell
     go_simp
     try with_reducible rfl
    refine tkH 5 ?_ rfl (fun w' hS => ?_) hS ?_
    rotate_left
    ·
     have p0 := (stay_of_below hS).cell x0; have p1 := (stay_of_below hS).cell x1; have p2 := (stay_of_below hS).cell hcell
     go_simp
     try with_reducible rfl
    refine tkH 6 ?_ rfl (fun w' hS => ?_) hS ?_
    rotate_left
    ·
     have p0 := (stay_of_below hS).cell x0; have p1 := (stay_of_below hS).cell x1; have p2 := (stay_of_below hS).cell hcell
     go_simp
     try with_reducible rfl
    refine tkH 7 ?_ rfl (fun w' hS => ?_) hS ?_
    rotate_left
    ·
     have p0 := (stay_of_below hS).cell x0; have p1 := (stay_of_below hS).cell x1; have p2 := (stay_of_below hS).cell hcell
     go_simp
     try with_reducible rfl
    refine tkH 8 ?_ rfl (fun w' hS => ?_) hS ?_
    rotate_left
    ·
     have p0 := (stay_of_below hS).cell x0; have p1 := (stay_of_below hS).cell x1; have p2 := (stay_of_below hS).cell hcell
     go_simp
     try with_reducible rfl
    refine tkH 9 ?_ rfl (fun w' hS => ?_) hS ?_
    rotate_left
    ·
     have p0 := (stay_of_below hS).cell x0; have p1 := (stay_of_below hS).cell x1; have p2 := (stay_of_below hS).cell hcell
     go_simp
     try with_reducible rfl
    refine wpAnyH_done (by kernel_rfl) ?_ _
    clear hS x0 x1 hcell
    cases ql with
    | true =>
     have hne : r.length ≠ t.vars.length := of_decide_eq_false (by have := hql.out; simpa using this)
     have hz := hno.out (by unfold rowB; rw [decide_eq_false hne]; rfl)
     clear hne
     replace hz := Lib.hid hz
     go_wp2
     go_ret
     exact ⟨ret_bool hz.out.symm, hB5.out⟩
    | false =>
     have hle : r.length = t.vars.length := of_decide_eq_true (by have := hql.out; simpa using this)
     have hle2 := Lib.hid hle
     have z0h := Lib.hid z0
     have z1h := Lib.hid z1
     have z2h := Lib.hid z2
     clear hle z0 z1 z2
     go_wp2
     go_loopw [4] (fun j wr => ∃ m : Nat, m ≤ t.vars.length ∧ j = .int .i64 (m : Int) ∧ Hid (Below V0.heap.size V0 wr) ∧ Hid (∀ j (hj : j < r.length), j < m → mayV r[j] = true)) (fun j _ => t.vars.length - (intOf j).toNat)
     case atStart => exact ⟨0, by omega, rfl, Lib.hid (Below.refl _ _), Lib.hid fun j _ h => by omega⟩
     case round =>
      obtain ⟨m, hm, rfl, hb, hin⟩ := hrel
      have z0 := (stay_of_below hb.out).cell z0h.out
      have z1 := (stay_of_below hb.out).cell z1h.out
      have z2 := (stay_of_below hb.out).cell z2h.out
      by_cases hlm : m < t.vars.length
      ·have hmi : (m : Int) < (t.vars.length : Int) := by omega
       have hmr : m < r.length := by rw [hle2.out]; exact hlm
       have hmri : (m : Int) < (r.length : Int) := by omega
       have hm1 := Lib.hid (show m + 1 ≤ t.vars.length from hlm)
       obtain ⟨g4, o4, k4, bo4, n4, t4, x4, l4, aoE, capE, rfl, he, hr, hok, hsl⟩ := la_at (hla2.out.stay hb.out) m hmr
       obtain ⟨y0, y1, y2, y3, y4, y5⟩ := hr.six
       have hcl := val.rMay_call N hN wr k4 bo4 n4 t4 x4 _ l4 hsl hok.2.2.1 hok.2.2.2
       unfold agg6 at hcl
       have hok1 : Hid (mayV (.mk k4 bo4 n4 t4 x4 l4) = true → ∀ j (hj : j < r.length), j < m + 1 → mayV r[j] = true) := Lib.hid fun h j hj hjm => by
        by_cases hje : j = m
        ·subst hje
         have h2 : r[j] = .mk k4 bo4 n4 t4 x4 l4 := he
         rw [h2]; exact h
        ·exact hin.out j hj (by omega)
       have hno1 : Hid (mayV (.mk k4 bo4 n4 t4 x4 l4) = false → q = false) := Lib.hid fun h => hno.out (by
        unfold rowB
        rw [Bool.and_eq_false_iff]
        refine .inr ?_
        rw [List.all_eq_false]
        exact ⟨r[m], List.getElem_mem hmr, by rw [he, h]; decide⟩)
       generalize mayV (.mk k4 bo4 n4 t4 x4 l4) = c at *
       replace hcl := Lib.hid hcl
       clear hin he hr hok hsl
       go_wp2_with fail
       refine hcl.out.mono ?_
       rintro e w7 ⟨rfl, hb7⟩
       have hb8 := Lib.hid (hb.out.trans (hb7.mono hb.out.size))
       clear hb7 hcl y0 y1 y2 y3 y4 y5 z0 z1 z2 hb
       cases c with
       | false =>
        have hz := hno1.out rfl
        have hfin := Lib.hid (hB5.out.trans (hb8.out.mono hB5.out.size))
        replace hz := Lib.hid hz
        go_wp2
        go_ret
        exact ⟨ret_bool hz.out.symm, hfin.out⟩
       | true =>
        have hin2 := Lib.hid (hok1.out rfl)
        clear hok1 hno1
        go_wp2
        go_roundw
        case rel => exact ⟨m + 1, hm1.out, by go_num, hb8, hin2⟩
        case measure => have := hm1.out; simp [intOf]; omega
      ·have hmi : ¬ (m : Int) < (t.vars.length : Int) := by omega
       obtain rfl : m = t.vars.length := by omega
       have hall3 := Lib.hid (hall2.out (by
        unfold rowB
        rw [decide_eq_true hle2.out, Bool.true_and, List.all_eq_true]
        intro v hv
        obtain ⟨j, hj, rfl⟩ := List.getElem_of_mem hv
        exact hin.out j hj (by rw [← hle2.out]; exact hj)))
       have hbk := Lib.hid (hbd.out.trans (hb.out.mono hbd.out.size))
       clear hin
       go_wp2
       go_roundw
       case rel => exact ⟨k + 1, hk1.out, by go_num, hbk, hall3⟩
       case measure => have := hk1.out; simp [intOf]; omega
   ·have hki : ¬ (k : Int) < (t.rows.length : Int) := by omega
    obtain rfl : k = t.rows.length := by omega
    have hz := hq4.out (fun j hj => hall.out j hj hj)
    have hfin := Lib.hid (hB2.out.trans (hb.out.mono hB2.out.size))
    clear hall
    replace hz := Lib.hid hz
    go_wp2
    go_ret
    exact ⟨ret_bool hz.out.symm, hfin.out⟩
end Go.Proofs.YtidplkfhodpdhaaGreatDoor.tab
namespace Go.Proofs.YtidplkfhodpdhaaGreatDoor.tab
open Go.ChangeShapes Go.WideShapes Go.ChangeAt Go.RowKit kit dec val
open hyp (RowA TextsA CellsStay stay_of_below textsV textsV_length own_row)
set_option linter.unusedVariables false
set_option linter.unusedSimpArgs false
theorem TwoA.stay {W W' : World} {N : Nat} {v va ra vb rb vv nv : Value} {A B : Tab} {X : List ByteArray} {lang : Int} {L : List Int} (h : TwoA W N v va ra vb rb vv nv A B X lang L) (hb : Below W.heap.size W W') : TwoA W' N v va ra vb rb vv nv A B X lang L :=
 ⟨h.eq, TextsA.below h.av hb, h.ar.stay hb, TextsA.below h.bv hb, h.br.stay hb, TextsA.below h.xs hb, (h.ns.stay (stay_of_below hb)).mono hb.size, h.few, h.lwf⟩
theorem TwoA.tabA {W : World} {N : Nat} {v va ra vb rb vv nv : Value} {A B : Tab} {X : List ByteArray} {lang : Int} {L : List Int} (h : TwoA W N v va ra vb rb vv nv A B X lang L) : TabA W N (.agg #[va, ra]) A := ⟨_, _, rfl, h.av, h.ar⟩
theorem TwoA.tabB {W : World} {N : Nat} {v va ra vb rb vv nv : Value} {A B : Tab} {X : List ByteArray} {lang : Int} {L : List Int} (h : TwoA W N v va ra vb rb vv nv A B X lang L) : TabA W N (.agg #[vb, rb]) B := ⟨_, _, rfl, h.bv, h.br⟩
def mayL (A B : Tab) : Bool := lightT A B && (mayT A && (mayT B && (decide (A.vars.length + B.vars.length ≤ 64) && decide (A.rows.length * B.rows.length ≤ 900))))
theorem may_parts {A B : Tab} (h : mayL A B = true) : mayT A = true ∧ mayT B = true ∧ A.vars.length + B.vars.length ≤ 64 ∧ A.rows.length * B.rows.length ≤ 900 ∧ A.rows.length ≤ 60 ∧ B.rows.length ≤ 60 := by
 unfold mayL at h
 simp only [Bool.and_eq_true, decide_eq_true_eq] at h
 obtain ⟨h1, h2, h3, h4, h5⟩ := h
 have := light_parts h1
 exact ⟨h2, h3, h4, h5, this.1, this.2.1⟩
set_option maxRecDepth 100000 in
set_option maxHeartbeats 4000000 in
theorem lmay_any (w : World) (v va ra vb rb vv nv : Value) (A B : Tab) (X : List ByteArray) (lang : Int) (L : List Int) (hT : TwoA w 1048576 v va ra vb rb vv nv A B X lang L) :
 Calls Tryz.prog 41 #[v] w fun e w' => e = .returned (.bool (mayL A B)) ∧ Below w.heap.size w w' := by
 obtain ⟨av, cv, hav, -⟩ := hT.av.form
 obtain ⟨ar, cr, har, -, -⟩ := hT.ar.form
 obtain ⟨bv, dv, hbv, -⟩ := hT.bv.form
 obtain ⟨br, dr, hbr, -, -⟩ := hT.br.form
 obtain ⟨xv, ex, hxv, -⟩ := hT.xs.form
 obtain ⟨nv, en, hnv, -, -⟩ := hT.ns.form
 rw [hyp.numsV_length] at hnv
 subst hav har hbv hbr hxv hnv
 have hveq := hT.eq
 subst hveq
 have hfew := hT.few
 have hq := Blk.new w #[.slice av A.vars.length cv, .slice ar A.rows.length cr, .slice bv B.vars.length dv, .slice br B.rows.length dr, .slice xv X.length ex, .int .i64 lang, .slice nv L.length en] 42
 have hal : Below w.heap.size w (w.alloc (.cells #[.slice av A.vars.length cv, .slice ar A.rows.length cr, .slice bv B.vars.length dv, .slice br B.rows.length dr, .slice xv X.length ex, .int .i64 lang, .slice nv L.length en] 42)) := (Below.refl _ _).alloc (Nat.le_refl _) _
 have cL := Lib.hid (light9_any _ 1048576 (by omega) _ _ _ _ _ _ _ A B X lang L (hT.stay hal))
 have cA := Lib.hid (fun V (h : Below w.heap.size w V) h1 h2 => refMay_any 1048576 (by omega) V _ A (hT.stay h).tabA h1 h2)
 have cB := Lib.hid (fun V (h : Below w.heap.size w V) h1 h2 => refMay_any 1048576 (by omega) V _ B (hT.stay h).tabB h1 h2)
 have x0 := hq.cell 0 rfl
 have x1 := hq.cell 1 rfl
 have x2 := hq.cell 2 rfl
 have x3 := hq.cell 3 rfl
 have x4 := hq.cell 4 rfl
 have x5 := hq.cell 5 rfl
 have x6 := hq.cell 6 rfl
 obtain ⟨q, hqd⟩ : ∃ q, mayL A B = q := ⟨_, rfl⟩
 rw [hqd]
 have hqq : Hid (q = (lightT A B && (mayT A && (mayT B && (decide (A.vars.length + B.vars.length ≤ 64) && decide (A.rows.length * B.rows.length ≤ 900)))))) := Lib.hid hqd.symm
 replace hal := Lib.hid hal
 clear hq hqd hT
 go_enter Tryz.func41, Tryz.ntmps41
 go_wp2_with fail
 refine cL.out.mono ?_
 rintro e w2 ⟨rfl, hb2⟩
 replace x0 := (stay_of_below hb2).cell x0
 replace x1 := (stay_of_below hb2).cell x1
 replace x2 := (stay_of_below hb2).cell x2
 replace x3 := (stay_of_below hb2).cell x3
 replace x4 := (stay_of_below hb2).cell x4
 replace x5 := (stay_of_below hb2).cell x5
 replace x6 := (stay_of_below hb2).cell x6
 have hB2 := hal.out.trans (hb2.mono hal.out.size)
 cases hl : lightT A B with
 | false =>
  have hz : q = false := by rw [hqq.out, hl]; rfl
  replace hB2 := Lib.hid hB2
  clear cA cB cL hb2 hal
  replace hz := Lib.hid hz
  go_wp2
  go_ret
  exact ⟨ret_bool hz.out.symm, hB2.out⟩
 | true =>
  obtain ⟨l1, l2, l3, l4⟩ := light_parts hl
  have cA2 := Lib.hid (cA.out w2 hB2 (by omega) (by omega))
  replace hB2 := Lib.hid hB2
  replace hl := Lib.hid hl
  clear cL cA hb2 hal
  go_wp2_with fail
  refine cA2.out.mono ?_
  rintro e w3 ⟨rfl, hb3⟩
  replace x0 := (stay_of_below hb3).cell x0
  replace x1 := (stay_of_below hb3).cell x1
  replace x2 := (stay_of_below hb3).cell x2
  replace x3 := (stay_of_below hb3).cell x3
  replace x4 := (stay_of_below hb3).cell x4
  replace x5 := (stay_of_below hb3).cell x5
  replace x6 := (stay_of_below hb3).cell x6
  have hB3 := hB2.out.trans (hb3.mono hB2.out.size)
  cases hmA : mayT A with
  | false =>
   have hz : q = false := by rw [hqq.out, hl.out, hmA]; rfl
   replace hB3 := Lib.hid hB3
   clear cA2 cB hb3 hB2
   replace hz := Lib.hid hz
   go_wp2
   go_ret
   exact ⟨ret_bool hz.out.symm, hB3.out⟩
  | true =>
   have cB2 := Lib.hid (cB.out w3 hB3 (by omega) (by omega))
   replace hB3 := Lib.hid hB3
   clear cA2 cB hb3 hB2
   go_wp2_with fail
   refine cB2.out.mono ?_
   rintro e w4 ⟨rfl, hb4⟩
   replace x0 := (stay_of_below hb4).cell x0
   replace x1 := (stay_of_below hb4).cell x1
   replace x2 := (stay_of_below hb4).cell x2
   replace x3 := (stay_of_below hb4).cell x3
   replace x4 := (stay_of_below hb4).cell x4
   replace x5 := (stay_of_below hb4).cell x5
   replace x6 := (stay_of_below hb4).cell x6
   have hB4 := Lib.hid (hB3.out.trans (hb4.mono hB3.out.size))
   clear cB2 hb4 hB3
   cases hmB : mayT B with
   | false =>
    have hz : q = false := by rw [hqq.out, hl.out, hmA, hmB]; rfl
    replace hz := Lib.hid hz
    go_wp2
    go_ret
    exact ⟨ret_bool hz.out.symm, hB4.out⟩
   | true =>
    have hz0 : q = (decide (A.vars.length + B.vars.length ≤ 64) && decide (A.rows.length * B.rows.length ≤ 900)) := by rw [hqq.out, hl.out, hmA, hmB]; rfl
    have hs1 : IntKind.i64.wrap ((A.vars.length : Int) + (B.vars.length : Int)) = (A.vars.length : Int) + (B.vars.length : Int) := IntWalk.i64_in _ (by omega)
    have hs1b : wrap64 ((A.vars.length : Int) + (B.vars.length : Int)) = (A.vars.length : Int) + (B.vars.length : Int) := IntWalk.wrap64_in _ (by omega)
    have hp : A.rows.length * B.rows.length ≤ 60 * 60 := Nat.mul_le_mul l1 l2
    obtain ⟨pr, hpr⟩ : ∃ pr, A.rows.length * B.rows.length = pr := ⟨_, rfl⟩
    have hpi : (A.rows.length : Int) * (B.rows.length : Int) = (pr : Int) := by rw [← hpr]; simp
    have hs2 : IntKind.i64.wrap ((A.rows.length : Int) * (B.rows.length : Int)) = (pr : Int) := by rw [hpi]; exact IntWalk.i64_in _ (by omega)
    have hs2b : wrap64 ((A.rows.length : Int) * (B.rows.length : Int)) = (pr : Int) := by rw [hpi]; exact IntWalk.wrap64_in _ (by omega)
    rw [hpr] at hz0
    replace hpr := Lib.hid hpr
    replace hpi := Lib.hid hpi
    by_cases h64 : A.vars.length + B.vars.length ≤ 64
    case neg =>
     have hz : q = false := by rw [hz0, decide_eq_false h64]; rfl
     have h64i : ¬ ((A.vars.length : Int) + (B.vars.length : Int) ≤ 64) := by omega
     clear hz0
     replace hz := Lib.hid hz
     go_wp2
     go_ret
     exact ⟨ret_bool hz.out.symm, hB4.out⟩
    have h64i : (A.vars.length : Int) + (B.vars.length : Int) ≤ 64 := by omega
    have hz : q = decide ((pr : Int) ≤ 900) := by
     rw [hz0, decide_eq_true h64, Bool.true_and, decide_eq_decide]
     exact ⟨fun h => (Int.ofNat_le.2 h : (pr : Int) ≤ ((900 : Nat) : Int)), fun h => Int.ofNat_le.1 (h : (pr : Int) ≤ ((900 : Nat) : Int))⟩
    clear hz0 hp
    replace hz := Lib.hid hz
    go_wp2
    go_ret
    exact ⟨ret_bool hz.out.symm, hB4.out⟩
end Go.Proofs.YtidplkfhodpdhaaGreatDoor.tab
