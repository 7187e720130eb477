/- Rows of sets that are written; the contracts of Clone and Delete (turned from the shelf's, which has them of ints and strings). -/
import Derived.Test.YtnocncmjdhlmkaaHRead2
import Derived.Lib.SlicesDelete
import Derived.Lib.SliceRun
import Derived.Deep.RegionLaw
import Derived.Sort.Row
namespace Go.Proofs.Ytnocncmjdhlmkaa.hyp
open Go.ChangeShapes Go.WideShapes Go.ChangeAt Go.RowKit kit Go.Lib Go.Sort
set_option linter.unusedVariables false
set_option linter.unusedSimpArgs false
def encU (s : Nat) : Value := .int .u16 (s : Int)
/-- A row of sets of one's own: v is the slice, in block b if it holds any. -/
def MRow (w : World) (b : Nat) (v : Value) (L : List Nat) : Prop :=
  ∃ cap, L.length ≤ cap ∧ cap ≤ 9223372036854775807 ∧ ((L = [] ∧ ∃ ao, v = .slice ao 0 cap) ∨ (v = .slice (some ⟨b, 0, none⟩) L.length cap ∧ b < w.heap.size ∧ Holds encU w b 0 L.toArray))
theorem MRow.cell {w : World} {b : Nat} {v : Value} {L : List Nat} (h : MRow w b v L) (hn : 0 < L.length) : ∃ cap, L.length ≤ cap ∧ cap ≤ 9223372036854775807 ∧ v = .slice (some ⟨b, 0, none⟩) L.length cap ∧ b < w.heap.size ∧ Holds encU w b 0 L.toArray := by
  obtain ⟨cap, h1, h2, h3⟩ := h
  rcases h3 with ⟨h4, _⟩ | ⟨h4, h5, h6⟩
  · rw [h4] at hn; simp at hn
  · exact ⟨cap, h1, h2, h4, h5, h6⟩
theorem MRow.nil {w : World} {b : Nat} {v : Value} (h : MRow w b v []) (b' : Nat) : MRow w b' v [] := by
  obtain ⟨cap, h1, h2, h3⟩ := h
  rcases h3 with ⟨_, h5⟩ | ⟨h4, _⟩
  · exact ⟨cap, h1, h2, .inl ⟨rfl, h5⟩⟩
  · exact ⟨cap, h1, h2, .inl ⟨rfl, _, h4⟩⟩
theorem MRow.form {w : World} {b : Nat} {v : Value} {L : List Nat} (h : MRow w b v L) : ∃ ao cap, v = .slice ao L.length cap := by
  obtain ⟨cap, h1, h2, h3⟩ := h
  rcases h3 with ⟨h4, ao, h5⟩ | ⟨h4, _⟩
  · exact ⟨ao, cap, by rw [h5, h4]; rfl⟩
  · exact ⟨_, cap, h4⟩
theorem holds_at {w : World} {b : Nat} {L : List Nat} (h : Holds encU w b 0 L.toArray) {j : Nat} (hj : j < L.length) : w.cell? ⟨b, j, none⟩ = some (.int .u16 ((L[j] : Nat) : Int)) ∧ w.frozen? ⟨b, j, none⟩ = false := by
  have h1 := h j (by simpa using hj)
  rw [Nat.zero_add] at h1
  refine ⟨?_, h1.2⟩
  rw [h1.1, getElem!_pos L.toArray j (by simpa using hj)]
  simp [encU]
/-- One set is written. -/
theorem MRow.set {w : World} {b : Nat} {v : Value} {L : List Nat} (h : MRow w b v L) {j x : Nat} (hj : j < L.length) : MRow (w.setCell ⟨b, j, none⟩ (.int .u16 (x : Int))) b v (L.set j x) := by
  obtain ⟨cap, h1, h2, rfl, h4, h5⟩ := h.cell (by omega)
  refine ⟨cap, by simpa using h1, h2, .inr ⟨by rw [List.length_set], by simpa using h4, fun k hk => ?_⟩⟩
  have hk2 : k < L.length := by simpa using hk
  rw [Nat.zero_add]
  have h6 := holds_at h5 hk2
  refine ⟨?_, by rw [World.frozen?_setCell]; exact h6.2⟩
  rw [getElem!_pos (L.set j x).toArray k hk]
  by_cases hkj : k = j
  · subst hkj
    rw [World.cell?_setCell_same w _ _ h6.1]
    simp [encU]
  · rw [World.cell?_setCell_other w _ _ _ (by simp [Ne.symm hkj]), h6.1]
    simp [encU, List.getElem_set, Ne.symm hkj]
theorem Keep.setAt (w : World) (b j : Nat) (u : Value) : Keep [b] w (w.setCell ⟨b, j, none⟩ u) := (Keep.refl [b] w).setCell (fun _ => by simp) u
theorem zeroSV (w : World) : (zeroValue 57).run Try.prog w = .ok (.int .u16 0) w := by kernel_rfl
/-- A row of one's own as a row of sets. -/
theorem MRow.own {w : World} {B : Nat} {v : Value} {L : List Nat} (h : w.ownsRow B 57 1 v L.length (masksV L)) : ∃ b, B ≤ b ∧ MRow w b v L ∨ L = [] ∧ MRow w b v L := by
  rcases h.2 with ⟨hv, hn⟩ | ⟨g, cap, cur, hv, hg, hh, hc, hm, hs, ht⟩
  · refine ⟨0, .inr ⟨List.eq_nil_of_length_eq_zero hn, 0, by omega, by omega, .inl ⟨List.eq_nil_of_length_eq_zero hn, none, hv⟩⟩⟩
  · subst hv
    refine ⟨g, .inl ⟨hg, cap, hc, by unfold maxLen at hm; omega, .inr ⟨rfl, (Array.getElem?_eq_some_iff.1 hh).1, fun j hj => ?_⟩⟩⟩
    have hj2 : j < L.length := by simpa using hj
    rw [Nat.zero_add]
    refine ⟨?_, frozen_of_row w g j cur 57 hh⟩
    rw [h.cellAt j (by omega), getElem!_pos L.toArray j hj]
    simp [masksV, encU, hj2]
set_option maxRecDepth 100000 in
set_option maxHeartbeats 2000000 in
theorem clone_any (w : World) (ao : Option Addr) (cap : Nat) (L : List Nat) (hl : L.length ≤ 8) (hR : RowA w w.heap.size (.slice ao L.length cap) (masksV L)) :
    Calls Try.prog 31 #[.slice ao L.length cap] w fun e w' => ∃ b v, e = .returned v ∧ Below w.heap.size w w' ∧ MRow w' b v L ∧ w.heap.size ≤ b := by
  obtain ⟨i0, hi, hz0, hz1, hz2⟩ := info_parts infoSV
  have q22 : ∀ (w : World) (a : Option Addr) (n c n' c' : Nat), (binOp .eql 59 (.slice a n c) (.slice none n' c')).run Try.prog w = .ok (.bool a.isNone) w := fun w a n c n' c' => Lib.run_eql_slice_nil w _ _ a n c n' c' Try.underlying59
  by_cases h0 : L = []
  · subst h0
    cases ao with
    | none =>
      clear hR
      go_enter Try.func31, Try.ntmps31
      go_wp2
      go_ret
      exact ⟨w.heap.size, _, rfl, Below.refl _ _, ⟨0, by simp, by omega, .inl ⟨rfl, none, rfl⟩⟩, Nat.le_refl _⟩
    | some a =>
      clear hR
      go_enter Try.func31, Try.ntmps31
      go_wp2_with (at_builtin; refine wpList_append_own _ rfl _ _ 59 rfl w.heap.size 57 i0 (.int .u16 0) 1 2 Try.underlying59 hi hz0 hz1 hz2 rfl (by decide) _ _ _ rfl (World.ownsRow_made w #[] 0 (Nat.le_refl _) (Nat.zero_le _) rfl) a 0 cap [] rfl rfl ?e2 ?e3 ?e4 ?e5 ?e6 ?_)
      case e2 => intro j u hj; simp at hj
      case e3 => intro u hu; cases hu
      case e4 => simp [maxLen]
      case e5 => omega
      case e6 => simp
      intro v' w1 hown hgrow hnil
      go_wp2
      go_ret
      have hbl : Below w.heap.size w w1 := ((Below.refl _ w).alloc (Nat.le_refl _) _).grown hgrow (by simp) (by intro k hk; simp [Value.ownBlock] at hk; omega)
      have hown2 : w1.ownsRow w.heap.size 57 1 v' ([] : List Nat).length (masksV []) := by simpa [masksV] using hown
      obtain ⟨b, h1⟩ := MRow.own hown2
      rcases h1 with ⟨h2, h3⟩ | ⟨_, h3⟩ <;> exact ⟨w.heap.size, v', rfl, hbl, h3.nil _, Nat.le_refl _⟩
  · have hpos := List.length_pos_iff.2 h0
    rcases hR with ⟨a, c, hv, hnil⟩ | ⟨b, off, c, hv, -, hcap, hb, hc⟩
    · simp [masksV] at hnil; exact absurd hnil h0
    obtain ⟨rfl, rfl⟩ : ao = some ⟨b, off, none⟩ ∧ cap = c := by
      injection hv with h1 h2 h3
      exact ⟨h1, h3⟩
    have A : Hid (∀ j (h : j < (masksV L).length), w.cell? ⟨b, off + j, none⟩ = some (masksV L)[j]) := hc
    clear hc hv
    have hml : (masksV L).length = L.length := masksV_length L
    go_enter Try.func31, Try.ntmps31
    go_wp2_with (at_builtin; refine wpList_append_own _ rfl _ _ 59 rfl w.heap.size 57 i0 (.int .u16 0) 1 2 Try.underlying59 hi hz0 hz1 hz2 rfl (by decide) _ _ _ rfl (World.ownsRow_made w #[] 0 (Nat.le_refl _) (Nat.zero_le _) rfl) ⟨b, off, none⟩ L.length cap (masksV L) rfl ?e1 ?e2 ?e3 ?e4 ?e5 ?e6 ?_)
    case e1 => rw [hml, Nat.mul_one]
    case e2 =>
      intro j u hj
      have hj2 := (List.getElem?_eq_some_iff.1 hj).1
      rw [Addr.add_lit]
      refine Lib.cell?_alloc_some _ ?_
      rw [A.out j hj2]
      rw [List.getElem?_eq_getElem hj2] at hj
      exact hj
    case e3 => intro u hu; obtain ⟨x, _, rfl⟩ := List.mem_map.1 hu; rfl
    case e4 => unfold maxLen; omega
    case e5 => omega
    case e6 => simp
    intro v' w1 hown hgrow hnil
    go_wp2
    go_ret
    have hbl : Below w.heap.size w w1 := ((Below.refl _ w).alloc (Nat.le_refl _) _).grown hgrow (by simp) (by intro k hk; simp [Value.ownBlock] at hk; omega)
    have hown2 : w1.ownsRow w.heap.size 57 1 v' L.length (masksV L) := by simpa using hown
    obtain ⟨b2, h1⟩ := MRow.own hown2
    rcases h1 with ⟨h2, h3⟩ | ⟨h2, _⟩
    · exact ⟨b2, v', rfl, hbl, h3, h2⟩
    · exact absurd h2 h0
set_option maxHeartbeats 4000000 in
set_option maxRecDepth 1000000 in
/-- Delete of one element. -/
theorem delete_any (blk cap i : Nat) (L : List Nat) (w : World) (hb : blk < w.heap.size) (hH : Holds encU w blk 0 L.toArray) (hcap : L.length ≤ cap) (hm : cap ≤ 9223372036854775807) (hi : i < L.length) :
    Calls Try.prog 34 #[.slice (some ⟨blk, 0, none⟩) L.length cap, .int .i64 i, .int .i64 ((i + 1 : Nat) : Int)] w fun e w' => ∃ v, e = .returned v ∧ MRow w' blk v (L.eraseIdx i) ∧ Keep [blk] w w' := by
  obtain ⟨i0, hi0, hz0, hz1, hz2⟩ := info_parts infoSV
  obtain ⟨d, hd⟩ : ∃ d : Array Nat, d = L.toArray := ⟨_, rfl⟩
  have hds : d.size = L.length := by rw [hd]; simp
  have hdl : d.toList = L := by rw [hd]
  rw [← hd] at hH
  rw [← hds] at hcap hi ⊢
  obtain ⟨j, hj⟩ : ∃ j, j = i + 1 := ⟨_, rfl⟩
  rw [← hj]
  have hlt : i < j := by omega
  have hjd : j ≤ d.size := by omega
  obtain ⟨news, hnews⟩ : ∃ news, news = (d.toList.drop j).map encU := ⟨_, rfl⟩
  have hlen : news.length = d.size - j := by rw [hnews]; simp
  have hget : ∀ t, t < d.size - j → news[t]? = some (encU d[j + t]!) := by
    intro t ht
    rw [hnews, List.getElem?_map, List.getElem?_drop, Array.getElem?_toList, getElem!_pos d (j + t) (by omega), Array.getElem?_eq_getElem (by omega)]
    rfl
  obtain ⟨A, hA, hsrc⟩ : ∃ A : Addr, (if cap = j then some (⟨blk, 0, none⟩ : Addr) else some ⟨blk, j, none⟩) = some A ∧ Hid (∀ t u, news[t]? = some u → w.drew.cell? (A.add t) = some u) := by
    by_cases h : cap = j
    · refine ⟨⟨blk, 0, none⟩, by simp [h], fun t u hu => ?_⟩
      have h0 : news.length = 0 := by rw [hlen]; omega
      rw [List.length_eq_zero_iff.1 h0] at hu
      simp at hu
    · refine ⟨⟨blk, j, none⟩, by simp [h], fun t u hu => ?_⟩
      have ht : t < d.size - j := by
        have := (List.getElem?_eq_some_iff.1 hu).1
        rwa [hlen] at this
      rw [hget t ht] at hu
      rw [Addr.add_lit, show j + t = 0 + (j + t) by omega]
      exact (hH (j + t) (by omega)).1.trans hu
  have s1 : Hid (news.length = (d.size - j) * 1) := by rw [Nat.mul_one]; exact hlen
  have s2 : Hid (∀ u ∈ news, u.oneCell' = true) := by
    intro u hu
    rw [hnews] at hu
    obtain ⟨x, _, rfl⟩ := List.mem_map.1 hu
    rfl
  have s3 : Hid (∀ t, t < news.length → (w.drew.cell? ⟨blk, 0 + i * 1 + t, none⟩).isSome = true ∧ w.drew.frozen? ⟨blk, 0 + i * 1 + t, none⟩ = false) := by
    intro t ht
    rw [hlen] at ht
    rw [Nat.mul_one, Nat.add_assoc]
    exact ⟨by show (w.cell? _).isSome = true; rw [(hH (i + t) (by omega)).1]; rfl, (hH (i + t) (by omega)).2⟩
  obtain ⟨W1, hW1⟩ : ∃ W1, W1 = w.drew.setCells blk (0 + i * 1) news := ⟨_, rfl⟩
  have hW1' : W1 = putRow encU (Sort.ahead w 1) blk 0 (lay d i (d.toList.drop j)) := by
    rw [hW1, hnews, Nat.mul_one, ← putRow_setCells encU (Sort.ahead w 1) blk 0 _ d i (by simp; omega), putRow_self encU (Sort.ahead w 1) blk 0 d (holds_ahead encU w 1 blk 0 d hH)]
    rfl
  have hH1 : Holds encU W1 blk 0 (lay d i (d.toList.drop j)) := by rw [hW1']; exact holds_putRow encU _ blk 0 d _ (holds_ahead encU w 1 blk 0 d hH) (lay_size _ _ _)
  have hcl : ∀ ty, (Builtin.clear_ #[59] ty #[.slice (some ⟨blk, 0 + (i + (d.size - j)), none⟩) (d.size - (i + (d.size - j))) (cap - (i + (d.size - j)))]).run Try.prog W1 = .ok (.tuple #[]) (W1.setCells blk (0 + (i + (d.size - j))) (List.replicate (d.size - (i + (d.size - j))) (encU 0))) :=
    fun ty => Lib.run_clear_slice W1 _ _ ty _ Try.underlying59 zeroSV rfl rfl blk (0 + (i + (d.size - j))) _ _ (by omega) (fun t ht => by rw [show 0 + (i + (d.size - j)) + t = 0 + (i + (d.size - j) + t) by omega, (hH1 _ (by rw [lay_size]; omega)).1]; rfl) (fun t ht => by rw [show 0 + (i + (d.size - j)) + t = 0 + (i + (d.size - j) + t) by omega]; exact (hH1 _ (by rw [lay_size]; omega)).2)
  have X : Hid (W1 = putRow encU (Sort.ahead w 1) blk 0 (lay d i (d.toList.drop j))) := hW1'
  have hW : Hid (W1 = w.drew.setCells blk (0 + i * 1) news) := hW1
  have hic : i ≤ cap := by omega
  have hjc : j ≤ cap := by omega
  have hfin : ∃ v, Value.slice (some ⟨blk, 0, none⟩) (i + (d.size - j)) cap = v ∧ MRow (W1.setCells blk (0 + (i + (d.size - j))) (List.replicate (d.size - (i + (d.size - j))) (encU 0))) blk v (L.eraseIdx i) ∧ Keep [blk] w (W1.setCells blk (0 + (i + (d.size - j))) (List.replicate (d.size - (i + (d.size - j))) (encU 0))) := by
    have hWf : W1.setCells blk (0 + (i + (d.size - j))) (List.replicate (d.size - (i + (d.size - j))) (encU 0)) = putRow encU (Sort.ahead w 1) blk 0 (d.toList.take i ++ d.toList.drop j ++ List.replicate (j - i) 0).toArray := by
      rw [← delete_arr d i j 0 (by omega) hjd, ← putRow_setCells encU _ blk 0 _ _ (i + (d.size - j)) (by rw [lay_size]; simp; omega), ← hW1', List.map_replicate, show d.size - (i + (d.size - j)) = j - i by omega]
    have hsz : (d.toList.take i ++ d.toList.drop j ++ List.replicate (j - i) 0).toArray.size = d.size := by simp; omega
    have hHf := holds_putRow encU (Sort.ahead w 1) blk 0 d _ (holds_ahead encU w 1 blk 0 d hH) hsz
    have her : L.eraseIdx i = d.toList.take i ++ d.toList.drop j := by rw [hdl, hj, List.eraseIdx_eq_take_drop_succ]
    have hel : (L.eraseIdx i).length = i + (d.size - j) := by rw [her]; simp; omega
    rw [hWf]
    refine ⟨_, rfl, ⟨cap, by rw [hel]; omega, hm, .inr ⟨by rw [hel], by rw [size_putRow]; exact hb, fun k hk => ?_⟩⟩, ⟨rfl, rfl, rfl, by rw [size_putRow]; exact Nat.le_refl _, fun k hk hn => ?_⟩⟩
    · have hk2 : k < i + (d.size - j) := by rw [← hel]; simpa using hk
      have hk3 : k < (d.toList.take i ++ d.toList.drop j ++ List.replicate (j - i) 0).toArray.size := by rw [hsz]; omega
      have h7 := hHf k hk3
      refine ⟨?_, h7.2⟩
      rw [h7.1, getElem!_pos _ k hk3, getElem!_pos (L.eraseIdx i).toArray k hk]
      have h8 : (d.toList.take i ++ d.toList.drop j ++ List.replicate (j - i) 0).toArray[k]'hk3 = (L.eraseIdx i).toArray[k]'hk := by
        simp only [List.getElem_toArray]
        rw [List.getElem_append_left (by rw [← her]; simpa using hk)]
        simp only [her]
      rw [h8]
    · unfold putRow mapBlock
      rw [Array.getElem?_modify, if_neg (fun e => hn (by simp [e]))]
      rfl
  simp only [Nat.zero_add] at hfin hcl
  replace hfin := Lib.hid hfin
  have hij : (i : Int) ≠ (j : Int) := by omega
  have hij2 : ((i : Int) == (j : Int)) = false := beq_eq_false_iff_ne.2 hij
  clear hW1 hW1' hH1 hH hget hnews hlen hd hj hds hdl
  go_enter Try.func34, Try.ntmps34
  go_wp2_with fail
  go_region_law (refine step_append_room rfl (.tmp 22) (.tmp 25) 59 rfl 57 i0 1 Try.underlying59 hi0 hz1 blk 0 i cap (by simp [Act.eval, Act.put]) A (d.size - j) (cap - j) news (by simp [Act.eval, Act.put]) s1.out hsrc.out s2.out (by omega) s3.out ?_; rw [← hW.out])
  go_wp2
  go_ret
  obtain ⟨v, h1, h2, h3⟩ := hfin.out
  exact ⟨_, rfl, by rw [h1]; exact h2, h3⟩
end Go.Proofs.Ytnocncmjdhlmkaa.hyp
