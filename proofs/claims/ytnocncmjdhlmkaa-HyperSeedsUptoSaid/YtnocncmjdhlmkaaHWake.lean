/- The triangle. -/
import Derived.Test.YtnocncmjdhlmkaaHChk4
import Derived.Test.YtnocncmjdhlmkaaHAcyc
namespace Go.Proofs.Ytnocncmjdhlmkaa.hyp
open Go.ChangeShapes Go.WideShapes Go.ChangeAt Go.RowKit kit
set_option linter.unusedVariables false
set_option linter.unusedSimpArgs false
theorem flat3 {α : Type} (f : α → List Value) (hf : ∀ x, (f x).length = 3) : ∀ (L : List α) (j i : Nat), i < 3 → ∀ (hj : j < L.length), (L.flatMap f)[j * 3 + i]? = (f L[j])[i]?
  | [], j, i, hi, hj => by simp at hj
  | x :: L, 0, i, hi, hj => by
    rw [List.flatMap_cons, Nat.zero_mul, Nat.zero_add, List.getElem?_append_left (by rw [hf]; exact hi)]
    rfl
  | x :: L, j + 1, i, hi, hj => by
    rw [List.flatMap_cons, List.getElem?_append_right (by rw [hf]; omega), hf, show (j + 1) * 3 + i - 3 = j * 3 + i by omega, flat3 f hf L j i hi (by simpa using hj)]
    rfl
/-- Bags of one's own may be read. -/
theorem BagsO.read {w : World} {B : Nat} {v : Value} {bs : List BagD} (h : BagsO w B v bs) (hs : ∀ b ∈ bs, ∀ s ∈ b.names, s.size ≤ maxLen) : BagsA w w.heap.size v bs := by
  obtain ⟨rs, hl, hrow, hel⟩ := h
  have hf : ∀ x : (Value × Value) × BagD, (bagV x.1.1 x.1.2 x.2.parent).length = 3 := fun _ => rfl
  rcases hrow.2 with ⟨rfl, hn⟩ | ⟨g, cap, cur, rfl, hg, hh, hc, _⟩
  · exact ⟨none, 0, by rw [hn], fun j hj => by omega⟩
  · refine ⟨_, cap, rfl, fun j hj => ?_⟩
    have hjr : j < rs.length := by omega
    have hz : j < (rs.zip bs).length := by rw [List.length_zip]; omega
    have hcell : ∀ i, i < 3 → w.cell? ⟨g, 0 + j * 3 + i, none⟩ = (bagV rs[j].1 rs[j].2 bs[j].parent)[i]? := fun i hi => by
      rw [Nat.zero_add, hrow.cellAt (j * 3 + i) (by omega), flat3 _ hf _ j i hi hz]
      simp
    refine ⟨g, 0, rs[j].1, rs[j].2, rfl, (Array.getElem?_eq_some_iff.1 hh).1, hcell 0 (by omega), hcell 1 (by omega), hcell 2 (by omega), ⟨own_row (by rw [textsV_length]; exact (hel j hj hjr).1), hs _ (List.getElem_mem hj)⟩, own_row (by rw [numsV_length]; exact (hel j hj hjr).2)⟩
def ta : ByteArray := ⟨#[97]⟩
def tb : ByteArray := ⟨#[98]⟩
def tc : ByteArray := ⟨#[99]⟩
def triE : List (List ByteArray) := [[ta, tb], [tb, tc], [tc, ta]]
theorem tri_small : ∀ e ∈ triE, ∀ s ∈ e, s.size ≤ maxLen := by decide +kernel
theorem tri_vars : ∀ s ∈ varsR triE, s.size ≤ maxLen := by decide +kernel
/-- The world of the triangle. -/
def triW (w : World) : World := (((w.alloc (.cells #[.string ta, .string tb] 9)).alloc (.cells #[.string tb, .string tc] 9)).alloc (.cells #[.string tc, .string ta] 9)).alloc
  (.cells #[.slice (some ⟨w.heap.size, 0, none⟩) 2 2, .slice (some ⟨w.heap.size + 1, 0, none⟩) 2 2, .slice (some ⟨w.heap.size + 1 + 1, 0, none⟩) 2 2] 35)
theorem RowA.blk {w : World} {b B : Nat} {cs : Array Value} {t : TypeId} (h : Blk w b cs t) (hB : b < B) (h0 : 0 < cs.size) : RowA w B (.slice (some ⟨b, 0, none⟩) cs.size cs.size) cs.toList := by
  refine .inr ⟨b, 0, cs.size, by simp, by simpa using h0, by simp, hB, fun j hj => ?_⟩
  rw [Nat.zero_add]
  exact h.cell j (by simp at hj ⊢)
theorem triW_edges (w : World) : EdgesA (triW w) (triW w).heap.size (.slice (some ⟨w.heap.size + 1 + 1 + 1, 0, none⟩) 3 3) triE := by
  have h1 := Blk.new w #[.string ta, .string tb] 9
  have h2 := Blk.new (w.alloc (.cells #[.string ta, .string tb] 9)) #[.string tb, .string tc] 9
  have h3 := Blk.new ((w.alloc (.cells #[.string ta, .string tb] 9)).alloc (.cells #[.string tb, .string tc] 9)) #[.string tc, .string ta] 9
  have h4 := Blk.new (((w.alloc (.cells #[.string ta, .string tb] 9)).alloc (.cells #[.string tb, .string tc] 9)).alloc (.cells #[.string tc, .string ta] 9)) #[.slice (some ⟨w.heap.size, 0, none⟩) 2 2, .slice (some ⟨w.heap.size + 1, 0, none⟩) 2 2, .slice (some ⟨w.heap.size + 1 + 1, 0, none⟩) 2 2] 35
  rw [World.size_alloc] at h2
  rw [World.size_alloc, World.size_alloc] at h3
  rw [World.size_alloc, World.size_alloc, World.size_alloc] at h4
  have hz : (triW w).heap.size = w.heap.size + 1 + 1 + 1 + 1 := by unfold triW; simp
  rw [hz]
  have k1 : Blk (triW w) w.heap.size #[.string ta, .string tb] 9 := ((h1.alloc _).alloc _).alloc _
  have k2 : Blk (triW w) (w.heap.size + 1) #[.string tb, .string tc] 9 := (h2.alloc _).alloc _
  have k3 : Blk (triW w) (w.heap.size + 1 + 1) #[.string tc, .string ta] 9 := h3.alloc _
  have k4 : Blk (triW w) (w.heap.size + 1 + 1 + 1) #[.slice (some ⟨w.heap.size, 0, none⟩) 2 2, .slice (some ⟨w.heap.size + 1, 0, none⟩) 2 2, .slice (some ⟨w.heap.size + 1 + 1, 0, none⟩) 2 2] 35 := h4
  refine ⟨[.slice (some ⟨w.heap.size, 0, none⟩) 2 2, .slice (some ⟨w.heap.size + 1, 0, none⟩) 2 2, .slice (some ⟨w.heap.size + 1 + 1, 0, none⟩) 2 2], rfl, RowA.blk k4 (by omega) (by simp), fun j h h' => ?_⟩
  match j, h with
  | 0, _ => exact ⟨RowA.blk k1 (by omega) (by decide), tri_small _ (List.getElem_mem _)⟩
  | 1, _ => exact ⟨RowA.blk k2 (by omega) (by decide), tri_small _ (List.getElem_mem _)⟩
  | 2, _ => exact ⟨RowA.blk k3 (by omega) (by decide), tri_small _ (List.getElem_mem _)⟩
  | n + 3, h => exact absurd h (by show ¬ n + 3 < 3; omega)
theorem tri_may : mayR nameB triE = true := by decide +kernel
theorem tri_sets : setsR triE = [3, 6, 5] := by decide +kernel
theorem tri_all : allR triE = 7 := by decide +kernel
theorem tri_acy : acyR triE = some false := by decide +kernel
theorem tri_wid : widN [3, 6, 5] 0 7 = 2 := by decide +kernel
theorem tri_widR : widR triE = some 2 := by unfold widR; rw [if_pos tri_may, tri_sets, tri_all, tri_wid]
set_option maxRecDepth 100000 in
set_option maxHeartbeats 4000000 in
theorem wakes_any (w : World) : Calls Try.prog 10 #[] w fun e w' => e = .returned (.bool true) ∧ Below w.heap.size w w' := by
  have hbl : Below w.heap.size w (triW w) := by
    unfold triW
    exact ((((Below.refl _ _).alloc (Nat.le_refl _) _).alloc (by simp) _).alloc (by simp; omega) _).alloc (by simp; omega) _
  have hE := triW_edges w
  have hl : triE.length ≤ 1048576 := by decide
  have hle : ∀ e ∈ triE, e.length ≤ 1048576 := by decide
  have hw := width_any (triW w) (some ⟨w.heap.size + 1 + 1 + 1, 0, none⟩) 3 triE hl hle hE
  have hd := fun V (h : Below (triW w).heap.size (triW w) V) => decompose_any V (some ⟨w.heap.size + 1 + 1 + 1, 0, none⟩) 3 triE 2 0 hl hle ((hE.stay (stay_of_below h)).mono h.size)
  have hc := fun V lv bs (h : Below (triW w).heap.size (triW w) V) => check_any V (some ⟨w.heap.size + 1 + 1 + 1, 0, none⟩) 3 triE bs lv 2 hl hle ((hE.stay (stay_of_below h)).mono h.size)
  have ha := fun V (h : Below (triW w).heap.size (triW w) V) => acyclic_any V (some ⟨w.heap.size + 1 + 1 + 1, 0, none⟩) 3 triE hl hle ((hE.stay (stay_of_below h)).mono h.size)
  replace hw := Lib.hid hw
  replace hd := Lib.hid hd
  replace hc := Lib.hid hc
  replace ha := Lib.hid ha
  clear hE hl hle
  go_enter Try.func10, Try.ntmps10
  go_wp2_with fail
  refine hw.out.mono ?_
  rintro e w1 ⟨hb1, rfl⟩
  rw [tri_widR]
  simp only []
  have hd1 := hd.out w1 hb1
  replace hb1 := Lib.hid hb1
  replace hd1 := Lib.hid hd1
  generalize triW w = w0 at *
  go_wp2_with fail
  refine hd1.out.mono ?_
  intro e w2 hdo
  obtain ⟨hb2, lv, bs, rfl, hBO, hck, hfew⟩ := hdo.checked tri_may (by decide) (by rw [tri_sets, tri_all, show turnOf 0 = 0 from rfl, tri_wid]; decide)
  have hb02 := hb1.out.trans (hb2.mono hb1.out.size)
  have hBA := hBO.read (fun b hb s hs => by
    rcases (hfew.2 b hb).2.2 s hs with h | rfl
    · exact tri_vars s h
    · exact Nat.zero_le _)
  have ha1 := ha.out w2 hb02
  have hc1 := Lib.hid (fun w3 (h : Below w2.heap.size w2 w3) => hc.out w3 lv bs (hb02.trans (h.mono hb02.size)) ((hBA.stay (stay_of_below h)).mono h.size) (by have := hfew.1; omega) (fun b hb => ⟨by have := (hfew.2 b hb).1; omega, by have := (hfew.2 b hb).2.1; omega⟩))
  rw [hck] at hc1
  replace hb02 := Lib.hid hb02
  replace ha1 := Lib.hid ha1
  obtain ⟨al, cl, rfl, -⟩ := hBA
  clear hdo hb2 hBO hck hfew
  clear hd1 hd hc hb1 ha
  go_wp2_with fail
  refine ha1.out.mono ?_
  rintro e w3 ⟨hb3, rfl⟩
  rw [tri_acy]
  simp only []
  have hc2 := Lib.hid (hc1.out w3 hb3)
  have hb03 := Lib.hid (hb02.out.trans (hb3.mono hb02.out.size))
  clear hb3 hc1 ha1
  go_wp2_with fail
  refine hc2.out.mono ?_
  rintro e w4 ⟨rfl, hb4⟩
  have hb04 := Lib.hid (hbl.trans ((hb03.out.trans (hb4.mono hb03.out.size)).mono hbl.size))
  clear hb4 hc2
  go_wp2
  go_ret
  exact ⟨rfl, hb04.out⟩
end Go.Proofs.Ytnocncmjdhlmkaa.hyp
