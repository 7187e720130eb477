/- The hypergraph in memory; contracts of all, union, cover. -/
import Derived.Test.YtnocncmjdhlmkaaHList
import Derived.Test.YtnocncmjdhlmkaaHMap
import Derived.Test.YtnocncmjdhlmkaaHypC
namespace Go.Proofs.Ytnocncmjdhlmkaa.hyp
open Go.ChangeShapes Go.WideShapes Go.ChangeAt Go.RowKit kit
set_option linter.unusedVariables false
set_option linter.unusedSimpArgs false
theorem imK : IMap Try.prog 61 57 91 .u16 .u16 := ⟨Try.underlying61, Try.underlying57, Try.underlying91, fun w => by kernel_rfl⟩
/-- What is known of covers. -/
def KN (w : World) (mb : Nat) (ms : List Nat) : Prop :=
  ∃ f, MapI Try.prog 57 91 .u16 .u16 w mb 65536 f ∧ ∀ (x : Nat) (v : Int), x < 65536 → f (x : Int) = some v → v = ((coverN ms x : Nat) : Int)
/-- A hypergraph that has been read: its names, its edges, the map of what is known. -/
structure GM (w : World) (gb mb : Nat) (ns : List ByteArray) (ms : List Nat) : Prop where
  ex : ∃ vn ve, Blk w gb #[vn, ve, .map (some mb)] 63 ∧ TextsA w w.heap.size vn ns ∧ RowA w w.heap.size ve (masksV ms)
  known : KN w mb ms
  hE : ∀ e ∈ ms, e < 65536
  hlen : ms.length ≤ 8
  hns : ns.length ≤ 12
theorem KN.same {w w' : World} {mb : Nat} {ms : List Nat} (h : KN w mb ms) (hb : w'.heap[mb]? = w.heap[mb]?) : KN w' mb ms := by
  obtain ⟨f, h1, h2⟩ := h
  exact ⟨f, h1.same hb, h2⟩
theorem KN.isMap {w : World} {mb : Nat} {ms : List Nat} (h : KN w mb ms) : ∃ es clock, w.heap[mb]? = some (.map es clock) := by
  obtain ⟨f, h1, _⟩ := h
  exact h1.isMap
theorem KN.lt {w : World} {mb : Nat} {ms : List Nat} (h : KN w mb ms) : mb < w.heap.size := by
  obtain ⟨f, h1, _⟩ := h
  exact h1.lt
theorem GM.stay {w w' : World} {gb mb : Nat} {ns : List ByteArray} {ms : List Nat} (h : GM w gb mb ns ms) (hc : CellsStay w w') (hs : w.heap.size ≤ w'.heap.size) (hk : KN w' mb ms) : GM w' gb mb ns ms := by
  obtain ⟨vn, ve, h1, h2, h3⟩ := h.ex
  exact ⟨⟨vn, ve, hc.blk h1, (h2.stay hc).mono hs, (h3.stay hc).mono hs⟩, hk, h.hE, h.hlen, h.hns⟩
theorem GM.below {w w' : World} {gb mb : Nat} {ns : List ByteArray} {ms : List Nat} (h : GM w gb mb ns ms) (hb : Below w.heap.size w w') : GM w' gb mb ns ms :=
  h.stay (stay_of_below hb) hb.size (h.known.same (hb.block mb h.known.lt))
/-- The cells that a walk reads. -/
theorem GM.cells {w : World} {gb mb : Nat} {ns : List ByteArray} {ms : List Nat} (h : GM w gb mb ns ms) : ∃ an cn ae ce, Blk w gb #[.slice an ns.length cn, .slice ae ms.length ce, .map (some mb)] 63 ∧
    (∀ j (hj : j < ns.length), ∃ b off, an = some ⟨b, off, none⟩ ∧ b < w.heap.size ∧ w.cell? ⟨b, off + j, none⟩ = some (.string ns[j])) ∧
    (∀ j (hj : j < ms.length), ∃ b off, ae = some ⟨b, off, none⟩ ∧ b < w.heap.size ∧ w.cell? ⟨b, off + j, none⟩ = some (.int .u16 ((ms[j] : Nat) : Int))) := by
  obtain ⟨vn, ve, h1, h2, h3⟩ := h.ex
  obtain ⟨an, cn, rfl, h4⟩ := h2.form
  obtain ⟨ae, ce, rfl, -, h5⟩ := h3.form
  refine ⟨an, cn, ae, ce, by rw [masksV_length] at h1; exact h1, h4, fun j hj => ?_⟩
  obtain ⟨b, off, h6, h7, h8⟩ := h5 j (by simpa using hj)
  exact ⟨b, off, h6, h7, by rw [h8]; simp [masksV]⟩
theorem pow_le8 {n : Nat} (h : n ≤ 8) : 2 ^ n ≤ 256 := by
  have := Nat.pow_le_pow_right (n := 2) (by decide) h
  simpa using this
theorem pow_le12 {n : Nat} (h : n ≤ 12) : 2 ^ n ≤ 4096 := by
  have := Nat.pow_le_pow_right (n := 2) (by decide) h
  simpa using this
theorem shl_wrap {n : Nat} (h : n ≤ 12) : IntKind.u16.wrap (2 ^ n) = ((2 ^ n : Nat) : Int) := by
  have := pow_le12 h
  rw [IntKind.wrap_u16]
  have e : ((2 : Int) ^ n) = ((2 ^ n : Nat) : Int) := by simp
  rw [e]
  obtain ⟨N, hN⟩ : ∃ N, 2 ^ n = N := ⟨_, rfl⟩
  rw [hN] at this ⊢
  omega
theorem full_wrap {n : Nat} (h : n ≤ 12) : IntKind.u16.wrap (((2 ^ n : Nat) : Int) - 1) = ((2 ^ n - 1 : Nat) : Int) := by
  have h0 := pow_le12 h
  have h1 : 1 ≤ 2 ^ n := Nat.one_le_two_pow
  obtain ⟨N, hN⟩ : ∃ N, 2 ^ n = N := ⟨_, rfl⟩
  rw [hN] at h0 h1 ⊢
  rw [IntKind.wrap_u16]
  omega
set_option maxRecDepth 100000 in
theorem all_any (w : World) (gb mb : Nat) (ns : List ByteArray) (ms : List Nat) (hG : GM w gb mb ns ms) : Calls Try.prog 30 #[.pointer (some ⟨gb, 0, none⟩)] w fun e w' => e = .returned (.int .u16 ((2 ^ ns.length - 1 : Nat) : Int)) ∧ w' = w := by
  obtain ⟨an, cn, ae, ce, hb, -, -⟩ := hG.cells
  have x0 := hb.cell 0 rfl
  have h12 := hG.hns
  have h1 := shl_wrap h12
  have h2 := full_wrap h12
  obtain ⟨n, hn⟩ : ∃ n, ns.length = n := ⟨_, rfl⟩
  rw [hn] at x0 h12 h1 h2 ⊢
  obtain ⟨N, hN⟩ : ∃ N, 2 ^ n = N := ⟨_, rfl⟩
  rw [hN] at h1 h2 ⊢
  have hmin : min n 16 = n := Nat.min_eq_left (by omega)
  clear hG hb hn
  go_enter Try.func30, Try.ntmps30
  go_wp2
  go_ret
  exact ⟨rfl, rfl⟩
/-! ### union -/
def uniL (ms : List Nat) (L : List Nat) : Nat := L.foldl (fun s j => s ||| ms.getD j 0) 0
theorem uniL_bit (ms : List Nat) (i : Nat) : ∀ (L : List Nat) (s : Nat), (L.foldl (fun s j => s ||| ms.getD j 0) s).testBit i = true ↔ s.testBit i = true ∨ ∃ j ∈ L, (ms.getD j 0).testBit i = true
  | [], s => by simp
  | j :: L, s => by
    rw [List.foldl_cons, uniL_bit ms i L, Nat.testBit_or, Bool.or_eq_true]
    simp [or_assoc]
theorem uniL_snoc (ms L : List Nat) (j : Nat) : uniL ms (L ++ [j]) = uniL ms L ||| ms.getD j 0 := by
  unfold uniL
  rw [List.foldl_append]
  rfl
theorem uniL_union {ms : List Nat} {l : Nat} (h : l < 65536) : uniL ms (bits l) = unionN ms l := by
  apply Nat.eq_of_testBit_eq
  intro i
  apply Bool.eq_iff_iff.2
  unfold uniL
  rw [uniL_bit, unionN_iff, Nat.zero_testBit]
  simp only [Bool.false_eq_true, false_or]
  constructor
  · rintro ⟨j, hj, hi⟩
    rw [mem_bits h] at hj
    rw [List.getD_eq_getElem?_getD] at hi
    cases hm : ms[j]? with
    | none => rw [hm] at hi; simp at hi
    | some e => exact ⟨j, e, hm, hj, by rw [hm] at hi; exact hi⟩
  · rintro ⟨j, e, hm, hj, hi⟩
    exact ⟨j, (mem_bits h).2 hj, by rw [List.getD_eq_getElem?_getD, hm]; exact hi⟩
theorem uniL_lt {ms : List Nat} (hE : ∀ e ∈ ms, e < 65536) : ∀ (L : List Nat) (s : Nat), s < 65536 → L.foldl (fun s j => s ||| ms.getD j 0) s < 65536
  | [], s, h => h
  | j :: L, s, h => by
    rw [List.foldl_cons]
    refine uniL_lt hE L _ (or_lt h ?_)
    rw [List.getD_eq_getElem?_getD]
    cases hm : ms[j]? with
    | none => exact (by decide : 0 < 65536)
    | some e => exact hE e (List.mem_of_getElem? hm)
set_option maxRecDepth 100000 in
set_option maxHeartbeats 2000000 in
theorem union_any (w : World) (gb mb : Nat) (ns : List ByteArray) (ms : List Nat) (hG : GM w gb mb ns ms) (l : Nat) (hl : l < 2 ^ ms.length) : Calls Try.prog 57 #[.pointer (some ⟨gb, 0, none⟩), .int .u16 l] w fun e w' => e = .returned (.int .u16 ((unionN ms l : Nat) : Int)) ∧ Below w.heap.size w w' := by
  have hl16 : l < 65536 := by have := pow_le8 hG.hlen; omega
  have hli := Lib.hid (list_e l w hl16)
  have hU := uniL_union (ms := ms) hl16
  have hin : ∀ j ∈ bits l, j < ms.length := fun j hj => lt_of_testBit hl ((mem_bits hl16).1 hj)
  have hlen := bits_le l
  generalize bits l = L at *
  rw [← hU]
  replace hG := Lib.hid hG
  replace hin := Lib.hid hin
  clear hU hl hl16
  go_enter Try.func57, Try.ntmps57
  go_wp2_with fail
  refine hli.out.mono ?_
  rintro e w1 ⟨v, rfl, hv⟩
  obtain ⟨ao, cap, rfl, -, hrow⟩ := hv.row.form
  rw [natsV_length]
  have hbl := hv.below
  have hG1 := Lib.hid (hG.out.below hbl)
  replace hrow := Lib.hid hrow
  clear hv hG hli
  obtain ⟨an, cn, ae, ce, hb, -, hes⟩ := hG1.out.cells
  have x1 := hb.cell 1 rfl
  replace hes := Lib.hid hes
  clear hb
  go_wp2
  go_loop [5, 11] (fun s i => ∃ k : Nat, k ≤ L.length ∧ i = .int .i64 (k : Int) ∧ s = .int .u16 ((uniL ms (L.take k) : Nat) : Int)) (fun _ i => L.length - (intOf i).toNat)
  case atStart => exact ⟨0, by omega, rfl, rfl⟩
  case round =>
    obtain ⟨k, hk, rfl, rfl⟩ := hrel
    by_cases hlt : k < L.length
    · have hki : (k : Int) < (L.length : Int) := by omega
      obtain ⟨b, off, rfl, -, hc⟩ := hrow.out k (by simpa using hlt)
      have hck : w1.cell? ⟨b, off + k, none⟩ = some (.int .i64 ((L[k] : Nat) : Int)) := by rw [hc]; simp [natsV]
      have hjn := hin.out _ (List.getElem_mem hlt)
      have htk : L.take (k + 1) = L.take k ++ [L[k]] := by rw [List.take_succ_eq_append_getElem hlt]
      obtain ⟨j, hj⟩ : ∃ j, L[k] = j := ⟨_, rfl⟩
      rw [hj] at hck hjn htk
      clear hj hc
      obtain ⟨b2, off2, rfl, -, hc2⟩ := hes.out j hjn
      have hji : (j : Int) < (ms.length : Int) := by omega
      have hor : Go.bits .or .u16 ((uniL ms (L.take k) : Nat) : Int) ((ms[j] : Nat) : Int) = ((uniL ms (L.take (k + 1)) : Nat) : Int) := by
        rw [u16_or_nat _ _ (show uniL ms (L.take k) < 65536 from uniL_lt hG1.out.hE _ _ (by decide)) (hG1.out.hE _ (List.getElem_mem hjn)), htk, uniL_snoc, List.getD_eq_getElem?_getD, List.getElem?_eq_getElem hjn]
        rfl
      clear htk
      generalize uniL ms (L.take k) = u at *
      generalize hu2 : uniL ms (L.take (k + 1)) = u2 at *
      replace hu2 := Lib.hid hu2
      go_wp2
      go_round
      case rel => exact ⟨k + 1, by omega, by go_num, by rw [hu2.out]⟩
      case measure => simp [intOf]; omega
    · have hki : ¬ (k : Int) < (L.length : Int) := by omega
      obtain rfl : k = L.length := by omega
      rw [List.take_length]
      go_wp2
      go_ret
      exact ⟨rfl, hbl⟩
end Go.Proofs.Ytnocncmjdhlmkaa.hyp
