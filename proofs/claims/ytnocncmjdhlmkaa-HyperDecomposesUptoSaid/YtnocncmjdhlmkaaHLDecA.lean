/- Texts HOver, HLDec, HLDec2, one behind the other. -/
import Derived.Test.YtnocncmjdhlmkaaHTold2
import Derived.ArgAppend
import Derived.Test.YtnocncmjdhlmkaaHSeedsA
import Derived.Test.YtnocncmjdhlmkaaHRSetsA
import Derived.Test.YtnocncmjdhlmkaaHREq
import Derived.Test.YtnocncmjdhlmkaaHRef4
/- What is written over: the law's OverTexts and OverInts. -/
namespace Go.Proofs.Ytnocncmjdhlmkaa.hyp
open Go.ChangeShapes Go.WideShapes Go.ChangeAt Go.RowKit kit
set_option linter.unusedVariables false
set_option linter.unusedSimpArgs false
theorem own_form4 {w : World} {B : Nat} {e : TypeId} {s : Nat} {v : Value} {n : Nat} {xs : List Value} (h : w.ownsRow B e s v n xs) : ∃ a c, v = .slice a n c := by
  rcases h.2 with ⟨rfl, hn⟩ | ⟨g, cap, cur, rfl, _⟩
  · exact ⟨none, 0, by rw [hn]⟩
  · exact ⟨_, cap, rfl⟩
/-- A row of one's own, whatever is in it. -/
def Shp (w : World) (B : Nat) (e : TypeId) (v : Value) (n : Nat) : Prop := ∃ xs, w.ownsRow B e 1 v n xs
/-- One block's cells have turned, and its size has not; the others stay. -/
structure Ov (row : Option Nat) (w w' : World) : Prop where
  grown : w.grownBy w' row
  shape : ∀ (k : Nat) (cur : Array Value) (e : TypeId), w.heap[k]? = some (.cells cur e (0, 0)) → ∃ cur', w'.heap[k]? = some (.cells cur' e (0, 0)) ∧ cur'.size = cur.size
theorem Ov.refl (row : Option Nat) (w : World) : Ov row w w := ⟨⟨rfl, rfl, rfl, Nat.le_refl _, fun _ _ _ => rfl⟩, fun k cur e h => ⟨cur, h, rfl⟩⟩
theorem Ov.trans {r s : Option Nat} {a b c : World} (h : Ov r a b) (k : Ov s b c) (hs : ∀ j, s = some j → r = some j ∨ a.heap.size ≤ j) : Ov r a c := by
  refine ⟨⟨k.grown.os.trans h.grown.os, k.grown.tape.trans h.grown.tape, k.grown.output.trans h.grown.output, Nat.le_trans h.grown.size k.grown.size, fun j hj hr => ?_⟩, fun j cur e hc => ?_⟩
  · rw [k.grown.block j (Nat.lt_of_lt_of_le hj h.grown.size) (fun hb => ?_), h.grown.block j hj hr]
    rcases hs j hb.symm with h1 | h1
    · exact hr h1.symm
    · omega
  · obtain ⟨c1, h1, h2⟩ := h.shape j cur e hc
    obtain ⟨c2, h3, h4⟩ := k.shape j c1 e h1
    exact ⟨c2, h3, h4.trans h2⟩
theorem Ov.set (w : World) (g j : Nat) (x : Value) : Ov (some g) w (w.setCell ⟨g, j, none⟩ x) := by
  refine ⟨⟨rfl, rfl, rfl, by simp [World.setCell], fun k hk hne => heap_setCell_other w ⟨g, j, none⟩ k x (fun e => hne (by simp [e]))⟩, fun k cur e h => ?_⟩
  by_cases hk : k = g
  · subst hk
    exact ⟨_, heap_setCell_same w k j cur e x h, by simp⟩
  · exact ⟨cur, (heap_setCell_other w ⟨g, j, none⟩ k x hk).trans h, rfl⟩
theorem Ov.alloc (row : Option Nat) (w : World) (o : Obj) : Ov row w (w.alloc o) :=
  ⟨⟨rfl, rfl, rfl, by simp, fun k hk _ => Below.heap_alloc _ _ _ hk⟩, fun k cur e h => ⟨cur, (Below.heap_alloc _ _ _ (Array.getElem?_eq_some_iff.1 h).1).trans h, rfl⟩⟩
theorem Ov.ofNone {w w' : World} (h : w.grownBy w' none) (row : Option Nat) : Ov row w w' :=
  ⟨⟨h.os, h.tape, h.output, h.size, fun k hk _ => h.block k hk (by simp)⟩, fun k cur e hc => ⟨cur, (h.block k (Array.getElem?_eq_some_iff.1 hc).1 (by simp)).trans hc, rfl⟩⟩
theorem Shp.ov {w w' : World} {B : Nat} {e : TypeId} {v : Value} {n : Nat} {row : Option Nat} (h : Shp w B e v n) (k : Ov row w w') : Shp w' B e v n := by
  obtain ⟨xs, h1, h2⟩ := h
  rcases h2 with ⟨h3, h4⟩ | ⟨g, cap, cur, h3, h4, h5, h6, h7, h8, h9⟩
  · exact ⟨xs, h1, .inl ⟨h3, h4⟩⟩
  · obtain ⟨c2, h10, h11⟩ := k.shape g cur e h5
    refine ⟨c2.toList.take (n * 1), ?_, .inr ⟨g, cap, c2, h3, h4, h10, h6, h7, h11.trans h8, rfl⟩⟩
    rw [List.length_take, Array.length_toList, h11, h8]
    omega
theorem Shp.at {w : World} {B : Nat} {e : TypeId} {a : Option Addr} {n c : Nat} (h : Shp w B e (.slice a n c) n) {k : Nat} (hk : k < n) :
    ∃ g, a = some ⟨g, 0, none⟩ ∧ ∃ z, w.cell? ⟨g, k, none⟩ = some z ∧ w.frozen? ⟨g, k, none⟩ = false ∧ ∀ x, Shp (w.setCell ⟨g, k, none⟩ x) B e (.slice a n c) n ∧ Ov (Value.slice a n c).ownBlock w (w.setCell ⟨g, k, none⟩ x) := by
  obtain ⟨xs, hx⟩ := id h
  rcases hx.2 with ⟨-, hn⟩ | ⟨g, cap, cur, hv, h4, h5, h6, h7, h8, h9⟩
  · omega
  · injection hv with e1 e2 e3
    subst e1 e3
    refine ⟨g, rfl, cur[k]'(by omega), ?_, hx.frozenAt k, fun x => ⟨h.ov (Ov.set w g k x), Ov.set w g k x⟩⟩
    rw [cell_of_row w g k cur e (0, 0) h5]
    simp
theorem cell_low2 {w : World} {b i : Nat} {v : Value} (h : w.cell? ⟨b, i, none⟩ = some v) : b < w.heap.size := by
  obtain ⟨o, ho, -⟩ := cells_of_cell h
  exact (Array.getElem?_eq_some_iff.1 ho).1
theorem frozen_heap {w w' : World} {k i : Nat} (h : w'.heap[k]? = w.heap[k]?) : w'.frozen? ⟨k, i, none⟩ = w.frozen? ⟨k, i, none⟩ := by
  unfold World.frozen?
  simp only [h]
theorem Shp.olds {w : World} {B : Nat} {e : TypeId} {a : Option Addr} {n c : Nat} (h : Shp w B e (.slice a n c) n) :
    ∃ L : List Value, L.length = n * 1 ∧ ∀ b, a = some b → ∃ g, b = ⟨g, 0, none⟩ ∧ ∀ j u, L[j]? = some u → w.cell? (b.add j) = some u := by
  obtain ⟨xs, hx⟩ := id h
  refine ⟨xs, hx.1, fun b hb => ?_⟩
  subst hb
  rcases hx.2 with ⟨hv, hn⟩ | ⟨g, cap, cur, hv, h4, h5, h6, h7, h8, h9⟩
  · injection hv with e1
    cases e1
  · injection hv with e1 e2 e3
    cases e1
    exact ⟨g, rfl, hx.cells rfl⟩
theorem Shp.room {w : World} {B : Nat} {e : TypeId} {a : Option Addr} {n c : Nat} (h : Shp w B e (.slice a n c) n) (hr : n + 1 ≤ c) :
    ∃ g, a = some ⟨g, 0, none⟩ ∧ ∃ z, w.cell? ⟨g, n, none⟩ = some z ∧ w.frozen? ⟨g, n, none⟩ = false ∧ ∃ L : List Value, L.length = n * 1 ∧ ∀ j u, L[j]? = some u → w.cell? ⟨g, 0 + j, none⟩ = some u := by
  obtain ⟨xs, hx⟩ := id h
  rcases hx.2 with ⟨hv, hn⟩ | ⟨g, cap, cur, hv, h4, h5, h6, h7, h8, h9⟩
  · injection hv with e1 e2 e3
    omega
  · injection hv with e1 e2 e3
    subst e1 e3
    refine ⟨g, rfl, cur[n]'(by omega), ?_, hx.frozenAt n, xs, hx.1, fun j u hu => ?_⟩
    · rw [cell_of_row w g n cur e (0, 0) h5]
      simp
    · have hj := (List.getElem?_eq_some_iff.1 hu).1
      rw [Nat.zero_add, hx.cellAt j (by have := hx.1; omega)]
      exact hu
set_option maxRecDepth 100000 in
set_option maxHeartbeats 4000000 in
theorem overI_any (w : World) (B : Nat) (v : Value) (n : Nat) (h : Shp w B 3 v n) (hn : n ≤ 1048576) :
    Calls Try.prog 23 #[v] w fun e w' => e = .returned (.tuple #[]) ∧ Ov v.ownBlock w w' := by
  obtain ⟨i0, hi0, hz0, hz1, hz2⟩ := info_parts infoInt
  replace hi0 := Lib.hid hi0
  replace hz0 := Lib.hid hz0
  replace hz1 := Lib.hid hz1
  replace hz2 := Lib.hid hz2
  obtain ⟨xs, hx⟩ := h
  obtain ⟨a, c, rfl⟩ := own_form4 hx
  have hx0 : Hid (Shp w B 3 (.slice a n c) n) := Lib.hid ⟨xs, hx⟩
  clear hx
  go_enter Try.func23, Try.ntmps23
  go_wp2
  go_loopw [2] (fun i wr => ∃ k : Nat, k ≤ n ∧ i = .int .i64 (k : Int) ∧ Hid (Shp wr B 3 (.slice a n c) n) ∧ Hid (Ov (Value.slice a n c).ownBlock w wr)) (fun i _ => n - (intOf i).toNat)
  case atStart => exact ⟨0, by omega, rfl, hx0, Lib.hid (Ov.refl _ _)⟩
  case round =>
    clear hx0
    obtain ⟨k, hk, rfl, hX, hO⟩ := hrel
    by_cases hlt : k < n
    · have hki : (k : Int) < (n : Int) := by omega
      have hk1 := Lib.hid (show k + 1 ≤ n from hlt)
      obtain ⟨g, hg, z, hc, hf, hst⟩ := hX.out.at hlt
      subst hg
      have hO2 := Lib.hid (hO.out.trans (hst (.int .i64 (-99))).2 (fun j hj => .inl hj))
      have hX2 := Lib.hid (hst (.int .i64 (-99))).1
      clear hX hO hst
      go_wp2
      go_roundw
      case rel => exact ⟨k + 1, hk1.out, by go_num, hX2, hO2⟩
      case measure => have := hk1.out; simp [intOf]; omega
    · have hki : ¬ (k : Int) < (n : Int) := by omega
      by_cases hroom : n + 1 ≤ c
      · obtain ⟨g, hg, z, hc, hf, hcells, hcs, hce⟩ := hX.out.room hroom
        subst hg
        have hga := (cell_low2 hc)
        have hcb : ∀ j u, hcells[j]? = some u → (wr.alloc (.cells #[.int .i64 1] 3)).cell? ⟨g, 0 + j, none⟩ = some u := fun j u hu => by
          rw [cell_heap (Below.heap_alloc _ _ _ hga)]
          exact hce j u hu
        have hcn : (wr.alloc (.cells #[.int .i64 1] 3)).cell? ⟨g, n, none⟩ = some z := by
          rw [cell_heap (Below.heap_alloc _ _ _ hga)]
          exact hc
        have hfn : (wr.alloc (.cells #[.int .i64 1] 3)).frozen? ⟨g, n, none⟩ = false := by
          rw [frozen_heap (Below.heap_alloc _ _ _ hga)]
          exact hf
        have hsp : n + 1 ≤ c → ∀ j, j < ([.int .i64 1] : List Value).length → ((wr.alloc (.cells #[.int .i64 1] 3)).cell? ⟨g, 0 + n * 1 + j, none⟩).isSome = true ∧ (wr.alloc (.cells #[.int .i64 1] 3)).frozen? ⟨g, 0 + n * 1 + j, none⟩ = false := fun _ j hj => by
          have : j = 0 := by simpa using hj
          subst this
          rw [show 0 + n * 1 + 0 = n by omega, hcn]
          exact ⟨rfl, hfn⟩
        have hone : ∀ u ∈ ([.int .i64 1] : List Value), u.oneCell' = true := by simp [Value.oneCell']
        have hmx : n + 1 ≤ maxLen := by simp only [maxLen]; omega
        have hno : c < n + 1 → False := fun h => by omega
        have hwc : ((wr.alloc (.cells #[.int .i64 1] 3)).setCells g n [.int .i64 1]).cell? ⟨g, n, none⟩ = some (.int .i64 1) := by
          rw [World.setCells, World.setCells]
          exact World.cell?_setCell_same (h := hcn) ..
        have hwf : ((wr.alloc (.cells #[.int .i64 1] 3)).setCells g n [.int .i64 1]).frozen? ⟨g, n, none⟩ = false := by
          rw [World.setCells, World.setCells]
          rw [World.frozen?_setCell]
          exact hfn
        have hO5 := Lib.hid (((hO.out.trans (Ov.alloc (some g) wr (.cells #[.int .i64 1] 3)) (fun j hj => .inl hj)).trans (Ov.set _ g n (.int .i64 1)) (fun j hj => .inl hj)).trans (Ov.set _ g n (.int .i64 (-99))) (fun j hj => .inl hj))
        clear hO hX hce
        go_wp2_with (at_builtin; refine wpList_append_arg _ rfl _ _ 43 rfl 3 i0 (.int .i64 0) 1 8 Try.underlying43 hi0.out hz0.out hz1.out hz2.out rfl (by decide) g 0 n c hcells rfl hcs hcb _ 1 _ [.int .i64 1] rfl rfl (news_one wr (.int .i64 1) 3) hone hsp hmx (by omega) ?ch (fun h => (hno h).elim))
        go_end0
        exact ⟨rfl, hO5.out⟩
      · have hfull : c < n + 1 := by omega
        obtain ⟨L, hL1, hL2⟩ := hX.out.olds
        have hLa : ∀ b, a = some b → ∀ j u, L[j]? = some u → (wr.alloc (.cells #[.int .i64 1] 3)).cell? (b.add j) = some u := fun b hb j u hu => by
          obtain ⟨g, rfl, h2⟩ := hL2 b hb
          have h3 := h2 j u hu
          have hadd : (⟨g, 0, none⟩ : Addr).add j = ⟨g, j, none⟩ := by unfold Addr.add; split <;> simp_all
          rw [hadd] at h3 ⊢
          rw [cell_heap (Below.heap_alloc _ _ _ (cell_low2 h3))]
          exact h3
        have hnone : a = none → n = 0 ∧ c = 0 := fun h => by
          subst h
          obtain ⟨xs, hx⟩ := hX.out
          rcases hx.2 with ⟨hv, hn0⟩ | ⟨g, cap, cur, hv, _⟩
          · injection hv with e1 e2 e3
            exact ⟨hn0, e3⟩
          · injection hv with e1
            cases e1
        have hone : ∀ u ∈ ([.int .i64 1] : List Value), u.oneCell' = true := by simp [Value.oneCell']
        have hmx : n + 1 ≤ maxLen := by simp only [maxLen]; omega
        clear hX
        go_wp2_with (at_builtin; refine wpList_append_grows _ rfl _ _ 43 rfl 3 i0 (.int .i64 0) 1 8 Try.underlying43 hi0.out hz0.out hz1.out hz2.out rfl (by decide) a n c L rfl hnone hL1 hLa _ 1 _ [.int .i64 1] rfl rfl (news_one wr (.int .i64 1) 3) hone hfull hmx (by omega) ?ck)
        case ck =>
          intro v6 w6 h1 h2
          obtain ⟨a6, c6, rfl⟩ := own_form4 h1
          have hS6 : Shp w6 (wr.heap.size + 1) 3 (.slice a6 (n + 1) c6) (n + 1) := ⟨_, h1⟩
          obtain ⟨g6, rfl, z6, hc6, hf6, hst6⟩ := hS6.at (k := n) (by omega)
          have hg6 : wr.heap.size ≤ g6 := by
            have := (h1.lt g6 rfl).1
            omega
          have hO6 := Lib.hid (((hO.out.trans (Ov.alloc none wr (.cells #[.int .i64 1] 3)) (fun j hj => by cases hj)).trans (Ov.ofNone h2 none) (fun j hj => by cases hj)).trans (Ov.set w6 g6 n (.int .i64 (-99))) (fun j hj => .inr (by cases hj; have := hO.out.grown.size; omega)))
          clear hO h1 h2 hS6 hst6
          go_wp2
          go_end0
          exact ⟨rfl, hO6.out⟩
set_option maxRecDepth 100000 in
set_option maxHeartbeats 4000000 in
theorem overT_any (w : World) (B : Nat) (v : Value) (n : Nat) (h : Shp w B 9 v n) (hn : n ≤ 1048576) :
    Calls Try.prog 22 #[v] w fun e w' => e = .returned (.tuple #[]) ∧ Ov v.ownBlock w w' := by
  obtain ⟨i0, hi0, hz0, hz1, hz2⟩ := info_parts infoStr
  replace hi0 := Lib.hid hi0
  replace hz0 := Lib.hid hz0
  replace hz1 := Lib.hid hz1
  replace hz2 := Lib.hid hz2
  obtain ⟨xs, hx⟩ := h
  obtain ⟨a, c, rfl⟩ := own_form4 hx
  have hx0 : Hid (Shp w B 9 (.slice a n c) n) := Lib.hid ⟨xs, hx⟩
  clear hx
  go_enter Try.func22, Try.ntmps22
  go_wp2
  go_loopw [2] (fun i wr => ∃ k : Nat, k ≤ n ∧ i = .int .i64 (k : Int) ∧ Hid (Shp wr B 9 (.slice a n c) n) ∧ Hid (Ov (Value.slice a n c).ownBlock w wr)) (fun i _ => n - (intOf i).toNat)
  case atStart => exact ⟨0, by omega, rfl, hx0, Lib.hid (Ov.refl _ _)⟩
  case round =>
    clear hx0
    obtain ⟨k, hk, rfl, hX, hO⟩ := hrel
    by_cases hlt : k < n
    · have hki : (k : Int) < (n : Int) := by omega
      have hk1 := Lib.hid (show k + 1 ≤ n from hlt)
      obtain ⟨g, hg, z, hc, hf, hst⟩ := hX.out.at hlt
      subst hg
      have hO2 := Lib.hid (hO.out.trans (hst (.string ⟨#[111, 118, 101, 114]⟩)).2 (fun j hj => .inl hj))
      have hX2 := Lib.hid (hst (.string ⟨#[111, 118, 101, 114]⟩)).1
      clear hX hO hst
      go_wp2
      go_roundw
      case rel => exact ⟨k + 1, hk1.out, by go_num, hX2, hO2⟩
      case measure => have := hk1.out; simp [intOf]; omega
    · have hki : ¬ (k : Int) < (n : Int) := by omega
      by_cases hroom : n + 1 ≤ c
      · obtain ⟨g, hg, z, hc, hf, hcells, hcs, hce⟩ := hX.out.room hroom
        subst hg
        have hga := (cell_low2 hc)
        have hcb : ∀ j u, hcells[j]? = some u → (wr.alloc (.cells #[.string ⟨#[98, 101, 121, 111, 110, 100]⟩] 9)).cell? ⟨g, 0 + j, none⟩ = some u := fun j u hu => by
          rw [cell_heap (Below.heap_alloc _ _ _ hga)]
          exact hce j u hu
        have hcn : (wr.alloc (.cells #[.string ⟨#[98, 101, 121, 111, 110, 100]⟩] 9)).cell? ⟨g, n, none⟩ = some z := by
          rw [cell_heap (Below.heap_alloc _ _ _ hga)]
          exact hc
        have hfn : (wr.alloc (.cells #[.string ⟨#[98, 101, 121, 111, 110, 100]⟩] 9)).frozen? ⟨g, n, none⟩ = false := by
          rw [frozen_heap (Below.heap_alloc _ _ _ hga)]
          exact hf
        have hsp : n + 1 ≤ c → ∀ j, j < ([.string ⟨#[98, 101, 121, 111, 110, 100]⟩] : List Value).length → ((wr.alloc (.cells #[.string ⟨#[98, 101, 121, 111, 110, 100]⟩] 9)).cell? ⟨g, 0 + n * 1 + j, none⟩).isSome = true ∧ (wr.alloc (.cells #[.string ⟨#[98, 101, 121, 111, 110, 100]⟩] 9)).frozen? ⟨g, 0 + n * 1 + j, none⟩ = false := fun _ j hj => by
          have : j = 0 := by simpa using hj
          subst this
          rw [show 0 + n * 1 + 0 = n by omega, hcn]
          exact ⟨rfl, hfn⟩
        have hone : ∀ u ∈ ([.string ⟨#[98, 101, 121, 111, 110, 100]⟩] : List Value), u.oneCell' = true := by simp [Value.oneCell']
        have hmx : n + 1 ≤ maxLen := by simp only [maxLen]; omega
        have hno : c < n + 1 → False := fun h => by omega
        have hwc : ((wr.alloc (.cells #[.string ⟨#[98, 101, 121, 111, 110, 100]⟩] 9)).setCells g n [.string ⟨#[98, 101, 121, 111, 110, 100]⟩]).cell? ⟨g, n, none⟩ = some (.string ⟨#[98, 101, 121, 111, 110, 100]⟩) := by
          rw [World.setCells, World.setCells]
          exact World.cell?_setCell_same (h := hcn) ..
        have hwf : ((wr.alloc (.cells #[.string ⟨#[98, 101, 121, 111, 110, 100]⟩] 9)).setCells g n [.string ⟨#[98, 101, 121, 111, 110, 100]⟩]).frozen? ⟨g, n, none⟩ = false := by
          rw [World.setCells, World.setCells]
          rw [World.frozen?_setCell]
          exact hfn
        have hO5 := Lib.hid (((hO.out.trans (Ov.alloc (some g) wr (.cells #[.string ⟨#[98, 101, 121, 111, 110, 100]⟩] 9)) (fun j hj => .inl hj)).trans (Ov.set _ g n (.string ⟨#[98, 101, 121, 111, 110, 100]⟩)) (fun j hj => .inl hj)).trans (Ov.set _ g n (.string ⟨#[111, 118, 101, 114]⟩)) (fun j hj => .inl hj))
        clear hO hX hce
        go_wp2_with (at_builtin; refine wpList_append_arg _ rfl _ _ 35 rfl 9 i0 (.string ByteArray.empty) 1 16 Try.underlying35 hi0.out hz0.out hz1.out hz2.out rfl (by decide) g 0 n c hcells rfl hcs hcb _ 1 _ [.string ⟨#[98, 101, 121, 111, 110, 100]⟩] rfl rfl (news_one wr (.string ⟨#[98, 101, 121, 111, 110, 100]⟩) 9) hone hsp hmx (by omega) ?ch (fun h => (hno h).elim))
        go_end0
        exact ⟨rfl, hO5.out⟩
      · have hfull : c < n + 1 := by omega
        obtain ⟨L, hL1, hL2⟩ := hX.out.olds
        have hLa : ∀ b, a = some b → ∀ j u, L[j]? = some u → (wr.alloc (.cells #[.string ⟨#[98, 101, 121, 111, 110, 100]⟩] 9)).cell? (b.add j) = some u := fun b hb j u hu => by
          obtain ⟨g, rfl, h2⟩ := hL2 b hb
          have h3 := h2 j u hu
          have hadd : (⟨g, 0, none⟩ : Addr).add j = ⟨g, j, none⟩ := by unfold Addr.add; split <;> simp_all
          rw [hadd] at h3 ⊢
          rw [cell_heap (Below.heap_alloc _ _ _ (cell_low2 h3))]
          exact h3
        have hnone : a = none → n = 0 ∧ c = 0 := fun h => by
          subst h
          obtain ⟨xs, hx⟩ := hX.out
          rcases hx.2 with ⟨hv, hn0⟩ | ⟨g, cap, cur, hv, _⟩
          · injection hv with e1 e2 e3
            exact ⟨hn0, e3⟩
          · injection hv with e1
            cases e1
        have hone : ∀ u ∈ ([.string ⟨#[98, 101, 121, 111, 110, 100]⟩] : List Value), u.oneCell' = true := by simp [Value.oneCell']
        have hmx : n + 1 ≤ maxLen := by simp only [maxLen]; omega
        clear hX
        go_wp2_with (at_builtin; refine wpList_append_grows _ rfl _ _ 35 rfl 9 i0 (.string ByteArray.empty) 1 16 Try.underlying35 hi0.out hz0.out hz1.out hz2.out rfl (by decide) a n c L rfl hnone hL1 hLa _ 1 _ [.string ⟨#[98, 101, 121, 111, 110, 100]⟩] rfl rfl (news_one wr (.string ⟨#[98, 101, 121, 111, 110, 100]⟩) 9) hone hfull hmx (by omega) ?ck)
        case ck =>
          intro v6 w6 h1 h2
          obtain ⟨a6, c6, rfl⟩ := own_form4 h1
          have hS6 : Shp w6 (wr.heap.size + 1) 9 (.slice a6 (n + 1) c6) (n + 1) := ⟨_, h1⟩
          obtain ⟨g6, rfl, z6, hc6, hf6, hst6⟩ := hS6.at (k := n) (by omega)
          have hg6 : wr.heap.size ≤ g6 := by
            have := (h1.lt g6 rfl).1
            omega
          have hO6 := Lib.hid (((hO.out.trans (Ov.alloc none wr (.cells #[.string ⟨#[98, 101, 121, 111, 110, 100]⟩] 9)) (fun j hj => by cases hj)).trans (Ov.ofNone h2 none) (fun j hj => by cases hj)).trans (Ov.set w6 g6 n (.string ⟨#[111, 118, 101, 114]⟩)) (fun j hj => .inr (by cases hj; have := hO.out.grown.size; omega)))
          clear hO h1 h2 hS6 hst6
          go_wp2
          go_end0
          exact ⟨rfl, hO6.out⟩
end Go.Proofs.Ytnocncmjdhlmkaa.hyp

/- HyperDecomposes: the walk. -/
namespace Go.Proofs.Ytnocncmjdhlmkaa.hyp
open Go.ChangeShapes Go.WideShapes Go.ChangeAt Go.RowKit kit
set_option linter.unusedVariables false
set_option linter.unusedSimpArgs false
/-- What Decompose hands back, as data. -/
def DecF (E : List (List ByteArray)) (width seed : Int) (bs : List BagD) (ec : Int) : Prop :=
  (¬ (mayR nameB E = true ∧ 1 ≤ width) ∧ bs = [] ∧ ec = 1) ∨
  ((mayR nameB E = true ∧ 1 ≤ width) ∧ width < ((widN (setsR E) 0 (allR E) : Nat) : Int) ∧ bs = [] ∧ ec = 31) ∨
  ((mayR nameB E = true ∧ 1 ≤ width) ∧ ((widN (setsR E) 0 (allR E) : Nat) : Int) ≤ width ∧ ec = 0 ∧
      ((allR E = 0 ∧ bs = [⟨[], [], -1⟩]) ∨ (allR E ≠ 0 ∧ ∃ M, outS (setsR E) (turnOf seed) (allR E) M = 0 ∧ (∀ i, i < M → outS (setsR E) (turnOf seed) (allR E) i ≠ 0) ∧ bs = bagsR (varsR E) (setsR E) (turnOf seed) (allR E) M)))
theorem DecOut.res {w w' : World} {E : List (List ByteArray)} {width seed : Int} {e : Ending} (h : DecOut w E width seed e w') :
    Below w.heap.size w w' ∧ ∃ v bs ec, e = .returned (.tuple #[v, .int .i64 ec]) ∧ BagsO w' w.heap.size v bs ∧ DecF E width seed bs ec := by
  obtain ⟨hb, h | h | h⟩ := h
  · exact ⟨hb, _, [], _, h.2, BagsO.nil _ _, .inl ⟨h.1, rfl, rfl⟩⟩
  · obtain ⟨hm, h1, h2⟩ := h
    rw [wid_turn (good_of hm.1) (turnOf seed) 0] at h1
    exact ⟨hb, _, [], _, h2, BagsO.nil _ _, .inr (.inl ⟨hm, h1, rfl, rfl⟩)⟩
  · obtain ⟨hm, h1, v, bs, h2, h3, h4⟩ := h
    rw [wid_turn (good_of hm.1) (turnOf seed) 0] at h1
    exact ⟨hb, v, bs, 0, h2, h3, .inr (.inr ⟨hm, h1, rfl, h4⟩)⟩
theorem DecF.unique {E : List (List ByteArray)} {width seed : Int} {bs cs : List BagD} {ec fc : Int} (h : DecF E width seed bs ec) (k : DecF E width seed cs fc) : bs = cs ∧ ec = fc := by
  rcases h with h | h | h <;> rcases k with k | k | k
  · exact ⟨h.2.1.trans k.2.1.symm, h.2.2.trans k.2.2.symm⟩
  · exact absurd k.1 h.1
  · exact absurd k.1 h.1
  · exact absurd h.1 k.1
  · exact ⟨h.2.2.1.trans k.2.2.1.symm, h.2.2.2.trans k.2.2.2.symm⟩
  · have := h.2.1; have := k.2.1; omega
  · exact absurd h.1 k.1
  · have := h.2.1; have := k.2.1; omega
  · obtain ⟨-, -, rfl, h1⟩ := h
    obtain ⟨-, -, rfl, k1⟩ := k
    refine ⟨?_, rfl⟩
    rcases h1 with ⟨h2, rfl⟩ | ⟨h2, M, h3, h4, rfl⟩ <;> rcases k1 with ⟨k2, rfl⟩ | ⟨k2, M', k3, k4, rfl⟩
    · rfl
    · exact absurd h2 k2
    · exact absurd k2 h2
    · rcases Nat.lt_trichotomy M M' with hlt | rfl | hlt
      · exact absurd h3 (k4 M hlt)
      · rfl
      · exact absurd k3 (h4 M' hlt)
theorem DecF.few {E : List (List ByteArray)} {width seed : Int} {bs : List BagD} {ec : Int} (h : DecF E width seed bs ec) : Few E bs ∧ bs.length ≤ 16 := by
  rcases h with ⟨-, rfl, -⟩ | ⟨-, -, rfl, -⟩ | ⟨hm, -, -, ⟨-, rfl⟩ | ⟨-, M, h5, h6, rfl⟩⟩
  · exact ⟨⟨by simp, fun b hb => by simp at hb⟩, by simp⟩
  · exact ⟨⟨by simp, fun b hb => by simp at hb⟩, by simp⟩
  · refine ⟨⟨by simp, fun b hb => ?_⟩, by simp⟩
    obtain rfl := List.mem_singleton.1 hb
    exact ⟨by simp, by simp, fun s hs => by simp at hs⟩
  · refine ⟨few_bags hm.1 h6, ?_⟩
    rw [bagsR_length]
    have := outS_len (good_of hm.1) M h6
    omega
theorem DecF.chk {E : List (List ByteArray)} {width seed : Int} {bs : List BagD} (h : DecF E width seed bs 0) : refChk E bs width = true := by
  rw [← chk_ref]
  rcases h with ⟨-, -, h⟩ | ⟨-, -, -, h⟩ | ⟨hm, h1, -, ⟨h4, rfl⟩ | ⟨h4, M, h5, h6, rfl⟩⟩
  · omega
  · omega
  · exact chk_empty hm.1 hm.2 h4
  · exact chk_bags hm.1 hm.2 (by rw [wid_turn (good_of hm.1) (turnOf seed) 0]; exact h1) h4 h5 h6
theorem decompose_again (w : World) (ao : Option Addr) (cap : Nat) (E : List (List ByteArray)) (width seed : Int) (hl : E.length ≤ 1048576) (hle : ∀ e ∈ E, e.length ≤ 1048576) (hE : EdgesA w w.heap.size (.slice ao E.length cap) E) {bs : List BagD} {ec : Int} (hF : DecF E width seed bs ec) :
    Calls Try.prog 20 #[.slice ao E.length cap, .int .i64 width, .int .i64 seed] w fun e w' => ∃ a c, e = .returned (.tuple #[.slice a bs.length c, .int .i64 ec]) ∧ Below w.heap.size w w' ∧ BagsO w' w.heap.size (.slice a bs.length c) bs := by
  refine (decompose_any w ao cap E width seed hl hle hE).mono fun e w' h => ?_
  obtain ⟨hb, v, cs, fc, h1, h2, h3⟩ := h.res
  obtain ⟨rfl, rfl⟩ := hF.unique h3
  obtain ⟨a, c, rfl⟩ : ∃ a c, v = .slice a bs.length c := by
    obtain ⟨rs, -, h4, -⟩ := h2
    exact own_form4 h4
  exact ⟨a, c, h1, hb, h2⟩
/-- Blocks that lie between two marks have turned. -/
structure Zone (a b : Nat) (w w' : World) : Prop where
  os : w'.os = w.os
  tape : w'.tape = w.tape
  output : w'.output = w.output
  size : w.heap.size ≤ w'.heap.size
  block : ∀ k, k < w.heap.size → (k < a ∨ b ≤ k) → w'.heap[k]? = w.heap[k]?
theorem Zone.refl (a b : Nat) (w : World) : Zone a b w w := ⟨rfl, rfl, rfl, Nat.le_refl _, fun _ _ _ => rfl⟩
theorem Zone.below {a b : Nat} {w w' : World} (h : Zone a b w w') (ha : a ≤ w.heap.size) : Below a w w' := ⟨h.os, h.tape, h.output, h.size, fun k hk => h.block k (by omega) (.inl hk)⟩
theorem Zone.ov {a b : Nat} {w0 w w' : World} {row : Option Nat} (h : Zone a b w0 w) (k : Ov row w w') (hr : ∀ g, row = some g → a ≤ g ∧ g < b) : Zone a b w0 w' :=
  ⟨k.grown.os.trans h.os, k.grown.tape.trans h.tape, k.grown.output.trans h.output, Nat.le_trans h.size k.grown.size, fun j hj hab => by
    rw [k.grown.block j (Nat.lt_of_lt_of_le hj h.size) (fun e => by have := hr j e.symm; omega)]
    exact h.block j hj hab⟩
theorem Zone.own {a b : Nat} {w w' : World} (h : Zone a b w w') {B : Nat} (hB : b ≤ B) {e : TypeId} {s : Nat} {v : Value} {n : Nat} {xs : List Value} (ho : w.ownsRow B e s v n xs) : w'.ownsRow B e s v n xs :=
  ⟨ho.1, ho.2.imp id fun ⟨g, cap, cur, h1, h2, h3, r⟩ => ⟨g, cap, cur, h1, h2, (h.block g (Array.getElem?_eq_some_iff.1 h3).1 (.inr (by omega))).trans h3, r⟩⟩
theorem BagsO.zone {a b : Nat} {w w' : World} {B : Nat} {v : Value} {bs : List BagD} (h : BagsO w B v bs) (z : Zone a b w w') (hB : b ≤ B) : BagsO w' B v bs := by
  obtain ⟨rs, h1, h2, h3⟩ := h
  exact ⟨rs, h1, z.own hB h2, fun i hi hi' => ⟨z.own hB (h3 i hi hi').1, z.own hB (h3 i hi hi').2⟩⟩
/-- Bags whose rows may be written over. -/
def LS (w : World) (B1 B2 : Nat) (lv : Value) (bs : List BagD) : Prop :=
  ∃ rs : List (Value × Value), rs.length = bs.length ∧ w.ownsRow B1 45 3 lv bs.length ((rs.zip bs).flatMap fun x => bagV x.1.1 x.1.2 x.2.parent) ∧
    ∀ i (h : i < bs.length) (h' : i < rs.length), Shp w B1 9 rs[i].1 bs[i].names.length ∧ Shp w B1 3 rs[i].2 bs[i].edges.length ∧ (∀ g, rs[i].1.ownBlock = some g → g < B2) ∧ ∀ g, rs[i].2.ownBlock = some g → g < B2
theorem LS.of {w : World} {B1 : Nat} {lv : Value} {bs : List BagD} (h : BagsO w B1 lv bs) : LS w B1 w.heap.size lv bs := by
  obtain ⟨rs, h1, h2, h3⟩ := h
  exact ⟨rs, h1, h2, fun i hi hi' => ⟨⟨_, (h3 i hi hi').1⟩, ⟨_, (h3 i hi hi').2⟩, fun g hg => ((h3 i hi hi').1.lt g hg).2, fun g hg => ((h3 i hi hi').2.lt g hg).2⟩⟩
theorem LS.ov {w w' : World} {B1 B2 : Nat} {lv : Value} {bs : List BagD} {row : Option Nat} (h : LS w B1 B2 lv bs) (k : Ov row w w') (hr : ∀ g, row = some g → ∃ cur e, w.heap[g]? = some (.cells cur e (0, 0)) ∧ e ≠ 45) : LS w' B1 B2 lv bs := by
  obtain ⟨rs, h1, h2, h3⟩ := h
  refine ⟨rs, h1, h2.kept k.grown ?_, fun i hi hi' => ⟨(h3 i hi hi').1.ov k, (h3 i hi hi').2.1.ov k, (h3 i hi hi').2.2⟩⟩
  cases hg : lv.ownBlock with
  | none => exact .inl rfl
  | some g =>
    refine .inr fun e => ?_
    obtain ⟨cur, ty, h4, h5⟩ := hr g e.symm
    obtain ⟨cur2, h6⟩ := own_block3 h2 hg
    rw [h4] at h6
    cases h6
    exact h5 rfl
theorem LS.below {w w' : World} {B1 B2 : Nat} {lv : Value} {bs : List BagD} (h : LS w B1 B2 lv bs) (hb : Below w.heap.size w w') : LS w' B1 B2 lv bs :=
  h.ov (Ov.ofNone (grown_below hb) none) (fun g hg => by cases hg)
theorem LS.at {w : World} {B1 B2 : Nat} {al : Option Addr} {n cl : Nat} {bs : List BagD} (h : LS w B1 B2 (.slice al n cl) bs) {j : Nat} (hj : j < bs.length) :
    ∃ g off vv ve, al = some ⟨g, off, none⟩ ∧ w.cell? ⟨g, off + j * 3, none⟩ = some vv ∧ w.cell? ⟨g, off + j * 3 + 1, none⟩ = some ve ∧ Shp w B1 9 vv bs[j].names.length ∧ Shp w B1 3 ve bs[j].edges.length ∧ (∀ g, vv.ownBlock = some g → g < B2) ∧ ∀ g, ve.ownBlock = some g → g < B2 := by
  obtain ⟨rs, hl, hrow, hel⟩ := h
  have hf : ∀ x : (Value × Value) × BagD, (bagV x.1.1 x.1.2 x.2.parent).length = 3 := fun _ => rfl
  rcases hrow.2 with ⟨-, hn⟩ | ⟨g, cap, cur, hv, hg, hh, hc, _⟩
  · omega
  · have hjr : j < rs.length := by omega
    have hz : j < (rs.zip bs).length := by rw [List.length_zip]; omega
    obtain ⟨rfl, rfl⟩ : al = some ⟨g, 0, none⟩ ∧ n = bs.length := by injection hv with e1 e2 e3; exact ⟨e1, e2⟩
    have hcell : ∀ i, i < 3 → w.cell? ⟨g, 0 + j * 3 + i, none⟩ = (bagV rs[j].1 rs[j].2 bs[j].parent)[i]? := fun i hi => by
      rw [Nat.zero_add, hrow.cellAt (j * 3 + i) (by omega), flat3 _ hf _ j i hi hz]
      simp
    exact ⟨g, 0, rs[j].1, rs[j].2, rfl, hcell 0 (by omega), hcell 1 (by omega), hel j hj hjr⟩
theorem Shp.block {w : World} {B : Nat} {e : TypeId} {v : Value} {n : Nat} (h : Shp w B e v n) {g : Nat} (hg : v.ownBlock = some g) : B ≤ g ∧ ∃ cur, w.heap[g]? = some (.cells cur e (0, 0)) := by
  obtain ⟨xs, hx⟩ := h
  exact ⟨(hx.lt g hg).1, own_block3 hx hg⟩
end Go.Proofs.Ytnocncmjdhlmkaa.hyp

/- HyperDecomposes: the walk. -/
namespace Go.Proofs.Ytnocncmjdhlmkaa.hyp
open Go.ChangeShapes Go.WideShapes Go.ChangeAt Go.RowKit kit
set_option linter.unusedVariables false
set_option linter.unusedSimpArgs false
set_option maxRecDepth 100000 in
set_option maxHeartbeats 8000000 in
theorem hdec_any (w : World) (v : Value) (ao : Option Addr) (cap : Nat) (E : List (List ByteArray)) (width seed : Int) (lv : Value) (bs : List BagD) (hG : GraphA w v ao cap E width seed lv bs) :
    Calls Try.prog 5 #[v] w fun e w' => e = .returned (.bool true) ∧ Below w.heap.size w w' := by
  obtain ⟨al, cl, rfl, -⟩ := bags_at hG.bags
  obtain ⟨hv, -, hl, hle, -, hbl, hbs, hww, hsw⟩ := id hG
  subst hv
  have hbw : Hid (Below w.heap.size w (w.alloc (.cells #[.slice ao E.length cap, .int .i64 width, .int .i64 seed, .slice al bs.length cl] 25))) := Lib.hid ((Below.refl _ _).alloc (Nat.le_refl _) _)
  have hq := Lib.hid (Blk.new w #[.slice ao E.length cap, .int .i64 width, .int .i64 seed, .slice al bs.length cl] 25)
  have hG1 := Lib.hid (hG.below hbw.out)
  obtain ⟨L, hL⟩ : ∃ L, lightB E bs = L := ⟨_, rfl⟩
  have hli := Lib.hid (light_any _ _ _ _ _ _ _ _ _ hG1.out)
  rw [hL] at hli
  replace hL := Lib.hid hL
  have y0 := hq.out.cell 0 rfl
  have y1 := hq.out.cell 1 rfl
  have y2 := hq.out.cell 2 rfl
  have y3 := hq.out.cell 3 rfl
  clear hG
  go_enter Try.func5, Try.ntmps5
  go_wp2_with fail
  generalize w.alloc (.cells #[.slice ao E.length cap, .int .i64 width, .int .i64 seed, .slice al bs.length cl] 25) = w1 at *
  refine hli.out.mono ?_
  rintro e w2 ⟨rfl, hb2⟩
  clear hli
  replace y0 := (stay_of_below hb2).cell y0
  replace y1 := (stay_of_below hb2).cell y1
  replace y2 := (stay_of_below hb2).cell y2
  replace y3 := (stay_of_below hb2).cell y3
  have hbw2 := Lib.hid (hbw.out.trans (hb2.mono hbw.out.size))
  have hG2 := Lib.hid (hG1.out.below hb2)
  clear hb2 hG1 hq hbw
  cases L with
  | false =>
    clear y0 y1 y2 y3 hG2
    go_wp2_with fail
    refine (wakes_any _).mono ?_
    rintro e wz ⟨rfl, hbz⟩
    have hbzz := Lib.hid (hbw2.out.trans (hbz.mono hbw2.out.size))
    clear hbz
    go_wp2
    go_ret
    exact ⟨rfl, hbzz.out⟩
  | true =>
    obtain ⟨hs1, hs2, hs3⟩ := light_few hL.out
    have hde := Lib.hid (decompose_any w2 ao cap E width seed hl hle hG2.out.edges)
    have hsm := Lib.hid hG2.out.edges.small
    go_wp2_with fail
    refine hde.out.mono ?_
    intro e w3 hdo
    obtain ⟨hb3a, lv0, cs, ec, rfl, hBO, hF⟩ := hdo.res
    obtain ⟨hfew, h16⟩ := hF.few
    have hbg : Hid (∀ b ∈ cs, b.names.length ≤ 400 ∧ b.edges.length ≤ 400) := Lib.hid fun b hb => by have := hfew.2 b hb; omega
    have hLS := Lib.hid (LS.of hBO)
    have hBA := Lib.hid (hBO.reads hfew hsm.out)
    obtain ⟨a3, c3, rfl⟩ : ∃ a c, lv0 = .slice a cs.length c := by
      obtain ⟨rs, -, h4, -⟩ := hBO
      exact own_form4 h4
    have hb3 := Lib.hid (hbw2.out.trans (hb3a.mono hbw2.out.size))
    have h23 := Lib.hid hb3a
    have x0 := Lib.hid ((stay_of_below hb3a).cell y0)
    have x1 := Lib.hid ((stay_of_below hb3a).cell y1)
    have x2 := Lib.hid ((stay_of_below hb3a).cell y2)
    have hG3 := Lib.hid (hG2.out.below hb3a)
    replace hF := Lib.hid hF
    replace hfew := Lib.hid hfew
    have u0 := Lib.hid y0
    have u1 := Lib.hid y1
    have u2 := Lib.hid y2
    clear hdo hde hb3a hBO y0 y1 y2 y3
    have hbd : Hid (Below w3.heap.size w3 w3.drew) := Lib.hid ⟨rfl, rfl, rfl, Nat.le_refl _, fun _ _ => rfl⟩
    go_wp2_with fail
    refine wp_region_held_drew (S := fun V => Below w3.heap.size w3 V) (by kernel_rfl) hbd.out (fun hS => ?_)
    generalize w3.drew = V0 at *
    refine wpAnyH_take (i := 0) (v := ?_) rfl (by kernel_rfl) (by kernel_rfl) (by kernel_rfl) (fun _ _ _ h => h) (.inl ⟨by kernel_rfl, fun w' hS => ?_⟩) hS ?_
    rotate_left
    ·
      have q0 := (stay_of_below hS).cell x0.out; have q1 := (stay_of_below hS).cell x1.out; have q2 := (stay_of_below hS).cell x2.out
      go_simp
      try with_reducible rfl
    simp only [List.getElem_toArray, List.getElem_cons_succ, List.getElem_cons_zero, Act.put, List.setIfInBounds_toArray, List.set_cons_zero, List.set_cons_succ]
    refine wpAnyH_take (i := 1) (v := ?_) rfl (by kernel_rfl) (by kernel_rfl) (by kernel_rfl) (fun _ _ _ h => h) (.inl ⟨by kernel_rfl, fun w' hS => ?_⟩) hS ?_
    rotate_left
    ·
      have q0 := (stay_of_below hS).cell x0.out; have q1 := (stay_of_below hS).cell x1.out; have q2 := (stay_of_below hS).cell x2.out
      go_simp
      try with_reducible rfl
    simp only [List.getElem_toArray, List.getElem_cons_succ, List.getElem_cons_zero, Act.put, List.setIfInBounds_toArray, List.set_cons_zero, List.set_cons_succ]
    refine wpAnyH_take (i := 3) (v := ?_) rfl (by kernel_rfl) (by kernel_rfl) (by kernel_rfl) (fun _ _ _ h => h) (.inl ⟨by kernel_rfl, fun w' hS => ?_⟩) hS ?_
    rotate_left
    ·
      have q0 := (stay_of_below hS).cell x0.out; have q1 := (stay_of_below hS).cell x1.out; have q2 := (stay_of_below hS).cell x2.out
      go_simp
      try with_reducible rfl
    simp only [List.getElem_toArray, List.getElem_cons_succ, List.getElem_cons_zero, Act.put, List.setIfInBounds_toArray, List.set_cons_zero, List.set_cons_succ]
    refine wpAnyH_take (i := 4) (v := ?_) rfl (by kernel_rfl) (by kernel_rfl) (by kernel_rfl) (fun _ _ _ h => h) (.inl ⟨by kernel_rfl, fun w' hS => ?_⟩) hS ?_
    rotate_left
    ·
      have q0 := (stay_of_below hS).cell x0.out; have q1 := (stay_of_below hS).cell x1.out; have q2 := (stay_of_below hS).cell x2.out
      go_simp
      try with_reducible rfl
    simp only [List.getElem_toArray, List.getElem_cons_succ, List.getElem_cons_zero, Act.put, List.setIfInBounds_toArray, List.set_cons_zero, List.set_cons_succ]
    refine wpAnyH_take (i := 5) (v := ?_) rfl (by kernel_rfl) (by kernel_rfl) (by kernel_rfl) (fun _ _ _ h => h) (.inl ⟨by kernel_rfl, fun w' hS => ?_⟩) hS ?_
    rotate_left
    ·
      have q0 := (stay_of_below hS).cell x0.out; have q1 := (stay_of_below hS).cell x1.out; have q2 := (stay_of_below hS).cell x2.out
      go_simp
      try with_reducible rfl
    simp only [List.getElem_toArray, List.getElem_cons_succ, List.getElem_cons_zero, Act.put, List.setIfInBounds_toArray, List.set_cons_zero, List.set_cons_succ]
    refine wpAnyH_take (i := 6) (v := ?_) rfl (by kernel_rfl) (by kernel_rfl) (by kernel_rfl) (fun _ _ _ h => h) (.inl ⟨by kernel_rfl, fun w' hS => ?_⟩) hS ?_
    rotate_left
    ·
      have q0 := (stay_of_below hS).cell x0.out; have q1 := (stay_of_below hS).cell x1.out; have q2 := (stay_of_below hS).cell x2.out
      go_simp
      try with_reducible rfl
    simp only [List.getElem_toArray, List.getElem_cons_succ, List.getElem_cons_zero, Act.put, List.setIfInBounds_toArray, List.set_cons_zero, List.set_cons_succ]
    have hcp := Lib.hid (copied_any V0 ao cap E (hG3.out.below hbd.out).edges hl hle)
    refine wpAnyH_ready (rs := [2]) (by kernel_rfl) (by simp) ?_
    refine AllReadyH.cons rfl (fun K hK => ?_) AllReadyH.nil
    clear hS
    go_simp
    refine (hcp.out).mono ?_
    rintro e w7 ⟨cv, rfl, hCE⟩
    go_wp2_with fail
    refine hK.out _ _ (hbd.out.trans (hCE.below.mono hbd.out.size)) (fun hS => ?_)
    clear hK K
    try simp only [List.getElem_toArray, List.getElem_cons_succ, List.getElem_cons_zero, Act.put, List.setIfInBounds_toArray, List.set_cons_zero, List.set_cons_succ]
    have hb7 := Lib.hid (hbd.out.trans (hCE.below.mono hbd.out.size))
    have hEc := hCE.own.read hsm.out
    obtain ⟨ac, cc, rfl, -⟩ := hEc.form
    have hda := Lib.hid (decompose_again w7 ac cc E width seed hl hle hEc hF.out)
    clear hCE hcp hbd hEc
    refine wpAnyH_ready (rs := [7]) (by kernel_rfl) (by simp) ?_
    refine AllReadyH.cons rfl (fun K hK => ?_) AllReadyH.nil
    clear hS
    go_simp
    refine (hda.out).mono ?_
    rintro e w8 ⟨a8, c8, rfl, hb8a, hBO8⟩
    go_wp2_with fail
    refine hK.out _ _ (hb7.out.trans (hb8a.mono hb7.out.size)) (fun hS => ?_)
    clear hK K
    try simp only [List.getElem_toArray, List.getElem_cons_succ, List.getElem_cons_zero, Act.put, List.setIfInBounds_toArray, List.set_cons_zero, List.set_cons_succ]
    have hb8 := Lib.hid (hb7.out.trans (hb8a.mono hb7.out.size))
    replace hBO8 := Lib.hid (hBO8.low hb7.out.size)
    refine wpAnyH_take (i := 8) (v := ?_) rfl (by kernel_rfl) (by kernel_rfl) (by kernel_rfl) (fun _ _ _ h => h) (.inl ⟨by kernel_rfl, fun w' hS => ?_⟩) hS ?_
    rotate_left
    ·
      skip
      go_simp
      try with_reducible rfl
    simp only [List.getElem_toArray, List.getElem_cons_succ, List.getElem_cons_zero, Act.put, List.setIfInBounds_toArray, List.set_cons_zero, List.set_cons_succ]
    refine wpAnyH_take (i := 9) (v := ?_) rfl (by kernel_rfl) (by kernel_rfl) (by kernel_rfl) (fun _ _ _ h => h) (.inl ⟨by kernel_rfl, fun w' hS => ?_⟩) hS ?_
    rotate_left
    ·
      skip
      go_simp
      try with_reducible rfl
    simp only [List.getElem_toArray, List.getElem_cons_succ, List.getElem_cons_zero, Act.put, List.setIfInBounds_toArray, List.set_cons_zero, List.set_cons_succ]
    refine wpAnyH_take (i := 10) (v := ?_) rfl (by kernel_rfl) (by kernel_rfl) (by kernel_rfl) (fun _ _ _ h => h) (.inl ⟨by kernel_rfl, fun w' hS => ?_⟩) hS ?_
    rotate_left
    ·
      skip
      go_simp
      try with_reducible rfl
    simp only [List.getElem_toArray, List.getElem_cons_succ, List.getElem_cons_zero, Act.put, List.setIfInBounds_toArray, List.set_cons_zero, List.set_cons_succ]
    refine wpAnyH_take (i := 11) (v := ?_) rfl (by kernel_rfl) (by kernel_rfl) (by kernel_rfl) (fun _ _ _ h => h) (.inl ⟨by kernel_rfl, fun w' hS => ?_⟩) hS ?_
    rotate_left
    ·
      skip
      go_simp
      try with_reducible rfl
    simp only [List.getElem_toArray, List.getElem_cons_succ, List.getElem_cons_zero, Act.put, List.setIfInBounds_toArray, List.set_cons_zero, List.set_cons_succ]
    refine wpAnyH_take (i := 12) (v := ?_) rfl (by kernel_rfl) (by kernel_rfl) (by kernel_rfl) (fun _ _ _ h => h) (.inl ⟨by kernel_rfl, fun w' hS => ?_⟩) hS ?_
    rotate_left
    ·
      skip
      go_simp
      try with_reducible rfl
    simp only [List.getElem_toArray, List.getElem_cons_succ, List.getElem_cons_zero, Act.put, List.setIfInBounds_toArray, List.set_cons_zero, List.set_cons_succ]
    refine wpAnyH_done (by kernel_rfl) ?_ _
    clear hS hda hb7 hb8a
    have hsame := Lib.hid (same_same w8 _ _ cs ((hBA.out.stay (stay_of_below hb8.out)).mono hb8.out.size) (hBO8.out.reads hfew.out hsm.out) (by omega) (fun b hb => by have := hbg.out b hb; omega))
    go_wp2_with fail
    refine hsame.out.mono ?_
    rintro e w9 ⟨rfl, hb9a⟩
    have hb9 := Lib.hid (hb8.out.trans (hb9a.mono hb8.out.size))
    have hBO9 := Lib.hid (hBO8.out.below hb9a)
    have hLS9 := Lib.hid (hLS.out.below hb9.out)
    have hG9 := Lib.hid (hG3.out.below hb9.out)
    have hBA9 := Lib.hid ((hBA.out.stay (stay_of_below hb9.out)).mono hb9.out.size)
    have z0 := (stay_of_below hb9.out).cell x0.out
    have z1 := (stay_of_below hb9.out).cell x1.out
    have z2 := (stay_of_below hb9.out).cell x2.out
    have hmy := Lib.hid (may_any w9 ao cap E hG9.out.edges (by omega) hl)
    clear hsame hb9a hBO8 hLS hG3 hBA hb8 x0 x1 x2
    go_wp2_with fail
    refine hmy.out.mono ?_
    rintro e w10 ⟨rfl, hb10a⟩
    have hb10 := Lib.hid (hb9.out.trans (hb10a.mono hb9.out.size))
    have hB10 := Lib.hid (hb3.out.trans (hb10.out.mono hb3.out.size))
    have hF2 := hF.out
    rcases hF2 with ⟨hno, rfl, rfl⟩ | ⟨⟨hm, hw1⟩, hwl, rfl, rfl⟩ | ⟨⟨hm, hw1⟩, hwl, rfl, -⟩
    · replace z1 := (stay_of_below hb10a).cell z1
      cases hm : mayR nameB E with
      | false =>
        clear hno hm
        go_wp2_with fail
        refine (wakes_any _).mono ?_
        rintro e wz ⟨rfl, hbz⟩
        have hbzz := Lib.hid (hB10.out.trans (hbz.mono hB10.out.size))
        clear hbz
        go_wp2
        go_ret
        exact ⟨rfl, hbzz.out⟩
      | true =>
        have hw1 : width < 1 := by
          apply Classical.byContradiction
          intro h
          exact hno ⟨hm, by omega⟩
        clear hno
        replace hm := Lib.hid hm
        go_wp2_with fail
        refine (wakes_any _).mono ?_
        rintro e wz ⟨rfl, hbz⟩
        have hbzz := Lib.hid (hB10.out.trans (hbz.mono hB10.out.size))
        clear hbz
        go_wp2
        go_ret
        exact ⟨rfl, hbzz.out⟩
    · replace z0 := (stay_of_below hb10a).cell z0
      replace z1 := (stay_of_below hb10a).cell z1
      replace z2 := (stay_of_below hb10a).cell z2
      have hG10 := Lib.hid (hG9.out.below hb10a)
      have hbd : Hid (Below w10.heap.size w10 w10.drew) := Lib.hid ⟨rfl, rfl, rfl, Nat.le_refl _, fun _ _ => rfl⟩
      have hrw := Lib.hid (rwidth_any w10.drew ao cap E (hG10.out.below hbd.out).edges (by omega) hl hm)
      generalize widN (setsR E) 0 (allR E) = n at *
      rw [hm]
      replace hm := Lib.hid hm
      go_wp2_with fail
      refine wp_region_held_drew (S := fun V => Below w10.heap.size w10 V) (by kernel_rfl) hbd.out (fun hS => ?_)
      generalize w10.drew = V0 at *
      refine wpAnyH_take (i := 0) (v := ?_) rfl (by kernel_rfl) (by kernel_rfl) (by kernel_rfl) (fun _ _ _ h => h) (.inl ⟨by kernel_rfl, fun w' hS => ?_⟩) hS ?_
      rotate_left
      ·
        have q0 := (stay_of_below hS).cell z0; have q1 := (stay_of_below hS).cell z1
        go_simp
        try with_reducible rfl
      simp only [List.getElem_toArray, List.getElem_cons_succ, List.getElem_cons_zero, Act.put, List.setIfInBounds_toArray, List.set_cons_zero, List.set_cons_succ]
      refine wpAnyH_take (i := 1) (v := ?_) rfl (by kernel_rfl) (by kernel_rfl) (by kernel_rfl) (fun _ _ _ h => h) (.inl ⟨by kernel_rfl, fun w' hS => ?_⟩) hS ?_
      rotate_left
      ·
        have q0 := (stay_of_below hS).cell z0; have q1 := (stay_of_below hS).cell z1
        go_simp
        try with_reducible rfl
      simp only [List.getElem_toArray, List.getElem_cons_succ, List.getElem_cons_zero, Act.put, List.setIfInBounds_toArray, List.set_cons_zero, List.set_cons_succ]
      refine wpAnyH_take (i := 3) (v := ?_) rfl (by kernel_rfl) (by kernel_rfl) (by kernel_rfl) (fun _ _ _ h => h) (.inl ⟨by kernel_rfl, fun w' hS => ?_⟩) hS ?_
      rotate_left
      ·
        have q0 := (stay_of_below hS).cell z0; have q1 := (stay_of_below hS).cell z1
        go_simp
        try with_reducible rfl
      simp only [List.getElem_toArray, List.getElem_cons_succ, List.getElem_cons_zero, Act.put, List.setIfInBounds_toArray, List.set_cons_zero, List.set_cons_succ]
      refine wpAnyH_take (i := 4) (v := ?_) rfl (by kernel_rfl) (by kernel_rfl) (by kernel_rfl) (fun _ _ _ h => h) (.inl ⟨by kernel_rfl, fun w' hS => ?_⟩) hS ?_
      rotate_left
      ·
        have q0 := (stay_of_below hS).cell z0; have q1 := (stay_of_below hS).cell z1
        go_simp
        try with_reducible rfl
      simp only [List.getElem_toArray, List.getElem_cons_succ, List.getElem_cons_zero, Act.put, List.setIfInBounds_toArray, List.set_cons_zero, List.set_cons_succ]
      refine wpAnyH_ready (rs := [2]) (by kernel_rfl) (by simp) ?_
      refine AllReadyH.cons rfl (fun K hK => ?_) AllReadyH.nil
      clear hS
      go_simp
      refine (hrw.out).mono ?_
      rintro e w11 ⟨rfl, hb11⟩
      go_wp2_with fail
      refine hK.out _ _ (hbd.out.trans (hb11.mono hbd.out.size)) (fun hS => ?_)
      clear hK K
      try simp only [List.getElem_toArray, List.getElem_cons_succ, List.getElem_cons_zero, Act.put, List.setIfInBounds_toArray, List.set_cons_zero, List.set_cons_succ]
      have hb11a := Lib.hid (hbd.out.trans (hb11.mono hbd.out.size))
      have hB11 := Lib.hid (hB10.out.trans (hb11a.out.mono hB10.out.size))
      refine wpAnyH_take (i := 5) (v := ?_) rfl (by kernel_rfl) (by kernel_rfl) (by kernel_rfl) (fun _ _ _ h => h) (.inl ⟨by kernel_rfl, fun w' hS => ?_⟩) hS ?_
      rotate_left
      ·
        skip
        go_simp
        try with_reducible rfl
      simp only [List.getElem_toArray, List.getElem_cons_succ, List.getElem_cons_zero, Act.put, List.setIfInBounds_toArray, List.set_cons_zero, List.set_cons_succ]
      refine wpAnyH_done (by kernel_rfl) ?_ _
      clear hS hb11 hbd hrw
      go_wp2_with fail
      refine (wakes_any _).mono ?_
      rintro e wz ⟨rfl, hbz⟩
      have hbzz := Lib.hid (hB11.out.trans (hbz.mono hB11.out.size))
      clear hbz
      go_wp2
      go_ret
      exact ⟨rfl, hbzz.out⟩
    · have hchk := hF.out.chk
      replace z0 := (stay_of_below hb10a).cell z0
      replace z1 := (stay_of_below hb10a).cell z1
      replace z2 := (stay_of_below hb10a).cell z2
      have hG10 := Lib.hid (hG9.out.below hb10a)
      have hbd : Hid (Below w10.heap.size w10 w10.drew) := Lib.hid ⟨rfl, rfl, rfl, Nat.le_refl _, fun _ _ => rfl⟩
      have hrw := Lib.hid (rwidth_any w10.drew ao cap E (hG10.out.below hbd.out).edges (by omega) hl hm)
      generalize widN (setsR E) 0 (allR E) = n at *
      rw [hm]
      replace hm := Lib.hid hm
      go_wp2_with fail
      refine wp_region_held_drew (S := fun V => Below w10.heap.size w10 V) (by kernel_rfl) hbd.out (fun hS => ?_)
      generalize w10.drew = V0 at *
      refine wpAnyH_take (i := 0) (v := ?_) rfl (by kernel_rfl) (by kernel_rfl) (by kernel_rfl) (fun _ _ _ h => h) (.inl ⟨by kernel_rfl, fun w' hS => ?_⟩) hS ?_
      rotate_left
      ·
        have q0 := (stay_of_below hS).cell z0; have q1 := (stay_of_below hS).cell z1
        go_simp
        try with_reducible rfl
      simp only [List.getElem_toArray, List.getElem_cons_succ, List.getElem_cons_zero, Act.put, List.setIfInBounds_toArray, List.set_cons_zero, List.set_cons_succ]
      refine wpAnyH_take (i := 1) (v := ?_) rfl (by kernel_rfl) (by kernel_rfl) (by kernel_rfl) (fun _ _ _ h => h) (.inl ⟨by kernel_rfl, fun w' hS => ?_⟩) hS ?_
      rotate_left
      ·
        have q0 := (stay_of_below hS).cell z0; have q1 := (stay_of_below hS).cell z1
        go_simp
        try with_reducible rfl
      simp only [List.getElem_toArray, List.getElem_cons_succ, List.getElem_cons_zero, Act.put, List.setIfInBounds_toArray, List.set_cons_zero, List.set_cons_succ]
      refine wpAnyH_take (i := 3) (v := ?_) rfl (by kernel_rfl) (by kernel_rfl) (by kernel_rfl) (fun _ _ _ h => h) (.inl ⟨by kernel_rfl, fun w' hS => ?_⟩) hS ?_
      rotate_left
      ·
        have q0 := (stay_of_below hS).cell z0; have q1 := (stay_of_below hS).cell z1
        go_simp
        try with_reducible rfl
      simp only [List.getElem_toArray, List.getElem_cons_succ, List.getElem_cons_zero, Act.put, List.setIfInBounds_toArray, List.set_cons_zero, List.set_cons_succ]
      refine wpAnyH_take (i := 4) (v := ?_) rfl (by kernel_rfl) (by kernel_rfl) (by kernel_rfl) (fun _ _ _ h => h) (.inl ⟨by kernel_rfl, fun w' hS => ?_⟩) hS ?_
      rotate_left
      ·
        have q0 := (stay_of_below hS).cell z0; have q1 := (stay_of_below hS).cell z1
        go_simp
        try with_reducible rfl
      simp only [List.getElem_toArray, List.getElem_cons_succ, List.getElem_cons_zero, Act.put, List.setIfInBounds_toArray, List.set_cons_zero, List.set_cons_succ]
      refine wpAnyH_ready (rs := [2]) (by kernel_rfl) (by simp) ?_
      refine AllReadyH.cons rfl (fun K hK => ?_) AllReadyH.nil
      clear hS
      go_simp
      refine (hrw.out).mono ?_
      rintro e w11 ⟨rfl, hb11⟩
      go_wp2_with fail
      refine hK.out _ _ (hbd.out.trans (hb11.mono hbd.out.size)) (fun hS => ?_)
      clear hK K
      try simp only [List.getElem_toArray, List.getElem_cons_succ, List.getElem_cons_zero, Act.put, List.setIfInBounds_toArray, List.set_cons_zero, List.set_cons_succ]
      have hb11a := Lib.hid (hbd.out.trans (hb11.mono hbd.out.size))
      have hB11 := Lib.hid (hB10.out.trans (hb11a.out.mono hB10.out.size))
      refine wpAnyH_take (i := 5) (v := ?_) rfl (by kernel_rfl) (by kernel_rfl) (by kernel_rfl) (fun _ _ _ h => h) (.inl ⟨by kernel_rfl, fun w' hS => ?_⟩) hS ?_
      rotate_left
      ·
        skip
        go_simp
        try with_reducible rfl
      simp only [List.getElem_toArray, List.getElem_cons_succ, List.getElem_cons_zero, Act.put, List.setIfInBounds_toArray, List.set_cons_zero, List.set_cons_succ]
      refine wpAnyH_done (by kernel_rfl) ?_ _
      clear hS hb11 hbd hrw
      have hG11 := Lib.hid (hG10.out.below hb11a.out)
      have hb9to11 := Lib.hid (hb10a.trans (hb11a.out.mono hb10a.size))
      have hrc := Lib.hid (rcheck_any w11 ao cap E cs _ width hG11.out.edges (by omega) hl ((hBA9.out.stay (stay_of_below hb9to11.out)).mono hb9to11.out.size) (by omega) (fun b hb => by have := hbg.out b hb; omega))
      rw [hchk] at hrc
      replace z0 := (stay_of_below hb11a.out).cell z0
      replace z1 := (stay_of_below hb11a.out).cell z1
      replace z2 := (stay_of_below hb11a.out).cell z2
      have hwl2 : ¬ width < (n : Int) := by omega
      replace hchk := Lib.hid hchk
      go_wp2_with fail
      refine hrc.out.mono ?_
      rintro e w12 ⟨rfl, hb12a⟩
      have hb9to12 := Lib.hid (hb9to11.out.trans (hb12a.mono hb9to11.out.size))
      have h3to12 := Lib.hid (hb9.out.trans (hb9to12.out.mono hb9.out.size))
      have h2to12 := Lib.hid (h23.out.trans (h3to12.out.mono h23.out.size))
      have hLS12 := Lib.hid (hLS9.out.below hb9to12.out)
      have hBO12 := Lib.hid (hBO9.out.below hb9to12.out)
      clear hrc z0 z1 z2 hb12a hG10 hG11 hb10 hB10 hB11 hb11a hb9to11 hBA9 hb10a hmy
      go_wp2
      go_loopw [7] (fun i wr => ∃ k : Nat, k ≤ cs.length ∧ i = .int .i64 (k : Int) ∧ Hid (Zone w2.heap.size w3.heap.size w12 wr) ∧ Hid (LS wr w2.heap.size w3.heap.size (.slice a3 cs.length c3) cs)) (fun i _ => cs.length - (intOf i).toNat)
      case atStart => exact ⟨0, by omega, rfl, Lib.hid (Zone.refl _ _ _), hLS12⟩
      case round =>
        obtain ⟨k, hk, rfl, hZ, hL1⟩ := hrel
        by_cases hlt : k < cs.length
        · have hki : (k : Int) < (cs.length : Int) := by omega
          have hk1 := Lib.hid (show k + 1 ≤ cs.length from hlt)
          obtain ⟨g, off, vv, ve, rfl, c0, c1, t1, t2, q1, q2⟩ := hL1.out.at hlt
          obtain ⟨hn1, hn2⟩ := hbg.out _ (List.getElem_mem hlt)
          have hov := Lib.hid (overT_any wr w2.heap.size vv _ t1 (by omega))
          go_wp2_with fail
          refine hov.out.mono ?_
          rintro e w13 ⟨rfl, hov1⟩
          have hZ13 := Lib.hid (hZ.out.ov hov1 (fun x hx => ⟨(t1.block hx).1, q1 x hx⟩))
          have hL13 := Lib.hid (hL1.out.ov hov1 (fun x hx => by obtain ⟨-, cur, h⟩ := t1.block hx; exact ⟨cur, _, h, by decide⟩))
          clear hZ hL1 hov hov1 c0 c1 t1 t2 q1 q2
          obtain ⟨g2, off2, vv2, ve2, hgg, c0, c1, t1, t2, q1, q2⟩ := hL13.out.at hlt
          obtain ⟨rfl, rfl⟩ : g = g2 ∧ off = off2 := by cases hgg; exact ⟨rfl, rfl⟩
          clear hgg
          have hov := Lib.hid (overI_any w13 w2.heap.size ve2 _ t2 (by omega))
          go_wp2_with fail
          refine hov.out.mono ?_
          rintro e w14 ⟨rfl, hov1⟩
          have hZ14 := Lib.hid (hZ13.out.ov hov1 (fun x hx => ⟨(t2.block hx).1, q2 x hx⟩))
          have hL14 := Lib.hid (hL13.out.ov hov1 (fun x hx => by obtain ⟨-, cur, h⟩ := t2.block hx; exact ⟨cur, _, h, by decide⟩))
          clear hZ13 hL13 hov hov1 c0 c1 t1 t2 q1 q2
          go_wp2
          go_roundw
          case rel => exact ⟨k + 1, hk1.out, by go_num, hZ14, hL14⟩
          case measure => have := hk1.out; simp [intOf]; omega
        · have hki : ¬ (k : Int) < (cs.length : Int) := by omega
          have h2r := Lib.hid (h2to12.out.trans (hZ.out.below h2to12.out.size))
          have hGr := hG2.out.below h2r.out
          have z0 := (stay_of_below h2r.out).cell u0.out
          have z1 := (stay_of_below h2r.out).cell u1.out
          have z2 := (stay_of_below h2r.out).cell u2.out
          have hda := Lib.hid (decompose_again wr ao cap E width seed hl hle hGr.edges hF.out)
          have hBr := Lib.hid (hBO12.out.zone hZ.out (Nat.le_refl _))
          clear hGr hZ hL1 hlt
          go_wp2_with fail
          refine hda.out.mono ?_
          rintro e w15 ⟨a15, c15, rfl, hb15, hBO15⟩
          have hB15 := Lib.hid (hbw2.out.trans ((h2r.out.trans (hb15.mono h2r.out.size)).mono hbw2.out.size))
          have hsame := Lib.hid (same_same w15 _ _ cs (hBO15.reads hfew.out hsm.out) ((hBr.out.below hb15).reads hfew.out hsm.out) (by omega) (fun b hb => by have := hbg.out b hb; omega))
          clear hda hb15 hBO15 hBr z0 z1 z2
          go_wp2_with fail
          refine hsame.out.mono ?_
          rintro e w16 ⟨rfl, hb16⟩
          have hB16 := Lib.hid (hB15.out.trans (hb16.mono hB15.out.size))
          clear hb16 hsame
          go_wp2_with fail
          refine (wakes_any _).mono ?_
          rintro e wz ⟨rfl, hbz⟩
          have hbzz := Lib.hid (hB16.out.trans (hbz.mono hB16.out.size))
          clear hbz
          go_wp2
          go_ret
          exact ⟨rfl, hbzz.out⟩
end Go.Proofs.Ytnocncmjdhlmkaa.hyp
