/- Texts RdCopy, RdOpen, one behind the other. -/
import Derived.Test.YtjncjcellpbhcaaGreatDoorRdReadA
import Derived.Test.YtjncjcellpbhcaaGreatDoorVJoinA
import Derived.Test.YtjncjcellpbhcaaGreatDoorValMem
/- Contract of the reference's Copy of bytes. -/
namespace Go.Proofs.YtjncjcellpbhcaaGreatDoor.val
open Go.ChangeShapes Go.WideShapes Go.ChangeAt Go.RowKit kit dec
set_option linter.unusedVariables false
set_option linter.unusedSimpArgs false
def bytesW (l : List UInt8) : List Value := l.map fun b => .int .u8 (b.toNat : Int)
theorem BytesA.own {w : World} {B : Nat} {v : Value} {L : List UInt8} (h : w.ownsRow B 5 1 v L.length (bytesW L)) : BytesA w w.heap.size v L := by
  rcases h.2 with ⟨rfl, h0⟩ | ⟨g, cap, cur, rfl, hB, hg, hn, hc, hs, ht⟩
  · exact .inl ⟨_, _, rfl, List.length_eq_zero_iff.1 h0⟩
  · by_cases h0 : L = []
    · subst h0; exact .inl ⟨_, cap, rfl, rfl⟩
    · refine .inr ⟨g, 0, cap, rfl, List.length_pos_iff.2 h0, hn, (Array.getElem?_eq_some_iff.1 hg).1, fun j hj => ?_⟩
      have := h.cellAt j (by omega)
      rw [Nat.zero_add, this]
      simp [bytesW, hj]
theorem copyB_call (w : World) (v : Value) (L : List UInt8) (hL : L.length ≤ 1048576) (h : BytesA w w.heap.size v L) :
    Calls Tryz.prog 6 #[v] w fun e w' => ∃ v', e = .returned v' ∧ BytesA w' w'.heap.size v' L ∧ Below w.heap.size w w' := by
  obtain ⟨i0, hi, hz⟩ := Option.map_eq_some_iff.1 infoByte
  simp only [Prod.mk.injEq] at hz
  obtain ⟨hz0, hz1, hz2⟩ := hz
  have hnil := World.ownsRow_nil w w.heap.size 5 1
  replace hi := Lib.hid hi
  replace hz0 := Lib.hid hz0
  replace hz1 := Lib.hid hz1
  replace hz2 := Lib.hid hz2
  have hgrow : ∀ (v' : Value) (w' : World), w'.ownsRow w.heap.size 5 1 v' (0 + L.length) ([] ++ bytesW L) → w.grownBy w' (Value.ownBlock (.slice none 0 0)) → BytesA w' w'.heap.size v' L ∧ Below w.heap.size w w' := by
    intro v' w' h1 h2
    rw [Nat.zero_add, List.nil_append] at h1
    exact ⟨BytesA.own h1, h2.os, h2.tape, h2.output, h2.size, fun k hk => h2.block k hk (by simp [Value.ownBlock])⟩
  replace hgrow := Lib.hid hgrow
  rcases h with ⟨ao, cap, rfl, rfl⟩ | ⟨b, off, cap, rfl, h0, hc, hb, hj⟩
  · rcases ao with _ | ad
    · have hrun := run_append_none (P := Tryz.prog) w w.heap.size 23 23 5 i0 1 Tryz.underlying23 hi.out (.slice none 0 0) 0 [] hnil cap
      replace hrun := Lib.hid hrun
      go_enter Tryz.func6, Tryz.ntmps6
      go_wp2_with (at_builtin; refine wpList_append_run rfl _ _ 23 23 rfl _ _ _ _ rfl rfl hrun.out ?_)
      go_ret
      exact ⟨_, rfl, .inl ⟨_, _, rfl, rfl⟩, Below.refl _ _⟩
    · go_enter Tryz.func6, Tryz.ntmps6
      go_wp2_with (at_builtin; refine wpList_append_own _ rfl _ _ 23 rfl w.heap.size 5 i0 (.int .u8 0) 1 1 Tryz.underlying23 hi.out hz0.out hz1.out hz2.out rfl (by decide) _ 0 [] rfl hnil _ 0 _ [] rfl rfl ?c1 ?c2 ?c3 ?c4 ?c5 ?c6)
      case c1 => intro j u h; simp at h
      case c2 => intro u h; cases h
      case c3 => simp only [maxLen]; omega
      case c4 => omega
      case c5 => exact Nat.le_refl _
      case c6 =>
        intro v' w' h1 h2 _
        have h3 := hgrow.out v' w' h1 h2
        go_wp2
        go_ret
        exact ⟨_, rfl, h3⟩
  · go_enter Tryz.func6, Tryz.ntmps6
    go_wp2_with (at_builtin; refine wpList_append_own _ rfl _ _ 23 rfl w.heap.size 5 i0 (.int .u8 0) 1 1 Tryz.underlying23 hi.out hz0.out hz1.out hz2.out rfl (by decide) _ 0 [] rfl hnil _ L.length _ (bytesW L) rfl ?d0 ?d1 ?d2 ?d3 ?d4 ?d5 ?d6)
    case d0 => simp [bytesW]
    case d1 =>
      intro j u hu
      have hjl : j < L.length := by
        have := (List.getElem?_eq_some_iff.1 hu).1
        simpa [bytesW] using this
      rw [Go.WideShapes.add_plain, hj j hjl, ← hu]
      simp [bytesW, hjl]
    case d2 => intro u hu; simp [bytesW] at hu; obtain ⟨x, _, rfl⟩ := hu; rfl
    case d3 => simp only [maxLen]; omega
    case d4 => omega
    case d5 => exact Nat.le_refl _
    case d6 =>
      intro v' w' h1 h2 _
      have h3 := hgrow.out v' w' (by rw [Nat.zero_add, List.nil_append]; exact h1) h2
      go_wp2
      go_ret
      exact ⟨_, rfl, h3⟩
end Go.Proofs.YtjncjcellpbhcaaGreatDoor.val

/- The argument opened: lists of bytes in memory. -/
namespace Go.Proofs.YtjncjcellpbhcaaGreatDoor.val
open Go.ChangeShapes Go.WideShapes Go.ChangeAt Go.RowKit kit dec
set_option linter.unusedVariables false
set_option linter.unusedSimpArgs false
theorem wf8 {n : Int} (h : (Lit.int .u8 n).wf = true) : 0 ≤ n ∧ n < 256 := by
  simp [Lit.wf, IntKind.min, IntKind.max, IntKind.signed, IntKind.bits] at h
  omega
section
variable {H : Type} {enc : TypeId × Value → H} {W : World}
set_option maxRecDepth 100000 in
/-- What is read as a list of bytes is one. -/
theorem ba_of_trod (fuel : Nat) {cs : List Value} {x : DataW H × List MemPlace} (h : DataW.trod enc Tryz.prog W 0 (fun _ => true) true fuel 23 cs = some x) : ∃ v L, cs = [v] ∧ BytesA W W.heap.size v L := by
  have hC : Tryz.prog.cellsOf 5 = 1 := by kernel_rfl
  rcases DataW.trod_slice Tryz.underlying23 h with ⟨rfl, rfl⟩ | ⟨a, len, cap, elems, rest, n, rfl, rfl, rfl, _, hl, hm, hlen, hel, _, _⟩
  · exact ⟨_, [], rfl, .inl ⟨none, 0, rfl, rfl⟩⟩
  · obtain ⟨b, off, tg⟩ := a
    have get : ∀ j, j < len → ∃ u : UInt8, W.cell? ((⟨b, off, tg⟩ : Addr).add j) = some (.int .u8 (u.toNat : Nat)) := by
      intro j hj
      have h1 := hel j hj
      rw [hC, List.getElem?_eq_getElem (by omega)] at h1
      rw [Option.bind_eq_some_iff] at h1
      obtain ⟨c1, h2, h3⟩ := h1
      obtain ⟨k, e0, g0, w0⟩ := DataW.trod_int Tryz.underlying5 h3
      have h8 := wf8 w0
      obtain ⟨_, h5, h6⟩ := World.cells?_some h2
      have h7 := h6 0 (by decide)
      rw [e0] at h7
      refine ⟨UInt8.ofNat k.toNat, ?_⟩
      rw [show ((UInt8.ofNat k.toNat).toNat : Int) = k from by rw [UInt8.toNat_ofNat']; omega]
      simpa [Addr.add] using h7
    have htg : 0 < len → tg = none ∧ b < W.heap.size := by
      intro h0
      obtain ⟨u, hu⟩ := get 0 h0
      have ht : tg = none := by simpa [Addr.add] using World.cell?_spot hu
      subst ht
      obtain ⟨ob, ho, _⟩ := cells_of_cell (show W.cell? ⟨b, off, none⟩ = some _ from hu)
      exact ⟨rfl, (Array.getElem?_eq_some_iff.1 ho).1⟩
    have hch : ∃ L : List UInt8, L.length = len ∧ ∀ j (hj : j < L.length), W.cell? ((⟨b, off, tg⟩ : Addr).add j) = some (.int .u8 (L[j].toNat : Nat)) := by
      refine ⟨(List.finRange len).map fun j => (get j.1 j.2).choose, by simp, fun j hj => ?_⟩
      have hj' : j < len := by simpa using hj
      simp only [List.getElem_map, List.getElem_finRange]
      exact (get j hj').choose_spec
    obtain ⟨L, rfl, hel2⟩ := hch
    by_cases h0 : L = []
    · subst h0; exact ⟨_, [], rfl, .inl ⟨_, cap, rfl, rfl⟩⟩
    · have hpos := List.length_pos_iff.2 h0
      obtain ⟨rfl, hb⟩ := htg hpos
      exact ⟨_, L, rfl, .inr ⟨b, off, cap, rfl, hpos, by omega, hb, fun j hj => by rw [← Go.WideShapes.add_plain]; exact hel2 j hj⟩⟩
set_option maxRecDepth 100000 in
/-- What is read as a list of lists of bytes is one. -/
theorem bl_of_trod (fuel : Nat) {cs : List Value} {x : DataW H × List MemPlace} (h : DataW.trod enc Tryz.prog W 0 (fun _ => true) true fuel 22 cs = some x) :
    ∃ (ao : Option Addr) (cap : Nat) (ls : List (List UInt8)), cs = [.slice ao ls.length cap] ∧ ∀ j (hj : j < ls.length), ∃ b off v, ao = some ⟨b, off, none⟩ ∧ b < W.heap.size ∧ W.cell? ⟨b, off + j, none⟩ = some v ∧ BytesA W W.heap.size v ls[j] := by
  have hC : Tryz.prog.cellsOf 23 = 1 := by kernel_rfl
  rcases DataW.trod_slice Tryz.underlying22 h with ⟨rfl, rfl⟩ | ⟨a, len, cap, elems, rest, n, rfl, rfl, rfl, _, hl, hm, hlen, hel, _, _⟩
  · exact ⟨_, _, [], rfl, fun j hj => by simp at hj⟩
  · obtain ⟨b, off, tg⟩ := a
    have get : ∀ j, j < len → ∃ (L : List UInt8) (v : Value), W.cell? ((⟨b, off, tg⟩ : Addr).add j) = some v ∧ BytesA W W.heap.size v L := by
      intro j hj
      have h1 := hel j hj
      rw [hC, List.getElem?_eq_getElem (by omega)] at h1
      rw [Option.bind_eq_some_iff] at h1
      obtain ⟨c1, h2, h3⟩ := h1
      obtain ⟨v, L, e0, hb⟩ := ba_of_trod _ h3
      obtain ⟨_, h5, h6⟩ := World.cells?_some h2
      have h7 := h6 0 (by decide)
      rw [e0] at h7
      exact ⟨L, v, by simpa [Addr.add] using h7, hb⟩
    have hch : ∃ ls : List (List UInt8), ls.length = len ∧ ∀ j (hj : j < ls.length), ∃ v, W.cell? ((⟨b, off, tg⟩ : Addr).add j) = some v ∧ BytesA W W.heap.size v ls[j] := by
      refine ⟨(List.finRange len).map fun j => (get j.1 j.2).choose, by simp, fun j hj => ?_⟩
      have hj' : j < len := by simpa using hj
      simp only [List.getElem_map, List.getElem_finRange]
      exact (get j hj').choose_spec
    obtain ⟨ls, rfl, hel2⟩ := hch
    refine ⟨_, cap, ls, rfl, fun j hj => ?_⟩
    obtain ⟨v, hv, hb⟩ := hel2 j hj
    have ht : tg = none := by
      obtain ⟨v0, h0, _⟩ := hel2 0 (by omega)
      simpa [Addr.add] using World.cell?_spot h0
    subst ht
    rw [Go.WideShapes.add_plain] at hv
    obtain ⟨ob, ho, _⟩ := cells_of_cell hv
    exact ⟨b, off, v, rfl, (Array.getElem?_eq_some_iff.1 ho).1, hv, hb⟩
end
end Go.Proofs.YtjncjcellpbhcaaGreatDoor.val
