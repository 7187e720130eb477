/- What reading a hypergraph keeps; the contract of Index. -/
import Derived.Test.YtnocncmjdhlmkaaHGraph
import Derived.Test.YtnocncmjdhlmkaaHName
import Derived.Test.YtnocncmjdhlmkaaHypS
namespace Go.Proofs.Ytnocncmjdhlmkaa.hyp
open Go.ChangeShapes Go.WideShapes Go.ChangeAt Go.RowKit kit
set_option linter.unusedVariables false
set_option linter.unusedSimpArgs false
theorem text_eq (a b : ByteArray) : (a.toList == b.toList) = decide (a = b) := by
  apply Bool.eq_iff_iff.2
  rw [decide_eq_true_eq, beq_iff_eq, Go.ByteArray.toList_eq, Go.ByteArray.toList_eq]
  constructor
  · intro h
    cases a; cases b
    congr
    exact Array.toList_inj.1 h
  · intro h; rw [h]
/-- Where a text stands, -1 where it does not. -/
def idxI (ns : List ByteArray) (s : ByteArray) : Int := if s ∈ ns then ((ns.idxOf s : Nat) : Int) else -1
set_option maxRecDepth 100000 in
set_option maxHeartbeats 2000000 in
theorem index_any (w : World) (ao : Option Addr) (cap : Nat) (ns : List ByteArray) (s : ByteArray) (hn : ns.length ≤ 1048576)
    (hc : ∀ j (hj : j < ns.length), ∃ b off, ao = some ⟨b, off, none⟩ ∧ b < w.heap.size ∧ w.cell? ⟨b, off + j, none⟩ = some (.string ns[j])) :
    Calls Try.prog 49 #[.slice ao ns.length cap, .string s] w fun e w' => e = .returned (.int .i64 (idxI ns s)) ∧ w' = w := by
  replace hc := Lib.hid hc
  go_enter Try.func49, Try.ntmps49
  go_wp2
  go_loop [8] (fun i => ∃ k : Nat, k ≤ ns.length ∧ i = .int .i64 (k : Int) ∧ Hid (∀ j (hj : j < ns.length), j < k → ns[j] ≠ s)) (fun i => ns.length - (intOf i).toNat)
  case atStart => exact ⟨0, by omega, rfl, Lib.hid (fun j _ h => by omega)⟩
  case round =>
    obtain ⟨k, hk, rfl, hno⟩ := hrel
    by_cases hlt : k < ns.length
    · have hki : (k : Int) < (ns.length : Int) := by omega
      obtain ⟨b, off, rfl, -, hck⟩ := hc.out k hlt
      have hxe := text_eq s ns[k]
      by_cases he : s = ns[k]
      · have hr : idxI ns s = (k : Int) := by
          unfold idxI
          rw [if_pos (by rw [he]; exact List.getElem_mem hlt)]
          have h1 : ns.idxOf s = k := by
            have hmem : s ∈ ns := by rw [he]; exact List.getElem_mem hlt
            have h2 := List.idxOf_lt_length_of_mem hmem
            have h3 := List.getElem_idxOf h2
            have h4 : ¬ ns.idxOf s < k := fun h => hno.out _ h2 h h3
            have h5 : ns.idxOf s ≤ k := by
              apply Classical.byContradiction
              intro h6
              have h7 : k < ns.findIdx (· == s) := by show k < ns.idxOf s; omega
              have h8 := List.not_of_lt_findIdx h7
              simp [← he] at h8
            omega
          rw [h1]
        rw [decide_eq_true he] at hxe
        replace hr := Lib.hid hr
        replace he := Lib.hid he
        generalize ns[k] = x at *
        go_wp2
        go_ret
        exact ⟨ret_int hr.out.symm, rfl⟩
      · rw [decide_eq_false he] at hxe
        have hno2 : Hid (∀ j (hj : j < ns.length), j < k + 1 → ns[j] ≠ s) := Lib.hid fun j hj h => by
          by_cases hjk : j = k
          · subst hjk; exact fun e => he e.symm
          · exact hno.out j hj (by omega)
        have hk1 := Lib.hid (show k + 1 ≤ ns.length from hlt)
        clear he hno
        generalize ns[k] = x at *
        go_wp2
        go_round
        case rel => exact ⟨k + 1, hk1.out, by go_num, hno2⟩
        case measure => have := hk1.out; simp [intOf]; omega
    · have hki : ¬ (k : Int) < (ns.length : Int) := by omega
      obtain rfl : k = ns.length := by omega
      have hr : idxI ns s = -1 := by
        unfold idxI
        rw [if_neg]
        intro hmem
        obtain ⟨j, hj, he⟩ := List.getElem_of_mem hmem
        exact hno.out j hj hj he
      replace hr := Lib.hid hr
      go_wp2
      go_ret
      exact ⟨ret_int hr.out.symm, rfl⟩
/-- The world while reading: what was stays below; the graph's block; names and edges as rows of one's own; nothing known. -/
structure RS (w0 w : World) (gb mb : Nat) (vn ve : Value) (ns : List ByteArray) (ms : List Nat) : Prop where
  below : Below w0.heap.size w0 w
  blk : Blk w gb #[vn, ve, .map (some mb)] 63
  names : w.ownsRow w0.heap.size 9 1 vn ns.length (textsV ns)
  edges : w.ownsRow w0.heap.size 57 1 ve ms.length (masksV ms)
  map : MapI Try.prog 57 91 .u16 .u16 w mb 65536 (fun _ => none)
  gb : w0.heap.size ≤ gb
  mb : w0.heap.size ≤ mb
theorem own_block {w : World} {B : Nat} {e : TypeId} {v : Value} {n : Nat} {xs : List Value} (h : w.ownsRow B e 1 v n xs) {g : Nat} (hg : v.ownBlock = some g) : ∃ cur, w.heap[g]? = some (.cells cur e (0, 0)) := by
  rcases h.2 with ⟨rfl, _⟩ | ⟨g', cap, cur, rfl, _, hh, _⟩
  · cases hg
  · simp only [Value.ownBlock, Option.some.injEq] at hg
    subst hg
    exact ⟨cur, hh⟩
/-- Rows of unlike elements lie apart. -/
theorem own_apart {w : World} {B B' : Nat} {e e' : TypeId} {v v' : Value} {n n' : Nat} {xs xs' : List Value} (h : w.ownsRow B e 1 v n xs) (h' : w.ownsRow B' e' 1 v' n' xs') (hne : e ≠ e') : v.ownBlock = none ∨ v.ownBlock ≠ v'.ownBlock := by
  cases hv : v.ownBlock with
  | none => exact .inl rfl
  | some g =>
    refine .inr fun e0 => hne ?_
    obtain ⟨c, hc⟩ := own_block h hv
    obtain ⟨c', hc'⟩ := own_block h' e0.symm
    rw [hc] at hc'
    cases hc'
    rfl
theorem own_not {w : World} {B : Nat} {e t : TypeId} {v : Value} {n b : Nat} {xs : List Value} {cs : Array Value} (h : w.ownsRow B e 1 v n xs) (hb : Blk w b cs t) (hne : e ≠ t) : v.ownBlock ≠ some b := by
  intro e0
  obtain ⟨c, hc⟩ := own_block h e0
  rw [hb.eq] at hc
  cases hc
  exact hne rfl
theorem own_map {w : World} {B : Nat} {e : TypeId} {v : Value} {n b : Nat} {xs : List Value} (h : w.ownsRow B e 1 v n xs) (hb : ∃ es clock, w.heap[b]? = some (.map es clock)) : v.ownBlock ≠ some b := by
  intro e0
  obtain ⟨c, hc⟩ := own_block h e0
  obtain ⟨es, cl, hm⟩ := hb
  rw [hm] at hc
  cases hc
theorem RS.ne {w0 w : World} {gb mb : Nat} {vn ve : Value} {ns : List ByteArray} {ms : List Nat} (h : RS w0 w gb mb vn ve ns ms) : gb ≠ mb := by
  intro e
  obtain ⟨es, cl, hm⟩ := h.map.isMap
  have := h.blk.eq
  rw [e, hm] at this
  cases this
/-- A name more. -/
theorem RS.name {w0 w w1 : World} {gb mb : Nat} {vn ve v' : Value} {ns : List ByteArray} {ms : List Nat} (h : RS w0 w gb mb vn ve ns ms) (o : Obj) (x : ByteArray)
    (h1 : w1.ownsRow w0.heap.size 9 1 v' ((textsV ns).length + 1) (textsV ns ++ [.string x])) (h2 : (w.alloc o).grownBy w1 vn.ownBlock) : RS w0 (w1.setCell ⟨gb, 0, none⟩ v') gb mb v' ve (ns ++ [x]) ms := by
  have hs := h.below.size
  have hb1 : Blk w1 gb #[vn, ve, .map (some mb)] 63 := (h2.block gb (by rw [World.size_alloc]; have := h.blk.lt; omega) (own_not (h.names.alloc o) (h.blk.alloc o) (by decide)).symm).trans (h.blk.alloc o)
  have hg0 : (w.alloc o).grownBy w1 vn.ownBlock := h2
  have hset : w1.grownBy (w1.setCell ⟨gb, 0, none⟩ v') (some gb) := ⟨rfl, rfl, rfl, by simp, fun j _ hj => Below.heap_setCell _ _ _ _ (fun e => hj (by simp [e]))⟩
  refine ⟨?_, hb1.set 0 v', ?_, ?_, ?_, h.gb, h.mb⟩
  · exact (((h.below.alloc hs o).grown h2 (by rw [World.size_alloc]; omega) (fun k hk => (h.names.lt k hk).1))).grown hset (by have := h2.size; rw [World.size_alloc] at this; omega) (fun k hk => by cases hk; exact h.gb)
  · have h3 : w1.ownsRow w0.heap.size 9 1 v' (ns ++ [x]).length (textsV (ns ++ [x])) := by
      rw [List.length_append, show textsV (ns ++ [x]) = textsV ns ++ [.string x] by simp [textsV]]
      rw [textsV_length] at h1
      exact h1
    exact h3.kept hset (.inr (own_not h3 hb1 (by decide)))
  · have h3 := (h.edges.alloc o).kept h2 (own_apart (h.edges.alloc o) (h.names.alloc o) (by decide))
    exact h3.kept hset (.inr (own_not h3 hb1 (by decide)))
  · exact ((h.map.alloc o).kept h2 (own_map (h.names.alloc o) (h.map.alloc o).isMap).symm).kept hset (by simp; exact h.ne.symm)
/-- An edge more. -/
theorem RS.edge {w0 w w1 : World} {gb mb : Nat} {vn ve v' : Value} {ns : List ByteArray} {ms : List Nat} (h : RS w0 w gb mb vn ve ns ms) (o : Obj) (x : Nat)
    (h1 : w1.ownsRow w0.heap.size 57 1 v' ((masksV ms).length + 1) (masksV ms ++ [.int .u16 (x : Int)])) (h2 : (w.alloc o).grownBy w1 ve.ownBlock) : RS w0 (w1.setCell ⟨gb, 1, none⟩ v') gb mb vn v' ns (ms ++ [x]) := by
  have hs := h.below.size
  have hb1 : Blk w1 gb #[vn, ve, .map (some mb)] 63 := (h2.block gb (by rw [World.size_alloc]; have := h.blk.lt; omega) (own_not (h.edges.alloc o) (h.blk.alloc o) (by decide)).symm).trans (h.blk.alloc o)
  have hset : w1.grownBy (w1.setCell ⟨gb, 1, none⟩ v') (some gb) := ⟨rfl, rfl, rfl, by simp, fun j _ hj => Below.heap_setCell _ _ _ _ (fun e => hj (by simp [e]))⟩
  refine ⟨?_, hb1.set 1 v', ?_, ?_, ?_, h.gb, h.mb⟩
  · exact (((h.below.alloc hs o).grown h2 (by rw [World.size_alloc]; omega) (fun k hk => (h.edges.lt k hk).1))).grown hset (by have := h2.size; rw [World.size_alloc] at this; omega) (fun k hk => by cases hk; exact h.gb)
  · have h3 := (h.names.alloc o).kept h2 (own_apart (h.names.alloc o) (h.edges.alloc o) (by decide))
    exact h3.kept hset (.inr (own_not h3 hb1 (by decide)))
  · have h3 : w1.ownsRow w0.heap.size 57 1 v' (ms ++ [x]).length (masksV (ms ++ [x])) := by
      rw [List.length_append, show masksV (ms ++ [x]) = masksV ms ++ [.int .u16 (x : Int)] by simp [masksV]]
      rw [masksV_length] at h1
      exact h1
    exact h3.kept hset (.inr (own_not h3 hb1 (by decide)))
  · exact ((h.map.alloc o).kept h2 (own_map (h.edges.alloc o) (h.map.alloc o).isMap).symm).kept hset (by simp; exact h.ne.symm)
/-- Read whole. -/
theorem RS.gm {w0 w : World} {gb mb : Nat} {vn ve : Value} {ns : List ByteArray} {ms : List Nat} (h : RS w0 w gb mb vn ve ns ms) (hE : ∀ e ∈ ms, e < 65536) (hl : ms.length ≤ 8) (hn : ns.length ≤ 12) (hz : ∀ s ∈ ns, s.size ≤ maxLen) : GM w gb mb ns ms :=
  ⟨⟨vn, ve, h.blk, ⟨own_row (by rw [textsV_length]; exact h.names), hz⟩, own_row (by rw [masksV_length]; exact h.edges)⟩, ⟨_, h.map, fun x v _ hv => by cases hv⟩, hE, hl, hn⟩
end Go.Proofs.Ytnocncmjdhlmkaa.hyp
