/- The contract of least: the least width of taking some out, and what is known behind it. -/
import Derived.Test.YtnocncmjdhlmkaaHCover
import Derived.Test.YtnocncmjdhlmkaaHBag
namespace Go.Proofs.Ytnocncmjdhlmkaa.hyp
open Go.ChangeShapes Go.WideShapes Go.ChangeAt Go.RowKit kit
set_option linter.unusedVariables false
set_option linter.unusedSimpArgs false
theorem imW : IMap Try.prog 80 57 3 .u16 .i64 := ⟨Try.underlying80, Try.underlying57, Try.underlying3, fun w => by kernel_rfl⟩
theorem imL : IMap Try.prog 81 57 64 .u16 .i64 := ⟨Try.underlying81, Try.underlying57, Try.underlying64, fun w => by kernel_rfl⟩
theorem bestF_snoc (c : Nat → Nat) (v : Nat) : ∀ (l : List Nat) (b : Nat × Nat), bestF c (l ++ [v]) b = if c v < (bestF c l b).1 then (c v, v) else bestF c l b
  | [], b => rfl
  | u :: l, b => by
    rw [List.cons_append, bestF, bestF]
    exact bestF_snoc c v l _
theorem cost_le {E : List Nat} {k out v : Nat} (hE : E.length ≤ 8) (ho : out < 65536) (hv : out.testBit v = true) : costN E k out v ≤ 8 := by
  have h1 := (widN_le E k hE (minus out (bit v)) _ (Nat.le_refl _) (minus_lt _ _ ho)).1
  have h2 := pop_le (coverN_lt E (bagN E (minus out (bit v)) v))
  unfold costN
  omega
/-- What is known of the ways: of what is known the least width and the last one, and so on down. -/
def WI (ms : List Nat) (turn : Nat) (fw fl : Int → Option Int) : Prop :=
  ∀ (x : Nat) (v : Int), x < 65536 → fw (x : Int) = some v → v = ((widN ms turn x : Nat) : Int) ∧ fl (x : Int) = some ((lastN ms turn x : Nat) : Int) ∧ ∀ u, x.testBit u = true → minus x (bit u) ≠ 0 → (fw ((minus x (bit u) : Nat) : Int)).isSome = true
/-- The ways in memory. -/
structure WM (w : World) (wb gb mb kb lb turn : Nat) (ns : List ByteArray) (ms : List Nat) (fw fl : Int → Option Int) : Prop where
  blk : Blk w wb #[.pointer (some ⟨gb, 0, none⟩), .map (some kb), .map (some lb), .int .i64 ((turn : Nat) : Int)] 83
  g : GM w gb mb ns ms
  mw : MapI Try.prog 57 3 .u16 .i64 w kb 65536 fw
  ml : MapI Try.prog 57 64 .u16 .i64 w lb 65536 fl
  n1 : mb ≠ kb
  n2 : mb ≠ lb
  n3 : kb ≠ lb
theorem WM.maps {w : World} {wb gb mb kb lb turn : Nat} {ns : List ByteArray} {ms : List Nat} {fw fl : Int → Option Int} (h : WM w wb gb mb kb lb turn ns ms fw fl) : ∀ x ∈ [mb, kb, lb], ∃ es clock, w.heap[x]? = some (.map es clock) := by
  intro x hx
  simp only [List.mem_cons, List.not_mem_nil, or_false] at hx
  rcases hx with rfl | rfl | rfl
  · exact h.g.known.isMap
  · exact h.mw.isMap
  · exact h.ml.isMap
theorem WM.below {w w' : World} {wb gb mb kb lb turn : Nat} {ns : List ByteArray} {ms : List Nat} {fw fl : Int → Option Int} (h : WM w wb gb mb kb lb turn ns ms fw fl) (hb : Below w.heap.size w w') : WM w' wb gb mb kb lb turn ns ms fw fl :=
  ⟨(hb.block _ h.blk.lt).trans h.blk, h.g.below hb, h.mw.same (hb.block _ h.mw.lt), h.ml.same (hb.block _ h.ml.lt), h.n1, h.n2, h.n3⟩
/-- Behind a cover. -/
theorem WM.cover {w w' : World} {wb gb mb kb lb turn : Nat} {ns : List ByteArray} {ms : List Nat} {fw fl : Int → Option Int} (h : WM w wb gb mb kb lb turn ns ms fw fl) (hg : GM w' gb mb ns ms) (hk : Keep [mb] w w') : WM w' wb gb mb kb lb turn ns ms fw fl := by
  have hst : CellsStay w w' := stay_of_keep hk fun x hx => h.maps x (by simp at hx; simp [hx])
  exact ⟨hst.blk h.blk, hg, h.mw.same (hk.block _ h.mw.lt (by simp [h.n1.symm])), h.ml.same (hk.block _ h.ml.lt (by simp [h.n2.symm])), h.n1, h.n2, h.n3⟩
/-- More is known. -/
def More (f g : Int → Option Int) : Prop := ∀ x, (f x).isSome = true → (g x).isSome = true
theorem More.refl (f : Int → Option Int) : More f f := fun _ h => h
theorem More.trans {f g h : Int → Option Int} (a : More f g) (b : More g h) : More f h := fun x hx => b x (a x hx)
/-- What a call of least leaves. -/
structure LA (w w' : World) (wb gb mb kb lb turn : Nat) (ns : List ByteArray) (ms : List Nat) (fw fl : Int → Option Int) (out : Nat) (fw' fl' : Int → Option Int) : Prop where
  wm : WM w' wb gb mb kb lb turn ns ms fw' fl'
  keep : Keep [mb, kb, lb] w w'
  wi : WI ms turn fw' fl'
  more : More fw fw'
  above : ∀ x : Nat, out < x → x < 65536 → fl' (x : Int) = fl (x : Int) ∧ fw' (x : Int) = fw (x : Int)
theorem LA.trans {w w1 w2 : World} {wb gb mb kb lb turn : Nat} {ns : List ByteArray} {ms : List Nat} {fw fl fw1 fl1 fw2 fl2 : Int → Option Int} {o1 o2 : Nat} (h : LA w w1 wb gb mb kb lb turn ns ms fw fl o1 fw1 fl1) (k : LA w1 w2 wb gb mb kb lb turn ns ms fw1 fl1 o2 fw2 fl2) (ho : o2 ≤ o1) : LA w w2 wb gb mb kb lb turn ns ms fw fl o1 fw2 fl2 :=
  ⟨k.wm, h.keep.trans k.keep (fun x hx _ => hx), k.wi, h.more.trans k.more, fun x hx hx2 => ⟨(k.above x (by omega) hx2).1.trans (h.above x hx hx2).1, (k.above x (by omega) hx2).2.trans (h.above x hx hx2).2⟩⟩
theorem LA.below {w w1 w2 : World} {wb gb mb kb lb turn : Nat} {ns : List ByteArray} {ms : List Nat} {fw fl fw1 fl1 : Int → Option Int} {o1 : Nat} (h : LA w w1 wb gb mb kb lb turn ns ms fw fl o1 fw1 fl1) (hb : Below w1.heap.size w1 w2) : LA w w2 wb gb mb kb lb turn ns ms fw fl o1 fw1 fl1 :=
  ⟨h.wm.below hb, h.keep.trans ((Keep.ofBelow hb).mono (m' := [mb, kb, lb]) (by simp)) (fun x hx _ => hx), h.wi, h.more, h.above⟩
theorem LA.cover {w w1 w2 : World} {wb gb mb kb lb turn : Nat} {ns : List ByteArray} {ms : List Nat} {fw fl fw1 fl1 : Int → Option Int} {o1 : Nat} (h : LA w w1 wb gb mb kb lb turn ns ms fw fl o1 fw1 fl1) (hg : GM w2 gb mb ns ms) (hk : Keep [mb] w1 w2) : LA w w2 wb gb mb kb lb turn ns ms fw fl o1 fw1 fl1 :=
  ⟨h.wm.cover hg hk, h.keep.trans (hk.mono (m' := [mb, kb, lb]) (fun x hx _ => by simp at hx; simp [hx])) (fun x hx _ => hx), h.wi, h.more, h.above⟩
end Go.Proofs.Ytnocncmjdhlmkaa.hyp
