/- What told keeps. -/
import Derived.Test.YtnocncmjdhlmkaaHCover
import Derived.Test.YtnocncmjdhlmkaaHRead2
import Derived.Test.YtnocncmjdhlmkaaHReg
import Derived.Maps.AppendAt
namespace Go.Proofs.Ytnocncmjdhlmkaa.hyp
open Go.ChangeShapes Go.WideShapes Go.ChangeAt Go.RowKit kit
set_option linter.unusedVariables false
set_option linter.unusedSimpArgs false
/-- The world while a bag is told: the result's block, the bag's block, rows of one's own. -/
structure TS (w0 w : World) (gb mb : Nat) (ns : List ByteArray) (ms : List Nat) (vv ve : Value) (p : Int) (xs ys : List Value) : Prop where
  keep : Keep [mb] w0 w
  g0 : GM w0 gb mb ns ms
  kn : KN w mb ms
  q0 : Blk w w0.heap.size #[.slice none 0 0, .slice none 0 0, .int .i64 0] 45
  q1 : Blk w (w0.heap.size + 1) #[vv, ve, .int .i64 p] 45
  ov : w.ownsRow (w0.heap.size + 2) 9 1 vv xs.length xs
  oe : w.ownsRow (w0.heap.size + 2) 3 1 ve ys.length ys
theorem grown_below {w w' : World} (h : Below w.heap.size w w') : w.grownBy w' none := ⟨h.os, h.tape, h.output, h.size, fun k hk _ => h.block k hk⟩
theorem grown_keep {w w' : World} {m : Nat} (h : Keep [m] w w') : w.grownBy w' (some m) := ⟨h.os, h.tape, h.output, h.size, fun k hk hn => h.block k hk (fun e => hn (by simp at e; rw [e]))⟩
section
variable {w0 w w' w1 : World} {gb mb : Nat} {ns : List ByteArray} {ms : List Nat} {vv ve v' : Value} {p : Int} {xs ys : List Value}
theorem TS.mlt (h : TS w0 w gb mb ns ms vv ve p xs ys) : mb < w0.heap.size := h.g0.known.lt
theorem TS.g (h : TS w0 w gb mb ns ms vv ve p xs ys) : GM w gb mb ns ms :=
  h.g0.stay (stay_of_keep h.keep (fun x hx => by simp at hx; rw [hx]; exact h.g0.known.isMap)) h.keep.size h.kn
theorem TS.size (h : TS w0 w gb mb ns ms vv ve p xs ys) : w0.heap.size + 2 ≤ w.heap.size := by have := h.q1.lt; omega
theorem TS.below (h : TS w0 w gb mb ns ms vv ve p xs ys) (hb : Below w.heap.size w w') : TS w0 w' gb mb ns ms vv ve p xs ys :=
  ⟨h.keep.trans ((Keep.ofBelow hb).mono (m' := [mb]) (by simp)) (fun x hx _ => hx), h.g0, h.kn.same (hb.block _ h.kn.lt), (hb.block _ h.q0.lt).trans h.q0, (hb.block _ h.q1.lt).trans h.q1,
    h.ov.kept (grown_below hb) (by cases vv.ownBlock <;> simp), h.oe.kept (grown_below hb) (by cases ve.ownBlock <;> simp)⟩
theorem TS.cover (h : TS w0 w gb mb ns ms vv ve p xs ys) (hg : GM w' gb mb ns ms) (hk : Keep [mb] w w') : TS w0 w' gb mb ns ms vv ve p xs ys :=
  ⟨h.keep.trans hk (fun x hx _ => hx), h.g0, hg.known, (hk.block _ h.q0.lt (by have := h.mlt; simp; omega)).trans h.q0, (hk.block _ h.q1.lt (by have := h.mlt; simp; omega)).trans h.q1,
    h.ov.kept (grown_keep hk) (.inr (own_map h.ov h.g.known.isMap)), h.oe.kept (grown_keep hk) (.inr (own_map h.oe h.g.known.isMap))⟩
theorem TS.name (h : TS w0 w gb mb ns ms vv ve p xs ys) (o : Obj) (x : Value)
    (h1 : w1.ownsRow (w0.heap.size + 2) 9 1 v' (xs.length + 1) (xs ++ [x])) (h2 : (w.alloc o).grownBy w1 vv.ownBlock) : TS w0 (w1.setCell ⟨w0.heap.size + 1, 0, none⟩ v') gb mb ns ms v' ve p (xs ++ [x]) ys := by
  have hsz := h.size
  have hal : Below w.heap.size w (w.alloc o) := (Below.refl _ _).alloc (Nat.le_refl _) o
  have h0 := h.below hal
  have hnb : ∀ k, k < w0.heap.size + 2 → some k ≠ vv.ownBlock := fun k hk e => by have := (h0.ov.lt k e.symm).1; omega
  have hq1 : Blk w1 (w0.heap.size + 1) #[vv, ve, .int .i64 p] 45 := (h2.block _ h0.q1.lt (hnb _ (by omega))).trans h0.q1
  have hq0 : Blk w1 w0.heap.size _ _ := (h2.block _ h0.q0.lt (hnb _ (by omega))).trans h0.q0
  have hset : w1.grownBy (w1.setCell ⟨w0.heap.size + 1, 0, none⟩ v') (some (w0.heap.size + 1)) := ⟨rfl, rfl, rfl, by simp, fun j _ hj => Below.heap_setCell _ _ _ _ (fun e => hj (by simp [e]))⟩
  have hov : w1.ownsRow (w0.heap.size + 2) 9 1 v' (xs ++ [x]).length (xs ++ [x]) := by rw [List.length_append]; exact h1
  have hoe := h0.oe.kept h2 (own_apart h0.oe h0.ov (by decide))
  have hkeep : Keep [mb] w0 (w1.setCell ⟨w0.heap.size + 1, 0, none⟩ v') :=
    (h0.keep.trans (m' := vv.ownBlock.toList) ⟨h2.os, h2.tape, h2.output, h2.size, fun k hk hn => h2.block k hk (fun e => hn (by rw [← e]; simp))⟩ (fun x hx hlt => by
      have : vv.ownBlock = some x := by simpa using hx
      have := (h0.ov.lt x this).1
      omega)).setCell (fun hlt => by simp at hlt; omega) v'
  have hkn : KN (w1.setCell ⟨w0.heap.size + 1, 0, none⟩ v') mb ms := h0.kn.same (by
    have := h.mlt
    rw [Below.heap_setCell _ _ _ _ (by simp; omega), h2.block mb (by have := h0.size; omega) (hnb mb (by omega))])
  exact ⟨hkeep, h.g0, hkn, hq0.set_other _ (by simp) _, hq1.set 0 v', hov.kept hset (.inr (own_not hov hq1 (by decide))), hoe.kept hset (.inr (own_not hoe hq1 (by decide)))⟩
theorem TS.edge (h : TS w0 w gb mb ns ms vv ve p xs ys) (o : Obj) (x : Value)
    (h1 : w1.ownsRow (w0.heap.size + 2) 3 1 v' (ys.length + 1) (ys ++ [x])) (h2 : (w.alloc o).grownBy w1 ve.ownBlock) : TS w0 (w1.setCell ⟨w0.heap.size + 1, 1, none⟩ v') gb mb ns ms vv v' p xs (ys ++ [x]) := by
  have hsz := h.size
  have hal : Below w.heap.size w (w.alloc o) := (Below.refl _ _).alloc (Nat.le_refl _) o
  have h0 := h.below hal
  have hnb : ∀ k, k < w0.heap.size + 2 → some k ≠ ve.ownBlock := fun k hk e => by have := (h0.oe.lt k e.symm).1; omega
  have hq1 : Blk w1 (w0.heap.size + 1) #[vv, ve, .int .i64 p] 45 := (h2.block _ h0.q1.lt (hnb _ (by omega))).trans h0.q1
  have hq0 : Blk w1 w0.heap.size _ _ := (h2.block _ h0.q0.lt (hnb _ (by omega))).trans h0.q0
  have hset : w1.grownBy (w1.setCell ⟨w0.heap.size + 1, 1, none⟩ v') (some (w0.heap.size + 1)) := ⟨rfl, rfl, rfl, by simp, fun j _ hj => Below.heap_setCell _ _ _ _ (fun e => hj (by simp [e]))⟩
  have hoe : w1.ownsRow (w0.heap.size + 2) 3 1 v' (ys ++ [x]).length (ys ++ [x]) := by rw [List.length_append]; exact h1
  have hov := h0.ov.kept h2 (own_apart h0.ov h0.oe (by decide))
  have hkeep : Keep [mb] w0 (w1.setCell ⟨w0.heap.size + 1, 1, none⟩ v') :=
    (h0.keep.trans (m' := ve.ownBlock.toList) ⟨h2.os, h2.tape, h2.output, h2.size, fun k hk hn => h2.block k hk (fun e => hn (by rw [← e]; simp))⟩ (fun x hx hlt => by
      have : ve.ownBlock = some x := by simpa using hx
      have := (h0.oe.lt x this).1
      omega)).setCell (fun hlt => by simp at hlt; omega) v'
  have hkn : KN (w1.setCell ⟨w0.heap.size + 1, 1, none⟩ v') mb ms := h0.kn.same (by
    have := h.mlt
    rw [Below.heap_setCell _ _ _ _ (by simp; omega), h2.block mb (by have := h0.size; omega) (hnb mb (by omega))])
  exact ⟨hkeep, h.g0, hkn, hq0.set_other _ (by simp) _, hq1.set 1 v', hov.kept hset (.inr (own_not hov hq1 (by decide))), hoe.kept hset (.inr (own_not hoe hq1 (by decide)))⟩
/-- Another row of one's own stays while a name is appended. -/
theorem TS.other (h : TS w0 w gb mb ns ms vv ve p xs ys) (o : Obj) (h2 : (w.alloc o).grownBy w1 vv.ownBlock) {B' : Nat} {e' : TypeId} {lv : Value} {n : Nat} {zs : List Value} (hl : w.ownsRow B' e' 1 lv n zs) (he : e' ≠ 9) (he2 : e' ≠ 45) (i : Nat) :
    (w1.setCell ⟨w0.heap.size + 1, i, none⟩ v').ownsRow B' e' 1 lv n zs := by
  have hal : Below w.heap.size w (w.alloc o) := (Below.refl _ _).alloc (Nat.le_refl _) o
  have h0 := h.below hal
  have hnb : ∀ k, k < w0.heap.size + 2 → some k ≠ vv.ownBlock := fun k hk e => by have := (h0.ov.lt k e.symm).1; omega
  have hq1 : Blk w1 (w0.heap.size + 1) #[vv, ve, .int .i64 p] 45 := (h2.block _ h0.q1.lt (hnb _ (by omega))).trans h0.q1
  have hset : w1.grownBy (w1.setCell ⟨w0.heap.size + 1, i, none⟩ v') (some (w0.heap.size + 1)) := ⟨rfl, rfl, rfl, by simp, fun j _ hj => Below.heap_setCell _ _ _ _ (fun e => hj (by simp [e]))⟩
  have h3 := (hl.alloc o).kept h2 (own_apart (hl.alloc o) h0.ov he)
  exact h3.kept hset (.inr (own_not h3 hq1 he2))
theorem TS.other2 (h : TS w0 w gb mb ns ms vv ve p xs ys) (o : Obj) (h2 : (w.alloc o).grownBy w1 ve.ownBlock) {B' : Nat} {e' : TypeId} {lv : Value} {n : Nat} {zs : List Value} (hl : w.ownsRow B' e' 1 lv n zs) (he : e' ≠ 3) (he2 : e' ≠ 45) (i : Nat) :
    (w1.setCell ⟨w0.heap.size + 1, i, none⟩ v').ownsRow B' e' 1 lv n zs := by
  have hal : Below w.heap.size w (w.alloc o) := (Below.refl _ _).alloc (Nat.le_refl _) o
  have h0 := h.below hal
  have hnb : ∀ k, k < w0.heap.size + 2 → some k ≠ ve.ownBlock := fun k hk e => by have := (h0.oe.lt k e.symm).1; omega
  have hq1 : Blk w1 (w0.heap.size + 1) #[vv, ve, .int .i64 p] 45 := (h2.block _ h0.q1.lt (hnb _ (by omega))).trans h0.q1
  have hset : w1.grownBy (w1.setCell ⟨w0.heap.size + 1, i, none⟩ v') (some (w0.heap.size + 1)) := ⟨rfl, rfl, rfl, by simp, fun j _ hj => Below.heap_setCell _ _ _ _ (fun e => hj (by simp [e]))⟩
  have h3 := (hl.alloc o).kept h2 (own_apart (hl.alloc o) h0.oe he)
  exact h3.kept hset (.inr (own_not h3 hq1 he2))
end
theorem own_at {w : World} {B : Nat} {e : TypeId} {ao : Option Addr} {n cap : Nat} {L : List Value} (h : w.ownsRow B e 1 (.slice ao n cap) L.length L) {j : Nat} (hj : j < L.length) : ∃ b, ao = some ⟨b, 0, none⟩ ∧ w.cell? ⟨b, j, none⟩ = some L[j] := by
  rcases h.2 with ⟨hv, hn⟩ | ⟨g, c, cur, hv, -, -, hc, _⟩
  · omega
  · injection hv with h1 h2 h3
    subst h1 h2 h3
    exact ⟨g, rfl, by rw [h.cellAt j (by omega), List.getElem?_eq_getElem hj]⟩
/-- One value appended to a row of one's own, at the operation. -/
theorem wp_own1 {w : World} {o : Oper} {a : Act} {K : Act → World → Prop} {Q : Exit → Act → World → Prop} (s x : Operand) (t : TypeId)
    (ho : o.op = .call { callee := .builtin .append, args := #[s, x], argTypes := #[t, t] })
    (base : Nat) (e : TypeId) (i : TypeInfo) (z : Value) (bytes : Nat) (ht : Try.prog.underlying t = some (.slice e)) (hi : Try.prog.info? e = some i) (hz : i.zero = some z)
    (hsize : i.size = 1) (hby : i.bytes = bytes) (hzs : z.cells.size = 1) (hb16 : bytes ≤ 64)
    (v : Value) (xs : List Value) (hs : a.eval s = v) (hown : w.ownsRow base e 1 v xs.length xs) (g : Nat) (u : Value) (hx : a.eval x = .slice (some ⟨g, 0, none⟩) 1 1) (hg : w.cell? ⟨g, 0, none⟩ = some u) (hu : u.oneCell' = true)
    (hlen : xs.length + 1 ≤ 1048576) (hbase : base ≤ w.heap.size)
    (hK : ∀ v' w', w'.ownsRow base e 1 v' (xs.length + 1) (xs ++ [u]) → w.grownBy w' v.ownBlock → K (a.put o.dst v') w') :
    o.wp Try.prog a w K Q := by
  obtain ⟨v', w', hr, h2, h3, -, -⟩ := run_append_own_at (P := Try.prog) w base t o.type e i z 1 bytes ht hi hz hsize hby hzs (by decide) v xs.length xs hown ⟨g, 0, none⟩ 1 1 [u] rfl (fun j y hy => by
      match j, hy with
      | 0, hy =>
        have hadd : (⟨g, 0, none⟩ : Addr).add 0 = ⟨g, 0, none⟩ := rfl
        rw [hadd, hg]
        simpa using hy
      | j + 1, hy => simp at hy) (fun y hy => by simp at hy; rw [hy]; exact hu) (by unfold maxLen; omega) (by
        have : (xs.length + 1) * bytes ≤ 1048576 * 64 := Nat.mul_le_mul hlen hb16
        omega) hbase
  unfold Oper.wp execOp
  simp only [ho, resolve, invoke, builtin, Sem.run_bind, Sem.run_pure, Result.andThen_ok, List.map_toArray, List.map_cons, List.map_nil, hs, hx, hr]
  exact hK v' w' h2 h3
end Go.Proofs.Ytnocncmjdhlmkaa.hyp
