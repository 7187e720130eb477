/- Contract of decimal.both. -/
import Derived.Test.YthecgifgjagmaaaGreatDoorDecBoth
namespace Go.Proofs.YthecgifgjagmaaaGreatDoor.dec
open Go.ChangeShapes Go.WideShapes Go.ChangeAt Go.RowKit kit
set_option linter.unusedVariables false
set_option linter.unusedSimpArgs false
/-- A whole struct's load, in a region that draws. -/
theorem yields_row {P : Program} {ops : Array Oper} {S : World → Prop} {op : Oper} {a : Act} (hw : Region.wanted op (yielded ops a.tmps) = true) (ty : TypeId) (x : Operand) (ho : op.op = .load ty x)
    (b : Nat) (cs : Array Value) (d : TypeDesc) (hx : a.eval x = .pointer (some ⟨b, 0, none⟩)) (hS : ∀ w, S w → w.heap[b]? = some (.cells cs ty (0, 0)))
    (hu : P.underlying ty = some d) (hd : (match d with | .struct _ | .array _ _ => true | _ => false) = true) (hi : (P.info? ty).map (·.size) = some cs.size) : YieldsIf P ops S op (.agg cs) a :=
  .inl ⟨hw, fun w hw' => by
    unfold execOp
    simp only [ho, hx, Instr.loadAt, Instr.sureAddr, Sem.run_bind, Sem.run_pure, Result.andThen_ok, run_loadVar_row w b ty ty cs (0, 0) d (hS w hw') hu hd hi]⟩
theorem zerosTo (s : Bool) (f : Nat → Nat) : (#[.bool false, .int .u64 0, .int .u64 0, .int .u64 0, .int .u64 0, .int .u64 0, .int .u64 0, .int .u64 0, .int .u64 0, .int .u64 0, .int .u64 0, .int .u64 0, .int .u64 0, .int .u64 0, .int .u64 0, .int .u64 0, .int .u64 0] : Array Value).size = (nv s f).size := by rw [nv_size]; rfl
set_option maxHeartbeats 2000000 in
set_option maxRecDepth 100000 in
theorem both_any (a b : ByteArray) (w : World) (hE : Env w) :
    Calls Tryz.prog 78 #[.string a, .string b] w fun e w' => e = .returned (.tuple #[.agg (num (zof a.data.toList)), .agg (num (zof b.data.toList)), .bool (chk a.data.toList && chk b.data.toList)]) ∧ Below w.heap.size w w' := by
  have hla := fun w hE => load_any a w hE
  have hlb := fun w hE => load_any b w hE
  unfold num at *
  generalize chk a.data.toList = ca at *
  generalize chk b.data.toList = cb at *
  generalize wd (zof a.data.toList).natAbs = f at *
  generalize wd (zof b.data.toList).natAbs = g at *
  generalize decide (zof a.data.toList < 0) = s at *
  generalize decide (zof b.data.toList < 0) = t at *
  replace hla := Lib.hid hla
  replace hlb := Lib.hid hlb
  replace hE := Lib.hid hE
  go_enter Tryz.func78, Tryz.ntmps78
  go_wp2_with fail
  rw [← nv_falses]
  have k0 : Keep [] w ((w.alloc (.cells (nv false fun _ => 0) 92)).alloc (.cells (nv false fun _ => 0) 92)) := ((Keep.refl _ _).alloc _).alloc _
  have b0 := (Blk.new w (nv false fun _ => 0) 92).alloc (.cells (nv false fun _ => 0) 92)
  have b1 := Blk.new (w.alloc (.cells (nv false fun _ => 0) 92)) (nv false fun _ => 0) 92
  have hs0 : ((w.alloc (.cells (nv false fun _ => 0) 92)).alloc (.cells (nv false fun _ => 0) 92)).heap.size = w.heap.size + 2 := by simp
  rw [World.size_alloc] at b1
  generalize (w.alloc (.cells (nv false fun _ => 0) 92)).alloc (.cells (nv false fun _ => 0) 92) = W at *
  have hE0 := hE.out.below k0.below
  refine (hla.out W hE0).mono ?_
  rintro e w1 ⟨rfl, hb1⟩
  have k1 : Keep [] w w1 := k0.trans (Keep.ofBelow hb1) (by simp)
  have c0 : Blk w1 w.heap.size (nv false fun _ => 0) 92 := b0.keep (Keep.ofBelow hb1) (by simp)
  have c1 : Blk w1 (w.heap.size + 1) (nv false fun _ => 0) 92 := b1.keep (Keep.ofBelow hb1) (by simp)
  have hs1 := hb1.size
  rw [hs0] at hs1
  clear hE0 hb1 b0 b1 k0 hs0
  replace k1 := Lib.hid k1
  replace c0 := Lib.hid c0
  replace c1 := Lib.hid c1
  go_wp2_with (first | (with_reducible refine wpList_store_rowTo rfl 92 (.tmp 7) (.tmp 14) rfl rfl w1.heap.size (nv s f) rfl rfl 92 _ (Blk.eq (Blk.new _ _ _)) (by rw [nv_size]; exact Tryz.infoN) (zerosTo s f) (nv_one _ _) ?_))
  have hE1 : Env w1 := hE.out.below k1.out.below
  have m1 : Keep [] w ((w1.alloc _).setRow w1.heap.size (nv s f)) := ((k1.out.alloc (.cells (nv false fun _ => 0) 92)).setRow (by have := hs1; omega) _)
  have e0 : Blk _ w.heap.size (nv false fun _ => 0) 92 := (c0.out.alloc (.cells (nv false fun _ => 0) 92)).setRow_other (g := w1.heap.size) (cs' := nv s f) (by have := hs1; omega)
  have e1 : Blk _ (w.heap.size + 1) (nv false fun _ => 0) 92 := (c1.out.alloc (.cells (nv false fun _ => 0) 92)).setRow_other (g := w1.heap.size) (cs' := nv s f) (by have := hs1; omega)
  have e2 : Blk _ w1.heap.size (nv s f) 92 := (Blk.new w1 (nv false fun _ => 0) 92).setRow
  rw [← nv_falses]
  generalize (w1.alloc (.cells (nv false fun _ => 0) 92)).setRow w1.heap.size (nv s f) = W1 at *
  have hE2 := hE.out.below m1.below
  refine (hlb.out W1 hE2).mono ?_
  rintro e w2 ⟨rfl, hb2⟩
  have m2 : Keep [] w w2 := m1.trans (Keep.ofBelow hb2) (by simp)
  have f0 := e0.keep (Keep.ofBelow hb2) (by simp)
  have f1 := e1.keep (Keep.ofBelow hb2) (by simp)
  have f2 := e2.keep (Keep.ofBelow hb2) (by simp)
  have hs2 := f2.lt
  clear hE1 hE2 hb2 e0 e1 e2 m1
  replace m2 := Lib.hid m2
  replace f0 := Lib.hid f0
  replace f1 := Lib.hid f1
  replace f2 := Lib.hid f2
  generalize w1.heap.size = B at *
  cases ca
  case false =>
    go_wp2_with (first | (with_reducible refine wpList_store_rowTo rfl 92 (.tmp 9) (.tmp 19) rfl rfl w2.heap.size (nv t g) rfl rfl 92 _ (Blk.eq (Blk.new _ _ _)) (by rw [nv_size]; exact Tryz.infoN) (zerosTo t g) (nv_one _ _) ?_))
    have n2 : Keep [] w ((w2.alloc _).setRow w2.heap.size (nv t g)) := ((m2.out.alloc (.cells (nv false fun _ => 0) 92)).setRow (by have := hs2; have := m2.out.size; omega) _)
    have g0 : Blk _ w.heap.size (nv false fun _ => 0) 92 := (f0.out.alloc (.cells (nv false fun _ => 0) 92)).setRow_other (g := w2.heap.size) (cs' := nv t g) (by have := hs2; omega)
    have g1 : Blk _ (w.heap.size + 1) (nv false fun _ => 0) 92 := (f1.out.alloc (.cells (nv false fun _ => 0) 92)).setRow_other (g := w2.heap.size) (cs' := nv t g) (by have := hs2; omega)
    have g2 : Blk _ B (nv s f) 92 := (f2.out.alloc (.cells (nv false fun _ => 0) 92)).setRow_other (g := w2.heap.size) (cs' := nv t g) (by have := hs2; omega)
    have g3 : Blk _ w2.heap.size (nv t g) 92 := (Blk.new w2 (nv false fun _ => 0) 92).setRow
    rw [← nv_falses]
    generalize (w2.alloc (.cells (nv false fun _ => 0) 92)).setRow w2.heap.size (nv t g) = W2 at *
    have hs3 : w.heap.size + 2 ≤ w2.heap.size := by omega
    clear f0 f1 f2 m2
    generalize w2.heap.size = C at *
    have q0 : Blk W2.drew w.heap.size (nv false fun _ => 0) 92 := g0
    have q1 : Blk W2.drew (w.heap.size + 1) (nv false fun _ => 0) 92 := g1
    have q2 : Blk W2.drew B (nv s f) 92 := g2
    have q3 : Blk W2.drew C (nv t g) 92 := g3
    have qk : Keep [] w W2.drew := n2.drewN 1
    have u0 : Blk (W2.drew.setRow w.heap.size (nv s f)) w.heap.size (nv s f) 92 := q0.setRow
    have u1 : Blk (W2.drew.setRow w.heap.size (nv s f)) (w.heap.size + 1) (nv false fun _ => 0) 92 := q1.setRow_other (by omega)
    have u2 : Blk (W2.drew.setRow w.heap.size (nv s f)) B (nv s f) 92 := q2.setRow_other (by omega)
    have u3 : Blk (W2.drew.setRow w.heap.size (nv s f)) C (nv t g) 92 := q3.setRow_other (by omega)
    have v0 : Blk ((W2.drew.setRow w.heap.size (nv s f)).setRow (w.heap.size + 1) (nv t g)) w.heap.size (nv s f) 92 := u0.setRow_other (by omega)
    have v1 : Blk ((W2.drew.setRow w.heap.size (nv s f)).setRow (w.heap.size + 1) (nv t g)) (w.heap.size + 1) (nv t g) 92 := u1.setRow
    have v2 : Blk ((W2.drew.setRow w.heap.size (nv s f)).setRow (w.heap.size + 1) (nv t g)) B (nv s f) 92 := u2.setRow_other (by omega)
    have v3 : Blk ((W2.drew.setRow w.heap.size (nv s f)).setRow (w.heap.size + 1) (nv t g)) C (nv t g) 92 := u3.setRow_other (by omega)
    clear g0 g1 g2 g3 n2
    replace qk := Lib.hid qk
    have hiN : ∀ s f, (Tryz.prog.info? 92).map (·.size) = some (nv s f).size := fun s f => by rw [nv_size]; exact Tryz.infoN
    refine wp_region_held_drew (S := fun w' => Blk w' B (nv s f) 92 ∧ Blk w' C (nv t g) 92) (by kernel_rfl) ⟨q2, q3⟩ (fun hS => ?_)
    refine wpAnyH_take (i := 0) (v := .agg (nv s f)) rfl (by kernel_rfl) (by kernel_rfl) (by kernel_rfl) (fun _ _ _ h => h) (yields_row (by kernel_rfl) 92 (.tmp 7) rfl B (nv s f) _ rfl (fun _ h => h.1) Tryz.underlying92 rfl (hiN _ _)) hS ?_
    simp only [List.getElem_toArray, List.getElem_cons_succ, List.getElem_cons_zero, Act.put, List.setIfInBounds_toArray, List.set_cons_zero, List.set_cons_succ]
    refine wpAnyH_take (i := 1) (v := .agg (nv t g)) rfl (by kernel_rfl) (by kernel_rfl) (by kernel_rfl) (fun _ _ _ h => h) (yields_row (by kernel_rfl) 92 (.tmp 9) rfl C (nv t g) _ rfl (fun _ h => h.2) Tryz.underlying92 rfl (hiN _ _)) hS ?_
    simp only [List.getElem_toArray, List.getElem_cons_succ, List.getElem_cons_zero, Act.put, List.setIfInBounds_toArray, List.set_cons_zero, List.set_cons_succ]
    refine wpAnyH_take (i := 2) (v := .bool false) rfl (by kernel_rfl) (by kernel_rfl) (by kernel_rfl) (fun _ _ _ h => h) (.inl ⟨by kernel_rfl, fun _ _ => by kernel_rfl⟩) hS ?_
    simp only [List.getElem_toArray, List.getElem_cons_succ, List.getElem_cons_zero, Act.put, List.setIfInBounds_toArray, List.set_cons_zero, List.set_cons_succ]
    refine wpAnyH_take (i := 3) (v := .bool false) rfl (by kernel_rfl) (by kernel_rfl) (by kernel_rfl) (fun _ _ _ h => h) (.inl ⟨by kernel_rfl, fun _ _ => by kernel_rfl⟩) hS ?_
    simp only [List.getElem_toArray, List.getElem_cons_succ, List.getElem_cons_zero, Act.put, List.setIfInBounds_toArray, List.set_cons_zero, List.set_cons_succ]
    refine wpAnyH_take (i := 4) (v := undef) rfl (by kernel_rfl) (by kernel_rfl) (by kernel_rfl) (fun _ _ _ h => h) (.inr ⟨by kernel_rfl, rfl⟩) hS ?_
    simp only [List.getElem_toArray, List.getElem_cons_succ, List.getElem_cons_zero, Act.put, List.setIfInBounds_toArray, List.set_cons_zero, List.set_cons_succ]
    refine wpAnyH_take (i := 5) (v := .bool (false)) rfl (by kernel_rfl) (by kernel_rfl) (by kernel_rfl) (fun _ _ _ h => h) (.inl ⟨by kernel_rfl, fun _ _ => by kernel_rfl⟩) hS ?_
    simp only [List.getElem_toArray, List.getElem_cons_succ, List.getElem_cons_zero, Act.put, List.setIfInBounds_toArray, List.set_cons_zero, List.set_cons_succ]
    refine wpAnyH_ready (rs := [6]) (by kernel_rfl) (by simp) ?_
    refine AllReadyH.cons rfl (fun K hK => ?_) AllReadyH.nil
    rw [if_pos (by rfl)]
    simp only [List.getElem_toArray, List.getElem_cons_succ, List.getElem_cons_zero]
    with_reducible refine wp_store_row 92 (.tmp 4) (.tmp 21) rfl w.heap.size (nv s f) rfl rfl 92 _ (Blk.eq q0) (hiN _ _) (by rw [nv_size, nv_size]) (nv_one _ _) ?_
    refine hK.out _ _ ⟨u2, u3⟩ (fun hS => ?_)
    simp only [List.getElem_toArray, List.getElem_cons_succ, List.getElem_cons_zero, Act.put, List.setIfInBounds_toArray, List.set_cons_zero, List.set_cons_succ]
    refine wpAnyH_ready (rs := [7]) (by kernel_rfl) (by simp) ?_
    refine AllReadyH.cons rfl (fun K hK => ?_) AllReadyH.nil
    rw [if_pos (by rfl)]
    simp only [List.getElem_toArray, List.getElem_cons_succ, List.getElem_cons_zero]
    with_reducible refine wp_store_row 92 (.tmp 5) (.tmp 22) rfl (w.heap.size + 1) (nv t g) rfl rfl 92 _ (Blk.eq u1) (hiN _ _) (by rw [nv_size, nv_size]) (nv_one _ _) ?_
    refine hK.out _ _ ⟨v2, v3⟩ (fun hS => ?_)
    simp only [List.getElem_toArray, List.getElem_cons_succ, List.getElem_cons_zero, Act.put, List.setIfInBounds_toArray, List.set_cons_zero, List.set_cons_succ]
    refine wpAnyH_take (i := 8) (v := .bool (false)) rfl (by kernel_rfl) (by kernel_rfl) (by kernel_rfl) (fun _ _ _ h => h) (.inl ⟨by kernel_rfl, fun _ _ => by kernel_rfl⟩) hS ?_
    simp only [List.getElem_toArray, List.getElem_cons_succ, List.getElem_cons_zero, Act.put, List.setIfInBounds_toArray, List.set_cons_zero, List.set_cons_succ]
    refine wpAnyH_done (by kernel_rfl) ?_ _
    go_wp2_with fail
    exact bodyPost_ret (v := .tuple #[.agg (nv s f), .agg (nv t g), .bool (false)]) (res3 rfl _ _ w.heap.size (w.heap.size + 1) 92 92 _ _ (0, 0) (0, 0) _ _ _ rfl rfl (Blk.eq v0) rfl (Blk.eq v1) Tryz.underlying92 rfl (hiN _ _) Tryz.underlying92 rfl (hiN _ _)) rfl
      ⟨rfl, ((qk.out.setRow (by omega) _).setRow (by omega) _).below⟩
  case true =>
    go_wp2_with (first | (with_reducible refine wpList_store_rowTo rfl 92 (.tmp 9) (.tmp 19) rfl rfl w2.heap.size (nv t g) rfl rfl 92 _ (Blk.eq (Blk.new _ _ _)) (by rw [nv_size]; exact Tryz.infoN) (zerosTo t g) (nv_one _ _) ?_))
    have n2 : Keep [] w ((w2.alloc _).setRow w2.heap.size (nv t g)) := ((m2.out.alloc (.cells (nv false fun _ => 0) 92)).setRow (by have := hs2; have := m2.out.size; omega) _)
    have g0 : Blk _ w.heap.size (nv false fun _ => 0) 92 := (f0.out.alloc (.cells (nv false fun _ => 0) 92)).setRow_other (g := w2.heap.size) (cs' := nv t g) (by have := hs2; omega)
    have g1 : Blk _ (w.heap.size + 1) (nv false fun _ => 0) 92 := (f1.out.alloc (.cells (nv false fun _ => 0) 92)).setRow_other (g := w2.heap.size) (cs' := nv t g) (by have := hs2; omega)
    have g2 : Blk _ B (nv s f) 92 := (f2.out.alloc (.cells (nv false fun _ => 0) 92)).setRow_other (g := w2.heap.size) (cs' := nv t g) (by have := hs2; omega)
    have g3 : Blk _ w2.heap.size (nv t g) 92 := (Blk.new w2 (nv false fun _ => 0) 92).setRow
    rw [← nv_falses]
    generalize (w2.alloc (.cells (nv false fun _ => 0) 92)).setRow w2.heap.size (nv t g) = W2 at *
    have hs3 : w.heap.size + 2 ≤ w2.heap.size := by omega
    clear f0 f1 f2 m2
    generalize w2.heap.size = C at *
    have q0 : Blk W2.drew w.heap.size (nv false fun _ => 0) 92 := g0
    have q1 : Blk W2.drew (w.heap.size + 1) (nv false fun _ => 0) 92 := g1
    have q2 : Blk W2.drew B (nv s f) 92 := g2
    have q3 : Blk W2.drew C (nv t g) 92 := g3
    have qk : Keep [] w W2.drew := n2.drewN 1
    have u0 : Blk (W2.drew.setRow w.heap.size (nv s f)) w.heap.size (nv s f) 92 := q0.setRow
    have u1 : Blk (W2.drew.setRow w.heap.size (nv s f)) (w.heap.size + 1) (nv false fun _ => 0) 92 := q1.setRow_other (by omega)
    have u2 : Blk (W2.drew.setRow w.heap.size (nv s f)) B (nv s f) 92 := q2.setRow_other (by omega)
    have u3 : Blk (W2.drew.setRow w.heap.size (nv s f)) C (nv t g) 92 := q3.setRow_other (by omega)
    have v0 : Blk ((W2.drew.setRow w.heap.size (nv s f)).setRow (w.heap.size + 1) (nv t g)) w.heap.size (nv s f) 92 := u0.setRow_other (by omega)
    have v1 : Blk ((W2.drew.setRow w.heap.size (nv s f)).setRow (w.heap.size + 1) (nv t g)) (w.heap.size + 1) (nv t g) 92 := u1.setRow
    have v2 : Blk ((W2.drew.setRow w.heap.size (nv s f)).setRow (w.heap.size + 1) (nv t g)) B (nv s f) 92 := u2.setRow_other (by omega)
    have v3 : Blk ((W2.drew.setRow w.heap.size (nv s f)).setRow (w.heap.size + 1) (nv t g)) C (nv t g) 92 := u3.setRow_other (by omega)
    clear g0 g1 g2 g3 n2
    replace qk := Lib.hid qk
    have hiN : ∀ s f, (Tryz.prog.info? 92).map (·.size) = some (nv s f).size := fun s f => by rw [nv_size]; exact Tryz.infoN
    refine wp_region_held_drew (S := fun w' => Blk w' B (nv s f) 92 ∧ Blk w' C (nv t g) 92) (by kernel_rfl) ⟨q2, q3⟩ (fun hS => ?_)
    refine wpAnyH_take (i := 0) (v := .agg (nv s f)) rfl (by kernel_rfl) (by kernel_rfl) (by kernel_rfl) (fun _ _ _ h => h) (yields_row (by kernel_rfl) 92 (.tmp 7) rfl B (nv s f) _ rfl (fun _ h => h.1) Tryz.underlying92 rfl (hiN _ _)) hS ?_
    simp only [List.getElem_toArray, List.getElem_cons_succ, List.getElem_cons_zero, Act.put, List.setIfInBounds_toArray, List.set_cons_zero, List.set_cons_succ]
    refine wpAnyH_take (i := 1) (v := .agg (nv t g)) rfl (by kernel_rfl) (by kernel_rfl) (by kernel_rfl) (fun _ _ _ h => h) (yields_row (by kernel_rfl) 92 (.tmp 9) rfl C (nv t g) _ rfl (fun _ h => h.2) Tryz.underlying92 rfl (hiN _ _)) hS ?_
    simp only [List.getElem_toArray, List.getElem_cons_succ, List.getElem_cons_zero, Act.put, List.setIfInBounds_toArray, List.set_cons_zero, List.set_cons_succ]
    refine wpAnyH_take (i := 2) (v := .bool true) rfl (by kernel_rfl) (by kernel_rfl) (by kernel_rfl) (fun _ _ _ h => h) (.inl ⟨by kernel_rfl, fun _ _ => by kernel_rfl⟩) hS ?_
    simp only [List.getElem_toArray, List.getElem_cons_succ, List.getElem_cons_zero, Act.put, List.setIfInBounds_toArray, List.set_cons_zero, List.set_cons_succ]
    refine wpAnyH_take (i := 3) (v := .bool true) rfl (by kernel_rfl) (by kernel_rfl) (by kernel_rfl) (fun _ _ _ h => h) (.inl ⟨by kernel_rfl, fun _ _ => by kernel_rfl⟩) hS ?_
    simp only [List.getElem_toArray, List.getElem_cons_succ, List.getElem_cons_zero, Act.put, List.setIfInBounds_toArray, List.set_cons_zero, List.set_cons_succ]
    refine wpAnyH_take (i := 4) (v := .bool cb) rfl (by kernel_rfl) (by kernel_rfl) (by kernel_rfl) (fun _ _ _ h => h) (.inl ⟨by kernel_rfl, fun _ _ => by kernel_rfl⟩) hS ?_
    simp only [List.getElem_toArray, List.getElem_cons_succ, List.getElem_cons_zero, Act.put, List.setIfInBounds_toArray, List.set_cons_zero, List.set_cons_succ]
    refine wpAnyH_take (i := 5) (v := .bool (cb)) rfl (by kernel_rfl) (by kernel_rfl) (by kernel_rfl) (fun _ _ _ h => h) (.inl ⟨by kernel_rfl, fun _ _ => by kernel_rfl⟩) hS ?_
    simp only [List.getElem_toArray, List.getElem_cons_succ, List.getElem_cons_zero, Act.put, List.setIfInBounds_toArray, List.set_cons_zero, List.set_cons_succ]
    refine wpAnyH_ready (rs := [6]) (by kernel_rfl) (by simp) ?_
    refine AllReadyH.cons rfl (fun K hK => ?_) AllReadyH.nil
    rw [if_pos (by rfl)]
    simp only [List.getElem_toArray, List.getElem_cons_succ, List.getElem_cons_zero]
    with_reducible refine wp_store_row 92 (.tmp 4) (.tmp 21) rfl w.heap.size (nv s f) rfl rfl 92 _ (Blk.eq q0) (hiN _ _) (by rw [nv_size, nv_size]) (nv_one _ _) ?_
    refine hK.out _ _ ⟨u2, u3⟩ (fun hS => ?_)
    simp only [List.getElem_toArray, List.getElem_cons_succ, List.getElem_cons_zero, Act.put, List.setIfInBounds_toArray, List.set_cons_zero, List.set_cons_succ]
    refine wpAnyH_ready (rs := [7]) (by kernel_rfl) (by simp) ?_
    refine AllReadyH.cons rfl (fun K hK => ?_) AllReadyH.nil
    rw [if_pos (by rfl)]
    simp only [List.getElem_toArray, List.getElem_cons_succ, List.getElem_cons_zero]
    with_reducible refine wp_store_row 92 (.tmp 5) (.tmp 22) rfl (w.heap.size + 1) (nv t g) rfl rfl 92 _ (Blk.eq u1) (hiN _ _) (by rw [nv_size, nv_size]) (nv_one _ _) ?_
    refine hK.out _ _ ⟨v2, v3⟩ (fun hS => ?_)
    simp only [List.getElem_toArray, List.getElem_cons_succ, List.getElem_cons_zero, Act.put, List.setIfInBounds_toArray, List.set_cons_zero, List.set_cons_succ]
    refine wpAnyH_take (i := 8) (v := .bool (cb)) rfl (by kernel_rfl) (by kernel_rfl) (by kernel_rfl) (fun _ _ _ h => h) (.inl ⟨by kernel_rfl, fun _ _ => by kernel_rfl⟩) hS ?_
    simp only [List.getElem_toArray, List.getElem_cons_succ, List.getElem_cons_zero, Act.put, List.setIfInBounds_toArray, List.set_cons_zero, List.set_cons_succ]
    refine wpAnyH_done (by kernel_rfl) ?_ _
    go_wp2_with fail
    exact bodyPost_ret (v := .tuple #[.agg (nv s f), .agg (nv t g), .bool (cb)]) (res3 rfl _ _ w.heap.size (w.heap.size + 1) 92 92 _ _ (0, 0) (0, 0) _ _ _ rfl rfl (Blk.eq v0) rfl (Blk.eq v1) Tryz.underlying92 rfl (hiN _ _) Tryz.underlying92 rfl (hiN _ _)) rfl
      ⟨rfl, ((qk.out.setRow (by omega) _).setRow (by omega) _).below⟩
end Go.Proofs.YthecgifgjagmaaaGreatDoor.dec
