/- Texts JxP, JxG, one behind the other. -/
import Derived.Test.YtidplkfhodpdhaaGreatDoorRtB
import Derived.Test.YtidplkfhodpdhaaGreatDoorOvA
import Derived.Test.YtidplkfhodpdhaaGreatDoorJnD
import Derived.Test.YtidplkfhodpdhaaGreatDoorTabMayA
import Derived.Test.YtidplkfhodpdhaaGreatDoorTabEqA
import Derived.Great.BuildSlice
namespace Go.Proofs.YtidplkfhodpdhaaGreatDoor.tab
open Go.ChangeShapes Go.WideShapes Go.ChangeAt Go.RowKit kit dec val
open hyp (RowA TextsA CellsStay stay_of_below textsV textsV_length own_row OW)
set_option linter.unusedVariables false
set_option linter.unusedSimpArgs false
def RO (w0 wr : World) (B N : Nat) (v : Value) (rs : List (List V)) : Prop :=
 ∃ vs : List Value, vs.length = rs.length ∧ wr.ownsRow B 37 1 v vs.length vs ∧ ∀ j (hj : j < vs.length) (hj' : j < rs.length), LA w0 N vs[j] rs[j]
theorem RO.nil (w0 wr : World) (B N : Nat) : RO w0 wr B N (.slice none 0 0) [] := ⟨[], rfl, World.ownsRow_nil _ _ _ _, fun j hj => by simp at hj⟩
theorem RO.form {w0 wr : World} {B N : Nat} {v : Value} {rs : List (List V)} (h : RO w0 wr B N v rs) : ∃ a c, v = .slice a rs.length c := by
 obtain ⟨vs, h1, own, -⟩ := h
 obtain ⟨a, c, e⟩ := own_form4x own
 exact ⟨a, c, by rw [e, h1]⟩
theorem RO.read {w0 wr : World} {B N : Nat} {v : Value} {rs : List (List V)} (h : RO w0 wr B N v rs) (hb : Below w0.heap.size w0 wr) : RowsA wr N v rs := by
 obtain ⟨vs, h1, own, hr⟩ := h
 exact ⟨vs, h1, own_row own, fun j hj hj' => (hr j hj hj').stay hb⟩
theorem RO.lt {w0 wr : World} {B N : Nat} {v : Value} {rs : List (List V)} (h : RO w0 wr B N v rs) : ∀ g, v.ownBlock = some g → B ≤ g ∧ g < wr.heap.size := by
 obtain ⟨vs, h1, own, -⟩ := h
 exact own.lt
theorem RO.keep {w0 wr W : World} {B N : Nat} {v : Value} {rs : List (List V)} (h : RO w0 wr B N v rs) (hk : ∀ g, v.ownBlock = some g → W.heap[g]? = wr.heap[g]?) : RO w0 W B N v rs := by
 obtain ⟨vs, h1, own, hr⟩ := h
 exact ⟨vs, h1, val.own_stay own hk, hr⟩
theorem wp_pushO {w : World} {o : Oper} {a : Act} {K : Act → World → Prop} {Q : Exit → Act → World → Prop} (s x : Operand)
 (ho : o.op = .call { callee := .builtin .append, args := #[s, x], argTypes := #[23, 23] })
 (w0 : World) (B N : Nat) (v : Value) (rs : List (List V)) (hs : a.eval s = v) (hR : RO w0 w B N v rs) (hB : B ≤ w.heap.size)
 (g : Nat) (r : List V) (t : Value) (hx : a.eval x = .slice (some ⟨g, 0, none⟩) 1 1) (hg : w.cell? ⟨g, 0, none⟩ = some t) (ht1 : t.oneCell' = true) (hla : LA w0 N t r) (hlen : rs.length + 1 ≤ 1048576)
 (hK : ∀ v' w', RO w0 w' B N v' (rs ++ [r]) → w.grownBy w' v.ownBlock → (v'.ownBlock = v.ownBlock ∨ v'.ownBlock = some w.heap.size) → K (a.put o.dst v') w') :
 o.wp Tryz.prog a w K Q := by
 obtain ⟨i0, hi, hz1, hz2, hz3⟩ := info_parts infoRow
 obtain ⟨vs, h1, own, hr⟩ := id hR
 have hnews : ∀ j u, [t][j]? = some u → w.cell? ((⟨g, 0, none⟩ : Addr).add j) = some u := fun j u hu => by
  match j, hu with
  | 0, hu =>
   obtain rfl : t = u := by simpa using hu
   exact hg
  | j + 1, hu => simp at hu
 have hone : ∀ u ∈ [t], u.oneCell' = true := fun u hu => by
  obtain rfl := List.mem_singleton.1 hu
  exact ht1
 have h63 : vs.length + 1 ≤ maxLen := by unfold maxLen; omega
 obtain ⟨v', w', hrun, k2, k3, _⟩ := run_append_own (P := Tryz.prog) w B 23 o.type 37 i0 (.slice none 0 0) 1 24 Tryz.underlying23 hi hz1 hz2 hz3 rfl (by decide) v vs.length vs own ⟨g, 0, none⟩ 1 1 [t] rfl hnews hone h63 (by omega) hB
 have own0 : w.ownsRow 0 37 1 v vs.length vs := own_low4 own (Nat.zero_le _)
 have hv := append_block w 23 o.type 37 i0 (.slice none 0 0) 1 24 Tryz.underlying23 hi hz1 hz2 hz3 v vs.length vs own0 ⟨g, 0, none⟩ 1 1 [t] rfl hnews hone h63 (by omega) v' w' hrun
 have hRn : RO w0 w' B N v' (rs ++ [r]) := by
  refine ⟨vs ++ [t], by rw [List.length_append, List.length_append, h1]; rfl, by rw [List.length_append]; exact k2, fun j hj hj' => ?_⟩
  by_cases hlt : j < vs.length
  ·have e1 : (vs ++ [t])[j]'hj = vs[j] := List.getElem_append_left hlt
   have e2 : (rs ++ [r])[j]'hj' = rs[j]'(by omega) := List.getElem_append_left (by omega)
   rw [e1, e2]
   exact hr j hlt (by omega)
  ·have hje : j = vs.length := by rw [List.length_append] at hj; simp at hj; omega
   have e1 : (vs ++ [t])[j]'hj = t := by simp [hje]
   have e2 : (rs ++ [r])[j]'hj' = r := by simp [hje, h1]
   rw [e1, e2]
   exact hla
 have hfin := hK v' w' hRn k3 hv
 unfold Oper.wp execOp
 simp only [ho, resolve, invoke, builtin, Sem.run_bind, Sem.run_pure, Result.andThen_ok, List.map_toArray, List.map_cons, List.map_nil, hs, hx, hrun]
 exact hfin
def WantP (A B : Tab) (N : Nat) (w0 W : World) (pw : Nat) : Prop :=
 ∃ v0 v1 v2 v3 v4 v5 v6 v7 v8 v9 : Value, Blk W pw #[v0, v1, v2, v3, v4, v5, v6, v7, v8, v9] 32 ∧ Below w0.heap.size w0 W ∧ TabA W N (.agg #[v0, v1]) (joinZ A B) ∧ TabA W N (.agg #[v2, v3]) (joinZ A B) ∧ TabA W N (.agg #[v4, v5]) (someZ A B false true) ∧ TabA W N (.agg #[v6, v7]) (someZ A B true false) ∧ TabA W N (.agg #[v8, v9]) (someZ A B false false)
theorem joinZ_may (A B : Tab) : mayT (joinZ A B) = true := by
 unfold joinZ
 split
 ·rename_i h
  exact joinT_may h.1 h.2
 ·decide
theorem someZ_may (A B : Tab) (has bd : Bool) : mayT (someZ A B has bd) = true := by
 unfold someZ
 split
 ·rename_i h
  rw [Bool.and_eq_true] at h
  exact some_may B h.1 has bd
 ·decide
theorem joinZ_len (A B : Tab) (h : A.rows.length * B.rows.length ≤ 1600) : (joinZ A B).rows.length ≤ 1600 := by
 unfold joinZ
 split
 ·exact Nat.le_trans (joinT_len A B) h
 ·exact Nat.zero_le _
theorem someZ_len (A B : Tab) (has bd : Bool) : (someZ A B has bd).rows.length ≤ A.rows.length := by
 unfold someZ
 split
 ·exact some_len A B has bd
 ·exact Nat.zero_le _
structure GotT (W : World) (N : Nat) (S : Nat → Prop) (n r : Value) (t : Tab) : Prop where
 own : ∃ B, W.ownsRow B 9 1 n t.vars.length (textsV t.vars)
 inS : ∀ g, n.ownBlock = some g → S g
 size : ∀ s ∈ t.vars, s.size ≤ maxLen
 rows : MR W N S r t.rows
theorem GotT.keep {W W' : World} {N : Nat} {S : Nat → Prop} {n r : Value} {t : Tab} (h : GotT W N S n r t) (hk : ∀ b, S b → b < W.heap.size → W'.heap[b]? = W.heap[b]?) : GotT W' N S n r t := by
 obtain ⟨B, own⟩ := h.own
 exact ⟨⟨B, val.own_stay own fun g hg => hk g (h.inS g hg) (own.lt g hg).2⟩, h.inS, h.size, h.rows.stay hk⟩
theorem GotT.read {W : World} {N : Nat} {S : Nat → Prop} {n r : Value} {t : Tab} (h : GotT W N S n r t) : TabA W N (.agg #[n, r]) t := by
 obtain ⟨B, own⟩ := h.own
 exact ⟨n, r, rfl, ⟨own_row (by rw [textsV_length]; exact own), h.size⟩, h.rows.read⟩
theorem GotT.of {w W : World} {N : Nat} {n r : Value} {t : Tab} (h : TabO w W N (.agg #[n, r]) t) : GotT W N (fun b => w.heap.size ≤ b ∧ b < W.heap.size) n r t := by
 obtain ⟨vv, rv, e, hb, own, hsz, hM⟩ := h
 injection e with e
 have e2 := Array.mk.inj e
 simp only [List.cons.injEq, and_true] at e2
 obtain ⟨rfl, rfl⟩ := e2
 exact ⟨⟨_, own⟩, fun g hg => own.lt g hg, hsz, hM⟩
def GotP (A B : Tab) (N : Nat) (V0 W : World) (pg : Nat) : Prop :=
 ∃ (n0 r0 n1 r1 n2 r2 n3 r3 n4 r4 : Value) (l0 l1 l2 l3 l4 l5 : Nat), Blk W pg #[n0, r0, n1, r1, n2, r2, n3, r3, n4, r4] 32 ∧ Below V0.heap.size V0 W ∧ V0.heap.size ≤ l0 ∧ l0 ≤ l1 ∧ l1 ≤ l2 ∧ l2 ≤ l3 ∧ l3 ≤ l4 ∧ l4 ≤ l5 ∧ l5 ≤ W.heap.size ∧
  GotT W N (fun b => l0 ≤ b ∧ b < l1 ∧ b ≠ pg) n0 r0 (joinZ A B) ∧ GotT W N (fun b => l1 ≤ b ∧ b < l2 ∧ b ≠ pg) n1 r1 (joinZ A B) ∧ GotT W N (fun b => l2 ≤ b ∧ b < l3 ∧ b ≠ pg) n2 r2 (someZ A B false true) ∧ GotT W N (fun b => l3 ≤ b ∧ b < l4 ∧ b ≠ pg) n3 r3 (someZ A B true false) ∧ GotT W N (fun b => l4 ≤ b ∧ b < l5 ∧ b ≠ pg) n4 r4 (someZ A B false false)
end Go.Proofs.YtidplkfhodpdhaaGreatDoor.tab
namespace Go.Proofs.YtidplkfhodpdhaaGreatDoor.tab
open Go.ChangeShapes Go.WideShapes Go.ChangeAt Go.RowKit kit dec val
open hyp (RowA TextsA CellsStay stay_of_below textsV textsV_length own_row OW)
set_option linter.unusedVariables false
set_option linter.unusedSimpArgs false
theorem GotT.mono {W : World} {N : Nat} {S S' : Nat → Prop} {n r : Value} {t : Tab} (h : GotT W N S n r t) (hs : ∀ b, S b → S' b) : GotT W N S' n r t :=
 ⟨h.own, fun g hg => hs g (h.inS g hg), h.size, h.rows.mono hs⟩
theorem blk_stay {w w' : World} {b : Nat} {cs : Array Value} {t : TypeId} (h : Blk w b cs t) (hb : Below w.heap.size w w') : Blk w' b cs t := (hb.block _ h.lt).trans h
theorem out_setRow (W : World) (g : Nat) (cs : Array Value) : Out (fun b => b = g) W (W.setRow g cs) :=
 ⟨rfl, rfl, rfl, by simp, fun k hk hn => _root_.Go.setRow_other W g k cs hn⟩
theorem gotP_core {A B : Tab} {N : Nat} {wx W W' : World} {pg : Nat} {n0 r0 n1 r1 n2 r2 n3 r3 n4 r4 : Value} {s0 e0 s1 e1 s2 e2 s3 e3 s4 e4 : Nat}
 (hqF : Blk W' pg #[n0, r0, n1, r1, n2, r2, n3, r3, n4, r4] 32) (hW : Below wx.heap.size wx W') (hoF : Out (fun b => b = pg) W W')
 (G0 : GotT W N (fun b => s0 ≤ b ∧ b < e0) n0 r0 (joinZ A B)) (G1 : GotT W N (fun b => s1 ≤ b ∧ b < e1) n1 r1 (joinZ A B)) (G2 : GotT W N (fun b => s2 ≤ b ∧ b < e2) n2 r2 (someZ A B false true)) (G3 : GotT W N (fun b => s3 ≤ b ∧ b < e3) n3 r3 (someZ A B true false)) (G4 : GotT W N (fun b => s4 ≤ b ∧ b < e4) n4 r4 (someZ A B false false))
 (hs : wx.heap.size ≤ s0 ∧ s0 ≤ e0 ∧ e0 ≤ s1 ∧ s1 ≤ e1 ∧ e1 ≤ s2 ∧ s2 ≤ e2 ∧ e2 ≤ s3 ∧ s3 ≤ e3 ∧ e3 ≤ s4 ∧ s4 ≤ e4 ∧ e4 ≤ W.heap.size)
 (hd : (wx.heap.size ≤ pg ∧ pg < s0) ∨ (e0 = pg ∧ pg < s1) ∨ (e1 = pg ∧ pg < s2) ∨ (e2 = pg ∧ pg < s3) ∨ (e3 = pg ∧ pg < s4) ∨ e4 = pg) : GotP A B N wx W' pg := by
 obtain ⟨a0, b0, c0, b1, c1, b2, c2, b3, c3, b4, b5⟩ := hs
 have hsz := hoF.size
 have H0 := (G0.keep (fun b hS hlt => hoF.block b hlt (by have := hS.1; have := hS.2; omega))).mono (S' := fun b => s0 ≤ b ∧ b < s1 ∧ b ≠ pg) (fun b hS => ⟨hS.1, by have := hS.2; omega, by have := hS.1; have := hS.2; omega⟩)
 have H1 := (G1.keep (fun b hS hlt => hoF.block b hlt (by have := hS.1; have := hS.2; omega))).mono (S' := fun b => s1 ≤ b ∧ b < s2 ∧ b ≠ pg) (fun b hS => ⟨hS.1, by have := hS.2; omega, by have := hS.1; have := hS.2; omega⟩)
 have H2 := (G2.keep (fun b hS hlt => hoF.block b hlt (by have := hS.1; have := hS.2; omega))).mono (S' := fun b => s2 ≤ b ∧ b < s3 ∧ b ≠ pg) (fun b hS => ⟨hS.1, by have := hS.2; omega, by have := hS.1; have := hS.2; omega⟩)
 have H3 := (G3.keep (fun b hS hlt => hoF.block b hlt (by have := hS.1; have := hS.2; omega))).mono (S' := fun b => s3 ≤ b ∧ b < s4 ∧ b ≠ pg) (fun b hS => ⟨hS.1, by have := hS.2; omega, by have := hS.1; have := hS.2; omega⟩)
 have H4 := (G4.keep (fun b hS hlt => hoF.block b hlt (by have := hS.1; have := hS.2; omega))).mono (S' := fun b => s4 ≤ b ∧ b < e4 ∧ b ≠ pg) (fun b hS => ⟨hS.1, by have := hS.2; omega, by have := hS.1; have := hS.2; omega⟩)
 exact ⟨_, _, _, _, _, _, _, _, _, _, s0, s1, s2, s3, s4, e4, hqF, hW, a0, by omega, by omega, by omega, by omega, by omega, by omega, H0, H1, H2, H3, H4⟩
theorem gotP_row {A B : Tab} {N : Nat} {wx W : World} {pg : Nat} {n0 r0 n1 r1 n2 r2 n3 r3 n4 r4 : Value} {s0 e0 s1 e1 s2 e2 s3 e3 s4 e4 : Nat} {old : Array Value}
 (hq : Blk W pg old 32) (hb : Below wx.heap.size wx W) (hx : wx.heap.size ≤ pg)
 (G0 : GotT W N (fun b => s0 ≤ b ∧ b < e0) n0 r0 (joinZ A B)) (G1 : GotT W N (fun b => s1 ≤ b ∧ b < e1) n1 r1 (joinZ A B)) (G2 : GotT W N (fun b => s2 ≤ b ∧ b < e2) n2 r2 (someZ A B false true)) (G3 : GotT W N (fun b => s3 ≤ b ∧ b < e3) n3 r3 (someZ A B true false)) (G4 : GotT W N (fun b => s4 ≤ b ∧ b < e4) n4 r4 (someZ A B false false))
 (hs : wx.heap.size ≤ s0 ∧ s0 ≤ e0 ∧ e0 ≤ s1 ∧ s1 ≤ e1 ∧ e1 ≤ s2 ∧ s2 ≤ e2 ∧ e2 ≤ s3 ∧ s3 ≤ e3 ∧ e3 ≤ s4 ∧ s4 ≤ e4 ∧ e4 ≤ W.heap.size)
 (hd : (wx.heap.size ≤ pg ∧ pg < s0) ∨ (e0 = pg ∧ pg < s1) ∨ (e1 = pg ∧ pg < s2) ∨ (e2 = pg ∧ pg < s3) ∨ (e3 = pg ∧ pg < s4) ∨ e4 = pg) : GotP A B N wx (W.setRow pg #[n0, r0, n1, r1, n2, r2, n3, r3, n4, r4]) pg :=
 gotP_core hq.setRow (below_setRow hb hx _) (out_setRow W pg _) G0 G1 G2 G3 G4 hs hd
theorem built_five (na0 ra0 na1 ra1 na2 ra2 na3 ra3 na4 ra4 : Option Addr) (nl0 nc0 rl0 rc0 nl1 nc1 rl1 rc1 nl2 nc2 rl2 rc2 nl3 nc3 rl3 rc3 nl4 nc4 rl4 rc4 : Nat) : Tryz.prog.built 32 [(0, .agg #[.slice na0 nl0 nc0, .slice ra0 rl0 rc0]), (1, .agg #[.slice na1 nl1 nc1, .slice ra1 rl1 rc1]), (2, .agg #[.slice na2 nl2 nc2, .slice ra2 rl2 rc2]), (3, .agg #[.slice na3 nl3 nc3, .slice ra3 rl3 rc3]), (4, .agg #[.slice na4 nl4 nc4, .slice ra4 rl4 rc4])] = some #[.slice na0 nl0 nc0, .slice ra0 rl0 rc0, .slice na1 nl1 nc1, .slice ra1 rl1 rc1, .slice na2 nl2 nc2, .slice ra2 rl2 rc2, .slice na3 nl3 nc3, .slice ra3 rl3 rc3, .slice na4 nl4 nc4, .slice ra4 rl4 rc4] := by kernel_rfl
theorem exec_build {P : Program} {a : Act} {o : Oper} (t : TypeId) (parts : Array (Nat × Operand)) (ho : o.op = .build t parts) (vs : List (Nat × Value)) (cells : Array Value) (w : World)
 (hp : (parts.map fun (i, x) => (i, a.eval x)).toList = vs) (hb : P.built t vs = some cells) : (execOp a.eval o).run P w = .ok (.value (.agg cells)) w := by
 subst hp
 unfold execOp
 simp only [ho, Sem.run_bind, run_build w t _ cells hb, Result.andThen_ok]
 rfl
end Go.Proofs.YtidplkfhodpdhaaGreatDoor.tab
