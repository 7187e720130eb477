/- Check, plain; the contracts of its closure, IndexFunc, ContainsFunc, set. -/
import Derived.Test.YtnocncmjdhlmkaaHDec3
namespace Go.Proofs.Ytnocncmjdhlmkaa.hyp
open Go.ChangeShapes Go.WideShapes Go.ChangeAt Go.RowKit kit
set_option linter.unusedVariables false
set_option linter.unusedSimpArgs false
def vsF (ns : List ByteArray) : List ByteArray → Int → Nat → Option Nat
  | [], last, s => some s
  | x :: l, last, s => if idxI ns x ≤ last then none else vsF ns l (idxI ns x) (s ||| bit (idxI ns x).toNat)
def esF (ms : List Nat) : List Int → Int → Nat → Option Nat
  | [], _, c => some c
  | e :: l, last, c => if e ≤ last ∨ (ms.length : Int) ≤ e then none else esF ms l e (c ||| ms.getD e.toNat 0)
/-- A bag's variables, where it may be. -/
def setP (ns : List ByteArray) (ms : List Nat) (vs : List ByteArray) (es : List Int) : Option Nat :=
  match vsF ns vs (-1) 0 with
  | none => none
  | some s => match esF ms es (-1) 0 with
    | none => none
    | some c => if minus s c = 0 then some s else none
def parOK (i : Nat) (p : Int) : Bool := if i = 0 then decide (p = -1) else decide (0 ≤ p ∧ p < i)
def setsF (ns : List ByteArray) (ms : List Nat) (width : Int) : List BagD → Nat → List Nat → Option (List Nat)
  | [], _, acc => some acc
  | b :: l, i, acc => if (parOK i b.parent && decide ((b.edges.length : Int) ≤ width)) = true then
      match setP ns ms b.names b.edges with
      | none => none
      | some s => setsF ns ms width l (i + 1) (acc ++ [s])
    else none
def topAt (bs : List BagD) (sets : List Nat) (v i : Nat) : Bool := (sets.getD i 0).testBit v && (decide (i = 0) || !(sets.getD ((bs.map BagD.parent).getD i 0).toNat 0).testBit v)
def topsF (bs : List BagD) (sets : List Nat) (v n : Nat) : Nat := ((List.range n).filter fun i => topAt bs sets v i).length
def chkP (ns : List ByteArray) (ms : List Nat) (bs : List BagD) (width : Int) : Bool :=
  decide (1 ≤ width) && decide (bs ≠ []) && match setsF ns ms width bs 0 [] with
    | none => false
    | some sets => ms.all (fun e => sets.any fun s => minus e s == 0) && (List.range ns.length).all fun v => decide (topsF bs sets v bs.length ≤ 1)
def chkR (E : List (List ByteArray)) (bs : List BagD) (width : Int) : Bool := mayR nameB E && chkP (varsR E) (setsR E) bs width
set_option maxRecDepth 100000 in
theorem clo_any (w : World) (eb e s : Nat) (he : e < 65536) (hs : s < 65536) (hc : w.cell? ⟨eb, 0, none⟩ = some (.int .u16 (e : Int))) :
    Calls Try.prog 41 #[.int .u16 s, .pointer (some ⟨eb, 0, none⟩)] w fun r w' => r = .returned (.bool (minus e s == 0)) ∧ w' = w := by
  have hm : Go.bits .andNot .u16 (e : Int) (s : Int) = ((minus e s : Nat) : Int) := u16_andNot_nat _ _ he hs
  have hz : (((minus e s : Nat) : Int) == 0) = (minus e s == 0) := by
    by_cases h0 : minus e s = 0
    · rw [h0]; rfl
    · rw [beq_eq_false_iff_ne.2 h0]; exact beq_eq_false_iff_ne.2 (by omega)
  generalize minus e s = m at *
  generalize (m == 0) = q at *
  go_enter Try.func41, Try.ntmps41
  go_wp2
  go_ret
  exact ⟨rfl, rfl⟩
/-- Where the first set stands within which e is; -1: nowhere. -/
def findS (L : List Nat) (e : Nat) : Int := match (List.range L.length).find? (fun j => minus e (L.getD j 0) == 0) with | some j => (j : Int) | none => -1
set_option maxRecDepth 100000 in
set_option maxHeartbeats 4000000 in
theorem idxf_any (w : World) (eb e : Nat) (he : e < 65536) (hc : w.cell? ⟨eb, 0, none⟩ = some (.int .u16 (e : Int))) (ao : Option Addr) (cap : Nat) (L : List Nat) (hL : ∀ s ∈ L, s < 65536) (hl : L.length ≤ 1048576) (hR : RowA w w.heap.size (.slice ao L.length cap) (masksV L)) :
    Calls Try.prog 55 #[.slice ao L.length cap, .func (.func 41) #[] #[.pointer (some ⟨eb, 0, none⟩)]] w fun r w' => r = .returned (.int .i64 (findS L e)) ∧ w' = w := by
  obtain ⟨a2, c2, hv, -, hcell⟩ := hR.form
  rw [masksV_length] at hv
  obtain ⟨rfl, rfl⟩ : ao = a2 ∧ cap = c2 := by injection hv with h1 h2 h3; exact ⟨h1, h3⟩
  replace hcell := Lib.hid hcell
  have hcl := Lib.hid (fun s hs => clo_any w eb e s he hs hc)
  have hyes : Hid (∀ k, k < L.length → (∀ j, j < k → (minus e (L.getD j 0) == 0) = false) → (minus e (L.getD k 0) == 0) = true → findS L e = (k : Int)) := Lib.hid fun k hk hj hy => by
    have : (List.range L.length).find? (fun j => minus e (L.getD j 0) == 0) = some k := by
      rw [List.find?_range_eq_some]
      exact ⟨hy, by simpa using hk, fun j hjk => by rw [hj j hjk]; rfl⟩
    unfold findS
    rw [this]
  have hno : Hid ((∀ j, j < L.length → (minus e (L.getD j 0) == 0) = false) → findS L e = -1) := Lib.hid fun hj => by
    have : (List.range L.length).find? (fun j => minus e (L.getD j 0) == 0) = none := by
      rw [List.find?_range_eq_none]
      intro j hjk
      rw [hj j hjk]
      rfl
    unfold findS
    rw [this]
  clear hR hv hc
  generalize findS L e = R at *
  go_enter Try.func55, Try.ntmps55
  go_wp2
  go_loop [8] (fun i => ∃ k : Nat, k ≤ L.length ∧ i = .int .i64 (k : Int) ∧ Hid (∀ j, j < k → (minus e (L.getD j 0) == 0) = false)) (fun i => L.length - (intOf i).toNat)
  case atStart => exact ⟨0, by omega, rfl, Lib.hid (fun j h => by omega)⟩
  case round =>
    obtain ⟨k, hk, rfl, hj⟩ := hrel
    by_cases hlt : k < L.length
    · have hki : (k : Int) < (L.length : Int) := by omega
      have hk1 := Lib.hid (show k + 1 ≤ L.length from hlt)
      obtain ⟨b, off, rfl, -, hck⟩ := hcell.out k (by simpa using hlt)
      replace hck : w.cell? ⟨b, off + k, none⟩ = some (.int .u16 ((L.getD k 0 : Nat) : Int)) := by
        rw [hck, List.getD_eq_getElem?_getD, List.getElem?_eq_getElem hlt]
        simp [masksV]
      have hs : L.getD k 0 < 65536 := by rw [List.getD_eq_getElem?_getD, List.getElem?_eq_getElem hlt]; exact hL _ (List.getElem_mem hlt)
      have hc1 := Lib.hid (hcl.out _ hs)
      have hy := Lib.hid (hyes.out k hlt hj.out)
      have hj2 : Hid ((minus e (L.getD k 0) == 0) = false → ∀ j, j < k + 1 → (minus e (L.getD j 0) == 0) = false) := Lib.hid fun h j hjk => by
        by_cases hjk2 : j = k
        · rw [hjk2]; exact h
        · exact hj.out j (by omega)
      generalize L.getD k 0 = s at *
      cases hq : (minus e s == 0) with
      | true =>
        rw [hq] at hc1
        have hr := Lib.hid (hy.out hq)
        go_wp2_with fail
        refine hc1.out.mono ?_
        rintro e1 w4 ⟨rfl, rfl⟩
        go_wp2
        go_ret
        exact ⟨ret_int hr.out.symm, rfl⟩
      | false =>
        rw [hq] at hc1
        have hj3 := Lib.hid (hj2.out hq)
        go_wp2_with fail
        refine hc1.out.mono ?_
        rintro e1 w4 ⟨rfl, rfl⟩
        go_wp2
        go_round
        case rel => exact ⟨k + 1, hk1.out, by go_num, hj3⟩
        case measure => have := hk1.out; simp [intOf]; omega
    · have hki : ¬ (k : Int) < (L.length : Int) := by omega
      obtain rfl : k = L.length := by omega
      have hr := Lib.hid (hno.out hj.out)
      go_wp2
      go_ret
      exact ⟨ret_int hr.out.symm, rfl⟩
set_option maxRecDepth 100000 in
theorem con_any (w : World) (eb e : Nat) (he : e < 65536) (hc : w.cell? ⟨eb, 0, none⟩ = some (.int .u16 (e : Int))) (ao : Option Addr) (cap : Nat) (L : List Nat) (hL : ∀ s ∈ L, s < 65536) (hl : L.length ≤ 1048576) (hR : RowA w w.heap.size (.slice ao L.length cap) (masksV L)) :
    Calls Try.prog 40 #[.slice ao L.length cap, .func (.func 41) #[] #[.pointer (some ⟨eb, 0, none⟩)]] w fun r w' => r = .returned (.bool (L.any fun s => minus e s == 0)) ∧ w' = w := by
  have hi := Lib.hid (idxf_any w eb e he hc ao cap L hL hl hR)
  have hq : decide (0 ≤ findS L e) = L.any fun s => minus e s == 0 := by
    unfold findS
    cases hf : (List.range L.length).find? (fun j => minus e (L.getD j 0) == 0) with
    | some j =>
      rw [List.find?_range_eq_some] at hf
      have hj : j < L.length := by simpa using hf.2.1
      have h1 := hf.1
      rw [List.getD_eq_getElem?_getD, List.getElem?_eq_getElem hj] at h1
      rw [List.any_eq_true.2 ⟨_, List.getElem_mem hj, h1⟩]
      simp
    | none =>
      rw [List.find?_range_eq_none] at hf
      symm
      rw [show decide (0 ≤ (-1 : Int)) = false from rfl, List.any_eq_false]
      intro s hs
      obtain ⟨j, hj, rfl⟩ := List.getElem_of_mem hs
      have h1 := hf j hj
      rw [List.getD_eq_getElem?_getD, List.getElem?_eq_getElem hj] at h1
      simpa using h1
  generalize (L.any fun s => minus e s == 0) = q at *
  replace hq := Lib.hid hq
  clear hR hc
  go_enter Try.func40, Try.ntmps40
  go_wp2_with fail
  refine hi.out.mono ?_
  rintro e1 w4 ⟨rfl, rfl⟩
  go_wp2
  go_ret
  exact ⟨ret_bool hq.out, rfl⟩
end Go.Proofs.Ytnocncmjdhlmkaa.hyp
