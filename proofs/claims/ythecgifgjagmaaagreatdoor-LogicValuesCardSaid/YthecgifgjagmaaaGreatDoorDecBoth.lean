/- Contracts of decimal.load, both: the whole. -/
import Derived.Test.YthecgifgjagmaaaGreatDoorDecLoad
import Derived.Deep.RegionHeld3
namespace Go.Proofs.YthecgifgjagmaaaGreatDoor.dec
open Go.ChangeShapes Go.WideShapes Go.ChangeAt Go.RowKit kit
set_option linter.unusedVariables false
/-- The amount that load takes a text for: nought where it's none. -/
def zof (l : List UInt8) : Int := if chk l then nval l else 0
theorem zof_canon (z : Int) (hz : small z) : zof (canon z) = z := by unfold zof; rw [chk_canon z hz, if_pos rfl, nval_canon]
theorem zof_small (l : List UInt8) : small (zof l) := by
  unfold zof
  split
  · rename_i h
    obtain ⟨z, hz, rfl⟩ := (chk_iff l).1 h
    rw [nval_canon]; exact hz
  · show (0 : Int).natAbs < top
    unfold top; exact Nat.pow_pos (by decide)
/-- A number's cells, of an amount. -/
def num (z : Int) : Array Value := nv (decide (z < 0)) (wd z.natAbs)
theorem wd_zero : wd 0 = fun _ => 0 := by funext k; simp [wd]
theorem num_zero : num 0 = nv false fun _ => 0 := by unfold num; rw [← wd_zero]; rfl
theorem top_lt : top ≤ B9 ^ 16 := by unfold top B9; decide
theorem small_lt {z : Int} (h : small z) : z.natAbs < B9 ^ 16 := Nat.lt_of_lt_of_le h top_lt
theorem whole_len (z : Int) (hz : small z) : (orZero (digs (z.natAbs / 10 ^ 20))).length ≤ 40 := by
  have h : (digs (z.natAbs / 10 ^ 20)).length ≤ 40 := by
    rw [digs_lt, Nat.div_lt_iff_lt_mul (Nat.pow_pos (by decide)), ← Nat.pow_add]; exact hz
  unfold orZero; split
  · simp
  · exact h
theorem load_any (s : ByteArray) (w : World) (hE : Env w) :
    Calls Tryz.prog 121 #[.string s] w fun e w' => e = .returned (.tuple #[.agg (num (zof s.data.toList)), .bool (chk s.data.toList)]) ∧ Below w.heap.size w w' := by
  cases hc : chk s.data.toList
  · unfold zof; rw [hc, if_neg (by decide), num_zero]
    exact load_no s w hE hc
  · obtain ⟨z, hz, hl⟩ := (chk_iff _).1 hc
    have hv := load_val z
    have hw := orZero_allD (digs_allD (z.natAbs / 10 ^ 20))
    have hp := orZero_allD (frac_allD 20 z.natAbs)
    have hlw := whole_len z hz
    have hlp := (amount z).2
    rw [show zof s.data.toList = z by rw [hl, zof_canon z hz]]
    have hsh := canon_shape z
    unfold num
    generalize orZero (digs (z.natAbs / 10 ^ 20)) = Wl at *
    generalize orZero (frac 20 z.natAbs) = Pl at *
    rw [← hl] at hsh
    cases hn : decide (z < 0)
    · rw [hn] at hsh
      rw [← hv]
      exact load_pos s Wl Pl w hE hsh hc hw hp hlp hlw
    · rw [hn] at hsh
      rw [← hv]
      exact load_neg s Wl Pl w hE hsh hc hw hp hlp hlw
theorem res3 {P : Program} {fn : Func} {p q u : Tmp} {ty ty' : TypeId} (h : fn.results = #[.cell p ty, .cell q ty', .tmp u]) (tmps : Array Value) (w : World) (g g' : Nat) (t t' : TypeId) (cs cs' : Array Value) (fr fr' : Nat × Nat) (d d' : TypeDesc) (v : Value) (hv : tmps.getD u undef = v)
    (hp : tmps.getD p undef = .pointer (some ⟨g, 0, none⟩)) (hg : w.heap[g]? = some (.cells cs t fr))
    (hq : tmps.getD q undef = .pointer (some ⟨g', 0, none⟩)) (hg' : w.heap[g']? = some (.cells cs' t' fr'))
    (hu : P.underlying ty = some d) (hd : (match d with | .struct _ | .array _ _ => true | _ => false) = true) (hi : (P.info? ty).map (·.size) = some cs.size)
    (hu' : P.underlying ty' = some d') (hd' : (match d' with | .struct _ | .array _ _ => true | _ => false) = true) (hi' : (P.info? ty').map (·.size) = some cs'.size) :
    (results fn tmps).run P w = .ok (.tuple #[.agg cs, .agg cs', v]) w := by
  subst hv
  have e1 := run_loadVar_row (P := P) w g t ty cs fr d hg hu hd hi
  have e2 := run_loadVar_row (P := P) w g' t' ty' cs' fr' d' hg' hu' hd' hi'
  rw [Array.getD_eq_getD_getElem?] at hp hq
  simp only [results, h]
  simp [Sem.run_bind, Result.andThen, hp, hq, asAddr, e1, e2]
end Go.Proofs.YthecgifgjagmaaaGreatDoor.dec
