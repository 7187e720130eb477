/- Contracts of waysOf and Width. -/
import Derived.Test.YtnocncmjdhlmkaaHLeast2
import Derived.Test.YtnocncmjdhlmkaaHRead2
namespace Go.Proofs.Ytnocncmjdhlmkaa.hyp
open Go.ChangeShapes Go.WideShapes Go.ChangeAt Go.RowKit kit
set_option linter.unusedVariables false
set_option linter.unusedSimpArgs false
def turnOf (seed : Int) : Nat := (seed % 18446744073709551616 % 12).toNat
theorem turn_lt (seed : Int) : turnOf seed < 12 := by unfold turnOf; omega
theorem turn_eq (seed : Int) : ((turnOf seed : Nat) : Int) = seed % 18446744073709551616 % 12 := by unfold turnOf; omega
/-- Ways just made. -/
def WaysOut (w : World) (gb mb turn : Nat) (ns : List ByteArray) (ms : List Nat) (e : Ending) (w' : World) : Prop :=
  ∃ wb kb lb, e = .returned (.pointer (some ⟨wb, 0, none⟩)) ∧ Below w.heap.size w w' ∧ WM w' wb gb mb kb lb turn ns ms (fun _ => none) (fun _ => none) ∧ w.heap.size ≤ wb ∧ w.heap.size ≤ kb ∧ w.heap.size ≤ lb
set_option maxRecDepth 100000 in
set_option maxHeartbeats 2000000 in
theorem ways_any (w : World) (gb mb : Nat) (ns : List ByteArray) (ms : List Nat) (hG : GM w gb mb ns ms) (seed : Int) :
    Calls Try.prog 28 #[.pointer (some ⟨gb, 0, none⟩), .int .i64 seed] w fun e w' => WaysOut w gb mb (turnOf seed) ns ms e w' := by
  have ht := turn_eq seed
  have ht12 := turn_lt seed
  have hw : wrap64 ((IntKind.u64.wrap seed).tmod 12) = ((turnOf seed : Nat) : Int) := by
    rw [IntKind.wrap_u64, Int.tmod_eq_emod_of_nonneg (by omega), ht]
    unfold wrap64
    omega
  generalize turnOf seed = turn at *
  have hmm := @run_makeMap Try.prog
  have hb1 : Below w.heap.size w ((w.alloc (.map #[] 0)).alloc (.map #[] 0)) := ((Below.refl _ _).alloc (Nat.le_refl _) _).alloc (by simp) _
  have hb2 : Below w.heap.size w (((w.alloc (.map #[] 0)).alloc (.map #[] 0)).alloc (.cells #[.pointer (some ⟨gb, 0, none⟩), .map (some w.heap.size), .map (some (w.heap.size + 1)), .int .i64 (turn : Int)] 83)) := hb1.alloc (by simp; omega) _
  have hlt := hG.known.lt
  have hW : WM (((w.alloc (.map #[] 0)).alloc (.map #[] 0)).alloc (.cells #[.pointer (some ⟨gb, 0, none⟩), .map (some w.heap.size), .map (some (w.heap.size + 1)), .int .i64 (turn : Int)] 83)) (w.heap.size + 1 + 1) gb mb w.heap.size (w.heap.size + 1) turn ns ms (fun _ => none) (fun _ => none) := by
    refine ⟨?_, hG.below hb2, (((MapI.made w).alloc _).alloc _).mono (by omega), ?_, by omega, by omega, by omega⟩
    · have := Blk.new ((w.alloc (.map #[] 0)).alloc (.map #[] 0)) #[.pointer (some ⟨gb, 0, none⟩), .map (some w.heap.size), .map (some (w.heap.size + 1)), .int .i64 (turn : Int)] 83
      rw [World.size_alloc, World.size_alloc] at this
      exact this
    · have h := (MapI.made (P := Try.prog) (K := 57) (E := 64) (qk := .u16) (qe := .i64) (w.alloc (.map #[] 0))).alloc (.cells #[.pointer (some ⟨gb, 0, none⟩), .map (some w.heap.size), .map (some (w.heap.size + 1)), .int .i64 (turn : Int)] 83)
      rw [World.size_alloc] at h
      exact h.mono (by omega)
  have hres : WaysOut w gb mb turn ns ms (.returned (.pointer (some ⟨w.heap.size + 1 + 1, 0, none⟩))) (((w.alloc (.map #[] 0)).alloc (.map #[] 0)).alloc (.cells #[.pointer (some ⟨gb, 0, none⟩), .map (some w.heap.size), .map (some (w.heap.size + 1)), .int .i64 (turn : Int)] 83)) :=
    ⟨_, _, _, rfl, hb2, hW, by omega, by omega, by omega⟩
  replace hres := Lib.hid hres
  clear hW hb1 hb2 hG hlt ht
  go_enter Try.func28, Try.ntmps28
  go_wp2
  go_ret
  exact hres.out
/-- What Width tells. -/
def widR (E : List (List ByteArray)) : Option Nat := if mayR nameB E = true then some (widN (setsR E) 0 (allR E)) else none
def WidthOut (w : World) (E : List (List ByteArray)) (e : Ending) (w' : World) : Prop :=
  Below w.heap.size w w' ∧ e = .returned (match widR E with | some n => .tuple #[.int .i64 ((n : Nat) : Int), .int .i64 0] | none => .tuple #[.int .i64 0, .int .i64 1])
set_option maxRecDepth 100000 in
set_option maxHeartbeats 2000000 in
theorem width_any (w : World) (ao : Option Addr) (cap : Nat) (E : List (List ByteArray)) (hl : E.length ≤ 1048576) (hle : ∀ e ∈ E, e.length ≤ 1048576) (hE : EdgesA w w.heap.size (.slice ao E.length cap) E) :
    Calls Try.prog 12 #[.slice ao E.length cap] w fun e w' => WidthOut w E e w' := by
  have hrd := read_any w ao cap E hl hle hE
  rw [readG_eq] at hrd
  have hwr : widR E = if mayR nameB E = true then some (widN (setsR E) 0 (allR E)) else none := rfl
  cases hm : mayR nameB E with
  | false =>
    rw [hm] at hrd hwr
    replace hrd := Lib.hid hrd
    replace hwr := Lib.hid hwr
    clear hE
    go_enter Try.func12, Try.ntmps12
    go_wp2_with fail
    refine hrd.out.mono ?_
    rintro e w1 ⟨hb, rfl⟩
    replace hb := Lib.hid hb
    go_wp2
    go_ret2
    exact ⟨hb.out, by rw [hwr.out]; rfl⟩
  | true =>
    have hgood := good_of hm
    have hal : allR E = 2 ^ (varsR E).length - 1 := rfl
    rw [hm] at hrd hwr
    simp only [if_true] at hrd hwr
    replace hrd := Lib.hid hrd
    replace hwr := Lib.hid hwr
    clear hE
    go_enter Try.func12, Try.ntmps12
    go_wp2_with fail
    refine hrd.out.mono ?_
    rintro e w1 ⟨hb, gb, mb, rfl, hG, hgb, hmb⟩
    have hwy := Lib.hid (ways_any w1 gb mb _ _ hG 0)
    replace hb := Lib.hid hb
    replace hG := Lib.hid hG
    go_wp2_with fail
    refine hwy.out.mono ?_
    rintro e w2 ⟨wb, kb, lb, rfl, hb2, hW, hwb, hkb, hlb⟩
    have hall := Lib.hid (all_any w2 gb mb _ _ hW.g)
    rw [← hal] at hall
    have h16 := hgood.hall
    have hle := Lib.hid (fun V (h : WM V wb gb mb kb lb (turnOf 0) (varsR E) (setsR E) (fun _ => none) (fun _ => none)) => least_any wb gb mb kb lb (turnOf 0) _ _ (turn_lt 0) (allR E) (allR E) (Nat.le_refl _) h16 V _ _ h (fun x v _ hv => by cases hv))
    have ht0 : turnOf 0 = 0 := rfl
    rw [ht0] at hle hW
    generalize allR E = al at *
    replace hb2 := Lib.hid hb2
    replace hW := Lib.hid hW
    clear hal hgood hwy hG
    go_wp2_with fail
    refine hall.out.mono ?_
    rintro e w3 ⟨rfl, rfl⟩
    go_wp2_with fail
    refine (hle.out _ hW.out).mono ?_
    rintro e w4 ⟨rfl, fw, fl, hA, -⟩
    have hbelow := Lib.hid (show Below w.heap.size w w4 from hb.out.trans ((hb2.out.mono hb.out.size).trans ((hA.keep.under w.heap.size (Nat.le_trans hb.out.size hb2.out.size) (fun x hx => by
      simp only [List.mem_cons, List.not_mem_nil, or_false] at hx
      have := hb.out.size
      rcases hx with rfl | rfl | rfl <;> omega)))))
    clear hA
    go_wp2
    go_ret2
    exact ⟨hbelow.out, by rw [hwr.out]; rfl⟩
end Go.Proofs.Ytnocncmjdhlmkaa.hyp
