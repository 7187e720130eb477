/- What every law on decimals needs beside its walk: from the row's conditions to what the walks ask; from a walk to the row and its card. -/
import Derived.Test.YtidplkfhodpdhaaGreatDoorDecEnvD
import Derived.Test.YtidplkfhodpdhaaGreatDoorCards
import Derived.Test.YtidplkfhodpdhaaGreatDoorTie
import Derived.SizedLaws
import Derived.JoinedCond
import Derived.Lay
import Derived.LaidSub
import Derived.LaidMore
import Derived.MakeChecks
import Derived.Stop.Joined
import Derived.Stop.LaidErr
import Derived.Lib.LaidTab
import Derived.Shelf.Vars
import Derived.HandedShaped
import Derived.SevenTiedAt
import Derived.SliceStrings
namespace Go.Proofs.YtidplkfhodpdhaaGreatDoor.dec
open Go.ChangeShapes Go.WideShapes Go.ChangeAt Go.RowKit kit
set_option linter.unusedVariables false
def laidList : List (String × DataW Unit) := Rows.rowsFitsRow.laid
theorem pick1 {W : World} (h : laidMetH Tryz.prog laidList W) (n : String) (d : DataW Unit) (hf : laidList.filter (fun x => x.1 == n) = [(n, d)]) (hp : ([(n, d)].all fun x => x.2.handleName?.isNone) = true) : laidMet Tryz.prog [(n, d)] W := by
 have h1 := h.filter (fun x => x.1 == n)
 rw [hf, MakeChecks.laidMetH_plain _ _ _ hp] at h1
 exact h1
theorem star : "*" ++ "errors.errorString" = "*errors.errorString" := by decide
theorem rowErr (u : TypeId) (h : Tryz.prog.typeName? 3 u = some "*errors.errorString") : u = 278 :=
 typeName_ptr_named (nm := "errors.errorString") (by rw [star]; kernel_rfl) (by kernel_rfl) (by decide) u (by rw [star]; exact h)
theorem env_of {W : World} (h : laidMetH Tryz.prog laidList W) (hs : W.ShapedOpen Tryz.prog) : EnvD W := by
 have hsz : 8 ≤ W.heap.size ∧ 1 + 1 ≤ W.heap.size := by
  have h7 : (((begin Tryz.prog (fun _ _ => 0) default).world.heap[7]?).bind Obj.row?).isSome = true := by kernel_rfl
  obtain ⟨⟨zero, t⟩, hz⟩ := Option.isSome_iff_exists.1 h7
  obtain ⟨cs, hcs, _⟩ := hs.1 7 zero t (of_decide_eq_true (by kernel_rfl)) hz
  have := (Array.getElem?_eq_some_iff.1 hcs).1
  omega
 refine ⟨⟨?_, hsz.2⟩, hsz.1, ?_, ?_, ?_⟩
 ·exact cell_of_shapedOpen_int (P := Tryz.prog) (g := 1) (t := 3) (zero := #[.int .i64 0]) hs (of_decide_eq_true (by kernel_rfl)) (by kernel_rfl) rfl (by kernel_rfl) (by kernel_rfl) Tryz.underlying3
 ·exact Lib.tabIs_of_head (P := Tryz.prog) (g := 0) (t := 251) (e := 157) (n := 20) (rest := []) (by kernel_rfl) (by kernel_rfl) Tryz.underlying251 Tryz.underlying157 (by kernel_rfl) (by kernel_rfl)
   (pick1 h "internal/strconv.uint64pow10" (Lib.tabData .u64 Lib.pow10Tab) (by kernel_rfl) (by kernel_rfl))
 ·obtain ⟨a, s, hv, _⟩ := laid_sentinel (P := Tryz.prog) (r := []) (pick1 h "strconv.ErrSyntax" Rows.laid_strconv_ErrSyntax (by kernel_rfl) (by kernel_rfl)) (g := 2) (ti := 220) (tp := 278) (te := 280) (ts := 9) (by kernel_rfl) (by kernel_rfl) Tryz.underlying220 rowErr Tryz.underlying278 Tryz.underlying280 rfl rfl Tryz.underlying9 (by kernel_rfl) (by kernel_rfl)
  exact ⟨_, _, hv⟩
 ·obtain ⟨a, s, hv, _⟩ := laid_sentinel (P := Tryz.prog) (r := []) (pick1 h "strconv.ErrRange" Rows.laid_strconv_ErrRange (by kernel_rfl) (by kernel_rfl)) (g := 3) (ti := 220) (tp := 278) (te := 280) (ts := 9) (by kernel_rfl) (by kernel_rfl) Tryz.underlying220 rowErr Tryz.underlying278 Tryz.underlying280 rfl rfl Tryz.underlying9 (by kernel_rfl) (by kernel_rfl)
  exact ⟨_, _, hv⟩
end Go.Proofs.YtidplkfhodpdhaaGreatDoor.dec
