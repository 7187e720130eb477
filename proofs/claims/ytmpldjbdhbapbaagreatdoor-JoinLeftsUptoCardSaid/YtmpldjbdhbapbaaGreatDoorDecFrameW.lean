/- What every law on decimals needs beside its walk: from the row's conditions to what the walks ask; from a walk to the row and its card. -/
import Derived.Test.YtmpldjbdhbapbaaGreatDoorDecA
import Derived.Test.YtmpldjbdhbapbaaGreatDoorCards
import Derived.Test.YtmpldjbdhbapbaaGreatDoorTie
import Derived.SizedLaws
import Derived.JoinedCond
import Derived.Lay
import Derived.LaidSub
import Derived.LaidMore
import Derived.MakeChecks
import Derived.Stop.Joined
import Derived.Stop.LaidErr
import Derived.Lib.LaidTab
import Derived.Shelf.Vars
import Derived.HandedShaped
import Derived.SevenTiedAt
import Derived.SliceStrings
set_option linter.unusedVariables false
namespace Go.Proofs.YtmpldjbdhbapbaaGreatDoor.dec
open Go.ChangeShapes Go.WideShapes Go.ChangeAt Go.RowKit kit
def laidList:List (String×DataW Unit):=Rows.joinLeftsRow.laid
theorem env_of{W:World}(h:laidMetH Tryz.prog laidList W)(hs:W.ShapedOpen Tryz.prog):Env W:=by
 refine⟨?_,?_⟩
 ·exact cell_of_shapedOpen_int (P:=Tryz.prog) (g:=0) (t:=3) (zero:=#[.int .i64 0]) hs (of_decide_eq_true (by kernel_rfl)) (by kernel_rfl) rfl (by kernel_rfl) (by kernel_rfl) Tryz.underlying3
 ·have h7:(((begin Tryz.prog (fun _ _=>0) default).world.heap[0]?).bind Obj.row?).isSome=true:=by kernel_rfl
  obtain⟨⟨zero,t⟩,hz⟩:=Option.isSome_iff_exists.1 h7
  obtain⟨cs,hcs,_⟩:=hs.1 0 zero t (of_decide_eq_true (by kernel_rfl)) hz
  have:=(Array.getElem?_eq_some_iff.1 hcs).1
  omega
end Go.Proofs.YtmpldjbdhbapbaaGreatDoor.dec
