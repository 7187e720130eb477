/- Contracts of package join for tables that may be. -/
import Derived.Test.YtmpldjbdhbapbaaGreatDoorJnD
set_option linter.unusedSimpArgs false
set_option linter.unusedVariables false
namespace Go.Proofs.YtmpldjbdhbapbaaGreatDoor.tab
open Go.ChangeShapes Go.WideShapes Go.ChangeAt Go.RowKit kit dec val
open hyp (RowA TextsA CellsStay stay_of_below textsV textsV_length own_row)
theorem prod_small{a b:Nat}(ha:a≤1000)(hb:b≤1000):a * b≤1048576:=Nat.le_trans (Nat.mul_le_mul ha hb) (by decide)
section
variable(w:World)(hE:Env w)(va vb:Value)(A B:Tab)(hA:TabA w 1048576 va A)(hB:TabA w 1048576 vb B)(ma:mayT A=true)(mb:mayT B=true)(ra:A.rows.length≤1000)(rb:B.rows.length≤1000)(kA:∀r∈A.rows,wtL r≤1100000)(kB:∀r∈B.rows,wtL r≤1100000)
include hE hA hB ma mb ra rb kA kB
theorem jhash_may:Calls Tryz.prog 7 #[va,vb] w fun e w'=>∃v,e=.returned v∧TabO w w' 1048576 v (joinT A B):=by
 have h1:=(names_parts (may_rows ma).1).1
 have h2:=(names_parts (may_rows mb).1).1
 have h:=jhash_any 1048576 (by omega) w hE va vb A B hA hB (by omega) (by omega) (by omega) (by omega) (by omega) (prod_small ra rb) kA kB
 have e:joinZ A B=joinT A B:=by unfold joinZ;rw[ma,mb];simp
 rwa [e]at h
theorem janti_may:Calls Tryz.prog 12 #[va,vb] w fun e w'=>∃v,e=.returned v∧TabO w w' 1048576 v (someT A B false false):=by
 have h1:=(names_parts (may_rows ma).1).1
 have h2:=(names_parts (may_rows mb).1).1
 have h:=janti_any 1048576 (by omega) w hE va vb A B hA hB (by omega) (by omega) (by omega) (by omega) (by omega) kA kB
 have e:someZ A B false false=someT A B false false:=by unfold someZ;rw[ma,mb];simp
 rwa [e]at h
end
end Go.Proofs.YtmpldjbdhbapbaaGreatDoor.tab
