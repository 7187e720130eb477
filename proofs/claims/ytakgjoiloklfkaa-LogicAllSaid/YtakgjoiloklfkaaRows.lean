/-
  No cell of these rows narrows 'for every input' (looked for: loops, veiled, ifaces, maps, wideKeys, modest, calm, conditions, laid).
  DERIVED. THE GIVEN ROWS OF THIS SEAT. 3 by the template 'for every input the law returns true; each argument reads behind the call as it read before'; 0 by the template 'total and deterministic' (their statements: YtakgjoiloklfkaaTotals.lean).
  GIVEN WITH THE SEED: the statements are not yours to turn. If you find one false, say at which input.
  Laid BY PROGRAM, IN A SANDBOX (cutbox-rows.mjs): the forced cells as the released guide's own fill.sh prints them over the translation 8592cd2caa59f878… (all of the seat's roots in one cut). By AI agents, Wed Nov 11 2026. No macro, syntax, notation, axiom, sorry.
-/
import Derived.Test.YtakgjoiloklfkaaChecked
import GoSem.Claim
import GoSem.ClaimJoined
import GoSem.ClaimMapViews
import Derived.JoinedTies
import Derived.KernelRfl
namespace Go.Proofs.Ytakgjoiloklfkaa
/- THE CELL 'sum', in the pinned program and in every row, IS THE sha256 OF THE DUMP (.gsa) THAT YtakgjoiloklfkaaProg.lean LOADS. Nothing in Lean hashes anything: it is a label: what it is worth is what the hold of that sum in a sandbox is worth. -/
noncomputable def Try.pinned : Pinned := { name := "ytakgjoiloklfkaa", sum := "8592cd2caa59f87872795571fe7e43f96279300c705725573ca9a70c3ce4a12d", checked := Try.checked }
namespace Rows
def none {H : Type} : Left H := { results := [], args := [] }

/-- 'diptychlaw3.LogicTables': WHATEVER THE INPUT: true; the input reads as it did. -/
def logicTablesSpec : ChangeSpec := { name := "logicTables", fn := fun _ => fun
  | [d] => { results := [.lit (.bool true)], args := [d] }
  | _ => none }
def logicTablesRow : OpenClaim := { program := "ytakgjoiloklfkaa", sum := "8592cd2caa59f87872795571fe7e43f96279300c705725573ca9a70c3ce4a12d", func := "diptych/diptychlaw3.LogicTables", spec := "logicTables", apart := false }
def LogicTablesSaid : Prop := logicTablesRow.holds Try.pinned (OpenSpec.ofChange logicTablesSpec)

/-- ITS FALSE NEIGHBOUR: 'it returns false'. Refute it at one input. -/
def logicTablesWrong : ChangeSpec := { name := "logicTables", fn := fun _ => fun
  | [d] => { results := [.lit (.bool false)], args := [d] }
  | _ => none }
def LogicTablesWrongFalsely : Prop := logicTablesRow.holds Try.pinned (OpenSpec.ofChange logicTablesWrong)

/-- 'diptychlaw3.LogicLaws': WHATEVER THE INPUT: true; the input reads as it did. -/
def logicLawsSpec : ChangeSpec := { name := "logicLaws", fn := fun _ => fun
  | [] => { results := [.lit (.bool true)], args := [] }
  | _ => none }
def logicLawsRow : OpenClaim := { program := "ytakgjoiloklfkaa", sum := "8592cd2caa59f87872795571fe7e43f96279300c705725573ca9a70c3ce4a12d", func := "diptych/diptychlaw3.LogicLaws", spec := "logicLaws", apart := false }
def LogicLawsSaid : Prop := logicLawsRow.holds Try.pinned (OpenSpec.ofChange logicLawsSpec)

/-- ITS FALSE NEIGHBOUR: 'it returns false'. Refute it at one input. -/
def logicLawsWrong : ChangeSpec := { name := "logicLaws", fn := fun _ => fun
  | [] => { results := [.lit (.bool false)], args := [] }
  | _ => none }
def LogicLawsWrongFalsely : Prop := logicLawsRow.holds Try.pinned (OpenSpec.ofChange logicLawsWrong)

/-- 'diptychlaw3.LogicAll': WHATEVER THE INPUT: true; the input reads as it did. -/
def logicAllSpec : ChangeSpec := { name := "logicAll", fn := fun _ => fun
  | [d] => { results := [.lit (.bool true)], args := [d] }
  | _ => none }
def logicAllRow : OpenClaim := { program := "ytakgjoiloklfkaa", sum := "8592cd2caa59f87872795571fe7e43f96279300c705725573ca9a70c3ce4a12d", func := "diptych/diptychlaw3.LogicAll", spec := "logicAll", unfollowed := true, recurses := true, apart := false }
def LogicAllSaid : Prop := logicAllRow.holds Try.pinned (OpenSpec.ofChange logicAllSpec)

/-- ITS FALSE NEIGHBOUR: 'it returns false'. Refute it at one input. -/
def logicAllWrong : ChangeSpec := { name := "logicAll", fn := fun _ => fun
  | [d] => { results := [.lit (.bool false)], args := [d] }
  | _ => none }
def LogicAllWrongFalsely : Prop := logicAllRow.holds Try.pinned (OpenSpec.ofChange logicAllWrong)

/- THE SECOND FORM. 'bulk': how many values and letters a reading holds, each counted each time it is reached (what is shared counts as often as it is met; a slice's spare places count too). A statement '..UptoSaid' is the law's where the arguments, and the package variables that the reading takes, are together of bulk at most 1048576: NARROWER than '..Said'. Prove '..Said' where nothing that the law and all that it calls make is longer than what came in: it says more and counts as full. Else prove '..UptoSaid'. A law counts once. -/
mutual
def uptoBulk {H : Type} : DataW H → Nat
  | .lit (.string bytes) => bytes.length + 1
  | .lit _ => 1
  | .nil => 1
  | .ptr d => uptoBulk d + 1
  | .slice elems spare => uptoBulkAll elems + uptoBulkAll spare + 1
  | .agg parts => uptoBulkAll parts + 1
  | .iface _ d => uptoBulk d + 1
  | .map entries => uptoBulkEntries entries + 1
  | .held _ => 1
def uptoBulkAll {H : Type} : List (DataW H) → Nat
  | [] => 0
  | d :: r => uptoBulk d + uptoBulkAll r
def uptoBulkEntries {H : Type} : List (Lit × DataW H) → Nat
  | [] => 0
  | x :: r => uptoBulkEntry x + uptoBulkEntries r
def uptoBulkEntry {H : Type} : Lit × DataW H → Nat
  | (.string bytes, d) => bytes.length + uptoBulk d + 1
  | (_, d) => uptoBulk d + 1
 end
def uptoSmall : (H : Type) → List (DataW H) → Bool := fun _ ds => decide (uptoBulkAll ds ≤ 1048576)
def OpenSpec.upto (s : _root_.Go.ChangeSpec) : _root_.Go.OpenSpec := { _root_.Go.OpenSpec.ofChange s with cond := some uptoSmall }

/-- 'diptychlaw3.LogicTables', WHERE WHAT IT READS IS OF BULK AT MOST 1048576: true; the input reads as it did. -/
def logicTablesUptoRow : OpenClaim := { program := "ytakgjoiloklfkaa", sum := "8592cd2caa59f87872795571fe7e43f96279300c705725573ca9a70c3ce4a12d", func := "diptych/diptychlaw3.LogicTables", spec := "logicTables", apart := false, narrowed := true }
def LogicTablesUptoSaid : Prop := logicTablesUptoRow.holds Try.pinned (OpenSpec.upto logicTablesSpec)

/-- 'diptychlaw3.LogicLaws', WHERE WHAT IT READS IS OF BULK AT MOST 1048576: true; the input reads as it did. -/
def logicLawsUptoRow : OpenClaim := { program := "ytakgjoiloklfkaa", sum := "8592cd2caa59f87872795571fe7e43f96279300c705725573ca9a70c3ce4a12d", func := "diptych/diptychlaw3.LogicLaws", spec := "logicLaws", apart := false, narrowed := true }
def LogicLawsUptoSaid : Prop := logicLawsUptoRow.holds Try.pinned (OpenSpec.upto logicLawsSpec)

/-- 'diptychlaw3.LogicAll', WHERE WHAT IT READS IS OF BULK AT MOST 1048576: true; the input reads as it did. -/
def logicAllUptoRow : OpenClaim := { program := "ytakgjoiloklfkaa", sum := "8592cd2caa59f87872795571fe7e43f96279300c705725573ca9a70c3ce4a12d", func := "diptych/diptychlaw3.LogicAll", spec := "logicAll", unfollowed := true, recurses := true, apart := false, narrowed := true }
def LogicAllUptoSaid : Prop := logicAllUptoRow.holds Try.pinned (OpenSpec.upto logicAllSpec)

end Rows
end Go.Proofs.Ytakgjoiloklfkaa
