/-
  No cell of these rows narrows 'for every input' (looked for: loops, veiled, ifaces, maps, wideKeys, modest, calm, conditions, laid).
  DERIVED. THE GIVEN ROWS OF THIS SEAT. 6 by the template 'for every input the law returns true; each argument reads behind the call as it read before'; 0 by the template 'total and deterministic' (their statements: YtnocncmjdhlmkaaTotals.lean).
  GIVEN WITH THE SEED: the statements are not yours to turn. If you find one false, say at which input.
  Laid BY PROGRAM, IN A SANDBOX (cutbox-rows.mjs): the forced cells as the released guide's own fill.sh prints them over the translation e9a5f48e844a587b… (all of the seat's roots in one cut). By AI agents, Wed Nov 11 2026. No macro, syntax, notation, axiom, sorry.
-/
import Derived.Test.YtnocncmjdhlmkaaChecked
import GoSem.Claim
import GoSem.ClaimJoined
import GoSem.ClaimMapViews
import Derived.JoinedTies
import Derived.KernelRfl
namespace Go.Proofs.Ytnocncmjdhlmkaa
/- THE CELL 'sum', in the pinned program and in every row, IS THE sha256 OF THE DUMP (.gsa) THAT YtnocncmjdhlmkaaProg.lean LOADS. Nothing in Lean hashes anything: it is a label: what it is worth is what the hold of that sum in a sandbox is worth. -/
noncomputable def Try.pinned : Pinned := { name := "ytnocncmjdhlmkaa", sum := "e9a5f48e844a587b4b1d1002f4bbb3a6310bab6c0dad17822bd624b02624559a", checked := Try.checked }
namespace Rows
def none {H : Type} : Left H := { results := [], args := [] }

/-- 'diptychlaw16.HyperWidth': WHATEVER THE INPUT: true; the input reads as it did. -/
def hyperWidthSpec : ChangeSpec := { name := "hyperWidth", fn := fun _ => fun
  | [d] => { results := [.lit (.bool true)], args := [d] }
  | _ => none }
def hyperWidthRow : OpenClaim := { program := "ytnocncmjdhlmkaa", sum := "e9a5f48e844a587b4b1d1002f4bbb3a6310bab6c0dad17822bd624b02624559a", func := "diptych/diptychlaw16.HyperWidth", spec := "hyperWidth", unfollowed := true, recurses := true, apart := false }
def HyperWidthSaid : Prop := hyperWidthRow.holds Try.pinned (OpenSpec.ofChange hyperWidthSpec)

/-- ITS FALSE NEIGHBOUR: 'it returns false'. Refute it at one input. -/
def hyperWidthWrong : ChangeSpec := { name := "hyperWidth", fn := fun _ => fun
  | [d] => { results := [.lit (.bool false)], args := [d] }
  | _ => none }
def HyperWidthWrongFalsely : Prop := hyperWidthRow.holds Try.pinned (OpenSpec.ofChange hyperWidthWrong)

/-- 'diptychlaw16.HyperCheck': WHATEVER THE INPUT: true; the input reads as it did. -/
def hyperCheckSpec : ChangeSpec := { name := "hyperCheck", fn := fun _ => fun
  | [d] => { results := [.lit (.bool true)], args := [d] }
  | _ => none }
def hyperCheckRow : OpenClaim := { program := "ytnocncmjdhlmkaa", sum := "e9a5f48e844a587b4b1d1002f4bbb3a6310bab6c0dad17822bd624b02624559a", func := "diptych/diptychlaw16.HyperCheck", spec := "hyperCheck", unfollowed := true, recurses := true, apart := false }
def HyperCheckSaid : Prop := hyperCheckRow.holds Try.pinned (OpenSpec.ofChange hyperCheckSpec)

/-- ITS FALSE NEIGHBOUR: 'it returns false'. Refute it at one input. -/
def hyperCheckWrong : ChangeSpec := { name := "hyperCheck", fn := fun _ => fun
  | [d] => { results := [.lit (.bool false)], args := [d] }
  | _ => none }
def HyperCheckWrongFalsely : Prop := hyperCheckRow.holds Try.pinned (OpenSpec.ofChange hyperCheckWrong)

/-- 'diptychlaw16.HyperDecomposes': WHATEVER THE INPUT: true; the input reads as it did. -/
def hyperDecomposesSpec : ChangeSpec := { name := "hyperDecomposes", fn := fun _ => fun
  | [d] => { results := [.lit (.bool true)], args := [d] }
  | _ => none }
def hyperDecomposesRow : OpenClaim := { program := "ytnocncmjdhlmkaa", sum := "e9a5f48e844a587b4b1d1002f4bbb3a6310bab6c0dad17822bd624b02624559a", func := "diptych/diptychlaw16.HyperDecomposes", spec := "hyperDecomposes", unfollowed := true, recurses := true, apart := false }
def HyperDecomposesSaid : Prop := hyperDecomposesRow.holds Try.pinned (OpenSpec.ofChange hyperDecomposesSpec)

/-- ITS FALSE NEIGHBOUR: 'it returns false'. Refute it at one input. -/
def hyperDecomposesWrong : ChangeSpec := { name := "hyperDecomposes", fn := fun _ => fun
  | [d] => { results := [.lit (.bool false)], args := [d] }
  | _ => none }
def HyperDecomposesWrongFalsely : Prop := hyperDecomposesRow.holds Try.pinned (OpenSpec.ofChange hyperDecomposesWrong)

/-- 'diptychlaw16.HyperLaws': WHATEVER THE INPUT: true; the input reads as it did. -/
def hyperLawsSpec : ChangeSpec := { name := "hyperLaws", fn := fun _ => fun
  | [d] => { results := [.lit (.bool true)], args := [d] }
  | _ => none }
def hyperLawsRow : OpenClaim := { program := "ytnocncmjdhlmkaa", sum := "e9a5f48e844a587b4b1d1002f4bbb3a6310bab6c0dad17822bd624b02624559a", func := "diptych/diptychlaw16.HyperLaws", spec := "hyperLaws", unfollowed := true, recurses := true, apart := false }
def HyperLawsSaid : Prop := hyperLawsRow.holds Try.pinned (OpenSpec.ofChange hyperLawsSpec)

/-- ITS FALSE NEIGHBOUR: 'it returns false'. Refute it at one input. -/
def hyperLawsWrong : ChangeSpec := { name := "hyperLaws", fn := fun _ => fun
  | [d] => { results := [.lit (.bool false)], args := [d] }
  | _ => none }
def HyperLawsWrongFalsely : Prop := hyperLawsRow.holds Try.pinned (OpenSpec.ofChange hyperLawsWrong)

/-- 'diptychlaw16.HyperSeeds': WHATEVER THE INPUT: true; the input reads as it did. -/
def hyperSeedsSpec : ChangeSpec := { name := "hyperSeeds", fn := fun _ => fun
  | [d] => { results := [.lit (.bool true)], args := [d] }
  | _ => none }
def hyperSeedsRow : OpenClaim := { program := "ytnocncmjdhlmkaa", sum := "e9a5f48e844a587b4b1d1002f4bbb3a6310bab6c0dad17822bd624b02624559a", func := "diptych/diptychlaw16.HyperSeeds", spec := "hyperSeeds", unfollowed := true, recurses := true, apart := false }
def HyperSeedsSaid : Prop := hyperSeedsRow.holds Try.pinned (OpenSpec.ofChange hyperSeedsSpec)

/-- ITS FALSE NEIGHBOUR: 'it returns false'. Refute it at one input. -/
def hyperSeedsWrong : ChangeSpec := { name := "hyperSeeds", fn := fun _ => fun
  | [d] => { results := [.lit (.bool false)], args := [d] }
  | _ => none }
def HyperSeedsWrongFalsely : Prop := hyperSeedsRow.holds Try.pinned (OpenSpec.ofChange hyperSeedsWrong)

/-- 'diptychlaw16.HyperCliques': WHATEVER THE INPUT: true; the input reads as it did. -/
def hyperCliquesSpec : ChangeSpec := { name := "hyperCliques", fn := fun _ => fun
  | [] => { results := [.lit (.bool true)], args := [] }
  | _ => none }
def hyperCliquesRow : OpenClaim := { program := "ytnocncmjdhlmkaa", sum := "e9a5f48e844a587b4b1d1002f4bbb3a6310bab6c0dad17822bd624b02624559a", func := "diptych/diptychlaw16.HyperCliques", spec := "hyperCliques", unfollowed := true, recurses := true, apart := false }
def HyperCliquesSaid : Prop := hyperCliquesRow.holds Try.pinned (OpenSpec.ofChange hyperCliquesSpec)

/-- ITS FALSE NEIGHBOUR: 'it returns false'. Refute it at one input. -/
def hyperCliquesWrong : ChangeSpec := { name := "hyperCliques", fn := fun _ => fun
  | [] => { results := [.lit (.bool false)], args := [] }
  | _ => none }
def HyperCliquesWrongFalsely : Prop := hyperCliquesRow.holds Try.pinned (OpenSpec.ofChange hyperCliquesWrong)

/- THE SECOND FORM. 'bulk': how many values and letters a reading holds, each counted each time it is reached (what is shared counts as often as it is met; a slice's spare places count too). A statement '..UptoSaid' is the law's where the arguments, and the package variables that the reading takes, are together of bulk at most 1048576: NARROWER than '..Said'. Prove '..Said' where nothing that the law and all that it calls make is longer than what came in: it says more and counts as full. Else prove '..UptoSaid'. A law counts once. -/
mutual
def uptoBulk {H : Type} : DataW H → Nat
  | .lit (.string bytes) => bytes.length + 1
  | .lit _ => 1
  | .nil => 1
  | .ptr d => uptoBulk d + 1
  | .slice elems spare => uptoBulkAll elems + uptoBulkAll spare + 1
  | .agg parts => uptoBulkAll parts + 1
  | .iface _ d => uptoBulk d + 1
  | .map entries => uptoBulkEntries entries + 1
  | .held _ => 1
def uptoBulkAll {H : Type} : List (DataW H) → Nat
  | [] => 0
  | d :: r => uptoBulk d + uptoBulkAll r
def uptoBulkEntries {H : Type} : List (Lit × DataW H) → Nat
  | [] => 0
  | x :: r => uptoBulkEntry x + uptoBulkEntries r
def uptoBulkEntry {H : Type} : Lit × DataW H → Nat
  | (.string bytes, d) => bytes.length + uptoBulk d + 1
  | (_, d) => uptoBulk d + 1
 end
def uptoSmall : (H : Type) → List (DataW H) → Bool := fun _ ds => decide (uptoBulkAll ds ≤ 1048576)
def OpenSpec.upto (s : _root_.Go.ChangeSpec) : _root_.Go.OpenSpec := { _root_.Go.OpenSpec.ofChange s with cond := some uptoSmall }

/-- 'diptychlaw16.HyperWidth', WHERE WHAT IT READS IS OF BULK AT MOST 1048576: true; the input reads as it did. -/
def hyperWidthUptoRow : OpenClaim := { program := "ytnocncmjdhlmkaa", sum := "e9a5f48e844a587b4b1d1002f4bbb3a6310bab6c0dad17822bd624b02624559a", func := "diptych/diptychlaw16.HyperWidth", spec := "hyperWidth", unfollowed := true, recurses := true, apart := false, narrowed := true }
def HyperWidthUptoSaid : Prop := hyperWidthUptoRow.holds Try.pinned (OpenSpec.upto hyperWidthSpec)

/-- 'diptychlaw16.HyperCheck', WHERE WHAT IT READS IS OF BULK AT MOST 1048576: true; the input reads as it did. -/
def hyperCheckUptoRow : OpenClaim := { program := "ytnocncmjdhlmkaa", sum := "e9a5f48e844a587b4b1d1002f4bbb3a6310bab6c0dad17822bd624b02624559a", func := "diptych/diptychlaw16.HyperCheck", spec := "hyperCheck", unfollowed := true, recurses := true, apart := false, narrowed := true }
def HyperCheckUptoSaid : Prop := hyperCheckUptoRow.holds Try.pinned (OpenSpec.upto hyperCheckSpec)

/-- 'diptychlaw16.HyperDecomposes', WHERE WHAT IT READS IS OF BULK AT MOST 1048576: true; the input reads as it did. -/
def hyperDecomposesUptoRow : OpenClaim := { program := "ytnocncmjdhlmkaa", sum := "e9a5f48e844a587b4b1d1002f4bbb3a6310bab6c0dad17822bd624b02624559a", func := "diptych/diptychlaw16.HyperDecomposes", spec := "hyperDecomposes", unfollowed := true, recurses := true, apart := false, narrowed := true }
def HyperDecomposesUptoSaid : Prop := hyperDecomposesUptoRow.holds Try.pinned (OpenSpec.upto hyperDecomposesSpec)

/-- 'diptychlaw16.HyperLaws', WHERE WHAT IT READS IS OF BULK AT MOST 1048576: true; the input reads as it did. -/
def hyperLawsUptoRow : OpenClaim := { program := "ytnocncmjdhlmkaa", sum := "e9a5f48e844a587b4b1d1002f4bbb3a6310bab6c0dad17822bd624b02624559a", func := "diptych/diptychlaw16.HyperLaws", spec := "hyperLaws", unfollowed := true, recurses := true, apart := false, narrowed := true }
def HyperLawsUptoSaid : Prop := hyperLawsUptoRow.holds Try.pinned (OpenSpec.upto hyperLawsSpec)

/-- 'diptychlaw16.HyperSeeds', WHERE WHAT IT READS IS OF BULK AT MOST 1048576: true; the input reads as it did. -/
def hyperSeedsUptoRow : OpenClaim := { program := "ytnocncmjdhlmkaa", sum := "e9a5f48e844a587b4b1d1002f4bbb3a6310bab6c0dad17822bd624b02624559a", func := "diptych/diptychlaw16.HyperSeeds", spec := "hyperSeeds", unfollowed := true, recurses := true, apart := false, narrowed := true }
def HyperSeedsUptoSaid : Prop := hyperSeedsUptoRow.holds Try.pinned (OpenSpec.upto hyperSeedsSpec)

/-- 'diptychlaw16.HyperCliques', WHERE WHAT IT READS IS OF BULK AT MOST 1048576: true; the input reads as it did. -/
def hyperCliquesUptoRow : OpenClaim := { program := "ytnocncmjdhlmkaa", sum := "e9a5f48e844a587b4b1d1002f4bbb3a6310bab6c0dad17822bd624b02624559a", func := "diptych/diptychlaw16.HyperCliques", spec := "hyperCliques", unfollowed := true, recurses := true, apart := false, narrowed := true }
def HyperCliquesUptoSaid : Prop := hyperCliquesUptoRow.holds Try.pinned (OpenSpec.upto hyperCliquesSpec)

end Rows
end Go.Proofs.Ytnocncmjdhlmkaa
