/-
  No cell of these rows narrows 'for every input' (looked for: loops, veiled, ifaces, maps, wideKeys, modest, calm, conditions, laid).
  DERIVED. THE GIVEN ROWS OF THIS SEAT. 4 by the template 'for every input the law returns true; each argument reads behind the call as it read before'; 0 by the template 'total and deterministic' (their statements: YtaaealkgbklmeaaTotals.lean).
  GIVEN WITH THE SEED: the statements are not yours to turn. If you find one false, say at which input.
  Laid BY PROGRAM, IN A SANDBOX (cutbox-rows.mjs): the forced cells as the released guide's own fill.sh prints them over the translation 5dbc53629c253377… (all of the seat's roots in one cut). By AI agents, Wed Nov 11 2026. No macro, syntax, notation, axiom, sorry.
-/
import Derived.Test.YtaaealkgbklmeaaChecked
import GoSem.Claim
import GoSem.ClaimJoined
import GoSem.ClaimMapViews
import Derived.JoinedTies
import Derived.KernelRfl
namespace Go.Proofs.Ytaaealkgbklmeaa
/- THE CELL 'sum', in the pinned program and in every row, IS THE sha256 OF THE DUMP (.gsa) THAT YtaaealkgbklmeaaProg.lean LOADS. Nothing in Lean hashes anything: it is a label: what it is worth is what the hold of that sum in a sandbox is worth. -/
noncomputable def Try.pinned : Pinned := { name := "ytaaealkgbklmeaa", sum := "5dbc53629c253377f50668e5004c3122edb099704a765ec057bb6538850cece1", checked := Try.checked }
namespace Rows
def none {H : Type} : Left H := { results := [], args := [] }

/-- 'compositorlaw21.TreeNumbersGrow': WHATEVER THE INPUT: true; the input reads as it did. -/
def treeNumbersGrowSpec : ChangeSpec := { name := "treeNumbersGrow", fn := fun _ => fun
  | [d] => { results := [.lit (.bool true)], args := [d] }
  | _ => none }
def treeNumbersGrowRow : OpenClaim := { program := "ytaaealkgbklmeaa", sum := "5dbc53629c253377f50668e5004c3122edb099704a765ec057bb6538850cece1", func := "compositor/compositorlaw21.TreeNumbersGrow", spec := "treeNumbersGrow", unfollowed := true, recurses := true, apart := false }
def TreeNumbersGrowSaid : Prop := treeNumbersGrowRow.holds Try.pinned (OpenSpec.ofChange treeNumbersGrowSpec)

/-- ITS FALSE NEIGHBOUR: 'it returns false'. Refute it at one input. -/
def treeNumbersGrowWrong : ChangeSpec := { name := "treeNumbersGrow", fn := fun _ => fun
  | [d] => { results := [.lit (.bool false)], args := [d] }
  | _ => none }
def TreeNumbersGrowWrongFalsely : Prop := treeNumbersGrowRow.holds Try.pinned (OpenSpec.ofChange treeNumbersGrowWrong)

/-- 'compositorlaw21.TreeRoundTrip': WHATEVER THE INPUT: true; the input reads as it did. -/
def treeRoundTripSpec : ChangeSpec := { name := "treeRoundTrip", fn := fun _ => fun
  | [d] => { results := [.lit (.bool true)], args := [d] }
  | _ => none }
def treeRoundTripRow : OpenClaim := { program := "ytaaealkgbklmeaa", sum := "5dbc53629c253377f50668e5004c3122edb099704a765ec057bb6538850cece1", func := "compositor/compositorlaw21.TreeRoundTrip", spec := "treeRoundTrip", unfollowed := true, recurses := true, apart := false }
def TreeRoundTripSaid : Prop := treeRoundTripRow.holds Try.pinned (OpenSpec.ofChange treeRoundTripSpec)

/-- ITS FALSE NEIGHBOUR: 'it returns false'. Refute it at one input. -/
def treeRoundTripWrong : ChangeSpec := { name := "treeRoundTrip", fn := fun _ => fun
  | [d] => { results := [.lit (.bool false)], args := [d] }
  | _ => none }
def TreeRoundTripWrongFalsely : Prop := treeRoundTripRow.holds Try.pinned (OpenSpec.ofChange treeRoundTripWrong)

/-- 'compositorlaw21.TreeBuildAgrees': WHATEVER THE INPUT: true; the input reads as it did. -/
def treeBuildAgreesSpec : ChangeSpec := { name := "treeBuildAgrees", fn := fun _ => fun
  | [d1, d2] => { results := [.lit (.bool true)], args := [d1, d2] }
  | _ => none }
def treeBuildAgreesRow : OpenClaim := { program := "ytaaealkgbklmeaa", sum := "5dbc53629c253377f50668e5004c3122edb099704a765ec057bb6538850cece1", func := "compositor/compositorlaw21.TreeBuildAgrees", spec := "treeBuildAgrees", unfollowed := true, recurses := true, apart := false }
def TreeBuildAgreesSaid : Prop := treeBuildAgreesRow.holds Try.pinned (OpenSpec.ofChange treeBuildAgreesSpec)

/-- ITS FALSE NEIGHBOUR: 'it returns false'. Refute it at one input. -/
def treeBuildAgreesWrong : ChangeSpec := { name := "treeBuildAgrees", fn := fun _ => fun
  | [d1, d2] => { results := [.lit (.bool false)], args := [d1, d2] }
  | _ => none }
def TreeBuildAgreesWrongFalsely : Prop := treeBuildAgreesRow.holds Try.pinned (OpenSpec.ofChange treeBuildAgreesWrong)

/-- 'compositorlaw21.TreeEndsNest': WHATEVER THE INPUT: true; the input reads as it did. -/
def treeEndsNestSpec : ChangeSpec := { name := "treeEndsNest", fn := fun _ => fun
  | [d1, d2, d3] => { results := [.lit (.bool true)], args := [d1, d2, d3] }
  | _ => none }
def treeEndsNestRow : OpenClaim := { program := "ytaaealkgbklmeaa", sum := "5dbc53629c253377f50668e5004c3122edb099704a765ec057bb6538850cece1", func := "compositor/compositorlaw21.TreeEndsNest", spec := "treeEndsNest", unfollowed := true, recurses := true, apart := false }
def TreeEndsNestSaid : Prop := treeEndsNestRow.holds Try.pinned (OpenSpec.ofChange treeEndsNestSpec)

/-- ITS FALSE NEIGHBOUR: 'it returns false'. Refute it at one input. -/
def treeEndsNestWrong : ChangeSpec := { name := "treeEndsNest", fn := fun _ => fun
  | [d1, d2, d3] => { results := [.lit (.bool false)], args := [d1, d2, d3] }
  | _ => none }
def TreeEndsNestWrongFalsely : Prop := treeEndsNestRow.holds Try.pinned (OpenSpec.ofChange treeEndsNestWrong)

/- THE SECOND FORM. 'bulk': how many values and letters a reading holds, each counted each time it is reached (what is shared counts as often as it is met; a slice's spare places count too). A statement '..UptoSaid' is the law's where the arguments, and the package variables that the reading takes, are together of bulk at most 1048576: NARROWER than '..Said'. Prove '..Said' where nothing that the law and all that it calls make is longer than what came in: it says more and counts as full. Else prove '..UptoSaid'. A law counts once. -/
mutual
def uptoBulk {H : Type} : DataW H → Nat
  | .lit (.string bytes) => bytes.length + 1
  | .lit _ => 1
  | .nil => 1
  | .ptr d => uptoBulk d + 1
  | .slice elems spare => uptoBulkAll elems + uptoBulkAll spare + 1
  | .agg parts => uptoBulkAll parts + 1
  | .iface _ d => uptoBulk d + 1
  | .map entries => uptoBulkEntries entries + 1
  | .held _ => 1
def uptoBulkAll {H : Type} : List (DataW H) → Nat
  | [] => 0
  | d :: r => uptoBulk d + uptoBulkAll r
def uptoBulkEntries {H : Type} : List (Lit × DataW H) → Nat
  | [] => 0
  | x :: r => uptoBulkEntry x + uptoBulkEntries r
def uptoBulkEntry {H : Type} : Lit × DataW H → Nat
  | (.string bytes, d) => bytes.length + uptoBulk d + 1
  | (_, d) => uptoBulk d + 1
 end
def uptoSmall : (H : Type) → List (DataW H) → Bool := fun _ ds => decide (uptoBulkAll ds ≤ 1048576)
def OpenSpec.upto (s : _root_.Go.ChangeSpec) : _root_.Go.OpenSpec := { _root_.Go.OpenSpec.ofChange s with cond := some uptoSmall }

/-- 'compositorlaw21.TreeNumbersGrow', WHERE WHAT IT READS IS OF BULK AT MOST 1048576: true; the input reads as it did. -/
def treeNumbersGrowUptoRow : OpenClaim := { program := "ytaaealkgbklmeaa", sum := "5dbc53629c253377f50668e5004c3122edb099704a765ec057bb6538850cece1", func := "compositor/compositorlaw21.TreeNumbersGrow", spec := "treeNumbersGrow", unfollowed := true, recurses := true, apart := false, narrowed := true }
def TreeNumbersGrowUptoSaid : Prop := treeNumbersGrowUptoRow.holds Try.pinned (OpenSpec.upto treeNumbersGrowSpec)

/-- 'compositorlaw21.TreeRoundTrip', WHERE WHAT IT READS IS OF BULK AT MOST 1048576: true; the input reads as it did. -/
def treeRoundTripUptoRow : OpenClaim := { program := "ytaaealkgbklmeaa", sum := "5dbc53629c253377f50668e5004c3122edb099704a765ec057bb6538850cece1", func := "compositor/compositorlaw21.TreeRoundTrip", spec := "treeRoundTrip", unfollowed := true, recurses := true, apart := false, narrowed := true }
def TreeRoundTripUptoSaid : Prop := treeRoundTripUptoRow.holds Try.pinned (OpenSpec.upto treeRoundTripSpec)

/-- 'compositorlaw21.TreeBuildAgrees', WHERE WHAT IT READS IS OF BULK AT MOST 1048576: true; the input reads as it did. -/
def treeBuildAgreesUptoRow : OpenClaim := { program := "ytaaealkgbklmeaa", sum := "5dbc53629c253377f50668e5004c3122edb099704a765ec057bb6538850cece1", func := "compositor/compositorlaw21.TreeBuildAgrees", spec := "treeBuildAgrees", unfollowed := true, recurses := true, apart := false, narrowed := true }
def TreeBuildAgreesUptoSaid : Prop := treeBuildAgreesUptoRow.holds Try.pinned (OpenSpec.upto treeBuildAgreesSpec)

/-- 'compositorlaw21.TreeEndsNest', WHERE WHAT IT READS IS OF BULK AT MOST 1048576: true; the input reads as it did. -/
def treeEndsNestUptoRow : OpenClaim := { program := "ytaaealkgbklmeaa", sum := "5dbc53629c253377f50668e5004c3122edb099704a765ec057bb6538850cece1", func := "compositor/compositorlaw21.TreeEndsNest", spec := "treeEndsNest", unfollowed := true, recurses := true, apart := false, narrowed := true }
def TreeEndsNestUptoSaid : Prop := treeEndsNestUptoRow.holds Try.pinned (OpenSpec.upto treeEndsNestSpec)

end Rows
end Go.Proofs.Ytaaealkgbklmeaa
