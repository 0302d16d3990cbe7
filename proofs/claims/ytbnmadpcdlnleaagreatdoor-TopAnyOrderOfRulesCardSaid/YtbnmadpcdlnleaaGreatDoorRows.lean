/-
  NARROWER THAN 'FOR EVERY INPUT', by the rows' own cells (each row's printed sentence says how): TopTilesTogether: laid · TopOneStepIsHalfAUnit: laid · TopTraceExplains: laid · TopAnyOrderOfRules: laid.
  DERIVED. THE GIVEN ROWS OF THIS SEAT. 4 by the template 'for every input the law returns true; each argument reads behind the call as it read before'; 0 by the template 'total and deterministic' (their statements: YtbnmadpcdlnleaaGreatDoorTotals.lean).
  GIVEN WITH THE SEED: the statements are not yours to turn. If you find one false, say at which input.
  Laid BY PROGRAM, IN A SANDBOX (cutbox-rows.mjs): the forced cells as the released guide's own fill.sh prints them over the translation e89b952e2ef27d6b… (all of the seat's roots in one cut). By AI agents, Wed Nov 11 2026. No macro, syntax, notation, axiom, sorry.
-/
import Derived.Test.YtbnmadpcdlnleaaGreatDoorChecked
import GoSem.Claim
import GoSem.ClaimJoined
import GoSem.ClaimMapViews
import Derived.JoinedTies
import Derived.KernelRfl
namespace Go.Proofs.YtbnmadpcdlnleaaGreatDoor
/- THE CELL 'sum', in the pinned program and in every row, IS THE sha256 OF THE DUMP (.gsa) THAT YtbnmadpcdlnleaaGreatDoorProg.lean LOADS. Nothing in Lean hashes anything: it is a label: what it is worth is what the hold of that sum in a sandbox is worth. -/
noncomputable def Tryz.pinned : Pinned := { name := "ytbnmadpcdlnleaagreatdoor", sum := "e89b952e2ef27d6b1114f5088c1b748144c5e527db6725f9cf1061fdab559191", checked := Tryz.checked }
namespace Rows
def none {H : Type} : Left H := { results := [], args := [] }

/- WHAT THE LISTED PACKAGE-LEVEL VARIABLES READ AS WHEN THE CALL BEGINS. Each datum BY PROGRAM (the guide's laid-datum.mjs) off the statement by which the dump's own 'gosem.cut.vars' lays the variable. In a bare row this is a premise. The card (YtbnmadpcdlnleaaGreatDoorCards.lean) ties it to the program's text. -/
def laid_compositor_operator_rules {H : Type} : DataW H := .agg [.agg [.lit (.string []), .lit (.int .i64 0), .lit (.int .i64 0), .lit (.int .i64 0)], .agg [.lit (.string [99, 108, 101, 97, 114]), .lit (.int .i64 0), .lit (.int .i64 0), .lit (.int .i64 0)], .agg [.lit (.string [115, 114, 99]), .lit (.int .i64 1), .lit (.int .i64 0), .lit (.int .i64 1)], .agg [.lit (.string [100, 115, 116]), .lit (.int .i64 0), .lit (.int .i64 1), .lit (.int .i64 2)], .agg [.lit (.string [115, 114, 99, 45, 111, 118, 101, 114]), .lit (.int .i64 1), .lit (.int .i64 3), .lit (.int .i64 3)], .agg [.lit (.string [100, 115, 116, 45, 111, 118, 101, 114]), .lit (.int .i64 3), .lit (.int .i64 1), .lit (.int .i64 3)], .agg [.lit (.string [115, 114, 99, 45, 105, 110]), .lit (.int .i64 2), .lit (.int .i64 0), .lit (.int .i64 4)], .agg [.lit (.string [100, 115, 116, 45, 105, 110]), .lit (.int .i64 0), .lit (.int .i64 2), .lit (.int .i64 4)], .agg [.lit (.string [115, 114, 99, 45, 111, 117, 116]), .lit (.int .i64 3), .lit (.int .i64 0), .lit (.int .i64 1)], .agg [.lit (.string [100, 115, 116, 45, 111, 117, 116]), .lit (.int .i64 0), .lit (.int .i64 3), .lit (.int .i64 2)], .agg [.lit (.string [115, 114, 99, 45, 97, 116, 111, 112]), .lit (.int .i64 2), .lit (.int .i64 3), .lit (.int .i64 2)], .agg [.lit (.string [100, 115, 116, 45, 97, 116, 111, 112]), .lit (.int .i64 3), .lit (.int .i64 2), .lit (.int .i64 1)], .agg [.lit (.string [120, 111, 114]), .lit (.int .i64 3), .lit (.int .i64 3), .lit (.int .i64 3)]]
def laid_compositor_blend_names {H : Type} : DataW H := .agg [.lit (.string []), .lit (.string [110, 111, 114, 109, 97, 108]), .lit (.string [109, 117, 108, 116, 105, 112, 108, 121]), .lit (.string [115, 99, 114, 101, 101, 110]), .lit (.string [111, 118, 101, 114, 108, 97, 121]), .lit (.string [100, 97, 114, 107, 101, 110]), .lit (.string [108, 105, 103, 104, 116, 101, 110]), .lit (.string [99, 111, 108, 111, 114, 45, 100, 111, 100, 103, 101]), .lit (.string [99, 111, 108, 111, 114, 45, 98, 117, 114, 110]), .lit (.string [104, 97, 114, 100, 45, 108, 105, 103, 104, 116]), .lit (.string [115, 111, 102, 116, 45, 108, 105, 103, 104, 116]), .lit (.string [100, 105, 102, 102, 101, 114, 101, 110, 99, 101]), .lit (.string [101, 120, 99, 108, 117, 115, 105, 111, 110])]
def laid_compositor_bound_constants {H : Type} : DataW H := .agg [.agg [.lit (.int .i64 0), .lit (.int .i64 0)], .agg [.lit (.int .i64 2), .lit (.int .i64 1)], .agg [.lit (.int .i64 2), .lit (.int .i64 2)], .agg [.lit (.int .i64 1), .lit (.int .i64 1)], .agg [.lit (.int .i64 2), .lit (.int .i64 3)], .agg [.lit (.int .i64 2), .lit (.int .i64 2)], .agg [.lit (.int .i64 2), .lit (.int .i64 2)], .agg [.lit (.int .i64 0), .lit (.int .i64 0)], .agg [.lit (.int .i64 0), .lit (.int .i64 0)], .agg [.lit (.int .i64 3), .lit (.int .i64 2)], .agg [.lit (.int .i64 2), .lit (.int .i64 6)], .agg [.lit (.int .i64 3), .lit (.int .i64 3)], .agg [.lit (.int .i64 1), .lit (.int .i64 1)]]

/-- 'compositortop.TopTilesTogether': WHATEVER THE INPUT: true; the input reads as it did. -/
def topTilesTogetherSpec : ChangeSpec := { name := "topTilesTogether", fn := fun _ => fun
  | [d] => { results := [.lit (.bool true)], args := [d] }
  | _ => none }
def topTilesTogetherRow : OpenClaim := { program := "ytbnmadpcdlnleaagreatdoor", sum := "e89b952e2ef27d6b1114f5088c1b748144c5e527db6725f9cf1061fdab559191", func := "compositor/compositortop.TopTilesTogether", spec := "topTilesTogether", inPlace := ["math/bits.Add64", "math/bits.Sub64"], unfollowed := true, recurses := true, named := ["compositor/operator.rules", "compositor/blend.names", "math/bits.divideError", "math/bits.overflowError"], apart := false, laid := [("compositor/operator.rules", laid_compositor_operator_rules), ("compositor/blend.names", laid_compositor_blend_names)] }
def TopTilesTogetherSaid : Prop := topTilesTogetherRow.holds Tryz.pinned (OpenSpec.ofChange topTilesTogetherSpec)

/-- ITS FALSE NEIGHBOUR: 'it returns false'. Refute it at one input. -/
def topTilesTogetherWrong : ChangeSpec := { name := "topTilesTogether", fn := fun _ => fun
  | [d] => { results := [.lit (.bool false)], args := [d] }
  | _ => none }
def TopTilesTogetherWrongFalsely : Prop := topTilesTogetherRow.holds Tryz.pinned (OpenSpec.ofChange topTilesTogetherWrong)

/-- 'compositortop.TopOneStepIsHalfAUnit': WHATEVER THE INPUT: true; the input reads as it did. -/
def topOneStepIsHalfAUnitSpec : ChangeSpec := { name := "topOneStepIsHalfAUnit", fn := fun _ => fun
  | [d1, d2, d3, d4] => { results := [.lit (.bool true)], args := [d1, d2, d3, d4] }
  | _ => none }
def topOneStepIsHalfAUnitRow : OpenClaim := { program := "ytbnmadpcdlnleaagreatdoor", sum := "e89b952e2ef27d6b1114f5088c1b748144c5e527db6725f9cf1061fdab559191", func := "compositor/compositortop.TopOneStepIsHalfAUnit", spec := "topOneStepIsHalfAUnit", inPlace := ["math/bits.Add64", "math/bits.Sub64"], unfollowed := true, recurses := true, named := ["compositor/operator.rules", "compositor/blend.names", "compositor/bound.constants", "math/bits.divideError", "math/bits.overflowError"], apart := false, laid := [("compositor/operator.rules", laid_compositor_operator_rules), ("compositor/blend.names", laid_compositor_blend_names), ("compositor/bound.constants", laid_compositor_bound_constants)] }
def TopOneStepIsHalfAUnitSaid : Prop := topOneStepIsHalfAUnitRow.holds Tryz.pinned (OpenSpec.ofChange topOneStepIsHalfAUnitSpec)

/-- ITS FALSE NEIGHBOUR: 'it returns false'. Refute it at one input. -/
def topOneStepIsHalfAUnitWrong : ChangeSpec := { name := "topOneStepIsHalfAUnit", fn := fun _ => fun
  | [d1, d2, d3, d4] => { results := [.lit (.bool false)], args := [d1, d2, d3, d4] }
  | _ => none }
def TopOneStepIsHalfAUnitWrongFalsely : Prop := topOneStepIsHalfAUnitRow.holds Tryz.pinned (OpenSpec.ofChange topOneStepIsHalfAUnitWrong)

/-- 'compositortop.TopTraceExplains': WHATEVER THE INPUT: true; the input reads as it did. -/
def topTraceExplainsSpec : ChangeSpec := { name := "topTraceExplains", fn := fun _ => fun
  | [d1, d2, d3] => { results := [.lit (.bool true)], args := [d1, d2, d3] }
  | _ => none }
def topTraceExplainsRow : OpenClaim := { program := "ytbnmadpcdlnleaagreatdoor", sum := "e89b952e2ef27d6b1114f5088c1b748144c5e527db6725f9cf1061fdab559191", func := "compositor/compositortop.TopTraceExplains", spec := "topTraceExplains", inPlace := ["math/bits.Add64", "math/bits.Sub64"], unfollowed := true, recurses := true, named := ["compositor/operator.rules", "compositor/blend.names", "math/bits.divideError", "math/bits.overflowError"], apart := false, laid := [("compositor/operator.rules", laid_compositor_operator_rules), ("compositor/blend.names", laid_compositor_blend_names)] }
def TopTraceExplainsSaid : Prop := topTraceExplainsRow.holds Tryz.pinned (OpenSpec.ofChange topTraceExplainsSpec)

/-- ITS FALSE NEIGHBOUR: 'it returns false'. Refute it at one input. -/
def topTraceExplainsWrong : ChangeSpec := { name := "topTraceExplains", fn := fun _ => fun
  | [d1, d2, d3] => { results := [.lit (.bool false)], args := [d1, d2, d3] }
  | _ => none }
def TopTraceExplainsWrongFalsely : Prop := topTraceExplainsRow.holds Tryz.pinned (OpenSpec.ofChange topTraceExplainsWrong)

/-- 'compositortop.TopAnyOrderOfRules': WHATEVER THE INPUT: true; the input reads as it did. -/
def topAnyOrderOfRulesSpec : ChangeSpec := { name := "topAnyOrderOfRules", fn := fun _ => fun
  | [d1, d2, d3] => { results := [.lit (.bool true)], args := [d1, d2, d3] }
  | _ => none }
def topAnyOrderOfRulesRow : OpenClaim := { program := "ytbnmadpcdlnleaagreatdoor", sum := "e89b952e2ef27d6b1114f5088c1b748144c5e527db6725f9cf1061fdab559191", func := "compositor/compositortop.TopAnyOrderOfRules", spec := "topAnyOrderOfRules", inPlace := ["math/bits.Add64", "math/bits.Sub64"], unfollowed := true, recurses := true, named := ["compositor/operator.rules", "compositor/blend.names", "math/bits.divideError", "math/bits.overflowError"], apart := false, laid := [("compositor/operator.rules", laid_compositor_operator_rules), ("compositor/blend.names", laid_compositor_blend_names)] }
def TopAnyOrderOfRulesSaid : Prop := topAnyOrderOfRulesRow.holds Tryz.pinned (OpenSpec.ofChange topAnyOrderOfRulesSpec)

/-- ITS FALSE NEIGHBOUR: 'it returns false'. Refute it at one input. -/
def topAnyOrderOfRulesWrong : ChangeSpec := { name := "topAnyOrderOfRules", fn := fun _ => fun
  | [d1, d2, d3] => { results := [.lit (.bool false)], args := [d1, d2, d3] }
  | _ => none }
def TopAnyOrderOfRulesWrongFalsely : Prop := topAnyOrderOfRulesRow.holds Tryz.pinned (OpenSpec.ofChange topAnyOrderOfRulesWrong)

/- THE SECOND FORM. 'bulk': how many values and letters a reading holds, each counted each time it is reached (what is shared counts as often as it is met; a slice's spare places count too). A statement '..UptoSaid' is the law's where the arguments, and the package variables that the reading takes, are together of bulk at most 1048576: NARROWER than '..Said'. Prove '..Said' where nothing that the law and all that it calls make is longer than what came in: it says more and counts as full. Else prove '..UptoSaid'. A law counts once. -/
mutual
def uptoBulk {H : Type} : DataW H → Nat
  | .lit (.string bytes) => bytes.length + 1
  | .lit _ => 1
  | .nil => 1
  | .ptr d => uptoBulk d + 1
  | .slice elems spare => uptoBulkAll elems + uptoBulkAll spare + 1
  | .agg parts => uptoBulkAll parts + 1
  | .iface _ d => uptoBulk d + 1
  | .map entries => uptoBulkEntries entries + 1
  | .held _ => 1
def uptoBulkAll {H : Type} : List (DataW H) → Nat
  | [] => 0
  | d :: r => uptoBulk d + uptoBulkAll r
def uptoBulkEntries {H : Type} : List (Lit × DataW H) → Nat
  | [] => 0
  | x :: r => uptoBulkEntry x + uptoBulkEntries r
def uptoBulkEntry {H : Type} : Lit × DataW H → Nat
  | (.string bytes, d) => bytes.length + uptoBulk d + 1
  | (_, d) => uptoBulk d + 1
 end
def uptoSmall : (H : Type) → List (DataW H) → Bool := fun _ ds => decide (uptoBulkAll ds ≤ 1048576)
def OpenSpec.upto (s : _root_.Go.ChangeSpec) : _root_.Go.OpenSpec := { _root_.Go.OpenSpec.ofChange s with cond := some uptoSmall }

/-- 'compositortop.TopTilesTogether', WHERE WHAT IT READS IS OF BULK AT MOST 1048576: true; the input reads as it did. -/
def topTilesTogetherUptoRow : OpenClaim := { program := "ytbnmadpcdlnleaagreatdoor", sum := "e89b952e2ef27d6b1114f5088c1b748144c5e527db6725f9cf1061fdab559191", func := "compositor/compositortop.TopTilesTogether", spec := "topTilesTogether", inPlace := ["math/bits.Add64", "math/bits.Sub64"], unfollowed := true, recurses := true, named := ["compositor/operator.rules", "compositor/blend.names", "math/bits.divideError", "math/bits.overflowError"], apart := false, laid := [("compositor/operator.rules", laid_compositor_operator_rules), ("compositor/blend.names", laid_compositor_blend_names)], narrowed := true }
def TopTilesTogetherUptoSaid : Prop := topTilesTogetherUptoRow.holds Tryz.pinned (OpenSpec.upto topTilesTogetherSpec)

/-- 'compositortop.TopOneStepIsHalfAUnit', WHERE WHAT IT READS IS OF BULK AT MOST 1048576: true; the input reads as it did. -/
def topOneStepIsHalfAUnitUptoRow : OpenClaim := { program := "ytbnmadpcdlnleaagreatdoor", sum := "e89b952e2ef27d6b1114f5088c1b748144c5e527db6725f9cf1061fdab559191", func := "compositor/compositortop.TopOneStepIsHalfAUnit", spec := "topOneStepIsHalfAUnit", inPlace := ["math/bits.Add64", "math/bits.Sub64"], unfollowed := true, recurses := true, named := ["compositor/operator.rules", "compositor/blend.names", "compositor/bound.constants", "math/bits.divideError", "math/bits.overflowError"], apart := false, laid := [("compositor/operator.rules", laid_compositor_operator_rules), ("compositor/blend.names", laid_compositor_blend_names), ("compositor/bound.constants", laid_compositor_bound_constants)], narrowed := true }
def TopOneStepIsHalfAUnitUptoSaid : Prop := topOneStepIsHalfAUnitUptoRow.holds Tryz.pinned (OpenSpec.upto topOneStepIsHalfAUnitSpec)

/-- 'compositortop.TopTraceExplains', WHERE WHAT IT READS IS OF BULK AT MOST 1048576: true; the input reads as it did. -/
def topTraceExplainsUptoRow : OpenClaim := { program := "ytbnmadpcdlnleaagreatdoor", sum := "e89b952e2ef27d6b1114f5088c1b748144c5e527db6725f9cf1061fdab559191", func := "compositor/compositortop.TopTraceExplains", spec := "topTraceExplains", inPlace := ["math/bits.Add64", "math/bits.Sub64"], unfollowed := true, recurses := true, named := ["compositor/operator.rules", "compositor/blend.names", "math/bits.divideError", "math/bits.overflowError"], apart := false, laid := [("compositor/operator.rules", laid_compositor_operator_rules), ("compositor/blend.names", laid_compositor_blend_names)], narrowed := true }
def TopTraceExplainsUptoSaid : Prop := topTraceExplainsUptoRow.holds Tryz.pinned (OpenSpec.upto topTraceExplainsSpec)

/-- 'compositortop.TopAnyOrderOfRules', WHERE WHAT IT READS IS OF BULK AT MOST 1048576: true; the input reads as it did. -/
def topAnyOrderOfRulesUptoRow : OpenClaim := { program := "ytbnmadpcdlnleaagreatdoor", sum := "e89b952e2ef27d6b1114f5088c1b748144c5e527db6725f9cf1061fdab559191", func := "compositor/compositortop.TopAnyOrderOfRules", spec := "topAnyOrderOfRules", inPlace := ["math/bits.Add64", "math/bits.Sub64"], unfollowed := true, recurses := true, named := ["compositor/operator.rules", "compositor/blend.names", "math/bits.divideError", "math/bits.overflowError"], apart := false, laid := [("compositor/operator.rules", laid_compositor_operator_rules), ("compositor/blend.names", laid_compositor_blend_names)], narrowed := true }
def TopAnyOrderOfRulesUptoSaid : Prop := topAnyOrderOfRulesUptoRow.holds Tryz.pinned (OpenSpec.upto topAnyOrderOfRulesSpec)

end Rows
end Go.Proofs.YtbnmadpcdlnleaaGreatDoor
