/-
  NARROWER THAN 'FOR EVERY INPUT', by the rows' own cells (each row's printed sentence says how): TextFormatAgrees: laid · TextFormatRejects: laid · TextRoundTrip: laid · TextParseAgrees: laid · TextParseOfDamage: laid · TextReportsTheLine: laid.
  DERIVED. THE GIVEN ROWS OF THIS SEAT. 6 by the template 'for every input the law returns true; each argument reads behind the call as it read before'; 0 by the template 'total and deterministic' (their statements: YtheidkkebdhmkaaGreatDoorTotals.lean).
  GIVEN WITH THE SEED: the statements are not yours to turn. If you find one false, say at which input.
  Laid BY PROGRAM, IN A SANDBOX (cutbox-rows.mjs): the forced cells as the released guide's own fill.sh prints them over the translation d5e457bea40a70b4… (all of the seat's roots in one cut). By AI agents, Wed Nov 11 2026. No macro, syntax, notation, axiom, sorry.
-/
import Derived.Test.YtheidkkebdhmkaaGreatDoorChecked
import GoSem.PinnedTables
import GoSem.Claim
import GoSem.ClaimJoined
import GoSem.ClaimMapViews
import Derived.JoinedTies
import Derived.KernelRfl
namespace Go.Proofs.YtheidkkebdhmkaaGreatDoor
/- THE CELL 'sum', in the pinned program and in every row, IS THE sha256 OF THE DUMP (.gsa) THAT YtheidkkebdhmkaaGreatDoorProg.lean LOADS. Nothing in Lean hashes anything: it is a label: what it is worth is what the hold of that sum in a sandbox is worth. -/
noncomputable def Tryz.pinned : Pinned := { name := "ytheidkkebdhmkaagreatdoor", sum := "d5e457bea40a70b4fc2319140197a4ea4e3d4b97197b41bf39e11d8e2f2e556e", checked := Tryz.checked }
namespace Rows
def none {H : Type} : Left H := { results := [], args := [] }

/- WHAT THE LISTED PACKAGE-LEVEL VARIABLES READ AS WHEN THE CALL BEGINS. Each datum BY PROGRAM (the guide's laid-datum.mjs) off the statement by which the dump's own 'gosem.cut.vars' lays the variable. In a bare row this is a premise. The card (YtheidkkebdhmkaaGreatDoorCards.lean) ties it to the program's text. -/
def laid_math_bits_deBruijn32tab {H : Type} : DataW H := .agg [.lit (.int .u8 0), .lit (.int .u8 1), .lit (.int .u8 28), .lit (.int .u8 2), .lit (.int .u8 29), .lit (.int .u8 14), .lit (.int .u8 24), .lit (.int .u8 3), .lit (.int .u8 30), .lit (.int .u8 22), .lit (.int .u8 20), .lit (.int .u8 15), .lit (.int .u8 25), .lit (.int .u8 17), .lit (.int .u8 4), .lit (.int .u8 8), .lit (.int .u8 31), .lit (.int .u8 27), .lit (.int .u8 13), .lit (.int .u8 23), .lit (.int .u8 21), .lit (.int .u8 19), .lit (.int .u8 16), .lit (.int .u8 7), .lit (.int .u8 26), .lit (.int .u8 12), .lit (.int .u8 18), .lit (.int .u8 6), .lit (.int .u8 11), .lit (.int .u8 5), .lit (.int .u8 10), .lit (.int .u8 9)]
def laid_math_bits_deBruijn64tab {H : Type} : DataW H := .agg [.lit (.int .u8 0), .lit (.int .u8 1), .lit (.int .u8 56), .lit (.int .u8 2), .lit (.int .u8 57), .lit (.int .u8 49), .lit (.int .u8 28), .lit (.int .u8 3), .lit (.int .u8 61), .lit (.int .u8 58), .lit (.int .u8 42), .lit (.int .u8 50), .lit (.int .u8 38), .lit (.int .u8 29), .lit (.int .u8 17), .lit (.int .u8 4), .lit (.int .u8 62), .lit (.int .u8 47), .lit (.int .u8 59), .lit (.int .u8 36), .lit (.int .u8 45), .lit (.int .u8 43), .lit (.int .u8 51), .lit (.int .u8 22), .lit (.int .u8 53), .lit (.int .u8 39), .lit (.int .u8 33), .lit (.int .u8 30), .lit (.int .u8 24), .lit (.int .u8 18), .lit (.int .u8 12), .lit (.int .u8 5), .lit (.int .u8 63), .lit (.int .u8 55), .lit (.int .u8 48), .lit (.int .u8 27), .lit (.int .u8 60), .lit (.int .u8 41), .lit (.int .u8 37), .lit (.int .u8 16), .lit (.int .u8 46), .lit (.int .u8 35), .lit (.int .u8 44), .lit (.int .u8 21), .lit (.int .u8 52), .lit (.int .u8 32), .lit (.int .u8 23), .lit (.int .u8 11), .lit (.int .u8 54), .lit (.int .u8 26), .lit (.int .u8 40), .lit (.int .u8 15), .lit (.int .u8 34), .lit (.int .u8 20), .lit (.int .u8 31), .lit (.int .u8 10), .lit (.int .u8 25), .lit (.int .u8 14), .lit (.int .u8 19), .lit (.int .u8 9), .lit (.int .u8 13), .lit (.int .u8 8), .lit (.int .u8 7), .lit (.int .u8 6)]
def laid_compositor_operator_rules {H : Type} : DataW H := .agg [.agg [.lit (.string []), .lit (.int .i64 0), .lit (.int .i64 0), .lit (.int .i64 0)], .agg [.lit (.string [99, 108, 101, 97, 114]), .lit (.int .i64 0), .lit (.int .i64 0), .lit (.int .i64 0)], .agg [.lit (.string [115, 114, 99]), .lit (.int .i64 1), .lit (.int .i64 0), .lit (.int .i64 1)], .agg [.lit (.string [100, 115, 116]), .lit (.int .i64 0), .lit (.int .i64 1), .lit (.int .i64 2)], .agg [.lit (.string [115, 114, 99, 45, 111, 118, 101, 114]), .lit (.int .i64 1), .lit (.int .i64 3), .lit (.int .i64 3)], .agg [.lit (.string [100, 115, 116, 45, 111, 118, 101, 114]), .lit (.int .i64 3), .lit (.int .i64 1), .lit (.int .i64 3)], .agg [.lit (.string [115, 114, 99, 45, 105, 110]), .lit (.int .i64 2), .lit (.int .i64 0), .lit (.int .i64 4)], .agg [.lit (.string [100, 115, 116, 45, 105, 110]), .lit (.int .i64 0), .lit (.int .i64 2), .lit (.int .i64 4)], .agg [.lit (.string [115, 114, 99, 45, 111, 117, 116]), .lit (.int .i64 3), .lit (.int .i64 0), .lit (.int .i64 1)], .agg [.lit (.string [100, 115, 116, 45, 111, 117, 116]), .lit (.int .i64 0), .lit (.int .i64 3), .lit (.int .i64 2)], .agg [.lit (.string [115, 114, 99, 45, 97, 116, 111, 112]), .lit (.int .i64 2), .lit (.int .i64 3), .lit (.int .i64 2)], .agg [.lit (.string [100, 115, 116, 45, 97, 116, 111, 112]), .lit (.int .i64 3), .lit (.int .i64 2), .lit (.int .i64 1)], .agg [.lit (.string [120, 111, 114]), .lit (.int .i64 3), .lit (.int .i64 3), .lit (.int .i64 3)]]
def laid_compositor_blend_names {H : Type} : DataW H := .agg [.lit (.string []), .lit (.string [110, 111, 114, 109, 97, 108]), .lit (.string [109, 117, 108, 116, 105, 112, 108, 121]), .lit (.string [115, 99, 114, 101, 101, 110]), .lit (.string [111, 118, 101, 114, 108, 97, 121]), .lit (.string [100, 97, 114, 107, 101, 110]), .lit (.string [108, 105, 103, 104, 116, 101, 110]), .lit (.string [99, 111, 108, 111, 114, 45, 100, 111, 100, 103, 101]), .lit (.string [99, 111, 108, 111, 114, 45, 98, 117, 114, 110]), .lit (.string [104, 97, 114, 100, 45, 108, 105, 103, 104, 116]), .lit (.string [115, 111, 102, 116, 45, 108, 105, 103, 104, 116]), .lit (.string [100, 105, 102, 102, 101, 114, 101, 110, 99, 101]), .lit (.string [101, 120, 99, 108, 117, 115, 105, 111, 110])]
def laid_internal_strconv_uint64pow10 {H : Type} : DataW H := .agg [.lit (.int .u64 1), .lit (.int .u64 10), .lit (.int .u64 100), .lit (.int .u64 1000), .lit (.int .u64 10000), .lit (.int .u64 100000), .lit (.int .u64 1000000), .lit (.int .u64 10000000), .lit (.int .u64 100000000), .lit (.int .u64 1000000000), .lit (.int .u64 10000000000), .lit (.int .u64 100000000000), .lit (.int .u64 1000000000000), .lit (.int .u64 10000000000000), .lit (.int .u64 100000000000000), .lit (.int .u64 1000000000000000), .lit (.int .u64 10000000000000000), .lit (.int .u64 100000000000000000), .lit (.int .u64 1000000000000000000), .lit (.int .u64 10000000000000000000)]
def laid_unicode_utf8_acceptRanges {H : Type} : DataW H := .agg [.agg [.lit (.int .u8 128), .lit (.int .u8 191)], .agg [.lit (.int .u8 160), .lit (.int .u8 191)], .agg [.lit (.int .u8 128), .lit (.int .u8 159)], .agg [.lit (.int .u8 144), .lit (.int .u8 191)], .agg [.lit (.int .u8 128), .lit (.int .u8 143)], .agg [.lit (.int .u8 0), .lit (.int .u8 0)], .agg [.lit (.int .u8 0), .lit (.int .u8 0)], .agg [.lit (.int .u8 0), .lit (.int .u8 0)], .agg [.lit (.int .u8 0), .lit (.int .u8 0)], .agg [.lit (.int .u8 0), .lit (.int .u8 0)], .agg [.lit (.int .u8 0), .lit (.int .u8 0)], .agg [.lit (.int .u8 0), .lit (.int .u8 0)], .agg [.lit (.int .u8 0), .lit (.int .u8 0)], .agg [.lit (.int .u8 0), .lit (.int .u8 0)], .agg [.lit (.int .u8 0), .lit (.int .u8 0)], .agg [.lit (.int .u8 0), .lit (.int .u8 0)]]
def laid_strconv_ErrRange {H : Type} : DataW H := .iface "*errors.errorString" (.ptr (.agg [.lit (.string [118, 97, 108, 117, 101, 32, 111, 117, 116, 32, 111, 102, 32, 114, 97, 110, 103, 101])]))
def laid_strconv_ErrSyntax {H : Type} : DataW H := .iface "*errors.errorString" (.ptr (.agg [.lit (.string [105, 110, 118, 97, 108, 105, 100, 32, 115, 121, 110, 116, 97, 120])]))
/-- One of Go's own tables, pinned by name: the form's constant. -/
def laid_unicode_utf8_first : DataW Unit := Go.Pinned.utf8First

/-- 'compositorlaw19.TextFormatAgrees': WHATEVER THE INPUT: true; the input reads as it did. -/
def textFormatAgreesSpec : ChangeSpec := { name := "textFormatAgrees", fn := fun _ => fun
  | [d1, d2] => { results := [.lit (.bool true)], args := [d1, d2] }
  | _ => none }
def textFormatAgreesRow : OpenClaim := { program := "ytheidkkebdhmkaagreatdoor", sum := "d5e457bea40a70b4fc2319140197a4ea4e3d4b97197b41bf39e11d8e2f2e556e", func := "compositor/compositorlaw19.TextFormatAgrees", spec := "textFormatAgrees", inPlace := ["internal/abi.NoEscape", "internal/bytealg.IndexByteString", "internal/bytealg.IndexString", "internal/bytealg.CountString"], unfollowed := true, recurses := true, named := ["compositor/operator.rules", "compositor/blend.names", "internal/strconv.uint64pow10", "math/bits.deBruijn32tab", "math/bits.deBruijn64tab", "internal/bytealg.MaxLen", "unicode/utf8.first", "unicode/utf8.acceptRanges", "strconv.ErrSyntax", "strconv.ErrRange"], apart := false, laid := [("math/bits.deBruijn32tab", laid_math_bits_deBruijn32tab), ("math/bits.deBruijn64tab", laid_math_bits_deBruijn64tab), ("compositor/operator.rules", laid_compositor_operator_rules), ("compositor/blend.names", laid_compositor_blend_names), ("internal/strconv.uint64pow10", laid_internal_strconv_uint64pow10), ("unicode/utf8.acceptRanges", laid_unicode_utf8_acceptRanges), ("strconv.ErrRange", laid_strconv_ErrRange), ("strconv.ErrSyntax", laid_strconv_ErrSyntax), ("unicode/utf8.first", laid_unicode_utf8_first)] }
def TextFormatAgreesSaid : Prop := textFormatAgreesRow.holds Tryz.pinned (OpenSpec.ofChange textFormatAgreesSpec)

/-- ITS FALSE NEIGHBOUR: 'it returns false'. Refute it at one input. -/
def textFormatAgreesWrong : ChangeSpec := { name := "textFormatAgrees", fn := fun _ => fun
  | [d1, d2] => { results := [.lit (.bool false)], args := [d1, d2] }
  | _ => none }
def TextFormatAgreesWrongFalsely : Prop := textFormatAgreesRow.holds Tryz.pinned (OpenSpec.ofChange textFormatAgreesWrong)

/-- 'compositorlaw19.TextFormatRejects': WHATEVER THE INPUT: true; the input reads as it did. -/
def textFormatRejectsSpec : ChangeSpec := { name := "textFormatRejects", fn := fun _ => fun
  | [d1, d2, d3, d4] => { results := [.lit (.bool true)], args := [d1, d2, d3, d4] }
  | _ => none }
def textFormatRejectsRow : OpenClaim := { program := "ytheidkkebdhmkaagreatdoor", sum := "d5e457bea40a70b4fc2319140197a4ea4e3d4b97197b41bf39e11d8e2f2e556e", func := "compositor/compositorlaw19.TextFormatRejects", spec := "textFormatRejects", inPlace := ["internal/abi.NoEscape", "internal/bytealg.IndexByteString", "internal/bytealg.IndexString", "internal/bytealg.CountString"], unfollowed := true, recurses := true, named := ["compositor/operator.rules", "compositor/blend.names", "internal/strconv.uint64pow10", "math/bits.deBruijn32tab", "math/bits.deBruijn64tab", "internal/bytealg.MaxLen", "unicode/utf8.first", "unicode/utf8.acceptRanges", "strconv.ErrSyntax", "strconv.ErrRange"], apart := false, laid := [("math/bits.deBruijn32tab", laid_math_bits_deBruijn32tab), ("math/bits.deBruijn64tab", laid_math_bits_deBruijn64tab), ("compositor/operator.rules", laid_compositor_operator_rules), ("compositor/blend.names", laid_compositor_blend_names), ("internal/strconv.uint64pow10", laid_internal_strconv_uint64pow10), ("unicode/utf8.acceptRanges", laid_unicode_utf8_acceptRanges), ("strconv.ErrRange", laid_strconv_ErrRange), ("strconv.ErrSyntax", laid_strconv_ErrSyntax), ("unicode/utf8.first", laid_unicode_utf8_first)] }
def TextFormatRejectsSaid : Prop := textFormatRejectsRow.holds Tryz.pinned (OpenSpec.ofChange textFormatRejectsSpec)

/-- ITS FALSE NEIGHBOUR: 'it returns false'. Refute it at one input. -/
def textFormatRejectsWrong : ChangeSpec := { name := "textFormatRejects", fn := fun _ => fun
  | [d1, d2, d3, d4] => { results := [.lit (.bool false)], args := [d1, d2, d3, d4] }
  | _ => none }
def TextFormatRejectsWrongFalsely : Prop := textFormatRejectsRow.holds Tryz.pinned (OpenSpec.ofChange textFormatRejectsWrong)

/-- 'compositorlaw19.TextRoundTrip': WHATEVER THE INPUT: true; the input reads as it did. -/
def textRoundTripSpec : ChangeSpec := { name := "textRoundTrip", fn := fun _ => fun
  | [d] => { results := [.lit (.bool true)], args := [d] }
  | _ => none }
def textRoundTripRow : OpenClaim := { program := "ytheidkkebdhmkaagreatdoor", sum := "d5e457bea40a70b4fc2319140197a4ea4e3d4b97197b41bf39e11d8e2f2e556e", func := "compositor/compositorlaw19.TextRoundTrip", spec := "textRoundTrip", inPlace := ["internal/abi.NoEscape", "internal/bytealg.IndexByteString", "internal/bytealg.IndexString", "internal/bytealg.CountString"], unfollowed := true, recurses := true, named := ["compositor/operator.rules", "compositor/blend.names", "internal/strconv.uint64pow10", "math/bits.deBruijn32tab", "math/bits.deBruijn64tab", "internal/bytealg.MaxLen", "unicode/utf8.first", "unicode/utf8.acceptRanges", "strconv.ErrSyntax", "strconv.ErrRange"], apart := false, laid := [("math/bits.deBruijn32tab", laid_math_bits_deBruijn32tab), ("math/bits.deBruijn64tab", laid_math_bits_deBruijn64tab), ("compositor/operator.rules", laid_compositor_operator_rules), ("compositor/blend.names", laid_compositor_blend_names), ("internal/strconv.uint64pow10", laid_internal_strconv_uint64pow10), ("unicode/utf8.acceptRanges", laid_unicode_utf8_acceptRanges), ("strconv.ErrRange", laid_strconv_ErrRange), ("strconv.ErrSyntax", laid_strconv_ErrSyntax), ("unicode/utf8.first", laid_unicode_utf8_first)] }
def TextRoundTripSaid : Prop := textRoundTripRow.holds Tryz.pinned (OpenSpec.ofChange textRoundTripSpec)

/-- ITS FALSE NEIGHBOUR: 'it returns false'. Refute it at one input. -/
def textRoundTripWrong : ChangeSpec := { name := "textRoundTrip", fn := fun _ => fun
  | [d] => { results := [.lit (.bool false)], args := [d] }
  | _ => none }
def TextRoundTripWrongFalsely : Prop := textRoundTripRow.holds Tryz.pinned (OpenSpec.ofChange textRoundTripWrong)

/-- 'compositorlaw19.TextParseAgrees': WHATEVER THE INPUT: true; the input reads as it did. -/
def textParseAgreesSpec : ChangeSpec := { name := "textParseAgrees", fn := fun _ => fun
  | [d] => { results := [.lit (.bool true)], args := [d] }
  | _ => none }
def textParseAgreesRow : OpenClaim := { program := "ytheidkkebdhmkaagreatdoor", sum := "d5e457bea40a70b4fc2319140197a4ea4e3d4b97197b41bf39e11d8e2f2e556e", func := "compositor/compositorlaw19.TextParseAgrees", spec := "textParseAgrees", inPlace := ["internal/bytealg.IndexByteString", "internal/bytealg.IndexString", "internal/bytealg.CountString", "internal/abi.NoEscape"], unfollowed := true, recurses := true, named := ["internal/bytealg.MaxLen", "unicode/utf8.first", "unicode/utf8.acceptRanges", "strconv.ErrSyntax", "strconv.ErrRange", "internal/strconv.uint64pow10", "math/bits.deBruijn32tab", "math/bits.deBruijn64tab", "compositor/operator.rules", "compositor/blend.names"], apart := false, laid := [("math/bits.deBruijn32tab", laid_math_bits_deBruijn32tab), ("math/bits.deBruijn64tab", laid_math_bits_deBruijn64tab), ("compositor/operator.rules", laid_compositor_operator_rules), ("compositor/blend.names", laid_compositor_blend_names), ("internal/strconv.uint64pow10", laid_internal_strconv_uint64pow10), ("unicode/utf8.acceptRanges", laid_unicode_utf8_acceptRanges), ("strconv.ErrRange", laid_strconv_ErrRange), ("strconv.ErrSyntax", laid_strconv_ErrSyntax), ("unicode/utf8.first", laid_unicode_utf8_first)] }
def TextParseAgreesSaid : Prop := textParseAgreesRow.holds Tryz.pinned (OpenSpec.ofChange textParseAgreesSpec)

/-- ITS FALSE NEIGHBOUR: 'it returns false'. Refute it at one input. -/
def textParseAgreesWrong : ChangeSpec := { name := "textParseAgrees", fn := fun _ => fun
  | [d] => { results := [.lit (.bool false)], args := [d] }
  | _ => none }
def TextParseAgreesWrongFalsely : Prop := textParseAgreesRow.holds Tryz.pinned (OpenSpec.ofChange textParseAgreesWrong)

/-- 'compositorlaw19.TextParseOfDamage': WHATEVER THE INPUT: true; the input reads as it did. -/
def textParseOfDamageSpec : ChangeSpec := { name := "textParseOfDamage", fn := fun _ => fun
  | [d1, d2, d3, d4, d5] => { results := [.lit (.bool true)], args := [d1, d2, d3, d4, d5] }
  | _ => none }
def textParseOfDamageRow : OpenClaim := { program := "ytheidkkebdhmkaagreatdoor", sum := "d5e457bea40a70b4fc2319140197a4ea4e3d4b97197b41bf39e11d8e2f2e556e", func := "compositor/compositorlaw19.TextParseOfDamage", spec := "textParseOfDamage", inPlace := ["internal/bytealg.IndexByteString", "internal/bytealg.IndexString", "internal/bytealg.CountString", "internal/abi.NoEscape"], unfollowed := true, recurses := true, named := ["internal/bytealg.MaxLen", "unicode/utf8.first", "unicode/utf8.acceptRanges", "strconv.ErrSyntax", "strconv.ErrRange", "internal/strconv.uint64pow10", "math/bits.deBruijn32tab", "math/bits.deBruijn64tab", "compositor/operator.rules", "compositor/blend.names"], apart := false, laid := [("math/bits.deBruijn32tab", laid_math_bits_deBruijn32tab), ("math/bits.deBruijn64tab", laid_math_bits_deBruijn64tab), ("compositor/operator.rules", laid_compositor_operator_rules), ("compositor/blend.names", laid_compositor_blend_names), ("internal/strconv.uint64pow10", laid_internal_strconv_uint64pow10), ("unicode/utf8.acceptRanges", laid_unicode_utf8_acceptRanges), ("strconv.ErrRange", laid_strconv_ErrRange), ("strconv.ErrSyntax", laid_strconv_ErrSyntax), ("unicode/utf8.first", laid_unicode_utf8_first)] }
def TextParseOfDamageSaid : Prop := textParseOfDamageRow.holds Tryz.pinned (OpenSpec.ofChange textParseOfDamageSpec)

/-- ITS FALSE NEIGHBOUR: 'it returns false'. Refute it at one input. -/
def textParseOfDamageWrong : ChangeSpec := { name := "textParseOfDamage", fn := fun _ => fun
  | [d1, d2, d3, d4, d5] => { results := [.lit (.bool false)], args := [d1, d2, d3, d4, d5] }
  | _ => none }
def TextParseOfDamageWrongFalsely : Prop := textParseOfDamageRow.holds Tryz.pinned (OpenSpec.ofChange textParseOfDamageWrong)

/-- 'compositorlaw19.TextReportsTheLine': WHATEVER THE INPUT: true; the input reads as it did. -/
def textReportsTheLineSpec : ChangeSpec := { name := "textReportsTheLine", fn := fun _ => fun
  | [d1, d2, d3] => { results := [.lit (.bool true)], args := [d1, d2, d3] }
  | _ => none }
def textReportsTheLineRow : OpenClaim := { program := "ytheidkkebdhmkaagreatdoor", sum := "d5e457bea40a70b4fc2319140197a4ea4e3d4b97197b41bf39e11d8e2f2e556e", func := "compositor/compositorlaw19.TextReportsTheLine", spec := "textReportsTheLine", inPlace := ["internal/bytealg.IndexByteString", "internal/bytealg.IndexString", "internal/bytealg.CountString", "internal/abi.NoEscape"], unfollowed := true, recurses := true, named := ["internal/bytealg.MaxLen", "unicode/utf8.first", "unicode/utf8.acceptRanges", "strconv.ErrSyntax", "strconv.ErrRange", "internal/strconv.uint64pow10", "math/bits.deBruijn32tab", "math/bits.deBruijn64tab", "compositor/operator.rules", "compositor/blend.names"], apart := false, laid := [("math/bits.deBruijn32tab", laid_math_bits_deBruijn32tab), ("math/bits.deBruijn64tab", laid_math_bits_deBruijn64tab), ("compositor/operator.rules", laid_compositor_operator_rules), ("compositor/blend.names", laid_compositor_blend_names), ("internal/strconv.uint64pow10", laid_internal_strconv_uint64pow10), ("unicode/utf8.acceptRanges", laid_unicode_utf8_acceptRanges), ("strconv.ErrRange", laid_strconv_ErrRange), ("strconv.ErrSyntax", laid_strconv_ErrSyntax), ("unicode/utf8.first", laid_unicode_utf8_first)] }
def TextReportsTheLineSaid : Prop := textReportsTheLineRow.holds Tryz.pinned (OpenSpec.ofChange textReportsTheLineSpec)

/-- ITS FALSE NEIGHBOUR: 'it returns false'. Refute it at one input. -/
def textReportsTheLineWrong : ChangeSpec := { name := "textReportsTheLine", fn := fun _ => fun
  | [d1, d2, d3] => { results := [.lit (.bool false)], args := [d1, d2, d3] }
  | _ => none }
def TextReportsTheLineWrongFalsely : Prop := textReportsTheLineRow.holds Tryz.pinned (OpenSpec.ofChange textReportsTheLineWrong)

/- THE SECOND FORM. 'bulk': how many values and letters a reading holds, each counted each time it is reached (what is shared counts as often as it is met; a slice's spare places count too). A statement '..UptoSaid' is the law's where the arguments, and the package variables that the reading takes, are together of bulk at most 1048576: NARROWER than '..Said'. Prove '..Said' where nothing that the law and all that it calls make is longer than what came in: it says more and counts as full. Else prove '..UptoSaid'. A law counts once. -/
mutual
def uptoBulk {H : Type} : DataW H → Nat
  | .lit (.string bytes) => bytes.length + 1
  | .lit _ => 1
  | .nil => 1
  | .ptr d => uptoBulk d + 1
  | .slice elems spare => uptoBulkAll elems + uptoBulkAll spare + 1
  | .agg parts => uptoBulkAll parts + 1
  | .iface _ d => uptoBulk d + 1
  | .map entries => uptoBulkEntries entries + 1
  | .held _ => 1
def uptoBulkAll {H : Type} : List (DataW H) → Nat
  | [] => 0
  | d :: r => uptoBulk d + uptoBulkAll r
def uptoBulkEntries {H : Type} : List (Lit × DataW H) → Nat
  | [] => 0
  | x :: r => uptoBulkEntry x + uptoBulkEntries r
def uptoBulkEntry {H : Type} : Lit × DataW H → Nat
  | (.string bytes, d) => bytes.length + uptoBulk d + 1
  | (_, d) => uptoBulk d + 1
 end
def uptoSmall : (H : Type) → List (DataW H) → Bool := fun _ ds => decide (uptoBulkAll ds ≤ 1048576)
def OpenSpec.upto (s : _root_.Go.ChangeSpec) : _root_.Go.OpenSpec := { _root_.Go.OpenSpec.ofChange s with cond := some uptoSmall }

/-- 'compositorlaw19.TextFormatAgrees', WHERE WHAT IT READS IS OF BULK AT MOST 1048576: true; the input reads as it did. -/
def textFormatAgreesUptoRow : OpenClaim := { program := "ytheidkkebdhmkaagreatdoor", sum := "d5e457bea40a70b4fc2319140197a4ea4e3d4b97197b41bf39e11d8e2f2e556e", func := "compositor/compositorlaw19.TextFormatAgrees", spec := "textFormatAgrees", inPlace := ["internal/abi.NoEscape", "internal/bytealg.IndexByteString", "internal/bytealg.IndexString", "internal/bytealg.CountString"], unfollowed := true, recurses := true, named := ["compositor/operator.rules", "compositor/blend.names", "internal/strconv.uint64pow10", "math/bits.deBruijn32tab", "math/bits.deBruijn64tab", "internal/bytealg.MaxLen", "unicode/utf8.first", "unicode/utf8.acceptRanges", "strconv.ErrSyntax", "strconv.ErrRange"], apart := false, laid := [("math/bits.deBruijn32tab", laid_math_bits_deBruijn32tab), ("math/bits.deBruijn64tab", laid_math_bits_deBruijn64tab), ("compositor/operator.rules", laid_compositor_operator_rules), ("compositor/blend.names", laid_compositor_blend_names), ("internal/strconv.uint64pow10", laid_internal_strconv_uint64pow10), ("unicode/utf8.acceptRanges", laid_unicode_utf8_acceptRanges), ("strconv.ErrRange", laid_strconv_ErrRange), ("strconv.ErrSyntax", laid_strconv_ErrSyntax), ("unicode/utf8.first", laid_unicode_utf8_first)], narrowed := true }
def TextFormatAgreesUptoSaid : Prop := textFormatAgreesUptoRow.holds Tryz.pinned (OpenSpec.upto textFormatAgreesSpec)

/-- 'compositorlaw19.TextFormatRejects', WHERE WHAT IT READS IS OF BULK AT MOST 1048576: true; the input reads as it did. -/
def textFormatRejectsUptoRow : OpenClaim := { program := "ytheidkkebdhmkaagreatdoor", sum := "d5e457bea40a70b4fc2319140197a4ea4e3d4b97197b41bf39e11d8e2f2e556e", func := "compositor/compositorlaw19.TextFormatRejects", spec := "textFormatRejects", inPlace := ["internal/abi.NoEscape", "internal/bytealg.IndexByteString", "internal/bytealg.IndexString", "internal/bytealg.CountString"], unfollowed := true, recurses := true, named := ["compositor/operator.rules", "compositor/blend.names", "internal/strconv.uint64pow10", "math/bits.deBruijn32tab", "math/bits.deBruijn64tab", "internal/bytealg.MaxLen", "unicode/utf8.first", "unicode/utf8.acceptRanges", "strconv.ErrSyntax", "strconv.ErrRange"], apart := false, laid := [("math/bits.deBruijn32tab", laid_math_bits_deBruijn32tab), ("math/bits.deBruijn64tab", laid_math_bits_deBruijn64tab), ("compositor/operator.rules", laid_compositor_operator_rules), ("compositor/blend.names", laid_compositor_blend_names), ("internal/strconv.uint64pow10", laid_internal_strconv_uint64pow10), ("unicode/utf8.acceptRanges", laid_unicode_utf8_acceptRanges), ("strconv.ErrRange", laid_strconv_ErrRange), ("strconv.ErrSyntax", laid_strconv_ErrSyntax), ("unicode/utf8.first", laid_unicode_utf8_first)], narrowed := true }
def TextFormatRejectsUptoSaid : Prop := textFormatRejectsUptoRow.holds Tryz.pinned (OpenSpec.upto textFormatRejectsSpec)

/-- 'compositorlaw19.TextRoundTrip', WHERE WHAT IT READS IS OF BULK AT MOST 1048576: true; the input reads as it did. -/
def textRoundTripUptoRow : OpenClaim := { program := "ytheidkkebdhmkaagreatdoor", sum := "d5e457bea40a70b4fc2319140197a4ea4e3d4b97197b41bf39e11d8e2f2e556e", func := "compositor/compositorlaw19.TextRoundTrip", spec := "textRoundTrip", inPlace := ["internal/abi.NoEscape", "internal/bytealg.IndexByteString", "internal/bytealg.IndexString", "internal/bytealg.CountString"], unfollowed := true, recurses := true, named := ["compositor/operator.rules", "compositor/blend.names", "internal/strconv.uint64pow10", "math/bits.deBruijn32tab", "math/bits.deBruijn64tab", "internal/bytealg.MaxLen", "unicode/utf8.first", "unicode/utf8.acceptRanges", "strconv.ErrSyntax", "strconv.ErrRange"], apart := false, laid := [("math/bits.deBruijn32tab", laid_math_bits_deBruijn32tab), ("math/bits.deBruijn64tab", laid_math_bits_deBruijn64tab), ("compositor/operator.rules", laid_compositor_operator_rules), ("compositor/blend.names", laid_compositor_blend_names), ("internal/strconv.uint64pow10", laid_internal_strconv_uint64pow10), ("unicode/utf8.acceptRanges", laid_unicode_utf8_acceptRanges), ("strconv.ErrRange", laid_strconv_ErrRange), ("strconv.ErrSyntax", laid_strconv_ErrSyntax), ("unicode/utf8.first", laid_unicode_utf8_first)], narrowed := true }
def TextRoundTripUptoSaid : Prop := textRoundTripUptoRow.holds Tryz.pinned (OpenSpec.upto textRoundTripSpec)

/-- 'compositorlaw19.TextParseAgrees', WHERE WHAT IT READS IS OF BULK AT MOST 1048576: true; the input reads as it did. -/
def textParseAgreesUptoRow : OpenClaim := { program := "ytheidkkebdhmkaagreatdoor", sum := "d5e457bea40a70b4fc2319140197a4ea4e3d4b97197b41bf39e11d8e2f2e556e", func := "compositor/compositorlaw19.TextParseAgrees", spec := "textParseAgrees", inPlace := ["internal/bytealg.IndexByteString", "internal/bytealg.IndexString", "internal/bytealg.CountString", "internal/abi.NoEscape"], unfollowed := true, recurses := true, named := ["internal/bytealg.MaxLen", "unicode/utf8.first", "unicode/utf8.acceptRanges", "strconv.ErrSyntax", "strconv.ErrRange", "internal/strconv.uint64pow10", "math/bits.deBruijn32tab", "math/bits.deBruijn64tab", "compositor/operator.rules", "compositor/blend.names"], apart := false, laid := [("math/bits.deBruijn32tab", laid_math_bits_deBruijn32tab), ("math/bits.deBruijn64tab", laid_math_bits_deBruijn64tab), ("compositor/operator.rules", laid_compositor_operator_rules), ("compositor/blend.names", laid_compositor_blend_names), ("internal/strconv.uint64pow10", laid_internal_strconv_uint64pow10), ("unicode/utf8.acceptRanges", laid_unicode_utf8_acceptRanges), ("strconv.ErrRange", laid_strconv_ErrRange), ("strconv.ErrSyntax", laid_strconv_ErrSyntax), ("unicode/utf8.first", laid_unicode_utf8_first)], narrowed := true }
def TextParseAgreesUptoSaid : Prop := textParseAgreesUptoRow.holds Tryz.pinned (OpenSpec.upto textParseAgreesSpec)

/-- 'compositorlaw19.TextParseOfDamage', WHERE WHAT IT READS IS OF BULK AT MOST 1048576: true; the input reads as it did. -/
def textParseOfDamageUptoRow : OpenClaim := { program := "ytheidkkebdhmkaagreatdoor", sum := "d5e457bea40a70b4fc2319140197a4ea4e3d4b97197b41bf39e11d8e2f2e556e", func := "compositor/compositorlaw19.TextParseOfDamage", spec := "textParseOfDamage", inPlace := ["internal/bytealg.IndexByteString", "internal/bytealg.IndexString", "internal/bytealg.CountString", "internal/abi.NoEscape"], unfollowed := true, recurses := true, named := ["internal/bytealg.MaxLen", "unicode/utf8.first", "unicode/utf8.acceptRanges", "strconv.ErrSyntax", "strconv.ErrRange", "internal/strconv.uint64pow10", "math/bits.deBruijn32tab", "math/bits.deBruijn64tab", "compositor/operator.rules", "compositor/blend.names"], apart := false, laid := [("math/bits.deBruijn32tab", laid_math_bits_deBruijn32tab), ("math/bits.deBruijn64tab", laid_math_bits_deBruijn64tab), ("compositor/operator.rules", laid_compositor_operator_rules), ("compositor/blend.names", laid_compositor_blend_names), ("internal/strconv.uint64pow10", laid_internal_strconv_uint64pow10), ("unicode/utf8.acceptRanges", laid_unicode_utf8_acceptRanges), ("strconv.ErrRange", laid_strconv_ErrRange), ("strconv.ErrSyntax", laid_strconv_ErrSyntax), ("unicode/utf8.first", laid_unicode_utf8_first)], narrowed := true }
def TextParseOfDamageUptoSaid : Prop := textParseOfDamageUptoRow.holds Tryz.pinned (OpenSpec.upto textParseOfDamageSpec)

/-- 'compositorlaw19.TextReportsTheLine', WHERE WHAT IT READS IS OF BULK AT MOST 1048576: true; the input reads as it did. -/
def textReportsTheLineUptoRow : OpenClaim := { program := "ytheidkkebdhmkaagreatdoor", sum := "d5e457bea40a70b4fc2319140197a4ea4e3d4b97197b41bf39e11d8e2f2e556e", func := "compositor/compositorlaw19.TextReportsTheLine", spec := "textReportsTheLine", inPlace := ["internal/bytealg.IndexByteString", "internal/bytealg.IndexString", "internal/bytealg.CountString", "internal/abi.NoEscape"], unfollowed := true, recurses := true, named := ["internal/bytealg.MaxLen", "unicode/utf8.first", "unicode/utf8.acceptRanges", "strconv.ErrSyntax", "strconv.ErrRange", "internal/strconv.uint64pow10", "math/bits.deBruijn32tab", "math/bits.deBruijn64tab", "compositor/operator.rules", "compositor/blend.names"], apart := false, laid := [("math/bits.deBruijn32tab", laid_math_bits_deBruijn32tab), ("math/bits.deBruijn64tab", laid_math_bits_deBruijn64tab), ("compositor/operator.rules", laid_compositor_operator_rules), ("compositor/blend.names", laid_compositor_blend_names), ("internal/strconv.uint64pow10", laid_internal_strconv_uint64pow10), ("unicode/utf8.acceptRanges", laid_unicode_utf8_acceptRanges), ("strconv.ErrRange", laid_strconv_ErrRange), ("strconv.ErrSyntax", laid_strconv_ErrSyntax), ("unicode/utf8.first", laid_unicode_utf8_first)], narrowed := true }
def TextReportsTheLineUptoSaid : Prop := textReportsTheLineUptoRow.holds Tryz.pinned (OpenSpec.upto textReportsTheLineSpec)

end Rows
end Go.Proofs.YtheidkkebdhmkaaGreatDoor
