/-
  No cell of these rows narrows 'for every input' (looked for: loops, veiled, ifaces, maps, wideKeys, modest, calm, conditions, laid).
  DERIVED. THE GIVEN ROWS OF THIS SEAT. 6 by the template 'for every input the law returns true; each argument reads behind the call as it read before'; 0 by the template 'total and deterministic' (their statements: YtlnfgagmiogkgaaTotals.lean).
  GIVEN WITH THE SEED: the statements are not yours to turn. If you find one false, say at which input.
  Laid BY PROGRAM, IN A SANDBOX (cutbox-rows.mjs): the forced cells as the released guide's own fill.sh prints them over the translation ace09a759b0a82aa… (all of the seat's roots in one cut). By AI agents, Wed Nov 11 2026. No macro, syntax, notation, axiom, sorry.
-/
import Derived.Test.YtlnfgagmiogkgaaChecked
import GoSem.Claim
import GoSem.ClaimJoined
import GoSem.ClaimMapViews
import Derived.JoinedTies
import Derived.KernelRfl
namespace Go.Proofs.Ytlnfgagmiogkgaa
/- THE CELL 'sum', in the pinned program and in every row, IS THE sha256 OF THE DUMP (.gsa) THAT YtlnfgagmiogkgaaProg.lean LOADS. Nothing in Lean hashes anything: it is a label: what it is worth is what the hold of that sum in a sandbox is worth. -/
noncomputable def Try.pinned : Pinned := { name := "ytlnfgagmiogkgaa", sum := "ace09a759b0a82aacbc9d63032c985a00cdf0a97ebfbb321e18c249c530b6853", checked := Try.checked }
namespace Rows
def none {H : Type} : Left H := { results := [], args := [] }

/-- 'compositorlaw18.ScriptEncodeAgrees': WHATEVER THE INPUT: true; the input reads as it did. -/
def scriptEncodeAgreesSpec : ChangeSpec := { name := "scriptEncodeAgrees", fn := fun _ => fun
  | [d1, d2] => { results := [.lit (.bool true)], args := [d1, d2] }
  | _ => none }
def scriptEncodeAgreesRow : OpenClaim := { program := "ytlnfgagmiogkgaa", sum := "ace09a759b0a82aacbc9d63032c985a00cdf0a97ebfbb321e18c249c530b6853", func := "compositor/compositorlaw18.ScriptEncodeAgrees", spec := "scriptEncodeAgrees", unfollowed := true, recurses := true, apart := false }
def ScriptEncodeAgreesSaid : Prop := scriptEncodeAgreesRow.holds Try.pinned (OpenSpec.ofChange scriptEncodeAgreesSpec)

/-- ITS FALSE NEIGHBOUR: 'it returns false'. Refute it at one input. -/
def scriptEncodeAgreesWrong : ChangeSpec := { name := "scriptEncodeAgrees", fn := fun _ => fun
  | [d1, d2] => { results := [.lit (.bool false)], args := [d1, d2] }
  | _ => none }
def ScriptEncodeAgreesWrongFalsely : Prop := scriptEncodeAgreesRow.holds Try.pinned (OpenSpec.ofChange scriptEncodeAgreesWrong)

/-- 'compositorlaw18.ScriptEncodableAgrees': WHATEVER THE INPUT: true; the input reads as it did. -/
def scriptEncodableAgreesSpec : ChangeSpec := { name := "scriptEncodableAgrees", fn := fun _ => fun
  | [d1, d2, d3, d4] => { results := [.lit (.bool true)], args := [d1, d2, d3, d4] }
  | _ => none }
def scriptEncodableAgreesRow : OpenClaim := { program := "ytlnfgagmiogkgaa", sum := "ace09a759b0a82aacbc9d63032c985a00cdf0a97ebfbb321e18c249c530b6853", func := "compositor/compositorlaw18.ScriptEncodableAgrees", spec := "scriptEncodableAgrees", unfollowed := true, recurses := true, apart := false }
def ScriptEncodableAgreesSaid : Prop := scriptEncodableAgreesRow.holds Try.pinned (OpenSpec.ofChange scriptEncodableAgreesSpec)

/-- ITS FALSE NEIGHBOUR: 'it returns false'. Refute it at one input. -/
def scriptEncodableAgreesWrong : ChangeSpec := { name := "scriptEncodableAgrees", fn := fun _ => fun
  | [d1, d2, d3, d4] => { results := [.lit (.bool false)], args := [d1, d2, d3, d4] }
  | _ => none }
def ScriptEncodableAgreesWrongFalsely : Prop := scriptEncodableAgreesRow.holds Try.pinned (OpenSpec.ofChange scriptEncodableAgreesWrong)

/-- 'compositorlaw18.ScriptDecodeAgrees': WHATEVER THE INPUT: true; the input reads as it did. -/
def scriptDecodeAgreesSpec : ChangeSpec := { name := "scriptDecodeAgrees", fn := fun _ => fun
  | [d1, d2, d3, d4] => { results := [.lit (.bool true)], args := [d1, d2, d3, d4] }
  | _ => none }
def scriptDecodeAgreesRow : OpenClaim := { program := "ytlnfgagmiogkgaa", sum := "ace09a759b0a82aacbc9d63032c985a00cdf0a97ebfbb321e18c249c530b6853", func := "compositor/compositorlaw18.ScriptDecodeAgrees", spec := "scriptDecodeAgrees", unfollowed := true, recurses := true, apart := false }
def ScriptDecodeAgreesSaid : Prop := scriptDecodeAgreesRow.holds Try.pinned (OpenSpec.ofChange scriptDecodeAgreesSpec)

/-- ITS FALSE NEIGHBOUR: 'it returns false'. Refute it at one input. -/
def scriptDecodeAgreesWrong : ChangeSpec := { name := "scriptDecodeAgrees", fn := fun _ => fun
  | [d1, d2, d3, d4] => { results := [.lit (.bool false)], args := [d1, d2, d3, d4] }
  | _ => none }
def ScriptDecodeAgreesWrongFalsely : Prop := scriptDecodeAgreesRow.holds Try.pinned (OpenSpec.ofChange scriptDecodeAgreesWrong)

/-- 'compositorlaw18.ScriptDecodeNeedsAllBytes': WHATEVER THE INPUT: true; the input reads as it did. -/
def scriptDecodeNeedsAllBytesSpec : ChangeSpec := { name := "scriptDecodeNeedsAllBytes", fn := fun _ => fun
  | [d1, d2, d3] => { results := [.lit (.bool true)], args := [d1, d2, d3] }
  | _ => none }
def scriptDecodeNeedsAllBytesRow : OpenClaim := { program := "ytlnfgagmiogkgaa", sum := "ace09a759b0a82aacbc9d63032c985a00cdf0a97ebfbb321e18c249c530b6853", func := "compositor/compositorlaw18.ScriptDecodeNeedsAllBytes", spec := "scriptDecodeNeedsAllBytes", unfollowed := true, recurses := true, apart := false }
def ScriptDecodeNeedsAllBytesSaid : Prop := scriptDecodeNeedsAllBytesRow.holds Try.pinned (OpenSpec.ofChange scriptDecodeNeedsAllBytesSpec)

/-- ITS FALSE NEIGHBOUR: 'it returns false'. Refute it at one input. -/
def scriptDecodeNeedsAllBytesWrong : ChangeSpec := { name := "scriptDecodeNeedsAllBytes", fn := fun _ => fun
  | [d1, d2, d3] => { results := [.lit (.bool false)], args := [d1, d2, d3] }
  | _ => none }
def ScriptDecodeNeedsAllBytesWrongFalsely : Prop := scriptDecodeNeedsAllBytesRow.holds Try.pinned (OpenSpec.ofChange scriptDecodeNeedsAllBytesWrong)

/-- 'compositorlaw18.ScriptRoundTrip': WHATEVER THE INPUT: true; the input reads as it did. -/
def scriptRoundTripSpec : ChangeSpec := { name := "scriptRoundTrip", fn := fun _ => fun
  | [d1, d2] => { results := [.lit (.bool true)], args := [d1, d2] }
  | _ => none }
def scriptRoundTripRow : OpenClaim := { program := "ytlnfgagmiogkgaa", sum := "ace09a759b0a82aacbc9d63032c985a00cdf0a97ebfbb321e18c249c530b6853", func := "compositor/compositorlaw18.ScriptRoundTrip", spec := "scriptRoundTrip", unfollowed := true, recurses := true, apart := false }
def ScriptRoundTripSaid : Prop := scriptRoundTripRow.holds Try.pinned (OpenSpec.ofChange scriptRoundTripSpec)

/-- ITS FALSE NEIGHBOUR: 'it returns false'. Refute it at one input. -/
def scriptRoundTripWrong : ChangeSpec := { name := "scriptRoundTrip", fn := fun _ => fun
  | [d1, d2] => { results := [.lit (.bool false)], args := [d1, d2] }
  | _ => none }
def ScriptRoundTripWrongFalsely : Prop := scriptRoundTripRow.holds Try.pinned (OpenSpec.ofChange scriptRoundTripWrong)

/-- 'compositorlaw18.ScriptEqualAgrees': WHATEVER THE INPUT: true; the input reads as it did. -/
def scriptEqualAgreesSpec : ChangeSpec := { name := "scriptEqualAgrees", fn := fun _ => fun
  | [d1, d2, d3, d4] => { results := [.lit (.bool true)], args := [d1, d2, d3, d4] }
  | _ => none }
def scriptEqualAgreesRow : OpenClaim := { program := "ytlnfgagmiogkgaa", sum := "ace09a759b0a82aacbc9d63032c985a00cdf0a97ebfbb321e18c249c530b6853", func := "compositor/compositorlaw18.ScriptEqualAgrees", spec := "scriptEqualAgrees", unfollowed := true, recurses := true, apart := false }
def ScriptEqualAgreesSaid : Prop := scriptEqualAgreesRow.holds Try.pinned (OpenSpec.ofChange scriptEqualAgreesSpec)

/-- ITS FALSE NEIGHBOUR: 'it returns false'. Refute it at one input. -/
def scriptEqualAgreesWrong : ChangeSpec := { name := "scriptEqualAgrees", fn := fun _ => fun
  | [d1, d2, d3, d4] => { results := [.lit (.bool false)], args := [d1, d2, d3, d4] }
  | _ => none }
def ScriptEqualAgreesWrongFalsely : Prop := scriptEqualAgreesRow.holds Try.pinned (OpenSpec.ofChange scriptEqualAgreesWrong)

/- THE SECOND FORM. 'bulk': how many values and letters a reading holds, each counted each time it is reached (what is shared counts as often as it is met; a slice's spare places count too). A statement '..UptoSaid' is the law's where the arguments, and the package variables that the reading takes, are together of bulk at most 1048576: NARROWER than '..Said'. Prove '..Said' where nothing that the law and all that it calls make is longer than what came in: it says more and counts as full. Else prove '..UptoSaid'. A law counts once. -/
mutual
def uptoBulk {H : Type} : DataW H → Nat
  | .lit (.string bytes) => bytes.length + 1
  | .lit _ => 1
  | .nil => 1
  | .ptr d => uptoBulk d + 1
  | .slice elems spare => uptoBulkAll elems + uptoBulkAll spare + 1
  | .agg parts => uptoBulkAll parts + 1
  | .iface _ d => uptoBulk d + 1
  | .map entries => uptoBulkEntries entries + 1
  | .held _ => 1
def uptoBulkAll {H : Type} : List (DataW H) → Nat
  | [] => 0
  | d :: r => uptoBulk d + uptoBulkAll r
def uptoBulkEntries {H : Type} : List (Lit × DataW H) → Nat
  | [] => 0
  | x :: r => uptoBulkEntry x + uptoBulkEntries r
def uptoBulkEntry {H : Type} : Lit × DataW H → Nat
  | (.string bytes, d) => bytes.length + uptoBulk d + 1
  | (_, d) => uptoBulk d + 1
 end
def uptoSmall : (H : Type) → List (DataW H) → Bool := fun _ ds => decide (uptoBulkAll ds ≤ 1048576)
def OpenSpec.upto (s : _root_.Go.ChangeSpec) : _root_.Go.OpenSpec := { _root_.Go.OpenSpec.ofChange s with cond := some uptoSmall }

/-- 'compositorlaw18.ScriptEncodeAgrees', WHERE WHAT IT READS IS OF BULK AT MOST 1048576: true; the input reads as it did. -/
def scriptEncodeAgreesUptoRow : OpenClaim := { program := "ytlnfgagmiogkgaa", sum := "ace09a759b0a82aacbc9d63032c985a00cdf0a97ebfbb321e18c249c530b6853", func := "compositor/compositorlaw18.ScriptEncodeAgrees", spec := "scriptEncodeAgrees", unfollowed := true, recurses := true, apart := false, narrowed := true }
def ScriptEncodeAgreesUptoSaid : Prop := scriptEncodeAgreesUptoRow.holds Try.pinned (OpenSpec.upto scriptEncodeAgreesSpec)

/-- 'compositorlaw18.ScriptEncodableAgrees', WHERE WHAT IT READS IS OF BULK AT MOST 1048576: true; the input reads as it did. -/
def scriptEncodableAgreesUptoRow : OpenClaim := { program := "ytlnfgagmiogkgaa", sum := "ace09a759b0a82aacbc9d63032c985a00cdf0a97ebfbb321e18c249c530b6853", func := "compositor/compositorlaw18.ScriptEncodableAgrees", spec := "scriptEncodableAgrees", unfollowed := true, recurses := true, apart := false, narrowed := true }
def ScriptEncodableAgreesUptoSaid : Prop := scriptEncodableAgreesUptoRow.holds Try.pinned (OpenSpec.upto scriptEncodableAgreesSpec)

/-- 'compositorlaw18.ScriptDecodeAgrees', WHERE WHAT IT READS IS OF BULK AT MOST 1048576: true; the input reads as it did. -/
def scriptDecodeAgreesUptoRow : OpenClaim := { program := "ytlnfgagmiogkgaa", sum := "ace09a759b0a82aacbc9d63032c985a00cdf0a97ebfbb321e18c249c530b6853", func := "compositor/compositorlaw18.ScriptDecodeAgrees", spec := "scriptDecodeAgrees", unfollowed := true, recurses := true, apart := false, narrowed := true }
def ScriptDecodeAgreesUptoSaid : Prop := scriptDecodeAgreesUptoRow.holds Try.pinned (OpenSpec.upto scriptDecodeAgreesSpec)

/-- 'compositorlaw18.ScriptDecodeNeedsAllBytes', WHERE WHAT IT READS IS OF BULK AT MOST 1048576: true; the input reads as it did. -/
def scriptDecodeNeedsAllBytesUptoRow : OpenClaim := { program := "ytlnfgagmiogkgaa", sum := "ace09a759b0a82aacbc9d63032c985a00cdf0a97ebfbb321e18c249c530b6853", func := "compositor/compositorlaw18.ScriptDecodeNeedsAllBytes", spec := "scriptDecodeNeedsAllBytes", unfollowed := true, recurses := true, apart := false, narrowed := true }
def ScriptDecodeNeedsAllBytesUptoSaid : Prop := scriptDecodeNeedsAllBytesUptoRow.holds Try.pinned (OpenSpec.upto scriptDecodeNeedsAllBytesSpec)

/-- 'compositorlaw18.ScriptRoundTrip', WHERE WHAT IT READS IS OF BULK AT MOST 1048576: true; the input reads as it did. -/
def scriptRoundTripUptoRow : OpenClaim := { program := "ytlnfgagmiogkgaa", sum := "ace09a759b0a82aacbc9d63032c985a00cdf0a97ebfbb321e18c249c530b6853", func := "compositor/compositorlaw18.ScriptRoundTrip", spec := "scriptRoundTrip", unfollowed := true, recurses := true, apart := false, narrowed := true }
def ScriptRoundTripUptoSaid : Prop := scriptRoundTripUptoRow.holds Try.pinned (OpenSpec.upto scriptRoundTripSpec)

/-- 'compositorlaw18.ScriptEqualAgrees', WHERE WHAT IT READS IS OF BULK AT MOST 1048576: true; the input reads as it did. -/
def scriptEqualAgreesUptoRow : OpenClaim := { program := "ytlnfgagmiogkgaa", sum := "ace09a759b0a82aacbc9d63032c985a00cdf0a97ebfbb321e18c249c530b6853", func := "compositor/compositorlaw18.ScriptEqualAgrees", spec := "scriptEqualAgrees", unfollowed := true, recurses := true, apart := false, narrowed := true }
def ScriptEqualAgreesUptoSaid : Prop := scriptEqualAgreesUptoRow.holds Try.pinned (OpenSpec.upto scriptEqualAgreesSpec)

end Rows
end Go.Proofs.Ytlnfgagmiogkgaa
