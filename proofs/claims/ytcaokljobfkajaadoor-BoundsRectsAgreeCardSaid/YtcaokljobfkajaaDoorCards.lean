/-
  DERIVED. GIVEN WITH THE SEED: THE CARDS: each row of YtcaokljobfkajaaDoorRows.lean that lists a variable, with what it lists TIED to the program's text (the seventh form; the later family's looks); each row that meets fmt, with fmt's text TOLD by the authors' own Lean function (tested against real Go, not proved from fmt's source: count such statements apart). THE CARD IS WHAT COUNTS. Prove the row's statement (the work); the ties are given (YtcaokljobfkajaaDoorTie.lean); close each card by the builder's one call (the guide's Derived/Test/ToyasCard.lean, 'card_holds'). Laid BY PROGRAM, IN A SANDBOX (cutbox-door.mjs). By AI agents, Wed Nov 11 2026. No macro, syntax, notation, axiom, sorry.
-/
import Derived.Test.YtcaokljobfkajaaDoorRows
import GoSem.ClaimSeven
namespace Go.Proofs.YtcaokljobfkajaaDoor
namespace Rows

/-- THE TIED CARD OF 'compositorlaw24.BoundsRectsAgree'. -/
def boundsRectsAgreeCard : Claim7 := { stood := { row := boundsRectsAgreeRow, standIns := [], harness := (true, "31ecf1525c4ee9093b1ebc182cbafc8ad4d5f27688c92a16719a9b2499b8cca0"), looks := false }, kinds := [], alts := [], laidByText := true, laidKinds := [.data, .data], laidTests := true, laidLooks := .later }
def BoundsRectsAgreeCardSaid : Prop := Claim7.holds Tryd.pinned (.plain (OpenSpec.ofChange boundsRectsAgreeSpec)) boundsRectsAgreeCard

/-- THE TIED CARD OF 'compositorlaw24.BoundsBoxesAgree'. -/
def boundsBoxesAgreeCard : Claim7 := { stood := { row := boundsBoxesAgreeRow, standIns := [], harness := (true, "31ecf1525c4ee9093b1ebc182cbafc8ad4d5f27688c92a16719a9b2499b8cca0"), looks := false }, kinds := [], alts := [], laidByText := true, laidKinds := [.data, .data], laidTests := true, laidLooks := .later }
def BoundsBoxesAgreeCardSaid : Prop := Claim7.holds Tryd.pinned (.plain (OpenSpec.ofChange boundsBoxesAgreeSpec)) boundsBoxesAgreeCard

/-- THE TIED CARD OF 'compositorlaw24.BoundsRejects'. -/
def boundsRejectsCard : Claim7 := { stood := { row := boundsRejectsRow, standIns := [], harness := (true, "31ecf1525c4ee9093b1ebc182cbafc8ad4d5f27688c92a16719a9b2499b8cca0"), looks := false }, kinds := [], alts := [], laidByText := true, laidKinds := [.data, .data], laidTests := true, laidLooks := .later }
def BoundsRejectsCardSaid : Prop := Claim7.holds Tryd.pinned (.plain (OpenSpec.ofChange boundsRejectsSpec)) boundsRejectsCard

/-- THE TIED CARD OF 'compositorlaw24.BoundsActiveIsBalanced'. -/
def boundsActiveIsBalancedCard : Claim7 := { stood := { row := boundsActiveIsBalancedRow, standIns := [], harness := (true, "31ecf1525c4ee9093b1ebc182cbafc8ad4d5f27688c92a16719a9b2499b8cca0"), looks := false }, kinds := [], alts := [], laidByText := true, laidKinds := [.data, .data], laidTests := true, laidLooks := .later }
def BoundsActiveIsBalancedCardSaid : Prop := Claim7.holds Tryd.pinned (.plain (OpenSpec.ofChange boundsActiveIsBalancedSpec)) boundsActiveIsBalancedCard

/-- THE SECOND FORM's CARD OF 'compositorlaw24.BoundsRectsAgree'. -/
def boundsRectsAgreeUptoCard : Claim7 := { stood := { row := boundsRectsAgreeUptoRow, standIns := [], harness := (true, "31ecf1525c4ee9093b1ebc182cbafc8ad4d5f27688c92a16719a9b2499b8cca0"), looks := false }, kinds := [], alts := [], laidByText := true, laidKinds := [.data, .data], laidTests := true, laidLooks := .later }
def BoundsRectsAgreeUptoCardSaid : Prop := Claim7.holds Tryd.pinned (.plain (OpenSpec.upto boundsRectsAgreeSpec)) boundsRectsAgreeUptoCard

/-- THE SECOND FORM's CARD OF 'compositorlaw24.BoundsBoxesAgree'. -/
def boundsBoxesAgreeUptoCard : Claim7 := { stood := { row := boundsBoxesAgreeUptoRow, standIns := [], harness := (true, "31ecf1525c4ee9093b1ebc182cbafc8ad4d5f27688c92a16719a9b2499b8cca0"), looks := false }, kinds := [], alts := [], laidByText := true, laidKinds := [.data, .data], laidTests := true, laidLooks := .later }
def BoundsBoxesAgreeUptoCardSaid : Prop := Claim7.holds Tryd.pinned (.plain (OpenSpec.upto boundsBoxesAgreeSpec)) boundsBoxesAgreeUptoCard

/-- THE SECOND FORM's CARD OF 'compositorlaw24.BoundsRejects'. -/
def boundsRejectsUptoCard : Claim7 := { stood := { row := boundsRejectsUptoRow, standIns := [], harness := (true, "31ecf1525c4ee9093b1ebc182cbafc8ad4d5f27688c92a16719a9b2499b8cca0"), looks := false }, kinds := [], alts := [], laidByText := true, laidKinds := [.data, .data], laidTests := true, laidLooks := .later }
def BoundsRejectsUptoCardSaid : Prop := Claim7.holds Tryd.pinned (.plain (OpenSpec.upto boundsRejectsSpec)) boundsRejectsUptoCard

/-- THE SECOND FORM's CARD OF 'compositorlaw24.BoundsActiveIsBalanced'. -/
def boundsActiveIsBalancedUptoCard : Claim7 := { stood := { row := boundsActiveIsBalancedUptoRow, standIns := [], harness := (true, "31ecf1525c4ee9093b1ebc182cbafc8ad4d5f27688c92a16719a9b2499b8cca0"), looks := false }, kinds := [], alts := [], laidByText := true, laidKinds := [.data, .data], laidTests := true, laidLooks := .later }
def BoundsActiveIsBalancedUptoCardSaid : Prop := Claim7.holds Tryd.pinned (.plain (OpenSpec.upto boundsActiveIsBalancedSpec)) boundsActiveIsBalancedUptoCard
end Rows
end Go.Proofs.YtcaokljobfkajaaDoor
