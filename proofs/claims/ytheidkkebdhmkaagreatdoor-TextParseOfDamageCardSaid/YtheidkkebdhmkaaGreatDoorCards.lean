/-
  DERIVED. GIVEN WITH THE SEED: THE CARDS: each row of YtheidkkebdhmkaaGreatDoorRows.lean that lists a variable, with what it lists TIED to the program's text (the seventh form; the later family's looks); each row that meets fmt, with fmt's text TOLD by the authors' own Lean function (tested against real Go, not proved from fmt's source: count such statements apart). THE CARD IS WHAT COUNTS. Prove the row's statement (the work); the ties are given (YtheidkkebdhmkaaGreatDoorTie.lean); close each card by the builder's one call (the guide's Derived/Test/ToyasCard.lean, 'card_holds'). Laid BY PROGRAM, IN A SANDBOX (cutbox-door.mjs). By AI agents, Wed Nov 11 2026. No macro, syntax, notation, axiom, sorry.
-/
import Derived.Test.YtheidkkebdhmkaaGreatDoorRows
import GoSem.ClaimSeven
namespace Go.Proofs.YtheidkkebdhmkaaGreatDoor
namespace Rows

/-- THE TIED CARD OF 'compositorlaw19.TextFormatAgrees'. -/
def textFormatAgreesCard : Claim7 := { stood := { row := textFormatAgreesRow, standIns := [], harness := (true, "efeb7ff7d0dad67460b2511a4add4e2ed624acc7f88cd160b404140ed2932009"), looks := true }, kinds := [], alts := [], laidByText := true, laidKinds := [.data, .data, .data, .data, .data, .data, .sentinel, .sentinel, .pinned], laidTests := true, laidLooks := .later }
def TextFormatAgreesCardSaid : Prop := Claim7.holds Tryz.pinned (.plain (OpenSpec.ofChange textFormatAgreesSpec)) textFormatAgreesCard

/-- THE TIED CARD OF 'compositorlaw19.TextFormatRejects'. -/
def textFormatRejectsCard : Claim7 := { stood := { row := textFormatRejectsRow, standIns := [], harness := (true, "efeb7ff7d0dad67460b2511a4add4e2ed624acc7f88cd160b404140ed2932009"), looks := true }, kinds := [], alts := [], laidByText := true, laidKinds := [.data, .data, .data, .data, .data, .data, .sentinel, .sentinel, .pinned], laidTests := true, laidLooks := .later }
def TextFormatRejectsCardSaid : Prop := Claim7.holds Tryz.pinned (.plain (OpenSpec.ofChange textFormatRejectsSpec)) textFormatRejectsCard

/-- THE TIED CARD OF 'compositorlaw19.TextRoundTrip'. -/
def textRoundTripCard : Claim7 := { stood := { row := textRoundTripRow, standIns := [], harness := (true, "efeb7ff7d0dad67460b2511a4add4e2ed624acc7f88cd160b404140ed2932009"), looks := true }, kinds := [], alts := [], laidByText := true, laidKinds := [.data, .data, .data, .data, .data, .data, .sentinel, .sentinel, .pinned], laidTests := true, laidLooks := .later }
def TextRoundTripCardSaid : Prop := Claim7.holds Tryz.pinned (.plain (OpenSpec.ofChange textRoundTripSpec)) textRoundTripCard

/-- THE TIED CARD OF 'compositorlaw19.TextParseAgrees'. -/
def textParseAgreesCard : Claim7 := { stood := { row := textParseAgreesRow, standIns := [], harness := (true, "efeb7ff7d0dad67460b2511a4add4e2ed624acc7f88cd160b404140ed2932009"), looks := true }, kinds := [], alts := [], laidByText := true, laidKinds := [.data, .data, .data, .data, .data, .data, .sentinel, .sentinel, .pinned], laidTests := true, laidLooks := .later }
def TextParseAgreesCardSaid : Prop := Claim7.holds Tryz.pinned (.plain (OpenSpec.ofChange textParseAgreesSpec)) textParseAgreesCard

/-- THE TIED CARD OF 'compositorlaw19.TextParseOfDamage'. -/
def textParseOfDamageCard : Claim7 := { stood := { row := textParseOfDamageRow, standIns := [], harness := (true, "efeb7ff7d0dad67460b2511a4add4e2ed624acc7f88cd160b404140ed2932009"), looks := true }, kinds := [], alts := [], laidByText := true, laidKinds := [.data, .data, .data, .data, .data, .data, .sentinel, .sentinel, .pinned], laidTests := true, laidLooks := .later }
def TextParseOfDamageCardSaid : Prop := Claim7.holds Tryz.pinned (.plain (OpenSpec.ofChange textParseOfDamageSpec)) textParseOfDamageCard

/-- THE TIED CARD OF 'compositorlaw19.TextReportsTheLine'. -/
def textReportsTheLineCard : Claim7 := { stood := { row := textReportsTheLineRow, standIns := [], harness := (true, "efeb7ff7d0dad67460b2511a4add4e2ed624acc7f88cd160b404140ed2932009"), looks := true }, kinds := [], alts := [], laidByText := true, laidKinds := [.data, .data, .data, .data, .data, .data, .sentinel, .sentinel, .pinned], laidTests := true, laidLooks := .later }
def TextReportsTheLineCardSaid : Prop := Claim7.holds Tryz.pinned (.plain (OpenSpec.ofChange textReportsTheLineSpec)) textReportsTheLineCard

/-- THE SECOND FORM's CARD OF 'compositorlaw19.TextFormatAgrees'. -/
def textFormatAgreesUptoCard : Claim7 := { stood := { row := textFormatAgreesUptoRow, standIns := [], harness := (true, "efeb7ff7d0dad67460b2511a4add4e2ed624acc7f88cd160b404140ed2932009"), looks := true }, kinds := [], alts := [], laidByText := true, laidKinds := [.data, .data, .data, .data, .data, .data, .sentinel, .sentinel, .pinned], laidTests := true, laidLooks := .later }
def TextFormatAgreesUptoCardSaid : Prop := Claim7.holds Tryz.pinned (.plain (OpenSpec.upto textFormatAgreesSpec)) textFormatAgreesUptoCard

/-- THE SECOND FORM's CARD OF 'compositorlaw19.TextFormatRejects'. -/
def textFormatRejectsUptoCard : Claim7 := { stood := { row := textFormatRejectsUptoRow, standIns := [], harness := (true, "efeb7ff7d0dad67460b2511a4add4e2ed624acc7f88cd160b404140ed2932009"), looks := true }, kinds := [], alts := [], laidByText := true, laidKinds := [.data, .data, .data, .data, .data, .data, .sentinel, .sentinel, .pinned], laidTests := true, laidLooks := .later }
def TextFormatRejectsUptoCardSaid : Prop := Claim7.holds Tryz.pinned (.plain (OpenSpec.upto textFormatRejectsSpec)) textFormatRejectsUptoCard

/-- THE SECOND FORM's CARD OF 'compositorlaw19.TextRoundTrip'. -/
def textRoundTripUptoCard : Claim7 := { stood := { row := textRoundTripUptoRow, standIns := [], harness := (true, "efeb7ff7d0dad67460b2511a4add4e2ed624acc7f88cd160b404140ed2932009"), looks := true }, kinds := [], alts := [], laidByText := true, laidKinds := [.data, .data, .data, .data, .data, .data, .sentinel, .sentinel, .pinned], laidTests := true, laidLooks := .later }
def TextRoundTripUptoCardSaid : Prop := Claim7.holds Tryz.pinned (.plain (OpenSpec.upto textRoundTripSpec)) textRoundTripUptoCard

/-- THE SECOND FORM's CARD OF 'compositorlaw19.TextParseAgrees'. -/
def textParseAgreesUptoCard : Claim7 := { stood := { row := textParseAgreesUptoRow, standIns := [], harness := (true, "efeb7ff7d0dad67460b2511a4add4e2ed624acc7f88cd160b404140ed2932009"), looks := true }, kinds := [], alts := [], laidByText := true, laidKinds := [.data, .data, .data, .data, .data, .data, .sentinel, .sentinel, .pinned], laidTests := true, laidLooks := .later }
def TextParseAgreesUptoCardSaid : Prop := Claim7.holds Tryz.pinned (.plain (OpenSpec.upto textParseAgreesSpec)) textParseAgreesUptoCard

/-- THE SECOND FORM's CARD OF 'compositorlaw19.TextParseOfDamage'. -/
def textParseOfDamageUptoCard : Claim7 := { stood := { row := textParseOfDamageUptoRow, standIns := [], harness := (true, "efeb7ff7d0dad67460b2511a4add4e2ed624acc7f88cd160b404140ed2932009"), looks := true }, kinds := [], alts := [], laidByText := true, laidKinds := [.data, .data, .data, .data, .data, .data, .sentinel, .sentinel, .pinned], laidTests := true, laidLooks := .later }
def TextParseOfDamageUptoCardSaid : Prop := Claim7.holds Tryz.pinned (.plain (OpenSpec.upto textParseOfDamageSpec)) textParseOfDamageUptoCard

/-- THE SECOND FORM's CARD OF 'compositorlaw19.TextReportsTheLine'. -/
def textReportsTheLineUptoCard : Claim7 := { stood := { row := textReportsTheLineUptoRow, standIns := [], harness := (true, "efeb7ff7d0dad67460b2511a4add4e2ed624acc7f88cd160b404140ed2932009"), looks := true }, kinds := [], alts := [], laidByText := true, laidKinds := [.data, .data, .data, .data, .data, .data, .sentinel, .sentinel, .pinned], laidTests := true, laidLooks := .later }
def TextReportsTheLineUptoCardSaid : Prop := Claim7.holds Tryz.pinned (.plain (OpenSpec.upto textReportsTheLineSpec)) textReportsTheLineUptoCard
end Rows
end Go.Proofs.YtheidkkebdhmkaaGreatDoor
