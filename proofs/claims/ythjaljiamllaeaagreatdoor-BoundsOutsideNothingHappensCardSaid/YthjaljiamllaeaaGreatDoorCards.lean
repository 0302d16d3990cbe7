/-
  DERIVED. GIVEN WITH THE SEED: THE CARDS: each row of YthjaljiamllaeaaGreatDoorRows.lean that lists a variable, with what it lists TIED to the program's text (the seventh form; the later family's looks); each row that meets fmt, with fmt's text TOLD by the authors' own Lean function (tested against real Go, not proved from fmt's source: count such statements apart). THE CARD IS WHAT COUNTS. Prove the row's statement (the work); the ties are given (YthjaljiamllaeaaGreatDoorTie.lean); close each card by the builder's one call (the guide's Derived/Test/ToyasCard.lean, 'card_holds'). Laid BY PROGRAM, IN A SANDBOX (cutbox-door.mjs). By AI agents, Wed Nov 11 2026. No macro, syntax, notation, axiom, sorry.
-/
import Derived.Test.YthjaljiamllaeaaGreatDoorRows
import GoSem.ClaimSeven
namespace Go.Proofs.YthjaljiamllaeaaGreatDoor
namespace Rows

/-- THE TIED CARD OF 'compositorlaw24.BoundsOutsideNothingHappens'. -/
def boundsOutsideNothingHappensCard : Claim7 := { stood := { row := boundsOutsideNothingHappensRow, standIns := [], harness := (true, "312b2fa7de7a7b5dfcdcbfb955155d97586e4b8eb16c9c36e4a949a10382faa3"), looks := false }, kinds := [], alts := [], laidByText := true, laidKinds := [.data, .data], laidTests := true, laidLooks := .later }
def BoundsOutsideNothingHappensCardSaid : Prop := Claim7.holds Tryz.pinned (.plain (OpenSpec.ofChange boundsOutsideNothingHappensSpec)) boundsOutsideNothingHappensCard

/-- THE TIED CARD OF 'compositorlaw24.BoundsInactiveCanBeLeftOut'. -/
def boundsInactiveCanBeLeftOutCard : Claim7 := { stood := { row := boundsInactiveCanBeLeftOutRow, standIns := [], harness := (true, "312b2fa7de7a7b5dfcdcbfb955155d97586e4b8eb16c9c36e4a949a10382faa3"), looks := false }, kinds := [], alts := [], laidByText := true, laidKinds := [.data, .data], laidTests := true, laidLooks := .later }
def BoundsInactiveCanBeLeftOutCardSaid : Prop := Claim7.holds Tryz.pinned (.plain (OpenSpec.ofChange boundsInactiveCanBeLeftOutSpec)) boundsInactiveCanBeLeftOutCard

/-- THE SECOND FORM's CARD OF 'compositorlaw24.BoundsOutsideNothingHappens'. -/
def boundsOutsideNothingHappensUptoCard : Claim7 := { stood := { row := boundsOutsideNothingHappensUptoRow, standIns := [], harness := (true, "312b2fa7de7a7b5dfcdcbfb955155d97586e4b8eb16c9c36e4a949a10382faa3"), looks := false }, kinds := [], alts := [], laidByText := true, laidKinds := [.data, .data], laidTests := true, laidLooks := .later }
def BoundsOutsideNothingHappensUptoCardSaid : Prop := Claim7.holds Tryz.pinned (.plain (OpenSpec.upto boundsOutsideNothingHappensSpec)) boundsOutsideNothingHappensUptoCard

/-- THE SECOND FORM's CARD OF 'compositorlaw24.BoundsInactiveCanBeLeftOut'. -/
def boundsInactiveCanBeLeftOutUptoCard : Claim7 := { stood := { row := boundsInactiveCanBeLeftOutUptoRow, standIns := [], harness := (true, "312b2fa7de7a7b5dfcdcbfb955155d97586e4b8eb16c9c36e4a949a10382faa3"), looks := false }, kinds := [], alts := [], laidByText := true, laidKinds := [.data, .data], laidTests := true, laidLooks := .later }
def BoundsInactiveCanBeLeftOutUptoCardSaid : Prop := Claim7.holds Tryz.pinned (.plain (OpenSpec.upto boundsInactiveCanBeLeftOutSpec)) boundsInactiveCanBeLeftOutUptoCard
end Rows
end Go.Proofs.YthjaljiamllaeaaGreatDoor
