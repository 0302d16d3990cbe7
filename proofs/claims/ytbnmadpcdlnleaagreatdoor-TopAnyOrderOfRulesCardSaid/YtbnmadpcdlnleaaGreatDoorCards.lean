/-
  DERIVED. GIVEN WITH THE SEED: THE CARDS: each row of YtbnmadpcdlnleaaGreatDoorRows.lean that lists a variable, with what it lists TIED to the program's text (the seventh form; the later family's looks); each row that meets fmt, with fmt's text TOLD by the authors' own Lean function (tested against real Go, not proved from fmt's source: count such statements apart). THE CARD IS WHAT COUNTS. Prove the row's statement (the work); the ties are given (YtbnmadpcdlnleaaGreatDoorTie.lean); close each card by the builder's one call (the guide's Derived/Test/ToyasCard.lean, 'card_holds'). Laid BY PROGRAM, IN A SANDBOX (cutbox-door.mjs). By AI agents, Wed Nov 11 2026. No macro, syntax, notation, axiom, sorry.
-/
import Derived.Test.YtbnmadpcdlnleaaGreatDoorRows
import GoSem.ClaimSeven
namespace Go.Proofs.YtbnmadpcdlnleaaGreatDoor
namespace Rows

/-- THE TIED CARD OF 'compositortop.TopTilesTogether'. -/
def topTilesTogetherCard : Claim7 := { stood := { row := topTilesTogetherRow, standIns := [], harness := (true, "3a7db61620e390e5a8029fceef33c666a858f8756ec7ff12dee26ef8bb28f349"), looks := false }, kinds := [], alts := [], laidByText := true, laidKinds := [.data, .data], laidTests := true, laidLooks := .later }
def TopTilesTogetherCardSaid : Prop := Claim7.holds Tryz.pinned (.plain (OpenSpec.ofChange topTilesTogetherSpec)) topTilesTogetherCard

/-- THE TIED CARD OF 'compositortop.TopOneStepIsHalfAUnit'. -/
def topOneStepIsHalfAUnitCard : Claim7 := { stood := { row := topOneStepIsHalfAUnitRow, standIns := [], harness := (true, "3a7db61620e390e5a8029fceef33c666a858f8756ec7ff12dee26ef8bb28f349"), looks := false }, kinds := [], alts := [], laidByText := true, laidKinds := [.data, .data, .data], laidTests := true, laidLooks := .later }
def TopOneStepIsHalfAUnitCardSaid : Prop := Claim7.holds Tryz.pinned (.plain (OpenSpec.ofChange topOneStepIsHalfAUnitSpec)) topOneStepIsHalfAUnitCard

/-- THE TIED CARD OF 'compositortop.TopTraceExplains'. -/
def topTraceExplainsCard : Claim7 := { stood := { row := topTraceExplainsRow, standIns := [], harness := (true, "3a7db61620e390e5a8029fceef33c666a858f8756ec7ff12dee26ef8bb28f349"), looks := false }, kinds := [], alts := [], laidByText := true, laidKinds := [.data, .data], laidTests := true, laidLooks := .later }
def TopTraceExplainsCardSaid : Prop := Claim7.holds Tryz.pinned (.plain (OpenSpec.ofChange topTraceExplainsSpec)) topTraceExplainsCard

/-- THE TIED CARD OF 'compositortop.TopAnyOrderOfRules'. -/
def topAnyOrderOfRulesCard : Claim7 := { stood := { row := topAnyOrderOfRulesRow, standIns := [], harness := (true, "3a7db61620e390e5a8029fceef33c666a858f8756ec7ff12dee26ef8bb28f349"), looks := false }, kinds := [], alts := [], laidByText := true, laidKinds := [.data, .data], laidTests := true, laidLooks := .later }
def TopAnyOrderOfRulesCardSaid : Prop := Claim7.holds Tryz.pinned (.plain (OpenSpec.ofChange topAnyOrderOfRulesSpec)) topAnyOrderOfRulesCard

/-- THE SECOND FORM's CARD OF 'compositortop.TopTilesTogether'. -/
def topTilesTogetherUptoCard : Claim7 := { stood := { row := topTilesTogetherUptoRow, standIns := [], harness := (true, "3a7db61620e390e5a8029fceef33c666a858f8756ec7ff12dee26ef8bb28f349"), looks := false }, kinds := [], alts := [], laidByText := true, laidKinds := [.data, .data], laidTests := true, laidLooks := .later }
def TopTilesTogetherUptoCardSaid : Prop := Claim7.holds Tryz.pinned (.plain (OpenSpec.upto topTilesTogetherSpec)) topTilesTogetherUptoCard

/-- THE SECOND FORM's CARD OF 'compositortop.TopOneStepIsHalfAUnit'. -/
def topOneStepIsHalfAUnitUptoCard : Claim7 := { stood := { row := topOneStepIsHalfAUnitUptoRow, standIns := [], harness := (true, "3a7db61620e390e5a8029fceef33c666a858f8756ec7ff12dee26ef8bb28f349"), looks := false }, kinds := [], alts := [], laidByText := true, laidKinds := [.data, .data, .data], laidTests := true, laidLooks := .later }
def TopOneStepIsHalfAUnitUptoCardSaid : Prop := Claim7.holds Tryz.pinned (.plain (OpenSpec.upto topOneStepIsHalfAUnitSpec)) topOneStepIsHalfAUnitUptoCard

/-- THE SECOND FORM's CARD OF 'compositortop.TopTraceExplains'. -/
def topTraceExplainsUptoCard : Claim7 := { stood := { row := topTraceExplainsUptoRow, standIns := [], harness := (true, "3a7db61620e390e5a8029fceef33c666a858f8756ec7ff12dee26ef8bb28f349"), looks := false }, kinds := [], alts := [], laidByText := true, laidKinds := [.data, .data], laidTests := true, laidLooks := .later }
def TopTraceExplainsUptoCardSaid : Prop := Claim7.holds Tryz.pinned (.plain (OpenSpec.upto topTraceExplainsSpec)) topTraceExplainsUptoCard

/-- THE SECOND FORM's CARD OF 'compositortop.TopAnyOrderOfRules'. -/
def topAnyOrderOfRulesUptoCard : Claim7 := { stood := { row := topAnyOrderOfRulesUptoRow, standIns := [], harness := (true, "3a7db61620e390e5a8029fceef33c666a858f8756ec7ff12dee26ef8bb28f349"), looks := false }, kinds := [], alts := [], laidByText := true, laidKinds := [.data, .data], laidTests := true, laidLooks := .later }
def TopAnyOrderOfRulesUptoCardSaid : Prop := Claim7.holds Tryz.pinned (.plain (OpenSpec.upto topAnyOrderOfRulesSpec)) topAnyOrderOfRulesUptoCard
end Rows
end Go.Proofs.YtbnmadpcdlnleaaGreatDoor
