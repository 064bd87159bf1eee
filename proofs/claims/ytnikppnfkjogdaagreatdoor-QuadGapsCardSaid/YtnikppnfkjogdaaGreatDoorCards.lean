/-
  DERIVED. GIVEN WITH THE SEED: THE CARDS: each row of YtnikppnfkjogdaaGreatDoorRows.lean that lists a variable, with what it lists TIED to the program's text (the seventh form; the later family's looks); each row that meets fmt, with fmt's text TOLD by the authors' own Lean function (tested against real Go, not proved from fmt's source: count such statements apart). THE CARD IS WHAT COUNTS. Prove the row's statement (the work); the ties are given (YtnikppnfkjogdaaGreatDoorTie.lean); close each card by the builder's one call (the guide's Derived/Test/ToyasCard.lean, 'card_holds'). Laid BY PROGRAM, IN A SANDBOX (cutbox-door.mjs). By AI agents, Wed Nov 11 2026. No macro, syntax, notation, axiom, sorry.
-/
import Derived.Test.YtnikppnfkjogdaaGreatDoorRows
import GoSem.ClaimSeven
namespace Go.Proofs.YtnikppnfkjogdaaGreatDoor
namespace Rows

/-- THE TIED CARD OF 'pochoirlaw21.WindCounts'. -/
def windCountsCard : Claim7 := { stood := { row := windCountsRow, standIns := [], harness := (true, "142d5c3b5cf9e1df8afa8acc0cc25bac98bd9af2571d28f2a3c88c6d7228039c"), looks := false }, kinds := [], alts := [], laidByText := true, laidKinds := [.data], laidTests := true, laidLooks := .later }
def WindCountsCardSaid : Prop := Claim7.holds Tryz.pinned (.plain (OpenSpec.ofChange windCountsSpec)) windCountsCard

/-- THE TIED CARD OF 'pochoirlaw21.WindTurned'. -/
def windTurnedCard : Claim7 := { stood := { row := windTurnedRow, standIns := [], harness := (true, "142d5c3b5cf9e1df8afa8acc0cc25bac98bd9af2571d28f2a3c88c6d7228039c"), looks := false }, kinds := [], alts := [], laidByText := true, laidKinds := [.data], laidTests := true, laidLooks := .later }
def WindTurnedCardSaid : Prop := Claim7.holds Tryz.pinned (.plain (OpenSpec.ofChange windTurnedSpec)) windTurnedCard

/-- THE TIED CARD OF 'pochoirlaw21.WindMirror'. -/
def windMirrorCard : Claim7 := { stood := { row := windMirrorRow, standIns := [], harness := (true, "142d5c3b5cf9e1df8afa8acc0cc25bac98bd9af2571d28f2a3c88c6d7228039c"), looks := false }, kinds := [], alts := [], laidByText := true, laidKinds := [.data], laidTests := true, laidLooks := .later }
def WindMirrorCardSaid : Prop := Claim7.holds Tryz.pinned (.plain (OpenSpec.ofChange windMirrorSpec)) windMirrorCard

/-- THE TIED CARD OF 'pochoirlaw21.WindParts'. -/
def windPartsCard : Claim7 := { stood := { row := windPartsRow, standIns := [], harness := (true, "142d5c3b5cf9e1df8afa8acc0cc25bac98bd9af2571d28f2a3c88c6d7228039c"), looks := false }, kinds := [], alts := [], laidByText := true, laidKinds := [.data], laidTests := true, laidLooks := .later }
def WindPartsCardSaid : Prop := Claim7.holds Tryz.pinned (.plain (OpenSpec.ofChange windPartsSpec)) windPartsCard

/-- THE TIED CARD OF 'pochoirlaw20.QuadPoints'. -/
def quadPointsCard : Claim7 := { stood := { row := quadPointsRow, standIns := [], harness := (true, "142d5c3b5cf9e1df8afa8acc0cc25bac98bd9af2571d28f2a3c88c6d7228039c"), looks := false }, kinds := [], alts := [], laidByText := true, laidKinds := [.data], laidTests := true, laidLooks := .later }
def QuadPointsCardSaid : Prop := Claim7.holds Tryz.pinned (.plain (OpenSpec.ofChange quadPointsSpec)) quadPointsCard

/-- THE TIED CARD OF 'pochoirlaw20.QuadLines'. -/
def quadLinesCard : Claim7 := { stood := { row := quadLinesRow, standIns := [], harness := (true, "142d5c3b5cf9e1df8afa8acc0cc25bac98bd9af2571d28f2a3c88c6d7228039c"), looks := false }, kinds := [], alts := [], laidByText := true, laidKinds := [.data], laidTests := true, laidLooks := .later }
def QuadLinesCardSaid : Prop := Claim7.holds Tryz.pinned (.plain (OpenSpec.ofChange quadLinesSpec)) quadLinesCard

/-- THE TIED CARD OF 'pochoirlaw20.QuadGaps'. -/
def quadGapsCard : Claim7 := { stood := { row := quadGapsRow, standIns := [], harness := (true, "142d5c3b5cf9e1df8afa8acc0cc25bac98bd9af2571d28f2a3c88c6d7228039c"), looks := false }, kinds := [], alts := [], laidByText := true, laidKinds := [.data], laidTests := true, laidLooks := .later }
def QuadGapsCardSaid : Prop := Claim7.holds Tryz.pinned (.plain (OpenSpec.ofChange quadGapsSpec)) quadGapsCard

/-- THE SECOND FORM's CARD OF 'pochoirlaw21.WindCounts'. -/
def windCountsUptoCard : Claim7 := { stood := { row := windCountsUptoRow, standIns := [], harness := (true, "142d5c3b5cf9e1df8afa8acc0cc25bac98bd9af2571d28f2a3c88c6d7228039c"), looks := false }, kinds := [], alts := [], laidByText := true, laidKinds := [.data], laidTests := true, laidLooks := .later }
def WindCountsUptoCardSaid : Prop := Claim7.holds Tryz.pinned (.plain (OpenSpec.upto windCountsSpec)) windCountsUptoCard

/-- THE SECOND FORM's CARD OF 'pochoirlaw21.WindTurned'. -/
def windTurnedUptoCard : Claim7 := { stood := { row := windTurnedUptoRow, standIns := [], harness := (true, "142d5c3b5cf9e1df8afa8acc0cc25bac98bd9af2571d28f2a3c88c6d7228039c"), looks := false }, kinds := [], alts := [], laidByText := true, laidKinds := [.data], laidTests := true, laidLooks := .later }
def WindTurnedUptoCardSaid : Prop := Claim7.holds Tryz.pinned (.plain (OpenSpec.upto windTurnedSpec)) windTurnedUptoCard

/-- THE SECOND FORM's CARD OF 'pochoirlaw21.WindMirror'. -/
def windMirrorUptoCard : Claim7 := { stood := { row := windMirrorUptoRow, standIns := [], harness := (true, "142d5c3b5cf9e1df8afa8acc0cc25bac98bd9af2571d28f2a3c88c6d7228039c"), looks := false }, kinds := [], alts := [], laidByText := true, laidKinds := [.data], laidTests := true, laidLooks := .later }
def WindMirrorUptoCardSaid : Prop := Claim7.holds Tryz.pinned (.plain (OpenSpec.upto windMirrorSpec)) windMirrorUptoCard

/-- THE SECOND FORM's CARD OF 'pochoirlaw21.WindParts'. -/
def windPartsUptoCard : Claim7 := { stood := { row := windPartsUptoRow, standIns := [], harness := (true, "142d5c3b5cf9e1df8afa8acc0cc25bac98bd9af2571d28f2a3c88c6d7228039c"), looks := false }, kinds := [], alts := [], laidByText := true, laidKinds := [.data], laidTests := true, laidLooks := .later }
def WindPartsUptoCardSaid : Prop := Claim7.holds Tryz.pinned (.plain (OpenSpec.upto windPartsSpec)) windPartsUptoCard

/-- THE SECOND FORM's CARD OF 'pochoirlaw20.QuadPoints'. -/
def quadPointsUptoCard : Claim7 := { stood := { row := quadPointsUptoRow, standIns := [], harness := (true, "142d5c3b5cf9e1df8afa8acc0cc25bac98bd9af2571d28f2a3c88c6d7228039c"), looks := false }, kinds := [], alts := [], laidByText := true, laidKinds := [.data], laidTests := true, laidLooks := .later }
def QuadPointsUptoCardSaid : Prop := Claim7.holds Tryz.pinned (.plain (OpenSpec.upto quadPointsSpec)) quadPointsUptoCard

/-- THE SECOND FORM's CARD OF 'pochoirlaw20.QuadLines'. -/
def quadLinesUptoCard : Claim7 := { stood := { row := quadLinesUptoRow, standIns := [], harness := (true, "142d5c3b5cf9e1df8afa8acc0cc25bac98bd9af2571d28f2a3c88c6d7228039c"), looks := false }, kinds := [], alts := [], laidByText := true, laidKinds := [.data], laidTests := true, laidLooks := .later }
def QuadLinesUptoCardSaid : Prop := Claim7.holds Tryz.pinned (.plain (OpenSpec.upto quadLinesSpec)) quadLinesUptoCard

/-- THE SECOND FORM's CARD OF 'pochoirlaw20.QuadGaps'. -/
def quadGapsUptoCard : Claim7 := { stood := { row := quadGapsUptoRow, standIns := [], harness := (true, "142d5c3b5cf9e1df8afa8acc0cc25bac98bd9af2571d28f2a3c88c6d7228039c"), looks := false }, kinds := [], alts := [], laidByText := true, laidKinds := [.data], laidTests := true, laidLooks := .later }
def QuadGapsUptoCardSaid : Prop := Claim7.holds Tryz.pinned (.plain (OpenSpec.upto quadGapsSpec)) quadGapsUptoCard
end Rows
end Go.Proofs.YtnikppnfkjogdaaGreatDoor
