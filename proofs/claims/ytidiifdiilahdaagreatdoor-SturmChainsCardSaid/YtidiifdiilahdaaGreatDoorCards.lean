/-
  DERIVED. GIVEN WITH THE SEED: THE CARDS: each row of YtidiifdiilahdaaGreatDoorRows.lean that lists a variable, with what it lists TIED to the program's text (the seventh form; the later family's looks); each row that meets fmt, with fmt's text TOLD by the authors' own Lean function (tested against real Go, not proved from fmt's source: count such statements apart). THE CARD IS WHAT COUNTS. Prove the row's statement (the work); the ties are given (YtidiifdiilahdaaGreatDoorTie.lean); close each card by the builder's one call (the guide's Derived/Test/ToyasCard.lean, 'card_holds'). Laid BY PROGRAM, IN A SANDBOX (cutbox-door.mjs). By AI agents, Wed Nov 11 2026. No macro, syntax, notation, axiom, sorry.
-/
import Derived.Test.YtidiifdiilahdaaGreatDoorRows
import GoSem.ClaimSeven
namespace Go.Proofs.YtidiifdiilahdaaGreatDoor
namespace Rows

/-- THE TIED CARD OF 'pochoirlaw06.SturmChains'. -/
def sturmChainsCard : Claim7 := { stood := { row := sturmChainsRow, standIns := [], harness := (true, "ed00b1c0c796d43747bfed2cb8eb028a5d6f161ac14bf9d3ccac38e420ed9af9"), looks := false }, kinds := [], alts := [], laidByText := true, laidKinds := [.data], laidTests := true, laidLooks := .later }
def SturmChainsCardSaid : Prop := Claim7.holds Tryz.pinned (.plain (OpenSpec.ofChange sturmChainsSpec)) sturmChainsCard

/-- THE TIED CARD OF 'pochoirlaw06.SturmCounts'. -/
def sturmCountsCard : Claim7 := { stood := { row := sturmCountsRow, standIns := [], harness := (true, "ed00b1c0c796d43747bfed2cb8eb028a5d6f161ac14bf9d3ccac38e420ed9af9"), looks := false }, kinds := [], alts := [], laidByText := true, laidKinds := [.data], laidTests := true, laidLooks := .later }
def SturmCountsCardSaid : Prop := Claim7.holds Tryz.pinned (.plain (OpenSpec.ofChange sturmCountsSpec)) sturmCountsCard

/-- THE TIED CARD OF 'pochoirlaw06.SturmProducts'. -/
def sturmProductsCard : Claim7 := { stood := { row := sturmProductsRow, standIns := [], harness := (true, "ed00b1c0c796d43747bfed2cb8eb028a5d6f161ac14bf9d3ccac38e420ed9af9"), looks := false }, kinds := [], alts := [], laidByText := true, laidKinds := [.data], laidTests := true, laidLooks := .later }
def SturmProductsCardSaid : Prop := Claim7.holds Tryz.pinned (.plain (OpenSpec.ofChange sturmProductsSpec)) sturmProductsCard

/-- THE SECOND FORM's CARD OF 'pochoirlaw06.SturmChains'. -/
def sturmChainsUptoCard : Claim7 := { stood := { row := sturmChainsUptoRow, standIns := [], harness := (true, "ed00b1c0c796d43747bfed2cb8eb028a5d6f161ac14bf9d3ccac38e420ed9af9"), looks := false }, kinds := [], alts := [], laidByText := true, laidKinds := [.data], laidTests := true, laidLooks := .later }
def SturmChainsUptoCardSaid : Prop := Claim7.holds Tryz.pinned (.plain (OpenSpec.upto sturmChainsSpec)) sturmChainsUptoCard

/-- THE SECOND FORM's CARD OF 'pochoirlaw06.SturmCounts'. -/
def sturmCountsUptoCard : Claim7 := { stood := { row := sturmCountsUptoRow, standIns := [], harness := (true, "ed00b1c0c796d43747bfed2cb8eb028a5d6f161ac14bf9d3ccac38e420ed9af9"), looks := false }, kinds := [], alts := [], laidByText := true, laidKinds := [.data], laidTests := true, laidLooks := .later }
def SturmCountsUptoCardSaid : Prop := Claim7.holds Tryz.pinned (.plain (OpenSpec.upto sturmCountsSpec)) sturmCountsUptoCard

/-- THE SECOND FORM's CARD OF 'pochoirlaw06.SturmProducts'. -/
def sturmProductsUptoCard : Claim7 := { stood := { row := sturmProductsUptoRow, standIns := [], harness := (true, "ed00b1c0c796d43747bfed2cb8eb028a5d6f161ac14bf9d3ccac38e420ed9af9"), looks := false }, kinds := [], alts := [], laidByText := true, laidKinds := [.data], laidTests := true, laidLooks := .later }
def SturmProductsUptoCardSaid : Prop := Claim7.holds Tryz.pinned (.plain (OpenSpec.upto sturmProductsSpec)) sturmProductsUptoCard
end Rows
end Go.Proofs.YtidiifdiilahdaaGreatDoor
