/-
  DERIVED. GIVEN WITH THE SEED: THE CARDS: each row of YtidiifdiilahdaaDoorRows.lean that lists a variable, with what it lists TIED to the program's text (the seventh form; the later family's looks); each row that meets fmt, with fmt's text TOLD by the authors' own Lean function (tested against real Go, not proved from fmt's source: count such statements apart). THE CARD IS WHAT COUNTS. Prove the row's statement (the work); the ties are given (YtidiifdiilahdaaDoorTie.lean); close each card by the builder's one call (the guide's Derived/Test/ToyasCard.lean, 'card_holds'). Laid BY PROGRAM, IN A SANDBOX (cutbox-door.mjs). By AI agents, Wed Nov 11 2026. No macro, syntax, notation, axiom, sorry.
-/
import Derived.Test.YtidiifdiilahdaaDoorRows
import GoSem.ClaimSeven
namespace Go.Proofs.YtidiifdiilahdaaDoor
namespace Rows

/-- THE TIED CARD OF 'pochoirlaw05.PolyValues'. -/
def polyValuesCard : Claim7 := { stood := { row := polyValuesRow, standIns := [], harness := (true, "1a1ea29ba910d4d377b70f9600ac2a395f02966aa05f6cff76f8c2e769f05c28"), looks := false }, kinds := [], alts := [], laidByText := true, laidKinds := [.data], laidTests := true, laidLooks := .later }
def PolyValuesCardSaid : Prop := Claim7.holds Tryd.pinned (.plain (OpenSpec.ofChange polyValuesSpec)) polyValuesCard

/-- THE TIED CARD OF 'pochoirlaw05.PolyRests'. -/
def polyRestsCard : Claim7 := { stood := { row := polyRestsRow, standIns := [], harness := (true, "1a1ea29ba910d4d377b70f9600ac2a395f02966aa05f6cff76f8c2e769f05c28"), looks := false }, kinds := [], alts := [], laidByText := true, laidKinds := [.data], laidTests := true, laidLooks := .later }
def PolyRestsCardSaid : Prop := Claim7.holds Tryd.pinned (.plain (OpenSpec.ofChange polyRestsSpec)) polyRestsCard

/-- THE TIED CARD OF 'pochoirlaw05.PolyRoots'. -/
def polyRootsCard : Claim7 := { stood := { row := polyRootsRow, standIns := [], harness := (true, "1a1ea29ba910d4d377b70f9600ac2a395f02966aa05f6cff76f8c2e769f05c28"), looks := false }, kinds := [], alts := [], laidByText := true, laidKinds := [.data], laidTests := true, laidLooks := .later }
def PolyRootsCardSaid : Prop := Claim7.holds Tryd.pinned (.plain (OpenSpec.ofChange polyRootsSpec)) polyRootsCard

/-- THE TIED CARD OF 'pochoirlaw05.PolySums'. -/
def polySumsCard : Claim7 := { stood := { row := polySumsRow, standIns := [], harness := (true, "1a1ea29ba910d4d377b70f9600ac2a395f02966aa05f6cff76f8c2e769f05c28"), looks := false }, kinds := [], alts := [], laidByText := true, laidKinds := [.data], laidTests := true, laidLooks := .later }
def PolySumsCardSaid : Prop := Claim7.holds Tryd.pinned (.plain (OpenSpec.ofChange polySumsSpec)) polySumsCard

/-- THE SECOND FORM's CARD OF 'pochoirlaw05.PolyValues'. -/
def polyValuesUptoCard : Claim7 := { stood := { row := polyValuesUptoRow, standIns := [], harness := (true, "1a1ea29ba910d4d377b70f9600ac2a395f02966aa05f6cff76f8c2e769f05c28"), looks := false }, kinds := [], alts := [], laidByText := true, laidKinds := [.data], laidTests := true, laidLooks := .later }
def PolyValuesUptoCardSaid : Prop := Claim7.holds Tryd.pinned (.plain (OpenSpec.upto polyValuesSpec)) polyValuesUptoCard

/-- THE SECOND FORM's CARD OF 'pochoirlaw05.PolyRests'. -/
def polyRestsUptoCard : Claim7 := { stood := { row := polyRestsUptoRow, standIns := [], harness := (true, "1a1ea29ba910d4d377b70f9600ac2a395f02966aa05f6cff76f8c2e769f05c28"), looks := false }, kinds := [], alts := [], laidByText := true, laidKinds := [.data], laidTests := true, laidLooks := .later }
def PolyRestsUptoCardSaid : Prop := Claim7.holds Tryd.pinned (.plain (OpenSpec.upto polyRestsSpec)) polyRestsUptoCard

/-- THE SECOND FORM's CARD OF 'pochoirlaw05.PolyRoots'. -/
def polyRootsUptoCard : Claim7 := { stood := { row := polyRootsUptoRow, standIns := [], harness := (true, "1a1ea29ba910d4d377b70f9600ac2a395f02966aa05f6cff76f8c2e769f05c28"), looks := false }, kinds := [], alts := [], laidByText := true, laidKinds := [.data], laidTests := true, laidLooks := .later }
def PolyRootsUptoCardSaid : Prop := Claim7.holds Tryd.pinned (.plain (OpenSpec.upto polyRootsSpec)) polyRootsUptoCard

/-- THE SECOND FORM's CARD OF 'pochoirlaw05.PolySums'. -/
def polySumsUptoCard : Claim7 := { stood := { row := polySumsUptoRow, standIns := [], harness := (true, "1a1ea29ba910d4d377b70f9600ac2a395f02966aa05f6cff76f8c2e769f05c28"), looks := false }, kinds := [], alts := [], laidByText := true, laidKinds := [.data], laidTests := true, laidLooks := .later }
def PolySumsUptoCardSaid : Prop := Claim7.holds Tryd.pinned (.plain (OpenSpec.upto polySumsSpec)) polySumsUptoCard
end Rows
end Go.Proofs.YtidiifdiilahdaaDoor
