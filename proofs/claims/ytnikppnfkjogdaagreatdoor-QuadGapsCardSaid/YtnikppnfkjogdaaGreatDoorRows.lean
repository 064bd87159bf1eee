/-
  NARROWER THAN 'FOR EVERY INPUT', by the rows' own cells (each row's printed sentence says how): WindCounts: laid · WindTurned: laid · WindMirror: laid · WindParts: laid · QuadPoints: laid · QuadLines: laid · QuadGaps: laid.
  DERIVED. THE GIVEN ROWS OF THIS SEAT. 7 by the template 'for every input the law returns true; each argument reads behind the call as it read before'; 0 by the template 'total and deterministic' (their statements: YtnikppnfkjogdaaGreatDoorTotals.lean).
  GIVEN WITH THE SEED: the statements are not yours to turn. If you find one false, say at which input.
  Laid BY PROGRAM, IN A SANDBOX (cutbox-rows.mjs): the forced cells as the released guide's own fill.sh prints them over the translation 438b181a0b37549d… (all of the seat's roots in one cut). By AI agents, Wed Nov 11 2026. No macro, syntax, notation, axiom, sorry.
-/
import Derived.Test.YtnikppnfkjogdaaGreatDoorChecked
import GoSem.Claim
import GoSem.ClaimJoined
import GoSem.ClaimMapViews
import Derived.JoinedTies
import Derived.KernelRfl
namespace Go.Proofs.YtnikppnfkjogdaaGreatDoor
/- THE CELL 'sum', in the pinned program and in every row, IS THE sha256 OF THE DUMP (.gsa) THAT YtnikppnfkjogdaaGreatDoorProg.lean LOADS. Nothing in Lean hashes anything: it is a label: what it is worth is what the hold of that sum in a sandbox is worth. -/
noncomputable def Tryz.pinned : Pinned := { name := "ytnikppnfkjogdaagreatdoor", sum := "438b181a0b37549d14de86e549ff76c9614816c4cb3444edbb5f4f622f2be7e7", checked := Tryz.checked }
namespace Rows
def none {H : Type} : Left H := { results := [], args := [] }

/- WHAT THE LISTED PACKAGE-LEVEL VARIABLES READ AS WHEN THE CALL BEGINS. Each datum BY PROGRAM (the guide's laid-datum.mjs) off the statement by which the dump's own 'gosem.cut.vars' lays the variable. In a bare row this is a premise. The card (YtnikppnfkjogdaaGreatDoorCards.lean) ties it to the program's text. -/
def laid_math_bits_deBruijn64tab {H : Type} : DataW H := .agg [.lit (.int .u8 0), .lit (.int .u8 1), .lit (.int .u8 56), .lit (.int .u8 2), .lit (.int .u8 57), .lit (.int .u8 49), .lit (.int .u8 28), .lit (.int .u8 3), .lit (.int .u8 61), .lit (.int .u8 58), .lit (.int .u8 42), .lit (.int .u8 50), .lit (.int .u8 38), .lit (.int .u8 29), .lit (.int .u8 17), .lit (.int .u8 4), .lit (.int .u8 62), .lit (.int .u8 47), .lit (.int .u8 59), .lit (.int .u8 36), .lit (.int .u8 45), .lit (.int .u8 43), .lit (.int .u8 51), .lit (.int .u8 22), .lit (.int .u8 53), .lit (.int .u8 39), .lit (.int .u8 33), .lit (.int .u8 30), .lit (.int .u8 24), .lit (.int .u8 18), .lit (.int .u8 12), .lit (.int .u8 5), .lit (.int .u8 63), .lit (.int .u8 55), .lit (.int .u8 48), .lit (.int .u8 27), .lit (.int .u8 60), .lit (.int .u8 41), .lit (.int .u8 37), .lit (.int .u8 16), .lit (.int .u8 46), .lit (.int .u8 35), .lit (.int .u8 44), .lit (.int .u8 21), .lit (.int .u8 52), .lit (.int .u8 32), .lit (.int .u8 23), .lit (.int .u8 11), .lit (.int .u8 54), .lit (.int .u8 26), .lit (.int .u8 40), .lit (.int .u8 15), .lit (.int .u8 34), .lit (.int .u8 20), .lit (.int .u8 31), .lit (.int .u8 10), .lit (.int .u8 25), .lit (.int .u8 14), .lit (.int .u8 19), .lit (.int .u8 9), .lit (.int .u8 13), .lit (.int .u8 8), .lit (.int .u8 7), .lit (.int .u8 6)]

/-- 'pochoirlaw21.WindCounts': WHATEVER THE INPUT: true; the input reads as it did. -/
def windCountsSpec : ChangeSpec := { name := "windCounts", fn := fun _ => fun
  | [d1, d2] => { results := [.lit (.bool true)], args := [d1, d2] }
  | _ => none }
def windCountsRow : OpenClaim := { program := "ytnikppnfkjogdaagreatdoor", sum := "438b181a0b37549d14de86e549ff76c9614816c4cb3444edbb5f4f622f2be7e7", func := "pochoir/pochoirlaw21.WindCounts", spec := "windCounts", inPlace := ["math/bits.Sub64"], unfollowed := true, recurses := true, named := ["math/bits.deBruijn64tab", "math/bits.divideError", "math/bits.overflowError"], apart := false, laid := [("math/bits.deBruijn64tab", laid_math_bits_deBruijn64tab)] }
def WindCountsSaid : Prop := windCountsRow.holds Tryz.pinned (OpenSpec.ofChange windCountsSpec)

/-- ITS FALSE NEIGHBOUR: 'it returns false'. Refute it at one input. -/
def windCountsWrong : ChangeSpec := { name := "windCounts", fn := fun _ => fun
  | [d1, d2] => { results := [.lit (.bool false)], args := [d1, d2] }
  | _ => none }
def WindCountsWrongFalsely : Prop := windCountsRow.holds Tryz.pinned (OpenSpec.ofChange windCountsWrong)

/-- 'pochoirlaw21.WindTurned': WHATEVER THE INPUT: true; the input reads as it did. -/
def windTurnedSpec : ChangeSpec := { name := "windTurned", fn := fun _ => fun
  | [d1, d2] => { results := [.lit (.bool true)], args := [d1, d2] }
  | _ => none }
def windTurnedRow : OpenClaim := { program := "ytnikppnfkjogdaagreatdoor", sum := "438b181a0b37549d14de86e549ff76c9614816c4cb3444edbb5f4f622f2be7e7", func := "pochoir/pochoirlaw21.WindTurned", spec := "windTurned", inPlace := ["math/bits.Sub64"], unfollowed := true, recurses := true, named := ["math/bits.deBruijn64tab", "math/bits.divideError", "math/bits.overflowError"], apart := false, laid := [("math/bits.deBruijn64tab", laid_math_bits_deBruijn64tab)] }
def WindTurnedSaid : Prop := windTurnedRow.holds Tryz.pinned (OpenSpec.ofChange windTurnedSpec)

/-- ITS FALSE NEIGHBOUR: 'it returns false'. Refute it at one input. -/
def windTurnedWrong : ChangeSpec := { name := "windTurned", fn := fun _ => fun
  | [d1, d2] => { results := [.lit (.bool false)], args := [d1, d2] }
  | _ => none }
def WindTurnedWrongFalsely : Prop := windTurnedRow.holds Tryz.pinned (OpenSpec.ofChange windTurnedWrong)

/-- 'pochoirlaw21.WindMirror': WHATEVER THE INPUT: true; the input reads as it did. -/
def windMirrorSpec : ChangeSpec := { name := "windMirror", fn := fun _ => fun
  | [d1, d2] => { results := [.lit (.bool true)], args := [d1, d2] }
  | _ => none }
def windMirrorRow : OpenClaim := { program := "ytnikppnfkjogdaagreatdoor", sum := "438b181a0b37549d14de86e549ff76c9614816c4cb3444edbb5f4f622f2be7e7", func := "pochoir/pochoirlaw21.WindMirror", spec := "windMirror", inPlace := ["math/bits.Sub64"], unfollowed := true, recurses := true, named := ["math/bits.deBruijn64tab", "math/bits.divideError", "math/bits.overflowError"], apart := false, laid := [("math/bits.deBruijn64tab", laid_math_bits_deBruijn64tab)] }
def WindMirrorSaid : Prop := windMirrorRow.holds Tryz.pinned (OpenSpec.ofChange windMirrorSpec)

/-- ITS FALSE NEIGHBOUR: 'it returns false'. Refute it at one input. -/
def windMirrorWrong : ChangeSpec := { name := "windMirror", fn := fun _ => fun
  | [d1, d2] => { results := [.lit (.bool false)], args := [d1, d2] }
  | _ => none }
def WindMirrorWrongFalsely : Prop := windMirrorRow.holds Tryz.pinned (OpenSpec.ofChange windMirrorWrong)

/-- 'pochoirlaw21.WindParts': WHATEVER THE INPUT: true; the input reads as it did. -/
def windPartsSpec : ChangeSpec := { name := "windParts", fn := fun _ => fun
  | [d1, d2] => { results := [.lit (.bool true)], args := [d1, d2] }
  | _ => none }
def windPartsRow : OpenClaim := { program := "ytnikppnfkjogdaagreatdoor", sum := "438b181a0b37549d14de86e549ff76c9614816c4cb3444edbb5f4f622f2be7e7", func := "pochoir/pochoirlaw21.WindParts", spec := "windParts", inPlace := ["math/bits.Sub64"], unfollowed := true, recurses := true, named := ["math/bits.deBruijn64tab", "math/bits.divideError", "math/bits.overflowError"], apart := false, laid := [("math/bits.deBruijn64tab", laid_math_bits_deBruijn64tab)] }
def WindPartsSaid : Prop := windPartsRow.holds Tryz.pinned (OpenSpec.ofChange windPartsSpec)

/-- ITS FALSE NEIGHBOUR: 'it returns false'. Refute it at one input. -/
def windPartsWrong : ChangeSpec := { name := "windParts", fn := fun _ => fun
  | [d1, d2] => { results := [.lit (.bool false)], args := [d1, d2] }
  | _ => none }
def WindPartsWrongFalsely : Prop := windPartsRow.holds Tryz.pinned (OpenSpec.ofChange windPartsWrong)

/-- 'pochoirlaw20.QuadPoints': WHATEVER THE INPUT: true; the input reads as it did. -/
def quadPointsSpec : ChangeSpec := { name := "quadPoints", fn := fun _ => fun
  | [d1, d2, d3] => { results := [.lit (.bool true)], args := [d1, d2, d3] }
  | _ => none }
def quadPointsRow : OpenClaim := { program := "ytnikppnfkjogdaagreatdoor", sum := "438b181a0b37549d14de86e549ff76c9614816c4cb3444edbb5f4f622f2be7e7", func := "pochoir/pochoirlaw20.QuadPoints", spec := "quadPoints", inPlace := ["math/bits.Add64", "math/bits.Sub64"], unfollowed := true, recurses := true, named := ["math/bits.deBruijn64tab", "math/bits.divideError", "math/bits.overflowError"], apart := false, laid := [("math/bits.deBruijn64tab", laid_math_bits_deBruijn64tab)] }
def QuadPointsSaid : Prop := quadPointsRow.holds Tryz.pinned (OpenSpec.ofChange quadPointsSpec)

/-- ITS FALSE NEIGHBOUR: 'it returns false'. Refute it at one input. -/
def quadPointsWrong : ChangeSpec := { name := "quadPoints", fn := fun _ => fun
  | [d1, d2, d3] => { results := [.lit (.bool false)], args := [d1, d2, d3] }
  | _ => none }
def QuadPointsWrongFalsely : Prop := quadPointsRow.holds Tryz.pinned (OpenSpec.ofChange quadPointsWrong)

/-- 'pochoirlaw20.QuadLines': WHATEVER THE INPUT: true; the input reads as it did. -/
def quadLinesSpec : ChangeSpec := { name := "quadLines", fn := fun _ => fun
  | [d1, d2] => { results := [.lit (.bool true)], args := [d1, d2] }
  | _ => none }
def quadLinesRow : OpenClaim := { program := "ytnikppnfkjogdaagreatdoor", sum := "438b181a0b37549d14de86e549ff76c9614816c4cb3444edbb5f4f622f2be7e7", func := "pochoir/pochoirlaw20.QuadLines", spec := "quadLines", inPlace := ["math/bits.Add64", "math/bits.Sub64"], unfollowed := true, recurses := true, named := ["math/bits.deBruijn64tab", "math/bits.divideError", "math/bits.overflowError"], apart := false, laid := [("math/bits.deBruijn64tab", laid_math_bits_deBruijn64tab)] }
def QuadLinesSaid : Prop := quadLinesRow.holds Tryz.pinned (OpenSpec.ofChange quadLinesSpec)

/-- ITS FALSE NEIGHBOUR: 'it returns false'. Refute it at one input. -/
def quadLinesWrong : ChangeSpec := { name := "quadLines", fn := fun _ => fun
  | [d1, d2] => { results := [.lit (.bool false)], args := [d1, d2] }
  | _ => none }
def QuadLinesWrongFalsely : Prop := quadLinesRow.holds Tryz.pinned (OpenSpec.ofChange quadLinesWrong)

/-- 'pochoirlaw20.QuadGaps': WHATEVER THE INPUT: true; the input reads as it did. -/
def quadGapsSpec : ChangeSpec := { name := "quadGaps", fn := fun _ => fun
  | [d1, d2, d3] => { results := [.lit (.bool true)], args := [d1, d2, d3] }
  | _ => none }
def quadGapsRow : OpenClaim := { program := "ytnikppnfkjogdaagreatdoor", sum := "438b181a0b37549d14de86e549ff76c9614816c4cb3444edbb5f4f622f2be7e7", func := "pochoir/pochoirlaw20.QuadGaps", spec := "quadGaps", inPlace := ["math/bits.Add64", "math/bits.Sub64"], unfollowed := true, recurses := true, named := ["math/bits.deBruijn64tab", "math/bits.divideError", "math/bits.overflowError"], apart := false, laid := [("math/bits.deBruijn64tab", laid_math_bits_deBruijn64tab)] }
def QuadGapsSaid : Prop := quadGapsRow.holds Tryz.pinned (OpenSpec.ofChange quadGapsSpec)

/-- ITS FALSE NEIGHBOUR: 'it returns false'. Refute it at one input. -/
def quadGapsWrong : ChangeSpec := { name := "quadGaps", fn := fun _ => fun
  | [d1, d2, d3] => { results := [.lit (.bool false)], args := [d1, d2, d3] }
  | _ => none }
def QuadGapsWrongFalsely : Prop := quadGapsRow.holds Tryz.pinned (OpenSpec.ofChange quadGapsWrong)

/- THE SECOND FORM. 'bulk': how many values and letters a reading holds, each counted each time it is reached (what is shared counts as often as it is met; a slice's spare places count too). A statement '..UptoSaid' is the law's where the arguments, and the package variables that the reading takes, are together of bulk at most 1048576: NARROWER than '..Said'. Prove '..Said' where nothing that the law and all that it calls make is longer than what came in: it says more and counts as full. Else prove '..UptoSaid'. A law counts once. -/
mutual
def uptoBulk {H : Type} : DataW H → Nat
  | .lit (.string bytes) => bytes.length + 1
  | .lit _ => 1
  | .nil => 1
  | .ptr d => uptoBulk d + 1
  | .slice elems spare => uptoBulkAll elems + uptoBulkAll spare + 1
  | .agg parts => uptoBulkAll parts + 1
  | .iface _ d => uptoBulk d + 1
  | .map entries => uptoBulkEntries entries + 1
  | .held _ => 1
def uptoBulkAll {H : Type} : List (DataW H) → Nat
  | [] => 0
  | d :: r => uptoBulk d + uptoBulkAll r
def uptoBulkEntries {H : Type} : List (Lit × DataW H) → Nat
  | [] => 0
  | x :: r => uptoBulkEntry x + uptoBulkEntries r
def uptoBulkEntry {H : Type} : Lit × DataW H → Nat
  | (.string bytes, d) => bytes.length + uptoBulk d + 1
  | (_, d) => uptoBulk d + 1
 end
def uptoSmall : (H : Type) → List (DataW H) → Bool := fun _ ds => decide (uptoBulkAll ds ≤ 1048576)
def OpenSpec.upto (s : _root_.Go.ChangeSpec) : _root_.Go.OpenSpec := { _root_.Go.OpenSpec.ofChange s with cond := some uptoSmall }

/-- 'pochoirlaw21.WindCounts', WHERE WHAT IT READS IS OF BULK AT MOST 1048576: true; the input reads as it did. -/
def windCountsUptoRow : OpenClaim := { program := "ytnikppnfkjogdaagreatdoor", sum := "438b181a0b37549d14de86e549ff76c9614816c4cb3444edbb5f4f622f2be7e7", func := "pochoir/pochoirlaw21.WindCounts", spec := "windCounts", inPlace := ["math/bits.Sub64"], unfollowed := true, recurses := true, named := ["math/bits.deBruijn64tab", "math/bits.divideError", "math/bits.overflowError"], apart := false, laid := [("math/bits.deBruijn64tab", laid_math_bits_deBruijn64tab)], narrowed := true }
def WindCountsUptoSaid : Prop := windCountsUptoRow.holds Tryz.pinned (OpenSpec.upto windCountsSpec)

/-- 'pochoirlaw21.WindTurned', WHERE WHAT IT READS IS OF BULK AT MOST 1048576: true; the input reads as it did. -/
def windTurnedUptoRow : OpenClaim := { program := "ytnikppnfkjogdaagreatdoor", sum := "438b181a0b37549d14de86e549ff76c9614816c4cb3444edbb5f4f622f2be7e7", func := "pochoir/pochoirlaw21.WindTurned", spec := "windTurned", inPlace := ["math/bits.Sub64"], unfollowed := true, recurses := true, named := ["math/bits.deBruijn64tab", "math/bits.divideError", "math/bits.overflowError"], apart := false, laid := [("math/bits.deBruijn64tab", laid_math_bits_deBruijn64tab)], narrowed := true }
def WindTurnedUptoSaid : Prop := windTurnedUptoRow.holds Tryz.pinned (OpenSpec.upto windTurnedSpec)

/-- 'pochoirlaw21.WindMirror', WHERE WHAT IT READS IS OF BULK AT MOST 1048576: true; the input reads as it did. -/
def windMirrorUptoRow : OpenClaim := { program := "ytnikppnfkjogdaagreatdoor", sum := "438b181a0b37549d14de86e549ff76c9614816c4cb3444edbb5f4f622f2be7e7", func := "pochoir/pochoirlaw21.WindMirror", spec := "windMirror", inPlace := ["math/bits.Sub64"], unfollowed := true, recurses := true, named := ["math/bits.deBruijn64tab", "math/bits.divideError", "math/bits.overflowError"], apart := false, laid := [("math/bits.deBruijn64tab", laid_math_bits_deBruijn64tab)], narrowed := true }
def WindMirrorUptoSaid : Prop := windMirrorUptoRow.holds Tryz.pinned (OpenSpec.upto windMirrorSpec)

/-- 'pochoirlaw21.WindParts', WHERE WHAT IT READS IS OF BULK AT MOST 1048576: true; the input reads as it did. -/
def windPartsUptoRow : OpenClaim := { program := "ytnikppnfkjogdaagreatdoor", sum := "438b181a0b37549d14de86e549ff76c9614816c4cb3444edbb5f4f622f2be7e7", func := "pochoir/pochoirlaw21.WindParts", spec := "windParts", inPlace := ["math/bits.Sub64"], unfollowed := true, recurses := true, named := ["math/bits.deBruijn64tab", "math/bits.divideError", "math/bits.overflowError"], apart := false, laid := [("math/bits.deBruijn64tab", laid_math_bits_deBruijn64tab)], narrowed := true }
def WindPartsUptoSaid : Prop := windPartsUptoRow.holds Tryz.pinned (OpenSpec.upto windPartsSpec)

/-- 'pochoirlaw20.QuadPoints', WHERE WHAT IT READS IS OF BULK AT MOST 1048576: true; the input reads as it did. -/
def quadPointsUptoRow : OpenClaim := { program := "ytnikppnfkjogdaagreatdoor", sum := "438b181a0b37549d14de86e549ff76c9614816c4cb3444edbb5f4f622f2be7e7", func := "pochoir/pochoirlaw20.QuadPoints", spec := "quadPoints", inPlace := ["math/bits.Add64", "math/bits.Sub64"], unfollowed := true, recurses := true, named := ["math/bits.deBruijn64tab", "math/bits.divideError", "math/bits.overflowError"], apart := false, laid := [("math/bits.deBruijn64tab", laid_math_bits_deBruijn64tab)], narrowed := true }
def QuadPointsUptoSaid : Prop := quadPointsUptoRow.holds Tryz.pinned (OpenSpec.upto quadPointsSpec)

/-- 'pochoirlaw20.QuadLines', WHERE WHAT IT READS IS OF BULK AT MOST 1048576: true; the input reads as it did. -/
def quadLinesUptoRow : OpenClaim := { program := "ytnikppnfkjogdaagreatdoor", sum := "438b181a0b37549d14de86e549ff76c9614816c4cb3444edbb5f4f622f2be7e7", func := "pochoir/pochoirlaw20.QuadLines", spec := "quadLines", inPlace := ["math/bits.Add64", "math/bits.Sub64"], unfollowed := true, recurses := true, named := ["math/bits.deBruijn64tab", "math/bits.divideError", "math/bits.overflowError"], apart := false, laid := [("math/bits.deBruijn64tab", laid_math_bits_deBruijn64tab)], narrowed := true }
def QuadLinesUptoSaid : Prop := quadLinesUptoRow.holds Tryz.pinned (OpenSpec.upto quadLinesSpec)

/-- 'pochoirlaw20.QuadGaps', WHERE WHAT IT READS IS OF BULK AT MOST 1048576: true; the input reads as it did. -/
def quadGapsUptoRow : OpenClaim := { program := "ytnikppnfkjogdaagreatdoor", sum := "438b181a0b37549d14de86e549ff76c9614816c4cb3444edbb5f4f622f2be7e7", func := "pochoir/pochoirlaw20.QuadGaps", spec := "quadGaps", inPlace := ["math/bits.Add64", "math/bits.Sub64"], unfollowed := true, recurses := true, named := ["math/bits.deBruijn64tab", "math/bits.divideError", "math/bits.overflowError"], apart := false, laid := [("math/bits.deBruijn64tab", laid_math_bits_deBruijn64tab)], narrowed := true }
def QuadGapsUptoSaid : Prop := quadGapsUptoRow.holds Tryz.pinned (OpenSpec.upto quadGapsSpec)

end Rows
end Go.Proofs.YtnikppnfkjogdaaGreatDoor
