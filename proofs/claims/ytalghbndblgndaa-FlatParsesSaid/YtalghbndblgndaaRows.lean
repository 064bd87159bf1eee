/-
  No cell of these rows narrows 'for every input' (looked for: loops, veiled, ifaces, maps, wideKeys, modest, calm, conditions, laid).
  DERIVED. THE GIVEN ROWS OF THIS SEAT. 12 by the template 'for every input the law returns true; each argument reads behind the call as it read before'; 0 by the template 'total and deterministic' (their statements: YtalghbndblgndaaTotals.lean).
  GIVEN WITH THE SEED: the statements are not yours to turn. If you find one false, say at which input.
  Laid BY PROGRAM, IN A SANDBOX (cutbox-rows.mjs): the forced cells as the released guide's own fill.sh prints them over the translation 2554284e3bd0fc3b… (all of the seat's roots in one cut). By AI agents, Wed Nov 11 2026. No macro, syntax, notation, axiom, sorry.
-/
import Derived.Test.YtalghbndblgndaaChecked
import GoSem.Claim
import GoSem.ClaimJoined
import GoSem.ClaimMapViews
import Derived.JoinedTies
import Derived.KernelRfl
namespace Go.Proofs.Ytalghbndblgndaa
/- THE CELL 'sum', in the pinned program and in every row, IS THE sha256 OF THE DUMP (.gsa) THAT YtalghbndblgndaaProg.lean LOADS. Nothing in Lean hashes anything: it is a label: what it is worth is what the hold of that sum in a sandbox is worth. -/
noncomputable def Try.pinned : Pinned := { name := "ytalghbndblgndaa", sum := "2554284e3bd0fc3bbae4e66d6708dfcf6692a431e4a48c8d46186c3c407c3231", checked := Try.checked }
namespace Rows
def none {H : Type} : Left H := { results := [], args := [] }

/-- 'pochoirlaw15.FlatOutlines': WHATEVER THE INPUT: true; the input reads as it did. -/
def flatOutlinesSpec : ChangeSpec := { name := "flatOutlines", fn := fun _ => fun
  | [d1, d2] => { results := [.lit (.bool true)], args := [d1, d2] }
  | _ => none }
def flatOutlinesRow : OpenClaim := { program := "ytalghbndblgndaa", sum := "2554284e3bd0fc3bbae4e66d6708dfcf6692a431e4a48c8d46186c3c407c3231", func := "pochoir/pochoirlaw15.FlatOutlines", spec := "flatOutlines", unfollowed := true, recurses := true, apart := false }
def FlatOutlinesSaid : Prop := flatOutlinesRow.holds Try.pinned (OpenSpec.ofChange flatOutlinesSpec)

/-- ITS FALSE NEIGHBOUR: 'it returns false'. Refute it at one input. -/
def flatOutlinesWrong : ChangeSpec := { name := "flatOutlines", fn := fun _ => fun
  | [d1, d2] => { results := [.lit (.bool false)], args := [d1, d2] }
  | _ => none }
def FlatOutlinesWrongFalsely : Prop := flatOutlinesRow.holds Try.pinned (OpenSpec.ofChange flatOutlinesWrong)

/-- 'pochoirlaw15.FlatRows': WHATEVER THE INPUT: true; the input reads as it did. -/
def flatRowsSpec : ChangeSpec := { name := "flatRows", fn := fun _ => fun
  | [d1, d2] => { results := [.lit (.bool true)], args := [d1, d2] }
  | _ => none }
def flatRowsRow : OpenClaim := { program := "ytalghbndblgndaa", sum := "2554284e3bd0fc3bbae4e66d6708dfcf6692a431e4a48c8d46186c3c407c3231", func := "pochoir/pochoirlaw15.FlatRows", spec := "flatRows", unfollowed := true, recurses := true, apart := false }
def FlatRowsSaid : Prop := flatRowsRow.holds Try.pinned (OpenSpec.ofChange flatRowsSpec)

/-- ITS FALSE NEIGHBOUR: 'it returns false'. Refute it at one input. -/
def flatRowsWrong : ChangeSpec := { name := "flatRows", fn := fun _ => fun
  | [d1, d2] => { results := [.lit (.bool false)], args := [d1, d2] }
  | _ => none }
def FlatRowsWrongFalsely : Prop := flatRowsRow.holds Try.pinned (OpenSpec.ofChange flatRowsWrong)

/-- 'pochoirlaw13.GlyfBack': WHATEVER THE INPUT: true; the input reads as it did. -/
def glyfBackSpec : ChangeSpec := { name := "glyfBack", fn := fun _ => fun
  | [d] => { results := [.lit (.bool true)], args := [d] }
  | _ => none }
def glyfBackRow : OpenClaim := { program := "ytalghbndblgndaa", sum := "2554284e3bd0fc3bbae4e66d6708dfcf6692a431e4a48c8d46186c3c407c3231", func := "pochoir/pochoirlaw13.GlyfBack", spec := "glyfBack", inPlace := ["internal/abi.NoEscape"], apart := false }
def GlyfBackSaid : Prop := glyfBackRow.holds Try.pinned (OpenSpec.ofChange glyfBackSpec)

/-- ITS FALSE NEIGHBOUR: 'it returns false'. Refute it at one input. -/
def glyfBackWrong : ChangeSpec := { name := "glyfBack", fn := fun _ => fun
  | [d] => { results := [.lit (.bool false)], args := [d] }
  | _ => none }
def GlyfBackWrongFalsely : Prop := glyfBackRow.holds Try.pinned (OpenSpec.ofChange glyfBackWrong)

/-- 'pochoirlaw13.GlyfAny': WHATEVER THE INPUT: true; the input reads as it did. -/
def glyfAnySpec : ChangeSpec := { name := "glyfAny", fn := fun _ => fun
  | [d] => { results := [.lit (.bool true)], args := [d] }
  | _ => none }
def glyfAnyRow : OpenClaim := { program := "ytalghbndblgndaa", sum := "2554284e3bd0fc3bbae4e66d6708dfcf6692a431e4a48c8d46186c3c407c3231", func := "pochoir/pochoirlaw13.GlyfAny", spec := "glyfAny", inPlace := ["internal/abi.NoEscape"], apart := false }
def GlyfAnySaid : Prop := glyfAnyRow.holds Try.pinned (OpenSpec.ofChange glyfAnySpec)

/-- ITS FALSE NEIGHBOUR: 'it returns false'. Refute it at one input. -/
def glyfAnyWrong : ChangeSpec := { name := "glyfAny", fn := fun _ => fun
  | [d] => { results := [.lit (.bool false)], args := [d] }
  | _ => none }
def GlyfAnyWrongFalsely : Prop := glyfAnyRow.holds Try.pinned (OpenSpec.ofChange glyfAnyWrong)

/-- 'pochoirlaw13.GlyfBounds': WHATEVER THE INPUT: true; the input reads as it did. -/
def glyfBoundsSpec : ChangeSpec := { name := "glyfBounds", fn := fun _ => fun
  | [d1, d2, d3] => { results := [.lit (.bool true)], args := [d1, d2, d3] }
  | _ => none }
def glyfBoundsRow : OpenClaim := { program := "ytalghbndblgndaa", sum := "2554284e3bd0fc3bbae4e66d6708dfcf6692a431e4a48c8d46186c3c407c3231", func := "pochoir/pochoirlaw13.GlyfBounds", spec := "glyfBounds", inPlace := ["internal/abi.NoEscape"], apart := false }
def GlyfBoundsSaid : Prop := glyfBoundsRow.holds Try.pinned (OpenSpec.ofChange glyfBoundsSpec)

/-- ITS FALSE NEIGHBOUR: 'it returns false'. Refute it at one input. -/
def glyfBoundsWrong : ChangeSpec := { name := "glyfBounds", fn := fun _ => fun
  | [d1, d2, d3] => { results := [.lit (.bool false)], args := [d1, d2, d3] }
  | _ => none }
def GlyfBoundsWrongFalsely : Prop := glyfBoundsRow.holds Try.pinned (OpenSpec.ofChange glyfBoundsWrong)

/-- 'pochoirlaw14.CompBack': WHATEVER THE INPUT: true; the input reads as it did. -/
def compBackSpec : ChangeSpec := { name := "compBack", fn := fun _ => fun
  | [d1, d2] => { results := [.lit (.bool true)], args := [d1, d2] }
  | _ => none }
def compBackRow : OpenClaim := { program := "ytalghbndblgndaa", sum := "2554284e3bd0fc3bbae4e66d6708dfcf6692a431e4a48c8d46186c3c407c3231", func := "pochoir/pochoirlaw14.CompBack", spec := "compBack", inPlace := ["internal/abi.NoEscape", "internal/bytealg.MakeNoZero"], apart := false }
def CompBackSaid : Prop := compBackRow.holds Try.pinned (OpenSpec.ofChange compBackSpec)

/-- ITS FALSE NEIGHBOUR: 'it returns false'. Refute it at one input. -/
def compBackWrong : ChangeSpec := { name := "compBack", fn := fun _ => fun
  | [d1, d2] => { results := [.lit (.bool false)], args := [d1, d2] }
  | _ => none }
def CompBackWrongFalsely : Prop := compBackRow.holds Try.pinned (OpenSpec.ofChange compBackWrong)

/-- 'pochoirlaw14.CompAny': WHATEVER THE INPUT: true; the input reads as it did. -/
def compAnySpec : ChangeSpec := { name := "compAny", fn := fun _ => fun
  | [d1, d2] => { results := [.lit (.bool true)], args := [d1, d2] }
  | _ => none }
def compAnyRow : OpenClaim := { program := "ytalghbndblgndaa", sum := "2554284e3bd0fc3bbae4e66d6708dfcf6692a431e4a48c8d46186c3c407c3231", func := "pochoir/pochoirlaw14.CompAny", spec := "compAny", inPlace := ["internal/abi.NoEscape", "internal/bytealg.MakeNoZero"], apart := false }
def CompAnySaid : Prop := compAnyRow.holds Try.pinned (OpenSpec.ofChange compAnySpec)

/-- ITS FALSE NEIGHBOUR: 'it returns false'. Refute it at one input. -/
def compAnyWrong : ChangeSpec := { name := "compAny", fn := fun _ => fun
  | [d1, d2] => { results := [.lit (.bool false)], args := [d1, d2] }
  | _ => none }
def CompAnyWrongFalsely : Prop := compAnyRow.holds Try.pinned (OpenSpec.ofChange compAnyWrong)

/-- 'pochoirlaw14.CompMoves': WHATEVER THE INPUT: true; the input reads as it did. -/
def compMovesSpec : ChangeSpec := { name := "compMoves", fn := fun _ => fun
  | [d1, d2, d3] => { results := [.lit (.bool true)], args := [d1, d2, d3] }
  | _ => none }
def compMovesRow : OpenClaim := { program := "ytalghbndblgndaa", sum := "2554284e3bd0fc3bbae4e66d6708dfcf6692a431e4a48c8d46186c3c407c3231", func := "pochoir/pochoirlaw14.CompMoves", spec := "compMoves", inPlace := ["internal/abi.NoEscape", "internal/bytealg.MakeNoZero"], apart := false }
def CompMovesSaid : Prop := compMovesRow.holds Try.pinned (OpenSpec.ofChange compMovesSpec)

/-- ITS FALSE NEIGHBOUR: 'it returns false'. Refute it at one input. -/
def compMovesWrong : ChangeSpec := { name := "compMoves", fn := fun _ => fun
  | [d1, d2, d3] => { results := [.lit (.bool false)], args := [d1, d2, d3] }
  | _ => none }
def CompMovesWrongFalsely : Prop := compMovesRow.holds Try.pinned (OpenSpec.ofChange compMovesWrong)

/-- 'pochoirlaw09.TableBack': WHATEVER THE INPUT: true; the input reads as it did. -/
def tableBackSpec : ChangeSpec := { name := "tableBack", fn := fun _ => fun
  | [d1, d2] => { results := [.lit (.bool true)], args := [d1, d2] }
  | _ => none }
def tableBackRow : OpenClaim := { program := "ytalghbndblgndaa", sum := "2554284e3bd0fc3bbae4e66d6708dfcf6692a431e4a48c8d46186c3c407c3231", func := "pochoir/pochoirlaw09.TableBack", spec := "tableBack", inPlace := ["internal/abi.NoEscape", "internal/bytealg.MakeNoZero"], apart := false }
def TableBackSaid : Prop := tableBackRow.holds Try.pinned (OpenSpec.ofChange tableBackSpec)

/-- ITS FALSE NEIGHBOUR: 'it returns false'. Refute it at one input. -/
def tableBackWrong : ChangeSpec := { name := "tableBack", fn := fun _ => fun
  | [d1, d2] => { results := [.lit (.bool false)], args := [d1, d2] }
  | _ => none }
def TableBackWrongFalsely : Prop := tableBackRow.holds Try.pinned (OpenSpec.ofChange tableBackWrong)

/-- 'pochoirlaw09.TableAny': WHATEVER THE INPUT: true; the input reads as it did. -/
def tableAnySpec : ChangeSpec := { name := "tableAny", fn := fun _ => fun
  | [d1, d2] => { results := [.lit (.bool true)], args := [d1, d2] }
  | _ => none }
def tableAnyRow : OpenClaim := { program := "ytalghbndblgndaa", sum := "2554284e3bd0fc3bbae4e66d6708dfcf6692a431e4a48c8d46186c3c407c3231", func := "pochoir/pochoirlaw09.TableAny", spec := "tableAny", inPlace := ["internal/abi.NoEscape", "internal/bytealg.MakeNoZero"], apart := false }
def TableAnySaid : Prop := tableAnyRow.holds Try.pinned (OpenSpec.ofChange tableAnySpec)

/-- ITS FALSE NEIGHBOUR: 'it returns false'. Refute it at one input. -/
def tableAnyWrong : ChangeSpec := { name := "tableAny", fn := fun _ => fun
  | [d1, d2] => { results := [.lit (.bool false)], args := [d1, d2] }
  | _ => none }
def TableAnyWrongFalsely : Prop := tableAnyRow.holds Try.pinned (OpenSpec.ofChange tableAnyWrong)

/-- 'pochoirlaw09.TableTurned': WHATEVER THE INPUT: true; the input reads as it did. -/
def tableTurnedSpec : ChangeSpec := { name := "tableTurned", fn := fun _ => fun
  | [d1, d2, d3] => { results := [.lit (.bool true)], args := [d1, d2, d3] }
  | _ => none }
def tableTurnedRow : OpenClaim := { program := "ytalghbndblgndaa", sum := "2554284e3bd0fc3bbae4e66d6708dfcf6692a431e4a48c8d46186c3c407c3231", func := "pochoir/pochoirlaw09.TableTurned", spec := "tableTurned", inPlace := ["internal/abi.NoEscape", "internal/bytealg.MakeNoZero"], apart := false }
def TableTurnedSaid : Prop := tableTurnedRow.holds Try.pinned (OpenSpec.ofChange tableTurnedSpec)

/-- ITS FALSE NEIGHBOUR: 'it returns false'. Refute it at one input. -/
def tableTurnedWrong : ChangeSpec := { name := "tableTurned", fn := fun _ => fun
  | [d1, d2, d3] => { results := [.lit (.bool false)], args := [d1, d2, d3] }
  | _ => none }
def TableTurnedWrongFalsely : Prop := tableTurnedRow.holds Try.pinned (OpenSpec.ofChange tableTurnedWrong)

/-- 'pochoirlaw15.FlatParses': WHATEVER THE INPUT: true; the input reads as it did. -/
def flatParsesSpec : ChangeSpec := { name := "flatParses", fn := fun _ => fun
  | [d1, d2] => { results := [.lit (.bool true)], args := [d1, d2] }
  | _ => none }
def flatParsesRow : OpenClaim := { program := "ytalghbndblgndaa", sum := "2554284e3bd0fc3bbae4e66d6708dfcf6692a431e4a48c8d46186c3c407c3231", func := "pochoir/pochoirlaw15.FlatParses", spec := "flatParses", unfollowed := true, recurses := true, apart := false }
def FlatParsesSaid : Prop := flatParsesRow.holds Try.pinned (OpenSpec.ofChange flatParsesSpec)

/-- ITS FALSE NEIGHBOUR: 'it returns false'. Refute it at one input. -/
def flatParsesWrong : ChangeSpec := { name := "flatParses", fn := fun _ => fun
  | [d1, d2] => { results := [.lit (.bool false)], args := [d1, d2] }
  | _ => none }
def FlatParsesWrongFalsely : Prop := flatParsesRow.holds Try.pinned (OpenSpec.ofChange flatParsesWrong)

/- THE SECOND FORM. 'bulk': how many values and letters a reading holds, each counted each time it is reached (what is shared counts as often as it is met; a slice's spare places count too). A statement '..UptoSaid' is the law's where the arguments, and the package variables that the reading takes, are together of bulk at most 1048576: NARROWER than '..Said'. Prove '..Said' where nothing that the law and all that it calls make is longer than what came in: it says more and counts as full. Else prove '..UptoSaid'. A law counts once. -/
mutual
def uptoBulk {H : Type} : DataW H → Nat
  | .lit (.string bytes) => bytes.length + 1
  | .lit _ => 1
  | .nil => 1
  | .ptr d => uptoBulk d + 1
  | .slice elems spare => uptoBulkAll elems + uptoBulkAll spare + 1
  | .agg parts => uptoBulkAll parts + 1
  | .iface _ d => uptoBulk d + 1
  | .map entries => uptoBulkEntries entries + 1
  | .held _ => 1
def uptoBulkAll {H : Type} : List (DataW H) → Nat
  | [] => 0
  | d :: r => uptoBulk d + uptoBulkAll r
def uptoBulkEntries {H : Type} : List (Lit × DataW H) → Nat
  | [] => 0
  | x :: r => uptoBulkEntry x + uptoBulkEntries r
def uptoBulkEntry {H : Type} : Lit × DataW H → Nat
  | (.string bytes, d) => bytes.length + uptoBulk d + 1
  | (_, d) => uptoBulk d + 1
 end
def uptoSmall : (H : Type) → List (DataW H) → Bool := fun _ ds => decide (uptoBulkAll ds ≤ 1048576)
def OpenSpec.upto (s : _root_.Go.ChangeSpec) : _root_.Go.OpenSpec := { _root_.Go.OpenSpec.ofChange s with cond := some uptoSmall }

/-- 'pochoirlaw15.FlatOutlines', WHERE WHAT IT READS IS OF BULK AT MOST 1048576: true; the input reads as it did. -/
def flatOutlinesUptoRow : OpenClaim := { program := "ytalghbndblgndaa", sum := "2554284e3bd0fc3bbae4e66d6708dfcf6692a431e4a48c8d46186c3c407c3231", func := "pochoir/pochoirlaw15.FlatOutlines", spec := "flatOutlines", unfollowed := true, recurses := true, apart := false, narrowed := true }
def FlatOutlinesUptoSaid : Prop := flatOutlinesUptoRow.holds Try.pinned (OpenSpec.upto flatOutlinesSpec)

/-- 'pochoirlaw15.FlatRows', WHERE WHAT IT READS IS OF BULK AT MOST 1048576: true; the input reads as it did. -/
def flatRowsUptoRow : OpenClaim := { program := "ytalghbndblgndaa", sum := "2554284e3bd0fc3bbae4e66d6708dfcf6692a431e4a48c8d46186c3c407c3231", func := "pochoir/pochoirlaw15.FlatRows", spec := "flatRows", unfollowed := true, recurses := true, apart := false, narrowed := true }
def FlatRowsUptoSaid : Prop := flatRowsUptoRow.holds Try.pinned (OpenSpec.upto flatRowsSpec)

/-- 'pochoirlaw13.GlyfBack', WHERE WHAT IT READS IS OF BULK AT MOST 1048576: true; the input reads as it did. -/
def glyfBackUptoRow : OpenClaim := { program := "ytalghbndblgndaa", sum := "2554284e3bd0fc3bbae4e66d6708dfcf6692a431e4a48c8d46186c3c407c3231", func := "pochoir/pochoirlaw13.GlyfBack", spec := "glyfBack", inPlace := ["internal/abi.NoEscape"], apart := false, narrowed := true }
def GlyfBackUptoSaid : Prop := glyfBackUptoRow.holds Try.pinned (OpenSpec.upto glyfBackSpec)

/-- 'pochoirlaw13.GlyfAny', WHERE WHAT IT READS IS OF BULK AT MOST 1048576: true; the input reads as it did. -/
def glyfAnyUptoRow : OpenClaim := { program := "ytalghbndblgndaa", sum := "2554284e3bd0fc3bbae4e66d6708dfcf6692a431e4a48c8d46186c3c407c3231", func := "pochoir/pochoirlaw13.GlyfAny", spec := "glyfAny", inPlace := ["internal/abi.NoEscape"], apart := false, narrowed := true }
def GlyfAnyUptoSaid : Prop := glyfAnyUptoRow.holds Try.pinned (OpenSpec.upto glyfAnySpec)

/-- 'pochoirlaw13.GlyfBounds', WHERE WHAT IT READS IS OF BULK AT MOST 1048576: true; the input reads as it did. -/
def glyfBoundsUptoRow : OpenClaim := { program := "ytalghbndblgndaa", sum := "2554284e3bd0fc3bbae4e66d6708dfcf6692a431e4a48c8d46186c3c407c3231", func := "pochoir/pochoirlaw13.GlyfBounds", spec := "glyfBounds", inPlace := ["internal/abi.NoEscape"], apart := false, narrowed := true }
def GlyfBoundsUptoSaid : Prop := glyfBoundsUptoRow.holds Try.pinned (OpenSpec.upto glyfBoundsSpec)

/-- 'pochoirlaw14.CompBack', WHERE WHAT IT READS IS OF BULK AT MOST 1048576: true; the input reads as it did. -/
def compBackUptoRow : OpenClaim := { program := "ytalghbndblgndaa", sum := "2554284e3bd0fc3bbae4e66d6708dfcf6692a431e4a48c8d46186c3c407c3231", func := "pochoir/pochoirlaw14.CompBack", spec := "compBack", inPlace := ["internal/abi.NoEscape", "internal/bytealg.MakeNoZero"], apart := false, narrowed := true }
def CompBackUptoSaid : Prop := compBackUptoRow.holds Try.pinned (OpenSpec.upto compBackSpec)

/-- 'pochoirlaw14.CompAny', WHERE WHAT IT READS IS OF BULK AT MOST 1048576: true; the input reads as it did. -/
def compAnyUptoRow : OpenClaim := { program := "ytalghbndblgndaa", sum := "2554284e3bd0fc3bbae4e66d6708dfcf6692a431e4a48c8d46186c3c407c3231", func := "pochoir/pochoirlaw14.CompAny", spec := "compAny", inPlace := ["internal/abi.NoEscape", "internal/bytealg.MakeNoZero"], apart := false, narrowed := true }
def CompAnyUptoSaid : Prop := compAnyUptoRow.holds Try.pinned (OpenSpec.upto compAnySpec)

/-- 'pochoirlaw14.CompMoves', WHERE WHAT IT READS IS OF BULK AT MOST 1048576: true; the input reads as it did. -/
def compMovesUptoRow : OpenClaim := { program := "ytalghbndblgndaa", sum := "2554284e3bd0fc3bbae4e66d6708dfcf6692a431e4a48c8d46186c3c407c3231", func := "pochoir/pochoirlaw14.CompMoves", spec := "compMoves", inPlace := ["internal/abi.NoEscape", "internal/bytealg.MakeNoZero"], apart := false, narrowed := true }
def CompMovesUptoSaid : Prop := compMovesUptoRow.holds Try.pinned (OpenSpec.upto compMovesSpec)

/-- 'pochoirlaw09.TableBack', WHERE WHAT IT READS IS OF BULK AT MOST 1048576: true; the input reads as it did. -/
def tableBackUptoRow : OpenClaim := { program := "ytalghbndblgndaa", sum := "2554284e3bd0fc3bbae4e66d6708dfcf6692a431e4a48c8d46186c3c407c3231", func := "pochoir/pochoirlaw09.TableBack", spec := "tableBack", inPlace := ["internal/abi.NoEscape", "internal/bytealg.MakeNoZero"], apart := false, narrowed := true }
def TableBackUptoSaid : Prop := tableBackUptoRow.holds Try.pinned (OpenSpec.upto tableBackSpec)

/-- 'pochoirlaw09.TableAny', WHERE WHAT IT READS IS OF BULK AT MOST 1048576: true; the input reads as it did. -/
def tableAnyUptoRow : OpenClaim := { program := "ytalghbndblgndaa", sum := "2554284e3bd0fc3bbae4e66d6708dfcf6692a431e4a48c8d46186c3c407c3231", func := "pochoir/pochoirlaw09.TableAny", spec := "tableAny", inPlace := ["internal/abi.NoEscape", "internal/bytealg.MakeNoZero"], apart := false, narrowed := true }
def TableAnyUptoSaid : Prop := tableAnyUptoRow.holds Try.pinned (OpenSpec.upto tableAnySpec)

/-- 'pochoirlaw09.TableTurned', WHERE WHAT IT READS IS OF BULK AT MOST 1048576: true; the input reads as it did. -/
def tableTurnedUptoRow : OpenClaim := { program := "ytalghbndblgndaa", sum := "2554284e3bd0fc3bbae4e66d6708dfcf6692a431e4a48c8d46186c3c407c3231", func := "pochoir/pochoirlaw09.TableTurned", spec := "tableTurned", inPlace := ["internal/abi.NoEscape", "internal/bytealg.MakeNoZero"], apart := false, narrowed := true }
def TableTurnedUptoSaid : Prop := tableTurnedUptoRow.holds Try.pinned (OpenSpec.upto tableTurnedSpec)

/-- 'pochoirlaw15.FlatParses', WHERE WHAT IT READS IS OF BULK AT MOST 1048576: true; the input reads as it did. -/
def flatParsesUptoRow : OpenClaim := { program := "ytalghbndblgndaa", sum := "2554284e3bd0fc3bbae4e66d6708dfcf6692a431e4a48c8d46186c3c407c3231", func := "pochoir/pochoirlaw15.FlatParses", spec := "flatParses", unfollowed := true, recurses := true, apart := false, narrowed := true }
def FlatParsesUptoSaid : Prop := flatParsesUptoRow.holds Try.pinned (OpenSpec.upto flatParsesSpec)

end Rows
end Go.Proofs.Ytalghbndblgndaa
