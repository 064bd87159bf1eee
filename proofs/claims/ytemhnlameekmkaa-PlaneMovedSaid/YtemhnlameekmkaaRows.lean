/-
  No cell of these rows narrows 'for every input' (looked for: loops, veiled, ifaces, maps, wideKeys, modest, calm, conditions, laid).
  DERIVED. THE GIVEN ROWS OF THIS SEAT. 9 by the template 'for every input the law returns true; each argument reads behind the call as it read before'; 0 by the template 'total and deterministic' (their statements: YtemhnlameekmkaaTotals.lean).
  GIVEN WITH THE SEED: the statements are not yours to turn. If you find one false, say at which input.
  Laid BY PROGRAM, IN A SANDBOX (cutbox-rows.mjs): the forced cells as the released guide's own fill.sh prints them over the translation 7852db5ddc6d1a83… (all of the seat's roots in one cut). By AI agents, Wed Nov 11 2026. No macro, syntax, notation, axiom, sorry.
-/
import Derived.Test.YtemhnlameekmkaaChecked
import GoSem.Claim
import GoSem.ClaimJoined
import GoSem.ClaimMapViews
import Derived.JoinedTies
import Derived.KernelRfl
namespace Go.Proofs.Ytemhnlameekmkaa
/- THE CELL 'sum', in the pinned program and in every row, IS THE sha256 OF THE DUMP (.gsa) THAT YtemhnlameekmkaaProg.lean LOADS. Nothing in Lean hashes anything: it is a label: what it is worth is what the hold of that sum in a sandbox is worth. -/
noncomputable def Try.pinned : Pinned := { name := "ytemhnlameekmkaa", sum := "7852db5ddc6d1a8303ba09867c978c715a264a42f63d29691a3a916d3be9555c", checked := Try.checked }
namespace Rows
def none {H : Type} : Left H := { results := [], args := [] }

/-- 'pochoirlaw18.PlaneMoved': WHATEVER THE INPUT: true; the input reads as it did. -/
def planeMovedSpec : ChangeSpec := { name := "planeMoved", fn := fun _ => fun
  | [d1, d2] => { results := [.lit (.bool true)], args := [d1, d2] }
  | _ => none }
def planeMovedRow : OpenClaim := { program := "ytemhnlameekmkaa", sum := "7852db5ddc6d1a8303ba09867c978c715a264a42f63d29691a3a916d3be9555c", func := "pochoir/pochoirlaw18.PlaneMoved", spec := "planeMoved", apart := false }
def PlaneMovedSaid : Prop := planeMovedRow.holds Try.pinned (OpenSpec.ofChange planeMovedSpec)

/-- ITS FALSE NEIGHBOUR: 'it returns false'. Refute it at one input. -/
def planeMovedWrong : ChangeSpec := { name := "planeMoved", fn := fun _ => fun
  | [d1, d2] => { results := [.lit (.bool false)], args := [d1, d2] }
  | _ => none }
def PlaneMovedWrongFalsely : Prop := planeMovedRow.holds Try.pinned (OpenSpec.ofChange planeMovedWrong)

/-- 'pochoirlaw18.PlaneMeets': WHATEVER THE INPUT: true; the input reads as it did. -/
def planeMeetsSpec : ChangeSpec := { name := "planeMeets", fn := fun _ => fun
  | [d1, d2, d3] => { results := [.lit (.bool true)], args := [d1, d2, d3] }
  | _ => none }
def planeMeetsRow : OpenClaim := { program := "ytemhnlameekmkaa", sum := "7852db5ddc6d1a8303ba09867c978c715a264a42f63d29691a3a916d3be9555c", func := "pochoir/pochoirlaw18.PlaneMeets", spec := "planeMeets", apart := false }
def PlaneMeetsSaid : Prop := planeMeetsRow.holds Try.pinned (OpenSpec.ofChange planeMeetsSpec)

/-- ITS FALSE NEIGHBOUR: 'it returns false'. Refute it at one input. -/
def planeMeetsWrong : ChangeSpec := { name := "planeMeets", fn := fun _ => fun
  | [d1, d2, d3] => { results := [.lit (.bool false)], args := [d1, d2, d3] }
  | _ => none }
def PlaneMeetsWrongFalsely : Prop := planeMeetsRow.holds Try.pinned (OpenSpec.ofChange planeMeetsWrong)

/-- 'pochoirlaw18.PlaneAsks': WHATEVER THE INPUT: true; the input reads as it did. -/
def planeAsksSpec : ChangeSpec := { name := "planeAsks", fn := fun _ => fun
  | [d1, d2, d3] => { results := [.lit (.bool true)], args := [d1, d2, d3] }
  | _ => none }
def planeAsksRow : OpenClaim := { program := "ytemhnlameekmkaa", sum := "7852db5ddc6d1a8303ba09867c978c715a264a42f63d29691a3a916d3be9555c", func := "pochoir/pochoirlaw18.PlaneAsks", spec := "planeAsks", apart := false }
def PlaneAsksSaid : Prop := planeAsksRow.holds Try.pinned (OpenSpec.ofChange planeAsksSpec)

/-- ITS FALSE NEIGHBOUR: 'it returns false'. Refute it at one input. -/
def planeAsksWrong : ChangeSpec := { name := "planeAsks", fn := fun _ => fun
  | [d1, d2, d3] => { results := [.lit (.bool false)], args := [d1, d2, d3] }
  | _ => none }
def PlaneAsksWrongFalsely : Prop := planeAsksRow.holds Try.pinned (OpenSpec.ofChange planeAsksWrong)

/-- 'pochoirlaw04.RootFloors': WHATEVER THE INPUT: true; the input reads as it did. -/
def rootFloorsSpec : ChangeSpec := { name := "rootFloors", fn := fun _ => fun
  | [d] => { results := [.lit (.bool true)], args := [d] }
  | _ => none }
def rootFloorsRow : OpenClaim := { program := "ytemhnlameekmkaa", sum := "7852db5ddc6d1a8303ba09867c978c715a264a42f63d29691a3a916d3be9555c", func := "pochoir/pochoirlaw04.RootFloors", spec := "rootFloors", inPlace := ["math/bits.Add64"], apart := false }
def RootFloorsSaid : Prop := rootFloorsRow.holds Try.pinned (OpenSpec.ofChange rootFloorsSpec)

/-- ITS FALSE NEIGHBOUR: 'it returns false'. Refute it at one input. -/
def rootFloorsWrong : ChangeSpec := { name := "rootFloors", fn := fun _ => fun
  | [d] => { results := [.lit (.bool false)], args := [d] }
  | _ => none }
def RootFloorsWrongFalsely : Prop := rootFloorsRow.holds Try.pinned (OpenSpec.ofChange rootFloorsWrong)

/-- 'pochoirlaw04.RootRatios': WHATEVER THE INPUT: true; the input reads as it did. -/
def rootRatiosSpec : ChangeSpec := { name := "rootRatios", fn := fun _ => fun
  | [d1, d2, d3] => { results := [.lit (.bool true)], args := [d1, d2, d3] }
  | _ => none }
def rootRatiosRow : OpenClaim := { program := "ytemhnlameekmkaa", sum := "7852db5ddc6d1a8303ba09867c978c715a264a42f63d29691a3a916d3be9555c", func := "pochoir/pochoirlaw04.RootRatios", spec := "rootRatios", inPlace := ["math/bits.Add64"], apart := false }
def RootRatiosSaid : Prop := rootRatiosRow.holds Try.pinned (OpenSpec.ofChange rootRatiosSpec)

/-- ITS FALSE NEIGHBOUR: 'it returns false'. Refute it at one input. -/
def rootRatiosWrong : ChangeSpec := { name := "rootRatios", fn := fun _ => fun
  | [d1, d2, d3] => { results := [.lit (.bool false)], args := [d1, d2, d3] }
  | _ => none }
def RootRatiosWrongFalsely : Prop := rootRatiosRow.holds Try.pinned (OpenSpec.ofChange rootRatiosWrong)

/-- 'pochoirlaw04.RootBetween': WHATEVER THE INPUT: true; the input reads as it did. -/
def rootBetweenSpec : ChangeSpec := { name := "rootBetween", fn := fun _ => fun
  | [d] => { results := [.lit (.bool true)], args := [d] }
  | _ => none }
def rootBetweenRow : OpenClaim := { program := "ytemhnlameekmkaa", sum := "7852db5ddc6d1a8303ba09867c978c715a264a42f63d29691a3a916d3be9555c", func := "pochoir/pochoirlaw04.RootBetween", spec := "rootBetween", inPlace := ["math/bits.Add64"], apart := false }
def RootBetweenSaid : Prop := rootBetweenRow.holds Try.pinned (OpenSpec.ofChange rootBetweenSpec)

/-- ITS FALSE NEIGHBOUR: 'it returns false'. Refute it at one input. -/
def rootBetweenWrong : ChangeSpec := { name := "rootBetween", fn := fun _ => fun
  | [d] => { results := [.lit (.bool false)], args := [d] }
  | _ => none }
def RootBetweenWrongFalsely : Prop := rootBetweenRow.holds Try.pinned (OpenSpec.ofChange rootBetweenWrong)

/-- 'pochoirlaw19.LineOf': WHATEVER THE INPUT: true; the input reads as it did. -/
def lineOfSpec : ChangeSpec := { name := "lineOf", fn := fun _ => fun
  | [d1, d2, d3] => { results := [.lit (.bool true)], args := [d1, d2, d3] }
  | _ => none }
def lineOfRow : OpenClaim := { program := "ytemhnlameekmkaa", sum := "7852db5ddc6d1a8303ba09867c978c715a264a42f63d29691a3a916d3be9555c", func := "pochoir/pochoirlaw19.LineOf", spec := "lineOf", inPlace := ["math/bits.Add64"], apart := false }
def LineOfSaid : Prop := lineOfRow.holds Try.pinned (OpenSpec.ofChange lineOfSpec)

/-- ITS FALSE NEIGHBOUR: 'it returns false'. Refute it at one input. -/
def lineOfWrong : ChangeSpec := { name := "lineOf", fn := fun _ => fun
  | [d1, d2, d3] => { results := [.lit (.bool false)], args := [d1, d2, d3] }
  | _ => none }
def LineOfWrongFalsely : Prop := lineOfRow.holds Try.pinned (OpenSpec.ofChange lineOfWrong)

/-- 'pochoirlaw19.LineLevels': WHATEVER THE INPUT: true; the input reads as it did. -/
def lineLevelsSpec : ChangeSpec := { name := "lineLevels", fn := fun _ => fun
  | [d1, d2, d3] => { results := [.lit (.bool true)], args := [d1, d2, d3] }
  | _ => none }
def lineLevelsRow : OpenClaim := { program := "ytemhnlameekmkaa", sum := "7852db5ddc6d1a8303ba09867c978c715a264a42f63d29691a3a916d3be9555c", func := "pochoir/pochoirlaw19.LineLevels", spec := "lineLevels", inPlace := ["math/bits.Add64"], apart := false }
def LineLevelsSaid : Prop := lineLevelsRow.holds Try.pinned (OpenSpec.ofChange lineLevelsSpec)

/-- ITS FALSE NEIGHBOUR: 'it returns false'. Refute it at one input. -/
def lineLevelsWrong : ChangeSpec := { name := "lineLevels", fn := fun _ => fun
  | [d1, d2, d3] => { results := [.lit (.bool false)], args := [d1, d2, d3] }
  | _ => none }
def LineLevelsWrongFalsely : Prop := lineLevelsRow.holds Try.pinned (OpenSpec.ofChange lineLevelsWrong)

/-- 'pochoirlaw19.LineOrder': WHATEVER THE INPUT: true; the input reads as it did. -/
def lineOrderSpec : ChangeSpec := { name := "lineOrder", fn := fun _ => fun
  | [d1, d2, d3] => { results := [.lit (.bool true)], args := [d1, d2, d3] }
  | _ => none }
def lineOrderRow : OpenClaim := { program := "ytemhnlameekmkaa", sum := "7852db5ddc6d1a8303ba09867c978c715a264a42f63d29691a3a916d3be9555c", func := "pochoir/pochoirlaw19.LineOrder", spec := "lineOrder", inPlace := ["math/bits.Add64"], apart := false }
def LineOrderSaid : Prop := lineOrderRow.holds Try.pinned (OpenSpec.ofChange lineOrderSpec)

/-- ITS FALSE NEIGHBOUR: 'it returns false'. Refute it at one input. -/
def lineOrderWrong : ChangeSpec := { name := "lineOrder", fn := fun _ => fun
  | [d1, d2, d3] => { results := [.lit (.bool false)], args := [d1, d2, d3] }
  | _ => none }
def LineOrderWrongFalsely : Prop := lineOrderRow.holds Try.pinned (OpenSpec.ofChange lineOrderWrong)

/- THE SECOND FORM. 'bulk': how many values and letters a reading holds, each counted each time it is reached (what is shared counts as often as it is met; a slice's spare places count too). A statement '..UptoSaid' is the law's where the arguments, and the package variables that the reading takes, are together of bulk at most 1048576: NARROWER than '..Said'. Prove '..Said' where nothing that the law and all that it calls make is longer than what came in: it says more and counts as full. Else prove '..UptoSaid'. A law counts once. -/
mutual
def uptoBulk {H : Type} : DataW H → Nat
  | .lit (.string bytes) => bytes.length + 1
  | .lit _ => 1
  | .nil => 1
  | .ptr d => uptoBulk d + 1
  | .slice elems spare => uptoBulkAll elems + uptoBulkAll spare + 1
  | .agg parts => uptoBulkAll parts + 1
  | .iface _ d => uptoBulk d + 1
  | .map entries => uptoBulkEntries entries + 1
  | .held _ => 1
def uptoBulkAll {H : Type} : List (DataW H) → Nat
  | [] => 0
  | d :: r => uptoBulk d + uptoBulkAll r
def uptoBulkEntries {H : Type} : List (Lit × DataW H) → Nat
  | [] => 0
  | x :: r => uptoBulkEntry x + uptoBulkEntries r
def uptoBulkEntry {H : Type} : Lit × DataW H → Nat
  | (.string bytes, d) => bytes.length + uptoBulk d + 1
  | (_, d) => uptoBulk d + 1
 end
def uptoSmall : (H : Type) → List (DataW H) → Bool := fun _ ds => decide (uptoBulkAll ds ≤ 1048576)
def OpenSpec.upto (s : _root_.Go.ChangeSpec) : _root_.Go.OpenSpec := { _root_.Go.OpenSpec.ofChange s with cond := some uptoSmall }

/-- 'pochoirlaw18.PlaneMoved', WHERE WHAT IT READS IS OF BULK AT MOST 1048576: true; the input reads as it did. -/
def planeMovedUptoRow : OpenClaim := { program := "ytemhnlameekmkaa", sum := "7852db5ddc6d1a8303ba09867c978c715a264a42f63d29691a3a916d3be9555c", func := "pochoir/pochoirlaw18.PlaneMoved", spec := "planeMoved", apart := false, narrowed := true }
def PlaneMovedUptoSaid : Prop := planeMovedUptoRow.holds Try.pinned (OpenSpec.upto planeMovedSpec)

/-- 'pochoirlaw18.PlaneMeets', WHERE WHAT IT READS IS OF BULK AT MOST 1048576: true; the input reads as it did. -/
def planeMeetsUptoRow : OpenClaim := { program := "ytemhnlameekmkaa", sum := "7852db5ddc6d1a8303ba09867c978c715a264a42f63d29691a3a916d3be9555c", func := "pochoir/pochoirlaw18.PlaneMeets", spec := "planeMeets", apart := false, narrowed := true }
def PlaneMeetsUptoSaid : Prop := planeMeetsUptoRow.holds Try.pinned (OpenSpec.upto planeMeetsSpec)

/-- 'pochoirlaw18.PlaneAsks', WHERE WHAT IT READS IS OF BULK AT MOST 1048576: true; the input reads as it did. -/
def planeAsksUptoRow : OpenClaim := { program := "ytemhnlameekmkaa", sum := "7852db5ddc6d1a8303ba09867c978c715a264a42f63d29691a3a916d3be9555c", func := "pochoir/pochoirlaw18.PlaneAsks", spec := "planeAsks", apart := false, narrowed := true }
def PlaneAsksUptoSaid : Prop := planeAsksUptoRow.holds Try.pinned (OpenSpec.upto planeAsksSpec)

/-- 'pochoirlaw04.RootFloors', WHERE WHAT IT READS IS OF BULK AT MOST 1048576: true; the input reads as it did. -/
def rootFloorsUptoRow : OpenClaim := { program := "ytemhnlameekmkaa", sum := "7852db5ddc6d1a8303ba09867c978c715a264a42f63d29691a3a916d3be9555c", func := "pochoir/pochoirlaw04.RootFloors", spec := "rootFloors", inPlace := ["math/bits.Add64"], apart := false, narrowed := true }
def RootFloorsUptoSaid : Prop := rootFloorsUptoRow.holds Try.pinned (OpenSpec.upto rootFloorsSpec)

/-- 'pochoirlaw04.RootRatios', WHERE WHAT IT READS IS OF BULK AT MOST 1048576: true; the input reads as it did. -/
def rootRatiosUptoRow : OpenClaim := { program := "ytemhnlameekmkaa", sum := "7852db5ddc6d1a8303ba09867c978c715a264a42f63d29691a3a916d3be9555c", func := "pochoir/pochoirlaw04.RootRatios", spec := "rootRatios", inPlace := ["math/bits.Add64"], apart := false, narrowed := true }
def RootRatiosUptoSaid : Prop := rootRatiosUptoRow.holds Try.pinned (OpenSpec.upto rootRatiosSpec)

/-- 'pochoirlaw04.RootBetween', WHERE WHAT IT READS IS OF BULK AT MOST 1048576: true; the input reads as it did. -/
def rootBetweenUptoRow : OpenClaim := { program := "ytemhnlameekmkaa", sum := "7852db5ddc6d1a8303ba09867c978c715a264a42f63d29691a3a916d3be9555c", func := "pochoir/pochoirlaw04.RootBetween", spec := "rootBetween", inPlace := ["math/bits.Add64"], apart := false, narrowed := true }
def RootBetweenUptoSaid : Prop := rootBetweenUptoRow.holds Try.pinned (OpenSpec.upto rootBetweenSpec)

/-- 'pochoirlaw19.LineOf', WHERE WHAT IT READS IS OF BULK AT MOST 1048576: true; the input reads as it did. -/
def lineOfUptoRow : OpenClaim := { program := "ytemhnlameekmkaa", sum := "7852db5ddc6d1a8303ba09867c978c715a264a42f63d29691a3a916d3be9555c", func := "pochoir/pochoirlaw19.LineOf", spec := "lineOf", inPlace := ["math/bits.Add64"], apart := false, narrowed := true }
def LineOfUptoSaid : Prop := lineOfUptoRow.holds Try.pinned (OpenSpec.upto lineOfSpec)

/-- 'pochoirlaw19.LineLevels', WHERE WHAT IT READS IS OF BULK AT MOST 1048576: true; the input reads as it did. -/
def lineLevelsUptoRow : OpenClaim := { program := "ytemhnlameekmkaa", sum := "7852db5ddc6d1a8303ba09867c978c715a264a42f63d29691a3a916d3be9555c", func := "pochoir/pochoirlaw19.LineLevels", spec := "lineLevels", inPlace := ["math/bits.Add64"], apart := false, narrowed := true }
def LineLevelsUptoSaid : Prop := lineLevelsUptoRow.holds Try.pinned (OpenSpec.upto lineLevelsSpec)

/-- 'pochoirlaw19.LineOrder', WHERE WHAT IT READS IS OF BULK AT MOST 1048576: true; the input reads as it did. -/
def lineOrderUptoRow : OpenClaim := { program := "ytemhnlameekmkaa", sum := "7852db5ddc6d1a8303ba09867c978c715a264a42f63d29691a3a916d3be9555c", func := "pochoir/pochoirlaw19.LineOrder", spec := "lineOrder", inPlace := ["math/bits.Add64"], apart := false, narrowed := true }
def LineOrderUptoSaid : Prop := lineOrderUptoRow.holds Try.pinned (OpenSpec.upto lineOrderSpec)

end Rows
end Go.Proofs.Ytemhnlameekmkaa
