/-
  No cell of these rows narrows 'for every input' (looked for: loops, veiled, ifaces, maps, wideKeys, modest, calm, conditions, laid).
  DERIVED. THE GIVEN ROWS OF THIS SEAT. 9 by the template 'for every input the law returns true; each argument reads behind the call as it read before'; 0 by the template 'total and deterministic' (their statements: YtalgppclaolonaaTotals.lean).
  GIVEN WITH THE SEED: the statements are not yours to turn. If you find one false, say at which input.
  Laid BY PROGRAM, IN A SANDBOX (cutbox-rows.mjs): the forced cells as the released guide's own fill.sh prints them over the translation d8a6a5a51400dfe9… (all of the seat's roots in one cut). By AI agents, Wed Nov 11 2026. No macro, syntax, notation, axiom, sorry.
-/
import Derived.Test.YtalgppclaolonaaChecked
import GoSem.Claim
import GoSem.ClaimJoined
import GoSem.ClaimMapViews
import Derived.JoinedTies
import Derived.KernelRfl
namespace Go.Proofs.Ytalgppclaolonaa
/- THE CELL 'sum', in the pinned program and in every row, IS THE sha256 OF THE DUMP (.gsa) THAT YtalgppclaolonaaProg.lean LOADS. Nothing in Lean hashes anything: it is a label: what it is worth is what the hold of that sum in a sandbox is worth. -/
noncomputable def Try.pinned : Pinned := { name := "ytalgppclaolonaa", sum := "d8a6a5a51400dfe963d9381091806a6eb9997635bd90317d8211c9ad250db665", checked := Try.checked }
namespace Rows
def none {H : Type} : Left H := { results := [], args := [] }

/-- 'pochoirlaw22.CornerAll': WHATEVER THE INPUT: true; the input reads as it did. -/
def cornerAllSpec : ChangeSpec := { name := "cornerAll", fn := fun _ => fun
  | [d] => { results := [.lit (.bool true)], args := [d] }
  | _ => none }
def cornerAllRow : OpenClaim := { program := "ytalgppclaolonaa", sum := "d8a6a5a51400dfe963d9381091806a6eb9997635bd90317d8211c9ad250db665", func := "pochoir/pochoirlaw22.CornerAll", spec := "cornerAll", inPlace := ["math/bits.Add64"], apart := false }
def CornerAllSaid : Prop := cornerAllRow.holds Try.pinned (OpenSpec.ofChange cornerAllSpec)

/-- ITS FALSE NEIGHBOUR: 'it returns false'. Refute it at one input. -/
def cornerAllWrong : ChangeSpec := { name := "cornerAll", fn := fun _ => fun
  | [d] => { results := [.lit (.bool false)], args := [d] }
  | _ => none }
def CornerAllWrongFalsely : Prop := cornerAllRow.holds Try.pinned (OpenSpec.ofChange cornerAllWrong)

/-- 'pochoirlaw22.CornerTurned': WHATEVER THE INPUT: true; the input reads as it did. -/
def cornerTurnedSpec : ChangeSpec := { name := "cornerTurned", fn := fun _ => fun
  | [d1, d2, d3] => { results := [.lit (.bool true)], args := [d1, d2, d3] }
  | _ => none }
def cornerTurnedRow : OpenClaim := { program := "ytalgppclaolonaa", sum := "d8a6a5a51400dfe963d9381091806a6eb9997635bd90317d8211c9ad250db665", func := "pochoir/pochoirlaw22.CornerTurned", spec := "cornerTurned", inPlace := ["math/bits.Add64"], unfollowed := true, recurses := true, apart := false }
def CornerTurnedSaid : Prop := cornerTurnedRow.holds Try.pinned (OpenSpec.ofChange cornerTurnedSpec)

/-- ITS FALSE NEIGHBOUR: 'it returns false'. Refute it at one input. -/
def cornerTurnedWrong : ChangeSpec := { name := "cornerTurned", fn := fun _ => fun
  | [d1, d2, d3] => { results := [.lit (.bool false)], args := [d1, d2, d3] }
  | _ => none }
def CornerTurnedWrongFalsely : Prop := cornerTurnedRow.holds Try.pinned (OpenSpec.ofChange cornerTurnedWrong)

/-- 'pochoirlaw24.SideAsks': WHATEVER THE INPUT: true; the input reads as it did. -/
def sideAsksSpec : ChangeSpec := { name := "sideAsks", fn := fun _ => fun
  | [d1, d2] => { results := [.lit (.bool true)], args := [d1, d2] }
  | _ => none }
def sideAsksRow : OpenClaim := { program := "ytalgppclaolonaa", sum := "d8a6a5a51400dfe963d9381091806a6eb9997635bd90317d8211c9ad250db665", func := "pochoir/pochoirlaw24.SideAsks", spec := "sideAsks", unfollowed := true, recurses := true, apart := false }
def SideAsksSaid : Prop := sideAsksRow.holds Try.pinned (OpenSpec.ofChange sideAsksSpec)

/-- ITS FALSE NEIGHBOUR: 'it returns false'. Refute it at one input. -/
def sideAsksWrong : ChangeSpec := { name := "sideAsks", fn := fun _ => fun
  | [d1, d2] => { results := [.lit (.bool false)], args := [d1, d2] }
  | _ => none }
def SideAsksWrongFalsely : Prop := sideAsksRow.holds Try.pinned (OpenSpec.ofChange sideAsksWrong)

/-- 'pochoirlaw22.CornerAsks': WHATEVER THE INPUT: true; the input reads as it did. -/
def cornerAsksSpec : ChangeSpec := { name := "cornerAsks", fn := fun _ => fun
  | [d1, d2] => { results := [.lit (.bool true)], args := [d1, d2] }
  | _ => none }
def cornerAsksRow : OpenClaim := { program := "ytalgppclaolonaa", sum := "d8a6a5a51400dfe963d9381091806a6eb9997635bd90317d8211c9ad250db665", func := "pochoir/pochoirlaw22.CornerAsks", spec := "cornerAsks", inPlace := ["math/bits.Add64"], apart := false }
def CornerAsksSaid : Prop := cornerAsksRow.holds Try.pinned (OpenSpec.ofChange cornerAsksSpec)

/-- ITS FALSE NEIGHBOUR: 'it returns false'. Refute it at one input. -/
def cornerAsksWrong : ChangeSpec := { name := "cornerAsks", fn := fun _ => fun
  | [d1, d2] => { results := [.lit (.bool false)], args := [d1, d2] }
  | _ => none }
def CornerAsksWrongFalsely : Prop := cornerAsksRow.holds Try.pinned (OpenSpec.ofChange cornerAsksWrong)

/-- 'pochoirlaw38.AreaSix': WHATEVER THE INPUT: true; the input reads as it did. -/
def areaSixSpec : ChangeSpec := { name := "areaSix", fn := fun _ => fun
  | [d] => { results := [.lit (.bool true)], args := [d] }
  | _ => none }
def areaSixRow : OpenClaim := { program := "ytalgppclaolonaa", sum := "d8a6a5a51400dfe963d9381091806a6eb9997635bd90317d8211c9ad250db665", func := "pochoir/pochoirlaw38.AreaSix", spec := "areaSix", apart := false }
def AreaSixSaid : Prop := areaSixRow.holds Try.pinned (OpenSpec.ofChange areaSixSpec)

/-- ITS FALSE NEIGHBOUR: 'it returns false'. Refute it at one input. -/
def areaSixWrong : ChangeSpec := { name := "areaSix", fn := fun _ => fun
  | [d] => { results := [.lit (.bool false)], args := [d] }
  | _ => none }
def AreaSixWrongFalsely : Prop := areaSixRow.holds Try.pinned (OpenSpec.ofChange areaSixWrong)

/-- 'pochoirlaw38.AreaTurned': WHATEVER THE INPUT: true; the input reads as it did. -/
def areaTurnedSpec : ChangeSpec := { name := "areaTurned", fn := fun _ => fun
  | [d1, d2] => { results := [.lit (.bool true)], args := [d1, d2] }
  | _ => none }
def areaTurnedRow : OpenClaim := { program := "ytalgppclaolonaa", sum := "d8a6a5a51400dfe963d9381091806a6eb9997635bd90317d8211c9ad250db665", func := "pochoir/pochoirlaw38.AreaTurned", spec := "areaTurned", apart := false }
def AreaTurnedSaid : Prop := areaTurnedRow.holds Try.pinned (OpenSpec.ofChange areaTurnedSpec)

/-- ITS FALSE NEIGHBOUR: 'it returns false'. Refute it at one input. -/
def areaTurnedWrong : ChangeSpec := { name := "areaTurned", fn := fun _ => fun
  | [d1, d2] => { results := [.lit (.bool false)], args := [d1, d2] }
  | _ => none }
def AreaTurnedWrongFalsely : Prop := areaTurnedRow.holds Try.pinned (OpenSpec.ofChange areaTurnedWrong)

/-- 'pochoirlaw23.ColorAll': WHATEVER THE INPUT: true; the input reads as it did. -/
def colorAllSpec : ChangeSpec := { name := "colorAll", fn := fun _ => fun
  | [d] => { results := [.lit (.bool true)], args := [d] }
  | _ => none }
def colorAllRow : OpenClaim := { program := "ytalgppclaolonaa", sum := "d8a6a5a51400dfe963d9381091806a6eb9997635bd90317d8211c9ad250db665", func := "pochoir/pochoirlaw23.ColorAll", spec := "colorAll", inPlace := ["math/bits.Add64"], apart := false }
def ColorAllSaid : Prop := colorAllRow.holds Try.pinned (OpenSpec.ofChange colorAllSpec)

/-- ITS FALSE NEIGHBOUR: 'it returns false'. Refute it at one input. -/
def colorAllWrong : ChangeSpec := { name := "colorAll", fn := fun _ => fun
  | [d] => { results := [.lit (.bool false)], args := [d] }
  | _ => none }
def ColorAllWrongFalsely : Prop := colorAllRow.holds Try.pinned (OpenSpec.ofChange colorAllWrong)

/-- 'pochoirlaw23.ColorRows': WHATEVER THE INPUT: true; the input reads as it did. -/
def colorRowsSpec : ChangeSpec := { name := "colorRows", fn := fun _ => fun
  | [d1, d2] => { results := [.lit (.bool true)], args := [d1, d2] }
  | _ => none }
def colorRowsRow : OpenClaim := { program := "ytalgppclaolonaa", sum := "d8a6a5a51400dfe963d9381091806a6eb9997635bd90317d8211c9ad250db665", func := "pochoir/pochoirlaw23.ColorRows", spec := "colorRows", inPlace := ["math/bits.Add64"], apart := false }
def ColorRowsSaid : Prop := colorRowsRow.holds Try.pinned (OpenSpec.ofChange colorRowsSpec)

/-- ITS FALSE NEIGHBOUR: 'it returns false'. Refute it at one input. -/
def colorRowsWrong : ChangeSpec := { name := "colorRows", fn := fun _ => fun
  | [d1, d2] => { results := [.lit (.bool false)], args := [d1, d2] }
  | _ => none }
def ColorRowsWrongFalsely : Prop := colorRowsRow.holds Try.pinned (OpenSpec.ofChange colorRowsWrong)

/-- 'pochoirlaw23.ColorApart': WHATEVER THE INPUT: true; the input reads as it did. -/
def colorApartSpec : ChangeSpec := { name := "colorApart", fn := fun _ => fun
  | [d] => { results := [.lit (.bool true)], args := [d] }
  | _ => none }
def colorApartRow : OpenClaim := { program := "ytalgppclaolonaa", sum := "d8a6a5a51400dfe963d9381091806a6eb9997635bd90317d8211c9ad250db665", func := "pochoir/pochoirlaw23.ColorApart", spec := "colorApart", inPlace := ["math/bits.Add64"], apart := false }
def ColorApartSaid : Prop := colorApartRow.holds Try.pinned (OpenSpec.ofChange colorApartSpec)

/-- ITS FALSE NEIGHBOUR: 'it returns false'. Refute it at one input. -/
def colorApartWrong : ChangeSpec := { name := "colorApart", fn := fun _ => fun
  | [d] => { results := [.lit (.bool false)], args := [d] }
  | _ => none }
def ColorApartWrongFalsely : Prop := colorApartRow.holds Try.pinned (OpenSpec.ofChange colorApartWrong)

/- THE SECOND FORM. 'bulk': how many values and letters a reading holds, each counted each time it is reached (what is shared counts as often as it is met; a slice's spare places count too). A statement '..UptoSaid' is the law's where the arguments, and the package variables that the reading takes, are together of bulk at most 1048576: NARROWER than '..Said'. Prove '..Said' where nothing that the law and all that it calls make is longer than what came in: it says more and counts as full. Else prove '..UptoSaid'. A law counts once. -/
mutual
def uptoBulk {H : Type} : DataW H → Nat
  | .lit (.string bytes) => bytes.length + 1
  | .lit _ => 1
  | .nil => 1
  | .ptr d => uptoBulk d + 1
  | .slice elems spare => uptoBulkAll elems + uptoBulkAll spare + 1
  | .agg parts => uptoBulkAll parts + 1
  | .iface _ d => uptoBulk d + 1
  | .map entries => uptoBulkEntries entries + 1
  | .held _ => 1
def uptoBulkAll {H : Type} : List (DataW H) → Nat
  | [] => 0
  | d :: r => uptoBulk d + uptoBulkAll r
def uptoBulkEntries {H : Type} : List (Lit × DataW H) → Nat
  | [] => 0
  | x :: r => uptoBulkEntry x + uptoBulkEntries r
def uptoBulkEntry {H : Type} : Lit × DataW H → Nat
  | (.string bytes, d) => bytes.length + uptoBulk d + 1
  | (_, d) => uptoBulk d + 1
 end
def uptoSmall : (H : Type) → List (DataW H) → Bool := fun _ ds => decide (uptoBulkAll ds ≤ 1048576)
def OpenSpec.upto (s : _root_.Go.ChangeSpec) : _root_.Go.OpenSpec := { _root_.Go.OpenSpec.ofChange s with cond := some uptoSmall }

/-- 'pochoirlaw22.CornerAll', WHERE WHAT IT READS IS OF BULK AT MOST 1048576: true; the input reads as it did. -/
def cornerAllUptoRow : OpenClaim := { program := "ytalgppclaolonaa", sum := "d8a6a5a51400dfe963d9381091806a6eb9997635bd90317d8211c9ad250db665", func := "pochoir/pochoirlaw22.CornerAll", spec := "cornerAll", inPlace := ["math/bits.Add64"], apart := false, narrowed := true }
def CornerAllUptoSaid : Prop := cornerAllUptoRow.holds Try.pinned (OpenSpec.upto cornerAllSpec)

/-- 'pochoirlaw22.CornerTurned', WHERE WHAT IT READS IS OF BULK AT MOST 1048576: true; the input reads as it did. -/
def cornerTurnedUptoRow : OpenClaim := { program := "ytalgppclaolonaa", sum := "d8a6a5a51400dfe963d9381091806a6eb9997635bd90317d8211c9ad250db665", func := "pochoir/pochoirlaw22.CornerTurned", spec := "cornerTurned", inPlace := ["math/bits.Add64"], unfollowed := true, recurses := true, apart := false, narrowed := true }
def CornerTurnedUptoSaid : Prop := cornerTurnedUptoRow.holds Try.pinned (OpenSpec.upto cornerTurnedSpec)

/-- 'pochoirlaw24.SideAsks', WHERE WHAT IT READS IS OF BULK AT MOST 1048576: true; the input reads as it did. -/
def sideAsksUptoRow : OpenClaim := { program := "ytalgppclaolonaa", sum := "d8a6a5a51400dfe963d9381091806a6eb9997635bd90317d8211c9ad250db665", func := "pochoir/pochoirlaw24.SideAsks", spec := "sideAsks", unfollowed := true, recurses := true, apart := false, narrowed := true }
def SideAsksUptoSaid : Prop := sideAsksUptoRow.holds Try.pinned (OpenSpec.upto sideAsksSpec)

/-- 'pochoirlaw22.CornerAsks', WHERE WHAT IT READS IS OF BULK AT MOST 1048576: true; the input reads as it did. -/
def cornerAsksUptoRow : OpenClaim := { program := "ytalgppclaolonaa", sum := "d8a6a5a51400dfe963d9381091806a6eb9997635bd90317d8211c9ad250db665", func := "pochoir/pochoirlaw22.CornerAsks", spec := "cornerAsks", inPlace := ["math/bits.Add64"], apart := false, narrowed := true }
def CornerAsksUptoSaid : Prop := cornerAsksUptoRow.holds Try.pinned (OpenSpec.upto cornerAsksSpec)

/-- 'pochoirlaw38.AreaSix', WHERE WHAT IT READS IS OF BULK AT MOST 1048576: true; the input reads as it did. -/
def areaSixUptoRow : OpenClaim := { program := "ytalgppclaolonaa", sum := "d8a6a5a51400dfe963d9381091806a6eb9997635bd90317d8211c9ad250db665", func := "pochoir/pochoirlaw38.AreaSix", spec := "areaSix", apart := false, narrowed := true }
def AreaSixUptoSaid : Prop := areaSixUptoRow.holds Try.pinned (OpenSpec.upto areaSixSpec)

/-- 'pochoirlaw38.AreaTurned', WHERE WHAT IT READS IS OF BULK AT MOST 1048576: true; the input reads as it did. -/
def areaTurnedUptoRow : OpenClaim := { program := "ytalgppclaolonaa", sum := "d8a6a5a51400dfe963d9381091806a6eb9997635bd90317d8211c9ad250db665", func := "pochoir/pochoirlaw38.AreaTurned", spec := "areaTurned", apart := false, narrowed := true }
def AreaTurnedUptoSaid : Prop := areaTurnedUptoRow.holds Try.pinned (OpenSpec.upto areaTurnedSpec)

/-- 'pochoirlaw23.ColorAll', WHERE WHAT IT READS IS OF BULK AT MOST 1048576: true; the input reads as it did. -/
def colorAllUptoRow : OpenClaim := { program := "ytalgppclaolonaa", sum := "d8a6a5a51400dfe963d9381091806a6eb9997635bd90317d8211c9ad250db665", func := "pochoir/pochoirlaw23.ColorAll", spec := "colorAll", inPlace := ["math/bits.Add64"], apart := false, narrowed := true }
def ColorAllUptoSaid : Prop := colorAllUptoRow.holds Try.pinned (OpenSpec.upto colorAllSpec)

/-- 'pochoirlaw23.ColorRows', WHERE WHAT IT READS IS OF BULK AT MOST 1048576: true; the input reads as it did. -/
def colorRowsUptoRow : OpenClaim := { program := "ytalgppclaolonaa", sum := "d8a6a5a51400dfe963d9381091806a6eb9997635bd90317d8211c9ad250db665", func := "pochoir/pochoirlaw23.ColorRows", spec := "colorRows", inPlace := ["math/bits.Add64"], apart := false, narrowed := true }
def ColorRowsUptoSaid : Prop := colorRowsUptoRow.holds Try.pinned (OpenSpec.upto colorRowsSpec)

/-- 'pochoirlaw23.ColorApart', WHERE WHAT IT READS IS OF BULK AT MOST 1048576: true; the input reads as it did. -/
def colorApartUptoRow : OpenClaim := { program := "ytalgppclaolonaa", sum := "d8a6a5a51400dfe963d9381091806a6eb9997635bd90317d8211c9ad250db665", func := "pochoir/pochoirlaw23.ColorApart", spec := "colorApart", inPlace := ["math/bits.Add64"], apart := false, narrowed := true }
def ColorApartUptoSaid : Prop := colorApartUptoRow.holds Try.pinned (OpenSpec.upto colorApartSpec)

end Rows
end Go.Proofs.Ytalgppclaolonaa
