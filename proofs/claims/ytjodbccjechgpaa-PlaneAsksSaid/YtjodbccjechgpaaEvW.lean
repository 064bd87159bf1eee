/- Printed by a program of this claim: what a law's argument is, once it can be read. -/
import Derived.Test.YtjodbccjechgpaaEvD
import Derived.Test.YtjodbccjechgpaaEvO
namespace Go.Proofs.Ytjodbccjechgpaa.Ev
open Go
set_option linter.unusedVariables false
def wf23 (x : S23) : Prop := (Lit.int .i64 x.f0).wf = true ∧ ((Lit.int .i64 x.f1).wf = true)
theorem opens23 : OpG D PP 23 2 (D.enc 0) wf23 := OpG.iso (OpG.struct Try.underlying23 rfl (OpF.cons (OpG.int Try.underlying3) (by kernel_rfl) (OpF.one (OpG.int Try.underlying3) (by kernel_rfl)) rfl) (by kernel_rfl)) (fun x : S23 => (x.f0, x.f1)) (fun y => ⟨y.1, y.2⟩) (fun _ => rfl) (fun _ => rfl)
def wf24 (x : S24) : Prop := wf23 x.f0 ∧ (wf23 x.f1)
theorem opens24 : OpG D PP 24 4 (D.enc 1) wf24 := OpG.iso (OpG.array Try.underlying24 (by kernel_rfl) (OpF.cons opens23 (by kernel_rfl) (OpF.one opens23 (by kernel_rfl)) rfl) (by kernel_rfl)) (fun x : S24 => (x.f0, x.f1)) (fun y => ⟨y.1, y.2⟩) (fun _ => rfl) (fun _ => rfl)
end Go.Proofs.Ytjodbccjechgpaa.Ev
