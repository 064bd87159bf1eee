/- Printed by a program of this claim: what a law's argument is, once it can be read. -/
import Derived.Test.YtkpjeihgigmnkaaEvD
import Derived.Test.YtkpjeihgigmnkaaEvAe
namespace Go.Proofs.Ytkpjeihgigmnkaa.Ev
open Go
set_option linter.unusedVariables false
def wf23 (x : S23) : Prop := (Lit.int .i64 x.f0).wf = true ∧ ((Lit.int .i64 x.f1).wf = true)
theorem opens23 : OpG D PP 23 2 (D.enc 0) wf23 := OpG.iso (OpG.struct Try.underlying23 rfl (OpF.cons (OpG.int Try.underlying3) (by kernel_rfl) (OpF.one (OpG.int Try.underlying3) (by kernel_rfl)) rfl) (by kernel_rfl)) (fun x : S23 => (x.f0, x.f1)) (fun y => ⟨y.1, y.2⟩) (fun _ => rfl) (fun _ => rfl)
def wf25 (x : S25) : Prop := (Lit.int .i64 x.f0).wf = true ∧ (True ∧ (wf23 x.f2 ∧ (wf23 x.f3 ∧ (wf23 x.f4))))
theorem opens25 : OpG D PP 25 8 (D.enc 1) wf25 := OpG.iso (OpG.struct Try.underlying25 rfl (OpF.cons (OpG.int Try.underlying3) (by kernel_rfl) (OpF.cons (OpG.bool Try.underlying4) (by kernel_rfl) (OpF.cons opens23 (by kernel_rfl) (OpF.cons opens23 (by kernel_rfl) (OpF.one opens23 (by kernel_rfl)) rfl) rfl) rfl) rfl) (by kernel_rfl)) (fun x : S25 => (x.f0, x.f1, x.f2, x.f3, x.f4)) (fun y => ⟨y.1, y.2.1, y.2.2.1, y.2.2.2.1, y.2.2.2.2⟩) (fun _ => rfl) (fun _ => rfl)
end Go.Proofs.Ytkpjeihgigmnkaa.Ev
