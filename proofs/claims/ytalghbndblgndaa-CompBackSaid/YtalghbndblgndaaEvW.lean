/- Printed by a program of this claim: what a law's argument is, once it can be read. -/
import Derived.Test.YtalghbndblgndaaEvD
import Derived.Test.YtalghbndblgndaaEvAe
namespace Go.Proofs.Ytalghbndblgndaa.Ev
open Go
set_option linter.unusedVariables false
def wf47 (x : S47) : Prop := (Lit.int .i64 x.f0).wf = true ∧ ((Lit.int .i64 x.f1).wf = true ∧ ((Lit.int .i64 x.f2).wf = true ∧ ((Lit.int .i64 x.f3).wf = true ∧ ((Lit.int .i64 x.f4).wf = true ∧ ((Lit.int .i64 x.f5).wf = true ∧ ((Lit.int .i64 x.f6).wf = true))))))
theorem opens47 : OpG D PP 47 7 (D.enc 0) wf47 := OpG.iso (OpG.struct Try.underlying47 rfl (OpF.cons (OpG.int Try.underlying3) (by kernel_rfl) (OpF.cons (OpG.int Try.underlying3) (by kernel_rfl) (OpF.cons (OpG.int Try.underlying3) (by kernel_rfl) (OpF.cons (OpG.int Try.underlying3) (by kernel_rfl) (OpF.cons (OpG.int Try.underlying3) (by kernel_rfl) (OpF.cons (OpG.int Try.underlying3) (by kernel_rfl) (OpF.one (OpG.int Try.underlying3) (by kernel_rfl)) rfl) rfl) rfl) rfl) rfl) rfl) (by kernel_rfl)) (fun x : S47 => (x.f0, x.f1, x.f2, x.f3, x.f4, x.f5, x.f6)) (fun y => ⟨y.1, y.2.1, y.2.2.1, y.2.2.2.1, y.2.2.2.2.1, y.2.2.2.2.2.1, y.2.2.2.2.2.2⟩) (fun _ => rfl) (fun _ => rfl)
end Go.Proofs.Ytalghbndblgndaa.Ev
