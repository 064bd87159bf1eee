/- Printed by a program of this claim: what a law's argument is, once it can be read. -/
import Derived.Test.YtalghbndblgndaaEvD
import Derived.Test.YtalghbndblgndaaEvAe
namespace Go.Proofs.Ytalghbndblgndaa.Ev
open Go
set_option linter.unusedVariables false
def wf39 (x : S39) : Prop := (Lit.int .i64 x.f0).wf = true ∧ ((Lit.int .i64 x.f1).wf = true ∧ (True))
theorem opens39 : OpG D PP 39 3 (D.enc 0) wf39 := OpG.iso (OpG.struct Try.underlying39 rfl (OpF.cons (OpG.int Try.underlying3) (by kernel_rfl) (OpF.cons (OpG.int Try.underlying3) (by kernel_rfl) (OpF.one (OpG.bool Try.underlying4) (by kernel_rfl)) rfl) rfl) (by kernel_rfl)) (fun x : S39 => (x.f0, x.f1, x.f2)) (fun y => ⟨y.1, y.2.1, y.2.2⟩) (fun _ => rfl) (fun _ => rfl)
def wf47 (x : S47) : Prop := (Lit.int .i64 x.f0).wf = true ∧ ((Lit.int .i64 x.f1).wf = true ∧ ((Lit.int .i64 x.f2).wf = true ∧ ((Lit.int .i64 x.f3).wf = true ∧ ((Lit.int .i64 x.f4).wf = true ∧ ((Lit.int .i64 x.f5).wf = true ∧ ((Lit.int .i64 x.f6).wf = true))))))
theorem opens47 : OpG D PP 47 7 (D.enc 1) wf47 := OpG.iso (OpG.struct Try.underlying47 rfl (OpF.cons (OpG.int Try.underlying3) (by kernel_rfl) (OpF.cons (OpG.int Try.underlying3) (by kernel_rfl) (OpF.cons (OpG.int Try.underlying3) (by kernel_rfl) (OpF.cons (OpG.int Try.underlying3) (by kernel_rfl) (OpF.cons (OpG.int Try.underlying3) (by kernel_rfl) (OpF.cons (OpG.int Try.underlying3) (by kernel_rfl) (OpF.one (OpG.int Try.underlying3) (by kernel_rfl)) rfl) rfl) rfl) rfl) rfl) rfl) (by kernel_rfl)) (fun x : S47 => (x.f0, x.f1, x.f2, x.f3, x.f4, x.f5, x.f6)) (fun y => ⟨y.1, y.2.1, y.2.2.1, y.2.2.2.1, y.2.2.2.2.1, y.2.2.2.2.2.1, y.2.2.2.2.2.2⟩) (fun _ => rfl) (fun _ => rfl)
def wf43 (x : S43) : Prop := (x.f0.length * 24 ≤ 140737488351232 ∧ x.f0.length ≤ 9223372036854775807 ∧ ∀ y ∈ x.f0, (y.length * 24 ≤ 140737488351232 ∧ y.length ≤ 9223372036854775807 ∧ ∀ x ∈ y, wf39 x)) ∧ ((x.f1.length * 56 ≤ 140737488351232 ∧ x.f1.length ≤ 9223372036854775807 ∧ ∀ y ∈ x.f1, wf47 y))
theorem opens43 : OpG D PP 43 2 (D.enc 2) wf43 := OpG.iso (OpG.struct Try.underlying43 rfl (OpF.cons (OpG.slice (D := D) (τ := .sl (.st 0)) Try.underlying25 (OpG.slice (D := D) (τ := .st 0) Try.underlying40 opens39 (by kernel_rfl) (by decide) (by kernel_rfl)) (by kernel_rfl) (by decide) (by kernel_rfl)) (by kernel_rfl) (OpF.one (OpG.slice (D := D) (τ := .st 1) Try.underlying41 opens47 (by kernel_rfl) (by decide) (by kernel_rfl)) (by kernel_rfl)) rfl) (by kernel_rfl)) (fun x : S43 => (x.f0, x.f1)) (fun y => ⟨y.1, y.2⟩) (fun _ => rfl) (fun _ => rfl)
end Go.Proofs.Ytalghbndblgndaa.Ev
