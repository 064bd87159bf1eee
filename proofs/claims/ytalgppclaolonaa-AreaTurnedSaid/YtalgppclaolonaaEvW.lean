/- Printed by a program of this claim: what a law's argument is, once it can be read. -/
import Derived.Test.YtalgppclaolonaaEvD
import Derived.Test.YtalgppclaolonaaEvO
namespace Go.Proofs.Ytalgppclaolonaa.Ev
open Go
set_option linter.unusedVariables false
def wf32 (x : S32) : Prop := (Lit.int .i32 x.f0).wf = true ∧ ((Lit.int .i32 x.f1).wf = true)
theorem opens32 : OpG D PP 32 2 (D.enc 2) wf32 := OpG.iso (OpG.array Try.underlying32 (by kernel_rfl) (OpF.cons (OpG.int Try.underlying21) (by kernel_rfl) (OpF.one (OpG.int Try.underlying21) (by kernel_rfl)) rfl) (by kernel_rfl)) (fun x : S32 => (x.f0, x.f1)) (fun y => ⟨y.1, y.2⟩) (fun _ => rfl) (fun _ => rfl)
def wf33 (x : S33) : Prop := wf32 x.f0 ∧ (wf32 x.f1 ∧ (wf32 x.f2))
theorem opens33 : OpG D PP 33 6 (D.enc 3) wf33 := OpG.iso (OpG.array Try.underlying33 (by kernel_rfl) (OpF.cons opens32 (by kernel_rfl) (OpF.cons opens32 (by kernel_rfl) (OpF.one opens32 (by kernel_rfl)) rfl) rfl) (by kernel_rfl)) (fun x : S33 => (x.f0, x.f1, x.f2)) (fun y => ⟨y.1, y.2.1, y.2.2⟩) (fun _ => rfl) (fun _ => rfl)
def wf34 (x : S34) : Prop := True ∧ (True)
theorem opens34 : OpG D PP 34 2 (D.enc 4) wf34 := OpG.iso (OpG.array Try.underlying34 (by kernel_rfl) (OpF.cons (OpG.bool Try.underlying4) (by kernel_rfl) (OpF.one (OpG.bool Try.underlying4) (by kernel_rfl)) rfl) (by kernel_rfl)) (fun x : S34 => (x.f0, x.f1)) (fun y => ⟨y.1, y.2⟩) (fun _ => rfl) (fun _ => rfl)
def wf36 (x : S36) : Prop := (Lit.int .i64 x.f0).wf = true ∧ ((Lit.int .i64 x.f1).wf = true)
theorem opens36 : OpG D PP 36 2 (D.enc 0) wf36 := OpG.iso (OpG.struct Try.underlying36 rfl (OpF.cons (OpG.int Try.underlying3) (by kernel_rfl) (OpF.one (OpG.int Try.underlying3) (by kernel_rfl)) rfl) (by kernel_rfl)) (fun x : S36 => (x.f0, x.f1)) (fun y => ⟨y.1, y.2⟩) (fun _ => rfl) (fun _ => rfl)
def wf38 (x : S38) : Prop := (Lit.int .i64 x.f0).wf = true ∧ (True ∧ (wf36 x.f2 ∧ (wf36 x.f3 ∧ (wf36 x.f4))))
theorem opens38 : OpG D PP 38 8 (D.enc 1) wf38 := OpG.iso (OpG.struct Try.underlying38 rfl (OpF.cons (OpG.int Try.underlying3) (by kernel_rfl) (OpF.cons (OpG.bool Try.underlying4) (by kernel_rfl) (OpF.cons opens36 (by kernel_rfl) (OpF.cons opens36 (by kernel_rfl) (OpF.one opens36 (by kernel_rfl)) rfl) rfl) rfl) rfl) (by kernel_rfl)) (fun x : S38 => (x.f0, x.f1, x.f2, x.f3, x.f4)) (fun y => ⟨y.1, y.2.1, y.2.2.1, y.2.2.2.1, y.2.2.2.2⟩) (fun _ => rfl) (fun _ => rfl)
end Go.Proofs.Ytalgppclaolonaa.Ev
