/- Printed by a program of this claim: what a law's argument is, once it can be read. -/
import Derived.Test.YtidiifdiilahdaaDoorEvD
import Derived.Test.YtidiifdiilahdaaDoorEvAe
namespace Go.Proofs.YtidiifdiilahdaaDoor.Ev
open Go
set_option linter.unusedVariables false
def wf31 (x : S31) : Prop := True ∧ ((x.f1.length * 4 ≤ 140737488351232 ∧ x.f1.length ≤ 9223372036854775807 ∧ ∀ y ∈ x.f1, (Lit.int .u32 y).wf = true))
theorem opens31 : OpG D PP 31 2 (D.enc 0) wf31 := OpG.iso (OpG.struct Tryd.underlying31 rfl (OpF.cons (OpG.bool Tryd.underlying4) (by kernel_rfl) (OpF.one (OpG.slice (τ := .int .u32) Tryd.underlying29 (OpG.int Tryd.underlying60) (by kernel_rfl) (by decide) (by kernel_rfl)) (by kernel_rfl)) rfl) (by kernel_rfl)) (fun x : S31 => (x.f0, x.f1)) (fun y => ⟨y.1, y.2⟩) (fun _ => rfl) (fun _ => rfl)
def wf24 (x : S24) : Prop := (Lit.int .i64 x.f0).wf = true ∧ ((Lit.int .i64 x.f1).wf = true)
theorem opens24 : OpG D PP 24 2 (D.enc 1) wf24 := OpG.iso (OpG.struct Tryd.underlying24 rfl (OpF.cons (OpG.int Tryd.underlying2) (by kernel_rfl) (OpF.one (OpG.int Tryd.underlying2) (by kernel_rfl)) rfl) (by kernel_rfl)) (fun x : S24 => (x.f0, x.f1)) (fun y => ⟨y.1, y.2⟩) (fun _ => rfl) (fun _ => rfl)
end Go.Proofs.YtidiifdiilahdaaDoor.Ev
