/- Printed by a program of this claim: what a law's argument is, once it can be read. -/
import Derived.Test.YtidiifdiilahdaaGreatDoorEvD
import Derived.Test.YtidiifdiilahdaaGreatDoorEvAe
namespace Go.Proofs.YtidiifdiilahdaaGreatDoor.Ev
open Go
set_option linter.unusedVariables false
def wf60 (x : S60) : Prop := True ∧ ((x.f1.length * 4 ≤ 140737488351232 ∧ x.f1.length ≤ 9223372036854775807 ∧ ∀ y ∈ x.f1, (Lit.int .u32 y).wf = true))
theorem opens60 : OpG D PP 60 2 (D.enc 0) wf60 := OpG.iso (OpG.struct Tryz.underlying60 rfl (OpF.cons (OpG.bool Tryz.underlying4) (by kernel_rfl) (OpF.one (OpG.slice (D := D) (τ := .int .u32) Tryz.underlying58 (OpG.int Tryz.underlying105) (by kernel_rfl) (by decide) (by kernel_rfl)) (by kernel_rfl)) rfl) (by kernel_rfl)) (fun x : S60 => (x.f0, x.f1)) (fun y => ⟨y.1, y.2⟩) (fun _ => rfl) (fun _ => rfl)
def wf24 (x : S24) : Prop := (Lit.int .i64 x.f0).wf = true ∧ ((Lit.int .i64 x.f1).wf = true)
theorem opens24 : OpG D PP 24 2 (D.enc 1) wf24 := OpG.iso (OpG.struct Tryz.underlying24 rfl (OpF.cons (OpG.int Tryz.underlying2) (by kernel_rfl) (OpF.one (OpG.int Tryz.underlying2) (by kernel_rfl)) rfl) (by kernel_rfl)) (fun x : S24 => (x.f0, x.f1)) (fun y => ⟨y.1, y.2⟩) (fun _ => rfl) (fun _ => rfl)
end Go.Proofs.YtidiifdiilahdaaGreatDoor.Ev
