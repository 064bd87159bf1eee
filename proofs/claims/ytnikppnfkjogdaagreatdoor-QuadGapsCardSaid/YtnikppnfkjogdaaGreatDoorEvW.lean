/- Printed by a program of this claim: what a law's argument is, once it can be read. -/
import Derived.Test.YtnikppnfkjogdaaGreatDoorEvD
import Derived.Test.YtnikppnfkjogdaaGreatDoorEvAe
namespace Go.Proofs.YtnikppnfkjogdaaGreatDoor.Ev
open Go
set_option linter.unusedVariables false
def wf24 (x : S24) : Prop := (Lit.int .i64 x.f0).wf = true ∧ ((Lit.int .i64 x.f1).wf = true)
theorem opens24 : OpG D PP 24 2 (D.enc 0) wf24 := OpG.iso (OpG.struct Tryz.underlying24 rfl (OpF.cons (OpG.int Tryz.underlying3) (by kernel_rfl) (OpF.one (OpG.int Tryz.underlying3) (by kernel_rfl)) rfl) (by kernel_rfl)) (fun x : S24 => (x.f0, x.f1)) (fun y => ⟨y.1, y.2⟩) (fun _ => rfl) (fun _ => rfl)
def wf34 (x : S34) : Prop := (Lit.int .i64 x.f0).wf = true ∧ (True ∧ (wf24 x.f2 ∧ (wf24 x.f3 ∧ (wf24 x.f4))))
theorem opens34 : OpG D PP 34 8 (D.enc 1) wf34 := OpG.iso (OpG.struct Tryz.underlying34 rfl (OpF.cons (OpG.int Tryz.underlying3) (by kernel_rfl) (OpF.cons (OpG.bool Tryz.underlying4) (by kernel_rfl) (OpF.cons opens24 (by kernel_rfl) (OpF.cons opens24 (by kernel_rfl) (OpF.one opens24 (by kernel_rfl)) rfl) rfl) rfl) rfl) (by kernel_rfl)) (fun x : S34 => (x.f0, x.f1, x.f2, x.f3, x.f4)) (fun y => ⟨y.1, y.2.1, y.2.2.1, y.2.2.2.1, y.2.2.2.2⟩) (fun _ => rfl) (fun _ => rfl)
def wf37 (x : S37) : Prop := (Lit.int .i64 x.f0).wf = true ∧ ((Lit.int .i64 x.f1).wf = true)
theorem opens37 : OpG D PP 37 2 (D.enc 2) wf37 := OpG.iso (OpG.struct Tryz.underlying37 rfl (OpF.cons (OpG.int Tryz.underlying2) (by kernel_rfl) (OpF.one (OpG.int Tryz.underlying2) (by kernel_rfl)) rfl) (by kernel_rfl)) (fun x : S37 => (x.f0, x.f1)) (fun y => ⟨y.1, y.2⟩) (fun _ => rfl) (fun _ => rfl)
def wf46 (x : S46) : Prop := (Lit.int .i16 x.f0).wf = true ∧ ((Lit.int .i16 x.f1).wf = true)
theorem opens46 : OpG D PP 46 2 (D.enc 3) wf46 := OpG.iso (OpG.array Tryz.underlying46 (by kernel_rfl) (OpF.cons (OpG.int Tryz.underlying45) (by kernel_rfl) (OpF.one (OpG.int Tryz.underlying45) (by kernel_rfl)) rfl) (by kernel_rfl)) (fun x : S46 => (x.f0, x.f1)) (fun y => ⟨y.1, y.2⟩) (fun _ => rfl) (fun _ => rfl)
def wf47 (x : S47) : Prop := wf46 x.f0 ∧ (wf46 x.f1 ∧ (wf46 x.f2 ∧ (wf46 x.f3)))
theorem opens47 : OpG D PP 47 8 (D.enc 4) wf47 := OpG.iso (OpG.array Tryz.underlying47 (by kernel_rfl) (OpF.cons opens46 (by kernel_rfl) (OpF.cons opens46 (by kernel_rfl) (OpF.cons opens46 (by kernel_rfl) (OpF.one opens46 (by kernel_rfl)) rfl) rfl) rfl) (by kernel_rfl)) (fun x : S47 => (x.f0, x.f1, x.f2, x.f3)) (fun y => ⟨y.1, y.2.1, y.2.2.1, y.2.2.2⟩) (fun _ => rfl) (fun _ => rfl)
def wf51 (x : S51) : Prop := (Lit.int .i64 x.f0).wf = true ∧ ((Lit.int .i64 x.f1).wf = true ∧ ((Lit.int .i64 x.f2).wf = true))
theorem opens51 : OpG D PP 51 3 (D.enc 6) wf51 := OpG.iso (OpG.array Tryz.underlying51 (by kernel_rfl) (OpF.cons (OpG.int Tryz.underlying3) (by kernel_rfl) (OpF.cons (OpG.int Tryz.underlying3) (by kernel_rfl) (OpF.one (OpG.int Tryz.underlying3) (by kernel_rfl)) rfl) rfl) (by kernel_rfl)) (fun x : S51 => (x.f0, x.f1, x.f2)) (fun y => ⟨y.1, y.2.1, y.2.2⟩) (fun _ => rfl) (fun _ => rfl)
end Go.Proofs.YtnikppnfkjogdaaGreatDoor.Ev
