/- The pure law FlatParses: of any bytes and any places the shapes, or the error that is met first, are the reference's; what is read may be. -/
import Derived.Test.YtalghbndblgndaaEvFlatQ
import Derived.Test.YtalghbndblgndaaEvV
import Derived.Test.YtalghbndblgndaaEvW
namespace Go.Proofs.Ytalghbndblgndaa.Ev
open Go
set_option linter.unusedVariables false
set_option linter.unusedSimpArgs false
theorem Pure.FlatParses (x0 : ByteArray) (x1 : List Int) : x0.size ≤ 140737488351232 → (x1.length * 8 ≤ 140737488351232 ∧ x1.length ≤ 9223372036854775807 ∧ ∀ x ∈ x1, (Lit.int .i64 x).wf = true) → F14 x0 x1 = some true := by
  intro _ _
  rw [F14_eq, bnd F15_true, Bool.not_true, cond_false]
  by_cases h : (x0.size : Int) > 1000
  · rw [cT h]
  rw [cF h]
  by_cases h2 : (x1.length : Int) > 20
  · rw [cT h2]
  rw [cF h2, L14_0_eq, bnd (f52 (by omega) (by omega)), bnd (f53 (by omega) (by omega))]
  obtain ⟨k1, k2, k3⟩ := gFlat_ok (s := x0) (E := x1) (by omega)
  generalize gFlat x0 x1 = R at *
  rw [bnd (f54 (by omega) k2), cond_true, beq_self_eq_true, cond_true]
  by_cases he : R.2 = 0
  · obtain ⟨j1, j2⟩ := k3 he
    rw [cnF he, bnd (f22 ⟨by omega, fun x hx => (k2 x hx).c⟩)]
    have : may R.1 = true := by
      unfold may
      rw [decide_eq_true (by omega), Bool.true_and, List.all_eq_true]
      intro x hx
      rw [j1]; exact (k2 x hx).m
    rw [this]
  · rw [cnT he]
end Go.Proofs.Ytalghbndblgndaa.Ev
