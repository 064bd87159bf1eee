/- The pure law QuadGaps: the gap between a point and a curve, as a polynomial, is the reference's. -/
import Derived.Test.YtnikppnfkjogdaaGreatDoorEvGap
import Derived.Test.YtnikppnfkjogdaaGreatDoorEvV
import Derived.Test.YtnikppnfkjogdaaGreatDoorEvW
namespace Go.Proofs.YtnikppnfkjogdaaGreatDoor.Ev
open Go Go.Proofs.YtnikppnfkjogdaaGreatDoor.EvP
set_option linter.unusedVariables false
set_option linter.unusedSimpArgs false
theorem Pure.QuadGaps (x0 : S24) (x1 : S34) (x2 : S51) : wf24 x0 → wf34 x1 → wf51 x2 → F9 x0 x1 x2 = some true := by
  intro _ _ _
  rw [F9_eq, bnd F18_true, Bool.not_true, cond_false]
  by_cases h : askB x0 x1 x2.f0 x2.f1 = true ∧ 0 ≤ x2.f2 ∧ x2.f2 ≤ x2.f1
  · obtain ⟨g1, g2, g3, g4⟩ := gap_f h.1 h.2
    rw [bnd g1, bnd (f25 _ _ _ _), h.1, Bool.not_true, cond_false, cF (by omega), cF (by omega), L9_0_eq]
    simp only [beq_self_eq_true, cond_true]
    rw [bnd g2, bnd (psame_f (g3.le (by omega)) (by omega))]
  · rw [bnd (gap_no h), bnd (f25 _ _ _ _)]
    have e : L9_1 [] 1 = some true := by rw [L9_1_eq]; rfl
    cases ha : askB x0 x1 x2.f0 x2.f1
    · exact e
    · rw [Bool.not_true, cond_false]
      by_cases h1 : x2.f2 < 0
      · rw [cT h1]; exact e
      · rw [cF h1, cT (show x2.f2 > x2.f1 by rcases Int.lt_or_le x2.f1 x2.f2 with q | q; exact q; exact absurd ⟨ha, by omega, q⟩ h)]; exact e
end Go.Proofs.YtnikppnfkjogdaaGreatDoor.Ev
