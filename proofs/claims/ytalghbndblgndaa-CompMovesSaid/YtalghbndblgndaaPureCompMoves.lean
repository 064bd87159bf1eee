/- The pure law CompMoves: what becomes of any point of any part is the reference's; of a part that isn't turned it is moved alone. -/
import Derived.Test.YtalghbndblgndaaEvMays
import Derived.Test.YtalghbndblgndaaEvV
import Derived.Test.YtalghbndblgndaaEvW
namespace Go.Proofs.Ytalghbndblgndaa.Ev
open Go
set_option linter.unusedVariables false
set_option linter.unusedSimpArgs false
theorem Pure.CompMoves (x0 : S47) (x1 : Int) (x2 : Int) : wf47 x0 → (Lit.int .i64 x1).wf = true → (Lit.int .i64 x2).wf = true → F10 x0 x1 x2 = some true := by
  intro _ h1 h2
  have h1 := i64_of h1
  have h2 := i64_of h2
  rw [F10_eq, bnd F32_true, Bool.not_true, cond_false, bnd (f42 x0 x1 x2), bnd (f43 x0 x1 x2), cnF rfl, cnF rfl, cnF rfl, L10_0_eq, bnd (f42 _ _ _)]
  unfold mv
  cases hp : ptM ⟨x0.f0, x0.f1, x0.f2, 16384, 0, 0, 16384⟩ 1024
  · rfl
  · have q := ptM_sh hp
    simp only at q
    rw [cond_true]
    by_cases hx : -32767 ≤ x1 ∧ x1 ≤ 32767
    · rw [decide_eq_true hx, cond_true]
      by_cases hy : -32767 ≤ x2 ∧ x2 ≤ 32767
      · rw [decide_eq_true hy, cond_true]
        have e1 : fl (16384 * x1 + 0 * x2) = x1 := by unfold fl; omega
        have e2 : fl (0 * x1 + 16384 * x2) = x2 := by unfold fl; omega
        simp only [e1, e2]
        unfold mvO
        cases decide (-32767 ≤ x1 + x0.f1 ∧ x1 + x0.f1 ≤ 32767)
        · rfl
        · cases decide (-32767 ≤ x2 + x0.f2 ∧ x2 + x0.f2 ≤ 32767)
          · rfl
          · simp only [cond_true]
            rw [cnF rfl, wr64 (by omega) (by omega), wr64 (by omega) (by omega), beq_self_eq_true, cond_true, beq_self_eq_true]
      · rw [decide_eq_false hy]; rfl
    · rw [decide_eq_false hx]; rfl
end Go.Proofs.Ytalghbndblgndaa.Ev
