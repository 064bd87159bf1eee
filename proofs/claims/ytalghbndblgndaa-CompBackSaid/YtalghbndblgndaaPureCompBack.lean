/- The pure law CompBack: parts that may be make the reference's bytes, and are parsed again; others none. -/
import Derived.Test.YtalghbndblgndaaEvCompB
import Derived.Test.YtalghbndblgndaaEvV
import Derived.Test.YtalghbndblgndaaEvW
namespace Go.Proofs.Ytalghbndblgndaa.Ev
open Go
set_option linter.unusedVariables false
set_option linter.unusedSimpArgs false
theorem Pure.CompBack (x0 : List S47) (x1 : Int) : (x0.length * 56 ≤ 140737488351232 ∧ x0.length ≤ 9223372036854775807 ∧ ∀ x ∈ x0, wf47 x) → (Lit.int .i64 x1).wf = true → F8 x0 x1 = some true := by
  intro _ _
  rw [F8_eq, bnd F32_true, Bool.not_true, cond_false]
  by_cases hc : (x0.length : Int) > 100
  · rw [cT hc]
  rw [cF hc]
  obtain ⟨s, k1, k2⟩ := f33 (l := x0)
  obtain ⟨t, j1, j2, j3⟩ := f34 (l := x0)
  cases h : pm x0 1024
  · rw [bnd (f33_no h), bnd j1, j3 h, h, beq_self_eq_true, Bool.not_true, cond_false, cnF (show ((ByteArray.empty, 1) : ByteArray × Int).2 = (ByteArray.empty, cond false (0 : Int) 1).2 from rfl), bnd (f35 _ _), bnd (f36 _ _), beq_self_eq_true, Bool.not_true, cond_false, L8_0_eq, cnT (by decide)]
  · have e : s = t := by_inj ((k2 h).trans (j2 h).symm)
    subst e
    obtain ⟨_, hl, _⟩ := pm_all h
    have hs : s.size ≤ 1000000000 := by rw [← by_len, k2 h]; have := sMake_len hl.2; omega
    rw [bnd k1, bnd j1, h, beq_self_eq_true, Bool.not_true, cond_false, cnF rfl, bnd (f35 _ _), bnd (f36 _ _), beq_self_eq_true, Bool.not_true, cond_false, L8_0_eq, cnF (show ((s, cond true (0 : Int) 1) : ByteArray × Int).2 = 0 from rfl), bnd (f37 hs 1024), k2 h, sParse_make h, beq_self_eq_true, cond_true, bnd (f38 (l := x0) (by omega)), cond_true, bnd (f39 hs), k2 h, sIs_make]
end Go.Proofs.Ytalghbndblgndaa.Ev
