/- The pure law FlatOutlines: a glyph's outline, how deep it is put together, or the error that is met first, are the reference's. -/
import Derived.Test.YtalghbndblgndaaEvFlatG
import Derived.Test.YtalghbndblgndaaEvV
import Derived.Test.YtalghbndblgndaaEvW
namespace Go.Proofs.Ytalghbndblgndaa.Ev
open Go
set_option linter.unusedVariables false
set_option linter.unusedSimpArgs false
theorem f18_no {S : List S43} (hf : Few S) {g : Int} (h : (may S && decide (0 ≤ g ∧ g < (S.length : Int))) = false) : F18 S g = some ([], 1) ∧ F20 S g = some (0, 1) := by
  rw [F18_eq, F20_eq, f23 hf]
  simp only [Option.bind_some]
  cases hm : may S
  · exact ⟨rfl, rfl⟩
  · rw [hm, Bool.true_and, decide_eq_false_iff_not] at h
    rw [Bool.not_true, cond_false, cond_false]
    by_cases h1 : g < 0
    · rw [cT h1, cT h1]; exact ⟨rfl, rfl⟩
    · rw [cF h1, cF h1, cT (by omega), cT (by omega)]; exact ⟨rfl, rfl⟩
theorem f18_yes {S : List S43} (hf : Few S) {g : Int} (hm : may S = true) (hg : Vg S g) : F18 S g = L18_0 S g ∧ F20 S g = L20_0 S g := by
  have h1 := hg.1
  have h2 := hg.2
  rw [F18_eq, F20_eq, f23 hf, hm]
  simp only [Option.bind_some]
  rw [Bool.not_true, cond_false, cond_false, cF (by omega), cF (by omega), cF (by omega), cF (by omega)]
  exact ⟨rfl, rfl⟩
theorem ok_nil : OkC ([] : CS) := ⟨by simp, by simp [pts]⟩
theorem outlines {S : List S43} (hf : Few S) (g : Int) : ∃ c e, F17 S g = some (c, e) ∧ F18 S g = some (c, e) ∧ OkC c := by
  rw [F17_eq, f55 hf]
  simp only [Option.bind_some]
  cases hV : (may S && decide (0 ≤ g ∧ g < (S.length : Int)))
  · exact ⟨[], 1, rfl, (f18_no hf hV).1, ok_nil⟩
  · rw [Bool.and_eq_true, decide_eq_true_eq] at hV
    obtain ⟨hm, hg⟩ := hV
    have ok := may_ok hf hm
    obtain ⟨st, h1, _⟩ := f56 ok (pl := false) hg
    obtain ⟨st2, h2⟩ := f58 ok (pl := false) hg
    rw [Bool.not_false] at h1
    rw [(f18_yes hf hm hg).1, L18_0_eq, h1, h2]
    simp only [Option.bind_some, Bool.not_true, cond_false]
    by_cases h4 : (goF S false 9 [] g 0).err ≠ 0
    · rw [cnT h4, cnT h4]; exact ⟨[], _, rfl, rfl, ok_nil⟩
    · have fa := goF_fa (pl := false) ok 9 [] g 0 (by simp) hg (by omega) (by omega)
      rw [cnF (by omega), cnF (by omega), f57 fa.out]
      exact ⟨_, 0, rfl, rfl, fa.out⟩
theorem depths {S : List S43} (hf : Few S) (g : Int) : ∃ d e : Int, F19 S g = some (d, e) ∧ F20 S g = some (d, e) := by
  rw [F19_eq, f55 hf]
  simp only [Option.bind_some]
  cases hV : (may S && decide (0 ≤ g ∧ g < (S.length : Int)))
  · exact ⟨0, 1, rfl, (f18_no hf hV).2⟩
  · rw [Bool.and_eq_true, decide_eq_true_eq] at hV
    obtain ⟨hm, hg⟩ := hV
    have ok := may_ok hf hm
    obtain ⟨st, h1, h3⟩ := f56 ok (pl := true) hg
    obtain ⟨st2, h2⟩ := f58 ok (pl := true) hg
    rw [Bool.not_true] at h1
    rw [(f18_yes hf hm hg).2, L20_0_eq, h1, h2]
    simp only [Option.bind_some, Bool.not_true, cond_false]
    by_cases h4 : (goF S true 9 [] g 0).err ≠ 0
    · rw [cnT h4, cnT h4]; exact ⟨0, _, rfl, rfl⟩
    · rw [cnF (by omega), cnF (by omega), h3 (by omega)]
      exact ⟨_, 0, rfl, rfl⟩
theorem Pure.FlatOutlines (x0 : List S43) (x1 : Int) : (x0.length * 48 ≤ 140737488351232 ∧ x0.length ≤ 9223372036854775807 ∧ ∀ x ∈ x0, wf43 x) → (Lit.int .i64 x1).wf = true → F3 x0 x1 = some true := by
  intro _ _
  obtain ⟨b, h1, h2⟩ := f16 x0
  rw [F3_eq, bnd F15_true, Bool.not_true, cond_false, bnd h1]
  cases b
  · rfl
  · have hf := h2 rfl
    obtain ⟨c, e, g1, g2, ok⟩ := outlines hf x1
    obtain ⟨d, k, g3, g4⟩ := depths hf x1
    rw [Bool.not_true, cond_false, bnd g1, bnd g2, bnd g3, bnd g4, bnd (f21 ok), cond_true, beq_self_eq_true, cond_true, beq_self_eq_true, cond_true, beq_self_eq_true, cond_true, bnd (f22 hf), bnd (f23 hf), beq_self_eq_true]
end Go.Proofs.Ytalghbndblgndaa.Ev
