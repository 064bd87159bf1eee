/- The program's answer: is one of degree two at most above 0 everywhere. Seat r9's numbers. -/
import Derived.Test.YtkpjeihgigmnkaaEvSideS
namespace Go.Proofs.Ytkpjeihgigmnkaa.Ev
open Go
open Go.Proofs.Ytkpjeihgigmnkaa.EvP (NegP AbvP)
set_option linter.unusedVariables false
set_option linter.unusedSimpArgs false
theorem f24 {x : Int} (h0 : -72057594037927936 ≤ x) (h1 : x ≤ 72057594037927936) : F24 x = some (if x < 0 then -x else x) := by
  rw [F24_eq, wr64 (by omega) (by omega)]
  have e : mxE x (0 - x) = if x < 0 then -x else x := by unfold mxE; split <;> split <;> omega
  rw [e]
  congr 1
  exact wu64 (by split <;> omega) (by split <;> omega)
theorem f21 (x : Int) (z : Bool) : F21 x z = some (decide (0 < x ∨ (z = true ∧ x = 0)), z) := by
  rw [F21_eq]
  by_cases h : x > 0
  · rw [cT h, decide_eq_true (.inl h)]
  · rw [cF h]
    cases z
    · rw [cond_false, decide_eq_false (by simp; omega)]
    · rw [cond_true]
      by_cases h0 : x = 0
      · rw [beq_iff_eq.mpr h0, decide_eq_true (.inr ⟨rfl, h0⟩)]
      · rw [beq_eq_false_iff_ne.mpr h0, decide_eq_false (by omega)]
theorem l13_1 (z : Bool) {f g h : Int} (f0 : 0 ≤ f) (f1 : f ≤ 72057594037927936) (g0 : g < 0) (g1 : -72057594037927936 ≤ g) (h0 : 0 < h) (h1 : h ≤ 72057594037927936) :
    L13_1 (S37.mk f g h) z = some (decide (4 * f * h > g * g ∨ (z = true ∧ 4 * f * h = g * g))) := by
  have hm := (mul_bd (x := f) (y := h) (M := 72057594037927936) (N := 72057594037927936) (by omega) f1 (by omega) h1).2
  have hg := (mul_bd (x := -g) (y := -g) (M := 72057594037927936) (N := 72057594037927936) (by omega) (by omega) (by omega) (by omega)).2
  have hn := mul_nn f0 (Int.le_of_lt h0)
  have hgn := mul_nn (show 0 ≤ -g by omega) (show 0 ≤ -g by omega)
  have eg : -g * -g = g * g := by grind
  have e4 : 4 * f * h = 4 * (f * h) := by grind
  have wf : ∀ x : Int, 0 ≤ x → x ≤ 72057594037927936 → Word x := fun x a b => ⟨a, by omega⟩
  have hs : F22 (wd (f * h)) 2 = some (wd (4 * (f * h)), 0) := by
    by_cases hz : f * h = 0
    · rw [hz, F22_eq]; rfl
    · exact shift2 (by omega) (by omega)
  rw [L13_1_eq]
  simp only
  rw [f24 (x := f) (by omega) (by omega), if_neg (by omega), f24 (x := h) (by omega) (by omega), if_neg (by omega), f24 (x := g) (by omega) (by omega), if_pos g0]
  simp only [Option.bind_some]
  rw [bnd (wmul_f (wf f f0 f1) (wf h (by omega) h1)), bnd hs, bnd (wmul_f (wf (-g) (by omega) (by omega)) (wf (-g) (by omega) (by omega)))]
  simp only
  rw [bnd (wcmp_f (wd_ww (by omega) (by omega)) (wd_ww (by omega) (by omega))), wv_wd, wv_wd, eg, e4]
  unfold cmpI
  by_cases a : 4 * (f * h) < g * g
  · rw [if_pos a, cF (by omega), decide_eq_false (by omega)]
    cases z <;> rfl
  · rw [if_neg a]
    by_cases b : 4 * (f * h) > g * g
    · rw [if_pos b, cT (by omega), decide_eq_true (.inl b)]
    · rw [if_neg b, cF (by omega)]
      cases z
      · rw [cond_false, decide_eq_false (by simp; omega)]
      · rw [cond_true, decide_eq_true (.inr ⟨rfl, by omega⟩)]; rfl
theorem above_f (z : Bool) {f g h : Int} (zf : -72057594037927936 ≤ f ∧ f ≤ 72057594037927936) (zg : -72057594037927936 ≤ g ∧ g ≤ 72057594037927936) (zh : -72057594037927936 ≤ h ∧ h ≤ 72057594037927936) :
    F13 (S37.mk f g h) z = some (decide (AbvP z f g h)) := by
  rw [F13_eq]
  simp only
  rw [bnd (f21 f z)]
  simp only
  rw [wr64 (n := f + g) (by omega) (by omega), wr64 (n := f + g + h) (by omega) (by omega)]
  by_cases hf : 0 < f ∨ (z = true ∧ f = 0)
  · rw [decide_eq_true hf, Bool.not_true, cond_false, bnd (f21 (f + g + h) z)]
    simp only
    by_cases hs : 0 < f + g + h ∨ (z = true ∧ f + g + h = 0)
    · rw [decide_eq_true hs, Bool.not_true, cond_false, L13_0_eq]
      simp only
      rw [wr64 (n := 2 * h) (by omega) (by omega), wr64 (by omega) (by omega)]
      by_cases a1 : h ≤ 0
      · rw [cT a1, decide_eq_true (by unfold AbvP NegP; cases z <;> simp only [Bool.false_eq_true, false_and, true_and, or_false, false_or, true_or, and_true] at * <;> omega)]
      rw [cF a1]
      by_cases a2 : g ≥ 0
      · rw [cT a2, decide_eq_true (by unfold AbvP NegP; cases z <;> simp only [Bool.false_eq_true, false_and, true_and, or_false, false_or, true_or, and_true] at * <;> omega)]
      rw [cF a2]
      by_cases a3 : g + 2 * h ≤ 0
      · rw [cT a3, decide_eq_true (by unfold AbvP NegP; cases z <;> simp only [Bool.false_eq_true, false_and, true_and, or_false, false_or, true_or, and_true] at * <;> omega)]
      rw [cF a3, l13_1 z (by omega) (by omega) (by omega) (by omega) (by omega) (by omega)]
      congr 1; refine decide_eq_decide.mpr ?_
      unfold AbvP NegP
      cases z <;> simp only [Bool.false_eq_true, false_and, true_and, or_false, false_or, true_or, and_true] at * <;> omega
    · rw [decide_eq_false hs, Bool.not_false, cond_true, decide_eq_false]
      unfold AbvP NegP
      cases z <;> simp only [Bool.false_eq_true, false_and, true_and, or_false, false_or, true_or, and_true] at * <;> omega
  · rw [decide_eq_false hf, Bool.not_false, cond_true, decide_eq_false]
    unfold AbvP NegP
    cases z <;> simp only [Bool.false_eq_true, false_and, true_and, or_false, false_or, true_or, and_true] at * <;> omega
end Go.Proofs.Ytkpjeihgigmnkaa.Ev
