/- Polynomials of degree two at most: when the chain counts no root between 0 and 1. -/
import Derived.Test.YtkpjeihgigmnkaaEvSideN
namespace Go.Proofs.Ytkpjeihgigmnkaa.EvP
open Go Go.Proofs.Ytkpjeihgigmnkaa.Ev Go.Proofs.Ytkpjeihgigmnkaa.NumB
set_option linter.unusedVariables false
set_option linter.unusedSimpArgs false
theorem rs1n {f g h : Int} (hh : h < 0) : rstep [f, g, h] [g, 2 * h] = tz [-(2 * f * h), -(g * h)] := by
  have t1 : top [g, 2 * h] = 2 * h := rfl
  have t2 : top [f, g, h] = h := rfl
  unfold rstep
  rw [t1, t2, if_pos (by omega), show ((2 * h).natAbs : Int) = -(2 * h) by omega, show [f, g, h].length = 3 from rfl, show [g, 2 * h].length = 2 from rfl]
  refine tz_ext fun i => ?_
  rw [coef_range]
  match i with
  | 0 => simp [coef, cof]; grind
  | 1 => simp [coef, cof]; grind
  | 2 => simp [coef, cof]; grind
  | i + 3 => rw [if_neg (by omega)]; simp [coef]
theorem rs2n {a b g h : Int} (hh : h < 0) : rstep [a, b] [g, 2 * h] = tz [-(a * (2 * h)) + g * b] := by
  have t1 : top [g, 2 * h] = 2 * h := rfl
  have t2 : top [a, b] = b := rfl
  unfold rstep
  rw [t1, t2, if_pos (by omega), show ((2 * h).natAbs : Int) = -(2 * h) by omega, show [a, b].length = 2 from rfl, show [g, 2 * h].length = 2 from rfl]
  refine tz_ext fun i => ?_
  rw [coef_range]
  match i with
  | 0 => simp [coef, cof]; grind
  | 1 => simp [coef, cof]; grind
  | i + 2 => rw [if_neg (by omega)]; simp [coef]
theorem rest3n {f g h : Int} (hh : h < 0) (hf : 0 < f) : ∃ w, rests 100 [f, g, h] [g, 2 * h] = tz [w] ∧ 0 < w := by
  have hfh : 0 < f * -h := Int.mul_pos hf (by omega)
  rw [rests, if_pos (by simp), rs1n hh]
  by_cases hg : g = 0
  · subst hg
    have e : tz [-(2 * f * h), -(0 * h)] = tz [-(2 * f * h)] := tz_ext fun i => by
      match i with
      | 0 => rfl
      | 1 => simp [coef]
      | i + 2 => simp [coef]
    refine ⟨-(2 * f * h), ?_, ?_⟩
    · rw [e, rests, if_neg (by have := one_len (-(2 * f * h)); simp; omega)]
    · have : -(2 * f * h) = 2 * (f * -h) := by grind
      omega
  · have hgh : -(g * h) ≠ 0 := by have := Int.mul_ne_zero hg (show h ≠ 0 by omega); omega
    have e : tz [-(2 * f * h), -(g * h)] = [-(2 * f * h), -(g * h)] := tz2 hgh
    refine ⟨-(-(2 * f * h) * (2 * h)) + g * -(g * h), ?_, ?_⟩
    · rw [e, rests, if_pos (by simp), rs2n hh, rests, if_neg (by have := one_len (-(-(2 * f * h) * (2 * h)) + g * -(g * h)); simp; omega)]
    · have e1 : -(-(2 * f * h) * (2 * h)) + g * -(g * h) = -h * (4 * (f * -h) + g * g) := by grind
      have := sq_nn g
      rw [e1]; exact Int.mul_pos (by omega) (by omega)
theorem rest3z {f g h : Int} (hh : 0 < h) (hf : 0 < f) : ∃ w, rests 100 [f, g, h] [g, 2 * h] = tz [w] ∧ (w < 0 ↔ 4 * f * h < g * g) ∧ (w = 0 ↔ 4 * f * h = g * g) := by
  obtain ⟨w, h1, h2⟩ := rest3 (g := g) hh hf
  refine ⟨w, h1, h2, ?_⟩
  have hfh : 0 < f * h := Int.mul_pos hf hh
  rw [rests, if_pos (by simp), rs1 hh] at h1
  by_cases hg : g = 0
  · subst hg
    have e : tz [2 * f * h, 0 * h] = tz [2 * f * h] := tz_ext fun i => by
      match i with
      | 0 => rfl
      | 1 => simp [coef]
      | i + 2 => simp [coef]
    rw [e, rests, if_neg (by have := one_len (2 * f * h); simp; omega)] at h1
    have := congrArg (fun l => coef l 0) h1
    rw [(coef_one w).1, (coef_one (2 * f * h)).1] at this
    have e2 : 2 * f * h = 2 * (f * h) := by grind
    have e3 : 4 * f * h = 4 * (f * h) := by grind
    omega
  · have hgh : g * h ≠ 0 := Int.mul_ne_zero hg (by omega)
    rw [tz2 hgh, rests, if_pos (by simp), rs2 hh, rests, if_neg (by have := one_len (2 * f * h * (2 * h) - g * (g * h)); simp; omega)] at h1
    have := congrArg (fun l => coef l 0) h1
    rw [(coef_one w).1, (coef_one (2 * f * h * (2 * h) - g * (g * h))).1] at this
    have e1 : 2 * f * h * (2 * h) - g * (g * h) = h * (4 * f * h - g * g) := by grind
    rw [← this, e1]
    constructor
    · intro q
      rcases Int.mul_eq_zero.mp q with q | q <;> omega
    · intro q
      rw [show 4 * f * h - g * g = 0 by omega, Int.mul_zero]
theorem cnt0 {f g h : Int} (hh : h ≠ 0) (hf : 0 < f) (hs : 0 < f + g + h) (hn : ¬ NegP f g h) : cnt [f, g, h] = 0 ↔ ¬ (0 < h ∧ g < 0 ∧ 0 < g + 2 * h ∧ 4 * f * h = g * g) := by
  have s1 : sgn f = 1 := by unfold sgn; rw [if_neg (by omega), if_neg (by omega)]
  have s2 : sgn (f + g + h) = 1 := by unfold sgn; rw [if_neg (by omega), if_neg (by omega)]
  have sg : ∀ x : Int, (x < 0 ∧ sgn x = -1) ∨ (x = 0 ∧ sgn x = 0) ∨ (0 < x ∧ sgn x = 1) := fun x => by
    unfold sgn
    rcases Int.lt_trichotomy x 0 with q | q | q
    · exact .inl ⟨q, by rw [if_neg (by omega), if_pos q]⟩
    · exact .inr (.inl ⟨q, by rw [if_pos q]⟩)
    · exact .inr (.inr ⟨q, by rw [if_neg (by omega), if_neg (by omega)]⟩)
  have a0 : sm [f, g, h] 0 1 3 = f := by simp [sm, coef]
  have a1 : sm [f, g, h] 1 1 3 = f + g + h := by simp [sm, coef]; omega
  have b0 : sm [g, 2 * h] 0 1 2 = g := by simp [sm, coef]
  have b1 : sm [g, 2 * h] 1 1 2 = g + 2 * h := by simp [sm, coef]; omega
  have hfh : 0 < h → 0 < f * h := fun q => Int.mul_pos hf q
  have e4 : 4 * f * h = 4 * (f * h) := by grind
  -- where the vertex is at 1
  have hv : g + 2 * h = 0 → 0 < h → 4 * f * h ≤ g * g → False := fun q1 q2 q3 => by
    have h2 : g * g = 4 * (h * h) := by rw [show g = -(2 * h) by omega]; grind
    have h4 := Int.mul_pos q2 (show 0 < f - h by omega)
    have h5 : h * (f - h) = f * h - h * h := by grind
    omega
  have hg0 : g = 0 → 0 < h → ¬ 4 * f * h ≤ g * g := fun q1 q2 => by have := hfh q2; rw [q1, e4]; omega
  unfold NegP at hn
  obtain ⟨R, hR, ⟨rfl, hc⟩ | ⟨r, rfl, hc⟩⟩ := chn3 (f := f) (g := g) hh
  · have e : cnt [f, g, h] = (chg (chg (0, 0) (sgn f)) (sgn g)).1 - (chg (chg (0, 0) (sgn (f + g + h))) (sgn (g + 2 * h))).1 := by
      unfold cnt; rw [hc]
      show (chg (chg (0, 0) (sgn (sm [f, g, h] 0 1 3))) (sgn (sm [g, 2 * h] 0 1 2))).1 - (chg (chg (0, 0) (sgn (sm [f, g, h] 1 1 3))) (sgn (sm [g, 2 * h] 1 1 2))).1 = _
      rw [a0, a1, b0, b1]
    have hz : 0 < h ∧ 4 * f * h = g * g := by
      rcases Int.lt_or_gt_of_ne hh with q | q
      · obtain ⟨w, e1, e2⟩ := rest3n (f := f) (g := g) q hf
        rw [hR] at e1
        have := congrArg (fun l => coef l 0) e1
        rw [(coef_one w).1] at this
        simp [coef] at this; omega
      · obtain ⟨w, e1, _, e3⟩ := rest3z (f := f) (g := g) q hf
        rw [hR] at e1
        have := congrArg (fun l => coef l 0) e1
        rw [(coef_one w).1] at this
        exact ⟨q, e3.mp (by simp [coef] at this; omega)⟩
    have v1 := hv
    have v2 := hg0
    rw [e, s1, s2]
    rcases sg g with ⟨g1, k1⟩ | ⟨g1, k1⟩ | ⟨g1, k1⟩ <;> rcases sg (g + 2 * h) with ⟨g2, k2⟩ | ⟨g2, k2⟩ | ⟨g2, k2⟩ <;> rw [k1, k2] <;>
      first
        | exact (hv g2 hz.1 (by omega)).elim
        | exact (hg0 g1 hz.1 (by omega)).elim
        | exact ⟨fun _ q => by omega, fun _ => by decide⟩
        | (exfalso; have := hz.1; omega)
        | exact ⟨fun q => absurd q (by decide), fun q => absurd ⟨hz.1, g1, g2, hz.2⟩ q⟩
  · have c0 : ∀ N, sm [-r] N 1 1 = -r := fun N => by simp [sm, coef]
    have e : cnt [f, g, h] = (chg (chg (chg (0, 0) (sgn f)) (sgn g)) (sgn (-r))).1 - (chg (chg (chg (0, 0) (sgn (f + g + h))) (sgn (g + 2 * h))) (sgn (-r))).1 := by
      unfold cnt; rw [hc]
      show (chg (chg (chg (0, 0) (sgn (sm [f, g, h] 0 1 3))) (sgn (sm [g, 2 * h] 0 1 2))) (sgn (sm [-r] 0 1 1))).1 - (chg (chg (chg (0, 0) (sgn (sm [f, g, h] 1 1 3))) (sgn (sm [g, 2 * h] 1 1 2))) (sgn (sm [-r] 1 1 1))).1 = _
      rw [a0, a1, b0, b1, c0, c0]
    have hz : (h < 0 ∧ 0 < r) ∨ (0 < h ∧ (r < 0 ↔ 4 * f * h < g * g) ∧ (r = 0 ↔ 4 * f * h = g * g)) := by
      rcases Int.lt_or_gt_of_ne hh with q | q
      · obtain ⟨w, e1, e2⟩ := rest3n (f := f) (g := g) q hf
        rw [hR] at e1
        have := congrArg (fun l => coef l 0) e1
        rw [(coef_one w).1] at this
        exact .inl ⟨q, by simp [coef] at this; omega⟩
      · obtain ⟨w, e1, e2, e3⟩ := rest3z (f := f) (g := g) q hf
        rw [hR] at e1
        have := congrArg (fun l => coef l 0) e1
        rw [(coef_one w).1] at this
        simp [coef] at this
        rw [this]; exact .inr ⟨q, e2, e3⟩
    rw [e, s1, s2]
    rcases sg g with ⟨g1, k1⟩ | ⟨g1, k1⟩ | ⟨g1, k1⟩ <;> rcases sg (g + 2 * h) with ⟨g2, k2⟩ | ⟨g2, k2⟩ | ⟨g2, k2⟩ <;> rcases sg (-r) with ⟨g3, k3⟩ | ⟨g3, k3⟩ | ⟨g3, k3⟩ <;> rw [k1, k2, k3] <;>
      first
        | exact ⟨fun _ q => by omega, fun _ => by decide⟩
        | exact (hv g2 (by omega) (by omega)).elim
        | exact (hg0 g1 (by omega) (by omega)).elim
        | (exfalso; omega)
        | exact ⟨fun q => absurd q (by decide), fun q => absurd ⟨by omega, g1, g2, by omega⟩ q⟩
end Go.Proofs.Ytkpjeihgigmnkaa.EvP
