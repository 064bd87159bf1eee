/- Polynomials of degree two at most: how many roots the chain counts between 0 and 1. -/
import Derived.Test.YtkpjeihgigmnkaaEvSideQ
namespace Go.Proofs.Ytkpjeihgigmnkaa.EvP
open Go Go.Proofs.Ytkpjeihgigmnkaa.Ev Go.Proofs.Ytkpjeihgigmnkaa.NumB
set_option linter.unusedVariables false
set_option linter.unusedSimpArgs false
theorem rests_len {M : List Int} (hm : M ≠ []) : ∀ (n : Nat) (L : List Int), L.length < n → (rests n L M).length < M.length
  | 0, L, h => by omega
  | n + 1, L, h => by
    rw [rests]
    by_cases c : M.length ≤ L.length
    · have hq0 : M.length ≠ 0 := fun q => hm (List.eq_nil_of_length_eq_zero q)
      have hne : L ≠ [] := fun q => by rw [q] at c; simp at c; exact hm c
      have hst := rstep_top L M hm c hne
      rw [if_pos c]
      exact rests_len hm n (rstep L M) (by omega)
    · rw [if_neg c]; omega
theorem chain_nil (n : Nat) (L : List Int) : chain n L [] = [] := by cases n <;> simp [chain]
theorem chain_c (n : Nat) (L : List Int) (hL : L.length < 100) {r : Int} : chain (n + 1) L [r] = [[r]] := by
  have h : rests 100 L [r] = [] := List.eq_nil_of_length_eq_zero (by have := rests_len (M := [r]) (by simp) 100 L hL; simp at this; simp [this])
  rw [chain, if_neg (by simp), h]
  show [r] :: chain n [r] [] = _
  rw [chain_nil]
theorem pder3 (f g h : Int) (hh : h ≠ 0) : pder [f, g, h] = [g, 2 * h] := by
  have : tz [g, 2 * h] = [g, 2 * h] := by simp [tz, hh]
  rw [← this]
  refine tz_ext fun i => ?_
  show coef ((List.range 2).map _) i = _
  rw [coef_range]
  match i with
  | 0 => simp [coef]
  | 1 => simp [coef]; omega
  | i + 2 => simp [coef]
theorem pder2 (f g : Int) (hg : g ≠ 0) : pder [f, g] = [g] := by
  have : tz [g] = [g] := by simp [tz, hg]
  refine Eq.trans (tz_ext (M := [g]) fun i => ?_) this
  show coef ((List.range 1).map _) i = _
  rw [coef_range]
  match i with
  | 0 => simp [coef]
  | i + 1 => simp [coef]
theorem cnt1 (f : Int) : cnt [f] = 0 := by
  have : chn [f] = [[f]] := by
    have e : pder [f] = [] := rfl
    unfold chn; rw [e, chain_nil]
  unfold cnt; rw [this]
  simp [chgs, sm, coef]
theorem cnt2 {f g : Int} (hg : g ≠ 0) (hf : 0 < f) (hs : 0 < f + g) : cnt [f, g] < 2 := by
  have : chn [f, g] = [[f, g], [g]] := by unfold chn; rw [pder2 f g hg, chain_c 7 _ (by simp)]
  unfold cnt; rw [this]
  have e1 : (chgs [[f, g], [g]] 0 1 2).1 = (chg (chg (0, 0) (sgn f)) (sgn g)).1 := by simp [chgs, sm, coef]
  have e2 : (chgs [[f, g], [g]] 1 1 2).1 = (chg (chg (0, 0) (sgn (f + g))) (sgn g)).1 := by simp [chgs, sm, coef, Int.add_comm]
  show (chgs [[f, g], [g]] 0 1 2).1 - (chgs [[f, g], [g]] 1 1 2).1 < 2
  rw [e1, e2, show sgn f = 1 by unfold sgn; rw [if_neg (by omega), if_neg (by omega)], show sgn (f + g) = 1 by unfold sgn; rw [if_neg (by omega), if_neg (by omega)]]
  omega
theorem rs1 {f g h : Int} (hh : 0 < h) : rstep [f, g, h] [g, 2 * h] = tz [2 * f * h, g * h] := by
  have t1 : top [g, 2 * h] = 2 * h := rfl
  have t2 : top [f, g, h] = h := rfl
  unfold rstep
  rw [t1, t2, if_neg (by omega), show ((2 * h).natAbs : Int) = 2 * h by omega, show [f, g, h].length = 3 from rfl, show [g, 2 * h].length = 2 from rfl]
  refine tz_ext fun i => ?_
  rw [coef_range]
  match i with
  | 0 => simp [coef, cof]; grind
  | 1 => simp [coef, cof]; grind
  | 2 => simp [coef, cof]; grind
  | i + 3 => rw [if_neg (by omega)]; simp [coef]
theorem rs2 {a b g h : Int} (hh : 0 < h) : rstep [a, b] [g, 2 * h] = tz [a * (2 * h) - g * b] := by
  have t1 : top [g, 2 * h] = 2 * h := rfl
  have t2 : top [a, b] = b := rfl
  unfold rstep
  rw [t1, t2, if_neg (by omega), show ((2 * h).natAbs : Int) = 2 * h by omega, show [a, b].length = 2 from rfl, show [g, 2 * h].length = 2 from rfl]
  refine tz_ext fun i => ?_
  rw [coef_range]
  match i with
  | 0 => simp [coef, cof]
  | 1 => simp [coef, cof]; grind
  | i + 2 => rw [if_neg (by omega)]; simp [coef]
theorem rest3 {f g h : Int} (hh : 0 < h) (hf : 0 < f) : ∃ w, rests 100 [f, g, h] [g, 2 * h] = tz [w] ∧ (w < 0 ↔ 4 * f * h < g * g) := by
  have hfh : 0 < f * h := Int.mul_pos hf hh
  rw [rests, if_pos (by simp), rs1 hh]
  by_cases hg : g = 0
  · subst hg
    have e : tz [2 * f * h, 0 * h] = tz [2 * f * h] := tz_ext fun i => by
      match i with
      | 0 => rfl
      | 1 => simp [coef]
      | i + 2 => simp [coef]
    refine ⟨2 * f * h, ?_, ?_⟩
    · rw [e, rests, if_neg (by have := one_len (2 * f * h); simp; omega)]
    · have : 2 * f * h = 2 * (f * h) := by grind
      have : 4 * f * h = 4 * (f * h) := by grind
      constructor <;> intro _ <;> omega
  · have hgh : g * h ≠ 0 := Int.mul_ne_zero hg (by omega)
    have e : tz [2 * f * h, g * h] = [2 * f * h, g * h] := by
      have hn : h ≠ 0 := by omega
      simp [tz, hg, hn]
    refine ⟨2 * f * h * (2 * h) - g * (g * h), ?_, ?_⟩
    · rw [e, rests, if_pos (by simp), rs2 hh, rests, if_neg (by have := one_len (2 * f * h * (2 * h) - g * (g * h)); simp; omega)]
    · have e1 : 2 * f * h * (2 * h) - g * (g * h) = h * (4 * f * h - g * g) := by grind
      rw [e1]
      constructor
      · intro h1
        rcases Int.lt_or_le (4 * f * h) (g * g) with q | q
        · exact q
        · have := Int.mul_nonneg (Int.le_of_lt hh) (show 0 ≤ 4 * f * h - g * g by omega)
          omega
      · intro h1
        have := Int.mul_pos hh (show 0 < g * g - 4 * f * h by omega)
        have e2 : h * (4 * f * h - g * g) = -(h * (g * g - 4 * f * h)) := by grind
        omega
theorem chn3 {f g h : Int} (hh : h ≠ 0) : ∃ R, rests 100 [f, g, h] [g, 2 * h] = R ∧ ((R = [] ∧ chn [f, g, h] = [[f, g, h], [g, 2 * h]]) ∨ ∃ r, R = [r] ∧ chn [f, g, h] = [[f, g, h], [g, 2 * h], [-r]]) := by
  refine ⟨_, rfl, ?_⟩
  have hl := rests_len (M := [g, 2 * h]) (by simp) 100 [f, g, h] (by simp)
  unfold chn
  rw [pder3 f g h hh, chain, if_neg (by simp)]
  generalize rests 100 [f, g, h] [g, 2 * h] = R at *
  match R, hl with
  | [], _ => exact .inl ⟨rfl, by show _ :: _ :: chain 7 _ [] = _; rw [chain_nil]⟩
  | [r], _ => exact .inr ⟨r, rfl, by show _ :: _ :: chain 7 _ [-r] = _; rw [chain_c 6 _ (by simp)]⟩
/-- The changes of signs behind one above 0. -/
def c2 (a b : Int) : Int := (chg (chg (1 - 1, 1) a) b).1
theorem cnt3 {f g h : Int} (hh : h ≠ 0) (hf : 0 < f) (hs : 0 < f + g + h) : 2 ≤ cnt [f, g, h] ↔ g < 0 ∧ 0 < g + 2 * h ∧ 4 * f * h < g * g := by
  have s1 : sgn f = 1 := by unfold sgn; rw [if_neg (by omega), if_neg (by omega)]
  have s2 : sgn (f + g + h) = 1 := by unfold sgn; rw [if_neg (by omega), if_neg (by omega)]
  have sg : ∀ x : Int, (x < 0 ∧ sgn x = -1) ∨ (x = 0 ∧ sgn x = 0) ∨ (0 < x ∧ sgn x = 1) := fun x => by
    unfold sgn
    rcases Int.lt_trichotomy x 0 with q | q | q
    · exact .inl ⟨q, by rw [if_neg (by omega), if_pos q]⟩
    · exact .inr (.inl ⟨q, by rw [if_pos q]⟩)
    · exact .inr (.inr ⟨q, by rw [if_neg (by omega), if_neg (by omega)]⟩)
  have a0 : sm [f, g, h] 0 1 3 = f := by simp [sm, coef]
  have a1 : sm [f, g, h] 1 1 3 = f + g + h := by simp [sm, coef]; omega
  have b0 : sm [g, 2 * h] 0 1 2 = g := by simp [sm, coef]
  have b1 : sm [g, 2 * h] 1 1 2 = g + 2 * h := by simp [sm, coef]; omega
  obtain ⟨R, hR, ⟨rfl, hc⟩ | ⟨r, rfl, hc⟩⟩ := chn3 (f := f) (g := g) hh
  · have e : cnt [f, g, h] = (chg (chg (0, 0) (sgn f)) (sgn g)).1 - (chg (chg (0, 0) (sgn (f + g + h))) (sgn (g + 2 * h))).1 := by
      unfold cnt; rw [hc]
      show (chg (chg (0, 0) (sgn (sm [f, g, h] 0 1 3))) (sgn (sm [g, 2 * h] 0 1 2))).1 - (chg (chg (0, 0) (sgn (sm [f, g, h] 1 1 3))) (sgn (sm [g, 2 * h] 1 1 2))).1 = _
      rw [a0, a1, b0, b1]
    have hno : ¬ (g < 0 ∧ 0 < g + 2 * h ∧ 4 * f * h < g * g) := fun ⟨h1, h2, h3⟩ => by
      obtain ⟨w, e1, e2⟩ := rest3 (f := f) (g := g) (h := h) (by omega) hf
      have hw := e2.mpr h3
      rw [hR] at e1
      have := congrArg (fun l => coef l 0) e1
      rw [(coef_one w).1] at this
      simp [coef] at this; omega
    rw [e, s1, s2]
    refine ⟨fun q => absurd q ?_, fun q => absurd q hno⟩
    rcases sg g with ⟨_, k1⟩ | ⟨_, k1⟩ | ⟨_, k1⟩ <;> rcases sg (g + 2 * h) with ⟨_, k2⟩ | ⟨_, k2⟩ | ⟨_, k2⟩ <;> rw [k1, k2] <;> decide
  · have c0 : ∀ N, sm [-r] N 1 1 = -r := fun N => by simp [sm, coef]
    have e : cnt [f, g, h] = (chg (chg (chg (0, 0) (sgn f)) (sgn g)) (sgn (-r))).1 - (chg (chg (chg (0, 0) (sgn (f + g + h))) (sgn (g + 2 * h))) (sgn (-r))).1 := by
      unfold cnt; rw [hc]
      show (chg (chg (chg (0, 0) (sgn (sm [f, g, h] 0 1 3))) (sgn (sm [g, 2 * h] 0 1 2))) (sgn (sm [-r] 0 1 1))).1 - (chg (chg (chg (0, 0) (sgn (sm [f, g, h] 1 1 3))) (sgn (sm [g, 2 * h] 1 1 2))) (sgn (sm [-r] 1 1 1))).1 = _
      rw [a0, a1, b0, b1, c0, c0]
    have hw : 0 < h → (r < 0 ↔ 4 * f * h < g * g) := fun h1 => by
      obtain ⟨w, e1, e2⟩ := rest3 (f := f) (g := g) (h := h) h1 hf
      rw [hR] at e1
      have := congrArg (fun l => coef l 0) e1
      rw [(coef_one w).1] at this
      simp [coef] at this
      rw [this]; exact e2
    have hno : ∀ A : Prop, (0 < h → ¬ A) → (A → g < 0 ∧ 0 < g + 2 * h) → ¬ A := fun A k1 k2 a => by have := k2 a; exact k1 (by omega) a
    rw [e, s1, s2]
    rcases sg g with ⟨g1, k1⟩ | ⟨g1, k1⟩ | ⟨g1, k1⟩ <;> rcases sg (g + 2 * h) with ⟨g2, k2⟩ | ⟨g2, k2⟩ | ⟨g2, k2⟩ <;> rcases sg (-r) with ⟨g3, k3⟩ | ⟨g3, k3⟩ | ⟨g3, k3⟩ <;> rw [k1, k2, k3] <;>
      first
        | exact ⟨fun q => absurd q (by decide), fun q => absurd q (by omega)⟩
        | exact ⟨fun q => absurd q (by decide), fun q => by have := (hw (by omega)).mpr q.2.2; omega⟩
        | exact ⟨fun _ => ⟨g1, g2, (hw (by omega)).mp (by omega)⟩, fun _ => by decide⟩
        | exact ⟨fun _ => False.elim (by
            have h1 := (hw (by omega)).mp (by omega)
            obtain rfl : g = -(2 * h) := by omega
            have h2 : -(2 * h) * -(2 * h) = 4 * h * h := by grind
            have h3 : 4 * h * h - 4 * f * h = 4 * h * (h - f) := by grind
            have h4 := Int.mul_pos (show 0 < 4 * h by omega) (show 0 < f - h by omega)
            have h5 : 4 * h * (f - h) = -(4 * h * (h - f)) := by grind
            omega), fun q => absurd q (by omega)⟩
end Go.Proofs.Ytkpjeihgigmnkaa.EvP
