/- Layer 18, told of any points: what is asked, turned, between, met; and the reference's word for it. -/
import Derived.Test.YtemhnlameekmkaaXM
import Derived.Test.YtemhnlameekmkaaXPlanPlaneM
import Derived.Test.YtemhnlameekmkaaXPlanx3
import Derived.Test.YtemhnlameekmkaaXPlanx4
import Derived.Test.YtemhnlameekmkaaXPlanx5
import Derived.Test.YtemhnlameekmkaaXPlanx6

namespace Go.Proofs.Ytemhnlameekmkaa.XPlan
open Go.RowKit Go.Proofs.Ytemhnlameekmkaa.XM Go.Proofs.YtemhnlameekmkaaW.PrintWords Go.Proofs.YtemhnlameekmkaaW.PrintLast Go.Proofs.YtemhnlameekmkaaW.PrintMore
set_option linter.unusedVariables false
set_option linter.unusedSimpArgs false

def sg (n : Int) : Int := if n < 0 then -1 else if n > 0 then 1 else 0
theorem cmp_f (n : Int) : cmp_Compare_int64.f n 0 = some (sg n) := by
  simp only [cmp_Compare_int64.f, cmp_isNaN_int64.f, bne_self_eq_false, Option.bind_some, Bool.false_eq_true, if_false]
  unfold sg; by_cases h : n < 0 <;> by_cases h' : n > 0 <;> simp [*]
theorem rsign_f (n : Int) : pochoirref18_Sign.f n = some (sg n) := by
  unfold pochoirref18_Sign.f sg; by_cases h : n < 0 <;> by_cases h' : n > 0 <;> simp [*]
theorem turn_f {a b c : S26} (ha : May a) (hb : May b) (hc : May c) : plane_turn.f a.f0 a.f1 b.f0 b.f1 c.f0 c.f1 = some (sg (cr a b c)) := by
  unfold plane_turn.f
  rw [cross_f ha hb hc]; simp only [Option.bind_some, cmp_f]
def btw (a b p : S26) : Bool := decide (cr a b p = 0 ∧ dt p a b ≤ 0)
theorem between_f {a b p : S26} (ha : May a) (hb : May b) (hp : May p) : plane_between.f a.f0 a.f1 b.f0 b.f1 p.f0 p.f1 = some (btw a b p) := by
  unfold plane_between.f
  rw [cross_f ha hb hp]; simp only [Option.bind_some, dot_f hp ha hb]
  unfold btw; by_cases h : cr a b p = 0 <;> simp [h]
theorem box (a b p : Int) : (p ≥ mn a b ∧ p ≤ mx a b) ↔ (a - p) * (b - p) ≤ 0 := by
  have e : (p ≥ mn a b ∧ p ≤ mx a b) ↔ ((a - p ≤ 0 ∧ 0 ≤ b - p) ∨ (0 ≤ a - p ∧ b - p ≤ 0)) := by
    unfold mn mx; split <;> split <;> omega
  rw [e]
  generalize a - p = u
  generalize b - p = v
  constructor
  · rintro (⟨h1, h2⟩ | ⟨h1, h2⟩)
    · exact Int.mul_nonpos_of_nonpos_of_nonneg h1 h2
    · exact Int.mul_nonpos_of_nonneg_of_nonpos h1 h2
  · intro h
    rcases Int.lt_trichotomy u 0 with hu | hu | hu
    · rcases Int.lt_trichotomy v 0 with hv | hv | hv
      · have := Int.mul_pos_of_neg_of_neg hu hv; omega
      · omega
      · omega
    · omega
    · rcases Int.lt_trichotomy v 0 with hv | hv | hv
      · omega
      · omega
      · have := Int.mul_pos hu hv; omega
theorem same_sign {u0 u1 v0 v1 : Int} (hc : u0 * v1 = u1 * v0) : (u0 * v0 ≤ 0 ∧ u1 * v1 ≤ 0) ↔ u0 * v0 + u1 * v1 ≤ 0 := by
  have h2 : (u0 * v0) * (u1 * v1) = (u0 * v1) * (u0 * v1) := by
    rw [show (u0 * v0) * (u1 * v1) = (u0 * v1) * (u1 * v0) by grind, ← hc]
  have h3 := sq_nn (u0 * v1)
  rw [← h2] at h3
  clear h2 hc
  generalize u0 * v0 = s at *
  generalize u1 * v1 = t at *
  constructor
  · omega
  · intro h
    rcases Int.lt_trichotomy s 0 with hs | hs | hs
    · rcases Int.lt_trichotomy t 0 with ht | ht | ht
      · omega
      · omega
      · have := Int.mul_neg_of_neg_of_pos hs ht; omega
    · omega
    · have ht : t < 0 := by omega
      have := Int.mul_neg_of_pos_of_neg hs ht; omega
theorem rbetween_f {a b p : S26} (ha : May a) (hb : May b) (hp : May p) : pochoirref18_Between.f a.f0 a.f1 b.f0 b.f1 p.f0 p.f1 = some (btw a b p) := by
  unfold pochoirref18_Between.f
  rw [rcross_f ha hb hp]; simp only [Option.bind_some]
  unfold btw
  by_cases h : cr a b p = 0
  · have hc : (a.f0 - p.f0) * (b.f1 - p.f1) = (a.f1 - p.f1) * (b.f0 - p.f0) := by unfold cr at h; grind
    have hs := same_sign hc
    have e : dt p a b = (a.f0 - p.f0) * (b.f0 - p.f0) + (a.f1 - p.f1) * (b.f1 - p.f1) := by unfold dt; grind
    rw [← e, ← box, ← box] at hs
    simp only [h, if_true, true_and]
    by_cases h1 : p.f0 ≥ mn a.f0 b.f0 <;> by_cases h2 : p.f0 ≤ mx a.f0 b.f0 <;> by_cases h3 : p.f1 ≥ mn a.f1 b.f1 <;> by_cases h4 : p.f1 ≤ mx a.f1 b.f1 <;> simp only [h1, h2, h3, h4, if_true, if_false, and_true, true_and, and_false, false_and, true_iff, false_iff] at hs ⊢ <;> simp [hs]
  · simp [h]
def meets (a b c d : S26) : Bool := btw a b c || btw a b d || btw c d a || btw c d b || (decide (sg (cr a b c) * sg (cr a b d) < 0) && decide (sg (cr c d a) * sg (cr c d b) < 0))
theorem sg_bd (n : Int) : -1 ≤ sg n ∧ sg n ≤ 1 := by
  unfold sg
  split
  · omega
  · split <;> omega
theorem sg_mul (m n : Int) : wrap64 (sg m * sg n) = sg m * sg n := by
  have h := mul_bd (x := sg m) (y := sg n) (M := 1) (N := 1) (sg_bd m).1 (sg_bd m).2 (sg_bd n).1 (sg_bd n).2
  exact w64 (by omega) (by omega)
theorem Meet_any (a b c d : S26) : Ev (fun k => plane_Meet.f k a.f0 a.f1 b.f0 b.f1 c.f0 c.f1 d.f0 d.f1) (if allMay [a, b, c, d] then meets a b c d else false, if allMay [a, b, c, d] then 0 else 1) := by
  unfold plane_Meet.f
  refine Ev.bind (asked_ev [a, b, c, d] (by simp)) ?_
  cases hall : allMay [a, b, c, d]
  · simp; exact Ev.now _
  have hm := hall
  simp [allMay] at hm
  obtain ⟨ha, hb, hc, hd⟩ := hm
  simp only [if_true, between_f ha hb hc, between_f ha hb hd, between_f hc hd ha, between_f hc hd hb, Option.bind_some]
  have J : ∀ x : Bool, Ev (fun k => plane_Meet.j0 k x a.f0 a.f1 b.f0 b.f1 c.f0 c.f1 d.f0 d.f1) (x || (decide (sg (cr a b c) * sg (cr a b d) < 0) && decide (sg (cr c d a) * sg (cr c d b) < 0)), 0) := by
    intro x
    refine Ev.succ ?_
    simp only [plane_Meet.j0, turn_f ha hb hc, turn_f ha hb hd, turn_f hc hd ha, turn_f hc hd hb, Option.bind_some, sg_mul]
    cases x
    · by_cases h : sg (cr a b c) * sg (cr a b d) < 0 <;> simp [h] <;> exact Ev.now _
    · simp; exact Ev.now _
  unfold meets
  cases btw a b c
  · cases btw a b d
    · cases btw c d a
      · simpa using J _
      · simpa using J true
    · simpa using J true
  · simpa using J true
theorem rMeet_ev {a b c d : S26} (ha : May a) (hb : May b) (hc : May c) (hd : May d) : Ev (fun k => pochoirref18_Meet.f k a.f0 a.f1 b.f0 b.f1 c.f0 c.f1 d.f0 d.f1) (meets a b c d) := by
  unfold pochoirref18_Meet.f
  simp only [if_true, rbetween_f ha hb hc, rbetween_f ha hb hd, rbetween_f hc hd ha, rbetween_f hc hd hb, Option.bind_some]
  have J : ∀ x : Bool, Ev (fun k => pochoirref18_Meet.j0 k x a.f0 a.f1 b.f0 b.f1 c.f0 c.f1 d.f0 d.f1) (x || (decide (sg (cr a b c) * sg (cr a b d) < 0) && decide (sg (cr c d a) * sg (cr c d b) < 0))) := by
    intro x
    refine Ev.succ ?_
    simp only [pochoirref18_Meet.j0, rcross_f ha hb hc, rcross_f ha hb hd, rcross_f hc hd ha, rcross_f hc hd hb, rsign_f, Option.bind_some, sg_mul]
    cases x
    · by_cases h : sg (cr a b c) * sg (cr a b d) < 0 <;> simp [h] <;> exact Ev.now _
    · simp; exact Ev.now _
  unfold meets
  cases btw a b c
  · cases btw a b d
    · cases btw c d a
      · simpa using J _
      · simpa using J true
    · simpa using J true
  · simpa using J true
theorem Cross_any (a b c : S26) : Ev (fun k => plane_Cross.f k a.f0 a.f1 b.f0 b.f1 c.f0 c.f1) (if allMay [a, b, c] then cr a b c else 0, if allMay [a, b, c] then 0 else 1) := by
  unfold plane_Cross.f
  refine Ev.bind (asked_ev [a, b, c] (by simp)) ?_
  cases hall : allMay [a, b, c]
  · simp; exact Ev.now _
  have hm := hall
  simp [allMay] at hm
  obtain ⟨ha, hb, hc⟩ := hm
  simp only [if_true, cross_f ha hb hc, Option.bind_some]; exact Ev.now _
theorem Dot_any (a b c : S26) : Ev (fun k => plane_Dot.f k a.f0 a.f1 b.f0 b.f1 c.f0 c.f1) (if allMay [a, b, c] then dt a b c else 0, if allMay [a, b, c] then 0 else 1) := by
  unfold plane_Dot.f
  refine Ev.bind (asked_ev [a, b, c] (by simp)) ?_
  cases hall : allMay [a, b, c]
  · simp; exact Ev.now _
  have hm := hall
  simp [allMay] at hm
  obtain ⟨ha, hb, hc⟩ := hm
  simp only [if_true, dot_f ha hb hc, Option.bind_some]; exact Ev.now _
theorem Turn_any (a b c : S26) : Ev (fun k => plane_Turn.f k a.f0 a.f1 b.f0 b.f1 c.f0 c.f1) (if allMay [a, b, c] then sg (cr a b c) else 0, if allMay [a, b, c] then 0 else 1) := by
  unfold plane_Turn.f
  refine Ev.bind (asked_ev [a, b, c] (by simp)) ?_
  cases hall : allMay [a, b, c]
  · simp; exact Ev.now _
  have hm := hall
  simp [allMay] at hm
  obtain ⟨ha, hb, hc⟩ := hm
  simp only [if_true, turn_f ha hb hc, Option.bind_some]; exact Ev.now _
theorem Between_any (a b c : S26) : Ev (fun k => plane_Between.f k a.f0 a.f1 b.f0 b.f1 c.f0 c.f1) (if allMay [a, b, c] then btw a b c else false, if allMay [a, b, c] then 0 else 1) := by
  unfold plane_Between.f
  refine Ev.bind (asked_ev [a, b, c] (by simp)) ?_
  cases hall : allMay [a, b, c]
  · simp; exact Ev.now _
  have hm := hall
  simp [allMay] at hm
  obtain ⟨ha, hb, hc⟩ := hm
  simp only [if_true, between_f ha hb hc, Option.bind_some]; exact Ev.now _
theorem Far_any (a b : S26) : Ev (fun k => plane_Far.f k a.f0 a.f1 b.f0 b.f1) (if allMay [a, b] then dt a b b else 0, if allMay [a, b] then 0 else 1) := by
  unfold plane_Far.f
  refine Ev.bind (Dot_any a b b) ?_
  rw [show allMay [a, b, b] = allMay [a, b] by simp [allMay]]
  exact Ev.now _
theorem awake18_ev : Ev (fun k => pochoirlaw18_awake.f k) true := by
  refine Ev.of (g := fun k => pochoirlaw18_awake.f k) pochoirlaw18_awake.mono (k := 9) ?_
  decide +kernel

end Go.Proofs.Ytemhnlameekmkaa.XPlan
