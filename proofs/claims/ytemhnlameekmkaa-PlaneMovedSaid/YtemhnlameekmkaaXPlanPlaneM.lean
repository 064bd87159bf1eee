/- What layer 18 and its reference compute of points: which may be, cross and dot products. -/
import Derived.Test.YtemhnlameekmkaaXM
import Derived.Test.YtemhnlameekmkaaXPlanx1
import Derived.Test.YtemhnlameekmkaaXPlanx3
import Derived.Test.YtemhnlameekmkaaXPlanx5

namespace Go.Proofs.Ytemhnlameekmkaa.XPlan
open Go.RowKit Go.Proofs.Ytemhnlameekmkaa.XM Go.Proofs.YtemhnlameekmkaaW.PrintWords Go.Proofs.YtemhnlameekmkaaW.PrintLast Go.Proofs.YtemhnlameekmkaaW.PrintMore
set_option linter.unusedVariables false

/-- May a point be? -/
def May (p : S26) : Prop := -33554432 ≤ p.f0 ∧ p.f0 ≤ 33554432 ∧ -33554432 ≤ p.f1 ∧ p.f1 ≤ 33554432
instance (p : S26) : Decidable (May p) := by unfold May; infer_instance
def allMay (l : List S26) : Bool := l.all fun p => decide (May p)

theorem may_f (x y : Int) : plane_May.f x y = some (decide (May ⟨x, y⟩)) := by
  unfold plane_May.f May
  by_cases h0 : x ≥ -33554432 <;> by_cases h1 : x ≤ 33554432 <;> by_cases h2 : y ≥ -33554432 <;> by_cases h3 : y ≤ 33554432 <;> simp [*] <;> omega
theorem rmay_f (x y : Int) : pochoirref18_May.f x y = some (decide (May ⟨x, y⟩)) := may_f x y

theorem rd_drop (l : List S26) (i : Nat) (h : i < l.length) : l.drop i = rd_T26 l (i : Int) :: l.drop (i + 1) := by
  rw [List.drop_eq_getElem_cons h]
  simp [rd_T26, h]

theorem asked_l (l : List S26) (hl : l.length ≤ 1000000) : ∀ d (i : Nat), i + d = l.length → Ev (fun k => plane_asked.l0 k l l.length i) (if allMay (l.drop i) then 0 else 1)
  | 0, i, h => by
    refine Ev.succ ?_
    simp only [plane_asked.l0]
    rw [show l.drop i = [] from List.drop_eq_nil_of_le (by omega)]
    simp only [if_neg (show ¬ ((i : Int) < (l.length : Int)) by omega)]
    exact Ev.now _
  | d + 1, i, h => by
    have ih := asked_l l hl d (i + 1) (by omega)
    refine Ev.succ ?_
    simp only [plane_asked.l0, if_pos (show ((i : Int) < (l.length : Int)) by omega), if_pos (show (0 : Int) ≤ i by omega), may_f, Option.bind_some]
    rw [rd_drop l i (by omega)]
    by_cases hm : May (rd_T26 l i)
    · simp only [hm, decide_true, if_true, w64 (n := (i : Int) + 1) (by omega) (by omega)]
      simpa [allMay, hm] using ih
    · simp only [hm, decide_false, Bool.false_eq_true, if_false]
      simp [allMay, hm]
      exact Ev.now _
theorem asked_ev (l : List S26) (hl : l.length ≤ 1000000) : Ev (fun k => plane_asked.f k l) (if allMay l then 0 else 1) := by
  have h := asked_l l hl l.length 0 (by omega)
  simp only [List.drop_zero] at h
  exact h
theorem rall_l (l : List S26) (hl : l.length ≤ 1000000) : ∀ d (i : Nat), i + d = l.length → Ev (fun k => pochoirref18_all.l0 k l i) (allMay (l.drop i))
  | 0, i, h => by
    refine Ev.succ ?_
    simp only [pochoirref18_all.l0]
    rw [show l.drop i = [] from List.drop_eq_nil_of_le (by omega)]
    simp only [if_neg (show ¬ ((i : Int) < (l.length : Int)) by omega)]
    exact Ev.now _
  | d + 1, i, h => by
    have ih := rall_l l hl d (i + 1) (by omega)
    refine Ev.succ ?_
    simp only [pochoirref18_all.l0, if_pos (show ((i : Int) < (l.length : Int)) by omega), if_pos (show (0 : Int) ≤ i by omega), rmay_f, Option.bind_some]
    rw [rd_drop l i (by omega)]
    by_cases hm : May (rd_T26 l i)
    · simp only [hm, decide_true, if_true, w64 (n := (i : Int) + 1) (by omega) (by omega)]
      simpa [allMay, hm] using ih
    · simp only [hm, decide_false, Bool.false_eq_true, if_false]
      simp [allMay, hm]
      exact Ev.now _
theorem rasked_ev (l : List S26) (hl : l.length ≤ 1000000) : Ev (fun k => pochoirref18_Asked.f k l) (if allMay l then 0 else 1) := by
  unfold pochoirref18_Asked.f pochoirref18_all.f
  refine Ev.bind (by simpa using rall_l l hl l.length 0 (by omega)) ?_
  cases allMay l <;> simp <;> exact Ev.now _

/-! what is told of points that may be -/
def cr (a b c : S26) : Int := (b.f0 - a.f0) * (c.f1 - a.f1) - (b.f1 - a.f1) * (c.f0 - a.f0)
def dt (a b c : S26) : Int := (b.f0 - a.f0) * (c.f0 - a.f0) + (b.f1 - a.f1) * (c.f1 - a.f1)
theorem df {a b : S26} (ha : May a) (hb : May b) : (-67108864 ≤ b.f0 - a.f0 ∧ b.f0 - a.f0 ≤ 67108864) ∧ (-67108864 ≤ b.f1 - a.f1 ∧ b.f1 - a.f1 ≤ 67108864) := by
  unfold May at ha hb; omega
theorem cr_bd {a b c : S26} (ha : May a) (hb : May b) (hc : May c) : -9007199254740992 ≤ cr a b c ∧ cr a b c ≤ 9007199254740992 := by
  obtain ⟨⟨x0, x1⟩, ⟨y0, y1⟩⟩ := df ha hb
  obtain ⟨⟨u0, u1⟩, ⟨v0, v1⟩⟩ := df ha hc
  have h1 := mul_bd x0 x1 v0 v1
  have h2 := mul_bd y0 y1 u0 u1
  unfold cr; omega
theorem dt_bd {a b c : S26} (ha : May a) (hb : May b) (hc : May c) : -9007199254740992 ≤ dt a b c ∧ dt a b c ≤ 9007199254740992 := by
  obtain ⟨⟨x0, x1⟩, ⟨y0, y1⟩⟩ := df ha hb
  obtain ⟨⟨u0, u1⟩, ⟨v0, v1⟩⟩ := df ha hc
  have h1 := mul_bd x0 x1 u0 u1
  have h2 := mul_bd y0 y1 v0 v1
  unfold dt; omega
theorem cross_f {a b c : S26} (ha : May a) (hb : May b) (hc : May c) : plane_cross.f a.f0 a.f1 b.f0 b.f1 c.f0 c.f1 = some (cr a b c) := by
  obtain ⟨⟨x0, x1⟩, ⟨y0, y1⟩⟩ := df ha hb
  obtain ⟨⟨u0, u1⟩, ⟨v0, v1⟩⟩ := df ha hc
  have h1 := mul_bd x0 x1 v0 v1
  have h2 := mul_bd y0 y1 u0 u1
  have h3 := cr_bd ha hb hc
  unfold plane_cross.f
  rw [w64 (n := b.f0 - a.f0) (by omega) (by omega), w64 (n := b.f1 - a.f1) (by omega) (by omega), w64 (n := c.f0 - a.f0) (by omega) (by omega), w64 (n := c.f1 - a.f1) (by omega) (by omega),
    w64 (n := (b.f0 - a.f0) * (c.f1 - a.f1)) (by omega) (by omega), w64 (n := (b.f1 - a.f1) * (c.f0 - a.f0)) (by omega) (by omega)]
  unfold cr at h3 ⊢
  rw [w64 (by omega) (by omega)]
theorem dot_f {a b c : S26} (ha : May a) (hb : May b) (hc : May c) : plane_dot.f a.f0 a.f1 b.f0 b.f1 c.f0 c.f1 = some (dt a b c) := by
  obtain ⟨⟨x0, x1⟩, ⟨y0, y1⟩⟩ := df ha hb
  obtain ⟨⟨u0, u1⟩, ⟨v0, v1⟩⟩ := df ha hc
  have h1 := mul_bd x0 x1 u0 u1
  have h2 := mul_bd y0 y1 v0 v1
  have h3 := dt_bd ha hb hc
  unfold plane_dot.f
  rw [w64 (n := b.f0 - a.f0) (by omega) (by omega), w64 (n := b.f1 - a.f1) (by omega) (by omega), w64 (n := c.f0 - a.f0) (by omega) (by omega), w64 (n := c.f1 - a.f1) (by omega) (by omega),
    w64 (n := (b.f0 - a.f0) * (c.f0 - a.f0)) (by omega) (by omega), w64 (n := (b.f1 - a.f1) * (c.f1 - a.f1)) (by omega) (by omega)]
  unfold dt at h3 ⊢
  rw [w64 (by omega) (by omega)]
theorem rcross_f {a b c : S26} (ha : May a) (hb : May b) (hc : May c) : pochoirref18_Cross.f a.f0 a.f1 b.f0 b.f1 c.f0 c.f1 = some (cr a b c) := cross_f ha hb hc
theorem rdot_f {a b c : S26} (ha : May a) (hb : May b) (hc : May c) : pochoirref18_Dot.f a.f0 a.f1 b.f0 b.f1 c.f0 c.f1 = some (dt a b c) := dot_f ha hb hc
theorem Dot_ev {a b c : S26} (ha : May a) (hb : May b) (hc : May c) : Ev (fun k => plane_Dot.f k a.f0 a.f1 b.f0 b.f1 c.f0 c.f1) (dt a b c, 0) := by
  unfold plane_Dot.f
  refine Ev.bind (asked_ev [a, b, c] (by simp)) ?_
  rw [if_pos (show allMay [a, b, c] = true by simp [allMay, ha, hb, hc])]
  simp only [if_true, dot_f ha hb hc, Option.bind_some]
  exact Ev.now _
theorem Far_ev {a b : S26} (ha : May a) (hb : May b) : Ev (fun k => plane_Far.f k a.f0 a.f1 b.f0 b.f1) (dt a b b, 0) := by
  unfold plane_Far.f
  exact Ev.bind (Dot_ev ha hb hb) (Ev.now _)
theorem Cross_ev {a b c : S26} (ha : May a) (hb : May b) (hc : May c) : Ev (fun k => plane_Cross.f k a.f0 a.f1 b.f0 b.f1 c.f0 c.f1) (cr a b c, 0) := by
  unfold plane_Cross.f
  refine Ev.bind (asked_ev [a, b, c] (by simp)) ?_
  rw [if_pos (show allMay [a, b, c] = true by simp [allMay, ha, hb, hc])]
  simp only [if_true, cross_f ha hb hc, Option.bind_some]
  exact Ev.now _
theorem cr_swap (a b c : S26) : cr b a c = - cr a b c := by unfold cr; grind
theorem dt_swap (a b c : S26) : dt a c b = dt a b c := by unfold dt; grind
/-- cross and dot, squared, are the squares of the two lengths, multiplied. -/
theorem lagrange (a b p : S26) : cr a b p * cr a b p + dt a b p * dt a b p = dt a b b * dt a p p := by unfold cr dt; grind
theorem far_nn (a b : S26) : 0 ≤ dt a b b := by
  unfold dt
  have h1 : 0 ≤ (b.f0 - a.f0) * (b.f0 - a.f0) := sq_nn _
  have h2 : 0 ≤ (b.f1 - a.f1) * (b.f1 - a.f1) := sq_nn _
  omega

end Go.Proofs.Ytemhnlameekmkaa.XPlan
