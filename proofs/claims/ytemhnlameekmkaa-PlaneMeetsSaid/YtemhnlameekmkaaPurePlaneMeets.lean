/- The pure law PlaneMeets: segments meet the other way round too, and each meets itself and its own ends. -/
import Derived.Test.YtemhnlameekmkaaXM
import Derived.Test.YtemhnlameekmkaaXPlanex4
namespace Go.Proofs.Ytemhnlameekmkaa.Pure
open Go.RowKit Go.Proofs.Ytemhnlameekmkaa.XPlane Go.Proofs.Ytemhnlameekmkaa.XM Go.Proofs.YtemhnlameekmkaaW.PrintWords Go.Proofs.YtemhnlameekmkaaW.PrintLast Go.Proofs.YtemhnlameekmkaaW.PrintMore
set_option linter.unusedVariables false

/-- May a point be? -/
def May (p : S26) : Prop := -33554432 ≤ p.f0 ∧ p.f0 ≤ 33554432 ∧ -33554432 ≤ p.f1 ∧ p.f1 ≤ 33554432
instance (p : S26) : Decidable (May p) := by unfold May; infer_instance
def allMay (l : List S26) : Bool := l.all fun p => decide (May p)

theorem may_f (x y : Int) : plane_May.f x y = some (decide (May ⟨x, y⟩)) := by
  unfold plane_May.f May
  by_cases h0 : x ≥ -33554432 <;> by_cases h1 : x ≤ 33554432 <;> by_cases h2 : y ≥ -33554432 <;> by_cases h3 : y ≤ 33554432 <;> simp [*] <;> omega
theorem rmay_f (x y : Int) : pochoirref18_May.f x y = some (decide (May ⟨x, y⟩)) := may_f x y

theorem rd_drop (l : List S26) (i : Nat) (h : i < l.length) : l.drop i = rd_T26 l (i : Int) :: l.drop (i + 1) := by
  rw [List.drop_eq_getElem_cons h]
  simp [rd_T26, h]

theorem asked_l (l : List S26) (hl : l.length ≤ 1000000) : ∀ d (i : Nat), i + d = l.length → Ev (fun k => plane_asked.l0 k l l.length i) (if allMay (l.drop i) then 0 else 1)
  | 0, i, h => by
    refine Ev.succ ?_
    simp only [plane_asked.l0]
    rw [show l.drop i = [] from List.drop_eq_nil_of_le (by omega)]
    simp only [if_neg (show ¬ ((i : Int) < (l.length : Int)) by omega)]
    exact Ev.now _
  | d + 1, i, h => by
    have ih := asked_l l hl d (i + 1) (by omega)
    refine Ev.succ ?_
    simp only [plane_asked.l0, if_pos (show ((i : Int) < (l.length : Int)) by omega), if_pos (show (0 : Int) ≤ i by omega), may_f, Option.bind_some]
    rw [rd_drop l i (by omega)]
    by_cases hm : May (rd_T26 l i)
    · simp only [hm, decide_true, if_true, w64 (n := (i : Int) + 1) (by omega) (by omega)]
      simpa [allMay, hm] using ih
    · simp only [hm, decide_false, Bool.false_eq_true, if_false]
      simp [allMay, hm]
      exact Ev.now _
theorem asked_ev (l : List S26) (hl : l.length ≤ 1000000) : Ev (fun k => plane_asked.f k l) (if allMay l then 0 else 1) := by
  have h := asked_l l hl l.length 0 (by omega)
  simp only [List.drop_zero] at h
  exact h
theorem rall_l (l : List S26) (hl : l.length ≤ 1000000) : ∀ d (i : Nat), i + d = l.length → Ev (fun k => pochoirref18_all.l0 k l i) (allMay (l.drop i))
  | 0, i, h => by
    refine Ev.succ ?_
    simp only [pochoirref18_all.l0]
    rw [show l.drop i = [] from List.drop_eq_nil_of_le (by omega)]
    simp only [if_neg (show ¬ ((i : Int) < (l.length : Int)) by omega)]
    exact Ev.now _
  | d + 1, i, h => by
    have ih := rall_l l hl d (i + 1) (by omega)
    refine Ev.succ ?_
    simp only [pochoirref18_all.l0, if_pos (show ((i : Int) < (l.length : Int)) by omega), if_pos (show (0 : Int) ≤ i by omega), rmay_f, Option.bind_some]
    rw [rd_drop l i (by omega)]
    by_cases hm : May (rd_T26 l i)
    · simp only [hm, decide_true, if_true, w64 (n := (i : Int) + 1) (by omega) (by omega)]
      simpa [allMay, hm] using ih
    · simp only [hm, decide_false, Bool.false_eq_true, if_false]
      simp [allMay, hm]
      exact Ev.now _
theorem rasked_ev (l : List S26) (hl : l.length ≤ 1000000) : Ev (fun k => pochoirref18_Asked.f k l) (if allMay l then 0 else 1) := by
  unfold pochoirref18_Asked.f pochoirref18_all.f
  refine Ev.bind (by simpa using rall_l l hl l.length 0 (by omega)) ?_
  cases allMay l <;> simp <;> exact Ev.now _

/-! what is told of points that may be -/
def cr (a b c : S26) : Int := (b.f0 - a.f0) * (c.f1 - a.f1) - (b.f1 - a.f1) * (c.f0 - a.f0)
def dt (a b c : S26) : Int := (b.f0 - a.f0) * (c.f0 - a.f0) + (b.f1 - a.f1) * (c.f1 - a.f1)
theorem df {a b : S26} (ha : May a) (hb : May b) : (-67108864 ≤ b.f0 - a.f0 ∧ b.f0 - a.f0 ≤ 67108864) ∧ (-67108864 ≤ b.f1 - a.f1 ∧ b.f1 - a.f1 ≤ 67108864) := by
  unfold May at ha hb; omega
theorem cr_bd {a b c : S26} (ha : May a) (hb : May b) (hc : May c) : -9007199254740992 ≤ cr a b c ∧ cr a b c ≤ 9007199254740992 := by
  obtain ⟨⟨x0, x1⟩, ⟨y0, y1⟩⟩ := df ha hb
  obtain ⟨⟨u0, u1⟩, ⟨v0, v1⟩⟩ := df ha hc
  have h1 := mul_bd x0 x1 v0 v1
  have h2 := mul_bd y0 y1 u0 u1
  unfold cr; omega
theorem dt_bd {a b c : S26} (ha : May a) (hb : May b) (hc : May c) : -9007199254740992 ≤ dt a b c ∧ dt a b c ≤ 9007199254740992 := by
  obtain ⟨⟨x0, x1⟩, ⟨y0, y1⟩⟩ := df ha hb
  obtain ⟨⟨u0, u1⟩, ⟨v0, v1⟩⟩ := df ha hc
  have h1 := mul_bd x0 x1 u0 u1
  have h2 := mul_bd y0 y1 v0 v1
  unfold dt; omega
theorem cross_f {a b c : S26} (ha : May a) (hb : May b) (hc : May c) : plane_cross.f a.f0 a.f1 b.f0 b.f1 c.f0 c.f1 = some (cr a b c) := by
  obtain ⟨⟨x0, x1⟩, ⟨y0, y1⟩⟩ := df ha hb
  obtain ⟨⟨u0, u1⟩, ⟨v0, v1⟩⟩ := df ha hc
  have h1 := mul_bd x0 x1 v0 v1
  have h2 := mul_bd y0 y1 u0 u1
  have h3 := cr_bd ha hb hc
  unfold plane_cross.f
  rw [w64 (n := b.f0 - a.f0) (by omega) (by omega), w64 (n := b.f1 - a.f1) (by omega) (by omega), w64 (n := c.f0 - a.f0) (by omega) (by omega), w64 (n := c.f1 - a.f1) (by omega) (by omega),
    w64 (n := (b.f0 - a.f0) * (c.f1 - a.f1)) (by omega) (by omega), w64 (n := (b.f1 - a.f1) * (c.f0 - a.f0)) (by omega) (by omega)]
  unfold cr at h3 ⊢
  rw [w64 (by omega) (by omega)]
theorem dot_f {a b c : S26} (ha : May a) (hb : May b) (hc : May c) : plane_dot.f a.f0 a.f1 b.f0 b.f1 c.f0 c.f1 = some (dt a b c) := by
  obtain ⟨⟨x0, x1⟩, ⟨y0, y1⟩⟩ := df ha hb
  obtain ⟨⟨u0, u1⟩, ⟨v0, v1⟩⟩ := df ha hc
  have h1 := mul_bd x0 x1 u0 u1
  have h2 := mul_bd y0 y1 v0 v1
  have h3 := dt_bd ha hb hc
  unfold plane_dot.f
  rw [w64 (n := b.f0 - a.f0) (by omega) (by omega), w64 (n := b.f1 - a.f1) (by omega) (by omega), w64 (n := c.f0 - a.f0) (by omega) (by omega), w64 (n := c.f1 - a.f1) (by omega) (by omega),
    w64 (n := (b.f0 - a.f0) * (c.f0 - a.f0)) (by omega) (by omega), w64 (n := (b.f1 - a.f1) * (c.f1 - a.f1)) (by omega) (by omega)]
  unfold dt at h3 ⊢
  rw [w64 (by omega) (by omega)]
def sg (n : Int) : Int := if n < 0 then -1 else if n > 0 then 1 else 0
theorem cmp_f (n : Int) : cmp_Compare_int64.f n 0 = some (sg n) := by
  simp only [cmp_Compare_int64.f, cmp_isNaN_int64.f, bne_self_eq_false, Option.bind_some, Bool.false_eq_true, if_false]
  unfold sg; by_cases h : n < 0 <;> by_cases h' : n > 0 <;> simp [*]
theorem turn_f {a b c : S26} (ha : May a) (hb : May b) (hc : May c) : plane_turn.f a.f0 a.f1 b.f0 b.f1 c.f0 c.f1 = some (sg (cr a b c)) := by
  unfold plane_turn.f
  rw [cross_f ha hb hc]; simp only [Option.bind_some, cmp_f]
def btw (a b p : S26) : Bool := decide (cr a b p = 0 ∧ dt p a b ≤ 0)
theorem between_f {a b p : S26} (ha : May a) (hb : May b) (hp : May p) : plane_between.f a.f0 a.f1 b.f0 b.f1 p.f0 p.f1 = some (btw a b p) := by
  unfold plane_between.f
  rw [cross_f ha hb hp]; simp only [Option.bind_some, dot_f hp ha hb]
  unfold btw; by_cases h : cr a b p = 0 <;> simp [h]
def meets (a b c d : S26) : Bool := btw a b c || btw a b d || btw c d a || btw c d b || (decide (sg (cr a b c) * sg (cr a b d) < 0) && decide (sg (cr c d a) * sg (cr c d b) < 0))
theorem sg_bd (n : Int) : -1 ≤ sg n ∧ sg n ≤ 1 := by
  unfold sg
  split
  · omega
  · split <;> omega
theorem sg_mul (m n : Int) : wrap64 (sg m * sg n) = sg m * sg n := by
  have h := mul_bd (x := sg m) (y := sg n) (M := 1) (N := 1) (sg_bd m).1 (sg_bd m).2 (sg_bd n).1 (sg_bd n).2
  exact w64 (by omega) (by omega)
theorem meet_ev {a b c d : S26} (ha : May a) (hb : May b) (hc : May c) (hd : May d) : Ev (fun k => plane_Meet.f k a.f0 a.f1 b.f0 b.f1 c.f0 c.f1 d.f0 d.f1) (meets a b c d, 0) := by
  unfold plane_Meet.f
  refine Ev.bind (asked_ev [a, b, c, d] (by simp)) ?_
  have hall : allMay [a, b, c, d] = true := by simp [allMay, ha, hb, hc, hd]
  simp only [hall, if_true, between_f ha hb hc, between_f ha hb hd, between_f hc hd ha, between_f hc hd hb, Option.bind_some]
  have J : ∀ x : Bool, Ev (fun k => plane_Meet.j0 k x a.f0 a.f1 b.f0 b.f1 c.f0 c.f1 d.f0 d.f1) (x || (decide (sg (cr a b c) * sg (cr a b d) < 0) && decide (sg (cr c d a) * sg (cr c d b) < 0)), 0) := by
    intro x
    refine Ev.succ ?_
    simp only [plane_Meet.j0, turn_f ha hb hc, turn_f ha hb hd, turn_f hc hd ha, turn_f hc hd hb, Option.bind_some, sg_mul]
    cases x
    · by_cases h : sg (cr a b c) * sg (cr a b d) < 0 <;> simp [h] <;> exact Ev.now _
    · simp; exact Ev.now _
  unfold meets
  cases btw a b c
  · cases btw a b d
    · cases btw c d a
      · simpa using J _
      · simpa using J true
    · simpa using J true
  · simpa using J true

theorem cr_swap (a b c : S26) : cr b a c = - cr a b c := by unfold cr; grind
theorem dt_swap (a b c : S26) : dt a c b = dt a b c := by unfold dt; grind
theorem btw_swap (a b p : S26) : btw b a p = btw a b p := by unfold btw; rw [cr_swap, dt_swap]; simp
theorem sg_neg (n : Int) : sg (-n) = - sg n := by
  unfold sg; split <;> split <;> (try split) <;> (try split) <;> omega
theorem btw_end (a b : S26) : btw a b b = true := by
  unfold btw
  have h1 : cr a b b = 0 := by unfold cr; grind
  have h2 : dt b a b = 0 := by unfold dt; simp
  simp [h1, h2]
theorem meets_swap (a b c d : S26) : meets d c a b = meets a b c d := by
  unfold meets
  rw [btw_swap c d a, btw_swap c d b, cr_swap c d a, cr_swap c d b, sg_neg, sg_neg, show -sg (cr c d a) * -sg (cr c d b) = sg (cr c d a) * sg (cr c d b) by grind, Int.mul_comm (sg (cr a b d))]
  cases btw a b c <;> cases btw a b d <;> cases btw c d a <;> cases btw c d b <;> simp [Bool.and_comm]
theorem meets_end (a b c : S26) : meets a b b c = true := by unfold meets; simp [btw_end]

theorem awake_ev : Ev (fun k => pochoirlaw18_awake.f k) true := by
  refine Ev.of (g := fun k => pochoirlaw18_awake.f k) pochoirlaw18_awake.mono (k := 9) ?_
  decide +kernel

theorem PlaneMeets : pochoirlaw18_PlaneMeets.Pure := by
  intro a b x2 _ _ _
  refine Ev.rounds (g := fun k => pochoirlaw18_PlaneMeets.f k a.f0 a.f1 b.f0 b.f1 x2.f0.f0 x2.f0.f1 x2.f1.f0 x2.f1.f1) ?_
  obtain ⟨c, d⟩ := x2
  simp only
  unfold pochoirlaw18_PlaneMeets.f
  refine Ev.bind awake_ev ?_
  refine Ev.succ ?_
  simp only [pochoirlaw18_PlaneMeets.j0, Bool.not_true, Bool.false_eq_true, if_false]
  refine Ev.bind (rasked_ev [a, b, c, d] (by simp)) ?_
  refine Ev.succ ?_
  simp only [pochoirlaw18_PlaneMeets.j1]
  cases hall : allMay [a, b, c, d]
  · simp; exact Ev.now _
  · simp [allMay] at hall
    obtain ⟨ha, hb, hc, hd⟩ := hall
    simp only [if_true, bne_self_eq_false, Bool.false_eq_true, if_false]
    refine Ev.bind (meet_ev ha hb hc hd) ?_
    refine Ev.bind (meet_ev hd hc ha hb) ?_
    refine Ev.bind (meet_ev ha hb hb ha) ?_
    refine Ev.bind (meet_ev ha hb hb hc) ?_
    simp only [meets_swap, meets_end, beq_self_eq_true, if_true]
    exact Ev.now _

end Go.Proofs.Ytemhnlameekmkaa.Pure
