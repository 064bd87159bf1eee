/- The pure law PlaneMoved: a move and a quarter turn keep turns and distances. -/
import Derived.Test.YtemhnlameekmkaaXPlanPlaneNM
import Derived.Test.YtemhnlameekmkaaXPlanx2
namespace Go.Proofs.Ytemhnlameekmkaa.Pure
open Go.RowKit Go.Proofs.Ytemhnlameekmkaa.XPlan Go.Proofs.Ytemhnlameekmkaa.XM Go.Proofs.YtemhnlameekmkaaW.PrintWords Go.Proofs.YtemhnlameekmkaaW.PrintLast Go.Proofs.YtemhnlameekmkaaW.PrintMore
set_option linter.unusedVariables false
set_option linter.unusedSimpArgs false

theorem tm {x : Int} (h : -2147483648 ≤ x ∧ x ≤ 2147483647) : -1048575 ≤ Int.tmod (wrap64 x) 1048576 ∧ Int.tmod (wrap64 x) 1048576 ≤ 1048575 := by
  rw [w64 (by omega) (by omega)]
  have h1 := Int.tmod_lt_of_pos x (b := 1048576) (by omega)
  have h2 := Int.lt_tmod_of_pos x (b := 1048576) (by omega)
  omega

theorem PlaneMoved : pochoirlaw18_PlaneMoved.Pure := by
  intro x0 x1 hx0 hx1
  refine Ev.rounds (g := fun k => pochoirlaw18_PlaneMoved.f k x0.f0.f0 x0.f0.f1 x0.f1.f0 x0.f1.f1 x0.f2.f0 x0.f2.f1 x1.f0 x1.f1) ?_
  obtain ⟨⟨h00, h01⟩, ⟨h10, h11⟩, ⟨h20, h21⟩⟩ := hx0
  obtain ⟨g0, g1⟩ := hx1
  unfold pochoirlaw18_PlaneMoved.f
  refine Ev.bind awake18_ev ?_
  refine Ev.succ ?_
  simp only [pochoirlaw18_PlaneMoved.j0, Bool.not_true, Bool.false_eq_true, if_false]
  have t00 := tm (i32_of h00)
  have t01 := tm (i32_of h01)
  have t10 := tm (i32_of h10)
  have t11 := tm (i32_of h11)
  have t20 := tm (i32_of h20)
  have t21 := tm (i32_of h21)
  have s0 := tm (i32_of g0)
  have s1 := tm (i32_of g1)
  clear h00 h01 h10 h11 h20 h21 g0 g1
  revert t00 t01 t10 t11 t20 t21 s0 s1
  generalize Int.tmod (wrap64 x0.f0.f0) 1048576 = p0
  generalize Int.tmod (wrap64 x0.f0.f1) 1048576 = p1
  generalize Int.tmod (wrap64 x0.f1.f0) 1048576 = q0
  generalize Int.tmod (wrap64 x0.f1.f1) 1048576 = q1
  generalize Int.tmod (wrap64 x0.f2.f0) 1048576 = r0
  generalize Int.tmod (wrap64 x0.f2.f1) 1048576 = r1
  generalize Int.tmod (wrap64 x1.f0) 1048576 = m0
  generalize Int.tmod (wrap64 x1.f1) 1048576 = m1
  intro t00 t01 t10 t11 t20 t21 s0 s1
  rw [w64 (n := p0 + m0) (by omega) (by omega), w64 (n := p1 + m1) (by omega) (by omega), w64 (n := q0 + m0) (by omega) (by omega), w64 (n := q1 + m1) (by omega) (by omega),
    w64 (n := r0 + m0) (by omega) (by omega), w64 (n := r1 + m1) (by omega) (by omega), w64 (n := -p1) (by omega) (by omega), w64 (n := -q1) (by omega) (by omega), w64 (n := -r1) (by omega) (by omega)]
  have P : May ⟨p0, p1⟩ := by unfold May; simp only; omega
  have Q : May ⟨q0, q1⟩ := by unfold May; simp only; omega
  have R : May ⟨r0, r1⟩ := by unfold May; simp only; omega
  have P' : May ⟨p0 + m0, p1 + m1⟩ := by unfold May; simp only; omega
  have Q' : May ⟨q0 + m0, q1 + m1⟩ := by unfold May; simp only; omega
  have R' : May ⟨r0 + m0, r1 + m1⟩ := by unfold May; simp only; omega
  have P2 : May ⟨-p1, p0⟩ := by unfold May; simp only; omega
  have Q2 : May ⟨-q1, q0⟩ := by unfold May; simp only; omega
  have R2 : May ⟨-r1, r0⟩ := by unfold May; simp only; omega
  clear t00 t01 t10 t11 t20 t21 s0 s1
  refine Ev.bind (Cross_ev P Q R) ?_
  refine Ev.succ ?_
  simp only [pochoirlaw18_PlaneMoved.j1]
  refine Ev.bind (Cross_ev P' Q' R') ?_
  refine Ev.succ ?_
  simp only [pochoirlaw18_PlaneMoved.j2]
  refine Ev.bind (Cross_ev P2 Q2 R2) ?_
  refine Ev.bind (Cross_ev Q R P) ?_
  refine Ev.bind (Far_ev P Q) ?_
  refine Ev.bind (Far_ev Q2 P2) ?_
  clear P Q R P' Q' R' P2 Q2 R2
  have e1 : cr ⟨p0 + m0, p1 + m1⟩ ⟨q0 + m0, q1 + m1⟩ ⟨r0 + m0, r1 + m1⟩ = cr ⟨p0, p1⟩ ⟨q0, q1⟩ ⟨r0, r1⟩ := by unfold cr; simp only; grind
  have e2 : cr ⟨-p1, p0⟩ ⟨-q1, q0⟩ ⟨-r1, r0⟩ = cr ⟨p0, p1⟩ ⟨q0, q1⟩ ⟨r0, r1⟩ := by unfold cr; simp only; grind
  have e3 : cr ⟨q0, q1⟩ ⟨r0, r1⟩ ⟨p0, p1⟩ = cr ⟨p0, p1⟩ ⟨q0, q1⟩ ⟨r0, r1⟩ := by unfold cr; simp only; grind
  have e4 : dt ⟨-q1, q0⟩ ⟨-p1, p0⟩ ⟨-p1, p0⟩ = dt ⟨p0, p1⟩ ⟨q0, q1⟩ ⟨q0, q1⟩ := by unfold dt; simp only; grind
  simp only [e1, e2, e3, e4, if_true, beq_self_eq_true]
  exact Ev.now _

end Go.Proofs.Ytemhnlameekmkaa.Pure
