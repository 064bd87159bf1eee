/- The pure law CornerAsks: ways and corners of any two edges are the reference's. -/
import Derived.Test.YtalgppclaolonaaXCornCornAskM
import Derived.Test.YtalgppclaolonaaXCornx15
namespace Go.Proofs.Ytalgppclaolonaa.Pure
open Go.RowKit Go.Proofs.Ytalgppclaolonaa.XCorn Go.Proofs.Ytalgppclaolonaa.XM Go.Proofs.Ytalgppclaolonaa.NumM Go.Proofs.YtalgppclaolonaaW.PrintWords Go.Proofs.YtalgppclaolonaaW.PrintLast Go.Proofs.YtalgppclaolonaaW.PrintMore
set_option linter.unusedVariables false
set_option linter.unusedSimpArgs false

theorem cFirst_ev (e : S38) : Ev (fun k => corner_First.f k e.f0 e.f1 e.f2.f0 e.f2.f1 e.f3.f0 e.f3.f1 e.f4.f0 e.f4.f1) (if One e = true then ((fst e).f0, (fst e).f1, 0) else (0, 0, 1)) := by
  unfold corner_First.f
  refine Ev.bind (cright_ev e) ?_
  cases h : One e
  · simp; exact Ev.now _
  · simp only [if_true]
    exact Ev.bind (cfirst_ev h) (Ev.now _)
theorem CornerAsks : pochoirlaw22_CornerAsks.Pure := by
  intro e f he hf
  suffices hh_ : Ev (fun k => pochoirlaw22_CornerAsks.f k e.f0 e.f1 e.f2.f0 e.f2.f1 e.f3.f0 e.f3.f1 e.f4.f0 e.f4.f1 f.f0 f.f1 f.f2.f0 f.f2.f1 f.f3.f0 f.f3.f1 f.f4.f0 f.f4.f1) true from hh_.imp fun K h => h K (Nat.le_refl _)
  unfold pochoirlaw22_CornerAsks.f
  refine Ev.bind awake22_ev ?_
  simp only [if_true]
  refine Ev.bind (cFirst_ev e) ?_
  refine Ev.bind (cLast_ev e) ?_
  refine Ev.bind (cIs_ev e f) ?_
  simp only [rone_f, Option.bind_some]
  cases ho : One e
  · simp; exact Ev.now _
  · simp only [if_true, Bool.true_and, rfirst_f ho, rlast_f ho, Option.bind_some, beq_self_eq_true, Bool.not_true, Bool.or_self, Bool.false_eq_true, if_false, bne_self_eq_false]
    refine Ev.step (fun k => by rw [pochoirlaw22_CornerAsks.j0]) ?_
    simp only [Bool.false_eq_true, if_false, rone_f, Option.bind_some]
    cases hp : One f
    · simp; exact Ev.now _
    · simp only [if_true]
      refine Ev.bind (ris_ev ho hp) ?_
      simp; exact Ev.now _

end Go.Proofs.Ytalgppclaolonaa.Pure
