/- The law's own words: the same numbers, and awake. -/
import Derived.Test.YtalgppclaolonaaXM
import Derived.Test.YtalgppclaolonaaXColrx12

namespace Go.Proofs.Ytalgppclaolonaa.XColr
open Go.RowKit Go.Proofs.Ytalgppclaolonaa.XM Go.Proofs.YtalgppclaolonaaW.PrintWords Go.Proofs.YtalgppclaolonaaW.PrintLast Go.Proofs.YtalgppclaolonaaW.PrintMore
set_option linter.unusedVariables false
set_option linter.unusedSimpArgs false

theorem ints23_l (a : List Int) (ha : a.length ≤ 1000000) : ∀ d (i : Nat), i + d = a.length → Ev (fun k => pochoirlaw23_ints.l0 k a a (a.length : Int) (i : Int)) true
  | 0, i, h => by
    refine Ev.step (fun k => by rw [pochoirlaw23_ints.l0]) ?_
    simp only [if_neg (show ¬ ((i : Int) < (a.length : Int)) by omega)]
    exact Ev.now _
  | d + 1, i, h => by
    refine Ev.step (fun k => by rw [pochoirlaw23_ints.l0]) ?_
    simp only [if_pos (show (i : Int) < (a.length : Int) by omega), if_pos (show (0 : Int) ≤ (i : Int) by omega), if_true]
    rw [w64 (by omega) (by omega)]
    exact ints23_l a ha d (i + 1) (by omega)
theorem ints23_ev (a : List Int) (ha : a.length ≤ 1000000) : Ev (fun k => pochoirlaw23_ints.f k a a) true := by
  unfold pochoirlaw23_ints.f
  simp only [if_true]
  exact ints23_l a ha a.length 0 (by omega)
theorem awake23_ev : Ev (fun k => pochoirlaw23_awake.f k) true := by
  refine Ev.of (g := fun k => pochoirlaw23_awake.f k) pochoirlaw23_awake.mono (k := 40) ?_
  decide +kernel

end Go.Proofs.Ytalgppclaolonaa.XColr
