/- The pure law ColorAll: the colours of an outline's edges are those of the reference. -/
import Derived.Test.YtalgppclaolonaaXColrColA
import Derived.Test.YtalgppclaolonaaXColrColI
import Derived.Test.YtalgppclaolonaaXColrx18
namespace Go.Proofs.Ytalgppclaolonaa.Pure
open Go.RowKit Go.Proofs.Ytalgppclaolonaa.XColr Go.Proofs.Ytalgppclaolonaa.XM Go.Proofs.Ytalgppclaolonaa.NumM Go.Proofs.YtalgppclaolonaaW.PrintWords Go.Proofs.YtalgppclaolonaaW.PrintLast Go.Proofs.YtalgppclaolonaaW.PrintMore
set_option linter.unusedVariables false
set_option linter.unusedSimpArgs false

theorem ColorAll : pochoirlaw23_ColorAll.Pure := by
  intro l _
  suffices hh_ : Ev (fun k => pochoirlaw23_ColorAll.f k l) true from hh_.imp fun K h => h K (Nat.le_refl _)
  unfold pochoirlaw23_ColorAll.f
  refine Ev.bind awake23_ev ?_
  simp only [if_true]
  by_cases c : (l.length : Int) > 60
  · simp only [if_pos c]; exact Ev.now _
  · simp only [if_neg c]
    have main : ∀ (a : List Int) (x : Int), a.length ≤ 1000000 → Ev (fun k => color_All.f k l) (a, x) → Ev (fun k => pochoirref23_All.f k l) (a, x) → Ev (fun k => (color_All.f k l).bind fun bt461 => ((pochoirref23_All.f k l).bind fun bt465 => ((pochoirlaw23_ints.f k bt461.1 bt465.1).bind fun t469 => (if t469 = true then (some (bt461.2 == bt465.2)) else (some false))))) true := fun a x ha h1 h2 => by
      refine Ev.bind h1 ?_
      refine Ev.bind h2 ?_
      refine Ev.bind (ints23_ev a ha) ?_
      simp only [if_true]
      exact Ev.some (by simp)
    cases hm : mayE l
    · obtain ⟨h1, h2⟩ := all_none (l := l) (by omega) hm
      exact main _ _ (by simp) h1 h2
    · obtain ⟨a, h0, _, h1, h2⟩ := all_both (l := l) (by omega) hm
      exact main _ _ (by omega) h1 h2

end Go.Proofs.Ytalgppclaolonaa.Pure
