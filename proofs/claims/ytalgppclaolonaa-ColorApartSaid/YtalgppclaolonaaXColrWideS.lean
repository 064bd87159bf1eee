/- Layer 1: so many times. -/
import Derived.Test.YtalgppclaolonaaXColrWideA
import Derived.Test.YtalgppclaolonaaXColrx4
import Derived.Test.YtalgppclaolonaaXColrx5

namespace Go.Proofs.Ytalgppclaolonaa.XColr
open Go.RowKit Go.Proofs.Ytalgppclaolonaa.XM Go.Proofs.Ytalgppclaolonaa.NumM Go.Proofs.YtalgppclaolonaaW.PrintWords Go.Proofs.YtalgppclaolonaaW.PrintLast Go.Proofs.YtalgppclaolonaaW.PrintMore
set_option linter.unusedVariables false

theorem wscale_f {h l n : Int} (hh : Word h) (hl : Word l) (hn : Word n) :
    wide_Scale.f h l n = if wide h l * n < 340282366920938463463374607431768211456 then some (hi_ (wide h l * n), lo_ (wide h l * n), 0) else some (0, 0, 2) := by
  have h1 := word_mul hl hn
  have h2 := word_mul hh hn
  have e : wide h l * n = h * n * 18446744073709551616 + l * n := by unfold wide; grind
  unfold wide_Scale.f
  rw [wmul_f hl hn, wmul_f hh hn]
  simp only [Option.bind_some]
  rw [e]
  by_cases c : hi_ (h * n) = 0
  · rw [if_pos c, wadd_f (hi_word h1.1 h1.2) (lo_word _) (lo_word _) ⟨by omega, by omega⟩, wide_split]
    have e2 : l * n + wide (lo_ (h * n)) 0 = h * n * 18446744073709551616 + l * n := by unfold wide; unfold hi_ at c; unfold lo_; omega
    rw [e2]
    split <;> rfl
  · rw [if_neg c, if_neg (by unfold hi_ at c; omega)]


end Go.Proofs.Ytalgppclaolonaa.XColr
