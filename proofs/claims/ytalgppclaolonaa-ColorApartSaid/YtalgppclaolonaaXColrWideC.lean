/- Layer 1: comparison. -/
import Derived.Test.YtalgppclaolonaaXColrWideA
import Derived.Test.YtalgppclaolonaaXColrx6

namespace Go.Proofs.Ytalgppclaolonaa.XColr
open Go.RowKit Go.Proofs.Ytalgppclaolonaa.XM Go.Proofs.Ytalgppclaolonaa.NumM Go.Proofs.YtalgppclaolonaaW.PrintWords Go.Proofs.YtalgppclaolonaaW.PrintLast Go.Proofs.YtalgppclaolonaaW.PrintMore
set_option linter.unusedVariables false

/-! comparison -/
theorem ccmp_f (a b : Int) : cmp_Compare_uint64.f a b = some (cmpI a b) := by
  simp only [cmp_Compare_uint64.f, cmp_isNaN_uint64.f, bne_self_eq_false, Option.bind_some, Bool.false_eq_true, if_false]
  unfold cmpI; by_cases h : a < b <;> by_cases h' : a > b <;> simp [*]
theorem cor_ev (x y : Int) : Ev (fun k => cmp_Or_int.f k [x, y]) (if x = 0 then y else x) := by
  refine Ev.of (g := fun k => cmp_Or_int.f k [x, y]) (cmp_Or_int.mono _) (k := 3) ?_
  by_cases hx : x = 0
  · by_cases hy : y = 0
    · subst hx; subst hy; simp [cmp_Or_int.f, cmp_Or_int.l0, rd, wrap64]
    · subst hx; simp [cmp_Or_int.f, cmp_Or_int.l0, rd, wrap64, hy]
  · simp [cmp_Or_int.f, cmp_Or_int.l0, rd, hx]
theorem wcmp_ev {h l h' l' : Int} (hl : Word l) (hl' : Word l') : Ev (fun k => wide_Cmp.f k h l h' l') (cmpI (wide h l) (wide h' l')) := by
  unfold wide_Cmp.f
  simp only [ccmp_f, Option.bind_some]
  refine Ev.bind (cor_ev _ _) ?_
  refine Ev.some ?_
  unfold Word at hl hl'
  unfold cmpI wide
  split <;> split <;> (try split) <;> (try split) <;> (try split) <;> (try split) <;> omega


end Go.Proofs.Ytalgppclaolonaa.XColr
