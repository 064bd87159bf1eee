/- The reference of layer 1: sums. -/
import Derived.Test.YtjjnkadfoepflaaXWideRefDivM
import Derived.Test.YtjjnkadfoepflaaXWidex9

namespace Go.Proofs.Ytjjnkadfoepflaa.XWide
open Go.RowKit Go.Proofs.Ytjjnkadfoepflaa.XM Go.Proofs.Ytjjnkadfoepflaa.NumM Go.Proofs.YtjjnkadfoepflaaW.PrintWords Go.Proofs.YtjjnkadfoepflaaW.PrintLast Go.Proofs.YtjjnkadfoepflaaW.PrintMore
set_option linter.unusedVariables false
set_option linter.unusedSimpArgs false

/-- A number that fits, and 0; or 2. -/
def fitw (n : Int) : Int × Int × Int := if n < 340282366920938463463374607431768211456 then (hi_ n, lo_ n, 0) else (0, 0, 2)
theorem rfit_ev {l : List Int} (h : Dig l) (hl : l.length ≤ 1000000) : Ev (fun k => pochoirref01_fit.f k l) (fitw (val l)) := by
  unfold pochoirref01_fit.f fitw
  have v := rvalue_ev h hl
  by_cases c : val l < 340282366920938463463374607431768211456
  · rw [if_pos c] at v ⊢
    refine Ev.bind v ?_
    simp only [if_true]; exact Ev.now _
  · rw [if_neg c] at v ⊢
    refine Ev.bind v ?_
    simp only [Bool.false_eq_true, if_false]; exact Ev.now _
theorem radd_ev {h l h' l' : Int} (hh : Word h) (hl : Word l) (hh' : Word h') (hl' : Word l') : Ev (fun k => pochoirref01_Add.f k h l h' l') (fitw (wide h l + wide h' l')) := by
  unfold pochoirref01_Add.f
  refine Ev.bind (rdigits_ev hh.1 hl.1) ?_
  refine Ev.bind (rdigits_ev hh'.1 hl'.1) ?_
  obtain ⟨r, f1, f2, f3, f4⟩ := rplus_ev (digs_dig h l) (digs_dig h' l') (by rw [digs_len]; omega) (by rw [digs_len]; omega)
  rw [val_digs hh hl, val_digs hh' hl'] at f4
  rw [digs_len, digs_len] at f3
  refine Ev.bind f1 ?_
  rw [← f4]
  refine Ev.bind (rfit_ev f2 (by omega)) ?_
  exact Ev.now _

end Go.Proofs.Ytjjnkadfoepflaa.XWide
