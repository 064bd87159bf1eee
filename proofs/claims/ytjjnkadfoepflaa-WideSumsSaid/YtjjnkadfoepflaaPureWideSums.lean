/- The pure law WideSums: sums, differences and products are the reference's. -/
import Derived.Test.YtjjnkadfoepflaaXWideRefSumM
import Derived.Test.YtjjnkadfoepflaaXWideTextM
import Derived.Test.YtjjnkadfoepflaaXWidex12
namespace Go.Proofs.Ytjjnkadfoepflaa.Pure
open Go.RowKit Go.Proofs.Ytjjnkadfoepflaa.XWide Go.Proofs.Ytjjnkadfoepflaa.XM Go.Proofs.Ytjjnkadfoepflaa.NumM Go.Proofs.YtjjnkadfoepflaaW.PrintWords Go.Proofs.YtjjnkadfoepflaaW.PrintLast Go.Proofs.YtjjnkadfoepflaaW.PrintMore
set_option linter.unusedVariables false
set_option linter.unusedSimpArgs false

theorem wadd_fit {h l h' l' : Int} (hh : Word h) (hl : Word l) (hh' : Word h') (hl' : Word l') : wide_Add.f h l h' l' = some (fitw (wide h l + wide h' l')) := by
  rw [wadd_f hh hl hh' hl']; unfold fitw; split <;> rfl
theorem wscale_fit {h l n : Int} (hh : Word h) (hl : Word l) (hn : Word n) : wide_Scale.f h l n = some (fitw (wide h l * n)) := by
  rw [wscale_f hh hl hn]; unfold fitw; split <;> rfl
theorem WideSums : pochoirlaw01_WideSums.Pure := by
  intro a b n ha hb hn
  refine Ev.rounds (g := fun k => pochoirlaw01_WideSums.f k a.f0 a.f1 b.f0 b.f1 n) ?_
  obtain ⟨h0, h1⟩ := ha
  obtain ⟨h2, h3⟩ := hb
  have ah : Word a.f0 := u64_of h0
  have al : Word a.f1 := u64_of h1
  have bh : Word b.f0 := u64_of h2
  have bl : Word b.f1 := u64_of h3
  have hn : Word n := u64_of hn
  unfold pochoirlaw01_WideSums.f
  refine Ev.bind awake01_ev ?_
  simp only [if_true, wadd_fit ah al bh bl, wsub_f ah al bh bl, wscale_fit ah al hn, Option.bind_some]
  refine Ev.bind (radd_ev ah al bh bl) ?_
  refine Ev.bind (rsub_ev ah al bh bl) ?_
  refine Ev.bind (rscale_ev ah al hn) ?_
  refine Ev.bind (rscale_ev word0 al hn) ?_
  have m0 := word_mul al hn
  simp only [beq_self_eq_true, Bool.and_self, if_true, wmul_f al hn, Option.bind_some, wide0, fitw, if_pos m0.2, wide_Of.f]
  exact Ev.now _

end Go.Proofs.Ytjjnkadfoepflaa.Pure
