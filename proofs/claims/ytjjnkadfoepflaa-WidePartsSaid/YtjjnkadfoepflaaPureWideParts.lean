/- The pure law WideParts: quotient and rest are the reference's, and make the number again. -/
import Derived.Test.YtjjnkadfoepflaaXWideRefDivM
import Derived.Test.YtjjnkadfoepflaaXWideWideS
import Derived.Test.YtjjnkadfoepflaaXWideTextM
import Derived.Test.YtjjnkadfoepflaaXWidex13
namespace Go.Proofs.Ytjjnkadfoepflaa.Pure
open Go.RowKit Go.Proofs.Ytjjnkadfoepflaa.XWide Go.Proofs.Ytjjnkadfoepflaa.XM Go.Proofs.Ytjjnkadfoepflaa.NumM Go.Proofs.YtjjnkadfoepflaaW.PrintWords Go.Proofs.YtjjnkadfoepflaaW.PrintLast Go.Proofs.YtjjnkadfoepflaaW.PrintMore
set_option linter.unusedVariables false
set_option linter.unusedSimpArgs false

theorem WideParts : pochoirlaw01_WideParts.Pure := by
  intro x n hx hn
  refine Ev.rounds (g := fun k => pochoirlaw01_WideParts.f k x.f0 x.f1 n) ?_
  obtain ⟨h0, h1⟩ := hx
  have hh : Word x.f0 := u64_of h0
  have hl : Word x.f1 := u64_of h1
  have hn : Word n := u64_of hn
  unfold pochoirlaw01_WideParts.f
  refine Ev.bind awake01_ev ?_
  simp only [if_true]
  have dv := wdiv_ev hh hl hn
  have rv := rdiv_ev hh hl hn
  have b := wide_bd hh hl
  by_cases c : n = 0
  · rw [if_pos c] at dv rv
    refine Ev.bind dv ?_
    refine Ev.bind rv ?_
    simp only [beq_self_eq_true, Bool.not_true, Bool.or_self, Bool.false_eq_true, if_false, if_true, bne_self_eq_false]
    refine Ev.step (fun k => by rw [pochoirlaw01_WideParts.j0]) ?_
    simp only [Bool.false_eq_true, if_false, if_neg (show ¬ ((13 : Int) = 0) by omega)]
    exact Ev.now _
  · rw [if_neg c] at dv rv
    refine Ev.bind dv ?_
    refine Ev.bind rv ?_
    simp only [beq_self_eq_true, Bool.not_true, Bool.or_self, Bool.false_eq_true, if_false, if_true, bne_self_eq_false]
    refine Ev.step (fun k => by rw [pochoirlaw01_WideParts.j0]) ?_
    have hpos : 0 < n := by have := hn.1; omega
    have q0 : 0 ≤ wide x.f0 x.f1 / n := Int.ediv_nonneg b.1 (by omega)
    have q1 : wide x.f0 x.f1 / n ≤ wide x.f0 x.f1 := Int.ediv_le_self _ b.1
    have r0 := Int.emod_nonneg (wide x.f0 x.f1) c
    have r1 := Int.emod_lt_of_pos (wide x.f0 x.f1) hpos
    have m := Int.mul_ediv_add_emod (wide x.f0 x.f1) n
    rw [Int.mul_comm] at m
    have n1 := hn.2
    have m0 := mul_nn q0 (Int.le_of_lt hpos)
    have hw := wscale_f (hi_word q0 (by omega)) (lo_word (wide x.f0 x.f1 / n)) hn
    rw [wide_split, if_pos (by omega)] at hw
    have ha := wadd_f (hi_word m0 (by omega)) (lo_word (wide x.f0 x.f1 / n * n)) word0 (l' := wide x.f0 x.f1 % n) ⟨r0, by omega⟩
    rw [wide_split, wide0, m, if_pos (by omega), hi_wide hl, lo_wide hl] at ha
    simp only [Bool.false_eq_true, if_false, if_true, hw, Option.bind_some, wide_Of.f, ha, beq_self_eq_true, Bool.and_self]
    refine Ev.some ?_
    simp [r1]

end Go.Proofs.Ytjjnkadfoepflaa.Pure
