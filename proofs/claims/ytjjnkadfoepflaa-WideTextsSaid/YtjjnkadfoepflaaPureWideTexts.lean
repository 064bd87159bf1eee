/- The pure law WideTexts: both write a number's decimal digits. -/
import Derived.Test.YtjjnkadfoepflaaXWideRefDivM
import Derived.Test.YtjjnkadfoepflaaXWideDiv64M
import Derived.Test.YtjjnkadfoepflaaXWideTextM
import Derived.Test.YtjjnkadfoepflaaXWidex7
namespace Go.Proofs.Ytjjnkadfoepflaa.Pure
open Go.RowKit Go.Proofs.Ytjjnkadfoepflaa.XWide Go.Proofs.Ytjjnkadfoepflaa.XM Go.Proofs.Ytjjnkadfoepflaa.NumM Go.Proofs.YtjjnkadfoepflaaW.PrintWords Go.Proofs.YtjjnkadfoepflaaW.PrintLast Go.Proofs.YtjjnkadfoepflaaW.PrintMore
set_option linter.unusedVariables false
set_option linter.unusedSimpArgs false

theorem rtext : ∀ (f : Nat) (n : Int), f ≤ 38 → 0 ≤ n → n < 10 ^ (f + 1) → n < 340282366920938463463374607431768211456 → Ev (fun k => pochoirref01_Text.f k (hi_ n) (lo_ n)) (strOfNums (dec (f + 1) n)) := by
  intro f
  induction f with
  | zero =>
    intro n hf h0 h1 h2
    have dv := rdiv_ev (hi_word h0 h2) (lo_word n) (n := 10) (by unfold Word; omega)
    rw [if_neg (by omega), wide_split] at dv
    refine Ev.step (fun k => by rw [pochoirref01_Text.f]) ?_
    refine Ev.bind dv ?_
    have z : n / 10 = 0 := by simp at h1; omega
    simp only [Option.bind_some, z]
    simp only [if_pos (show (hi_ 0 == 0 && (lo_ 0 == 0)) = true by decide)]
    refine Ev.some ?_
    simp only [dig10 (show 0 ≤ n % 10 ∧ n % 10 < 10 by omega)]
    simp [dec, z]
  | succ f ih =>
    intro n hf h0 h1 h2
    have dv := rdiv_ev (hi_word h0 h2) (lo_word n) (n := 10) (by unfold Word; omega)
    rw [if_neg (by omega), wide_split] at dv
    refine Ev.step (fun k => by rw [pochoirref01_Text.f]) ?_
    refine Ev.bind dv ?_
    simp only [Option.bind_some]
    simp only [dig10 (show 0 ≤ n % 10 ∧ n % 10 < 10 by omega)]
    by_cases z : n / 10 = 0
    · simp only [z]
      simp only [if_pos (show (hi_ 0 == 0 && (lo_ 0 == 0)) = true by decide)]
      refine Ev.some ?_
      simp [dec, z]
    · simp only [if_neg (nz_wide (show 0 ≤ n / 10 by omega) z)]
      have e : (10 : Int) ^ (f + 1 + 1) = 10 * 10 ^ (f + 1) := by rw [Int.pow_succ, Int.mul_comm]
      refine Ev.bind (ih (n / 10) (by omega) (by omega) (by rw [e] at h1; omega) (by omega)) ?_
      rw [if_pos (by rw [str_size, str_size]; have := dec_len (f + 1) (n / 10); simp; omega), str_app]
      refine Ev.some ?_
      rw [show dec (f + 1 + 1) n = (if n / 10 = 0 then [] else dec (f + 1) (n / 10)) ++ [48 + n % 10] from rfl, if_neg z]
theorem WideTexts : pochoirlaw01_WideTexts.Pure := by
  intro x hx
  refine Ev.rounds (g := fun k => pochoirlaw01_WideTexts.f k x.f0 x.f1) ?_
  obtain ⟨h0, h1⟩ := hx
  have hh : Word x.f0 := u64_of h0
  have hl : Word x.f1 := u64_of h1
  unfold pochoirlaw01_WideTexts.f
  refine Ev.bind awake01_ev ?_
  simp only [if_true]
  have b := wide_bd hh hl
  have t1 := wtext_ev hh hl
  have t2 := rtext 38 (wide x.f0 x.f1) (by omega) b.1 (by have := b.2; simp; omega) b.2
  rw [hi_wide hl, lo_wide hl] at t2
  refine Ev.bind t1 ?_
  refine Ev.bind t2 ?_
  refine Ev.some ?_
  simp

end Go.Proofs.Ytjjnkadfoepflaa.Pure
