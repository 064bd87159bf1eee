/- The pure law WideShifts: moved numbers, places and comparison are the reference's. -/
import Derived.Test.YtjjnkadfoepflaaXWideShiftM
import Derived.Test.YtjjnkadfoepflaaXWideTextM
import Derived.Test.YtjjnkadfoepflaaXWidex15
namespace Go.Proofs.Ytjjnkadfoepflaa.Pure
open Go.RowKit Go.Proofs.Ytjjnkadfoepflaa.XWide Go.Proofs.Ytjjnkadfoepflaa.XM Go.Proofs.Ytjjnkadfoepflaa.NumM Go.Proofs.YtjjnkadfoepflaaW.PrintWords Go.Proofs.YtjjnkadfoepflaaW.PrintLast Go.Proofs.YtjjnkadfoepflaaW.PrintMore
set_option linter.unusedVariables false
set_option linter.unusedSimpArgs false

theorem WideShifts : pochoirlaw01_WideShifts.Pure := by
  intro a b n ha hb hn
  refine Ev.rounds (g := fun k => pochoirlaw01_WideShifts.f k a.f0 a.f1 b.f0 b.f1 n) ?_
  obtain ⟨h0, h1⟩ := ha
  obtain ⟨h2, h3⟩ := hb
  have ah : Word a.f0 := u64_of h0
  have al : Word a.f1 := u64_of h1
  have bh : Word b.f0 := u64_of h2
  have bl' : Word b.f1 := u64_of h3
  have hn := i64_of hn
  have bd := wide_bd ah al
  unfold pochoirlaw01_WideShifts.f
  refine Ev.bind awake01_ev ?_
  simp only [if_true]
  refine Ev.bind (wshift_ev ah al hn.1 hn.2) ?_
  have zi := zero_iff ah al
  have nz : ((!(a.f0 == 0)) || (!(a.f1 == 0))) = !(decide (wide a.f0 a.f1 = 0)) := by
    rw [← Bool.not_and]
    congr 1
    by_cases z : wide a.f0 a.f1 = 0
    · rw [zi.2 z, decide_eq_true z]
    · have : ¬ ((a.f0 == 0 && (a.f1 == 0)) = true) := fun g => z (zi.1 g)
      simp only [Bool.not_eq_true] at this
      rw [this, decide_eq_false z]
  by_cases c : n > 200
  · simp only [if_pos c]
    refine Ev.step (fun k => by rw [pochoirlaw01_WideShifts.j0]) ?_
    simp only [if_true, if_pos (show n > 0 by omega), nz]
    by_cases z : wide a.f0 a.f1 = 0
    · simp [z]; exact Ev.now _
    · have c1 : 1 ≤ bl (wide a.f0 a.f1) := by unfold bl; rw [if_neg (by omega)]; omega
      have ob := (over_bl (n := n) (show 0 < wide a.f0 a.f1 by omega) bd.2 (by omega)).1 (by omega)
      simp only [if_neg z, if_neg (show ¬ (n ≤ -128) by omega), shf, if_pos (show 0 ≤ n by omega), fitw, if_neg ob]
      simp [z]; exact Ev.now _
  · simp only [if_neg c]
    by_cases d : n < -200
    · simp only [decide_eq_true d]
      refine Ev.step (fun k => by rw [pochoirlaw01_WideShifts.j0]) ?_
      simp only [if_true, if_neg (show ¬ (n > 0) by omega), if_pos (show n ≤ -128 by omega), ite_self]
      simp; exact Ev.now _
    · simp only [decide_eq_false d]
      have e : (if wide a.f0 a.f1 = 0 then (0, 0, 0) else if n ≤ -128 then (0, 0, 0) else shf (wide a.f0 a.f1) n) = shf (wide a.f0 a.f1) n := by
        by_cases z : wide a.f0 a.f1 = 0
        · rw [if_pos z, z, shf0]
        · rw [if_neg z]
          by_cases g : n ≤ -128
          · rw [if_pos g]
            unfold shf; rw [if_neg (by omega)]
            have e2 : wide a.f0 a.f1 / 2 ^ (-n).toNat = 0 := by
              refine Int.ediv_eq_zero_of_lt bd.1 ?_
              obtain ⟨q, hq⟩ := Nat.exists_eq_add_of_le (show 128 ≤ (-n).toNat by omega)
              rw [hq, pw_split]
              have := Int.mul_le_mul_of_nonneg_left (show (1 : Int) ≤ 2 ^ q by have := p2pos q; omega) (show (0 : Int) ≤ 2 ^ 128 by decide)
              have := bd.2
              omega
            rw [e2, hi0, lo0]
          · rw [if_neg g]
      rw [e]
      refine Ev.step (fun k => by rw [pochoirlaw01_WideShifts.j0]) ?_
      simp only [Bool.false_eq_true, if_false]
      refine Ev.bind (rshift_ev ah al (by omega) (by omega)) ?_
      simp only [beq_self_eq_true, Bool.and_self, if_true]
      refine Ev.bind (wbits_ev ah al) ?_
      refine Ev.bind (rbits_ev ah al) ?_
      simp only [if_true]
      refine Ev.bind (wcmp_ev al bl') ?_
      refine Ev.bind (rdigits_ev ah.1 al.1) ?_
      refine Ev.bind (rdigits_ev bh.1 bl'.1) ?_
      refine Ev.bind (rless_ev (digs_dig _ _) (digs_dig _ _) (by rw [digs_len]; omega) (by rw [digs_len]; omega)) ?_
      rw [val_digs ah al, val_digs bh bl']
      simp only [if_true]
      refine Ev.bind (wcmp_ev al al) ?_
      rw [cmpI_self]
      exact Ev.now _

end Go.Proofs.Ytjjnkadfoepflaa.Pure
