/- The reference of layer 1: quotient and rest of numbers of two words. -/
import Derived.Test.YtjjnkadfoepflaaXWideRef01N
import Derived.Test.YtjjnkadfoepflaaXWidex7

namespace Go.Proofs.Ytjjnkadfoepflaa.XWide
open Go.RowKit Go.Proofs.Ytjjnkadfoepflaa.XM Go.Proofs.Ytjjnkadfoepflaa.NumM Go.Proofs.YtjjnkadfoepflaaW.PrintWords Go.Proofs.YtjjnkadfoepflaaW.PrintLast Go.Proofs.YtjjnkadfoepflaaW.PrintMore
set_option linter.unusedVariables false
set_option linter.unusedSimpArgs false

theorem val_digs {h l : Int} (hh : Word h) (hl : Word l) : val (digs h l) = wide h l := digs_val hh.1 hh.2 hl.1 hl.2
theorem word0 : Word 0 := by unfold Word; omega
theorem wide0 (n : Int) : wide 0 n = n := by unfold wide; omega
theorem rdiv_ev {h l n : Int} (hh : Word h) (hl : Word l) (hn : Word n) : Ev (fun k => pochoirref01_Div.f k h l n) (if n = 0 then (0, 0, 0, 13) else (hi_ (wide h l / n), lo_ (wide h l / n), wide h l % n, 0)) := by
  unfold pochoirref01_Div.f
  by_cases c : n = 0
  · simp only [if_pos c]; exact Ev.now _
  · simp only [if_neg c]
    have hpos : 0 < n := by have := hn.1; omega
    refine Ev.bind (rdigits_ev hh.1 hl.1) ?_
    refine Ev.bind (rdigits_ev (Int.le_refl 0) hn.1) ?_
    have ea := val_digs hh hl
    have eb : val (digs 0 n) = n := by rw [val_digs word0 hn, wide0]
    obtain ⟨q, r, f1, f2, f3, f4, f5, f6, f7⟩ := rdivide_ev (digs_dig h l) (digs_dig 0 n) (digs_len h l) (digs_len 0 n) (by rw [eb]; exact hpos)
    refine Ev.bind f1 ?_
    rw [ea, eb] at f6 f7
    have b := wide_bd hh hl
    have q0 : 0 ≤ wide h l / n := Int.ediv_nonneg b.1 (by omega)
    have q1 : wide h l / n ≤ wide h l := Int.ediv_le_self _ b.1
    have r0 := Int.emod_nonneg (wide h l) c
    have r1 := Int.emod_lt_of_pos (wide h l) hpos
    have n1 := hn.2
    have v1 := rvalue_ev f2 (by omega)
    have v2 := rvalue_ev f4 (by omega)
    rw [f6, if_pos (by omega)] at v1
    rw [f7, if_pos (by omega)] at v2
    refine Ev.bind v1 ?_
    refine Ev.bind v2 ?_
    refine Ev.some ?_
    simp only
    rw [show lo_ (wide h l % n) = wide h l % n by unfold lo_; omega]

end Go.Proofs.Ytjjnkadfoepflaa.XWide
