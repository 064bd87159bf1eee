/- The reference of layer 1: differences, products; and the layer's difference. -/
import Derived.Test.YtjjnkadfoepflaaXWideRefAddM
import Derived.Test.YtjjnkadfoepflaaXWideRef01T
import Derived.Test.YtjjnkadfoepflaaXWideWideS
import Derived.Test.YtjjnkadfoepflaaXWidex10

namespace Go.Proofs.Ytjjnkadfoepflaa.XWide
open Go.RowKit Go.Proofs.Ytjjnkadfoepflaa.XM Go.Proofs.Ytjjnkadfoepflaa.NumM Go.Proofs.YtjjnkadfoepflaaW.PrintWords Go.Proofs.YtjjnkadfoepflaaW.PrintLast Go.Proofs.YtjjnkadfoepflaaW.PrintMore
set_option linter.unusedVariables false
set_option linter.unusedSimpArgs false

theorem rsub_ev {h l h' l' : Int} (hh : Word h) (hl : Word l) (hh' : Word h') (hl' : Word l') : Ev (fun k => pochoirref01_Sub.f k h l h' l') (if wide h l < wide h' l' then (0, 0, 2) else fitw (wide h l - wide h' l')) := by
  unfold pochoirref01_Sub.f
  refine Ev.bind (rdigits_ev hh.1 hl.1) ?_
  refine Ev.bind (rdigits_ev hh'.1 hl'.1) ?_
  refine Ev.bind (rless_ev (digs_dig h l) (digs_dig h' l') (by rw [digs_len]; omega) (by rw [digs_len]; omega)) ?_
  rw [val_digs hh hl, val_digs hh' hl']
  by_cases c : wide h l < wide h' l'
  · rw [cmpI_lt c, if_pos c]
    simp only [if_pos (show (-1 : Int) < 0 by omega)]; exact Ev.now _
  · rw [if_neg c]
    have e : ¬ (cmpI (wide h l) (wide h' l') < 0) := by unfold cmpI; rw [if_neg c]; split <;> omega
    simp only [if_neg e]
    refine Ev.bind (rdigits_ev hh.1 hl.1) ?_
    refine Ev.bind (rdigits_ev hh'.1 hl'.1) ?_
    obtain ⟨r, f1, f2, f3, f4⟩ := rminus_ev (digs_dig h l) (digs_dig h' l') (by rw [digs_len]; omega) (by rw [val_digs hh hl, val_digs hh' hl']; omega)
    rw [val_digs hh hl, val_digs hh' hl'] at f4
    rw [digs_len] at f3
    refine Ev.bind f1 ?_
    rw [← f4]
    refine Ev.bind (rfit_ev f2 (by omega)) ?_
    exact Ev.now _
theorem rscale_ev {h l n : Int} (hh : Word h) (hl : Word l) (hn : Word n) : Ev (fun k => pochoirref01_Scale.f k h l n) (fitw (wide h l * n)) := by
  unfold pochoirref01_Scale.f
  refine Ev.bind (rdigits_ev hh.1 hl.1) ?_
  refine Ev.bind (rdigits_ev (Int.le_refl 0) hn.1) ?_
  obtain ⟨r, f1, f2, f3, f4⟩ := rtimes_ev (digs_dig h l) (digs_dig 0 n) (by rw [digs_len]; omega) (by rw [digs_len]; omega)
  rw [val_digs hh hl, val_digs word0 hn, wide0] at f4
  rw [digs_len, digs_len] at f3
  refine Ev.bind f1 ?_
  rw [← f4]
  refine Ev.bind (rfit_ev f2 (by omega)) ?_
  exact Ev.now _
theorem wsub_f {h l h' l' : Int} (hh : Word h) (hl : Word l) (hh' : Word h') (hl' : Word l') :
    wide_Sub.f h l h' l' = some (if wide h l < wide h' l' then (0, 0, 2) else fitw (wide h l - wide h' l')) := by
  have b := wide_bd hh hl
  have b' := wide_bd hh' hl'
  unfold wide_Sub.f bits_Sub64.f
  unfold Word at *
  rw [if_pos hl.1, if_pos hl'.1, if_pos hl'.2, if_pos (by omega), if_pos (by omega)]
  simp only [Option.bind_some, Int.sub_zero, Int.add_zero]
  rw [if_pos hh.1, if_pos hh'.1, if_pos hh'.2]
  by_cases c : l < l'
  · simp only [if_pos c]
    rw [if_pos (by omega), if_pos (by omega)]
    simp only [Option.bind_some]
    by_cases d : h < h' + 1
    · simp only [if_pos d]
      rw [if_neg (by omega), if_pos (by unfold wide; omega)]
    · simp only [if_neg d, if_true]
      rw [if_neg (by unfold wide; omega), fitw, if_pos (by omega)]
      unfold wide hi_ lo_
      congr 2
      · omega
      · congr 1; omega
  · simp only [if_neg c]
    rw [if_pos (by omega), if_pos (by omega)]
    simp only [Option.bind_some, Int.add_zero, Int.sub_zero]
    by_cases d : h < h'
    · simp only [if_pos d]
      rw [if_neg (by omega), if_pos (by unfold wide; omega)]
    · simp only [if_neg d, if_true]
      rw [if_neg (by unfold wide; omega), fitw, if_pos (by omega)]
      unfold wide hi_ lo_
      congr 2
      · omega
      · congr 1; omega

end Go.Proofs.Ytjjnkadfoepflaa.XWide
