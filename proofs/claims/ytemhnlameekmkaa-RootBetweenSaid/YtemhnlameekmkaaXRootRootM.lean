/- What layer 4 computes: square roots of numbers of two words, and of fractions, rounded down; and its reference. -/
import Derived.Test.YtemhnlameekmkaaXRootRef01M
import Derived.Test.YtemhnlameekmkaaXRootWideM
import Derived.Test.YtemhnlameekmkaaXRootx7
import Derived.Test.YtemhnlameekmkaaXRootx9
import Derived.Test.YtemhnlameekmkaaXRootx5

namespace Go.Proofs.Ytemhnlameekmkaa.XRoot
open Go.RowKit Go.Proofs.Ytemhnlameekmkaa.XM Go.Proofs.Ytemhnlameekmkaa.NumM Go.Proofs.YtemhnlameekmkaaW.PrintWords Go.Proofs.YtemhnlameekmkaaW.PrintLast Go.Proofs.YtemhnlameekmkaaW.PrintMore
set_option linter.unusedVariables false

/-- Bit by bit, from the highest one that may be: i bits are left to try. -/
def top (P : Int → Prop) [DecidablePred P] (r : Int) : Nat → Int
  | 0 => r
  | i + 1 => if P (r + 2 ^ i) then top P (r + 2 ^ i) i else top P r i
theorem p2 (i : Nat) : (0 : Int) < 2 ^ i := Int.pow_pos (by decide)
theorem p2s (i : Nat) : (2 : Int) ^ (i + 1) = 2 * 2 ^ i := by rw [Int.pow_succ, Int.mul_comm]
theorem p2le {i j : Nat} (h : i ≤ j) : (2 : Int) ^ i ≤ 2 ^ j := by
  have := Nat.pow_le_pow_right (n := 2) (by decide) h
  exact_mod_cast this
theorem top_spec (P : Int → Prop) [DecidablePred P] : ∀ (i : Nat) (r : Int), 0 ≤ r → P r → ¬ P (r + 2 ^ i) → 0 ≤ top P r i ∧ top P r i < r + 2 ^ i ∧ P (top P r i) ∧ ¬ P (top P r i + 1)
  | 0, r, h0, h1, h2 => by simp [top] at *; exact ⟨h0, by omega, h1, h2⟩
  | i + 1, r, h0, h1, h2 => by
    have hp := p2 i
    have hs := p2s i
    unfold top
    by_cases c : P (r + 2 ^ i)
    · rw [if_pos c]
      have := top_spec P i (r + 2 ^ i) (by omega) c (by rw [show r + 2 ^ i + 2 ^ i = r + 2 ^ (i + 1) by omega]; exact h2)
      exact ⟨this.1, by omega, this.2.2⟩
    · rw [if_neg c]
      have := top_spec P i r h0 h1 c
      exact ⟨this.1, by omega, this.2.2⟩
theorem mod_half {r : Int} (i : Nat) (h : r % 2 ^ (i + 1) = 0) : r % 2 ^ i = 0 := by
  rw [p2s] at h
  have h1 := Int.emod_emod_of_dvd r (show (2 : Int) ^ i ∣ 2 * 2 ^ i from ⟨2, Int.mul_comm _ _⟩)
  rw [h] at h1
  simpa using h1.symm
theorem mod_add {r : Int} (i : Nat) (h : r % 2 ^ (i + 1) = 0) : (r + 2 ^ i) % 2 ^ i = 0 := by
  rw [Int.add_emod_right]; exact mod_half i h
theorem shl_one (i : Nat) (h : i < 64) : shl .u64 1 (i : Int) = 2 ^ i := by
  unfold shl
  rw [show min ((i : Int).toNat) IntKind.u64.bits = i by simp [IntKind.bits]; omega, Int.one_mul]
  have := p2le (show i ≤ 63 by omega)
  have := p2 i
  exact wu64 (by omega) (by omega)

theorem sq_mono (n d : Int) (hd : 0 ≤ d) : ∀ x y : Int, 0 ≤ x → x ≤ y → y * y * d ≤ n → x * x * d ≤ n := by
  intro x y h0 h1 h2
  have h3 : x * x ≤ y * y := Int.mul_le_mul h1 h1 h0 (by omega)
  have h4 := Int.mul_le_mul_of_nonneg_right h3 hd
  omega
/-- The floor of a root: one alone. -/
def IsRoot (n d r : Int) : Prop := 0 ≤ r ∧ r * r * d ≤ n ∧ ¬ (r + 1) * (r + 1) * d ≤ n
theorem IsRoot.unique {n d r s : Int} (hd : 0 ≤ d) (hr : IsRoot n d r) (hs : IsRoot n d s) : r = s :=
  top_unique (P := fun x => x * x * d ≤ n) (sq_mono n d hd) hr.1 hs.1 hr.2.1 hr.2.2 hs.2.1 hs.2.2

theorem sqle_ev {r h l : Int} (hr : Word r) (hl : Word l) : Ev (fun k => root_squareAtMost.f k r h l) (decide (r * r * 1 ≤ wide h l)) := by
  unfold root_squareAtMost.f
  rw [wmul_f hr hr]; simp only [Option.bind_some]
  refine Ev.bind (wcmp_ev (lo_word _) hl) (Ev.some ?_)
  rw [wide_split, Int.mul_one]
  exact decide_eq_decide.2 (cmpI_le _ _)

theorem rootwide_l {h l : Int} (hl : Word l) : ∀ (i : Nat) (r : Int), i ≤ 64 → 0 ≤ r → r % 2 ^ i = 0 → r + 2 ^ i ≤ 18446744073709551616 →
    Ev (fun k => root_Wide.l0 k r ((i : Int) - 1) h l) (top (fun x => x * x * 1 ≤ wide h l) r i)
  | 0, r, _, _, _, _ => by
    refine Ev.step (f := fun _ => some r) (fun k => ?_) (Ev.now _)
    rw [root_Wide.l0, if_neg (by omega)]
  | i + 1, r, hi, h0, hm, hb => by
    have hp := p2 i
    have hs := p2s i
    have hor : Go.bits .or .u64 r (2 ^ i) = r + 2 ^ i := or_add (i + 1) h0 hm (by omega) (by omega) (by omega) (by omega)
    have a1 := rootwide_l (h := h) hl i (r + 2 ^ i) (by omega) (by omega) (mod_add i hm) (by omega)
    have a2 := rootwide_l (h := h) hl i r (by omega) h0 (mod_half i hm) (by omega)
    have sq := sqle_ev (r := r + 2 ^ i) (h := h) ⟨by omega, by omega⟩ hl
    refine Ev.step (f := fun k => (root_squareAtMost.f k (r + 2 ^ i) h l).bind fun t => if t = true then root_Wide.l0 k (r + 2 ^ i) ((i : Int) - 1) h l else root_Wide.l0 k r ((i : Int) - 1) h l) (fun k => ?_) ?_
    · rw [root_Wide.l0, show ((i + 1 : Nat) : Int) - 1 = (i : Int) by omega, if_pos (by omega), if_pos (by omega), shl_one i (by omega), hor, w64 (n := (i : Int) - 1) (by omega) (by omega)]
    · refine Ev.bind sq ?_
      unfold top
      by_cases c : (r + 2 ^ i) * (r + 2 ^ i) * 1 ≤ wide h l
      · simp only [decide_eq_true c, if_true, if_pos c]; exact a1
      · simp only [decide_eq_false c, Bool.false_eq_true, if_false, if_neg c]; exact a2
theorem rootwide_ev {h l : Int} (hh : Word h) (hl : Word l) : ∃ r, Ev (fun k => root_Wide.f k h l) r ∧ Word r ∧ IsRoot (wide h l) 1 r := by
  have hw := wide_bd hh hl
  have b0 := bl_nn (wide h l)
  have b1 := bl_le (n := wide h l) 128 (by omega)
  have b2 := bl_lt hw.1
  obtain ⟨m, hm⟩ : ∃ m : Nat, m = ((bl (wide h l) - 1).toNat / 2) + 1 := ⟨_, rfl⟩
  have hm1 : (m : Int) - 1 = wrap64 (Int.tdiv (wrap64 (bl (wide h l) - 1)) 2) := by
    rw [w64 (n := bl (wide h l) - 1) (by omega) (by omega)]
    by_cases c : bl (wide h l) = 0
    · rw [c] at hm ⊢; rw [hm]; decide +kernel
    · rw [Int.tdiv_eq_ediv_of_nonneg (by omega), w64 (by omega) (by omega)]; omega
  have hm64 : m ≤ 64 := by omega
  have hbig : ¬ ((0 : Int) + 2 ^ m) * (0 + 2 ^ m) * 1 ≤ wide h l := by
    have e : ((0 : Int) + 2 ^ m) * (0 + 2 ^ m) * 1 = 2 ^ (2 * m) := by
      rw [Int.zero_add, Int.mul_one, ← Int.pow_add]; congr 1; omega
    have := p2le (show (bl (wide h l)).toNat ≤ 2 * m by omega)
    rw [e]; omega
  have sp := top_spec (fun x => x * x * 1 ≤ wide h l) m 0 (by omega) (by simp; omega) hbig
  have hp := p2le hm64
  have a := rootwide_l (h := h) hl m 0 hm64 (by omega) (by simp) (by simpa using hp)
  refine ⟨_, ?_, ⟨sp.1, ?_⟩, sp.1, sp.2.2⟩
  · unfold root_Wide.f
    refine Ev.bind (wbits_ev hh hl) ?_
    rw [← hm1]; exact a
  · have := sp.2.1; omega
theorem rootfloor_ev {l : Int} (hl : Word l) : ∃ r, Ev (fun k => root_Floor.f k l) r ∧ Word r ∧ IsRoot (wide 0 l) 1 r := by
  obtain ⟨r, h1, h2⟩ := rootwide_ev (h := 0) ⟨by omega, by omega⟩ hl
  refine ⟨r, ?_, h2⟩
  unfold root_Floor.f wide_Of.f
  simp only [Option.bind_some]
  exact Ev.bind h1 (Ev.now _)
theorem rootwhole_ev {h l r : Int} (hh : Word h) (hl : Word l) (hr : Word r) (h1 : Ev (fun k => root_Wide.f k h l) r) : Ev (fun k => root_Whole.f k h l) (decide (r * r = wide h l)) := by
  unfold root_Whole.f
  refine Ev.bind h1 ?_
  rw [wmul_f hr hr]; simp only [Option.bind_some]
  refine Ev.some ?_
  have := word_mul hr hr
  unfold Word at hh hl
  rw [Bool.eq_iff_iff]
  simp only [Bool.and_eq_true, beq_iff_eq, decide_eq_true_eq]
  unfold hi_ lo_ wide; omega

theorem below_ev {r h l h' l' : Int} (hr : Word r) (hh : Word h) (hl : Word l) (hh' : Word h') (hl' : Word l') :
    Ev (fun k => root_Below.f k r h l h' l') (decide (r * r * wide h' l' ≤ wide h l)) := by
  have hw := wide_bd hh hl
  have hw' := wide_bd hh' hl'
  unfold root_Below.f
  by_cases c : (h' == 0 && (l' == 0)) = true
  · simp only [if_pos c]
    have e : wide h' l' = 0 := by simp at c; unfold wide; omega
    rw [e, Int.mul_zero, decide_eq_true hw.1]
    exact Ev.now _
  · simp only [if_neg c]
    have e : 1 ≤ wide h' l' := by unfold Word at hh' hl'; simp at c; unfold wide; omega
    rw [wscale_f hh' hl' hr]
    have e1 : r * r * wide h' l' = wide h' l' * r * r := by grind
    have n1 : 0 ≤ wide h' l' * r := mul_nn hw'.1 hr.1
    by_cases c1 : wide h' l' * r < 340282366920938463463374607431768211456
    · rw [if_pos c1]
      simp only [Option.bind_some, if_true]
      rw [wscale_f (hi_word n1 c1) (lo_word _) hr, wide_split]
      have n2 := mul_nn n1 hr.1
      by_cases c2 : wide h' l' * r * r < 340282366920938463463374607431768211456
      · rw [if_pos c2]
        simp only [Option.bind_some, if_true]
        refine Ev.bind (wcmp_ev (lo_word _) hl) (Ev.some ?_)
        rw [wide_split, e1]
        exact decide_eq_decide.2 (cmpI_le _ _)
      · rw [if_neg c2]
        simp only [Option.bind_some, show ¬ ((2 : Int) = 0) by decide, if_false]
        refine Ev.some ?_
        rw [e1, eq_comm, decide_eq_false_iff_not]; omega
    · rw [if_neg c1]
      simp only [Option.bind_some, show ¬ ((2 : Int) = 0) by decide, if_false]
      refine Ev.some ?_
      rw [e1, eq_comm, decide_eq_false_iff_not]
      have r1 : 1 ≤ r := by
        rcases Int.lt_or_le 0 r with h0 | h0
        · omega
        · have : r = 0 := by have := hr.1; omega
          rw [this, Int.mul_zero] at c1; omega
      have := Int.mul_le_mul_of_nonneg_left r1 n1
      omega

/-! the reference -/
theorem rsquare_ev {r : Int} (hr : Word r) : ∃ s, Ev (fun k => pochoirref04_square.f k r) s ∧ Dig s ∧ s.length = 17 ∧ val s = r * r := by
  obtain ⟨s, h1, h2, h3, h4⟩ := rtimes_ev (digs_dig 0 r) (digs_dig 0 r) (by rw [digs_len]; omega) (by rw [digs_len]; omega)
  refine ⟨s, ?_, h2, by rw [h3, digs_len], ?_⟩
  · unfold pochoirref04_square.f
    exact Ev.bind (rdigits_ev (by omega) hr.1) (Ev.bind h1 (Ev.now _))
  · rw [h4, digs_val (by omega) (by omega) hr.1 hr.2]; unfold wide; rw [Int.zero_mul, Int.zero_add]
theorem rwide_l {h l : Int} (hh : Word h) (hl : Word l) : ∀ (i : Nat) (r : Int), i ≤ 64 → 0 ≤ r → r + 2 ^ i ≤ 18446744073709551616 →
    Ev (fun k => pochoirref04_Wide.l0 k r ((i : Int) - 1) h l) (top (fun x => x * x * 1 ≤ wide h l) r i)
  | 0, r, _, _, _ => by
    refine Ev.step (f := fun _ => some r) (fun k => ?_) (Ev.now _)
    rw [pochoirref04_Wide.l0, if_neg (by omega)]
  | i + 1, r, hi, h0, hb => by
    have hp := p2 i
    have hs := p2s i
    have a1 := rwide_l hh hl i (r + 2 ^ i) (by omega) (by omega) (by omega)
    have a2 := rwide_l hh hl i r (by omega) h0 (by omega)
    have wr : IntKind.u64.wrap (r + 2 ^ i) = r + 2 ^ i := wu64 (by omega) (by omega)
    obtain ⟨s, s1, s2, s3, s4⟩ := rsquare_ev (r := r + 2 ^ i) ⟨by omega, by omega⟩
    refine Ev.step (f := fun k => (pochoirref04_square.f k (r + 2 ^ i)).bind fun t => (pochoirref01_Digits.f k h l).bind fun u => (pochoirref01_Less.f k t u).bind fun v => if v ≤ 0 then pochoirref04_Wide.l0 k (r + 2 ^ i) ((i : Int) - 1) h l else pochoirref04_Wide.l0 k r ((i : Int) - 1) h l) (fun k => ?_) ?_
    · rw [pochoirref04_Wide.l0, show ((i + 1 : Nat) : Int) - 1 = (i : Int) by omega, if_pos (by omega), if_pos (by omega), shl_one i (by omega), w64 (n := (i : Int) - 1) (by omega) (by omega), wr]
    · refine Ev.bind s1 (Ev.bind (rdigits_ev hh.1 hl.1) (Ev.bind (rless_ev s2 (digs_dig h l) (by omega) (by rw [digs_len]; omega)) ?_))
      rw [s4, digs_val hh.1 hh.2 hl.1 hl.2]
      unfold top
      rw [Int.mul_one]
      by_cases c : (r + 2 ^ i) * (r + 2 ^ i) ≤ wide h l
      · simp only [if_pos c, if_pos ((cmpI_le _ _).2 c)]; exact a1
      · simp only [if_neg c, if_neg (fun z => c ((cmpI_le _ _).1 z))]; exact a2
theorem rwide_ev {h l : Int} (hh : Word h) (hl : Word l) : ∃ r, Ev (fun k => pochoirref04_Wide.f k h l) r ∧ Word r ∧ IsRoot (wide h l) 1 r := by
  have hw := wide_bd hh hl
  have sp := top_spec (fun x => x * x * 1 ≤ wide h l) 64 0 (by omega) (by simp; omega) (by simp; omega)
  have a := rwide_l hh hl 64 0 (by omega) (by omega) (by simp)
  refine ⟨_, ?_, ⟨sp.1, ?_⟩, sp.1, sp.2.2⟩
  · unfold pochoirref04_Wide.f; exact a
  · have := sp.2.1; simpa using this
theorem rwhole_ev {h l r : Int} (hh : Word h) (hl : Word l) (hr : Word r) (h1 : Ev (fun k => pochoirref04_Wide.f k h l) r) : Ev (fun k => pochoirref04_Whole.f k h l) (decide (r * r = wide h l)) := by
  obtain ⟨s, s1, s2, s3, s4⟩ := rsquare_ev hr
  unfold pochoirref04_Whole.f
  refine Ev.bind h1 (Ev.bind s1 (Ev.bind (rdigits_ev hh.1 hl.1) (Ev.bind (rless_ev s2 (digs_dig h l) (by omega) (by rw [digs_len]; omega)) (Ev.some ?_))))
  rw [s4, digs_val hh.1 hh.2 hl.1 hl.2, Bool.eq_iff_iff]
  simp only [beq_iff_eq, decide_eq_true_eq]
  exact cmpI_zero _ _
theorem rbelow_ev {r h l h' l' : Int} (hr : Word r) (hh : Word h) (hl : Word l) (hh' : Word h') (hl' : Word l') :
    Ev (fun k => pochoirref04_Below.f k r h l h' l') (decide (r * r * wide h' l' ≤ wide h l)) := by
  obtain ⟨s, s1, s2, s3, s4⟩ := rsquare_ev hr
  obtain ⟨t, t1, t2, t3, t4⟩ := rtimes_ev s2 (digs_dig h' l') (by omega) (by rw [digs_len]; omega)
  rw [digs_len] at t3
  unfold pochoirref04_Below.f
  refine Ev.bind s1 (Ev.bind (rdigits_ev hh'.1 hl'.1) (Ev.bind t1 (Ev.bind (rdigits_ev hh.1 hl.1) (Ev.bind (rless_ev t2 (digs_dig h l) (by omega) (by rw [digs_len]; omega)) (Ev.some ?_)))))
  rw [t4, s4, digs_val hh.1 hh.2 hl.1 hl.2, digs_val hh'.1 hh'.2 hl'.1 hl'.2]
  exact decide_eq_decide.2 (cmpI_le _ _)

end Go.Proofs.Ytemhnlameekmkaa.XRoot
