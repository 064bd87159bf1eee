/- What layer 19 and its reference compute: the level of a fraction, of points, lines and rays. -/
import Derived.Test.YtemhnlameekmkaaXLineRef01M
import Derived.Test.YtemhnlameekmkaaXLineWideA
import Derived.Test.YtemhnlameekmkaaXLinePlaneM
import Derived.Test.YtemhnlameekmkaaXLinex8
import Derived.Test.YtemhnlameekmkaaXLinex9

namespace Go.Proofs.Ytemhnlameekmkaa.XLine
open Go.RowKit Go.Proofs.Ytemhnlameekmkaa.XM Go.Proofs.Ytemhnlameekmkaa.NumM Go.Proofs.YtemhnlameekmkaaW.PrintWords Go.Proofs.YtemhnlameekmkaaW.PrintLast Go.Proofs.YtemhnlameekmkaaW.PrintMore
set_option linter.unusedVariables false

/-- So many steps fit. -/
def Fits (sq by_ r n k : Int) : Prop := k * r * (k * r) * by_ ≤ n * n * sq
instance (sq by_ r n k : Int) : Decidable (Fits sq by_ r n k) := by unfold Fits; infer_instance
/-- The level: the greatest number of steps up to n that fits. -/
def IsLevel (sq by_ r n l : Int) : Prop := 0 ≤ l ∧ l ≤ n ∧ Fits sq by_ r n l ∧ (l = n ∨ ¬ Fits sq by_ r n (l + 1))
theorem fits_mono {sq by_ r n : Int} (hr : 0 ≤ r) (hb : 0 ≤ by_) {x y : Int} (h0 : 0 ≤ x) (h1 : x ≤ y) (h : Fits sq by_ r n y) : Fits sq by_ r n x := by
  unfold Fits at *
  have a : x * r ≤ y * r := Int.mul_le_mul_of_nonneg_right h1 hr
  have b : x * r * (x * r) ≤ y * r * (y * r) := Int.mul_le_mul a a (mul_nn h0 hr) (mul_nn (by omega) hr)
  have c := Int.mul_le_mul_of_nonneg_right b hb
  omega
theorem IsLevel.unique {sq by_ r n l m : Int} (hr : 0 ≤ r) (hb : 0 ≤ by_) (hl : IsLevel sq by_ r n l) (hm : IsLevel sq by_ r n m) : l = m := by
  rcases Int.lt_trichotomy l m with h | h | h
  · rcases hl.2.2.2 with e | e
    · have := hm.2.1; omega
    · exact absurd (fits_mono hr hb (by have := hl.1; omega) (by omega) hm.2.2.1) e
  · exact h
  · rcases hm.2.2.2 with e | e
    · have := hl.2.1; omega
    · exact absurd (fits_mono hr hb (by have := hm.1; omega) (by omega) hl.2.2.1) e

/-! ### the program: three words -/
def tri (d0 d1 d2 : Int) : Int := d0 + 18446744073709551616 * (d1 + 18446744073709551616 * d2)
theorem times_f {h l k : Int} (hh : Word h) (hl : Word l) (hk0 : 0 ≤ k) (hk : k < 144115188075855872) :
    ∃ d0 d1 d2, line_times.f h l k = some (d0, d1, d2) ∧ Word d0 ∧ Word d1 ∧ Word d2 ∧ tri d0 d1 d2 = wide h l * k := by
  have wk : Word k := ⟨hk0, by omega⟩
  have m1 := word_mul hl wk
  have m2 := word_mul hh wk
  have b := Int.mul_le_mul_of_nonneg_left (show k ≤ 144115188075855871 by omega) hh.1
  have b2 := hh.2
  have w0 : Word 0 := ⟨by omega, by omega⟩
  have hs : wide 0 (hi_ (l * k)) + wide (hi_ (h * k)) (lo_ (h * k)) < 340282366920938463463374607431768211456 := by
    rw [wide_split]; unfold wide hi_; omega
  refine ⟨lo_ (l * k), lo_ (wide 0 (hi_ (l * k)) + wide (hi_ (h * k)) (lo_ (h * k))), hi_ (wide 0 (hi_ (l * k)) + wide (hi_ (h * k)) (lo_ (h * k))), ?_, lo_word _, lo_word _, ?_, ?_⟩
  · unfold line_times.f wide_Of.f
    rw [wmul_f hl wk, wmul_f hh wk]
    simp only [Option.bind_some]
    rw [wadd_f w0 (hi_word m1.1 m1.2) (hi_word m2.1 m2.2) (lo_word _), if_pos hs]
    rfl
  · refine hi_word ?_ hs
    rw [wide_split]; unfold wide hi_; omega
  · rw [wide_split]
    have e : wide h l * k = h * k * 18446744073709551616 + l * k := by unfold wide; rw [Int.add_mul, Int.mul_right_comm]
    rw [e]; unfold tri hi_ lo_ wide; omega
theorem atMost_f {a0 a1 a2 b0 b1 b2 : Int} (h0 : Word a0) (h1 : Word a1) (h2 : Word a2) (g0 : Word b0) (g1 : Word b1) (g2 : Word b2) :
    line_digits_atMost.f a0 a1 a2 b0 b1 b2 = some (decide (tri a0 a1 a2 ≤ tri b0 b1 b2)) := by
  unfold Word at *
  unfold line_digits_atMost.f tri
  by_cases c2 : a2 = b2
  · rw [if_pos c2]
    by_cases c1 : a1 = b1
    · rw [if_pos c1]
      by_cases c0 : a0 = b0
      · rw [if_pos c0]; simp; omega
      · rw [if_neg c0]; congr 1; exact decide_eq_decide.2 (by omega)
    · rw [if_neg c1]; congr 1; exact decide_eq_decide.2 (by omega)
  · rw [if_neg c2]; congr 1; exact decide_eq_decide.2 (by omega)

/-- A scale that may be. -/
def Scale (r n : Int) : Prop := 1 ≤ r ∧ r ≤ 1048576 ∧ 1 ≤ n ∧ n ≤ 255
instance (r n : Int) : Decidable (Scale r n) := by unfold Scale; infer_instance
theorem right_f (r n : Int) : line_scale_right.f r n = some (decide (Scale r n)) := by
  unfold line_scale_right.f Scale
  by_cases h0 : r ≥ 1 <;> by_cases h1 : r ≤ 1048576 <;> by_cases h2 : n ≥ 1 <;> by_cases h3 : n ≤ 255 <;> simp [*] <;> omega

theorem level_l {hs ls hb lb r n : Int} (h1 : Word hs) (h2 : Word ls) (h3 : Word hb) (h4 : Word lb) (sc : Scale r n) {w0 w1 w2 : Int} (g0 : Word w0) (g1 : Word w1) (g2 : Word w2)
    (hw : tri w0 w1 w2 = wide hs ls * (n * n)) :
    ∀ (d : Nat) (lo hi : Int), hi - lo ≤ d → 0 ≤ lo → lo < hi → hi ≤ n + 1 → Fits (wide hs ls) (wide hb lb) r n lo → (hi = n + 1 ∨ ¬ Fits (wide hs ls) (wide hb lb) r n hi) →
      ∃ l, IsLevel (wide hs ls) (wide hb lb) r n l ∧ Ev (fun k => line_scale_level.l0 k lo hi r n hb lb w0 w1 w2) l := by
  intro d
  induction d with
  | zero => intro lo hi hd h0 hlt; omega
  | succ d ih =>
    intro lo hi hd hlo hlt hhi f1 f2
    have sc' := sc
    obtain ⟨s1, s2, s3, s4⟩ := sc
    have e1 : wrap64 (hi - lo) = hi - lo := w64 (by omega) (by omega)
    by_cases c : hi - lo > 1
    · obtain ⟨m, hm⟩ : ∃ m, m = (lo + hi) / 2 := ⟨_, rfl⟩
      have m1 : lo < m := by omega
      have m2 : m < hi := by omega
      have mr := Int.mul_le_mul (show m ≤ 255 by omega) s2 (by omega) (by omega)
      have mr0 : 0 ≤ m * r := mul_nn (by omega) (by omega)
      have mm := Int.mul_le_mul mr mr mr0 (by omega)
      have mm0 : 0 ≤ m * r * (m * r) := mul_nn mr0 mr0
      obtain ⟨t0, t1, t2, ht, a0, a1, a2, hv⟩ := times_f h3 h4 mm0 (by omega)
      have am := atMost_f a0 a1 a2 g0 g1 g2
      rw [hv, hw] at am
      have eF : (wide hb lb * (m * r * (m * r)) ≤ wide hs ls * (n * n)) ↔ Fits (wide hs ls) (wide hb lb) r n m := by unfold Fits; rw [Int.mul_comm (wide hb lb), Int.mul_comm (wide hs ls)]
      have q1 : wrap64 (lo + hi) = lo + hi := w64 (by omega) (by omega)
      have q2 : Int.tdiv (lo + hi) 2 = m := by rw [Int.tdiv_eq_ediv_of_nonneg (by omega), hm]
      have q3 : wrap64 m = m := w64 (by omega) (by omega)
      have q4 : IntKind.u64.wrap m = m := wu64 (by omega) (by omega)
      have q5 : IntKind.u64.wrap r = r := wu64 (by omega) (by omega)
      have q6 : IntKind.u64.wrap (m * r) = m * r := wu64 mr0 (by omega)
      have q7 : IntKind.u64.wrap (m * r * (m * r)) = m * r * (m * r) := wu64 mm0 (by omega)
      have ih1 := ih m hi (by omega) (by omega) m2 hhi
      have ih2 := ih lo m (by omega) hlo m1 (by omega) f1
      clear ih mm mr
      by_cases f : Fits (wide hs ls) (wide hb lb) r n m
      · obtain ⟨l, l1, l2⟩ := ih1 f f2
        refine ⟨l, l1, Ev.step (fun k => ?_) l2⟩
        rw [line_scale_level.l0, e1, if_pos c, q1, q2, q3, q4, q5, q6, q7, ht]
        simp only [Option.bind_some]
        rw [am, decide_eq_true (eF.2 f)]; rfl
      · obtain ⟨l, l1, l2⟩ := ih2 (.inr f)
        refine ⟨l, l1, Ev.step (fun k => ?_) l2⟩
        rw [line_scale_level.l0, e1, if_pos c, q1, q2, q3, q4, q5, q6, q7, ht]
        simp only [Option.bind_some]
        rw [am, decide_eq_false (fun z => f (eF.1 z))]; rfl
    · refine ⟨lo, ⟨hlo, by omega, f1, ?_⟩, Ev.step (f := fun _ => some lo) (fun k => ?_) (Ev.now _)⟩
      · rcases f2 with e | e
        · exact .inl (by omega)
        · exact .inr (by rw [show lo + 1 = hi by omega]; exact e)
      · rw [line_scale_level.l0, e1, if_neg c]
theorem level_ev {hs ls hb lb r n : Int} (h1 : Word hs) (h2 : Word ls) (h3 : Word hb) (h4 : Word lb) (sc : Scale r n) :
    ∃ l, IsLevel (wide hs ls) (wide hb lb) r n l ∧ Ev (fun k => line_scale_level.f k r n hs ls hb lb) l := by
  have sc' := sc
  obtain ⟨s1, s2, s3, s4⟩ := sc
  have nn := Int.mul_le_mul s4 s4 (by omega) (by omega)
  have nn0 : 0 ≤ n * n := mul_nn (by omega) (by omega)
  obtain ⟨t0, t1, t2, ht, a0, a1, a2, hv⟩ := times_f h1 h2 nn0 (by omega)
  have f0 : Fits (wide hs ls) (wide hb lb) r n 0 := by
    unfold Fits; simp; exact mul_nn nn0 (wide_bd h1 h2).1
  obtain ⟨l, l1, l2⟩ := level_l h1 h2 h3 h4 sc' a0 a1 a2 hv 300 0 (n + 1) (by omega) (by omega) (by omega) (by omega) f0 (.inl rfl)
  refine ⟨l, l1, ?_⟩
  unfold line_scale_level.f
  rw [wu64 (n := n) (by omega) (by omega), wu64 (n := n * n) nn0 (by omega), ht, w64 (n := n + 1) (by omega) (by omega)]
  simp only [Option.bind_some]
  exact l2

/-! ### the reference -/
theorem rright_f (r n : Int) : pochoirref19_Right.f r n = some (decide (Scale r n)) := right_f r n
theorem rdig_ev {x : Int} (hx : Word x) : Ev (fun k => pochoirref19_digits.f k x) (digs 0 x) := by
  unfold pochoirref19_digits.f
  exact Ev.bind (rdigits_ev (by omega) hx.1) (Ev.now _)
theorem rdig_val {x : Int} (hx : Word x) : val (digs 0 x) = x := by
  rw [digs_val (by omega) (by omega) hx.1 hx.2]; unfold wide; omega
theorem holds_ev {sq by_ : List Int} (hs : Dig sq) (hb : Dig by_) (ls : sq.length ≤ 100) (lb : by_.length ≤ 100) {r n k : Int} (sc : Scale r n) (hk0 : 0 ≤ k) (hk : k ≤ 255) :
    Ev (fun kk => pochoirref19_holds.f kk k sq by_ r n) (decide (Fits (val sq) (val by_) r n k)) := by
  obtain ⟨s1, s2, s3, s4⟩ := sc
  have kr := Int.mul_le_mul hk s2 (by omega) (by omega)
  have kr0 : 0 ≤ k * r := mul_nn hk0 (by omega)
  have wkr : Word (k * r) := ⟨kr0, by omega⟩
  have wn : Word n := ⟨by omega, by omega⟩
  obtain ⟨a, a1, a2, a3, a4⟩ := rtimes_ev (digs_dig 0 (k * r)) (digs_dig 0 (k * r)) (by rw [digs_len]; omega) (by rw [digs_len]; omega)
  rw [digs_len] at a3
  obtain ⟨b, b1, b2, b3, b4⟩ := rtimes_ev a2 hb (by omega) (by omega)
  obtain ⟨c, c1, c2, c3, c4⟩ := rtimes_ev (digs_dig 0 n) (digs_dig 0 n) (by rw [digs_len]; omega) (by rw [digs_len]; omega)
  rw [digs_len] at c3
  obtain ⟨e, e1, e2, e3, e4⟩ := rtimes_ev c2 hs (by omega) (by omega)
  unfold pochoirref19_holds.f
  rw [wu64 (n := r) (by omega) (by omega), wu64 (n := k * r) kr0 (by omega), wu64 (n := n) (by omega) (by omega)]
  refine Ev.bind (rdig_ev wkr) (Ev.bind (rdig_ev wn) (Ev.bind a1 (Ev.bind b1 (Ev.bind c1 (Ev.bind e1 (Ev.bind (rless_ev b2 e2 (by omega) (by omega)) (Ev.some ?_)))))))
  rw [b4, a4, e4, c4, rdig_val wkr, rdig_val wn]
  exact decide_eq_decide.2 (cmpI_le _ _)
theorem rlevel_l {sq by_ : List Int} (hs : Dig sq) (hb : Dig by_) (ls : sq.length ≤ 100) (lb : by_.length ≤ 100) {r n : Int} (sc : Scale r n) :
    ∀ (d : Nat) (k : Int), n - k ≤ d → 0 ≤ k → k ≤ n → Fits (val sq) (val by_) r n k →
      ∃ l, IsLevel (val sq) (val by_) r n l ∧ Ev (fun kk => pochoirref19_level.l0 kk sq by_ r n k) l := by
  intro d
  induction d with
  | zero =>
    intro k hd h0 hk f
    obtain rfl : k = n := by omega
    refine ⟨k, ⟨h0, hk, f, .inl rfl⟩, Ev.step (f := fun _ => some k) (fun kk => ?_) (Ev.now _)⟩
    rw [pochoirref19_level.l0, if_neg (by omega)]
  | succ d ih =>
    intro k hd h0 hk f
    by_cases c : k < n
    · have s4 := sc.2.2.2
      have hv := holds_ev hs hb ls lb sc (k := k + 1) (by omega) (by omega)
      have q1 : wrap64 (k + 1) = k + 1 := w64 (by omega) (by omega)
      have q2 : IntKind.u64.wrap (k + 1) = k + 1 := wu64 (by omega) (by omega)
      by_cases g : Fits (val sq) (val by_) r n (k + 1)
      · obtain ⟨l, l1, l2⟩ := ih (k + 1) (by omega) (by omega) (by omega) g
        refine ⟨l, l1, Ev.step (f := fun kk => (pochoirref19_holds.f kk (k + 1) sq by_ r n).bind fun t => if t = true then pochoirref19_level.l0 kk sq by_ r n (k + 1) else some k) (fun kk => ?_) (Ev.bind hv ?_)⟩
        · rw [pochoirref19_level.l0, if_pos c, q1, q2]
        · simp only [decide_eq_true g, if_true]; exact l2
      · refine ⟨k, ⟨h0, hk, f, .inr g⟩, Ev.step (f := fun kk => (pochoirref19_holds.f kk (k + 1) sq by_ r n).bind fun t => if t = true then pochoirref19_level.l0 kk sq by_ r n (k + 1) else some k) (fun kk => ?_) (Ev.bind hv ?_)⟩
        · rw [pochoirref19_level.l0, if_pos c, q1, q2]
        · simp only [decide_eq_false g, Bool.false_eq_true, if_false]; exact Ev.now _
    · obtain rfl : k = n := by omega
      refine ⟨k, ⟨h0, hk, f, .inl rfl⟩, Ev.step (f := fun _ => some k) (fun kk => ?_) (Ev.now _)⟩
      rw [pochoirref19_level.l0, if_neg (by omega)]
theorem rlevel_ev {sq by_ : List Int} (hs : Dig sq) (hb : Dig by_) (ls : sq.length ≤ 100) (lb : by_.length ≤ 100) {r n : Int} (sc : Scale r n) :
    ∃ l, IsLevel (val sq) (val by_) r n l ∧ Ev (fun kk => pochoirref19_level.f kk sq by_ r n) l := by
  have f0 : Fits (val sq) (val by_) r n 0 := by
    unfold Fits; simp
    exact mul_nn (mul_nn (by have := sc.2.2.1; omega) (by have := sc.2.2.1; omega)) (val_bd hs).1
  exact rlevel_l hs hb ls lb sc 300 0 (by have := sc.2.2.2; omega) (by omega) (by have := sc.2.2.1; omega) f0

end Go.Proofs.Ytemhnlameekmkaa.XLine
