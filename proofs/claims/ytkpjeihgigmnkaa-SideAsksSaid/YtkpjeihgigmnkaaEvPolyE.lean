/- Quotients by a word, on both sides. Seat Door's numbers. -/
import Derived.Test.YtkpjeihgigmnkaaEvDiv64
import Derived.Test.YtkpjeihgigmnkaaEvPolyD
namespace Go.Proofs.Ytkpjeihgigmnkaa.EvP
open Go Go.Proofs.Ytkpjeihgigmnkaa.Ev Go.Proofs.Ytkpjeihgigmnkaa.NumB
open Go.Proofs.Ytkpjeihgigmnkaa.EvN (i64 Word wide)
set_option linter.unusedVariables false
set_option linter.unusedSimpArgs false
theorem drop_val {l : List Int} {n : Nat} (h : n < l.length) : val (l.drop n) = at_ l n + 4294967296 * val (l.drop (n + 1)) := by
  rw [List.drop_eq_getElem_cons h, val]
  congr 1
  simp [at_, h]
/-- The sign of a quotient. -/
theorem tdiv_sign (x d : Int) : (if (!(decide (x < 0) == decide (d < 0))) = true then -(((x.natAbs / d.natAbs : Nat)) : Int) else ((x.natAbs / d.natAbs : Nat) : Int)) = Int.tdiv x d := by
  rcases Int.natAbs_eq x with hx | hx <;> rcases Int.natAbs_eq d with hd | hd
  all_goals
    generalize x.natAbs = X at *
    generalize d.natAbs = D at *
    subst hx hd
  · rw [if_neg (by simp; omega)]; rfl
  · rw [Int.tdiv_neg]
    by_cases c : D = 0
    · subst c; simp
    · rw [if_pos (by simp; omega)]; rfl
  · rw [Int.neg_tdiv]
    by_cases c : X = 0
    · subst c; simp
    · rw [if_pos (by simp; omega)]; rfl
  · rw [Int.neg_tdiv, Int.tdiv_neg, Int.neg_neg]
    by_cases c : X = 0
    · subst c; simp
    · by_cases e : D = 0
      · subst e; simp
      · rw [if_neg (by simp; omega)]; rfl
theorem divB {V D : Int} {g Q r : Int} (hD : 0 < D) (hr : r = V % D) (hQ : Q = V / D) : (g + 4294967296 * V) / D = Q * 4294967296 + (r * 4294967296 + g) / D ∧ (g + 4294967296 * V) % D = (r * 4294967296 + g) % D := by
  have h := Int.mul_ediv_add_emod V D
  have e : g + 4294967296 * V = (r * 4294967296 + g) + D * (Q * 4294967296) := by
    rw [hr, hQ]
    have : 4294967296 * V = 4294967296 * (D * (V / D) + V % D) := by rw [h]
    rw [this]
    generalize V / D = a
    generalize V % D = b
    grind
  rw [e, Int.add_mul_ediv_left _ _ (by omega), Int.add_mul_emod_self_left]
  exact ⟨by omega, rfl⟩
/-! the reference, bit by bit -/
theorem rcmp_s {x y : Int} (hx : Sz 30000 x) (hy : Sz 30000 y) : F73 (rb x) (rb y) = some (sgn (x - y)) := by
  rw [F73_eq, bnd (rsub_s (hx.le (by omega)) (hy.le (by omega))), bnd (rsign_f _)]
theorem sgn_ge (x : Int) : decide (sgn x ≥ 0) = decide (x ≥ 0) := by
  unfold sgn
  by_cases h : x = 0
  · rw [if_pos h, h]
  · rw [if_neg h]
    by_cases c : x < 0
    · rw [if_pos c, decide_eq_false (by omega), decide_eq_false (by omega)]
    · rw [if_neg c, decide_eq_true (by omega), decide_eq_true (by omega)]
theorem bit16 (A : Int) {k : Nat} (hk : k < 16) : A % 65536 / 2 ^ k % 2 = A / 2 ^ k % 2 := by
  have : k = 0 ∨ k = 1 ∨ k = 2 ∨ k = 3 ∨ k = 4 ∨ k = 5 ∨ k = 6 ∨ k = 7 ∨ k = 8 ∨ k = 9 ∨ k = 10 ∨ k = 11 ∨ k = 12 ∨ k = 13 ∨ k = 14 ∨ k = 15 := by omega
  rcases this with rfl | rfl | rfl | rfl | rfl | rfl | rfl | rfl | rfl | rfl | rfl | rfl | rfl | rfl | rfl | rfl <;> simp <;> omega
theorem two_step {X D : Int} {n : Nat} {b : Int} (hX : 0 ≤ X) (hD : 0 < D) (hb : b = X / 2 ^ n % 2) :
    X / 2 ^ n = 2 * (X / 2 ^ (n + 1)) + b := by
  have e : X / 2 ^ (n + 1) = X / 2 ^ n / 2 := by rw [Int.pow_succ, Int.ediv_ediv_of_nonneg (Int.le_of_lt (Int.pow_pos (by decide)))]
  rw [e, hb]; omega
theorem divT {V D b : Int} (hD : 0 < D) (b0 : 0 ≤ b) (b1 : b ≤ 1) : (2 * V + b) / D = (if 2 * (V % D) + b ≥ D then 2 * (V / D) + 1 else 2 * (V / D)) ∧ (2 * V + b) % D = (if 2 * (V % D) + b ≥ D then 2 * (V % D) + b - D else 2 * (V % D) + b) := by
  have h := Int.mul_ediv_add_emod V D
  have r0 := Int.emod_nonneg V (show D ≠ 0 by omega)
  have r1 := Int.emod_lt_of_pos V hD
  have e : 2 * V + b = (2 * (V % D) + b) + D * (2 * (V / D)) := by
    have : 2 * V = 2 * (D * (V / D) + V % D) := by rw [h]
    rw [this]
    generalize V / D = a
    generalize V % D = c
    grind
  rw [e, Int.add_mul_ediv_left _ _ (by omega), Int.add_mul_emod_self_left]
  generalize V / D = a at *
  generalize V % D = c at *
  by_cases k : 2 * c + b ≥ D
  · rw [if_pos k, if_pos k]
    have e1 : (2 * c + b) / D = 1 := by
      have := Int.add_mul_ediv_left (2 * c + b - D) 1 (show D ≠ 0 by omega)
      rw [show 2 * c + b - D + D * 1 = 2 * c + b by omega, Int.ediv_eq_zero_of_lt (show 0 ≤ 2 * c + b - D by omega) (show 2 * c + b - D < D by omega)] at this
      omega
    have e2 : (2 * c + b) % D = 2 * c + b - D := by
      have := Int.mul_ediv_add_emod (2 * c + b) D
      rw [e1] at this; omega
    exact ⟨by omega, e2⟩
  · rw [if_neg k, if_neg k, Int.ediv_eq_zero_of_lt (show 0 ≤ 2 * c + b by omega) (show 2 * c + b < D by omega), Int.emod_eq_of_lt (show 0 ≤ 2 * c + b by omega) (show 2 * c + b < D by omega)]
    exact ⟨by omega, rfl⟩
theorem sz_le {e : Nat} {x y : Int} (h : Sz e y) (hl : x.natAbs ≤ y.natAbs) : Sz e x := .of (by have := h.lt; omega)
theorem rdiv_l {x d : Int} {z z' : S73} {e : Nat} (hx : Sz e x) (he : e ≤ 20000) (hd : i64 d) (hd0 : d ≠ 0) : ∀ (n : Nat), n ≤ 16 * (NumM.cd x.natAbs).length →
    ∃ y, L72_0 d (rb x) z z' (rb (d.natAbs : Int)) (rb ((x.natAbs : Int) / 2 ^ n / (d.natAbs : Int))) (rb ((x.natAbs : Int) / 2 ^ n % (d.natAbs : Int))) ((n : Int) - 1) = some (rb (Int.tdiv x d), y)
  | 0, hn => by
    have hm := hx.m
    have q0 : ((x.natAbs : Int) / 2 ^ 0 / (d.natAbs : Int)) = ((x.natAbs / d.natAbs : Nat) : Int) := by simp
    have zq : Sz e ((x.natAbs / d.natAbs : Nat) : Int) := sz_le hx (by rw [Int.natAbs_natCast]; exact Nat.div_le_self _ _)
    have h1 := EvR.rnorm_f (a := !((rb x).f0 == decide (d < 0))) (l := NumM.cd (x.natAbs / d.natAbs)) (by have := zq.m; rw [Int.natAbs_natCast] at this; omega) (NumM.cd_dig _)
    rw [NumM.cd_val] at h1
    have e' : (if (!((rb x).f0 == decide (d < 0))) = true then -(((x.natAbs / d.natAbs : Nat)) : Int) else ((x.natAbs / d.natAbs : Nat) : Int)) = Int.tdiv x d := tdiv_sign x d
    rw [e'] at h1
    have zr : Sz e ((x.natAbs : Int) / 2 ^ 0 % (d.natAbs : Int)) := sz_le hx (by
      have : ((x.natAbs : Int) / 2 ^ 0 % (d.natAbs : Int)) = ((x.natAbs % d.natAbs : Nat) : Int) := by simp
      rw [this, Int.natAbs_natCast]; exact Nat.mod_le _ _)
    have h2 := EvR.rnorm_f (a := (rb x).f0) (l := (rb ((x.natAbs : Int) / 2 ^ 0 % (d.natAbs : Int))).f1) (by have := zr.m; show (NumM.cd _).length ≤ _; omega) (NumM.cd_dig _)
    have f1 : (rb ((x.natAbs : Int) / 2 ^ 0 / (d.natAbs : Int))).f1 = NumM.cd (x.natAbs / d.natAbs) := by rw [q0]; show NumM.cd (Int.natAbs _) = _; rw [Int.natAbs_natCast]
    exact ⟨_, by rw [L72_0_eq, cF (by omega), f1, bnd h1, bnd h2]⟩
  | n + 1, hn => by
    have hd' := hd
    unfold i64 at hd'
    have hm := hx.m
    have D0 : (0 : Int) < (d.natAbs : Int) := by omega
    obtain ⟨y, hy⟩ := rdiv_l (z := z) (z' := z') hx he hd hd0 n (by omega)
    refine ⟨y, ?_⟩
    obtain ⟨b, hb⟩ : ∃ b : Int, b = (x.natAbs : Int) / 2 ^ n % 2 := ⟨_, rfl⟩
    have b0 : 0 ≤ b := by omega
    have b1 : b ≤ 1 := by omega
    have hs := two_step (X := (x.natAbs : Int)) (D := (d.natAbs : Int)) (n := n) (by omega) D0 hb
    obtain ⟨t1, t2⟩ := divT (V := (x.natAbs : Int) / 2 ^ (n + 1)) D0 b0 b1
    rw [← hs] at t1 t2
    have V0 : 0 ≤ (x.natAbs : Int) / 2 ^ (n + 1) := Int.ediv_nonneg (by omega) (Int.le_of_lt (Int.pow_pos (by decide)))
    have V1 : (x.natAbs : Int) / 2 ^ (n + 1) ≤ (x.natAbs : Int) := Int.ediv_le_self _ (by omega)
    generalize (x.natAbs : Int) / 2 ^ (n + 1) = V at *
    have q0 : 0 ≤ V / (d.natAbs : Int) := Int.ediv_nonneg V0 (by omega)
    have q1 : V / (d.natAbs : Int) ≤ V := Int.ediv_le_self _ V0
    have r0 := Int.emod_nonneg V (show (d.natAbs : Int) ≠ 0 by omega)
    have r1 := Int.emod_lt_of_pos V D0
    have zq : Sz e (V / (d.natAbs : Int)) := sz_le hx (by omega)
    have zr : Sz 2 (V % (d.natAbs : Int)) := sz_i64 (by omega) (by omega)
    have zD : Sz 2 (d.natAbs : Int) := .of (by rw [show (4294967296 : Int) ^ 2 = 18446744073709551616 from rfl]; omega)
    have zqq : Sz (e + 1) (V / (d.natAbs : Int) + V / (d.natAbs : Int)) := (sz_add zq zq).le (by omega)
    have zrr : Sz 3 (V % (d.natAbs : Int) + V % (d.natAbs : Int)) := (sz_add zr zr).le (by omega)
    have z6 : Sz 2 (1 : Int) := sz_i64 (by omega) (by omega)
    -- the second half
    have half : ∀ r : Int, r = 2 * (V % (d.natAbs : Int)) + b → L72_1 d (rb x) z z' (rb (d.natAbs : Int)) (rb (V / (d.natAbs : Int) + V / (d.natAbs : Int))) (rb r) (n : Int) = some (rb (Int.tdiv x d), y) := fun r hr => by
      have zr' : Sz 4 r := by
        have : r = V % (d.natAbs : Int) + V % (d.natAbs : Int) + b := by omega
        rw [this]; exact (sz_add zrr (sz_i64 (x := b) (by omega) (by omega))).le (by omega)
      rw [L72_1_eq, bnd (rcmp_s (zr'.le (by omega)) (zD.le (by omega))), sgn_ge, show wr .i64 ((n : Int) - 1) = (n : Int) - 1 from w64 (by omega) (by omega)]
      by_cases k : 2 * (V % (d.natAbs : Int)) + b ≥ (d.natAbs : Int)
      · rw [if_pos k] at t1 t2
        rw [t1, t2] at hy
        rw [cT (by omega), bnd (rsub_s (zr'.le (by omega)) (zD.le (by omega))), bnd (EvR.rof_f (by omega) (by omega)), bnd (radd_s (zqq.le (by omega)) (z6.le (by omega)))]
        rw [show r - (d.natAbs : Int) = 2 * (V % (d.natAbs : Int)) + b - (d.natAbs : Int) by omega, show V / (d.natAbs : Int) + V / (d.natAbs : Int) + 1 = 2 * (V / (d.natAbs : Int)) + 1 by omega]
        exact hy
      · rw [if_neg k] at t1 t2
        rw [t1, t2] at hy
        rw [cF (by omega), show r = 2 * (V % (d.natAbs : Int)) + b by omega, show V / (d.natAbs : Int) + V / (d.natAbs : Int) = 2 * (V / (d.natAbs : Int)) by omega]
        exact hy
    have i1 : wr .i64 (Int.tdiv (n : Int) (16 : Int)) = ((n / 16 : Nat) : Int) := by
      rw [EvR.tdiv_nn (by omega)]; exact (w64 (by omega) (by omega)).trans (by omega)
    have i2 : Int.tmod (n : Int) (16 : Int) = ((n % 16 : Nat) : Int) := by rw [EvR.tmod_nn (by omega)]; omega
    have lf : (rb x).f1 = NumM.cd x.natAbs := rfl
    have bitE : Int.tmod (shrE IntKind.u64 ((NumM.cd x.natAbs).getD (n / 16) 0) ((n % 16 : Nat) : Int)) 2 = b := by
      have hat : (NumM.cd x.natAbs).getD (n / 16) 0 = (x.natAbs : Int) / 65536 ^ (n / 16) % 65536 := by
        have := NumM.at_val (NumM.cd_dig x.natAbs) (n / 16)
        rw [NumM.cd_val] at this
        exact this
      have h16 : (65536 : Int) ^ (n / 16) = 2 ^ (16 * (n / 16)) := by rw [Int.pow_mul]; rfl
      have nn : 0 ≤ (x.natAbs : Int) / 65536 ^ (n / 16) % 65536 := Int.emod_nonneg _ (by decide)
      rw [hat, shr_e (show n % 16 ≤ IntKind.u64.bits by show _ ≤ 64; omega), EvR.tmod_nn (Int.ediv_nonneg nn (Int.le_of_lt (Int.pow_pos (by decide)))), bit16 _ (by omega), h16, Int.ediv_ediv_of_nonneg (Int.le_of_lt (Int.pow_pos (by decide))), ← Int.pow_add, show 16 * (n / 16) + n % 16 = n by omega, hb]
    rw [show ((n + 1 : Nat) : Int) - 1 = (n : Int) by omega, L72_0_eq, cT (by omega), bnd (radd_s (zq.le (by omega)) (zq.le (by omega))), bnd (radd_s (zr.le (by omega)) (zr.le (by omega))), i1, i2, lf, grd_p (by omega), grd_p (by omega), grd_p (by omega), Int.toNat_natCast, bitE]
    by_cases k : b = 1
    · rw [show (b == 1) = true by simpa using k, cond_true, bnd (EvR.rof_f (by omega) (by omega)), bnd (radd_s (zrr.le (by omega)) (z6.le (by omega)))]
      exact half _ (by omega)
    · rw [show (b == 1) = false by simpa using k, cond_false]
      exact half _ (by omega)
theorem rdiv_s {x d : Int} {e : Nat} (hx : Sz e x) (he : e ≤ 20000) (hd : i64 d) (hd0 : d ≠ 0) : ∃ y, F72 (rb x) d = some (rb (Int.tdiv x d), y) := by
  have hd' := hd
  unfold i64 at hd'
  have hm := hx.m
  have hlt : (x.natAbs : Int) < 2 ^ (16 * (NumM.cd x.natAbs).length) := by
    have := (NumM.val_bd (NumM.cd_dig x.natAbs)).2
    rw [NumM.cd_val] at this
    rw [Int.pow_mul]; exact this
  obtain ⟨y, hy⟩ := rdiv_l (z := ⟨false, []⟩) (z' := ⟨false, []⟩) hx he hd hd0 (16 * (NumM.cd x.natAbs).length) (Nat.le_refl _)
  rw [Int.ediv_eq_zero_of_lt (by omega) hlt, Int.zero_ediv, Int.zero_emod, rb_zero] at hy
  refine ⟨y, ?_⟩
  rw [F72_eq, bnd (EvR.rof_f (by omega) (by omega))]
  have l0 : (rb x).f1.length = (NumM.cd x.natAbs).length := rfl
  have l1 : wr .i64 (wr .i64 (16 * ((rb x).f1.length : Int)) - 1) = ((16 * (NumM.cd x.natAbs).length : Nat) : Int) - 1 := by
    rw [l0, show wr .i64 (16 * ((NumM.cd x.natAbs).length : Int)) = 16 * ((NumM.cd x.natAbs).length : Int) from w64 (by omega) (by omega)]
    exact (w64 (by omega) (by omega)).trans (by omega)
  have la : S73.mk false (EvR.rb d).f1 = rb (d.natAbs : Int) := rb_abs d
  rw [l1, la]
  exact hy
end Go.Proofs.Ytkpjeihgigmnkaa.EvP
