/- math/bits.Div64: quotient and rest of a number of two words by a word, digit by digit of 32 bits. Seat Door's numbers. -/
import Derived.Test.YtidiifdiilahdaaDoorEvMay
namespace Go.Proofs.YtidiifdiilahdaaDoor.EvN
open Go Go.Proofs.YtidiifdiilahdaaDoor.Ev
set_option linter.unusedVariables false
set_option linter.unusedSimpArgs false
set_option linter.unusedSectionVars false
def Word (x : Int) : Prop := 0 ≤ x ∧ x < 18446744073709551616
def wide (hi lo : Int) : Int := hi * 18446744073709551616 + lo
theorem wraps_u64 (n : Int) (h₀ : 0 ≤ n) (h₁ : n < 2 ^ 64) : IntKind.u64.wrap n = n := wu64 h₀ (by omega)
theorem and32 {x : Int} (h : Word x) : Go.bits .and .u64 x 4294967295 = x % 4294967296 := by
  have := bits_mask .u64 64 (by decide) wraps_u64 32 (by decide) x h.1 (by have := h.2; omega)
  simpa using this
theorem shr32 (x : Int) : shrE IntKind.u64 x 32 = x / 4294967296 := by
  have := shr_e (k := .u64) (x := x) (n := 32) (by decide)
  simpa using this
theorem or_add {x y : Int} (i : Nat) (hx0 : 0 ≤ x) (hx : x % 2 ^ i = 0) (hx1 : x < 18446744073709551616) (hy0 : 0 ≤ y) (hy : y < 2 ^ i) (hy1 : y < 18446744073709551616) : orE IntKind.u64 x y = x + y :=
  bits_join .u64 64 (by decide) wraps_u64 i x y hx0 hx (by omega) hy0 hy (by omega)
theorem pw_split (a b : Nat) : (2 : Int) ^ (a + b) = 2 ^ a * 2 ^ b := Int.pow_add _ _ _
theorem p2pos (i : Nat) : (0 : Int) < 2 ^ i := Int.pow_pos (by decide)
/-- A digit that is at most the true one, and at least it. -/
theorem dig_is {U y q p : Int} (hy : 0 < y) (hq : q = U / y) (h1 : p * y ≤ U) (h2 : q ≤ p) : p = q := by
  have : p ≤ U / y := (Int.le_ediv_iff_mul_le hy).2 h1
  omega
theorem dig_lt {u d y : Int} (hy : 0 < y) (hu : u < y) (hd : d < 4294967296) : (u * 4294967296 + d) / y < 4294967296 := by
  apply Int.ediv_lt_of_lt_mul hy
  have := Int.mul_le_mul_of_nonneg_right (show u + 1 ≤ y by omega) (show (0 : Int) ≤ 4294967296 by decide)
  rw [Int.mul_comm 4294967296 y]; omega
/-- A step of the guess: the test holds. -/
theorem dig_down {u d y y1 y0 p r : Int} (hy : y = y1 * 4294967296 + y0) (hpos : 0 < y) (hu : u < y) (hd0 : 0 ≤ d) (hd : d < 4294967296) (hr : r = u - p * y1) (hq : (u * 4294967296 + d) / y ≤ p)
    (h : p ≥ 4294967296 ∨ p * y0 > 4294967296 * r + d) : (u * 4294967296 + d) / y ≤ p - 1 := by
  have hlt := dig_lt hpos hu hd
  rcases h with h | h
  · omega
  · have e : p * y > u * 4294967296 + d := by
      rw [hy, Int.mul_add, ← Int.mul_assoc]
      have : p * y1 = u - r := by omega
      rw [this]; omega
    have := Int.ediv_lt_of_lt_mul hpos e
    omega
/-- The guess is right: the test doesn't hold. -/
theorem dig_done {u d y y1 y0 p r : Int} (hy : y = y1 * 4294967296 + y0) (hpos : 0 < y) (hr : r = u - p * y1) (hq : (u * 4294967296 + d) / y ≤ p) (h : p * y0 ≤ 4294967296 * r + d) : p = (u * 4294967296 + d) / y := by
  refine dig_is hpos rfl ?_ hq
  rw [hy, Int.mul_add, ← Int.mul_assoc]
  have : p * y1 = u - r := by omega
  rw [this]; omega
/-- The guess is right: its rest is beyond a digit. -/
theorem dig_far {u d y y1 y0 p r : Int} (hy : y = y1 * 4294967296 + y0) (hy1 : 0 < y1) (h0 : 0 ≤ y0) (h1 : y0 < 4294967296) (hu : u < y) (hd0 : 0 ≤ d) (hr : r = u - p * y1) (hr1 : r ≥ 4294967296) (hp : 0 ≤ p) (hq : (u * 4294967296 + d) / y ≤ p) :
    p = (u * 4294967296 + d) / y := by
  have hp1 : p < 4294967296 := by
    rcases Int.lt_or_le p 4294967296 with h | h
    · exact h
    · have := Int.mul_le_mul_of_nonneg_right h (Int.le_of_lt hy1)
      omega
  refine dig_done hy (by have := Int.mul_pos hy1 (show (0 : Int) < 4294967296 by decide); omega) hr hq ?_
  have := Int.mul_le_mul (show p ≤ 4294967296 by omega) (show y0 ≤ 4294967296 by omega) h0 (by decide)
  omega
theorem guess_ge {u d y y1 y0 : Int} (hy : y = y1 * 4294967296 + y0) (hy1 : 0 < y1) (h0 : 0 ≤ y0) (hu0 : 0 ≤ u) (hd : d < 4294967296) (hd0 : 0 ≤ d) : (u * 4294967296 + d) / y ≤ u / y1 := by
  have hpos : 0 < y := by have := Int.mul_pos hy1 (show (0 : Int) < 4294967296 by decide); omega
  apply Int.le_of_lt_add_one
  apply Int.ediv_lt_of_lt_mul hpos
  have e := Int.mul_ediv_add_emod u y1
  have l := Int.emod_lt_of_pos u hy1
  have f : u < y1 * (u / y1 + 1) := by rw [Int.mul_add, Int.mul_one]; omega
  have g : u + 1 ≤ y1 * (u / y1 + 1) := by omega
  have q0 : 0 ≤ u / y1 := Int.ediv_nonneg hu0 (by omega)
  have m := Int.mul_le_mul_of_nonneg_right g (show (0 : Int) ≤ 4294967296 by decide)
  have n : 0 ≤ y0 * (u / y1 + 1) := mul_nn h0 (by omega)
  have k : (u / y1 + 1) * y = y1 * (u / y1 + 1) * 4294967296 + y0 * (u / y1 + 1) := by rw [hy]; generalize u / y1 = z; grind
  rw [k]; omega
section
variable {y s y1 y0 u d e : Int} (hy : y = y1 * 4294967296 + y0) (hy1 : 2147483648 ≤ y1) (hy1' : y1 < 4294967296) (h0 : 0 ≤ y0) (h1 : y0 < 4294967296) (hu0 : 0 ≤ u) (hu : u < y) (hd0 : 0 ≤ d) (hd : d < 4294967296)
include hy hy1 hy1' h0 h1 hu0 hu hd0 hd
theorem div_l0 : ∀ (n : Nat) (p r : Int), 4294967296 - r ≤ 2147483648 * n → 0 ≤ r → r < 4294967296 → r = u - p * y1 → (u * 4294967296 + d) / y ≤ p → p ≤ 8589934592 →
    L79_3 y s y1 y0 u d e p r = L79_2 y s y1 y0 u d e ((u * 4294967296 + d) / y)
  | 0, p, r, hn, hr0, hr1, hr, hq, hp => by omega
  | n + 1, p, r, hn, hr0, hr1, hr, hq, hp => by
    have hpos : 0 < y := by omega
    have q0 : 0 ≤ (u * 4294967296 + d) / y := Int.ediv_nonneg (by omega) (by omega)
    have p0 : 0 ≤ p := by omega
    have w1 : wr .u64 (r + y1) = r + y1 := wu64 (by omega) (by omega)
    have m0 : 0 ≤ p * y0 := mul_nn p0 h0
    have J : (p ≥ 4294967296 ∨ p * y0 > 4294967296 * r + d) → L79_4 y s y1 y0 u d e p r = L79_2 y s y1 y0 u d e ((u * 4294967296 + d) / y) := fun ht => by
      have hdown := dig_down hy hpos hu hd0 hd hr hq ht
      have w2 : wr .u64 (p - 1) = p - 1 := wu64 (by omega) (by omega)
      have hr' : r + y1 = u - (p - 1) * y1 := by rw [Int.sub_mul, Int.one_mul]; omega
      rw [L79_4_eq, w1, w2]
      by_cases c : r + y1 ≥ 4294967296
      · rw [cT c, ← dig_far hy (by omega) h0 h1 hu hd0 hr' c (by omega) hdown]
      · rw [cF c]
        exact div_l0 n (p - 1) (r + y1) (by omega) (by omega) (by omega) hr' hdown (by omega)
    rw [L79_3_eq]
    by_cases c : p ≥ 4294967296
    · rw [cT c]; exact J (.inl c)
    · have m1 := Int.mul_le_mul (show p ≤ 4294967295 by omega) (show y0 ≤ 4294967295 by omega) h0 (by decide)
      have w2 : wr .u64 (p * y0) = p * y0 := wu64 m0 (by omega)
      have w3 : wr .u64 (4294967296 * r) = 4294967296 * r := wu64 (by omega) (by omega)
      have w4 : wr .u64 (4294967296 * r + d) = 4294967296 * r + d := wu64 (by omega) (by omega)
      rw [cF c, w2, w3, w4]
      by_cases k : p * y0 > 4294967296 * r + d
      · rw [cT k]; exact J (.inr k)
      · rw [cF k, ← dig_done hy hpos hr hq (by omega)]
theorem div_l1 (q1 : Int) : ∀ (n : Nat) (p r : Int), 4294967296 - r ≤ 2147483648 * n → 0 ≤ r → r < 4294967296 → r = u - p * y1 → (u * 4294967296 + d) / y ≤ p → p ≤ 8589934592 →
    L79_6 y s y1 y0 d q1 r u p = L79_5 y s d q1 u ((u * 4294967296 + d) / y)
  | 0, p, r, hn, hr0, hr1, hr, hq, hp => by omega
  | n + 1, p, r, hn, hr0, hr1, hr, hq, hp => by
    have hpos : 0 < y := by omega
    have q0 : 0 ≤ (u * 4294967296 + d) / y := Int.ediv_nonneg (by omega) (by omega)
    have p0 : 0 ≤ p := by omega
    have w1 : wr .u64 (r + y1) = r + y1 := wu64 (by omega) (by omega)
    have m0 : 0 ≤ p * y0 := mul_nn p0 h0
    have J : (p ≥ 4294967296 ∨ p * y0 > 4294967296 * r + d) → L79_7 y s y1 y0 d q1 r u p = L79_5 y s d q1 u ((u * 4294967296 + d) / y) := fun ht => by
      have hdown := dig_down hy hpos hu hd0 hd hr hq ht
      have w2 : wr .u64 (p - 1) = p - 1 := wu64 (by omega) (by omega)
      have hr' : r + y1 = u - (p - 1) * y1 := by rw [Int.sub_mul, Int.one_mul]; omega
      rw [L79_7_eq, w1, w2]
      by_cases c : r + y1 ≥ 4294967296
      · rw [cT c, ← dig_far hy (by omega) h0 h1 hu hd0 hr' c (by omega) hdown]
      · rw [cF c]
        exact div_l1 q1 n (p - 1) (r + y1) (by omega) (by omega) (by omega) hr' hdown (by omega)
    rw [L79_6_eq]
    by_cases c : p ≥ 4294967296
    · rw [cT c]; exact J (.inl c)
    · have m1 := Int.mul_le_mul (show p ≤ 4294967295 by omega) (show y0 ≤ 4294967295 by omega) h0 (by decide)
      have w2 : wr .u64 (p * y0) = p * y0 := wu64 m0 (by omega)
      have w3 : wr .u64 (4294967296 * r) = 4294967296 * r := wu64 (by omega) (by omega)
      have w4 : wr .u64 (4294967296 * r + d) = 4294967296 * r + d := wu64 (by omega) (by omega)
      rw [cF c, w2, w3, w4]
      by_cases k : p * y0 > 4294967296 * r + d
      · rw [cT k]; exact J (.inr k)
      · rw [cF k, ← dig_done hy hpos hr hq (by omega)]
end
section
variable {y s y1 y0 u d q1 : Int} (hy : y = y1 * 4294967296 + y0) (hy1 : 2147483648 ≤ y1) (hy1' : y1 < 4294967296) (h0 : 0 ≤ y0) (h1 : y0 < 4294967296) (hu0 : 0 ≤ u) (hu : u < y) (hd0 : 0 ≤ d) (hd : d < 4294967296) (hs : 0 ≤ s) (hq1 : 0 ≤ q1) (hq1' : q1 < 4294967296)
include hy hy1 hy1' h0 h1 hu0 hu hd0 hd hs hq1 hq1'
theorem div_end (p : Int) (hp : p = (u * 4294967296 + d) / y) : IntKind.u64.wrap (IntKind.u64.wrap (q1 * 4294967296) + p) = q1 * 4294967296 + (u * 4294967296 + d) / y ∧
    IntKind.u64.wrap (IntKind.u64.wrap (IntKind.u64.wrap (u * 4294967296) + d) - IntKind.u64.wrap (p * y)) = (u * 4294967296 + d) % y := by
  have hpos : 0 < y := by omega
  have q0 : 0 ≤ (u * 4294967296 + d) / y := Int.ediv_nonneg (by omega) (by omega)
  have q2 := dig_lt hpos hu hd
  have m := Int.mul_ediv_add_emod (u * 4294967296 + d) y
  have r0 := Int.emod_nonneg (u * 4294967296 + d) (show y ≠ 0 by omega)
  have r1 := Int.emod_lt_of_pos (u * 4294967296 + d) hpos
  rw [Int.mul_comm, ← hp] at m
  rw [← hp] at q0 q2 ⊢
  generalize (u * 4294967296 + d) % y = r at *
  generalize p * y = z at *
  refine ⟨?_, ?_⟩
  · rw [wu64 (n := q1 * 4294967296) (by omega) (by omega), wu64 (by omega) (by omega)]
  · simp only [wu64_mod]; omega
end
theorem div64_f {hi lo y : Int} (hh : Word hi) (hl : Word lo) (hy : Word y) (hlt : hi < y) : F79 hi lo y = some (wide hi lo / y, wide hi lo % y) := by
  have hpos : 0 < y := by have := hh.1; omega
  rw [F79_eq, show (y == 0) = false by simp; omega, cond_false, L79_0_eq, cF (by omega), L79_1_eq]
  by_cases c : hi = 0
  · rw [show (hi == 0) = true by simpa using c, cond_true, cF (by omega), cF (by omega)]
    have e : wide hi lo = lo := by unfold wide; omega
    have q0 : 0 ≤ lo / y := Int.ediv_nonneg hl.1 (by omega)
    have q1 : lo / y ≤ lo := Int.ediv_le_self _ hl.1
    rw [e, Int.tdiv_eq_ediv_of_nonneg hl.1, Int.tmod_eq_emod_of_nonneg hl.1, show wr .u64 (lo / y) = lo / y from wu64 q0 (by have := hl.2; omega)]
  · rw [show (hi == 0) = false by simpa using c, cond_false]
    obtain ⟨n, rfl⟩ := Int.eq_ofNat_of_zero_le (Int.le_of_lt hpos)
    obtain ⟨t, t1, ⟨t2, t3, t4⟩, t5⟩ := len_f (x := n) (by have := hy.2; omega)
    obtain ⟨t6, t7⟩ := t3 (by omega)
    have b2 : (n : Int) < 2 ^ t := by exact_mod_cast t2
    have b3 : (2 : Int) ^ (t - 1) ≤ (n : Int) := by exact_mod_cast t7
    have lz : F91 (n : Int) = some (64 - (t : Int)) := by rw [F91_eq, bnd t1, show wr .i64 (64 - (t : Int)) = 64 - (t : Int) from w64 (by omega) (by omega)]
    rw [bnd lz]
    generalize hyn : (n : Int) = y at *
    obtain ⟨sn, hsn⟩ : ∃ sn : Nat, sn = 64 - t := ⟨_, rfl⟩
    have es : wr .u64 (64 - (t : Int)) = (sn : Int) := (wu64 (by omega) (by omega)).trans (by omega)
    have sn63 : sn ≤ 63 := by omega
    have e64 : wr .u64 (64 - (sn : Int)) = ((64 - sn : Nat) : Int) := (wu64 (by omega) (by omega)).trans (by omega)
    rw [es, e64, grd_p (by omega), grd_p (by omega), grd_p (by omega), grd_p (by omega)]
    obtain ⟨P, hP⟩ : ∃ P : Int, P = 2 ^ sn := ⟨_, rfl⟩
    have P0 : 0 < P := hP ▸ p2pos sn
    have hY1 : y * P < 18446744073709551616 := by
      have : (2 : Int) ^ (t + sn) = 2 ^ t * 2 ^ sn := pw_split _ _
      rw [show t + sn = 64 by omega, ← hP] at this
      have g := Int.mul_lt_mul_of_pos_right b2 P0
      omega
    have hY0 : 9223372036854775808 ≤ y * P := by
      have : (2 : Int) ^ (t - 1 + sn) = 2 ^ (t - 1) * 2 ^ sn := pw_split _ _
      rw [show t - 1 + sn = 63 by omega, ← hP] at this
      have g := Int.mul_le_mul_of_nonneg_right b3 (Int.le_of_lt P0)
      omega
    have hP64 : P ≤ 9223372036854775808 := by
      have := Int.mul_le_mul_of_nonneg_right (show 1 ≤ y by omega) (Int.le_of_lt P0)
      rw [hP]; have := (show (2 : Int) ^ sn ≤ 2 ^ 63 from by have := Nat.pow_le_pow_right (n := 2) (by decide) sn63; exact_mod_cast this); omega
    have hPP : (2 : Int) ^ (64 - sn) * P = 18446744073709551616 := by
      rw [hP, ← pw_split, show 64 - sn + sn = 64 by omega]; decide
    obtain ⟨T, hT⟩ : ∃ T : Int, T = 2 ^ (64 - sn) := ⟨_, rfl⟩
    have T0 : 0 < T := hT ▸ p2pos _
    rw [← hT] at hPP
    have hhP : hi * P + P ≤ y * P := by
      have := Int.mul_le_mul_of_nonneg_right (show hi + 1 ≤ y by omega) (Int.le_of_lt P0)
      rw [Int.add_mul, Int.one_mul] at this; omega
    have hhP0 : 0 ≤ hi * P := mul_nn hh.1 (by omega)
    have t0 : 0 ≤ lo / T := Int.ediv_nonneg hl.1 (by omega)
    have t1 : lo / T < P := by
      apply Int.ediv_lt_of_lt_mul T0
      rw [Int.mul_comm, hPP]; exact hl.2
    have ey : shlE IntKind.u64 y (sn : Int) = y * P := by rw [shl_e (by omega), ← hP]; exact Int.emod_eq_of_lt (by omega) hY1
    have eh : shlE IntKind.u64 hi (sn : Int) = hi * P := by rw [shl_e (by omega), ← hP]; exact Int.emod_eq_of_lt hhP0 (by omega)
    have er : shrE IntKind.u64 lo ((64 - sn : Nat) : Int) = lo / T := by rw [shr_e (show _ ≤ IntKind.u64.bits from by show _ ≤ 64; omega), ← hT]
    have eu : orE IntKind.u64 (hi * P) (lo / T) = hi * P + lo / T := or_add sn hhP0 (by rw [← hP]; exact Int.mul_emod_left _ _) (by omega) t0 (by rw [← hP]; exact t1) (by omega)
    obtain ⟨u, hu⟩ : ∃ u, u = hi * P + lo / T := ⟨_, rfl⟩
    obtain ⟨L, hL⟩ : ∃ L, L = lo * P % 18446744073709551616 := ⟨_, rfl⟩
    have el : shlE IntKind.u64 lo (sn : Int) = L := by rw [shl_e (by omega), ← hP, hL]
    have L0 : 0 ≤ L := by rw [hL]; exact Int.emod_nonneg _ (by decide)
    have L1 : L < 18446744073709551616 := by rw [hL]; exact Int.emod_lt_of_pos _ (by decide)
    have hU : wide hi lo * P = u * 18446744073709551616 + L := by
      have z : lo * P / 18446744073709551616 = lo / T := by rw [← hPP]; exact Int.mul_ediv_mul_of_pos_left lo T P0
      have zz := Int.mul_ediv_add_emod (lo * P) 18446744073709551616
      rw [z, ← hL] at zz
      unfold wide; rw [hu, Int.add_mul, Int.mul_right_comm, Int.add_mul]; omega
    obtain ⟨Y, hY⟩ : ∃ Y, Y = y * P := ⟨_, rfl⟩
    rw [← hY] at ey hY0 hY1 hhP
    have u0 : 0 ≤ u := by omega
    have u1 : u < Y := by omega
    have ey0 : andE IntKind.u64 Y 4294967295 = Y % 4294967296 := and32 ⟨by omega, hY1⟩
    have ee : andE IntKind.u64 L 4294967295 = L % 4294967296 := and32 ⟨L0, L1⟩
    have hYs : Y = Y / 4294967296 * 4294967296 + Y % 4294967296 := by omega
    have y1a : 2147483648 ≤ Y / 4294967296 := by omega
    have y1b : Y / 4294967296 < 4294967296 := by omega
    have y0a : 0 ≤ Y % 4294967296 := by omega
    have y0b : Y % 4294967296 < 4294967296 := by omega
    have da : 0 ≤ L / 4294967296 := by omega
    have db : L / 4294967296 < 4294967296 := by omega
    have ea : 0 ≤ L % 4294967296 := by omega
    have eb : L % 4294967296 < 4294967296 := by omega
    have hLs : L = L / 4294967296 * 4294967296 + L % 4294967296 := by omega
    generalize hy1d : Y / 4294967296 = y1 at *
    generalize Y % 4294967296 = y0 at *
    generalize hdd : L / 4294967296 = d at *
    generalize L % 4294967296 = e at *
    have guess : ∀ v : Int, 0 ≤ v → v < Y → 0 ≤ v / y1 ∧ v / y1 ≤ 8589934592 ∧ 0 ≤ v - v / y1 * y1 ∧ v - v / y1 * y1 < 4294967296 ∧ IntKind.u64.wrap (Int.tdiv v y1) = v / y1 ∧ IntKind.u64.wrap (v - IntKind.u64.wrap (v / y1 * y1)) = v - v / y1 * y1 := by
      intro v v0 v1
      have m := Int.mul_ediv_add_emod v y1
      have r0 := Int.emod_nonneg v (show y1 ≠ 0 by omega)
      have r1 := Int.emod_lt_of_pos v (show 0 < y1 by omega)
      have q0 : 0 ≤ v / y1 := Int.ediv_nonneg v0 (by omega)
      have q1 : v / y1 ≤ 8589934592 := by
        apply Int.le_of_lt_add_one
        apply Int.ediv_lt_of_lt_mul (by omega)
        have := Int.mul_le_mul_of_nonneg_left y1a (show (0 : Int) ≤ 8589934592 + 1 by decide)
        omega
      have m2 : v / y1 * y1 = v - v % y1 := by rw [Int.mul_comm]; omega
      have m3 : 0 ≤ v / y1 * y1 := mul_nn q0 (by omega)
      refine ⟨q0, q1, by omega, by omega, ?_, ?_⟩
      · rw [Int.tdiv_eq_ediv_of_nonneg v0]; exact wu64 q0 (by omega)
      · rw [wu64 (n := v / y1 * y1) m3 (by omega)]; exact wu64 (by omega) (by omega)
    obtain ⟨g1, g2, g3, g4, g5, g6⟩ := guess u u0 u1
    have a1 := div_l0 (s := (sn : Int)) (e := e) hYs y1a y1b y0a y0b u0 u1 da db 3 (u / y1) (u - u / y1 * y1) (by omega) g3 g4 rfl (guess_ge hYs (by omega) y0a u0 db da) g2
    obtain ⟨q, hq⟩ : ∃ q, q = (u * 4294967296 + d) / Y := ⟨_, rfl⟩
    obtain ⟨v, hv⟩ : ∃ v, v = (u * 4294967296 + d) % Y := ⟨_, rfl⟩
    have Ypos : 0 < Y := by omega
    have v0 : 0 ≤ v := by rw [hv]; exact Int.emod_nonneg _ (by omega)
    have v1 : v < Y := by rw [hv]; exact Int.emod_lt_of_pos _ Ypos
    have q0 : 0 ≤ q := by rw [hq]; exact Int.ediv_nonneg (by omega) (by omega)
    have q1 : q < 4294967296 := by rw [hq]; exact dig_lt Ypos u1 db
    have m1 := Int.mul_ediv_add_emod (u * 4294967296 + d) Y
    rw [← hq, ← hv] at m1
    obtain ⟨k1, k2, k3, k4, k5, k6⟩ := guess v v0 v1
    have a2 := div_l1 (s := (sn : Int)) hYs y1a y1b y0a y0b v0 v1 ea eb q 3 (v / y1) (v - v / y1 * y1) (by omega) k3 k4 rfl (guess_ge hYs (by omega) y0a v0 eb ea) k2
    have m2 := Int.mul_ediv_add_emod (v * 4294967296 + e) Y
    have r0 := Int.emod_nonneg (v * 4294967296 + e) (show Y ≠ 0 by omega)
    have r1 := Int.emod_lt_of_pos (v * 4294967296 + e) Ypos
    have hall : wide hi lo * P = Y * (q * 4294967296 + (v * 4294967296 + e) / Y) + (v * 4294967296 + e) % Y := by
      rw [hU, Int.mul_add]
      have : Y * (q * 4294967296) = Y * q * 4294967296 := by rw [Int.mul_assoc]
      omega
    have dv : ∀ A r : Int, 0 ≤ r → r < Y → (Y * A + r) / Y = A := fun A r h0 h1 => by rw [Int.add_comm, Int.add_mul_ediv_left _ _ (by omega), Int.ediv_eq_zero_of_lt h0 h1, Int.zero_add]
    have dm : ∀ A r : Int, 0 ≤ r → r < Y → (Y * A + r) % Y = r := fun A r h0 h1 => by rw [Int.add_comm, Int.add_mul_emod_self_left, Int.emod_eq_of_lt h0 h1]
    have fin1 : q * 4294967296 + (v * 4294967296 + e) / Y = wide hi lo / y := by
      rw [← Int.mul_ediv_mul_of_pos_left (wide hi lo) y P0, ← hY, hall, dv _ _ r0 r1]
    have fin2 : (v * 4294967296 + e) % Y = (wide hi lo % y) * P := by
      have z := Int.mul_emod_mul_of_pos (wide hi lo) y P0
      rw [Int.mul_comm P, Int.mul_comm P, ← hY, hall, dm _ _ r0 r1] at z
      rw [z, Int.mul_comm]
    have a3 : shrE IntKind.u64 ((v * 4294967296 + e) % Y) (sn : Int) = wide hi lo % y := by
      rw [shr_e (show _ ≤ IntKind.u64.bits from by show _ ≤ 64; omega), ← hP, fin2, Int.mul_ediv_cancel _ (by omega)]
    have w1 : IntKind.u64.wrap (IntKind.u64.wrap (IntKind.u64.wrap (u * 4294967296) + d) - IntKind.u64.wrap (q * Y)) = v := by
      simp only [wu64_mod]
      rw [Int.mul_comm q Y]
      generalize Y * q = z at *
      omega
    have a4 : L79_2 Y (sn : Int) y1 y0 u d e ((u * 4294967296 + d) / Y) = some (wide hi lo / y, wide hi lo % y) := by
      rw [← hq, L79_2_eq, cF (by omega)]
      have w1' : wr .u64 (wr .u64 (wr .u64 (u * 4294967296) + d) - wr .u64 (q * Y)) = v := w1
      have k5' : wr .u64 (Int.tdiv v y1) = v / y1 := k5
      have k6' : wr .u64 (v - wr .u64 (v / y1 * y1)) = v - v / y1 * y1 := k6
      rw [w1', k5', k6', a2, L79_5_eq, grd_p (by omega)]
      obtain ⟨z1, z2⟩ := div_end (s := (sn : Int)) (q1 := q) hYs y1a y1b y0a y0b v0 v1 ea eb (by omega) q0 q1 ((v * 4294967296 + e) / Y) rfl
      have z1' : wr .u64 (wr .u64 (q * 4294967296) + (v * 4294967296 + e) / Y) = _ := z1
      have z2' : wr .u64 (wr .u64 (wr .u64 (v * 4294967296) + e) - wr .u64 ((v * 4294967296 + e) / Y * Y)) = _ := z2
      rw [z1', z2', a3, fin1]
    have g5' : wr .u64 (Int.tdiv u y1) = u / y1 := g5
    have g6' : wr .u64 (u - wr .u64 (u / y1 * y1)) = u - u / y1 * y1 := g6
    rw [ey, eh, er, eu, ← hu, el, shr32, hy1d, cF (by omega), shr32, hdd, g5', g6', ey0, ee, a1]
    exact a4
end Go.Proofs.YtidiifdiilahdaaDoor.EvN
