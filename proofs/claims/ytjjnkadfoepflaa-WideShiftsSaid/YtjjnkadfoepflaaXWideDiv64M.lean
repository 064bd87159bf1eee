/- math/bits.Div64: quotient and rest of a number of two words by a word, digit by digit of 32 bits. -/
import Derived.Test.YtjjnkadfoepflaaXWideWideA
import Derived.Test.YtjjnkadfoepflaaXWideWideB
import Derived.Test.YtjjnkadfoepflaaXWidex2

namespace Go.Proofs.Ytjjnkadfoepflaa.XWide
open Go.RowKit Go.Proofs.Ytjjnkadfoepflaa.XM Go.Proofs.Ytjjnkadfoepflaa.NumM Go.Proofs.YtjjnkadfoepflaaW.PrintWords Go.Proofs.YtjjnkadfoepflaaW.PrintLast Go.Proofs.YtjjnkadfoepflaaW.PrintMore
set_option linter.unusedVariables false
set_option linter.unusedSectionVars false

/-- A digit that is at most the true one, and at least it. -/
theorem dig_is {U y q p : Int} (hy : 0 < y) (hq : q = U / y) (h1 : p * y ≤ U) (h2 : q ≤ p) : p = q := by
  have : p ≤ U / y := (Int.le_ediv_iff_mul_le hy).2 h1
  omega
theorem dig_lt {u d y : Int} (hy : 0 < y) (hu : u < y) (hd : d < 4294967296) : (u * 4294967296 + d) / y < 4294967296 := by
  apply Int.ediv_lt_of_lt_mul hy
  have := Int.mul_le_mul_of_nonneg_right (show u + 1 ≤ y by omega) (show (0 : Int) ≤ 4294967296 by decide)
  rw [Int.mul_comm 4294967296 y]; omega
/-- A step of the guess: the test holds. -/
theorem dig_down {u d y y1 y0 p r : Int} (hy : y = y1 * 4294967296 + y0) (hpos : 0 < y) (hu : u < y) (hd0 : 0 ≤ d) (hd : d < 4294967296) (hr : r = u - p * y1) (hq : (u * 4294967296 + d) / y ≤ p)
    (h : p ≥ 4294967296 ∨ p * y0 > 4294967296 * r + d) : (u * 4294967296 + d) / y ≤ p - 1 := by
  have hlt := dig_lt hpos hu hd
  rcases h with h | h
  · omega
  · have e : p * y > u * 4294967296 + d := by
      rw [hy, Int.mul_add, ← Int.mul_assoc]
      have : p * y1 = u - r := by omega
      rw [this]; omega
    have := Int.ediv_lt_of_lt_mul hpos e
    omega
/-- The guess is right: the test doesn't hold. -/
theorem dig_done {u d y y1 y0 p r : Int} (hy : y = y1 * 4294967296 + y0) (hpos : 0 < y) (hr : r = u - p * y1) (hq : (u * 4294967296 + d) / y ≤ p) (h : p * y0 ≤ 4294967296 * r + d) : p = (u * 4294967296 + d) / y := by
  refine dig_is hpos rfl ?_ hq
  rw [hy, Int.mul_add, ← Int.mul_assoc]
  have : p * y1 = u - r := by omega
  rw [this]; omega
/-- The guess is right: its rest is beyond a digit. -/
theorem dig_far {u d y y1 y0 p r : Int} (hy : y = y1 * 4294967296 + y0) (hy1 : 0 < y1) (h0 : 0 ≤ y0) (h1 : y0 < 4294967296) (hu : u < y) (hd0 : 0 ≤ d) (hr : r = u - p * y1) (hr1 : r ≥ 4294967296) (hp : 0 ≤ p) (hq : (u * 4294967296 + d) / y ≤ p) :
    p = (u * 4294967296 + d) / y := by
  have hp1 : p < 4294967296 := by
    rcases Int.lt_or_le p 4294967296 with h | h
    · exact h
    · have := Int.mul_le_mul_of_nonneg_right h (Int.le_of_lt hy1)
      omega
  refine dig_done hy (by have := Int.mul_pos hy1 (show (0 : Int) < 4294967296 by decide); omega) hr hq ?_
  have := Int.mul_le_mul (show p ≤ 4294967296 by omega) (show y0 ≤ 4294967296 by omega) h0 (by decide)
  omega
theorem guess_ge {u d y y1 y0 : Int} (hy : y = y1 * 4294967296 + y0) (hy1 : 0 < y1) (h0 : 0 ≤ y0) (hu0 : 0 ≤ u) (hd : d < 4294967296) (hd0 : 0 ≤ d) : (u * 4294967296 + d) / y ≤ u / y1 := by
  have hpos : 0 < y := by have := Int.mul_pos hy1 (show (0 : Int) < 4294967296 by decide); omega
  apply Int.le_of_lt_add_one
  apply Int.ediv_lt_of_lt_mul hpos
  have e := Int.mul_ediv_add_emod u y1
  have l := Int.emod_lt_of_pos u hy1
  have f : u < y1 * (u / y1 + 1) := by rw [Int.mul_add, Int.mul_one]; omega
  have g : u + 1 ≤ y1 * (u / y1 + 1) := by omega
  have q0 : 0 ≤ u / y1 := Int.ediv_nonneg hu0 (by omega)
  have m := Int.mul_le_mul_of_nonneg_right g (show (0 : Int) ≤ 4294967296 by decide)
  have n : 0 ≤ y0 * (u / y1 + 1) := mul_nn h0 (by omega)
  have k : (u / y1 + 1) * y = y1 * (u / y1 + 1) * 4294967296 + y0 * (u / y1 + 1) := by rw [hy]; generalize u / y1 = z; grind
  rw [k]; omega

/-! ### the loops -/
section
variable {y s y1 y0 u d e : Int} (hy : y = y1 * 4294967296 + y0) (hy1 : 2147483648 ≤ y1) (hy1' : y1 < 4294967296) (h0 : 0 ≤ y0) (h1 : y0 < 4294967296) (hu0 : 0 ≤ u) (hu : u < y) (hd0 : 0 ≤ d) (hd : d < 4294967296)
include hy hy1 hy1' h0 h1 hu0 hu hd0 hd
theorem div_l0 : ∀ (n : Nat) (p r : Int), 4294967296 - r ≤ 2147483648 * n → 0 ≤ r → r < 4294967296 → r = u - p * y1 → (u * 4294967296 + d) / y ≤ p → p ≤ 8589934592 →
    ∀ a, Ev (fun k => bits_Div64.j2 k y s y1 y0 u d e ((u * 4294967296 + d) / y)) a → Ev (fun k => bits_Div64.l0 k y s y1 y0 u d e p r) a
  | 0, p, r, hn, hr0, hr1, hr, hq, hp, a, ha => by omega
  | n + 1, p, r, hn, hr0, hr1, hr, hq, hp, a, ha => by
    have hpos : 0 < y := by omega
    have q0 : 0 ≤ (u * 4294967296 + d) / y := Int.ediv_nonneg (by omega) (by omega)
    have p0 : 0 ≤ p := by omega
    have key : ∀ t : Bool, (t = true ↔ (p ≥ 4294967296 ∨ p * y0 > 4294967296 * r + d)) → Ev (fun k => bits_Div64.j1 k y s y1 y0 u d e p r t) a := by
      intro t ht
      cases t with
      | true =>
        have hdown := dig_down hy hpos hu hd0 hd hr hq (ht.1 rfl)
        have w1 : IntKind.u64.wrap (r + y1) = r + y1 := wu64 (by omega) (by omega)
        have w2 : IntKind.u64.wrap (p - 1) = p - 1 := wu64 (by omega) (by omega)
        have hr' : r + y1 = u - (p - 1) * y1 := by rw [Int.sub_mul, Int.one_mul]; omega
        by_cases c : r + y1 ≥ 4294967296
        · have := dig_far hy (by omega) h0 h1 hu hd0 hr' c (by omega) hdown
          refine Ev.step (fun k => ?_) ha
          rw [bits_Div64.j1, if_pos rfl, w1, if_pos c, w2, this]
        · have ih := div_l0 n (p - 1) (r + y1) (by omega) (by omega) (by omega) hr' hdown (by omega) a ha
          refine Ev.step (fun k => ?_) ih
          rw [bits_Div64.j1, if_pos rfl, w1, if_neg c, w2]
      | false =>
        have hn2 : ¬ (p ≥ 4294967296 ∨ p * y0 > 4294967296 * r + d) := fun z => by have := ht.2 z; cases this
        have := dig_done hy hpos hr hq (by omega)
        refine Ev.step (fun k => ?_) ha
        rw [bits_Div64.j1, if_neg (by decide), this]
    by_cases c : p ≥ 4294967296
    · refine Ev.step (fun k => ?_) (key true ⟨fun _ => .inl c, fun _ => rfl⟩)
      rw [bits_Div64.l0, if_pos c]
    · have m0 : 0 ≤ p * y0 := mul_nn p0 h0
      have m1 := Int.mul_le_mul (show p ≤ 4294967295 by omega) (show y0 ≤ 4294967295 by omega) h0 (by decide)
      have w1 : IntKind.u64.wrap (p * y0) = p * y0 := wu64 m0 (by omega)
      have w2 : IntKind.u64.wrap (4294967296 * r) = 4294967296 * r := wu64 (by omega) (by omega)
      have w3 : IntKind.u64.wrap (4294967296 * r + d) = 4294967296 * r + d := wu64 (by omega) (by omega)
      refine Ev.step (fun k => ?_) (key (decide (p * y0 > 4294967296 * r + d)) ⟨fun z => .inr (of_decide_eq_true z), fun z => by rcases z with z | z; exact absurd z c; exact decide_eq_true z⟩)
      rw [bits_Div64.l0, if_neg c, w1, w2, w3]
end
section
variable {y s y1 y0 u d q1 : Int} (hy : y = y1 * 4294967296 + y0) (hy1 : 2147483648 ≤ y1) (hy1' : y1 < 4294967296) (h0 : 0 ≤ y0) (h1 : y0 < 4294967296) (hu0 : 0 ≤ u) (hu : u < y) (hd0 : 0 ≤ d) (hd : d < 4294967296) (hs : 0 ≤ s) (hq1 : 0 ≤ q1) (hq1' : q1 < 4294967296)
include hy hy1 hy1' h0 h1 hu0 hu hd0 hd hs hq1 hq1'
theorem div_end (p : Int) (hp : p = (u * 4294967296 + d) / y) : IntKind.u64.wrap (IntKind.u64.wrap (q1 * 4294967296) + p) = q1 * 4294967296 + (u * 4294967296 + d) / y ∧
    IntKind.u64.wrap (IntKind.u64.wrap (IntKind.u64.wrap (u * 4294967296) + d) - IntKind.u64.wrap (p * y)) = (u * 4294967296 + d) % y := by
  have hpos : 0 < y := by omega
  have q0 : 0 ≤ (u * 4294967296 + d) / y := Int.ediv_nonneg (by omega) (by omega)
  have q2 := dig_lt hpos hu hd
  have m := Int.mul_ediv_add_emod (u * 4294967296 + d) y
  have r0 := Int.emod_nonneg (u * 4294967296 + d) (show y ≠ 0 by omega)
  have r1 := Int.emod_lt_of_pos (u * 4294967296 + d) hpos
  rw [Int.mul_comm, ← hp] at m
  rw [← hp] at q0 q2 ⊢
  generalize (u * 4294967296 + d) % y = r at *
  generalize p * y = z at *
  refine ⟨?_, ?_⟩
  · rw [wu64 (n := q1 * 4294967296) (by omega) (by omega), wu64 (by omega) (by omega)]
  · simp only [wu64_mod]; omega
theorem div_l1 : ∀ (n : Nat) (p r : Int), 4294967296 - r ≤ 2147483648 * n → 0 ≤ r → r < 4294967296 → r = u - p * y1 → (u * 4294967296 + d) / y ≤ p → p ≤ 8589934592 →
    Ev (fun k => bits_Div64.l1 k y s y1 y0 d q1 r u p) (q1 * 4294967296 + (u * 4294967296 + d) / y, shr .u64 ((u * 4294967296 + d) % y) s)
  | 0, p, r, hn, hr0, hr1, hr, hq, hp => by omega
  | n + 1, p, r, hn, hr0, hr1, hr, hq, hp => by
    have hpos : 0 < y := by omega
    have q0 : 0 ≤ (u * 4294967296 + d) / y := Int.ediv_nonneg (by omega) (by omega)
    have p0 : 0 ≤ p := by omega
    have key : ∀ t : Bool, (t = true ↔ (p ≥ 4294967296 ∨ p * y0 > 4294967296 * r + d)) → Ev (fun k => bits_Div64.j4 k y s y1 y0 d q1 r u p t) (q1 * 4294967296 + (u * 4294967296 + d) / y, shr .u64 ((u * 4294967296 + d) % y) s) := by
      intro t ht
      cases t with
      | true =>
        have hdown := dig_down hy hpos hu hd0 hd hr hq (ht.1 rfl)
        have w1 : IntKind.u64.wrap (r + y1) = r + y1 := wu64 (by omega) (by omega)
        have w2 : IntKind.u64.wrap (p - 1) = p - 1 := wu64 (by omega) (by omega)
        have hr' : r + y1 = u - (p - 1) * y1 := by rw [Int.sub_mul, Int.one_mul]; omega
        by_cases c : r + y1 ≥ 4294967296
        · have hf := dig_far hy (by omega) h0 h1 hu hd0 hr' c (by omega) hdown
          obtain ⟨e1, e2⟩ := div_end hy hy1 hy1' h0 h1 hu0 hu hd0 hd hs hq1 hq1' (p - 1) hf
          refine Ev.step (f := fun _ => some (q1 * 4294967296 + (u * 4294967296 + d) / y, shr .u64 ((u * 4294967296 + d) % y) s)) (fun k => ?_) (Ev.now _)
          rw [bits_Div64.j4, if_pos rfl, w1, if_pos c, if_pos hs, w2, e1, e2]
        · have ih := div_l1 n (p - 1) (r + y1) (by omega) (by omega) (by omega) hr' hdown (by omega)
          refine Ev.step (fun k => ?_) ih
          rw [bits_Div64.j4, if_pos rfl, w1, if_neg c, w2]
      | false =>
        have hn2 : ¬ (p ≥ 4294967296 ∨ p * y0 > 4294967296 * r + d) := fun z => by have := ht.2 z; cases this
        have hf := dig_done hy hpos hr hq (by omega)
        obtain ⟨e1, e2⟩ := div_end hy hy1 hy1' h0 h1 hu0 hu hd0 hd hs hq1 hq1' p hf
        refine Ev.step (f := fun _ => some (q1 * 4294967296 + (u * 4294967296 + d) / y, shr .u64 ((u * 4294967296 + d) % y) s)) (fun k => ?_) (Ev.now _)
        rw [bits_Div64.j4, if_neg (by decide), if_pos hs, e1, e2]
    by_cases c : p ≥ 4294967296
    · refine Ev.step (fun k => ?_) (key true ⟨fun _ => .inl c, fun _ => rfl⟩)
      rw [bits_Div64.l1, if_pos c]
    · have m0 : 0 ≤ p * y0 := mul_nn p0 h0
      have m1 := Int.mul_le_mul (show p ≤ 4294967295 by omega) (show y0 ≤ 4294967295 by omega) h0 (by decide)
      have w1 : IntKind.u64.wrap (p * y0) = p * y0 := wu64 m0 (by omega)
      have w2 : IntKind.u64.wrap (4294967296 * r) = 4294967296 * r := wu64 (by omega) (by omega)
      have w3 : IntKind.u64.wrap (4294967296 * r + d) = 4294967296 * r + d := wu64 (by omega) (by omega)
      refine Ev.step (fun k => ?_) (key (decide (p * y0 > 4294967296 * r + d)) ⟨fun z => .inr (of_decide_eq_true z), fun z => by rcases z with z | z; exact absurd z c; exact decide_eq_true z⟩)
      rw [bits_Div64.l1, if_neg c, w1, w2, w3]
end

/-! ### the whole -/
theorem lz_ev {y : Int} (h : Word y) : Ev (fun k => bits_LeadingZeros64.f k y) (64 - bl y) := by
  unfold bits_LeadingZeros64.f
  refine Ev.bind (len_ev h) (Ev.some ?_)
  have b := bl_le (n := y) 64 (by have := h.2; omega)
  have b0 := bl_nn y
  exact w64 (by omega) (by omega)

theorem bl_ge {n : Int} (h : 0 < n) : 2 ^ (bl n - 1).toNat ≤ n := by
  obtain ⟨m, rfl⟩ := Int.eq_ofNat_of_zero_le (Int.le_of_lt h)
  unfold bl
  rw [if_neg (by omega)]
  simp only [Int.toNat_natCast]
  rw [show ((Nat.log2 m : Int) + 1 - 1).toNat = Nat.log2 m by omega]
  have := Nat.log2_self_le (n := m) (by omega)
  exact_mod_cast this
theorem pw_split (a b : Nat) : (2 : Int) ^ (a + b) = 2 ^ a * 2 ^ b := Int.pow_add _ _ _
theorem p2pos (i : Nat) : (0 : Int) < 2 ^ i := Int.pow_pos (by decide)
theorem shl_nat (x : Int) (n : Nat) (hn : n ≤ 64) : shl .u64 x (n : Int) = (x * 2 ^ n) % 18446744073709551616 := by
  unfold shl; rw [show (min ((n : Int).toNat) (IntKind.u64.bits)) = n from by simp [IntKind.bits]; omega, wu64_mod]
theorem shr_nat (x : Int) (n : Nat) (hn : n ≤ 64) : shr .u64 x (n : Int) = x / 2 ^ n := by
  unfold shr; rw [show (min ((n : Int).toNat) (IntKind.u64.bits)) = n from by simp [IntKind.bits]; omega]

theorem div64_ev {hi lo y : Int} (hh : Word hi) (hl : Word lo) (hy : Word y) (hlt : hi < y) : Ev (fun k => bits_Div64.f k hi lo y) (wide hi lo / y, wide hi lo % y) := by
  have hpos : 0 < y := by have := hh.1; omega
  unfold bits_Div64.f
  simp only [if_neg (show ¬ y = 0 by omega), if_neg (show ¬ y ≤ hi by omega)]
  by_cases c : hi = 0
  · simp only [if_pos c]
    have e : wide hi lo = lo := by unfold wide; omega
    have q0 : 0 ≤ lo / y := Int.ediv_nonneg hl.1 (by omega)
    have q1 : lo / y ≤ lo := Int.ediv_le_self _ hl.1
    rw [e, Int.tdiv_eq_ediv_of_nonneg hl.1, Int.tmod_eq_emod_of_nonneg hl.1, wu64 q0 (by have := hl.2; omega)]
    exact Ev.now _
  · simp only [if_neg c]
    refine Ev.bind (lz_ev hy) ?_
    have b1 := bl_le (n := y) 64 (by have := hy.2; omega)
    have b2 := bl_lt (Int.le_of_lt hpos)
    have b3 := bl_ge hpos
    have b4 : 1 ≤ bl y := by unfold bl; rw [if_neg (by omega)]; omega
    obtain ⟨sn, hsn⟩ : ∃ sn : Nat, sn = (64 - bl y).toNat := ⟨_, rfl⟩
    have es : IntKind.u64.wrap (64 - bl y) = (sn : Int) := by rw [wu64 (by omega) (by omega)]; omega
    have sn63 : sn ≤ 63 := by omega
    have e64 : IntKind.u64.wrap (64 - (sn : Int)) = ((64 - sn : Nat) : Int) := by rw [wu64 (by omega) (by omega)]; omega
    obtain ⟨P, hP⟩ : ∃ P : Int, P = 2 ^ sn := ⟨_, rfl⟩
    have P0 : 0 < P := hP ▸ p2pos sn
    have hY1 : y * P < 18446744073709551616 := by
      have : (2 : Int) ^ ((bl y).toNat + sn) = 2 ^ (bl y).toNat * 2 ^ sn := pw_split _ _
      rw [show (bl y).toNat + sn = 64 by omega, ← hP] at this
      have g := Int.mul_lt_mul_of_pos_right b2 P0
      omega
    have hY0 : 9223372036854775808 ≤ y * P := by
      have : (2 : Int) ^ ((bl y - 1).toNat + sn) = 2 ^ (bl y - 1).toNat * 2 ^ sn := pw_split _ _
      rw [show (bl y - 1).toNat + sn = 63 by omega, ← hP] at this
      have g := Int.mul_le_mul_of_nonneg_right b3 (Int.le_of_lt P0)
      omega
    have hP64 : P ≤ 9223372036854775808 := by
      have := Int.mul_le_mul_of_nonneg_right (show 1 ≤ y by omega) (Int.le_of_lt P0)
      rw [hP]; have := (show (2 : Int) ^ sn ≤ 2 ^ 63 from by have := Nat.pow_le_pow_right (n := 2) (by decide) sn63; exact_mod_cast this); omega
    have hPP : (2 : Int) ^ (64 - sn) * P = 18446744073709551616 := by
      rw [hP, ← pw_split, show 64 - sn + sn = 64 by omega]; decide
    obtain ⟨T, hT⟩ : ∃ T : Int, T = 2 ^ (64 - sn) := ⟨_, rfl⟩
    have T0 : 0 < T := hT ▸ p2pos _
    rw [← hT] at hPP
    have hhP : hi * P + P ≤ y * P := by
      have := Int.mul_le_mul_of_nonneg_right (show hi + 1 ≤ y by omega) (Int.le_of_lt P0)
      rw [Int.add_mul, Int.one_mul] at this; omega
    have hhP0 : 0 ≤ hi * P := mul_nn hh.1 (by omega)
    have t0 : 0 ≤ lo / T := Int.ediv_nonneg hl.1 (by omega)
    have t1 : lo / T < P := by
      apply Int.ediv_lt_of_lt_mul T0
      rw [Int.mul_comm, hPP]; exact hl.2
    have ey : shl .u64 y (sn : Int) = y * P := by rw [shl_nat _ _ (by omega), ← hP]; exact Int.emod_eq_of_lt (by omega) hY1
    have eh : shl .u64 hi (sn : Int) = hi * P := by rw [shl_nat _ _ (by omega), ← hP]; exact Int.emod_eq_of_lt hhP0 (by omega)
    have er : shr .u64 lo ((64 - sn : Nat) : Int) = lo / T := by rw [shr_nat _ _ (by omega), ← hT]
    have eu : Go.bits .or .u64 (hi * P) (lo / T) = hi * P + lo / T := or_add sn hhP0 (by rw [← hP]; exact Int.mul_emod_left _ _) (by omega) t0 (by rw [← hP]; exact t1) (by omega)
    obtain ⟨u, hu⟩ : ∃ u, u = hi * P + lo / T := ⟨_, rfl⟩
    obtain ⟨L, hL⟩ : ∃ L, L = lo * P % 18446744073709551616 := ⟨_, rfl⟩
    have el : shl .u64 lo (sn : Int) = L := by rw [shl_nat _ _ (by omega), ← hP, hL]
    have L0 : 0 ≤ L := by rw [hL]; exact Int.emod_nonneg _ (by decide)
    have L1 : L < 18446744073709551616 := by rw [hL]; exact Int.emod_lt_of_pos _ (by decide)
    have hU : wide hi lo * P = u * 18446744073709551616 + L := by
      have z : lo * P / 18446744073709551616 = lo / T := by rw [← hPP]; exact Int.mul_ediv_mul_of_pos_left lo T P0
      have zz := Int.mul_ediv_add_emod (lo * P) 18446744073709551616
      rw [z, ← hL] at zz
      unfold wide; rw [hu, Int.add_mul, Int.mul_right_comm, Int.add_mul]; omega
    obtain ⟨Y, hY⟩ : ∃ Y, Y = y * P := ⟨_, rfl⟩
    rw [← hY] at ey hY0 hY1 hhP
    have u0 : 0 ≤ u := by omega
    have u1 : u < Y := by omega
    have ey0 : Go.bits .and .u64 Y 4294967295 = Y % 4294967296 := and32 ⟨by omega, hY1⟩
    have ee : Go.bits .and .u64 L 4294967295 = L % 4294967296 := and32 ⟨L0, L1⟩
    have hYs : Y = Y / 4294967296 * 4294967296 + Y % 4294967296 := by omega
    have y1a : 2147483648 ≤ Y / 4294967296 := by omega
    have y1b : Y / 4294967296 < 4294967296 := by omega
    have y0a : 0 ≤ Y % 4294967296 := by omega
    have y0b : Y % 4294967296 < 4294967296 := by omega
    have da : 0 ≤ L / 4294967296 := by omega
    have db : L / 4294967296 < 4294967296 := by omega
    have ea : 0 ≤ L % 4294967296 := by omega
    have eb : L % 4294967296 < 4294967296 := by omega
    have hLs : L = L / 4294967296 * 4294967296 + L % 4294967296 := by omega
    generalize hy1d : Y / 4294967296 = y1 at *
    generalize Y % 4294967296 = y0 at *
    generalize hdd : L / 4294967296 = d at *
    generalize L % 4294967296 = e at *
    have guess : ∀ v : Int, 0 ≤ v → v < Y → 0 ≤ v / y1 ∧ v / y1 ≤ 8589934592 ∧ 0 ≤ v - v / y1 * y1 ∧ v - v / y1 * y1 < 4294967296 ∧ IntKind.u64.wrap (Int.tdiv v y1) = v / y1 ∧ IntKind.u64.wrap (v - IntKind.u64.wrap (v / y1 * y1)) = v - v / y1 * y1 := by
      intro v v0 v1
      have m := Int.mul_ediv_add_emod v y1
      have r0 := Int.emod_nonneg v (show y1 ≠ 0 by omega)
      have r1 := Int.emod_lt_of_pos v (show 0 < y1 by omega)
      have q0 : 0 ≤ v / y1 := Int.ediv_nonneg v0 (by omega)
      have q1 : v / y1 ≤ 8589934592 := by
        apply Int.le_of_lt_add_one
        apply Int.ediv_lt_of_lt_mul (by omega)
        have := Int.mul_le_mul_of_nonneg_left y1a (show (0 : Int) ≤ 8589934592 + 1 by decide)
        omega
      have m2 : v / y1 * y1 = v - v % y1 := by rw [Int.mul_comm]; omega
      have m3 : 0 ≤ v / y1 * y1 := mul_nn q0 (by omega)
      refine ⟨q0, q1, by omega, by omega, ?_, ?_⟩
      · rw [Int.tdiv_eq_ediv_of_nonneg v0]; exact wu64 q0 (by omega)
      · rw [wu64 (n := v / y1 * y1) m3 (by omega)]; exact wu64 (by omega) (by omega)
    obtain ⟨g1, g2, g3, g4, g5, g6⟩ := guess u u0 u1
    have a1 := div_l0 (s := (sn : Int)) (e := e) hYs y1a y1b y0a y0b u0 u1 da db 3 (u / y1) (u - u / y1 * y1) (by omega) g3 g4 rfl (guess_ge hYs (by omega) y0a u0 db da) g2
    obtain ⟨q, hq⟩ : ∃ q, q = (u * 4294967296 + d) / Y := ⟨_, rfl⟩
    obtain ⟨v, hv⟩ : ∃ v, v = (u * 4294967296 + d) % Y := ⟨_, rfl⟩
    have Ypos : 0 < Y := by omega
    have v0 : 0 ≤ v := by rw [hv]; exact Int.emod_nonneg _ (by omega)
    have v1 : v < Y := by rw [hv]; exact Int.emod_lt_of_pos _ Ypos
    have q0 : 0 ≤ q := by rw [hq]; exact Int.ediv_nonneg (by omega) (by omega)
    have q1 : q < 4294967296 := by rw [hq]; exact dig_lt Ypos u1 db
    have m1 := Int.mul_ediv_add_emod (u * 4294967296 + d) Y
    rw [← hq, ← hv] at m1
    obtain ⟨k1, k2, k3, k4, k5, k6⟩ := guess v v0 v1
    have a2 := div_l1 (s := (sn : Int)) (q1 := q) hYs y1a y1b y0a y0b v0 v1 ea eb (by omega) q0 q1 3 (v / y1) (v - v / y1 * y1) (by omega) k3 k4 rfl (guess_ge hYs (by omega) y0a v0 eb ea) k2
    have m2 := Int.mul_ediv_add_emod (v * 4294967296 + e) Y
    have r0 := Int.emod_nonneg (v * 4294967296 + e) (show Y ≠ 0 by omega)
    have r1 := Int.emod_lt_of_pos (v * 4294967296 + e) Ypos
    have hall : wide hi lo * P = Y * (q * 4294967296 + (v * 4294967296 + e) / Y) + (v * 4294967296 + e) % Y := by
      rw [hU, Int.mul_add]
      have : Y * (q * 4294967296) = Y * q * 4294967296 := by rw [Int.mul_assoc]
      omega
    have dv : ∀ A r : Int, 0 ≤ r → r < Y → (Y * A + r) / Y = A := fun A r h0 h1 => by rw [Int.add_comm, Int.add_mul_ediv_left _ _ (by omega), Int.ediv_eq_zero_of_lt h0 h1, Int.zero_add]
    have dm : ∀ A r : Int, 0 ≤ r → r < Y → (Y * A + r) % Y = r := fun A r h0 h1 => by rw [Int.add_comm, Int.add_mul_emod_self_left, Int.emod_eq_of_lt h0 h1]
    have fin1 : q * 4294967296 + (v * 4294967296 + e) / Y = wide hi lo / y := by
      rw [← Int.mul_ediv_mul_of_pos_left (wide hi lo) y P0, ← hY, hall, dv _ _ r0 r1]
    have fin2 : (v * 4294967296 + e) % Y = (wide hi lo % y) * P := by
      have z := Int.mul_emod_mul_of_pos (wide hi lo) y P0
      rw [Int.mul_comm P, Int.mul_comm P, ← hY, hall, dm _ _ r0 r1] at z
      rw [z, Int.mul_comm]
    have a3 : shr .u64 ((v * 4294967296 + e) % Y) (sn : Int) = wide hi lo % y := by
      rw [shr_nat _ _ (by omega), ← hP, fin2, Int.mul_ediv_cancel _ (by omega)]
    rw [fin1, a3] at a2
    have w1 : IntKind.u64.wrap (IntKind.u64.wrap (IntKind.u64.wrap (u * 4294967296) + d) - IntKind.u64.wrap (q * Y)) = v := by
      simp only [wu64_mod]
      rw [Int.mul_comm q Y]
      generalize Y * q = z at *
      omega
    have a4 := a1 (wide hi lo / y, wide hi lo % y) (by
      rw [← hq]
      refine Ev.step (fun k => ?_) a2
      rw [bits_Div64.j2, if_neg (by omega), w1, k5, k6])
    refine Ev.congr (fun k => ?_) a4
    rw [es, if_pos (by omega), e64, if_pos (by omega), ey, eh, er, eu, ← hu, el, if_neg (by omega), hy1d, hdd, g5, g6, ey0, ee]

theorem wdiv_ev {h l n : Int} (hh : Word h) (hl : Word l) (hn : Word n) : Ev (fun k => wide_Div.f k h l n) (if n = 0 then (0, 0, 0, 13) else (hi_ (wide h l / n), lo_ (wide h l / n), wide h l % n, 0)) := by
  unfold wide_Div.f
  by_cases c : n = 0
  · simp only [if_pos c]; exact Ev.now _
  · simp only [if_neg c]
    have hpos : 0 < n := by have := hn.1; omega
    have r0 := Int.emod_nonneg h c
    have r1 := Int.emod_lt_of_pos h hpos
    have q0 : 0 ≤ h / n := Int.ediv_nonneg hh.1 (by omega)
    have q1 : h / n ≤ h := Int.ediv_le_self _ hh.1
    have m := Int.mul_ediv_add_emod h n
    rw [Int.tmod_eq_emod_of_nonneg hh.1, Int.tdiv_eq_ediv_of_nonneg hh.1, wu64 q0 (by have := hh.2; omega)]
    refine Ev.bind (div64_ev ⟨r0, by have := hn.2; omega⟩ hl hn r1) (Ev.some ?_)
    have e : wide h l = n * (h / n * 18446744073709551616) + wide (h % n) l := by unfold wide; rw [← Int.mul_assoc]; omega
    have w0 : 0 ≤ wide (h % n) l := by unfold wide; have := hl.1; omega
    have e1 : wide h l / n = h / n * 18446744073709551616 + wide (h % n) l / n := by
      have z := Int.add_mul_ediv_left (wide (h % n) l) (h / n * 18446744073709551616) c
      rw [e, Int.add_comm (n * (h / n * 18446744073709551616)), z, Int.add_comm]
    have e2 : wide h l % n = wide (h % n) l % n := by rw [e, Int.add_comm, Int.add_mul_emod_self_left]
    have b0 : 0 ≤ wide (h % n) l / n := Int.ediv_nonneg w0 (by omega)
    have b1 : wide (h % n) l / n < 18446744073709551616 := by
      apply Int.ediv_lt_of_lt_mul hpos
      have := Int.mul_le_mul_of_nonneg_right (show h % n + 1 ≤ n by omega) (show (0 : Int) ≤ 18446744073709551616 by decide)
      unfold wide; have := hl.2; rw [Int.mul_comm 18446744073709551616 n]; omega
    rw [e1, e2]
    simp only [hi_, lo_, Prod.mk.injEq]
    have f1 : (h / n * 18446744073709551616 + wide (h % n) l / n) / 18446744073709551616 = h / n := by omega
    have f2 : (h / n * 18446744073709551616 + wide (h % n) l / n) % 18446744073709551616 = wide (h % n) l / n := by omega
    rw [f1, f2]
    simp

end Go.Proofs.Ytjjnkadfoepflaa.XWide
