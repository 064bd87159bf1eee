/- math/bits.Div64: quotient and rest of a number of two words by a word, digit by digit of 32 bits. Seat Door's numbers. -/
import Derived.Test.YtkpjeihgigmnkaaEvMay
namespace Go.Proofs.Ytkpjeihgigmnkaa.EvN
open Go Go.Proofs.Ytkpjeihgigmnkaa.Ev
set_option linter.unusedVariables false
set_option linter.unusedSimpArgs false
set_option linter.unusedSectionVars false
def Word (x : Int) : Prop := 0 ≤ x ∧ x < 18446744073709551616
def wide (hi lo : Int) : Int := hi * 18446744073709551616 + lo
theorem wraps_u64 (n : Int) (h₀ : 0 ≤ n) (h₁ : n < 2 ^ 64) : IntKind.u64.wrap n = n := wu64 h₀ (by omega)
theorem and32 {x : Int} (h : Word x) : Go.bits .and .u64 x 4294967295 = x % 4294967296 := by
  have := bits_mask .u64 64 (by decide) wraps_u64 32 (by decide) x h.1 (by have := h.2; omega)
  simpa using this
theorem shr32 (x : Int) : shrE IntKind.u64 x 32 = x / 4294967296 := by
  have := shr_e (k := .u64) (x := x) (n := 32) (by decide)
  simpa using this
theorem or_add {x y : Int} (i : Nat) (hx0 : 0 ≤ x) (hx : x % 2 ^ i = 0) (hx1 : x < 18446744073709551616) (hy0 : 0 ≤ y) (hy : y < 2 ^ i) (hy1 : y < 18446744073709551616) : orE IntKind.u64 x y = x + y :=
  bits_join .u64 64 (by decide) wraps_u64 i x y hx0 hx (by omega) hy0 hy (by omega)
theorem pw_split (a b : Nat) : (2 : Int) ^ (a + b) = 2 ^ a * 2 ^ b := Int.pow_add _ _ _
theorem p2pos (i : Nat) : (0 : Int) < 2 ^ i := Int.pow_pos (by decide)
/-- A digit that is at most the true one, and at least it. -/
theorem dig_is {U y q p : Int} (hy : 0 < y) (hq : q = U / y) (h1 : p * y ≤ U) (h2 : q ≤ p) : p = q := by
  have : p ≤ U / y := (Int.le_ediv_iff_mul_le hy).2 h1
  omega
theorem dig_lt {u d y : Int} (hy : 0 < y) (hu : u < y) (hd : d < 4294967296) : (u * 4294967296 + d) / y < 4294967296 := by
  apply Int.ediv_lt_of_lt_mul hy
  have := Int.mul_le_mul_of_nonneg_right (show u + 1 ≤ y by omega) (show (0 : Int) ≤ 4294967296 by decide)
  rw [Int.mul_comm 4294967296 y]; omega
/-- A step of the guess: the test holds. -/
theorem dig_down {u d y y1 y0 p r : Int} (hy : y = y1 * 4294967296 + y0) (hpos : 0 < y) (hu : u < y) (hd0 : 0 ≤ d) (hd : d < 4294967296) (hr : r = u - p * y1) (hq : (u * 4294967296 + d) / y ≤ p)
    (h : p ≥ 4294967296 ∨ p * y0 > 4294967296 * r + d) : (u * 4294967296 + d) / y ≤ p - 1 := by
  have hlt := dig_lt hpos hu hd
  rcases h with h | h
  · omega
  · have e : p * y > u * 4294967296 + d := by
      rw [hy, Int.mul_add, ← Int.mul_assoc]
      have : p * y1 = u - r := by omega
      rw [this]; omega
    have := Int.ediv_lt_of_lt_mul hpos e
    omega
/-- The guess is right: the test doesn't hold. -/
theorem dig_done {u d y y1 y0 p r : Int} (hy : y = y1 * 4294967296 + y0) (hpos : 0 < y) (hr : r = u - p * y1) (hq : (u * 4294967296 + d) / y ≤ p) (h : p * y0 ≤ 4294967296 * r + d) : p = (u * 4294967296 + d) / y := by
  refine dig_is hpos rfl ?_ hq
  rw [hy, Int.mul_add, ← Int.mul_assoc]
  have : p * y1 = u - r := by omega
  rw [this]; omega
/-- The guess is right: its rest is beyond a digit. -/
theorem dig_far {u d y y1 y0 p r : Int} (hy : y = y1 * 4294967296 + y0) (hy1 : 0 < y1) (h0 : 0 ≤ y0) (h1 : y0 < 4294967296) (hu : u < y) (hd0 : 0 ≤ d) (hr : r = u - p * y1) (hr1 : r ≥ 4294967296) (hp : 0 ≤ p) (hq : (u * 4294967296 + d) / y ≤ p) :
    p = (u * 4294967296 + d) / y := by
  have hp1 : p < 4294967296 := by
    rcases Int.lt_or_le p 4294967296 with h | h
    · exact h
    · have := Int.mul_le_mul_of_nonneg_right h (Int.le_of_lt hy1)
      omega
  refine dig_done hy (by have := Int.mul_pos hy1 (show (0 : Int) < 4294967296 by decide); omega) hr hq ?_
  have := Int.mul_le_mul (show p ≤ 4294967296 by omega) (show y0 ≤ 4294967296 by omega) h0 (by decide)
  omega
theorem guess_ge {u d y y1 y0 : Int} (hy : y = y1 * 4294967296 + y0) (hy1 : 0 < y1) (h0 : 0 ≤ y0) (hu0 : 0 ≤ u) (hd : d < 4294967296) (hd0 : 0 ≤ d) : (u * 4294967296 + d) / y ≤ u / y1 := by
  have hpos : 0 < y := by have := Int.mul_pos hy1 (show (0 : Int) < 4294967296 by decide); omega
  apply Int.le_of_lt_add_one
  apply Int.ediv_lt_of_lt_mul hpos
  have e := Int.mul_ediv_add_emod u y1
  have l := Int.emod_lt_of_pos u hy1
  have f : u < y1 * (u / y1 + 1) := by rw [Int.mul_add, Int.mul_one]; omega
  have g : u + 1 ≤ y1 * (u / y1 + 1) := by omega
  have q0 : 0 ≤ u / y1 := Int.ediv_nonneg hu0 (by omega)
  have m := Int.mul_le_mul_of_nonneg_right g (show (0 : Int) ≤ 4294967296 by decide)
  have n : 0 ≤ y0 * (u / y1 + 1) := mul_nn h0 (by omega)
  have k : (u / y1 + 1) * y = y1 * (u / y1 + 1) * 4294967296 + y0 * (u / y1 + 1) := by rw [hy]; generalize u / y1 = z; grind
  rw [k]; omega
section
variable {y s y1 y0 u d e : Int} (hy : y = y1 * 4294967296 + y0) (hy1 : 2147483648 ≤ y1) (hy1' : y1 < 4294967296) (h0 : 0 ≤ y0) (h1 : y0 < 4294967296) (hu0 : 0 ≤ u) (hu : u < y) (hd0 : 0 ≤ d) (hd : d < 4294967296)
include hy hy1 hy1' h0 h1 hu0 hu hd0 hd
end
section
variable {y s y1 y0 u d q1 : Int} (hy : y = y1 * 4294967296 + y0) (hy1 : 2147483648 ≤ y1) (hy1' : y1 < 4294967296) (h0 : 0 ≤ y0) (h1 : y0 < 4294967296) (hu0 : 0 ≤ u) (hu : u < y) (hd0 : 0 ≤ d) (hd : d < 4294967296) (hs : 0 ≤ s) (hq1 : 0 ≤ q1) (hq1' : q1 < 4294967296)
include hy hy1 hy1' h0 h1 hu0 hu hd0 hd hs hq1 hq1'
theorem div_end (p : Int) (hp : p = (u * 4294967296 + d) / y) : IntKind.u64.wrap (IntKind.u64.wrap (q1 * 4294967296) + p) = q1 * 4294967296 + (u * 4294967296 + d) / y ∧
    IntKind.u64.wrap (IntKind.u64.wrap (IntKind.u64.wrap (u * 4294967296) + d) - IntKind.u64.wrap (p * y)) = (u * 4294967296 + d) % y := by
  have hpos : 0 < y := by omega
  have q0 : 0 ≤ (u * 4294967296 + d) / y := Int.ediv_nonneg (by omega) (by omega)
  have q2 := dig_lt hpos hu hd
  have m := Int.mul_ediv_add_emod (u * 4294967296 + d) y
  have r0 := Int.emod_nonneg (u * 4294967296 + d) (show y ≠ 0 by omega)
  have r1 := Int.emod_lt_of_pos (u * 4294967296 + d) hpos
  rw [Int.mul_comm, ← hp] at m
  rw [← hp] at q0 q2 ⊢
  generalize (u * 4294967296 + d) % y = r at *
  generalize p * y = z at *
  refine ⟨?_, ?_⟩
  · rw [wu64 (n := q1 * 4294967296) (by omega) (by omega), wu64 (by omega) (by omega)]
  · simp only [wu64_mod]; omega
end
end Go.Proofs.Ytkpjeihgigmnkaa.EvN
