/- What layer 1 answers: products, sums, comparison of numbers of two words. -/
import Derived.Test.YtkpjeihgigmnkaaEvG
import Derived.Test.YtkpjeihgigmnkaaEvM
import Derived.Lib.Mul64
namespace Go.Proofs.Ytkpjeihgigmnkaa.Ev
open Go
set_option linter.unusedVariables false
set_option linter.unusedSimpArgs false
def Word (x : Int) : Prop := 0 ≤ x ∧ x < 18446744073709551616
theorem wraps_u64 (n : Int) (h₀ : 0 ≤ n) (h₁ : n < 2 ^ 64) : IntKind.u64.wrap n = n := wu64 h₀ (by omega)
theorem and32 {x : Int} (h : Word x) : Go.bits .and .u64 x 4294967295 = x % 4294967296 := by
  have := bits_mask .u64 64 (by decide) wraps_u64 32 (by decide) x h.1 (by have := h.2; omega)
  simpa using this
theorem shr32 (x : Int) : shrE IntKind.u64 x 32 = x / 4294967296 := by
  have := shr_e (k := .u64) (x := x) (n := 32) (by decide)
  simpa using this
theorem mul64_f {a b : Int} (ha : Word a) (hb : Word b) : F37 a b = some (a * b / 18446744073709551616, a * b % 18446744073709551616) := by
  obtain ⟨ha0, ha1⟩ := ha; obtain ⟨hb0, hb1⟩ := hb
  obtain ⟨x, rfl⟩ := Int.eq_ofNat_of_zero_le ha0
  obtain ⟨y, rfl⟩ := Int.eq_ofNat_of_zero_le hb0
  have hx : x < 18446744073709551616 := by omega
  have hy : y < 18446744073709551616 := by omega
  obtain ⟨bd, btt, bw, hhi⟩ := Lib.mul64_hi x y hx hy
  have ba := Lib.half_mul_le (a := x / 4294967296) (b := y / 4294967296) (by omega) (by omega)
  have bb := Lib.half_mul_le (a := x / 4294967296) (b := y % 4294967296) (by omega) (by omega)
  have bc := Lib.half_mul_le (a := x % 4294967296) (b := y / 4294967296) (by omega) (by omega)
  have hxy : x * y / 18446744073709551616 < 18446744073709551616 := by
    have h1 : x * y ≤ 18446744073709551615 * 18446744073709551615 := Nat.mul_le_mul (by omega) (by omega)
    omega
  rw [F37_eq]
  simp only [andE_bits, shr32]
  rw [and32 ⟨ha0, ha1⟩, and32 ⟨hb0, hb1⟩]
  simp only [wr, wu64_mod]
  rw [and32 ⟨Int.emod_nonneg _ (by decide), Int.emod_lt_of_pos _ (by decide)⟩]
  have e1 : ((x : Int) / 4294967296) = ((x / 4294967296 : Nat) : Int) := by omega
  have e2 : ((y : Int) / 4294967296) = ((y / 4294967296 : Nat) : Int) := by omega
  have e3 : ((x : Int) % 4294967296) = ((x % 4294967296 : Nat) : Int) := by omega
  have e4 : ((y : Int) % 4294967296) = ((y % 4294967296 : Nat) : Int) := by omega
  rw [e1, e2, e3, e4]
  simp only [← Int.natCast_mul]
  generalize x / 4294967296 * (y / 4294967296) = p at *
  generalize x / 4294967296 * (y % 4294967296) = q at *
  generalize x % 4294967296 * (y % 4294967296) = s at *
  generalize x % 4294967296 * (y / 4294967296) = t at *
  generalize x * y = m at *
  congr 2 <;> omega
def wide (hi lo : Int) : Int := hi * 18446744073709551616 + lo
def wd (n : Int) : S50 := ⟨n / 18446744073709551616, n % 18446744073709551616⟩
/-- What two words are worth. -/
def wv (x : S50) : Int := wide x.f0 x.f1
def WW (x : S50) : Prop := Word x.f0 ∧ Word x.f1
theorem wv_wd (n : Int) : wv (wd n) = n := by unfold wv wd wide; simp only; omega
theorem wd_ww {n : Int} (h0 : 0 ≤ n) (h1 : n < 340282366920938463463374607431768211456) : WW (wd n) := by unfold WW Word wd; simp only; omega
theorem wv_bd {x : S50} (h : WW x) : 0 ≤ wv x ∧ wv x < 340282366920938463463374607431768211456 := by unfold wv wide; unfold WW Word at h; omega
theorem word_mul {a b : Int} (ha : Word a) (hb : Word b) : 0 ≤ a * b ∧ a * b < 340282366920938463463374607431768211456 := by
  have h1 := mul_nn ha.1 hb.1
  have h2 := mul_bd (x := a) (y := b) (M := 18446744073709551615) (N := 18446744073709551615) (by have := ha.1; omega) (by have := ha.2; omega) (by have := hb.1; omega) (by have := hb.2; omega)
  omega
theorem wmul_f {a b : Int} (ha : Word a) (hb : Word b) : F23 a b = some (wd (a * b)) := by
  rw [F23_eq, mul64_f ha hb]; rfl
def cmpI (x y : Int) : Int := if x < y then -1 else if x > y then 1 else 0
theorem ccmp_f (a b : Int) : F39 a b = some (cmpI a b) := by
  rw [F39_eq, F50_eq, F50_eq]
  simp only [bne_self_eq_false, Option.bind_some, cond_false]
  unfold cmpI; by_cases h : a < b <;> by_cases h' : a > b <;> simp [*]
theorem cor_f (x y : Int) : F38 [x, y] = some (if x = 0 then y else x) := by
  rw [F38_eq, L38_0_eq]
  simp only [List.length_cons, List.length_nil]
  by_cases hx : x = 0
  · subst hx
    simp [grd]
    rw [L38_0_eq]
    simp [wr, w64, grd]
    by_cases hy : y = 0
    · subst hy; rw [show ((0 : Int) != 0) = false from rfl, cond_false, L38_0_eq]; simp
    · rw [show (y != 0) = true by simpa using hy]; simp [hy]
  · simp [grd, hx]
    rw [show (x != 0) = true by simpa using hx]; rfl
theorem wcmp_f {x y : S50} (hx : WW x) (hy : WW y) : F25 x y = some (cmpI (wv x) (wv y)) := by
  rw [F25_eq, ccmp_f, ccmp_f]
  simp only [Option.bind_some]
  rw [cor_f, Option.bind_some]
  unfold WW Word at hx hy
  congr 1
  unfold cmpI wv wide
  split <;> split <;> (try split) <;> (try split) <;> (try split) <;> (try split) <;> omega
end Go.Proofs.Ytkpjeihgigmnkaa.Ev
