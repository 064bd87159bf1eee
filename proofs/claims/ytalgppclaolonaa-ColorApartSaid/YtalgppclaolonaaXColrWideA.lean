/- What layer 1 computes: products, sums, comparison and places of numbers of two words. -/
import Derived.Laws.BitsLemmas
import Derived.Lib.Mul64
import Derived.Test.YtalgppclaolonaaNumM
import Derived.Test.YtalgppclaolonaaXColrx3
import Derived.Test.YtalgppclaolonaaXColrx4

namespace Go.Proofs.Ytalgppclaolonaa.XColr
open Go.RowKit Go.Proofs.Ytalgppclaolonaa.XM Go.Proofs.Ytalgppclaolonaa.NumM Go.Proofs.YtalgppclaolonaaW.PrintWords Go.Proofs.YtalgppclaolonaaW.PrintLast Go.Proofs.YtalgppclaolonaaW.PrintMore
set_option linter.unusedVariables false

/-- A word. -/
def Word (x : Int) : Prop := 0 ≤ x ∧ x < 18446744073709551616
theorem wraps_u64 (n : Int) (h₀ : 0 ≤ n) (h₁ : n < 2 ^ 64) : IntKind.u64.wrap n = n := wu64 h₀ (by omega)
theorem and32 {x : Int} (h : Word x) : Go.bits .and .u64 x 4294967295 = x % 4294967296 := by
  have := bits_mask .u64 64 (by decide) wraps_u64 32 (by decide) x h.1 (by have := h.2; omega)
  simpa using this
theorem or_add {x y : Int} (i : Nat) (hx0 : 0 ≤ x) (hx : x % 2 ^ i = 0) (hx1 : x < 18446744073709551616) (hy0 : 0 ≤ y) (hy : y < 2 ^ i) (hy1 : y < 18446744073709551616) : Go.bits .or .u64 x y = x + y :=
  bits_join .u64 64 (by decide) wraps_u64 i x y hx0 hx (by omega) hy0 hy (by omega)

theorem mul64_f {a b : Int} (ha : Word a) (hb : Word b) : bits_Mul64.f a b = some (a * b / 18446744073709551616, a * b % 18446744073709551616) := by
  obtain ⟨ha0, ha1⟩ := ha; obtain ⟨hb0, hb1⟩ := hb
  obtain ⟨x, rfl⟩ := Int.eq_ofNat_of_zero_le ha0
  obtain ⟨y, rfl⟩ := Int.eq_ofNat_of_zero_le hb0
  have hx : x < 18446744073709551616 := by omega
  have hy : y < 18446744073709551616 := by omega
  obtain ⟨bd, btt, bw, hhi⟩ := Lib.mul64_hi x y hx hy
  have ba := Lib.half_mul_le (a := x / 4294967296) (b := y / 4294967296) (by omega) (by omega)
  have bb := Lib.half_mul_le (a := x / 4294967296) (b := y % 4294967296) (by omega) (by omega)
  have bc := Lib.half_mul_le (a := x % 4294967296) (b := y / 4294967296) (by omega) (by omega)
  have hxy : x * y / 18446744073709551616 < 18446744073709551616 := by
    have h1 : x * y ≤ 18446744073709551615 * 18446744073709551615 := Nat.mul_le_mul (by omega) (by omega)
    omega
  unfold bits_Mul64.f
  rw [and32 ⟨ha0, ha1⟩, and32 ⟨hb0, hb1⟩]
  simp only [wu64_mod]
  rw [and32 ⟨Int.emod_nonneg _ (by decide), Int.emod_lt_of_pos _ (by decide)⟩]
  have e1 : ((x : Int) / 4294967296) = ((x / 4294967296 : Nat) : Int) := by omega
  have e2 : ((y : Int) / 4294967296) = ((y / 4294967296 : Nat) : Int) := by omega
  have e3 : ((x : Int) % 4294967296) = ((x % 4294967296 : Nat) : Int) := by omega
  have e4 : ((y : Int) % 4294967296) = ((y % 4294967296 : Nat) : Int) := by omega
  rw [e1, e2, e3, e4]
  simp only [← Int.natCast_mul]
  generalize x / 4294967296 * (y / 4294967296) = p at *
  generalize x / 4294967296 * (y % 4294967296) = q at *
  generalize x % 4294967296 * (y % 4294967296) = s at *
  generalize x % 4294967296 * (y / 4294967296) = t at *
  generalize x * y = m at *
  congr 2 <;> omega

def hi_ (n : Int) : Int := n / 18446744073709551616
def lo_ (n : Int) : Int := n % 18446744073709551616
theorem wide_split (n : Int) : wide (hi_ n) (lo_ n) = n := by unfold wide hi_ lo_; omega
theorem hi_word {n : Int} (h0 : 0 ≤ n) (h1 : n < 340282366920938463463374607431768211456) : Word (hi_ n) := by unfold Word hi_; omega
theorem lo_word (n : Int) : Word (lo_ n) := by unfold Word lo_; omega
theorem wide_bd {h l : Int} (hh : Word h) (hl : Word l) : 0 ≤ wide h l ∧ wide h l < 340282366920938463463374607431768211456 := by unfold wide; unfold Word at hh hl; omega
theorem hi_wide {h l : Int} (hl : Word l) : hi_ (wide h l) = h := by unfold hi_ wide; unfold Word at hl; omega
theorem lo_wide {h l : Int} (hl : Word l) : lo_ (wide h l) = l := by unfold lo_ wide; unfold Word at hl; omega
theorem word_mul {a b : Int} (ha : Word a) (hb : Word b) : 0 ≤ a * b ∧ a * b < 340282366920938463463374607431768211456 := by
  have h1 := mul_nn ha.1 hb.1
  have h2 := mul_bd (x := a) (y := b) (M := 18446744073709551615) (N := 18446744073709551615) (by have := ha.1; omega) (by have := ha.2; omega) (by have := hb.1; omega) (by have := hb.2; omega)
  omega
theorem wmul_f {a b : Int} (ha : Word a) (hb : Word b) : wide_Mul.f a b = some (hi_ (a * b), lo_ (a * b)) := by
  unfold wide_Mul.f; rw [mul64_f ha hb]; rfl

theorem wadd_f {h l h' l' : Int} (hh : Word h) (hl : Word l) (hh' : Word h') (hl' : Word l') :
    wide_Add.f h l h' l' = if wide h l + wide h' l' < 340282366920938463463374607431768211456 then some (hi_ (wide h l + wide h' l'), lo_ (wide h l + wide h' l'), 0) else some (0, 0, 2) := by
  unfold Word at *
  unfold wide_Add.f bits_Add64.f
  rw [if_pos hl.1, if_pos hl'.1, if_pos hl'.2, if_pos (by omega), if_pos (by omega)]
  simp only [Option.bind_some]
  rw [if_pos hh.1, if_pos hh'.1, if_pos hh'.2, if_pos (by omega), if_pos (by omega)]
  simp only [Option.bind_some]
  by_cases c : (h + h' + (l + l' + 0) / 18446744073709551616) / 18446744073709551616 = 0
  · rw [if_pos c, if_pos (by unfold wide; omega)]
    congr 2
    · unfold hi_ wide; omega
    · congr 1
      unfold lo_ wide; omega
  · rw [if_neg c, if_neg (by unfold wide; omega)]


end Go.Proofs.Ytalgppclaolonaa.XColr
