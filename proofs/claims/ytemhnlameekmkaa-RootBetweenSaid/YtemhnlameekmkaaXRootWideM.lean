/- What layer 1 computes: products, sums, comparison and places of numbers of two words. -/
import Derived.Laws.BitsLemmas
import Derived.Lib.Mul64
import Derived.Test.YtemhnlameekmkaaNumM
import Derived.Test.YtemhnlameekmkaaXRootx4
import Derived.Test.YtemhnlameekmkaaXRootx3

namespace Go.Proofs.Ytemhnlameekmkaa.XRoot
open Go.RowKit Go.Proofs.Ytemhnlameekmkaa.XM Go.Proofs.Ytemhnlameekmkaa.NumM Go.Proofs.YtemhnlameekmkaaW.PrintWords Go.Proofs.YtemhnlameekmkaaW.PrintLast Go.Proofs.YtemhnlameekmkaaW.PrintMore
set_option linter.unusedVariables false

/-- A word. -/
def Word (x : Int) : Prop := 0 ≤ x ∧ x < 18446744073709551616
theorem wraps_u64 (n : Int) (h₀ : 0 ≤ n) (h₁ : n < 2 ^ 64) : IntKind.u64.wrap n = n := wu64 h₀ (by omega)
theorem and32 {x : Int} (h : Word x) : Go.bits .and .u64 x 4294967295 = x % 4294967296 := by
  have := bits_mask .u64 64 (by decide) wraps_u64 32 (by decide) x h.1 (by have := h.2; omega)
  simpa using this
theorem or_add {x y : Int} (i : Nat) (hx0 : 0 ≤ x) (hx : x % 2 ^ i = 0) (hx1 : x < 18446744073709551616) (hy0 : 0 ≤ y) (hy : y < 2 ^ i) (hy1 : y < 18446744073709551616) : Go.bits .or .u64 x y = x + y :=
  bits_join .u64 64 (by decide) wraps_u64 i x y hx0 hx (by omega) hy0 hy (by omega)

theorem mul64_f {a b : Int} (ha : Word a) (hb : Word b) : bits_Mul64.f a b = some (a * b / 18446744073709551616, a * b % 18446744073709551616) := by
  obtain ⟨ha0, ha1⟩ := ha; obtain ⟨hb0, hb1⟩ := hb
  obtain ⟨x, rfl⟩ := Int.eq_ofNat_of_zero_le ha0
  obtain ⟨y, rfl⟩ := Int.eq_ofNat_of_zero_le hb0
  have hx : x < 18446744073709551616 := by omega
  have hy : y < 18446744073709551616 := by omega
  obtain ⟨bd, btt, bw, hhi⟩ := Lib.mul64_hi x y hx hy
  have ba := Lib.half_mul_le (a := x / 4294967296) (b := y / 4294967296) (by omega) (by omega)
  have bb := Lib.half_mul_le (a := x / 4294967296) (b := y % 4294967296) (by omega) (by omega)
  have bc := Lib.half_mul_le (a := x % 4294967296) (b := y / 4294967296) (by omega) (by omega)
  have hxy : x * y / 18446744073709551616 < 18446744073709551616 := by
    have h1 : x * y ≤ 18446744073709551615 * 18446744073709551615 := Nat.mul_le_mul (by omega) (by omega)
    omega
  unfold bits_Mul64.f
  rw [and32 ⟨ha0, ha1⟩, and32 ⟨hb0, hb1⟩]
  simp only [wu64_mod]
  rw [and32 ⟨Int.emod_nonneg _ (by decide), Int.emod_lt_of_pos _ (by decide)⟩]
  have e1 : ((x : Int) / 4294967296) = ((x / 4294967296 : Nat) : Int) := by omega
  have e2 : ((y : Int) / 4294967296) = ((y / 4294967296 : Nat) : Int) := by omega
  have e3 : ((x : Int) % 4294967296) = ((x % 4294967296 : Nat) : Int) := by omega
  have e4 : ((y : Int) % 4294967296) = ((y % 4294967296 : Nat) : Int) := by omega
  rw [e1, e2, e3, e4]
  simp only [← Int.natCast_mul]
  generalize x / 4294967296 * (y / 4294967296) = p at *
  generalize x / 4294967296 * (y % 4294967296) = q at *
  generalize x % 4294967296 * (y % 4294967296) = s at *
  generalize x % 4294967296 * (y / 4294967296) = t at *
  generalize x * y = m at *
  congr 2 <;> omega

def hi_ (n : Int) : Int := n / 18446744073709551616
def lo_ (n : Int) : Int := n % 18446744073709551616
theorem wide_split (n : Int) : wide (hi_ n) (lo_ n) = n := by unfold wide hi_ lo_; omega
theorem hi_word {n : Int} (h0 : 0 ≤ n) (h1 : n < 340282366920938463463374607431768211456) : Word (hi_ n) := by unfold Word hi_; omega
theorem lo_word (n : Int) : Word (lo_ n) := by unfold Word lo_; omega
theorem wide_bd {h l : Int} (hh : Word h) (hl : Word l) : 0 ≤ wide h l ∧ wide h l < 340282366920938463463374607431768211456 := by unfold wide; unfold Word at hh hl; omega
theorem hi_wide {h l : Int} (hl : Word l) : hi_ (wide h l) = h := by unfold hi_ wide; unfold Word at hl; omega
theorem lo_wide {h l : Int} (hl : Word l) : lo_ (wide h l) = l := by unfold lo_ wide; unfold Word at hl; omega
theorem word_mul {a b : Int} (ha : Word a) (hb : Word b) : 0 ≤ a * b ∧ a * b < 340282366920938463463374607431768211456 := by
  have h1 := mul_nn ha.1 hb.1
  have h2 := mul_bd (x := a) (y := b) (M := 18446744073709551615) (N := 18446744073709551615) (by have := ha.1; omega) (by have := ha.2; omega) (by have := hb.1; omega) (by have := hb.2; omega)
  omega
theorem wmul_f {a b : Int} (ha : Word a) (hb : Word b) : wide_Mul.f a b = some (hi_ (a * b), lo_ (a * b)) := by
  unfold wide_Mul.f; rw [mul64_f ha hb]; rfl

theorem wadd_f {h l h' l' : Int} (hh : Word h) (hl : Word l) (hh' : Word h') (hl' : Word l') :
    wide_Add.f h l h' l' = if wide h l + wide h' l' < 340282366920938463463374607431768211456 then some (hi_ (wide h l + wide h' l'), lo_ (wide h l + wide h' l'), 0) else some (0, 0, 2) := by
  unfold Word at *
  unfold wide_Add.f bits_Add64.f
  rw [if_pos hl.1, if_pos hl'.1, if_pos hl'.2, if_pos (by omega), if_pos (by omega)]
  simp only [Option.bind_some]
  rw [if_pos hh.1, if_pos hh'.1, if_pos hh'.2, if_pos (by omega), if_pos (by omega)]
  simp only [Option.bind_some]
  by_cases c : (h + h' + (l + l' + 0) / 18446744073709551616) / 18446744073709551616 = 0
  · rw [if_pos c, if_pos (by unfold wide; omega)]
    congr 2
    · unfold hi_ wide; omega
    · congr 1
      unfold lo_ wide; omega
  · rw [if_neg c, if_neg (by unfold wide; omega)]

theorem wscale_f {h l n : Int} (hh : Word h) (hl : Word l) (hn : Word n) :
    wide_Scale.f h l n = if wide h l * n < 340282366920938463463374607431768211456 then some (hi_ (wide h l * n), lo_ (wide h l * n), 0) else some (0, 0, 2) := by
  have h1 := word_mul hl hn
  have h2 := word_mul hh hn
  have e : wide h l * n = h * n * 18446744073709551616 + l * n := by unfold wide; grind
  unfold wide_Scale.f
  rw [wmul_f hl hn, wmul_f hh hn]
  simp only [Option.bind_some]
  rw [e]
  by_cases c : hi_ (h * n) = 0
  · rw [if_pos c, wadd_f (hi_word h1.1 h1.2) (lo_word _) (lo_word _) ⟨by omega, by omega⟩, wide_split]
    have e2 : l * n + wide (lo_ (h * n)) 0 = h * n * 18446744073709551616 + l * n := by unfold wide; unfold hi_ at c; unfold lo_; omega
    rw [e2]
    split <;> rfl
  · rw [if_neg c, if_neg (by unfold hi_ at c; omega)]

/-! comparison -/
theorem ccmp_f (a b : Int) : cmp_Compare_uint64.f a b = some (cmpI a b) := by
  simp only [cmp_Compare_uint64.f, cmp_isNaN_uint64.f, bne_self_eq_false, Option.bind_some, Bool.false_eq_true, if_false]
  unfold cmpI; by_cases h : a < b <;> by_cases h' : a > b <;> simp [*]
theorem cor_ev (x y : Int) : Ev (fun k => cmp_Or_int.f k [x, y]) (if x = 0 then y else x) := by
  refine Ev.of (g := fun k => cmp_Or_int.f k [x, y]) (cmp_Or_int.mono _) (k := 3) ?_
  by_cases hx : x = 0
  · by_cases hy : y = 0
    · subst hx; subst hy; simp [cmp_Or_int.f, cmp_Or_int.l0, rd, wrap64]
    · subst hx; simp [cmp_Or_int.f, cmp_Or_int.l0, rd, wrap64, hy]
  · simp [cmp_Or_int.f, cmp_Or_int.l0, rd, hx]
theorem wcmp_ev {h l h' l' : Int} (hl : Word l) (hl' : Word l') : Ev (fun k => wide_Cmp.f k h l h' l') (cmpI (wide h l) (wide h' l')) := by
  unfold wide_Cmp.f
  simp only [ccmp_f, Option.bind_some]
  refine Ev.bind (cor_ev _ _) ?_
  refine Ev.some ?_
  unfold Word at hl hl'
  unfold cmpI wide
  split <;> split <;> (try split) <;> (try split) <;> (try split) <;> (try split) <;> omega

/-! places -/
def bl (n : Int) : Int := if n ≤ 0 then 0 else (Nat.log2 n.toNat : Int) + 1
theorem bl_lt {n : Int} (h : 0 ≤ n) : n < 2 ^ (bl n).toNat := by
  unfold bl
  split
  · simp; omega
  · obtain ⟨m, rfl⟩ := Int.eq_ofNat_of_zero_le h
    have : (m : Nat) < 2 ^ (Nat.log2 m + 1) := (Nat.log2_lt (by omega)).1 (Nat.lt_succ_self _)
    simp only [Int.toNat_natCast]
    rw [show ((Nat.log2 m : Int) + 1).toNat = Nat.log2 m + 1 by omega]
    exact_mod_cast this
theorem bl_nn (n : Int) : 0 ≤ bl n := by unfold bl; split <;> omega
theorem bl_shift {n : Int} (s : Nat) (h : 2 ^ s ≤ n) : bl n = bl (n / 2 ^ s) + s := by
  have hp : (0 : Int) < 2 ^ s := Int.pow_pos (by decide)
  obtain ⟨m, rfl⟩ := Int.eq_ofNat_of_zero_le (show 0 ≤ n by omega)
  have hm : 2 ^ s ≤ m := by exact_mod_cast h
  have hps : 0 < 2 ^ s := Nat.two_pow_pos s
  have hq : 0 < m / 2 ^ s := Nat.div_pos hm hps
  have e : ((m : Int) / 2 ^ s) = ((m / 2 ^ s : Nat) : Int) := by simp
  rw [e]
  unfold bl
  rw [if_neg (by omega), if_neg (by omega)]
  simp only [Int.toNat_natCast]
  have : Nat.log2 m = Nat.log2 (m / 2 ^ s) + s := by
    apply Nat.le_antisymm
    · apply Nat.le_of_lt_succ
      rw [Nat.log2_lt (by omega), show (Nat.log2 (m / 2 ^ s) + s).succ = (Nat.log2 (m / 2 ^ s) + 1) + s by omega, Nat.pow_add]
      have := (Nat.log2_lt (n := m / 2 ^ s) (k := Nat.log2 (m / 2 ^ s) + 1) (by omega)).1 (by omega)
      exact (Nat.div_lt_iff_lt_mul hps).1 this
    · rw [Nat.le_log2 (by omega), Nat.pow_add]
      have := Nat.log2_self_le (n := m / 2 ^ s) (by omega)
      exact (Nat.le_div_iff_mul_le hps).1 this
  omega
theorem bl_le {n : Int} (b : Nat) (h : n < 2 ^ b) : bl n ≤ b := by
  unfold bl
  split
  · omega
  · obtain ⟨m, rfl⟩ := Int.eq_ofNat_of_zero_le (show 0 ≤ n by omega)
    have hm : m < 2 ^ b := by exact_mod_cast h
    have := (Nat.log2_lt (n := m) (k := b) (by omega)).2 hm
    simp only [Int.toNat_natCast]
    omega

theorem tab_bl : ∀ i : Fin 256, bt (⟨#[0, 1, 2, 2, 3, 3, 3, 3, 4, 4, 4, 4, 4, 4, 4, 4, 5, 5, 5, 5, 5, 5, 5, 5, 5, 5, 5, 5, 5, 5, 5, 5, 6, 6, 6, 6, 6, 6, 6, 6, 6, 6, 6, 6, 6, 6, 6, 6, 6, 6, 6, 6, 6, 6, 6, 6, 6, 6, 6, 6, 6, 6, 6, 6, 7, 7, 7, 7, 7, 7, 7, 7, 7, 7, 7, 7, 7, 7, 7, 7, 7, 7, 7, 7, 7, 7, 7, 7, 7, 7, 7, 7, 7, 7, 7, 7, 7, 7, 7, 7, 7, 7, 7, 7, 7, 7, 7, 7, 7, 7, 7, 7, 7, 7, 7, 7, 7, 7, 7, 7, 7, 7, 7, 7, 7, 7, 7, 7, 8, 8, 8, 8, 8, 8, 8, 8, 8, 8, 8, 8, 8, 8, 8, 8, 8, 8, 8, 8, 8, 8, 8, 8, 8, 8, 8, 8, 8, 8, 8, 8, 8, 8, 8, 8, 8, 8, 8, 8, 8, 8, 8, 8, 8, 8, 8, 8, 8, 8, 8, 8, 8, 8, 8, 8, 8, 8, 8, 8, 8, 8, 8, 8, 8, 8, 8, 8, 8, 8, 8, 8, 8, 8, 8, 8, 8, 8, 8, 8, 8, 8, 8, 8, 8, 8, 8, 8, 8, 8, 8, 8, 8, 8, 8, 8, 8, 8, 8, 8, 8, 8, 8, 8, 8, 8, 8, 8, 8, 8, 8, 8, 8, 8, 8, 8, 8, 8, 8, 8, 8, 8, 8, 8, 8, 8, 8, 8]⟩ : ByteArray) (i.val : Int) = bl (i.val : Int) := by decide +kernel
theorem tab_f {i : Int} (h0 : 0 ≤ i) (h1 : i < 256) : bt (⟨#[0, 1, 2, 2, 3, 3, 3, 3, 4, 4, 4, 4, 4, 4, 4, 4, 5, 5, 5, 5, 5, 5, 5, 5, 5, 5, 5, 5, 5, 5, 5, 5, 6, 6, 6, 6, 6, 6, 6, 6, 6, 6, 6, 6, 6, 6, 6, 6, 6, 6, 6, 6, 6, 6, 6, 6, 6, 6, 6, 6, 6, 6, 6, 6, 7, 7, 7, 7, 7, 7, 7, 7, 7, 7, 7, 7, 7, 7, 7, 7, 7, 7, 7, 7, 7, 7, 7, 7, 7, 7, 7, 7, 7, 7, 7, 7, 7, 7, 7, 7, 7, 7, 7, 7, 7, 7, 7, 7, 7, 7, 7, 7, 7, 7, 7, 7, 7, 7, 7, 7, 7, 7, 7, 7, 7, 7, 7, 7, 8, 8, 8, 8, 8, 8, 8, 8, 8, 8, 8, 8, 8, 8, 8, 8, 8, 8, 8, 8, 8, 8, 8, 8, 8, 8, 8, 8, 8, 8, 8, 8, 8, 8, 8, 8, 8, 8, 8, 8, 8, 8, 8, 8, 8, 8, 8, 8, 8, 8, 8, 8, 8, 8, 8, 8, 8, 8, 8, 8, 8, 8, 8, 8, 8, 8, 8, 8, 8, 8, 8, 8, 8, 8, 8, 8, 8, 8, 8, 8, 8, 8, 8, 8, 8, 8, 8, 8, 8, 8, 8, 8, 8, 8, 8, 8, 8, 8, 8, 8, 8, 8, 8, 8, 8, 8, 8, 8, 8, 8, 8, 8, 8, 8, 8, 8, 8, 8, 8, 8, 8, 8, 8, 8, 8, 8, 8, 8]⟩ : ByteArray) i = bl i := by
  obtain ⟨n, rfl⟩ := Int.eq_ofNat_of_zero_le h0
  exact tab_bl ⟨n, by omega⟩
theorem bl_small {x : Int} (h0 : 0 ≤ x) (h : x < 65536) : ∀ n, 0 ≤ n → n ≤ 100 → (if x ≥ 256 then (if 0 ≤ ((x / 256) % 256) then (if ((x / 256) % 256) < 256 then (some (wrap64 ((wrap64 (n + 8)) + (wrap64 (bl ((x / 256) % 256)))))) else none) else none) else (if 0 ≤ (x % 256) then (if (x % 256) < 256 then (some (wrap64 (n + (wrap64 (bl (x % 256)))))) else none) else none)) = some (n + bl x) := by
  intro n hn0 hn
  by_cases c : x ≥ 256
  · have e := bl_shift (n := x) 8 (by omega)
    have e2 : x / 256 % 256 = x / 2 ^ 8 := by omega
    have b := bl_le (n := x / 2 ^ 8) 8 (by omega)
    have b0 := bl_nn (x / 2 ^ 8)
    rw [if_pos c, e2, if_pos (by omega), if_pos (by omega), w64 (n := bl _) (by omega) (by omega), w64 (n := n + 8) (by omega) (by omega), w64 (by omega) (by omega), e]
    congr 1; omega
  · have e2 : x % 256 = x := by omega
    have b := bl_le (n := x) 8 (by omega)
    have b0 := bl_nn x
    rw [if_neg c, e2, if_pos (by omega), if_pos (by omega), w64 (n := bl _) (by omega) (by omega), w64 (by omega) (by omega)]
theorem len_j {x : Int} (h0 : 0 ≤ x) (h : x < 4294967296) (n : Int) (hn0 : 0 ≤ n) (hn : n ≤ 50) : Ev (fun k => bits_Len64.j0 k x n) (n + bl x) := by
  refine Ev.step (f := fun _ => some (n + bl x)) (fun k => ?_) (Ev.now _)
  rw [bits_Len64.j0]
  by_cases c : x ≥ 65536
  · rw [if_pos c]
    have e := bl_shift (n := x) 16 (by omega)
    rw [show x / 2 ^ 16 = x / 65536 by omega] at e
    have s := bl_small (x := x / 65536) (by omega) (by omega) (n + 16) (by omega) (by omega)
    have q1 : 0 ≤ x / 65536 / 256 % 256 := by omega
    have q2 : x / 65536 / 256 % 256 < 256 := by omega
    have q3 : 0 ≤ x / 65536 % 256 := by omega
    have q4 : x / 65536 % 256 < 256 := by omega
    rw [w64 (n := n + 16) (by omega) (by omega), e, show n + (bl (x / 65536) + ((16 : Nat) : Int)) = n + 16 + bl (x / 65536) by omega, ← s, if_pos q1, if_pos q2, if_pos q3, if_pos q4, tab_f q1 q2, tab_f q3 q4, if_pos q1, if_pos q2, if_pos q3, if_pos q4]
  · rw [if_neg c]
    have s := bl_small (x := x) (by omega) (by omega) n (by omega) (by omega)
    have q1 : 0 ≤ x / 256 % 256 := by omega
    have q2 : x / 256 % 256 < 256 := by omega
    have q3 : 0 ≤ x % 256 := by omega
    have q4 : x % 256 < 256 := by omega
    rw [← s, if_pos q1, if_pos q2, if_pos q3, if_pos q4, tab_f q1 q2, tab_f q3 q4, if_pos q1, if_pos q2, if_pos q3, if_pos q4]
theorem len_ev {x : Int} (h : Word x) : Ev (fun k => bits_Len64.f k x) (bl x) := by
  obtain ⟨h0, h1⟩ := h
  unfold bits_Len64.f
  by_cases c : x ≥ 4294967296
  · simp only [if_pos c]
    have e := bl_shift (n := x) 32 (by omega)
    refine Ev.eq (len_j (x := x / 4294967296) (by omega) (by omega) 32 (by omega) (by omega)) ?_
    rw [e, show x / 2 ^ 32 = x / 4294967296 by omega]; omega
  · simp only [if_neg c]
    exact Ev.eq (len_j h0 (by omega) 0 (by omega) (by omega)) (by omega)
theorem wbits_ev {h l : Int} (hh : Word h) (hl : Word l) : Ev (fun k => wide_Bits.f k h l) (bl (wide h l)) := by
  unfold wide_Bits.f
  by_cases c : h = 0
  · simp only [if_pos c]
    refine Ev.bind (len_ev hl) (Ev.some ?_)
    rw [c]; unfold wide; congr 1; omega
  · simp only [if_neg c]
    refine Ev.bind (len_ev hh) (Ev.some ?_)
    unfold Word at hh hl
    have e := bl_shift (n := wide h l) 64 (by unfold wide; omega)
    have e2 : wide h l / 2 ^ 64 = h := by unfold wide; omega
    have b := bl_le (n := h) 64 (by omega)
    have b0 := bl_nn h
    rw [e, e2, w64 (by omega) (by omega)]; omega

end Go.Proofs.Ytemhnlameekmkaa.XRoot
