/- Comp: what is parsed: both sides. -/
import Derived.Test.YtalghbndblgndaaEvByR
import Derived.Test.YtalghbndblgndaaEvMays
namespace Go.Proofs.Ytalghbndblgndaa.Ev
open Go
set_option linter.unusedVariables false
set_option linter.unusedSimpArgs false
theorem and_nat {x y : Nat} (hx : x < 65536) (hy : y < 65536) : andE IntKind.u16 (x : Int) (y : Int) = ((x &&& y : Nat) : Int) :=
  (bits_nat .u16 16 (by decide) (fun n h0 h1 => wu16 h0 h1) x y hx hy).1
theorem and_bit (x i : Nat) : x &&& 2 ^ i = if x / 2 ^ i % 2 = 1 then 2 ^ i else 0 := by
  refine Nat.eq_of_testBit_eq fun j => ?_
  rw [Nat.testBit_and, Nat.testBit_two_pow]
  by_cases h : x / 2 ^ i % 2 = 1
  · rw [if_pos h, Nat.testBit_two_pow]
    by_cases e : i = j
    · subst e; rw [Nat.testBit_eq_decide_div_mod_eq, decide_eq_true h]; rfl
    · rw [decide_eq_false e, Bool.and_false]
  · rw [if_neg h, Nat.zero_testBit]
    by_cases e : i = j
    · subst e; rw [Nat.testBit_eq_decide_div_mod_eq, decide_eq_false h]; rfl
    · rw [decide_eq_false e, Bool.and_false]
def bt (f : Int) (n : Int) : Bool := decide (f / n % 2 = 1)
/-- Is a bit set? -/
theorem and_bt {f : Int} (h0 : 0 ≤ f) (h1 : f < 65536) (i : Nat) (hi : 2 ^ i < 65536) : (andE IntKind.u16 f ((2 ^ i : Nat) : Int) != 0) = bt f ((2 ^ i : Nat) : Int) := by
  obtain ⟨n, rfl⟩ := Int.eq_ofNat_of_zero_le h0
  rw [and_nat (by omega) hi, and_bit]
  unfold bt
  have hp : 0 < 2 ^ i := Nat.two_pow_pos i
  have e : ((n : Int) / ((2 ^ i : Nat) : Int) % 2 = 1) ↔ (n / 2 ^ i % 2 = 1) := by
    rw [← Int.natCast_ediv]; omega
  by_cases h : n / 2 ^ i % 2 = 1
  · rw [if_pos h, decide_eq_true (e.mpr h)]
    exact bne_iff_ne.mpr (by omega)
  · rw [if_neg h, decide_eq_false (fun h' => h (e.mp h'))]; rfl
def rt (f : Int) : Bool := bt f 2 && (decide (f / 16 % 2 = 0 ∧ f / 2048 % 2 = 0 ∧ f < 8192) && decide (f / 8 % 2 + f / 64 % 2 + f / 128 % 2 ≤ 1))
theorem f135 {f : Int} (h0 : 0 ≤ f) (h1 : f < 65536) : F135 f = some (rt f) := by
  have e1 := and_bt h0 h1 1 (by decide)
  rw [F135_eq, show (2 : Int) = ((2 ^ 1 : Nat) : Int) from rfl, e1]
  obtain ⟨n, rfl⟩ := Int.eq_ofNat_of_zero_le h0
  have hn : n < 65536 := by omega
  have c4 := and_bit n 4
  have c11 := and_bit n 11
  have c13 := and_bit n 13
  have c14 := and_bit n 14
  have c15 := and_bit n 15
  have c3 := and_bit n 3
  have c6 := and_bit n 6
  have c7 := and_bit n 7
  have en : (andE IntKind.u16 (n : Int) (59408 : Int) == 0) = decide ((n : Int) / 16 % 2 = 0 ∧ (n : Int) / 2048 % 2 = 0 ∧ (n : Int) < 8192) := by
    rw [show (59408 : Int) = ((59408 : Nat) : Int) from rfl, and_nat hn (by decide)]
    have eo : n &&& 59408 = (n &&& 2 ^ 4) ||| ((n &&& 2 ^ 11) ||| ((n &&& 2 ^ 13) ||| ((n &&& 2 ^ 14) ||| (n &&& 2 ^ 15)))) := by
      rw [← Nat.and_or_distrib_left, ← Nat.and_or_distrib_left, ← Nat.and_or_distrib_left, ← Nat.and_or_distrib_left]; rfl
    have ez : n &&& 59408 = 0 ↔ ((n : Int) / 16 % 2 = 0 ∧ (n : Int) / 2048 % 2 = 0 ∧ (n : Int) < 8192) := by
      rw [eo, Nat.or_eq_zero_iff, Nat.or_eq_zero_iff, Nat.or_eq_zero_iff, Nat.or_eq_zero_iff, c4, c11, c13, c14, c15]
      simp only [Nat.reducePow]
      constructor
      · rintro ⟨a1, a2, a3, a4, a5⟩
        split at a1 <;> split at a2 <;> split at a3 <;> split at a4 <;> split at a5 <;> omega
      · rintro ⟨a1, a2, a3⟩
        refine ⟨?_, ?_, ?_, ?_, ?_⟩ <;> (rw [if_neg (by omega)])
    by_cases h : n &&& 59408 = 0
    · rw [h, decide_eq_true (ez.mp h)]; rfl
    · rw [decide_eq_false (fun h' => h (ez.mpr h'))]
      exact beq_eq_false_iff_ne.mpr (by omega)
  have et : (andE IntKind.u16 (andE IntKind.u16 (n : Int) (200 : Int)) (wr .u16 ((andE IntKind.u16 (n : Int) (200 : Int)) - 1)) == 0) = decide ((n : Int) / 8 % 2 + (n : Int) / 64 % 2 + (n : Int) / 128 % 2 ≤ 1) := by
    rw [show (200 : Int) = ((200 : Nat) : Int) from rfl, and_nat hn (by decide)]
    have eo : n &&& 200 = (n &&& 2 ^ 3) ||| ((n &&& 2 ^ 6) ||| (n &&& 2 ^ 7)) := by
      rw [← Nat.and_or_distrib_left, ← Nat.and_or_distrib_left]; rfl
    rw [eo, c3, c6, c7]
    simp only [Nat.reducePow]
    by_cases a3 : n / 8 % 2 = 1 <;> by_cases a6 : n / 64 % 2 = 1 <;> by_cases a7 : n / 128 % 2 = 1 <;> simp only [a3, a6, a7, if_true, if_false]
    all_goals first
      | (rw [decide_eq_true (by omega)]; decide +kernel)
      | (rw [decide_eq_false (by omega)]; decide +kernel)
  rw [en, et]
  unfold rt
  cases bt (n : Int) ((2 ^ 1 : Nat) : Int) with
  | false => rfl
  | true => cases decide ((n : Int) / 16 % 2 = 0 ∧ (n : Int) / 2048 % 2 = 0 ∧ (n : Int) < 8192) <;> rfl
end Go.Proofs.Ytalghbndblgndaa.Ev
