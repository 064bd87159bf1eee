/- More of numbers by digits of 16 bits: what is appended, split, and the bits. Plain arithmetic. -/
import Derived.Test.YtalgppclaolonaaNumM
namespace Go.Proofs.Ytalgppclaolonaa.NumM
open Go Go.Proofs.Ytalgppclaolonaa.Ev
set_option linter.unusedVariables false

theorem val_app : ∀ (l : List Int) (d : Int), val (l ++ [d]) = val l + d * 65536 ^ l.length
  | [], d => by simp [val]
  | x :: l, d => by
    simp only [List.cons_append, val, List.length_cons, pw_succ, val_app l d, Int.mul_add, ← Int.mul_assoc, Int.mul_comm d]
    omega
theorem Dig.app {l : List Int} (h : Dig l) {d : Int} (hd : 0 ≤ d ∧ d < 65536) : Dig (l ++ [d]) := by
  intro x hx
  rcases List.mem_append.1 hx with h1 | h1
  · exact h x h1
  · rw [List.mem_singleton.1 h1]; exact hd
theorem Dig.drop {l : List Int} (h : Dig l) (n : Nat) : Dig (l.drop n) := fun x hx => h x (List.mem_of_mem_drop hx)
theorem val_split (l : List Int) : ∀ n, val l = low l n + 65536 ^ n * val (l.drop n)
  | 0 => by simp [low]
  | n + 1 => by
    rw [val_split l n, low_succ]
    rcases Nat.lt_or_ge n l.length with h | h
    · rw [List.drop_eq_getElem_cons h]
      have e : l[n] = at_ l n := by simp [at_, h]
      simp only [val, e, pw_succ]
      grind
    · rw [List.drop_eq_nil_of_le h, List.drop_eq_nil_of_le (by omega), at_ge h]; simp [val]
theorem low_eq {l : List Int} (h : Dig l) {n : Nat} (hv : val l < 65536 ^ n) : low l n = val l := by
  have h1 := val_split l n
  have h2 := (val_bd (h.drop n)).1
  have h3 := low_bd h n
  have h4 := pw_pos n
  rcases Int.lt_or_le 0 (val (l.drop n)) with h5 | h5
  · have := Int.mul_le_mul_of_nonneg_left (show 1 ≤ val (l.drop n) by omega) (Int.le_of_lt h4)
    omega
  · rw [show val (l.drop n) = 0 by omega] at h1; omega
theorem drop_zero_iff {l : List Int} (h : Dig l) (n : Nat) : val (l.drop n) = 0 ↔ val l < 65536 ^ n := by
  have h1 := val_split l n
  have h2 := (val_bd (h.drop n)).1
  have h3 := low_bd h n
  have h4 := pw_pos n
  constructor
  · intro h5; rw [h5] at h1; omega
  · intro h5; have h6 := low_eq h h5
    rw [h6] at h1
    have h7 : 65536 ^ n * val (l.drop n) = 0 := by omega
    rcases Int.mul_eq_zero.1 h7 with h8 | h8
    · omega
    · exact h8
theorem at_val {l : List Int} (h : Dig l) (j : Nat) : at_ l j = val l / 65536 ^ j % 65536 := by
  have h1 := val_split l j
  have h3 := low_bd h j
  have h4 := pw_pos j
  have h5 : val l / 65536 ^ j = val (l.drop j) := by
    rw [h1, Int.add_mul_ediv_left _ _ (by omega), Int.ediv_eq_zero_of_lt h3.1 h3.2, Int.zero_add]
  rw [h5]
  rcases Nat.lt_or_ge j l.length with hj | hj
  · rw [List.drop_eq_getElem_cons hj]
    have e : l[j] = at_ l j := by simp [at_, hj]
    have b := at_bd h j
    simp only [val, e]; omega
  · rw [List.drop_eq_nil_of_le hj, at_ge hj]; simp [val]
theorem p2_pos (i : Nat) : (0 : Int) < 2 ^ i := Int.pow_pos (by decide)
theorem p2_16 (j s : Nat) : (2 : Int) ^ (16 * j + s) = 65536 ^ j * 2 ^ s := by rw [Int.pow_add, Int.pow_mul]; rfl
theorem lit_bit (x : Int) (s : Nat) (hs : s < 16) : x % 65536 / 2 ^ s % 2 = x / 2 ^ s % 2 := by
  have : s = 0 ∨ s = 1 ∨ s = 2 ∨ s = 3 ∨ s = 4 ∨ s = 5 ∨ s = 6 ∨ s = 7 ∨ s = 8 ∨ s = 9 ∨ s = 10 ∨ s = 11 ∨ s = 12 ∨ s = 13 ∨ s = 14 ∨ s = 15 := by omega
  rcases this with h | h | h | h | h | h | h | h | h | h | h | h | h | h | h | h <;> subst h <;> omega
theorem bit_val {l : List Int} (h : Dig l) (i : Nat) : at_ l (i / 16) / 2 ^ (i % 16) % 2 = val l / 2 ^ i % 2 := by
  rw [at_val h, lit_bit _ _ (Nat.mod_lt _ (by decide)), Int.ediv_ediv_of_nonneg (Int.le_of_lt (pw_pos _)), ← p2_16, Nat.div_add_mod]
/-- Where the bits below a place are 0, one more bit there fits into its digit. -/
theorem room {l : List Int} (h : Dig l) (j s : Nat) (hs : s < 16) (m : Int) (hm : val l = m * 2 ^ (16 * j + s + 1)) : at_ l j + 2 ^ s < 65536 := by
  have e : at_ l j = m * 2 ^ (s + 1) % 65536 := by
    rw [at_val h, hm, show 16 * j + s + 1 = 16 * j + (s + 1) by omega, p2_16, Int.mul_comm (65536 ^ j), ← Int.mul_assoc, Int.mul_ediv_cancel _ (by have := pw_pos j; omega)]
  have b := at_bd h j
  rw [e] at b ⊢
  clear e h hm
  have : s = 0 ∨ s = 1 ∨ s = 2 ∨ s = 3 ∨ s = 4 ∨ s = 5 ∨ s = 6 ∨ s = 7 ∨ s = 8 ∨ s = 9 ∨ s = 10 ∨ s = 11 ∨ s = 12 ∨ s = 13 ∨ s = 14 ∨ s = 15 := by omega
  rcases this with h | h | h | h | h | h | h | h | h | h | h | h | h | h | h | h <;> subst h <;> omega

end Go.Proofs.Ytalgppclaolonaa.NumM
