/- Numbers by digits of 16 bits, the lowest first: what a list of digits is worth, digit by digit. Plain arithmetic. -/
import Derived.Test.YtalgppclaolonaaEvM
namespace Go.Proofs.Ytalgppclaolonaa.NumM
open Go Go.Proofs.Ytalgppclaolonaa.Ev
set_option linter.unusedVariables false

def val : List Int → Int
  | [] => 0
  | d :: l => d + 65536 * val l
def Dig (l : List Int) : Prop := ∀ x ∈ l, 0 ≤ x ∧ x < 65536
/-- A digit, 0 beyond the end. -/
def at_ (l : List Int) (i : Nat) : Int := l.getD i 0
/-- What the n lowest digits are worth. -/
def low (l : List Int) : Nat → Int
  | 0 => 0
  | n + 1 => low l n + at_ l n * 65536 ^ n
def cmpI (x y : Int) : Int := if x < y then -1 else if x > y then 1 else 0

theorem Dig.tail {d : Int} {l : List Int} (h : Dig (d :: l)) : Dig l := fun x hx => h x (List.mem_cons_of_mem _ hx)
theorem Dig.head {d : Int} {l : List Int} (h : Dig (d :: l)) : 0 ≤ d ∧ d < 65536 := h d List.mem_cons_self
theorem at_bd {l : List Int} (h : Dig l) (i : Nat) : 0 ≤ at_ l i ∧ at_ l i < 65536 := by
  unfold at_
  rcases Nat.lt_or_ge i l.length with hi | hi
  · rw [List.getD_eq_getElem?_getD, List.getElem?_eq_getElem hi]
    exact h _ (List.getElem_mem hi)
  · rw [List.getD_eq_getElem?_getD, List.getElem?_eq_none hi]
    simp
theorem at_ge {l : List Int} {i : Nat} (h : l.length ≤ i) : at_ l i = 0 := by
  unfold at_
  rw [List.getD_eq_getElem?_getD, List.getElem?_eq_none h]; rfl
theorem pw_pos (n : Nat) : (0 : Int) < 65536 ^ n := Int.pow_pos (by decide)
theorem pw_succ (n : Nat) : (65536 : Int) ^ (n + 1) = 65536 * 65536 ^ n := by rw [Int.pow_succ, Int.mul_comm]
theorem pw_le {m n : Nat} (h : m ≤ n) : (65536 : Int) ^ m ≤ 65536 ^ n := by
  obtain ⟨d, rfl⟩ := Nat.exists_eq_add_of_le h
  induction d with
  | zero => simp
  | succ d ih =>
    have h1 := ih (by omega)
    have h2 := pw_succ (m + d)
    have h3 := pw_pos (m + d)
    rw [← Nat.add_assoc, h2]; omega

theorem val_bd : ∀ {l : List Int}, Dig l → 0 ≤ val l ∧ val l < 65536 ^ l.length
  | [], _ => by simp [val]
  | d :: l, h => by
    have h1 := val_bd h.tail
    have h2 := h.head
    simp only [val, List.length_cons, pw_succ]
    omega
theorem low_bd {l : List Int} (h : Dig l) : ∀ n, 0 ≤ low l n ∧ low l n < 65536 ^ n
  | 0 => by simp [low]
  | n + 1 => by
    have h1 := low_bd h n
    have h2 := at_bd h n
    have h3 := pw_pos n
    have h4 : 0 ≤ at_ l n * 65536 ^ n := Int.mul_nonneg h2.1 (by omega)
    have h5 : at_ l n * 65536 ^ n ≤ 65535 * 65536 ^ n := Int.mul_le_mul_of_nonneg_right (by omega) (by omega)
    simp only [low, pw_succ]
    omega
theorem low_cons (d : Int) (l : List Int) : ∀ n, low (d :: l) (n + 1) = d + 65536 * low l n
  | 0 => by simp [low, at_]
  | n + 1 => by
    rw [show low (d :: l) (n + 1 + 1) = low (d :: l) (n + 1) + at_ (d :: l) (n + 1) * 65536 ^ (n + 1) from rfl, low_cons d l n]
    have e : at_ (d :: l) (n + 1) = at_ l n := by simp [at_]
    rw [e, pw_succ]
    simp only [low]
    grind
theorem low_all : ∀ (l : List Int) (n : Nat), l.length ≤ n → low l n = val l
  | [], n, _ => by
    induction n with
    | zero => rfl
    | succ n ih => simp [low, val, at_] at *; exact ih
  | d :: l, 0, h => by simp at h
  | d :: l, n + 1, h => by
    rw [low_cons, low_all l n (by simpa using h)]; rfl
theorem val_set : ∀ (l : List Int) (j : Nat) (v : Int), j < l.length → val (l.set j v) = val l + (v - at_ l j) * 65536 ^ j
  | [], j, v, h => by simp at h
  | d :: l, 0, v, _ => by simp [val, at_]; omega
  | d :: l, j + 1, v, h => by
    have e : at_ (d :: l) (j + 1) = at_ l j := by simp [at_]
    rw [List.set_cons_succ, e, pw_succ]
    simp only [val]
    rw [val_set l j v (by simpa using h)]
    grind
theorem Dig.set {l : List Int} (h : Dig l) (j : Nat) {v : Int} (hv : 0 ≤ v ∧ v < 65536) : Dig (l.set j v) := by
  intro x hx
  rcases List.mem_or_eq_of_mem_set hx with h1 | rfl
  · exact h x h1
  · exact hv
theorem val_zero (n : Nat) : val (List.replicate n 0) = 0 := by
  induction n with
  | zero => rfl
  | succ n ih => simp [List.replicate_succ, val, ih]
theorem Dig.zero (n : Nat) : Dig (List.replicate n 0) := by
  intro x hx
  rw [List.mem_replicate] at hx
  omega
theorem low_succ (l : List Int) (n : Nat) : low l (n + 1) = low l n + at_ l n * 65536 ^ n := rfl
theorem cmpI_lt {x y : Int} (h : x < y) : cmpI x y = -1 := by unfold cmpI; rw [if_pos h]
theorem cmpI_gt {x y : Int} (h : x > y) : cmpI x y = 1 := by unfold cmpI; rw [if_neg (by omega), if_pos h]
theorem cmpI_add {x y p q : Int} (h : p - x = q - y) : cmpI x y = cmpI p q := by unfold cmpI; split <;> split <;> (try split) <;> (try split) <;> omega
theorem cmpI_self (x : Int) : cmpI x x = 0 := by simp [cmpI]
theorem cmpI_le (x y : Int) : cmpI x y ≤ 0 ↔ x ≤ y := by unfold cmpI; split <;> (try split) <;> omega
theorem cmpI_zero (x y : Int) : cmpI x y = 0 ↔ x = y := by unfold cmpI; split <;> (try split) <;> omega

/-- One digit of a product: what the numbers are worth before and after. -/
theorem times_step {V T a L t c o x P K B : Int} (hx : x = o + a * t + c) (hB : B = P * K) (hv : V + c * B = T + a * L * P) :
    V + (x % 65536 - o) * B + x / 65536 * (65536 * B) = T + a * (L + t * K) * P := by
  have e2 : x = 65536 * (x / 65536) + x % 65536 := by omega
  generalize x / 65536 = q at *
  generalize x % 65536 = r at *
  subst hB
  grind

/-- The eight digits of a number of two words. -/
def digs (hi lo : Int) : List Int := [lo % 65536, lo / 65536 % 65536, lo / 4294967296 % 65536, lo / 281474976710656 % 65536, hi % 65536, hi / 65536 % 65536, hi / 4294967296 % 65536, hi / 281474976710656 % 65536]
def wide (hi lo : Int) : Int := hi * 18446744073709551616 + lo
theorem digs_val {hi lo : Int} (h0 : 0 ≤ hi) (h1 : hi < 18446744073709551616) (l0 : 0 ≤ lo) (l1 : lo < 18446744073709551616) : val (digs hi lo) = wide hi lo := by
  simp only [digs, val, wide]; omega
theorem digs_dig (hi lo : Int) : Dig (digs hi lo) := by
  intro x hx
  simp only [digs, List.mem_cons, List.not_mem_nil, or_false] at hx
  omega
theorem digs_len (hi lo : Int) : (digs hi lo).length = 8 := rfl

/-- The greatest number at which a test holds that holds up to it: one alone. -/
theorem top_unique {P : Int → Prop} (hP : ∀ x y, 0 ≤ x → x ≤ y → P y → P x) {r s : Int} (hr0 : 0 ≤ r) (hs0 : 0 ≤ s) (hr : P r) (hr1 : ¬ P (r + 1)) (hs : P s) (hs1 : ¬ P (s + 1)) : r = s := by
  rcases Int.lt_trichotomy r s with h | h | h
  · exact absurd (hP (r + 1) s (by omega) (by omega) hs) hr1
  · exact h
  · exact absurd (hP (s + 1) r (by omega) (by omega) hr) hs1

end Go.Proofs.Ytalgppclaolonaa.NumM
