/- Numbers by digits of 16 bits, the lowest first, and their one form. Plain arithmetic. -/
import Derived.Test.YtkpjeihgigmnkaaEvM
namespace Go.Proofs.Ytkpjeihgigmnkaa.NumM
open Go Go.Proofs.Ytkpjeihgigmnkaa.Ev
set_option linter.unusedVariables false

def val : List Int → Int
  | [] => 0
  | d :: l => d + 65536 * val l
def Dig (l : List Int) : Prop := ∀ x ∈ l, 0 ≤ x ∧ x < 65536
/-- A digit, 0 beyond the end. -/
def at_ (l : List Int) (i : Nat) : Int := l.getD i 0
/-- What the n lowest digits are worth. -/
def low (l : List Int) : Nat → Int
  | 0 => 0
  | n + 1 => low l n + at_ l n * 65536 ^ n
def cmpI (x y : Int) : Int := if x < y then -1 else if x > y then 1 else 0

theorem Dig.tail {d : Int} {l : List Int} (h : Dig (d :: l)) : Dig l := fun x hx => h x (List.mem_cons_of_mem _ hx)
theorem Dig.head {d : Int} {l : List Int} (h : Dig (d :: l)) : 0 ≤ d ∧ d < 65536 := h d List.mem_cons_self
theorem at_bd {l : List Int} (h : Dig l) (i : Nat) : 0 ≤ at_ l i ∧ at_ l i < 65536 := by
  unfold at_
  rcases Nat.lt_or_ge i l.length with hi | hi
  · rw [List.getD_eq_getElem?_getD, List.getElem?_eq_getElem hi]
    exact h _ (List.getElem_mem hi)
  · rw [List.getD_eq_getElem?_getD, List.getElem?_eq_none hi]
    simp
theorem at_ge {l : List Int} {i : Nat} (h : l.length ≤ i) : at_ l i = 0 := by
  unfold at_
  rw [List.getD_eq_getElem?_getD, List.getElem?_eq_none h]; rfl
theorem pw_pos (n : Nat) : (0 : Int) < 65536 ^ n := Int.pow_pos (by decide)
theorem pw_succ (n : Nat) : (65536 : Int) ^ (n + 1) = 65536 * 65536 ^ n := by rw [Int.pow_succ, Int.mul_comm]
theorem pw_le {m n : Nat} (h : m ≤ n) : (65536 : Int) ^ m ≤ 65536 ^ n := by
  obtain ⟨d, rfl⟩ := Nat.exists_eq_add_of_le h
  induction d with
  | zero => simp
  | succ d ih =>
    have h1 := ih (by omega)
    have h2 := pw_succ (m + d)
    have h3 := pw_pos (m + d)
    rw [← Nat.add_assoc, h2]; omega

theorem val_bd : ∀ {l : List Int}, Dig l → 0 ≤ val l ∧ val l < 65536 ^ l.length
  | [], _ => by simp [val]
  | d :: l, h => by
    have h1 := val_bd h.tail
    have h2 := h.head
    simp only [val, List.length_cons, pw_succ]
    omega
theorem low_bd {l : List Int} (h : Dig l) : ∀ n, 0 ≤ low l n ∧ low l n < 65536 ^ n
  | 0 => by simp [low]
  | n + 1 => by
    have h1 := low_bd h n
    have h2 := at_bd h n
    have h3 := pw_pos n
    have h4 : 0 ≤ at_ l n * 65536 ^ n := Int.mul_nonneg h2.1 (by omega)
    have h5 : at_ l n * 65536 ^ n ≤ 65535 * 65536 ^ n := Int.mul_le_mul_of_nonneg_right (by omega) (by omega)
    simp only [low, pw_succ]
    omega
theorem low_cons (d : Int) (l : List Int) : ∀ n, low (d :: l) (n + 1) = d + 65536 * low l n
  | 0 => by simp [low, at_]
  | n + 1 => by
    rw [show low (d :: l) (n + 1 + 1) = low (d :: l) (n + 1) + at_ (d :: l) (n + 1) * 65536 ^ (n + 1) from rfl, low_cons d l n]
    have e : at_ (d :: l) (n + 1) = at_ l n := by simp [at_]
    rw [e, pw_succ]
    simp only [low]
    grind
theorem low_all : ∀ (l : List Int) (n : Nat), l.length ≤ n → low l n = val l
  | [], n, _ => by
    induction n with
    | zero => rfl
    | succ n ih => simp [low, val, at_] at *; exact ih
  | d :: l, 0, h => by simp at h
  | d :: l, n + 1, h => by
    rw [low_cons, low_all l n (by simpa using h)]; rfl
theorem val_set : ∀ (l : List Int) (j : Nat) (v : Int), j < l.length → val (l.set j v) = val l + (v - at_ l j) * 65536 ^ j
  | [], j, v, h => by simp at h
  | d :: l, 0, v, _ => by simp [val, at_]; omega
  | d :: l, j + 1, v, h => by
    have e : at_ (d :: l) (j + 1) = at_ l j := by simp [at_]
    rw [List.set_cons_succ, e, pw_succ]
    simp only [val]
    rw [val_set l j v (by simpa using h)]
    grind
theorem Dig.set {l : List Int} (h : Dig l) (j : Nat) {v : Int} (hv : 0 ≤ v ∧ v < 65536) : Dig (l.set j v) := by
  intro x hx
  rcases List.mem_or_eq_of_mem_set hx with h1 | rfl
  · exact h x h1
  · exact hv
theorem val_zero (n : Nat) : val (List.replicate n 0) = 0 := by
  induction n with
  | zero => rfl
  | succ n ih => simp [List.replicate_succ, val, ih]
theorem Dig.zero (n : Nat) : Dig (List.replicate n 0) := by
  intro x hx
  rw [List.mem_replicate] at hx
  omega
theorem low_succ (l : List Int) (n : Nat) : low l (n + 1) = low l n + at_ l n * 65536 ^ n := rfl
theorem cmpI_lt {x y : Int} (h : x < y) : cmpI x y = -1 := by unfold cmpI; rw [if_pos h]
theorem cmpI_gt {x y : Int} (h : x > y) : cmpI x y = 1 := by unfold cmpI; rw [if_neg (by omega), if_pos h]
theorem cmpI_add {x y p q : Int} (h : p - x = q - y) : cmpI x y = cmpI p q := by unfold cmpI; split <;> split <;> (try split) <;> (try split) <;> omega
theorem cmpI_self (x : Int) : cmpI x x = 0 := by simp [cmpI]
theorem cmpI_le (x y : Int) : cmpI x y ≤ 0 ↔ x ≤ y := by unfold cmpI; split <;> (try split) <;> omega
theorem cmpI_zero (x y : Int) : cmpI x y = 0 ↔ x = y := by unfold cmpI; split <;> (try split) <;> omega

/-- One digit of a product: what the numbers are worth before and after. -/
theorem times_step {V T a L t c o x P K B : Int} (hx : x = o + a * t + c) (hB : B = P * K) (hv : V + c * B = T + a * L * P) :
    V + (x % 65536 - o) * B + x / 65536 * (65536 * B) = T + a * (L + t * K) * P := by
  have e2 : x = 65536 * (x / 65536) + x % 65536 := by omega
  generalize x / 65536 = q at *
  generalize x % 65536 = r at *
  subst hB
  grind

/-- The eight digits of a number of two words. -/
def digs (hi lo : Int) : List Int := [lo % 65536, lo / 65536 % 65536, lo / 4294967296 % 65536, lo / 281474976710656 % 65536, hi % 65536, hi / 65536 % 65536, hi / 4294967296 % 65536, hi / 281474976710656 % 65536]
def wide (hi lo : Int) : Int := hi * 18446744073709551616 + lo
theorem digs_val {hi lo : Int} (h0 : 0 ≤ hi) (h1 : hi < 18446744073709551616) (l0 : 0 ≤ lo) (l1 : lo < 18446744073709551616) : val (digs hi lo) = wide hi lo := by
  simp only [digs, val, wide]; omega
theorem digs_dig (hi lo : Int) : Dig (digs hi lo) := by
  intro x hx
  simp only [digs, List.mem_cons, List.not_mem_nil, or_false] at hx
  omega
theorem digs_len (hi lo : Int) : (digs hi lo).length = 8 := rfl

/-- The greatest number at which a test holds that holds up to it: one alone. -/
theorem top_unique {P : Int → Prop} (hP : ∀ x y, 0 ≤ x → x ≤ y → P y → P x) {r s : Int} (hr0 : 0 ≤ r) (hs0 : 0 ≤ s) (hr : P r) (hr1 : ¬ P (r + 1)) (hs : P s) (hs1 : ¬ P (s + 1)) : r = s := by
  rcases Int.lt_trichotomy r s with h | h | h
  · exact absurd (hP (r + 1) s (by omega) (by omega) hs) hr1
  · exact h
  · exact absurd (hP (s + 1) r (by omega) (by omega) hr) hs1

end Go.Proofs.Ytkpjeihgigmnkaa.NumM
namespace Go.Proofs.Ytkpjeihgigmnkaa.NumM
open Go Go.Proofs.Ytkpjeihgigmnkaa.Ev
set_option linter.unusedVariables false

theorem val_app : ∀ (l : List Int) (d : Int), val (l ++ [d]) = val l + d * 65536 ^ l.length
  | [], d => by simp [val]
  | x :: l, d => by
    simp only [List.cons_append, val, List.length_cons, pw_succ, val_app l d, Int.mul_add, ← Int.mul_assoc, Int.mul_comm d]
    omega
theorem Dig.app {l : List Int} (h : Dig l) {d : Int} (hd : 0 ≤ d ∧ d < 65536) : Dig (l ++ [d]) := by
  intro x hx
  rcases List.mem_append.1 hx with h1 | h1
  · exact h x h1
  · rw [List.mem_singleton.1 h1]; exact hd
theorem Dig.drop {l : List Int} (h : Dig l) (n : Nat) : Dig (l.drop n) := fun x hx => h x (List.mem_of_mem_drop hx)
theorem val_split (l : List Int) : ∀ n, val l = low l n + 65536 ^ n * val (l.drop n)
  | 0 => by simp [low]
  | n + 1 => by
    rw [val_split l n, low_succ]
    rcases Nat.lt_or_ge n l.length with h | h
    · rw [List.drop_eq_getElem_cons h]
      have e : l[n] = at_ l n := by simp [at_, h]
      simp only [val, e, pw_succ]
      grind
    · rw [List.drop_eq_nil_of_le h, List.drop_eq_nil_of_le (by omega), at_ge h]; simp [val]
theorem low_eq {l : List Int} (h : Dig l) {n : Nat} (hv : val l < 65536 ^ n) : low l n = val l := by
  have h1 := val_split l n
  have h2 := (val_bd (h.drop n)).1
  have h3 := low_bd h n
  have h4 := pw_pos n
  rcases Int.lt_or_le 0 (val (l.drop n)) with h5 | h5
  · have := Int.mul_le_mul_of_nonneg_left (show 1 ≤ val (l.drop n) by omega) (Int.le_of_lt h4)
    omega
  · rw [show val (l.drop n) = 0 by omega] at h1; omega
theorem drop_zero_iff {l : List Int} (h : Dig l) (n : Nat) : val (l.drop n) = 0 ↔ val l < 65536 ^ n := by
  have h1 := val_split l n
  have h2 := (val_bd (h.drop n)).1
  have h3 := low_bd h n
  have h4 := pw_pos n
  constructor
  · intro h5; rw [h5] at h1; omega
  · intro h5; have h6 := low_eq h h5
    rw [h6] at h1
    have h7 : 65536 ^ n * val (l.drop n) = 0 := by omega
    rcases Int.mul_eq_zero.1 h7 with h8 | h8
    · omega
    · exact h8
theorem at_val {l : List Int} (h : Dig l) (j : Nat) : at_ l j = val l / 65536 ^ j % 65536 := by
  have h1 := val_split l j
  have h3 := low_bd h j
  have h4 := pw_pos j
  have h5 : val l / 65536 ^ j = val (l.drop j) := by
    rw [h1, Int.add_mul_ediv_left _ _ (by omega), Int.ediv_eq_zero_of_lt h3.1 h3.2, Int.zero_add]
  rw [h5]
  rcases Nat.lt_or_ge j l.length with hj | hj
  · rw [List.drop_eq_getElem_cons hj]
    have e : l[j] = at_ l j := by simp [at_, hj]
    have b := at_bd h j
    simp only [val, e]; omega
  · rw [List.drop_eq_nil_of_le hj, at_ge hj]; simp [val]
theorem p2_pos (i : Nat) : (0 : Int) < 2 ^ i := Int.pow_pos (by decide)
theorem p2_16 (j s : Nat) : (2 : Int) ^ (16 * j + s) = 65536 ^ j * 2 ^ s := by rw [Int.pow_add, Int.pow_mul]; rfl
theorem lit_bit (x : Int) (s : Nat) (hs : s < 16) : x % 65536 / 2 ^ s % 2 = x / 2 ^ s % 2 := by
  have : s = 0 ∨ s = 1 ∨ s = 2 ∨ s = 3 ∨ s = 4 ∨ s = 5 ∨ s = 6 ∨ s = 7 ∨ s = 8 ∨ s = 9 ∨ s = 10 ∨ s = 11 ∨ s = 12 ∨ s = 13 ∨ s = 14 ∨ s = 15 := by omega
  rcases this with h | h | h | h | h | h | h | h | h | h | h | h | h | h | h | h <;> subst h <;> omega
theorem bit_val {l : List Int} (h : Dig l) (i : Nat) : at_ l (i / 16) / 2 ^ (i % 16) % 2 = val l / 2 ^ i % 2 := by
  rw [at_val h, lit_bit _ _ (Nat.mod_lt _ (by decide)), Int.ediv_ediv_of_nonneg (Int.le_of_lt (pw_pos _)), ← p2_16, Nat.div_add_mod]
/-- Where the bits below a place are 0, one more bit there fits into its digit. -/
theorem room {l : List Int} (h : Dig l) (j s : Nat) (hs : s < 16) (m : Int) (hm : val l = m * 2 ^ (16 * j + s + 1)) : at_ l j + 2 ^ s < 65536 := by
  have e : at_ l j = m * 2 ^ (s + 1) % 65536 := by
    rw [at_val h, hm, show 16 * j + s + 1 = 16 * j + (s + 1) by omega, p2_16, Int.mul_comm (65536 ^ j), ← Int.mul_assoc, Int.mul_ediv_cancel _ (by have := pw_pos j; omega)]
  have b := at_bd h j
  rw [e] at b ⊢
  clear e h hm
  have : s = 0 ∨ s = 1 ∨ s = 2 ∨ s = 3 ∨ s = 4 ∨ s = 5 ∨ s = 6 ∨ s = 7 ∨ s = 8 ∨ s = 9 ∨ s = 10 ∨ s = 11 ∨ s = 12 ∨ s = 13 ∨ s = 14 ∨ s = 15 := by omega
  rcases this with h | h | h | h | h | h | h | h | h | h | h | h | h | h | h | h <;> subst h <;> omega

end Go.Proofs.Ytkpjeihgigmnkaa.NumM
namespace Go.Proofs.Ytkpjeihgigmnkaa.NumM
set_option linter.unusedVariables false

/-- The digits of a number, none of them beyond the highest that is not 0. -/
def cd (z : Nat) : List Int := if h : z = 0 then [] else ((z % 65536 : Nat) : Int) :: cd (z / 65536)
termination_by z
decreasing_by exact Nat.div_lt_self (Nat.pos_of_ne_zero h) (by decide)
theorem cd_zero : cd 0 = [] := by rw [cd]; rfl
theorem cd_pos {z : Nat} (h : 0 < z) : cd z = ((z % 65536 : Nat) : Int) :: cd (z / 65536) := by rw [cd, dif_neg (by omega)]
theorem cd_dig (z : Nat) : Dig (cd z) := by
  induction z using Nat.strongRecOn with
  | _ z ih =>
    rcases Nat.eq_zero_or_pos z with h | h
    · subst h; rw [cd_zero]; intro x hx; cases hx
    · rw [cd_pos h]
      intro x hx
      rcases List.mem_cons.1 hx with e | e
      · subst e; have := Nat.mod_lt z (show 0 < 65536 by decide); omega
      · exact ih (z / 65536) (Nat.div_lt_self h (by decide)) x e
theorem cd_val (z : Nat) : val (cd z) = z := by
  induction z using Nat.strongRecOn with
  | _ z ih =>
    rcases Nat.eq_zero_or_pos z with h | h
    · subst h; rw [cd_zero]; rfl
    · rw [cd_pos h, val, ih (z / 65536) (Nat.div_lt_self h (by decide))]
      have := Nat.mod_add_div z 65536
      omega
theorem cd_nil {z : Nat} : cd z = [] ↔ z = 0 := by
  constructor
  · intro h
    rcases Nat.eq_zero_or_pos z with q | q
    · exact q
    · rw [cd_pos q] at h; cases h
  · rintro rfl; exact cd_zero
theorem val_append : ∀ (a b : List Int), val (a ++ b) = val a + 65536 ^ a.length * val b
  | [], b => by simp [val]
  | d :: a, b => by
    simp only [List.cons_append, val, List.length_cons, val_append a b, pw_succ, Int.mul_add, Int.mul_assoc]
    omega
theorem val_zeros : ∀ (l : List Int), (∀ x ∈ l, x = 0) → val l = 0
  | [], _ => rfl
  | d :: l, h => by
    have h1 := h d List.mem_cons_self
    have h2 := val_zeros l (fun x hx => h x (List.mem_cons_of_mem _ hx))
    simp only [val, h1, h2]; rfl
/-- In the one form: no 0 at the end. -/
def CanF (l : List Int) : Prop := Dig l ∧ ∀ h : l ≠ [], l.getLast h ≠ 0
theorem can_pos : ∀ {l : List Int}, CanF l → l ≠ [] → 0 < val l
  | [], _, h => absurd rfl h
  | [d], hc, _ => by
    have h1 := hc.1.head
    have h2 := hc.2 (by simp)
    simp only [List.getLast_singleton] at h2
    simp only [val]; omega
  | d :: e :: l, hc, _ => by
    have h1 := hc.1.head
    have h2 := can_pos (l := e :: l) ⟨hc.1.tail, fun h => by have := hc.2 (by simp); rwa [List.getLast_cons h] at this⟩ (by simp)
    rw [val]; omega
theorem can_cd : ∀ {l : List Int}, CanF l → l = cd (val l).toNat
  | [], _ => by simp [val, cd_zero]
  | [d], hc => by
    have h1 := hc.1.head
    have h2 := hc.2 (by simp)
    simp only [List.getLast_singleton] at h2
    have e : val [d] = d := by simp [val]
    rw [e, cd_pos (by omega), show d.toNat / 65536 = 0 from Nat.div_eq_of_lt (by omega), cd_zero, Nat.mod_eq_of_lt (by omega)]
    simp; omega
  | d :: e :: l, hc => by
    have h1 := hc.1.head
    have hc2 : CanF (e :: l) := ⟨hc.1.tail, fun h => by have := hc.2 (by simp); rwa [List.getLast_cons h] at this⟩
    have ih := can_cd hc2
    have hp := can_pos hc2 (by simp)
    have ev : val (d :: e :: l) = d + 65536 * val (e :: l) := rfl
    rw [cd_pos (by rw [ev]; omega), ev]
    have e1 : (d + 65536 * val (e :: l)).toNat % 65536 = d.toNat := by omega
    have e2 : (d + 65536 * val (e :: l)).toNat / 65536 = (val (e :: l)).toNat := by omega
    rw [e1, e2, ← ih]
    congr 1; omega
theorem cd_can (z : Nat) : CanF (cd z) := by
  refine ⟨cd_dig z, ?_⟩
  induction z using Nat.strongRecOn with
  | _ z ih =>
    intro h
    rcases Nat.eq_zero_or_pos z with q | q
    · subst q; exact absurd cd_zero h
    · have e := cd_pos q
      rcases Nat.eq_zero_or_pos (z / 65536) with w | w
      · have e2 : cd z = [((z % 65536 : Nat) : Int)] := by rw [e, w, cd_zero]
        have : (cd z).getLast h = ((z % 65536 : Nat) : Int) := by simp [e2]
        rw [this]
        have := Nat.mod_add_div z 65536
        rw [w] at this; omega
      · have hn : cd (z / 65536) ≠ [] := fun c => by rw [cd_nil] at c; omega
        have := ih (z / 65536) (Nat.div_lt_self q (by decide)) hn
        have e3 : (cd z).getLast h = (cd (z / 65536)).getLast hn := by simp [e, List.getLast_cons hn]
        rw [e3]; exact this
/-- What is left when the zeros at the end are struck off. -/
theorem take_cd {l : List Int} (hd : Dig l) {n : Nat} (hn : n ≤ l.length) (hz : ∀ x ∈ l.drop n, x = 0) (hl : n = 0 ∨ at_ l (n - 1) ≠ 0) : l.take n = cd (val l).toNat := by
  have hv : val l = val (l.take n) := by
    have h := val_append (l.take n) (l.drop n)
    rw [List.take_append_drop, val_zeros _ hz, Int.mul_zero] at h
    omega
  rw [hv]
  refine can_cd ⟨fun x hx => hd x (List.mem_of_mem_take hx), fun h => ?_⟩
  rcases hl with q | q
  · subst q; exact absurd (by simp) h
  · have hlen : (l.take n).length = n := by rw [List.length_take]; omega
    have hn0 : 0 < n := by
      rcases Nat.eq_zero_or_pos n with z | z
      · subst z; exact absurd (by simp) h
      · exact z
    rw [List.getLast_eq_getElem]
    have : (l.take n)[(l.take n).length - 1]'(by omega) = at_ l (n - 1) := by
      simp [at_, hlen, List.getElem_take, show n - 1 < l.length by omega]
    rw [this]; exact q
theorem cd_len {z n : Nat} (h : (z : Int) < 65536 ^ n) : (cd z).length ≤ n := by
  induction n generalizing z with
  | zero =>
    have : z = 0 := by simp at h; omega
    subst this; rw [cd_zero]; simp
  | succ n ih =>
    rcases Nat.eq_zero_or_pos z with q | q
    · subst q; rw [cd_zero]; simp
    · rw [cd_pos q, List.length_cons]
      have := ih (z := z / 65536) (by
        rw [pw_succ] at h
        generalize (65536 : Int) ^ n = P at h ⊢
        omega)
      omega
/-- A whole number: its sign, and its digits. -/
def sd (z : Int) : Bool × List Int := (decide (z < 0), cd z.natAbs)

end Go.Proofs.Ytkpjeihgigmnkaa.NumM
