/- The one form of a number's digits. Plain arithmetic. -/
import Derived.Test.YtalgppclaolonaaNumB
namespace Go.Proofs.Ytalgppclaolonaa.NumB
set_option linter.unusedVariables false

/-- The digits of a number, none of them beyond the highest that is not 0. -/
def cd (z : Nat) : List Int := if h : z = 0 then [] else ((z % 4294967296 : Nat) : Int) :: cd (z / 4294967296)
termination_by z
decreasing_by exact Nat.div_lt_self (Nat.pos_of_ne_zero h) (by decide)
theorem cd_zero : cd 0 = [] := by rw [cd]; rfl
theorem cd_pos {z : Nat} (h : 0 < z) : cd z = ((z % 4294967296 : Nat) : Int) :: cd (z / 4294967296) := by rw [cd, dif_neg (by omega)]
theorem cd_dig (z : Nat) : Dig (cd z) := by
  induction z using Nat.strongRecOn with
  | _ z ih =>
    rcases Nat.eq_zero_or_pos z with h | h
    · subst h; rw [cd_zero]; intro x hx; cases hx
    · rw [cd_pos h]
      intro x hx
      rcases List.mem_cons.1 hx with e | e
      · subst e; have := Nat.mod_lt z (show 0 < 4294967296 by decide); omega
      · exact ih (z / 4294967296) (Nat.div_lt_self h (by decide)) x e
theorem cd_val (z : Nat) : val (cd z) = z := by
  induction z using Nat.strongRecOn with
  | _ z ih =>
    rcases Nat.eq_zero_or_pos z with h | h
    · subst h; rw [cd_zero]; rfl
    · rw [cd_pos h, val, ih (z / 4294967296) (Nat.div_lt_self h (by decide))]
      have := Nat.mod_add_div z 4294967296
      omega
theorem cd_nil {z : Nat} : cd z = [] ↔ z = 0 := by
  constructor
  · intro h
    rcases Nat.eq_zero_or_pos z with q | q
    · exact q
    · rw [cd_pos q] at h; cases h
  · rintro rfl; exact cd_zero
theorem val_append : ∀ (a b : List Int), val (a ++ b) = val a + 4294967296 ^ a.length * val b
  | [], b => by simp [val]
  | d :: a, b => by
    simp only [List.cons_append, val, List.length_cons, val_append a b, pw_succ, Int.mul_add, Int.mul_assoc]
    omega
theorem val_zeros : ∀ (l : List Int), (∀ x ∈ l, x = 0) → val l = 0
  | [], _ => rfl
  | d :: l, h => by
    have h1 := h d List.mem_cons_self
    have h2 := val_zeros l (fun x hx => h x (List.mem_cons_of_mem _ hx))
    simp only [val, h1, h2]; rfl
/-- In the one form: no 0 at the end. -/
def CanF (l : List Int) : Prop := Dig l ∧ ∀ h : l ≠ [], l.getLast h ≠ 0
theorem can_pos : ∀ {l : List Int}, CanF l → l ≠ [] → 0 < val l
  | [], _, h => absurd rfl h
  | [d], hc, _ => by
    have h1 := hc.1.head
    have h2 := hc.2 (by simp)
    simp only [List.getLast_singleton] at h2
    simp only [val]; omega
  | d :: e :: l, hc, _ => by
    have h1 := hc.1.head
    have h2 := can_pos (l := e :: l) ⟨hc.1.tail, fun h => by have := hc.2 (by simp); rwa [List.getLast_cons h] at this⟩ (by simp)
    rw [val]; omega
theorem can_cd : ∀ {l : List Int}, CanF l → l = cd (val l).toNat
  | [], _ => by simp [val, cd_zero]
  | [d], hc => by
    have h1 := hc.1.head
    have h2 := hc.2 (by simp)
    simp only [List.getLast_singleton] at h2
    have e : val [d] = d := by simp [val]
    rw [e, cd_pos (by omega), show d.toNat / 4294967296 = 0 from Nat.div_eq_of_lt (by omega), cd_zero, Nat.mod_eq_of_lt (by omega)]
    simp; omega
  | d :: e :: l, hc => by
    have h1 := hc.1.head
    have hc2 : CanF (e :: l) := ⟨hc.1.tail, fun h => by have := hc.2 (by simp); rwa [List.getLast_cons h] at this⟩
    have ih := can_cd hc2
    have hp := can_pos hc2 (by simp)
    have ev : val (d :: e :: l) = d + 4294967296 * val (e :: l) := rfl
    rw [cd_pos (by rw [ev]; omega), ev]
    have e1 : (d + 4294967296 * val (e :: l)).toNat % 4294967296 = d.toNat := by omega
    have e2 : (d + 4294967296 * val (e :: l)).toNat / 4294967296 = (val (e :: l)).toNat := by omega
    rw [e1, e2, ← ih]
    congr 1; omega
theorem cd_can (z : Nat) : CanF (cd z) := by
  refine ⟨cd_dig z, ?_⟩
  induction z using Nat.strongRecOn with
  | _ z ih =>
    intro h
    rcases Nat.eq_zero_or_pos z with q | q
    · subst q; exact absurd cd_zero h
    · have e := cd_pos q
      rcases Nat.eq_zero_or_pos (z / 4294967296) with w | w
      · have e2 : cd z = [((z % 4294967296 : Nat) : Int)] := by rw [e, w, cd_zero]
        have : (cd z).getLast h = ((z % 4294967296 : Nat) : Int) := by simp [e2]
        rw [this]
        have := Nat.mod_add_div z 4294967296
        rw [w] at this; omega
      · have hn : cd (z / 4294967296) ≠ [] := fun c => by rw [cd_nil] at c; omega
        have := ih (z / 4294967296) (Nat.div_lt_self q (by decide)) hn
        have e3 : (cd z).getLast h = (cd (z / 4294967296)).getLast hn := by simp [e, List.getLast_cons hn]
        rw [e3]; exact this
/-- What is left when the zeros at the end are struck off. -/
theorem take_cd {l : List Int} (hd : Dig l) {n : Nat} (hn : n ≤ l.length) (hz : ∀ x ∈ l.drop n, x = 0) (hl : n = 0 ∨ at_ l (n - 1) ≠ 0) : l.take n = cd (val l).toNat := by
  have hv : val l = val (l.take n) := by
    have h := val_append (l.take n) (l.drop n)
    rw [List.take_append_drop, val_zeros _ hz, Int.mul_zero] at h
    omega
  rw [hv]
  refine can_cd ⟨fun x hx => hd x (List.mem_of_mem_take hx), fun h => ?_⟩
  rcases hl with q | q
  · subst q; exact absurd (by simp) h
  · have hlen : (l.take n).length = n := by rw [List.length_take]; omega
    have hn0 : 0 < n := by
      rcases Nat.eq_zero_or_pos n with z | z
      · subst z; exact absurd (by simp) h
      · exact z
    rw [List.getLast_eq_getElem]
    have : (l.take n)[(l.take n).length - 1]'(by omega) = at_ l (n - 1) := by
      simp [at_, hlen, List.getElem_take, show n - 1 < l.length by omega]
    rw [this]; exact q
theorem cd_len {z n : Nat} (h : (z : Int) < 4294967296 ^ n) : (cd z).length ≤ n := by
  induction n generalizing z with
  | zero =>
    have : z = 0 := by simp at h; omega
    subst this; rw [cd_zero]; simp
  | succ n ih =>
    rcases Nat.eq_zero_or_pos z with q | q
    · subst q; rw [cd_zero]; simp
    · rw [cd_pos q, List.length_cons]
      have := ih (z := z / 4294967296) (by
        rw [pw_succ] at h
        generalize (4294967296 : Int) ^ n = P at h ⊢
        omega)
      omega
/-- A whole number: its sign, and its digits. -/
def sd (z : Int) : Bool × List Int := (decide (z < 0), cd z.natAbs)

end Go.Proofs.Ytalgppclaolonaa.NumB
