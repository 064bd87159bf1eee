/- What the colours of a contour are like: all channels; change at the corners, and nowhere else. -/
import Derived.Test.YtalgppclaolonaaXColrColA0

namespace Go.Proofs.Ytalgppclaolonaa.XColr
open Go.RowKit Go.Proofs.Ytalgppclaolonaa.XM Go.Proofs.Ytalgppclaolonaa.NumM Go.Proofs.YtalgppclaolonaaW.PrintWords Go.Proofs.YtalgppclaolonaaW.PrintLast Go.Proofs.YtalgppclaolonaaW.PrintMore
set_option linter.unusedVariables false
set_option linter.unusedSimpArgs false

theorem B_vals (j k : Nat) : B j k = 3 ∨ B j k = 5 ∨ B j k = 6 := by
  unfold B; (repeat' split) <;> simp
theorem B_next {j k : Nat} (h1 : 1 ≤ j) (h2 : j < k) : B j k ≠ B (j - 1) k := by
  unfold B
  intro h
  (repeat' split at h) <;> omega
theorem B_round {k : Nat} (h : 2 ≤ k) : B 0 k ≠ B (k - 1) k := by
  unfold B
  intro h
  (repeat' split at h) <;> omega
theorem B_01 {k : Nat} (h : 2 ≤ k) : B 0 k ≠ B 1 k := by
  unfold B
  intro h
  (repeat' split at h) <;> omega
theorem T_vals (i m : Nat) : T i m = 5 ∨ T i m = 6 ∨ T i m = 7 := by
  unfold T; (repeat' split) <;> simp
/-- Of a place: how far it is from the first corner. -/
theorem pos_ex {m c p : Nat} (hc : c < m) (hp : p < m) : ∃ i, i < m ∧ (c + i) % m = p := by
  rcases Nat.lt_or_ge p c with g | g
  · exact ⟨m + p - c, by omega, by rw [show c + (m + p - c) = p + m by omega, Nat.add_mod_right]; exact Nat.mod_eq_of_lt hp⟩
  · exact ⟨p - c, by omega, by rw [show c + (p - c) = p by omega]; exact Nat.mod_eq_of_lt hp⟩
theorem col_vals {m : Nat} {cs : List Nat} (hg : GoodC m cs) {R : List Int} (h : Col m cs R) {p : Nat} (hp : p < m) : R.getD p 0 = 3 ∨ R.getD p 0 = 5 ∨ R.getD p 0 = 6 ∨ (R.getD p 0 = 7 ∧ cs.length ≤ 1) := by
  unfold Col at h
  by_cases c : cs.length = 0 ∨ (cs.length = 1 ∧ m < 3)
  · rw [if_pos c] at h
    subst h
    right; right; right
    exact ⟨by simp [List.getD, hp], by omega⟩
  · rw [if_neg c] at h
    have hc := hg.1 0 (by omega)
    obtain ⟨i, hi, e⟩ := pos_ex hc hp
    by_cases c1 : cs.length = 1
    · rw [if_pos c1] at h
      have := h.2 i hi
      rw [e] at this
      rcases T_vals i m with q | q | q <;> rw [q] at this <;> omega
    · rw [if_neg c1] at h
      have := h.2 i hi
      rw [e] at this
      obtain ⟨j, hj⟩ := here_ex hg (by omega) i
      have := this j hj
      rcases B_vals j cs.length with q | q | q <;> rw [q] at this <;> omega
theorem col_all {m : Nat} {cs : List Nat} (hg : GoodC m cs) {R : List Int} (h : Col m cs R) (hm : 0 < m) : (∃ p, p < m ∧ R.getD p 0 = 7) ∨ ∃ p q, p < m ∧ q < m ∧ R.getD p 0 ≠ R.getD q 0 := by
  unfold Col at h
  by_cases c : cs.length = 0 ∨ (cs.length = 1 ∧ m < 3)
  · rw [if_pos c] at h
    subst h
    exact .inl ⟨0, hm, by simp [List.getD, hm]⟩
  · rw [if_neg c] at h
    have hc := hg.1 0 (by omega)
    by_cases c1 : cs.length = 1
    · rw [if_pos c1] at h
      have hi : (m + 2) / 3 < m := by omega
      have := h.2 ((m + 2) / 3) hi
      refine .inl ⟨_, Nat.mod_lt (cs.getD 0 0 + (m + 2) / 3) hm, this.trans ?_⟩
      have e : 3 * ((m + 2) / 3) / m = 1 := by
        have h1 : m ≤ 3 * ((m + 2) / 3) := by omega
        have h2 : 3 * ((m + 2) / 3) < 2 * m := by omega
        generalize 3 * ((m + 2) / 3) = x at h1 h2 ⊢
        have : x = m + (x - m) := by omega
        rw [this, Nat.add_div_left _ hm, Nat.div_eq_of_lt (by omega)]
      unfold T
      rw [e]; rfl
    · rw [if_neg c1] at h
      have h0 : Here cs 0 0 := ⟨by omega, by omega, fun q => by have := hg.2 0 1 (by omega) q; omega⟩
      have hs := hg.2 0 1 (by omega) (by omega)
      have hb := hg.1 1 (by omega)
      have h1 : Here cs 1 (cs.getD 1 0 - cs.getD 0 0) := ⟨by omega, by omega, fun q => by have := hg.2 1 (1 + 1) (by omega) q; omega⟩
      have a := h.2 0 hm 0 h0
      have b := h.2 (cs.getD 1 0 - cs.getD 0 0) (by omega) 1 h1
      exact .inr ⟨(cs.getD 0 0 + 0) % m, (cs.getD 0 0 + (cs.getD 1 0 - cs.getD 0 0)) % m, Nat.mod_lt _ hm, Nat.mod_lt _ hm, by rw [a, b]; exact B_01 (by omega)⟩
theorem col_turn {m : Nat} {cs : List Nat} (hg : GoodC m cs) {R : List Int} (h : Col m cs R) (hk : 2 ≤ cs.length) {p : Nat} (hp : p < m) : R.getD p 0 ≠ R.getD ((p + m - 1) % m) 0 ↔ ∃ j, j < cs.length ∧ cs.getD j 0 = p := by
  unfold Col at h
  rw [if_neg (by omega), if_neg (by omega)] at h
  have hc := hg.1 0 (by omega)
  obtain ⟨i, hi, e⟩ := pos_ex hc hp
  obtain ⟨j, hj⟩ := here_ex hg (by omega) i
  have hR := h.2 i hi j hj
  rw [e] at hR
  rcases Nat.eq_zero_or_pos i with q | q
  · subst q
    have ep : p = cs.getD 0 0 := by rw [← e, Nat.add_zero]; exact Nat.mod_eq_of_lt hc
    have h0 : Here cs 0 0 := ⟨by omega, by omega, fun q => by have := hg.2 0 1 (by omega) q; omega⟩
    have j0 := here_one hg hj h0
    subst j0
    have hl : Here cs (cs.length - 1) (m - 1) := ⟨by omega, by have := hg.1 (cs.length - 1) (by omega); omega, fun q => by omega⟩
    have hR' := h.2 (m - 1) (by omega) _ hl
    rw [show cs.getD 0 0 + (m - 1) = p + m - 1 by omega] at hR'
    rw [hR, hR']
    exact ⟨fun _ => ⟨0, by omega, ep.symm⟩, fun _ => B_round hk⟩
  · have e' : (p + m - 1) % m = (cs.getD 0 0 + (i - 1)) % m := by
      rcases Nat.lt_or_ge (cs.getD 0 0 + i) m with g | g
      · have : p = cs.getD 0 0 + i := by rw [← e]; exact Nat.mod_eq_of_lt g
        rw [show p + m - 1 = cs.getD 0 0 + (i - 1) + m by omega, Nat.add_mod_right]
      · have : p = cs.getD 0 0 + i - m := by
          rw [← e, show cs.getD 0 0 + i = (cs.getD 0 0 + i - m) + m by omega, Nat.add_mod_right, Nat.mod_eq_of_lt (by omega)]; omega
        rw [show p + m - 1 = cs.getD 0 0 + (i - 1) by omega]
    obtain ⟨j', hj'⟩ := here_ex hg (by omega) (i - 1)
    have hR' := h.2 (i - 1) (by omega) _ hj'
    rw [e', hR, hR']
    by_cases c : j' = j
    · subst c
      refine ⟨fun z => absurd rfl z, fun ⟨t, ht, et⟩ => ?_⟩
      exfalso
      rcases Nat.lt_or_ge (cs.getD 0 0 + i) m with g | g
      · have ep : p = cs.getD 0 0 + i := by rw [← e]; exact Nat.mod_eq_of_lt g
        have hlt : j' < t := by
          rcases Nat.lt_or_ge j' t with z | z
          · exact z
          · have := good_le hg z hj'.1; have := hj'.2.1; omega
        have := hj.2.2 (by omega)
        have := good_le hg (show j' + 1 ≤ t by omega) ht
        omega
      · have ep : p = cs.getD 0 0 + i - m := by
          rw [← e, show cs.getD 0 0 + i = (cs.getD 0 0 + i - m) + m by omega, Nat.add_mod_right, Nat.mod_eq_of_lt (by omega)]; omega
        have := good_le hg (show 0 ≤ t by omega) ht
        omega
    · have ec : cs.getD j 0 = cs.getD 0 0 + i := by
        have h1 := hj.2.1
        rcases Nat.lt_or_ge (cs.getD j 0) (cs.getD 0 0 + i) with z | z
        · exact absurd (here_one hg hj' ⟨hj.1, by omega, fun w => by have := hj.2.2 w; omega⟩) c
        · omega
      have hm := hg.1 j hj.1
      have ep : p = cs.getD 0 0 + i := by rw [← e]; exact Nat.mod_eq_of_lt (by omega)
      have hj0 : 1 ≤ j := by
        rcases Nat.eq_zero_or_pos j with z | z
        · subst z; omega
        · exact z
      have hs := hg.2 (j - 1) j (by omega) hj.1
      have := here_one hg hj' (show Here cs (j - 1) (i - 1) from ⟨by have := hj.1; omega, by omega, fun w => by rw [show j - 1 + 1 = j by omega]; omega⟩)
      subst this
      exact ⟨fun _ => ⟨j, hj.1, by omega⟩, fun _ => B_next hj0 hj.1⟩
/-- What was before an edge, in its contour. -/
theorem rn_cont {l : List S38} {fr T : Nat} (hc : Cont l fr T) : ∀ d (tt : Nat), tt + d = T → fr < tt → rn (rd_T38 l (fr : Int)).f0 (l.drop tt) = T - tt
  | 0, tt, h, h1 => by
    obtain ⟨a1, a2, a3, a4, a5⟩ := hc
    have : tt = T := by omega
    subst this
    rcases Nat.lt_or_ge tt l.length with g | g
    · rw [rd38 l tt g]
      have : (rd_T38 l (tt : Int)).f0 ≠ (rd_T38 l (fr : Int)).f0 := by
        rcases a4 with q | q
        · omega
        · exact q
      simp only [rn, if_neg this]; omega
    · rw [List.drop_eq_nil_of_le g]; simp only [rn]; omega
  | d + 1, tt, h, h1 => by
    have ih := rn_cont hc d (tt + 1) (by omega) (by omega)
    obtain ⟨a1, a2, a3, a4, a5⟩ := hc
    rw [rd38 l tt (by omega)]
    simp only [rn, if_pos (a3 tt (by omega) (by omega)), ih]
    omega
theorem ahead_cont {l : List S38} {fr T : Nat} (hc : Cont l fr T) {p : Nat} (hp : p < T - fr) : aheadE l (fr + p) = fr + (p + (T - fr) - 1) % (T - fr) := by
  obtain ⟨a1, a2, a3, a4, a5⟩ := hc
  unfold aheadE
  rcases Nat.eq_zero_or_pos p with q | q
  · subst q
    rw [Nat.add_zero, if_neg (fun z => ?_), rn_cont ⟨a1, a2, a3, a4, a5⟩ (T - (fr + 1)) (fr + 1) (by omega) (by omega), Nat.mod_eq_of_lt (by omega)]
    · omega
    · rcases a5 with w | w
      · omega
      · exact w z.2
  · rw [if_pos ⟨by omega, by rw [show fr + p - 1 = fr + (p - 1) by omega]; exact (a3 (fr + (p - 1)) (by omega) (by omega)).trans (a3 (fr + p) (by omega) (by omega)).symm⟩]
    rw [show p + (T - fr) - 1 = (p - 1) + (T - fr) by omega, Nat.add_mod_right, Nat.mod_eq_of_lt (by omega)]
    omega
theorem cnS_is {l : List S38} {fr T : Nat} (hf : fr ≤ T) {p : Nat} (hp : p < T - fr) : (∃ j, j < (cnS l fr (T - fr)).length ∧ (cnS l fr (T - fr)).getD j 0 = p) ↔ isC (rd_T38 l ((aheadE l (fr + p) : Nat) : Int)) (rd_T38 l ((fr + p : Nat) : Int)) = true := by
  have e : ∀ j, (h : j < (cn l fr (T - fr)).length) → (cnS l fr (T - fr)).getD j 0 = (cn l fr (T - fr))[j] - fr := fun j h => by simp [cnS, List.getD, h]
  have hl : (cnS l fr (T - fr)).length = (cn l fr (T - fr)).length := by simp [cnS]
  constructor
  · rintro ⟨j, hj, h⟩
    rw [hl] at hj
    rw [e j hj] at h
    have := (cn_is l (T - fr) fr _).1 (List.getElem_mem hj)
    have ex : (cn l fr (T - fr))[j] = fr + p := by omega
    rw [ex] at this
    exact this.2.2
  · intro h
    have := (cn_is l (T - fr) fr (fr + p)).2 ⟨by omega, by omega, h⟩
    obtain ⟨j, hj, ex⟩ := List.getElem_of_mem this
    exact ⟨j, by rw [hl]; exact hj, by rw [e j hj, ex]; omega⟩

end Go.Proofs.Ytalgppclaolonaa.XColr
