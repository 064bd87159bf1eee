/- The colours of one contour: layer 23 and its reference tell the same. -/
import Derived.Test.YtalgppclaolonaaXColrWideA
import Derived.Test.YtalgppclaolonaaXColrx10

namespace Go.Proofs.Ytalgppclaolonaa.XColr
open Go.RowKit Go.Proofs.Ytalgppclaolonaa.XM Go.Proofs.Ytalgppclaolonaa.NumM Go.Proofs.YtalgppclaolonaaW.PrintWords Go.Proofs.YtalgppclaolonaaW.PrintLast Go.Proofs.YtalgppclaolonaaW.PrintMore
set_option linter.unusedVariables false
set_option linter.unusedSimpArgs false

/-- Places, as the code has them. -/
def I (cs : List Nat) : List Int := cs.map Int.ofNat
theorem I_len (cs : List Nat) : (I cs).length = cs.length := by simp [I]
theorem rdI (cs : List Nat) (j : Nat) : rd (I cs) (j : Int) = ((cs.getD j 0 : Nat) : Int) := by
  unfold rd I
  rw [Int.toNat_natCast]
  by_cases h : j < cs.length
  · simp [List.getD, h]
  · simp [List.getD, h]
theorem tm (a b : Nat) : Int.tmod (a : Int) (b : Int) = ((a % b : Nat) : Int) := rfl
theorem rdn (l : List Int) (j : Nat) : rd l (j : Int) = l.getD j 0 := by unfold rd; rw [Int.toNat_natCast]
theorem mod_far {m a b : Nat} (h1 : a < b) (h2 : b - a < m) : a % m ≠ b % m := by
  intro h
  have h3 : (b - a) % m = 0 := Nat.sub_mod_eq_zero_of_mod_eq h.symm
  rw [Nat.mod_eq_of_lt h2] at h3
  omega
theorem getD_set {l : List Int} {p q : Nat} {v : Int} : (l.set p v).getD q 0 = if p = q ∧ p < l.length then v else l.getD q 0 := by
  unfold List.getD
  rw [List.getElem?_set]
  by_cases c : p = q
  · subst c
    by_cases d : p < l.length
    · simp [d]
    · simp [d]
  · simp [c]

/-- What the first i places from c on hold. -/
def P (Q : Nat → Int → Prop) (c m i : Nat) (out : List Int) : Prop := out.length = m ∧ ∀ t, t < i → Q t (out.getD ((c + t) % m) 0)
theorem P_set {Q : Nat → Int → Prop} {c m i : Nat} {out : List Int} {v : Int} (h : P Q c m i out) (hi : i < m) (hv : Q i v) : P Q c m (i + 1) (out.set ((c + i) % m) v) := by
  refine ⟨by rw [List.length_set]; exact h.1, fun t ht => ?_⟩
  rw [getD_set]
  have hp : (c + i) % m < out.length := by rw [h.1]; exact Nat.mod_lt _ (by omega)
  by_cases e : t = i
  · subst e
    rw [if_pos ⟨rfl, hp⟩]; exact hv
  · rw [if_neg (fun q => mod_far (m := m) (a := c + t) (b := c + i) (by omega) (by omega) q.1.symm)]
    exact h.2 t (by omega)
theorem P_end {Q : Nat → Int → Prop} {c m : Nat} {a b : List Int} (ha : P Q c m m a) (hb : P Q c m m b) (hc : c < m) (hq : ∀ i, i < m → ∀ v w, Q i v → Q i w → v = w) : a = b := by
  have hp : ∀ p, p < m → a.getD p 0 = b.getD p 0 := fun p hp => by
    rcases Nat.lt_or_ge p c with g | g
    · have e : (c + (m + p - c)) % m = p := by rw [show c + (m + p - c) = p + m by omega, Nat.add_mod_right]; exact Nat.mod_eq_of_lt hp
      have h1 := ha.2 (m + p - c) (by omega)
      have h2 := hb.2 (m + p - c) (by omega)
      rw [e] at h1 h2
      exact hq _ (by omega) _ _ h1 h2
    · have e : (c + (p - c)) % m = p := by rw [show c + (p - c) = p by omega]; exact Nat.mod_eq_of_lt hp
      have h1 := ha.2 (p - c) (by omega)
      have h2 := hb.2 (p - c) (by omega)
      rw [e] at h1 h2
      exact hq _ (by omega) _ _ h1 h2
  apply List.ext_getElem (by rw [ha.1, hb.1])
  intro p h1 h2
  have := hp p (by rw [← ha.1]; exact h1)
  simpa [List.getD, h1, h2] using this

/-- Corners of a contour of m edges. -/
def GoodC (m : Nat) (cs : List Nat) : Prop := (∀ j, j < cs.length → cs.getD j 0 < m) ∧ ∀ a b, a < b → b < cs.length → cs.getD a 0 < cs.getD b 0
def Here (cs : List Nat) (j i : Nat) : Prop := j < cs.length ∧ cs.getD j 0 ≤ cs.getD 0 0 + i ∧ (j + 1 < cs.length → cs.getD 0 0 + i < cs.getD (j + 1) 0)
theorem good_le {m : Nat} {cs : List Nat} (h : GoodC m cs) {a b : Nat} (hab : a ≤ b) (hb : b < cs.length) : cs.getD a 0 ≤ cs.getD b 0 := by
  rcases Nat.lt_or_ge a b with g | g
  · exact Nat.le_of_lt (h.2 a b g hb)
  · rw [show a = b by omega]; exact Nat.le_refl _
theorem here_one {m : Nat} {cs : List Nat} (h : GoodC m cs) {i j j' : Nat} (h1 : Here cs j i) (h2 : Here cs j' i) : j = j' := by
  rcases Nat.lt_trichotomy j j' with g | g | g
  · have := good_le h (show j + 1 ≤ j' by omega) h2.1
    have := h1.2.2 (by have := h2.1; omega)
    have := h2.2.1
    omega
  · exact g
  · have := good_le h (show j' + 1 ≤ j by omega) h1.1
    have := h2.2.2 (by have := h1.1; omega)
    have := h1.2.1
    omega
theorem here_some {m : Nat} {cs : List Nat} (h : GoodC m cs) (i : Nat) : ∀ n, n < cs.length → (∃ j, Here cs j i) ∨ cs.getD n 0 ≤ cs.getD 0 0 + i
  | 0, _ => .inr (by omega)
  | n + 1, hn => by
    rcases here_some h i n (by omega) with g | g
    · exact .inl g
    · by_cases c : cs.getD (n + 1) 0 ≤ cs.getD 0 0 + i
      · exact .inr c
      · exact .inl ⟨n, by omega, g, fun _ => by omega⟩
theorem here_ex {m : Nat} {cs : List Nat} (h : GoodC m cs) (hk : 0 < cs.length) (i : Nat) : ∃ j, Here cs j i := by
  rcases here_some h i (cs.length - 1) (by omega) with g | g
  · exact g
  · exact ⟨cs.length - 1, by omega, g, fun q => by omega⟩
/-- The colour behind the jth of k corners. -/
def B (j k : Nat) : Int := if k % 3 = 1 ∧ j + 1 = k then 6 else if j % 3 = 0 then 3 else if j % 3 = 1 then 6 else 5
/-- The ith of m edges behind the only corner. -/
def T (i m : Nat) : Int := if 3 * i / m = 0 then 5 else if 3 * i / m = 1 then 7 else 6
def QB (cs : List Nat) (i : Nat) (v : Int) : Prop := ∀ j, Here cs j i → v = B j cs.length
/-- The colours of a contour. -/
def Col (m : Nat) (cs : List Nat) (out : List Int) : Prop :=
  if cs.length = 0 ∨ (cs.length = 1 ∧ m < 3) then out = List.replicate m 7
  else if cs.length = 1 then P (fun i v => v = T i m) (cs.getD 0 0) m m out else P (QB cs) (cs.getD 0 0) m m out
theorem col_one {m : Nat} {cs : List Nat} (h : GoodC m cs) {a b : List Int} (ha : Col m cs a) (hb : Col m cs b) : a = b := by
  unfold Col at ha hb
  by_cases c : cs.length = 0 ∨ (cs.length = 1 ∧ m < 3)
  · rw [if_pos c] at ha hb; rw [ha, hb]
  · rw [if_neg c] at ha hb
    have hc := h.1 0 (by omega)
    by_cases c1 : cs.length = 1
    · rw [if_pos c1] at ha hb
      exact P_end ha hb hc (fun i _ v w h1 h2 => h1.trans h2.symm)
    · rw [if_neg c1] at ha hb
      refine P_end ha hb hc (fun i _ v w h1 h2 => ?_)
      obtain ⟨j, hj⟩ := here_ex h (by omega) i
      rw [h1 j hj, h2 j hj]
theorem third_f {i m : Nat} (hi : i < m) (hm : m ≤ 1048576) : color_third.f (i : Int) (m : Int) = some (T i m) := by
  have e1 : wrap64 (3 * (i : Int)) = ((3 * i : Nat) : Int) := by rw [w64 (by omega) (by omega)]; omega
  have e2 : Int.tdiv ((3 * i : Nat) : Int) (m : Int) = ((3 * i / m : Nat) : Int) := rfl
  have e4 : 3 * i / m ≤ 3 * i := Nat.div_le_self _ _
  have e3 : wrap64 ((3 * i / m : Nat) : Int) = ((3 * i / m : Nat) : Int) := by
    generalize 3 * i / m = q at *
    exact w64 (by omega) (by omega)
  unfold color_third.f T
  rw [e1, e2, e3, if_neg (by omega)]
  generalize 3 * i / m = q at *
  by_cases c : q = 0
  · subst c; simp
  · rw [if_neg (by omega), if_neg c]
    by_cases c1 : q = 1
    · subst c1; simp
    · rw [if_neg (by omega), if_neg c1]
theorem behind_ev {j k : Nat} (hk : k ≤ 1048576) (hj : j < k) : Ev (fun n => color_behind.f n (j : Int) (k : Int)) (B j k) := by
  have J : ∀ b : Bool, Ev (fun n => color_behind.j0 n (j : Int) b) (if b = true then 6 else if j % 3 = 0 then 3 else if j % 3 = 1 then 6 else 5) := fun b => by
    refine Ev.step (fun n => by rw [color_behind.j0]) ?_
    have e : Int.tmod (j : Int) 3 = ((j % 3 : Nat) : Int) := rfl
    rw [e]
    cases b
    · simp only [Bool.false_eq_true, if_false]
      by_cases c : j % 3 = 0
      · rw [c]; exact Ev.now _
      · rw [if_neg c]
        by_cases c1 : j % 3 = 1
        · rw [c1]; exact Ev.now _
        · simp only [if_neg (show ¬ ((j % 3 : Nat) : Int) = 0 by omega), if_neg (show ¬ ((j % 3 : Nat) : Int) = 1 by omega), if_neg c1]; exact Ev.now _
    · exact Ev.now _
  unfold color_behind.f
  have e : Int.tmod (k : Int) 3 = ((k % 3 : Nat) : Int) := rfl
  rw [e, w64 (n := (k : Int) - 1) (by omega) (by omega)]
  by_cases c : k % 3 = 1
  · rw [c]
    refine Ev.eq (J _) ?_
    unfold B
    by_cases d : j + 1 = k
    · rw [if_pos (by simp; omega), if_pos ⟨c, d⟩]
    · rw [if_neg (show ¬ (k % 3 = 1 ∧ j + 1 = k) by omega), if_neg (by simp; omega)]
  · simp only [if_neg (show ¬ ((k % 3 : Nat) : Int) = 1 by omega)]
    refine Ev.eq (J false) ?_
    unfold B
    rw [if_neg (show ¬ (k % 3 = 1 ∧ j + 1 = k) by omega), if_neg (by simp)]
theorem con1_l {cs : List Nat} {m : Nat} (hm : m ≤ 1048576) (hk : cs.length = 1) (hg : GoodC m cs) : ∀ d (i : Nat) (out : List Int) (z : Int), i + d = m → P (fun i v => v = T i m) (cs.getD 0 0) m i out →
    ∃ R, P (fun i v => v = T i m) (cs.getD 0 0) m m R ∧ Ev (fun n => color_contour.l0 n (m : Int) (I cs) out 1 z (m : Int) (i : Int)) R
  | 0, i, out, z, h, hp => by
    refine ⟨out, by rw [show m = i by omega] at hp ⊢; exact hp, Ev.step (fun n => by rw [color_contour.l0]) ?_⟩
    simp only [if_neg (show ¬ (i : Int) < (m : Int) by omega)]
    exact Ev.now _
  | d + 1, i, out, z, h, hp => by
    have hc := hg.1 0 (by omega)
    obtain ⟨R, h1, h2⟩ := con1_l hm hk hg d (i + 1) (out.set ((cs.getD 0 0 + i) % m) (T i m)) z (by omega) (P_set hp (by omega) rfl)
    refine ⟨R, h1, Ev.step (fun n => by rw [color_contour.l0]) ?_⟩
    have hb : (cs.getD 0 0 + i) % m < m := Nat.mod_lt _ (by omega)
    have e0 : rd (I cs) 0 = ((cs.getD 0 0 : Nat) : Int) := rdI cs 0
    have e1 : Int.tmod (wrap64 (rd (I cs) 0 + (i : Int))) (m : Int) = (((cs.getD 0 0 + i) % m : Nat) : Int) := by
      rw [e0, w64 (by omega) (by omega), ← tm]; rfl
    have e2 : wrap64 ((i : Int) + 1) = ((i + 1 : Nat) : Int) := by rw [w64 (by omega) (by omega)]; omega
    rw [e1, e2]
    simp only [if_pos (show (i : Int) < (m : Int) by omega), I_len, if_pos (show (0 : Int) < (cs.length : Int) by omega), if_neg (show ¬ (m : Int) = 0 by omega), if_true, third_f (show i < m by omega) hm, Option.bind_some, Int.toNat_natCast, if_pos (show (0 : Int) ≤ (((cs.getD 0 0 + i) % m : Nat) : Int) by omega), hp.1, if_pos (show (((cs.getD 0 0 + i) % m : Nat) : Int) < (m : Int) by omega)]
    exact h2
theorem conk_l {cs : List Nat} {m : Nat} (hm : m ≤ 1048576) (hk : 2 ≤ cs.length) (hkm : cs.length ≤ 1048576) (hg : GoodC m cs) : ∀ d (i jj : Nat) (out : List Int), i + d = m → jj ≤ cs.length → (∀ t, t < jj → cs.getD t 0 < cs.getD 0 0 + i) → (jj < cs.length → cs.getD 0 0 + i ≤ cs.getD jj 0) → (0 < i → 0 < jj) → P (QB cs) (cs.getD 0 0) m i out →
    ∃ R, P (QB cs) (cs.getD 0 0) m m R ∧ Ev (fun n => color_contour.l0 n (m : Int) (I cs) out (cs.length : Int) ((jj : Int) - 1) (m : Int) (i : Int)) R
  | 0, i, jj, out, h, hj1, hj2, hj3, hj4, hp => by
    refine ⟨out, by rw [show m = i by omega] at hp ⊢; exact hp, Ev.step (fun n => by rw [color_contour.l0]) ?_⟩
    simp only [if_neg (show ¬ (i : Int) < (m : Int) by omega)]
    exact Ev.now _
  | d + 1, i, jj, out, h, hj1, hj2, hj3, hj4, hp => by
    have hc := hg.1 0 (by omega)
    have hb : (cs.getD 0 0 + i) % m < m := Nat.mod_lt _ (by omega)
    have e0 : rd (I cs) 0 = ((cs.getD 0 0 : Nat) : Int) := rdI cs 0
    have e1 : Int.tmod (wrap64 (rd (I cs) 0 + (i : Int))) (m : Int) = (((cs.getD 0 0 + i) % m : Nat) : Int) := by
      rw [e0, w64 (by omega) (by omega), ← tm]; rfl
    have e2 : wrap64 ((i : Int) + 1) = ((i + 1 : Nat) : Int) := by rw [w64 (by omega) (by omega)]; omega
    have e3 : wrap64 ((jj : Int) - 1 + 1) = (jj : Int) := by rw [w64 (by omega) (by omega)]; omega
    have set : ∀ j, Here cs j i → P (QB cs) (cs.getD 0 0) m (i + 1) (out.set ((cs.getD 0 0 + i) % m) (B j cs.length)) := fun j hj => P_set hp (by omega) (fun j' hj' => by rw [here_one hg hj hj'])
    by_cases c : jj < cs.length
    · have c1 := hj3 c
      have c2 := hg.1 jj c
      have em : (cs.getD 0 0 + i) % m = cs.getD 0 0 + i := Nat.mod_eq_of_lt (by omega)
      by_cases c3 : cs.getD jj 0 = cs.getD 0 0 + i
      · have hh : Here cs jj i := ⟨c, by omega, fun q => by have := hg.2 jj (jj + 1) (by omega) q; omega⟩
        obtain ⟨R, h1, h2⟩ := conk_l hm hk hkm hg d (i + 1) (jj + 1) _ (by omega) (by omega) (fun t ht => by have := good_le hg (show t ≤ jj by omega) c; omega) (fun q => by have := hg.2 jj (jj + 1) (by omega) q; omega) (by omega) (set jj hh)
        refine ⟨R, h1, Ev.step (fun n => by rw [color_contour.l0]) ?_⟩
        rw [e1, e2, e3, rdI]
        simp only [if_pos (show (i : Int) < (m : Int) by omega), I_len, if_pos (show (0 : Int) < (cs.length : Int) by omega), if_neg (show ¬ (m : Int) = 0 by omega), if_neg (show ¬ (cs.length : Int) = 1 by omega), if_pos (show (jj : Int) < (cs.length : Int) by omega), if_pos (show (0 : Int) ≤ (jj : Int) by omega), if_pos (show ((cs.getD jj 0 : Nat) : Int) = (((cs.getD 0 0 + i) % m : Nat) : Int) by omega)]
        refine Ev.bind (behind_ev hkm c) ?_
        simp only [Int.toNat_natCast, if_pos (show (0 : Int) ≤ (((cs.getD 0 0 + i) % m : Nat) : Int) by omega), hp.1, if_pos (show (((cs.getD 0 0 + i) % m : Nat) : Int) < (m : Int) by omega)]
        rw [show ((jj + 1 : Nat) : Int) - 1 = (jj : Int) by omega] at h2
        exact h2
      · have hj0 : 0 < jj := by
          rcases Nat.eq_zero_or_pos jj with q | q
          · subst q; omega
          · exact q
        have hh : Here cs (jj - 1) i := ⟨by omega, by have := hj2 (jj - 1) (by omega); omega, fun q => by rw [show jj - 1 + 1 = jj by omega]; omega⟩
        obtain ⟨R, h1, h2⟩ := conk_l hm hk hkm hg d (i + 1) jj _ (by omega) (by omega) (fun t ht => by have := hj2 t ht; omega) (fun q => by omega) (by omega) (set _ hh)
        refine ⟨R, h1, Ev.step (fun n => by rw [color_contour.l0]) ?_⟩
        rw [e1, e2, e3, rdI]
        simp only [if_pos (show (i : Int) < (m : Int) by omega), I_len, if_pos (show (0 : Int) < (cs.length : Int) by omega), if_neg (show ¬ (m : Int) = 0 by omega), if_neg (show ¬ (cs.length : Int) = 1 by omega), if_pos (show (jj : Int) < (cs.length : Int) by omega), if_pos (show (0 : Int) ≤ (jj : Int) by omega), if_neg (show ¬ ((cs.getD jj 0 : Nat) : Int) = (((cs.getD 0 0 + i) % m : Nat) : Int) by omega)]
        have e5 : (jj : Int) - 1 = ((jj - 1 : Nat) : Int) := by omega
        rw [e5] at h2 ⊢
        refine Ev.bind (behind_ev hkm (by omega)) ?_
        simp only [Int.toNat_natCast, if_pos (show (0 : Int) ≤ (((cs.getD 0 0 + i) % m : Nat) : Int) by omega), hp.1, if_pos (show (((cs.getD 0 0 + i) % m : Nat) : Int) < (m : Int) by omega)]
        exact h2
    · have hh : Here cs (jj - 1) i := ⟨by omega, by have := hj2 (jj - 1) (by omega); omega, fun q => by omega⟩
      obtain ⟨R, h1, h2⟩ := conk_l hm hk hkm hg d (i + 1) jj _ (by omega) (by omega) (fun t ht => by have := hj2 t ht; omega) (fun q => by omega) (by omega) (set _ hh)
      refine ⟨R, h1, Ev.step (fun n => by rw [color_contour.l0]) ?_⟩
      rw [e1, e2, e3]
      simp only [if_pos (show (i : Int) < (m : Int) by omega), I_len, if_pos (show (0 : Int) < (cs.length : Int) by omega), if_neg (show ¬ (m : Int) = 0 by omega), if_neg (show ¬ (cs.length : Int) = 1 by omega), if_neg (show ¬ (jj : Int) < (cs.length : Int) by omega)]
      have e5 : (jj : Int) - 1 = ((jj - 1 : Nat) : Int) := by omega
      rw [e5] at h2 ⊢
      refine Ev.bind (behind_ev hkm (by omega)) ?_
      simp only [Int.toNat_natCast, if_pos (show (0 : Int) ≤ (((cs.getD 0 0 + i) % m : Nat) : Int) by omega), hp.1, if_pos (show (((cs.getD 0 0 + i) % m : Nat) : Int) < (m : Int) by omega)]
      exact h2
theorem mul_f (m : Nat) (hm : m ≤ 1048576) : bits_Mul.f 1 (m : Int) = some (0, (m : Int)) := by
  unfold bits_Mul.f
  rw [mul64_f (a := 1) (b := (m : Int)) ⟨by omega, by omega⟩ ⟨by omega, by omega⟩]
  simp only [Option.bind_some, Int.one_mul]
  congr 2 <;> omega
theorem repeat_f (m : Nat) (hm : m ≤ 1048576) : slices_Repeat_int_int.f [7] (m : Int) = some (List.replicate m 7) := by
  unfold slices_Repeat_int_int.f
  simp only [List.length_singleton, if_true, if_pos (show (0 : Int) ≤ (m : Int) by omega), if_pos (show (m : Int) ≤ 1048576 by omega), mul_f m hm, Option.bind_some, Int.toNat_natCast]
  rfl
theorem con_ev {cs : List Nat} {m : Nat} (hm : m ≤ 1048576) (hkm : cs.length ≤ m) (hg : GoodC m cs) : ∃ R, Col m cs R ∧ R.length = m ∧ Ev (fun n => color_contour.f n (m : Int) (I cs)) R := by
  have hP : P (QB cs) (cs.getD 0 0) m 0 (List.replicate m 0) := ⟨by simp, fun t ht => by omega⟩
  have hP1 : P (fun i v => v = T i m) (cs.getD 0 0) m 0 (List.replicate m 0) := ⟨by simp, fun t ht => by omega⟩
  have go : ∀ b : Bool, (b = true ↔ (cs.length = 0 ∨ (cs.length = 1 ∧ m < 3))) → ∃ R, Col m cs R ∧ R.length = m ∧ Ev (fun n => color_contour.j0 n (m : Int) (I cs) (List.replicate m 0) (cs.length : Int) b) R := fun b hb => by
    unfold Col
    cases b
    · have hn : ¬ (cs.length = 0 ∨ (cs.length = 1 ∧ m < 3)) := fun q => by simpa using hb.2 q
      simp only [if_neg hn]
      by_cases c1 : cs.length = 1
      · obtain ⟨R, h1, h2⟩ := con1_l hm c1 hg m 0 (List.replicate m 0) (-1) (by omega) hP1
        refine ⟨R, by rw [if_pos c1]; exact h1, h1.1, Ev.step (fun n => by rw [color_contour.j0]) ?_⟩
        simp only [Bool.false_eq_true, if_false]
        rw [c1]; exact h2
      · obtain ⟨R, h1, h2⟩ := conk_l hm (by omega) (by omega) hg m 0 0 (List.replicate m 0) (by omega) (by omega) (fun t ht => by omega) (fun _ => by omega) (by omega) hP
        refine ⟨R, by rw [if_neg c1]; exact h1, h1.1, Ev.step (fun n => by rw [color_contour.j0]) ?_⟩
        simp only [Bool.false_eq_true, if_false]
        exact h2
    · have hn := hb.1 rfl
      refine ⟨List.replicate m 7, by rw [if_pos hn], by simp, Ev.step (fun n => by rw [color_contour.j0]) ?_⟩
      simp only [if_true, Option.bind_some, repeat_f m hm]
      have h := Ev.now (List.replicate m (7 : Int))
      simp only [if_pos (show (0 : Int) ≤ ((List.replicate m (0 : Int)).length : Int) by omega)]
      have e : ((List.replicate m (0 : Int)).take (0 : Int).toNat) = [] := by simp
      rw [e, List.nil_append, if_pos (by simp; omega)]
      exact h
  unfold color_contour.f
  simp only [if_pos (show (0 : Int) ≤ (m : Int) by omega), Int.toNat_natCast, if_pos (show m ≤ 35184372088832 by omega), Option.bind_some, I_len]
  by_cases c0 : cs.length = 0
  · simp only [if_pos (show (cs.length : Int) = 0 by omega)]
    exact go true (by simp [c0])
  · simp only [if_neg (show ¬ (cs.length : Int) = 0 by omega)]
    by_cases c1 : cs.length = 1
    · simp only [if_pos (show (cs.length : Int) = 1 by omega)]
      exact go _ (by simp [c1]; omega)
    · simp only [if_neg (show ¬ (cs.length : Int) = 1 by omega)]
      exact go false ⟨fun q => (by simp at q), fun q => (by exfalso; omega)⟩

end Go.Proofs.Ytalgppclaolonaa.XColr
