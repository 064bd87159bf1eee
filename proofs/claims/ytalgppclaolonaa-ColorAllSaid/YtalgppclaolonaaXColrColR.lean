/- The colours of one contour: the reference. -/
import Derived.Test.YtalgppclaolonaaXColrColM
import Derived.Test.YtalgppclaolonaaXColrx10
import Derived.Test.YtalgppclaolonaaXColrx12
import Derived.Test.YtalgppclaolonaaXColrx13

namespace Go.Proofs.Ytalgppclaolonaa.XColr
open Go.RowKit Go.Proofs.Ytalgppclaolonaa.XM Go.Proofs.Ytalgppclaolonaa.NumM Go.Proofs.YtalgppclaolonaaW.PrintWords Go.Proofs.YtalgppclaolonaaW.PrintLast Go.Proofs.YtalgppclaolonaaW.PrintMore
set_option linter.unusedVariables false
set_option linter.unusedSimpArgs false

theorem of_f {j k : Nat} (hk : k ≤ 1048576) (hj : j < k) : pochoirref23_of.f (j : Int) (k : Int) = some (B j k) := by
  unfold pochoirref23_of.f
  have e : Int.tmod (k : Int) 3 = ((k % 3 : Nat) : Int) := rfl
  have e1 : Int.tmod (j : Int) 3 = ((j % 3 : Nat) : Int) := rfl
  have hl : (([3, 6, 5] : List Int).length : Int) = 3 := rfl
  rw [e, e1, w64 (n := (k : Int) - 1) (by omega) (by omega)]
  simp only [Option.bind_some, hl, if_pos (show (0 : Int) ≤ ((j % 3 : Nat) : Int) by omega), if_pos (show ((j % 3 : Nat) : Int) < 3 by omega)]
  have hr : ¬ (k % 3 = 1 ∧ j + 1 = k) → rd [3, 6, 5] ((j % 3 : Nat) : Int) = B j k := fun q => by
    unfold B
    rw [rdn, if_neg q]
    have h3 : j % 3 < 3 := Nat.mod_lt _ (by omega)
    generalize j % 3 = x at h3 ⊢
    match x, h3 with
    | 0, _ => rfl
    | 1, _ => rfl
    | 2, _ => rfl
  by_cases c : k % 3 = 1
  · rw [if_pos (show ((k % 3 : Nat) : Int) = 1 by omega)]
    by_cases d : j + 1 = k
    · rw [if_pos (by omega)]
      unfold B
      rw [if_pos ⟨c, d⟩]
    · rw [if_neg (by omega), hr (fun q => d q.2)]
  · rw [if_neg (show ¬ ((k % 3 : Nat) : Int) = 1 by omega), hr (fun q => c q.1)]
theorem third_r {i m : Nat} (hi : i < m) (hm : m ≤ 1048576) : wrap64 (Int.tdiv (wrap64 (3 * (i : Int))) (m : Int)) = ((3 * i / m : Nat) : Int) ∧ 3 * i / m < 3 ∧ rd [5, 7, 6] ((3 * i / m : Nat) : Int) = T i m := by
  have e1 : wrap64 (3 * (i : Int)) = ((3 * i : Nat) : Int) := by rw [w64 (by omega) (by omega)]; omega
  have e2 : Int.tdiv ((3 * i : Nat) : Int) (m : Int) = ((3 * i / m : Nat) : Int) := rfl
  have e4 : 3 * i / m < 3 := (Nat.div_lt_iff_lt_mul (by omega)).2 (by omega)
  rw [e1, e2]
  refine ⟨?_, e4, ?_⟩
  · generalize 3 * i / m = q at *
    exact w64 (by omega) (by omega)
  · unfold T
    rw [rdn]
    generalize 3 * i / m = x at e4 ⊢
    match x, e4 with
    | 0, _ => rfl
    | 1, _ => rfl
    | 2, _ => rfl
theorem rcon1_l {cs : List Nat} {m : Nat} (hm : m ≤ 1048576) (hk : cs.length = 1) (hg : GoodC m cs) : ∀ d (i : Nat) (out : List Int), i + d = m → P (fun i v => v = T i m) (cs.getD 0 0) m i out →
    ∃ R, P (fun i v => v = T i m) (cs.getD 0 0) m m R ∧ Ev (fun n => pochoirref23_contour.l1 n (m : Int) (I cs) out (i : Int)) R
  | 0, i, out, h, hp => by
    refine ⟨out, by rw [show m = i by omega] at hp ⊢; exact hp, Ev.step (fun n => by rw [pochoirref23_contour.l1]) ?_⟩
    simp only [if_neg (show ¬ (i : Int) < (m : Int) by omega)]
    exact Ev.now _
  | d + 1, i, out, h, hp => by
    have hc := hg.1 0 (by omega)
    obtain ⟨R, h1, h2⟩ := rcon1_l hm hk hg d (i + 1) (out.set ((cs.getD 0 0 + i) % m) (T i m)) (by omega) (P_set hp (by omega) rfl)
    refine ⟨R, h1, Ev.step (fun n => by rw [pochoirref23_contour.l1]) ?_⟩
    have hb : (cs.getD 0 0 + i) % m < m := Nat.mod_lt _ (by omega)
    have e0 : rd (I cs) 0 = ((cs.getD 0 0 : Nat) : Int) := rdI cs 0
    have e1 : Int.tmod (wrap64 (rd (I cs) 0 + (i : Int))) (m : Int) = (((cs.getD 0 0 + i) % m : Nat) : Int) := by
      rw [e0, w64 (by omega) (by omega), ← tm]; rfl
    have e2 : wrap64 ((i : Int) + 1) = ((i + 1 : Nat) : Int) := by rw [w64 (by omega) (by omega)]; omega
    obtain ⟨t1, t2, t3⟩ := third_r (show i < m by omega) hm
    have hl : (([5, 7, 6] : List Int).length : Int) = 3 := rfl
    rw [e1, e2, t1]
    simp only [if_pos (show (i : Int) < (m : Int) by omega), I_len, if_pos (show (0 : Int) < (cs.length : Int) by omega), if_neg (show ¬ (m : Int) = 0 by omega), Option.bind_some, hl, t3, if_pos (show (0 : Int) ≤ ((3 * i / m : Nat) : Int) from Int.natCast_nonneg _), if_pos (show ((3 * i / m : Nat) : Int) < 3 from Int.ofNat_lt.mpr t2), Int.toNat_natCast, if_pos (show (0 : Int) ≤ (((cs.getD 0 0 + i) % m : Nat) : Int) by omega), hp.1, if_pos (show (((cs.getD 0 0 + i) % m : Nat) : Int) < (m : Int) by omega)]
    exact h2
theorem rconk_l {cs : List Nat} {m : Nat} (hm : m ≤ 1048576) (hk : 2 ≤ cs.length) (hkm : cs.length ≤ 1048576) (hg : GoodC m cs) : ∀ d (i j : Nat) (out : List Int), i + d + 1 = m → Here cs j i → P (QB cs) (cs.getD 0 0) m i out →
    ∃ R, P (QB cs) (cs.getD 0 0) m m R ∧ Ev (fun n => pochoirref23_contour.l3 n (m : Int) (I cs) out (cs.length : Int) (j : Int) ((cs.getD ((j + 1) % cs.length) 0 : Nat) : Int) (((cs.getD 0 0 + i) % m : Nat) : Int)) R := by
  intro d
  induction d with
  | zero =>
    intro i j out h hh hp
    have hc := hg.1 0 (by omega)
    have hb : (cs.getD 0 0 + i) % m < m := Nat.mod_lt _ (by omega)
    have hs : P (QB cs) (cs.getD 0 0) m (i + 1) (out.set ((cs.getD 0 0 + i) % m) (B j cs.length)) := P_set hp (by omega) (fun j' hj' => by rw [here_one hg hh hj'])
    have hjl : j + 1 = cs.length := by
      rcases Nat.lt_or_ge (j + 1) cs.length with g | g
      · have := hh.2.2 g; have := hg.1 (j + 1) g; have := hg.2 0 (j + 1) (by omega) g; omega
      · have := hh.1; omega
    have em : ((cs.getD 0 0 + i) % m + 1) % m = cs.getD 0 0 := by
      rw [Nat.mod_add_mod, show cs.getD 0 0 + i + 1 = cs.getD 0 0 + m by omega, Nat.add_mod_right]; exact Nat.mod_eq_of_lt hc
    refine ⟨out.set ((cs.getD 0 0 + i) % m) (B j cs.length), (show i + 1 = m by omega) ▸ hs, Ev.step (fun n => by rw [pochoirref23_contour.l3]) ?_⟩
    have e1 : Int.tmod (wrap64 ((((cs.getD 0 0 + i) % m : Nat) : Int) + 1)) (m : Int) = ((((cs.getD 0 0 + i) % m + 1) % m : Nat) : Int) := by
      rw [w64 (by omega) (by omega)]; rfl
    rw [em] at e1
    have e2 : wrap64 ((j : Int) + 1) = ((cs.length : Nat) : Int) := by have := hh.1; rw [w64 (by omega) (by omega)]; omega
    simp only [of_f hkm hh.1, Option.bind_some, Int.toNat_natCast, if_pos (show (0 : Int) ≤ (((cs.getD 0 0 + i) % m : Nat) : Int) by omega), hp.1, if_pos (show (((cs.getD 0 0 + i) % m : Nat) : Int) < (m : Int) by omega), if_neg (show ¬ (m : Int) = 0 by omega), e1, e2, hjl, Nat.mod_self, if_true]
    refine Ev.step (fun n => by rw [pochoirref23_contour.l2]) ?_
    simp only [if_neg (show ¬ (cs.length : Int) < (cs.length : Int) by omega)]
    exact Ev.now _
  | succ d ih =>
    intro i j out h hh hp
    have hc := hg.1 0 (by omega)
    have hj := hh.1
    have hb : (cs.getD 0 0 + i) % m < m := Nat.mod_lt _ (by omega)
    have hs : P (QB cs) (cs.getD 0 0) m (i + 1) (out.set ((cs.getD 0 0 + i) % m) (B j cs.length)) := P_set hp (by omega) (fun j' hj' => by rw [here_one hg hh hj'])
    have em : ((cs.getD 0 0 + i) % m + 1) % m = (cs.getD 0 0 + (i + 1)) % m := by rw [Nat.mod_add_mod]; rfl
    have e1 : Int.tmod (wrap64 ((((cs.getD 0 0 + i) % m : Nat) : Int) + 1)) (m : Int) = ((((cs.getD 0 0 + i) % m + 1) % m : Nat) : Int) := by
      rw [w64 (by omega) (by omega)]; rfl
    rw [em] at e1
    have E1 := Aside0.mk e1
    clear e1
    have E2 : Aside0 (wrap64 ((j : Int) + 1) = ((j + 1 : Nat) : Int)) := ⟨by rw [w64 (by omega) (by omega)]; omega⟩
    by_cases g : j + 1 < cs.length
    · have g1 := hh.2.2 g
      have g2 := hg.1 (j + 1) g
      have ej : (j + 1) % cs.length = j + 1 := Nat.mod_eq_of_lt g
      have e3 : (cs.getD 0 0 + (i + 1)) % m = cs.getD 0 0 + (i + 1) := Nat.mod_eq_of_lt (by omega)
      by_cases c : cs.getD 0 0 + (i + 1) = cs.getD (j + 1) 0
      · have hn : Here cs (j + 1) (i + 1) := ⟨g, by omega, fun q => by have := hg.2 (j + 1) (j + 1 + 1) (by omega) q; omega⟩
        obtain ⟨R, h1, h2⟩ := ih (i + 1) (j + 1) _ (by omega) hn hs
        refine ⟨R, h1, Ev.step (fun n => by rw [pochoirref23_contour.l3]) ?_⟩
        simp only [of_f hkm hh.1, Option.bind_some, Int.toNat_natCast, if_pos (show (0 : Int) ≤ (((cs.getD 0 0 + i) % m : Nat) : Int) by omega), hp.1, if_pos (show (((cs.getD 0 0 + i) % m : Nat) : Int) < (m : Int) by omega), if_neg (show ¬ (m : Int) = 0 by omega), E1.out, E2.out, ej, if_pos (show (((cs.getD 0 0 + (i + 1)) % m : Nat) : Int) = ((cs.getD (j + 1) 0 : Nat) : Int) by omega)]
        refine Ev.step (fun n => by rw [pochoirref23_contour.l2]) ?_
        have E4 : Aside0 (Int.tmod (wrap64 (((j + 1 : Nat) : Int) + 1)) (cs.length : Int) = (((j + 1 + 1) % cs.length : Nat) : Int)) := ⟨by
          rw [w64 (by omega) (by omega), show ((j + 1 : Nat) : Int) + 1 = ((j + 1 + 1 : Nat) : Int) by omega, tm]⟩
        have e5 : (j + 1 + 1) % cs.length < cs.length := Nat.mod_lt _ (by omega)
        rw [E4.out, rdI, rdI]
        simp only [I_len, if_pos (show ((j + 1 : Nat) : Int) < (cs.length : Int) by omega), if_neg (show ¬ (cs.length : Int) = 0 by omega), if_pos (show (0 : Int) ≤ (((j + 1 + 1) % cs.length : Nat) : Int) by omega), if_pos (show (((j + 1 + 1) % cs.length : Nat) : Int) < (cs.length : Int) by omega), if_pos (show (0 : Int) ≤ ((j + 1 : Nat) : Int) by omega)]
        rw [e3, c] at h2
        exact h2
      · have hn : Here cs j (i + 1) := ⟨hj, by have := hh.2.1; omega, fun q => by omega⟩
        obtain ⟨R, h1, h2⟩ := ih (i + 1) j _ (by omega) hn hs
        refine ⟨R, h1, Ev.step (fun n => by rw [pochoirref23_contour.l3]) ?_⟩
        simp only [of_f hkm hh.1, Option.bind_some, Int.toNat_natCast, if_pos (show (0 : Int) ≤ (((cs.getD 0 0 + i) % m : Nat) : Int) by omega), hp.1, if_pos (show (((cs.getD 0 0 + i) % m : Nat) : Int) < (m : Int) by omega), if_neg (show ¬ (m : Int) = 0 by omega), E1.out, ej, if_neg (show ¬ (((cs.getD 0 0 + (i + 1)) % m : Nat) : Int) = ((cs.getD (j + 1) 0 : Nat) : Int) by omega)]
        rw [ej] at h2
        exact h2
    · have hjl : j + 1 = cs.length := by omega
      have hn : Here cs j (i + 1) := ⟨hj, by have := hh.2.1; omega, fun q => by omega⟩
      obtain ⟨R, h1, h2⟩ := ih (i + 1) j _ (by omega) hn hs
      refine ⟨R, h1, Ev.step (fun n => by rw [pochoirref23_contour.l3]) ?_⟩
      have ne : (cs.getD 0 0 + (i + 1)) % m ≠ cs.getD 0 0 := fun q => by
        have := mod_far (m := m) (a := cs.getD 0 0) (b := cs.getD 0 0 + (i + 1)) (by omega) (by omega)
        rw [Nat.mod_eq_of_lt hc] at this
        exact this q.symm
      simp only [of_f hkm hh.1, Option.bind_some, Int.toNat_natCast, if_pos (show (0 : Int) ≤ (((cs.getD 0 0 + i) % m : Nat) : Int) by omega), hp.1, if_pos (show (((cs.getD 0 0 + i) % m : Nat) : Int) < (m : Int) by omega), if_neg (show ¬ (m : Int) = 0 by omega), E1.out, hjl, Nat.mod_self, if_neg (show ¬ (((cs.getD 0 0 + (i + 1)) % m : Nat) : Int) = ((cs.getD 0 0 : Nat) : Int) by omega)]
      rw [hjl, Nat.mod_self] at h2
      exact h2
theorem rcon_j {cs : List Nat} {m : Nat} (hm : m ≤ 1048576) (hkm : cs.length ≤ m) (hg : GoodC m cs) (b : Bool) (hb : b = true ↔ (cs.length = 0 ∨ (cs.length = 1 ∧ m < 3))) :
    ∃ R, Col m cs R ∧ R.length = m ∧ Ev (fun n => pochoirref23_contour.j1 n (m : Int) (I cs) (List.replicate m 7) (cs.length : Int) b) R := by
  unfold Col
  cases b
  · have hn : ¬ (cs.length = 0 ∨ (cs.length = 1 ∧ m < 3)) := fun q => by simpa using hb.2 q
    simp only [if_neg hn]
    by_cases c1 : cs.length = 1
    · obtain ⟨R, h1, h2⟩ := rcon1_l hm c1 hg m 0 (List.replicate m 7) (by omega) ⟨by simp, fun t ht => by omega⟩
      refine ⟨R, by rw [if_pos c1]; exact h1, h1.1, Ev.step (fun n => by rw [pochoirref23_contour.j1]) ?_⟩
      simp only [Bool.false_eq_true, if_false, if_pos (show (cs.length : Int) = 1 by omega)]
      exact h2
    · have hc := hg.1 0 (by omega)
      have hh : Here cs 0 0 := ⟨by omega, by omega, fun q => by have := hg.2 0 1 (by omega) q; omega⟩
      obtain ⟨R, h1, h2⟩ := rconk_l hm (by omega) (by omega) hg (m - 1) 0 0 (List.replicate m 7) (by omega) hh ⟨by simp, fun t ht => by omega⟩
      refine ⟨R, by rw [if_neg c1]; exact h1, h1.1, Ev.step (fun n => by rw [pochoirref23_contour.j1]) ?_⟩
      simp only [Bool.false_eq_true, if_false, if_neg (show ¬ (cs.length : Int) = 1 by omega)]
      refine Ev.step (fun n => by rw [pochoirref23_contour.l2]) ?_
      have e4 : Int.tmod (wrap64 ((0 : Int) + 1)) (cs.length : Int) = (((0 + 1) % cs.length : Nat) : Int) := by
        rw [w64 (by omega) (by omega), ← tm]; rfl
      have e5 : (0 + 1) % cs.length < cs.length := Nat.mod_lt _ (by omega)
      have e0 : rd (I cs) 0 = ((cs.getD 0 0 : Nat) : Int) := rdI cs 0
      rw [e4, rdI, e0]
      simp only [I_len, if_pos (show (0 : Int) < (cs.length : Int) by omega), if_neg (show ¬ (cs.length : Int) = 0 by omega), if_pos (show (0 : Int) ≤ (((0 + 1) % cs.length : Nat) : Int) by omega), if_pos (show (((0 + 1) % cs.length : Nat) : Int) < (cs.length : Int) by omega), if_pos (show (0 : Int) ≤ 0 by omega)]
      have e6 : (cs.getD 0 0 + 0) % m = cs.getD 0 0 := by rw [Nat.add_zero]; exact Nat.mod_eq_of_lt hc
      rw [e6] at h2
      exact h2
  · have hn := hb.1 rfl
    refine ⟨List.replicate m 7, by rw [if_pos hn], by simp, Ev.step (fun n => by rw [pochoirref23_contour.j1]) ?_⟩
    simp only [if_true]
    exact Ev.now _
theorem rfill_l {cs : List Nat} {m : Nat} (hm : m ≤ 1048576) (hkm : cs.length ≤ m) (hg : GoodC m cs) : ∀ d (i : Nat) (out : List Int), i + d = m → P (fun _ v => v = 7) 0 m i out →
    ∃ R, Col m cs R ∧ R.length = m ∧ Ev (fun n => pochoirref23_contour.l0 n (m : Int) (I cs) out (cs.length : Int) (i : Int)) R
  | 0, i, out, h, hp => by
    have e : out = List.replicate m 7 := by
      rcases Nat.eq_zero_or_pos m with q | q
      · rw [q]; exact List.eq_nil_of_length_eq_zero (by rw [hp.1, q])
      · rw [show i = m by omega] at hp
        refine P_end hp (b := List.replicate m 7) ⟨by simp, fun t ht => ?_⟩ q (fun _ _ v w h1 h2 => h1.trans h2.symm)
        rw [Nat.zero_add, Nat.mod_eq_of_lt ht]
        simp [List.getD, ht]
    subst e
    have go := rcon_j hm hkm hg
    have gstep : ∀ b, (b = true ↔ (cs.length = 0 ∨ (cs.length = 1 ∧ m < 3))) → (∀ n, pochoirref23_contour.l0 (n + 1) (m : Int) (I cs) (List.replicate m 7) (cs.length : Int) (i : Int) = pochoirref23_contour.j1 n (m : Int) (I cs) (List.replicate m 7) (cs.length : Int) b) → ∃ R, Col m cs R ∧ R.length = m ∧ Ev (fun n => pochoirref23_contour.l0 n (m : Int) (I cs) (List.replicate m 7) (cs.length : Int) (i : Int)) R := fun b hb hq => by
      obtain ⟨R, h1, h2, h3⟩ := go b hb
      exact ⟨R, h1, h2, Ev.step hq h3⟩
    by_cases c0 : cs.length = 0
    · refine gstep true (by simp [c0]) (fun n => ?_)
      rw [pochoirref23_contour.l0, if_neg (show ¬ (i : Int) < (m : Int) by omega), if_pos (show (cs.length : Int) = 0 by omega)]
    · by_cases c1 : cs.length = 1
      · refine gstep (decide ((m : Int) < 3)) (by simp [c1]; omega) (fun n => ?_)
        rw [pochoirref23_contour.l0, if_neg (show ¬ (i : Int) < (m : Int) by omega), if_neg (show ¬ (cs.length : Int) = 0 by omega), if_pos (show (cs.length : Int) = 1 by omega)]
      · refine gstep false ⟨fun q => (by simp at q), fun q => (by exfalso; omega)⟩ (fun n => ?_)
        rw [pochoirref23_contour.l0, if_neg (show ¬ (i : Int) < (m : Int) by omega), if_neg (show ¬ (cs.length : Int) = 0 by omega), if_neg (show ¬ (cs.length : Int) = 1 by omega)]
  | d + 1, i, out, h, hp => by
    have hs := P_set (v := 7) hp (by omega) rfl
    have em : (0 + i) % m = i := by rw [Nat.zero_add]; exact Nat.mod_eq_of_lt (by omega)
    rw [em] at hs
    obtain ⟨R, h1, h2, h3⟩ := rfill_l hm hkm hg d (i + 1) _ (by omega) hs
    refine ⟨R, h1, h2, Ev.step (fun n => by rw [pochoirref23_contour.l0]) ?_⟩
    have e2 : wrap64 ((i : Int) + 1) = ((i + 1 : Nat) : Int) := by rw [w64 (by omega) (by omega)]; omega
    simp only [if_pos (show (i : Int) < (m : Int) by omega), if_pos (show (0 : Int) ≤ (i : Int) by omega), hp.1, Int.toNat_natCast, e2]
    exact h3
theorem rcon_ev {cs : List Nat} {m : Nat} (hm : m ≤ 1048576) (hkm : cs.length ≤ m) (hg : GoodC m cs) : ∃ R, Col m cs R ∧ R.length = m ∧ Ev (fun n => pochoirref23_contour.f n (m : Int) (I cs)) R := by
  obtain ⟨R, h1, h2, h3⟩ := rfill_l hm hkm hg m 0 (List.replicate m 0) (by omega) ⟨by simp, fun t ht => by omega⟩
  refine ⟨R, h1, h2, ?_⟩
  unfold pochoirref23_contour.f
  simp only [if_pos (show (0 : Int) ≤ (m : Int) by omega), Int.toNat_natCast, if_pos (show m ≤ 35184372088832 by omega), I_len]
  exact h3
/-- Both tell the same. -/
theorem con_both {cs : List Nat} {m : Nat} (hm : m ≤ 1048576) (hkm : cs.length ≤ m) (hg : GoodC m cs) : ∃ R, Col m cs R ∧ R.length = m ∧ Ev (fun n => color_contour.f n (m : Int) (I cs)) R ∧ Ev (fun n => pochoirref23_contour.f n (m : Int) (I cs)) R := by
  obtain ⟨R, h1, h2, h3⟩ := con_ev hm hkm hg
  obtain ⟨R', h1', h2', h3'⟩ := rcon_ev hm hkm hg
  exact ⟨R, h1, h2, h3, by rw [col_one hg h1 h1']; exact h3'⟩

end Go.Proofs.Ytalgppclaolonaa.XColr
