/- The pure law ColorRows: the colours of a contour with so many corners at its beginning are those of the reference. -/
import Derived.Test.YtalgppclaolonaaXColrColR
import Derived.Test.YtalgppclaolonaaXColrx14
namespace Go.Proofs.Ytalgppclaolonaa.Pure
open Go.RowKit Go.Proofs.Ytalgppclaolonaa.XColr Go.Proofs.Ytalgppclaolonaa.XM Go.Proofs.Ytalgppclaolonaa.NumM Go.Proofs.YtalgppclaolonaaW.PrintWords Go.Proofs.YtalgppclaolonaaW.PrintLast Go.Proofs.YtalgppclaolonaaW.PrintMore
set_option linter.unusedVariables false
set_option linter.unusedSimpArgs false

theorem ints23_l (a : List Int) (ha : a.length ≤ 1000000) : ∀ d (i : Nat), i + d = a.length → Ev (fun k => pochoirlaw23_ints.l0 k a a (a.length : Int) (i : Int)) true
  | 0, i, h => by
    refine Ev.step (fun k => by rw [pochoirlaw23_ints.l0]) ?_
    simp only [if_neg (show ¬ ((i : Int) < (a.length : Int)) by omega)]
    exact Ev.now _
  | d + 1, i, h => by
    refine Ev.step (fun k => by rw [pochoirlaw23_ints.l0]) ?_
    simp only [if_pos (show (i : Int) < (a.length : Int) by omega), if_pos (show (0 : Int) ≤ (i : Int) by omega), if_true]
    rw [w64 (by omega) (by omega)]
    exact ints23_l a ha d (i + 1) (by omega)
theorem ints23_ev (a : List Int) (ha : a.length ≤ 1000000) : Ev (fun k => pochoirlaw23_ints.f k a a) true := by
  unfold pochoirlaw23_ints.f
  simp only [if_true]
  exact ints23_l a ha a.length 0 (by omega)
theorem awake23_ev : Ev (fun k => pochoirlaw23_awake.f k) true := by
  refine Ev.of (g := fun k => pochoirlaw23_awake.f k) pochoirlaw23_awake.mono (k := 40) ?_
  decide +kernel
theorem good_range {n m : Nat} (h : n ≤ m) : GoodC m (List.range n) := by
  have e : ∀ j, j < n → (List.range n).getD j 0 = j := fun j hj => by simp [List.getD, hj]
  refine ⟨fun j hj => ?_, fun a b hab hb => ?_⟩
  · simp at hj; rw [e j hj]; omega
  · simp at hb; rw [e a (by omega), e b hb]; exact hab
theorem I_range (n : Nat) : I (List.range (n + 1)) = I (List.range n) ++ [(n : Int)] := by
  simp [I, List.range_succ]
theorem row_l {m : Nat} (hm : m ≤ 8192) {R : List Int} {n : Nat} (hn : n ≤ m) (hR : Ev (fun k => color_contour.f k (m : Int) (I (List.range n))) R) : ∀ d (i : Nat), i + d = n →
    Ev (fun k => color_Row.l0 k (m : Int) (I (List.range i) ++ List.replicate d 0) (n : Int) (i : Int)) R
  | 0, i, h => by
    refine Ev.step (fun k => by rw [color_Row.l0]) ?_
    simp only [if_neg (show ¬ (i : Int) < (n : Int) by omega), List.replicate_zero, List.append_nil]
    rw [show i = n by omega]
    exact Ev.bind hR (Ev.now _)
  | d + 1, i, h => by
    have ih := row_l hm hn hR d (i + 1) (by omega)
    refine Ev.step (fun k => by rw [color_Row.l0]) ?_
    have e2 : wrap64 ((i : Int) + 1) = ((i + 1 : Nat) : Int) := by rw [w64 (by omega) (by omega)]; omega
    have hl : (I (List.range i) ++ List.replicate (d + 1) (0 : Int)).length = n := by simp [I]; omega
    have es : (I (List.range i) ++ List.replicate (d + 1) (0 : Int)).set i (i : Int) = I (List.range (i + 1)) ++ List.replicate d 0 := by
      rw [I_range, List.set_append_right _ _ (by simp [I])]
      simp [I, List.replicate_succ]
    simp only [if_pos (show (i : Int) < (n : Int) by omega), if_pos (show (0 : Int) ≤ (i : Int) by omega), hl, Int.toNat_natCast, es, e2]
    exact ih
theorem rrow_l {m : Nat} (hm : m ≤ 8192) {R : List Int} {c : Int} {n : Nat} (hn : n ≤ m) (hc : (n : Int) = c ∨ (c < 0 ∧ n = 0) ∨ (m : Int) ≤ c ∧ n = m) (hR : Ev (fun k => pochoirref23_contour.f k (m : Int) (I (List.range n))) R) : ∀ d (i : Nat), i + d = n →
    Ev (fun k => pochoirref23_Row.l0 k c (m : Int) (I (List.range i)) (i : Int)) R
  | 0, i, h => by
    refine Ev.step (fun k => by rw [pochoirref23_Row.l0]) ?_
    rw [show i = n by omega]
    have stop := Ev.bind (f := fun _ t => some t) hR (Ev.now _)
    by_cases q : (n : Int) < c
    · simp only [if_pos q, if_neg (show ¬ (n : Int) < (m : Int) by omega)]
      exact stop
    · simp only [if_neg q]
      exact stop
  | d + 1, i, h => by
    have ih := rrow_l hm hn hc hR d (i + 1) (by omega)
    refine Ev.step (fun k => by rw [pochoirref23_Row.l0]) ?_
    have e2 : wrap64 ((i : Int) + 1) = ((i + 1 : Nat) : Int) := by rw [w64 (by omega) (by omega)]; omega
    have hl : (I (List.range i)).length = i := by simp [I]
    simp only [if_pos (show (i : Int) < c by omega), if_pos (show (i : Int) < (m : Int) by omega), hl, if_pos (show i < 17592186044416 by omega), e2, ← I_range]
    exact ih
theorem rows_ev (c e : Int) (he : e ≤ 300) : ∃ R : List Int, R.length ≤ 8192 ∧ Ev (fun k => color_Row.f k c e) R ∧ Ev (fun k => pochoirref23_Row.f k c e) R := by
  obtain ⟨m, em, hm⟩ : ∃ m : Nat, mn (mx e 0) 8192 = (m : Int) ∧ m ≤ 8192 := by
    refine ⟨(mn (mx e 0) 8192).toNat, ?_, ?_⟩ <;> (unfold mn mx; (repeat' split) <;> omega)
  obtain ⟨n, en, hn, hc⟩ : ∃ n : Nat, mn (mx c 0) (m : Int) = (n : Int) ∧ n ≤ m ∧ ((n : Int) = c ∨ (c < 0 ∧ n = 0) ∨ (m : Int) ≤ c ∧ n = m) := by
    refine ⟨(mn (mx c 0) (m : Int)).toNat, ?_, ?_, ?_⟩ <;> (unfold mn mx; (repeat' split) <;> omega)
  obtain ⟨R, h1, h2, h3, h4⟩ := con_both (cs := List.range n) (m := m) (by omega) (by simp; exact hn) (good_range hn)
  refine ⟨R, by omega, ?_, ?_⟩
  · unfold color_Row.f
    rw [em, en]
    simp only [if_pos (show (0 : Int) ≤ (n : Int) by omega), Int.toNat_natCast, if_pos (show n ≤ 35184372088832 by omega), Option.bind_some, List.length_replicate]
    have := row_l hm hn h3 n 0 (by omega)
    simpa [I] using this
  · unfold pochoirref23_Row.f
    rw [em]
    have := rrow_l hm hn hc h4 n 0 (by omega)
    simpa [I] using this
theorem ColorRows : pochoirlaw23_ColorRows.Pure := by
  intro c e hw1 hw2
  suffices hh_ : Ev (fun k => pochoirlaw23_ColorRows.f k c e) true from hh_.imp fun K h => h K (Nat.le_refl _)
  unfold pochoirlaw23_ColorRows.f
  refine Ev.bind awake23_ev ?_
  simp only [if_true]
  by_cases q : e > 300
  · simp only [if_pos q]; exact Ev.now _
  · simp only [if_neg q]
    obtain ⟨R, h0, h1, h2⟩ := rows_ev c e (by omega)
    refine Ev.bind h1 ?_
    refine Ev.bind h2 ?_
    refine Ev.bind (ints23_ev R (by omega)) ?_
    exact Ev.now _

end Go.Proofs.Ytalgppclaolonaa.Pure
