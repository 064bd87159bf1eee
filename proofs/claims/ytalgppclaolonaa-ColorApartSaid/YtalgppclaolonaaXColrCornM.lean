/- Edges of an outline (layer 16 and its reference): which may be; closed outlines. (Types: 36 a point, 38 an edge.) -/
import Derived.Test.YtalgppclaolonaaXM
import Derived.Test.YtalgppclaolonaaXColrx2
import Derived.Test.YtalgppclaolonaaXColrx3

namespace Go.Proofs.Ytalgppclaolonaa.XColr
open Go.RowKit Go.Proofs.Ytalgppclaolonaa.XM Go.Proofs.YtalgppclaolonaaW.PrintWords Go.Proofs.YtalgppclaolonaaW.PrintLast Go.Proofs.YtalgppclaolonaaW.PrintMore
set_option linter.unusedVariables false
set_option linter.unusedSimpArgs false

def Fine (p : S36) : Prop := -33554432 ≤ p.f0 ∧ p.f0 ≤ 33554432 ∧ -33554432 ≤ p.f1 ∧ p.f1 ≤ 33554432
instance (p : S36) : Decidable (Fine p) := by unfold Fine; infer_instance
def pe (p q : S36) : Bool := p.f0 == q.f0 && (p.f1 == q.f1)
def same (e : S38) : Bool := pe e.f2 e.f4 && (!e.f1 || pe e.f2 e.f3)
def One (e : S38) : Bool := decide (Fine e.f2) && decide (Fine e.f3) && decide (Fine e.f4) && !same e && (e.f1 || pe e.f3 ⟨0, 0⟩)
/-- Closed, from the run's first edge f and the edge ahead p on. -/
def cl (f p : S38) : List S38 → Bool
  | [] => pe p.f4 f.f2
  | e :: r => if e.f0 = f.f0 then pe e.f2 p.f4 && cl f e r else pe p.f4 f.f2 && cl e e r
def Closed : List S38 → Bool
  | [] => true
  | e :: r => cl e e r
def mayE (l : List S38) : Bool := decide (l.length ≤ 8192) && Closed l && l.all One

theorem pe_comm (p q : S36) : pe p q = pe q p := by unfold pe; rw [Bool.beq_comm, @Bool.beq_comm _ _ _ p.f1] <;> rfl
theorem pe_not (p q : S36) : ((!(p.f0 == q.f0)) || (!(p.f1 == q.f1))) = !(pe p q) := by unfold pe; rw [Bool.not_and]
theorem rd38 (l : List S38) (i : Nat) (h : i < l.length) : l.drop i = rd_T38 l (i : Int) :: l.drop (i + 1) := by
  rw [List.drop_eq_getElem_cons h]; simp [rd_T38, h]
theorem rd36 (l : List S36) (i : Nat) (h : i < l.length) : l.drop i = rd_T36 l (i : Int) :: l.drop (i + 1) := by
  rw [List.drop_eq_getElem_cons h]; simp [rd_T36, h]
theorem efine_l (l : List S36) (hl : l.length ≤ 1000000) : ∀ d (i : Nat), i + d = l.length → Ev (fun k => edge_fine.l0 k l (l.length : Int) (i : Int)) ((l.drop i).all fun p => decide (Fine p))
  | 0, i, h => by
    refine Ev.step (fun k => by rw [edge_fine.l0]) ?_
    rw [List.drop_eq_nil_of_le (by omega)]
    simp only [if_neg (show ¬ ((i : Int) < (l.length : Int)) by omega)]
    exact Ev.now _
  | d + 1, i, h => by
    have ih := efine_l l hl d (i + 1) (by omega)
    refine Ev.step (fun k => by rw [edge_fine.l0]) ?_
    simp only [if_pos (show ((i : Int) < (l.length : Int)) by omega), if_pos (show (0 : Int) ≤ i by omega)]
    rw [rd36 l i (by omega), List.all_cons, w64 (n := (i : Int) + 1) (by omega) (by omega)]
    generalize rd_T36 l (i : Int) = p
    by_cases c0 : p.f0 < -33554432
    · simp only [if_pos c0]; rw [decide_eq_false (by unfold Fine; omega)]; exact Ev.now _
    by_cases c1 : p.f0 > 33554432
    · simp only [if_neg c0, if_pos c1]; rw [decide_eq_false (by unfold Fine; omega)]; exact Ev.now _
    by_cases c2 : p.f1 < -33554432
    · simp only [if_neg c0, if_neg c1, if_pos c2]; rw [decide_eq_false (by unfold Fine; omega)]; exact Ev.now _
    by_cases c3 : p.f1 > 33554432
    · simp only [if_neg c0, if_neg c1, if_neg c2, if_pos c3]; rw [decide_eq_false (by unfold Fine; omega)]; exact Ev.now _
    simp only [if_neg c0, if_neg c1, if_neg c2, if_neg c3]
    rw [decide_eq_true (by unfold Fine; omega), Bool.true_and]
    exact ih
theorem efine_ev (l : List S36) (hl : l.length ≤ 1000000) : Ev (fun k => edge_fine.f k l) (l.all fun p => decide (Fine p)) := by
  have := efine_l l hl l.length 0 (by omega)
  simp only [List.drop_zero] at this
  exact this
theorem enone_f (e : S38) : edge_none.f e.f0 e.f1 e.f2.f0 e.f2.f1 e.f3.f0 e.f3.f1 e.f4.f0 e.f4.f1 = some (same e) := by
  unfold edge_none.f same
  have h1 : (e.f2.f0 == e.f4.f0 && (e.f2.f1 == e.f4.f1)) = pe e.f2 e.f4 := rfl
  have h2 : (e.f3.f0 == e.f2.f0 && (e.f3.f1 == e.f2.f1)) = pe e.f2 e.f3 := pe_comm e.f3 e.f2
  rw [h1, h2]
  cases pe e.f2 e.f4 <;> cases e.f1 <;> simp
theorem eclosed : ∀ (m : Nat) (l : List S38), l.length ≤ 1000000 → l.length ≤ m →
    Ev (fun k => edge_Closed.l0 k l) (Closed l) ∧ ∀ d (n : Nat), n + d = l.length → 1 ≤ n → Ev (fun k => edge_Closed.l1 k l (n : Int)) (cl (rd_T38 l 0) (rd_T38 l ((n : Int) - 1)) (l.drop n)) := by
  intro m
  induction m with
  | zero =>
    intro l hl hm
    refine ⟨?_, fun d n h1 h2 => by omega⟩
    refine Ev.step (fun k => by rw [edge_Closed.l0]) ?_
    simp only [if_neg (show ¬ ((l.length : Int) > 0) by omega)]
    obtain rfl : l = [] := List.eq_nil_of_length_eq_zero (by omega)
    exact Ev.now _
  | succ m ih =>
    intro l hl hm
    have L1 : ∀ d (n : Nat), n + d = l.length → 1 ≤ n → Ev (fun k => edge_Closed.l1 k l (n : Int)) (cl (rd_T38 l 0) (rd_T38 l ((n : Int) - 1)) (l.drop n)) := by
      intro d
      induction d with
      | zero =>
        intro n h1 h2
        refine Ev.step (fun k => by rw [edge_Closed.l1]) ?_
        simp only [if_neg (show ¬ ((n : Int) < (l.length : Int)) by omega)]
        refine Ev.step (fun k => by rw [edge_Closed.j2]) ?_
        rw [w64 (n := (n : Int) - 1) (by omega) (by omega)]
        simp only [Bool.false_eq_true, if_false, if_pos (show (0 : Int) ≤ (n : Int) - 1 by omega), if_pos (show (n : Int) - 1 < (l.length : Int) by omega), if_pos (show (0 : Int) < (l.length : Int) by omega), if_pos (show (0 : Int) ≤ (n : Int) by omega), if_pos (show (n : Int) ≤ (l.length : Int) by omega), Int.toNat_natCast, pe_not]
        rw [List.drop_eq_nil_of_le (by omega)]
        simp only [cl]
        cases pe (rd_T38 l ((n : Int) - 1)).f4 (rd_T38 l 0).f2
        · simp; exact Ev.now _
        · simp only [Bool.not_true, Bool.false_eq_true, if_false]
          exact (ih [] (by simp) (by simp)).1
      | succ d ihd =>
        intro n h1 h2
        have g := ihd (n + 1) (by omega) (by omega)
        refine Ev.step (fun k => by rw [edge_Closed.l1]) ?_
        simp only [if_pos (show ((n : Int) < (l.length : Int)) by omega), if_pos (show (0 : Int) ≤ (n : Int) by omega), if_pos (show (0 : Int) < (l.length : Int) by omega)]
        refine Ev.step (fun k => by rw [edge_Closed.j2]) ?_
        rw [w64 (n := (n : Int) - 1) (by omega) (by omega), w64 (n := (n : Int) + 1) (by omega) (by omega)]
        simp only [if_pos (show (0 : Int) ≤ (n : Int) - 1 by omega), if_pos (show (n : Int) - 1 < (l.length : Int) by omega), if_pos (show (0 : Int) < (l.length : Int) by omega), if_pos (show (0 : Int) ≤ (n : Int) by omega), if_pos (show (n : Int) < (l.length : Int) by omega), if_pos (show (n : Int) ≤ (l.length : Int) by omega), Int.toNat_natCast, pe_not]
        rw [rd38 l n (by omega)]
        rw [show ((n + 1 : Nat) : Int) - 1 = (n : Int) by omega, show ((n + 1 : Nat) : Int) = (n : Int) + 1 by omega] at g
        simp only [cl]
        by_cases c : (rd_T38 l (n : Int)).f0 = (rd_T38 l 0).f0
        · rw [if_pos c]
          simp only [c, beq_self_eq_true, if_true]
          cases pe (rd_T38 l (n : Int)).f2 (rd_T38 l ((n : Int) - 1)).f4
          · simp; exact Ev.now _
          · simp only [Bool.not_true, Bool.false_eq_true, if_false, Bool.true_and]
            exact g
        · rw [if_neg c]
          simp only [beq_eq_false_iff_ne.2 c, Bool.false_eq_true, if_false]
          cases pe (rd_T38 l ((n : Int) - 1)).f4 (rd_T38 l 0).f2
          · simp; exact Ev.now _
          · simp only [Bool.not_true, Bool.false_eq_true, if_false, Bool.true_and]
            have h3 := (ih (l.drop n) (by simp; omega) (by simp; omega)).1
            rw [rd38 l n (by omega)] at h3
            exact h3
    refine ⟨?_, L1⟩
    cases hlc : l with
    | nil =>
      refine Ev.step (fun k => by rw [edge_Closed.l0]) ?_
      simp only [List.length_nil, if_neg (show ¬ (((0 : Nat) : Int) > 0) by omega)]
      exact Ev.now _
    | cons e r =>
      rw [← hlc]
      have hlen : l.length = r.length + 1 := by rw [hlc]; rfl
      refine Ev.step (fun k => by rw [edge_Closed.l0]) ?_
      simp only [if_pos (show (l.length : Int) > 0 by omega)]
      have g := L1 r.length 1 (by omega) (by omega)
      rw [show (((1 : Nat) : Int) - 1) = 0 by omega] at g
      have e0 : rd_T38 l 0 = e := by rw [hlc]; rfl
      have e1 : l.drop 1 = r := by rw [hlc]; rfl
      rw [e0, e1] at g
      rw [hlc] at g ⊢
      exact g
theorem eclosed_ev (l : List S38) (hl : l.length ≤ 1000000) : Ev (fun k => edge_Closed.f k l) (Closed l) := (eclosed l.length l hl (Nat.le_refl _)).1
theorem one_all (e : S38) : One e = (([⟨e.f2.f0, e.f2.f1⟩, ⟨e.f3.f0, e.f3.f1⟩, ⟨e.f4.f0, e.f4.f1⟩] : List S36).all (fun p => decide (Fine p)) && (!same e) && (e.f1 || pe e.f3 ⟨0, 0⟩)) := by
  simp [One, Bool.and_assoc]
theorem emay_l (l : List S38) (hl : l.length ≤ 1000000) : ∀ d (i : Nat), i + d = l.length → Ev (fun k => edge_May.l0 k l (l.length : Int) (i : Int)) ((l.drop i).all One)
  | 0, i, h => by
    refine Ev.step (fun k => by rw [edge_May.l0]) ?_
    rw [List.drop_eq_nil_of_le (by omega)]
    simp only [if_neg (show ¬ ((i : Int) < (l.length : Int)) by omega)]
    exact Ev.now _
  | d + 1, i, h => by
    have ih := emay_l l hl d (i + 1) (by omega)
    refine Ev.step (fun k => by rw [edge_May.l0]) ?_
    simp only [if_pos (show ((i : Int) < (l.length : Int)) by omega), if_pos (show (0 : Int) ≤ i by omega)]
    rw [rd38 l i (by omega), List.all_cons, w64 (n := (i : Int) + 1) (by omega) (by omega)]
    generalize rd_T38 l (i : Int) = e
    rw [show ((i + 1 : Nat) : Int) = (i : Int) + 1 by omega] at ih
    refine Ev.bind (efine_ev _ (by simp)) ?_
    rw [one_all]
    cases hf : (([⟨e.f2.f0, e.f2.f1⟩, ⟨e.f3.f0, e.f3.f1⟩, ⟨e.f4.f0, e.f4.f1⟩] : List S36).all (fun p => decide (Fine p)))
    · simp; exact Ev.now _
    · simp only [if_true, enone_f, Option.bind_some, Bool.true_and]
      cases hs : same e
      · simp only [Bool.false_eq_true, if_false, Bool.not_false, Bool.true_and]
        have hp : ((!(e.f3.f0 == 0)) || (!(e.f3.f1 == 0))) = !(pe e.f3 ⟨0, 0⟩) := pe_not e.f3 ⟨0, 0⟩
        cases hq : e.f1
        · simp only [Bool.false_eq_true, if_false, hp, Bool.false_or]
          cases pe e.f3 ⟨0, 0⟩
          · simp; exact Ev.now _
          · simpa using ih
        · simpa using ih
      · simp; exact Ev.now _
theorem emay_ev (l : List S38) (hl : l.length ≤ 1000000) : Ev (fun k => edge_May.f k l) (mayE l) := by
  unfold edge_May.f mayE
  have J : ∀ b : Bool, Ev (fun k => edge_May.j0 k l b) (!b && l.all One) := by
    intro b
    refine Ev.step (fun k => by rw [edge_May.j0]) ?_
    cases b
    · simp only [Bool.false_eq_true, if_false, Bool.not_false, Bool.true_and]
      have := emay_l l hl l.length 0 (by omega)
      simp only [List.drop_zero] at this
      exact this
    · simp; exact Ev.now _
  by_cases c : (l.length : Int) > 8192
  · simp only [if_pos c, decide_eq_false (show ¬ (l.length ≤ 8192) by omega), Bool.false_and]
    exact Ev.eq (J true) (by simp)
  · simp only [if_neg c, decide_eq_true (show l.length ≤ 8192 by omega), Bool.true_and]
    refine Ev.bind (eclosed_ev l hl) ?_
    exact Ev.eq (J _) (by simp)

end Go.Proofs.Ytalgppclaolonaa.XColr
