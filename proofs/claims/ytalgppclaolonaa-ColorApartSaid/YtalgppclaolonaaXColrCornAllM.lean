/- All corners of an outline: layer 22 and its reference. -/
import Derived.Test.YtalgppclaolonaaXColrCornIsM
import Derived.Test.YtalgppclaolonaaXColrx15
import Derived.Test.YtalgppclaolonaaXColrx16
import Derived.Test.YtalgppclaolonaaXColrx17

namespace Go.Proofs.Ytalgppclaolonaa.XColr
open Go.RowKit Go.Proofs.Ytalgppclaolonaa.XM Go.Proofs.Ytalgppclaolonaa.NumM Go.Proofs.YtalgppclaolonaaW.PrintWords Go.Proofs.YtalgppclaolonaaW.PrintLast Go.Proofs.YtalgppclaolonaaW.PrintMore
set_option linter.unusedVariables false
set_option linter.unusedSimpArgs false

theorem rfine_f (p : S36) : pochoirref16_fine.f p.f0 p.f1 = some (decide (Fine p)) := by
  unfold pochoirref16_fine.f Fine
  by_cases h0 : p.f0 ≥ -33554432 <;> by_cases h1 : p.f0 ≤ 33554432 <;> by_cases h2 : p.f1 ≥ -33554432 <;> by_cases h3 : p.f1 ≤ 33554432 <;> simp [*] <;> omega
theorem rsame_f (e : S38) : pochoirref16_same.f e.f0 e.f1 e.f2.f0 e.f2.f1 e.f3.f0 e.f3.f1 e.f4.f0 e.f4.f1 = some (same e) := by
  unfold pochoirref16_same.f same
  have h1 : (e.f2.f0 == e.f4.f0 && (e.f2.f1 == e.f4.f1)) = pe e.f2 e.f4 := rfl
  have h2 : (e.f2.f0 == e.f3.f0 && (e.f2.f1 == e.f3.f1)) = pe e.f2 e.f3 := rfl
  rw [h1, h2]
  cases pe e.f2 e.f4 <;> cases e.f1 <;> simp
theorem rone_f (e : S38) : pochoirref16_One.f e.f0 e.f1 e.f2.f0 e.f2.f1 e.f3.f0 e.f3.f1 e.f4.f0 e.f4.f1 = some (One e) := by
  unfold pochoirref16_One.f One
  have h1 : (e.f3.f0 == 0 && (e.f3.f1 == 0)) = pe e.f3 ⟨0, 0⟩ := rfl
  simp only [rfine_f, rsame_f, Option.bind_some, h1]
  cases decide (Fine e.f2) <;> cases decide (Fine e.f3) <;> cases decide (Fine e.f4) <;> cases same e <;> cases e.f1 <;> simp
theorem rclosed_l (l : List S38) (hl : l.length ≤ 1000000) : ∀ d (i first : Nat), i + d + 1 = l.length → first ≤ i →
    Ev (fun k => pochoirref16_Closed.l0 k l (first : Int) (i : Int)) (cl (rd_T38 l ((if (rd_T38 l (i : Int)).f0 = (rd_T38 l (first : Int)).f0 then first else i : Nat) : Int)) (rd_T38 l (i : Int)) (l.drop (i + 1))) := by
  intro d
  induction d with
  | zero =>
    intro i first h hf
    have e1 : wrap64 ((l.length : Int) - 1) = (i : Int) := by rw [w64 (by omega) (by omega)]; omega
    have e2 : wrap64 ((i : Int) + 1) = ((i + 1 : Nat) : Int) := by rw [w64 (by omega) (by omega)]; omega
    have last : ∀ x : Nat, Ev (fun k => pochoirref16_Closed.l0 k l (x : Int) ((i + 1 : Nat) : Int)) true := fun x => by
      refine Ev.step (fun k => by rw [pochoirref16_Closed.l0]) ?_
      simp only [if_neg (show ¬ (((i + 1 : Nat) : Int) < (l.length : Int)) by omega)]
      exact Ev.now _
    refine Ev.step (fun k => by rw [pochoirref16_Closed.l0]) ?_
    rw [List.drop_eq_nil_of_le (by omega), e1, e2]
    simp only [if_pos (show (i : Int) < (l.length : Int) by omega), if_pos (show (0 : Int) ≤ (i : Int) by omega), if_pos (show (0 : Int) ≤ (first : Int) by omega), if_pos (show (first : Int) < (l.length : Int) by omega), if_true, pe_not, cl]
    by_cases c : (rd_T38 l (i : Int)).f0 = (rd_T38 l (first : Int)).f0
    · simp only [if_pos c]
      cases pe (rd_T38 l (i : Int)).f4 (rd_T38 l (first : Int)).f2
      · simp; exact Ev.now _
      · simp only [Bool.not_true, Bool.false_eq_true, if_false]; exact last first
    · simp only [if_neg c]
      cases pe (rd_T38 l (i : Int)).f4 (rd_T38 l (i : Int)).f2
      · simp; exact Ev.now _
      · simp only [Bool.not_true, Bool.false_eq_true, if_false]; exact last i
  | succ d ih =>
    intro i first h hf
    have e1 : wrap64 ((l.length : Int) - 1) = (l.length : Int) - 1 := w64 (by omega) (by omega)
    have e2 : wrap64 ((i : Int) + 1) = ((i + 1 : Nat) : Int) := by rw [w64 (by omega) (by omega)]; omega
    have g := fun x hx => ih (i + 1) x (by omega) hx
    refine Ev.step (fun k => by rw [pochoirref16_Closed.l0]) ?_
    rw [e1, e2, rd38 l (i + 1) (by omega)]
    simp only [if_pos (show (i : Int) < (l.length : Int) by omega), if_pos (show (0 : Int) ≤ (i : Int) by omega), if_pos (show (0 : Int) ≤ (first : Int) by omega), if_pos (show (first : Int) < (l.length : Int) by omega), if_neg (show ¬ ((i : Int) = (l.length : Int) - 1) by omega),
      if_pos (show (0 : Int) ≤ ((i + 1 : Nat) : Int) by omega), if_pos (show ((i + 1 : Nat) : Int) < (l.length : Int) by omega), pe_not, cl]
    by_cases c : (rd_T38 l (i : Int)).f0 = (rd_T38 l (first : Int)).f0
    · simp only [if_pos c]
      by_cases c2 : (rd_T38 l ((i + 1 : Nat) : Int)).f0 = (rd_T38 l (i : Int)).f0
      · have c3 : (rd_T38 l ((i + 1 : Nat) : Int)).f0 = (rd_T38 l (first : Int)).f0 := c2.trans c
        have g1 := g first (by omega)
        rw [if_pos c3] at g1
        simp only [if_pos c2, if_pos c3]
        rw [pe_comm (rd_T38 l ((i + 1 : Nat) : Int)).f2]
        cases pe (rd_T38 l (i : Int)).f4 (rd_T38 l ((i + 1 : Nat) : Int)).f2
        · simp; exact Ev.now _
        · simp only [Bool.not_true, Bool.false_eq_true, if_false, Bool.true_and]; exact g1
      · have c3 : ¬ (rd_T38 l ((i + 1 : Nat) : Int)).f0 = (rd_T38 l (first : Int)).f0 := fun q => c2 (q.trans c.symm)
        have g1 := g first (by omega)
        rw [if_neg c3] at g1
        simp only [if_neg c2, if_neg c3]
        cases pe (rd_T38 l (i : Int)).f4 (rd_T38 l (first : Int)).f2
        · simp; exact Ev.now _
        · simp only [Bool.not_true, Bool.false_eq_true, if_false, Bool.true_and]; exact g1
    · simp only [if_neg c]
      by_cases c2 : (rd_T38 l ((i + 1 : Nat) : Int)).f0 = (rd_T38 l (i : Int)).f0
      · have g1 := g i (by omega)
        rw [if_pos c2] at g1
        simp only [if_pos c2]
        rw [pe_comm (rd_T38 l ((i + 1 : Nat) : Int)).f2]
        cases pe (rd_T38 l (i : Int)).f4 (rd_T38 l ((i + 1 : Nat) : Int)).f2
        · simp; exact Ev.now _
        · simp only [Bool.not_true, Bool.false_eq_true, if_false, Bool.true_and]; exact g1
      · have g1 := g i (by omega)
        rw [if_neg c2] at g1
        simp only [if_neg c2]
        cases pe (rd_T38 l (i : Int)).f4 (rd_T38 l (i : Int)).f2
        · simp; exact Ev.now _
        · simp only [Bool.not_true, Bool.false_eq_true, if_false, Bool.true_and]; exact g1
theorem rclosed_ev (l : List S38) (hl : l.length ≤ 1000000) : Ev (fun k => pochoirref16_Closed.f k l) (Closed l) := by
  unfold pochoirref16_Closed.f
  cases hlc : l with
  | nil =>
    refine Ev.step (fun k => by rw [pochoirref16_Closed.l0]) ?_
    simp only [List.length_nil, if_neg (show ¬ ((0 : Int) < ((0 : Nat) : Int)) by omega)]
    exact Ev.now _
  | cons e r =>
    rw [← hlc]
    have hlen : l.length = r.length + 1 := by rw [hlc]; rfl
    have g := rclosed_l l hl r.length 0 0 (by omega) (by omega)
    have e0 : rd_T38 l ((0 : Nat) : Int) = e := by rw [hlc]; rfl
    have e1 : l.drop (0 + 1) = r := by rw [hlc]; rfl
    rw [if_pos rfl, e0, e1] at g
    rw [hlc] at g ⊢
    exact g
theorem rmay_l (l : List S38) (hl : l.length ≤ 1000000) : ∀ d (i : Nat), i + d = l.length → Ev (fun k => pochoirref16_May.l0 k l (i : Int)) ((l.drop i).all One && Closed l)
  | 0, i, h => by
    refine Ev.step (fun k => by rw [pochoirref16_May.l0]) ?_
    rw [List.drop_eq_nil_of_le (by omega)]
    simp only [if_neg (show ¬ ((i : Int) < (l.length : Int)) by omega), List.all_nil, Bool.true_and]
    exact Ev.bind (rclosed_ev l hl) (Ev.now _)
  | d + 1, i, h => by
    have ih := rmay_l l hl d (i + 1) (by omega)
    refine Ev.step (fun k => by rw [pochoirref16_May.l0]) ?_
    simp only [if_pos (show ((i : Int) < (l.length : Int)) by omega), if_pos (show (0 : Int) ≤ (i : Int) by omega), rone_f, Option.bind_some]
    rw [rd38 l i (by omega), List.all_cons, w64 (n := (i : Int) + 1) (by omega) (by omega)]
    rw [show ((i + 1 : Nat) : Int) = (i : Int) + 1 by omega] at ih
    cases One (rd_T38 l (i : Int))
    · simp; exact Ev.now _
    · simp only [if_true, Bool.true_and]; exact ih
theorem rmay_ev (l : List S38) (hl : l.length ≤ 1000000) : Ev (fun k => pochoirref16_May.f k l) (mayE l) := by
  unfold pochoirref16_May.f mayE
  by_cases c : (l.length : Int) > 8192
  · simp only [if_pos c, decide_eq_false (show ¬ (l.length ≤ 8192) by omega), Bool.false_and]
    exact Ev.now _
  · simp only [if_neg c, decide_eq_true (show l.length ≤ 8192 by omega), Bool.true_and]
    have := rmay_l l hl l.length 0 (by omega)
    simp only [List.drop_zero] at this
    rw [Bool.and_comm] at this
    exact this
/-- How many edges of a contour stand at the beginning. -/
def rn (c : Int) : List S38 → Nat
  | [] => 0
  | e :: r => if e.f0 = c then rn c r + 1 else 0
theorem rn_le (c : Int) : ∀ l : List S38, rn c l ≤ l.length
  | [] => by simp [rn]
  | e :: r => by have := rn_le c r; simp only [rn]; split <;> simp <;> omega
def aheadE (l : List S38) (i : Nat) : Nat := if 0 < i ∧ (rd_T38 l ((i - 1 : Nat) : Int)).f0 = (rd_T38 l (i : Int)).f0 then i - 1 else i + rn (rd_T38 l (i : Int)).f0 (l.drop (i + 1))
theorem ahead_lt (l : List S38) (i : Nat) (h : i < l.length) : aheadE l i < l.length := by
  unfold aheadE
  have := rn_le (rd_T38 l (i : Int)).f0 (l.drop (i + 1))
  simp at this
  split <;> omega
theorem rahead_l (l : List S38) (hl : l.length ≤ 1000000) (i : Nat) (hi : i < l.length) : ∀ d (j : Nat), j + d + 1 = l.length → Ev (fun k => pochoirref22_Ahead.l0 k l (i : Int) (j : Int)) ((j + rn (rd_T38 l (i : Int)).f0 (l.drop (j + 1)) : Nat) : Int)
  | 0, j, h => by
    refine Ev.step (fun k => by rw [pochoirref22_Ahead.l0]) ?_
    rw [List.drop_eq_nil_of_le (by omega), w64 (by omega) (by omega)]
    simp only [if_neg (show ¬ ((j : Int) + 1 < (l.length : Int)) by omega), rn]
    exact Ev.some (by omega)
  | d + 1, j, h => by
    have ih := rahead_l l hl i hi d (j + 1) (by omega)
    refine Ev.step (fun k => by rw [pochoirref22_Ahead.l0]) ?_
    have e2 : wrap64 ((j : Int) + 1) = ((j + 1 : Nat) : Int) := by rw [w64 (by omega) (by omega)]; omega
    rw [e2, rd38 l (j + 1) (by omega)]
    simp only [if_pos (show ((j + 1 : Nat) : Int) < (l.length : Int) by omega), if_pos (show (0 : Int) ≤ ((j + 1 : Nat) : Int) by omega), if_pos (show (0 : Int) ≤ (i : Int) by omega), if_pos (show (i : Int) < (l.length : Int) by omega), rn]
    by_cases c : (rd_T38 l ((j + 1 : Nat) : Int)).f0 = (rd_T38 l (i : Int)).f0
    · simp only [if_pos c]
      refine Ev.eq ih (by omega)
    · simp only [if_neg c]; exact Ev.some (by omega)
theorem rahead_ev (l : List S38) (hl : l.length ≤ 1000000) (i : Nat) (hi : i < l.length) : Ev (fun k => pochoirref22_Ahead.f k l (i : Int)) ((aheadE l i : Nat) : Int) := by
  unfold pochoirref22_Ahead.f aheadE
  have J : ∀ b : Bool, (b = true → 0 < i) → Ev (fun k => pochoirref22_Ahead.j0 k l (i : Int) b) ((if b = true then i - 1 else i + rn (rd_T38 l (i : Int)).f0 (l.drop (i + 1)) : Nat) : Int) := by
    intro b hb
    refine Ev.step (fun k => by rw [pochoirref22_Ahead.j0]) ?_
    cases b
    · simp only [Bool.false_eq_true, if_false]; exact rahead_l l hl i hi (l.length - 1 - i) i (by omega)
    · have := hb rfl
      simp only [if_true]
      rw [w64 (by omega) (by omega)]; exact Ev.some (by omega)
  by_cases c : (i : Int) > 0
  · have e2 : wrap64 ((i : Int) - 1) = ((i - 1 : Nat) : Int) := by rw [w64 (by omega) (by omega)]; omega
    rw [e2]
    simp only [if_pos c, if_pos (show (0 : Int) ≤ ((i - 1 : Nat) : Int) by omega), if_pos (show ((i - 1 : Nat) : Int) < (l.length : Int) by omega), if_pos (show (0 : Int) ≤ (i : Int) by omega), if_pos (show (i : Int) < (l.length : Int) by omega)]
    refine Ev.eq (J _ (fun _ => by omega)) ?_
    simp [show 0 < i by omega]
  · simp only [if_neg c]
    refine Ev.eq (J false (by simp)) ?_
    simp [show ¬ 0 < i by omega]
/-- The corners from a place on. -/
def corners (l : List S38) (i : Nat) : Nat → List Int
  | 0 => []
  | d + 1 => (if isC (rd_T38 l ((aheadE l i : Nat) : Int)) (rd_T38 l (i : Int)) = true then [(i : Int)] else []) ++ corners l (i + 1) d
theorem rall_l (l : List S38) (hl : l.length ≤ 8192) (hm : l.all One = true) : ∀ d (i : Nat) (out : List Int), i + d = l.length → out.length ≤ i → Ev (fun k => pochoirref22_All.l0 k l out (i : Int)) (out ++ corners l i d, 0)
  | 0, i, out, h, ho => by
    refine Ev.step (fun k => by rw [pochoirref22_All.l0]) ?_
    simp only [if_neg (show ¬ ((i : Int) < (l.length : Int)) by omega), corners, List.append_nil]
    exact Ev.now _
  | d + 1, i, out, h, ho => by
    have one : ∀ j : Nat, j < l.length → One (rd_T38 l (j : Int)) = true := fun j hj => by
      have : rd_T38 l (j : Int) = l[j] := by simp [rd_T38, hj]
      rw [this]; exact List.all_eq_true.1 hm _ (List.getElem_mem hj)
    have ha := ahead_lt l i (by omega)
    refine Ev.step (fun k => by rw [pochoirref22_All.l0]) ?_
    simp only [if_pos (show (i : Int) < (l.length : Int) by omega)]
    refine Ev.bind (rahead_ev l (by omega) i (by omega)) ?_
    simp only [if_pos (show (0 : Int) ≤ ((aheadE l i : Nat) : Int) by omega), if_pos (show ((aheadE l i : Nat) : Int) < (l.length : Int) by omega), if_pos (show (0 : Int) ≤ (i : Int) by omega)]
    refine Ev.bind (ris_ev (one _ ha) (one i (by omega))) ?_
    rw [w64 (n := (i : Int) + 1) (by omega) (by omega)]
    simp only [corners]
    cases isC (rd_T38 l ((aheadE l i : Nat) : Int)) (rd_T38 l (i : Int))
    · simp only [Bool.false_eq_true, if_false, List.nil_append]
      exact rall_l l hl hm d (i + 1) out (by omega) (by omega)
    · simp only [if_true, if_pos (show out.length < 17592186044416 by omega)]
      rw [← List.append_assoc]
      exact rall_l l hl hm d (i + 1) (out ++ [(i : Int)]) (by omega) (by simp; omega)
theorem rAll_ev (l : List S38) (hl : l.length ≤ 60) : Ev (fun k => pochoirref22_All.f k l) (if mayE l = true then (corners l 0 l.length, 0) else ([], 1)) := by
  unfold pochoirref22_All.f
  refine Ev.bind (rmay_ev l (by omega)) ?_
  cases h : mayE l
  · simp; exact Ev.now _
  · simp only [if_true]
    have hm : l.all One = true := by simp only [mayE, Bool.and_eq_true] at h; exact h.2
    have := rall_l l (by omega) hm l.length 0 [] (by omega) (by simp)
    simpa using this

end Go.Proofs.Ytalgppclaolonaa.XColr
