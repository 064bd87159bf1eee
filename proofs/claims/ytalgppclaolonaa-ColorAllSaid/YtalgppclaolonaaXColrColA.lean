/- The colours of an outline: contour by contour, layer 23 and its reference tell the same. -/
import Derived.Test.YtalgppclaolonaaXColrColR
import Derived.Test.YtalgppclaolonaaXColrColA0
import Derived.Test.YtalgppclaolonaaXColrx18

namespace Go.Proofs.Ytalgppclaolonaa.XColr
open Go.RowKit Go.Proofs.Ytalgppclaolonaa.XM Go.Proofs.Ytalgppclaolonaa.NumM Go.Proofs.YtalgppclaolonaaW.PrintWords Go.Proofs.YtalgppclaolonaaW.PrintLast Go.Proofs.YtalgppclaolonaaW.PrintMore
set_option linter.unusedVariables false
set_option linter.unusedSimpArgs false

theorem r_find {l : List S38} (hl : l.length ≤ 8192) {X Y : List Int} {fr T : Nat} (hc : Cont l fr T) {Z : List Int × Int} (cont : Ev (fun k => pochoirref23_All.j2 k l X Y (fr : Int) (T : Int)) Z) : ∀ d (tt : Nat), tt + d = T → fr ≤ tt → Ev (fun k => pochoirref23_All.l1 k l X Y (fr : Int) (tt : Int)) Z
  | 0, tt, h, h1 => by
    obtain ⟨a1, a2, a3, a4, a5⟩ := hc
    have : tt = T := by omega
    subst this
    refine Ev.step (fun k => by rw [pochoirref23_All.l1]) ?_
    rcases a4 with q | q
    · simp only [if_neg (show ¬ (tt : Int) < (l.length : Int) by omega)]; exact cont
    · by_cases g : (tt : Int) < (l.length : Int)
      · simp only [if_pos g, if_pos (show (0 : Int) ≤ (tt : Int) by omega), if_pos (show (0 : Int) ≤ (fr : Int) by omega), if_pos (show (fr : Int) < (l.length : Int) by omega), if_neg q]; exact cont
      · simp only [if_neg g]; exact cont
  | d + 1, tt, h, h1 => by
    have ih := r_find hl hc cont d (tt + 1) (by omega) (by omega)
    obtain ⟨a1, a2, a3, a4, a5⟩ := hc
    refine Ev.step (fun k => by rw [pochoirref23_All.l1]) ?_
    simp only [if_pos (show (tt : Int) < (l.length : Int) by omega), if_pos (show (0 : Int) ≤ (tt : Int) by omega), if_pos (show (0 : Int) ≤ (fr : Int) by omega), if_pos (show (fr : Int) < (l.length : Int) by omega), if_pos (a3 tt (by omega) (by omega))]
    rw [w64 (by omega) (by omega), show (tt : Int) + 1 = ((tt + 1 : Nat) : Int) by omega]
    exact ih
theorem r_own {l : List S38} {out R : List Int} {fr T : Nat} (hT : T ≤ 8192) (hf : fr ≤ T) {ws : List Nat} (hw : ws.length ≤ 10000) {Z : List Int × Int} (hn : out.length + R.length < 1000000)
    (next : Ev (fun k => pochoirref23_All.l0 k l (I ws) (out ++ R) (T : Int)) Z) : ∀ d (j : Nat) (own : List Nat), j + d = ws.length → own.length ≤ j →
      Ev (fun k => pochoirref23_contour.f k ((T - fr : Nat) : Int) (I (own ++ (((ws.drop j).filter (fun x => decide (fr ≤ x) && decide (x < T))).map (· - fr))))) R → Ev (fun k => pochoirref23_All.l2 k l (I ws) out (fr : Int) (T : Int) (I own) (j : Int)) Z
  | 0, j, own, h, ho, hR => by
    refine Ev.step (fun k => by rw [pochoirref23_All.l2]) ?_
    have e : wrap64 ((T : Int) - (fr : Int)) = ((T - fr : Nat) : Int) := by rw [w64 (by omega) (by omega)]; omega
    rw [e]
    rw [List.drop_eq_nil_of_le (by omega), List.filter_nil, List.map_nil, List.append_nil] at hR
    simp only [I_len, if_neg (show ¬ (j : Int) < (ws.length : Int) by omega)]
    exact Ev.bind hR (by simp only [if_pos (show out.length + R.length < 17592186044416 by omega)]; exact next)
  | d + 1, j, own, h, ho, hR => by
    have hj : j < ws.length := by omega
    have hd : ws.drop j = ws.getD j 0 :: ws.drop (j + 1) := by
      rw [List.drop_eq_getElem_cons hj]; simp [List.getD, hj]
    rw [hd] at hR
    have E2 : Aside0 (wrap64 ((j : Int) + 1) = ((j + 1 : Nat) : Int)) := ⟨by rw [w64 (by omega) (by omega)]; omega⟩
    refine Ev.step (fun k => by rw [pochoirref23_All.l2]) ?_
    rw [rdI, E2.out]
    simp only [I_len, if_pos (show (j : Int) < (ws.length : Int) by omega), if_pos (show (0 : Int) ≤ (j : Int) by omega)]
    by_cases c1 : fr ≤ ws.getD j 0
    · simp only [if_pos (show ((ws.getD j 0 : Nat) : Int) ≥ (fr : Int) by omega)]
      by_cases c2 : ws.getD j 0 < T
      · simp only [if_pos (show ((ws.getD j 0 : Nat) : Int) < (T : Int) by omega), if_pos (show own.length < 17592186044416 by omega)]
        have E3 : Aside0 (wrap64 (((ws.getD j 0 : Nat) : Int) - (fr : Int)) = ((ws.getD j 0 - fr : Nat) : Int)) := ⟨by rw [w64 (by omega) (by omega)]; omega⟩
        have e4 : I own ++ [((ws.getD j 0 - fr : Nat) : Int)] = I (own ++ [ws.getD j 0 - fr]) := by rw [I_app]; rfl
        rw [E3.out, e4]
        rw [List.filter_cons_of_pos (by simp only [Bool.and_eq_true, decide_eq_true_eq]; omega), List.map_cons] at hR
        exact r_own hT hf hw hn next d (j + 1) (own ++ [ws.getD j 0 - fr]) (by omega) (by simp; omega) (by rw [List.append_assoc]; exact hR)
      · simp only [if_neg (show ¬ ((ws.getD j 0 : Nat) : Int) < (T : Int) by omega)]
        rw [List.filter_cons_of_neg (by simp only [Bool.and_eq_true, decide_eq_true_eq]; omega)] at hR
        exact r_own hT hf hw hn next d (j + 1) own (by omega) (by omega) hR
    · simp only [if_neg (show ¬ ((ws.getD j 0 : Nat) : Int) ≥ (fr : Int) by omega)]
      rw [List.filter_cons_of_neg (by simp only [Bool.and_eq_true, decide_eq_true_eq]; omega)] at hR
      exact r_own hT hf hw hn next d (j + 1) own (by omega) (by omega) hR
theorem all_l {l : List S38} (hl : l.length ≤ 8192) : ∀ n (fr : Nat) (out : List Int), l.length - fr ≤ n → fr ≤ l.length → (fr = 0 ∨ fr = l.length ∨ (rd_T38 l ((fr - 1 : Nat) : Int)).f0 ≠ (rd_T38 l (fr : Int)).f0) → out.length = fr →
    ∃ c : List Int, c.length = l.length ∧ (∀ q, q < fr → c.getD q 0 = out.getD q 0) ∧ (∀ i, fr ≤ i → i < l.length → Told l c i) ∧
      Ev (fun k => color_All.l0 k l (I (cn l fr (l.length - fr))) out (fr : Int)) (c, 0) ∧ Ev (fun k => pochoirref23_All.l0 k l (I (cn l 0 l.length)) out (fr : Int)) (c, 0) := by
  have stop : ∀ fr (out : List Int), fr = l.length → out.length = fr → ∃ c : List Int, c.length = l.length ∧ (∀ q, q < fr → c.getD q 0 = out.getD q 0) ∧ (∀ i, fr ≤ i → i < l.length → Told l c i) ∧
      Ev (fun k => color_All.l0 k l (I (cn l fr (l.length - fr))) out (fr : Int)) (c, 0) ∧ Ev (fun k => pochoirref23_All.l0 k l (I (cn l 0 l.length)) out (fr : Int)) (c, 0) := fun fr out h1 h2 => by
    refine ⟨out, by omega, fun _ _ => rfl, fun i a b => by omega, Ev.step (fun k => by rw [color_All.l0]) ?_, Ev.step (fun k => by rw [pochoirref23_All.l0]) ?_⟩
    · simp only [if_neg (show ¬ (fr : Int) < (l.length : Int) by omega)]; exact Ev.now _
    · simp only [if_neg (show ¬ (fr : Int) < (l.length : Int) by omega)]; exact Ev.now _
  intro n
  induction n with
  | zero => intro fr out h1 h2 h3 h4; exact stop fr out (by omega) h4
  | succ n ih =>
    intro fr out h1 h2 h3 h4
    rcases Nat.lt_or_ge fr l.length with g | g
    · have hb : fr = 0 ∨ (rd_T38 l ((fr - 1 : Nat) : Int)).f0 ≠ (rd_T38 l (fr : Int)).f0 := by
        rcases h3 with q | q | q
        · exact .inl q
        · omega
        · exact .inr q
      obtain ⟨T, hc⟩ := cont_ex l g hb (l.length - (fr + 1)) (fr + 1) (by omega) (by omega) (fun j a b => by rw [show j = fr by omega])
      have hc' := hc
      obtain ⟨a1, a2, a3, a4, a5⟩ := hc'
      obtain ⟨R, r1, r2, r3, r4⟩ := con_both (cs := cnS l fr (T - fr)) (m := T - fr) (by omega) (cnS_len l fr (T - fr)) (cnS_good l fr (T - fr))
      have hnx : T = 0 ∨ T = l.length ∨ (rd_T38 l ((T - 1 : Nat) : Int)).f0 ≠ (rd_T38 l (T : Int)).f0 := by
        rcases a4 with q | q
        · exact .inr (.inl q)
        · exact .inr (.inr (by rw [a3 (T - 1) (by omega) (by omega)]; exact fun z => q z.symm))
      obtain ⟨c, c1, c2, c3, c4, c5⟩ := ih T (out ++ R) (by omega) a2 hnx (by rw [List.length_append]; omega)
      refine ⟨c, c1, fun q hq => ?_, fun i hi1 hi2 => ?_, ?_, ?_⟩
      · rw [c2 q (by omega)]
        simp [List.getD, List.getElem?_append_left (show q < out.length by omega)]
      · rcases Nat.lt_or_ge i T with q | q
        · refine ⟨fr, T, R, hi1, q, hc, r1, r2, fun p hp => ?_⟩
          rw [c2 (fr + p) (by omega)]
          simp only [List.getD]
          rw [List.getElem?_append_right (by omega), h4, show fr + p - fr = p by omega]
        · exact c3 i q hi2
      · refine Ev.step (fun k => by rw [color_All.l0]) ?_
        simp only [if_pos (show (fr : Int) < (l.length : Int) by omega)]
        rw [w64 (by omega) (by omega), show (fr : Int) + 1 = ((fr + 1 : Nat) : Int) by omega]
        refine c_find hl hc ?_ (T - (fr + 1)) (fr + 1) (by omega) (by omega)
        refine Ev.step (fun k => by rw [color_All.j2]) ?_
        have e := cn_add l (T - fr) fr (l.length - T)
        rw [show T - fr + (l.length - T) = l.length - fr by omega, show fr + (T - fr) = T by omega] at e
        rw [e]
        exact c_own (by omega) (by omega) (fun y hy => (cn_mem l _ _ y hy).1) (by omega) c4 (cn l fr (T - fr)) [] (fun x hx => by have := cn_mem l _ _ x hx; omega) (by have := cn_len l (T - fr) fr; simp; omega) r3
      · refine Ev.step (fun k => by rw [pochoirref23_All.l0]) ?_
        simp only [if_pos (show (fr : Int) < (l.length : Int) by omega)]
        refine r_find hl hc ?_ (T - fr) fr (by omega) (by omega)
        refine Ev.step (fun k => by rw [pochoirref23_All.j2]) ?_
        refine r_own (by omega) (by omega) (by have := cn_len l l.length 0; omega) (by omega) c5 (cn l 0 l.length).length 0 [] (by omega) (by simp) ?_
        rw [List.drop_zero, cn_filter l fr T l.length (by omega) a2, List.nil_append]
        exact r4
    · exact stop fr out (by omega) h4
theorem all_both {l : List S38} (hl : l.length ≤ 60) (hm : mayE l = true) : ∃ c : List Int, c.length = l.length ∧ (∀ i, i < l.length → Told l c i) ∧ Ev (fun k => color_All.f k l) (c, 0) ∧ Ev (fun k => pochoirref23_All.f k l) (c, 0) := by
  obtain ⟨c, h1, h2, h3, h4, h5⟩ := all_l (l := l) (by omega) l.length 0 [] (by omega) (by omega) (.inl rfl) rfl
  have ca := cAll_ev l hl
  have ra := rAll_ev l hl
  rw [if_pos hm, cn_corners] at ca ra
  refine ⟨c, h1, fun i hi => h3 i (by omega) hi, ?_, ?_⟩
  · unfold color_All.f
    refine Ev.bind ca ?_
    simp only [if_true]
    exact h4
  · unfold pochoirref23_All.f
    refine Ev.bind (rmay_ev l (by omega)) ?_
    rw [hm]
    simp only [if_true]
    refine Ev.bind ra ?_
    exact h5
theorem all_none {l : List S38} (hl : l.length ≤ 60) (hm : mayE l = false) : Ev (fun k => color_All.f k l) ([], 1) ∧ Ev (fun k => pochoirref23_All.f k l) ([], 1) := by
  have ca := cAll_ev l hl
  rw [hm] at ca
  constructor
  · unfold color_All.f
    refine Ev.bind ca ?_
    exact Ev.now _
  · unfold pochoirref23_All.f
    refine Ev.bind (rmay_ev l (by omega)) ?_
    rw [hm]
    exact Ev.now _

end Go.Proofs.Ytalgppclaolonaa.XColr
