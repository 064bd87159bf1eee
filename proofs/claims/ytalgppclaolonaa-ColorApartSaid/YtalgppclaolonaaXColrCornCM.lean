/- All corners of an outline: layer 22. -/
import Derived.Test.YtalgppclaolonaaXColrCornAllM
import Derived.Test.YtalgppclaolonaaXColrx8

namespace Go.Proofs.Ytalgppclaolonaa.XColr
open Go.RowKit Go.Proofs.Ytalgppclaolonaa.XM Go.Proofs.Ytalgppclaolonaa.NumM Go.Proofs.YtalgppclaolonaaW.PrintWords Go.Proofs.YtalgppclaolonaaW.PrintLast Go.Proofs.YtalgppclaolonaaW.PrintMore
set_option linter.unusedVariables false
set_option linter.unusedSimpArgs false

theorem call_1 {l : List S38} (hl : l.length ≤ 8192) {out : List Int} {fr : Nat} (hfr : fr < l.length) {R : List Int × Int} : ∀ d (tt : Nat), tt + d = l.length → fr < tt → (∀ j, fr ≤ j → j < tt → (rd_T38 l (j : Int)).f0 = (rd_T38 l (fr : Int)).f0) →
    (∀ T : Nat, fr < T → T ≤ l.length → (∀ j, fr ≤ j → j < T → (rd_T38 l (j : Int)).f0 = (rd_T38 l (fr : Int)).f0) → (T = l.length ∨ (rd_T38 l (T : Int)).f0 ≠ (rd_T38 l (fr : Int)).f0) → T = tt + rn (rd_T38 l (fr : Int)).f0 (l.drop tt) → Ev (fun k => corner_All.j2 k l out (fr : Int) (T : Int)) R) →
    Ev (fun k => corner_All.l1 k l out (fr : Int) (tt : Int)) R
  | 0, tt, h, hlt, hall, cont => by
    refine Ev.step (fun k => by rw [corner_All.l1]) ?_
    simp only [if_neg (show ¬ ((tt : Int) < (l.length : Int)) by omega)]
    exact cont tt hlt (by omega) hall (.inl (by omega)) (by rw [List.drop_eq_nil_of_le (by omega)]; rfl)
  | d + 1, tt, h, hlt, hall, cont => by
    refine Ev.step (fun k => by rw [corner_All.l1]) ?_
    simp only [if_pos (show (tt : Int) < (l.length : Int) by omega), if_pos (show (0 : Int) ≤ (tt : Int) by omega), if_pos (show (0 : Int) ≤ (fr : Int) by omega), if_pos (show (fr : Int) < (l.length : Int) by omega)]
    by_cases c : (rd_T38 l (tt : Int)).f0 = (rd_T38 l (fr : Int)).f0
    · simp only [if_pos c]
      rw [w64 (by omega) (by omega), show (tt : Int) + 1 = ((tt + 1 : Nat) : Int) by omega]
      refine call_1 hl hfr d (tt + 1) (by omega) (by omega) (fun j h1 h2 => ?_) (fun T a1 a2 a3 a4 a5 => cont T a1 a2 a3 a4 ?_)
      · rcases Nat.lt_or_ge j tt with g | g
        · exact hall j h1 g
        · rw [show j = tt by omega]; exact c
      · rw [a5, rd38 l tt (by omega)]; simp only [rn, if_pos c]; omega
    · simp only [if_neg c]
      exact cont tt hlt (by omega) hall (.inr c) (by rw [rd38 l tt (by omega)]; simp only [rn, if_neg c]; rfl)
theorem call_2 {l : List S38} (hl : l.length ≤ 8192) (hm : l.all One = true) {fr T : Nat} (hT : T ≤ l.length) (hall : ∀ j, fr ≤ j → j < T → (rd_T38 l (j : Int)).f0 = (rd_T38 l (fr : Int)).f0)
    (cont : ∀ out : List Int, out.length ≤ T → Ev (fun k => corner_All.l0 k l out (T : Int)) (out ++ corners l T (l.length - T), 0)) :
    ∀ d (i : Nat) (out : List Int) (p : S38), i + d = T → fr ≤ i → out.length ≤ i → One p = true → (i < T → p = rd_T38 l ((aheadE l i : Nat) : Int)) →
      Ev (fun k => corner_All.l2 k l out (T : Int) (i : Int) p.f0 p.f1 p.f2.f0 p.f2.f1 p.f3.f0 p.f3.f1 p.f4.f0 p.f4.f1) (out ++ corners l i (l.length - i), 0)
  | 0, i, out, p, h, hfi, ho, hp, hpa => by
    refine Ev.step (fun k => by rw [corner_All.l2]) ?_
    simp only [if_neg (show ¬ ((i : Int) < (T : Int)) by omega)]
    rw [show i = T by omega]
    exact cont out (by omega)
  | d + 1, i, out, p, h, hfi, ho, hp, hpa => by
    have one : ∀ j : Nat, j < l.length → One (rd_T38 l (j : Int)) = true := fun j hj => by
      have : rd_T38 l (j : Int) = l[j] := by simp [rd_T38, hj]
      rw [this]; exact List.all_eq_true.1 hm _ (List.getElem_mem hj)
    have hpe := hpa (by omega)
    have nx : i + 1 < T → rd_T38 l (i : Int) = rd_T38 l ((aheadE l (i + 1) : Nat) : Int) := fun g => by
      have e : aheadE l (i + 1) = i := by
        unfold aheadE
        rw [if_pos ⟨by omega, by rw [show i + 1 - 1 = i by omega]; exact (hall i hfi (by omega)).trans (hall (i + 1) (by omega) g).symm⟩]; omega
      rw [e]
    refine Ev.step (fun k => by rw [corner_All.l2]) ?_
    simp only [if_pos (show (i : Int) < (T : Int) by omega), if_pos (show (0 : Int) ≤ (i : Int) by omega), if_pos (show (i : Int) < (l.length : Int) by omega)]
    refine Ev.bind (cis_ev hp (one i (by omega))) ?_
    rw [w64 (n := (i : Int) + 1) (by omega) (by omega), show l.length - i = (l.length - (i + 1)) + 1 by omega]
    simp only [corners]
    rw [← hpe]
    cases isC p (rd_T38 l (i : Int))
    · simp only [Bool.false_eq_true, if_false, List.nil_append]
      exact call_2 hl hm hT hall cont d (i + 1) out (rd_T38 l (i : Int)) (by omega) (by omega) (by omega) (one i (by omega)) nx
    · simp only [if_true, if_pos (show out.length < 17592186044416 by omega)]
      rw [← List.append_assoc]
      exact call_2 hl hm hT hall cont d (i + 1) (out ++ [(i : Int)]) (rd_T38 l (i : Int)) (by omega) (by omega) (by simp; omega) (one i (by omega)) nx
theorem call_0 {l : List S38} (hl : l.length ≤ 8192) (hm : l.all One = true) : ∀ n (fr : Nat) (out : List Int), l.length - fr ≤ n → fr ≤ l.length → (fr = 0 ∨ fr = l.length ∨ (rd_T38 l ((fr - 1 : Nat) : Int)).f0 ≠ (rd_T38 l (fr : Int)).f0) → out.length ≤ fr →
    Ev (fun k => corner_All.l0 k l out (fr : Int)) (out ++ corners l fr (l.length - fr), 0) := by
  have one : ∀ j : Nat, j < l.length → One (rd_T38 l (j : Int)) = true := fun j hj => by
    have : rd_T38 l (j : Int) = l[j] := by simp [rd_T38, hj]
    rw [this]; exact List.all_eq_true.1 hm _ (List.getElem_mem hj)
  have stop : ∀ out : List Int, Ev (fun k => corner_All.l0 k l out (l.length : Int)) (out ++ corners l l.length (l.length - l.length), 0) := fun out => by
    refine Ev.step (fun k => by rw [corner_All.l0]) ?_
    simp only [if_neg (show ¬ ((l.length : Int) < (l.length : Int)) by omega), Nat.sub_self, corners, List.append_nil]
    exact Ev.now _
  intro n
  induction n with
  | zero =>
    intro fr out h1 h2 h3 h4
    rw [show fr = l.length by omega]
    exact stop out
  | succ n ih =>
    intro fr out h1 h2 h3 h4
    rcases Nat.lt_or_ge fr l.length with g | g
    · refine Ev.step (fun k => by rw [corner_All.l0]) ?_
      simp only [if_pos (show (fr : Int) < (l.length : Int) by omega)]
      rw [w64 (by omega) (by omega), show (fr : Int) + 1 = ((fr + 1 : Nat) : Int) by omega]
      refine call_1 hl g (l.length - (fr + 1)) (fr + 1) (by omega) (by omega) (fun j a b => by rw [show j = fr by omega]) (fun T a1 a2 a3 a4 a5 => ?_)
      refine Ev.step (fun k => by rw [corner_All.j2]) ?_
      have e2 : wrap64 ((T : Int) - 1) = ((T - 1 : Nat) : Int) := by rw [w64 (by omega) (by omega)]; omega
      rw [e2]
      simp only [if_pos (show (0 : Int) ≤ ((T - 1 : Nat) : Int) by omega), if_pos (show ((T - 1 : Nat) : Int) < (l.length : Int) by omega)]
      have ea : aheadE l fr = T - 1 := by
        unfold aheadE
        rw [if_neg (fun q => ?_)]; · omega
        rcases h3 with q3 | q3 | q3
        · omega
        · omega
        · exact q3 q.2
      refine call_2 hl hm a2 a3 (fun out ho => ?_) (T - fr) fr out (rd_T38 l ((T - 1 : Nat) : Int)) (by omega) (Nat.le_refl _) h4 (one _ (by omega)) (fun _ => by rw [ea])
      refine ih T out (by omega) a2 ?_ ho
      rcases a4 with q | q
      · exact .inr (.inl q)
      · exact .inr (.inr (by rw [a3 (T - 1) (by omega) (by omega)]; exact fun z => q z.symm))
    · rw [show fr = l.length by omega]
      exact stop out
theorem cAll_ev (l : List S38) (hl : l.length ≤ 60) : Ev (fun k => corner_All.f k l) (if mayE l = true then (corners l 0 l.length, 0) else ([], 1)) := by
  unfold corner_All.f
  refine Ev.bind (emay_ev l (by omega)) ?_
  cases h : mayE l
  · simp; exact Ev.now _
  · simp only [if_true]
    have hm : l.all One = true := by simp only [mayE, Bool.and_eq_true] at h; exact h.2
    have := call_0 (by omega) hm l.length 0 [] (by omega) (by omega) (.inl rfl) (by simp)
    simpa using this
theorem corners_len (l : List S38) : ∀ d i, (corners l i d).length ≤ d
  | 0, i => by simp [corners]
  | d + 1, i => by have := corners_len l d (i + 1); simp only [corners, List.length_append]; split <;> simp <;> omega

end Go.Proofs.Ytalgppclaolonaa.XColr
