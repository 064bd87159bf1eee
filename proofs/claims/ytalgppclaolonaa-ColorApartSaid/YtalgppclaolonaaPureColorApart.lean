/- The pure law ColorApart: edges that meet in a corner have unlike colours, others that meet the same, if their contour has two corners or more; each contour has all channels. -/
import Derived.Test.YtalgppclaolonaaXColrColP
import Derived.Test.YtalgppclaolonaaXColrx20
namespace Go.Proofs.Ytalgppclaolonaa.Pure
open Go.RowKit Go.Proofs.Ytalgppclaolonaa.XColr Go.Proofs.Ytalgppclaolonaa.XM Go.Proofs.Ytalgppclaolonaa.NumM Go.Proofs.YtalgppclaolonaaW.PrintWords Go.Proofs.YtalgppclaolonaaW.PrintLast Go.Proofs.YtalgppclaolonaaW.PrintMore
set_option linter.unusedVariables false
set_option linter.unusedSimpArgs false

theorem awake23_ev : Ev (fun k => pochoirlaw23_awake.f k) true := by
  refine Ev.of (g := fun k => pochoirlaw23_awake.f k) pochoirlaw23_awake.mono (k := 40) ?_
  decide +kernel
theorem first_l {l : List S38} (hl : l.length ≤ 60) {c : List Int} {i fr T : Nat} (hc : Cont l fr T) (hi : fr ≤ i) (hT : i < T) {a : Int} (go : Ev (fun k => pochoirlaw23_ColorApart.j4 k l c (i : Int) a (fr : Int) 0 0 (l.length : Int) (i : Int)) true) : ∀ d (f : Nat), fr + d = f → f ≤ i →
    Ev (fun k => pochoirlaw23_ColorApart.l1 k l c (i : Int) a (f : Int) 0 0 (l.length : Int) (i : Int)) true
  | 0, f, h, hf => by
    have : f = fr := by omega
    subst this
    obtain ⟨a1, a2, a3, a4, a5⟩ := hc
    refine Ev.step (fun k => by rw [pochoirlaw23_ColorApart.l1]) ?_
    by_cases q : (f : Int) > 0
    · have e : wrap64 ((f : Int) - 1) = ((f - 1 : Nat) : Int) := by rw [w64 (by omega) (by omega)]; omega
      have ne : (rd_T38 l ((f - 1 : Nat) : Int)).f0 ≠ (rd_T38 l (i : Int)).f0 := by
        rcases a5 with w | w
        · omega
        · rw [a3 i hi hT]; exact w
      rw [e]
      simp only [if_pos q, if_pos (show (0 : Int) ≤ ((f - 1 : Nat) : Int) by omega), if_pos (show ((f - 1 : Nat) : Int) < (l.length : Int) by omega), if_pos (show (0 : Int) ≤ (i : Int) by omega), if_pos (show (i : Int) < (l.length : Int) by omega), if_neg ne]
      exact go
    · simp only [if_neg q]; exact go
  | d + 1, f, h, hf => by
    have ih := first_l hl hc hi hT go d (f - 1) (by omega) (by omega)
    obtain ⟨a1, a2, a3, a4, a5⟩ := hc
    refine Ev.step (fun k => by rw [pochoirlaw23_ColorApart.l1]) ?_
    have E : Aside0 (wrap64 ((f : Int) - 1) = ((f - 1 : Nat) : Int)) := ⟨by rw [w64 (by omega) (by omega)]; omega⟩
    have eq : (rd_T38 l ((f - 1 : Nat) : Int)).f0 = (rd_T38 l (i : Int)).f0 := by rw [a3 i hi hT]; exact a3 (f - 1) (by omega) (by omega)
    rw [E.out]
    simp only [if_pos (show (f : Int) > 0 by omega), if_pos (show (0 : Int) ≤ ((f - 1 : Nat) : Int) by omega), if_pos (show ((f - 1 : Nat) : Int) < (l.length : Int) by omega), if_pos (show (0 : Int) ≤ (i : Int) by omega), if_pos (show (i : Int) < (l.length : Int) by omega), if_pos eq]
    exact ih
/-- All channels so far. -/
def Acc (R : List Int) (s : Nat) (a : Int) : Prop := (a = 0 ∧ s = 0) ∨ a = 7 ∨ ((a = 3 ∨ a = 5 ∨ a = 6) ∧ ∀ p, p < s → R.getD p 0 = a)
theorem acc_step {R : List Int} {s : Nat} {a : Int} (h : Acc R s a) (hv : R.getD s 0 = 3 ∨ R.getD s 0 = 5 ∨ R.getD s 0 = 6 ∨ R.getD s 0 = 7) : Acc R (s + 1) (Go.bits .or .i64 a (R.getD s 0)) := by
  have t : ∀ x y : Int, (x = 3 ∨ x = 5 ∨ x = 6 ∨ x = 7) → (y = 3 ∨ y = 5 ∨ y = 6 ∨ y = 7) → Go.bits .or .i64 x y = if x = y then x else 7 := fun x y hx hy => by
    rcases hx with rfl | rfl | rfl | rfl <;> rcases hy with rfl | rfl | rfl | rfl <;> decide +kernel
  have z : ∀ y : Int, (y = 3 ∨ y = 5 ∨ y = 6 ∨ y = 7) → Go.bits .or .i64 0 y = y := fun y hy => by
    rcases hy with rfl | rfl | rfl | rfl <;> decide +kernel
  have upto : ∀ b : Int, (∀ p, p < s → R.getD p 0 = b) → R.getD s 0 = b → ∀ p, p < s + 1 → R.getD p 0 = b := fun b h1 h2 p hp => by
    rcases Nat.lt_or_ge p s with q | q
    · exact h1 p q
    · rw [show p = s by omega]; exact h2
  rcases h with ⟨rfl, hs⟩ | rfl | ⟨ha, hs⟩
  · rw [z _ hv]
    rcases hv with q | q | q | q
    · exact .inr (.inr ⟨by omega, upto _ (fun p hp => by omega) rfl⟩)
    · exact .inr (.inr ⟨by omega, upto _ (fun p hp => by omega) rfl⟩)
    · exact .inr (.inr ⟨by omega, upto _ (fun p hp => by omega) rfl⟩)
    · exact .inr (.inl q)
  · rw [t 7 _ (by omega) hv]
    exact .inr (.inl (by split <;> rfl))
  · rw [t a _ (by omega) hv]
    by_cases q : a = R.getD s 0
    · rw [if_pos q]; exact .inr (.inr ⟨ha, upto _ hs q.symm⟩)
    · rw [if_neg q]; exact .inr (.inl rfl)
theorem acc_end {m : Nat} {cs : List Nat} (hg : GoodC m cs) {R : List Int} (h : Col m cs R) (hm : 0 < m) {a : Int} (ha : Acc R m a) : a = 7 := by
  rcases ha with ⟨_, q⟩ | q | ⟨q, z⟩
  · omega
  · exact q
  · rcases col_all hg h hm with ⟨p, hp, e⟩ | ⟨p, p', hp, hp', e⟩
    · rw [z p hp] at e; omega
    · exact absurd ((z p hp).trans (z p' hp').symm) e
theorem one_of {l : List S38} (hm : mayE l = true) {j : Nat} (hj : j < l.length) : One (rd_T38 l (j : Int)) = true := by
  have hm' : l.all One = true := by simp only [mayE, Bool.and_eq_true] at hm; exact hm.2
  have : rd_T38 l (j : Int) = l[j] := by simp [rd_T38, hj]
  rw [this]; exact List.all_eq_true.1 hm' _ (List.getElem_mem hj)
theorem last_l {l : List S38} (hl : l.length ≤ 60) (hm : mayE l = true) {c R : List Int} (hcl : c.length = l.length) {i fr T : Nat} (hc : Cont l fr T) (hi : fr ≤ i) (hT : i < T) (hC : Col (T - fr) (cnS l fr (T - fr)) R)
    (hR : ∀ p, p < T - fr → c.getD (fr + p) 0 = R.getD p 0) {n : Nat} (hn : n = (cn l fr (T - fr)).length) {a : Int} (ha : a = 7)
    (next : Ev (fun k => pochoirlaw23_ColorApart.l0 k l c (l.length : Int) ((i + 1 : Nat) : Int)) true) :
    Ev (fun k => pochoirlaw23_ColorApart.j6 k l c (i : Int) ((aheadE l i : Nat) : Int) (n : Int) a (T : Int) (l.length : Int) (i : Int) false) true := by
  obtain ⟨a1, a2, a3, a4, a5⟩ := hc
  have hlen : (cnS l fr (T - fr)).length = (cn l fr (T - fr)).length := by simp [cnS]
  refine Ev.step (fun k => by rw [pochoirlaw23_ColorApart.j6]) ?_
  have ea0 := ahead_cont ⟨a1, a2, a3, a4, a5⟩ (p := i - fr) (by omega)
  rw [show fr + (i - fr) = i by omega] at ea0
  have EA := Aside0.mk ea0
  clear ea0
  have hal : aheadE l i < l.length := ahead_lt l i (by omega)
  rw [show wrap64 ((i : Int) + 1) = ((i + 1 : Nat) : Int) from by rw [w64 (by omega) (by omega)]; omega]
  simp only [Bool.false_eq_true, if_false, if_pos ha]
  by_cases q : (n : Int) ≥ 2
  · simp only [if_pos q, if_pos (show (0 : Int) ≤ (i : Int) by omega), hcl, if_pos (show (i : Int) < (l.length : Int) by omega), if_pos (show (0 : Int) ≤ ((aheadE l i : Nat) : Int) by omega), if_pos (show ((aheadE l i : Nat) : Int) < (l.length : Int) by omega)]
    have hv := col_vals (cnS_good l fr (T - fr)) hC (p := i - fr) (by omega)
    rw [← hR (i - fr) (by omega), show fr + (i - fr) = i by omega] at hv
    have hprev : c.getD (aheadE l i) 0 = R.getD ((i - fr + (T - fr) - 1) % (T - fr)) 0 := by
      rw [EA.out]; exact hR _ (Nat.mod_lt _ (by omega))
    have hthis : c.getD i 0 = R.getD (i - fr) 0 := by have := hR (i - fr) (by omega); rwa [show fr + (i - fr) = i by omega] at this
    have tr := (col_turn (cnS_good l fr (T - fr)) hC (by omega) (p := i - fr) (by omega)).trans (cnS_is (l := l) (by omega) (p := i - fr) (by omega))
    rw [← hthis, ← hprev, show fr + (i - fr) = i by omega] at tr
    have fin : Ev (fun k => (pochoirref22_Is.f k ((rd_T38 l ((aheadE l i : Nat) : Int)).f0) ((rd_T38 l ((aheadE l i : Nat) : Int)).f1) ((rd_T38 l ((aheadE l i : Nat) : Int)).f2.f0) ((rd_T38 l ((aheadE l i : Nat) : Int)).f2.f1) ((rd_T38 l ((aheadE l i : Nat) : Int)).f3.f0) ((rd_T38 l ((aheadE l i : Nat) : Int)).f3.f1) ((rd_T38 l ((aheadE l i : Nat) : Int)).f4.f0) ((rd_T38 l ((aheadE l i : Nat) : Int)).f4.f1) ((rd_T38 l (i : Int)).f0) ((rd_T38 l (i : Int)).f1) ((rd_T38 l (i : Int)).f2.f0) ((rd_T38 l (i : Int)).f2.f1) ((rd_T38 l (i : Int)).f3.f0) ((rd_T38 l (i : Int)).f3.f1) ((rd_T38 l (i : Int)).f4.f0) ((rd_T38 l (i : Int)).f4.f1)).bind fun t491 => (if (((rd c (i : Int)) != (rd c ((aheadE l i : Nat) : Int))) != t491) = true then (some false) else (pochoirlaw23_ColorApart.l0 k l c (l.length : Int) ((i + 1 : Nat) : Int)))) true := by
      refine Ev.bind (ris_ev (one_of hm hal) (one_of hm (by omega))) ?_
      have eb : (rd c (i : Int) != rd c ((aheadE l i : Nat) : Int)) = isC (rd_T38 l ((aheadE l i : Nat) : Int)) (rd_T38 l (i : Int)) := by
        rw [rdn, rdn]
        cases hb : isC (rd_T38 l ((aheadE l i : Nat) : Int)) (rd_T38 l (i : Int))
        · rw [hb] at tr
          have : c.getD i 0 = c.getD (aheadE l i) 0 := by
            by_cases w : c.getD i 0 = c.getD (aheadE l i) 0
            · exact w
            · exact absurd (tr.1 w) (by simp)
          rw [this]; simp
        · simpa using tr.2 hb
      rw [eb]
      simp only [bne_self_eq_false, Bool.false_eq_true, if_false]
      exact next
    have hn2 : ¬ (cnS l fr (T - fr)).length ≤ 1 := by omega
    rw [← rdn] at hv
    rcases hv with v | v | v | v
    · simp only [if_pos v]; exact fin
    · simp only [if_neg (show ¬ rd c (i : Int) = 3 by omega), if_pos v]; exact fin
    · simp only [if_neg (show ¬ rd c (i : Int) = 3 by omega), if_neg (show ¬ rd c (i : Int) = 5 by omega), if_pos v]; exact fin
    · exact absurd v.2 hn2
  · simp only [if_neg q]; exact next
theorem walk_l {l : List S38} (hl : l.length ≤ 60) (hm : mayE l = true) {c R : List Int} (hcl : c.length = l.length) {i fr T : Nat} (hc : Cont l fr T) (hi : fr ≤ i) (hT : i < T) (hC : Col (T - fr) (cnS l fr (T - fr)) R)
    (hR : ∀ p, p < T - fr → c.getD (fr + p) 0 = R.getD p 0)
    (next : Ev (fun k => pochoirlaw23_ColorApart.l0 k l c (l.length : Int) ((i + 1 : Nat) : Int)) true) : ∀ d (s n : Nat) (a : Int), s + d = T - fr → n + (cn l (fr + s) d).length = (cn l fr (T - fr)).length → n ≤ s → Acc R s a →
      Ev (fun k => pochoirlaw23_ColorApart.l2 k l c (i : Int) ((aheadE l i : Nat) : Int) (n : Int) a ((fr + s : Nat) : Int) (l.length : Int) (i : Int)) true
  | 0, s, n, a, h, hn, hns, ha => by
    have hc' := hc
    obtain ⟨a1, a2, a3, a4, a5⟩ := hc'
    have e7 := acc_end (cnS_good l fr (T - fr)) hC (by omega) (by rw [show T - fr = s by omega]; exact ha)
    have fin := last_l hl hm hcl hc hi hT hC hR (n := n) (by simp [cn] at hn; omega) e7 next
    have eT : fr + s = T := by omega
    rw [eT]
    refine Ev.step (fun k => by rw [pochoirlaw23_ColorApart.l2]) ?_
    by_cases g : (T : Int) < (l.length : Int)
    · have ne : ((rd_T38 l (T : Int)).f0 == (rd_T38 l (i : Int)).f0) = false := by
        rcases a4 with q | q
        · omega
        · rw [a3 i hi hT]; exact beq_eq_false_iff_ne.2 q
      simp only [if_pos g, if_pos (show (0 : Int) ≤ (T : Int) by omega), if_pos (show (0 : Int) ≤ (i : Int) by omega), if_pos (show (i : Int) < (l.length : Int) by omega), ne]
      exact fin
    · simp only [if_neg g]
      exact fin
  | d + 1, s, n, a, h, hn, hns, ha => by
    have hc' := hc
    obtain ⟨a1, a2, a3, a4, a5⟩ := hc'
    have hx : fr + s < l.length := by omega
    have hal := ahead_lt l (fr + s) hx
    have E2 : Aside0 (wrap64 (((fr + s : Nat) : Int) + 1) = ((fr + (s + 1) : Nat) : Int)) := ⟨by rw [w64 (by omega) (by omega)]; omega⟩
    have E3 : Aside0 (wrap64 ((n : Int) + 1) = ((n + 1 : Nat) : Int)) := ⟨by rw [w64 (by omega) (by omega)]; omega⟩
    have eq : ((rd_T38 l ((fr + s : Nat) : Int)).f0 == (rd_T38 l (i : Int)).f0) = true := by
      rw [a3 i hi hT, a3 (fr + s) (by omega) (by omega)]; simp
    have hv := col_vals (cnS_good l fr (T - fr)) hC (p := s) (by omega)
    have hacc0 := acc_step ha (by omega)
    rw [← hR s (by omega), ← rdn] at hacc0
    have HA := Aside0.mk hacc0
    clear hacc0 hv
    refine Ev.step (fun k => by rw [pochoirlaw23_ColorApart.l2]) ?_
    simp only [if_pos (show ((fr + s : Nat) : Int) < (l.length : Int) by omega), if_pos (show (0 : Int) ≤ ((fr + s : Nat) : Int) by omega), if_pos (show (0 : Int) ≤ (i : Int) by omega), if_pos (show (i : Int) < (l.length : Int) by omega), eq]
    refine Ev.step (fun k => by rw [pochoirlaw23_ColorApart.j6]) ?_
    simp only [if_true, if_pos (show (0 : Int) ≤ ((fr + s : Nat) : Int) by omega), hcl, if_pos (show ((fr + s : Nat) : Int) < (l.length : Int) by omega)]
    refine Ev.bind (rahead_ev l (by omega) (fr + s) hx) ?_
    simp only [if_pos (show (0 : Int) ≤ ((aheadE l (fr + s) : Nat) : Int) by omega), if_pos (show ((aheadE l (fr + s) : Nat) : Int) < (l.length : Int) by omega)]
    refine Ev.bind (ris_ev (one_of hm hal) (one_of hm hx)) ?_
    rw [E2.out, E3.out]
    rw [cn] at hn
    cases hb : isC (rd_T38 l ((aheadE l (fr + s) : Nat) : Int)) (rd_T38 l ((fr + s : Nat) : Int))
    · rw [hb] at hn
      simp only [Bool.false_eq_true, if_false, List.nil_append] at hn ⊢
      exact walk_l hl hm hcl hc hi hT hC hR next d (s + 1) n _ (by omega) hn (by omega) HA.out
    · rw [hb] at hn
      simp only [if_true, List.length_append, List.length_singleton] at hn ⊢
      exact walk_l hl hm hcl hc hi hT hC hR next d (s + 1) (n + 1) _ (by omega) (by rw [show fr + (s + 1) = fr + s + 1 by omega]; omega) (by omega) HA.out
theorem each_l {l : List S38} (hl : l.length ≤ 60) (hm : mayE l = true) {c : List Int} (hcl : c.length = l.length) (ht : ∀ i, i < l.length → Go.Proofs.Ytalgppclaolonaa.XColr.Told l c i) : ∀ d (i : Nat), i + d = l.length → Ev (fun k => pochoirlaw23_ColorApart.l0 k l c (l.length : Int) (i : Int)) true
  | 0, i, h => by
    refine Ev.step (fun k => by rw [pochoirlaw23_ColorApart.l0]) ?_
    simp only [if_neg (show ¬ (i : Int) < (l.length : Int) by omega)]
    exact Ev.now _
  | d + 1, i, h => by
    have ih := each_l hl hm hcl ht d (i + 1) (by omega)
    obtain ⟨fr, T, R, h1, h2, hc, hC, hlen, hR⟩ := ht i (by omega)
    refine Ev.step (fun k => by rw [pochoirlaw23_ColorApart.l0]) ?_
    simp only [if_pos (show (i : Int) < (l.length : Int) by omega)]
    refine Ev.bind (rahead_ev l (by omega) i (by omega)) ?_
    refine first_l hl hc h1 h2 ?_ (i - fr) i (by omega) (Nat.le_refl _)
    refine Ev.step (fun k => by rw [pochoirlaw23_ColorApart.j4]) ?_
    exact walk_l hl hm hcl hc h1 h2 hC hR ih (T - fr) 0 0 0 (by omega) (by simp) (by omega) (.inl ⟨rfl, rfl⟩)
theorem ColorApart : pochoirlaw23_ColorApart.Pure := by
  intro l _
  suffices hh_ : Ev (fun k => pochoirlaw23_ColorApart.f k l) true from hh_.imp fun K h => h K (Nat.le_refl _)
  unfold pochoirlaw23_ColorApart.f
  refine Ev.bind awake23_ev ?_
  simp only [if_true]
  have yes : Ev (fun k => pochoirlaw23_ColorApart.j0 k l true) true := by
    refine Ev.step (fun k => by rw [pochoirlaw23_ColorApart.j0]) ?_
    exact Ev.now _
  by_cases c : (l.length : Int) > 60
  · simp only [if_pos c]; exact yes
  · simp only [if_neg c]
    refine Ev.bind (rmay_ev l (by omega)) ?_
    cases hm : mayE l
    · exact yes
    · obtain ⟨a, h0, ht, h1⟩ := all_told (l := l) (by omega) hm
      refine Ev.step (fun k => by rw [pochoirlaw23_ColorApart.j0]) ?_
      simp only [Bool.not_true, Bool.false_eq_true, if_false]
      refine Ev.bind h1 ?_
      simp only [if_true]
      refine Ev.step (fun k => by rw [pochoirlaw23_ColorApart.j1]) ?_
      have e : ((a.length : Int) != (l.length : Int)) = false := by rw [h0]; simp
      rw [e]
      simp only [Bool.false_eq_true, if_false]
      exact each_l (by omega) hm h0 ht l.length 0 (by omega)

end Go.Proofs.Ytalgppclaolonaa.Pure
