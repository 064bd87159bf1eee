/- The colours of an outline, contour by contour: layer 23. -/
import Derived.Test.YtalgppclaolonaaXColrColM
import Derived.Test.YtalgppclaolonaaXColrCornCM
import Derived.Test.YtalgppclaolonaaXColrx11

namespace Go.Proofs.Ytalgppclaolonaa.XColr
open Go.RowKit Go.Proofs.Ytalgppclaolonaa.XM Go.Proofs.Ytalgppclaolonaa.NumM Go.Proofs.YtalgppclaolonaaW.PrintWords Go.Proofs.YtalgppclaolonaaW.PrintLast Go.Proofs.YtalgppclaolonaaW.PrintMore
set_option linter.unusedVariables false
set_option linter.unusedSimpArgs false

theorem I_app (a b : List Nat) : I (a ++ b) = I a ++ I b := by simp [I]
/-- The corners from a place on, as places. -/
def cn (l : List S38) (i : Nat) : Nat → List Nat
  | 0 => []
  | d + 1 => (if isC (rd_T38 l ((aheadE l i : Nat) : Int)) (rd_T38 l (i : Int)) = true then [i] else []) ++ cn l (i + 1) d
theorem cn_corners (l : List S38) : ∀ d i, corners l i d = I (cn l i d)
  | 0, i => rfl
  | d + 1, i => by
    rw [corners, cn, I_app, cn_corners l d (i + 1)]
    split <;> rfl
theorem cn_add (l : List S38) : ∀ a i b, cn l i (a + b) = cn l i a ++ cn l (i + a) b
  | 0, i, b => by simp [cn]
  | a + 1, i, b => by
    rw [show a + 1 + b = (a + b) + 1 by omega, cn, cn, cn_add l a (i + 1) b, List.append_assoc, show i + 1 + a = i + (a + 1) by omega]
theorem cn_mem (l : List S38) : ∀ d i x, x ∈ cn l i d → i ≤ x ∧ x < i + d
  | 0, i, x, h => by simp [cn] at h
  | d + 1, i, x, h => by
    rw [cn, List.mem_append] at h
    rcases h with h | h
    · split at h
      · simp at h; omega
      · simp at h
    · have := cn_mem l d (i + 1) x h; omega
theorem cn_is (l : List S38) : ∀ d i x, x ∈ cn l i d ↔ (i ≤ x ∧ x < i + d ∧ isC (rd_T38 l ((aheadE l x : Nat) : Int)) (rd_T38 l (x : Int)) = true)
  | 0, i, x => by simp [cn]; omega
  | d + 1, i, x => by
    rw [cn, List.mem_append, cn_is l d (i + 1) x]
    constructor
    · rintro (h | h)
      · split at h
        · rename_i q; simp at h; subst h; exact ⟨by omega, by omega, q⟩
        · simp at h
      · exact ⟨by omega, by omega, h.2.2⟩
    · rintro ⟨h1, h2, h3⟩
      by_cases c : x = i
      · subst c; left; rw [if_pos h3]; simp
      · right; exact ⟨by omega, by omega, h3⟩
theorem cn_len (l : List S38) : ∀ d i, (cn l i d).length ≤ d
  | 0, i => by simp [cn]
  | d + 1, i => by have := cn_len l d (i + 1); rw [cn, List.length_append]; split <;> simp <;> omega
theorem cn_sorted (l : List S38) : ∀ d i, (cn l i d).Pairwise (· < ·)
  | 0, i => by simp [cn]
  | d + 1, i => by
    rw [cn]
    have ih := cn_sorted l d (i + 1)
    split
    · rw [List.singleton_append, List.pairwise_cons]
      exact ⟨fun x hx => by have := cn_mem l d (i + 1) x hx; omega, ih⟩
    · simpa using ih
/-- A contour's corners, from its beginning. -/
def cnS (l : List S38) (fr d : Nat) : List Nat := (cn l fr d).map (· - fr)
theorem cnS_len (l : List S38) (fr d : Nat) : (cnS l fr d).length ≤ d := by simp [cnS]; exact cn_len l d fr
theorem cnS_good (l : List S38) (fr d : Nat) : GoodC d (cnS l fr d) := by
  have e : ∀ j, (h : j < (cn l fr d).length) → (cnS l fr d).getD j 0 = (cn l fr d)[j] - fr := fun j h => by simp [cnS, List.getD, h]
  have hl : (cnS l fr d).length = (cn l fr d).length := by simp [cnS]
  refine ⟨fun j hj => ?_, fun a b hab hb => ?_⟩
  · rw [hl] at hj
    have := cn_mem l d fr _ (List.getElem_mem hj)
    rw [e j hj]; omega
  · rw [hl] at hb
    have h1 := cn_mem l d fr _ (List.getElem_mem hb)
    have h2 := cn_mem l d fr _ (List.getElem_mem (show a < (cn l fr d).length by omega))
    have h3 := List.pairwise_iff_getElem.1 (cn_sorted l d fr) a b (by omega) hb hab
    rw [e a (by omega), e b hb]; omega
theorem cn_filter (l : List S38) (fr T n : Nat) (h1 : fr ≤ T) (h2 : T ≤ n) : (cn l 0 n).filter (fun x => decide (fr ≤ x) && decide (x < T)) = cn l fr (T - fr) := by
  have e : cn l 0 n = cn l 0 fr ++ (cn l fr (T - fr) ++ cn l T (n - T)) := by
    have a := cn_add l fr 0 (n - fr)
    have b := cn_add l (T - fr) fr (n - T)
    rw [show fr + (n - fr) = n by omega, Nat.zero_add] at a
    rw [show T - fr + (n - T) = n - fr by omega, show fr + (T - fr) = T by omega] at b
    rw [a, b]
  rw [e, List.filter_append, List.filter_append]
  rw [List.filter_eq_nil_iff.2 (fun x hx => by have := cn_mem l fr 0 x hx; simp; omega), List.filter_eq_self.2 (fun x hx => by have := cn_mem l (T - fr) fr x hx; simp; omega), List.filter_eq_nil_iff.2 (fun x hx => by have := cn_mem l (n - T) T x hx; simp; omega)]
  simp
/-- A contour: edges of one number, and no more of them. -/
def Cont (l : List S38) (fr T : Nat) : Prop := fr < T ∧ T ≤ l.length ∧ (∀ j : Nat, fr ≤ j → j < T → (rd_T38 l (j : Int)).f0 = (rd_T38 l (fr : Int)).f0) ∧ (T = l.length ∨ (rd_T38 l (T : Int)).f0 ≠ (rd_T38 l (fr : Int)).f0) ∧ (fr = 0 ∨ (rd_T38 l ((fr - 1 : Nat) : Int)).f0 ≠ (rd_T38 l (fr : Int)).f0)
theorem cont_ex (l : List S38) {fr : Nat} (hfr : fr < l.length) (hb : fr = 0 ∨ (rd_T38 l ((fr - 1 : Nat) : Int)).f0 ≠ (rd_T38 l (fr : Int)).f0) : ∀ d (tt : Nat), tt + d = l.length → fr < tt → (∀ j : Nat, fr ≤ j → j < tt → (rd_T38 l (j : Int)).f0 = (rd_T38 l (fr : Int)).f0) → ∃ T, Cont l fr T
  | 0, tt, h, h1, h2 => ⟨tt, h1, by omega, h2, .inl (by omega), hb⟩
  | d + 1, tt, h, h1, h2 => by
    by_cases c : (rd_T38 l (tt : Int)).f0 = (rd_T38 l (fr : Int)).f0
    · refine cont_ex l hfr hb d (tt + 1) (by omega) (by omega) (fun j a b => ?_)
      rcases Nat.lt_or_ge j tt with g | g
      · exact h2 j a g
      · rw [show j = tt by omega]; exact c
    · exact ⟨tt, h1, by omega, h2, .inr c, hb⟩
theorem c_find {l : List S38} (hl : l.length ≤ 8192) {X Y : List Int} {fr T : Nat} (hc : Cont l fr T) {Z : List Int × Int} (cont : Ev (fun k => color_All.j2 k l X Y (fr : Int) (T : Int)) Z) : ∀ d (tt : Nat), tt + d = T → fr < tt → Ev (fun k => color_All.l1 k l X Y (fr : Int) (tt : Int)) Z
  | 0, tt, h, h1 => by
    obtain ⟨a1, a2, a3, a4, a5⟩ := hc
    have : tt = T := by omega
    subst this
    refine Ev.step (fun k => by rw [color_All.l1]) ?_
    rcases a4 with q | q
    · simp only [if_neg (show ¬ (tt : Int) < (l.length : Int) by omega)]; exact cont
    · by_cases g : (tt : Int) < (l.length : Int)
      · simp only [if_pos g, if_pos (show (0 : Int) ≤ (tt : Int) by omega), if_pos (show (0 : Int) ≤ (fr : Int) by omega), if_pos (show (fr : Int) < (l.length : Int) by omega), if_neg q]; exact cont
      · simp only [if_neg g]; exact cont
  | d + 1, tt, h, h1 => by
    have ih := c_find hl hc cont d (tt + 1) (by omega) (by omega)
    obtain ⟨a1, a2, a3, a4, a5⟩ := hc
    refine Ev.step (fun k => by rw [color_All.l1]) ?_
    simp only [if_pos (show (tt : Int) < (l.length : Int) by omega), if_pos (show (0 : Int) ≤ (tt : Int) by omega), if_pos (show (0 : Int) ≤ (fr : Int) by omega), if_pos (show (fr : Int) < (l.length : Int) by omega), if_pos (a3 tt (by omega) (by omega))]
    rw [w64 (by omega) (by omega), show (tt : Int) + 1 = ((tt + 1 : Nat) : Int) by omega]
    exact ih
theorem c_own {l : List S38} {out R : List Int} {fr T : Nat} (hT : T ≤ 8192) (hf : fr ≤ T) {ys : List Nat} (hy : ∀ y, y ∈ ys → T ≤ y) {Z : List Int × Int} (hn : out.length + R.length < 1000000)
    (next : Ev (fun k => color_All.l0 k l (I ys) (out ++ R) (T : Int)) Z) : ∀ (xs own : List Nat), (∀ x, x ∈ xs → fr ≤ x ∧ x < T) → xs.length + own.length ≤ 10000 →
      Ev (fun k => color_contour.f k ((T - fr : Nat) : Int) (I (own ++ xs.map (· - fr)))) R → Ev (fun k => color_All.l2 k l (I (xs ++ ys)) out (fr : Int) (T : Int) (I own)) Z
  | [], own, hx, hlen, hR => by
    refine Ev.step (fun k => by rw [color_All.l2]) ?_
    have e : wrap64 ((T : Int) - (fr : Int)) = ((T - fr : Nat) : Int) := by rw [w64 (by omega) (by omega)]; omega
    rw [e]
    rw [List.map_nil, List.append_nil] at hR
    have stop := Ev.bind (f := fun k t => if out.length + t.length < 17592186044416 then color_All.l0 k l (I ys) (out ++ t) (T : Int) else none) hR (by simp only [if_pos (show out.length + R.length < 17592186044416 by omega)]; exact next)
    cases ys with
    | nil => simp only [List.append_nil, I_len, List.length_nil, if_neg (show ¬ ((0 : Nat) : Int) > 0 by omega)]; exact stop
    | cons y ys =>
      have hy0 : rd (I (y :: ys)) 0 = (y : Int) := rdI (y :: ys) 0
      have := hy y (by simp)
      simp only [List.nil_append, I_len, List.length_cons, if_pos (show ((ys.length + 1 : Nat) : Int) > 0 by omega), if_pos (show (0 : Int) < ((ys.length + 1 : Nat) : Int) by omega), hy0, if_neg (show ¬ (y : Int) < (T : Int) by omega)]
      exact stop
  | x :: xs, own, hx, hlen, hR => by
    have hx0 := hx x (by simp)
    have ih := c_own hT hf hy hn next xs (own ++ [x - fr]) (fun z hz => hx z (by simp [hz])) (by simp at hlen ⊢; omega) (by rw [List.append_assoc]; exact hR)
    refine Ev.step (fun k => by rw [color_All.l2]) ?_
    have e0 : rd (I (x :: xs ++ ys)) 0 = (x : Int) := rdI (x :: xs ++ ys) 0
    have e1 : wrap64 ((x : Int) - (fr : Int)) = ((x - fr : Nat) : Int) := by rw [w64 (by omega) (by omega)]; omega
    have e2 : (I (x :: xs ++ ys)).drop (1 : Int).toNat = I (xs ++ ys) := rfl
    have e3 : I own ++ [((x - fr : Nat) : Int)] = I (own ++ [x - fr]) := by rw [I_app]; rfl
    have e4 : (I (x :: xs ++ ys)).length = xs.length + ys.length + 1 := by rw [I_len]; simp
    have e5 : own.length ≤ 10000 := by omega
    rw [e0, e1, e2, e3, e4]
    simp only [if_pos (show ((xs.length + ys.length + 1 : Nat) : Int) > 0 by omega), if_pos (show (0 : Int) < ((xs.length + ys.length + 1 : Nat) : Int) by omega), if_pos (show (x : Int) < (T : Int) by omega), I_len, if_pos (show own.length < 17592186044416 by omega), if_pos (show (1 : Int) ≤ ((xs.length + ys.length + 1 : Nat) : Int) by omega)]
    exact ih
/-- What the colours of the edges are. -/
def Told (l : List S38) (c : List Int) (i : Nat) : Prop := ∃ fr T R, fr ≤ i ∧ i < T ∧ Cont l fr T ∧ Col (T - fr) (cnS l fr (T - fr)) R ∧ R.length = T - fr ∧ ∀ p, p < T - fr → c.getD (fr + p) 0 = R.getD p 0
theorem all_c {l : List S38} (hl : l.length ≤ 8192) : ∀ n (fr : Nat) (out : List Int), l.length - fr ≤ n → fr ≤ l.length → (fr = 0 ∨ fr = l.length ∨ (rd_T38 l ((fr - 1 : Nat) : Int)).f0 ≠ (rd_T38 l (fr : Int)).f0) → out.length = fr →
    ∃ c : List Int, c.length = l.length ∧ (∀ q, q < fr → c.getD q 0 = out.getD q 0) ∧ (∀ i, fr ≤ i → i < l.length → Told l c i) ∧
      Ev (fun k => color_All.l0 k l (I (cn l fr (l.length - fr))) out (fr : Int)) (c, 0) := by
  have stop : ∀ fr (out : List Int), fr = l.length → out.length = fr → ∃ c : List Int, c.length = l.length ∧ (∀ q, q < fr → c.getD q 0 = out.getD q 0) ∧ (∀ i, fr ≤ i → i < l.length → Told l c i) ∧
      Ev (fun k => color_All.l0 k l (I (cn l fr (l.length - fr))) out (fr : Int)) (c, 0) := fun fr out h1 h2 => by
    refine ⟨out, by omega, fun _ _ => rfl, fun i a b => by omega, Ev.step (fun k => by rw [color_All.l0]) ?_⟩
    simp only [if_neg (show ¬ (fr : Int) < (l.length : Int) by omega)]; exact Ev.now _
  intro n
  induction n with
  | zero => intro fr out h1 h2 h3 h4; exact stop fr out (by omega) h4
  | succ n ih =>
    intro fr out h1 h2 h3 h4
    rcases Nat.lt_or_ge fr l.length with g | g
    · have hb : fr = 0 ∨ (rd_T38 l ((fr - 1 : Nat) : Int)).f0 ≠ (rd_T38 l (fr : Int)).f0 := by
        rcases h3 with q | q | q
        · exact .inl q
        · omega
        · exact .inr q
      obtain ⟨T, hc⟩ := cont_ex l g hb (l.length - (fr + 1)) (fr + 1) (by omega) (by omega) (fun j a b => by rw [show j = fr by omega])
      have hc' := hc
      obtain ⟨a1, a2, a3, a4, a5⟩ := hc'
      obtain ⟨R, r1, r2, r3⟩ := con_ev (cs := cnS l fr (T - fr)) (m := T - fr) (by omega) (cnS_len l fr (T - fr)) (cnS_good l fr (T - fr))
      have hnx : T = 0 ∨ T = l.length ∨ (rd_T38 l ((T - 1 : Nat) : Int)).f0 ≠ (rd_T38 l (T : Int)).f0 := by
        rcases a4 with q | q
        · exact .inr (.inl q)
        · exact .inr (.inr (by rw [a3 (T - 1) (by omega) (by omega)]; exact fun z => q z.symm))
      obtain ⟨c, c1, c2, c3, c4⟩ := ih T (out ++ R) (by omega) a2 hnx (by rw [List.length_append]; omega)
      refine ⟨c, c1, fun q hq => ?_, fun i hi1 hi2 => ?_, ?_⟩
      · rw [c2 q (by omega)]
        simp [List.getD, List.getElem?_append_left (show q < out.length by omega)]
      · rcases Nat.lt_or_ge i T with q | q
        · refine ⟨fr, T, R, hi1, q, hc, r1, r2, fun p hp => ?_⟩
          rw [c2 (fr + p) (by omega)]
          simp only [List.getD]
          rw [List.getElem?_append_right (by omega), h4, show fr + p - fr = p by omega]
        · exact c3 i q hi2
      · refine Ev.step (fun k => by rw [color_All.l0]) ?_
        simp only [if_pos (show (fr : Int) < (l.length : Int) by omega)]
        rw [w64 (by omega) (by omega), show (fr : Int) + 1 = ((fr + 1 : Nat) : Int) by omega]
        refine c_find hl hc ?_ (T - (fr + 1)) (fr + 1) (by omega) (by omega)
        refine Ev.step (fun k => by rw [color_All.j2]) ?_
        have e := cn_add l (T - fr) fr (l.length - T)
        rw [show T - fr + (l.length - T) = l.length - fr by omega, show fr + (T - fr) = T by omega] at e
        rw [e]
        exact c_own (by omega) (by omega) (fun y hy => (cn_mem l _ _ y hy).1) (by omega) c4 (cn l fr (T - fr)) [] (fun x hx => by have := cn_mem l _ _ x hx; omega) (by have := cn_len l (T - fr) fr; simp; omega) r3
    · exact stop fr out (by omega) h4
theorem all_told {l : List S38} (hl : l.length ≤ 60) (hm : mayE l = true) : ∃ c : List Int, c.length = l.length ∧ (∀ i, i < l.length → Told l c i) ∧ Ev (fun k => color_All.f k l) (c, 0) := by
  obtain ⟨c, h1, h2, h3, h4⟩ := all_c (l := l) (by omega) l.length 0 [] (by omega) (by omega) (.inl rfl) rfl
  have ca := cAll_ev l hl
  rw [if_pos hm, cn_corners] at ca
  refine ⟨c, h1, fun i hi => h3 i (by omega) hi, ?_⟩
  unfold color_All.f
  refine Ev.bind ca ?_
  simp only [if_true]
  exact h4

end Go.Proofs.Ytalgppclaolonaa.XColr
