/- What the reference of layer 1 computes: digits, comparison, product. -/
import Derived.Test.YtalgppclaolonaaNumM
import Derived.Test.YtalgppclaolonaaXColrx14
import Derived.Test.YtalgppclaolonaaXColrx15

namespace Go.Proofs.Ytalgppclaolonaa.XColr
open Go.RowKit Go.Proofs.Ytalgppclaolonaa.XM Go.Proofs.Ytalgppclaolonaa.NumM Go.Proofs.YtalgppclaolonaaW.PrintWords Go.Proofs.YtalgppclaolonaaW.PrintLast Go.Proofs.YtalgppclaolonaaW.PrintMore
set_option linter.unusedVariables false

theorem shr_lit (x : Int) (n : Nat) (hn : n ≤ 64) : shr .u64 x (n : Int) = x / 2 ^ n := by
  unfold shr; rw [show (min ((n : Int).toNat) (IntKind.u64.bits)) = n from by simp [IntKind.bits]; omega]
theorem tmod_nn {x : Int} (h : 0 ≤ x) (m : Int) : Int.tmod x m = x % m := Int.tmod_eq_emod_of_nonneg h
theorem tdiv_nn {x : Int} (h : 0 ≤ x) (m : Int) : Int.tdiv x m = x / m := Int.tdiv_eq_ediv_of_nonneg h

theorem rdigits_ev {hi lo : Int} (h0 : 0 ≤ hi) (l0 : 0 ≤ lo) : Ev (fun k => pochoirref01_Digits.f k hi lo) (digs hi lo) := by
  have e : ∀ (x : Int) (n : Nat), 0 ≤ x → 0 ≤ x / 2 ^ n := fun x n h => Int.ediv_nonneg h (Int.le_of_lt (Int.pow_pos (by decide)))
  have f : ∀ (x : Int) (i : Nat), 0 ≤ x → i < 4 → Int.tmod (shr .u64 x (wrap64 (16 * (i : Int)))) 65536 = x / 2 ^ (16 * i) % 65536 := by
    intro x i hx hi
    rw [w64 (by omega) (by omega), show (16 : Int) * (i : Int) = ((16 * i : Nat) : Int) by omega, shr_lit _ _ (by omega), tmod_nn (e x _ hx)]
  have g : ∀ i : Nat, i < 4 → wrap64 ((i : Int) + 1) = ((i + 1 : Nat) : Int) := fun i hi => by rw [w64 (by omega) (by omega)]; omega
  have s1 : ∀ (d i : Nat) (l : List Int), i + d = 4 → l.length = 4 + i → ∀ r, r = l ++ (List.range' i d).map (fun j => hi / 2 ^ (16 * j) % 65536) → Ev (fun k => pochoirref01_Digits.l1 k l (i : Int) hi lo) r := by
    intro d
    induction d with
    | zero =>
      intro i l hid hl r hr
      refine Ev.succ ?_
      simp only [pochoirref01_Digits.l1, if_neg (show ¬ ((i : Int) < 4) by omega)]
      simp at hr; subst hr
      exact Ev.now _
    | succ d ih =>
      intro i l hid hl r hr
      refine Ev.succ ?_
      simp only [pochoirref01_Digits.l1, if_pos (show ((i : Int) < 4) by omega), if_pos (show 0 ≤ wrap64 (16 * (i : Int)) by rw [w64] <;> omega), if_pos (show l.length < 17592186044416 by omega), f hi i h0 (by omega), g i (by omega)]
      refine ih (i + 1) _ (by omega) (by simp; omega) r ?_
      rw [hr, List.range'_succ]; simp
  have s0 : ∀ (d i : Nat) (l : List Int), i + d = 4 → l.length = i → ∀ r, r = l ++ (List.range' i d).map (fun j => lo / 2 ^ (16 * j) % 65536) ++ (List.range' 0 4).map (fun j => hi / 2 ^ (16 * j) % 65536) → Ev (fun k => pochoirref01_Digits.l0 k l (i : Int) hi lo) r := by
    intro d
    induction d with
    | zero =>
      intro i l hid hl r hr
      refine Ev.succ ?_
      simp only [pochoirref01_Digits.l0, if_neg (show ¬ ((i : Int) < 4) by omega)]
      exact s1 4 0 l rfl (by omega) r (by rw [hr]; simp)
    | succ d ih =>
      intro i l hid hl r hr
      refine Ev.succ ?_
      simp only [pochoirref01_Digits.l0, if_pos (show ((i : Int) < 4) by omega), if_pos (show 0 ≤ wrap64 (16 * (i : Int)) by rw [w64] <;> omega), if_pos (show l.length < 17592186044416 by omega), f lo i l0 (by omega), g i (by omega)]
      refine ih (i + 1) _ (by omega) (by simp; omega) r ?_
      rw [hr, List.range'_succ]; simp
  unfold pochoirref01_Digits.f
  exact s0 4 0 [] rfl rfl _ (by simp [digs, List.range'])

theorem rat_f (l : List Int) (i : Nat) : pochoirref01_at.f l (i : Int) = some (at_ l i) := by
  unfold pochoirref01_at.f
  by_cases h : (i : Int) < (l.length : Int)
  · rw [if_pos h, if_pos (by omega)]; simp [rd, at_]
  · rw [if_neg h, at_ge (by omega)]

theorem rless_l {a b : List Int} (ha : Dig a) (hb : Dig b) : ∀ n : Nat, n ≤ 4000000000 → Ev (fun k => pochoirref01_Less.l0 k a b ((n : Int) - 1)) (cmpI (low a n) (low b n))
  | 0, _ => by
    refine Ev.succ ?_
    simp only [pochoirref01_Less.l0, if_neg (show ¬ (((0 : Nat) : Int) - 1 ≥ 0) by omega)]
    exact Ev.some rfl
  | n + 1, hn => by
    have ih := rless_l ha hb n (by omega)
    have h1 := low_bd ha n
    have h2 := low_bd hb n
    have h3 := pw_pos n
    refine Ev.succ ?_
    simp only [show (((n + 1 : Nat) : Int) - 1) = (n : Int) by omega, pochoirref01_Less.l0, if_pos (show ((n : Int) ≥ 0) by omega), rat_f, Option.bind_some]
    have step : ∀ {x y p q : Int}, 0 ≤ p → p < 65536 ^ n → 0 ≤ q → q < 65536 ^ n → x < y → p + x * 65536 ^ n < q + y * 65536 ^ n := by
      intro x y p q hp0 hp hq0 hq hxy
      have := Int.mul_le_mul_of_nonneg_right (show x + 1 ≤ y by omega) (Int.le_of_lt h3)
      rw [Int.add_mul] at this
      omega
    by_cases c1 : at_ a n < at_ b n
    · simp only [if_pos c1]
      have := step h1.1 h1.2 h2.1 h2.2 c1
      exact Ev.some (cmpI_lt (by rw [low_succ, low_succ]; exact this)).symm
    · by_cases c2 : at_ a n > at_ b n
      · simp only [if_neg c1, if_pos c2]
        have := step h2.1 h2.2 h1.1 h1.2 c2
        exact Ev.some (cmpI_gt (by rw [low_succ, low_succ]; exact this)).symm
      · simp only [if_neg c1, if_neg c2]
        have e : at_ a n = at_ b n := by omega
        rw [w64 (by omega) (by omega)]
        exact Ev.eq ih (cmpI_add (by rw [low_succ, low_succ, e]; omega))
theorem rless_ev {a b : List Int} (ha : Dig a) (hb : Dig b) (la : a.length ≤ 1000000) (lb : b.length ≤ 1000000) : Ev (fun k => pochoirref01_Less.f k a b) (cmpI (val a) (val b)) := by
  have key : ∀ n : Nat, a.length ≤ n → b.length ≤ n → n ≤ 1000000 → Ev (fun k => pochoirref01_Less.j0 k a b (n : Int)) (cmpI (val a) (val b)) := by
    intro n h1 h2 h3
    refine Ev.succ ?_
    simp only [pochoirref01_Less.j0]
    rw [w64 (by omega) (by omega)]
    have := rless_l ha hb n (by omega)
    rw [low_all a n h1, low_all b n h2] at this
    exact this
  unfold pochoirref01_Less.f
  by_cases h : (b.length : Int) > (a.length : Int)
  · simp only [if_pos h]; exact key b.length (by omega) (by omega) lb
  · simp only [if_neg h]; exact key a.length (by omega) (by omega) la

end Go.Proofs.Ytalgppclaolonaa.XColr
