/- What is left of a polynomial, divided by another: both sides go the same way. -/
import Derived.Test.YtkpjeihgigmnkaaEvPolyC
namespace Go.Proofs.Ytkpjeihgigmnkaa.EvP
open Go Go.Proofs.Ytkpjeihgigmnkaa.Ev Go.Proofs.Ytkpjeihgigmnkaa.NumB
set_option linter.unusedVariables false
set_option linter.unusedSimpArgs false
/-- The highest coefficient. -/
def top (L : List Int) : Int := coef L (L.length - 1)
/-- One round of the division: the coefficients. -/
def rstep (L M : List Int) : List Int :=
  pol L.length fun i => coef L i * ((top M).natAbs : Int) - cof M ((i : Int) - ((L.length : Int) - (M.length : Int))) * (if top M < 0 then -top L else top L)
/-- The highest goes away. -/
theorem rstep_top (L M : List Int) (hM : M ≠ []) (hl : M.length ≤ L.length) (hL : L ≠ []) : (rstep L M).length < L.length := by
  have h1 := pol_len L.length fun i => coef L i * ((top M).natAbs : Int) - cof M ((i : Int) - ((L.length : Int) - (M.length : Int))) * (if top M < 0 then -top L else top L)
  have hl0 : L.length ≠ 0 := fun q => hL (List.eq_nil_of_length_eq_zero q)
  have hm0 : M.length ≠ 0 := fun q => hM (List.eq_nil_of_length_eq_zero q)
  rcases Nat.lt_or_ge (rstep L M).length L.length with h | h
  · exact h
  · exfalso
    have hne : rstep L M ≠ [] := fun q => by rw [q] at h; simp at h; exact hL h
    have e : (rstep L M).length = L.length := by unfold rstep at h ⊢; omega
    have hz := tz_last (L := (List.range L.length).map fun i => coef L i * ((top M).natAbs : Int) - cof M ((i : Int) - ((L.length : Int) - (M.length : Int))) * (if top M < 0 then -top L else top L)) hne
    rw [coef_range] at hz
    have e2 : (tz ((List.range L.length).map fun i => coef L i * ((top M).natAbs : Int) - cof M ((i : Int) - ((L.length : Int) - (M.length : Int))) * (if top M < 0 then -top L else top L))).length = L.length := e
    rw [e2, if_pos (by omega)] at hz
    apply hz
    rw [show ((L.length - 1 : Nat) : Int) - ((L.length : Int) - (M.length : Int)) = ((M.length - 1 : Nat) : Int) by omega, cof_nat]
    show top L * ((top M).natAbs : Int) - top M * _ = 0
    by_cases c : top M < 0
    · rw [if_pos c, show ((top M).natAbs : Int) = -top M by omega]; grind
    · rw [if_neg c, show ((top M).natAbs : Int) = top M by omega]; grind
theorem rstep_szs {e f : Nat} {L M : List Int} (hL : Szs e L) (hM : Szs f M) : Szs (e + f + 1) (rstep L M) :=
  pol_szs fun i _ => by
    have h1 : Sz (e + f) (coef L i * ((top M).natAbs : Int)) := sz_mul (hL.rd i) (sz_abs (hM.rd _))
    have h2 : Sz e (if top M < 0 then -top L else top L) := by
      split
      · exact sz_neg (hL.rd _)
      · exact hL.rd _
    have h3 := sz_mul (hM.cof ((i : Int) - ((L.length : Int) - (M.length : Int)))) h2
    exact (sz_sub h1 h3).le (by omega)
/-- How it goes on: till it is shorter. -/
def rests : Nat → List Int → List Int → List Int
  | 0, L, M => L
  | n + 1, L, M => if M.length ≤ L.length then rests n (rstep L M) M else L
theorem less_room {a b q s e B : Nat} (h : b < a) (hq : q ≤ a) (hB : e + (a + 1 - q) * s ≤ B) : (e + s) + (b + 1 - q) * s ≤ B := by
  have := Nat.mul_le_mul_right s (show b + 1 - q + 1 ≤ a + 1 - q by omega)
  rw [Nat.add_mul, Nat.one_mul] at this
  omega
/-- The reference's round. -/
theorem rb_f0 (x : Int) : (rb x).f0 = decide (x < 0) := rfl
theorem rb_abs (x : Int) : S73.mk false (rb x).f1 = rb (x.natAbs : Int) := by
  show S73.mk false (NumM.cd x.natAbs) = EvR.rb _
  unfold EvR.rb NumM.sd
  rw [decide_eq_false (by omega), Int.natAbs_natCast]
theorem rrest_in {M L : List Int} {e f : Nat} (hM : Szs f M) (hL : Szs e L) (he : e + f ≤ 25000) (lL : L.length ≤ 1000) (lM : M.length ≤ L.length) :
    L63_1 (L.map rb) (M.map rb) (rb (top M)) [] (rb (top L)) 0 = L63_0 ((rstep L M).map rb) (M.map rb) (rb (top M)) := by
  have h := loop_app (fun out i => L63_1 (L.map rb) (M.map rb) (rb (top M)) out (rb (top L)) i) (fun i => rb (coef L i * ((top M).natAbs : Int) - cof M ((i : Int) - ((L.length : Int) - (M.length : Int))) * (if top M < 0 then -top L else top L))) L.length fun i out hi ho => by
    show L63_1 _ _ _ out _ (i : Int) = L63_1 _ _ _ (out ++ [_]) _ _
    have n1 : wr .i64 (wr .i64 ((i : Int) - (L.length : Int)) + (M.length : Int)) = (i : Int) - ((L.length : Int) - (M.length : Int)) := by
      rw [show wr .i64 ((i : Int) - (L.length : Int)) = (i : Int) - (L.length : Int) from w64 (by omega) (by omega)]
      exact (w64 (by omega) (by omega)).trans (by omega)
    have zM : Sz f (top M) := hM.rd _
    have zL : Sz e (top L) := hL.rd _
    have z6 : Sz 25010 (coef L i * ((top M).natAbs : Int)) := (sz_mul (hL.rd i) (sz_abs (hM.rd _))).le (by omega)
    have z5' : Sz 25010 (cof M ((i : Int) - ((L.length : Int) - (M.length : Int))) * top L) := (sz_mul (hM.cof _) (hL.rd _)).le (by omega)
    rw [L63_1_eq, List.length_map, List.length_map, cT (by omega), grd_p (by omega), grd_p (by omega), Int.toNat_natCast, map_rd rb z5 rb_zero, rb_abs, bnd (rmul_s ((hL.rd i).le (by omega)) ((sz_abs zM).le (by omega))), n1, bnd (rat_f M _), bnd (rmul_s ((hM.cof _).le (by omega)) (zL.le (by omega))), rb_f0]
    by_cases k : top M < 0
    · rw [cT k, bnd (rneg_s (z5'.le (by omega))), L63_2_eq, bnd (rsub_s (z6.le (by omega)) ((sz_neg z5').le (by omega))), fit_of (by simp only [List.length_singleton]; omega), grd_t, inc (by omega), if_pos k, Int.mul_neg]
    · rw [cF k, L63_2_eq, bnd (rsub_s (z6.le (by omega)) (z5'.le (by omega))), fit_of (by simp only [List.length_singleton]; omega), grd_t, inc (by omega), if_neg k]
  refine h.trans ?_
  show L63_1 _ _ _ _ _ _ = _
  rw [L63_1_eq, List.length_map, cF (by omega), map_rb, bnd (rptrim_s (by simp; omega))]
  rfl
theorem rrest_l {M : List Int} {f : Nat} (hM : Szs f M) (hm : M ≠ []) {B : Nat} (hB : B + f ≤ 25000) : ∀ (n : Nat) (L : List Int) (e : Nat), L.length < n → n ≤ 1000 → Szs e L → e + (L.length + 1 - M.length) * (f + 1) ≤ B →
    L63_0 (L.map rb) (M.map rb) (rb (top M)) = some ((rests n L M).map rb)
  | 0, L, e, h, _, _, _ => by omega
  | n + 1, L, e, h, hn, hL, he => by
    have hq0 : M.length ≠ 0 := fun q => hm (List.eq_nil_of_length_eq_zero q)
    have heB : e ≤ B := by omega
    rw [L63_0_eq, List.length_map, List.length_map]
    by_cases c : M.length ≤ L.length
    · have hne : L ≠ [] := fun q => by rw [q] at c; simp at c; exact hm c
      have hst := rstep_top L M hm c hne
      have r1 := rrest_l hM hm hB n (rstep L M) (e + (f + 1)) (by omega) (by omega) ((rstep_szs hL hM).le (by omega)) (less_room hst c he)
      have d0 : wr .i64 ((L.length : Int) - 1) = ((L.length - 1 : Nat) : Int) := (w64 (by omega) (by omega)).trans (by omega)
      rw [cT (by omega), d0, grd_p (by omega), grd_p (by omega), Int.toNat_natCast, map_rd rb z5 rb_zero, rests, if_pos c]
      exact (rrest_in hM hL (by omega) (by omega) c).trans r1
    · rw [cF (by omega), rests, if_neg c]
end Go.Proofs.Ytkpjeihgigmnkaa.EvP
