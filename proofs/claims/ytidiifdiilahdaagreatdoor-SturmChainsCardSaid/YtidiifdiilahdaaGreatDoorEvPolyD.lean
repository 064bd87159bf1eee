/- What is left of a polynomial, divided by another: both sides go the same way. -/
import Derived.Test.YtidiifdiilahdaaGreatDoorEvPolyC
namespace Go.Proofs.YtidiifdiilahdaaGreatDoor.EvP
open Go Go.Proofs.YtidiifdiilahdaaGreatDoor.Ev Go.Proofs.YtidiifdiilahdaaGreatDoor.NumB
set_option linter.unusedVariables false
set_option linter.unusedSimpArgs false
/-- The highest coefficient. -/
def top (L : List Int) : Int := coef L (L.length - 1)
/-- One round of the division: the coefficients. -/
def rstep (L M : List Int) : List Int :=
  pol L.length fun i => coef L i * ((top M).natAbs : Int) - cof M ((i : Int) - ((L.length : Int) - (M.length : Int))) * (if top M < 0 then -top L else top L)
/-- The highest goes away. -/
theorem rstep_top (L M : List Int) (hM : M ≠ []) (hl : M.length ≤ L.length) (hL : L ≠ []) : (rstep L M).length < L.length := by
  have h1 := pol_len L.length fun i => coef L i * ((top M).natAbs : Int) - cof M ((i : Int) - ((L.length : Int) - (M.length : Int))) * (if top M < 0 then -top L else top L)
  have hl0 : L.length ≠ 0 := fun q => hL (List.eq_nil_of_length_eq_zero q)
  have hm0 : M.length ≠ 0 := fun q => hM (List.eq_nil_of_length_eq_zero q)
  rcases Nat.lt_or_ge (rstep L M).length L.length with h | h
  · exact h
  · exfalso
    have hne : rstep L M ≠ [] := fun q => by rw [q] at h; simp at h; exact hL h
    have e : (rstep L M).length = L.length := by unfold rstep at h ⊢; omega
    have hz := tz_last (L := (List.range L.length).map fun i => coef L i * ((top M).natAbs : Int) - cof M ((i : Int) - ((L.length : Int) - (M.length : Int))) * (if top M < 0 then -top L else top L)) hne
    rw [coef_range] at hz
    have e2 : (tz ((List.range L.length).map fun i => coef L i * ((top M).natAbs : Int) - cof M ((i : Int) - ((L.length : Int) - (M.length : Int))) * (if top M < 0 then -top L else top L))).length = L.length := e
    rw [e2, if_pos (by omega)] at hz
    apply hz
    rw [show ((L.length - 1 : Nat) : Int) - ((L.length : Int) - (M.length : Int)) = ((M.length - 1 : Nat) : Int) by omega, cof_nat]
    show top L * ((top M).natAbs : Int) - top M * _ = 0
    by_cases c : top M < 0
    · rw [if_pos c, show ((top M).natAbs : Int) = -top M by omega]; grind
    · rw [if_neg c, show ((top M).natAbs : Int) = top M by omega]; grind
theorem rstep_szs {e f : Nat} {L M : List Int} (hL : Szs e L) (hM : Szs f M) : Szs (e + f + 1) (rstep L M) :=
  pol_szs fun i _ => by
    have h1 : Sz (e + f) (coef L i * ((top M).natAbs : Int)) := sz_mul (hL.rd i) (sz_abs (hM.rd _))
    have h2 : Sz e (if top M < 0 then -top L else top L) := by
      split
      · exact sz_neg (hL.rd _)
      · exact hL.rd _
    have h3 := sz_mul (hM.cof ((i : Int) - ((L.length : Int) - (M.length : Int)))) h2
    exact (sz_sub h1 h3).le (by omega)
/-- The program's round. -/
theorem rest_in {Q : List S60} {L : List Int} {hi t : S60} {e f : Nat} (hQ : Rps f Q) (hL : Szs e L) (he : e + f ≤ 25000) (hh : Rp f hi) (ht : Rp 30000 t) (ehi : bv hi = top (pv Q)) (et : bv t = if top (pv Q) < 0 then -top L else top L) (lL : L.length ≤ 1000) (lQ : Q.length ≤ L.length) :
    L31_1 (L.map bg) Q hi t = L31_0 ((rstep L (pv Q)).map bg) Q hi := by
  obtain ⟨hs, s1, s2, s3⟩ := bsized_r (hh.le (n := 90000) (by omega))
  have hs2 : Rp f hs := s2.le hh.2
  have l0 : wr .i64 (((L.map bg).length : Int) - (Q.length : Int)) = (L.length : Int) - (Q.length : Int) := by rw [List.length_map]; exact w64 (by omega) (by omega)
  have key : ∀ i, Sz 40000 (coef L i * ((top (pv Q)).natAbs : Int) - cof (pv Q) ((i : Int) - ((L.length : Int) - (Q.length : Int))) * (if top (pv Q) < 0 then -top L else top L)) := fun i => by
    have h1 : Sz (e + f) (coef L i * ((top (pv Q)).natAbs : Int)) := sz_mul (hL.rd i) (sz_abs (hQ.szs.rd _))
    have h2 : Sz e (if top (pv Q) < 0 then -top L else top L) := by
      split
      · exact sz_neg (hL.rd _)
      · exact hL.rd _
    have h3 := sz_mul (hQ.szs.cof ((i : Int) - ((L.length : Int) - (Q.length : Int)))) h2
    exact (sz_sub h1 h3).le (by omega)
  have h := loop_app (fun out i => L31_2 Q hi t ((L.length : Int) - (Q.length : Int)) out (L.map bg) (L.length : Int) i) (fun i => bg (coef L i * ((top (pv Q)).natAbs : Int) - cof (pv Q) ((i : Int) - ((L.length : Int) - (Q.length : Int))) * (if top (pv Q) < 0 then -top L else top L))) L.length fun i out hi' ho => by
    show L31_2 Q hi t _ out _ _ (i : Int) = L31_2 Q hi t _ (out ++ [_]) _ _ _
    have n1 : wr .i64 ((i : Int) - ((L.length : Int) - (Q.length : Int))) = (i : Int) - ((L.length : Int) - (Q.length : Int)) := w64 (by omega) (by omega)
    have za : Rp 30000 (bg (coef L i)) := ((hL.rd i).le (by omega)).rp
    have zp : Rp 30000 (bg (coef L i * ((top (pv Q)).natAbs : Int))) := ((sz_mul (hL.rd i) (sz_abs (hQ.szs.rd ((pv Q).length - 1)))).le (by omega)).rp
    have zq : Rp 60000 (bg (cof (pv Q) ((i : Int) - ((L.length : Int) - (Q.length : Int))) * (if top (pv Q) < 0 then -top L else top L))) := by
      refine ((sz_mul (hQ.szs.cof _) (n := 30000) ?_).le (by omega)).rp
      rw [← et]; exact ht.sz
    rw [L31_2_eq, cT (by omega), grd_p (by omega), grd_p (by rw [List.length_map]; omega), bnd s1, Int.toNat_natCast, map_rd bg z0 bg_zero, bnd (bmul_r (za.le (by omega)) (hs2.le (by omega))), n1, bnd (pat_f Q _), bnd (bmul_r ((hQ.pg _).le (by omega)) (ht.le (by omega))), bv_bg, s3, ehi, pg_v, et,
      bnd (bsub_r (zp.le (by omega)) (zq.le (by omega))), bv_bg, bv_bg, fit_of (by simp only [List.length_singleton]; omega), grd_t, inc (by omega)]
  rw [L31_1_eq, l0, List.length_map]
  refine h.trans ?_
  show L31_2 _ _ _ _ _ _ _ _ = _
  rw [L31_2_eq, cF (by omega), map_bg, bnd (ptrim_s (Szs.range fun i _ => key i) (by simp; omega))]
  unfold rstep pol; rw [pv_len]
/-- How it goes on: till it is shorter. -/
def rests : Nat → List Int → List Int → List Int
  | 0, L, M => L
  | n + 1, L, M => if M.length ≤ L.length then rests n (rstep L M) M else L
theorem less_room {a b q s e B : Nat} (h : b < a) (hq : q ≤ a) (hB : e + (a + 1 - q) * s ≤ B) : (e + s) + (b + 1 - q) * s ≤ B := by
  have := Nat.mul_le_mul_right s (show b + 1 - q + 1 ≤ a + 1 - q by omega)
  rw [Nat.add_mul, Nat.one_mul] at this
  omega
theorem rest_l {Q : List S60} {hi : S60} {f : Nat} (hQ : Rps f Q) (lQ : Q ≠ []) (hh : Rp f hi) (ehi : bv hi = top (pv Q)) {B : Nat} (hB : B + f ≤ 25000) : ∀ (n : Nat) (L : List Int) (e : Nat), L.length < n → n ≤ 1000 → Szs e L → e + (L.length + 1 - Q.length) * (f + 1) ≤ B →
    L31_0 (L.map bg) Q hi = some ((rests n L (pv Q)).map bg, 0) ∧ (rests n L (pv Q)).length < Q.length ∧ Szs B (rests n L (pv Q))
  | 0, L, e, h, _, _, _ => by omega
  | n + 1, L, e, h, hn, hL, he => by
    have hq0 : Q.length ≠ 0 := fun q => lQ (List.eq_nil_of_length_eq_zero q)
    have heB : e ≤ B := by omega
    rw [L31_0_eq, List.length_map]
    by_cases c : Q.length ≤ L.length
    · have hne : L ≠ [] := fun q => by rw [q] at c; simp at c; exact hq0 (by simp [c])
      have hm : pv Q ≠ [] := fun q => by have := pv_len Q; rw [q] at this; simp at this; omega
      have hst := rstep_top L (pv Q) hm (by rw [pv_len]; exact c) hne
      obtain ⟨r1, r2, r3⟩ := rest_l hQ lQ hh ehi hB n (rstep L (pv Q)) (e + (f + 1)) (by omega) (by omega) ((rstep_szs hL hQ.szs).le (by omega)) (less_room hst c he)
      have er : rests (n + 1) L (pv Q) = rests n (rstep L (pv Q)) (pv Q) := by rw [rests, if_pos (by rw [pv_len]; exact c)]
      rw [er]
      refine ⟨?_, r2, r3⟩
      have d0 : wr .i64 ((L.length : Int) - 1) = ((L.length - 1 : Nat) : Int) := (w64 (by omega) (by omega)).trans (by omega)
      have zt : Sz 25000 (top L) := (hL.rd _).le (by omega)
      rw [cT (by omega), d0, grd_p (by omega), grd_p (by omega), bnd (bsign_r (hh.le (by omega))), sgn_neg, ehi, Int.toNat_natCast, map_rd bg z0 bg_zero, show coef L (L.length - 1) = top L from rfl]
      by_cases k : top (pv Q) < 0
      · rw [cT k, bnd (bneg_s (zt.le (by omega)))]
        rw [rest_in hQ hL (by omega) hh ((sz_neg zt).rp.le (by omega)) ehi (by rw [bv_bg, if_pos k]) (by omega) c]
        exact r1
      · rw [cF k, rest_in hQ hL (by omega) hh (zt.rp.le (by omega)) ehi (by rw [bv_bg, if_neg k]) (by omega) c]
        exact r1
    · rw [cF (by omega)]
      have er : rests (n + 1) L (pv Q) = L := by rw [rests, if_neg (by rw [pv_len]; exact c)]
      rw [er]
      exact ⟨rfl, by omega, hL.le (by omega)⟩
/-- The reference's round. -/
theorem rb_f0 (x : Int) : (rb x).f0 = decide (x < 0) := rfl
theorem rb_abs (x : Int) : S69.mk false (rb x).f1 = rb (x.natAbs : Int) := by
  show S69.mk false (NumM.cd x.natAbs) = EvR.rb _
  unfold EvR.rb NumM.sd
  rw [decide_eq_false (by omega), Int.natAbs_natCast]
theorem rrest_in {M L : List Int} {e f : Nat} (hM : Szs f M) (hL : Szs e L) (he : e + f ≤ 25000) (lL : L.length ≤ 1000) (lM : M.length ≤ L.length) :
    L35_1 (L.map rb) (M.map rb) (rb (top M)) [] (rb (top L)) 0 = L35_0 ((rstep L M).map rb) (M.map rb) (rb (top M)) := by
  have h := loop_app (fun out i => L35_1 (L.map rb) (M.map rb) (rb (top M)) out (rb (top L)) i) (fun i => rb (coef L i * ((top M).natAbs : Int) - cof M ((i : Int) - ((L.length : Int) - (M.length : Int))) * (if top M < 0 then -top L else top L))) L.length fun i out hi ho => by
    show L35_1 _ _ _ out _ (i : Int) = L35_1 _ _ _ (out ++ [_]) _ _
    have n1 : wr .i64 (wr .i64 ((i : Int) - (L.length : Int)) + (M.length : Int)) = (i : Int) - ((L.length : Int) - (M.length : Int)) := by
      rw [show wr .i64 ((i : Int) - (L.length : Int)) = (i : Int) - (L.length : Int) from w64 (by omega) (by omega)]
      exact (w64 (by omega) (by omega)).trans (by omega)
    have zM : Sz f (top M) := hM.rd _
    have zL : Sz e (top L) := hL.rd _
    have z1 : Sz 25010 (coef L i * ((top M).natAbs : Int)) := (sz_mul (hL.rd i) (sz_abs (hM.rd _))).le (by omega)
    have z2' : Sz 25010 (cof M ((i : Int) - ((L.length : Int) - (M.length : Int))) * top L) := (sz_mul (hM.cof _) (hL.rd _)).le (by omega)
    rw [L35_1_eq, List.length_map, List.length_map, cT (by omega), grd_p (by omega), grd_p (by omega), Int.toNat_natCast, map_rd rb z2 rb_zero, rb_abs, bnd (rmul_s ((hL.rd i).le (by omega)) ((sz_abs zM).le (by omega))), n1, bnd (rat_f M _), bnd (rmul_s ((hM.cof _).le (by omega)) (zL.le (by omega))), rb_f0]
    by_cases k : top M < 0
    · rw [cT k, bnd (rneg_s (z2'.le (by omega))), L35_2_eq, bnd (rsub_s (z1.le (by omega)) ((sz_neg z2').le (by omega))), fit_of (by simp only [List.length_singleton]; omega), grd_t, inc (by omega), if_pos k, Int.mul_neg]
    · rw [cF k, L35_2_eq, bnd (rsub_s (z1.le (by omega)) (z2'.le (by omega))), fit_of (by simp only [List.length_singleton]; omega), grd_t, inc (by omega), if_neg k]
  refine h.trans ?_
  show L35_1 _ _ _ _ _ _ = _
  rw [L35_1_eq, List.length_map, cF (by omega), map_rb, bnd (rptrim_s (by simp; omega))]
  rfl
theorem rrest_l {M : List Int} {f : Nat} (hM : Szs f M) (hm : M ≠ []) {B : Nat} (hB : B + f ≤ 25000) : ∀ (n : Nat) (L : List Int) (e : Nat), L.length < n → n ≤ 1000 → Szs e L → e + (L.length + 1 - M.length) * (f + 1) ≤ B →
    L35_0 (L.map rb) (M.map rb) (rb (top M)) = some ((rests n L M).map rb)
  | 0, L, e, h, _, _, _ => by omega
  | n + 1, L, e, h, hn, hL, he => by
    have hq0 : M.length ≠ 0 := fun q => hm (List.eq_nil_of_length_eq_zero q)
    have heB : e ≤ B := by omega
    rw [L35_0_eq, List.length_map, List.length_map]
    by_cases c : M.length ≤ L.length
    · have hne : L ≠ [] := fun q => by rw [q] at c; simp at c; exact hm c
      have hst := rstep_top L M hm c hne
      have r1 := rrest_l hM hm hB n (rstep L M) (e + (f + 1)) (by omega) (by omega) ((rstep_szs hL hM).le (by omega)) (less_room hst c he)
      have d0 : wr .i64 ((L.length : Int) - 1) = ((L.length - 1 : Nat) : Int) := (w64 (by omega) (by omega)).trans (by omega)
      rw [cT (by omega), d0, grd_p (by omega), grd_p (by omega), Int.toNat_natCast, map_rd rb z2 rb_zero, rests, if_pos c]
      exact (rrest_in hM hL (by omega) (by omega) c).trans r1
    · rw [cF (by omega), rests, if_neg c]
end Go.Proofs.YtidiifdiilahdaaGreatDoor.EvP
