/- The pure law PolyRoots: a product with D x - N has a root at N by D, and without that it is the other factor again. -/
import Derived.Test.YtidiifdiilahdaaDoorPurePolyValues
namespace Go.Proofs.YtidiifdiilahdaaDoor.Ev
open Go Go.Proofs.YtidiifdiilahdaaDoor.EvP
open Go.Proofs.YtidiifdiilahdaaDoor.EvN (i64 maY bmay_f rmay_f)
set_option linter.unusedVariables false
set_option linter.unusedSimpArgs false
/-! from numbers -/
theorem pof_f {l : List Int} (hw : ∀ x ∈ l, i64 x) (ll : l.length ≤ 1000) : F20 l = some ((tz l).map bg) := by
  have hz : Szs 40000 l := fun x hx => (i64.sz (hw x hx)).le (by omega)
  have hi : ∀ i, i < l.length → i64 (coef l i) := fun i h => by
    have : coef l i = l[i] := by simp [coef, h]
    rw [this]; exact hw _ (List.getElem_mem _)
  have h := loop_app (fun out i => L20_0 out l (l.length : Int) i) (fun i => bg (coef l i)) l.length fun i out hi' ho => by
    show L20_0 out l _ (i : Int) = L20_0 (out ++ [_]) l _ _
    rw [L20_0_eq, cT (by omega), grd_p (by omega), grd_p (by omega), Int.toNat_natCast, show l.getD i 0 = coef l i from rfl, bnd (bof_f (hi i hi').1 (hi i hi').2), fit_of (by simp only [List.length_singleton]; omega), grd_t, EvP.inc (by omega)]
  rw [F20_eq]
  refine h.trans ?_
  have e : (List.range l.length).map (coef l) = l := by
    refine List.ext_getElem (by simp) fun i h1 h2 => ?_
    simp [coef, h2]
  show L20_0 _ l _ _ = _
  rw [L20_0_eq, cF (by omega), map_bg, e, bnd (ptrim_s hz (by omega))]
theorem rpof_f {l : List Int} (hw : ∀ x ∈ l, i64 x) (ll : l.length ≤ 1000) : F22 l = some ((tz l).map rb) := by
  have hi : ∀ i, i < l.length → i64 (coef l i) := fun i h => by
    have : coef l i = l[i] := by simp [coef, h]
    rw [this]; exact hw _ (List.getElem_mem _)
  have h := loop_app (fun out i => L22_0 l out i) (fun i => rb (coef l i)) l.length fun i out hi' ho => by
    show L22_0 l out (i : Int) = L22_0 l (out ++ [_]) _
    rw [L22_0_eq, cT (by omega), grd_p (by omega), grd_p (by omega), Int.toNat_natCast, show l.getD i 0 = coef l i from rfl, bnd (EvR.rof_f (hi i hi').1 (hi i hi').2), fit_of (by simp only [List.length_singleton]; omega), grd_t, EvP.inc (by omega)]
  rw [F22_eq]
  refine h.trans ?_
  have e : (List.range l.length).map (coef l) = l := by
    refine List.ext_getElem (by simp) fun i h1 h2 => ?_
    simp [coef, h2]
  show L22_0 l _ _ = _
  rw [L22_0_eq, cF (by omega), map_rb, e, bnd (rptrim_s (by omega))]
/-! the product with D x - N -/
theorem coef_lin (N D : Int) : ∀ i : Nat, coef [-N, D] i = if i = 0 then -N else if i = 1 then D else 0
  | 0 => rfl
  | 1 => rfl
  | i + 2 => by rw [if_neg (by omega), if_neg (by omega)]; exact coef_ge (by simp)
theorem cterm_lin (L : List Int) (N D : Int) (j i : Nat) : cterm L [-N, D] j i = if i = j then -(coef L j * N) else if i + 1 = j then coef L i * D else 0 := by
  unfold cterm
  by_cases c : i = j
  · subst c
    rw [if_pos rfl, Int.sub_self, show (0 : Int) = ((0 : Nat) : Int) from rfl, cof_nat, coef_lin, if_pos rfl, Int.mul_neg]
  · rw [if_neg c]
    by_cases d : i + 1 = j
    · rw [if_pos d, show (j : Int) - (i : Int) = ((1 : Nat) : Int) by omega, cof_nat, coef_lin, if_neg (by omega), if_pos rfl]
    · rw [if_neg d]
      by_cases e : i < j
      · rw [show (j : Int) - (i : Int) = ((j - i : Nat) : Int) by omega, cof_nat, coef_lin, if_neg (by omega), if_neg (by omega), Int.mul_zero]
      · rw [cof_neg (by omega), Int.mul_zero]
/-- The coefficient below. -/
def below (L : List Int) : Nat → Int
  | 0 => 0
  | j + 1 => coef L j
theorem csum_lin (L : List Int) (N D : Int) (j : Nat) : csum L.length (cterm L [-N, D] j) = below L j * D - coef L j * N := by
  rw [← csum_any (k := j + 1) (.inr (by omega)), csum, cterm_lin, if_pos rfl]
  rcases j with _ | j
  · simp only [csum, below]; omega
  · rw [csum, cterm_lin, if_neg (by omega), if_pos rfl, csum_nil fun i hi => by rw [cterm_lin, if_neg (by omega), if_neg (by omega)]]
    simp only [below]; omega
/-- D x - N times it. -/
def lin (L : List Int) (N D : Int) : List Int := pmul L [-N, D]
theorem coef_lin_mul (L : List Int) (N D : Int) (j : Nat) : coef (lin L N D) j = below L j * D - coef L j * N := by
  unfold lin pmul
  rw [coef_pol, csum_lin]
  split
  · rfl
  · rename_i h
    simp only [List.length_cons, List.length_nil] at h
    have : below L j = 0 := by
      rcases j with _ | j
      · rfl
      · exact coef_ge (by omega)
    rw [this, coef_ge (by omega), Int.zero_mul, Int.zero_mul]; rfl
theorem lin_len {L : List Int} {N D : Int} (ht : tz L = L) (hL : L ≠ []) (hD : D ≠ 0) : (lin L N D).length = L.length + 1 := by
  have hl0 : L.length ≠ 0 := fun q => hL (List.eq_nil_of_length_eq_zero q)
  have hz := tz_last (L := L) (by rw [ht]; exact hL)
  rw [ht] at hz
  have hc : ∀ j, coef (lin L N D) j = below L j * D - coef L j * N := coef_lin_mul L N D
  have h1 : coef (lin L N D) L.length ≠ 0 := by
    rw [hc, coef_ge (Nat.le_refl _), Int.zero_mul, Int.sub_zero]
    have : below L L.length = coef L (L.length - 1) := by
      obtain ⟨k, hk⟩ : ∃ k, L.length = k + 1 := ⟨L.length - 1, by omega⟩
      rw [hk]; rfl
    rw [this]
    exact fun q => (Int.mul_eq_zero.1 q).elim hz hD
  have h2 : ∀ j, L.length + 1 ≤ j → coef (lin L N D) j = 0 := fun j hj => by
    obtain ⟨k, rfl⟩ : ∃ k, j = k + 1 := ⟨j - 1, by omega⟩
    rw [hc]
    show coef L k * D - coef L (k + 1) * N = 0
    rw [coef_ge (L := L) (i := k) (by omega), coef_ge (L := L) (i := k + 1) (by omega)]; simp
  have hle : (lin L N D).length ≤ L.length + 2 := by have := pol_len (L.length + [-N, D].length) fun n => csum L.length (cterm L [-N, D] n); simpa [lin, pmul] using this
  have hge : L.length < (lin L N D).length := by
    rcases Nat.lt_or_ge L.length (lin L N D).length with q | q
    · exact q
    · exact absurd (coef_ge q) h1
  have htl : tz (lin L N D) = lin L N D := tz_pol _ _
  rcases Nat.lt_or_ge (L.length + 1) (lin L N D).length with q | q
  · exfalso
    have := tz_last (L := lin L N D) (by rw [htl]; intro z; rw [z] at q; simp at q)
    rw [htl] at this
    exact this (h2 _ (by omega))
  · omega
theorem abv_lin {L : List Int} {N D : Int} (hl : (lin L N D).length = L.length + 1) (hD : D ≠ 0) : ∀ k, k ≤ L.length → abv (lin L N D) N D k = coef L (L.length - k)
  | 0, _ => by rw [coef_ge (by omega)]; rfl
  | k + 1, h => by
    rw [abv, abv_lin hl hD k (by omega), hl, coef_lin_mul]
    obtain ⟨m, hm⟩ : ∃ m, L.length - k = m + 1 := ⟨L.length - k - 1, by omega⟩
    rw [show L.length + 1 - 1 - k = m + 1 by omega, hm, show L.length - (k + 1) = m by omega]
    show Int.tdiv (coef L m * D - coef L (m + 1) * N + coef L (m + 1) * N) D = coef L m
    rw [Int.sub_add_cancel, Int.mul_tdiv_cancel _ hD]
theorem parts_lin {L : List Int} {N D : Int} (ht : tz L = L) (hL : L ≠ []) (hD : D ≠ 0) : parts (lin L N D) N D = L := by
  have hl := lin_len (N := N) ht hL hD
  unfold parts
  rw [hl]
  have : pol (L.length + 1 - 1) (fun j => abv (lin L N D) N D (L.length + 1 - 1 - j)) = tz L := tz_ext fun j => by
    rw [coef_range]
    by_cases c : j < L.length + 1 - 1
    · rw [if_pos c, abv_lin hl hD _ (by omega), show L.length - (L.length + 1 - 1 - j) = j by omega]
    · rw [if_neg c, coef_ge (by omega)]
  rw [this, ht]
theorem sm_lin {L : List Int} {N D : Int} (hl : (lin L N D).length = L.length + 1) : ∀ k, k ≤ L.length → sm (lin L N D) N D k = D ^ k * coef L (L.length - k)
  | 0, _ => by rw [coef_ge (by omega)]; simp [sm]
  | k + 1, h => by
    rw [sm, sm_lin hl k (by omega), hl, coef_lin_mul]
    obtain ⟨m, hm⟩ : ∃ m, L.length - k = m + 1 := ⟨L.length - k - 1, by omega⟩
    rw [show L.length + 1 - 1 - k = m + 1 by omega, hm, show L.length - (k + 1) = m by omega, Int.pow_succ]
    show D ^ k * coef L (m + 1) * N + (coef L m * D - coef L (m + 1) * N) * D ^ k = D ^ k * D * coef L m
    generalize D ^ k = P
    grind
theorem sm_lin_end {L : List Int} {N D : Int} (ht : tz L = L) (hL : L ≠ []) (hD : D ≠ 0) : sm (lin L N D) N D (lin L N D).length = 0 := by
  have hl := lin_len (N := N) ht hL hD
  have h := sm_lin hl L.length (Nat.le_refl _)
  rw [hl, sm, h, hl, coef_lin_mul, Nat.sub_self, show L.length + 1 - 1 - L.length = 0 by omega]
  show D ^ L.length * coef L 0 * N + (0 * D - coef L 0 * N) * D ^ L.length = 0
  generalize D ^ L.length = P
  grind
theorem wo_shift (N D : Int) : ∀ (f : Nat) (L : List Int) (n : Nat), wo N D f L (n + 1) = ((wo N D f L n).1, (wo N D f L n).2 + 1)
  | 0, L, n => rfl
  | f + 1, L, n => by
    rw [wo, wo]
    split
    · rw [wo_shift N D f _ (n + 1)]
    · rfl
theorem roots_f {l : List Int} {x : S24} (hw : ∀ x ∈ l, i64 x) (ll : l.length ≤ 8) (h0 : i64 x.f0) (h1 : i64 x.f1) (hm : maY x = true) (hn : x.f0 ≠ -9223372036854775808) : L5_0 l x = some true := by
  have h0' := h0; have h1' := h1
  unfold i64 at h0' h1'
  have hd := may_d hm
  have hz : Szs 2 l := fun y hy => i64.sz (hw y hy)
  have tL := hz.tz
  have nL := tz_len l
  have d1 := degree_r (P := (tz l).map bg) ((tL.rps).le (by omega)) (by simp; omega)
  rw [pv_bg, tz_tz] at d1
  rw [L5_0_eq, bnd (pof_f hw (by omega)), bnd d1]
  by_cases c : tz l = []
  · rw [c, cT (by simp), bnd (rpof_f hw (by omega)), c]
    rfl
  · have n0 : (tz l).length ≠ 0 := fun q => c (List.eq_nil_of_length_eq_zero q)
    have hNi : i64 (-x.f0) := by unfold i64; omega
    have e1 : wr .i64 (0 - x.f0) = -x.f0 := (w64 (by omega) (by omega)).trans (by omega)
    have hlin : F20 [-x.f0, x.f1] = some ([-x.f0, x.f1].map bg) := by
      have := pof_f (l := [-x.f0, x.f1]) (by intro y hy; simp at hy; rcases hy with rfl | rfl; exact hNi; exact h1) (by simp)
      rw [show tz [-x.f0, x.f1] = [-x.f0, x.f1] by simp [tz, hd]] at this
      exact this
    have hz2 : Szs 2 [-x.f0, x.f1] := by intro y hy; simp at hy; rcases hy with rfl | rfl; exact i64.sz hNi; exact i64.sz h1
    have hmul := pmul_r (P := (tz l).map bg) (Q := [-x.f0, x.f1].map bg) (tL.rps.le (by omega)) (hz2.rps.le (by omega)) (by simp; omega) (by simp)
    rw [pv_bg, pv_bg] at hmul
    have hM : Szs 10 (lin (tz l) x.f0 x.f1) := pol_szs fun i _ => (csum_sz (e := 4) (fun j _ => (sz_mul (tL.rd j) (hz2.cof _)).le (by omega)) (by omega)).le (by omega)
    have hlen := lin_len (N := x.f0) (tz_tz l) c hd
    have tM : tz (lin (tz l) x.f0 x.f1) = lin (tz l) x.f0 x.f1 := tz_pol _ _
    have v1 := value_f (P := (lin (tz l) x.f0 x.f1).map bg) (x := x) (hM.rps.le (by omega)) (by simp; omega) h0 h1
    rw [pv_bg, tM, sm_lin_end (tz_tz l) c hd] at v1
    have f10 : F10 ((lin (tz l) x.f0 x.f1).map bg) x = some (bg 0, 0) := by rw [F10_eq, bnd (bmay_f h0 h1), hm, bnd v1]; rfl
    obtain ⟨r1, r2, r3, r4, r5⟩ := wo_f h0 h1 hd 21 (lin (tz l) x.f0 x.f1) 0 10 (by omega) (by omega) (by omega) tM hM (by omega)
    obtain ⟨s1, s2, s3, s4, s5⟩ := wo_f h0 h1 hd 20 (tz l) 0 2 (by omega) (by omega) (by omega) (tz_tz l) tL (by omega)
    have ew : wo x.f0 x.f1 21 (lin (tz l) x.f0 x.f1) 0 = ((wo x.f0 x.f1 20 (tz l) 0).1, (wo x.f0 x.f1 20 (tz l) 0).2 + 1) := by
      rw [wo, if_pos ⟨by omega, sm_lin_end (tz_tz l) c hd⟩, parts_lin (tz_tz l) c hd, wo_shift]
    have f24 := padd_r (P := (lin (tz l) x.f0 x.f1).map bg) (hM.rps.le (by omega)) (Q := []) (fun a ha => by cases ha) (by simp; omega) (by simp)
    rw [show pv ([] : List S31) = [] from rfl, padd_nil, pv_bg, tM] at f24
    have b0 : (((lin (tz l) x.f0 x.f1).length : Int) == 0) = false := by rw [hlen]; simp; omega
    have f11 : F11 ((lin (tz l) x.f0 x.f1).map bg) x = some ((wo x.f0 x.f1 20 (tz l) 0).1.map bg, (((wo x.f0 x.f1 20 (tz l) 0).2 + 1 : Nat) : Int), 0) := by
      rw [F11_eq, bnd f24, bnd (bmay_f h0 h1), hm, List.length_map, b0, Bool.not_true, cond_false, cond_false]
      rw [ew] at r1
      exact r1
    have f16 : F16 ((tz l).map rb) x = some ((wo x.f0 x.f1 20 (tz l) 0).1.map rb, ((wo x.f0 x.f1 20 (tz l) 0).2 : Int)) := by rw [F16_eq]; exact s2
    rw [cF (by omega), e1, bnd hlin, bnd hmul]
    rw [show pmul (tz l) [-x.f0, x.f1] = lin (tz l) x.f0 x.f1 from rfl, bnd f10, bnd f11, bnd (rpof_f hw (by omega)), bnd f16, bg_zero]
    simp only
    rw [show ((0 : Int) == 0) = true from rfl, cond_true, show ((([] : List Int).length : Int) == 0) = true from rfl, cond_true, cond_true, show wr .i64 (((wo x.f0 x.f1 20 (tz l) 0).2 : Int) + 1) = (((wo x.f0 x.f1 20 (tz l) 0).2 + 1 : Nat) : Int) from (w64 (by omega) (by omega)).trans (by omega), beq_self_eq_true, cond_true, bnd (psame_f (s3.le (by omega)) (by omega))]
theorem Pure.PolyRoots (x0 : List Int) (x1 : S24) : (x0.length * 8 ≤ 140737488351232 ∧ x0.length ≤ 9223372036854775807 ∧ ∀ x ∈ x0, (Lit.int .i64 x).wf = true) → wf24 x1 → F5 x0 x1 = some true := by
  rintro ⟨_, _, w0⟩ ⟨w1, w2⟩
  have h0 : i64 x1.f0 := i64_of w1
  have h1 : i64 x1.f1 := i64_of w2
  have f12 : F12 x1 = some (maY x1) := by rw [F12_eq, bnd (rmay_f h0 h1)]
  rw [F5_eq, bnd F7_true, Bool.not_true, cond_false]
  by_cases c : (x0.length : Int) > 8
  · rw [cT c]
  · rw [cF c, bnd f12]
    cases hm : maY x1
    · rfl
    · rw [Bool.not_true, cond_false]
      by_cases d : x1.f0 = -9223372036854775808
      · rw [show (x1.f0 == (-9223372036854775808)) = true by simpa using d, cond_true]
      · rw [show (x1.f0 == (-9223372036854775808)) = false by simpa using d, cond_false]
        exact roots_f (fun x hx => i64_of (w0 x hx)) (by omega) h0 h1 hm d
end Go.Proofs.YtidiifdiilahdaaDoor.Ev
