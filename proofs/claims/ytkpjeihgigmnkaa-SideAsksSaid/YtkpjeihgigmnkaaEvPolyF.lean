/- A polynomial's value at a ratio, and what it is without a root: both sides go the same way. -/
import Derived.Test.YtkpjeihgigmnkaaEvPolyE
namespace Go.Proofs.Ytkpjeihgigmnkaa.EvP
open Go Go.Proofs.Ytkpjeihgigmnkaa.Ev Go.Proofs.Ytkpjeihgigmnkaa.NumB
open Go.Proofs.Ytkpjeihgigmnkaa.EvN (i64)
set_option linter.unusedVariables false
set_option linter.unusedSimpArgs false
theorem i64.sz {x : Int} (h : i64 x) : Sz 2 x := sz_i64 h.1 h.2
theorem sz_pow {d : Int} (h : i64 d) : ∀ k : Nat, Sz (2 * k + 1) (d ^ k)
  | 0 => sz_i64 (x := 1) (by omega) (by omega) |> fun q => .of (by simp)
  | k + 1 => by rw [Int.pow_succ]; exact (sz_mul (sz_pow h k) (i64.sz h)).le (by omega)
/-- The value: what is summed up after k coefficients from the highest. -/
def sm (L : List Int) (N D : Int) : Nat → Int
  | 0 => 0
  | k + 1 => sm L N D k * N + coef L (L.length - 1 - k) * D ^ k
theorem sm_sz {L : List Int} {N D : Int} {e : Nat} (hL : Szs e L) (hN : i64 N) (hD : i64 D) : ∀ k : Nat, Sz (e + 3 * k + 1) (sm L N D k)
  | 0 => sz_zero _
  | k + 1 => by
    have h1 := sz_mul (sm_sz hL hN hD k) (i64.sz hN)
    have h2 := sz_mul (hL.rd (L.length - 1 - k)) (sz_pow hD k)
    exact (sz_add h1 h2).le (by omega)
theorem rvalue_f {L : List Int} {x : S59} {e : Nat} (hL : Szs e L) (he : e ≤ 15000) (lL : L.length ≤ 1000) (h0 : i64 x.f0) (h1 : i64 x.f1) : F45 (L.map rb) x = some (rb (sm L x.f0 x.f1 L.length)) := by
  have h0' := h0; have h1' := h1
  unfold i64 at h0' h1'
  have h := loop_st (fun (s : Int × Int) i => L45_0 (L.map rb) x ⟨false, []⟩ (rb s.1) (rb s.2) ((L.length : Int) - 1 - i)) (fun k => (sm L x.f0 x.f1 k, x.f1 ^ k)) L.length fun k hk => by
    show L45_0 _ _ _ (rb (sm _ _ _ k)) (rb (x.f1 ^ k)) _ = L45_0 _ _ _ (rb (sm _ _ _ (k + 1))) (rb (x.f1 ^ (k + 1))) _
    have s1 := sm_sz hL h0 h1 k
    have s2 := sz_pow h1 k
    have i0 : (L.length : Int) - 1 - (k : Int) = ((L.length - 1 - k : Nat) : Int) := by omega
    have z6 : Sz 20000 (sm L x.f0 x.f1 k * x.f0) := (sz_mul s1 (i64.sz h0)).le (by omega)
    have z5' : Sz 20000 (coef L (L.length - 1 - k) * x.f1 ^ k) := (sz_mul (hL.rd _) s2).le (by omega)
    rw [i0, L45_0_eq, cT (by omega), bnd (EvR.rof_f (by omega) (by omega)), bnd (rmul_s (s1.le (by omega)) ((i64.sz h0).le (by omega))), grd_p (by omega), grd_p (by rw [List.length_map]; omega), Int.toNat_natCast, map_rd rb z5 rb_zero, bnd (rmul_s ((hL.rd _).le (by omega)) (s2.le (by omega))), bnd (radd_s (z6.le (by omega)) (z5'.le (by omega))), bnd (EvR.rof_f (by omega) (by omega)), bnd (rmul_s (s2.le (by omega)) ((i64.sz h1).le (by omega)))]
    rw [show wr .i64 (((L.length - 1 - k : Nat) : Int) - 1) = (L.length : Int) - 1 - ((k + 1 : Nat) : Int) from (w64 (by omega) (by omega)).trans (by omega), ← Int.pow_succ]
    rfl
  rw [F45_eq, bnd (EvR.rof_f (by omega) (by omega)), List.length_map, show wr .i64 ((L.length : Int) - 1) = (L.length : Int) - 1 - 0 from (w64 (by omega) (by omega)).trans (by omega)]
  have e0 : L45_0 (L.map rb) x ⟨false, []⟩ ⟨false, []⟩ (rb 1) ((L.length : Int) - 1 - 0) = L45_0 (L.map rb) x ⟨false, []⟩ (rb (sm L x.f0 x.f1 0)) (rb (x.f1 ^ 0)) ((L.length : Int) - 1 - 0) := by
    rw [Int.pow_zero]; show _ = L45_0 _ _ _ (rb 0) _ _; rw [rb_zero]
  refine e0.trans (h.trans ?_)
  show L45_0 _ _ _ _ _ _ = _
  rw [L45_0_eq, cF (by omega)]
/-! without a root -/
def abv (L : List Int) (N D : Int) : Nat → Int
  | 0 => 0
  | k + 1 => Int.tdiv (coef L (L.length - 1 - k) + abv L N D k * N) D
def parts (L : List Int) (N D : Int) : List Int := pol (L.length - 1) fun j => abv L N D (L.length - 1 - j)
theorem sz_tdiv {e : Nat} {a : Int} (h : Sz e a) (d : Int) : Sz e (Int.tdiv a d) := sz_le h (by rw [Int.natAbs_tdiv]; exact Nat.div_le_self _ _)
theorem abv_sz {L : List Int} {N D : Int} {e : Nat} (hL : Szs e L) (hN : i64 N) : ∀ k : Nat, Sz (e + 3 * k + 1) (abv L N D k)
  | 0 => sz_zero _
  | k + 1 => sz_tdiv ((sz_add (hL.rd _) (sz_mul (abv_sz hL hN k) (i64.sz hN))).le (by omega)) D
theorem rparted_f {L : List Int} {x : S59} {e : Nat} {n : Int} (hL : Szs e L) (he : e ≤ 10000) (lL : L.length ≤ 1000) (l1 : 1 ≤ L.length) (h0 : i64 x.f0) (h1 : i64 x.f1) (hd : x.f1 ≠ 0) : L64_1 (L.map rb) x n = L64_0 ((parts L x.f0 x.f1).map rb) x (wr .i64 (n + 1)) := by
  have h0' := h0; have h1' := h1
  unfold i64 at h0' h1'
  let st := fun (k : Nat) => (List.range (L.length - 1)).map fun j => if L.length - 1 - j ≤ k then rb (abv L x.f0 x.f1 (L.length - 1 - j)) else (⟨false, []⟩ : S73)
  have h := loop_st (fun (s : List S73 × Int) i => L64_2 (L.map rb) x n s.1 (rb s.2) ((L.length : Int) - 1 - i)) (fun k => (st k, abv L x.f0 x.f1 k)) (L.length - 1) fun k hk => by
    show L64_2 _ _ _ (st k) (rb (abv _ _ _ k)) _ = L64_2 _ _ _ (st (k + 1)) (rb (abv _ _ _ (k + 1))) _
    have s1 := abv_sz (D := x.f1) hL h0 k
    have i0 : (L.length : Int) - 1 - (k : Int) = ((L.length - 1 - k : Nat) : Int) := by omega
    have d0 : wr .i64 (((L.length - 1 - k : Nat) : Int) - 1) = ((L.length - 1 - k - 1 : Nat) : Int) := (w64 (by omega) (by omega)).trans (by omega)
    have ls : (st k).length = L.length - 1 := by simp [st]
    have z6 : Sz 15000 (abv L x.f0 x.f1 k * x.f0) := (sz_mul s1 (i64.sz h0)).le (by omega)
    have z5' : Sz 15000 (coef L (L.length - 1 - k)) := (hL.rd _).le (by omega)
    obtain ⟨y, hy⟩ := rdiv_s ((sz_add z5' z6).le (n := 20000) (by omega)) (by omega) h1 hd
    rw [i0, L64_2_eq, cT (by omega), grd_p (by omega), grd_p (by rw [List.length_map]; omega), bnd (EvR.rof_f (by omega) (by omega)), bnd (rmul_s (s1.le (by omega)) ((i64.sz h0).le (by omega))), Int.toNat_natCast, map_rd rb z5 rb_zero, bnd (radd_s (z5'.le (by omega)) (z6.le (by omega))), bnd hy, d0, grd_p (by omega), grd_p (by omega), Int.toNat_natCast]
    rw [show ((L.length - 1 - k - 1 : Nat) : Int) = (L.length : Int) - 1 - ((k + 1 : Nat) : Int) by omega]
    congr 1
    show ((List.range _).map _).set _ _ = _
    rw [set_range]
    refine List.map_congr_left fun j hj => ?_
    have hj' := List.mem_range.1 hj
    by_cases c : j = L.length - 1 - k - 1
    · rw [if_pos c, if_pos (by omega), show L.length - 1 - j = k + 1 by omega]; rfl
    · rw [if_neg c]
      by_cases c2 : L.length - 1 - j ≤ k
      · rw [if_pos c2, if_pos (by omega)]
      · rw [if_neg c2, if_neg (by omega)]
  have n0 : wr .i64 (((L.map rb).length : Int) - 1) = ((L.length - 1 : Nat) : Int) := by rw [List.length_map]; exact (w64 (by omega) (by omega)).trans (by omega)
  have e1 : List.replicate (L.length - 1) (S73.mk false []) = st 0 := by
    refine List.ext_getElem (by simp [st]) fun i h1 h2 => ?_
    have hi : i < L.length - 1 := by simpa using h1
    simp only [st, List.getElem_replicate, List.getElem_map, List.getElem_range]
    rw [if_neg (by omega)]
  rw [L64_1_eq, n0, grd_p (by omega), grd_p (by omega), Int.toNat_natCast, fitM_of (by omega), grd_t, e1, ← rb_zero, show ((L.length - 1 : Nat) : Int) = (L.length : Int) - 1 - 0 by omega]
  refine h.trans ?_
  show L64_2 _ _ _ (st _) _ _ = _
  have e2 : st (L.length - 1) = ((List.range (L.length - 1)).map fun j => abv L x.f0 x.f1 (L.length - 1 - j)).map rb := by
    rw [← map_rb]
    exact List.map_congr_left fun j hj => by rw [if_pos (by omega)]
  rw [L64_2_eq, cF (by omega), e2, bnd (rptrim_s (by simp; omega))]
  rfl
/-- Root by root. -/
def wo (N D : Int) : Nat → List Int → Nat → List Int × Nat
  | 0, L, n => (L, n)
  | f + 1, L, n => if 1 < L.length ∧ sm L N D L.length = 0 then wo N D f (parts L N D) (n + 1) else (L, n)
theorem parts_len (L : List Int) (N D : Int) : (parts L N D).length ≤ L.length - 1 := pol_len _ _
theorem parts_tz (L : List Int) (N D : Int) : tz (parts L N D) = parts L N D := tz_pol _ _
theorem parts_szs {L : List Int} {N D : Int} {e : Nat} (hL : Szs e L) (hN : i64 N) : Szs (e + 3 * L.length + 1) (parts L N D) := pol_szs fun j _ => (abv_sz hL hN _).le (by omega)
end Go.Proofs.Ytkpjeihgigmnkaa.EvP
