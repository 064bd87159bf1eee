/- The reference's polynomials (its side alone): without a root, rests, chains, changes of sign. Seat r9's numbers. -/
import Derived.Test.YtkpjeihgigmnkaaEvPolyF
namespace Go.Proofs.Ytkpjeihgigmnkaa.EvP
open Go Go.Proofs.Ytkpjeihgigmnkaa.Ev Go.Proofs.Ytkpjeihgigmnkaa.NumB
open Go.Proofs.Ytkpjeihgigmnkaa.EvN (i64)
set_option linter.unusedVariables false
set_option linter.unusedSimpArgs false
def neg (L : List Int) : List Int := L.map fun x => -x
theorem neg_len (L : List Int) : (neg L).length = L.length := List.length_map _
theorem coef_neg (L : List Int) (i : Nat) : coef (neg L) i = -coef L i := by
  unfold coef neg
  by_cases h : i < L.length
  · simp [List.getD, h]
  · simp [List.getD, List.getElem?_eq_none (show L.length ≤ i by omega)]
theorem neg_szs {e : Nat} {L : List Int} (h : Szs e L) : Szs e (neg L) := fun x hx => by
  obtain ⟨y, hy, rfl⟩ := List.mem_map.mp hx
  exact sz_neg (h y hy)
theorem tz_neg : ∀ L : List Int, tz (neg L) = neg (tz L)
  | [] => rfl
  | x :: L => by
    have ih := tz_neg L
    show tz (-x :: neg L) = neg (tz (x :: L))
    unfold tz
    rw [ih]
    cases tz L with
    | nil =>
      simp only [neg, List.map_nil]
      by_cases h : x = 0
      · subst h; rfl
      · have h2 : -x ≠ 0 := by omega
        simp [h, h2]
    | cons a l => simp [neg]
theorem rof {n : Int} (h : i64 n) : F40 n = some (rb n) := by
  unfold EvN.i64 at h; exact EvR.rof_f h.1 h.2
theorem rsign_at {L : List Int} {x : S59} {e : Nat} (hL : Szs e L) (he : e ≤ 15000) (lL : L.length ≤ 1000) (h0 : i64 x.f0) (h1 : i64 x.f1) : F30 (L.map rb) x = some (sgn (sm L x.f0 x.f1 L.length)) := by
  rw [F30_eq, bnd (rvalue_f hL he lL h0 h1), bnd (rsign_f _)]
theorem rwo_f {x : S59} (h0 : i64 x.f0) (h1 : i64 x.f1) (hd : x.f1 ≠ 0) : ∀ (f : Nat) (L : List Int) (n e : Nat), L.length < f → f ≤ 40 → n + f ≤ 100 → tz L = L → Szs e L → e + 200 * f ≤ 10000 →
    L64_0 (L.map rb) x (n : Int) = some ((wo x.f0 x.f1 f L n).1.map rb, ((wo x.f0 x.f1 f L n).2 : Int)) ∧ Szs (e + 200 * f) (wo x.f0 x.f1 f L n).1 ∧ (wo x.f0 x.f1 f L n).1.length ≤ L.length ∧ tz (wo x.f0 x.f1 f L n).1 = (wo x.f0 x.f1 f L n).1
  | 0, L, n, e, h, _, _, _, _, _ => by omega
  | f + 1, L, n, e, h, hf, hn, ht, hL, he => by
    have v2 := rvalue_f (x := x) hL (by omega) (by omega) h0 h1
    have n1 : wr .i64 ((n : Int) + 1) = ((n + 1 : Nat) : Int) := (w64 (by omega) (by omega)).trans (by omega)
    rw [L64_0_eq, List.length_map, wo]
    by_cases c : 1 < L.length
    · rw [cT (by omega), bnd v2, bnd (rsign_f _), sgn_zero]
      by_cases k : sm L x.f0 x.f1 L.length = 0
      · have b1 : (sm L x.f0 x.f1 L.length == 0) = true := by simpa using k
        have p1 := parts_len L x.f0 x.f1
        obtain ⟨r2, r3, r4, r5⟩ := rwo_f h0 h1 hd f (parts L x.f0 x.f1) (n + 1) (e + 3 * L.length + 1) (by omega) (by omega) (by omega) (parts_tz _ _ _) (parts_szs hL h0) (by omega)
        rw [b1, cond_true, if_pos ⟨c, k⟩, rparted_f hL (by omega) (by omega) (by omega) h0 h1 hd, n1]
        exact ⟨r2, r3.le (by omega), by omega, r5⟩
      · have b1 : (sm L x.f0 x.f1 L.length == 0) = false := by simpa using k
        rw [b1, cond_false, if_neg fun q => k q.2]
        exact ⟨rfl, hL.le (by omega), Nat.le_refl _, ht⟩
    · rw [cF (by omega), if_neg fun q => c q.1]
      exact ⟨rfl, hL.le (by omega), Nat.le_refl _, ht⟩
theorem i64_0 : i64 0 := by unfold EvN.i64; omega
theorem i64_1 : i64 1 := by unfold EvN.i64; omega
theorem i64_2 : i64 2 := by unfold EvN.i64; omega
/-- Without roots at 0 and 1, with the sign between them. -/
def inn (L : List Int) : List Int := if (wo 1 1 10 (wo 0 1 10 L 0).1 0).2 % 2 = 1 then neg (wo 1 1 10 (wo 0 1 10 L 0).1 0).1 else (wo 1 1 10 (wo 0 1 10 L 0).1 0).1
theorem inn_f {L : List Int} {e : Nat} (hL : Szs e L) (he : e ≤ 5000) (l4 : L.length ≤ 4) (ht : tz L = L) : F52 (L.map rb) = some ((inn L).map rb) ∧ Szs (e + 4000) (inn L) ∧ (inn L).length ≤ L.length ∧ tz (inn L) = inn L := by
  obtain ⟨a1, a2, a3, a4⟩ := rwo_f (x := S59.mk 0 1) i64_0 i64_1 (by decide) 10 L 0 e (by omega) (by omega) (by omega) ht hL (by omega)
  simp only at a1 a2 a3 a4
  obtain ⟨b1, b2, b3, b4⟩ := rwo_f (x := S59.mk 1 1) i64_1 i64_1 (by decide) 10 (wo 0 1 10 L 0).1 0 (e + 200 * 10) (by omega) (by omega) (by omega) a4 a2 (by omega)
  simp only at b1 b2 b3 b4
  rw [F52_eq, F53_eq, F54_eq]
  simp only [Option.bind_some]
  rw [F64_eq, show L64_0 (L.map rb) (S59.mk 0 1) 0 = _ from a1]
  simp only [Option.bind_some]
  rw [F64_eq, show L64_0 ((wo 0 1 10 L 0).1.map rb) (S59.mk 1 1) 0 = _ from b1]
  simp only [Option.bind_some]
  unfold inn
  rw [Int.tmod_eq_emod_of_nonneg (by omega)]
  by_cases h : (wo 1 1 10 (wo 0 1 10 L 0).1 0).2 % 2 = 1
  · rw [if_pos h, ceT (by omega), bnd (rpneg_s (b2.le (by omega)) (by omega))]
    exact ⟨rfl, (neg_szs b2).le (by omega), by rw [neg_len]; omega, by rw [tz_neg, b4]⟩
  · rw [if_neg h, ceF (by omega)]
    exact ⟨rfl, b2.le (by omega), by omega, b4⟩
theorem rrest_s {L M : List Int} {e f B : Nat} (hL : Szs e L) (hM : Szs f M) (nM : M ≠ []) (lL : L.length < 100) (lM : M.length ≤ 100) (hB : B + f ≤ 25000) (hr : e + (L.length + 1 - M.length) * (f + 1) ≤ B) :
    F63 (L.map rb) (M.map rb) = some ((rests 100 L M).map rb) := by
  have n0 : M.length ≠ 0 := fun q => nM (List.eq_nil_of_length_eq_zero q)
  have d0 : wr .i64 ((M.length : Int) - 1) = ((M.length - 1 : Nat) : Int) := (w64 (by omega) (by omega)).trans (by omega)
  have s1 := rrest_l hM nM hB 100 L e lL (by omega) hL hr
  rw [F63_eq, List.length_map, d0, grd_p (by omega), grd_p (by omega), Int.toNat_natCast, map_rd rb z5 rb_zero]
  exact s1
def chain : Nat → List Int → List Int → List (List Int)
  | 0, _, _ => []
  | n + 1, L, M => if M = [] then [] else M :: chain n M (neg (rests 100 L M))
/-- How many digits an element may have, by how long the one before is. -/
def W (a : Nat) : Nat := 6 * 3 ^ (8 - a)
theorem three (d : Nat) (h : 1 ≤ d) : d + 2 ≤ 3 ^ d := by
  induction d with
  | zero => omega
  | succ d ih =>
    rcases Nat.eq_zero_or_pos d with q | q
    · subst q; decide
    · have := ih q
      rw [Nat.pow_succ]; omega
theorem W_step {a b : Nat} (ha : a ≤ 8) (h : b < a) : (a - b + 2) * W a ≤ W b := by
  have h3 := three (a - b) (by omega)
  have : W b = 3 ^ (a - b) * W a := by
    unfold W
    rw [show 8 - b = (8 - a) + (a - b) by omega, Nat.pow_add]
    ac_rfl
  rw [this]
  exact Nat.mul_le_mul_right _ h3
theorem W_le {a b : Nat} (h : b ≤ a) : W a ≤ W b := Nat.mul_le_mul_left 6 (Nat.pow_le_pow_right (by omega) (by omega))
theorem W1 : W 1 = 13122 := by decide
theorem W2 : W 2 = 4374 := by decide
theorem W_pos (a : Nat) : 0 < W a := by unfold W; have := Nat.pow_pos (n := 8 - a) (show 0 < 3 by omega); omega
theorem rests_tz : ∀ (n : Nat) (L M : List Int), tz L = L → tz (rests n L M) = rests n L M
  | 0, L, M, h => h
  | n + 1, L, M, h => by
    rw [rests]
    split
    · exact rests_tz n _ M (tz_pol _ _)
    · exact h
theorem rchain_f : ∀ (n : Nat) (L M : List Int) (os : List (List Int)), M.length < n → os.length + n ≤ 1000 → L.length ≤ 8 → M.length < L.length → tz L = L → tz M = M → Szs (W L.length - 1) L → Szs (W L.length - 1) M → ∀ (hR : ∀ (L M : List Int) (e f B : Nat), Szs e L → Szs f M → M ≠ [] → L.length < 100 → M.length ≤ 100 → B + f ≤ 25000 → e + (L.length + 1 - M.length) * (f + 1) ≤ B → (rests 100 L M).length < M.length ∧ Szs B (rests 100 L M)),
    L46_0 (L.map rb) (os.map fun x => x.map rb) (M.map rb) = some ((os ++ chain n L M).map fun x => x.map rb) ∧ (∀ x ∈ chain n L M, Szs 15000 x ∧ x.length ≤ 8 ∧ tz x = x) ∧ (chain n L M).length ≤ n
  | 0, L, M, os, h, _, _, _, _, _, _, _, _ => by omega
  | n + 1, L, M, os, h, hn, l8, hlt, tL, tM, zL, zM, hR => by
    rw [L46_0_eq, chain]
    simp only [List.length_map]
    by_cases c : M = []
    · rw [c, if_pos rfl, cF (by simp), List.append_nil]
      exact ⟨rfl, fun x hx => (by cases hx), Nat.zero_le _⟩
    · have m0 : M.length ≠ 0 := fun q => c (List.eq_nil_of_length_eq_zero q)
      have wl : W L.length ≤ 4374 := by rw [← W2]; exact W_le (by omega)
      have wm : W M.length ≤ 13122 := by rw [← W1]; exact W_le (by omega)
      have wp := W_pos L.length
      have ws := W_step l8 hlt
      have hroom : (W L.length - 1) + (L.length + 1 - M.length) * (W L.length - 1 + 1) ≤ W M.length - 1 := by
        have e : L.length - M.length + 2 = (L.length + 1 - M.length) + 1 := by omega
        rw [e, Nat.add_mul, Nat.one_mul] at ws
        rw [show W L.length - 1 + 1 = W L.length by omega]
        omega
      have p2 := rrest_s zL zM c (by omega) (by omega) (B := W M.length - 1) (by omega) hroom
      obtain ⟨p3, p4⟩ := hR L M _ _ (W M.length - 1) zL zM c (by omega) (by omega) (by omega) hroom
      have tR := rests_tz 100 L M tL
      have hrneg := rpneg_s (L := rests 100 L M) (p4.le (by omega)) (by omega)
      have tN : tz (neg (rests 100 L M)) = neg (rests 100 L M) := by rw [tz_neg, tR]
      have zM' : Szs (W M.length - 1) M := zM.le (by have := W_le (a := L.length) (b := M.length) (by omega); omega)
      obtain ⟨r2, r3, r4⟩ := rchain_f n M (neg (rests 100 L M)) (os ++ [M]) (by rw [neg_len]; omega) (by simp; omega) (by omega) (by rw [neg_len]; exact p3) tM tN zM' (neg_szs p4) hR
      have f2 : fit (os.length + [M.map rb].length) 24 = true := fit_of (by simp only [List.length_singleton]; omega)
      have e2 : (os ++ [M]).map (fun x => x.map rb) = (os.map fun x => x.map rb) ++ [M.map rb] := by rw [List.map_append]; rfl
      have e3 : os ++ [M] ++ chain n M (neg (rests 100 L M)) = os ++ M :: chain n M (neg (rests 100 L M)) := by rw [List.append_assoc]; rfl
      rw [e2, e3] at r2
      rw [if_neg c, cT (by omega), f2, grd_t, bnd p2, bnd hrneg]
      refine ⟨r2, fun x hx => ?_, by rw [List.length_cons]; omega⟩
      rcases List.mem_cons.1 hx with q | q
      · subst q; exact ⟨zM.le (by omega), by omega, tM⟩
      · exact r3 x q
theorem rests_rm {M : List Int} {f : Nat} (hM : Szs f M) (hm : M ≠ []) {B : Nat} : ∀ (n : Nat) (L : List Int) (e : Nat), L.length < n → Szs e L → e + (L.length + 1 - M.length) * (f + 1) ≤ B → (rests n L M).length < M.length ∧ Szs B (rests n L M)
  | 0, L, e, h, _, _ => by omega
  | n + 1, L, e, h, hL, he => by
    rw [rests]
    by_cases c : M.length ≤ L.length
    · have hq0 : M.length ≠ 0 := fun q => hm (List.eq_nil_of_length_eq_zero q)
      have hne : L ≠ [] := fun q => by rw [q] at c; simp at c; exact hm c
      have hst := rstep_top L M hm c hne
      rw [if_pos c]
      exact rests_rm hM hm n (rstep L M) (e + (f + 1)) (by omega) ((rstep_szs hL hM).le (by omega)) (less_room hst c he)
    · rw [if_neg c]
      exact ⟨by omega, hL.le (by omega)⟩
def chg (s : Int × Int) (v : Int) : Int × Int := if v = 0 then s else if s.2 ≠ 0 ∧ v ≠ s.2 then (s.1 + 1, v) else (s.1, v)
def chgs (C : List (List Int)) (N D : Int) : Nat → Int × Int
  | 0 => (0, 0)
  | k + 1 => chg (chgs C N D k) (sgn (sm (C.getD k []) N D (C.getD k []).length))
theorem sgn_3 (x : Int) : sgn x = 0 ∨ sgn x = 1 ∨ sgn x = -1 := by
  unfold sgn; split <;> (try split) <;> simp
theorem chgs_3 (C : List (List Int)) (N D : Int) : ∀ k : Nat, ((chgs C N D k).2 = 0 ∨ (chgs C N D k).2 = 1 ∨ (chgs C N D k).2 = -1) ∧ 0 ≤ (chgs C N D k).1 ∧ (chgs C N D k).1 ≤ k
  | 0 => by simp [chgs]
  | k + 1 => by
    obtain ⟨h1, h2, h3⟩ := chgs_3 C N D k
    have hs := sgn_3 (sm (C.getD k []) N D (C.getD k []).length)
    rw [chgs]; unfold chg
    split
    · exact ⟨h1, h2, by omega⟩
    · split
      · exact ⟨hs, by simp only; omega, by simp only; omega⟩
      · exact ⟨hs, by simp only; omega, by simp only; omega⟩
theorem getD_map {α β : Type} (f : List α → List β) (hf : f [] = []) (C : List (List α)) (i : Nat) : (C.map f).getD i [] = f (C.getD i []) := by
  by_cases h : i < C.length
  · simp [List.getD, h]
  · simp [List.getD, List.getElem?_eq_none (show C.length ≤ i by omega), hf]
theorem rchanges_f {C : List (List Int)} {x : S59} (hC : ∀ L ∈ C, Szs 15000 L ∧ L.length ≤ 8 ∧ tz L = L) (lC : C.length ≤ 100) (h0 : i64 x.f0) (h1 : i64 x.f1) :
    F48 (C.map fun y => y.map rb) x = some (chgs C x.f0 x.f1 C.length).1 := by
  have hel : ∀ i, Szs 15000 (C.getD i []) ∧ (C.getD i []).length ≤ 8 ∧ tz (C.getD i []) = C.getD i [] := fun i => by
    by_cases c : i < C.length
    · have : C.getD i [] = C[i] := by simp [c]
      rw [this]; exact hC _ (List.getElem_mem _)
    · have : C.getD i [] = [] := by simp [List.getD, List.getElem?_eq_none (show C.length ≤ i by omega)]
      rw [this]; exact ⟨fun x hx => (by cases hx), Nat.zero_le _, rfl⟩
  have B := loop_st (fun (s : Int × Int) i => L48_0 (C.map fun y => y.map rb) x s.1 s.2 i) (chgs C x.f0 x.f1) C.length fun i hi => by
    show L48_0 _ x (chgs C x.f0 x.f1 i).1 (chgs C x.f0 x.f1 i).2 (i : Int) = L48_0 _ x (chgs C x.f0 x.f1 (i + 1)).1 (chgs C x.f0 x.f1 (i + 1)).2 _
    obtain ⟨k1, k2, k3⟩ := chgs_3 C x.f0 x.f1 i
    obtain ⟨e1, e2, e3⟩ := hel i
    have v2 := rvalue_f (x := x) e1 (by omega) (by omega) h0 h1
    have g3 := sgn_3 (sm (C.getD i []) x.f0 x.f1 (C.getD i []).length)
    rw [L48_0_eq, List.length_map, cT (by omega), grd_p (by omega), grd_p (by omega), Int.toNat_natCast, getD_map _ rfl, bnd v2, bnd (rsign_f _), Ev.inc (by omega), chgs]
    generalize sgn (sm (C.getD i []) x.f0 x.f1 (C.getD i []).length) = v at *
    generalize chgs C x.f0 x.f1 i = s at *
    obtain ⟨n, last⟩ := s
    simp only at k1 k2 k3 ⊢
    have wn : wr .i64 (n + 1) = n + 1 := w64 (by omega) (by omega)
    rw [wn]
    unfold chg
    rcases k1 with rfl | rfl | rfl <;> rcases g3 with rfl | rfl | rfl <;> rfl
  rw [F48_eq]
  refine B.trans ?_
  show L48_0 _ _ _ _ _ = _
  rw [L48_0_eq, List.length_map, cF (by omega)]
/-- The chain of one in one form. -/
def chn (L : List Int) : List (List Int) := L :: chain 8 L (pder L)
theorem rchn_f {L : List Int} (hL : Szs 1000 L) (l4 : L.length ≤ 3) (h1 : 1 ≤ L.length) (ht : tz L = L) : F46 (L.map rb) = some ((chn L).map fun x => x.map rb) ∧ (∀ x ∈ chn L, Szs 15000 x ∧ x.length ≤ 8 ∧ tz x = x) ∧ (chn L).length ≤ 9 := by
  have hd := rpder_s (L := L) (hL.le (by omega)) (by omega)
  have ld : (pder L).length ≤ L.length - 1 := pol_len _ _
  have w3 : 1458 ≤ W L.length := Nat.le_trans (by decide) (W_le (a := 3) (b := L.length) l4)
  have zd : Szs 1457 (pder L) := pol_szs fun i hi => (sz_mul (hL.rd (i + 1)) (sz_i64 (x := ((i + 1 : Nat) : Int)) (by omega) (by omega))).le (by omega)
  obtain ⟨r1, r2, r3⟩ := rchain_f 8 L (pder L) [L] (by omega) (by simp) (by omega) (by omega) ht (tz_pol _ _) (hL.le (by omega)) (zd.le (by omega)) (fun L M e f B h1 h2 h3 h4 h5 h6 h7 => rests_rm h2 h3 100 L e h4 h1 h7)
  rw [F46_eq, bnd hd]
  refine ⟨r1, fun x hx => ?_, by unfold chn; rw [List.length_cons]; omega⟩
  rcases List.mem_cons.1 hx with q | q
  · subst q; exact ⟨hL.le (by omega), by omega, ht⟩
  · exact r2 x q
/-- The number of roots that the chain counts. -/
def cnt (L : List Int) : Int := (chgs (chn L) 0 1 (chn L).length).1 - (chgs (chn L) 1 1 (chn L).length).1
end Go.Proofs.Ytkpjeihgigmnkaa.EvP
