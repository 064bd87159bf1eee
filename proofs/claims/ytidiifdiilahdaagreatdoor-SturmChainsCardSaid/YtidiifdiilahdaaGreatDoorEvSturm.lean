/- A polynomial's chain, and how often its signs change: both sides go the same way. Seat GreatDoor's numbers. -/
import Derived.Test.YtidiifdiilahdaaGreatDoorEvPolyV
namespace Go.Proofs.YtidiifdiilahdaaGreatDoor.EvP
open Go Go.Proofs.YtidiifdiilahdaaGreatDoor.Ev Go.Proofs.YtidiifdiilahdaaGreatDoor.NumB
open Go.Proofs.YtidiifdiilahdaaGreatDoor.EvN (maY bmay_f rmay_f)
set_option linter.unusedVariables false
set_option linter.unusedSimpArgs false
def neg (L : List Int) : List Int := L.map fun x => -x
theorem coef_neg (L : List Int) (i : Nat) : coef (neg L) i = -coef L i := by
  unfold coef neg
  by_cases h : i < L.length
  · simp [List.getD, h]
  · simp [List.getD, List.getElem?_eq_none (show L.length ≤ i by omega)]
theorem neg_len (L : List Int) : (neg L).length = L.length := List.length_map _
theorem tz_neg : ∀ L : List Int, tz (neg L) = neg (tz L)
  | [] => rfl
  | x :: l => by
    have ih := tz_neg l
    have e : neg (x :: l) = -x :: neg l := rfl
    have hn : neg (tz l) = [] ↔ tz l = [] := by unfold neg; simp
    rw [e, tz, tz, ih]
    by_cases c : tz l = [] ∧ x = 0
    · rw [if_pos c, if_pos ⟨hn.2 c.1, by omega⟩]; rfl
    · rw [if_neg c, if_neg fun q => c ⟨hn.1 q.1, by omega⟩]; rfl
theorem psub_neg (L : List Int) : psub [] L = tz (neg L) := tz_ext fun i => by
  rw [coef_range, coef_neg]
  split
  · simp [coef]
  · rename_i h
    rw [coef_ge (L := L)]; rfl
    simp at h; omega
theorem neg_szs {e : Nat} {L : List Int} (h : Szs e L) : Szs e (neg L) := fun x hx => by
  obtain ⟨y, hy, rfl⟩ := List.mem_map.1 hx
  exact sz_neg (h y hy)
theorem neg_s {L : List Int} (hL : Szs 20000 L) (lL : L.length ≤ 1000) (ht : tz L = L) : F32 (L.map bg) = some ((neg L).map bg) := by
  have h := psub_r (P := []) (Q := L.map bg) (fun a ha => by cases ha) (hL.rps.le (by omega)) (by simp) (by simp; omega)
  rw [pv_bg, show pv ([] : List _) = [] from rfl, psub_neg, tz_neg, ht] at h
  rw [F32_eq, bnd h]
theorem padd_nil (L : List Int) : padd L [] = tz L := tz_ext fun i => by
  rw [coef_range]
  split
  · simp [coef]
  · rw [coef_ge (L := L)]; simp at *; omega
/-- The rest, of two in their one form. -/
theorem prest_s {L M : List Int} {e f B : Nat} (hL : Szs e L) (hM : Szs f M) (tL : tz L = L) (tM : tz M = M) (nM : M ≠ []) (lL : L.length < 100) (lM : M.length ≤ 100) (hB : B + f ≤ 25000) (hr : e + (L.length + 1 - M.length) * (f + 1) ≤ B) :
    F31 (L.map bg) (M.map bg) = some ((rests 100 L M).map bg, 0) ∧ F35 (L.map rb) (M.map rb) = some ((rests 100 L M).map rb) ∧ (rests 100 L M).length < M.length ∧ Szs B (rests 100 L M) := by
  have n0 : M.length ≠ 0 := fun q => nM (List.eq_nil_of_length_eq_zero q)
  have heB : e ≤ B := by omega
  have d0 : wr .i64 ((M.length : Int) - 1) = ((M.length - 1 : Nat) : Int) := (w64 (by omega) (by omega)).trans (by omega)
  have b0 : ((M.length : Int) == 0) = false := by simpa using nM
  have h1 := ptrim_s (hM.le (n := 40000) (by omega)) (by omega)
  rw [tM] at h1
  have h2 := padd_r (P := L.map bg) (Q := []) (hL.rps.le (by omega)) (fun a ha => by cases ha) (by simp; omega) (by simp)
  rw [pv_bg, show pv ([] : List _) = [] from rfl, padd_nil, tL] at h2
  have zhi : Rp f (bg (top M)) := (hM.rd _).rp
  have ehi : bv (bg (top M)) = top (pv (M.map bg)) := by rw [bv_bg, pv_bg]
  obtain ⟨r1, r2, r3⟩ := rest_l (Q := M.map bg) hM.rps (by simpa using nM) zhi ehi hB 100 L e lL (by omega) hL (by rw [List.length_map]; exact hr)
  rw [pv_bg] at r1 r2 r3
  rw [List.length_map] at r2
  have s1 := rrest_l hM nM hB 100 L e lL (by omega) hL hr
  refine ⟨?_, ?_, r2, r3⟩
  · rw [F31_eq, bnd h1, List.length_map, b0, cond_false, d0, grd_p (by omega), grd_p (by omega), bnd h2, Int.toNat_natCast, map_rd bg z0 bg_zero]
    exact r1
  · rw [F35_eq, List.length_map, d0, grd_p (by omega), grd_p (by omega), Int.toNat_natCast, map_rd rb z2 rb_zero]
    exact s1
/-! the chain -/
def chain : Nat → List Int → List Int → List (List Int)
  | 0, _, _ => []
  | n + 1, L, M => if M = [] then [] else M :: chain n M (neg (rests 100 L M))
/-- How many digits an element may have, by how long the one before is. -/
def W (a : Nat) : Nat := 6 * 3 ^ (8 - a)
theorem three (d : Nat) (h : 1 ≤ d) : d + 2 ≤ 3 ^ d := by
  induction d with
  | zero => omega
  | succ d ih =>
    rcases Nat.eq_zero_or_pos d with q | q
    · subst q; decide
    · have := ih q
      rw [Nat.pow_succ]; omega
theorem W_step {a b : Nat} (ha : a ≤ 8) (h : b < a) : (a - b + 2) * W a ≤ W b := by
  have h3 := three (a - b) (by omega)
  have : W b = 3 ^ (a - b) * W a := by
    unfold W
    rw [show 8 - b = (8 - a) + (a - b) by omega, Nat.pow_add]
    ac_rfl
  rw [this]
  exact Nat.mul_le_mul_right _ h3
theorem W_le {a b : Nat} (h : b ≤ a) : W a ≤ W b := Nat.mul_le_mul_left 6 (Nat.pow_le_pow_right (by omega) (by omega))
theorem W1 : W 1 = 13122 := by decide
theorem W2 : W 2 = 4374 := by decide
theorem W_pos (a : Nat) : 0 < W a := by unfold W; have := Nat.pow_pos (n := 8 - a) (show 0 < 3 by omega); omega
theorem rests_tz : ∀ (n : Nat) (L M : List Int), tz L = L → tz (rests n L M) = rests n L M
  | 0, L, M, h => h
  | n + 1, L, M, h => by
    rw [rests]
    split
    · exact rests_tz n _ M (tz_pol _ _)
    · exact h
theorem chain_f : ∀ (n : Nat) (L M : List Int) (os : List (List Int)), M.length < n → os.length + n ≤ 1000 → L.length ≤ 8 → M.length < L.length → tz L = L → tz M = M → Szs (W L.length - 1) L → Szs (W L.length - 1) M →
    L9_0 (L.map bg) (os.map fun x => x.map bg) (M.map bg) = some ((os ++ chain n L M).map fun x => x.map bg, 0) ∧ L10_0 (L.map rb) (os.map fun x => x.map rb) (M.map rb) = some ((os ++ chain n L M).map fun x => x.map rb) ∧ (∀ x ∈ chain n L M, Szs 15000 x ∧ x.length ≤ 8 ∧ tz x = x) ∧ (chain n L M).length ≤ n
  | 0, L, M, os, h, _, _, _, _, _, _, _ => by omega
  | n + 1, L, M, os, h, hn, l8, hlt, tL, tM, zL, zM => by
    rw [L9_0_eq, L10_0_eq, chain]
    simp only [List.length_map]
    by_cases c : M = []
    · rw [c, if_pos rfl, cF (by simp), cF (by simp), List.append_nil]
      exact ⟨rfl, rfl, fun x hx => (by cases hx), Nat.zero_le _⟩
    · have m0 : M.length ≠ 0 := fun q => c (List.eq_nil_of_length_eq_zero q)
      have wl : W L.length ≤ 4374 := by rw [← W2]; exact W_le (by omega)
      have wm : W M.length ≤ 13122 := by rw [← W1]; exact W_le (by omega)
      have wp := W_pos L.length
      have ws := W_step l8 hlt
      have hroom : (W L.length - 1) + (L.length + 1 - M.length) * (W L.length - 1 + 1) ≤ W M.length - 1 := by
        have e : L.length - M.length + 2 = (L.length + 1 - M.length) + 1 := by omega
        rw [e, Nat.add_mul, Nat.one_mul] at ws
        rw [show W L.length - 1 + 1 = W L.length by omega]
        omega
      obtain ⟨p1, p2, p3, p4⟩ := prest_s zL zM tL tM c (by omega) (by omega) (B := W M.length - 1) (by omega) hroom
      have tR := rests_tz 100 L M tL
      have hneg := neg_s (p4.le (by omega)) (by omega) tR
      have hrneg := rpneg_s (L := rests 100 L M) (p4.le (by omega)) (by omega)
      have tN : tz (neg (rests 100 L M)) = neg (rests 100 L M) := by rw [tz_neg, tR]
      have zM' : Szs (W M.length - 1) M := zM.le (by have := W_le (a := L.length) (b := M.length) (by omega); omega)
      obtain ⟨r1, r2, r3, r4⟩ := chain_f n M (neg (rests 100 L M)) (os ++ [M]) (by rw [neg_len]; omega) (by simp; omega) (by omega) (by rw [neg_len]; exact p3) tM tN zM' (neg_szs p4)
      have f1 : fit (os.length + [M.map bg].length) 24 = true := fit_of (by simp only [List.length_singleton]; omega)
      have f2 : fit (os.length + [M.map rb].length) 24 = true := fit_of (by simp only [List.length_singleton]; omega)
      have e1 : (os ++ [M]).map (fun x => x.map bg) = (os.map fun x => x.map bg) ++ [M.map bg] := by rw [List.map_append]; rfl
      have e2 : (os ++ [M]).map (fun x => x.map rb) = (os.map fun x => x.map rb) ++ [M.map rb] := by rw [List.map_append]; rfl
      have e3 : os ++ [M] ++ chain n M (neg (rests 100 L M)) = os ++ M :: chain n M (neg (rests 100 L M)) := by rw [List.append_assoc]; rfl
      rw [e1, e3] at r1
      rw [e2, e3] at r2
      rw [if_neg c, cT (by omega), cT (by omega), f1, grd_t, f2, grd_t, bnd p1, bnd hneg, bnd p2, bnd hrneg]
      refine ⟨r1, r2, fun x hx => ?_, by rw [List.length_cons]; omega⟩
      rcases List.mem_cons.1 hx with q | q
      · subst q; exact ⟨zM.le (by omega), by omega, tM⟩
      · exact r3 x q
/-! the changes -/
def chg (s : Int × Int) (v : Int) : Int × Int := if v = 0 then s else if s.2 ≠ 0 ∧ v ≠ s.2 then (s.1 + 1, v) else (s.1, v)
def chgs (C : List (List Int)) (N D : Int) : Nat → Int × Int
  | 0 => (0, 0)
  | k + 1 => chg (chgs C N D k) (sgn (sm (C.getD k []) N D (C.getD k []).length))
theorem sgn_3 (x : Int) : sgn x = 0 ∨ sgn x = 1 ∨ sgn x = -1 := by
  unfold sgn; split <;> (try split) <;> simp
theorem chgs_3 (C : List (List Int)) (N D : Int) : ∀ k : Nat, ((chgs C N D k).2 = 0 ∨ (chgs C N D k).2 = 1 ∨ (chgs C N D k).2 = -1) ∧ 0 ≤ (chgs C N D k).1 ∧ (chgs C N D k).1 ≤ k
  | 0 => by simp [chgs]
  | k + 1 => by
    obtain ⟨h1, h2, h3⟩ := chgs_3 C N D k
    have hs := sgn_3 (sm (C.getD k []) N D (C.getD k []).length)
    rw [chgs]; unfold chg
    split
    · exact ⟨h1, h2, by omega⟩
    · split
      · exact ⟨hs, by simp only; omega, by simp only; omega⟩
      · exact ⟨hs, by simp only; omega, by simp only; omega⟩
theorem getD_map {α β : Type} (f : List α → List β) (hf : f [] = []) (C : List (List α)) (i : Nat) : (C.map f).getD i [] = f (C.getD i []) := by
  by_cases h : i < C.length
  · simp [List.getD, h]
  · simp [List.getD, List.getElem?_eq_none (show C.length ≤ i by omega), hf]
theorem changes_f {C : List (List Int)} {x : S24} (hC : ∀ L ∈ C, Szs 15000 L ∧ L.length ≤ 8 ∧ tz L = L) (lC : C.length ≤ 100) (h0 : EvN.i64 x.f0) (h1 : EvN.i64 x.f1) (hm : maY x = true) :
    F12 (C.map fun y => y.map bg) x = some ((chgs C x.f0 x.f1 C.length).1, 0) ∧ F14 (C.map fun y => y.map rb) x = some (chgs C x.f0 x.f1 C.length).1 := by
  have hel : ∀ i, Szs 15000 (C.getD i []) ∧ (C.getD i []).length ≤ 8 ∧ tz (C.getD i []) = C.getD i [] := fun i => by
    by_cases c : i < C.length
    · have : C.getD i [] = C[i] := by simp [c]
      rw [this]; exact hC _ (List.getElem_mem _)
    · have : C.getD i [] = [] := by simp [List.getD, List.getElem?_eq_none (show C.length ≤ i by omega)]
      rw [this]; exact ⟨fun x hx => (by cases hx), Nat.zero_le _, rfl⟩
  have A := loop_st (fun (s : Int × Int) i => L12_0 x s.1 s.2 (C.map fun y => y.map bg) (C.length : Int) i) (chgs C x.f0 x.f1) C.length fun i hi => by
    show L12_0 x (chgs C x.f0 x.f1 i).1 (chgs C x.f0 x.f1 i).2 _ _ (i : Int) = L12_0 x (chgs C x.f0 x.f1 (i + 1)).1 (chgs C x.f0 x.f1 (i + 1)).2 _ _ _
    obtain ⟨k1, k2, k3⟩ := chgs_3 C x.f0 x.f1 i
    obtain ⟨e1, e2, e3⟩ := hel i
    have v1 := value_f (P := (C.getD i []).map bg) (x := x) e1.rps (by rw [List.length_map]; omega) h0 h1
    rw [pv_bg, e3] at v1
    have hs := sm_sz (D := x.f1) e1 h0 h1 (C.getD i []).length
    have f25 : F25 ((C.getD i []).map bg) x = some (bg (sm (C.getD i []) x.f0 x.f1 (C.getD i []).length), 0) := by rw [F25_eq, bnd (bmay_f h0 h1), hm, bnd v1]; rfl
    have f39 : F39 ((C.getD i []).map bg) x = some (sgn (sm (C.getD i []) x.f0 x.f1 (C.getD i []).length)) := by rw [F39_eq, bnd f25, bnd (bsign_s (hs.le (by omega)))]
    have g3 := sgn_3 (sm (C.getD i []) x.f0 x.f1 (C.getD i []).length)
    rw [L12_0_eq, cT (by omega), grd_p (by omega), grd_p (by rw [List.length_map]; omega), Int.toNat_natCast, getD_map _ rfl, bnd f39, inc (by omega), chgs]
    generalize sgn (sm (C.getD i []) x.f0 x.f1 (C.getD i []).length) = v at *
    generalize chgs C x.f0 x.f1 i = s at *
    obtain ⟨n, last⟩ := s
    simp only at k1 k2 k3 ⊢
    have wn : wr .i64 (n + 1) = n + 1 := w64 (by omega) (by omega)
    rw [wn]
    unfold chg
    rcases k1 with rfl | rfl | rfl <;> rcases g3 with rfl | rfl | rfl <;> rfl
  have B := loop_st (fun (s : Int × Int) i => L14_0 (C.map fun y => y.map rb) x s.1 s.2 i) (chgs C x.f0 x.f1) C.length fun i hi => by
    show L14_0 _ x (chgs C x.f0 x.f1 i).1 (chgs C x.f0 x.f1 i).2 (i : Int) = L14_0 _ x (chgs C x.f0 x.f1 (i + 1)).1 (chgs C x.f0 x.f1 (i + 1)).2 _
    obtain ⟨k1, k2, k3⟩ := chgs_3 C x.f0 x.f1 i
    obtain ⟨e1, e2, e3⟩ := hel i
    have v2 := rvalue_f (x := x) e1 (by omega) (by omega) h0 h1
    have g3 := sgn_3 (sm (C.getD i []) x.f0 x.f1 (C.getD i []).length)
    rw [L14_0_eq, List.length_map, cT (by omega), grd_p (by omega), grd_p (by omega), Int.toNat_natCast, getD_map _ rfl, bnd v2, bnd (rsign_f _), inc (by omega), chgs]
    generalize sgn (sm (C.getD i []) x.f0 x.f1 (C.getD i []).length) = v at *
    generalize chgs C x.f0 x.f1 i = s at *
    obtain ⟨n, last⟩ := s
    simp only at k1 k2 k3 ⊢
    have wn : wr .i64 (n + 1) = n + 1 := w64 (by omega) (by omega)
    rw [wn]
    unfold chg
    rcases k1 with rfl | rfl | rfl <;> rcases g3 with rfl | rfl | rfl <;> rfl
  constructor
  · rw [F12_eq, bnd (bmay_f h0 h1), hm, Bool.not_true, cond_false, List.length_map]
    refine A.trans ?_
    show L12_0 _ _ _ _ _ _ = _
    rw [L12_0_eq, cF (by omega)]
  · rw [F14_eq]
    refine B.trans ?_
    show L14_0 _ _ _ _ _ = _
    rw [L14_0_eq, List.length_map, cF (by omega)]
end Go.Proofs.YtidiifdiilahdaaGreatDoor.EvP
