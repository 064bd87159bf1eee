/- Flat: where shapes lie, both sides; the same as itself. -/
import Derived.Test.YtalghbndblgndaaEvFlatP
namespace Go.Proofs.Ytalghbndblgndaa.Ev
open Go
set_option linter.unusedVariables false
set_option linter.unusedSimpArgs false
def asc (m : Int) : Int → List Int → Bool
  | p, [] => true
  | p, e :: r => decide (p ≤ e) && (decide (e ≤ m) && asc m e r)
theorem asc_c {m p e : Int} {r : List Int} : asc m p (e :: r) = true ↔ p ≤ e ∧ e ≤ m ∧ asc m e r = true := by
  rw [asc, Bool.and_eq_true, Bool.and_eq_true, decide_eq_true_iff, decide_eq_true_iff]
theorem asc_at {m : Int} : ∀ {l : List Int} {p : Int}, asc m p l = true → ∀ j, j < l.length → p ≤ l.getD j 0 ∧ l.getD j 0 ≤ m
  | [], p, h, j, hj => by cases hj
  | e :: r, p, h, j, hj => by
    obtain ⟨h1, h2, h3⟩ := asc_c.mp h
    cases j with
    | zero => exact ⟨h1, h2⟩
    | succ j =>
      have := asc_at h3 j (by simpa using hj)
      rw [List.getD_cons_succ]; omega
theorem asc_st {m : Int} : ∀ {l : List Int} {p : Int}, asc m p l = true → ∀ j, j + 1 < l.length → l.getD j 0 ≤ l.getD (j + 1) 0
  | [], p, h, j, hj => by cases hj
  | e :: r, p, h, j, hj => by
    obtain ⟨h1, h2, h3⟩ := asc_c.mp h
    cases j with
    | zero =>
      have := asc_at h3 0 (by simpa using hj)
      rw [List.getD_cons_succ, List.getD_cons_zero]; exact this.1
    | succ j =>
      have := asc_st h3 j (by simpa using hj)
      rw [List.getD_cons_succ, List.getD_cons_succ]; exact this
theorem asc_of {m : Int} : ∀ {l : List Int} {p : Int}, l ≠ [] → p ≤ l.getD 0 0 → (∀ j, j + 1 < l.length → l.getD j 0 ≤ l.getD (j + 1) 0) → l.getD (l.length - 1) 0 ≤ m → asc m p l = true
  | [], p, h, _, _, _ => absurd rfl h
  | [e], p, h, h1, h2, h3 => asc_c.mpr ⟨h1, h3, rfl⟩
  | e :: f :: r, p, h, h1, h2, h3 => by
    have ih : asc m e (f :: r) = true := asc_of (by simp) (h2 0 (by simp)) (fun j hj => by
      have := h2 (j + 1) (by simp at hj ⊢; omega)
      rw [List.getD_cons_succ, List.getD_cons_succ] at this; exact this) (by
      simp only [List.length_cons, Nat.add_sub_cancel] at h3 ⊢
      rw [List.getD_cons_succ] at h3; exact h3)
    have := asc_c.mp ih
    exact asc_c.mpr ⟨h1, by omega, ih⟩
theorem f148 (x y : Int) : F148 x y = some (decide (x < y)) := by
  rw [F148_eq, F161_eq, Option.bind_some, cnF rfl]
theorem l108 {l : List Int} (hl : l.length ≤ 1000) : ∀ (i : Nat), i < l.length → (L108_0 l (i : Int) = some true ∧ ∀ j, j < i → l.getD j 0 ≤ l.getD (j + 1) 0) ∨ (L108_0 l (i : Int) = some false ∧ ∃ j, j + 1 < l.length ∧ ¬ l.getD j 0 ≤ l.getD (j + 1) 0)
  | 0, hi => .inl ⟨by rw [L108_0_eq, cF (by omega)], fun j hj => by cases hj⟩
  | i + 1, hi => by
    rw [L108_0_eq, cT (by omega), wr64 (by omega) (by omega), show ((i + 1 : Nat) : Int) - 1 = (i : Int) by omega, grd_p (by omega), grd_p (by omega), grd_p (by omega), grd_p (by omega), f148, Int.toNat_natCast, Int.toNat_natCast]
    simp only [Option.bind_some]
    by_cases h : l.getD (i + 1) 0 < l.getD i 0
    · rw [cT h]; exact .inr ⟨rfl, i, hi, by omega⟩
    · rw [cF h]
      rcases l108 hl i (by omega) with ⟨h1, h2⟩ | h1
      · refine .inl ⟨h1, fun j hj => ?_⟩
        by_cases hji : j = i
        · subst hji; omega
        · exact h2 j (by omega)
      · exact .inr h1
def pc (s : ByteArray) (E : List Int) (i : Nat) : ByteArray := s.extract (E.getD i 0).toNat (E.getD (i + 1) 0).toNat
theorem pc_size {s : ByteArray} {E : List Int} {i : Nat} (hs : s.size ≤ 1000) : (pc s E i).size ≤ 1000000000 := by
  rw [← by_len]; unfold pc; rw [by_ext, List.length_take, List.length_drop, by_len]; omega
def gFs (s : ByteArray) (E : List Int) (g : Int) : Nat → Nat → List S43 → List S43 × Int
  | 0, _, A => (A, 0)
  | d + 1, i, A => cond ((gSh (strBytes (pc s E i)) g).2 != 0) ([], (gSh (strBytes (pc s E i)) g).2) (gFs s E g d (i + 1) (A ++ [(gSh (strBytes (pc s E i)) g).1]))
def gFlat (s : ByteArray) (E : List Int) : List S43 × Int := cond (decide ((E.length : Int) < 2)) ([], 1) (cond (asc s.size 0 E) (gFs s E ((E.length : Int) - 1) (E.length - 1) 0 []) ([], 1))
section
variable {s : ByteArray} {E : List Int} (hs : s.size ≤ 1000) (hE : E.length ≤ 20)
include hs hE
theorem l52_1 (ha : asc s.size 0 E = true) : ∀ (d i : Nat) (A : List S43), d + i + 1 = E.length → A.length = i → L52_1 s E A (E.drop 1) ((E.drop 1).length : Int) (i : Int) = some (gFs s E ((E.length : Int) - 1) d i A)
  | 0, i, A, h, hA => by rw [L52_1_eq, cF (by rw [List.length_drop]; omega)]; rfl
  | d + 1, i, A, h, hA => by
    have e1 : (E.drop 1).getD i 0 = E.getD (i + 1) 0 := by simp [List.getD_eq_getElem?_getD, List.getElem?_drop, Nat.add_comm]
    have k1 := asc_at ha i (by omega)
    have k2 := asc_at ha (i + 1) (by omega)
    have k3 := asc_st ha i (by omega)
    have e2 : s.extract (E.getD i 0).toNat (E.getD (i + 1) 0).toNat = pc s E i := rfl
    rw [L52_1_eq, cT (by rw [List.length_drop]; omega), Int.toNat_natCast, e1, e2, grd_p (by omega), grd_p (by rw [List.length_drop]; omega), grd_p (by omega), grd_p (by omega), grd_p (by omega), grd_p (by omega), grd_p (by omega), grd_p (by omega), wr64 (by omega) (by omega), bnd (f109 (pc_size hs) _), gFs]
    by_cases he : (gSh (strBytes (pc s E i)) ((E.length : Int) - 1)).2 = 0
    · rw [cnF he, cnF he, fit_p (by simp; omega), inc (by omega)]
      exact l52_1 ha d (i + 1) _ (by omega) (by simp; omega)
    · rw [cnT he, cnT he]
theorem f52 : F52 s E = some (gFlat s E) := by
  rw [F52_eq]
  unfold gFlat
  by_cases h2 : (E.length : Int) < 2
  · rw [cT h2, cT h2]
  rw [cF h2, cF h2, cF (by omega), grd_p (by omega)]
  cases ha : asc s.size 0 E
  · rw [cond_false]
    by_cases h0 : E.getD 0 0 < 0
    · rw [cT h0]
    rw [cF h0, F108_eq, wr64 (by omega) (by omega), show (E.length : Int) - 1 = ((E.length - 1 : Nat) : Int) by omega]
    rcases l108 (l := E) (by omega) (E.length - 1) (by omega) with ⟨k1, k2⟩ | ⟨k1, _⟩
    · rw [bnd k1, Bool.not_true, cond_false, grd_p (by omega), grd_p (by omega), Int.toNat_natCast]
      by_cases hl : E.getD (E.length - 1) 0 > (s.size : Int)
      · rw [cT hl]
      · have := asc_of (m := s.size) (l := E) (p := 0) (by intro h; rw [h] at h2; simp at h2) (by omega) (fun j hj => k2 j (by omega)) (by omega)
        rw [ha] at this; cases this
    · rw [bnd k1, Bool.not_false, cond_true]
  · rw [cond_true]
    have k0 := asc_at ha 0 (by omega)
    have kl := asc_at ha (E.length - 1) (by omega)
    rw [cF (by omega), F108_eq, wr64 (by omega) (by omega), show (E.length : Int) - 1 = ((E.length - 1 : Nat) : Int) by omega]
    rcases l108 (l := E) (by omega) (E.length - 1) (by omega) with ⟨k1, k2⟩ | ⟨_, j, k1, k2⟩
    · rw [bnd k1, Bool.not_true, cond_false, grd_p (by omega), grd_p (by omega), Int.toNat_natCast, cF (by omega), L52_0_eq, grd_p (by omega)]
      have := l52_1 hs hE ha (E.length - 1) 0 [] (by omega) rfl
      rw [show (E.length : Int) - 1 = ((E.length - 1 : Nat) : Int) by omega] at this
      exact this
    · exact absurd (asc_st ha j k1) k2
theorem l53_2 (ha : asc s.size 0 E = true) : ∀ (d i : Nat) (A : List S43), d + i + 1 = E.length → A.length = i → L53_2 s E A ((i + 1 : Nat) : Int) = some (gFs s E ((E.length : Int) - 1) d i A)
  | 0, i, A, h, hA => by rw [L53_2_eq, cF (by omega)]; rfl
  | d + 1, i, A, h, hA => by
    have k1 := asc_at ha i (by omega)
    have k2 := asc_at ha (i + 1) (by omega)
    have k3 := asc_st ha i (by omega)
    have e2 : s.extract (E.getD i 0).toNat (E.getD (i + 1) 0).toNat = pc s E i := rfl
    have hz := pc_size (E := E) (i := i) hs
    have key : ∀ (r : S43 × Int), L53_3 s E A ((i + 1 : Nat) : Int) r.1 r.2 = some (cond (r.2 != 0) ([], r.2) (gFs s E ((E.length : Int) - 1) d (i + 1) (A ++ [r.1]))) := by
      intro r
      rw [L53_3_eq]
      by_cases he : r.2 = 0
      · rw [cnF he, cnF he, fit_p (by simp; omega), inc (by omega)]
        exact l53_2 ha d (i + 1) _ (by omega) (by simp; omega)
      · rw [cnT he, cnT he]
    rw [L53_2_eq, cT (by omega), wr64 (n := ((i + 1 : Nat) : Int) - 1) (by omega) (by omega), show ((i + 1 : Nat) : Int) - 1 = (i : Int) by omega, Int.toNat_natCast, Int.toNat_natCast, e2, grd_p (by omega), grd_p (by omega), grd_p (by omega), grd_p (by omega), grd_p (by omega), grd_p (by omega), grd_p (by omega), grd_p (by omega), wr64 (by omega) (by omega), bnd (f41 hz), gFs]
    unfold gSh
    cases sIs (strBytes (pc s E i))
    · simp only [cond_false]
      rw [bnd (f31 hz)]
      exact key (S43.mk (gPar (strBytes (pc s E i))).1 [], (gPar (strBytes (pc s E i))).2)
    · simp only [cond_true]
      rw [bnd (f40 hz _)]
      exact key (S43.mk [] (sParse (strBytes (pc s E i)) ((E.length : Int) - 1)).1, (sParse (strBytes (pc s E i)) ((E.length : Int) - 1)).2)
omit hs in
theorem l53_1 : ∀ (d i : Nat) (p : Int), d + i = E.length → L53_1 s E p (i : Int) = cond (asc s.size p (E.drop i)) (L53_2 s E [] 1) (some ([], 1))
  | 0, i, p, h => by rw [L53_1_eq, cF (by omega), drop_nil (by omega)]; rfl
  | d + 1, i, p, h => by
    rw [L53_1_eq, cT (by omega), grd_p (by omega), grd_p (by omega), Int.toNat_natCast, drop_rd E 0 i (by omega), asc]
    by_cases h1 : E.getD i 0 < p
    · rw [cT h1, decide_eq_false (by omega : ¬ p ≤ E.getD i 0)]; rfl
    · rw [cF h1, decide_eq_true (by omega : p ≤ E.getD i 0), grd_p (by omega), grd_p (by omega)]
      by_cases h3 : E.getD i 0 > (s.size : Int)
      · rw [cT h3, decide_eq_false (by omega : ¬ E.getD i 0 ≤ (s.size : Int))]; rfl
      · rw [cF h3, decide_eq_true (by omega : E.getD i 0 ≤ (s.size : Int)), grd_p (by omega), grd_p (by omega), inc (by omega), l53_1 d (i + 1) _ (by omega)]; rfl
theorem f53 : F53 s E = some (gFlat s E) := by
  rw [F53_eq]
  unfold gFlat
  by_cases h2 : (E.length : Int) < 2
  · rw [cT h2, cT h2]
  rw [cF h2, cF h2, cF (by omega), L53_0_eq]
  have h1 := l53_1 (s := s) hE E.length 0 0 (by omega)
  rw [List.drop_zero] at h1
  rw [show L53_1 s E 0 0 = _ from h1]
  cases ha : asc s.size 0 E
  · rfl
  · exact l53_2 hs hE ha (E.length - 1) 0 [] (by omega) rfl
end
/-! what is read -/
structure ShOk (g : Int) (x : S43) : Prop where
  c : ∀ c ∈ x.f0, c.length ≤ 5000
  p : x.f1.length ≤ 64
  m : sm x g = true
theorem ShOk.n {g : Int} {x : S43} (h : ShOk g x) : x.f0.length ≤ 256 := by
  have := h.m
  unfold sm at this
  by_cases h1 : x.f1.length ≠ 0
  · rw [cT h1, Bool.and_eq_true, decide_eq_true_iff] at this; omega
  · rw [cF h1] at this
    unfold gm at this
    rw [Bool.and_eq_true, decide_eq_true_iff] at this; exact this.1
theorem gFs_ok {s : ByteArray} {E : List Int} {g : Int} : ∀ (d i : Nat) (A : List S43), (∀ x ∈ A, ShOk g x) → (∀ x ∈ (gFs s E g d i A).1, ShOk g x) ∧ (gFs s E g d i A).1.length ≤ A.length + d ∧ ((gFs s E g d i A).2 = 0 → (gFs s E g d i A).1.length = A.length + d)
  | 0, i, A, h => ⟨h, Nat.le_refl _, fun _ => rfl⟩
  | d + 1, i, A, h => by
    rw [gFs]
    by_cases he : (gSh (strBytes (pc s E i)) g).2 = 0
    · rw [cnF he]
      obtain ⟨k1, k2, k3⟩ := gSh_ok (Byt.of (pc s E i)) g
      obtain ⟨i1, i2, i3⟩ := gFs_ok (s := s) (E := E) d (i + 1) (A ++ [(gSh (strBytes (pc s E i)) g).1]) (fun x hx => by
        rcases List.mem_append.mp hx with k | k
        · exact h x k
        · rw [List.mem_singleton.mp k]; exact ⟨k1, k2, k3 he⟩)
      rw [List.length_append, List.length_singleton] at i2 i3
      exact ⟨i1, by omega, fun e => by rw [i3 e]; omega⟩
    · rw [cnT he]
      exact ⟨fun x hx => by (cases hx), by simp, fun e => absurd e he⟩
theorem gFlat_ok {s : ByteArray} {E : List Int} (hE : E.length ≤ 20) : (gFlat s E).1.length ≤ 20 ∧ (∀ x ∈ (gFlat s E).1, ShOk ((E.length : Int) - 1) x) ∧ ((gFlat s E).2 = 0 → ((gFlat s E).1.length : Int) = (E.length : Int) - 1 ∧ 2 ≤ E.length) := by
  unfold gFlat
  by_cases h2 : (E.length : Int) < 2
  · rw [cT h2]; exact ⟨by simp, fun x hx => by (cases hx), fun e => by cases e⟩
  rw [cF h2]
  cases asc s.size 0 E
  · rw [cond_false]; exact ⟨by simp, fun x hx => by (cases hx), fun e => by cases e⟩
  · rw [cond_true]
    obtain ⟨i1, i2, i3⟩ := gFs_ok (s := s) (E := E) (g := (E.length : Int) - 1) (E.length - 1) 0 [] (fun x hx => by cases hx)
    simp only [List.length_nil, Nat.zero_add] at i2 i3
    exact ⟨by omega, i1, fun e => ⟨by rw [i3 e]; omega, by omega⟩⟩
/-! the same as itself -/
theorem l21_1 {A : CS} (hA : A.length ≤ 300) {i : Nat} (hi : i < A.length) (hc : (A.getD i []).length ≤ 5000) : ∀ (d k : Nat), d + k = (A.getD i []).length → L21_1 A A (i : Int) (k : Int) = L21_0 A A (wr .i64 ((i : Int) + 1))
  | 0, k, h => by
    rw [L21_1_eq, Int.toNat_natCast, grd_p (by omega), grd_p (by omega), cF (by omega)]
  | d + 1, k, h => by
    rw [L21_1_eq, Int.toNat_natCast, Int.toNat_natCast, grd_p (by omega), grd_p (by omega), cT (by omega), grd_p (by omega), grd_p (by omega), grd_p (by omega), grd_p (by omega), grd_p (by omega), grd_p (by omega), grd_p (by omega), grd_p (by omega), inc (i := k) (by omega), l21_1 hA hi hc d (k + 1) (by omega)]
    simp
theorem l21_0 {A : CS} (hA : A.length ≤ 300) (hc : ∀ c ∈ A, c.length ≤ 5000) : ∀ (d i : Nat), d + i = A.length → L21_0 A A (i : Int) = some true
  | 0, i, h => by rw [L21_0_eq, cF (by omega)]
  | d + 1, i, h => by
    have h1 := l21_1 hA (i := i) (by omega) (hc _ (rd_mem A [] i (by omega))) (A.getD i []).length 0 (by omega)
    rw [L21_0_eq, cT (by omega), grd_p (by omega), grd_p (by omega), grd_p (by omega), grd_p (by omega), cnF rfl, show L21_1 A A (i : Int) 0 = _ from h1, inc (by omega)]
    exact l21_0 hA hc d (i + 1) (by omega)
theorem f21 {A : CS} (hA : A.length ≤ 300) (hc : ∀ c ∈ A, c.length ≤ 5000) : F21 A A = some true := by
  rw [F21_eq, cnF rfl]; exact l21_0 hA hc A.length 0 (by omega)
theorem l54 {g : Int} {A : List S43} (hl : A.length ≤ 1000) (hA : ∀ x ∈ A, ShOk g x) : ∀ (d i : Nat), d + i = A.length → L54_0 A A (i : Int) = some true
  | 0, i, h => by rw [L54_0_eq, cF (by omega)]
  | d + 1, i, h => by
    have hx := hA _ (rd_mem A z2 i (by omega))
    have hn := hx.n
    have hp := hx.p
    rw [L54_0_eq, cT (by omega), Int.toNat_natCast, grd_p (by omega), grd_p (by omega), grd_p (by omega), grd_p (by omega), bnd (f21 (by omega) hx.c), Bool.not_true, cond_false, grd_p (by omega), grd_p (by omega), grd_p (by omega), grd_p (by omega), bnd (f38 (by omega)), Bool.not_true, cond_false, inc (by omega)]
    exact l54 hl hA d (i + 1) (by omega)
theorem f54 {g : Int} {A : List S43} (hl : A.length ≤ 1000) (hA : ∀ x ∈ A, ShOk g x) : F54 A A = some true := by
  rw [F54_eq, cnF rfl]; exact l54 hl hA A.length 0 (by omega)
end Go.Proofs.Ytalghbndblgndaa.Ev
