/- The pure law SideAsks: on which side of any edge any point is, and the numbers that tell, are the reference's. -/
import Derived.Test.YtkpjeihgigmnkaaEvSideA
import Derived.Test.YtkpjeihgigmnkaaEvV
import Derived.Test.YtkpjeihgigmnkaaEvW
namespace Go.Proofs.Ytkpjeihgigmnkaa.Ev
open Go
open Go.Proofs.Ytkpjeihgigmnkaa.EvP (NegP AbvP every_f)
set_option linter.unusedVariables false
set_option linter.unusedSimpArgs false
def inR (p : S23) : Bool := decide (p.f0 ≥ (-33554432)) && (decide (p.f0 ≤ 33554432) && (decide (p.f1 ≥ (-33554432)) && decide (p.f1 ≤ 33554432)))
theorem and4 (a b c d : Bool) : (cond a (cond b (cond c (some d) (some false)) (some false)) (some false)) = some (a && (b && (c && d))) := by cases a <;> cases b <;> cases c <;> rfl
theorem f19 (p : S23) : F19 p = some (inR p) := by rw [F19_eq]; exact and4 _ _ _ _
theorem f14 (p : S23) : F14 p = some (inR p) := by rw [F14_eq]; exact and4 _ _ _ _
theorem f26 (p : S23) : F26 p = some (inR p) := by rw [F26_eq]; exact and4 _ _ _ _
theorem inR_d {p : S23} (h : inR p = true) : (-33554432 ≤ p.f0 ∧ p.f0 ≤ 33554432) ∧ (-33554432 ≤ p.f1 ∧ p.f1 ≤ 33554432) := by
  unfold inR at h
  simp only [Bool.and_eq_true, decide_eq_true_iff] at h
  omega
def eqP (a b : S23) : Bool := (a.f0 == b.f0) && (a.f1 == b.f1)
def okE (e : S25) : Bool := cond e.f1 (!eqP e.f2 e.f3 || !eqP e.f2 e.f4) (!eqP e.f2 e.f4 && ((e.f3.f0 == 0) && (e.f3.f1 == 0)))
def mayS (p : S23) (e : S25) : Bool := inR p && (inR e.f2 && (inR e.f3 && (inR e.f4 && okE e)))
theorem f10 (p : S23) (e : S25) : F10 p e = some (mayS p e) := by
  rw [F10_eq, f19, f19, f19, f19]
  simp only [Option.bind_some]
  rw [L10_0_eq]
  unfold mayS okE
  show cond (!inR p) _ (cond (!inR e.f2) _ (cond (!inR e.f3) _ (cond (!inR e.f4) _ (cond e.f1 (cond (!eqP e.f2 e.f3) _ (some (!eqP e.f2 e.f4))) (cond (!eqP e.f2 e.f4) _ _))))) = _
  cases inR p <;> cases inR e.f2 <;> cases inR e.f3 <;> cases inR e.f4 <;> cases e.f1 <;> cases eqP e.f2 e.f3 <;> cases eqP e.f2 e.f4 <;> rfl
theorem f7 (p : S23) (e : S25) : F7 p e = some (mayS p e) := by
  rw [F7_eq, f14, F15_eq, f26, f26, f26, F27_eq]
  unfold mayS okE
  simp only [Option.bind_some]
  show cond (inR p) (Option.bind (cond (inR e.f2) (cond (inR e.f3) (cond (inR e.f4) (Option.bind (cond (eqP e.f2 e.f4) (cond (!e.f1) (some true) (some (eqP e.f2 e.f3))) (some false)) _) _) _) _) _) _ = _
  cases inR p <;> cases inR e.f2 <;> cases inR e.f3 <;> cases inR e.f4 <;> cases e.f1 <;> cases eqP e.f2 e.f3 <;> cases eqP e.f2 e.f4 <;> rfl
theorem f11 {a b c : S23} (ha : inR a = true) (hb : inR b = true) (hc : inR c = true) : F11 a b c = F16 a b c := by
  have h32 : F32 [a, b, c] = some 0 := by
    rw [F32_eq]
    show L32_0 [a, b, c] 3 0 = _
    rw [L32_0_eq, cT (by omega), grd_p (by omega), grd_p (by simp), show [a, b, c].getD (Int.toNat 0) z0 = a from rfl, f19, ha]
    show L32_0 [a, b, c] 3 1 = _
    rw [L32_0_eq, cT (by omega), grd_p (by omega), grd_p (by simp), show [a, b, c].getD (Int.toNat 1) z0 = b from rfl, f19, hb]
    show L32_0 [a, b, c] 3 2 = _
    rw [L32_0_eq, cT (by omega), grd_p (by omega), grd_p (by simp), show [a, b, c].getD (Int.toNat 2) z0 = c from rfl, f19, hc]
    show L32_0 [a, b, c] 3 3 = _
    rw [L32_0_eq, cF (by omega)]
  rw [F11_eq, F20_eq, bnd h32, cnF rfl, F33_eq, F16_eq]; rfl
theorem way {p : S23} {e : S25} (h0 : inR p = true) (h2 : inR e.f2 = true) (h3 : inR e.f3 = true) (h4 : inR e.f4 = true) : ∃ f g h : Int, F12 p e = some (S37.mk f g h) ∧ (e.f1 = true → F9 p e = some (S30.mk f g h)) ∧ (-72057594037927000 ≤ f ∧ f ≤ 72057594037927000) ∧ (-72057594037927000 ≤ g ∧ g ≤ 72057594037927000) ∧ (-72057594037927000 ≤ h ∧ h ≤ 72057594037927000) := by
  refine ⟨_, _, _, F12_eq p e, fun hq => by rw [F9_eq, hq]; rfl, ?_⟩
  have b0 := inR_d h0
  have b2 := inR_d h2
  have b3 := inR_d h3
  have b4 := inR_d h4
  have m1 := mul_bd (x := 2 * (e.f3.f1 - e.f2.f1)) (y := e.f2.f0 - p.f0) (M := 134217728) (N := 67108864) (by omega) (by omega) (by omega) (by omega)
  have m2 := mul_bd (x := 2 * (e.f3.f0 - e.f2.f0)) (y := e.f2.f1 - p.f1) (M := 134217728) (N := 67108864) (by omega) (by omega) (by omega) (by omega)
  have m3 := mul_bd (x := e.f2.f1 - 2 * e.f3.f1 + e.f4.f1) (y := e.f2.f0 - p.f0) (M := 134217728) (N := 67108864) (by omega) (by omega) (by omega) (by omega)
  have m4 := mul_bd (x := e.f2.f0 - 2 * e.f3.f0 + e.f4.f0) (y := e.f2.f1 - p.f1) (M := 134217728) (N := 67108864) (by omega) (by omega) (by omega) (by omega)
  have m5 := mul_bd (x := e.f2.f1 - 2 * e.f3.f1 + e.f4.f1) (y := 2 * (e.f3.f0 - e.f2.f0)) (M := 134217728) (N := 134217728) (by omega) (by omega) (by omega) (by omega)
  have m6 := mul_bd (x := e.f2.f0 - 2 * e.f3.f0 + e.f4.f0) (y := 2 * (e.f3.f1 - e.f2.f1)) (M := 134217728) (N := 134217728) (by omega) (by omega) (by omega) (by omega)
  simp (disch := omega) only [wr64]
  omega
theorem Pure.SideAsks (x0 : S23) (x1 : S25) : wf23 x0 → wf25 x1 → F3 x0 x1 = some true := by
  intro _ _
  rw [F3_eq, bnd F4_true, Bool.not_true, cond_false, F5_eq, F6_eq, f10, f7]
  simp only [Option.bind_some]
  cases hm : mayS x0 x1
  · rfl
  · have hm' := hm
    unfold mayS at hm'
    simp only [Bool.and_eq_true] at hm'
    obtain ⟨h0, h2, h3, h4, hk⟩ := hm'
    obtain ⟨f, g, h, e12, e9, zf, zg, zh⟩ := way h0 h2 h3 h4
    have c1 : ∀ a b c : S23, ∃ n, F16 a b c = some n := fun a b c => ⟨_, F16_eq a b c⟩
    obtain ⟨nc, hc⟩ := c1 x1.f2 x1.f4 x0
    obtain ⟨nb, hb⟩ := c1 x1.f2 x1.f3 x0
    obtain ⟨nt, ht⟩ := c1 x1.f2 x1.f3 x1.f4
    rw [F8_eq, f11 h2 h3 h4, f11 h2 h4 h0]
    simp only [Bool.not_true, cond_false]
    cases hq : x1.f1
    · have hne : ((x1.f2.f0 == x1.f4.f0) && (x1.f2.f1 == x1.f4.f1)) = false := by
        unfold okE eqP at hk
        rw [hq, cond_false, Bool.and_eq_true] at hk
        have := hk.1
        cases q : ((x1.f2.f0 == x1.f4.f0) && (x1.f2.f1 == x1.f4.f1))
        · rfl
        · rw [q] at this; cases this
      have e9' : F9 x0 x1 = some (S30.mk nc 0 0) := by rw [F9_eq, hq, Bool.not_false, cond_true, bnd hc]; rfl
      simp only [Bool.not_false, cond_true, cond_false]
      rw [L5_0_eq, bnd e12, cF (by omega), cF (by omega), hne, cond_false, f11 h2 h4 h0, e9']
      simp [hc, cond]
    · have e9' := e9 hq
      simp only [Bool.not_true, cond_true, cond_false]
      rw [bnd ht, bnd ht, L5_0_eq, F17_eq, e9', f11 h2 h3 h0, f11 h2 h4 h0]
      simp only [e12, Option.bind_some]
      have a1 := above_f false (f := f) (g := g) (h := h) (by omega) (by omega) (by omega)
      have a2 := above_f true (f := -f) (g := -g) (h := -h) (by omega) (by omega) (by omega)
      have r1 := every_f false (f := f) (g := g) (h := h) (by omega) (by omega) (by omega)
      have r2 := every_f true (f := -f) (g := -g) (h := -h) (by omega) (by omega) (by omega)
      have w : ∀ x : Int, -72057594037927000 ≤ x ∧ x ≤ 72057594037927000 → wr .i64 (0 - x) = -x := fun x hx => by rw [wr64 (by omega) (by omega)]; omega
      rw [w f zf, w g zg, w h zh, hc, hb, a1, a2, r1, r2]
      by_cases t1 : nt > 0
      · rw [cT t1, cF (by omega), cT t1]
        simp [cond]
      · rw [cF t1]
        by_cases t2 : nt < 0
        · rw [cT t2, cT t2]
          simp [cond]
        · rw [cF t2, cF t2, cF t1]
          cases ((x1.f2.f0 == x1.f4.f0) && (x1.f2.f1 == x1.f4.f1)) <;> simp [cond]
end Go.Proofs.Ytkpjeihgigmnkaa.Ev
