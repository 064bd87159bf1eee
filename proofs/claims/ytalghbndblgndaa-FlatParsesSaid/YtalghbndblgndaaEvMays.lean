/- Comp: what parts may be, how a point is moved: both sides. -/
import Derived.Test.YtalghbndblgndaaEvM
import Derived.Test.YtalghbndblgndaaEvG
namespace Go.Proofs.Ytalghbndblgndaa.Ev
open Go
set_option linter.unusedVariables false
set_option linter.unusedSimpArgs false
def sh (x : Int) : Bool := decide (-32768 ≤ x) && decide (x ≤ 32767)
def ptM (p : S47) (n : Int) : Bool := decide (0 ≤ p.f0) && (decide (p.f0 < n) && (sh p.f1 && (sh p.f2 && (sh p.f3 && (sh p.f4 && (sh p.f5 && sh p.f6))))))
def pm (l : List S47) (n : Int) : Bool := decide (1 ≤ n ∧ n ≤ 1024) && (decide (1 ≤ l.length ∧ l.length ≤ 64) && l.all fun p => ptM p n)
theorem l133 {l : List Int} (hl : l.length ≤ 1000) : ∀ (d i : Nat), d + i = l.length → L133_0 l (l.length : Int) (i : Int) = some ((l.drop i).all sh)
  | 0, i, h => by rw [L133_0_eq, cF (by omega), drop_nil (by omega)]; rfl
  | d + 1, i, h => by
    rw [L133_0_eq, Int.toNat_natCast, drop_rd l 0 i (by omega), List.all_cons]
    simp (disch := omega) only [cT, grd_p, inc]
    rw [l133 hl d (i + 1) (by omega)]
    unfold sh
    by_cases h1 : l.getD i 0 < -32768
    · rw [cT h1, decide_eq_false (by omega)]; rfl
    · rw [cF h1]
      by_cases h2 : l.getD i 0 > 32767
      · rw [cT h2, decide_eq_true (by omega), decide_eq_false (by omega)]; rfl
      · rw [cF h2, decide_eq_true (by omega), decide_eq_true (by omega)]; rfl
theorem f85 (p : S47) (n : Int) : F85 p n = some (ptM p n) := by
  have := l133 (l := [p.f1, p.f2, p.f3, p.f4, p.f5, p.f6]) (by simp) 6 0 rfl
  rw [Int.natCast_zero, List.drop_zero] at this
  rw [F85_eq, F133_eq, this]
  unfold ptM
  by_cases h : p.f0 ≥ 0
  · rw [cT h, decide_eq_true h]
    by_cases h2 : p.f0 < n
    · rw [cT h2, decide_eq_true h2]; simp
    · rw [cF h2, decide_eq_false h2]; rfl
  · rw [cF h, decide_eq_false h]; rfl
theorem l35 {l : List S47} {n : Int} (hl : l.length ≤ 1000) : ∀ (d i : Nat), d + i = l.length → L35_0 n l (l.length : Int) (i : Int) = some ((l.drop i).all fun p => ptM p n)
  | 0, i, h => by rw [L35_0_eq, cF (by omega), drop_nil (by omega)]; rfl
  | d + 1, i, h => by
    rw [L35_0_eq, Int.toNat_natCast, drop_rd l z1 i (by omega), List.all_cons]
    simp (disch := omega) only [cT, grd_p, inc, f85, Option.bind_some]
    rw [l35 hl d (i + 1) (by omega)]
    cases ptM (l.getD i z1) n <;> rfl
theorem f35 (l : List S47) (n : Int) : F35 l n = some (pm l n) := by
  rw [F35_eq]; unfold pm
  by_cases h1 : n < 1
  · rw [cT h1, decide_eq_false (by omega)]; rfl
  · by_cases h2 : n > 1024
    · rw [cF h1, cT h2, decide_eq_false (by omega)]; rfl
    · rw [cF h1, cF h2, decide_eq_true (show 1 ≤ n ∧ n ≤ 1024 by omega)]
      by_cases h3 : l.length = 0
      · rw [ceT (by omega), decide_eq_false (by omega)]; rfl
      · rw [ceF (by omega)]
        by_cases h4 : (l.length : Int) > 64
        · rw [cT h4, decide_eq_false (by omega)]; rfl
        · have := l35 (n := n) (l := l) (by omega) l.length 0 (by omega)
          rw [Int.natCast_zero, List.drop_zero] at this
          rw [cF h4, this, decide_eq_true (by omega)]; rfl
/-! a point, moved -/
def fl (n : Int) : Int := (n + 8192) / 16384
theorem f91 {n : Int} (h0 : -9000000000000000000 ≤ n) (h1 : n ≤ 9000000000000000000) : F91 n = some (fl n) := by
  rw [F91_eq, wr64 (by omega) (by omega), show (14 : Int) = ((14 : Nat) : Int) from rfl, shr_e (by decide)]; rfl
theorem f90 (x : Int) : F90 x = some (decide (¬ (-32767 ≤ x ∧ x ≤ 32767))) := by
  rw [F90_eq]
  by_cases h : x > 32767
  · rw [cT h, decide_eq_true (by omega)]
  · rw [cF h]; congr 1; exact decide_eq_decide.mpr (by omega)
theorem f92 {x : Int} (h0 : -9000000000000000000 ≤ x) (h1 : x ≤ 9000000000000000000) : F92 x = some (decide (-32767 ≤ x ∧ x ≤ 32767)) := by
  rw [F92_eq, wr64 (by omega) (by omega)]
  congr 1; unfold mxE; exact decide_eq_decide.mpr (by split <;> omega)
/-- What becomes of a point; where that may not be, and why. -/
def mvO (a b : Int) : Int × Int × Int := cond (decide (-32767 ≤ a ∧ a ≤ 32767)) (cond (decide (-32767 ≤ b ∧ b ≤ 32767)) (a, b, 0) (0, 0, 2)) (0, 0, 2)
def mv (p : S47) (x y : Int) : Int × Int × Int := cond (ptM p 1024) (cond (decide (-32767 ≤ x ∧ x ≤ 32767)) (cond (decide (-32767 ≤ y ∧ y ≤ 32767)) (mvO (fl (p.f3 * x + p.f5 * y) + p.f1) (fl (p.f4 * x + p.f6 * y) + p.f2)) (0, 0, 1)) (0, 0, 1)) (0, 0, 1)
theorem ptM_sh {p : S47} {n : Int} (h : ptM p n = true) : (0 ≤ p.f0 ∧ p.f0 < n) ∧ (-32768 ≤ p.f1 ∧ p.f1 ≤ 32767) ∧ (-32768 ≤ p.f2 ∧ p.f2 ≤ 32767) ∧ (-32768 ≤ p.f3 ∧ p.f3 ≤ 32767) ∧ (-32768 ≤ p.f4 ∧ p.f4 ≤ 32767) ∧ (-32768 ≤ p.f5 ∧ p.f5 ≤ 32767) ∧ (-32768 ≤ p.f6 ∧ p.f6 ≤ 32767) := by
  simpa [ptM, sh, and_assoc] using h
theorem mul_sm {a x : Int} (h1 : -32768 ≤ a ∧ a ≤ 32767) (h2 : -32767 ≤ x ∧ x ≤ 32767) : -1073741824 ≤ a * x ∧ a * x ≤ 1073741824 := by
  have := mul_bd (x := a) (y := x) (M := 32768) (N := 32768) (by omega) (by omega) (by omega) (by omega)
  omega
theorem f42 (p : S47) (x y : Int) : F42 p x y = some (mv p x y) := by
  rw [F42_eq, f85]
  unfold mv
  simp only [Option.bind_some]
  cases hp : ptM p 1024
  · rfl
  · obtain ⟨_, q1, q2, q3, q4, q5, q6⟩ := ptM_sh hp
    rw [Bool.not_true, cond_false, cond_true, f90]
    simp only [Option.bind_some]
    by_cases hx : -32767 ≤ x ∧ x ≤ 32767
    · rw [decide_eq_false (fun h => h hx), decide_eq_true hx, cond_false, cond_true, f90]
      simp only [Option.bind_some]
      by_cases hy : -32767 ≤ y ∧ y ≤ 32767
      · rw [decide_eq_false (fun h => h hy), decide_eq_true hy, cond_false, cond_true, L42_0_eq]
        have m1 := mul_sm q3 hx
        have m2 := mul_sm q5 hy
        have m3 := mul_sm q4 hx
        have m4 := mul_sm q6 hy
        rw [wr64 (n := p.f3 * x) (by omega) (by omega), wr64 (n := p.f5 * y) (by omega) (by omega), wr64 (n := p.f4 * x) (by omega) (by omega), wr64 (n := p.f6 * y) (by omega) (by omega), wr64 (n := p.f3 * x + p.f5 * y) (by omega) (by omega), wr64 (n := p.f4 * x + p.f6 * y) (by omega) (by omega), f91 (by omega) (by omega), f91 (by omega) (by omega)]
        have b1 : -200000 ≤ fl (p.f3 * x + p.f5 * y) ∧ fl (p.f3 * x + p.f5 * y) ≤ 200000 := by unfold fl; omega
        have b2 : -200000 ≤ fl (p.f4 * x + p.f6 * y) ∧ fl (p.f4 * x + p.f6 * y) ≤ 200000 := by unfold fl; omega
        simp only [Option.bind_some]
        generalize fl (p.f3 * x + p.f5 * y) = a at *
        generalize fl (p.f4 * x + p.f6 * y) = b at *
        rw [wr64 (n := a + p.f1) (by omega) (by omega), wr64 (n := b + p.f2) (by omega) (by omega), f92 (by omega) (by omega), f92 (by omega) (by omega)]
        simp only [Option.bind_some]
        unfold mvO
        cases decide (-32767 ≤ a + p.f1 ∧ a + p.f1 ≤ 32767) <;> cases decide (-32767 ≤ b + p.f2 ∧ b + p.f2 ≤ 32767) <;> rfl
      · rw [decide_eq_true hy, decide_eq_false hy]; rfl
    · rw [decide_eq_true hx, decide_eq_false hx]; rfl
end Go.Proofs.Ytalghbndblgndaa.Ev
