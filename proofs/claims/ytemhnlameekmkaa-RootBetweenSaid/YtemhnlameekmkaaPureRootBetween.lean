/- The pure law RootBetween: a root's square is not above the number, that of one more is; Whole and Below say so, too. -/
import Derived.Test.YtemhnlameekmkaaXRootRootM
import Derived.Test.YtemhnlameekmkaaXRootx11
namespace Go.Proofs.Ytemhnlameekmkaa.Pure
open Go.RowKit Go.Proofs.Ytemhnlameekmkaa.XRoot Go.Proofs.Ytemhnlameekmkaa.XM Go.Proofs.Ytemhnlameekmkaa.NumM Go.Proofs.YtemhnlameekmkaaW.PrintWords Go.Proofs.YtemhnlameekmkaaW.PrintLast Go.Proofs.YtemhnlameekmkaaW.PrintMore
set_option linter.unusedVariables false

theorem between_awake : Ev (fun k => pochoirlaw04_awake.f k) true :=
  Ev.of (g := fun k => pochoirlaw04_awake.f k) pochoirlaw04_awake.mono (k := 90) (by decide +kernel)

theorem RootBetween : pochoirlaw04_RootBetween.Pure := by
  intro n hn0
  refine Ev.rounds (g := fun k => pochoirlaw04_RootBetween.f k n) ?_
  have hn : Word n := u64_of hn0
  have h0 : Word 0 := ⟨by omega, by omega⟩
  have h1 : Word 1 := ⟨by omega, by omega⟩
  obtain ⟨r, r1, r2, r3⟩ := rootfloor_ev hn
  obtain ⟨s, s1, s2, s3⟩ := rootwide_ev h0 hn
  obtain rfl := r3.unique (by omega) s3
  obtain ⟨q0, q1, q2⟩ := r3
  have e0 : wide 0 n = n := by unfold wide; omega
  have e1 : wide 0 1 = 1 := by unfold wide; omega
  rw [e0] at q1 q2
  rw [Int.mul_one] at q1 q2
  have hr : r < 4294967296 := by
    rcases Int.lt_or_le r 4294967296 with h | h
    · exact h
    · have h2 : (4294967296 : Int) * 4294967296 ≤ r * r := Int.mul_le_mul h h (by omega) q0
      have := hn.2; omega
  have hsq : IntKind.u64.wrap (r * r) = r * r := wu64 (mul_nn q0 q0) (by have := hn.2; omega)
  have hr1 : Word (r + 1) := ⟨by omega, by omega⟩
  have hw1 : IntKind.u64.wrap (r + 1) = r + 1 := wu64 hr1.1 hr1.2
  have b1 := below_ev r2 h0 hn h0 h1
  have b2 := below_ev hr1 h0 hn h0 h1
  rw [e0, e1, Int.mul_one] at b1 b2
  rw [decide_eq_true q1] at b1
  rw [decide_eq_false q2] at b2
  have wh := rootwhole_ev h0 hn r2 s1
  rw [e0] at wh
  unfold pochoirlaw04_RootBetween.f
  refine Ev.bind between_awake ?_
  have tail : Ev (fun k => (root_Whole.f k 0 n).bind fun t257 => (if (t257 == ((IntKind.u64.wrap (r * r)) == n)) = true then ((root_Below.f k r 0 n 0 1).bind fun t258 => (if t258 = true then ((root_Below.f k (IntKind.u64.wrap (r + 1)) 0 n 0 1).bind fun t259 => (some (!t259))) else (some false))) else (some false))) true := by
    refine Ev.bind wh ?_
    have e : (decide (r * r = n) == (IntKind.u64.wrap (r * r) == n)) = true := by
      rw [hsq]; by_cases c : r * r = n <;> simp [c]
    simp only [e, if_true]
    refine Ev.bind b1 ?_
    simp only [if_true, hw1]
    exact Ev.bind b2 (Ev.some rfl)
  refine Ev.step (f := fun k => (root_Floor.f k n).bind fun t256 => (if t256 < 4294967296 then (if (IntKind.u64.wrap (t256 * t256)) ≤ n then (if t256 = 4294967295 then ((root_Whole.f k 0 n).bind fun t257 => (if (t257 == ((IntKind.u64.wrap (t256 * t256)) == n)) = true then ((root_Below.f k t256 0 n 0 1).bind fun t258 => (if t258 = true then ((root_Below.f k (IntKind.u64.wrap (t256 + 1)) 0 n 0 1).bind fun t259 => (some (!t259))) else (some false))) else (some false))) else (if (IntKind.u64.wrap ((IntKind.u64.wrap (t256 + 1)) * (IntKind.u64.wrap (t256 + 1)))) > n then ((root_Whole.f k 0 n).bind fun t260 => (if (t260 == ((IntKind.u64.wrap (t256 * t256)) == n)) = true then ((root_Below.f k t256 0 n 0 1).bind fun t261 => (if t261 = true then ((root_Below.f k (IntKind.u64.wrap (t256 + 1)) 0 n 0 1).bind fun t262 => (some (!t262))) else (some false))) else (some false))) else (some false))) else (some false)) else (some false))) (fun k => rfl) ?_
  refine Ev.bind r1 ?_
  simp only [if_pos hr]
  rw [hsq] at tail ⊢
  simp only [if_pos q1]
  by_cases c : r = 4294967295
  · simp only [if_pos c]; exact tail
  · simp only [if_neg c]
    have hr2 : (r + 1) * (r + 1) ≤ 4294967295 * 4294967295 := Int.mul_le_mul (by omega) (by omega) (by omega) (by omega)
    have g : IntKind.u64.wrap (IntKind.u64.wrap (r + 1) * IntKind.u64.wrap (r + 1)) > n := by
      rw [hw1, wu64 (mul_nn hr1.1 hr1.1) (by omega)]; omega
    simp only [if_pos g]; exact tail

end Go.Proofs.Ytemhnlameekmkaa.Pure
