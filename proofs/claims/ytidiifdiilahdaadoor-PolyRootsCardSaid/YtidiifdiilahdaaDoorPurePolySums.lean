/- The pure law PolySums: sums, differences, products and derivatives of polynomials are the reference's. -/
import Derived.Test.YtidiifdiilahdaaDoorEvPolyC
import Derived.Test.YtidiifdiilahdaaDoorEvV
import Derived.Test.YtidiifdiilahdaaDoorEvW
namespace Go.Proofs.YtidiifdiilahdaaDoor.Ev
open Go Go.Proofs.YtidiifdiilahdaaDoor.EvP
set_option linter.unusedVariables false
set_option linter.unusedSimpArgs false
theorem small_l {P : List S31} (hl : P.length ≤ 13) : ∀ (d i : Nat), i + d = P.length → ∃ b, L8_0 P (P.length : Int) (i : Int) = some b ∧ (b = true → ∀ a ∈ P.drop i, a.f1.length ≤ 10)
  | 0, i, h => ⟨true, by rw [L8_0_eq, cF (by omega)], fun _ a ha => by rw [List.drop_eq_nil_of_le (by omega)] at ha; cases ha⟩
  | d + 1, i, h => by
    obtain ⟨b, h1, h2⟩ := small_l hl d (i + 1) (by omega)
    rw [L8_0_eq, cT (by omega), grd_p (by omega), grd_p (by omega), Int.toNat_natCast, EvP.inc (by omega)]
    by_cases c : ((P.getD i z0).f1.length : Int) > 10
    · exact ⟨false, by rw [cT c], fun q => by cases q⟩
    · refine ⟨b, by rw [cF c]; exact h1, fun q a ha => ?_⟩
      rw [drop_rd P z0 i (by omega)] at ha
      rcases List.mem_cons.1 ha with e | e
      · subst e; omega
      · exact h2 q a e
theorem small_f (P : List S31) : ∃ b, F8 P = some b ∧ (b = true → P.length ≤ 13 ∧ ∀ a ∈ P, a.f1.length ≤ 10) := by
  by_cases c : (P.length : Int) > 13
  · exact ⟨false, by rw [F8_eq, cT c], fun q => by cases q⟩
  · obtain ⟨b, h1, h2⟩ := small_l (P := P) (by omega) P.length 0 (by omega)
    exact ⟨b, by rw [F8_eq, cF c]; exact h1, fun q => ⟨by omega, by have := h2 q; rwa [List.drop_zero] at this⟩⟩
theorem small_rps {P : List S31} (hw : ∀ x ∈ P, wf31 x) (h : ∀ a ∈ P, a.f1.length ≤ 10) : Rps 10 P := fun a ha =>
  ⟨fun x hx => u32_of ((hw a ha).2.2.2 x hx), h a ha⟩
theorem sums_f {P Q : List S31} (hP : Rps 10 P) (hQ : Rps 10 Q) (lP : P.length ≤ 13) (lQ : Q.length ≤ 13) : L6_0 P Q = some true := by
  have sP := hP.szs
  have sQ := hQ.szs
  have tP := sP.tz
  have tQ := sQ.tz
  have nP := tz_len (pv P)
  have nQ := tz_len (pv Q)
  rw [pv_len] at nP nQ
  have a1 : Szs 40000 (padd (pv P) (pv Q)) := pol_szs fun i _ => (sz_add (sP.rd i) (sQ.rd i)).le (by omega)
  have a2 : Szs 40000 (psub (pv P) (pv Q)) := pol_szs fun i _ => (sz_sub (sP.rd i) (sQ.rd i)).le (by omega)
  have a3 : Szs 40000 (pmul (pv P) (pv Q)) := pol_szs fun i _ => (csum_sz (e := 20) (fun j _ => (sz_mul (sP.rd j) (sQ.cof _)).le (by omega)) (by rw [pv_len]; omega)).le (by omega)
  have a4 : Szs 40000 (pder (pv P)) := pol_szs fun i hi => (sz_mul (sP.rd _) (sz_i64 (x := ((i + 1 : Nat) : Int)) (by omega) (by rw [pv_len] at hi; omega))).le (by omega)
  have n1 := pol_len (max (pv P).length (pv Q).length) fun i => coef (pv P) i + coef (pv Q) i
  have n2 := pol_len (max (pv P).length (pv Q).length) fun i => coef (pv P) i - coef (pv Q) i
  have n3 := pol_len ((pv P).length + (pv Q).length) fun n => csum (pv P).length (cterm (pv P) (pv Q) n)
  have n4 := pol_len ((pv P).length - 1) fun i => coef (pv P) (i + 1) * ((i + 1 : Nat) : Int)
  rw [pv_len] at n1 n2 n3 n4
  rw [pv_len] at n1 n2 n3
  have n1' : (padd (pv P) (pv Q)).length ≤ 1000000 := by unfold padd; rw [pv_len, pv_len]; omega
  have n2' : (psub (pv P) (pv Q)).length ≤ 1000000 := by unfold psub; rw [pv_len, pv_len]; omega
  have n3' : (pmul (pv P) (pv Q)).length ≤ 1000000 := by unfold pmul; rw [pv_len, pv_len]; omega
  have n4' : (pder (pv P)).length ≤ 1000000 := by unfold pder; rw [pv_len]; omega
  rw [L6_0_eq, bnd (pfrom_r (hP.le (by omega)) (by omega)), bnd (pfrom_r (hQ.le (by omega)) (by omega)),
    bnd (padd_r (hP.le (by omega)) (hQ.le (by omega)) (by omega) (by omega)), bnd (rpadd_s (tP.le (by omega)) (tQ.le (by omega)) (by omega) (by omega)), padd_tz, bnd (psame_f a1 n1'), cond_true,
    bnd (psub_r (hP.le (by omega)) (hQ.le (by omega)) (by omega) (by omega)), bnd (rpsub_s (tP.le (by omega)) (tQ.le (by omega)) (by omega) (by omega)), psub_tz, bnd (psame_f a2 n2'), cond_true,
    bnd (pmul_r (hP.le (by omega)) (hQ.le (by omega)) (by omega) (by omega)), bnd (rpmul_s (tP.le (by omega)) (tQ.le (by omega)) (by omega) (by omega)), pmul_tz, bnd (psame_f a3 n3'), cond_true,
    bnd (pder_r (hP.le (by omega)) (by omega)), bnd (rpder_s (tP.le (by omega)) (by omega)), pder_tz, bnd (psame_f a4 n4'), cond_true,
    bnd (degree_r (hP.le (by omega)) (by omega)), List.length_map, show wr .i64 (((tz (pv P)).length : Int) - 1) = ((tz (pv P)).length : Int) - 1 from w64 (by omega) (by omega), beq_self_eq_true]
theorem Pure.PolySums (x0 : List S31) (x1 : List S31) : (x0.length * 32 ≤ 140737488351232 ∧ x0.length ≤ 9223372036854775807 ∧ ∀ x ∈ x0, wf31 x) → (x1.length * 32 ≤ 140737488351232 ∧ x1.length ≤ 9223372036854775807 ∧ ∀ x ∈ x1, wf31 x) → F6 x0 x1 = some true := by
  rintro ⟨_, _, w0⟩ ⟨_, _, w1⟩
  obtain ⟨b, h1, h2⟩ := small_f x0
  obtain ⟨c, g1, g2⟩ := small_f x1
  rw [F6_eq, bnd F7_true, Bool.not_true, cond_false, bnd h1]
  cases b
  · rfl
  · rw [Bool.not_true, cond_false, bnd g1]
    cases c
    · rfl
    · rw [Bool.not_true, cond_false]
      obtain ⟨l0, s0⟩ := h2 rfl
      obtain ⟨l1, s1⟩ := g2 rfl
      exact sums_f (small_rps w0 s0) (small_rps w1 s1) l0 l1
end Go.Proofs.YtidiifdiilahdaaDoor.Ev
