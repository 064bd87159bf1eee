/- The pure law PolyRests: what is left of a polynomial, divided by another one, is the reference's; it is of a lesser degree. -/
import Derived.Test.YtidiifdiilahdaaDoorEvPolyD
import Derived.Test.YtidiifdiilahdaaDoorPurePolySums
namespace Go.Proofs.YtidiifdiilahdaaDoor.Ev
open Go Go.Proofs.YtidiifdiilahdaaDoor.EvP
set_option linter.unusedVariables false
set_option linter.unusedSimpArgs false
theorem padd_nil (L : List Int) : padd L [] = tz L := tz_ext fun i => by
  rw [coef_range]
  split
  · simp [coef]
  · rw [coef_ge (L := L)]; simp at *; omega
theorem rest_f {P Q : List S31} (hP : Rps 10 P) (hQ : Rps 10 Q) (lP : P.length ≤ 13) (lQ : Q.length ≤ 13) : L4_0 P Q = some true := by
  have tP := hP.szs.tz
  have tQ := hQ.szs.tz
  have nP := tz_len (pv P)
  have nQ := tz_len (pv Q)
  rw [pv_len] at nP nQ
  have hQ' : Rps 10 (Q.take (tz (pv Q)).length) := hQ.take _
  have eQ' := pv_take Q
  have lQ' : (Q.take (tz (pv Q)).length).length = (tz (pv Q)).length := by rw [List.length_take]; omega
  rw [L4_0_eq, F18_eq, bnd (ptrim_r (hQ.le (by omega)) (by omega))]
  by_cases c : tz (pv Q) = []
  · rw [lQ', c]
    simp only [List.length_nil, Int.natCast_zero, beq_self_eq_true, cond_true, Option.bind_some]
    rw [bnd (pfrom_r (hP.le (by omega)) (by omega)), bnd (pfrom_r (hQ.le (by omega)) (by omega)), c]
    rfl
  · have n0 : (tz (pv Q)).length ≠ 0 := fun q => c (List.eq_nil_of_length_eq_zero q)
    have d0 : wr .i64 (((tz (pv Q)).length : Int) - 1) = (((tz (pv Q)).length - 1 : Nat) : Int) := (w64 (by omega) (by omega)).trans (by omega)
    have ne' : Q.take (tz (pv Q)).length ≠ [] := fun q => by rw [q] at lQ'; simp at lQ'; omega
    have zhi : Rp 10 ((Q.take (tz (pv Q)).length).getD ((tz (pv Q)).length - 1) z0) := hQ'.rd _
    have ehi : bv ((Q.take (tz (pv Q)).length).getD ((tz (pv Q)).length - 1) z0) = top (pv (Q.take (tz (pv Q)).length)) := by
      rw [pv_rd]; unfold top; rw [eQ']
    obtain ⟨r1, r2, r3⟩ := rest_l hQ' ne' zhi ehi 100 (tz (pv P)) 10 (by omega) (by omega) tP (by omega)
    rw [eQ'] at r1 r2 r3
    have s1 := rrest_l tQ c 100 (tz (pv P)) 10 (by omega) (by omega) tP (by omega)
    have b0 : (((tz (pv Q)).length : Int) == 0) = false := by simpa using c
    rw [lQ'] at r2 ⊢
    rw [b0, cond_false, d0, grd_p (by omega), grd_p (by omega), bnd (padd_r (hP.le (by omega)) (Q := []) (fun a ha => by cases ha) (by omega) (by simp)), Int.toNat_natCast]
    rw [show pv ([] : List S31) = [] from rfl, padd_nil, r1, Option.bind_some, bnd (pfrom_r (hP.le (by omega)) (by omega)), bnd (pfrom_r (hQ.le (by omega)) (by omega))]
    simp only [List.length_map]
    rw [b0, cond_false, show ((0 : Int) == 0) = true from rfl, cond_true, F19_eq, List.length_map, d0, grd_p (by omega), grd_p (by omega), Int.toNat_natCast, map_rd rb z2 rb_zero]
    have s1' : L19_0 ((tz (pv P)).map rb) ((tz (pv Q)).map rb) (rb (coef (tz (pv Q)) ((tz (pv Q)).length - 1))) = _ := s1
    rw [s1', Option.bind_some, bnd (psame_f (r3.le (by omega)) (by omega)), cond_true, decide_eq_true (by omega)]
theorem Pure.PolyRests (x0 : List S31) (x1 : List S31) : (x0.length * 32 ≤ 140737488351232 ∧ x0.length ≤ 9223372036854775807 ∧ ∀ x ∈ x0, wf31 x) → (x1.length * 32 ≤ 140737488351232 ∧ x1.length ≤ 9223372036854775807 ∧ ∀ x ∈ x1, wf31 x) → F4 x0 x1 = some true := by
  rintro ⟨_, _, w0⟩ ⟨_, _, w1⟩
  obtain ⟨b, h1, h2⟩ := small_f x0
  obtain ⟨c, g1, g2⟩ := small_f x1
  rw [F4_eq, bnd F7_true, Bool.not_true, cond_false, bnd h1]
  cases b
  · rfl
  · rw [Bool.not_true, cond_false, bnd g1]
    cases c
    · rfl
    · rw [Bool.not_true, cond_false]
      obtain ⟨l0, s0⟩ := h2 rfl
      obtain ⟨l1, s1⟩ := g2 rfl
      exact rest_f (small_rps w0 s0) (small_rps w1 s1) l0 l1
end Go.Proofs.YtidiifdiilahdaaDoor.Ev
