/- A number of two words, times four. Seat r9's numbers. -/
import Derived.Test.YtkpjeihgigmnkaaEvSideE
import Derived.Test.YtkpjeihgigmnkaaEvWide
import Derived.Test.YtkpjeihgigmnkaaEvByA
namespace Go.Proofs.Ytkpjeihgigmnkaa.Ev
open Go
open Go.Proofs.Ytkpjeihgigmnkaa.EvN (len_f Bits shl_e)
set_option linter.unusedVariables false
set_option linter.unusedSimpArgs false
theorem or64 {x y : Int} (i : Nat) (hx0 : 0 ≤ x) (hx : x % 2 ^ i = 0) (hx1 : x < 18446744073709551616) (hy0 : 0 ≤ y) (hy : y < 2 ^ i) (hy1 : y < 18446744073709551616) : orE IntKind.u64 x y = x + y :=
  bits_join .u64 64 (by decide) (fun n h0 h1 => wu64 h0 h1) i x y hx0 hx hx1 hy0 hy hy1
theorem bits_le {x t : Nat} (h : Bits x t) (hx : x < 2 ^ 49) : t ≤ 49 := by
  rcases Nat.lt_or_ge 49 t with q | q
  · exfalso
    have h1 := h.2.1 (by
      rcases Nat.eq_zero_or_pos x with e | e
      · have := h.2.2 e; omega
      · exact e)
    have h2 : 2 ^ 49 ≤ 2 ^ (t - 1) := Nat.pow_le_pow_right (by omega) (by omega)
    omega
  · exact q
theorem shift2 {n : Int} (h0 : 0 < n) (h1 : n ≤ 5192296858534827628530496329220096) : F22 (wd n) 2 = some (wd (4 * n), 0) := by
  have hz : ((wd n).f0 == 0 && (wd n).f1 == 0) = false := by
    unfold wd; simp; omega
  have hb : ∃ y : Int, F35 (wd n) = some y ∧ 0 ≤ y ∧ y ≤ 126 := by
    rw [F35_eq]
    unfold wd
    simp only
    by_cases ha : n / 18446744073709551616 = 0
    · obtain ⟨x, hx⟩ := Int.eq_ofNat_of_zero_le (a := n % 18446744073709551616) (by omega)
      obtain ⟨t, t1, _, t3⟩ := len_f (x := x) (by omega)
      rw [cnF ha, hx, bnd t1]
      exact ⟨_, rfl, by omega, by omega⟩
    · obtain ⟨x, hx⟩ := Int.eq_ofNat_of_zero_le (a := n / 18446744073709551616) (by omega)
      obtain ⟨t, t1, t2, t3⟩ := len_f (x := x) (by omega)
      have := bits_le t2 (by omega)
      rw [cnT ha, hx, bnd t1, wr64 (by omega) (by omega)]
      exact ⟨_, rfl, by omega, by omega⟩
  obtain ⟨y, hy, y0, y1⟩ := hb
  have s1 : ∀ x : Int, shlE IntKind.u64 x 2 = (x * 2 ^ 2) % 18446744073709551616 := fun x => shl_e (n := 2) (by omega)
  have s3 : ∀ x : Int, shrE IntKind.u64 x 62 = x / 2 ^ 62 := fun x => shr_e (n := 62) (by decide)
  have w2 : wr .u64 2 = 2 := wu64 (by omega) (by omega)
  have w62 : wr .u64 (64 - 2) = 62 := wu64 (by omega) (by omega)
  rw [F22_eq, hz, cond_false, cF (by omega), L22_0_eq, cF (by omega), bnd hy, wr64 (by omega) (by omega), cF (by omega), w2, F36_eq, cF (by omega), grd_p (by omega), w62, grd_p (by omega), grd_p (by omega), s1, s1, s3]
  unfold wd
  simp only
  rw [or64 2 (by omega) (by omega) (by omega) (by omega) (by omega) (by omega)]
  simp only [Option.bind_some]
  congr 3 <;> omega
end Go.Proofs.Ytkpjeihgigmnkaa.Ev
