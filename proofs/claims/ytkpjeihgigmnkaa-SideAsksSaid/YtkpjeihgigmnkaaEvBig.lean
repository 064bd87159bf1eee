/- Layer 2: whole numbers of any size, by digits of 32 bits in their one form: sums, from 64 bits, sign. -/
import Derived.Test.YtkpjeihgigmnkaaEvG
import Derived.Test.YtkpjeihgigmnkaaEvM
import Derived.Test.YtkpjeihgigmnkaaNumB
namespace Go.Proofs.Ytkpjeihgigmnkaa.Ev
open Go Go.Proofs.Ytkpjeihgigmnkaa.NumB
set_option linter.unusedVariables false
set_option linter.unusedSimpArgs false
theorem brd {l : List Int} (n : Nat) : l.getD (Int.toNat (n : Int)) 0 = at_ l n := by unfold at_; rw [Int.toNat_natCast]
theorem sd_of {a : Bool} {v : Int} (h : 0 ≤ v) : sd (if a = true then -v else v) = if v = 0 then (false, []) else (a, cd v.toNat) := by
  unfold sd
  by_cases c : v = 0
  · rw [if_pos c, c]; cases a <;> simp [cd_zero]
  · rw [if_neg c]
    cases a
    · simp only [Bool.false_eq_true, if_false]
      rw [decide_eq_false (by omega)]; congr 2; omega
    · simp only [if_true]
      rw [decide_eq_true (by omega)]; congr 2; omega
theorem at_set {l : List Int} {i j : Nat} {v : Int} (h : i ≠ j) : at_ (l.set i v) j = at_ l j := by
  simp [at_, List.getD, List.getElem?_set, h]
theorem shr64 (x : Int) (n : Nat) (h : n ≤ 64) : shrE IntKind.u64 x (n : Int) = x / 2 ^ n := shr_e (k := .u64) h
theorem can_len {a b : List Int} (ha : CanF a) (hb : CanF b) (h : a.length < b.length) : val a < val b := by
  have h1 := val_bd ha.1
  have hb0 : b ≠ [] := fun q => by rw [q] at h; simp at h
  have e := can_cd hb
  rcases Int.lt_or_le (val b) (4294967296 ^ a.length) with q | q
  · exfalso
    have hv := (val_bd hb.1).1
    have := cd_len (z := (val b).toNat) (n := a.length) (by rw [Int.toNat_of_nonneg hv]; exact q)
    rw [← e] at this
    omega
  · omega
theorem sd_zero : sd 0 = (false, []) := by unfold sd; rw [show (0 : Int).natAbs = 0 from rfl, cd_zero]; rfl
theorem two_val (u : Int) (h0 : 0 ≤ u) (h1 : u < 18446744073709551616) : Dig [u % 4294967296, u / 4294967296 % 4294967296] ∧ val [u % 4294967296, u / 4294967296 % 4294967296] = u := by
  refine ⟨fun x hx => ?_, ?_⟩
  · simp at hx; rcases hx with rfl | rfl <;> omega
  · simp only [val]; omega
end Go.Proofs.Ytkpjeihgigmnkaa.Ev
