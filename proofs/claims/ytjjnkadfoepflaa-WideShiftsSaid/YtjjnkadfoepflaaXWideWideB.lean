/- Layer 1: how many places. -/
import Derived.Test.YtjjnkadfoepflaaXWideWideA
import Derived.Test.YtjjnkadfoepflaaXWidex3

namespace Go.Proofs.Ytjjnkadfoepflaa.XWide
open Go.RowKit Go.Proofs.Ytjjnkadfoepflaa.XM Go.Proofs.Ytjjnkadfoepflaa.NumM Go.Proofs.YtjjnkadfoepflaaW.PrintWords Go.Proofs.YtjjnkadfoepflaaW.PrintLast Go.Proofs.YtjjnkadfoepflaaW.PrintMore
set_option linter.unusedVariables false

/-! places -/
def bl (n : Int) : Int := if n ≤ 0 then 0 else (Nat.log2 n.toNat : Int) + 1
theorem bl_lt {n : Int} (h : 0 ≤ n) : n < 2 ^ (bl n).toNat := by
  unfold bl
  split
  · simp; omega
  · obtain ⟨m, rfl⟩ := Int.eq_ofNat_of_zero_le h
    have : (m : Nat) < 2 ^ (Nat.log2 m + 1) := (Nat.log2_lt (by omega)).1 (Nat.lt_succ_self _)
    simp only [Int.toNat_natCast]
    rw [show ((Nat.log2 m : Int) + 1).toNat = Nat.log2 m + 1 by omega]
    exact_mod_cast this
theorem bl_nn (n : Int) : 0 ≤ bl n := by unfold bl; split <;> omega
theorem bl_shift {n : Int} (s : Nat) (h : 2 ^ s ≤ n) : bl n = bl (n / 2 ^ s) + s := by
  have hp : (0 : Int) < 2 ^ s := Int.pow_pos (by decide)
  obtain ⟨m, rfl⟩ := Int.eq_ofNat_of_zero_le (show 0 ≤ n by omega)
  have hm : 2 ^ s ≤ m := by exact_mod_cast h
  have hps : 0 < 2 ^ s := Nat.two_pow_pos s
  have hq : 0 < m / 2 ^ s := Nat.div_pos hm hps
  have e : ((m : Int) / 2 ^ s) = ((m / 2 ^ s : Nat) : Int) := by simp
  rw [e]
  unfold bl
  rw [if_neg (by omega), if_neg (by omega)]
  simp only [Int.toNat_natCast]
  have : Nat.log2 m = Nat.log2 (m / 2 ^ s) + s := by
    apply Nat.le_antisymm
    · apply Nat.le_of_lt_succ
      rw [Nat.log2_lt (by omega), show (Nat.log2 (m / 2 ^ s) + s).succ = (Nat.log2 (m / 2 ^ s) + 1) + s by omega, Nat.pow_add]
      have := (Nat.log2_lt (n := m / 2 ^ s) (k := Nat.log2 (m / 2 ^ s) + 1) (by omega)).1 (by omega)
      exact (Nat.div_lt_iff_lt_mul hps).1 this
    · rw [Nat.le_log2 (by omega), Nat.pow_add]
      have := Nat.log2_self_le (n := m / 2 ^ s) (by omega)
      exact (Nat.le_div_iff_mul_le hps).1 this
  omega
theorem bl_le {n : Int} (b : Nat) (h : n < 2 ^ b) : bl n ≤ b := by
  unfold bl
  split
  · omega
  · obtain ⟨m, rfl⟩ := Int.eq_ofNat_of_zero_le (show 0 ≤ n by omega)
    have hm : m < 2 ^ b := by exact_mod_cast h
    have := (Nat.log2_lt (n := m) (k := b) (by omega)).2 hm
    simp only [Int.toNat_natCast]
    omega

theorem tab_bl : ∀ i : Fin 256, bt (⟨#[0, 1, 2, 2, 3, 3, 3, 3, 4, 4, 4, 4, 4, 4, 4, 4, 5, 5, 5, 5, 5, 5, 5, 5, 5, 5, 5, 5, 5, 5, 5, 5, 6, 6, 6, 6, 6, 6, 6, 6, 6, 6, 6, 6, 6, 6, 6, 6, 6, 6, 6, 6, 6, 6, 6, 6, 6, 6, 6, 6, 6, 6, 6, 6, 7, 7, 7, 7, 7, 7, 7, 7, 7, 7, 7, 7, 7, 7, 7, 7, 7, 7, 7, 7, 7, 7, 7, 7, 7, 7, 7, 7, 7, 7, 7, 7, 7, 7, 7, 7, 7, 7, 7, 7, 7, 7, 7, 7, 7, 7, 7, 7, 7, 7, 7, 7, 7, 7, 7, 7, 7, 7, 7, 7, 7, 7, 7, 7, 8, 8, 8, 8, 8, 8, 8, 8, 8, 8, 8, 8, 8, 8, 8, 8, 8, 8, 8, 8, 8, 8, 8, 8, 8, 8, 8, 8, 8, 8, 8, 8, 8, 8, 8, 8, 8, 8, 8, 8, 8, 8, 8, 8, 8, 8, 8, 8, 8, 8, 8, 8, 8, 8, 8, 8, 8, 8, 8, 8, 8, 8, 8, 8, 8, 8, 8, 8, 8, 8, 8, 8, 8, 8, 8, 8, 8, 8, 8, 8, 8, 8, 8, 8, 8, 8, 8, 8, 8, 8, 8, 8, 8, 8, 8, 8, 8, 8, 8, 8, 8, 8, 8, 8, 8, 8, 8, 8, 8, 8, 8, 8, 8, 8, 8, 8, 8, 8, 8, 8, 8, 8, 8, 8, 8, 8, 8, 8]⟩ : ByteArray) (i.val : Int) = bl (i.val : Int) := by decide +kernel
theorem tab_f {i : Int} (h0 : 0 ≤ i) (h1 : i < 256) : bt (⟨#[0, 1, 2, 2, 3, 3, 3, 3, 4, 4, 4, 4, 4, 4, 4, 4, 5, 5, 5, 5, 5, 5, 5, 5, 5, 5, 5, 5, 5, 5, 5, 5, 6, 6, 6, 6, 6, 6, 6, 6, 6, 6, 6, 6, 6, 6, 6, 6, 6, 6, 6, 6, 6, 6, 6, 6, 6, 6, 6, 6, 6, 6, 6, 6, 7, 7, 7, 7, 7, 7, 7, 7, 7, 7, 7, 7, 7, 7, 7, 7, 7, 7, 7, 7, 7, 7, 7, 7, 7, 7, 7, 7, 7, 7, 7, 7, 7, 7, 7, 7, 7, 7, 7, 7, 7, 7, 7, 7, 7, 7, 7, 7, 7, 7, 7, 7, 7, 7, 7, 7, 7, 7, 7, 7, 7, 7, 7, 7, 8, 8, 8, 8, 8, 8, 8, 8, 8, 8, 8, 8, 8, 8, 8, 8, 8, 8, 8, 8, 8, 8, 8, 8, 8, 8, 8, 8, 8, 8, 8, 8, 8, 8, 8, 8, 8, 8, 8, 8, 8, 8, 8, 8, 8, 8, 8, 8, 8, 8, 8, 8, 8, 8, 8, 8, 8, 8, 8, 8, 8, 8, 8, 8, 8, 8, 8, 8, 8, 8, 8, 8, 8, 8, 8, 8, 8, 8, 8, 8, 8, 8, 8, 8, 8, 8, 8, 8, 8, 8, 8, 8, 8, 8, 8, 8, 8, 8, 8, 8, 8, 8, 8, 8, 8, 8, 8, 8, 8, 8, 8, 8, 8, 8, 8, 8, 8, 8, 8, 8, 8, 8, 8, 8, 8, 8, 8, 8]⟩ : ByteArray) i = bl i := by
  obtain ⟨n, rfl⟩ := Int.eq_ofNat_of_zero_le h0
  exact tab_bl ⟨n, by omega⟩
theorem bl_small {x : Int} (h0 : 0 ≤ x) (h : x < 65536) : ∀ n, 0 ≤ n → n ≤ 100 → (if x ≥ 256 then (if 0 ≤ ((x / 256) % 256) then (if ((x / 256) % 256) < 256 then (some (wrap64 ((wrap64 (n + 8)) + (wrap64 (bl ((x / 256) % 256)))))) else none) else none) else (if 0 ≤ (x % 256) then (if (x % 256) < 256 then (some (wrap64 (n + (wrap64 (bl (x % 256)))))) else none) else none)) = some (n + bl x) := by
  intro n hn0 hn
  by_cases c : x ≥ 256
  · have e := bl_shift (n := x) 8 (by omega)
    have e2 : x / 256 % 256 = x / 2 ^ 8 := by omega
    have b := bl_le (n := x / 2 ^ 8) 8 (by omega)
    have b0 := bl_nn (x / 2 ^ 8)
    rw [if_pos c, e2, if_pos (by omega), if_pos (by omega), w64 (n := bl _) (by omega) (by omega), w64 (n := n + 8) (by omega) (by omega), w64 (by omega) (by omega), e]
    congr 1; omega
  · have e2 : x % 256 = x := by omega
    have b := bl_le (n := x) 8 (by omega)
    have b0 := bl_nn x
    rw [if_neg c, e2, if_pos (by omega), if_pos (by omega), w64 (n := bl _) (by omega) (by omega), w64 (by omega) (by omega)]
theorem len_j {x : Int} (h0 : 0 ≤ x) (h : x < 4294967296) (n : Int) (hn0 : 0 ≤ n) (hn : n ≤ 50) : Ev (fun k => bits_Len64.j0 k x n) (n + bl x) := by
  refine Ev.step (f := fun _ => some (n + bl x)) (fun k => ?_) (Ev.now _)
  rw [bits_Len64.j0]
  by_cases c : x ≥ 65536
  · rw [if_pos c]
    have e := bl_shift (n := x) 16 (by omega)
    rw [show x / 2 ^ 16 = x / 65536 by omega] at e
    have s := bl_small (x := x / 65536) (by omega) (by omega) (n + 16) (by omega) (by omega)
    have q1 : 0 ≤ x / 65536 / 256 % 256 := by omega
    have q2 : x / 65536 / 256 % 256 < 256 := by omega
    have q3 : 0 ≤ x / 65536 % 256 := by omega
    have q4 : x / 65536 % 256 < 256 := by omega
    rw [w64 (n := n + 16) (by omega) (by omega), e, show n + (bl (x / 65536) + ((16 : Nat) : Int)) = n + 16 + bl (x / 65536) by omega, ← s, if_pos q1, if_pos q2, if_pos q3, if_pos q4, tab_f q1 q2, tab_f q3 q4, if_pos q1, if_pos q2, if_pos q3, if_pos q4]
  · rw [if_neg c]
    have s := bl_small (x := x) (by omega) (by omega) n (by omega) (by omega)
    have q1 : 0 ≤ x / 256 % 256 := by omega
    have q2 : x / 256 % 256 < 256 := by omega
    have q3 : 0 ≤ x % 256 := by omega
    have q4 : x % 256 < 256 := by omega
    rw [← s, if_pos q1, if_pos q2, if_pos q3, if_pos q4, tab_f q1 q2, tab_f q3 q4, if_pos q1, if_pos q2, if_pos q3, if_pos q4]
theorem len_ev {x : Int} (h : Word x) : Ev (fun k => bits_Len64.f k x) (bl x) := by
  obtain ⟨h0, h1⟩ := h
  unfold bits_Len64.f
  by_cases c : x ≥ 4294967296
  · simp only [if_pos c]
    have e := bl_shift (n := x) 32 (by omega)
    refine Ev.eq (len_j (x := x / 4294967296) (by omega) (by omega) 32 (by omega) (by omega)) ?_
    rw [e, show x / 2 ^ 32 = x / 4294967296 by omega]; omega
  · simp only [if_neg c]
    exact Ev.eq (len_j h0 (by omega) 0 (by omega) (by omega)) (by omega)
theorem wbits_ev {h l : Int} (hh : Word h) (hl : Word l) : Ev (fun k => wide_Bits.f k h l) (bl (wide h l)) := by
  unfold wide_Bits.f
  by_cases c : h = 0
  · simp only [if_pos c]
    refine Ev.bind (len_ev hl) (Ev.some ?_)
    rw [c]; unfold wide; congr 1; omega
  · simp only [if_neg c]
    refine Ev.bind (len_ev hh) (Ev.some ?_)
    unfold Word at hh hl
    have e := bl_shift (n := wide h l) 64 (by unfold wide; omega)
    have e2 : wide h l / 2 ^ 64 = h := by unfold wide; omega
    have b := bl_le (n := h) 64 (by omega)
    have b0 := bl_nn h
    rw [e, e2, w64 (by omega) (by omega)]; omega


end Go.Proofs.Ytjjnkadfoepflaa.XWide
