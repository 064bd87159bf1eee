/- May a ratio be: both sides ask whether the greatest common divisor is 1. Seat Door's numbers. -/
import Derived.Test.YtkpjeihgigmnkaaEvRef02
import Derived.Test.YtkpjeihgigmnkaaEvPolyA
namespace Go.Proofs.Ytkpjeihgigmnkaa.EvN
open Go Go.Proofs.Ytkpjeihgigmnkaa.Ev
set_option linter.unusedVariables false
set_option linter.unusedSimpArgs false
def i64 (n : Int) : Prop := -9223372036854775808 ≤ n ∧ n ≤ 9223372036854775807
def maY (x : S59) : Bool := decide (x.f1 > 0) && decide (Nat.gcd x.f0.natAbs x.f1.natAbs = 1)
/-! numbers of one word, in two -/
def w1 (a : Nat) : S50 := ⟨0, (a : Int)⟩
theorem shr0 (n : Nat) (h : n ≤ 64) : shrE IntKind.u64 0 (n : Int) = 0 := by rw [shr_e h]; exact Int.zero_ediv _
theorem shl_e {x : Int} {n : Nat} (h : n ≤ 64) : shlE IntKind.u64 x (n : Int) = (x * 2 ^ n) % 18446744073709551616 := by
  unfold shlE
  rw [Int.toNat_natCast, show min n IntKind.u64.bits = n from Nat.min_eq_left h, wu64_mod]
theorem shl0 (n : Nat) (h : n ≤ 64) : shlE IntKind.u64 0 (n : Int) = 0 := by rw [shl_e h]; simp
theorem or0 {x : Int} (h0 : 0 ≤ x) (h1 : x < 18446744073709551616) : orE IntKind.u64 x 0 = x := by
  unfold orE
  have : BitVec.ofInt IntKind.u64.bits x ||| BitVec.ofInt IntKind.u64.bits 0 = BitVec.ofInt IntKind.u64.bits x := by simp
  rw [this, BitVec.toNat_ofInt, show ((2 ^ IntKind.u64.bits : Nat) : Int) = 18446744073709551616 from rfl]
  exact (wu64 (by omega) (by omega)).trans (by omega)
theorem or0' {x : Int} (h0 : 0 ≤ x) (h1 : x < 18446744073709551616) : orE IntKind.u64 0 x = x := by
  unfold orE
  have : BitVec.ofInt IntKind.u64.bits 0 ||| BitVec.ofInt IntKind.u64.bits x = BitVec.ofInt IntKind.u64.bits x := by simp
  rw [this, BitVec.toNat_ofInt, show ((2 ^ IntKind.u64.bits : Nat) : Int) = 18446744073709551616 from rfl]
  exact (wu64 (by omega) (by omega)).trans (by omega)
/-! how many bits -/
def bl8 (i : Nat) : Nat := if i = 0 then 0 else Nat.log2 i + 1
theorem bl8_lt (i : Nat) : i < 2 ^ bl8 i := by
  unfold bl8; split
  · omega
  · exact Nat.lt_log2_self
theorem bl8_ge {i : Nat} (h : 0 < i) : 2 ^ (bl8 i - 1) ≤ i := by
  unfold bl8; rw [if_neg (by omega)]
  exact Nat.log2_self_le (by omega)
/-- x has n bits. -/
def Bits (x n : Nat) : Prop := x < 2 ^ n ∧ (0 < x → 0 < n ∧ 2 ^ (n - 1) ≤ x) ∧ (x = 0 → n = 0)
theorem bits8 (i : Nat) : Bits i (bl8 i) := ⟨bl8_lt i, fun h => ⟨(by unfold bl8; rw [if_neg (by omega)]; omega), bl8_ge h⟩, fun h => by unfold bl8; rw [if_pos h]⟩
theorem bits_shr {x n k : Nat} (h : Bits (x / 2 ^ k) n) (hk : 2 ^ k ≤ x) : Bits x (n + k) := by
  have hp := Nat.two_pow_pos k
  have hx : 0 < x / 2 ^ k := Nat.div_pos hk hp
  obtain ⟨h1, h2, _⟩ := h
  obtain ⟨h3, h4⟩ := h2 hx
  refine ⟨?_, fun _ => ⟨by omega, ?_⟩, fun q => by omega⟩
  · rw [Nat.pow_add]
    exact (Nat.div_lt_iff_lt_mul hp).1 h1
  · rw [show n + k - 1 = (n - 1) + k by omega, Nat.pow_add]
    exact (Nat.le_div_iff_mul_le hp).1 h4
def LENTAB : List Int := [0, 1, 2, 2, 3, 3, 3, 3, 4, 4, 4, 4, 4, 4, 4, 4, 5, 5, 5, 5, 5, 5, 5, 5, 5, 5, 5, 5, 5, 5, 5, 5, 6, 6, 6, 6, 6, 6, 6, 6, 6, 6, 6, 6, 6, 6, 6, 6, 6, 6, 6, 6, 6, 6, 6, 6, 6, 6, 6, 6, 6, 6, 6, 6, 7, 7, 7, 7, 7, 7, 7, 7, 7, 7, 7, 7, 7, 7, 7, 7, 7, 7, 7, 7, 7, 7, 7, 7, 7, 7, 7, 7, 7, 7, 7, 7, 7, 7, 7, 7, 7, 7, 7, 7, 7, 7, 7, 7, 7, 7, 7, 7, 7, 7, 7, 7, 7, 7, 7, 7, 7, 7, 7, 7, 7, 7, 7, 7, 8, 8, 8, 8, 8, 8, 8, 8, 8, 8, 8, 8, 8, 8, 8, 8, 8, 8, 8, 8, 8, 8, 8, 8, 8, 8, 8, 8, 8, 8, 8, 8, 8, 8, 8, 8, 8, 8, 8, 8, 8, 8, 8, 8, 8, 8, 8, 8, 8, 8, 8, 8, 8, 8, 8, 8, 8, 8, 8, 8, 8, 8, 8, 8, 8, 8, 8, 8, 8, 8, 8, 8, 8, 8, 8, 8, 8, 8, 8, 8, 8, 8, 8, 8, 8, 8, 8, 8, 8, 8, 8, 8, 8, 8, 8, 8, 8, 8, 8, 8, 8, 8, 8, 8, 8, 8, 8, 8, 8, 8, 8, 8, 8, 8, 8, 8, 8, 8, 8, 8, 8, 8, 8, 8, 8, 8, 8, 8]
theorem tab_ok : ∀ i, i < 256 → btE (ofBytes LENTAB) i = (bl8 i : Int) := by
  intro i hi
  have : ((List.range 256).all fun i => decide (btE (ofBytes LENTAB) i = (bl8 i : Int))) = true := by kernel_rfl
  exact of_decide_eq_true (List.all_eq_true.1 this i (List.mem_range.2 hi))
theorem len2 {x n : Nat} (hx : x < 256) (hn : n ≤ 56) : L49_2 (x : Int) (n : Int) = some ((n + bl8 x : Nat) : Int) := by
  have hb : bl8 x ≤ 8 := by
    unfold bl8; split
    · omega
    · have := (Nat.log2_lt (n := x) (k := 8) (by omega)).2 (by omega); omega
  have e : L49_2 (x : Int) (n : Int) = grd (decide (0 ≤ wr .u8 (x : Int))) (grd (decide (wr .u8 (x : Int) < 256)) (some (wr .i64 ((n : Int) + wr .i64 (btE (ofBytes LENTAB) (Int.toNat (wr .u8 (x : Int)))))))) := L49_2_eq _ _
  rw [e, show wr .u8 (x : Int) = (x : Int) from wu8 (by omega) (by omega), grd_p (by omega), grd_p (by omega), Int.toNat_natCast, tab_ok x hx, show wr .i64 ((bl8 x : Nat) : Int) = (bl8 x : Int) from w64 (by omega) (by omega), show wr .i64 ((n : Int) + (bl8 x : Int)) = ((n + bl8 x : Nat) : Int) from (w64 (by omega) (by omega)).trans (by omega)]
theorem shr_n (x k : Nat) (h : k ≤ 64) : shrE IntKind.u64 (x : Int) (k : Int) = ((x / 2 ^ k : Nat) : Int) := by
  rw [shr_e h]; simp
theorem len1 {x n : Nat} (hx : x < 65536) (hn : n ≤ 48) : ∃ t : Nat, L49_1 (x : Int) (n : Int) = some ((n + t : Nat) : Int) ∧ Bits x t := by
  rw [L49_1_eq]
  by_cases c : x ≥ 256
  · refine ⟨bl8 (x / 2 ^ 8) + 8, ?_, bits_shr (bits8 _) (by omega)⟩
    rw [cT (by omega), show shrE IntKind.u64 (x : Int) 8 = ((x / 2 ^ 8 : Nat) : Int) from shr_n x 8 (by omega), show wr .i64 ((n : Int) + 8) = ((n + 8 : Nat) : Int) from (w64 (by omega) (by omega)).trans (by omega), len2 (by omega) (by omega)]
    congr 2; omega
  · exact ⟨bl8 x, by rw [cF (by omega), len2 (by omega) (by omega)], bits8 x⟩
theorem len0 {x n : Nat} (hx : x < 4294967296) (hn : n ≤ 32) : ∃ t : Nat, L49_0 (x : Int) (n : Int) = some ((n + t : Nat) : Int) ∧ Bits x t := by
  rw [L49_0_eq]
  by_cases c : x ≥ 65536
  · obtain ⟨t, h1, h2⟩ := len1 (x := x / 2 ^ 16) (n := n + 16) (by omega) (by omega)
    refine ⟨t + 16, ?_, bits_shr h2 (by omega)⟩
    rw [cT (by omega), show shrE IntKind.u64 (x : Int) 16 = ((x / 2 ^ 16 : Nat) : Int) from shr_n x 16 (by omega), show wr .i64 ((n : Int) + 16) = ((n + 16 : Nat) : Int) from (w64 (by omega) (by omega)).trans (by omega), h1]
    congr 2; omega
  · obtain ⟨t, h1, h2⟩ := len1 (x := x) (n := n) (by omega) (by omega)
    exact ⟨t, by rw [cF (by omega), h1], h2⟩
theorem len_f {x : Nat} (hx : x < 18446744073709551616) : ∃ t : Nat, F49 (x : Int) = some (t : Int) ∧ Bits x t ∧ t ≤ 64 := by
  have fin : ∀ {t : Nat}, Bits x t → t ≤ 64 := fun {t} h => by
    rcases Nat.eq_zero_or_pos x with q | q
    · rw [h.2.2 q]; omega
    · obtain ⟨h1, h2⟩ := h.2.1 q
      rcases Nat.lt_or_ge 64 t with g | g
      · have := Nat.pow_le_pow_right (n := 2) (by omega) (show 64 ≤ t - 1 by omega)
        omega
      · exact g
  rw [F49_eq]
  by_cases c : x ≥ 4294967296
  · obtain ⟨t, h1, h2⟩ := len0 (x := x / 2 ^ 32) (n := 32) (by omega) (by omega)
    have h3 := bits_shr h2 (by omega)
    refine ⟨t + 32, ?_, h3, fin h3⟩
    rw [cT (by omega), show shrE IntKind.u64 (x : Int) 32 = ((x / 2 ^ 32 : Nat) : Int) from shr_n x 32 (by omega)]
    refine h1.trans ?_
    congr 2; omega
  · obtain ⟨t, h1, h2⟩ := len0 (x := x) (n := 0) (by omega) (by omega)
    refine ⟨t, ?_, h2, ?_⟩
    · rw [cF (by omega)]; refine h1.trans ?_; congr 2; omega
    · exact fin h2
theorem nz {a : Nat} (h : 0 < a) : (((0 : Int) == 0) && ((a : Int) == 0)) = false := by simp; omega
theorem shr_f {a k : Nat} (h0 : 0 < a) (h1 : a < 18446744073709551616) (hk : k < 64) : F22 (w1 a) (wr .i64 (0 - (k : Int))) = some (w1 (a / 2 ^ k), 0) := by
  have e : wr .i64 (0 - (k : Int)) = -(k : Int) := (w64 (by omega) (by omega)).trans (by omega)
  have ha : a / 2 ^ k ≤ a := Nat.div_le_self _ _
  rw [F22_eq, e]
  unfold w1
  simp only
  rw [nz h0, cond_false, cF (by omega), L22_0_eq]
  by_cases c : k = 0
  · subst c
    obtain ⟨t, t1, t2, t3⟩ := len_f h1
    have g1 : wr .i64 (128 - (t : Int)) = 128 - (t : Int) := w64 (by omega) (by omega)
    have g2 : wr .u64 (-((0 : Nat) : Int)) = ((0 : Nat) : Int) := wu64 (by omega) (by omega)
    have g3 : wr .u64 (64 - ((0 : Nat) : Int)) = ((64 : Nat) : Int) := wu64 (by omega) (by omega)
    rw [cF (by omega), F35_eq]
    simp only
    rw [show ((0 : Int) != 0) = false from rfl, cond_false, bnd t1, Option.bind_some, g1, cF (by omega), g2, F36_eq]
    simp only
    rw [cF (by omega), grd_p (by omega), g3, grd_p (by omega), grd_p (by omega), shl0 0 (by omega), shr_n a 64 (by omega), shl_e (by omega)]
    rw [Nat.div_eq_of_lt (by omega), Int.natCast_zero, or0 (by omega) (by omega), Option.bind_some]
    congr 3
    simp; omega
  · have g1 : wr .u64 (wr .i64 (0 - -(k : Int))) = (k : Int) := by rw [show wr .i64 (0 - -(k : Int)) = (k : Int) from (w64 (by omega) (by omega)).trans (by omega)]; exact wu64 (by omega) (by omega)
    have g3 : wr .u64 (64 - (k : Int)) = ((64 - k : Nat) : Int) := (wu64 (by omega) (by omega)).trans (by omega)
    rw [cT (by omega), g1, F34_eq]
    simp only
    rw [cF (by omega), grd_p (by omega), grd_p (by omega), g3, grd_p (by omega), shr0 k (by omega), shr_n a k (by omega), shl0 _ (by omega), or0 (Int.natCast_nonneg _) (by omega), Option.bind_some]
theorem shl_f {a k : Nat} (h0 : 0 < a) (h1 : a * 2 ^ k < 18446744073709551616) (hk : k < 64) : F22 (w1 a) (k : Int) = some (w1 (a * 2 ^ k), 0) := by
  have hp := Nat.two_pow_pos k
  have ha : a ≤ a * 2 ^ k := Nat.le_mul_of_pos_right _ hp
  obtain ⟨t, t1, t2, t3⟩ := len_f (x := a) (by omega)
  have g1 : wr .i64 (128 - (t : Int)) = 128 - (t : Int) := w64 (by omega) (by omega)
  have g2 : wr .u64 (k : Int) = (k : Int) := wu64 (by omega) (by omega)
  have g3 : wr .u64 (64 - (k : Int)) = ((64 - k : Nat) : Int) := (wu64 (by omega) (by omega)).trans (by omega)
  have hd : a / 2 ^ (64 - k) = 0 := by
    refine Nat.div_eq_of_lt ?_
    have e : (18446744073709551616 : Nat) = 2 ^ (64 - k) * 2 ^ k := by rw [← Nat.pow_add, show 64 - k + k = 64 by omega]
    rw [e] at h1
    exact Nat.lt_of_mul_lt_mul_right h1
  have hm : ((a : Int) * 2 ^ k) % 18446744073709551616 = ((a * 2 ^ k : Nat) : Int) := by
    have : (a : Int) * 2 ^ k = ((a * 2 ^ k : Nat) : Int) := by simp
    rw [this]; omega
  rw [F22_eq]
  unfold w1
  simp only
  rw [nz h0, cond_false, cF (by omega), L22_0_eq, cF (by omega), F35_eq]
  simp only
  rw [show ((0 : Int) != 0) = false from rfl, cond_false, bnd t1, Option.bind_some, g1, cF (by omega), g2, F36_eq]
  simp only
  rw [cF (by omega), grd_p (by omega), g3, grd_p (by omega), grd_p (by omega), shl0 k (by omega), shr_n a _ (by omega), shl_e (by omega), hd, Int.natCast_zero, or0 (by omega) (by omega), hm, Option.bind_some]
theorem cmp1_f (x y : Int) : F39 x y = some (NumM.cmpI x y) := by
  rw [F39_eq, F50_eq, F50_eq]
  simp only [bne_self_eq_false, Option.bind_some, cond_false]
  unfold NumM.cmpI; by_cases h : x < y <;> by_cases h' : x > y <;> simp [*]
theorem cmp_f (a b : Nat) : F25 (w1 a) (w1 b) = some (NumM.cmpI a b) := by
  rw [F25_eq]
  unfold w1
  simp only
  rw [bnd (cmp1_f _ _), bnd (cmp1_f _ _), NumM.cmpI_self, F38_eq]
  have e1 : wr .i64 ((0 : Int) + 1) = 1 := w64 (by omega) (by omega)
  have e2 : wr .i64 ((1 : Int) + 1) = 2 := w64 (by omega) (by omega)
  rw [L38_0_eq]
  simp only [List.length_cons, List.length_nil]
  rw [cT (by omega), grd_p (by omega), grd_p (by omega), show ([0, NumM.cmpI (a : Int) (b : Int)].getD (Int.toNat 0) 0) = 0 from rfl, show ((0 : Int) != 0) = false from rfl, cond_false, e1, L38_0_eq]
  simp only [List.length_cons, List.length_nil]
  rw [cT (by omega), grd_p (by omega), grd_p (by omega), show ([0, NumM.cmpI (a : Int) (b : Int)].getD (Int.toNat 1) 0) = NumM.cmpI (a : Int) (b : Int) from rfl]
  by_cases c : NumM.cmpI (a : Int) (b : Int) = 0
  · rw [c, show ((0 : Int) != 0) = false from rfl, cond_false, e2, L38_0_eq]
    simp only [List.length_cons, List.length_nil]
    rw [cF (by omega), Option.bind_some]
  · rw [show (NumM.cmpI (a : Int) (b : Int) != 0) = true by simpa using c, cond_true, Option.bind_some]
theorem odd_cop (m : Nat) : Nat.Coprime 2 (2 * m + 1) := by
  unfold Nat.Coprime
  rw [Nat.gcd_rec, show (2 * m + 1) % 2 = 1 by omega]
  rfl
/-- An odd number has no even divisor. -/
theorem gcd_odd {a k b : Nat} (ha : a % 2 = 1) : Nat.gcd a (2 ^ k * b) = Nat.gcd a b := by
  have h : Nat.Coprime (2 ^ k) a := by
    have := odd_cop (a / 2)
    rw [show 2 * (a / 2) + 1 = a by omega] at this
    exact Nat.Coprime.pow_left k this
  exact Nat.Coprime.gcd_mul_left_cancel_right b h
theorem mn_e (m n : Nat) : mnE (m : Int) (n : Int) = ((min m n : Nat) : Int) := by unfold mnE; split <;> omega
end Go.Proofs.Ytkpjeihgigmnkaa.EvN
