/- Small words for the plain side: tests, bounds, what stays when nothing wraps. -/
import Derived.Test.YtkpjeihgigmnkaaEvD
import Derived.Laws.BitsLemmas
namespace Go.Proofs.Ytkpjeihgigmnkaa.Ev
open Go
set_option linter.unusedVariables false
set_option linter.unusedSimpArgs false
theorem grd_p {R : Type} {P : Prop} [Decidable P] (h : P) (k : Option R) : grd (decide P) k = k := by rw [decide_eq_true h]; rfl
theorem grd_t {R : Type} (k : Option R) : grd true k = k := rfl
theorem cT {α : Type} {P : Prop} [Decidable P] (h : P) (a b : α) : cond (decide P) a b = a := by rw [decide_eq_true h]; rfl
theorem cF {α : Type} {P : Prop} [Decidable P] (h : ¬ P) (a b : α) : cond (decide P) a b = b := by rw [decide_eq_false h]; rfl
theorem bnd {α β : Type} {x : Option α} {a : α} (h : x = some a) (k : α → Option β) : x.bind k = k a := by rw [h]; rfl
theorem w64 {n : Int} (h0 : -9223372036854775808 ≤ n) (h1 : n ≤ 9223372036854775807) : IntKind.wrap .i64 n = n := by
  simp only [IntKind.wrap, IntKind.bits, IntKind.signed]
  simp
  split <;> omega
theorem wu64 {n : Int} (h0 : 0 ≤ n) (h1 : n < 18446744073709551616) : IntKind.u64.wrap n = n := by
  simp only [IntKind.wrap, IntKind.bits, IntKind.signed]
  simp
  omega
theorem wu64_mod (n : Int) : IntKind.u64.wrap n = n % 18446744073709551616 := by
  simp [IntKind.wrap, IntKind.bits, IntKind.signed]
theorem wu32_mod (n : Int) : IntKind.u32.wrap n = n % 4294967296 := by
  simp [IntKind.wrap, IntKind.bits, IntKind.signed]
theorem wu16_mod (n : Int) : IntKind.u16.wrap n = n % 65536 := by
  simp [IntKind.wrap, IntKind.bits, IntKind.signed]
theorem wu8_mod (n : Int) : IntKind.u8.wrap n = n % 256 := by
  simp [IntKind.wrap, IntKind.bits, IntKind.signed]
theorem wu32 {n : Int} (h0 : 0 ≤ n) (h1 : n < 4294967296) : IntKind.u32.wrap n = n := by rw [wu32_mod]; omega
theorem wu16 {n : Int} (h0 : 0 ≤ n) (h1 : n < 65536) : IntKind.u16.wrap n = n := by rw [wu16_mod]; omega
theorem wu8 {n : Int} (h0 : 0 ≤ n) (h1 : n < 256) : IntKind.u8.wrap n = n := by rw [wu8_mod]; omega
theorem i64_of {n : Int} (h : (Lit.int .i64 n).wf = true) : -9223372036854775808 ≤ n ∧ n ≤ 9223372036854775807 := by
  simp [Lit.wf, IntKind.min, IntKind.max, IntKind.signed, IntKind.bits] at h
  omega
theorem i32_of {n : Int} (h : (Lit.int .i32 n).wf = true) : -2147483648 ≤ n ∧ n ≤ 2147483647 := by
  simp [Lit.wf, IntKind.min, IntKind.max, IntKind.signed, IntKind.bits] at h
  omega
theorem u64_of {n : Int} (h : (Lit.int .u64 n).wf = true) : 0 ≤ n ∧ n < 18446744073709551616 := by
  simp [Lit.wf, IntKind.min, IntKind.max, IntKind.signed, IntKind.bits] at h
  omega
theorem u32_of {n : Int} (h : (Lit.int .u32 n).wf = true) : 0 ≤ n ∧ n < 4294967296 := by
  simp [Lit.wf, IntKind.min, IntKind.max, IntKind.signed, IntKind.bits] at h
  omega
theorem u16_of {n : Int} (h : (Lit.int .u16 n).wf = true) : 0 ≤ n ∧ n < 65536 := by
  simp [Lit.wf, IntKind.min, IntKind.max, IntKind.signed, IntKind.bits] at h
  omega
theorem u8_of {n : Int} (h : (Lit.int .u8 n).wf = true) : 0 ≤ n ∧ n < 256 := by
  simp [Lit.wf, IntKind.min, IntKind.max, IntKind.signed, IntKind.bits] at h
  omega
theorem fit_of {n b : Nat} (h : n * b ≤ 140737488355328) : fit n b = true := Nat.ble_eq_true_of_le h
theorem fitM_of {n b : Nat} (h : b * n ≤ 281474976710656) : fitM n b = true := Nat.ble_eq_true_of_le h
theorem mul_nn {x y : Int} (hx : 0 ≤ x) (hy : 0 ≤ y) : 0 ≤ x * y := Int.mul_nonneg hx hy
theorem sq_nn (x : Int) : 0 ≤ x * x := by
  rcases Int.le_total 0 x with h | h
  · exact Int.mul_nonneg h h
  · have := Int.mul_nonneg (a := -x) (b := -x) (by omega) (by omega)
    rwa [Int.neg_mul_neg] at this
theorem mul_bd {x y M N : Int} (hx0 : -M ≤ x) (hx1 : x ≤ M) (hy0 : -N ≤ y) (hy1 : y ≤ N) : -(M * N) ≤ x * y ∧ x * y ≤ M * N := by
  have h1 : 0 ≤ (M - x) * (N - y) := Int.mul_nonneg (by omega) (by omega)
  have h2 : 0 ≤ (M + x) * (N + y) := Int.mul_nonneg (by omega) (by omega)
  have h3 : 0 ≤ (M - x) * (N + y) := Int.mul_nonneg (by omega) (by omega)
  have h4 : 0 ≤ (M + x) * (N - y) := Int.mul_nonneg (by omega) (by omega)
  constructor <;> grind
theorem drop_rd {α : Type} (l : List α) (z : α) (i : Nat) (h : i < l.length) : l.drop i = l.getD i z :: l.drop (i + 1) := by
  rw [List.drop_eq_getElem_cons h]; simp [h]
theorem shr_e {k : IntKind} {x : Int} {n : Nat} (h : n ≤ k.bits) : shrE k x (n : Int) = x / 2 ^ n := by
  unfold shrE
  rw [Int.toNat_natCast, Nat.min_eq_left h]
  exact Int.fdiv_eq_ediv_of_nonneg _ (by exact Int.le_of_lt (Int.pow_pos (by decide)))
theorem andE_bits (k : IntKind) (x y : Int) : andE k x y = Go.bits .and k x y := rfl
theorem orE_bits (k : IntKind) (x y : Int) : orE k x y = Go.bits .or k x y := rfl
theorem ceT {α : Type} {x y : Int} (h : x = y) (a b : α) : cond (x == y) a b = a := by rw [beq_iff_eq.mpr h]; rfl
theorem ceF {α : Type} {x y : Int} (h : x ≠ y) (a b : α) : cond (x == y) a b = b := by rw [beq_eq_false_iff_ne.mpr h]; rfl
theorem cnT {α : Type} {x y : Int} (h : x ≠ y) (a b : α) : cond (x != y) a b = a := by rw [bne_iff_ne.mpr h]; rfl
theorem cnF {α : Type} {x y : Int} (h : x = y) (a b : α) : cond (x != y) a b = b := by rw [bne, beq_iff_eq.mpr h]; rfl
theorem inc {i : Nat} (h : i ≤ 10000000) : wr .i64 ((i : Int) + 1) = ((i + 1 : Nat) : Int) := w64 (by omega) (by omega)
theorem wr64 {n : Int} (h0 : -9223372036854775808 ≤ n) (h1 : n ≤ 9223372036854775807) : wr .i64 n = n := w64 h0 h1
theorem fit_p {R : Type} {n b : Nat} (h : n * b ≤ 140737488355328) (k : Option R) : grd (fit n b) k = k := by rw [fit_of h]; rfl
theorem fitM_p {R : Type} {n b : Nat} (h : b * n ≤ 281474976710656) (k : Option R) : grd (fitM n b) k = k := by rw [fitM_of h]; rfl
theorem drop_nil {α : Type} {l : List α} {i : Nat} (h : l.length ≤ i) : l.drop i = [] := List.drop_eq_nil_of_le h
theorem rd_mem {α : Type} (l : List α) (z : α) (i : Nat) (h : i < l.length) : l.getD i z ∈ l := by
  simp [List.getD, h]
end Go.Proofs.Ytkpjeihgigmnkaa.Ev
