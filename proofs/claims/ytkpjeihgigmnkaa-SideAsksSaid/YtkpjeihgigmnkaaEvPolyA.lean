/- Layer 2 on numbers in any form, and the reference from them: what they are worth. -/
import Derived.Test.YtkpjeihgigmnkaaEvRef02
import Derived.Test.YtkpjeihgigmnkaaEvBig
namespace Go.Proofs.Ytkpjeihgigmnkaa.EvP
open Go Go.Proofs.Ytkpjeihgigmnkaa.Ev Go.Proofs.Ytkpjeihgigmnkaa.NumB
set_option linter.unusedVariables false
set_option linter.unusedSimpArgs false
abbrev rb := EvR.rb
@[irreducible] def Sz (n : Nat) (x : Int) : Prop := (x.natAbs : Int) < 4294967296 ^ n
theorem Sz.lt {n : Nat} {x : Int} (h : Sz n x) : (x.natAbs : Int) < 4294967296 ^ n := by unfold Sz at h; exact h
theorem Sz.of {n : Nat} {x : Int} (h : (x.natAbs : Int) < 4294967296 ^ n) : Sz n x := by unfold Sz; exact h
theorem Sz.le {m n : Nat} {x : Int} (h : Sz m x) (hn : m ≤ n) : Sz n x := .of (Int.lt_of_lt_of_le h.lt (pw_le hn))
theorem Sz.b {n : Nat} {x : Int} (h : Sz n x) : (cd x.natAbs).length ≤ n := cd_len h.lt
theorem pw2 (n : Nat) : (65536 : Int) ^ (2 * n) = 4294967296 ^ n := by
  rw [Int.pow_mul]; rfl
theorem Sz.m {n : Nat} {x : Int} (h : Sz n x) : (NumM.cd x.natAbs).length ≤ 2 * n := NumM.cd_len (by rw [pw2]; exact h.lt)
theorem sz_zero (n : Nat) : Sz n 0 := by
  have := pw_pos n
  unfold Sz; simpa using this
theorem sz_add {m n : Nat} {x y : Int} (hx : Sz m x) (hy : Sz n y) : Sz (max m n + 1) (x + y) := by
  have h1 := pw_le (show m ≤ max m n by omega)
  have h2 := pw_le (show n ≤ max m n by omega)
  unfold Sz at *
  rw [pw_succ]
  omega
theorem sz_neg {m : Nat} {x : Int} (hx : Sz m x) : Sz m (-x) := by unfold Sz at *; rwa [Int.natAbs_neg]
theorem sz_abs {m : Nat} {x : Int} (hx : Sz m x) : Sz m (x.natAbs : Int) := by unfold Sz at *; rwa [Int.natAbs_natCast]
theorem sz_sub {m n : Nat} {x y : Int} (hx : Sz m x) (hy : Sz n y) : Sz (max m n + 1) (x - y) := by rw [Int.sub_eq_add_neg]; exact sz_add hx (sz_neg hy)
theorem sz_mul {m n : Nat} {x y : Int} (hx : Sz m x) (hy : Sz n y) : Sz (m + n) (x * y) := by
  unfold Sz at *
  rw [Int.natAbs_mul, Int.pow_add, Int.natCast_mul]
  have h1 : ((x.natAbs : Int)) * (y.natAbs : Int) ≤ (x.natAbs : Int) * 4294967296 ^ n := Int.mul_le_mul_of_nonneg_left (by omega) (by omega)
  have h2 : ((x.natAbs : Int)) * 4294967296 ^ n < 4294967296 ^ m * 4294967296 ^ n := Int.mul_lt_mul_of_pos_right hx (pw_pos n)
  omega
theorem sz_i64 {x : Int} (h0 : -9223372036854775808 ≤ x) (h1 : x ≤ 9223372036854775807) : Sz 2 x := by
  unfold Sz; rw [show (4294967296 : Int) ^ 2 = 18446744073709551616 from rfl]; omega
/-! layer 2 -/
theorem val_nn {l : List Int} (h : Dig l) : ((val l).toNat : Int) = val l := Int.toNat_of_nonneg (val_bd h).1
theorem lc {l : List Int} (h : Dig l) : (cd (val l).toNat).length ≤ l.length := cd_len (by rw [val_nn h]; exact (val_bd h).2)
/-- A sign. -/
def sgn (x : Int) : Int := if x = 0 then 0 else if x < 0 then -1 else 1
theorem sgn_zero (x : Int) : (sgn x == 0) = (x == 0) := by
  unfold sgn
  by_cases h : x = 0
  · rw [if_pos h, h]
  · rw [if_neg h]
    have : (x == 0) = false := by simpa using h
    rw [this]; split <;> rfl
theorem sgn_neg (x : Int) : decide (sgn x < 0) = decide (x < 0) := by
  unfold sgn
  by_cases h : x = 0
  · rw [if_pos h, h]
  · rw [if_neg h]; by_cases c : x < 0 <;> simp [c]
/-! products -/
theorem btimes_step {V T a L t c o x P K B : Int} (hx : x = o + a * t + c) (hB : B = P * K) (hv : V + c * B = T + a * L * P) :
    V + (x % 4294967296 - o) * B + x / 4294967296 * (4294967296 * B) = T + a * (L + t * K) * P := by
  have e2 : x = 4294967296 * (x / 4294967296) + x % 4294967296 := by omega
  generalize x / 4294967296 = q at *
  generalize x % 4294967296 = r at *
  subst hB
  grind
theorem inc {i : Nat} (h : i ≤ 10000000) : wr .i64 ((i : Int) + 1) = ((i + 1 : Nat) : Int) := w64 (by omega) (by omega)
/-! the reference -/
open Go.Proofs.Ytkpjeihgigmnkaa.EvR in
theorem rsign_f (x : Int) : F44 (rb x) = some (sgn x) := by
  rw [F44_eq]
  unfold rb EvR.rb NumM.sd sgn
  simp only
  by_cases c : x = 0
  · subst c
    rw [show (0 : Int).natAbs = 0 from rfl, NumM.cd_zero]; rfl
  · have hn : NumM.cd x.natAbs ≠ [] := fun q => by rw [NumM.cd_nil] at q; omega
    have h0 : (NumM.cd x.natAbs).length ≠ 0 := fun q => hn (List.eq_nil_of_length_eq_zero q)
    rw [show (((NumM.cd x.natAbs).length : Int) == 0) = false by simp; omega, cond_false, if_neg c]
    by_cases k : x < 0
    · rw [cT k, if_pos k]
    · rw [cF k, if_neg k]
def toM : List Int → List Int
  | [] => []
  | d :: l => d % 65536 :: d / 65536 :: toM l
theorem toM_val : ∀ l : List Int, NumM.val (toM l) = NumB.val l
  | [] => rfl
  | d :: l => by simp only [toM, NumM.val, NumB.val, toM_val l]; omega
theorem toM_dig : ∀ {l : List Int}, NumB.Dig l → NumM.Dig (toM l)
  | [], _ => fun x hx => by cases hx
  | d :: l, h => fun x hx => by
    have hd := h d List.mem_cons_self
    have hl := toM_dig (l := l) fun y hy => h y (List.mem_cons_of_mem _ hy)
    simp only [toM] at hx
    rcases List.mem_cons.mp hx with e | hx
    · subst e; omega
    · rcases List.mem_cons.mp hx with e | hx
      · subst e; omega
      · exact hl x hx
theorem toM_len : ∀ l : List Int, (toM l).length = 2 * l.length
  | [] => rfl
  | d :: l => by simp only [toM, List.length_cons, toM_len l]; omega
theorem radd_s {x y : Int} (hx : Sz 40000 x) (hy : Sz 40000 y) : F60 (rb x) (rb y) = some (rb (x + y)) := EvR.radd_f (by have := hx.m; omega) (by have := hy.m; omega)
theorem rmul_s {x y : Int} (hx : Sz 40000 x) (hy : Sz 40000 y) : F55 (rb x) (rb y) = some (rb (x * y)) := EvR.rmul_f (by have := hx.m; omega) (by have := hy.m; omega)
theorem rneg_s {x : Int} (hx : Sz 40000 x) : F67 (rb x) = some (rb (-x)) := EvR.rneg_f (by have := hx.m; omega)
theorem rsub_s {x y : Int} (hx : Sz 40000 x) (hy : Sz 40000 y) : F56 (rb x) (rb y) = some (rb (x - y)) := EvR.rsub_f (by have := hx.m; omega) (by have := hy.m; omega)
theorem rb_zero : rb 0 = ⟨false, []⟩ := by
  show EvR.rb 0 = _
  unfold EvR.rb NumM.sd; rw [show (0 : Int).natAbs = 0 from rfl, NumM.cd_zero]; rfl
end Go.Proofs.Ytkpjeihgigmnkaa.EvP
