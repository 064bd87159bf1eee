/- Polynomials of degree two at most: what the reference makes of them, without the program. -/
import Derived.Test.YtkpjeihgigmnkaaEvSideU
namespace Go.Proofs.Ytkpjeihgigmnkaa.EvP
open Go Go.Proofs.Ytkpjeihgigmnkaa.Ev Go.Proofs.Ytkpjeihgigmnkaa.NumB
set_option linter.unusedVariables false
set_option linter.unusedSimpArgs false
theorem coef_padd (L M : List Int) (i : Nat) : coef (padd L M) i = coef L i + coef M i := by
  unfold padd
  rw [coef_pol]
  split
  · rfl
  · rw [coef_ge (L := L) (by omega), coef_ge (L := M) (by omega)]; rfl
theorem coef_pmul_c {X M : List Int} (hX : ∀ j, 1 ≤ j → coef X j = 0) (n : Nat) : coef (pmul X M) n = coef X 0 * coef M n := by
  unfold pmul
  rw [coef_pol]
  split
  · rw [← csum_any (k := X.length + 1) (.inl (by omega)), csum_tail (m := 1) (fun j hj => by unfold cterm; rw [hX j hj, Int.zero_mul]) (by omega)]
    simp only [csum, cterm]
    rw [Int.zero_add, show ((n : Int) - ((0 : Nat) : Int)) = (n : Int) by omega, cof_nat]
  · rw [coef_ge (L := M) (by omega), Int.mul_zero]
theorem coef_one (c : Int) : coef (tz [c]) 0 = c ∧ ∀ j, 1 ≤ j → coef (tz [c]) j = 0 :=
  ⟨coef_tz [c] 0, fun j hj => (coef_tz [c] j).trans (coef_ge (by simpa using hj))⟩
theorem coef_pun (P : List Int) (d : Int) (ln : List Int) (i n : Nat) (hD : ∀ e, ∀ j, 1 ≤ j → coef (ppow (tz [d]) e) j = 0) :
    coef (pun P d ln (i + 1)) n = coef (pun P d ln i) n + coef P i * coef (ppow (tz [d]) (P.length - 1 - i)) 0 * coef (ppow ln i) n := by
  obtain ⟨c0, c1⟩ := coef_one (coef P i)
  have k : ∀ j, coef (pmul (tz [coef P i]) (ppow (tz [d]) (P.length - 1 - i))) j = coef P i * coef (ppow (tz [d]) (P.length - 1 - i)) j := fun j => by rw [coef_pmul_c c1, c0]
  rw [pun, coef_padd, coef_pmul_c (fun j hj => by rw [k, hD _ j hj, Int.mul_zero]), k]
theorem ppow_c (d : Int) : ∀ e, coef (ppow (tz [d]) e) 0 = d ^ e ∧ ∀ j, 1 ≤ j → coef (ppow (tz [d]) e) j = 0
  | 0 => by obtain ⟨a, b⟩ := coef_one 1; exact ⟨by rw [Int.pow_zero]; exact a, b⟩
  | e + 1 => by
    obtain ⟨h1, h2⟩ := ppow_c d e
    obtain ⟨c0, c1⟩ := coef_one d
    refine ⟨by rw [ppow, coef_pmul_c h2, h1, c0, Int.pow_succ], fun j hj => by rw [ppow, coef_pmul_c h2, c1 j hj, Int.mul_zero]⟩
theorem pun_tz (P : List Int) (d : Int) (ln : List Int) : ∀ n, tz (pun P d ln n) = pun P d ln n
  | 0 => rfl
  | n + 1 => tz_pol _ _
/-- From 0 to 1 it is what it was. -/
theorem pun_whole {P : List Int} (l3 : P.length ≤ 3) (ht : tz P = P) : pun P 1 [0, 1] P.length = P := by
  rw [← pun_tz]
  refine Eq.trans (tz_ext fun i => ?_) ht
  have hD := fun e => (ppow_c 1 e).2
  have h0 : ∀ e, coef (ppow (tz [1]) e) 0 = 1 := fun e => by rw [(ppow_c 1 e).1, Int.one_pow]
  have p0 : ppow [0, 1] 0 = [1] := by decide
  have p1 : ppow [0, 1] 1 = [0, 1] := by decide
  have p2 : ppow [0, 1] 2 = [0, 0, 1] := by decide
  match P, l3 with
  | [], _ => rfl
  | [f], _ =>
    simp only [List.length_cons, List.length_nil, Nat.zero_add]
    rw [coef_pun _ _ _ 0 i hD, h0, p0]
    match i with
    | 0 => simp [pun, coef]
    | i + 1 => simp [pun, coef]
  | [f, g], _ =>
    simp only [List.length_cons, List.length_nil, Nat.zero_add]
    rw [coef_pun _ _ _ 1 i hD, coef_pun _ _ _ 0 i hD, h0, h0, p0, p1]
    match i with
    | 0 => simp [pun, coef]
    | 1 => simp [pun, coef]
    | i + 2 => simp [pun, coef]
  | [f, g, h], _ =>
    simp only [List.length_cons, List.length_nil, Nat.zero_add]
    rw [coef_pun _ _ _ 2 i hD, coef_pun _ _ _ 1 i hD, coef_pun _ _ _ 0 i hD, h0, h0, h0, p0, p1, p2]
    match i with
    | 0 => simp [pun, coef]
    | 1 => simp [pun, coef]
    | 2 => simp [pun, coef]
    | i + 3 => simp [pun, coef]
theorem tz3 {f g h : Int} (hh : h ≠ 0) : tz [f, g, h] = [f, g, h] := by simp [tz, hh]
/-- The left half. -/
theorem pun_left (f g h : Int) (hh : h ≠ 0) : pun [f, g, h] 2 [0, 1] 3 = [4 * f, 2 * g, h] := by
  rw [← pun_tz, ← tz3 (f := 4 * f) (g := 2 * g) hh]
  refine tz_ext fun i => ?_
  have hD := fun e => (ppow_c 2 e).2
  have p0 : ppow [0, 1] 0 = [1] := by decide
  have p1 : ppow [0, 1] 1 = [0, 1] := by decide
  have p2 : ppow [0, 1] 2 = [0, 0, 1] := by decide
  rw [coef_pun _ _ _ 2 i hD, coef_pun _ _ _ 1 i hD, coef_pun _ _ _ 0 i hD, (ppow_c 2 _).1, (ppow_c 2 _).1, (ppow_c 2 _).1, p0, p1, p2]
  match i with
  | 0 => simp [pun, coef]; omega
  | 1 => simp [pun, coef]; omega
  | 2 => simp [pun, coef]
  | i + 3 => simp [pun, coef]
theorem pun_right (f g h : Int) (hh : h ≠ 0) : pun [f, g, h] 2 [1, 1] 3 = [4 * f + 2 * g + h, 2 * g + 2 * h, h] := by
  rw [← pun_tz, ← tz3 (f := 4 * f + 2 * g + h) (g := 2 * g + 2 * h) hh]
  refine tz_ext fun i => ?_
  have hD := fun e => (ppow_c 2 e).2
  have p0 : ppow [1, 1] 0 = [1] := by decide
  have p1 : ppow [1, 1] 1 = [1, 1] := by decide
  have p2 : ppow [1, 1] 2 = [1, 2, 1] := by decide
  rw [coef_pun _ _ _ 2 i hD, coef_pun _ _ _ 1 i hD, coef_pun _ _ _ 0 i hD, (ppow_c 2 _).1, (ppow_c 2 _).1, (ppow_c 2 _).1, p0, p1, p2]
  match i with
  | 0 => simp [pun, coef]; omega
  | 1 => simp [pun, coef]; omega
  | 2 => simp [pun, coef]
  | i + 3 => simp [pun, coef]
end Go.Proofs.Ytkpjeihgigmnkaa.EvP
