/- Polynomials by their values, further: differences, products, derivatives; both sides. -/
import Derived.Test.YtkpjeihgigmnkaaEvPolyB
namespace Go.Proofs.Ytkpjeihgigmnkaa.EvP
open Go Go.Proofs.Ytkpjeihgigmnkaa.Ev Go.Proofs.Ytkpjeihgigmnkaa.NumB
set_option linter.unusedVariables false
set_option linter.unusedSimpArgs false
theorem rpadd_s {L M : List Int} (hL : Szs 30000 L) (hM : Szs 30000 M) (lL : L.length ≤ 100000) (lM : M.length ≤ 100000) : F59 (L.map rb) (M.map rb) = some ((padd L M).map rb) := by
  have h := loop_app (fun out i => L59_1 (L.map rb) (M.map rb) out i) (fun i => rb (coef L i + coef M i)) (max L.length M.length) fun i out hi ho => by
    show L59_1 (L.map rb) (M.map rb) out (i : Int) = L59_1 (L.map rb) (M.map rb) (out ++ [_]) _
    have J : L59_2 (L.map rb) (M.map rb) out (i : Int) = L59_1 (L.map rb) (M.map rb) (out ++ [rb (coef L i + coef M i)]) ((i + 1 : Nat) : Int) := by
      rw [L59_2_eq, bnd (rat_f L i), bnd (rat_f M i), bnd (radd_s ((hL.cof _).le (by omega)) ((hM.cof _).le (by omega))), cof_nat, cof_nat, fit_of (by simp only [List.length_singleton]; omega), grd_t, inc (by omega)]
    rw [L59_1_eq, List.length_map, List.length_map]
    by_cases c : i < L.length
    · rw [cT (by omega), J]
    · rw [cF (by omega), cT (by omega), J]
  rw [F59_eq]
  refine h.trans ?_
  show L59_1 _ _ _ _ = _
  rw [L59_1_eq, List.length_map, List.length_map, cF (by omega), cF (by omega), L59_0_eq, map_rb, bnd (rptrim_s (by simp; omega))]
  rfl
theorem rpneg_s {L : List Int} (hL : Szs 30000 L) (lL : L.length ≤ 100000) : F62 (L.map rb) = some ((L.map fun x => -x).map rb) := by
  have h := loop_app (fun out i => L62_0 (L.map rb) out i) (fun i => rb (-coef L i)) L.length fun i out hi ho => by
    show L62_0 (L.map rb) out (i : Int) = L62_0 (L.map rb) (out ++ [_]) _
    rw [L62_0_eq, cT (by rw [List.length_map]; omega), grd_p (by omega), grd_p (by rw [List.length_map]; omega), Int.toNat_natCast, map_rd rb z5 rb_zero, bnd (rneg_s ((hL.rd i).le (by omega))), fit_of (by simp only [List.length_singleton]; omega), grd_t, inc (by omega)]
  rw [F62_eq]
  refine h.trans ?_
  show L62_0 _ _ _ = _
  rw [L62_0_eq, cF (by rw [List.length_map]; omega), map_rb]
  congr 2
  refine List.ext_getElem (by simp) fun i h1 h2 => ?_
  have hi : i < L.length := by simpa using h1
  simp [coef, hi]
def pder (L : List Int) : List Int := pol (L.length - 1) fun i => coef L (i + 1) * ((i + 1 : Nat) : Int)
theorem rpder_s {L : List Int} (hL : Szs 30000 L) (lL : L.length ≤ 100000) : F61 (L.map rb) = some ((pder L).map rb) := by
  have h := loop_app (fun out i => L61_0 (L.map rb) out (i + 1)) (fun i => rb (coef L (i + 1) * ((i + 1 : Nat) : Int))) (L.length - 1) fun i out hi ho => by
    show L61_0 (L.map rb) out ((i : Int) + 1) = L61_0 (L.map rb) (out ++ [_]) (((i + 1 : Nat) : Int) + 1)
    have hs : Sz 40000 (((i + 1 : Nat) : Int)) := (sz_i64 (by omega) (by omega)).le (by omega)
    rw [show (i : Int) + 1 = ((i + 1 : Nat) : Int) by omega, L61_0_eq, cT (by rw [List.length_map]; omega), grd_p (by omega), grd_p (by rw [List.length_map]; omega), Int.toNat_natCast, bnd (EvR.rof_f (by omega) (by omega)), map_rd rb z5 rb_zero, bnd (rmul_s ((hL.rd _).le (by omega)) hs), fit_of (by simp only [List.length_singleton]; omega), grd_t, inc (by omega)]
    rfl
  rw [F61_eq]
  refine h.trans ?_
  show L61_0 _ _ _ = _
  rw [L61_0_eq, cF (by rw [List.length_map]; omega), map_rb, bnd (rptrim_s (by simp; omega))]
  rfl
/-- From its one form the derivative is the same. -/
theorem pder_tz (L : List Int) : pder (tz L) = pder L := by
  refine pol_ext fun i => ?_
  rw [coef_tz]
  have := tz_len L
  by_cases h : i < L.length - 1
  · rw [if_pos h]
    split
    · rfl
    · rw [← coef_tz, coef_ge (by omega), Int.zero_mul]
  · rw [if_neg h, if_neg (by omega)]
theorem padd_tz (L M : List Int) : padd (tz L) (tz M) = padd L M := by
  refine pol_ext fun i => ?_
  have h1 := tz_len L
  have h2 := tz_len M
  rw [coef_tz, coef_tz]
  by_cases h : i < max L.length M.length
  · rw [if_pos h]
    split
    · rfl
    · rw [← coef_tz L, ← coef_tz M, coef_ge (by omega), coef_ge (by omega)]; rfl
  · rw [if_neg h, if_neg (by omega)]
theorem psub_tz (L M : List Int) : psub (tz L) (tz M) = psub L M := by
  refine pol_ext fun i => ?_
  have h1 := tz_len L
  have h2 := tz_len M
  rw [coef_tz, coef_tz]
  by_cases h : i < max L.length M.length
  · rw [if_pos h]
    split
    · rfl
    · rw [← coef_tz L, ← coef_tz M, coef_ge (by omega), coef_ge (by omega)]; rfl
  · rw [if_neg h, if_neg (by omega)]
/-! products -/
def csum : Nat → (Nat → Int) → Int
  | 0, _ => 0
  | n + 1, f => csum n f + f n
theorem csum_congr {f g : Nat → Int} : ∀ {n : Nat}, (∀ j, j < n → f j = g j) → csum n f = csum n g
  | 0, _ => rfl
  | n + 1, h => by rw [csum, csum, csum_congr (n := n) fun j hj => h j (by omega), h n (by omega)]
theorem csum_tail {f : Nat → Int} {m : Nat} (h : ∀ j, m ≤ j → f j = 0) : ∀ {n : Nat}, m ≤ n → csum n f = csum m f
  | 0, hn => by rw [show m = 0 by omega]
  | n + 1, hn => by
    rcases Nat.eq_or_lt_of_le hn with q | q
    · rw [q]
    · rw [csum, csum_tail h (n := n) (by omega), h n (by omega), Int.add_zero]
theorem csum_nil {f : Nat → Int} : ∀ {n : Nat}, (∀ j, j < n → f j = 0) → csum n f = 0
  | 0, _ => rfl
  | n + 1, h => by rw [csum, csum_nil (n := n) fun j hj => h j (by omega), h n (by omega)]; rfl
theorem csum_zero {f : Nat → Int} (h : ∀ j, f j = 0) (n : Nat) : csum n f = 0 := csum_tail (m := 0) (fun j _ => h j) (Nat.zero_le n)
theorem csum_sz {f : Nat → Int} {e : Nat} : ∀ {n : Nat}, (∀ j, j < n → Sz e (f j)) → n ≤ 4294967295 → Sz (e + 1) (csum n f) := by
  intro n h hn
  have key : ∀ {n : Nat}, (∀ j, j < n → Sz e (f j)) → ((csum n f).natAbs : Int) ≤ n * 4294967296 ^ e := by
    intro n
    induction n with
    | zero => intro _; simp [csum]
    | succ n ih =>
      intro h
      have h1 := ih fun j hj => h j (by omega)
      have h2 := h n (by omega)
      unfold Sz at h2
      rw [csum, Int.natCast_add, Int.add_mul]
      omega
  have h1 := key h
  have h2 := pw_pos e
  have h3 : (n : Int) * 4294967296 ^ e ≤ 4294967295 * 4294967296 ^ e := Int.mul_le_mul_of_nonneg_right (by omega) (by omega)
  unfold Sz
  rw [pw_succ]
  omega
def cterm (L M : List Int) (n j : Nat) : Int := coef L j * cof M ((n : Int) - (j : Int))
def pmul (L M : List Int) : List Int := pol (L.length + M.length) fun n => csum L.length (cterm L M n)
theorem cterm_l {L M : List Int} {n j : Nat} (h : L.length ≤ j) : cterm L M n j = 0 := by unfold cterm; rw [coef_ge h, Int.zero_mul]
theorem cterm_n {L M : List Int} {n j : Nat} (h : n < j) : cterm L M n j = 0 := by unfold cterm; rw [cof_neg (by omega), Int.mul_zero]
theorem cterm_r {L M : List Int} {n j : Nat} (h : M.length + j ≤ n) : cterm L M n j = 0 := by
  unfold cterm
  rw [show (n : Int) - (j : Int) = ((n - j : Nat) : Int) by omega, cof_nat, coef_ge (L := M) (by omega), Int.mul_zero]
/-- Added up to any end beyond. -/
theorem csum_any {L M : List Int} {n k : Nat} (h : L.length ≤ k ∨ n < k) : csum k (cterm L M n) = csum L.length (cterm L M n) := by
  rcases Nat.le_total L.length k with q | q
  · exact csum_tail (fun j hj => cterm_l hj) q
  · rcases h with h | h
    · rw [show k = L.length by omega]
    · exact (csum_tail (fun j hj => cterm_n (by omega)) q).symm
theorem pmul_tz (L M : List Int) : pmul (tz L) (tz M) = pmul L M := by
  refine pol_ext fun n => ?_
  have h1 := tz_len L
  have h2 := tz_len M
  have e : cterm (tz L) (tz M) n = cterm L M n := funext fun j => by unfold cterm; rw [coef_tz, cof_tz]
  have e2 : csum L.length (cterm (tz L) (tz M) n) = csum (tz L).length (cterm (tz L) (tz M) n) := csum_tail (fun j hj => cterm_l hj) h1
  rw [← e, e2]
  by_cases h : n < L.length + M.length
  · rw [if_pos h]
    split
    · rfl
    · exact (csum_nil fun j hj => cterm_r (by omega)).symm
  · rw [if_neg h, if_neg (by omega)]
theorem set_range {α : Type} (N p : Nat) (v : α) (g : Nat → α) : ((List.range N).map g).set p v = (List.range N).map fun n => if n = p then v else g n := by
  refine List.ext_getElem (by simp) fun i h1 h2 => ?_
  simp only [List.getElem_set, List.getElem_map, List.getElem_range]
  by_cases h : p = i
  · rw [if_pos h, if_pos h.symm]
  · rw [if_neg h, if_neg fun q => h q.symm]
theorem range_rd {α : Type} {N p : Nat} {g : Nat → α} {z : α} (h : p < N) : ((List.range N).map g).getD p z = g p := by simp [List.getD, h]
/-- What stands at n after the first i coefficients, and the first k products of the next. -/
def part (L M : List Int) (i k n : Nat) : Int := csum i (cterm L M n) + if i ≤ n ∧ n < i + k then cterm L M n i else 0
theorem part_0 (L M : List Int) (i n : Nat) : part L M i 0 n = csum i (cterm L M n) := by unfold part; rw [if_neg (by omega), Int.add_zero]
theorem part_end (L M : List Int) (i n : Nat) : part L M i M.length n = part L M (i + 1) 0 n := by
  rw [part_0, csum]; unfold part
  congr 1
  split
  · rfl
  · rename_i h
    by_cases c : n < i
    · exact (cterm_n c).symm
    · exact (cterm_r (by omega)).symm
theorem rpmul_s {L M : List Int} (hL : Szs 10000 L) (hM : Szs 10000 M) (lL : L.length ≤ 10000) (lM : M.length ≤ 10000) : F57 (L.map rb) (M.map rb) = some ((pmul L M).map rb) := by
  have hT : ∀ n j, Sz 20000 (cterm L M n j) := fun n j => (sz_mul (hL.rd _) (hM.cof _)).le (by omega)
  have hS : ∀ n i, i ≤ 100000 → Sz 20001 (csum i (cterm L M n)) := fun n i hi => csum_sz (fun j _ => hT n j) (by omega)
  have h := loop_app (fun out n => L57_0 (L.map rb) (M.map rb) out n) (fun n => rb (csum L.length (cterm L M n))) (L.length + M.length) fun n out hn ho => by
    show L57_0 (L.map rb) (M.map rb) out (n : Int) = L57_0 (L.map rb) (M.map rb) (out ++ [_]) _
    have hin := loop_st (fun s i => L57_1 (L.map rb) (M.map rb) out (n : Int) s i) (fun i => rb (csum i (cterm L M n))) (n + 1) fun i hi => by
      show L57_1 _ _ _ _ (rb (csum i (cterm L M n))) (i : Int) = L57_1 _ _ _ _ (rb (csum (i + 1) (cterm L M n))) _
      have n1 : wr .i64 ((n : Int) - (i : Int)) = (n : Int) - (i : Int) := w64 (by omega) (by omega)
      rw [L57_1_eq, cT (by omega), bnd (rat_f L _), n1, bnd (rat_f M _), bnd (rmul_s ((hL.cof _).le (by omega)) ((hM.cof _).le (by omega))), cof_nat, show coef L i * cof M ((n : Int) - (i : Int)) = cterm L M n i from rfl, bnd (radd_s ((hS n i (by omega)).le (by omega)) ((hT n i).le (by omega))), inc (by omega)]
      rfl
    have l0 : wr .i64 ((L.length : Int) + (M.length : Int)) = ((L.length + M.length : Nat) : Int) := (w64 (by omega) (by omega)).trans (by omega)
    rw [L57_0_eq, List.length_map, List.length_map, l0, cT (by omega), ← rb_zero]
    refine hin.trans ?_
    show L57_1 _ _ _ _ _ ((n + 1 : Nat) : Int) = _
    rw [L57_1_eq, cF (by omega), fit_of (by simp only [List.length_singleton]; omega), grd_t, inc (by omega), csum_any (.inr (by omega))]
  have l0 : wr .i64 ((L.length : Int) + (M.length : Int)) = ((L.length + M.length : Nat) : Int) := (w64 (by omega) (by omega)).trans (by omega)
  rw [F57_eq]
  refine h.trans ?_
  show L57_0 _ _ _ _ = _
  rw [L57_0_eq, List.length_map, List.length_map, l0, cF (by omega), map_rb, bnd (rptrim_s (by simp; omega))]
  rfl
theorem pol_szs {n e : Nat} {f : Nat → Int} (h : ∀ i, i < n → Sz e (f i)) : Szs e (pol n f) := (Szs.range h).tz
theorem pol_len (n : Nat) (f : Nat → Int) : (pol n f).length ≤ n := by have := tz_len ((List.range n).map f); simpa [pol] using this
end Go.Proofs.Ytkpjeihgigmnkaa.EvP
