/- Polynomials by their values, further: differences, products, derivatives; both sides. -/
import Derived.Test.YtnikppnfkjogdaaGreatDoorEvPolyB
namespace Go.Proofs.YtnikppnfkjogdaaGreatDoor.EvP
open Go Go.Proofs.YtnikppnfkjogdaaGreatDoor.Ev Go.Proofs.YtnikppnfkjogdaaGreatDoor.NumB
set_option linter.unusedVariables false
set_option linter.unusedSimpArgs false
theorem psub_r {P Q : List S77} (hP : Rps 30000 P) (hQ : Rps 30000 Q) (lP : P.length ≤ 100000) (lQ : Q.length ≤ 100000) : F97 P Q = some ((psub (pv P) (pv Q)).map bg) := by
  have h := loop_app (fun out i => L157158_0 P Q out ((max P.length Q.length : Nat) : Int) i) (fun i => bg (coef (pv P) i - coef (pv Q) i)) (max P.length Q.length) fun i out hi ho => by
    show L157158_0 P Q out _ (i : Int) = L157158_0 P Q (out ++ [_]) _ _
    rw [L157158_0_eq, cT (by omega), bnd (pat_f P i), bnd (pat_f Q i), bnd (bsub_r ((hP.pg _).le (by omega)) ((hQ.pg _).le (by omega))), pg_v, pg_v, cof_nat, cof_nat, fit_of (by simp only [List.length_singleton]; omega), grd_t, inc (by omega)]
  rw [F97_eq, F157158_eq, mx_e]
  have h2 := h.trans (show _ = some ((psub (pv P) (pv Q)).map bg) from ?_)
  · rw [bnd h2]
  · show L157158_0 P Q _ _ _ = _
    have hz : Szs 40000 ((List.range (max P.length Q.length)).map fun i => coef (pv P) i - coef (pv Q) i) := Szs.range fun i _ => (sz_sub (hP.szs.rd i) (hQ.szs.rd i)).le (by omega)
    rw [L157158_0_eq, cF (by omega), map_bg, bnd (ptrim_s hz (by simp; omega))]
    unfold psub pol; rw [pv_len, pv_len]
theorem rpadd_s {L M : List Int} (hL : Szs 30000 L) (hM : Szs 30000 M) (lL : L.length ≤ 100000) (lM : M.length ≤ 100000) : F51 (L.map rb) (M.map rb) = some ((padd L M).map rb) := by
  have h := loop_app (fun out i => L51_1 (L.map rb) (M.map rb) out i) (fun i => rb (coef L i + coef M i)) (max L.length M.length) fun i out hi ho => by
    show L51_1 (L.map rb) (M.map rb) out (i : Int) = L51_1 (L.map rb) (M.map rb) (out ++ [_]) _
    have J : L51_2 (L.map rb) (M.map rb) out (i : Int) = L51_1 (L.map rb) (M.map rb) (out ++ [rb (coef L i + coef M i)]) ((i + 1 : Nat) : Int) := by
      rw [L51_2_eq, bnd (rat_f L i), bnd (rat_f M i), bnd (radd_s ((hL.cof _).le (by omega)) ((hM.cof _).le (by omega))), cof_nat, cof_nat, fit_of (by simp only [List.length_singleton]; omega), grd_t, inc (by omega)]
    rw [L51_1_eq, List.length_map, List.length_map]
    by_cases c : i < L.length
    · rw [cT (by omega), J]
    · rw [cF (by omega), cT (by omega), J]
  rw [F51_eq]
  refine h.trans ?_
  show L51_1 _ _ _ _ = _
  rw [L51_1_eq, List.length_map, List.length_map, cF (by omega), cF (by omega), L51_0_eq, map_rb, bnd (rptrim_s (by simp; omega))]
  rfl
theorem rpneg_s {L : List Int} (hL : Szs 30000 L) (lL : L.length ≤ 100000) : F106 (L.map rb) = some ((L.map fun x => -x).map rb) := by
  have h := loop_app (fun out i => L106_0 (L.map rb) out i) (fun i => rb (-coef L i)) L.length fun i out hi ho => by
    show L106_0 (L.map rb) out (i : Int) = L106_0 (L.map rb) (out ++ [_]) _
    rw [L106_0_eq, cT (by rw [List.length_map]; omega), grd_p (by omega), grd_p (by rw [List.length_map]; omega), Int.toNat_natCast, map_rd rb z8 rb_zero, bnd (rneg_s ((hL.rd i).le (by omega))), fit_of (by simp only [List.length_singleton]; omega), grd_t, inc (by omega)]
  rw [F106_eq]
  refine h.trans ?_
  show L106_0 _ _ _ = _
  rw [L106_0_eq, cF (by rw [List.length_map]; omega), map_rb]
  congr 2
  refine List.ext_getElem (by simp) fun i h1 h2 => ?_
  have hi : i < L.length := by simpa using h1
  simp [coef, hi]
theorem rpsub_s {L M : List Int} (hL : Szs 29000 L) (hM : Szs 29000 M) (lL : L.length ≤ 100000) (lM : M.length ≤ 100000) : F56 (L.map rb) (M.map rb) = some ((psub L M).map rb) := by
  have hN : Szs 30000 (M.map fun x => -x) := fun x hx => by
    obtain ⟨y, hy, rfl⟩ := List.mem_map.1 hx
    exact (sz_neg (hM y hy)).le (by omega)
  rw [F56_eq, bnd (rpneg_s (hM.le (by omega)) lM), bnd (rpadd_s (hL.le (by omega)) hN lL (by simpa using lM))]
  congr 2
  unfold padd psub
  rw [List.length_map]
  refine pol_ext fun i => ?_
  have : coef (M.map fun x => -x) i = -coef M i := by
    unfold coef
    by_cases h : i < M.length
    · simp [List.getD, h]
    · simp [List.getD, List.getElem?_eq_none (show M.length ≤ i by omega)]
  rw [this, Int.sub_eq_add_neg]
def pder (L : List Int) : List Int := pol (L.length - 1) fun i => coef L (i + 1) * ((i + 1 : Nat) : Int)
theorem pder_r {P : List S77} (hP : Rps 30000 P) (lP : P.length ≤ 100000) : F213 P = some ((pder (pv P)).map bg) := by
  have h := loop_app (fun out i => L213_0 P out (i + 1)) (fun i => bg (coef (pv P) (i + 1) * ((i + 1 : Nat) : Int))) (P.length - 1) fun i out hi ho => by
    show L213_0 P out ((i : Int) + 1) = L213_0 P (out ++ [_]) (((i + 1 : Nat) : Int) + 1)
    have hs : Sz 2 (((i + 1 : Nat) : Int)) := sz_i64 (by omega) (by omega)
    rw [show (i : Int) + 1 = ((i + 1 : Nat) : Int) by omega, L213_0_eq, cT (by omega), grd_p (by omega), grd_p (by omega), Int.toNat_natCast, bnd (bof_f (by omega) (by omega)), bnd (bmul_r ((hP.rd _).le (by omega)) (hs.rp.le (by omega))), pv_rd, bv_bg, fit_of (by simp only [List.length_singleton]; omega), grd_t, inc (by omega)]
    rfl
  rw [F213_eq]
  refine h.trans ?_
  show L213_0 P _ _ = _
  have hz : Szs 40000 ((List.range (P.length - 1)).map fun i => coef (pv P) (i + 1) * ((i + 1 : Nat) : Int)) := Szs.range fun i hi => (sz_mul (hP.szs.rd _) (sz_i64 (x := ((i + 1 : Nat) : Int)) (by omega) (by omega))).le (by omega)
  rw [L213_0_eq, cF (by omega), map_bg, bnd (ptrim_s hz (by simp; omega))]
  unfold pder pol; rw [pv_len]
/-- From its one form the derivative is the same. -/
theorem pder_tz (L : List Int) : pder (tz L) = pder L := by
  refine pol_ext fun i => ?_
  rw [coef_tz]
  have := tz_len L
  by_cases h : i < L.length - 1
  · rw [if_pos h]
    split
    · rfl
    · rw [← coef_tz, coef_ge (by omega), Int.zero_mul]
  · rw [if_neg h, if_neg (by omega)]
theorem padd_tz (L M : List Int) : padd (tz L) (tz M) = padd L M := by
  refine pol_ext fun i => ?_
  have h1 := tz_len L
  have h2 := tz_len M
  rw [coef_tz, coef_tz]
  by_cases h : i < max L.length M.length
  · rw [if_pos h]
    split
    · rfl
    · rw [← coef_tz L, ← coef_tz M, coef_ge (by omega), coef_ge (by omega)]; rfl
  · rw [if_neg h, if_neg (by omega)]
theorem psub_tz (L M : List Int) : psub (tz L) (tz M) = psub L M := by
  refine pol_ext fun i => ?_
  have h1 := tz_len L
  have h2 := tz_len M
  rw [coef_tz, coef_tz]
  by_cases h : i < max L.length M.length
  · rw [if_pos h]
    split
    · rfl
    · rw [← coef_tz L, ← coef_tz M, coef_ge (by omega), coef_ge (by omega)]; rfl
  · rw [if_neg h, if_neg (by omega)]
/-! products -/
def csum : Nat → (Nat → Int) → Int
  | 0, _ => 0
  | n + 1, f => csum n f + f n
theorem csum_congr {f g : Nat → Int} : ∀ {n : Nat}, (∀ j, j < n → f j = g j) → csum n f = csum n g
  | 0, _ => rfl
  | n + 1, h => by rw [csum, csum, csum_congr (n := n) fun j hj => h j (by omega), h n (by omega)]
theorem csum_tail {f : Nat → Int} {m : Nat} (h : ∀ j, m ≤ j → f j = 0) : ∀ {n : Nat}, m ≤ n → csum n f = csum m f
  | 0, hn => by rw [show m = 0 by omega]
  | n + 1, hn => by
    rcases Nat.eq_or_lt_of_le hn with q | q
    · rw [q]
    · rw [csum, csum_tail h (n := n) (by omega), h n (by omega), Int.add_zero]
theorem csum_nil {f : Nat → Int} : ∀ {n : Nat}, (∀ j, j < n → f j = 0) → csum n f = 0
  | 0, _ => rfl
  | n + 1, h => by rw [csum, csum_nil (n := n) fun j hj => h j (by omega), h n (by omega)]; rfl
theorem csum_zero {f : Nat → Int} (h : ∀ j, f j = 0) (n : Nat) : csum n f = 0 := csum_tail (m := 0) (fun j _ => h j) (Nat.zero_le n)
theorem csum_sz {f : Nat → Int} {e : Nat} : ∀ {n : Nat}, (∀ j, j < n → Sz e (f j)) → n ≤ 4294967295 → Sz (e + 1) (csum n f) := by
  intro n h hn
  have key : ∀ {n : Nat}, (∀ j, j < n → Sz e (f j)) → ((csum n f).natAbs : Int) ≤ n * 4294967296 ^ e := by
    intro n
    induction n with
    | zero => intro _; simp [csum]
    | succ n ih =>
      intro h
      have h1 := ih fun j hj => h j (by omega)
      have h2 := h n (by omega)
      unfold Sz at h2
      rw [csum, Int.natCast_add, Int.add_mul]
      omega
  have h1 := key h
  have h2 := pw_pos e
  have h3 : (n : Int) * 4294967296 ^ e ≤ 4294967295 * 4294967296 ^ e := Int.mul_le_mul_of_nonneg_right (by omega) (by omega)
  unfold Sz
  rw [pw_succ]
  omega
def cterm (L M : List Int) (n j : Nat) : Int := coef L j * cof M ((n : Int) - (j : Int))
def pmul (L M : List Int) : List Int := pol (L.length + M.length) fun n => csum L.length (cterm L M n)
theorem cterm_l {L M : List Int} {n j : Nat} (h : L.length ≤ j) : cterm L M n j = 0 := by unfold cterm; rw [coef_ge h, Int.zero_mul]
theorem cterm_n {L M : List Int} {n j : Nat} (h : n < j) : cterm L M n j = 0 := by unfold cterm; rw [cof_neg (by omega), Int.mul_zero]
theorem cterm_r {L M : List Int} {n j : Nat} (h : M.length + j ≤ n) : cterm L M n j = 0 := by
  unfold cterm
  rw [show (n : Int) - (j : Int) = ((n - j : Nat) : Int) by omega, cof_nat, coef_ge (L := M) (by omega), Int.mul_zero]
/-- Added up to any end beyond. -/
theorem csum_any {L M : List Int} {n k : Nat} (h : L.length ≤ k ∨ n < k) : csum k (cterm L M n) = csum L.length (cterm L M n) := by
  rcases Nat.le_total L.length k with q | q
  · exact csum_tail (fun j hj => cterm_l hj) q
  · rcases h with h | h
    · rw [show k = L.length by omega]
    · exact (csum_tail (fun j hj => cterm_n (by omega)) q).symm
theorem pmul_tz (L M : List Int) : pmul (tz L) (tz M) = pmul L M := by
  refine pol_ext fun n => ?_
  have h1 := tz_len L
  have h2 := tz_len M
  have e : cterm (tz L) (tz M) n = cterm L M n := funext fun j => by unfold cterm; rw [coef_tz, cof_tz]
  have e2 : csum L.length (cterm (tz L) (tz M) n) = csum (tz L).length (cterm (tz L) (tz M) n) := csum_tail (fun j hj => cterm_l hj) h1
  rw [← e, e2]
  by_cases h : n < L.length + M.length
  · rw [if_pos h]
    split
    · rfl
    · exact (csum_nil fun j hj => cterm_r (by omega)).symm
  · rw [if_neg h, if_neg (by omega)]
theorem set_range {α : Type} (N p : Nat) (v : α) (g : Nat → α) : ((List.range N).map g).set p v = (List.range N).map fun n => if n = p then v else g n := by
  refine List.ext_getElem (by simp) fun i h1 h2 => ?_
  simp only [List.getElem_set, List.getElem_map, List.getElem_range]
  by_cases h : p = i
  · rw [if_pos h, if_pos h.symm]
  · rw [if_neg h, if_neg fun q => h q.symm]
theorem range_rd {α : Type} {N p : Nat} {g : Nat → α} {z : α} (h : p < N) : ((List.range N).map g).getD p z = g p := by simp [List.getD, h]
/-- What stands at n after the first i coefficients, and the first k products of the next. -/
def part (L M : List Int) (i k n : Nat) : Int := csum i (cterm L M n) + if i ≤ n ∧ n < i + k then cterm L M n i else 0
theorem part_0 (L M : List Int) (i n : Nat) : part L M i 0 n = csum i (cterm L M n) := by unfold part; rw [if_neg (by omega), Int.add_zero]
theorem part_end (L M : List Int) (i n : Nat) : part L M i M.length n = part L M (i + 1) 0 n := by
  rw [part_0, csum]; unfold part
  congr 1
  split
  · rfl
  · rename_i h
    by_cases c : n < i
    · exact (cterm_n c).symm
    · exact (cterm_r (by omega)).symm
theorem pmul_r {P Q : List S77} (hP : Rps 10000 P) (hQ : Rps 10000 Q) (lP : P.length ≤ 10000) (lQ : Q.length ≤ 10000) : F98 P Q = some ((pmul (pv P) (pv Q)).map bg) := by
  have hT : ∀ n j, Sz 20000 (cterm (pv P) (pv Q) n j) := fun n j => (sz_mul (hP.szs.rd _) (hQ.szs.cof _)).le (by omega)
  have hS : ∀ n i, i ≤ 10000 → Sz 20001 (csum i (cterm (pv P) (pv Q) n)) := fun n i hi => csum_sz (fun j _ => hT n j) (by omega)
  let st := fun (i k : Nat) => (List.range (P.length + Q.length)).map fun n => bg (part (pv P) (pv Q) i k n)
  have h := loop_st (fun out i => L98_0 Q out P (P.length : Int) i) (fun i => st i 0) P.length fun i hi => by
    show L98_0 Q (st i 0) P _ (i : Int) = L98_0 Q (st (i + 1) 0) P _ _
    have hin := loop_st (fun out k => L98_1 Q out (i : Int) (P.getD i z7) P (P.length : Int) (i : Int) Q (Q.length : Int) k) (fun k => st i k) Q.length fun k hk => by
      show L98_1 Q (st i k) _ _ _ _ _ _ _ (k : Int) = L98_1 Q (st i (k + 1)) _ _ _ _ _ _ _ _
      have n1 : wr .i64 ((i : Int) + (k : Int)) = ((i + k : Nat) : Int) := (w64 (by omega) (by omega)).trans (by omega)
      have ls : (st i k).length = P.length + Q.length := by simp [st]
      have e0 : part (pv P) (pv Q) i k (i + k) = csum i (cterm (pv P) (pv Q) (i + k)) := by unfold part; rw [if_neg (by omega), Int.add_zero]
      have ec : cterm (pv P) (pv Q) (i + k) i = coef (pv P) i * coef (pv Q) k := by
        unfold cterm; rw [show ((i + k : Nat) : Int) - (i : Int) = (k : Int) by omega, cof_nat]
      have hp : Sz 20000 (coef (pv P) i * coef (pv Q) k) := by rw [← ec]; exact hT _ _
      rw [L98_1_eq, cT (by omega), grd_p (by omega), grd_p (by omega), n1, grd_p (by omega), grd_p (by omega), Int.toNat_natCast, Int.toNat_natCast, bnd (bmul_r ((hP.rd _).le (by omega)) ((hQ.rd _).le (by omega))), pv_rd, pv_rd,
        range_rd (by omega), e0, bnd (badd_s ((hS _ i (by omega)).le (by omega)) (hp.le (by omega))), grd_p (by omega), grd_p (by omega), inc (by omega)]
      congr 1
      show ((List.range _).map _).set _ _ = _
      rw [set_range]
      refine List.map_congr_left fun n hn => ?_
      by_cases c : n = i + k
      · rw [if_pos c, c]
        unfold part
        rw [if_pos (by omega), ec]
      · rw [if_neg c]
        unfold part
        by_cases c2 : i ≤ n ∧ n < i + k
        · rw [if_pos c2, if_pos (by omega)]
        · rw [if_neg c2, if_neg (by omega)]
    rw [L98_0_eq, cT (by omega), grd_p (by omega), grd_p (by omega), Int.toNat_natCast]
    refine hin.trans ?_
    show L98_1 Q (st i Q.length) _ _ _ _ _ _ _ _ = _
    rw [L98_1_eq, cF (by omega), inc (by omega)]
    congr 1
    refine List.map_congr_left fun n hn => ?_
    have := part_end (pv P) (pv Q) i n
    rw [pv_len] at this
    rw [this]
  have n0 : wr .i64 ((P.length : Int) + (Q.length : Int)) = ((P.length + Q.length : Nat) : Int) := (w64 (by omega) (by omega)).trans (by omega)
  have e1 : List.replicate (P.length + Q.length) (S77.mk false []) = st 0 0 := by
    refine List.ext_getElem (by simp [st]) fun i h1 h2 => ?_
    simp only [st, List.getElem_replicate, List.getElem_map, part_0, csum, bg_zero]
  rw [F98_eq, n0, grd_p (by omega), grd_p (by omega), Int.toNat_natCast, fitM_of (by omega), grd_t, e1]
  refine h.trans ?_
  show L98_0 Q (st P.length 0) P _ _ = _
  have e2 : st P.length 0 = ((List.range (P.length + Q.length)).map fun n => csum P.length (cterm (pv P) (pv Q) n)).map bg := by
    rw [← map_bg]
    exact List.map_congr_left fun n _ => by rw [part_0]
  rw [L98_0_eq, cF (by omega), e2, bnd (ptrim_s (Szs.range fun n _ => (hS n _ (by omega)).le (by omega)) (by simp; omega))]
  unfold pmul pol
  rw [pv_len, pv_len]
theorem rpmul_s {L M : List Int} (hL : Szs 10000 L) (hM : Szs 10000 M) (lL : L.length ≤ 10000) (lM : M.length ≤ 10000) : F52 (L.map rb) (M.map rb) = some ((pmul L M).map rb) := by
  have hT : ∀ n j, Sz 20000 (cterm L M n j) := fun n j => (sz_mul (hL.rd _) (hM.cof _)).le (by omega)
  have hS : ∀ n i, i ≤ 100000 → Sz 20001 (csum i (cterm L M n)) := fun n i hi => csum_sz (fun j _ => hT n j) (by omega)
  have h := loop_app (fun out n => L52_0 (L.map rb) (M.map rb) out n) (fun n => rb (csum L.length (cterm L M n))) (L.length + M.length) fun n out hn ho => by
    show L52_0 (L.map rb) (M.map rb) out (n : Int) = L52_0 (L.map rb) (M.map rb) (out ++ [_]) _
    have hin := loop_st (fun s i => L52_1 (L.map rb) (M.map rb) out (n : Int) s i) (fun i => rb (csum i (cterm L M n))) (n + 1) fun i hi => by
      show L52_1 _ _ _ _ (rb (csum i (cterm L M n))) (i : Int) = L52_1 _ _ _ _ (rb (csum (i + 1) (cterm L M n))) _
      have n1 : wr .i64 ((n : Int) - (i : Int)) = (n : Int) - (i : Int) := w64 (by omega) (by omega)
      rw [L52_1_eq, cT (by omega), bnd (rat_f L _), n1, bnd (rat_f M _), bnd (rmul_s ((hL.cof _).le (by omega)) ((hM.cof _).le (by omega))), cof_nat, show coef L i * cof M ((n : Int) - (i : Int)) = cterm L M n i from rfl, bnd (radd_s ((hS n i (by omega)).le (by omega)) ((hT n i).le (by omega))), inc (by omega)]
      rfl
    have l0 : wr .i64 ((L.length : Int) + (M.length : Int)) = ((L.length + M.length : Nat) : Int) := (w64 (by omega) (by omega)).trans (by omega)
    rw [L52_0_eq, List.length_map, List.length_map, l0, cT (by omega), ← rb_zero]
    refine hin.trans ?_
    show L52_1 _ _ _ _ _ ((n + 1 : Nat) : Int) = _
    rw [L52_1_eq, cF (by omega), fit_of (by simp only [List.length_singleton]; omega), grd_t, inc (by omega), csum_any (.inr (by omega))]
  have l0 : wr .i64 ((L.length : Int) + (M.length : Int)) = ((L.length + M.length : Nat) : Int) := (w64 (by omega) (by omega)).trans (by omega)
  rw [F52_eq]
  refine h.trans ?_
  show L52_0 _ _ _ _ = _
  rw [L52_0_eq, List.length_map, List.length_map, l0, cF (by omega), map_rb, bnd (rptrim_s (by simp; omega))]
  rfl
theorem pol_szs {n e : Nat} {f : Nat → Int} (h : ∀ i, i < n → Sz e (f i)) : Szs e (pol n f) := (Szs.range h).tz
theorem pol_len (n : Nat) (f : Nat → Int) : (pol n f).length ≤ n := by have := tz_len ((List.range n).map f); simpa [pol] using this
theorem degree_r {P : List S77} (hP : Rps 90000 P) (hl : P.length ≤ 1000000) : F212 P = some ((((tz (pv P)).length : Nat) : Int) - 1) := by
  have := tz_len (pv P)
  rw [pv_len] at this
  rw [F212_eq, bnd (ptrim_r hP hl), List.length_take, Nat.min_eq_left this, show wr .i64 (((tz (pv P)).length : Int) - 1) = ((tz (pv P)).length : Int) - 1 from w64 (by omega) (by omega)]
end Go.Proofs.YtnikppnfkjogdaaGreatDoor.EvP
