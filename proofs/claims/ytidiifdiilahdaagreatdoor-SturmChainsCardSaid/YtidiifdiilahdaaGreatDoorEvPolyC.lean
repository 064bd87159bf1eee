/- Polynomials by their values, further: differences, products, derivatives; both sides. -/
import Derived.Test.YtidiifdiilahdaaGreatDoorEvPolyB
namespace Go.Proofs.YtidiifdiilahdaaGreatDoor.EvP
open Go Go.Proofs.YtidiifdiilahdaaGreatDoor.Ev Go.Proofs.YtidiifdiilahdaaGreatDoor.NumB
set_option linter.unusedVariables false
set_option linter.unusedSimpArgs false
theorem psub_r {P Q : List S60} (hP : Rps 30000 P) (hQ : Rps 30000 Q) (lP : P.length ≤ 100000) (lQ : Q.length ≤ 100000) : F71 P Q = some ((psub (pv P) (pv Q)).map bg) := by
  have h := loop_app (fun out i => L65068_0 P Q out ((max P.length Q.length : Nat) : Int) i) (fun i => bg (coef (pv P) i - coef (pv Q) i)) (max P.length Q.length) fun i out hi ho => by
    show L65068_0 P Q out _ (i : Int) = L65068_0 P Q (out ++ [_]) _ _
    rw [L65068_0_eq, cT (by omega), bnd (pat_f P i), bnd (pat_f Q i), bnd (bsub_r ((hP.pg _).le (by omega)) ((hQ.pg _).le (by omega))), pg_v, pg_v, cof_nat, cof_nat, fit_of (by simp only [List.length_singleton]; omega), grd_t, inc (by omega)]
  rw [F71_eq, F65068_eq, mx_e]
  have h2 := h.trans (show _ = some ((psub (pv P) (pv Q)).map bg) from ?_)
  · rw [bnd h2]
  · show L65068_0 P Q _ _ _ = _
    have hz : Szs 40000 ((List.range (max P.length Q.length)).map fun i => coef (pv P) i - coef (pv Q) i) := Szs.range fun i _ => (sz_sub (hP.szs.rd i) (hQ.szs.rd i)).le (by omega)
    rw [L65068_0_eq, cF (by omega), map_bg, bnd (ptrim_s hz (by simp; omega))]
    unfold psub pol; rw [pv_len, pv_len]
theorem rpneg_s {L : List Int} (hL : Szs 30000 L) (lL : L.length ≤ 100000) : F34 (L.map rb) = some ((L.map fun x => -x).map rb) := by
  have h := loop_app (fun out i => L34_0 (L.map rb) out i) (fun i => rb (-coef L i)) L.length fun i out hi ho => by
    show L34_0 (L.map rb) out (i : Int) = L34_0 (L.map rb) (out ++ [_]) _
    rw [L34_0_eq, cT (by rw [List.length_map]; omega), grd_p (by omega), grd_p (by rw [List.length_map]; omega), Int.toNat_natCast, map_rd rb z2 rb_zero, bnd (rneg_s ((hL.rd i).le (by omega))), fit_of (by simp only [List.length_singleton]; omega), grd_t, inc (by omega)]
  rw [F34_eq]
  refine h.trans ?_
  show L34_0 _ _ _ = _
  rw [L34_0_eq, cF (by rw [List.length_map]; omega), map_rb]
  congr 2
  refine List.ext_getElem (by simp) fun i h1 h2 => ?_
  have hi : i < L.length := by simpa using h1
  simp [coef, hi]
def pder (L : List Int) : List Int := pol (L.length - 1) fun i => coef L (i + 1) * ((i + 1 : Nat) : Int)
theorem pder_r {P : List S60} (hP : Rps 30000 P) (lP : P.length ≤ 100000) : F30 P = some ((pder (pv P)).map bg) := by
  have h := loop_app (fun out i => L30_0 P out (i + 1)) (fun i => bg (coef (pv P) (i + 1) * ((i + 1 : Nat) : Int))) (P.length - 1) fun i out hi ho => by
    show L30_0 P out ((i : Int) + 1) = L30_0 P (out ++ [_]) (((i + 1 : Nat) : Int) + 1)
    have hs : Sz 2 (((i + 1 : Nat) : Int)) := sz_i64 (by omega) (by omega)
    rw [show (i : Int) + 1 = ((i + 1 : Nat) : Int) by omega, L30_0_eq, cT (by omega), grd_p (by omega), grd_p (by omega), Int.toNat_natCast, bnd (bof_f (by omega) (by omega)), bnd (bmul_r ((hP.rd _).le (by omega)) (hs.rp.le (by omega))), pv_rd, bv_bg, fit_of (by simp only [List.length_singleton]; omega), grd_t, inc (by omega)]
    rfl
  rw [F30_eq]
  refine h.trans ?_
  show L30_0 P _ _ = _
  have hz : Szs 40000 ((List.range (P.length - 1)).map fun i => coef (pv P) (i + 1) * ((i + 1 : Nat) : Int)) := Szs.range fun i hi => (sz_mul (hP.szs.rd _) (sz_i64 (x := ((i + 1 : Nat) : Int)) (by omega) (by omega))).le (by omega)
  rw [L30_0_eq, cF (by omega), map_bg, bnd (ptrim_s hz (by simp; omega))]
  unfold pder pol; rw [pv_len]
theorem rpder_s {L : List Int} (hL : Szs 30000 L) (lL : L.length ≤ 100000) : F33 (L.map rb) = some ((pder L).map rb) := by
  have h := loop_app (fun out i => L33_0 (L.map rb) out (i + 1)) (fun i => rb (coef L (i + 1) * ((i + 1 : Nat) : Int))) (L.length - 1) fun i out hi ho => by
    show L33_0 (L.map rb) out ((i : Int) + 1) = L33_0 (L.map rb) (out ++ [_]) (((i + 1 : Nat) : Int) + 1)
    have hs : Sz 40000 (((i + 1 : Nat) : Int)) := (sz_i64 (by omega) (by omega)).le (by omega)
    rw [show (i : Int) + 1 = ((i + 1 : Nat) : Int) by omega, L33_0_eq, cT (by rw [List.length_map]; omega), grd_p (by omega), grd_p (by rw [List.length_map]; omega), Int.toNat_natCast, bnd (EvR.rof_f (by omega) (by omega)), map_rd rb z2 rb_zero, bnd (rmul_s ((hL.rd _).le (by omega)) hs), fit_of (by simp only [List.length_singleton]; omega), grd_t, inc (by omega)]
    rfl
  rw [F33_eq]
  refine h.trans ?_
  show L33_0 _ _ _ = _
  rw [L33_0_eq, cF (by rw [List.length_map]; omega), map_rb, bnd (rptrim_s (by simp; omega))]
  rfl
/-- From its one form the derivative is the same. -/
theorem pder_tz (L : List Int) : pder (tz L) = pder L := by
  refine pol_ext fun i => ?_
  rw [coef_tz]
  have := tz_len L
  by_cases h : i < L.length - 1
  · rw [if_pos h]
    split
    · rfl
    · rw [← coef_tz, coef_ge (by omega), Int.zero_mul]
  · rw [if_neg h, if_neg (by omega)]
theorem padd_tz (L M : List Int) : padd (tz L) (tz M) = padd L M := by
  refine pol_ext fun i => ?_
  have h1 := tz_len L
  have h2 := tz_len M
  rw [coef_tz, coef_tz]
  by_cases h : i < max L.length M.length
  · rw [if_pos h]
    split
    · rfl
    · rw [← coef_tz L, ← coef_tz M, coef_ge (by omega), coef_ge (by omega)]; rfl
  · rw [if_neg h, if_neg (by omega)]
theorem psub_tz (L M : List Int) : psub (tz L) (tz M) = psub L M := by
  refine pol_ext fun i => ?_
  have h1 := tz_len L
  have h2 := tz_len M
  rw [coef_tz, coef_tz]
  by_cases h : i < max L.length M.length
  · rw [if_pos h]
    split
    · rfl
    · rw [← coef_tz L, ← coef_tz M, coef_ge (by omega), coef_ge (by omega)]; rfl
  · rw [if_neg h, if_neg (by omega)]
/-! products -/
def csum : Nat → (Nat → Int) → Int
  | 0, _ => 0
  | n + 1, f => csum n f + f n
theorem csum_congr {f g : Nat → Int} : ∀ {n : Nat}, (∀ j, j < n → f j = g j) → csum n f = csum n g
  | 0, _ => rfl
  | n + 1, h => by rw [csum, csum, csum_congr (n := n) fun j hj => h j (by omega), h n (by omega)]
theorem csum_tail {f : Nat → Int} {m : Nat} (h : ∀ j, m ≤ j → f j = 0) : ∀ {n : Nat}, m ≤ n → csum n f = csum m f
  | 0, hn => by rw [show m = 0 by omega]
  | n + 1, hn => by
    rcases Nat.eq_or_lt_of_le hn with q | q
    · rw [q]
    · rw [csum, csum_tail h (n := n) (by omega), h n (by omega), Int.add_zero]
theorem csum_nil {f : Nat → Int} : ∀ {n : Nat}, (∀ j, j < n → f j = 0) → csum n f = 0
  | 0, _ => rfl
  | n + 1, h => by rw [csum, csum_nil (n := n) fun j hj => h j (by omega), h n (by omega)]; rfl
theorem csum_zero {f : Nat → Int} (h : ∀ j, f j = 0) (n : Nat) : csum n f = 0 := csum_tail (m := 0) (fun j _ => h j) (Nat.zero_le n)
theorem csum_sz {f : Nat → Int} {e : Nat} : ∀ {n : Nat}, (∀ j, j < n → Sz e (f j)) → n ≤ 4294967295 → Sz (e + 1) (csum n f) := by
  intro n h hn
  have key : ∀ {n : Nat}, (∀ j, j < n → Sz e (f j)) → ((csum n f).natAbs : Int) ≤ n * 4294967296 ^ e := by
    intro n
    induction n with
    | zero => intro _; simp [csum]
    | succ n ih =>
      intro h
      have h1 := ih fun j hj => h j (by omega)
      have h2 := h n (by omega)
      unfold Sz at h2
      rw [csum, Int.natCast_add, Int.add_mul]
      omega
  have h1 := key h
  have h2 := pw_pos e
  have h3 : (n : Int) * 4294967296 ^ e ≤ 4294967295 * 4294967296 ^ e := Int.mul_le_mul_of_nonneg_right (by omega) (by omega)
  unfold Sz
  rw [pw_succ]
  omega
def cterm (L M : List Int) (n j : Nat) : Int := coef L j * cof M ((n : Int) - (j : Int))
def pmul (L M : List Int) : List Int := pol (L.length + M.length) fun n => csum L.length (cterm L M n)
theorem cterm_l {L M : List Int} {n j : Nat} (h : L.length ≤ j) : cterm L M n j = 0 := by unfold cterm; rw [coef_ge h, Int.zero_mul]
theorem cterm_n {L M : List Int} {n j : Nat} (h : n < j) : cterm L M n j = 0 := by unfold cterm; rw [cof_neg (by omega), Int.mul_zero]
theorem cterm_r {L M : List Int} {n j : Nat} (h : M.length + j ≤ n) : cterm L M n j = 0 := by
  unfold cterm
  rw [show (n : Int) - (j : Int) = ((n - j : Nat) : Int) by omega, cof_nat, coef_ge (L := M) (by omega), Int.mul_zero]
/-- Added up to any end beyond. -/
theorem csum_any {L M : List Int} {n k : Nat} (h : L.length ≤ k ∨ n < k) : csum k (cterm L M n) = csum L.length (cterm L M n) := by
  rcases Nat.le_total L.length k with q | q
  · exact csum_tail (fun j hj => cterm_l hj) q
  · rcases h with h | h
    · rw [show k = L.length by omega]
    · exact (csum_tail (fun j hj => cterm_n (by omega)) q).symm
theorem pmul_tz (L M : List Int) : pmul (tz L) (tz M) = pmul L M := by
  refine pol_ext fun n => ?_
  have h1 := tz_len L
  have h2 := tz_len M
  have e : cterm (tz L) (tz M) n = cterm L M n := funext fun j => by unfold cterm; rw [coef_tz, cof_tz]
  have e2 : csum L.length (cterm (tz L) (tz M) n) = csum (tz L).length (cterm (tz L) (tz M) n) := csum_tail (fun j hj => cterm_l hj) h1
  rw [← e, e2]
  by_cases h : n < L.length + M.length
  · rw [if_pos h]
    split
    · rfl
    · exact (csum_nil fun j hj => cterm_r (by omega)).symm
  · rw [if_neg h, if_neg (by omega)]
theorem set_range {α : Type} (N p : Nat) (v : α) (g : Nat → α) : ((List.range N).map g).set p v = (List.range N).map fun n => if n = p then v else g n := by
  refine List.ext_getElem (by simp) fun i h1 h2 => ?_
  simp only [List.getElem_set, List.getElem_map, List.getElem_range]
  by_cases h : p = i
  · rw [if_pos h, if_pos h.symm]
  · rw [if_neg h, if_neg fun q => h q.symm]
theorem range_rd {α : Type} {N p : Nat} {g : Nat → α} {z : α} (h : p < N) : ((List.range N).map g).getD p z = g p := by simp [List.getD, h]
/-- What stands at n after the first i coefficients, and the first k products of the next. -/
def part (L M : List Int) (i k n : Nat) : Int := csum i (cterm L M n) + if i ≤ n ∧ n < i + k then cterm L M n i else 0
theorem part_0 (L M : List Int) (i n : Nat) : part L M i 0 n = csum i (cterm L M n) := by unfold part; rw [if_neg (by omega), Int.add_zero]
theorem part_end (L M : List Int) (i n : Nat) : part L M i M.length n = part L M (i + 1) 0 n := by
  rw [part_0, csum]; unfold part
  congr 1
  split
  · rfl
  · rename_i h
    by_cases c : n < i
    · exact (cterm_n c).symm
    · exact (cterm_r (by omega)).symm
theorem pol_szs {n e : Nat} {f : Nat → Int} (h : ∀ i, i < n → Sz e (f i)) : Szs e (pol n f) := (Szs.range h).tz
theorem pol_len (n : Nat) (f : Nat → Int) : (pol n f).length ≤ n := by have := tz_len ((List.range n).map f); simpa [pol] using this
theorem degree_r {P : List S60} (hP : Rps 90000 P) (hl : P.length ≤ 1000000) : F83 P = some ((((tz (pv P)).length : Nat) : Int) - 1) := by
  have := tz_len (pv P)
  rw [pv_len] at this
  rw [F83_eq, bnd (ptrim_r hP hl), List.length_take, Nat.min_eq_left this, show wr .i64 (((tz (pv P)).length : Int) - 1) = ((tz (pv P)).length : Int) - 1 from w64 (by omega) (by omega)]
end Go.Proofs.YtidiifdiilahdaaGreatDoor.EvP
