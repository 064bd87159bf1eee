/- The reference's polynomials: of numbers, powers, a polynomial from one ratio to another one. Seat r9's numbers. -/
import Derived.Test.YtkpjeihgigmnkaaEvSideR
namespace Go.Proofs.Ytkpjeihgigmnkaa.EvP
open Go Go.Proofs.Ytkpjeihgigmnkaa.Ev Go.Proofs.Ytkpjeihgigmnkaa.NumB
open Go.Proofs.Ytkpjeihgigmnkaa.EvN (i64)
set_option linter.unusedVariables false
set_option linter.unusedSimpArgs false
theorem rpof_f {l : List Int} (hl : l.length ≤ 1000) (h : ∀ x ∈ l, i64 x) : F28 l = some ((tz l).map rb) := by
  have key : ∀ (d i : Nat), d + i = l.length → L28_0 l ((l.take i).map rb) (i : Int) = some ((tz l).map rb) := by
    intro d
    induction d with
    | zero =>
      intro i hi
      rw [L28_0_eq, cF (by omega), List.take_of_length_le (by omega), bnd (rptrim_s (by omega))]
    | succ d ih =>
      intro i hi
      have hm := rd_mem l 0 i (by omega)
      have e : (l.take i).map rb ++ [rb (l.getD i 0)] = (l.take (i + 1)).map rb := by
        rw [List.take_add_one, List.map_append]
        simp [List.getD, show i < l.length by omega]
      rw [L28_0_eq, cT (by omega), grd_p (by omega), grd_p (by omega), Int.toNat_natCast, bnd (rof (h _ hm)), fit_p (by simp; omega), e, inc (by omega)]
      exact ih (i + 1) (by omega)
  rw [F28_eq]
  exact key l.length 0 (by omega)
theorem pmul_szs {e f : Nat} {L M : List Int} (hL : Szs e L) (hM : Szs f M) (hl : L.length ≤ 1000) : Szs (e + f + 1) (pmul L M) :=
  pol_szs fun i hi => csum_sz (fun j hj => sz_mul (hL.rd j) (hM.cof _)) (by omega)
theorem pmul_len (L M : List Int) : (pmul L M).length ≤ L.length + M.length := pol_len _ _
theorem padd_szs {e f : Nat} {L M : List Int} (hL : Szs e L) (hM : Szs f M) : Szs (max e f + 1) (padd L M) := pol_szs fun i hi => sz_add (hL.rd i) (hM.rd i)
theorem padd_len (L M : List Int) : (padd L M).length ≤ max L.length M.length := pol_len _ _
def ppow (L : List Int) : Nat → List Int
  | 0 => tz [1]
  | n + 1 => pmul (ppow L n) L
theorem ppow_tz (L : List Int) : ∀ n, tz (ppow L n) = ppow L n
  | 0 => tz_tz _
  | n + 1 => tz_pol _ _
theorem ppow_ok {e : Nat} {L : List Int} (hL : Szs e L) (l2 : L.length ≤ 2) : ∀ n, n ≤ 2 → Szs (2 + n * (e + 1)) (ppow L n) ∧ (ppow L n).length ≤ 1 + 2 * n
  | 0, _ => ⟨by
      refine (Szs.tz fun x hx => ?_)
      rw [List.mem_singleton.mp hx]
      exact (sz_i64 (by omega) (by omega)).le (by omega), Nat.le_trans (tz_len _) (by simp)⟩
  | n + 1, h => by
    obtain ⟨h1, h2⟩ := ppow_ok hL l2 n (by omega)
    refine ⟨(pmul_szs h1 hL (by omega)).le ?_, Nat.le_trans (pmul_len _ _) (by omega)⟩
    rw [Nat.add_mul, Nat.one_mul]; omega
theorem rpow_f {e : Nat} {L : List Int} (hL : Szs e L) (he : e ≤ 2000) (l2 : L.length ≤ 2) {n : Nat} (hn : n ≤ 2) : F58 (L.map rb) (n : Int) = some ((ppow L n).map rb) := by
  have key : ∀ (d i : Nat), d + i = n → L58_0 (L.map rb) (n : Int) ((ppow L i).map rb) (i : Int) = some ((ppow L n).map rb) := by
    intro d
    induction d with
    | zero =>
      intro i hi
      rw [L58_0_eq, cF (by omega), show i = n by omega]
    | succ d ih =>
      intro i hi
      obtain ⟨h1, h2⟩ := ppow_ok hL l2 i (by omega)
      have hi2 : i * (e + 1) ≤ 2 * (e + 1) := Nat.mul_le_mul_right _ (by omega)
      rw [L58_0_eq, cT (by omega), bnd (rpmul_s (h1.le (by omega)) (hL.le (by omega)) (by omega) (by omega)), inc (by omega)]
      exact ih (i + 1) (by omega)
  rw [F58_eq, bnd (rpof_f (l := [1]) (by simp) (fun x hx => by rw [List.mem_singleton.mp hx]; exact i64_1))]
  exact key n 0 (by omega)
/-- What is summed up after k coefficients. -/
def pun (P : List Int) (d : Int) (ln : List Int) : Nat → List Int
  | 0 => []
  | i + 1 => padd (pun P d ln i) (pmul (pmul (tz [coef P i]) (ppow (tz [d]) (P.length - 1 - i))) (ppow ln i))
theorem one_szs {e : Nat} {x : Int} (h : Sz e x) : Szs e (tz [x]) := Szs.tz fun y hy => by rw [List.mem_singleton.mp hy]; exact h
theorem one_len (x : Int) : (tz [x]).length ≤ 1 := Nat.le_trans (tz_len _) (by simp)
theorem pun_ok {e : Nat} {P ln : List Int} {d : Int} (hP : Szs e P) (l3 : P.length ≤ 3) (hd : Sz 3 d) (hl : Szs 5 ln) (l2 : ln.length ≤ 2) : ∀ i, i ≤ 3 → Szs (e + 30 + i) (pun P d ln i) ∧ (pun P d ln i).length ≤ 20
  | 0, _ => ⟨fun x hx => (by cases hx), by simp [pun]⟩
  | i + 1, h => by
    obtain ⟨h1, h2⟩ := pun_ok hP l3 hd hl l2 i (by omega)
    obtain ⟨a1, a2⟩ := ppow_ok (one_szs hd) (Nat.le_trans (one_len d) (by omega)) (P.length - 1 - i) (by omega)
    obtain ⟨b1, b2⟩ := ppow_ok hl l2 i (by omega)
    have hc := one_len (coef P i)
    have a3 : (P.length - 1 - i) * (3 + 1) ≤ 2 * 4 := Nat.mul_le_mul_right _ (by omega)
    have b3 : i * (5 + 1) ≤ 2 * 6 := Nat.mul_le_mul_right _ (by omega)
    have m1 := pmul_szs (one_szs (hP.rd i)) (a1.le (n := 10) (by omega)) (by omega)
    have m1l := pmul_len (tz [coef P i]) (ppow (tz [d]) (P.length - 1 - i))
    have m2 := pmul_szs m1 (b1.le (n := 14) (by omega)) (by omega)
    have m2l := pmul_len (pmul (tz [coef P i]) (ppow (tz [d]) (P.length - 1 - i))) (ppow ln i)
    exact ⟨(padd_szs h1 m2).le (by omega), Nat.le_trans (padd_len _ _) (by omega)⟩
theorem runit_f {e : Nat} {P : List Int} (hP : Szs e P) (he : e ≤ 1000) (l3 : P.length ≤ 3) {a b : S59} (ha0 : i64 a.f0) (ha1 : i64 a.f1) (hb0 : i64 b.f0) (hb1 : i64 b.f1) (hd : Sz 3 (a.f1 * b.f1)) :
    F43 (P.map rb) a b = some ((pun P (a.f1 * b.f1) (tz [a.f0 * b.f1, b.f0 * a.f1 - a.f0 * b.f1]) P.length).map rb) := by
  have y1 := (sz_mul (i64.sz ha1) (i64.sz hb1)).le (n := 40000) (by omega)
  have y2 := sz_mul (i64.sz ha0) (i64.sz hb1)
  have y3 := sz_mul (i64.sz hb0) (i64.sz ha1)
  have y4 := sz_sub y3 y2
  have hl : Szs 5 (tz [a.f0 * b.f1, b.f0 * a.f1 - a.f0 * b.f1]) := Szs.tz fun x hx => by
    rcases List.mem_cons.mp hx with q | q
    · rw [q]; exact y2.le (by omega)
    · rw [List.mem_singleton.mp q]; exact y4.le (by omega)
  have l2 : (tz [a.f0 * b.f1, b.f0 * a.f1 - a.f0 * b.f1]).length ≤ 2 := Nat.le_trans (tz_len _) (by simp)
  have ht := rptrim_s (L := [a.f0 * b.f1, b.f0 * a.f1 - a.f0 * b.f1]) (by simp)
  generalize tz [a.f0 * b.f1, b.f0 * a.f1 - a.f0 * b.f1] = ln at *
  rw [F43_eq, bnd (rof ha1), bnd (rof hb1), bnd (rmul_s ((i64.sz ha1).le (by omega)) ((i64.sz hb1).le (by omega))), bnd (rof ha0), bnd (rof hb1), bnd (rmul_s ((i64.sz ha0).le (by omega)) ((i64.sz hb1).le (by omega))), bnd (rof hb0), bnd (rof ha1), bnd (rmul_s ((i64.sz hb0).le (by omega)) ((i64.sz ha1).le (by omega))), bnd (rsub_s (y3.le (by omega)) (y2.le (by omega))), show ([rb (a.f0 * b.f1), rb (b.f0 * a.f1 - a.f0 * b.f1)] : List S73) = [a.f0 * b.f1, b.f0 * a.f1 - a.f0 * b.f1].map rb from rfl, bnd ht]
  generalize a.f1 * b.f1 = d at *
  have key : ∀ (k i : Nat), k + i = P.length → L43_0 (P.map rb) (rb d) (ln.map rb) ((pun P d ln i).map rb) (i : Int) = some ((pun P d ln P.length).map rb) := by
    intro k
    induction k with
    | zero =>
      intro i hi
      rw [L43_0_eq, List.length_map, cF (by omega), show i = P.length by omega]
    | succ k ih =>
      intro i hi
      obtain ⟨h1, h2⟩ := pun_ok hP l3 hd hl l2 i (by omega)
      have od := one_szs hd
      have ol := one_len d
      have hc := one_len (coef P i)
      obtain ⟨a1, a2⟩ := ppow_ok od (Nat.le_trans ol (by omega)) (P.length - 1 - i) (by omega)
      obtain ⟨b1, b2⟩ := ppow_ok hl l2 i (by omega)
      have a3 : (P.length - 1 - i) * (3 + 1) ≤ 2 * 4 := Nat.mul_le_mul_right _ (by omega)
      have b3 : i * (5 + 1) ≤ 2 * 6 := Nat.mul_le_mul_right _ (by omega)
      have m1 := pmul_szs (one_szs (hP.rd i)) (a1.le (n := 10) (by omega)) (by omega)
      have m1l := pmul_len (tz [coef P i]) (ppow (tz [d]) (P.length - 1 - i))
      have m2 := pmul_szs m1 (b1.le (n := 14) (by omega)) (by omega)
      have m2l := pmul_len (pmul (tz [coef P i]) (ppow (tz [d]) (P.length - 1 - i))) (ppow ln i)
      have t1 : F41 [rb (coef P i)] = some ((tz [coef P i]).map rb) := rptrim_s (L := [coef P i]) (by simp)
      have t2 : F41 [rb d] = some ((tz [d]).map rb) := rptrim_s (L := [d]) (by simp)
      have w1 : wr .i64 (wr .i64 ((P.length : Int) - 1) - (i : Int)) = ((P.length - 1 - i : Nat) : Int) := by
        rw [wr64 (n := (P.length : Int) - 1) (by omega) (by omega), wr64 (by omega) (by omega)]; omega
      rw [L43_0_eq, List.length_map, cT (by omega), grd_p (by omega), grd_p (by omega), Int.toNat_natCast, map_rd rb z5 rb_zero, bnd t1, bnd t2, w1, bnd (rpow_f od (by omega) (by omega) (by omega)), bnd (rpmul_s ((one_szs (hP.rd i)).le (by omega)) (a1.le (by omega)) (by omega) (by omega)), bnd (rpow_f hl (by omega) l2 (by omega)), bnd (rpmul_s (m1.le (by omega)) (b1.le (by omega)) (by omega) (by omega)), bnd (rpadd_s (h1.le (by omega)) (m2.le (by omega)) (by omega) (by omega)), inc (by omega)]
      exact ih (i + 1) (by omega)
  exact key P.length 0 (by omega)
end Go.Proofs.Ytkpjeihgigmnkaa.EvP
