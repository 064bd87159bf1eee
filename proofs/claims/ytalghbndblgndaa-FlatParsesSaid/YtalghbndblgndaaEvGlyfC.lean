/- Glyf: the contours, the points, the whole reader, both sides. -/
import Derived.Test.YtalghbndblgndaaEvGlyfA
namespace Go.Proofs.Ytalghbndblgndaa.Ev
open Go
set_option linter.unusedVariables false
set_option linter.unusedSimpArgs false
def gPt (xs ys Fl : List Int) (k : Nat) : S39 := S39.mk (xs.getD k 0) (ys.getD k 0) (bt (Fl.getD k 0) 1)
def gC (xs ys Fl : List Int) : Nat → Nat → List S39 → List S39
  | 0, _, c => c
  | d + 1, k, c => gC xs ys Fl d (k + 1) (c ++ [gPt xs ys Fl k])
def gCt (xs ys Fl : List Int) : List Int → Nat → CS → CS
  | [], _, A => A
  | e :: r, k, A => gCt xs ys Fl r (e.toNat + 1) (A ++ [gC xs ys Fl (e.toNat + 1 - k) k []])
def Up : Int → List Int → Int → Prop
  | a, [], z => a = z
  | a, e :: r, z => a < e ∧ Up e r z
theorem Up.le : ∀ {l : List Int} {a z : Int}, Up a l z → a ≤ z
  | [], a, z, h => Int.le_of_eq h
  | e :: r, a, z, h => Int.le_trans (Int.le_of_lt h.1) (Up.le h.2)
theorem Up.last : ∀ {l : List Int} {a z : Int} {n : Nat}, Up a l z → l.length = n + 1 → l.getD n 0 = z
  | [], a, z, n, h, k => by cases k
  | [e], a, z, n, h, k => by
    obtain rfl : n = 0 := by simpa using k.symm
    exact h.2
  | e :: f :: r, a, z, n, h, k => by
    cases n with
    | zero => simp at k
    | succ n =>
      have := Up.last (l := f :: r) (n := n) h.2 (by simpa using k)
      rw [← this]; rfl
theorem gC_len (xs ys Fl : List Int) : ∀ (d k : Nat) (c : List S39), (gC xs ys Fl d k c).length = c.length + d
  | 0, k, c => rfl
  | d + 1, k, c => by rw [gC, gC_len xs ys Fl d, List.length_append, List.length_singleton]; omega
theorem l124_1 {y : S192} {E xs ys Fl ends : List Int} (hF : Byt Fl) (hx : xs.length = Fl.length) (hy : ys.length = Fl.length) (hl : Fl.length ≤ 5000) {out : CS} (ho : out.length ≤ 1000) {lenE i : Int} {e : Nat} (he : e < Fl.length) :
    ∀ (d k : Nat) (c : List S39), k + d = e + 1 → c.length ≤ k → L124_1 (S132.mk (some y) E Fl) xs ys out (e : Int) c (k : Int) ends lenE i = L124_0 (S132.mk (some y) E Fl) xs ys (out ++ [gC xs ys Fl d k c]) ((e + 1 : Nat) : Int) ends lenE (wr .i64 (i + 1))
  | 0, k, c, h, hc => by
    rw [L124_1_eq]
    simp only [gC]
    rw [cF (by omega), fit_p (by simp; omega), inc (by omega)]
  | d + 1, k, c, h, hc => by
    have hf := hF _ (rd_mem Fl 0 k (by omega))
    have hb : (andE IntKind.u8 (Fl.getD k 0) (1 : Int) != 0) = bt (Fl.getD k 0) 1 := and_bt8 hf.1 hf.2 0 (by decide)
    rw [L124_1_eq]
    simp only [gC, Int.toNat_natCast]
    rw [cT (by omega), grd_p (by omega), grd_p (by omega), grd_p (by omega), grd_p (by omega), grd_p (by omega), grd_p (by omega), fit_p (by simp; omega), hb, inc (by omega)]
    exact l124_1 hF hx hy hl ho he d (k + 1) _ (by omega) (by simp; omega)
theorem l124_0 {y : S192} {E xs ys Fl : List Int} (hF : Byt Fl) (hx : xs.length = Fl.length) (hy : ys.length = Fl.length) (hl : Fl.length ≤ 5000) {z : Int} (hz : z < Fl.length) (hE : E.length ≤ 300) :
    ∀ (r E1 : List Int) (k : Nat) (A : CS), E = E1 ++ r → Up ((k : Int) - 1) r z → A.length = E1.length → L124_0 (S132.mk (some y) E Fl) xs ys A (k : Int) E (E.length : Int) (E1.length : Int) = some (gCt xs ys Fl r k A, S132.mk (some y) E Fl)
  | [], E1, k, A, h, hu, hA => by
    rw [L124_0_eq]
    simp only [gCt]
    rw [cF (by rw [h, List.append_nil]; omega)]
  | e :: r, E1, k, A, h, hu, hA => by
    have hle := hu.2.le
    have hk := hu.1
    obtain ⟨n, rfl⟩ := Int.eq_ofNat_of_zero_le (a := e) (by omega)
    have hlen : E.length = E1.length + (r.length + 1) := by rw [h, List.length_append, List.length_cons]
    have hg : E.getD E1.length 0 = (n : Int) := by rw [h]; simp
    rw [L124_0_eq]
    simp only [gCt, Int.toNat_natCast]
    rw [cT (by omega), grd_p (by omega), grd_p (by omega), hg, l124_1 hF hx hy hl (by omega) (by omega) (n + 1 - k) k [] (by omega) (by simp), inc (by omega)]
    have ih := l124_0 hF hx hy hl hz hE r (E1 ++ [(n : Int)]) (n + 1) (A ++ [gC xs ys Fl (n + 1 - k) k []]) (y := y) (by rw [h]; simp) (by rw [show ((n + 1 : Nat) : Int) - 1 = (n : Int) by omega]; exact hu.2) (by simp; omega)
    rw [show (E1 ++ [(n : Int)]).length = E1.length + 1 by simp] at ih
    exact ih
theorem tm_bt {f : Int} (h : 0 ≤ f) : (Int.tmod f (2 : Int) == 1) = bt f 1 := by
  unfold bt
  rw [Int.tmod_eq_emod_of_nonneg h, Int.ediv_one]; rfl
theorem l31_2 {n : Int} {E xs ys Fl : List Int} (hF : Byt Fl) (hx : xs.length = Fl.length) (hy : ys.length = Fl.length) (hl : Fl.length ≤ 5000) {out : CS} (ho : out.length ≤ 1000) {i e : Nat} (hi : i < E.length) (hg : E.getD i 0 = (e : Int)) (he : e < Fl.length) :
    ∀ (d k : Nat) (c : List S39), k + d = e + 1 → c.length ≤ k → L31_2 n E Fl xs ys out (k : Int) (i : Int) c = L31_1 n E Fl xs ys (out ++ [gC xs ys Fl d k c]) ((e + 1 : Nat) : Int) (wr .i64 ((i : Int) + 1))
  | 0, k, c, h, hc => by
    rw [L31_2_eq]
    simp only [gC, Int.toNat_natCast]
    rw [grd_p (by omega), grd_p (by omega), cF (by omega), fit_p (by simp; omega), show k = e + 1 by omega]
  | d + 1, k, c, h, hc => by
    have hf := hF _ (rd_mem Fl 0 k (by omega))
    rw [L31_2_eq]
    simp only [gC, Int.toNat_natCast]
    rw [grd_p (by omega), grd_p (by omega), cT (by omega), grd_p (by omega), grd_p (by omega), grd_p (by omega), grd_p (by omega), grd_p (by omega), grd_p (by omega), fit_p (by simp; omega), tm_bt hf.1, inc (i := k) (by omega)]
    exact l31_2 hF hx hy hl ho hi hg he d (k + 1) _ (by omega) (by simp; omega)
theorem l31_1 {E xs ys Fl : List Int} (hF : Byt Fl) (hx : xs.length = Fl.length) (hy : ys.length = Fl.length) (hl : Fl.length ≤ 5000) {z : Int} (hz : z < Fl.length) (hE : E.length ≤ 300) :
    ∀ (r E1 : List Int) (k : Nat) (A : CS), E = E1 ++ r → Up ((k : Int) - 1) r z → A.length = E1.length → L31_1 (E.length : Int) E Fl xs ys A (k : Int) (E1.length : Int) = some (gCt xs ys Fl r k A, 0)
  | [], E1, k, A, h, hu, hA => by
    rw [L31_1_eq]
    simp only [gCt]
    rw [cF (by rw [h, List.append_nil]; omega)]
  | e :: r, E1, k, A, h, hu, hA => by
    have hle := hu.2.le
    have hk := hu.1
    obtain ⟨n, rfl⟩ := Int.eq_ofNat_of_zero_le (a := e) (by omega)
    have hlen : E.length = E1.length + (r.length + 1) := by rw [h, List.length_append, List.length_cons]
    have hg : E.getD E1.length 0 = (n : Int) := by rw [h]; simp
    rw [L31_1_eq]
    simp only [gCt, Int.toNat_natCast]
    rw [cT (by omega), l31_2 hF hx hy hl (by omega) (by omega) hg (by omega) (n + 1 - k) k [] (by omega) (by simp), inc (by omega)]
    have ih := l31_1 hF hx hy hl hz hE r (E1 ++ [(n : Int)]) (n + 1) (A ++ [gC xs ys Fl (n + 1 - k) k []]) (by rw [h]; simp) (by rw [show ((n + 1 : Nat) : Int) - 1 = (n : Int) by omega]; exact hu.2) (by simp; omega)
    rw [show (E1 ++ [(n : Int)]).length = E1.length + 1 by simp] at ih
    exact ih
theorem gEnds_ok : ∀ (d : Nat) (last : Int) (E : List Int) (q : Q), (gEnds d last E q).1 = 0 → ∃ L, (gEnds d last E q).2.1 = E ++ L ∧ L.length = d ∧ Up last L (gEnds d last E q).2.2.1
  | 0, last, E, q, h => ⟨[], by rw [gEnds_0, List.append_nil], rfl, rfl⟩
  | d + 1, last, E, q, h => by
    rw [gEnds_s] at h ⊢
    by_cases hl : (num 2 q).1 ≤ last
    · rw [cT hl] at h; cases h
    · rw [cF hl] at h ⊢
      obtain ⟨L, h1, h2, h3⟩ := gEnds_ok d _ _ _ h
      exact ⟨(num 2 q).1 :: L, by rw [h1, List.append_assoc]; rfl, by rw [List.length_cons, h2], by omega, h3⟩
theorem gPl_ok {n : Nat} {q : Q} (h : (gPl n q).1 = 0) : (gPl n q).2.1.length = n ∧ Up (-1) (gPl n q).2.1 (gPl n q).2.2.1 ∧ (gPl n q).2.2.1 < 4096 := by
  unfold gPl at h ⊢
  by_cases hc : q.1.length < 2 * n
  · rw [cT hc] at h; cases h
  rw [cF hc] at h ⊢
  have h : gE (gEnds n (-1) [] q) = 0 := h
  show (gEnds n (-1) [] q).2.1.length = n ∧ Up (-1) (gEnds n (-1) [] q).2.1 (gEnds n (-1) [] q).2.2.1 ∧ (gEnds n (-1) [] q).2.2.1 < 4096
  unfold gE at h
  by_cases h1 : (gEnds n (-1) [] q).1 = 0
  · rw [cnF h1] at h
    obtain ⟨L, k1, k2, k3⟩ := gEnds_ok _ _ _ _ h1
    by_cases h2 : (gEnds n (-1) [] q).2.2.1 ≥ 4096
    · rw [cT h2] at h; cases h
    · exact ⟨by rw [k1]; exact k2, by rw [k1]; exact k3, by omega⟩
  · rw [cnT h1] at h; exact absurd h h1
theorem gFl_ok {n : Nat} : ∀ (d : Nat) (a : List Int) (q : Q), Byt q.1 → Byt a → a.length ≤ n → n < d + a.length → (gFl d n a q).1 = 0 → (gFl d n a q).2.1.length = n ∧ Byt (gFl d n a q).2.1
  | 0, a, q, hq, ha, h1, h2, h => by omega
  | d + 1, a, q, hq, ha, h1, h2, h => by
    have e2 := n1 hq
    have hq2 := num_byt (k := 1) hq
    have ha2 : Byt (a ++ [(num 1 q).1]) := ha.app fun v hv => by rw [List.mem_singleton.mp hv]; exact e2
    simp only [gFl] at h ⊢
    by_cases hc : a.length < n
    · rw [cT hc] at h ⊢
      cases hb : (num 1 q).2.2
      · rw [hb, cond_false] at h
        rw [cond_false]
        by_cases h128 : (num 1 q).1 ≥ 128
        · rw [cT h128] at h; cases h
        · rw [cF h128] at h ⊢
          cases h8 : bt (num 1 q).1 8
          · rw [h8, cond_false] at h
            rw [cond_false]
            exact gFl_ok d _ _ hq2 ha2 (by simp; omega) (by simp; omega) h
          · rw [h8, cond_true] at h
            rw [cond_true]
            cases hb4 : (num 1 (num 1 q).2).2.2
            · rw [hb4, cond_false] at h
              rw [cond_false]
              by_cases hx : a.length + 1 + (num 1 (num 1 q).2).1.toNat > n
              · rw [cT hx] at h; cases h
              · rw [cF hx] at h ⊢
                exact gFl_ok d _ _ (num_byt (k := 1) hq2) (ha2.app fun v hv => by rw [List.eq_of_mem_replicate hv]; exact e2) (by simp; omega) (by simp; omega) h
            · rw [hb4] at h; cases h
      · rw [hb] at h; cases h
    · rw [cF hc] at h ⊢
      exact ⟨by show a.length = n; omega, ha⟩
end Go.Proofs.Ytalghbndblgndaa.Ev
