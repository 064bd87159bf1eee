/- Is one of degree two at most below 0 between 0 and 1: one step of the reference. Seat r9's numbers. -/
import Derived.Test.YtkpjeihgigmnkaaEvSideC
namespace Go.Proofs.Ytkpjeihgigmnkaa.EvP
open Go Go.Proofs.Ytkpjeihgigmnkaa.Ev Go.Proofs.Ytkpjeihgigmnkaa.NumB
open Go.Proofs.Ytkpjeihgigmnkaa.EvN (i64)
set_option linter.unusedVariables false
set_option linter.unusedSimpArgs false
/-- One step, of what is left without roots at the ends. -/
theorem bstep {L : List Int} (G) (hL : Szs 100 L) (l1 : 1 ≤ L.length) (l3 : L.length ≤ 3) (ht : tz L = L) {Q : List Int} (hQ : inn L = Q) (zQ : Szs 1000 Q) (q1 : 1 ≤ Q.length) :
    F42g G (L.map rb) = cond (decide (sm Q 0 1 Q.length < 0)) (some true) (cond (decide (sm Q 1 1 Q.length < 0)) (some true) (cond (decide (cnt Q < 2)) (some false)
      ((F42r G ((pun Q 2 [0, 1] Q.length).map rb)).bind fun y => cond y (some true) ((F42r G ((pun Q 2 [1, 1] Q.length).map rb)).bind fun y => some y)))) := by
  obtain ⟨i1, i2, i3, i4⟩ := inn_f hL (by omega) (by omega) ht
  rw [hQ] at i1 i3 i4
  obtain ⟨c1, c2, c3⟩ := rchn_f zQ (by omega) q1 i4
  have g0 := (chgs_3 (chn Q) 0 1 (chn Q).length).2
  have g1 := (chgs_3 (chn Q) 1 1 (chn Q).length).2
  have hd : Sz 3 ((S59.mk 0 1).f1 * (S59.mk 1 2).f1) := (sz_i64 (by decide) (by decide)).le (by omega)
  have hd2 : Sz 3 ((S59.mk 1 2).f1 * (S59.mk 1 1).f1) := (sz_i64 (by decide) (by decide)).le (by omega)
  have u1 := runit_f (e := 1000) zQ (by omega) (by omega) (a := S59.mk 0 1) (b := S59.mk 1 2) i64_0 i64_1 i64_1 i64_2 hd
  have u2 := runit_f (e := 1000) zQ (by omega) (by omega) (a := S59.mk 1 2) (b := S59.mk 1 1) i64_1 i64_2 i64_1 i64_1 hd2
  have e1 : pun Q ((S59.mk 0 1).f1 * (S59.mk 1 2).f1) (tz [(S59.mk 0 1).f0 * (S59.mk 1 2).f1, (S59.mk 1 2).f0 * (S59.mk 0 1).f1 - (S59.mk 0 1).f0 * (S59.mk 1 2).f1]) Q.length = pun Q 2 [0, 1] Q.length := by
    show pun Q 2 (tz [0, 1]) _ = _; rfl
  have e2 : pun Q ((S59.mk 1 2).f1 * (S59.mk 1 1).f1) (tz [(S59.mk 1 2).f0 * (S59.mk 1 1).f1, (S59.mk 1 1).f0 * (S59.mk 1 2).f1 - (S59.mk 1 2).f0 * (S59.mk 1 1).f1]) Q.length = pun Q 2 [1, 1] Q.length := by
    show pun Q 2 (tz [1, 1]) _ = _; rfl
  rw [e1] at u1
  rw [e2] at u2
  have hw : wr .i64 ((chgs (chn Q) 0 1 (chn Q).length).1 - (chgs (chn Q) 1 1 (chn Q).length).1) = cnt Q := by
    rw [wr64 (by omega) (by omega)]; rfl
  rw [F42_eq, bnd i1, F53_eq, F54_eq]
  simp only [Option.bind_some]
  rw [bnd (rsign_at (x := S59.mk 0 1) zQ (by omega) (by omega) i64_0 i64_1), sgn_neg, bnd (rsign_at (x := S59.mk 1 1) zQ (by omega) (by omega) i64_1 i64_1), sgn_neg, L42_0_eq, bnd c1, F53_eq, F54_eq]
  simp only [Option.bind_some]
  rw [bnd (rchanges_f (x := S59.mk 0 1) c2 (by omega) i64_0 i64_1), bnd (rchanges_f (x := S59.mk 1 1) c2 (by omega) i64_1 i64_1)]
  simp only
  rw [hw, bnd u1, bnd u2]
theorem fin1 (G) {L : List Int} (hL : Szs 100 L) (l1 : 1 ≤ L.length) (l3 : L.length ≤ 3) (ht : tz L = L) {a : Int} (hQ : inn L = [a]) (za : Sz 1000 a) : F42g G (L.map rb) = some (decide (a < 0)) := by
  rw [bstep G hL l1 l3 ht hQ (fun x hx => by rw [List.mem_singleton.mp hx]; exact za) (by simp)]
  have e : ∀ N, sm [a] N 1 1 = a := fun N => by simp [sm, coef]
  show cond (decide (sm [a] 0 1 1 < 0)) _ (cond (decide (sm [a] 1 1 1 < 0)) _ _) = _
  rw [e, e]
  by_cases h : a < 0
  · rw [cT h, decide_eq_true h]
  · rw [cF h, cF h, cnt1, cT (by omega), decide_eq_false h]
theorem fin2 (G) {L : List Int} (hL : Szs 100 L) (l1 : 1 ≤ L.length) (l3 : L.length ≤ 3) (ht : tz L = L) {a b : Int} (hQ : inn L = [a, b]) (za : Sz 1000 a) (zb : Sz 1000 b) (hb : b ≠ 0) (ha : a ≠ 0) (hs : a + b ≠ 0) : F42g G (L.map rb) = some (decide (a < 0 ∨ a + b < 0)) := by
  rw [bstep G hL l1 l3 ht hQ (fun x hx => by rcases List.mem_cons.mp hx with q | q; rw [q]; exact za; rw [List.mem_singleton.mp q]; exact zb) (by simp)]
  have e0 : sm [a, b] 0 1 2 = a := by simp [sm, coef]
  have e1 : sm [a, b] 1 1 2 = a + b := by simp [sm, coef]; omega
  show cond (decide (sm [a, b] 0 1 2 < 0)) _ (cond (decide (sm [a, b] 1 1 2 < 0)) _ _) = _
  rw [e0, e1]
  by_cases h : a < 0
  · rw [cT h, decide_eq_true (by omega)]
  · rw [cF h]
    by_cases h2 : a + b < 0
    · rw [cT h2, decide_eq_true (by omega)]
    · rw [cF h2, cT (cnt2 hb (by omega) (by omega)), decide_eq_false (by omega)]
/-- Where the halves are asked. -/
def Hard (f g h : Int) : Prop := 0 < f ∧ 0 < f + g + h ∧ g < 0 ∧ 0 < g + 2 * h ∧ 4 * f * h < g * g
theorem szs3 {e : Nat} {a b c : Int} (za : Sz e a) (zb : Sz e b) (zc : Sz e c) : Szs e [a, b, c] := fun x hx => by
  simp only [List.mem_cons, List.not_mem_nil, or_false] at hx
  rcases hx with q | q | q <;> rw [q] <;> assumption
theorem fin3 (G) {L : List Int} (hL : Szs 100 L) (l1 : 1 ≤ L.length) (l3 : L.length ≤ 3) (ht : tz L = L) {a b c : Int} (hQ : inn L = [a, b, c]) (za : Sz 1000 a) (zb : Sz 1000 b) (zc : Sz 1000 c) (hc : c ≠ 0) (ha : a ≠ 0) (hs : a + b + c ≠ 0) :
    (¬ Hard a b c → F42g G (L.map rb) = some (decide (a < 0 ∨ a + b + c < 0))) ∧ (Hard a b c → F42g G (L.map rb) = (F42r G ([4 * a, 2 * b, c].map rb)).bind fun y => cond y (some true) ((F42r G ([4 * a + 2 * b + c, 2 * b + 2 * c, c].map rb)).bind fun y => some y)) := by
  rw [bstep G hL l1 l3 ht hQ (szs3 za zb zc) (by simp)]
  have e0 : sm [a, b, c] 0 1 3 = a := by simp [sm, coef]
  have e1 : sm [a, b, c] 1 1 3 = a + b + c := by simp [sm, coef]; omega
  show (_ → cond (decide (sm [a, b, c] 0 1 3 < 0)) _ (cond (decide (sm [a, b, c] 1 1 3 < 0)) _ _) = _) ∧ (_ → cond (decide (sm [a, b, c] 0 1 3 < 0)) _ (cond (decide (sm [a, b, c] 1 1 3 < 0)) _ _) = _)
  rw [e0, e1, show [a, b, c].length = 3 from rfl, pun_left a b c hc, pun_right a b c hc]
  constructor
  · intro hn
    by_cases h : a < 0
    · rw [cT h, decide_eq_true (by omega)]
    · rw [cF h]
      by_cases h2 : a + b + c < 0
      · rw [cT h2, decide_eq_true (by omega)]
      · have hk : cnt [a, b, c] < 2 := by
          rcases Int.lt_or_le (cnt [a, b, c]) 2 with q | q
          · exact q
          · obtain ⟨k1, k2, k3⟩ := (cnt3 hc (by omega) (by omega)).mp q
            exact absurd ⟨by omega, by omega, k1, k2, k3⟩ hn
        rw [cF h2, cT hk, decide_eq_false (by omega)]
  · intro ⟨k1, k2, k3, k4, k5⟩
    have hk := (cnt3 hc k1 k2).mpr ⟨k3, k4, k5⟩
    rw [cF (by omega), cF (by omega), cF (by omega)]
end Go.Proofs.Ytkpjeihgigmnkaa.EvP
