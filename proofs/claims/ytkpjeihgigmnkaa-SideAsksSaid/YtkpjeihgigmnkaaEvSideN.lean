/- Is one of degree two at most below 0 between 0 and 1: what the reference answers. Seat r9's numbers. -/
import Derived.Test.YtkpjeihgigmnkaaEvSideB
namespace Go.Proofs.Ytkpjeihgigmnkaa.EvP
open Go Go.Proofs.Ytkpjeihgigmnkaa.Ev Go.Proofs.Ytkpjeihgigmnkaa.NumB
open Go.Proofs.Ytkpjeihgigmnkaa.EvN (i64)
set_option linter.unusedVariables false
set_option linter.unusedSimpArgs false
theorem wo_stop {N D : Int} {f : Nat} {L : List Int} {n : Nat} (h : ¬ (1 < L.length ∧ sm L N D L.length = 0)) : wo N D (f + 1) L n = (L, n) := by rw [wo, if_neg h]
theorem wo_go {N D : Int} {f : Nat} {L M : List Int} {n : Nat} (h1 : 1 < L.length) (h2 : sm L N D L.length = 0) (hp : parts L N D = M) : wo N D (f + 1) L n = wo N D f M (n + 1) := by rw [wo, if_pos ⟨h1, h2⟩, hp]
theorem v3_0 (a b c : Int) : sm [a, b, c] 0 1 3 = a := by simp [sm, coef]
theorem v3_1 (a b c : Int) : sm [a, b, c] 1 1 3 = a + b + c := by simp [sm, coef]; omega
theorem v2_0 (a b : Int) : sm [a, b] 0 1 2 = a := by simp [sm, coef]
theorem v2_1 (a b : Int) : sm [a, b] 1 1 2 = a + b := by simp [sm, coef]; omega
theorem tz1 {a : Int} (h : a ≠ 0) : tz [a] = [a] := by simp [tz, h]
theorem tz2 {a b : Int} (h : b ≠ 0) : tz [a, b] = [a, b] := by simp [tz, h]
theorem p2 (a b N : Int) (hb : b ≠ 0) : parts [a, b] N 1 = [b] := by
  refine Eq.trans (tz_ext (M := [b]) fun i => ?_) (tz1 hb)
  rw [coef_range]
  match i with
  | 0 => simp [abv, coef]
  | i + 1 => rw [if_neg (by simp)]; simp [coef]
theorem p3 (a b c N : Int) (hc : c ≠ 0) : parts [a, b, c] N 1 = [b + c * N, c] := by
  refine Eq.trans (tz_ext (M := [b + c * N, c]) fun i => ?_) (tz2 hc)
  rw [coef_range]
  match i with
  | 0 => simp [abv, coef]
  | 1 => simp [abv, coef]
  | i + 2 => rw [if_neg (by simp)]; simp [coef]
theorem w1 (N : Int) (f n : Nat) (a : Int) : wo N 1 (f + 1) [a] n = ([a], n) := wo_stop (by simp)
theorem inn1 (a : Int) : inn [a] = [a] := by unfold inn; rw [w1 0 9 0, w1 1 9 0]; rfl
theorem inn2 {a b : Int} (hb : b ≠ 0) : inn [a, b] = if a = 0 then [b] else if a + b = 0 then [-b] else [a, b] := by
  by_cases ha : a = 0
  · have e : wo 0 1 10 [a, b] 0 = ([b], 1) := by rw [wo_go (f := 9) (by simp) ((v2_0 a b).trans ha) (p2 a b 0 hb), w1 0 8]
    unfold inn; rw [e, w1 1 9, if_pos ha]; rfl
  · have e : wo 0 1 10 [a, b] 0 = ([a, b], 0) := wo_stop (f := 9) (fun h => ha ((v2_0 a b).symm.trans h.2))
    unfold inn; rw [e, if_neg ha]
    by_cases hs : a + b = 0
    · have e2 : wo 1 1 10 [a, b] 0 = ([b], 1) := by rw [wo_go (f := 9) (by simp) ((v2_1 a b).trans hs) (p2 a b 1 hb), w1 1 8]
      rw [e2, if_pos hs]; rfl
    · have e2 : wo 1 1 10 [a, b] 0 = ([a, b], 0) := wo_stop (f := 9) (fun h => hs ((v2_1 a b).symm.trans h.2))
      rw [e2, if_neg hs]; rfl
theorem inn3 {a b c : Int} (hc : c ≠ 0) : inn [a, b, c] = if a = 0 then (if b = 0 then [c] else if b + c = 0 then [-c] else [b, c]) else if a + b + c = 0 then (if b + 2 * c = 0 then [c] else [-(b + c), -c]) else [a, b, c] := by
  by_cases ha : a = 0
  · have e0 : wo 0 1 10 [a, b, c] 0 = wo 0 1 9 [b, c] 1 := by
      rw [wo_go (f := 9) (by simp) ((v3_0 a b c).trans ha) (p3 a b c 0 hc), Int.mul_zero, Int.add_zero]
    rw [if_pos ha]
    by_cases hb : b = 0
    · have e : wo 0 1 10 [a, b, c] 0 = ([c], 2) := by rw [e0, wo_go (f := 8) (by simp) ((v2_0 b c).trans hb) (p2 b c 0 hc), w1 0 7]
      unfold inn; rw [e, w1 1 9, if_pos hb]; rfl
    · have e : wo 0 1 10 [a, b, c] 0 = ([b, c], 1) := by rw [e0]; exact wo_stop (f := 8) (fun h => hb ((v2_0 b c).symm.trans h.2))
      unfold inn; rw [e, if_neg hb]
      by_cases hs : b + c = 0
      · have e2 : wo 1 1 10 [b, c] 0 = ([c], 1) := by rw [wo_go (f := 9) (by simp) ((v2_1 b c).trans hs) (p2 b c 1 hc), w1 1 8]
        rw [e2, if_pos hs]; rfl
      · have e2 : wo 1 1 10 [b, c] 0 = ([b, c], 0) := wo_stop (f := 9) (fun h => hs ((v2_1 b c).symm.trans h.2))
        rw [e2, if_neg hs]; rfl
  · have e : wo 0 1 10 [a, b, c] 0 = ([a, b, c], 0) := wo_stop (f := 9) (fun h => ha ((v3_0 a b c).symm.trans h.2))
    unfold inn; rw [e, if_neg ha]
    by_cases hs : a + b + c = 0
    · have e0 : wo 1 1 10 [a, b, c] 0 = wo 1 1 9 [b + c, c] 1 := by
        rw [wo_go (f := 9) (by simp) ((v3_1 a b c).trans hs) (p3 a b c 1 hc), Int.mul_one]
      rw [if_pos hs, e0]
      by_cases h2 : b + 2 * c = 0
      · have e2 : wo 1 1 9 [b + c, c] 1 = ([c], 2) := by rw [wo_go (f := 8) (by simp) ((v2_1 (b + c) c).trans (by omega)) (p2 (b + c) c 1 hc), w1 1 7]
        rw [e2, if_pos h2]; simp
      · have e2 : wo 1 1 9 [b + c, c] 1 = ([b + c, c], 1) := wo_stop (f := 8) (fun h => h2 (by have := (v2_1 (b + c) c).symm.trans h.2; omega))
        rw [e2, if_neg h2]; rfl
    · have e2 : wo 1 1 10 [a, b, c] 0 = ([a, b, c], 0) := wo_stop (f := 9) (fun h => hs ((v3_1 a b c).symm.trans h.2))
      rw [e2, if_neg hs]; rfl
/-- Below 0 between 0 and 1. -/
abbrev NegP (a b c : Int) : Prop := a < 0 ∨ a + b + c < 0 ∨ (0 < c ∧ b < 0 ∧ 0 < b + 2 * c ∧ 4 * a * c < b * b)
theorem easy1 (G) {a : Int} (ha : a ≠ 0) (za : Sz 50 a) : F42g G ([a].map rb) = some (decide (NegP a 0 0)) := by
  rw [fin1 G (fun x hx => by rw [List.mem_singleton.mp hx]; exact za.le (by omega)) (by simp) (by simp) (tz1 ha) (inn1 a) (za.le (by omega))]
  congr 1; exact decide_eq_decide.mpr (by unfold NegP; omega)
theorem easy2 (G) {a b : Int} (hb : b ≠ 0) (za : Sz 50 a) (zb : Sz 50 b) : F42g G ([a, b].map rb) = some (decide (NegP a b 0)) := by
  have hz : Szs 100 [a, b] := fun x hx => by rcases List.mem_cons.mp hx with q | q; rw [q]; exact za.le (by omega); rw [List.mem_singleton.mp q]; exact zb.le (by omega)
  have hi := inn2 (a := a) hb
  by_cases ha : a = 0
  · rw [if_pos ha] at hi
    rw [fin1 G hz (by simp) (by simp) (tz2 hb) hi (zb.le (by omega))]
    congr 1; exact decide_eq_decide.mpr (by unfold NegP; omega)
  · rw [if_neg ha] at hi
    by_cases hs : a + b = 0
    · rw [if_pos hs] at hi
      rw [fin1 G hz (by simp) (by simp) (tz2 hb) hi ((sz_neg zb).le (by omega))]
      congr 1; exact decide_eq_decide.mpr (by unfold NegP; omega)
    · rw [if_neg hs] at hi
      rw [fin2 G hz (by simp) (by simp) (tz2 hb) hi (za.le (by omega)) (zb.le (by omega)) hb ha hs]
      congr 1; exact decide_eq_decide.mpr (by unfold NegP; omega)
theorem easy3 (G) {a b c : Int} (hc : c ≠ 0) (za : Sz 50 a) (zb : Sz 50 b) (zc : Sz 50 c) (hn : ¬ Hard a b c) : F42g G ([a, b, c].map rb) = some (decide (NegP a b c)) := by
  have hz : Szs 100 [a, b, c] := szs3 (za.le (by omega)) (zb.le (by omega)) (zc.le (by omega))
  have hi := inn3 (a := a) (b := b) hc
  by_cases ha : a = 0
  · rw [if_pos ha] at hi
    by_cases hb : b = 0
    · rw [if_pos hb] at hi
      rw [fin1 G hz (by simp) (by simp) (tz3 hc) hi (zc.le (by omega))]
      congr 1; exact decide_eq_decide.mpr (by unfold NegP; omega)
    · rw [if_neg hb] at hi
      have hbb : 0 < b * b := by
        rcases Int.lt_or_gt_of_ne hb with q | q
        · have := Int.mul_pos_of_neg_of_neg q q; exact this
        · exact Int.mul_pos q q
      have hac : 4 * a * c = 0 := by rw [ha]; simp
      by_cases hs : b + c = 0
      · rw [if_pos hs] at hi
        rw [fin1 G hz (by simp) (by simp) (tz3 hc) hi ((sz_neg zc).le (by omega))]
        congr 1; exact decide_eq_decide.mpr (by unfold NegP; rw [hac]; omega)
      · rw [if_neg hs] at hi
        rw [fin2 G hz (by simp) (by simp) (tz3 hc) hi (zb.le (by omega)) (zc.le (by omega)) hc hb hs]
        congr 1; exact decide_eq_decide.mpr (by unfold NegP; rw [hac]; omega)
  · rw [if_neg ha] at hi
    by_cases hs : a + b + c = 0
    · rw [if_pos hs] at hi
      by_cases h2 : b + 2 * c = 0
      · rw [if_pos h2] at hi
        rw [fin1 G hz (by simp) (by simp) (tz3 hc) hi (zc.le (by omega))]
        congr 1; exact decide_eq_decide.mpr (by unfold NegP; omega)
      · rw [if_neg h2] at hi
        have hbb : 0 < (b + 2 * c) * (b + 2 * c) := by
          rcases Int.lt_or_gt_of_ne h2 with q | q
          · exact Int.mul_pos_of_neg_of_neg q q
          · exact Int.mul_pos q q
        have hd : b * b - 4 * a * c = (b + 2 * c) * (b + 2 * c) := by
          rw [show a = -(b + c) by omega]; grind
        rw [fin2 G hz (by simp) (by simp) (tz3 hc) hi ((sz_neg (sz_add zb zc)).le (by omega)) ((sz_neg zc).le (by omega)) (by omega) (by omega) (by omega)]
        congr 1; exact decide_eq_decide.mpr (by unfold NegP; omega)
    · rw [if_neg hs] at hi
      rw [(fin3 G hz (by simp) (by simp) (tz3 hc) hi (za.le (by omega)) (zb.le (by omega)) (zc.le (by omega)) hc ha hs).1 hn]
      congr 1; refine decide_eq_decide.mpr ?_
      unfold Hard at hn; unfold NegP; omega
theorem hard_bd {a b c : Int} (h : Hard a b c) : 0 < c ∧ 0 < a ∧ a < c ∧ -(2 * c) < b ∧ b < 0 := by
  obtain ⟨h1, h2, h3, h4, h5⟩ := h
  have hc : 0 < c := by omega
  refine ⟨hc, h1, ?_, by omega, h3⟩
  rcases Int.lt_or_le a c with q | q
  · exact q
  · exfalso
    have e1 := Int.mul_pos (show 0 < -b by omega) (show 0 < b + 2 * c by omega)
    have e2 := Int.mul_pos hc (show 0 < b + 2 * c by omega)
    have e3 := Int.mul_nonneg (Int.le_of_lt hc) (show 0 ≤ a - c by omega)
    have e4 : -b * (b + 2 * c) = -(b * b) - 2 * (b * c) := by grind
    have e5 : c * (b + 2 * c) = b * c + 2 * (c * c) := by grind
    have e6 : c * (a - c) = a * c - c * c := by grind
    have e7 : 4 * a * c = 4 * (a * c) := by grind
    omega
theorem hstep (G) {a b c : Int} (h : Hard a b c) (za : Sz 50 a) (zb : Sz 50 b) (zc : Sz 50 c) {y : Bool} (hy : F42r G ([4 * a, 2 * b, c].map rb) = some y) (h2 : y = true ∨ F42r G ([4 * a + 2 * b + c, 2 * b + 2 * c, c].map rb) = some true) : F42g G ([a, b, c].map rb) = some true := by
  obtain ⟨b1, b2, b3, b4, b5⟩ := hard_bd h
  have hs := h.2.1
  have hi := inn3 (a := a) (b := b) (c := c) (by omega)
  rw [if_neg (by omega), if_neg (by omega)] at hi
  rw [(fin3 G (szs3 (za.le (by omega)) (zb.le (by omega)) (zc.le (by omega))) (by simp) (by simp) (tz3 (by omega)) hi (za.le (by omega)) (zb.le (by omega)) (zc.le (by omega)) (by omega) (by omega) (by omega)).2 h, hy]
  rcases h2 with rfl | q
  · rfl
  · rw [q]; cases y <;> rfl
theorem hardT : ∀ (k : Nat) (a b c : Int), Sz 10 c → Hard a b c → 4 * (c * c) ≤ 4 ^ k * (b * b - 4 * a * c) → ∀ n, F42r (Gn D fd42 h42 (k + 2 + n)) ([a, b, c].map rb) = some true
  | 0, a, b, c, zc, h, hk, n => by
    exfalso
    obtain ⟨h1, h2, h3, h4, h5⟩ := hard_bd h
    have e1 := Int.mul_pos (show 0 < 2 * c - b by omega) (show 0 < b + 2 * c by omega)
    have e2 : (2 * c - b) * (b + 2 * c) = 4 * (c * c) - b * b := by grind
    have e3 := Int.mul_pos h2 h1
    have e4 : 4 * a * c = 4 * (a * c) := by grind
    rw [Int.pow_zero, Int.one_mul] at hk
    omega
  | k + 1, a, b, c, zc, h, hk, n => by
    have hd := h.2.2.2.2
    have hh := h
    obtain ⟨h1, h2, h3, h4, h5⟩ := hard_bd h
    have sz : ∀ {x : Int}, -(8 * c) ≤ x → x ≤ 8 * c → Sz 12 x := fun {x} l1 l2 => by
      have e : Sz 12 (8 * c) := (sz_mul (sz_i64 (x := 8) (by decide) (by decide)) zc).le (by omega)
      exact sz_le e (by omega)
    have hp := Int.pow_succ 4 k
    have hk' : 4 * (c * c) ≤ 4 ^ k * (4 * (b * b - 4 * a * c)) := by
      rw [hp] at hk
      have : (4 : Int) ^ k * 4 * (b * b - 4 * a * c) = 4 ^ k * (4 * (b * b - 4 * a * c)) := by rw [Int.mul_assoc]
      omega
    have dl : (2 * b) * (2 * b) - 4 * (4 * a) * c = 4 * (b * b - 4 * a * c) := by grind
    have dr : (2 * b + 2 * c) * (2 * b + 2 * c) - 4 * (4 * a + 2 * b + c) * c = 4 * (b * b - 4 * a * c) := by grind
    have eq1 : F42r (Gn D fd42 h42 (k + 1 + 2 + n)) ([a, b, c].map rb) = F42g (Gn D fd42 h42 (k + 2 + n)) ([a, b, c].map rb) := by
      rw [show k + 1 + 2 + n = (k + 2 + n) + 1 by omega]; exact F42_n _ _
    have st : ∀ x, F42r (Gn D fd42 h42 (k + 2 + n)) x = F42g (Gn D fd42 h42 (k + 1 + n)) x := fun x => by
      rw [show k + 2 + n = (k + 1 + n) + 1 by omega]; exact F42_n _ _
    have za := sz (x := a) (by omega) (by omega)
    have zb := sz (x := b) (by omega) (by omega)
    have ll : (4 * a + 2 * b + c < 0 ∨ 0 < b + c → F42r (Gn D fd42 h42 (k + 2 + n)) ([4 * a, 2 * b, c].map rb) = some true) ∧ ∃ y, F42r (Gn D fd42 h42 (k + 2 + n)) ([4 * a, 2 * b, c].map rb) = some y := by
      by_cases hH : Hard (4 * a) (2 * b) c
      · have := hardT k _ _ c zc hH (by rw [dl]; exact hk') n
        exact ⟨fun _ => this, _, this⟩
      · have := (st _).trans (easy3 (Gn D fd42 h42 (k + 1 + n)) (a := 4 * a) (b := 2 * b) (c := c) (by omega) ((sz (x := 4 * a) (by omega) (by omega)).le (by omega)) ((sz (x := 2 * b) (by omega) (by omega)).le (by omega)) (zc.le (by omega)) hH)
        exact ⟨fun hl => this.trans (congrArg some (decide_eq_true (by unfold NegP; omega))), _, this⟩
    have rr : ¬ (4 * a + 2 * b + c < 0 ∨ 0 < b + c) → F42r (Gn D fd42 h42 (k + 2 + n)) ([4 * a + 2 * b + c, 2 * b + 2 * c, c].map rb) = some true := fun hl => by
      by_cases hH : Hard (4 * a + 2 * b + c) (2 * b + 2 * c) c
      · exact hardT k _ _ c zc hH (by rw [dr]; exact hk') n
      · have hbc : b + c ≠ 0 := fun q => by
          have e1 : b * b = c * c := by rw [show b = -c by omega]; grind
          have e2 := Int.mul_nonneg (Int.le_of_lt h1) (show 0 ≤ 4 * a - c by omega)
          have e3 : c * (4 * a - c) = 4 * a * c - c * c := by grind
          omega
        exact ((st _).trans (easy3 (Gn D fd42 h42 (k + 1 + n)) (a := 4 * a + 2 * b + c) (b := 2 * b + 2 * c) (c := c) (by omega) ((sz (x := 4 * a + 2 * b + c) (by omega) (by omega)).le (by omega)) ((sz (x := 2 * b + 2 * c) (by omega) (by omega)).le (by omega)) (zc.le (by omega)) hH)).trans (congrArg some (decide_eq_true (by unfold NegP; omega)))
    obtain ⟨l1, y, hy⟩ := ll
    refine eq1.trans (hstep (Gn D fd42 h42 (k + 2 + n)) h (za.le (by omega)) (zb.le (by omega)) (zc.le (by omega)) hy ?_)
    by_cases hl : 4 * a + 2 * b + c < 0 ∨ 0 < b + c
    · exact .inl (Option.some.inj (hy.symm.trans (l1 hl)))
    · exact .inr (rr hl)
/-- Of one in one form. -/
theorem below_f {L : List Int} {a b c : Int} (hL : L = tz [a, b, c]) (hne : L ≠ []) (za : -4611686018427387904 ≤ a ∧ a ≤ 4611686018427387904) (zb : -4611686018427387904 ≤ b ∧ b ≤ 4611686018427387904) (zc : -4611686018427387904 ≤ c ∧ c ≤ 4611686018427387904) : F42 (L.map rb) = some (decide (NegP a b c)) := by
  have sa : Sz 2 a := sz_i64 (by omega) (by omega)
  have sb : Sz 2 b := sz_i64 (by omega) (by omega)
  have sc : Sz 2 c := sz_i64 (by omega) (by omega)
  subst hL
  by_cases hc : c = 0
  · subst hc
    by_cases hb : b = 0
    · subst hb
      have e : tz [a, 0, 0] = tz [a] := tz_ext fun i => by
        match i with
        | 0 => rfl
        | 1 => simp [coef]
        | 2 => simp [coef]
        | i + 3 => simp [coef]
      have ha : a ≠ 0 := fun q => hne (by rw [e, q]; rfl)
      rw [e, tz1 ha]
      exact F42_of 1 _ _ ((F42_n 0 _).trans (easy1 _ ha (sa.le (by omega))))
    · have e : tz [a, b, 0] = tz [a, b] := tz_ext fun i => by
        match i with
        | 0 => rfl
        | 1 => rfl
        | 2 => simp [coef]
        | i + 3 => simp [coef]
      rw [e, tz2 hb]
      exact F42_of 1 _ _ ((F42_n 0 _).trans (easy2 _ hb (sa.le (by omega)) (sb.le (by omega))))
  · rw [tz3 hc]
    by_cases hH : Hard a b c
    · have hn : NegP a b c := by unfold NegP Hard at *; omega
      have hd := hH.2.2.2.2
      obtain ⟨h1, _, _, _, _⟩ := hard_bd hH
      have hcc := (mul_bd (x := c) (y := c) zc.1 zc.2 zc.1 zc.2).2
      rw [decide_eq_true hn]
      refine F42_of (64 + 2 + 0) _ _ (hardT 64 a b c (sc.le (by omega)) hH ?_ 0)
      have e : (4 : Int) ^ 64 = 340282366920938463463374607431768211456 := by decide
      rw [e]; omega
    · exact F42_of 1 _ _ ((F42_n 0 _).trans (easy3 _ hc (sa.le (by omega)) (sb.le (by omega)) (sc.le (by omega)) hH))
end Go.Proofs.Ytkpjeihgigmnkaa.EvP
