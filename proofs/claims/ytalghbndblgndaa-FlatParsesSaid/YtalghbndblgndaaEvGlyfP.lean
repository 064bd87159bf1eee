/- Glyf: where contours end, flags: what is read, both sides. -/
import Derived.Test.YtalghbndblgndaaEvCompL
import Derived.Test.YtalghbndblgndaaEvFlatM
namespace Go.Proofs.Ytalghbndblgndaa.Ev
open Go
set_option linter.unusedVariables false
set_option linter.unusedSimpArgs false
theorem and_nat8 {x y : Nat} (hx : x < 256) (hy : y < 256) : andE IntKind.u8 (x : Int) (y : Int) = ((x &&& y : Nat) : Int) :=
  (bits_nat .u8 8 (by decide) (fun n h0 h1 => wu8 h0 h1) x y hx hy).1
theorem and_bt8 {f : Int} (h0 : 0 ≤ f) (h1 : f < 256) (i : Nat) (hi : 2 ^ i < 256) : (andE IntKind.u8 f ((2 ^ i : Nat) : Int) != 0) = bt f ((2 ^ i : Nat) : Int) := by
  obtain ⟨n, rfl⟩ := Int.eq_ofNat_of_zero_le h0
  rw [and_nat8 (by omega) hi, and_bit]
  unfold bt
  have hp : 0 < 2 ^ i := Nat.two_pow_pos i
  have e : ((n : Int) / ((2 ^ i : Nat) : Int) % 2 = 1) ↔ (n / 2 ^ i % 2 = 1) := by
    rw [← Int.natCast_ediv]; omega
  by_cases h : n / 2 ^ i % 2 = 1
  · rw [if_pos h, decide_eq_true (e.mpr h)]
    exact bne_iff_ne.mpr (by omega)
  · rw [if_neg h, decide_eq_false (fun h' => h (e.mp h'))]; rfl
/-- The program's reader of a glyph. -/
def Mk (s : ByteArray) (x : S132) (q : Q) (E Fl : List Int) : Prop := (∃ y, x.f0 = some y ∧ RdP s y q) ∧ x.f1 = E ∧ x.f2 = Fl
theorem Mk.mk' {s y q E Fl} (h : RdP s y q) : Mk s (S132.mk (some y) E Fl) q E Fl := ⟨⟨y, rfl, h⟩, rfl, rfl⟩
theorem RdP.left {s x q} (h : RdP s x q) : (q.1.length : Int) = (s.size : Int) - x.f1 := by
  obtain ⟨_, _, a, h1, ha, e⟩ := h
  rw [e, h1, List.length_drop, by_len]; omega
theorem RdR.left {s x q} (h : RdR s x q) : (q.1.length : Int) = (s.size : Int) - x.f1 := by
  obtain ⟨_, _, a, h1, ha, e⟩ := h
  rw [e, h1, List.length_drop, by_len]; omega
/-! the ends -/
def gEnds : Nat → Int → List Int → Q → Int × List Int × Int × Q
  | 0, last, E, q => (0, E, last, q)
  | d + 1, last, E, q => cond (decide ((num 2 q).1 ≤ last)) (4, E, last, (num 2 q).2) (gEnds d (num 2 q).1 (E ++ [(num 2 q).1]) (num 2 q).2)
/-- What is left behind the ends: the length of what is passed over, and that. -/
def gSkip (q : Q) : Q := (tk (num 2 q).1.toNat (num 2 q).2).2
/-- The error that is met. -/
def gE (r : Int × List Int × Int × Q) : Int := cond (r.1 != 0) r.1 (cond (decide (r.2.2.1 ≥ 4096)) 6 (cond (gSkip r.2.2.2).2 3 0))
/-- An error, the ends, the last one, what is left. -/
def gPl (n : Nat) (q : Q) : Int × List Int × Int × Q :=
  cond (decide (q.1.length < 2 * n)) (3, [], -1, q) (gE (gEnds n (-1) [] q), (gEnds n (-1) [] q).2.1, (gEnds n (-1) [] q).2.2.1, gSkip (gEnds n (-1) [] q).2.2.2)
theorem gEnds_s (d : Nat) (last : Int) (E : List Int) (q : Q) : gEnds (d + 1) last E q = cond (decide ((num 2 q).1 ≤ last)) (4, E, last, (num 2 q).2) (gEnds d (num 2 q).1 (E ++ [(num 2 q).1]) (num 2 q).2) := rfl
theorem gEnds_0 (last : Int) (E : List Int) (q : Q) : gEnds 0 last E q = (0, E, last, q) := rfl
theorem gEnds_byt : ∀ (d : Nat) (last : Int) (E : List Int) (q : Q), Byt q.1 → Byt (gEnds d last E q).2.2.2.1
  | 0, last, E, q, h => h
  | d + 1, last, E, q, h => by
    unfold gEnds
    cases decide ((num 2 q).1 ≤ last)
    · exact gEnds_byt d _ _ _ (num_byt h)
    · exact num_byt h
section
variable {s : ByteArray} (hs : s.size ≤ 1000000000)
include hs
theorem f72 {x : S192} {q : Q} (h : RdP s x q) {n : Int} (h0 : 0 ≤ n) (hn : n ≤ 1000000000) : ∃ x', F72 x n = some x' ∧ RdP s x' (tk n.toNat q).2 := by
  obtain ⟨k, rfl⟩ := Int.eq_ofNat_of_zero_le h0
  obtain ⟨t, x', h1, _, h3⟩ := f120 hs h (n := k) (by omega)
  rw [F72_eq, bnd h1]
  exact ⟨x', rfl, by rw [Int.toNat_natCast]; exact h3⟩
theorem l121 {Fl : List Int} {n : Nat} (hn : n ≤ 1000) : ∀ (d i : Nat) (x : S132) (last : Int) (E : List Int) (q : Q), d + i = n → Mk s x q E Fl → E.length ≤ i → -1 ≤ last → last ≤ 65535 →
    ∃ x', L121_0 x last (n : Int) (i : Int) = some (gE (gEnds d last E q), x') ∧ (∃ q' E', Mk s x' q' E' Fl) ∧ (gE (gEnds d last E q) = 0 → Mk s x' (gSkip (gEnds d last E q).2.2.2) (gEnds d last E q).2.1 Fl)
  | 0, i, x, last, E, q, h, hm, hE, h1, h2 => by
    obtain ⟨⟨y, hy, hr⟩, rfl, rfl⟩ := hm
    rw [L121_0_eq, hy, gEnds_0]
    simp only
    rw [cF (by omega)]
    by_cases hl : last ≥ 4096
    · have e : gE (0, x.f1, last, q) = 6 := by unfold gE; rw [cnF rfl, cT hl]
      rw [cT hl, e]
      exact ⟨_, rfl, ⟨_, _, Mk.mk' hr⟩, fun e => by cases e⟩
    · have e : gE (0, x.f1, last, q) = cond (gSkip q).2 3 0 := by unfold gE; rw [cnF rfl, cF hl]
      obtain ⟨y3, a3, b3⟩ := f119 hs hr
      have e3 := n2 hr.byt
      rw [cF hl, bnd a3, wr64 (by omega) (by omega), e]
      obtain ⟨y4, a4, b4⟩ := f72 hs b3 e3.1 (by omega)
      rw [bnd a4, bnd (f73 b4)]
      exact ⟨_, rfl, ⟨_, _, Mk.mk' b4⟩, fun _ => Mk.mk' b4⟩
  | d + 1, i, x, last, E, q, h, hm, hE, h1, h2 => by
    obtain ⟨⟨y, hy, hr⟩, rfl, rfl⟩ := hm
    obtain ⟨y2, a2, b2⟩ := f119 hs hr
    have e2 := n2 hr.byt
    rw [L121_0_eq, hy, gEnds_s]
    simp only
    rw [cT (by omega), bnd a2, wr64 (by omega) (by omega)]
    by_cases hl : (num 2 q).1 ≤ last
    · rw [cT hl, cT hl]
      exact ⟨_, rfl, ⟨_, _, Mk.mk' b2⟩, fun e => by cases e⟩
    · rw [cF hl, cF hl, fit_p (by simp; omega), inc (by omega)]
      exact l121 hn d (i + 1) _ _ _ _ (by omega) (Mk.mk' b2) (by simp; omega) (by omega) (by omega)
theorem f121 {x : S132} {q : Q} {Fl : List Int} {n : Nat} (hn : n ≤ 1000) (hm : Mk s x q [] Fl) : ∃ x', F121 x (n : Int) = some ((gPl n q).1, x') ∧ (∃ q' E', Mk s x' q' E' Fl) ∧ ((gPl n q).1 = 0 → Mk s x' (gPl n q).2.2.2 (gPl n q).2.1 Fl) := by
  obtain ⟨⟨y, hy, hr⟩, hE, hF⟩ := hm
  have hl := hr.left
  have hr0 := hr
  obtain ⟨hs0, _, a, h1, ha, _⟩ := hr0
  rw [F121_eq, hy]
  simp only [Option.bind_some]
  rw [F151_eq]
  simp only [Option.bind_some]
  rw [hs0, wr64 (n := (s.size : Int) - y.f1) (by omega) (by omega), wr64 (by omega) (by omega)]
  unfold gPl
  by_cases hc : q.1.length < 2 * n
  · rw [cT (by omega), cT hc]
    exact ⟨_, rfl, ⟨q, x.f1, by rw [hF]; exact Mk.mk' hr⟩, fun e => by cases e⟩
  · rw [cF (by omega), cF hc]
    exact l121 hs hn n 0 (S132.mk (some y) x.f1 x.f2) (-1) [] q (by omega) (by rw [hE, hF]; exact Mk.mk' hr) (by simp) (by omega) (by omega)
end
/-! flags -/
def gFl : Nat → Nat → List Int → Q → Int × List Int × Q
  | 0, _, a, q => (0, a, q)
  | d + 1, n, a, q => cond (decide (a.length < n))
      (cond (num 1 q).2.2 (3, a, (num 1 q).2)
      (cond (decide ((num 1 q).1 ≥ 128)) (4, a, (num 1 q).2)
      (cond (bt (num 1 q).1 8)
        (cond (num 1 (num 1 q).2).2.2 (3, a, (num 1 q).2)
        (cond (decide (a.length + 1 + (num 1 (num 1 q).2).1.toNat > n)) (4, a, (num 1 q).2)
        (gFl d n (a ++ [(num 1 q).1] ++ List.replicate (num 1 (num 1 q).2).1.toNat (num 1 q).1) (num 1 (num 1 q).2).2)))
      (gFl d n (a ++ [(num 1 q).1]) (num 1 q).2))))
      (0, a, q)
section
variable {s : ByteArray} (hs : s.size ≤ 1000000000)
include hs
omit hs in
theorem l152 {E : List Int} {q : Q} {n f : Int} {c : Nat} (hc : c ≤ 255) : ∀ (d i : Nat) (x : S132) (a : List Int), d + i = c → Mk s x q E a → a.length ≤ 10000 + i →
    ∃ x', L152_0 x n f (c : Int) (i : Int) = some (cond q.2 3 (cond (decide (((a.length + d : Nat) : Int) ≤ n)) 0 4), x') ∧ Mk s x' q E (a ++ List.replicate d f)
  | 0, i, x, a, h, hm, ha => by
    obtain ⟨⟨y, hy, hr⟩, rfl, rfl⟩ := hm
    rw [L152_0_eq, hy]
    simp only
    rw [cF (by omega), bnd (f73 hr)]
    cases q.2
    · rw [cond_false, cnF (by rfl), F163_eq]
      refine ⟨_, ?_, by rw [List.replicate_zero, List.append_nil]; exact Mk.mk' hr⟩
      rw [cond_false, Nat.add_zero]
      cases decide ((x.f2.length : Int) ≤ n) <;> rfl
    · rw [cond_true, cnT (by simp)]
      exact ⟨_, rfl, by rw [List.replicate_zero, List.append_nil]; exact Mk.mk' hr⟩
  | d + 1, i, x, a, h, hm, ha => by
    obtain ⟨⟨y, hy, hr⟩, rfl, rfl⟩ := hm
    rw [L152_0_eq, hy]
    simp only
    rw [cT (by omega), fit_p (by simp; omega), wru8 (by omega) (by omega), show (i : Int) + 1 = ((i + 1 : Nat) : Int) by omega]
    obtain ⟨x', k1, k2⟩ := l152 hc d (i + 1) _ _ (by omega) (Mk.mk' (E := x.f1) (Fl := x.f2 ++ [f]) hr) (by simp; omega)
    refine ⟨x', ?_, ?_⟩
    · rw [k1, List.length_append, List.length_singleton, show x.f2.length + 1 + d = x.f2.length + (d + 1) by omega]
    · rw [List.append_assoc, List.singleton_append, ← List.replicate_succ] at k2; exact k2
theorem l122 {E : List Int} {n : Nat} (hn : n ≤ 5000) : ∀ (d : Nat) (x : S132) (a : List Int) (q : Q), Mk s x q E a → n < d + a.length → a.length ≤ n →
    ∃ x', L122_0 x (n : Int) = some ((gFl d n a q).1, x') ∧ (∃ q' a', Mk s x' q' E a') ∧ ((gFl d n a q).1 = 0 → Mk s x' (gFl d n a q).2.2 E (gFl d n a q).2.1)
  | 0, x, a, q, hm, hd, ha => by omega
  | d + 1, x, a, q, hm, hd, ha => by
    obtain ⟨⟨y, hy, hr⟩, hE, hF⟩ := hm
    rw [L122_0_eq, hy]
    simp only [gFl]
    rw [hE, hF]
    by_cases hc : a.length < n
    · rw [cT (by omega), cT hc, F152_eq]
      simp only [Option.bind_some]
      obtain ⟨y2, a2, b2⟩ := f158 hs hr
      have e2 := n1 hr.byt
      rw [bnd a2, bnd (f73 b2)]
      cases hb : (num 1 q).2.2
      · rw [cond_false, cond_false, cnF (by rfl)]
        have e128 := and_bt8 e2.1 e2.2 7 (by decide)
        have e8 := and_bt8 e2.1 e2.2 3 (by decide)
        have q128 : (andE IntKind.u8 (num 1 q).1 (128 : Int) != 0) = bt (num 1 q).1 128 := e128
        have q8 : (andE IntKind.u8 (num 1 q).1 (8 : Int) != 0) = bt (num 1 q).1 8 := e8
        have b128 : bt (num 1 q).1 128 = decide ((num 1 q).1 ≥ 128) := by unfold bt; exact decide_eq_decide.mpr (by omega)
        have q8' : (andE IntKind.u8 (num 1 q).1 (8 : Int) == 0) = !bt (num 1 q).1 8 := by rw [← q8, bne, Bool.not_not]
        rw [q128, b128]
        by_cases h128 : (num 1 q).1 ≥ 128
        · rw [cT h128, cT h128]
          simp only [Option.bind_some]
          rw [cnT (by simp)]
          exact ⟨_, rfl, ⟨_, _, Mk.mk' b2⟩, fun e => by cases e⟩
        · rw [cF h128, cF h128, fit_p (by simp; omega), q8']
          cases h8 : bt (num 1 q).1 8
          · simp only [Bool.not_false, cond_true, cond_false, Option.bind_some]
            rw [cnF (by rfl)]
            exact l122 hn d _ _ _ (Mk.mk' b2) (by simp; omega) (by simp; omega)
          · simp only [Bool.not_true, cond_true, cond_false]
            obtain ⟨y4, a4, b4⟩ := f158 hs b2
            have e4 := n1 b2.byt
            rw [bnd a4]
            obtain ⟨c, hcn⟩ := Int.eq_ofNat_of_zero_le e4.1
            obtain ⟨x5, k1, k2⟩ := l152 (c := c) (n := (n : Int)) (f := (num 1 q).1) (by omega) c 0 _ _ (by omega) (Mk.mk' (E := E) (Fl := a ++ [(num 1 q).1]) b4) (by simp; omega)
            rw [hcn, show L152_0 (S132.mk (some y4) E (a ++ [(num 1 q).1])) (n : Int) (num 1 q).1 (c : Int) 0 = _ from k1]
            simp only [Option.bind_some, Int.toNat_natCast]
            obtain ⟨⟨y5, hy5, hr5⟩, hE5, hF5⟩ := k2
            rw [hy5]
            simp only
            rw [hE5, hF5]
            cases hb4 : (num 1 (num 1 q).2).2.2
            · simp only [cond_false]
              have hle : (a ++ [(num 1 q).1]).length + c = a.length + 1 + c := by simp
              by_cases hx : a.length + 1 + c > n
              · rw [decide_eq_false (by omega), cond_false, cnT (by simp), cT hx]
                exact ⟨_, rfl, ⟨_, _, Mk.mk' hr5⟩, fun e => by cases e⟩
              · rw [decide_eq_true (by omega), cond_true, cnF (by rfl), cF hx]
                exact l122 hn d _ _ _ (Mk.mk' hr5) (by simp; omega) (by simp; omega)
            · simp only [cond_true]
              rw [cnT (by simp)]
              exact ⟨_, rfl, ⟨_, _, Mk.mk' hr5⟩, fun e => by cases e⟩
      · rw [cond_true, cond_true, cnT (by simp)]
        simp only [Option.bind_some]
        rw [cnT (by simp)]
        exact ⟨_, rfl, ⟨_, _, Mk.mk' b2⟩, fun e => by cases e⟩
    · rw [cF (by omega), cF hc]
      exact ⟨_, rfl, ⟨_, _, Mk.mk' hr⟩, fun _ => Mk.mk' hr⟩
omit hs in
theorem l78_1 {n : Nat} {f : Int} {c : Nat} (hc : c ≤ 255) : ∀ (d i : Nat) (x : S139) (a : List Int), d + i = c → a.length ≤ 10000 + i → L78_1 x (n : Int) a f (c : Int) (i : Int) = L78_0 x (n : Int) (a ++ List.replicate d f)
  | 0, i, x, a, h, ha => by rw [L78_1_eq, cF (by omega), List.replicate_zero, List.append_nil]
  | d + 1, i, x, a, h, ha => by
    rw [L78_1_eq, cT (by omega), fit_p (by simp; omega), inc (by omega), l78_1 hc d (i + 1) x _ (by omega) (by simp; omega), List.append_assoc, List.singleton_append, ← List.replicate_succ]
theorem l78 {n : Nat} (hn : n ≤ 5000) : ∀ (d : Nat) (x : S139) (a : List Int) (q : Q), RdR s x q → n < d + a.length → a.length ≤ n →
    ∃ r x', L78_0 x (n : Int) a = some (r, (gFl d n a q).1, x') ∧ ((gFl d n a q).1 = 0 → r = (gFl d n a q).2.1 ∧ RdR s x' (gFl d n a q).2.2)
  | 0, x, a, q, hm, hd, ha => by omega
  | d + 1, x, a, q, hr, hd, ha => by
    rw [L78_0_eq]
    simp only [gFl]
    by_cases hc : a.length < n
    · obtain ⟨y2, a2, b2⟩ := f77 hs hr (n := 1) (by omega)
      have a2 : F77 x 1 = _ := a2
      have e2 := n1 hr.byt
      rw [cT (by omega), cT hc, bnd a2, b2.2.1]
      cases hb : (num 1 q).2.2
      · rw [cond_false, cond_false]
        by_cases h128 : (num 1 q).1 ≥ 128
        · rw [cT h128, cT h128]; exact ⟨_, _, rfl, fun e => by cases e⟩
        · rw [cF h128, cF h128, fit_p (by simp; omega), (bt_mod e2.1 (by omega) (n := 8) (by decide) (by decide)).1]
          cases h8 : bt (num 1 q).1 8
          · simp only [cond_false]
            exact l78 hn d _ _ _ b2 (by simp; omega) (by simp; omega)
          · simp only [cond_true]
            obtain ⟨y4, a4, b4⟩ := f77 hs b2 (n := 1) (by omega)
            have a4 : F77 y2 1 = _ := a4
            have e4 := n1 b2.byt
            obtain ⟨c, hcn⟩ := Int.eq_ofNat_of_zero_le e4.1
            rw [bnd a4, b4.2.1]
            cases hb4 : (num 1 (num 1 q).2).2.2
            · rw [cond_false, cond_false, hcn]
              simp only [Int.toNat_natCast]
              have hle : ((a ++ [(num 1 q).1]).length : Int) = (a.length : Int) + 1 := by simp
              rw [hle, wr64 (by omega) (by omega), wr64 (by omega) (by omega)]
              by_cases hx : a.length + 1 + c > n
              · rw [cT (by omega), cT hx]; exact ⟨_, _, rfl, fun e => by cases e⟩
              · have hl := l78_1 (n := n) (f := (num 1 q).1) (c := c) (by omega) c 0 y4 (a ++ [(num 1 q).1]) (by omega) (by simp; omega)
                rw [cF (by omega), cF hx, show L78_1 y4 (n : Int) (a ++ [(num 1 q).1]) (num 1 q).1 (c : Int) 0 = _ from hl]
                exact l78 hn d _ _ _ b4 (by simp; omega) (by simp; omega)
            · rw [cond_true, cond_true]; exact ⟨_, _, rfl, fun e => by cases e⟩
      · rw [cond_true, cond_true]; exact ⟨_, _, rfl, fun e => by cases e⟩
    · rw [cF (by omega), cF hc]; exact ⟨_, _, rfl, fun _ => ⟨rfl, hr⟩⟩
end
end Go.Proofs.Ytalghbndblgndaa.Ev
