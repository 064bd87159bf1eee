/- Comp: parts that are read, both sides. -/
import Derived.Test.YtalghbndblgndaaEvComp
namespace Go.Proofs.Ytalghbndblgndaa.Ev
open Go
set_option linter.unusedVariables false
set_option linter.unusedSimpArgs false
abbrev Q := List Int × Bool
def sPlace (f : Int) (q : Q) : Int × Int × Q := cond (bt f 1) (s16 (num 2 q).1, s16 (num 2 (num 2 q).2).1, (num 2 (num 2 q).2).2) (s8 (num 1 q).1, s8 (num 1 (num 1 q).2).1, (num 1 (num 1 q).2).2)
def sTurn (f : Int) (q : Q) : (Int × Int × Int × Int) × Q :=
  cond (bt f 8) ((s16 (num 2 q).1, 0, 0, s16 (num 2 q).1), (num 2 q).2)
  (cond (bt f 64) ((s16 (num 2 q).1, 0, 0, s16 (num 2 (num 2 q).2).1), (num 2 (num 2 q).2).2)
  (cond (bt f 128) ((s16 (num 2 q).1, s16 (num 2 (num 2 q).2).1, s16 (num 2 (num 2 (num 2 q).2).2).1, s16 (num 2 (num 2 (num 2 (num 2 q).2).2).2).1), (num 2 (num 2 (num 2 (num 2 q).2).2).2).2)
  ((16384, 0, 0, 16384), q)))
def zP : S47 := ⟨0, 0, 0, 0, 0, 0, 0⟩
/-- The rest of a part whose bits and glyph are known. -/
def sRest (f b : Int) (q : Q) : (Int × Bool × S47) × Q :=
  ((cond (sTurn f (sPlace f q).2.2).2.2 3 0, bt f 32, ⟨b, (sPlace f q).1, (sPlace f q).2.1, (sTurn f (sPlace f q).2.2).1.1, (sTurn f (sPlace f q).2.2).1.2.1, (sTurn f (sPlace f q).2.2).1.2.2.1, (sTurn f (sPlace f q).2.2).1.2.2.2⟩), (sTurn f (sPlace f q).2.2).2)
/-- A part: an error; does another one follow; the part; what is left. -/
def sPart (g : Int) (q : Q) : (Int × Bool × S47) × Q :=
  cond (num 2 (num 2 q).2).2.2 ((3, false, zP), (num 2 (num 2 q).2).2)
  (cond (rt (num 2 q).1 && decide ((num 2 (num 2 q).2).1 < g)) (sRest (num 2 q).1 (num 2 (num 2 q).2).1 (num 2 (num 2 q).2).2) ((4, false, zP), (num 2 (num 2 q).2).2))
theorem bt_and {f : Int} (h0 : 0 ≤ f) (h1 : f < 65536) : (andE IntKind.u16 f (1 : Int) != 0) = bt f 1 ∧ (andE IntKind.u16 f (8 : Int) != 0) = bt f 8 ∧ (andE IntKind.u16 f (32 : Int) != 0) = bt f 32 ∧ (andE IntKind.u16 f (64 : Int) != 0) = bt f 64 ∧ (andE IntKind.u16 f (128 : Int) != 0) = bt f 128 :=
  ⟨and_bt h0 h1 0 (by decide), and_bt h0 h1 3 (by decide), and_bt h0 h1 5 (by decide), and_bt h0 h1 6 (by decide), and_bt h0 h1 7 (by decide)⟩
theorem bt_mod {f n : Int} (h0 : 0 ≤ f) (h1 : f < 65536) (hn : 0 < n) (hs : n ≤ 32768) : (Int.tmod (wr .u32 (Int.tdiv f n)) (2 : Int) == 1) = bt f n ∧ Int.tmod (wr .u32 (Int.tdiv f n)) (2 : Int) = f / n % 2 := by
  have hd0 : 0 ≤ f / n := Int.ediv_nonneg h0 (by omega)
  have hd1 : f / n ≤ f := Int.ediv_le_self n h0
  have e : Int.tmod (wr .u32 (Int.tdiv f n)) (2 : Int) = f / n % 2 := by
    rw [Int.tdiv_eq_ediv_of_nonneg h0, wru32 hd0 (by omega), Int.tmod_eq_emod_of_nonneg hd0]
  refine ⟨?_, e⟩
  rw [e]
  unfold bt
  by_cases h : f / n % 2 = 1
  · rw [h]; rfl
  · rw [decide_eq_false h]; exact beq_eq_false_iff_ne.mpr h
theorem s16_r {k : Int} (h : 0 ≤ k ∧ k < 65536) : -32768 ≤ s16 k ∧ s16 k ≤ 32767 := by unfold s16; split <;> omega
theorem s8_r {k : Int} (h : 0 ≤ k ∧ k < 256) : -128 ≤ s8 k ∧ s8 k ≤ 127 := by unfold s8; split <;> omega
theorem n2 {q : Q} (h : Byt q.1) : 0 ≤ (num 2 q).1 ∧ (num 2 q).1 < 65536 := by have := num_bd (k := 2) h; omega
theorem n1 {q : Q} (h : Byt q.1) : 0 ≤ (num 1 q).1 ∧ (num 1 q).1 < 256 := by have := num_bd (k := 1) h; omega
theorem r2 {q : Q} (h : Byt q.1) : -32768 ≤ s16 (num 2 q).1 ∧ s16 (num 2 q).1 ≤ 32767 := s16_r (n2 h)
theorem r1 {q : Q} (h : Byt q.1) : -32768 ≤ s8 (num 1 q).1 ∧ s8 (num 1 q).1 ≤ 32767 := by have := s8_r (n1 h); omega
theorem w2 {q : Q} (h : Byt q.1) : wr .i64 (s16 (num 2 q).1) = s16 (num 2 q).1 := by have := r2 h; exact wr64 (by omega) (by omega)
theorem l89_4 {s : ByteArray} {x : S139} {q : Q} (h : RdR s x q) (z p : S47) {f : Int} (h0 : 0 ≤ f) (h1 : f < 65536) : ∃ p' m, L89_4 x z f p = some (p', m, cond q.2 3 0, x) ∧ (q.2 = false → p' = p ∧ m = bt f 32) := by
  rw [L89_4_eq, h.2.1, (bt_mod h0 h1 (n := 32) (by decide) (by decide)).1]
  cases q.2
  · exact ⟨_, _, rfl, fun _ => ⟨rfl, rfl⟩⟩
  · exact ⟨_, _, rfl, fun e => by cases e⟩
theorem rt_ex {f : Int} (h0 : 0 ≤ f) (h : rt f = true) : (bt f 8 = true → bt f 64 = false ∧ bt f 128 = false) ∧ (bt f 64 = true → bt f 128 = false) := by
  unfold rt at h
  simp only [Bool.and_eq_true, decide_eq_true_eq, bt] at h ⊢
  simp only [decide_eq_true_eq, decide_eq_false_iff_not]
  omega
section
variable {s : ByteArray} (hs : s.size ≤ 1000000000)
include hs
theorem f136 {x : S192} {q : Q} (h : RdP s x q) {f : Int} (h0 : 0 ≤ f) (h1 : f < 65536) : ∃ x', F136 x f = some ((sPlace f q).1, (sPlace f q).2.1, x') ∧ RdP s x' (sPlace f q).2.2 := by
  rw [F136_eq, (bt_and h0 h1).1]
  unfold sPlace
  cases bt f 1
  · obtain ⟨x1, a1, b1⟩ := f158 hs h
    obtain ⟨x2, a2, b2⟩ := f158 hs b1
    simp only [cond_false, a1, a2, Option.bind_some]
    have e1 := n1 h.byt
    have e2 := n1 b1.byt
    have g1 := s8_r e1
    have g2 := s8_r e2
    rw [w_i8 e1.1 e1.2, w_i8 e2.1 e2.2, wr64 (by omega) (by omega), wr64 (by omega) (by omega)]
    exact ⟨x2, rfl, b2⟩
  · obtain ⟨x1, a1, b1⟩ := f71 hs h
    obtain ⟨x2, a2, b2⟩ := f71 hs b1
    simp only [cond_true, a1, a2, Option.bind_some]
    rw [w2 h.byt, w2 b1.byt]
    exact ⟨x2, rfl, b2⟩
theorem f137 {x : S192} {q : Q} (h : RdP s x q) {f : Int} (h0 : 0 ≤ f) (h1 : f < 65536) (b dx dy : Int) : ∃ x', F137 x f ⟨b, dx, dy, 0, 0, 0, 0⟩ = some (x', ⟨b, dx, dy, (sTurn f q).1.1, (sTurn f q).1.2.1, (sTurn f q).1.2.2.1, (sTurn f q).1.2.2.2⟩) ∧ RdP s x' (sTurn f q).2 := by
  rw [F137_eq, (bt_and h0 h1).2.1, (bt_and h0 h1).2.2.2.1, (bt_and h0 h1).2.2.2.2]
  unfold sTurn
  obtain ⟨x1, a1, b1⟩ := f71 hs h
  obtain ⟨x2, a2, b2⟩ := f71 hs b1
  obtain ⟨x3, a3, b3⟩ := f71 hs b2
  obtain ⟨x4, a4, b4⟩ := f71 hs b3
  have e1 := w2 h.byt
  have e2 := w2 b1.byt
  have e3 := w2 b2.byt
  have e4 := w2 b3.byt
  cases bt f 8
  · cases bt f 64
    · cases bt f 128
      · exact ⟨x, rfl, h⟩
      · simp only [cond_false, cond_true, a1, a2, a3, a4, Option.bind_some, e1, e2, e3, e4]
        exact ⟨x4, rfl, b4⟩
    · simp only [cond_false, cond_true, a1, a2, Option.bind_some, e1, e2]
      exact ⟨x2, rfl, b2⟩
  · simp only [cond_true, a1, Option.bind_some, e1]
    exact ⟨x1, rfl, b1⟩
theorem f87 {x : S192} {q : Q} (h : RdP s x q) (g : Int) : ∃ p m x', F87 x g = some (p, m, (sPart g q).1.1, x') ∧ RdP s x' (sPart g q).2 ∧ ((sPart g q).1.1 = 0 → p = (sPart g q).1.2.2 ∧ m = (sPart g q).1.2.1) := by
  obtain ⟨x1, a1, b1⟩ := f119 hs h
  obtain ⟨x2, a2, b2⟩ := f119 hs b1
  have e1 := n2 h.byt
  have e2 := n2 b1.byt
  rw [F87_eq]
  simp only [a1, a2, f73 b2, Option.bind_some, f135 e1.1 e1.2]
  rw [wr64 (by omega) (by omega)]
  unfold sPart
  cases hb : (num 2 (num 2 q).2).2.2
  · rw [cond_false, cond_false, cnF rfl]
    cases hr : rt (num 2 q).1
    · exact ⟨_, _, x2, rfl, b2, fun e => by simp at e⟩
    · rw [Bool.not_true, cond_false, Bool.true_and]
      by_cases hg : (num 2 (num 2 q).2).1 ≥ g
      · rw [cT hg, cF (by omega)]
        exact ⟨_, _, x2, rfl, b2, fun e => by simp at e⟩
      · rw [cF hg, cT (by omega), L87_0_eq]
        obtain ⟨x3, a3, b3⟩ := f136 hs b2 e1.1 e1.2
        rw [a3]
        simp only [Option.bind_some]
        obtain ⟨x4, a4, b4⟩ := f137 hs b3 e1.1 e1.2 (num 2 (num 2 q).2).1 (sPlace (num 2 q).1 (num 2 (num 2 q).2).2).1 (sPlace (num 2 q).1 (num 2 (num 2 q).2).2).2.1
        rw [a4]
        simp only [Option.bind_some, f73 b4]
        rw [(bt_and e1.1 e1.2).2.2.1]
        exact ⟨_, _, x4, rfl, b4, fun _ => ⟨rfl, rfl⟩⟩
  · rw [cond_true, cond_true, cnT (by decide)]
    exact ⟨_, _, x2, rfl, b2, fun e => by simp at e⟩
theorem f140 {x : S139} {q : Q} (h : RdR s x q) : ∃ x', F140 x = some (s8 (num 1 q).1, x') ∧ RdR s x' (num 1 q).2 := by
  obtain ⟨x', h1, h2⟩ := f77 hs h (n := 1) (by omega)
  have hb := n1 h.byt
  have h1 : F77 x 1 = some ((num 1 q).1, x') := h1
  rw [F140_eq, bnd h1]
  refine ⟨x', ?_, h2⟩
  simp only
  rw [wr64 (n := (num 1 q).1) (by omega) (by omega)]
  unfold s8
  by_cases hc : (num 1 q).1 ≥ 128
  · rw [cT hc, if_pos hc, wr64 (by omega) (by omega)]
  · rw [cF hc, if_neg hc]
theorem l89_1 {x : S139} {q : Q} (h : RdR s x q) (z : S47) {f : Int} (h0 : 0 ≤ f) (h1 : f < 65536) (hr : rt f = true) (b dx dy : Int) : ∃ p m x', L89_1 x z f ⟨b, dx, dy, 16384, 0, 0, 16384⟩ = some (p, m, cond (sTurn f q).2.2 3 0, x') ∧ RdR s x' (sTurn f q).2 ∧
    ((sTurn f q).2.2 = false → p = ⟨b, dx, dy, (sTurn f q).1.1, (sTurn f q).1.2.1, (sTurn f q).1.2.2.1, (sTurn f q).1.2.2.2⟩ ∧ m = bt f 32) := by
  have ex := rt_ex h0 hr
  obtain ⟨x1, a1, b1⟩ := f75 hs h
  obtain ⟨x2, a2, b2⟩ := f75 hs b1
  obtain ⟨x3, a3, b3⟩ := f75 hs b2
  obtain ⟨x4, a4, b4⟩ := f75 hs b3
  have t8 := (bt_mod h0 h1 (n := 8) (by decide) (by decide)).1
  have t64 := (bt_mod h0 h1 (n := 64) (by decide) (by decide)).1
  have t128 := (bt_mod h0 h1 (n := 128) (by decide) (by decide)).1
  rw [L89_1_eq, t8]
  unfold sTurn
  cases c8 : bt f 8
  · simp only [cond_false]
    rw [L89_2_eq, t64]
    cases c64 : bt f 64
    · simp only [cond_false]
      rw [L89_3_eq, t128]
      cases c128 : bt f 128
      · simp only [cond_false]
        obtain ⟨p, m, k1, k2⟩ := l89_4 h z ⟨b, dx, dy, 16384, 0, 0, 16384⟩ h0 h1
        exact ⟨p, m, x, k1, h, k2⟩
      · simp only [cond_true, a1, a2, a3, a4, Option.bind_some]
        obtain ⟨p, m, k1, k2⟩ := l89_4 b4 z ⟨b, dx, dy, s16 (num 2 q).1, s16 (num 2 (num 2 q).2).1, s16 (num 2 (num 2 (num 2 q).2).2).1, s16 (num 2 (num 2 (num 2 (num 2 q).2).2).2).1⟩ h0 h1
        exact ⟨p, m, x4, k1, b4, k2⟩
    · simp only [cond_true, a1, a2, Option.bind_some]
      rw [L89_3_eq, t128, ex.2 c64, cond_false]
      obtain ⟨p, m, k1, k2⟩ := l89_4 b2 z ⟨b, dx, dy, s16 (num 2 q).1, 0, 0, s16 (num 2 (num 2 q).2).1⟩ h0 h1
      exact ⟨p, m, x2, k1, b2, k2⟩
  · simp only [cond_true, a1, Option.bind_some]
    rw [L89_2_eq, t64, (ex.1 c8).1, cond_false, L89_3_eq, t128, (ex.1 c8).2, cond_false]
    obtain ⟨p, m, k1, k2⟩ := l89_4 b1 z ⟨b, dx, dy, s16 (num 2 q).1, 0, 0, s16 (num 2 q).1⟩ h0 h1
    exact ⟨p, m, x1, k1, b1, k2⟩
theorem f89 {x : S139} {q : Q} (h : RdR s x q) (g : Int) : ∃ p m x', F89 x g = some (p, m, (sPart g q).1.1, x') ∧ RdR s x' (sPart g q).2 ∧ ((sPart g q).1.1 = 0 → p = (sPart g q).1.2.2 ∧ m = (sPart g q).1.2.1) := by
  obtain ⟨x1, a1, b1⟩ := f77 hs h (n := 2) (by omega)
  obtain ⟨x2, a2, b2⟩ := f77 hs b1 (n := 2) (by omega)
  have e1 := n2 h.byt
  have e2 := n2 b1.byt
  have a1 : F77 x 2 = some ((num 2 q).1, x1) := a1
  have a2 : F77 x1 2 = some ((num 2 (num 2 q).2).1, x2) := a2
  rw [F89_eq]
  simp only [a1, a2, Option.bind_some]
  rw [b2.2.1, wr64 (by omega) (by omega)]
  unfold sPart
  cases hb : (num 2 (num 2 q).2).2.2
  · simp only [cond_false]
    have t1 := (bt_mod e1.1 e1.2 (n := 2) (by decide) (by decide))
    have t8 := (bt_mod e1.1 e1.2 (n := 8) (by decide) (by decide)).2
    have t16 := (bt_mod e1.1 e1.2 (n := 16) (by decide) (by decide)).2
    have t64 := (bt_mod e1.1 e1.2 (n := 64) (by decide) (by decide)).2
    have t128 := (bt_mod e1.1 e1.2 (n := 128) (by decide) (by decide)).2
    have t2k := (bt_mod e1.1 e1.2 (n := 2048) (by decide) (by decide)).2
    rw [t1.2, t8, t16, t64, t128, t2k]
    generalize hf : (num 2 q).1 = f at e1
    rw [wru32 (n := f / 8 % 2 + f / 64 % 2) (by omega) (by omega), wru32 (by omega) (by omega)]
    have bad : rt f = false ∨ ¬ (num 2 (num 2 q).2).1 < g → ∃ p m x', (some (⟨0, 0, 0, 0, 0, 0, 0⟩, false, 4, x2) : Option (S47 × Bool × Int × S139)) = some (p, m, (cond (rt f && decide ((num 2 (num 2 q).2).1 < g)) (sRest f (num 2 (num 2 q).2).1 (num 2 (num 2 q).2).2) ((4, false, zP), (num 2 (num 2 q).2).2)).1.1, x') ∧
        RdR s x' (cond (rt f && decide ((num 2 (num 2 q).2).1 < g)) (sRest f (num 2 (num 2 q).2).1 (num 2 (num 2 q).2).2) ((4, false, zP), (num 2 (num 2 q).2).2)).2 ∧
        ((cond (rt f && decide ((num 2 (num 2 q).2).1 < g)) (sRest f (num 2 (num 2 q).2).1 (num 2 (num 2 q).2).2) ((4, false, zP), (num 2 (num 2 q).2).2)).1.1 = 0 → p = (cond (rt f && decide ((num 2 (num 2 q).2).1 < g)) (sRest f (num 2 (num 2 q).2).1 (num 2 (num 2 q).2).2) ((4, false, zP), (num 2 (num 2 q).2).2)).1.2.2 ∧
          m = (cond (rt f && decide ((num 2 (num 2 q).2).1 < g)) (sRest f (num 2 (num 2 q).2).1 (num 2 (num 2 q).2).2) ((4, false, zP), (num 2 (num 2 q).2).2)).1.2.1) := by
      intro hc
      have : (rt f && decide ((num 2 (num 2 q).2).1 < g)) = false := by
        rcases hc with hc | hc
        · rw [hc]; rfl
        · rw [decide_eq_false hc, Bool.and_false]
      rw [this]
      exact ⟨_, _, x2, rfl, b2, fun e => by simp at e⟩
    by_cases c1 : f / 2 % 2 = 0
    · rw [ceT c1]; exact bad (.inl (by unfold rt bt; rw [decide_eq_false (by omega)]; rfl))
    rw [ceF c1]
    by_cases c2 : f / 8 % 2 + f / 64 % 2 + f / 128 % 2 > 1
    · rw [cT c2]; exact bad (.inl (by unfold rt; rw [decide_eq_false (p := _ ≤ 1) (by omega), Bool.and_false, Bool.and_false]))
    rw [cF c2]
    by_cases c3 : f / 16 % 2 = 1
    · rw [ceT c3]; exact bad (.inl (by unfold rt; rw [decide_eq_false (p := _ ∧ _) (by omega), Bool.false_and, Bool.and_false]))
    rw [ceF c3]
    by_cases c4 : f / 2048 % 2 = 1
    · rw [ceT c4]; exact bad (.inl (by unfold rt; rw [decide_eq_false (p := _ ∧ _) (by omega), Bool.false_and, Bool.and_false]))
    rw [ceF c4]
    by_cases c5 : f ≥ 8192
    · rw [cT c5]; exact bad (.inl (by unfold rt; rw [decide_eq_false (p := _ ∧ _) (by omega), Bool.false_and, Bool.and_false]))
    rw [cF c5]
    by_cases c6 : (num 2 (num 2 q).2).1 ≥ g
    · rw [cT c6]; exact bad (.inr (by omega))
    rw [cF c6]
    have hr : rt f = true := by unfold rt bt; rw [decide_eq_true (by omega), decide_eq_true (by omega), decide_eq_true (by omega)]; rfl
    rw [hr, decide_eq_true (by omega), Bool.and_true, cond_true, L89_0_eq]
    have t0 : (Int.tmod f (2 : Int) == 1) = bt f 1 := by
      have := (bt_mod e1.1 e1.2 (n := 1) (by decide) (by decide)).1
      rwa [Int.tdiv_one, wru32 (by omega) (by omega)] at this
    rw [t0]
    unfold sRest sPlace
    cases c0 : bt f 1
    · obtain ⟨x3, a3, b3⟩ := f140 hs b2
      obtain ⟨x4, a4, b4⟩ := f140 hs b3
      simp only [cond_false, a3, a4, Option.bind_some]
      obtain ⟨p, m, x5, k1, k2, k3⟩ := l89_1 hs b4 ⟨0, 0, 0, 0, 0, 0, 0⟩ e1.1 e1.2 hr (num 2 (num 2 q).2).1 (s8 (num 1 (num 2 (num 2 q).2).2).1) (s8 (num 1 (num 1 (num 2 (num 2 q).2).2).2).1)
      refine ⟨p, m, x5, k1, k2, fun e => k3 ?_⟩
      cases hh : (sTurn f (num 1 (num 1 (num 2 (num 2 q).2).2).2).2).2.2
      · rfl
      · rw [hh] at e; simp at e
    · obtain ⟨x3, a3, b3⟩ := f75 hs b2
      obtain ⟨x4, a4, b4⟩ := f75 hs b3
      simp only [cond_true, a3, a4, Option.bind_some]
      obtain ⟨p, m, x5, k1, k2, k3⟩ := l89_1 hs b4 ⟨0, 0, 0, 0, 0, 0, 0⟩ e1.1 e1.2 hr (num 2 (num 2 q).2).1 (s16 (num 2 (num 2 (num 2 q).2).2).1) (s16 (num 2 (num 2 (num 2 (num 2 q).2).2).2).1)
      refine ⟨p, m, x5, k1, k2, fun e => k3 ?_⟩
      cases hh : (sTurn f (num 2 (num 2 (num 2 (num 2 q).2).2).2).2).2.2
      · rfl
      · rw [hh] at e; simp at e
  · rw [cond_true, cond_true]
    exact ⟨_, _, x2, rfl, b2, fun e => by simp at e⟩
end
end Go.Proofs.Ytalghbndblgndaa.Ev
