/- Comp: all that is parsed, both sides. -/
import Derived.Test.YtalghbndblgndaaEvCompP
namespace Go.Proofs.Ytalghbndblgndaa.Ev
open Go
set_option linter.unusedVariables false
set_option linter.unusedSimpArgs false
/-- Parts, till none follows. -/
def sLoop (g : Int) : Nat → List S47 → Q → List S47 × Int
  | 0, _, _ => ([], 6)
  | d + 1, acc, q => cond (decide ((sPart g q).1.1 ≠ 0)) ([], (sPart g q).1.1) (cond (sPart g q).1.2.1 (sLoop g d (acc ++ [(sPart g q).1.2.2]) (sPart g q).2) (acc ++ [(sPart g q).1.2.2], 0))
def sIs (l : List Int) : Bool := decide (2 ≤ l.length) && decide (l.getD 0 0 ≥ 128)
def sParse (l : List Int) (g : Int) : List S47 × Int :=
  cond (decide (1 ≤ g ∧ g ≤ 1024)) (cond (decide (10 ≤ l.length)) (cond (sIs l) (sLoop g 64 [] (l.drop 10, false)) ([], 4)) ([], 3)) ([], 1)
section
variable {s : ByteArray} (hs : s.size ≤ 1000000000)
include hs
theorem l37_1 (g : Int) : ∀ (d : Nat) (acc : List S47) (x : S192) (q : Q), RdP s x q → acc.length + d = 64 → L37_1 g x acc = some (sLoop g d acc q)
  | 0, acc, x, q, h, hd => by rw [L37_1_eq, ceT (by omega)]; rfl
  | d + 1, acc, x, q, h, hd => by
    obtain ⟨p, m, x', k1, k2, k3⟩ := f87 hs h g
    rw [L37_1_eq, ceF (by omega), k1]
    simp only [Option.bind_some, sLoop]
    by_cases he : (sPart g q).1.1 = 0
    · obtain ⟨rfl, rfl⟩ := k3 he
      rw [cnF he, cF (by omega), fit_p (by simp; omega)]
      cases (sPart g q).1.2.1
      · rfl
      · rw [Bool.not_true, cond_false, cond_true, l37_1 g d _ x' _ k2 (by simp; omega)]
    · rw [cnT he, cT he]
theorem l40_1 (g : Int) : ∀ (d : Nat) (acc : List S47) (x : S139) (q : Q), RdR s x q → acc.length + d = 64 → L40_1 g x acc true = some (sLoop g d acc q)
  | 0, acc, x, q, h, hd => by rw [L40_1_eq, cond_true, ceT (by omega)]; rfl
  | d + 1, acc, x, q, h, hd => by
    obtain ⟨p, m, x', k1, k2, k3⟩ := f89 hs h g
    rw [L40_1_eq, cond_true, ceF (by omega), k1]
    simp only [Option.bind_some, sLoop]
    by_cases he : (sPart g q).1.1 = 0
    · obtain ⟨rfl, rfl⟩ := k3 he
      rw [cnF he, cF (by omega), fit_p (by simp; omega)]
      cases (sPart g q).1.2.1
      · rw [L40_1_eq]; rfl
      · rw [l40_1 g d _ x' _ k2 (by simp; omega)]; rfl
    · rw [cnT he, cT he]
theorem f88 {a : Nat} (ha : a ≤ s.size) : F88 s (a : Int) = some (cond (decide (a + 2 ≤ s.size)) (be (((strBytes s).drop a).take 2), 0) (0, 3)) := by
  have h1 := f138 ha hs (n := 2) (by omega)
  have h1 : F138 s (a : Int) 2 = _ := h1
  rw [F88_eq, h1]
  simp only [Option.bind_some]
  have hl := by_len s
  by_cases h : a + 2 ≤ s.size
  · rw [decide_eq_true h]
    simp only [cond_true]
    have e : strBytes (s.extract a (a + 2)) = ((strBytes s).drop a).take 2 := by rw [by_ext, show a + 2 - a = 2 by omega]
    have hz : (s.extract a (a + 2)).size = 2 := by rw [← by_len, e, List.length_take, List.length_drop]; omega
    have hb := be_bd (((Byt.of s).drop a).take 2)
    rw [List.length_take, List.length_drop, Nat.min_eq_left (by omega)] at hb
    rw [f139 (by omega), e]
    simp only [Option.bind_some]
    rw [wru16 hb.1 (by omega)]
  · rw [decide_eq_false h]
    simp only [cond_false]
    rw [f139 (by decide)]; rfl
theorem f39 : F39 s = some (sIs (strBytes s)) := by
  have h1 := f88 hs (a := 0) (Nat.zero_le _)
  have h1 : F88 s 0 = _ := h1
  have hl := by_len s
  rw [F39_eq, h1]
  simp only [Option.bind_some]
  unfold sIs
  by_cases h : 0 + 2 ≤ s.size
  · rw [decide_eq_true h, decide_eq_true (p := 2 ≤ _) (by omega), Bool.true_and]
    simp only [cond_true, List.drop_zero]
    rw [ceT rfl]
    have hb := Byt.of s
    generalize strBytes s = l at *
    match l, hl with
    | a :: b :: l, _ =>
      have ha := hb a (by simp)
      have hb := hb b (by simp)
      show some (decide (wr .i16 (be [a, b]) < 0)) = some (decide (a ≥ 128))
      rw [be2, w_i16 (by omega) (by omega)]
      congr 1
      refine decide_eq_decide.mpr ?_
      unfold s16
      split <;> omega
    | [_], h => simp at h; omega
    | [], h => simp at h; omega
  · rw [decide_eq_false h, decide_eq_false (p := 2 ≤ _) (by omega)]; rfl
theorem f41 : F41 s = some (sIs (strBytes s)) := by
  have hl := by_len s
  rw [F41_eq]
  unfold sIs
  by_cases h : 2 ≤ s.size
  · rw [cT (by omega), grd_p (by omega), by_at, decide_eq_true (p := 2 ≤ _) (by omega)]; rfl
  · rw [cF (by omega), decide_eq_false (p := 2 ≤ _) (by omega)]; rfl
theorem f37 (g : Int) : F37 s g = some (sParse (strBytes s) g) := by
  have hl := by_len s
  rw [F37_eq]
  unfold sParse
  by_cases h1 : g < 1
  · rw [cT h1, decide_eq_false (p := 1 ≤ g ∧ _) (by omega)]; rfl
  rw [cF h1]
  by_cases h2 : g > 1024
  · rw [cT h2, decide_eq_false (p := 1 ≤ g ∧ _) (by omega)]; rfl
  rw [cF h2, decide_eq_true (p := 1 ≤ g ∧ _) (by omega), cond_true, L37_0_eq]
  by_cases h3 : (s.size : Int) < 10
  · rw [cT h3, decide_eq_false (by omega)]; rfl
  rw [cF h3, decide_eq_true (p := 10 ≤ (strBytes s).length) (by omega), f39 hs]
  simp only [Option.bind_some, cond_true]
  cases sIs (strBytes s)
  · rfl
  · have e : strBytes (s.extract 10 s.size) = (strBytes s).drop 10 := by rw [by_ext, List.take_of_length_le (by rw [List.length_drop]; omega)]
    have hz : (s.extract 10 s.size).size ≤ 1000000000 := by rw [← by_len, e, List.length_drop]; omega
    rw [Bool.not_true, cond_false, grd_p (by omega), F70_eq]
    simp only [Option.bind_some, cond_true]
    refine l37_1 hz g 64 [] _ _ ⟨rfl, rfl, 0, rfl, by omega, ?_⟩ rfl
    rw [e, List.drop_zero]
theorem f40 (g : Int) : F40 s g = some (sParse (strBytes s) g) := by
  have hl := by_len s
  rw [F40_eq]
  unfold sParse
  by_cases h1 : g < 1
  · rw [cT h1, decide_eq_false (p := 1 ≤ g ∧ _) (by omega)]; rfl
  rw [cF h1]
  by_cases h2 : g > 1024
  · rw [cT h2, decide_eq_false (p := 1 ≤ g ∧ _) (by omega)]; rfl
  rw [cF h2, decide_eq_true (p := 1 ≤ g ∧ _) (by omega), cond_true, L40_0_eq]
  by_cases h3 : (s.size : Int) < 10
  · rw [cT h3, decide_eq_false (by omega)]; rfl
  rw [cF h3, decide_eq_true (p := 10 ≤ (strBytes s).length) (by omega), f41 hs]
  simp only [Option.bind_some, cond_true]
  cases sIs (strBytes s)
  · rfl
  · rw [Bool.not_true, cond_false, cond_true]
    exact l40_1 hs g 64 [] _ _ ⟨rfl, rfl, 10, rfl, by omega, rfl⟩ rfl
end
/-! what is parsed may be -/
theorem sPlace_r {f : Int} {q : Q} (h : Byt q.1) : sh (sPlace f q).1 = true ∧ sh (sPlace f q).2.1 = true ∧ Byt (sPlace f q).2.2.1 := by
  unfold sPlace sh
  have e1 := num_byt (k := 2) h
  have e2 := num_byt (k := 1) h
  cases bt f 1
  · simp only [cond_false, Bool.and_eq_true, decide_eq_true_eq]
    exact ⟨r1 h, r1 e2, num_byt e2⟩
  · simp only [cond_true, Bool.and_eq_true, decide_eq_true_eq]
    exact ⟨r2 h, r2 e1, num_byt e1⟩
theorem sTurn_r {f : Int} {q : Q} (h : Byt q.1) : sh (sTurn f q).1.1 = true ∧ sh (sTurn f q).1.2.1 = true ∧ sh (sTurn f q).1.2.2.1 = true ∧ sh (sTurn f q).1.2.2.2 = true := by
  unfold sTurn sh
  have e1 := num_byt (k := 2) h
  have e2 := num_byt (k := 2) e1
  have e3 := num_byt (k := 2) e2
  have g1 := r2 h
  have g2 := r2 e1
  have g3 := r2 e2
  have g4 := r2 e3
  cases bt f 8
  · cases bt f 64
    · cases bt f 128
      · exact ⟨rfl, rfl, rfl, rfl⟩
      · simp only [cond_false, cond_true, Bool.and_eq_true, decide_eq_true_eq]
        exact ⟨g1, g2, g3, g4⟩
    · simp only [cond_false, cond_true, Bool.and_eq_true, decide_eq_true_eq]
      exact ⟨g1, by decide, by decide, g2⟩
  · simp only [cond_true, Bool.and_eq_true, decide_eq_true_eq]
    exact ⟨g1, by decide, by decide, g1⟩
theorem sPart_r {g : Int} {q : Q} (h : Byt q.1) (he : (sPart g q).1.1 = 0) : ptM (sPart g q).1.2.2 g = true := by
  have e1 := num_byt (k := 2) h
  have e2 := num_byt (k := 2) e1
  unfold sPart at he ⊢
  cases hb : (num 2 (num 2 q).2).2.2
  · rw [hb] at he
    simp only [cond_false] at he ⊢
    cases hc : rt (num 2 q).1 && decide ((num 2 (num 2 q).2).1 < g)
    · rw [hc] at he; simp at he
    · rw [cond_true]
      rw [Bool.and_eq_true, decide_eq_true_eq] at hc
      have p := sPlace_r (f := (num 2 q).1) e2
      have t := sTurn_r (f := (num 2 q).1) p.2.2
      have hg := hc.2
      have h0 := (n2 e1).1
      unfold ptM sRest
      simp only [p.1, p.2.1, t.1, t.2.1, t.2.2.1, t.2.2.2, Bool.and_true, Bool.and_eq_true, decide_eq_true_eq]
      exact ⟨h0, hg⟩
  · rw [hb] at he; simp at he
theorem sPart_byt {g : Int} {q : Q} (h : Byt q.1) : Byt (sPart g q).2.1 := by
  have e1 := num_byt (k := 2) h
  have e2 := num_byt (k := 2) e1
  unfold sPart
  cases (num 2 (num 2 q).2).2.2
  · cases rt (num 2 q).1 && decide ((num 2 (num 2 q).2).1 < g)
    · exact e2
    · have p := (sPlace_r (f := (num 2 q).1) e2).2.2
      show Byt (sTurn (num 2 q).1 (sPlace (num 2 q).1 (num 2 (num 2 q).2).2).2.2).2.1
      unfold sTurn
      cases bt (num 2 q).1 8
      · cases bt (num 2 q).1 64
        · cases bt (num 2 q).1 128
          · exact p
          · exact num_byt (num_byt (num_byt (num_byt p)))
        · exact num_byt (num_byt p)
      · exact num_byt p
  · exact e2
theorem sLoop_r (g : Int) : ∀ (d : Nat) (acc : List S47) (q : Q), Byt q.1 → (acc.all fun p => ptM p g) = true → acc.length + d = 64 → (sLoop g d acc q).2 = 0 → 1 ≤ (sLoop g d acc q).1.length ∧ (sLoop g d acc q).1.length ≤ 64 ∧ ((sLoop g d acc q).1.all fun p => ptM p g) = true
  | 0, acc, q, hq, ha, hd, he => by simp [sLoop] at he
  | d + 1, acc, q, hq, ha, hd, he => by
    unfold sLoop at he ⊢
    by_cases h : (sPart g q).1.1 = 0
    · rw [cF (by omega)] at he ⊢
      have hp : ((acc ++ [(sPart g q).1.2.2]).all fun p => ptM p g) = true := by
        rw [List.all_append, ha, List.all_cons, sPart_r hq h]; rfl
      cases hm : (sPart g q).1.2.1
      · rw [cond_false]
        exact ⟨by simp, by simp; omega, hp⟩
      · rw [hm, cond_true] at he
        rw [cond_true]
        exact sLoop_r g d _ _ (sPart_byt hq) hp (by simp; omega) he
    · rw [cT h] at he; exact absurd he h
theorem sParse_r {l : List Int} {g : Int} (hl : Byt l) (he : (sParse l g).2 = 0) : pm (sParse l g).1 g = true := by
  unfold sParse at he ⊢
  by_cases h1 : 1 ≤ g ∧ g ≤ 1024
  · rw [decide_eq_true h1, cond_true] at he ⊢
    by_cases h2 : 10 ≤ l.length
    · rw [decide_eq_true h2, cond_true] at he ⊢
      cases h3 : sIs l
      · rw [h3] at he; simp at he
      · rw [h3, cond_true] at he
        rw [cond_true]
        obtain ⟨k1, k2, k3⟩ := sLoop_r g 64 [] (l.drop 10, false) (hl.drop 10) rfl rfl he
        unfold pm
        rw [decide_eq_true h1, decide_eq_true ⟨k1, k2⟩, k3]; rfl
    · rw [decide_eq_false h2] at he; simp at he
  · rw [decide_eq_false h1] at he; simp at he
theorem part_beq (p : S47) : (!((p.f0 == p.f0) && ((p.f1 == p.f1) && ((p.f2 == p.f2) && ((p.f3 == p.f3) && ((p.f4 == p.f4) && ((p.f5 == p.f5) && (p.f6 == p.f6)))))))) = false := by simp
theorem l38 {l : List S47} (hl : l.length ≤ 1000) : ∀ (d i : Nat), d + i = l.length → L38_0 l l (i : Int) = some true
  | 0, i, h => by rw [L38_0_eq, cF (by omega)]
  | d + 1, i, h => by
    rw [L38_0_eq, Int.toNat_natCast, part_beq]
    simp (disch := omega) only [cT, grd_p, inc, cond_false]
    exact l38 hl d (i + 1) (by omega)
theorem f38 {l : List S47} (hl : l.length ≤ 1000) : F38 l l = some true := by
  rw [F38_eq, cnF rfl]; exact l38 hl l.length 0 (by omega)
theorem sLoop_len (g : Int) : ∀ (d : Nat) (acc : List S47) (q : Q), acc.length + d = 64 → (sLoop g d acc q).1.length ≤ 64
  | 0, acc, q, _ => by simp [sLoop]
  | d + 1, acc, q, h => by
    unfold sLoop
    by_cases he : (sPart g q).1.1 = 0
    · rw [cF (by omega)]
      cases (sPart g q).1.2.1
      · simp; omega
      · exact sLoop_len g d _ _ (by simp; omega)
    · rw [cT he]; simp
theorem sParse_len (l : List Int) (g : Int) : (sParse l g).1.length ≤ 64 := by
  unfold sParse
  cases decide (1 ≤ g ∧ g ≤ 1024)
  · simp
  · cases decide (10 ≤ l.length)
    · simp
    · cases sIs l
      · simp
      · exact sLoop_len g 64 [] _ rfl
end Go.Proofs.Ytalghbndblgndaa.Ev
