/- Flat: what may be, how a point is moved, copies: both sides. -/
import Derived.Test.YtalghbndblgndaaEvM
import Derived.Test.YtalghbndblgndaaEvG
namespace Go.Proofs.Ytalghbndblgndaa.Ev
open Go
set_option linter.unusedVariables false
set_option linter.unusedSimpArgs false
abbrev CS := List (List S39)
def ptOk (p : S39) : Bool := decide (-32767 ≤ p.f0) && (decide (p.f0 ≤ 32767) && (decide (-32767 ≤ p.f1) && decide (p.f1 ≤ 32767)))
def gmL : Nat → CS → Bool
  | _, [] => true
  | n, c :: l => decide (c.length ≠ 0) && (decide (n + c.length ≤ 4096) && (c.all ptOk && gmL (n + c.length) l))
def gm (l : CS) : Bool := decide (l.length ≤ 256) && gmL 0 l
theorem f69 (x : Int) : F69 x = some (decide (¬ (-32767 ≤ x ∧ x ≤ 32767))) := by
  rw [F69_eq]
  by_cases h : x > 32767
  · rw [cT h, decide_eq_true (by omega)]
  · rw [cF h]; congr 1; exact decide_eq_decide.mpr (by omega)
theorem pt_k {α : Type} (p : S39) (A B : α) : cond (decide (¬ (-32767 ≤ p.f0 ∧ p.f0 ≤ 32767))) B (cond (decide (¬ (-32767 ≤ p.f1 ∧ p.f1 ≤ 32767))) B A) = cond (ptOk p) A B := by
  unfold ptOk
  by_cases h1 : -32767 ≤ p.f0 ∧ p.f0 ≤ 32767
  · rw [decide_eq_false (by omega : ¬ ¬ (-32767 ≤ p.f0 ∧ p.f0 ≤ 32767)), decide_eq_true h1.1, decide_eq_true h1.2]
    by_cases h2 : -32767 ≤ p.f1 ∧ p.f1 ≤ 32767
    · rw [decide_eq_false (by omega : ¬ ¬ (-32767 ≤ p.f1 ∧ p.f1 ≤ 32767)), decide_eq_true h2.1, decide_eq_true h2.2]; rfl
    · rw [decide_eq_true h2]
      rcases (by omega : ¬ -32767 ≤ p.f1 ∨ ¬ p.f1 ≤ 32767) with q | q
      · rw [decide_eq_false q]; rfl
      · rw [decide_eq_false q, Bool.and_false]; rfl
  · rw [decide_eq_true h1]
    rcases (by omega : ¬ -32767 ≤ p.f0 ∨ ¬ p.f0 ≤ 32767) with q | q
    · rw [decide_eq_false q]; rfl
    · rw [decide_eq_false q, Bool.false_and, Bool.and_false]; rfl
theorem c_and {α : Type} (a b : Bool) (A B : α) : cond (a && b) A B = cond a (cond b A B) B := by cases a <;> rfl
theorem l28_1 {n : Int} {l : CS} {m i : Int} {c : List S39} (hc : c.length ≤ 5000) : ∀ (d k : Nat), d + k = c.length → L28_1 n l m i c (c.length : Int) (k : Int) = cond ((c.drop k).all ptOk) (L28_0 n l m (wr .i64 (i + 1))) (some false)
  | 0, k, h => by rw [L28_1_eq, cF (by omega), drop_nil (by omega)]; rfl
  | d + 1, k, h => by
    have ih := l28_1 (n := n) (l := l) (m := m) (i := i) hc d (k + 1) (by omega)
    rw [L28_1_eq, Int.toNat_natCast, drop_rd c z0 k (by omega), List.all_cons]
    simp (disch := omega) only [cT, grd_p, inc, f69, Option.bind_some]
    rw [ih, pt_k, c_and]
theorem l28_0 {l : CS} (hl : l.length ≤ 1000) (hc : ∀ c ∈ l, c.length ≤ 5000) : ∀ (d i n : Nat), d + i = l.length → n ≤ 4096 → L28_0 (n : Int) l (l.length : Int) (i : Int) = some (gmL n (l.drop i))
  | 0, i, n, h, hn => by rw [L28_0_eq, cF (by omega), drop_nil (by omega)]; rfl
  | d + 1, i, n, h, hn => by
    have hm := hc _ (rd_mem l [] i (by omega))
    rw [L28_0_eq, Int.toNat_natCast, drop_rd l [] i (by omega), gmL]
    simp (disch := omega) only [cT, grd_p]
    by_cases h0 : (l.getD i []).length = 0
    · rw [ceT (by omega), decide_eq_false (by omega)]; rfl
    · rw [ceF (by omega), wr64 (by omega) (by omega), decide_eq_true h0]
      by_cases h1 : n + (l.getD i []).length ≤ 4096
      · rw [cF (by omega), show (n : Int) + ((l.getD i []).length : Int) = ((n + (l.getD i []).length : Nat) : Int) by omega, decide_eq_true h1]
        have := l28_1 (n := ((n + (l.getD i []).length : Nat) : Int)) (l := l) (m := l.length) (i := i) (c := l.getD i []) hm (l.getD i []).length 0 (by omega)
        rw [Int.natCast_zero] at this
        rw [this, inc (by omega), l28_0 hl hc d (i + 1) _ (by omega) h1, List.drop_zero]
        cases (l.getD i []).all ptOk <;> rfl
      · rw [cT (by omega), decide_eq_false h1]; rfl
theorem f28 {l : CS} (hc : ∀ c ∈ l, c.length ≤ 5000) : F28 l = some (gm l) := by
  rw [F28_eq]
  by_cases h : l.length ≤ 256
  · have := l28_0 (l := l) (by omega) hc l.length 0 0 (by omega) (by omega)
    rw [Int.natCast_zero, List.drop_zero] at this
    rw [cF (by omega), this]; simp [gm, h]
  · rw [cT (by omega)]; simp [gm, h]
theorem pt_r {α : Type} (p : S39) (A B : α) : cond (decide (p.f0 < -32767)) B (cond (decide (p.f0 > 32767)) B (cond (decide (p.f1 < -32767)) B (cond (decide (p.f1 > 32767)) B A))) = cond (ptOk p) A B := by
  unfold ptOk
  by_cases h1 : p.f0 < -32767
  · rw [cT h1, decide_eq_false (show ¬ -32767 ≤ p.f0 by omega)]; rfl
  · rw [cF h1, decide_eq_true (show -32767 ≤ p.f0 by omega)]
    by_cases h2 : p.f0 > 32767
    · rw [cT h2, decide_eq_false (show ¬ p.f0 ≤ 32767 by omega)]; rfl
    · rw [cF h2, decide_eq_true (show p.f0 ≤ 32767 by omega)]
      by_cases h3 : p.f1 < -32767
      · rw [cT h3, decide_eq_false (show ¬ -32767 ≤ p.f1 by omega)]; rfl
      · rw [cF h3, decide_eq_true (show -32767 ≤ p.f1 by omega)]
        by_cases h4 : p.f1 > 32767
        · rw [cT h4, decide_eq_false (show ¬ p.f1 ≤ 32767 by omega)]; rfl
        · rw [cF h4, decide_eq_true (show p.f1 ≤ 32767 by omega)]; rfl
theorem l29_2 {l : CS} {n : Int} {i : Nat} (hi : i < l.length) (hl : l.length ≤ 1000) (hc : (l.getD i []).length ≤ 5000) : ∀ (d k : Nat), d + k = (l.getD i []).length → L29_2 l n (i : Int) (k : Int) = cond (((l.getD i []).drop k).all ptOk) (L29_0 l n ((i + 1 : Nat) : Int)) (some false)
  | 0, k, h => by
    rw [L29_2_eq, Int.toNat_natCast, drop_nil (by omega)]
    simp (disch := omega) only [cF, grd_p, inc]; rfl
  | d + 1, k, h => by
    have ih := l29_2 (l := l) (n := n) (i := i) hi hl hc d (k + 1) (by omega)
    rw [L29_2_eq, Int.toNat_natCast, Int.toNat_natCast, drop_rd (l.getD i []) z0 k (by omega), List.all_cons]
    simp (disch := omega) only [cT, grd_p, inc]
    rw [ih, pt_r, c_and]
theorem l29_0 {l : CS} (hl : l.length ≤ 1000) (hc : ∀ c ∈ l, c.length ≤ 5000) : ∀ (d i n : Nat), d + i = l.length → n ≤ 4096 → L29_0 l (n : Int) (i : Int) = some (gmL n (l.drop i))
  | 0, i, n, h, hn => by rw [L29_0_eq, cF (by omega), drop_nil (by omega)]; rfl
  | d + 1, i, n, h, hn => by
    have hm := hc _ (rd_mem l [] i (by omega))
    rw [L29_0_eq, Int.toNat_natCast, drop_rd l [] i (by omega), gmL]
    simp (disch := omega) only [cT, grd_p]
    by_cases h0 : (l.getD i []).length = 0
    · rw [ceT (by omega), decide_eq_false (by omega)]; rfl
    · rw [ceF (by omega), decide_eq_true h0]
      by_cases h1 : n + (l.getD i []).length ≤ 4096
      · rw [cF (by omega), L29_1_eq, Int.toNat_natCast, decide_eq_true h1]
        simp (disch := omega) only [grd_p]
        rw [wr64 (by omega) (by omega), cF (by omega), show (n : Int) + ((l.getD i []).length : Int) = ((n + (l.getD i []).length : Nat) : Int) by omega]
        have := l29_2 (l := l) (n := ((n + (l.getD i []).length : Nat) : Int)) (i := i) (by omega) hl hm (l.getD i []).length 0 (by omega)
        rw [Int.natCast_zero] at this
        rw [this, l29_0 hl hc d (i + 1) _ (by omega) h1, List.drop_zero]
        cases (l.getD i []).all ptOk <;> rfl
      · have e : cond (decide (((l.getD i []).length : Int) > 4096)) (some false) (L29_1 l (n : Int) (i : Int)) = some false := by
          by_cases h2 : ((l.getD i []).length : Int) > 4096
          · rw [cT h2]
          · rw [cF h2, L29_1_eq, Int.toNat_natCast]
            simp (disch := omega) only [grd_p]
            rw [wr64 (by omega) (by omega), cT (by omega)]
        rw [e, decide_eq_false h1]; rfl
theorem f29 {l : CS} (hc : ∀ c ∈ l, c.length ≤ 5000) : F29 l = some (gm l) := by
  rw [F29_eq]
  by_cases h : l.length ≤ 256
  · have := l29_0 (l := l) (by omega) hc l.length 0 0 (by omega) (by omega)
    rw [Int.natCast_zero, List.drop_zero] at this
    rw [cF (by omega), this]; simp [gm, h]
  · rw [cT (by omega)]; simp [gm, h]
/-! parts -/
def sh (x : Int) : Bool := decide (-32768 ≤ x) && decide (x ≤ 32767)
def ptM (p : S47) (n : Int) : Bool := decide (0 ≤ p.f0) && (decide (p.f0 < n) && (sh p.f1 && (sh p.f2 && (sh p.f3 && (sh p.f4 && (sh p.f5 && sh p.f6))))))
def pm (l : List S47) (n : Int) : Bool := decide (1 ≤ n ∧ n ≤ 1024) && (decide (1 ≤ l.length ∧ l.length ≤ 64) && l.all fun p => ptM p n)
theorem f134 (x : Int) : F134 x = some (sh x) := by
  rw [F134_eq]; unfold sh
  by_cases h : x ≥ -32768
  · rw [cT h, decide_eq_true h]; rfl
  · rw [cF h, decide_eq_false h]; rfl
theorem l133 {l : List Int} (hl : l.length ≤ 1000) : ∀ (d i : Nat), d + i = l.length → L133_0 l (l.length : Int) (i : Int) = some ((l.drop i).all sh)
  | 0, i, h => by rw [L133_0_eq, cF (by omega), drop_nil (by omega)]; rfl
  | d + 1, i, h => by
    rw [L133_0_eq, Int.toNat_natCast, drop_rd l 0 i (by omega), List.all_cons]
    simp (disch := omega) only [cT, grd_p, inc]
    rw [l133 hl d (i + 1) (by omega)]
    unfold sh
    by_cases h1 : l.getD i 0 < -32768
    · rw [cT h1, decide_eq_false (by omega)]; rfl
    · rw [cF h1]
      by_cases h2 : l.getD i 0 > 32767
      · rw [cT h2, decide_eq_true (by omega), decide_eq_false (by omega)]; rfl
      · rw [cF h2, decide_eq_true (by omega), decide_eq_true (by omega)]; rfl
theorem f85 (p : S47) (n : Int) : F85 p n = some (ptM p n) := by
  have := l133 (l := [p.f1, p.f2, p.f3, p.f4, p.f5, p.f6]) (by simp) 6 0 rfl
  rw [Int.natCast_zero, List.drop_zero] at this
  rw [F85_eq, F133_eq, this]
  unfold ptM
  by_cases h : p.f0 ≥ 0
  · rw [cT h, decide_eq_true h]
    by_cases h2 : p.f0 < n
    · rw [cT h2, decide_eq_true h2]; simp
    · rw [cF h2, decide_eq_false h2]; rfl
  · rw [cF h, decide_eq_false h]; rfl
theorem f86 (p : S47) (n : Int) : F86 p n = some (ptM p n) := by
  rw [F86_eq]
  simp only [f134, Option.bind_some]
  unfold ptM
  by_cases h : p.f0 ≥ 0
  · rw [cT h, decide_eq_true h]
    by_cases h2 : p.f0 < n
    · rw [cT h2, decide_eq_true h2]
      cases sh p.f1 <;> cases sh p.f2 <;> cases sh p.f3 <;> cases sh p.f4 <;> cases sh p.f5 <;> rfl
    · rw [cF h2, decide_eq_false h2]; rfl
  · rw [cF h, decide_eq_false h]; rfl
theorem l35 {l : List S47} {n : Int} (hl : l.length ≤ 1000) : ∀ (d i : Nat), d + i = l.length → L35_0 n l (l.length : Int) (i : Int) = some ((l.drop i).all fun p => ptM p n)
  | 0, i, h => by rw [L35_0_eq, cF (by omega), drop_nil (by omega)]; rfl
  | d + 1, i, h => by
    rw [L35_0_eq, Int.toNat_natCast, drop_rd l z1 i (by omega), List.all_cons]
    simp (disch := omega) only [cT, grd_p, inc, f85, Option.bind_some]
    rw [l35 hl d (i + 1) (by omega)]
    cases ptM (l.getD i z1) n <;> rfl
theorem l36 {l : List S47} {n : Int} (hl : l.length ≤ 1000) : ∀ (d i : Nat), d + i = l.length → L36_0 l n (i : Int) = some ((l.drop i).all fun p => ptM p n)
  | 0, i, h => by rw [L36_0_eq, cF (by omega), drop_nil (by omega)]; rfl
  | d + 1, i, h => by
    rw [L36_0_eq, Int.toNat_natCast, drop_rd l z1 i (by omega), List.all_cons]
    simp (disch := omega) only [cT, grd_p, inc, f86, Option.bind_some]
    rw [l36 hl d (i + 1) (by omega)]
    cases ptM (l.getD i z1) n <;> rfl
theorem f35 (l : List S47) (n : Int) : F35 l n = some (pm l n) := by
  rw [F35_eq]; unfold pm
  by_cases h1 : n < 1
  · rw [cT h1, decide_eq_false (by omega)]; rfl
  · by_cases h2 : n > 1024
    · rw [cF h1, cT h2, decide_eq_false (by omega)]; rfl
    · rw [cF h1, cF h2, decide_eq_true (show 1 ≤ n ∧ n ≤ 1024 by omega)]
      by_cases h3 : l.length = 0
      · rw [ceT (by omega), decide_eq_false (by omega)]; rfl
      · rw [ceF (by omega)]
        by_cases h4 : (l.length : Int) > 64
        · rw [cT h4, decide_eq_false (by omega)]; rfl
        · have := l35 (n := n) (l := l) (by omega) l.length 0 (by omega)
          rw [Int.natCast_zero, List.drop_zero] at this
          rw [cF h4, this, decide_eq_true (by omega)]; rfl
theorem f36 (l : List S47) (n : Int) : F36 l n = some (pm l n) := by
  rw [F36_eq]; unfold pm
  by_cases h1 : n < 1
  · rw [cT h1, decide_eq_false (by omega)]; rfl
  · by_cases h2 : n > 1024
    · rw [cF h1, cT h2, decide_eq_false (by omega)]; rfl
    · rw [cF h1, cF h2, decide_eq_true (show 1 ≤ n ∧ n ≤ 1024 by omega)]
      by_cases h3 : (l.length : Int) < 1
      · rw [cT h3, decide_eq_false (by omega)]; rfl
      · rw [cF h3]
        by_cases h4 : (l.length : Int) > 64
        · rw [cT h4, decide_eq_false (by omega)]; rfl
        · have := l36 (n := n) (l := l) (by omega) l.length 0 (by omega)
          rw [Int.natCast_zero, List.drop_zero] at this
          rw [cF h4, this, decide_eq_true (by omega)]; rfl
/-! a shape, and all of them -/
def sm (s : S43) (n : Int) : Bool := cond (decide (s.f1.length ≠ 0)) (decide (s.f0.length = 0) && pm s.f1 n) (gm s.f0)
theorem f61 (s : S43) (n : Int) (hc : ∀ c ∈ s.f0, c.length ≤ 5000) : F61 s n = some (sm s n) := by
  rw [F61_eq, f35, f28 hc]; unfold sm
  by_cases h : s.f1.length = 0
  · rw [cF (by omega), cF (by omega)]; rfl
  · rw [cT (by omega), cT (by omega)]
    by_cases h2 : s.f0.length = 0
    · rw [ceT (by omega), decide_eq_true h2]; rfl
    · rw [ceF (by omega), decide_eq_false h2]; rfl
structure Few (l : List S43) : Prop where
  n : l.length ≤ 20
  c : ∀ s ∈ l, s.f0.length ≤ 10 ∧ s.f1.length ≤ 10 ∧ ∀ c ∈ s.f0, c.length ≤ 40
theorem l115 {l m : List S43} (hf : Few l) : ∀ (d i : Nat), d + i = l.length → ∃ k : Int, L115060_0 l (l.length : Int) (i : Int) m = some (k, m) ∧ decide (k ≥ 0) = !((l.drop i).all fun s => sm s (m.length : Int))
  | 0, i, h => ⟨-1, by rw [L115060_0_eq, cF (by omega)], by rw [drop_nil (by omega)]; rfl⟩
  | d + 1, i, h => by
    have hn := hf.n
    have hm := hf.c _ (rd_mem l z2 i (by omega))
    obtain ⟨k, h1, h2⟩ := l115 (m := m) hf d (i + 1) (by omega)
    rw [L115060_0_eq, Int.toNat_natCast, drop_rd l z2 i (by omega), List.all_cons]
    simp (disch := omega) only [cT, grd_p, inc]
    rw [F60_eq, f61 _ _ fun c hc => by have := hm.2.2 c hc; omega]
    simp only [Option.bind_some]
    cases sm (l.getD i z2) (m.length : Int)
    · exact ⟨i, rfl, by simp⟩
    · exact ⟨k, h1, by simpa using h2⟩
def may (l : List S43) : Bool := decide (1 ≤ l.length ∧ l.length ≤ 1024) && l.all fun s => sm s (l.length : Int)
theorem f22 {l : List S43} (hf : Few l) : F22 l = some (may l) := by
  have hn := hf.n
  obtain ⟨k, h1, h2⟩ := l115 (m := l) hf l.length 0 (by omega)
  rw [Int.natCast_zero] at h1
  rw [List.drop_zero] at h2
  rw [F22_eq, F59060_eq, F115060_eq, h1]
  unfold may
  by_cases h : l.length = 0
  · rw [cF (by omega), decide_eq_false (by omega)]; rfl
  · rw [cT (by omega), cT (by omega), decide_eq_true (by omega)]
    simp only [Option.bind_some, h2]
    simp
theorem l23 {l : List S43} (hf : Few l) : ∀ (d i : Nat), d + i = l.length → L23_0 l (i : Int) = some ((l.drop i).all fun s => sm s (l.length : Int))
  | 0, i, h => by rw [L23_0_eq, cF (by omega), drop_nil (by omega)]; rfl
  | d + 1, i, h => by
    have hn := hf.n
    have hm := hf.c _ (rd_mem l z2 i (by omega))
    rw [L23_0_eq, Int.toNat_natCast, drop_rd l z2 i (by omega), List.all_cons]
    simp (disch := omega) only [cT, grd_p, inc]
    rw [f29 fun c hc => by have := hm.2.2 c hc; omega, f36, l23 hf d (i + 1) (by omega)]
    simp only [Option.bind_some]
    unfold sm
    generalize l.getD i z2 = s
    by_cases h0 : s.f0.length = 0
    · have e0 : s.f0 = [] := List.eq_nil_of_length_eq_zero h0
      rw [cF (by omega), e0]
      by_cases h1 : s.f1.length = 0
      · rw [cF (by omega), cF (by omega)]; rfl
      · rw [cT (by omega), cT (by omega)]
        cases pm s.f1 (l.length : Int) <;> rfl
    · rw [cT (by omega)]
      by_cases h1 : s.f1.length = 0
      · rw [cF (by omega), cF (by omega), cF (by omega)]
        cases gm s.f0 <;> rfl
      · rw [cT (by omega), cT (by omega), decide_eq_false h0]; rfl
theorem f23 {l : List S43} (hf : Few l) : F23 l = some (may l) := by
  have hn := hf.n
  have := l23 hf l.length 0 (by omega)
  rw [Int.natCast_zero, List.drop_zero] at this
  rw [F23_eq, this]
  unfold may
  by_cases h : l.length = 0
  · rw [cT (by omega), decide_eq_false (by omega)]; rfl
  · rw [cF (by omega), cF (by omega), decide_eq_true (by omega)]; rfl
theorem few_l1 {l : List S43} {m i : Int} {cs : CS} (hc : cs.length ≤ 10) : ∀ (d k : Nat), d + k = cs.length → ∃ b : Bool, L16_1 l m i cs (cs.length : Int) (k : Int) = cond b (L16_0 l m (wr .i64 (i + 1))) (some false) ∧ (b = true → ∀ c ∈ cs.drop k, c.length ≤ 40)
  | 0, k, h => ⟨true, by rw [L16_1_eq, cF (by omega)]; rfl, fun _ c hc => by rw [drop_nil (by omega)] at hc; cases hc⟩
  | d + 1, k, h => by
    obtain ⟨b, h1, h2⟩ := few_l1 (l := l) (m := m) (i := i) hc d (k + 1) (by omega)
    rw [L16_1_eq, Int.toNat_natCast]
    simp (disch := omega) only [cT, grd_p, inc]
    by_cases h3 : ((cs.getD k []).length : Int) > 40
    · exact ⟨false, by rw [cT h3]; rfl, fun q => by cases q⟩
    · refine ⟨b, by rw [cF h3]; exact h1, fun q c hm => ?_⟩
      rw [drop_rd cs [] k (by omega)] at hm
      rcases List.mem_cons.1 hm with e | e
      · subst e; omega
      · exact h2 q c e
theorem few_l0 {l : List S43} (hl : l.length ≤ 20) : ∀ (d i : Nat), d + i = l.length → ∃ b, L16_0 l (l.length : Int) (i : Int) = some b ∧ (b = true → ∀ s ∈ l.drop i, s.f0.length ≤ 10 ∧ s.f1.length ≤ 10 ∧ ∀ c ∈ s.f0, c.length ≤ 40)
  | 0, i, h => ⟨true, by rw [L16_0_eq, cF (by omega)], fun _ c hc => by rw [drop_nil (by omega)] at hc; cases hc⟩
  | d + 1, i, h => by
    obtain ⟨b, h1, h2⟩ := few_l0 hl d (i + 1) (by omega)
    rw [L16_0_eq, Int.toNat_natCast]
    simp (disch := omega) only [cT, grd_p]
    by_cases h3 : ((l.getD i z2).f0.length : Int) > 10
    · exact ⟨false, by rw [cT h3], fun q => by cases q⟩
    · by_cases h4 : ((l.getD i z2).f1.length : Int) > 10
      · exact ⟨false, by rw [cF h3, cT h4], fun q => by cases q⟩
      · obtain ⟨b2, g1, g2⟩ := few_l1 (l := l) (m := l.length) (i := i) (cs := (l.getD i z2).f0) (by omega) (l.getD i z2).f0.length 0 (by omega)
        rw [Int.natCast_zero] at g1
        rw [cF h3, cF h4, g1, inc (by omega), h1]
        cases b2
        · exact ⟨false, rfl, fun q => by cases q⟩
        · refine ⟨b, rfl, fun q s hs => ?_⟩
          rw [drop_rd l z2 i (by omega)] at hs
          rcases List.mem_cons.1 hs with e | e
          · subst e; exact ⟨by omega, by omega, by have := g2 rfl; rwa [List.drop_zero] at this⟩
          · exact h2 q s e
theorem f16 (l : List S43) : ∃ b, F16 l = some b ∧ (b = true → Few l) := by
  rw [F16_eq]
  by_cases h : (l.length : Int) > 20
  · exact ⟨false, by rw [cT h], fun q => by cases q⟩
  · obtain ⟨b, h1, h2⟩ := few_l0 (l := l) (by omega) l.length 0 (by omega)
    rw [Int.natCast_zero] at h1
    exact ⟨b, by rw [cF h]; exact h1, fun q => ⟨by omega, by have := h2 q; rwa [List.drop_zero] at this⟩⟩
end Go.Proofs.Ytalghbndblgndaa.Ev
