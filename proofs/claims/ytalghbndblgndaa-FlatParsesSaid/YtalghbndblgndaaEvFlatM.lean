/- Flat: what shapes may be: the program's side. -/
import Derived.Test.YtalghbndblgndaaEvMays
namespace Go.Proofs.Ytalghbndblgndaa.Ev
open Go
set_option linter.unusedVariables false
set_option linter.unusedSimpArgs false
abbrev CS := List (List S39)
def ptOk (p : S39) : Bool := decide (-32767 ≤ p.f0) && (decide (p.f0 ≤ 32767) && (decide (-32767 ≤ p.f1) && decide (p.f1 ≤ 32767)))
def gmL : Nat → CS → Bool
  | _, [] => true
  | n, c :: l => decide (c.length ≠ 0) && (decide (n + c.length ≤ 4096) && (c.all ptOk && gmL (n + c.length) l))
def gm (l : CS) : Bool := decide (l.length ≤ 256) && gmL 0 l
theorem f69 (x : Int) : F69 x = some (decide (¬ (-32767 ≤ x ∧ x ≤ 32767))) := by
  rw [F69_eq]
  by_cases h : x > 32767
  · rw [cT h, decide_eq_true (by omega)]
  · rw [cF h]; congr 1; exact decide_eq_decide.mpr (by omega)
theorem pt_k {α : Type} (p : S39) (A B : α) : cond (decide (¬ (-32767 ≤ p.f0 ∧ p.f0 ≤ 32767))) B (cond (decide (¬ (-32767 ≤ p.f1 ∧ p.f1 ≤ 32767))) B A) = cond (ptOk p) A B := by
  unfold ptOk
  by_cases h1 : -32767 ≤ p.f0 ∧ p.f0 ≤ 32767
  · rw [decide_eq_false (by omega : ¬ ¬ (-32767 ≤ p.f0 ∧ p.f0 ≤ 32767)), decide_eq_true h1.1, decide_eq_true h1.2]
    by_cases h2 : -32767 ≤ p.f1 ∧ p.f1 ≤ 32767
    · rw [decide_eq_false (by omega : ¬ ¬ (-32767 ≤ p.f1 ∧ p.f1 ≤ 32767)), decide_eq_true h2.1, decide_eq_true h2.2]; rfl
    · rw [decide_eq_true h2]
      rcases (by omega : ¬ -32767 ≤ p.f1 ∨ ¬ p.f1 ≤ 32767) with q | q
      · rw [decide_eq_false q]; rfl
      · rw [decide_eq_false q, Bool.and_false]; rfl
  · rw [decide_eq_true h1]
    rcases (by omega : ¬ -32767 ≤ p.f0 ∨ ¬ p.f0 ≤ 32767) with q | q
    · rw [decide_eq_false q]; rfl
    · rw [decide_eq_false q, Bool.false_and, Bool.and_false]; rfl
theorem c_and {α : Type} (a b : Bool) (A B : α) : cond (a && b) A B = cond a (cond b A B) B := by cases a <;> rfl
theorem l28_1 {n : Int} {l : CS} {m i : Int} {c : List S39} (hc : c.length ≤ 5000) : ∀ (d k : Nat), d + k = c.length → L28_1 n l m i c (c.length : Int) (k : Int) = cond ((c.drop k).all ptOk) (L28_0 n l m (wr .i64 (i + 1))) (some false)
  | 0, k, h => by rw [L28_1_eq, cF (by omega), drop_nil (by omega)]; rfl
  | d + 1, k, h => by
    have ih := l28_1 (n := n) (l := l) (m := m) (i := i) hc d (k + 1) (by omega)
    rw [L28_1_eq, Int.toNat_natCast, drop_rd c z0 k (by omega), List.all_cons]
    simp (disch := omega) only [cT, grd_p, inc, f69, Option.bind_some]
    rw [ih, pt_k, c_and]
theorem l28_0 {l : CS} (hl : l.length ≤ 1000) (hc : ∀ c ∈ l, c.length ≤ 5000) : ∀ (d i n : Nat), d + i = l.length → n ≤ 4096 → L28_0 (n : Int) l (l.length : Int) (i : Int) = some (gmL n (l.drop i))
  | 0, i, n, h, hn => by rw [L28_0_eq, cF (by omega), drop_nil (by omega)]; rfl
  | d + 1, i, n, h, hn => by
    have hm := hc _ (rd_mem l [] i (by omega))
    rw [L28_0_eq, Int.toNat_natCast, drop_rd l [] i (by omega), gmL]
    simp (disch := omega) only [cT, grd_p]
    by_cases h0 : (l.getD i []).length = 0
    · rw [ceT (by omega), decide_eq_false (by omega)]; rfl
    · rw [ceF (by omega), wr64 (by omega) (by omega), decide_eq_true h0]
      by_cases h1 : n + (l.getD i []).length ≤ 4096
      · rw [cF (by omega), show (n : Int) + ((l.getD i []).length : Int) = ((n + (l.getD i []).length : Nat) : Int) by omega, decide_eq_true h1]
        have := l28_1 (n := ((n + (l.getD i []).length : Nat) : Int)) (l := l) (m := l.length) (i := i) (c := l.getD i []) hm (l.getD i []).length 0 (by omega)
        rw [Int.natCast_zero] at this
        rw [this, inc (by omega), l28_0 hl hc d (i + 1) _ (by omega) h1, List.drop_zero]
        cases (l.getD i []).all ptOk <;> rfl
      · rw [cT (by omega), decide_eq_false h1]; rfl
theorem f28 {l : CS} (hc : ∀ c ∈ l, c.length ≤ 5000) : F28 l = some (gm l) := by
  rw [F28_eq]
  by_cases h : l.length ≤ 256
  · have := l28_0 (l := l) (by omega) hc l.length 0 0 (by omega) (by omega)
    rw [Int.natCast_zero, List.drop_zero] at this
    rw [cF (by omega), this]; simp [gm, h]
  · rw [cT (by omega)]; simp [gm, h]
def sm (s : S43) (n : Int) : Bool := cond (decide (s.f1.length ≠ 0)) (decide (s.f0.length = 0) && pm s.f1 n) (gm s.f0)
theorem f61 (s : S43) (n : Int) (hc : ∀ c ∈ s.f0, c.length ≤ 5000) : F61 s n = some (sm s n) := by
  rw [F61_eq, f35, f28 hc]; unfold sm
  by_cases h : s.f1.length = 0
  · rw [cF (by omega), cF (by omega)]; rfl
  · rw [cT (by omega), cT (by omega)]
    by_cases h2 : s.f0.length = 0
    · rw [ceT (by omega), decide_eq_true h2]; rfl
    · rw [ceF (by omega), decide_eq_false h2]; rfl
structure Few (l : List S43) : Prop where
  n : l.length ≤ 1024
  c : ∀ s ∈ l, ∀ c ∈ s.f0, c.length ≤ 5000
theorem l115 {l m : List S43} (hf : Few l) : ∀ (d i : Nat), d + i = l.length → ∃ k : Int, L115060_0 l (l.length : Int) (i : Int) m = some (k, m) ∧ decide (k ≥ 0) = !((l.drop i).all fun s => sm s (m.length : Int))
  | 0, i, h => ⟨-1, by rw [L115060_0_eq, cF (by omega)], by rw [drop_nil (by omega)]; rfl⟩
  | d + 1, i, h => by
    have hn := hf.n
    have hm := hf.c _ (rd_mem l z2 i (by omega))
    obtain ⟨k, h1, h2⟩ := l115 (m := m) hf d (i + 1) (by omega)
    rw [L115060_0_eq, Int.toNat_natCast, drop_rd l z2 i (by omega), List.all_cons]
    simp (disch := omega) only [cT, grd_p, inc]
    rw [F60_eq, f61 _ _ fun c hc => hm c hc]
    simp only [Option.bind_some]
    cases sm (l.getD i z2) (m.length : Int)
    · exact ⟨i, rfl, by simp⟩
    · exact ⟨k, h1, by simpa using h2⟩
def may (l : List S43) : Bool := decide (1 ≤ l.length ∧ l.length ≤ 1024) && l.all fun s => sm s (l.length : Int)
theorem f22 {l : List S43} (hf : Few l) : F22 l = some (may l) := by
  have hn := hf.n
  obtain ⟨k, h1, h2⟩ := l115 (m := l) hf l.length 0 (by omega)
  rw [Int.natCast_zero] at h1
  rw [List.drop_zero] at h2
  rw [F22_eq, F59060_eq, F115060_eq, h1]
  unfold may
  by_cases h : l.length = 0
  · rw [cF (by omega), decide_eq_false (by omega)]; rfl
  · rw [cT (by omega), cT (by omega), decide_eq_true (by omega)]
    simp only [Option.bind_some, h2]
    simp
end Go.Proofs.Ytalghbndblgndaa.Ev
