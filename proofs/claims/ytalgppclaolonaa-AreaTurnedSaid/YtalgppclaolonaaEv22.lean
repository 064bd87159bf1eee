/- Values without memory: an operation hands on one state alone. -/
import Derived.Test.YtalgppclaolonaaEv21
namespace Go.Proofs.Ytalgppclaolonaa.Ev
open Go
set_option linter.unusedVariables false
set_option linter.unusedSimpArgs false
section
variable {D : Tys} {R : Type}
theorem bKK_nat {b : Bool} {k k' : Option R} {r : R} (h : bKK b k k' = some r) : (b = true ∧ k = some r) ∨ (b = false ∧ k' = some r) := by
  cases b with
  | true => exact .inl ⟨rfl, h⟩
  | false => exact .inr ⟨rfl, h⟩
theorem opK_nat {H : HH D R} (hH : HNat H) {op : Op} {d : Nat} {fr : Tr (V D.S)} {hp : Tr (B D.S)} : N3 (opK D H op d fr hp) := by
  intro k r h
  cases op with
  | move x => simp only [opK, arrK_eq] at h ⊢; split at h <;> first | (cases h; done) | exact ⟨_, _, _, h, fun k2 => by simp only [*]⟩
  | assign x => simp only [opK, arrK_eq] at h ⊢; split at h <;> first | (cases h; done) | exact ⟨_, _, _, h, fun k2 => by simp only [*]⟩
  | pick c x y =>
    simp only [opK, arrK_eq] at h ⊢
    split at h
    · rcases bKK_nat h with ⟨rfl, h'⟩ | ⟨rfl, h'⟩ <;> clear h <;> split at h' <;> first | (cases h'; done) | exact ⟨_, _, _, h', fun k2 => by simp only [bKK, *]⟩
    · cases h
  | alloc t =>
    simp only [opK, arrK_eq] at h ⊢
    split at h
    · obtain ⟨v, fr', hp', h1, h2⟩ := newK_nat _ _ h
      exact ⟨v, fr', hp', h1, fun k2 => by simp only [*]⟩
    · cases h
  | box t x =>
    simp only [opK, arrK_eq] at h ⊢
    repeat' split at h
    all_goals first
      | (cases h; done)
      | (obtain ⟨v, fr', hp', h1, h2⟩ := newK_nat _ _ h; exact ⟨v, fr', hp', h1, fun k2 => by simp only [*]⟩)
  | build t ps =>
    simp only [opK, arrK_eq] at h ⊢
    repeat' split at h
    all_goals first
      | (cases h; done)
      | exact ⟨_, _, _, h, fun k2 => by simp only [*]⟩
  | buildSlice t n ps =>
    simp only [opK, arrK_eq] at h ⊢
    repeat' split at h
    all_goals first
      | (cases h; done)
      | (obtain ⟨fr1, hp1, h1, h2⟩ := frzsK_nat _ _ h; obtain ⟨v, fr', hp', h3, h4⟩ := newK_nat _ _ h1; exact ⟨v, fr', hp', h3, fun k2 => by simp only [*]⟩)
  | load t p =>
    simp only [opK, arrK_eq] at h ⊢
    repeat' split at h
    all_goals first
      | (cases h; done)
      | exact ⟨_, _, _, h, fun k2 => by simp only [*]⟩
  | store t p x =>
    simp only [opK, arrK_eq, Tr.setK_eq] at h ⊢
    repeat' split at h
    all_goals first
      | (cases h; done)
      | exact ⟨_, _, _, h, fun k2 => by simp only [*]⟩
      | (obtain ⟨fr1, hp1, h1, h2⟩ := frzsK_nat _ _ h; split at h1 <;> first | (cases h1; done) | exact ⟨_, _, _, h1, fun k2 => by simp only [*]⟩)
  | nilCheck x =>
    simp only [opK, arrK_eq] at h ⊢
    repeat' split at h
    all_goals first
      | (cases h; done)
      | exact ⟨_, _, _, h, fun k2 => by simp only [*]⟩
  | binOp op t x y q =>
    simp only [opK, arrK_eq] at h ⊢
    split at h
    · rename_i k1 a k2 b hx hy
      split at h
      all_goals first
        | (obtain ⟨a1, h⟩ := bK_nat h; exact ⟨_, _, _, h, fun k2 => by simp only [bK, *]⟩)
        | (split at h
           · rcases bKK_nat h with ⟨e, h'⟩ | ⟨e, h'⟩
             · cases h'
             · exact ⟨_, _, _, h', fun k2 => by simp only [bKK, if_true, *]⟩
           · cases h)
        | (split at h
           · split at h
             · exact ⟨_, _, _, h, fun k2 => by simp only [if_true, *]⟩
             · cases h
           · cases h)
    · split at h
      · obtain ⟨a1, h⟩ := bK_nat h; exact ⟨_, _, _, h, fun k2 => by simp only [bK, *]⟩
      · split at h
        · exact ⟨_, _, _, h, fun k2 => by simp only [*]⟩
        · cases h
    · repeat' split at h
      all_goals first
        | (cases h; done)
        | exact ⟨_, _, _, h, fun k2 => by simp only [*]⟩
    · repeat' split at h
      all_goals first
        | (cases h; done)
        | exact ⟨_, _, _, h, fun k2 => by simp only [*]⟩
    · cases h
  | unOp u t x =>
    simp only [opK, arrK_eq] at h ⊢
    repeat' split at h
    all_goals first
      | (cases h; done)
      | exact ⟨_, _, _, h, fun k2 => by simp only [if_true, Bool.false_eq_true, if_false, *]⟩
  | convert q t x =>
    simp only [opK, arrK_eq] at h ⊢
    repeat' split at h
    all_goals first
      | (cases h; done)
      | exact ⟨_, _, _, h, fun k2 => by simp only [*]⟩
  | makeFunc f first caps =>
    cases f <;> first
      | (simp [opK, arrK_eq] at h; done)
      | (simp only [opK, arrK_eq] at h ⊢; split at h <;> first | (cases h; done) | exact ⟨_, _, _, h, fun k2 => by simp only [*]⟩)
  | makeSlice t x y =>
    simp only [opK, arrK_eq] at h ⊢
    repeat' split at h
    all_goals first
      | (cases h; done)
      | (obtain ⟨a1, a2, h⟩ := bK2_nat h; obtain ⟨a3, h⟩ := bK_nat h; obtain ⟨v, fr', hp', h1, h2⟩ := newK_nat _ _ h; exact ⟨v, fr', hp', h1, fun k2 => by simp only [bK, *]⟩)
  | slice t x lo hi mx =>
    cases mx with
    | some m => simp [opK, arrK_eq] at h
    | none =>
      simp only [opK, arrK_eq] at h ⊢
      repeat' split at h
      all_goals first
        | (cases h; done)
        | (obtain ⟨v, fr', hp', h1, h2⟩ := sliceK_nat _ _ h; exact ⟨v, fr', hp', h1, fun k2 => by simp only [*]⟩)
  | fieldAddr t x f =>
    simp only [opK, arrK_eq] at h ⊢
    repeat' split at h
    all_goals first
      | (cases h; done)
      | exact ⟨_, _, _, h, fun k2 => by simp only [*]⟩
  | field t x f =>
    simp only [opK, arrK_eq] at h ⊢
    repeat' split at h
    all_goals first
      | (cases h; done)
      | exact ⟨_, _, _, h, fun k2 => by simp only [*]⟩
  | indexAddr t x y =>
    simp only [opK, arrK_eq] at h ⊢
    repeat' split at h
    all_goals first
      | (cases h; done)
      | (obtain ⟨h, h2⟩ := idxK_nat h; exact ⟨_, _, _, h, fun k2 => by simp only [*]⟩)
  | index t x y =>
    simp only [opK, arrK_eq] at h ⊢
    split at h
    · obtain ⟨h, h2⟩ := idxK_nat h; exact ⟨_, _, _, h, fun k2 => by simp only [*]⟩
    · obtain ⟨h, h2⟩ := idxK_nat h
      repeat' split at h
      all_goals first
        | (cases h; done)
        | exact ⟨_, _, _, h, fun k2 => by simp only [*]⟩
    · cases h
  | extract x i =>
    simp only [opK, arrK_eq] at h ⊢
    repeat' split at h
    all_goals first
      | (cases h; done)
      | exact ⟨_, _, _, h, fun k2 => by simp only [*]⟩
  | call c =>
    obtain ⟨f, args, ts⟩ := c
    cases f with
    | value f =>
      simp only [opK, arrK_eq] at h ⊢
      split at h
      · obtain ⟨v, fr', hp', h1, h2⟩ := callK_nat hH _ _ h
        exact ⟨v, fr', hp', h1, fun k2 => by simp only [*]⟩
      · cases h
    | invoke x m => simp [opK, arrK_eq] at h
    | builtin b =>
      cases b <;> first
        | (simp [opK, arrK_eq] at h; done)
        | (simp only [opK, arrK_eq] at h ⊢
           repeat' split at h
           all_goals first
             | (cases h; done)
             | exact ⟨_, _, _, h, fun k2 => by simp only [*]⟩
             | (obtain ⟨v, fr', hp', h1, h2⟩ := appendK_nat _ _ h; exact ⟨v, fr', hp', h1, fun k2 => by simp only [*]⟩))
  | _ => simp [opK, arrK_eq] at h
theorem putK_set {dst : Option Tmp} {v : V D.S} {fr : Tr (V D.S)} (k : Tr (V D.S) → Option R) : putK D dst v fr k = k (match dst with | some d => fr.set depth d (some v) | none => fr) := by
  cases dst with
  | none => rfl
  | some d => simp only [putK, Tr.setK_eq]
theorem yieldK_nat {ops : List Oper} {j : Nat} {fr : Tr (V D.S)} {k : Nat → Bool → Option R} {r : R} (h : yieldK D ops j fr k = some r) : ∃ d b, k d b = some r ∧ ∀ k2 : Nat → Bool → Option R, yieldK D ops j fr k2 = k2 d b := by
  unfold yieldK at h
  split at h
  · split at h
    · exact ⟨_, _, h, fun k2 => by unfold yieldK; simp only [*]⟩
    · cases h
  · cases h
theorem op1K0_nat {H : HH D R} (hH : HNat H) {ops : List Oper} {o : Oper} {fr : Tr (V D.S)} {hp : Tr (B D.S)} : N2 (op1K0 D H ops o fr hp) := by
  intro k r h
  unfold op1K0 at h
  simp only [putK_set, Tr.setK_eq] at h
  split at h
  · rename_i hg
    obtain ⟨v, fr', hp', h1, h2⟩ := opK_nat hH _ _ h
    exact ⟨_, _, h1, fun k2 => by unfold op1K0; simp only [putK_set, Tr.setK_eq, hg]; rw [h2]⟩
  · rename_i j hg
    obtain ⟨d, b, h0, e0⟩ := yieldK_nat h
    rcases bKK_nat h0 with ⟨rfl, h'⟩ | ⟨rfl, h'⟩
    · obtain ⟨v, fr', hp', h1, h2⟩ := opK_nat hH _ _ h'
      exact ⟨_, _, h1, fun k2 => by unfold op1K0; simp only [putK_set, Tr.setK_eq, hg]; rw [e0]; simp only [bKK]; rw [h2]⟩
    · exact ⟨_, _, h', fun k2 => by unfold op1K0; simp only [putK_set, Tr.setK_eq, hg]; rw [e0]; rfl⟩
  · rename_i j hg
    obtain ⟨d, b, h0, e0⟩ := yieldK_nat h
    rcases bKK_nat h0 with ⟨rfl, h'⟩ | ⟨rfl, h'⟩
    · exact ⟨_, _, h', fun k2 => by unfold op1K0; simp only [putK_set, Tr.setK_eq, hg]; rw [e0]; rfl⟩
    · obtain ⟨v, fr', hp', h1, h2⟩ := opK_nat hH _ _ h'
      exact ⟨_, _, h1, fun k2 => by unfold op1K0; simp only [putK_set, Tr.setK_eq, hg]; rw [e0]; simp only [bKK]; rw [h2]⟩
theorem op1K_nat {H : HH D R} (hH : HNat H) {ops : List Oper} {o : Oper} {fr : Tr (V D.S)} {hp : Tr (B D.S)} : N2 (op1K D H ops o fr hp) := by
  intro k r h
  unfold op1K at h
  split at h
  · rename_i d hsk
    rw [putK_set] at h
    exact ⟨_, _, h, fun k2 => by unfold op1K; rw [hsk]; simp only [putK_set]⟩
  · rename_i hsk
    obtain ⟨fr', hp', h1, h2⟩ := op1K0_nat hH _ _ h
    exact ⟨_, _, h1, fun k2 => by unfold op1K; rw [hsk]; exact h2 k2⟩
theorem opsK_nat {H : HH D R} (hH : HNat H) {ops : List Oper} : ∀ {l : List Oper} {fr : Tr (V D.S)} {hp : Tr (B D.S)}, N2 (opsK D H ops l fr hp)
  | [], fr, hp, k, r, h => ⟨fr, hp, h, fun _ => rfl⟩
  | o :: l, fr, hp, k, r, h => by
    unfold opsK at h
    obtain ⟨fr1, hp1, h1, e1⟩ := op1K_nat hH _ _ h
    obtain ⟨fr2, hp2, h2, e2⟩ := opsK_nat hH _ _ h1
    exact ⟨fr2, hp2, h2, fun k2 => by unfold opsK; rw [e1]; exact e2 k2⟩
end
end Go.Proofs.Ytalgppclaolonaa.Ev
