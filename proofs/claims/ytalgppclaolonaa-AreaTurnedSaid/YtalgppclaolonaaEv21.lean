/- Values without memory: what runs the code hands on one state alone: so it may be run with another continuation. -/
import Derived.Test.YtalgppclaolonaaEv17
namespace Go.Proofs.Ytalgppclaolonaa.Ev
open Go
set_option linter.unusedVariables false
set_option linter.unusedSimpArgs false
section
variable {D : Tys} {R : Type}
def N3 (g : KK D R → Option R) : Prop := ∀ k r, g k = some r → ∃ v fr hp, k v fr hp = some r ∧ ∀ k2, g k2 = k2 v fr hp
def N2 (g : (Tr (V D.S) → Tr (B D.S) → Option R) → Option R) : Prop := ∀ k r, g k = some r → ∃ fr hp, k fr hp = some r ∧ ∀ k2, g k2 = k2 fr hp
/-- What a table of functions hands on. -/
def HNat (H : HH D R) : Prop := ∀ g ws (kk : List (A D.S) → List (List (C D.S)) → Option R) r, H g ws kk = some r → ∃ res css, kk res css = some r ∧ ∀ kk2, H g ws kk2 = kk2 res css
theorem bK_nat {b : Bool} {k : Option R} {r : R} (h : bK b k = some r) : b = true ∧ k = some r := by
  cases b with
  | true => exact ⟨rfl, h⟩
  | false => cases h
theorem frzK_nat {id : Nat} {fr : Tr (V D.S)} {hp : Tr (B D.S)} : N2 (D := D) (R := R) (frzK id fr hp) := by
  intro k r h
  cases hg : hp.get id with
  | none => simp [frzK, hg] at h
  | some b => cases b with
    | box cs => simp [frzK, hg] at h
    | arr t l => rw [frzK_eq hg] at h; exact ⟨_, _, h, fun k2 => frzK_eq hg⟩
theorem frzsK_nat : ∀ {ids : List Nat} {fr : Tr (V D.S)} {hp : Tr (B D.S)}, N2 (D := D) (R := R) (frzsK ids fr hp)
  | [], fr, hp, k, r, h => ⟨fr, hp, h, fun k2 => rfl⟩
  | id :: ids, fr, hp, k, r, h => by
    unfold frzsK at h
    split at h
    · rename_i hg
      obtain ⟨fr', hp', h1, h2⟩ := frzsK_nat _ _ h
      exact ⟨fr', hp', h1, fun k2 => by unfold frzsK; rw [hg]; exact h2 k2⟩
    · rename_i b hg
      obtain ⟨fr1, hp1, h1, h2⟩ := frzK_nat _ _ h
      obtain ⟨fr', hp', h3, h4⟩ := frzsK_nat _ _ h1
      exact ⟨fr', hp', h3, fun k2 => by unfold frzsK; rw [hg]; simp only; rw [h2]; exact h4 k2⟩
theorem newK_nat {d : Nat} {b : B D.S} {c : C D.S} {fr : Tr (V D.S)} {hp : Tr (B D.S)} : N3 (R := R) (newK D d b c fr hp) := by
  intro k r h
  unfold newK at h
  split at h
  · cases h
  · rename_i hg
    rw [Tr.setK_eq] at h
    exact ⟨_, _, _, h, fun k2 => by unfold newK; rw [hg]; simp only; rw [Tr.setK_eq]⟩
theorem appendK_nat {d by_ : Nat} {t : Ty} {s x : C D.S} {fr : Tr (V D.S)} {hp : Tr (B D.S)} : N3 (R := R) (appendK D d by_ t s x fr hp) := by
  intro k r h
  unfold appendK at h
  split at h
  · cases h
  · rename_i id l hg
    split at h
    · cases h
    · rename_i xs hx
      obtain ⟨hb, h⟩ := bK_nat h
      split at h
      · obtain ⟨v, fr', hp', h1, h2⟩ := newK_nat _ _ h
        exact ⟨v, fr', hp', h1, fun k2 => by unfold appendK; rw [hg]; simp only; rw [hx]; simp only; rw [hb]; exact h2 k2⟩
      · rw [killK_eq] at h
        obtain ⟨v, fr', hp', h1, h2⟩ := newK_nat _ _ h
        exact ⟨v, fr', hp', h1, fun k2 => by unfold appendK; rw [hg]; simp only; rw [hx]; simp only; rw [hb]; simp only [bK]; rw [killK_eq]; exact h2 k2⟩
theorem idxK_nat {n i : Int} {k : Option R} {r : R} (h : idxK n i k = some r) : k = some r ∧ ∀ k2 : Option R, idxK n i k2 = k2 := by
  obtain ⟨h1, h⟩ := bK_nat h
  obtain ⟨h2, h⟩ := bK_nat h
  exact ⟨h, fun k2 => by unfold idxK; rw [h1, h2]; rfl⟩
theorem setRefsK_nat : ∀ {rs : List Nat} {css : List (List (C D.S))} {hp : Tr (B D.S)} (k : Tr (B D.S) → Option R) (r : R), setRefsK D rs css hp k = some r → ∃ hp', k hp' = some r ∧ ∀ k2 : Tr (B D.S) → Option R, setRefsK D rs css hp k2 = k2 hp'
  | [], [], hp, k, r, h => ⟨hp, h, fun _ => rfl⟩
  | [], _ :: _, hp, k, r, h => by simp [setRefsK] at h
  | _ :: _, [], hp, k, r, h => by simp [setRefsK] at h
  | i :: rs, cs :: css, hp, k, r, h => by
    simp only [setRefsK, Tr.setK_eq] at h ⊢
    exact setRefsK_nat k r h
theorem callK_nat {H : HH D R} (hH : HNat H) {g : FuncId} {d : Nat} {as : List (A D.S)} {fr : Tr (V D.S)} {hp : Tr (B D.S)} : N3 (callK D H g d as fr hp) := by
  intro k r h
  unfold callK at h
  split at h
  · cases h
  rename_i md hmd
  split at h
  · cases h
  rename_i ws rs os hargs
  split at h
  · cases h
  · rename_i hd hf
    obtain ⟨fr1, hp1, h1, e1⟩ := frzsK_nat _ _ h
    obtain ⟨res, css, h2, e2⟩ := hH _ _ _ _ h1
    obtain ⟨hp2, h3, e3⟩ := setRefsK_nat _ _ h2
    exact ⟨_, _, _, h3, fun k2 => by unfold callK; simp only [hmd, hargs, hd, hf]; rw [e1, e2, e3]⟩
  · rename_i hd hf
    obtain ⟨res, css, h2, e2⟩ := hH _ _ _ _ h
    split at h2
    · cases h2
    · rename_i hn
      obtain ⟨hp2, h3, e3⟩ := setRefsK_nat _ _ h2
      exact ⟨_, _, _, h3, fun k2 => by unfold callK; simp only [hmd, hargs, hd, hf]; rw [e2, hn]; simp only; rw [e3]⟩
theorem bK2_nat {b1 b2 : Bool} {k : Option R} {r : R} (h1 : bK b1 (bK b2 k) = some r) : b1 = true ∧ b2 = true ∧ k = some r := by
  obtain ⟨a1, h1⟩ := bK_nat h1
  obtain ⟨a2, h1⟩ := bK_nat h1
  exact ⟨a1, a2, h1⟩
theorem bK4_nat {b1 b2 b3 b4 : Bool} {k : Option R} {r : R} (h1 : bK b1 (bK b2 (bK b3 (bK b4 k))) = some r) : b1 = true ∧ b2 = true ∧ b3 = true ∧ b4 = true ∧ k = some r := by
  obtain ⟨a1, a2, h1⟩ := bK2_nat h1
  obtain ⟨a3, a4, h1⟩ := bK2_nat h1
  exact ⟨a1, a2, a3, a4, h1⟩
theorem sliceK_nat {d : TD} {c : C D.S} {lo hi : Option Int} {fr : Tr (V D.S)} {hp : Tr (B D.S)} : N3 (R := R) (sliceK D d c lo hi fr hp) := by
  intro k r h
  unfold sliceK at h
  repeat' split at h
  all_goals first
    | (cases h; done)
    | exact ⟨_, _, _, h, fun k2 => by simp only [sliceK, *]⟩
    | (obtain ⟨a1, a2, h⟩ := bK2_nat h; exact ⟨_, _, _, h, fun k2 => by simp only [sliceK, bK, *]⟩)
    | (obtain ⟨a1, a2, a3, a4, h⟩ := bK4_nat h; exact ⟨_, _, _, h, fun k2 => by simp only [sliceK, bK, *]⟩)
end
end Go.Proofs.Ytalgppclaolonaa.Ev
