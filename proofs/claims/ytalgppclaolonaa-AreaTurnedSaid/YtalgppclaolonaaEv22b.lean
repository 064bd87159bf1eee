/- Values without memory: the code hands on one state alone. -/
import Derived.Test.YtalgppclaolonaaEv20
namespace Go.Proofs.Ytalgppclaolonaa.Ev
open Go
set_option linter.unusedVariables false
set_option linter.unusedSimpArgs false
section
variable {D : Tys} {R : Type}
theorem exK_nat {H : HH D R} (hH : HNat H) {o : Oper} {gs : List Nat} {fr : Tr (V D.S)} {hp : Tr (B D.S)} {k : KL D R} {r : R} (h : exK D H o gs fr hp k = some r) :
    ∃ lk T U e a kl fr' hp', k lk T U e a kl fr' hp' = some r ∧ ∀ k2 : KL D R, exK D H o gs fr hp k2 = k2 lk T U e a kl fr' hp' := by
  unfold exK at h
  split at h
  · cases h
  · rename_i hc
    obtain ⟨v, fr1, hp1, h1, h2⟩ := opK_nat hH _ _ h
    simp only [putK_set] at h1
    split at h1
    · rename_i hl
      exact ⟨_, _, _, _, _, _, _, _, h1, fun k2 => by unfold exK; rw [hc]; simp only; rw [h2]; simp only [putK_set, hl]⟩
    · cases h1
theorem dr1K0_nat {H : HH D R} (hH : HNat H) {ops : List Oper} {o : Oper} {fr : Tr (V D.S)} {hp : Tr (B D.S)} {k : KL D R} {r : R} (h : dr1K0 D H ops o fr hp k = some r) :
    ∃ lk T U e a kl fr' hp', k lk T U e a kl fr' hp' = some r ∧ ∀ k2 : KL D R, dr1K0 D H ops o fr hp k2 = k2 lk T U e a kl fr' hp' := by
  unfold dr1K0 at h
  simp only [putK_set, Tr.setK_eq] at h
  split at h
  · rename_i hg
    obtain ⟨lk, T, U, e, a, kl, fr', hp', h1, h2⟩ := exK_nat hH h
    exact ⟨lk, T, U, e, a, kl, fr', hp', h1, fun k2 => by unfold dr1K0; rw [hg]; exact h2 k2⟩
  · rename_i j hg
    obtain ⟨d, b, h0, e0⟩ := yieldK_nat h
    rcases bKK_nat h0 with ⟨rfl, h'⟩ | ⟨rfl, h'⟩
    · obtain ⟨lk, T, U, e, a, kl, fr', hp', h1, h2⟩ := exK_nat hH h'
      exact ⟨lk, T, U, e, a, kl, fr', hp', h1, fun k2 => by unfold dr1K0; simp only [putK_set, Tr.setK_eq, hg]; rw [e0]; simp only [bKK]; exact h2 k2⟩
    · exact ⟨_, _, _, _, _, _, _, _, h', fun k2 => by unfold dr1K0; simp only [putK_set, Tr.setK_eq, hg]; rw [e0]; rfl⟩
  · rename_i j hg
    obtain ⟨d, b, h0, e0⟩ := yieldK_nat h
    rcases bKK_nat h0 with ⟨rfl, h'⟩ | ⟨rfl, h'⟩
    · exact ⟨_, _, _, _, _, _, _, _, h', fun k2 => by unfold dr1K0; simp only [putK_set, Tr.setK_eq, hg]; rw [e0]; rfl⟩
    · obtain ⟨lk, T, U, e, a, kl, fr', hp', h1, h2⟩ := exK_nat hH h'
      exact ⟨lk, T, U, e, a, kl, fr', hp', h1, fun k2 => by unfold dr1K0; simp only [putK_set, Tr.setK_eq, hg]; rw [e0]; simp only [bKK]; exact h2 k2⟩
theorem dr1K_nat {H : HH D R} (hH : HNat H) {ops : List Oper} {o : Oper} {fr : Tr (V D.S)} {hp : Tr (B D.S)} {k : KL D R} {r : R} (h : dr1K D H ops o fr hp k = some r) :
    ∃ lk T U e a kl fr' hp', k lk T U e a kl fr' hp' = some r ∧ ∀ k2 : KL D R, dr1K D H ops o fr hp k2 = k2 lk T U e a kl fr' hp' := by
  unfold dr1K at h
  split at h
  · rename_i d hsk
    rw [putK_set] at h
    exact ⟨_, _, _, _, _, _, _, _, h, fun k2 => by unfold dr1K; rw [hsk]; simp only [putK_set]⟩
  · rename_i hsk
    obtain ⟨lk, T, U, e, a, kl, fr', hp', h1, h2⟩ := dr1K0_nat hH h
    exact ⟨lk, T, U, e, a, kl, fr', hp', h1, fun k2 => by unfold dr1K; rw [hsk]; exact h2 k2⟩
theorem drawK_nat {H : HH D R} (hH : HNat H) {ops : List Oper} : ∀ {l : List Oper} {i : Nat} {ms : List Nat} {lgs : List Lg} {fr : Tr (V D.S)} {hp : Tr (B D.S)}, N2 (drawK D H ops l i ms lgs fr hp)
  | [], i, ms, lgs, fr, hp, k, r, h => ⟨fr, hp, h, fun _ => rfl⟩
  | o :: l, i, ms, lgs, fr, hp, k, r, h => by
    unfold drawK at h
    split at h
    · cases h
    · rename_i m hm
      obtain ⟨lk, T, U, e, a, kl, fr1, hp1, h1, h2⟩ := dr1K_nat hH h
      split at h1
      · rename_i hc
        obtain ⟨fr', hp', h3, h4⟩ := drawK_nat hH _ _ h1
        exact ⟨fr', hp', h3, fun k2 => by unfold drawK; rw [hm]; simp only; rw [h2]; simp only [hc]; exact h4 k2⟩
      · cases h1
def N4 (κ : Nat → Tr (V D.S) → Tr (B D.S) → Option R) (ρ : Tr (V D.S) → Tr (B D.S) → Option R) (r : R) (g : (Nat → Tr (V D.S) → Tr (B D.S) → Option R) → (Tr (V D.S) → Tr (B D.S) → Option R) → Option R) : Prop :=
  (∃ fr hp, ρ fr hp = some r ∧ ∀ κ2 ρ2, g κ2 ρ2 = ρ2 fr hp) ∨ ∃ p fr hp, κ p fr hp = some r ∧ ∀ κ2 ρ2, g κ2 ρ2 = κ2 p fr hp
theorem N4.of {κ : Nat → Tr (V D.S) → Tr (B D.S) → Option R} {ρ : Tr (V D.S) → Tr (B D.S) → Option R} {r : R} {g g' : (Nat → Tr (V D.S) → Tr (B D.S) → Option R) → (Tr (V D.S) → Tr (B D.S) → Option R) → Option R}
    (h : N4 κ ρ r g) (e : ∀ κ2 ρ2, g' κ2 ρ2 = g κ2 ρ2) : N4 κ ρ r g' := by
  rcases h with ⟨fr, hp, h1, h2⟩ | ⟨p, fr, hp, h1, h2⟩
  · exact .inl ⟨fr, hp, h1, fun κ2 ρ2 => (e κ2 ρ2).trans (h2 κ2 ρ2)⟩
  · exact .inr ⟨p, fr, hp, h1, fun κ2 ρ2 => (e κ2 ρ2).trans (h2 κ2 ρ2)⟩
theorem runK_nat {H : HH D R} (hH : HNat H) {cuts : List Nat} {κ : Nat → Tr (V D.S) → Tr (B D.S) → Option R} {ρ : Tr (V D.S) → Tr (B D.S) → Option R} {r : R} :
    ∀ (n : Nat) (here : Bool) (todo : List It) (fr : Tr (V D.S)) (hp : Tr (B D.S)), runK D H cuts κ ρ n here todo fr hp = some r → N4 κ ρ r fun κ2 ρ2 => runK D H cuts κ2 ρ2 n here todo fr hp
  | 0, here, todo, fr, hp, h => by unfold runK at h; cases h
  | n + 1, here, [], fr, hp, h => .inl ⟨fr, hp, h, fun κ2 ρ2 => by unfold runK; rfl⟩
  | n + 1, here, .inBlock id :: t, fr, hp, h => by
    unfold runK at h
    exact (runK_nat hH n _ _ _ _ h).of fun κ2 ρ2 => by rw [runK]
  | n + 1, here, .inLoop c p :: t, fr, hp, h => by
    unfold runK at h
    exact (runK_nat hH n _ _ _ _ h).of fun κ2 ρ2 => by rw [runK]
  | n + 1, here, .code c p :: t, fr, hp, h => by
    unfold runK at h
    split at h
    · rename_i hm
      exact .inr ⟨p, fr, hp, h, fun κ2 ρ2 => by unfold runK; rw [hm]⟩
    · rename_i hm
      cases c with
      | skip => exact (runK_nat hH n _ _ _ _ h).of fun κ2 ρ2 => by rw [runK]; simp only [hm]
      | region id ops draw =>
        cases draw with
        | true =>
          simp only at h
          obtain ⟨fr1, hp1, h1, e1⟩ := drawK_nat hH _ _ h
          exact (runK_nat hH n _ _ _ _ h1).of fun κ2 ρ2 => by rw [runK]; simp only [hm]; rw [e1]
        | false =>
          simp only at h
          obtain ⟨fr1, hp1, h1, e1⟩ := opsK_nat hH _ _ h
          exact (runK_nat hH n _ _ _ _ h1).of fun κ2 ρ2 => by rw [runK]; simp only [hm]; rw [e1]
      | seq x y => exact (runK_nat hH n _ _ _ _ h).of fun κ2 ρ2 => by rw [runK]; simp only [hm]
      | cond c x y =>
        simp only at h
        split at h
        · rename_i d
          split at h
          · rename_i v hv
            rcases bKK_nat h with ⟨rfl, h'⟩ | ⟨rfl, h'⟩
            · clear h
              simp only [Tr.setK_eq] at h'
              split at h'
              · rename_i hd
                exact (runK_nat hH n _ _ _ _ h').of fun κ2 ρ2 => by rw [runK]; simp only [hm, hv, bKK, Tr.setK_eq, hd]
              · cases h'
            · clear h
              simp only [Tr.setK_eq] at h'
              split at h'
              · rename_i hd
                exact (runK_nat hH n _ _ _ _ h').of fun κ2 ρ2 => by rw [runK]; simp only [hm, hv, bKK, Tr.setK_eq, hd]
              · cases h'
          · cases h
        · rename_i v
          rcases bKK_nat h with ⟨rfl, h'⟩ | ⟨rfl, h'⟩
          · exact (runK_nat hH n _ _ _ _ h').of fun κ2 ρ2 => by rw [runK]; simp only [hm, bKK]
          · exact (runK_nat hH n _ _ _ _ h').of fun κ2 ρ2 => by rw [runK]; simp only [hm, bKK]
        · cases h
      | block id c => exact (runK_nat hH n _ _ _ _ h).of fun κ2 ρ2 => by rw [runK]; simp only [hm]
      | loop c => exact (runK_nat hH n _ _ _ _ h).of fun κ2 ρ2 => by rw [runK]; simp only [hm]
      | exit id =>
        simp only at h
        split at h
        · rename_i t' ht
          exact (runK_nat hH n _ _ _ _ h).of fun κ2 ρ2 => by rw [runK]; simp only [hm, ht]
        · cases h
      | label l => exact (runK_nat hH n _ _ _ _ h).of fun κ2 ρ2 => by rw [runK]; simp only [hm]
      | ret => exact .inl ⟨fr, hp, h, fun κ2 ρ2 => by unfold runK; simp only [hm]⟩
      | rangeFunc f ps x y => cases h
      | scope c => cases h
      | goto l => cases h
      | refuse y => cases h
end
end Go.Proofs.Ytalgppclaolonaa.Ev
