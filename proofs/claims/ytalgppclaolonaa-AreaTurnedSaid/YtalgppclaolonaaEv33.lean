/- Values without memory: a function run on given numbers, by the kernel: what it finds so, the function answers. -/
import Derived.Test.YtalgppclaolonaaEv32
namespace Go.Proofs.Ytalgppclaolonaa.Ev
open Go
set_option linter.unusedVariables false
set_option linter.unusedSimpArgs false
section
variable {D : Tys} {R : Type}
/-- What the one table finds, the other finds. -/
def HLe (H H' : HH D R) : Prop := ∀ g ws kk r, H g ws kk = some r → H' g ws kk = some r
variable {H H' : HH D R}
theorem callK_mono (hl : HLe H H') {g : FuncId} {d : Nat} {as : List (A D.S)} {fr : Tr (V D.S)} {hp : Tr (B D.S)} {k : KK D R} {r : R} (h : callK D H g d as fr hp k = some r) : callK D H' g d as fr hp k = some r := by
  unfold callK at h ⊢
  split at h
  · cases h
  rename_i md hmd
  split at h
  · cases h
  rename_i ws rs os hargs
  try simp only [hmd, hargs]
  split at h
  · cases h
  · rename_i e1 e2
    try simp only [e1, e2]
    obtain ⟨fr1, hp1, h1, h2⟩ := frzsK_nat _ _ h
    rw [h2]
    exact hl _ _ _ _ h1
  · rename_i e1 e2
    try simp only [e1, e2]
    exact hl _ _ _ _ h
theorem opK_mono (hl : HLe H H') {op : Op} {d : Nat} {fr : Tr (V D.S)} {hp : Tr (B D.S)} {k : KK D R} {r : R} (h : opK D H op d fr hp k = some r) : opK D H' op d fr hp k = some r := by
  cases op with
  | call c =>
    obtain ⟨f, args, ts⟩ := c
    cases f with
    | value f =>
      simp only [opK] at h ⊢
      split at h
      · exact callK_mono hl h
      · cases h
    | invoke x m => simp [opK] at h
    | builtin b => cases b <;> first | exact h | (simp [opK] at h; done)
  | makeFunc fn first caps => cases fn <;> first | exact h | (simp [opK] at h; done)
  | slice t x lo hi mx => cases mx <;> first | exact h | (simp [opK] at h; done)
  | _ => first | exact h | (simp [opK] at h; done)
theorem op1K0_mono (hl : HLe H H') {ops : List Oper} {o : Oper} {fr : Tr (V D.S)} {hp : Tr (B D.S)} {k : Tr (V D.S) → Tr (B D.S) → Option R} {r : R} (h : op1K0 D H ops o fr hp k = some r) : op1K0 D H' ops o fr hp k = some r := by
  unfold op1K0 at h ⊢
  simp only [Tr.setK_eq] at h ⊢
  split at h
  · exact opK_mono hl h
  · obtain ⟨d, b, h0, e0⟩ := yieldK_nat h
    rw [e0]
    rcases bKK_nat h0 with ⟨rfl, h'⟩ | ⟨rfl, h'⟩
    · exact opK_mono hl h'
    · exact h'
  · obtain ⟨d, b, h0, e0⟩ := yieldK_nat h
    rw [e0]
    rcases bKK_nat h0 with ⟨rfl, h'⟩ | ⟨rfl, h'⟩
    · exact h'
    · exact opK_mono hl h'
theorem op1K_mono (hl : HLe H H') {ops : List Oper} {o : Oper} {fr : Tr (V D.S)} {hp : Tr (B D.S)} {k : Tr (V D.S) → Tr (B D.S) → Option R} {r : R} (h : op1K D H ops o fr hp k = some r) : op1K D H' ops o fr hp k = some r := by
  unfold op1K at h ⊢
  split at h
  · exact h
  · exact op1K0_mono hl h
theorem opsK_mono (hH : HNat H) (hl : HLe H H') {ops : List Oper} : ∀ {l : List Oper} {fr : Tr (V D.S)} {hp : Tr (B D.S)} {k : Tr (V D.S) → Tr (B D.S) → Option R} {r : R}, opsK D H ops l fr hp k = some r → opsK D H' ops l fr hp k = some r
  | [], fr, hp, k, r, h => h
  | o :: l, fr, hp, k, r, h => by
    unfold opsK at h ⊢
    obtain ⟨fr1, hp1, h1, e1⟩ := op1K_nat hH _ _ h
    exact op1K_mono hl ((e1 _).trans (opsK_mono hH hl h1))
theorem exK_mono (hl : HLe H H') {o : Oper} {gs : List Nat} {fr : Tr (V D.S)} {hp : Tr (B D.S)} {k : KL D R} {r : R} (h : exK D H o gs fr hp k = some r) : exK D H' o gs fr hp k = some r := by
  unfold exK at h ⊢
  split at h
  · cases h
  · rename_i hc
    try simp only [hc]
    exact opK_mono hl h
theorem dr1K0_mono (hl : HLe H H') {ops : List Oper} {o : Oper} {fr : Tr (V D.S)} {hp : Tr (B D.S)} {k : KL D R} {r : R} (h : dr1K0 D H ops o fr hp k = some r) : dr1K0 D H' ops o fr hp k = some r := by
  unfold dr1K0 at h ⊢
  simp only [Tr.setK_eq] at h ⊢
  split at h
  · exact exK_mono hl h
  · obtain ⟨d, b, h0, e0⟩ := yieldK_nat h
    rw [e0]
    rcases bKK_nat h0 with ⟨rfl, h'⟩ | ⟨rfl, h'⟩
    · exact exK_mono hl h'
    · exact h'
  · obtain ⟨d, b, h0, e0⟩ := yieldK_nat h
    rw [e0]
    rcases bKK_nat h0 with ⟨rfl, h'⟩ | ⟨rfl, h'⟩
    · exact h'
    · exact exK_mono hl h'
theorem dr1K_mono (hl : HLe H H') {ops : List Oper} {o : Oper} {fr : Tr (V D.S)} {hp : Tr (B D.S)} {k : KL D R} {r : R} (h : dr1K D H ops o fr hp k = some r) : dr1K D H' ops o fr hp k = some r := by
  unfold dr1K at h ⊢
  split at h
  · exact h
  · exact dr1K0_mono hl h
theorem drawK_mono (hH : HNat H) (hl : HLe H H') {ops : List Oper} : ∀ {l : List Oper} {i : Nat} {ms : List Nat} {lgs : List Lg} {fr : Tr (V D.S)} {hp : Tr (B D.S)} {k : Tr (V D.S) → Tr (B D.S) → Option R} {r : R}, drawK D H ops l i ms lgs fr hp k = some r → drawK D H' ops l i ms lgs fr hp k = some r
  | [], i, ms, lgs, fr, hp, k, r, h => h
  | o :: l, i, ms, lgs, fr, hp, k, r, h => by
    unfold drawK at h ⊢
    split at h
    · cases h
    · rename_i m hm
      try simp only [hm]
      obtain ⟨lk, T, U, e, a, kl, fr1, hp1, h1, h2⟩ := dr1K_nat hH h
      refine dr1K_mono hl ((h2 _).trans ?_)
      split at h1
      · rename_i hc
        try simp only [hc]
        exact drawK_mono hH hl h1
      · cases h1
theorem runK_mono (hH : HNat H) (hl : HLe H H') {cuts : List Nat} {κ : Nat → Tr (V D.S) → Tr (B D.S) → Option R} {ρ : Tr (V D.S) → Tr (B D.S) → Option R} : ∀ (n : Nat) (here : Bool) (todo : List It) (fr : Tr (V D.S)) (hp : Tr (B D.S)) (r : R),
    runK D H cuts κ ρ n here todo fr hp = some r → runK D H' cuts κ ρ n here todo fr hp = some r
  | 0, here, todo, fr, hp, r, h => by simp [runK] at h
  | n + 1, here, [], fr, hp, r, h => h
  | n + 1, here, .inBlock _ :: t, fr, hp, r, h => by
    unfold runK at h ⊢; exact runK_mono hH hl n _ _ _ _ _ h
  | n + 1, here, .inLoop c p :: t, fr, hp, r, h => by
    unfold runK at h ⊢; exact runK_mono hH hl n _ _ _ _ _ h
  | n + 1, here, .code c p :: t, fr, hp, r, h => by
    unfold runK at h ⊢
    split at h
    · rename_i hc
      exact h
    · rename_i hc
      cases c with
      | skip => exact runK_mono hH hl n _ _ _ _ _ h
      | region id ops dr =>
        cases dr with
        | false =>
          obtain ⟨fr1, hp1, h1, e1⟩ := opsK_nat hH _ _ h
          exact opsK_mono hH hl ((e1 _).trans (runK_mono hH hl n _ _ _ _ _ h1))
        | true =>
          obtain ⟨fr1, hp1, h1, e1⟩ := drawK_nat hH _ _ h
          exact drawK_mono hH hl ((e1 _).trans (runK_mono hH hl n _ _ _ _ _ h1))
      | seq a b => exact runK_mono hH hl n _ _ _ _ _ h
      | cond c x y =>
        cases c with
        | tmp d =>
          simp only [Tr.setK_eq] at h ⊢
          split at h
          · rename_i b hb
            rcases bKK_nat h with ⟨rfl, h'⟩ | ⟨rfl, h'⟩
            · simp only [bKK]
              split at h'
              · rename_i hlt
                try simp only [hlt]
                exact runK_mono hH hl n _ _ _ _ _ h'
              · cases h'
            · simp only [bKK]
              split at h'
              · rename_i hlt
                try simp only [hlt]
                exact runK_mono hH hl n _ _ _ _ _ h'
              · cases h'
          · cases h
        | const v =>
          cases v with
          | bool b =>
            rcases bKK_nat h with ⟨rfl, h'⟩ | ⟨rfl, h'⟩
            · exact runK_mono hH hl n _ _ _ _ _ h'
            · exact runK_mono hH hl n _ _ _ _ _ h'
          | _ => cases h
        | _ => cases h
      | block id c => exact runK_mono hH hl n _ _ _ _ _ h
      | loop c => exact runK_mono hH hl n _ _ _ _ _ h
      | exit id =>
        simp only at h ⊢
        split at h
        · rename_i t' ht
          exact runK_mono hH hl n _ _ _ _ _ h
        · cases h
      | label l => exact runK_mono hH hl n _ _ _ _ _ h
      | ret => exact h
      | _ => cases h
end
section
variable {D : Tys} {R : Type} {H H' : HH D R} {body : Code} {cuts : List Cut} {ρ : Tr (V D.S) → Tr (B D.S) → Option R} {N : Nat}
theorem stepK_mono (hH : HNat H) (hl : HLe H H') {L : LL D R} {c : Cut} {x : X D c.sh} {r : R} (h : stepK D H body cuts ρ N L c x = some r) : stepK D H' body cuts ρ N L c x = some r := by
  unfold stepK at h ⊢
  split at h
  · rename_i cd t hw
    unfold stK at h ⊢
    simp only [mkTK_eq] at h ⊢
    exact runK_mono hH hl _ _ _ _ _ _ h
  · cases h
theorem Lf_monoH (hH : HNat H) (hH' : HNat H') (hl : HLe H H') : ∀ (n : Nat) (c : Cut) (x : X D c.sh) (r : R), Lf D H body cuts ρ N n c x = some r → Lf D H' body cuts ρ N n c x = some r
  | 0, c, x, r, h => by simp [Lf] at h
  | n + 1, c, x, r, h => (step_out hH' (stepK_mono hH hl h)).mono fun c x h => Lf_monoH hH hH' hl n c x r h
/-- A function, run with so many turns. -/
def evF (D : Tys) (f : FD) (H : HH D (YR D f.ts)) (n : Nat) (x : YR D f.as) : Option (YR D f.ts) := entK D f H (Lf D H f.body f.cuts (finF D f) f.N n) x
theorem evF_le {f : FD} {H H' : HH D (YR D f.ts)} (hH : HNat H) (hH' : HNat H') (hl : HLe H H') (n : Nat) (x : YR D f.as) (y : YR D f.ts) (h : evF D f H n x = some y) : sealF (Gof D f H') x = some y := by
  rw [sealF_eq]
  unfold evF entK at h
  unfold Gof entK
  simp only [mkTK_eq] at h ⊢
  have h1 := runK_mono hH hl _ _ _ _ _ _ h
  exact (run_out hH' h1).mono fun c x h => Li_of hH' (Lf_monoH hH hH' hl n c x y h)
end
section
variable {D : Tys}
/-- Two tables: the first finds less. -/
inductive TLe : List (En D) → List (En D) → Prop
  | nil : TLe [] []
  | cons {g : FuncId} {pm : List PM} {as ts : List RT} {nr : Nat} {G G' : YR D as → Option (YR D ts)} {l l' : List (En D)} (h : ∀ x y, G x = some y → G' x = some y) (t : TLe l l') : TLe (⟨g, pm, as, ts, nr, G⟩ :: l) (⟨g, pm, as, ts, nr, G'⟩ :: l')
theorem tabH_le {R : Type} {l l' : List (En D)} (h : TLe l l') : HLe (tabH (R := R) D l) (tabH D l') := by
  intro g ws kk r hk
  unfold tabH at hk ⊢
  induction h with
  | nil => simp [findE] at hk
  | @cons g' pm as ts nr G G' l l' hG t ih =>
    unfold findE at hk ⊢
    simp only at hk ⊢
    split
    · rename_i e he
      split at he
      · rename_i hb
        rw [hb] at hk
        obtain rfl := Option.some.inj he
        simp only at hk
        unfold enK at hk ⊢
        split at hk
        · cases hk
        · rename_i x hx
          obtain ⟨y, hy, hk⟩ := Option.bind_eq_some_iff.mp hk
          have hy' := hG x y hy
          simp only [hx]
          rw [hy']
          exact hk
      · rename_i hb
        rw [hb] at hk
        simp only at hk
        have := ih hk
        rw [he] at this
        exact this
    · rename_i he
      split at he
      · cases he
      · rename_i hb
        rw [hb] at hk
        simp only at hk
        have := ih hk
        rw [he] at this
        exact this
end
end Go.Proofs.Ytalgppclaolonaa.Ev
