/- Values without memory: the code of a function, from one place that is named to the next. -/
import Derived.Test.YtalgppclaolonaaEv31
namespace Go.Proofs.Ytalgppclaolonaa.Ev
open Go
set_option linter.unusedVariables false
set_option linter.unusedSimpArgs false
section
variable {D : Tys} {P : Program}
variable {R : Type} {H : HH D R} {K : Kx} {β : Nat → Option Loc} {F : Nat → Prop} {fr : Tr (V D.S)} {hp : Tr (B D.S)} {a : Act} {w : World} {r : R}
def er : It → Item
  | .code c _ => .code c
  | .inLoop c _ => .inLoop c
  | .inBlock id => .inBlock id
/-- The place p in a body: its code, and what follows. -/
inductive Place (body : Code) : Nat → Code → List It → Prop
  | root : Place body 1 body []
  | seqL {p a b t} (h : Place body p (.seq a b) t) : Place body (2 * p) a (.code b (2 * p + 1) :: t)
  | seqR {p a b t} (h : Place body p (.seq a b) t) : Place body (2 * p + 1) b t
  | condL {p c x y t} (h : Place body p (.cond c x y) t) : Place body (2 * p) x t
  | condR {p c x y t} (h : Place body p (.cond c x y) t) : Place body (2 * p + 1) y t
  | block {p id c t} (h : Place body p (.block id c) t) : Place body (2 * p) c (.inBlock id :: t)
  | loop {p c t} (h : Place body p (.loop c) t) : Place body (2 * p) c (.inLoop c p :: t)
theorem Place.pos {body : Code} {p : Nat} {c : Code} {t : List It} (h : Place body p c t) : 0 < p := by induction h <;> omega
inductive GoodT (body : Code) : List It → Prop
  | nil : GoodT body []
  | code {c p t} (h : Place body p c t) (g : GoodT body t) : GoodT body (.code c p :: t)
  | inLoop {c p t} (h : Place body (2 * p) c (.inLoop c p :: t)) (g : GoodT body t) : GoodT body (.inLoop c p :: t)
  | inBlock {id t} (g : GoodT body t) : GoodT body (.inBlock id :: t)
theorem Place.good {body : Code} {p : Nat} {c : Code} {t : List It} (h : Place body p c t) : GoodT body t := by
  induction h with
  | root => exact .nil
  | seqL h ih => exact .code (.seqR h) ih
  | seqR h ih => exact ih
  | condL h ih => exact ih
  | condR h ih => exact ih
  | block h ih => exact .inBlock ih
  | loop h ih => exact .inLoop (.loop h) ih
/-- Where a place lies. -/
def walk (body : Code) : Nat → Nat → Option (Code × List It)
  | 0, _ => none
  | f + 1, p => match Nat.beq p 1 with
    | true => some (body, [])
    | false => match walk body f (p / 2) with
      | some (.seq a b, t) => match Nat.beq (p % 2) 0 with | true => some (a, .code b (2 * (p / 2) + 1) :: t) | false => some (b, t)
      | some (.cond _ x y, t) => match Nat.beq (p % 2) 0 with | true => some (x, t) | false => some (y, t)
      | some (.block id c, t) => match Nat.beq (p % 2) 0 with | true => some (c, .inBlock id :: t) | false => none
      | some (.loop c, t) => match Nat.beq (p % 2) 0 with | true => some (c, .inLoop c (p / 2) :: t) | false => none
      | _ => none
theorem Place.walk {body : Code} {p : Nat} {c : Code} {t : List It} (h : Place body p c t) : ∀ f, p ≤ f → walk body f p = some (c, t) := by
  have ev : ∀ q : Nat, 0 < q → Nat.beq (2 * q) 1 = false ∧ 2 * q / 2 = q ∧ Nat.beq (2 * q % 2) 0 = true := fun q hq => by
    refine ⟨?_, by omega, by rw [show 2 * q % 2 = 0 by omega]; rfl⟩
    cases e : Nat.beq (2 * q) 1 with | false => rfl | true => have := Nat.eq_of_beq_eq_true e; omega
  have od : ∀ q : Nat, 0 < q → Nat.beq (2 * q + 1) 1 = false ∧ (2 * q + 1) / 2 = q ∧ Nat.beq ((2 * q + 1) % 2) 0 = false := fun q hq => by
    refine ⟨?_, by omega, by rw [show (2 * q + 1) % 2 = 1 by omega]; rfl⟩
    cases e : Nat.beq (2 * q + 1) 1 with | false => rfl | true => have := Nat.eq_of_beq_eq_true e; omega
  induction h with
  | root => intro f hf; obtain ⟨f, rfl⟩ : ∃ g, f = g + 1 := ⟨f - 1, by omega⟩; rfl
  | seqL h ih =>
    rename_i p _ _ _
    intro f hf
    have hp := h.pos
    obtain ⟨f, rfl⟩ : ∃ g, f = g + 1 := ⟨f - 1, by omega⟩
    obtain ⟨e1, e2, e3⟩ := ev p hp
    simp only [Ev.walk, e1, e2, e3, ih f (by omega)]
  | seqR h ih =>
    rename_i p _ _ _
    intro f hf
    have hp := h.pos
    obtain ⟨f, rfl⟩ : ∃ g, f = g + 1 := ⟨f - 1, by omega⟩
    obtain ⟨e1, e2, e3⟩ := od p hp
    simp only [Ev.walk, e1, e2, e3, ih f (by omega)]
  | condL h ih =>
    rename_i p _ _ _ _
    intro f hf
    have hp := h.pos
    obtain ⟨f, rfl⟩ : ∃ g, f = g + 1 := ⟨f - 1, by omega⟩
    obtain ⟨e1, e2, e3⟩ := ev p hp
    simp only [Ev.walk, e1, e2, e3, ih f (by omega)]
  | condR h ih =>
    rename_i p _ _ _ _
    intro f hf
    have hp := h.pos
    obtain ⟨f, rfl⟩ : ∃ g, f = g + 1 := ⟨f - 1, by omega⟩
    obtain ⟨e1, e2, e3⟩ := od p hp
    simp only [Ev.walk, e1, e2, e3, ih f (by omega)]
  | block h ih =>
    rename_i p _ _ _
    intro f hf
    have hp := h.pos
    obtain ⟨f, rfl⟩ : ∃ g, f = g + 1 := ⟨f - 1, by omega⟩
    obtain ⟨e1, e2, e3⟩ := ev p hp
    simp only [Ev.walk, e1, e2, e3, ih f (by omega)]
  | loop h ih =>
    rename_i p _ _
    intro f hf
    have hp := h.pos
    obtain ⟨f, rfl⟩ : ∃ g, f = g + 1 := ⟨f - 1, by omega⟩
    obtain ⟨e1, e2, e3⟩ := ev p hp
    simp only [Ev.walk, e1, e2, e3, ih f (by omega)]
theorem Place.uniq {body : Code} {p : Nat} {c c' : Code} {t t' : List It} (h : Place body p c t) (h' : Place body p c' t') : c = c' ∧ t = t' := by
  have e := (h.walk p (Nat.le_refl _)).symm.trans (h'.walk p (Nat.le_refl _))
  injection e with e
  injection e with e1 e2
  exact ⟨e1, e2⟩
def okC (n : Nat) : Code → Bool
  | .region _ ops _ => ops.toList.all (dstOk n)
  | .seq a b => okC n a && okC n b
  | .cond _ x y => okC n x && okC n y
  | .block _ c => okC n c
  | .loop c => okC n c
  | _ => true
theorem Place.ok {body : Code} {p : Nat} {c : Code} {t : List It} (h : Place body p c t) {n : Nat} (hb : okC n body = true) : okC n c = true := by
  induction h with
  | root => exact hb
  | seqL h ih => simp only [okC, Bool.and_eq_true] at ih; exact ih.1
  | seqR h ih => simp only [okC, Bool.and_eq_true] at ih; exact ih.2
  | condL h ih => simp only [okC, Bool.and_eq_true] at ih; exact ih.1
  | condR h ih => simp only [okC, Bool.and_eq_true] at ih; exact ih.2
  | block h ih => simpa [okC] using ih
  | loop h ih => simpa [okC] using ih
/-- From a state that is told, the code comes to its return, told as one that 'fin' takes. -/
def Comes' (P : Program) (K : Kx) (todo : List It) (fr : Tr (V D.S)) (hp : Tr (B D.S)) (fin : Tr (V D.S) → Tr (B D.S) → Prop) : Prop :=
  ∀ (β : Nat → Option Loc) (F : Nat → Prop) (a : Act) (w : World), Sim K β F fr hp a w → ∀ (b : Frame) (cs : List Frame), ∃ fr' hp' β' F' a' w' todo', fin fr' hp' ∧ Sim K β' F' fr' hp' a' w' ∧
    Steps P (lone (b.at a (todo.map er)) cs w) (lone { b.at a' todo' with mode := .returning } cs w')
theorem exitTo_ok {body : Code} {id : Nat} : ∀ {t t' : List It}, exitTo id t = some t' → GoodT body t → GoodT body t' ∧ Go.exitTo id (t.map er) = some (t'.map er)
  | [], t', h, _ => by cases h
  | .inBlock i :: t, t', h, g => by
    cases g with
    | inBlock g =>
      simp only [exitTo] at h
      split at h
      · rename_i e
        obtain rfl := Option.some.inj h
        have := Nat.eq_of_beq_eq_true e
        subst this
        exact ⟨g, by simp [er, Go.exitTo]⟩
      · rename_i e
        obtain ⟨g', h'⟩ := exitTo_ok h g
        refine ⟨g', ?_⟩
        have hne : i ≠ id := ne_of_beq e
        have : (id == i) = false := by simp; exact fun h => hne h.symm
        have : (i == id) = false := by simp; exact hne
        simp [er, Go.exitTo, *]
  | .code c p :: t, t', h, g => by
    cases g with
    | code _ g =>
      obtain ⟨g', h'⟩ := exitTo_ok (t := t) h g
      exact ⟨g', by simpa [er, Go.exitTo] using h'⟩
  | .inLoop c p :: t, t', h, g => by
    cases g with
    | inLoop _ g =>
      obtain ⟨g', h'⟩ := exitTo_ok (t := t) h g
      exact ⟨g', by simpa [er, Go.exitTo] using h'⟩
theorem evalTmp (s : Sim K β F fr hp a w) {d : Nat} {b : Bool} (hb : fr.get d = some (.a (.c (.bool b)))) : a.eval (.tmp d) = .bool b := by
  have r : RP D w F (.bool b) (a.tmps.getD d undef) := s.frm d _ hb
  show a.tmps.getD d undef = _
  generalize a.tmps.getD d undef = v at r
  cases r; rfl
theorem runK_ok (lw : Lawful D P) (hH : HOk D P H) (hN : HNat H) {body : Code} (hok : okC K.n body = true) {cuts : List Nat} {κ : Nat → Tr (V D.S) → Tr (B D.S) → Option R} {ρ : Tr (V D.S) → Tr (B D.S) → Option R}
    (hκ : ∀ p c t fr hp, Place body p c t → κ p fr hp = some r → Comes' P K (.code c p :: t) fr hp fun fr hp => ρ fr hp = some r) :
    ∀ (n : Nat) (here : Bool) (todo : List It) (fr : Tr (V D.S)) (hp : Tr (B D.S)), GoodT body todo → runK D H cuts κ ρ n here todo fr hp = some r → Comes' P K todo fr hp fun fr hp => ρ fr hp = some r
  | 0, here, todo, fr, hp, g, h => by unfold runK at h; cases h
  | n + 1, here, [], fr, hp, g, h => by
    intro β F a w s b cs
    exact ⟨fr, hp, β, F, a, w, [], h, s, .one step_end⟩
  | n + 1, here, .inBlock id :: t, fr, hp, g, h => by
    intro β F a w s b cs
    cases g with
    | inBlock g =>
      obtain ⟨fr', hp', β', F', a', w', todo', h1, h2, h3⟩ := runK_ok lw hH hN hok hκ n true t fr hp g h β F a w s b cs
      exact ⟨fr', hp', β', F', a', w', todo', h1, h2, .head step_inBlock h3⟩
  | n + 1, here, .inLoop c p :: t, fr, hp, g, h => by
    intro β F a w s b cs
    cases g with
    | inLoop hat g =>
      obtain ⟨fr', hp', β', F', a', w', todo', h1, h2, h3⟩ := runK_ok lw hH hN hok hκ n true (.code c (2 * p) :: .inLoop c p :: t) fr hp (.code hat (.inLoop hat g)) h β F a w s b cs
      exact ⟨fr', hp', β', F', a', w', todo', h1, h2, .head step_inLoop h3⟩
  | n + 1, here, .code c p :: t, fr, hp, g, h => by
    cases g with
    | code hat g =>
      unfold runK at h
      split at h
      · exact hκ p c t fr hp hat h
      · have okc := hat.ok hok
        intro β F a w s b cs
        have go : ∀ {todo2 : List It} {fr2 : Tr (V D.S)}, GoodT body todo2 → Sim K β F fr2 hp a w → runK D H cuts κ ρ n true todo2 fr2 hp = some r → step P (lone (b.at a ((.code c :: t.map er : List Item))) cs w) = .next (lone (b.at a (todo2.map er)) cs w) →
            ∃ fr' hp' β' F' a' w' todo', ρ fr' hp' = some r ∧ Sim K β' F' fr' hp' a' w' ∧ Steps P (lone (b.at a ((.code c :: t.map er : List Item))) cs w) (lone { b.at a' todo' with mode := .returning } cs w') := fun {todo2 fr2} g2 s2 h2 hs => by
          obtain ⟨fr', hp', β', F', a', w', todo', h1, h2, h3⟩ := runK_ok lw hH hN hok hκ n true todo2 fr2 hp g2 h2 β F a w s2 b cs
          exact ⟨fr', hp', β', F', a', w', todo', h1, h2, .head hs h3⟩
        have same : ∀ {d : Nat} {v : Bool}, d < 65535 → fr.get d = some (.a (.c (.bool v))) → Sim K β F (fr.set depth d (some (cV (.bool v)))) hp a w := fun hd hb => s.same hb hd
        cases c with
        | skip => exact go g s h step_skip
        | region id ops draw =>
          cases draw with
          | true =>
            have hds : ∀ o ∈ ops.toList, dstOk K.n o = true := fun o ho => List.all_eq_true.mp okc o ho
            have hw : (Code.region id ops true).wp P (fun e a' w' => e = .normal ∧ ∃ fr' hp' β' F', runK D H cuts κ ρ n true t fr' hp' = some r ∧ Sim K β' F' fr' hp' a' w') a w :=
              draw_region lw hH hN hds s (fun fr' hp' β' F' a' w' h1 h2 => ⟨rfl, fr', hp', β', F', h1, h2⟩) h
            obtain ⟨e, a1, w1, ⟨rfl, fr1, hp1, β1, F1, h1, s1⟩, harr⟩ := hw b (t.map er) cs
            obtain ⟨fr', hp', β', F', a', w', todo', h1, h2, h3⟩ := runK_ok lw hH hN hok hκ n true t fr1 hp1 g h1 β1 F1 a1 w1 s1 b cs
            exact ⟨fr', hp', β', F', a', w', todo', h1, h2, Steps.trans harr h3⟩
          | false =>
            have hds : ∀ o ∈ ops.toList, dstOk K.n o = true := fun o ho => List.all_eq_true.mp okc o ho
            have hw : (Code.region id ops false).wp P (fun e a' w' => e = .normal ∧ ∃ fr' hp' β' F', runK D H cuts κ ρ n true t fr' hp' = some r ∧ Sim K β' F' fr' hp' a' w') a w := by
              refine wp_region ?_
              rw [List.range_eq_range']
              exact opsK_wp lw hH hds (fun fr' hp' β' F' a' w' h1 h2 => ⟨rfl, fr', hp', β', F', h1, h2⟩) ops.size 0 (by omega) s (by rw [List.drop_zero]; exact h)
            obtain ⟨e, a1, w1, ⟨rfl, fr1, hp1, β1, F1, h1, s1⟩, harr⟩ := hw b (t.map er) cs
            obtain ⟨fr', hp', β', F', a', w', todo', h1, h2, h3⟩ := runK_ok lw hH hN hok hκ n true t fr1 hp1 g h1 β1 F1 a1 w1 s1 b cs
            exact ⟨fr', hp', β', F', a', w', todo', h1, h2, Steps.trans harr h3⟩
        | seq x y => exact go (todo2 := .code x (2 * p) :: .code y (2 * p + 1) :: t) (.code (.seqL hat) (.code (.seqR hat) g)) s h step_seq
        | cond c x y =>
          simp only at h
          split at h
          · rename_i d
            split at h
            · rename_i v hv
              have he := evalTmp s hv
              have hd : d < 65535 ∨ True := .inr trivial
              rcases bKK_some h with ⟨eb, h'⟩ | ⟨eb, h'⟩
              · subst eb
                clear h
                have h := h'
                rw [Tr.setK_eq] at h
                split at h
                · rename_i hd
                  exact go (todo2 := .code x (2 * p) :: t) (.code (.condL hat) g) (same (Nat.le_of_ble_eq_true hd) hv) h (step_cond he)
                · cases h
              · subst eb
                clear h
                have h := h'
                rw [Tr.setK_eq] at h
                split at h
                · rename_i hd
                  exact go (todo2 := .code y (2 * p + 1) :: t) (.code (.condR hat) g) (same (Nat.le_of_ble_eq_true hd) hv) h (step_cond he)
                · cases h
            · cases h
          · rename_i v
            have he : a.eval (.const (.bool v)) = .bool v := rfl
            rcases bKK_some h with ⟨eb, h'⟩ | ⟨eb, h'⟩
            · subst eb; exact go (todo2 := .code x (2 * p) :: t) (.code (.condL hat) g) s h' (step_cond he)
            · subst eb; exact go (todo2 := .code y (2 * p + 1) :: t) (.code (.condR hat) g) s h' (step_cond he)
          · cases h
        | block id c => exact go (todo2 := .code c (2 * p) :: .inBlock id :: t) (.code (.block hat) (.inBlock g)) s h step_block
        | loop c => exact go (todo2 := .code c (2 * p) :: .inLoop c p :: t) (.code (.loop hat) (.inLoop (.loop hat) g)) s h step_loop
        | exit id =>
          simp only at h
          split at h
          · rename_i t' ht
            obtain ⟨g', h'⟩ := exitTo_ok ht g
            exact go g' s h (step_exit h')
          · cases h
        | label l => exact go g s h step_label
        | ret => exact ⟨fr, hp, β, F, a, w, _, h, s, .one step_ret⟩
        | rangeFunc f ps x y => cases h
        | scope c => cases h
        | goto l => cases h
        | refuse y => cases h
end
end Go.Proofs.Ytalgppclaolonaa.Ev
