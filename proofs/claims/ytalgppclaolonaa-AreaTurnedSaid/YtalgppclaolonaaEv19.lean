/- Values without memory: the states at which the code is cut, in one form. -/
import Derived.Test.YtalgppclaolonaaEv18
namespace Go.Proofs.Ytalgppclaolonaa.Ev
open Go
set_option linter.unusedVariables false
set_option linter.unusedSimpArgs false
/-- What a slot holds at a cut: a value; an own row; a block that is pointed to; a function. -/
inductive Se where | v (slot : Nat) (t : Ty) | own (slot : Nat) (t : Ty) | box (slot id : Nat) (t : Ty) | fn (slot : Nat) (f : FuncId) | boxo (slot id : Nat) (t : Ty) (off : Nat) (e : Ty)
/-- The number of an own row that a block's cell holds. -/
def onum (s off : Nat) : Nat := 10000 + 64 * s + off
section
variable (D : Tys)
@[reducible] def X : List Se → Type
  | [] => Unit
  | .v _ t :: l => T D.S t × X l
  | .own _ t :: l => List (T D.S t) × X l
  | .box _ _ t :: l => T D.S t × X l
  | .fn _ _ :: l => X l
  | .boxo _ _ t _ e :: l => T D.S t × (List (T D.S e) × X l)
def frL : (l : List Se) → X D l → List (Nat × V D.S)
  | [], _ => []
  | .v s t :: l, (x, y) => (s, .a (encA D t x)) :: frL l y
  | .own s t :: l, (_, y) => (s, cV (.own (3000 + s))) :: frL l y
  | .box s id t :: l, (_, y) => (s, cV (.ptr id 0)) :: frL l y
  | .fn s f :: l, y => (s, cV (.fn f [])) :: frL l y
  | .boxo s id _ _ _ :: l, (_, (_, y)) => (s, cV (.ptr id 0)) :: frL l y
def hpL : (l : List Se) → X D l → List (Nat × B D.S)
  | [], _ => []
  | .v _ _ :: l, (_, y) => hpL l y
  | .own s t :: l, (x, y) => (3000 + s, .arr t x) :: hpL l y
  | .box _ id t :: l, (x, y) => (id, .box (encL D t x)) :: hpL l y
  | .fn _ _ :: l, y => hpL l y
  | .boxo s id t off e :: l, (x, (q, y)) => (id, .box ((encL D t x).set off (.own (onum s off)))) :: (onum s off, .arr e q) :: hpL l y
end
def hpKeys : List Se → List Nat
  | [] => []
  | .own s _ :: l => (3000 + s) :: hpKeys l
  | .box _ id _ :: l => id :: hpKeys l
  | .boxo s id _ off _ :: l => id :: onum s off :: hpKeys l
  | _ :: l => hpKeys l
def shOk : List Se → Bool
  | [] => true
  | .v s _ :: l => decide (s < 65535) && shOk l
  | .own s _ :: l => decide (s < 7000) && shOk l
  | .boxo s id _ off _ :: l => decide (s < 800) && decide (id < 3000) && decide (off < 64) && shOk l
  | .box s id _ :: l => decide (s < 65535) && decide (id < 3000) && shOk l
  | .fn s _ :: l => decide (s < 65535) && shOk l
def mkT {α : Type} : List (Nat × α) → Tr α
  | [] => .lf
  | (i, x) :: l => Tr.set depth (mkT l) i (some x)
def mkTK {α R : Type} : List (Nat × α) → (Tr α → R) → R
  | [], k => k .lf
  | (i, x) :: l, k => mkTK l fun t => Tr.setK depth t i (some x) k
theorem mkTK_eq {α R : Type} : ∀ (l : List (Nat × α)) (k : Tr α → R), mkTK l k = k (mkT l)
  | [], k => rfl
  | (i, x) :: l, k => by simp only [mkTK, mkT]; rw [mkTK_eq l, Tr.setK_eq]
theorem get_mkT {α : Type} : ∀ (l : List (Nat × α)) (i : Nat), (∀ x ∈ l, x.1 < 65535) → (mkT l).get i = lk l i
  | [], i, _ => rfl
  | (j, x) :: l, i, h => by
    have hj := h _ List.mem_cons_self
    simp only [mkT, lk]
    rw [Tr.get_set _ _ _ _ _ (by rw [depth_ok]; simp only at hj; omega), get_mkT l i fun y hy => h y (List.mem_cons_of_mem _ hy)]
    by_cases e : i = j
    · subst e; rw [if_pos rfl, Nat.beq_refl]
    · rw [if_neg e]
      have : Nat.beq i j = false := by cases h' : Nat.beq i j with | false => rfl | true => exact absurd (Nat.eq_of_beq_eq_true h') e
      rw [this]
section
variable (D : Tys)
/-- The state, worked out. -/
def stK {R : Type} (l : List Se) (x : X D l) (k : Tr (V D.S) → Tr (B D.S) → R) : R := mkTK (frL D l x) fun fr => mkTK (hpL D l x) fun hp => k fr hp
def isAggA {S : Nat → Type} : A S → Bool | .c _ => false | .agg _ => true
def decSh : (l : List Se) → Tr (V D.S) → Tr (B D.S) → Option (X D l × List Nat × List Nat)
  | [], _, _ => some ((), [], [])
  | .v s t :: l, fr, hp => match fr.get s with
    | some (.a a) => match resL hp a.cells, isAggA a == isAgg t with
      | some cs, true => match decL D t cs with
        | some x => match decSh l fr hp with
          | some (y, os, vs) => some ((x, y), os, ownsL a.cells ++ vs)
          | none => none
        | none => none
      | _, _ => none
    | _ => none
  | .own s t :: l, fr, hp => match fr.get s with
    | some (.a (.c (.own id))) => match hp.get id with
      | some (.arr t' x) => match Ty.eq? t' t with
        | some ⟨h⟩ => match decSh l fr hp with
          | some (y, os, vs) => some ((h ▸ x, y), id :: os, vs)
          | none => none
        | none => none
      | _ => none
    | some (.a (.c .nils)) => match decSh l fr hp with | some (y, os, vs) => some (([], y), os, vs) | none => none
    | _ => none
  | .box s id t :: l, fr, hp => match fr.get s with
    | some (.a (.c (.ptr id' 0))) => match Nat.beq id' id with
      | true => match hp.get id with
        | some (.box cs) => match resL hp cs with
          | some cs' => match decL D t cs' with
            | some x => match decSh l fr hp with
              | some (y, os, vs) => some ((x, y), os, ownsL cs ++ vs)
              | none => none
            | none => none
          | none => none
        | _ => none
      | false => none
    | _ => none
  | .boxo s id t off e :: l, fr, hp => match fr.get s with
    | some (.a (.c (.ptr id' 0))) => match Nat.beq id' id with
      | true => match hp.get id with
        | some (.box cs) => match cs[off]? with
          | some (.own i) => match hp.get i with
            | some (.arr t' q) => match Ty.eq? t' e with
              | some ⟨h⟩ => match resL hp (cs.set off .nils) with
                | some cs' => match decL D t cs' with
                  | some x => match decSh l fr hp with
                    | some (y, os, vs) => some ((x, (h ▸ q, y)), i :: os, ownsL (cs.set off .nils) ++ vs)
                    | none => none
                  | none => none
                | none => none
              | none => none
            | _ => none
          | some .nils => match resL hp (cs.set off .nils) with
            | some cs' => match decL D t cs' with
              | some x => match decSh l fr hp with
                | some (y, os, vs) => some ((x, ([], y)), os, ownsL (cs.set off .nils) ++ vs)
                | none => none
              | none => none
            | none => none
          | _ => none
        | _ => none
      | false => none
    | _ => none
  | .fn s f :: l, fr, hp => match fr.get s with
    | some (.a (.c (.fn f' []))) => match Nat.beq f' f with
      | true => match decSh l fr hp with | some (y, os, vs) => some (y, os, vs) | none => none
      | false => none
    | _ => none
def apart : List Nat → List Nat → Bool
  | [], _ => true
  | i :: os, vs => match vs.elem i with | true => false | false => apart os vs
/-- At a cut: the state in its form, handed on. -/
def cutK {R : Type} (l : List Se) (fr : Tr (V D.S)) (hp : Tr (B D.S)) (k : X D l → Option R) : Option R := match decSh D l fr hp with
  | some (x, os, vs) => match distinct os && apart os vs with | true => k x | false => none
  | none => none
end
section
variable {D : Tys} {P : Program}
variable {K : Kx} {β : Nat → Option Loc} {F : Nat → Prop} {fr : Tr (V D.S)} {hp : Tr (B D.S)} {a : Act} {w : World}
theorem lk_of_mem {α : Type} : ∀ {l : List (Nat × α)} {i : Nat} {x : α}, (i, x) ∈ l → distinct (l.map (·.1)) = true → lk l i = some x
  | (j, y) :: l, i, x, h, hd => by
    simp only [List.map_cons, distinct] at hd
    split at hd
    · cases hd
    · rename_i hne
      simp only [lk]
      rcases List.mem_cons.mp h with e | h'
      · injection e with e1 e2
        subst e1; subst e2
        rw [Nat.beq_refl]
      · clear h
        have h := h'
        have hij : i ≠ j := fun e => by
          subst e
          rw [List.elem_eq_contains, List.contains_iff_mem.mpr (List.mem_map.mpr ⟨_, h, rfl⟩)] at hne; cases hne
        have : Nat.beq i j = false := by cases h' : Nat.beq i j with | false => rfl | true => exact absurd (Nat.eq_of_beq_eq_true h') hij
        rw [this]
        exact lk_of_mem h hd
theorem hpL_keys : ∀ (l : List Se) (x : X D l), (hpL D l x).map (·.1) = hpKeys l
  | [], _ => rfl
  | .v _ _ :: l, (_, y) => hpL_keys l y
  | .own s t :: l, (x, y) => by simp only [hpL, hpKeys, List.map_cons]; rw [hpL_keys l y]
  | .box _ id t :: l, (x, y) => by simp only [hpL, hpKeys, List.map_cons]; rw [hpL_keys l y]
  | .fn _ _ :: l, y => hpL_keys l y
  | .boxo s id t off e :: l, (x, (q, y)) => by simp only [hpL, hpKeys, List.map_cons]; rw [hpL_keys l y]
theorem keys_lt : ∀ (l : List Se) (x : X D l), shOk l = true → (∀ p ∈ frL D l x, p.1 < 65535) ∧ (∀ p ∈ hpL D l x, p.1 < 65535)
  | [], _, _ => ⟨fun p h => (by cases h), fun p h => (by cases h)⟩
  | .v s t :: l, (x, y), h => by
    simp only [shOk, Bool.and_eq_true, decide_eq_true_eq] at h
    obtain ⟨i1, i2⟩ := keys_lt l y h.2
    exact ⟨fun p hp => (List.mem_cons.mp hp).elim (fun e => by rw [e]; exact h.1) (i1 p), i2⟩
  | .own s t :: l, (x, y), h => by
    simp only [shOk, Bool.and_eq_true, decide_eq_true_eq] at h
    obtain ⟨i1, i2⟩ := keys_lt l y h.2
    exact ⟨fun p hp => (List.mem_cons.mp hp).elim (fun e => by rw [e]; simp only; omega) (i1 p), fun p hp => (List.mem_cons.mp hp).elim (fun e => by rw [e]; simp only; omega) (i2 p)⟩
  | .box s id t :: l, (x, y), h => by
    simp only [shOk, Bool.and_eq_true, decide_eq_true_eq] at h
    obtain ⟨i1, i2⟩ := keys_lt l y h.2
    exact ⟨fun p hp => (List.mem_cons.mp hp).elim (fun e => by rw [e]; exact h.1.1) (i1 p), fun p hp => (List.mem_cons.mp hp).elim (fun e => by rw [e]; simp only; omega) (i2 p)⟩
  | .fn s f :: l, y, h => by
    simp only [shOk, Bool.and_eq_true, decide_eq_true_eq] at h
    obtain ⟨i1, i2⟩ := keys_lt l y h.2
    exact ⟨fun p hp => (List.mem_cons.mp hp).elim (fun e => by rw [e]; exact h.1) (i1 p), i2⟩
  | .boxo s id t off e :: l, (x, (q, y)), h => by
    simp only [shOk, Bool.and_eq_true, decide_eq_true_eq] at h
    obtain ⟨i1, i2⟩ := keys_lt l y h.2
    refine ⟨fun p hp => (List.mem_cons.mp hp).elim (fun e => by rw [e]; simp only; omega) (i1 p), fun p hp => ?_⟩
    rcases List.mem_cons.mp hp with e | hp
    · rw [e]; simp only; omega
    · rcases List.mem_cons.mp hp with e | hp
      · rw [e]; simp only [onum]; omega
      · exact i2 p hp
/-- The state told anew: other slots, other numbers for the same blocks. -/
theorem Sim.rebase (s : Sim K β F fr hp a w) {fr2 : Tr (V D.S)} {hp2 : Tr (B D.S)} {β2 : Nat → Option Loc} {F1 : Nat → Prop} (ρ : Nat → Nat) (hF : ∀ b, F b → F1 b) (hF1 : ∀ b, F1 b → b < w.heap.size ∧ (K.F0 b ∨ K.w0.heap.size ≤ b))
    (hfr : ∀ i v, fr2.get i = some v → RV D w F1 hp2.get β2 v (a.tmps.getD i undef))
    (hblk : ∀ i b, hp2.get i = some b → i < 65535 ∧ ((β2 i = none ∧ ∃ t, b = .arr t []) ∨ ∃ b0 L, hp.get (ρ i) = some b0 ∧ β2 i = some L ∧ β (ρ i) = some L ∧ ¬ F1 L.b ∧
      ((∃ t l, b = .arr t l ∧ b0 = .arr t l) ∨ ∃ cs cs2, b0 = .box cs ∧ b = .box cs2 ∧ ∀ vs, RL D w F hp.get β cs vs → RL D w F1 hp2.get β2 cs2 vs)))
    (hρ : ∀ i j b b', hp2.get i = some b → hp2.get j = some b' → β2 i ≠ none → β2 j ≠ none → ρ i = ρ j → i = j)
    (hrf : ∀ i L, (i, L) ∈ K.refs → β2 i = some L ∧ ∃ cs, hp2.get i = some (.box cs)) : Sim K β2 F1 fr2 hp2 a w := by
  have up : ∀ {c : C D.S} {v : Value}, RP D w F c v → RP D w F1 c v := fun r => RP.mono D (fun b hb => ⟨hF b hb, rfl⟩) r
  have old : ∀ i b L, hp2.get i = some b → β2 i = some L → ∃ b0, hp.get (ρ i) = some b0 ∧ β (ρ i) = some L ∧ ¬ F1 L.b := fun i b L h1 h2 => by
    obtain ⟨_, h | ⟨b0, L', g1, g2, g3, g4, _⟩⟩ := hblk i b h1
    · rw [h.1] at h2; cases h2
    · rw [g2] at h2; obtain rfl := Option.some.inj h2; exact ⟨b0, g1, g3, g4⟩
  refine ⟨s.sz, s.df, hfr, fun i b h => ?_, fun i j b b' L L' h1 h2 h3 h4 e => ?_, fun i b L h1 h2 => ?_, fun b hb => (hF1 b hb).1, s.keep, fun i b L h1 h2 => ?_, fun b hb => (hF1 b hb).2, s.w0, hrf, fun i b h => (hblk i b h).1⟩
  · obtain ⟨_, ⟨g1, t, rfl⟩ | ⟨b0, L, g1, g2, g3, g4, ⟨t, l, rfl, rfl⟩ | ⟨cs, cs2, rfl, rfl, g5⟩⟩⟩ := hblk i b h
    · exact .inl ⟨g1, rfl⟩
    · rcases s.blk _ _ g1 with ⟨r, _⟩ | ⟨L', vs, e, r1, r2, r3, r4, r5⟩
      · rw [g3] at r; cases r
      · rw [g3] at r1
        obtain rfl := Option.some.inj r1
        refine .inr ⟨L, vs, e, g2, r2, r3, r4, fun i hi j x hx => ?_⟩
        obtain ⟨v, hv, rv⟩ := r5 i hi j x hx
        exact ⟨v, hv, up rv⟩
    · obtain ⟨L', vs, t, r1, r2, r3, r4, r5⟩ := s.blk _ _ g1
      rw [g3] at r1
      obtain rfl := Option.some.inj r1
      exact ⟨L, vs, t, g2, r2, r3, r4, g5 _ r5⟩
  · obtain ⟨b1, k1, k2, _⟩ := old i b L h1 h3
    obtain ⟨b2, k3, k4, _⟩ := old j b' L' h2 h4
    exact hρ i j b b' h1 h2 (by rw [h3]; simp) (by rw [h4]; simp) (s.inj _ _ b1 b2 L L' k1 k3 k2 k4 e)
  · obtain ⟨b1, k1, k2, k3⟩ := old i b L h1 h2
    exact ⟨k3, (s.sep _ b1 L k1 k2).2⟩
  · obtain ⟨b1, k1, k2, k3⟩ := old i b L h1 h2
    exact s.gsep _ b1 L k1 k2
theorem apart_at : ∀ {os vs : List Nat}, apart os vs = true → ∀ i ∈ os, i ∉ vs
  | [], vs, h, i, hi => by cases hi
  | j :: os, vs, h, i, hi => by
    simp only [apart] at h
    split at h
    · cases h
    · rename_i hne
      rcases List.mem_cons.mp hi with rfl | hi
      · intro hm; rw [List.elem_eq_contains, List.contains_iff_mem.mpr hm] at hne; cases hne
      · exact apart_at h i hi
/-- The row that a block's cell holds. -/
def fldOf (fr : Tr (V D.S)) (hp : Tr (B D.S)) (i : Nat) : Option Nat := match fr.get ((i - 10000) / 64) with
  | some (.a (.c (.ptr id 0))) => match hp.get id with
    | some (.box cs) => match cs[(i - 10000) % 64]? with | some (.own j) => some j | _ => none
    | _ => none
  | _ => none
/-- Which block a number names, behind a cut. -/
def oldId (fr : Tr (V D.S)) (hp : Tr (B D.S)) (i : Nat) : Nat := if i < 3000 then i else if i < 10000 then (match fr.get (i - 3000) with | some (.a (.c (.own id))) => id | _ => i) else (match fldOf fr hp i with | some id => id | none => i)
def newB (fr : Tr (V D.S)) (hp : Tr (B D.S)) (β : Nat → Option Loc) (i : Nat) : Option Loc := if i < 3000 then β i else if i < 10000 then (match fr.get (i - 3000) with | some (.a (.c (.own id))) => β id | _ => none) else (match fldOf fr hp i with | some id => β id | none => none)
theorem encA_ra (lw : Lawful D P) {w F h β} {t : Ty} {x : T D.S t} {cs : List (C D.S)} (hd : decL D t cs = some x) {a : A D.S} {v : Value} (hagg : (∃ c, a = .c c ∧ cs.length = 1 ∧ ∃ c', cs = [c'] ∧ RP D w F c' v) ∨ ∃ cs0, a = .agg cs0 ∧ ∃ vs, v = .agg vs ∧ PL w F cs vs.toList)
    (hty : isAggA a = isAgg t) : RA D w F h β (encA D t x) v := by
  obtain ⟨le1, le2⟩ := decL_le lw hd
  cases t with
  | st n =>
    rcases hagg with ⟨c, rfl, _⟩ | ⟨cs0, rfl, vs, rfl, pl1, pl2⟩
    · cases hty
    · refine ⟨vs, rfl, ?_, fun j y u hy hu => ?_⟩
      · rw [← pl1, le1]; exact lw.len n x
      · have hj : j < cs.length := by rw [pl1]; exact (List.getElem?_eq_some_iff.mp hu).1
        have hc := List.getElem?_eq_getElem hj
        exact RP.rc (le2 j _ y hc hy _ _ _ (pl2 j _ u hc hu))
  | int k =>
    rcases hagg with ⟨c, rfl, _, c', rfl, rp⟩ | ⟨cs0, rfl, _⟩
    · exact le2 0 c' _ rfl rfl _ _ _ rp
    · cases hty
  | bool =>
    rcases hagg with ⟨c, rfl, _, c', rfl, rp⟩ | ⟨cs0, rfl, _⟩
    · exact le2 0 c' _ rfl rfl _ _ _ rp
    · cases hty
  | str =>
    rcases hagg with ⟨c, rfl, _, c', rfl, rp⟩ | ⟨cs0, rfl, _⟩
    · exact le2 0 c' _ rfl rfl _ _ _ rp
    · cases hty
  | sl t =>
    rcases hagg with ⟨c, rfl, _, c', rfl, rp⟩ | ⟨cs0, rfl, _⟩
    · exact le2 0 c' _ rfl rfl _ _ _ rp
    · cases hty
theorem distinct_inj {f : Nat → Nat} : ∀ {ks : List Nat}, distinct (ks.map f) = true → ∀ i ∈ ks, ∀ j ∈ ks, f i = f j → i = j
  | [], _, i, hi, _, _, _ => by cases hi
  | q :: ks, h, i, hi, j, hj, e => by
    simp only [List.map_cons, distinct] at h
    split at h
    · cases h
    · rename_i hne
      have hn : ∀ z ∈ ks, f z ≠ f q := fun z hz e => by
        rw [List.elem_eq_contains, List.contains_iff_mem.mpr (List.mem_map.mpr ⟨z, hz, e⟩)] at hne; cases hne
      rcases List.mem_cons.mp hi with rfl | hi' <;> rcases List.mem_cons.mp hj with rfl | hj'
      · rfl
      · exact absurd e.symm (hn j hj')
      · exact absurd e (hn i hi')
      · exact distinct_inj h i hi' j hj' e
/-- A block that is told behind a cut, and the one that it was. -/
def BlkOk (D : Tys) (w : World) (F : Nat → Prop) (hp : Tr (B D.S)) (β : Nat → Option Loc) (fr : Tr (V D.S)) (F1 : Nat → Prop) (h2 : Hp D) (os : List Nat) (i : Nat) (b : B D.S) : Prop :=
  (newB fr hp β i = none ∧ 3000 ≤ i ∧ ∃ t, b = .arr t []) ∨
  (∃ t l L, b = .arr t l ∧ hp.get (oldId fr hp i) = some (.arr t l) ∧ newB fr hp β i = some L ∧ β (oldId fr hp i) = some L ∧ oldId fr hp i ∈ os ∧ 3000 ≤ i) ∨
  (∃ cs cs2 L, b = .box cs2 ∧ i < 3000 ∧ hp.get i = some (.box cs) ∧ β i = some L ∧ ∀ vs, RL D w F hp.get β cs vs → RL D w F1 h2 (newB fr hp β) cs2 vs)
theorem dec_ok (lw : Lawful D P) (s : Sim K β F fr hp a w) {F1 : Nat → Prop} (hF : ∀ b, F b → F1 b) {h2 : Hp D} : ∀ (l : List Se) (x : X D l) (os vs : List Nat), decSh D l fr hp = some (x, os, vs) → shOk l = true →
    (∀ id ∈ vs, ∀ L, β id = some L → F1 L.b) → (∀ p ∈ hpL D l x, h2 p.1 = some p.2) →
    (∀ p ∈ frL D l x, RV D w F1 h2 (newB fr hp β) p.2 (a.tmps.getD p.1 undef)) ∧ (∀ p ∈ hpL D l x, BlkOk D w F hp β fr F1 h2 os p.1 p.2) ∧
      ∃ ks : List Nat, ks.map (oldId fr hp) = os.filter (fun id => (β id).isSome) ∧ ∀ p ∈ hpL D l x, 3000 ≤ p.1 → newB fr hp β p.1 ≠ none → p.1 ∈ ks
  | [], x, os, vs, h, _, _, _ => by
    simp only [decSh, Option.some.injEq, Prod.mk.injEq] at h
    obtain ⟨_, rfl, rfl⟩ := h
    exact ⟨fun p h => (by cases h), fun p h => (by cases h), [], rfl, fun p h => (by cases h)⟩
  | .v sl t :: l, (x, y), os, vs, h, ho, hv, hs => by
    simp only [shOk, Bool.and_eq_true, decide_eq_true_eq] at ho
    simp only [decSh] at h
    split at h
    · rename_i q hq
      split at h
      · rename_i cs hcs hty
        split at h
        · rename_i x' hx'
          split at h
          · rename_i y' os' vs' hrec
            simp only [Option.some.injEq, Prod.mk.injEq] at h
            obtain ⟨⟨rfl, rfl⟩, rfl, rfl⟩ := h
            obtain ⟨i1, i2, i3⟩ := dec_ok lw s hF l y' os' vs' hrec ho.2 (fun id hi => hv id (List.mem_append_right _ hi)) hs
            refine ⟨fun p hp' => (List.mem_cons.mp hp').elim (fun e => ?_) (i1 p), i2, i3⟩
            subst e
            have r0 := s.frm sl _ hq
            refine encA_ra lw hx' (a := q) ?_ (by simpa using hty)
            cases q with
            | c c =>
              left
              have hcs' := hcs
              simp only [A.cells, resL] at hcs'
              split at hcs'
              · rename_i c' hc'
                obtain rfl := Option.some.inj hcs'
                exact ⟨c, rfl, rfl, c', rfl, resC_ok lw hF s.blk r0 hc' (fun id hi => hv id (List.mem_append_left _ (by rw [ownsL_eq]; simpa [A.cells] using hi)))⟩
              · cases hcs'
            | agg cs0 =>
              right
              obtain ⟨us, e, rl⟩ := r0
              exact ⟨cs0, rfl, us, e, resL_ok lw hF s.blk rl hcs (fun id hi => hv id (List.mem_append_left _ hi))⟩
          · cases h
        · cases h
      · cases h
    · cases h
  | .own sl t :: l, (x, y), os, vs, h, ho, hv, hs => by
    simp only [shOk, Bool.and_eq_true, decide_eq_true_eq] at ho
    have hk : ¬ 3000 + sl < 3000 := by omega
    have hk1 : 3000 + sl < 10000 := by omega
    have hk2 : 3000 + sl - 3000 = sl := by omega
    simp only [decSh] at h
    split at h
    · rename_i id hq
      have hold : oldId fr hp (3000 + sl) = id := by unfold oldId; rw [if_neg hk, if_pos hk1, hk2, hq]
      have hnew : newB fr hp β (3000 + sl) = β id := by unfold newB; rw [if_neg hk, if_pos hk1, hk2, hq]
      split at h
      · rename_i t' x' hx'
        split at h
        · rename_i h0 _
          subst h0
          split at h
          · rename_i y' os' vs' hrec
            simp only [Option.some.injEq, Prod.mk.injEq] at h
            obtain ⟨⟨rfl, rfl⟩, rfl, rfl⟩ := h
            obtain ⟨i1, i2, ks, i3, i4⟩ := dec_ok lw s hF l y' os' vs' hrec ho.2 hv (fun p hp => hs p (List.mem_cons_of_mem _ hp))
            have hh := hs _ List.mem_cons_self
            have r0 : RC D w F hp.get β (.own id) (a.tmps.getD sl undef) := s.frm sl _ hq
            obtain ⟨t2, l2, q1, g⟩ := r0
            rw [hx'] at q1
            injection q1 with q1
            injection q1 with q2 q3
            subst q2
            obtain rfl := eq_of_heq q3
            have mono : ∀ p ∈ hpL D l y', BlkOk D w F hp β fr F1 h2 os' p.1 p.2 → BlkOk D w F hp β fr F1 h2 (id :: os') p.1 p.2 := fun p _ hb => by
              rcases hb with hb | ⟨t, l, L, b1, b2, b3, b4, b5, b6⟩ | hb
              · exact .inl hb
              · exact .inr (.inl ⟨t, l, L, b1, b2, b3, b4, List.mem_cons_of_mem _ b5, b6⟩)
              · exact .inr (.inr hb)
            rcases g with ⟨b0, rfl, A, e⟩ | ⟨L, cap, b1, r1, r2, e⟩
            · refine ⟨fun p hp' => (List.mem_cons.mp hp').elim (fun e' => ?_) (i1 p), fun p hp' => (List.mem_cons.mp hp').elim (fun e' => ?_) (fun h => mono p h (i2 p h)), ks, ?_, fun p hp' h3 h4 => ?_⟩
              · subst e'
                exact ⟨t', [], hh, .inl ⟨hnew.trans b0, rfl, A, e⟩⟩
              · subst e'
                exact .inl ⟨hnew.trans b0, by simp only; omega, t', rfl⟩
              · rw [List.filter_cons, if_neg (by rw [b0]; simp)]; exact i3
              · rcases List.mem_cons.mp hp' with e' | h
                · subst e'; exact absurd (hnew.trans b0) h4
                · exact i4 p h h3 h4
            · refine ⟨fun p hp' => (List.mem_cons.mp hp').elim (fun e' => ?_) (i1 p), fun p hp' => (List.mem_cons.mp hp').elim (fun e' => ?_) (fun h => mono p h (i2 p h)), (3000 + sl) :: ks, ?_, fun p hp' h3 h4 => ?_⟩
              · subst e'
                exact ⟨t', x', hh, .inr ⟨L, cap, hnew.trans b1, r1, r2, e⟩⟩
              · subst e'
                exact .inr (.inl ⟨t', x', L, rfl, by simp only; rw [hold]; exact hx', hnew.trans b1, by simp only; rw [hold]; exact b1, by simp only; rw [hold]; exact List.mem_cons_self, by simp only; omega⟩)
              · rw [List.filter_cons, if_pos (by rw [b1]; rfl), List.map_cons, hold, i3]
              · rcases List.mem_cons.mp hp' with e' | h
                · subst e'; exact List.mem_cons_self
                · exact List.mem_cons_of_mem _ (i4 p h h3 h4)
          · cases h
        · cases h
      · cases h
    · rename_i hq
      have hnew : newB fr hp β (3000 + sl) = none := by unfold newB; rw [if_neg hk, if_pos hk1, hk2, hq]
      split at h
      · rename_i y' os' vs' hrec
        simp only [Option.some.injEq, Prod.mk.injEq] at h
        obtain ⟨⟨rfl, rfl⟩, rfl, rfl⟩ := h
        obtain ⟨i1, i2, ks, i3, i4⟩ := dec_ok lw s hF l y' os' vs' hrec ho.2 hv (fun p hp => hs p (List.mem_cons_of_mem _ hp))
        have hh := hs _ List.mem_cons_self
        have r0 : RP D w F .nils (a.tmps.getD sl undef) := s.frm sl _ hq
        have e : a.tmps.getD sl undef = .slice none 0 0 := by generalize a.tmps.getD sl undef = v at r0; cases r0; rfl
        refine ⟨fun p hp' => (List.mem_cons.mp hp').elim (fun e' => ?_) (i1 p), fun p hp' => (List.mem_cons.mp hp').elim (fun e' => ?_) (i2 p), ks, i3, fun p hp' h3 h4 => ?_⟩
        · subst e'
          exact ⟨t, [], hh, .inl ⟨hnew, rfl, none, e⟩⟩
        · subst e'
          exact .inl ⟨hnew, by simp only; omega, t, rfl⟩
        · rcases List.mem_cons.mp hp' with e' | h
          · subst e'; exact absurd hnew h4
          · exact i4 p h h3 h4
      · cases h
    · cases h
  | .box sl id t :: l, (x, y), os, vs, h, ho, hv, hs => by
    simp only [shOk, Bool.and_eq_true, decide_eq_true_eq] at ho
    simp only [decSh] at h
    split at h
    · rename_i id' hq
      split at h
      · rename_i hid
        obtain rfl := Nat.eq_of_beq_eq_true hid
        have hnew : newB fr hp β id' = β id' := by unfold newB; rw [if_pos ho.1.2]
        split at h
        · rename_i cs hcs
          split at h
          · rename_i cs' hcs'
            split at h
            · rename_i x' hx'
              split at h
              · rename_i y' os' vs' hrec
                simp only [Option.some.injEq, Prod.mk.injEq] at h
                obtain ⟨⟨rfl, rfl⟩, rfl, rfl⟩ := h
                obtain ⟨i1, i2, ks, i3, i4⟩ := dec_ok lw s hF l y' os' vs' hrec ho.2 (fun id hi => hv id (List.mem_append_right _ hi)) (fun p hp => hs p (List.mem_cons_of_mem _ hp))
                have hh := hs _ List.mem_cons_self
                have r0 : RC D w F hp.get β (.ptr id' 0) (a.tmps.getD sl undef) := s.frm sl _ hq
                obtain ⟨cs0, L, q1, q2, q3⟩ := r0
                refine ⟨fun p hp' => (List.mem_cons.mp hp').elim (fun e' => ?_) (i1 p), fun p hp' => (List.mem_cons.mp hp').elim (fun e' => ?_) (i2 p), ks, i3, fun p hp' h3 h4 => ?_⟩
                · subst e'
                  exact ⟨_, L, hh, hnew.trans q2, q3⟩
                · subst e'
                  refine .inr (.inr ⟨cs, _, L, rfl, ho.1.2, hcs, q2, fun us rl => ?_⟩)
                  suffices hpl : PL w F1 (encL D t x') us from ⟨hpl.1, fun j z u hz hu => RP.rc (hpl.2 j z u hz hu)⟩
                  obtain ⟨p1, p2⟩ := resL_ok lw hF s.blk rl hcs' (fun id hi => hv id (List.mem_append_left _ hi))
                  obtain ⟨le1, le2⟩ := decL_le lw hx'
                  refine ⟨by rw [encL_len lw, ← le1, p1], fun j z u hz hu => ?_⟩
                  have hj : j < cs'.length := by rw [p1]; exact (List.getElem?_eq_some_iff.mp hu).1
                  have hc := List.getElem?_eq_getElem hj
                  exact le2 j _ z hc hz _ _ _ (p2 j _ u hc hu)
                · rcases List.mem_cons.mp hp' with e' | h
                  · subst e'; simp only at h3; omega
                  · exact i4 p h h3 h4
              · cases h
            · cases h
          · cases h
        · cases h
      · cases h
    · cases h
  | .boxo sl id t off e :: l, (x, (q, y)), os, vs, h, ho, hv, hs => by
    simp only [shOk, Bool.and_eq_true, decide_eq_true_eq] at ho
    have hk0 : ¬ onum sl off < 3000 := by unfold onum; omega
    have hk1 : ¬ onum sl off < 10000 := by unfold onum; omega
    have hk2 : (onum sl off - 10000) / 64 = sl := by unfold onum; omega
    have hk3 : (onum sl off - 10000) % 64 = off := by unfold onum; omega
    have hk4 : 3000 ≤ onum sl off := by omega
    -- the block, told anew, from what its cells say
    have cells : ∀ {cs cs' : List (C D.S)} {x' : T D.S t} {vs' : List Nat}, resL hp (cs.set off .nils) = some cs' → decL D t cs' = some x' → (∀ i ∈ ownsL (cs.set off .nils), ∀ L, β i = some L → F1 L.b) →
        (∀ u, cs[off]? ≠ none → RC D w F hp.get β (cs.getD off .any) u → RC D w F1 h2 (newB fr hp β) (.own (onum sl off)) u) → ∀ us, RL D w F hp.get β cs us → RL D w F1 h2 (newB fr hp β) ((encL D t x').set off (.own (onum sl off))) us := fun {cs cs' x' vs'} hcs' hx' hlive hrow us rl => by
      obtain ⟨le1, le2⟩ := decL_le lw hx'
      have rl' : RL D w F hp.get β (cs.set off .nils) (us.set off (.slice none 0 0)) := ⟨by rw [List.length_set, List.length_set]; exact rl.1, fun j z u hz hu => by
        by_cases hj : j = off
        · subst hj
          have hz1 := (List.getElem?_eq_some_iff.mp hz).1
          rw [List.length_set] at hz1
          have hu1 := (List.getElem?_eq_some_iff.mp hu).1
          rw [List.length_set] at hu1
          rw [List.getElem?_set_self hz1] at hz
          rw [List.getElem?_set_self hu1] at hu
          obtain rfl := Option.some.inj hz
          obtain rfl := Option.some.inj hu
          exact RP.nils
        · rw [List.getElem?_set_ne (Ne.symm hj)] at hz hu
          exact rl.2 j z u hz hu⟩
      obtain ⟨p1, p2⟩ := resL_ok lw hF s.blk rl' hcs' hlive
      have p1' : cs'.length = us.length := by rw [p1, List.length_set]
      refine ⟨by rw [List.length_set, encL_len lw, ← le1, p1'], fun j z u hz hu => ?_⟩
      by_cases hj : j = off
      · subst hj
        have hz1 := (List.getElem?_eq_some_iff.mp hz).1
        rw [List.length_set] at hz1
        rw [List.getElem?_set_self hz1] at hz
        obtain rfl := Option.some.inj hz
        have hu1 := (List.getElem?_eq_some_iff.mp hu).1
        have hc1 : j < cs.length := by rw [rl.1]; exact hu1
        refine hrow u (by rw [List.getElem?_eq_getElem hc1]; simp) ?_
        rw [List.getD_eq_getElem?_getD, List.getElem?_eq_getElem hc1]
        exact rl.2 j _ u (List.getElem?_eq_getElem hc1) hu
      · rw [List.getElem?_set_ne (Ne.symm hj)] at hz
        have hj' : j < cs'.length := by rw [p1']; exact (List.getElem?_eq_some_iff.mp hu).1
        have hc := List.getElem?_eq_getElem hj'
        exact RP.rc (le2 j _ z hc hz _ _ _ (p2 j _ u hc (by rw [List.getElem?_set_ne (Ne.symm hj)]; exact hu)))
    simp only [decSh] at h
    split at h
    · rename_i id' hq
      split at h
      · rename_i hid
        obtain rfl := Nat.eq_of_beq_eq_true hid
        have hnewb : newB fr hp β id' = β id' := by unfold newB; rw [if_pos ho.1.1.2]
        split at h
        · rename_i cs hcs
          obtain ⟨L0, us0, ty0, q2, b2, b3, b4, b5⟩ := s.blk _ _ hcs
          split at h
          · rename_i i hi
            have hfld : fldOf fr hp (onum sl off) = some i := by unfold fldOf; rw [hk2, hk3, hq]; simp only [hcs, hi]
            have hold : oldId fr hp (onum sl off) = i := by unfold oldId; rw [if_neg hk0, if_neg hk1, hfld]
            have hnew : newB fr hp β (onum sl off) = β i := by unfold newB; rw [if_neg hk0, if_neg hk1, hfld]
            have hoff : off < us0.toList.length := by rw [← b5.1]; exact (List.getElem?_eq_some_iff.mp hi).1
            have rcI : RC D w F hp.get β (.own i) us0.toList[off] := b5.2 off _ _ hi (List.getElem?_eq_getElem hoff)
            split at h
            · rename_i t' q' hrow
              split at h
              · rename_i h0 _
                subst h0
                split at h
                · rename_i cs' hcs'
                  split at h
                  · rename_i x' hx'
                    split at h
                    · rename_i y' os' vs' hrec
                      simp only [Option.some.injEq, Prod.mk.injEq] at h
                      obtain ⟨⟨rfl, rfl, rfl⟩, rfl, rfl⟩ := h
                      obtain ⟨i1, i2, ks, i3, i4⟩ := dec_ok lw s hF l y' os' vs' hrec ho.2 (fun id hi => hv id (List.mem_append_right _ hi)) (fun p hp => hs p (List.mem_cons_of_mem _ (List.mem_cons_of_mem _ hp)))
                      have hh := hs _ List.mem_cons_self
                      have hh2 := hs _ (List.mem_cons_of_mem _ List.mem_cons_self)
                      have mono : ∀ p ∈ hpL D l y', BlkOk D w F hp β fr F1 h2 os' p.1 p.2 → BlkOk D w F hp β fr F1 h2 (i :: os') p.1 p.2 := fun p _ hb => by
                        rcases hb with hb | ⟨t, l, L, b1, b2, b3, b4, b5, b6⟩ | hb
                        · exact .inl hb
                        · exact .inr (.inl ⟨t, l, L, b1, b2, b3, b4, List.mem_cons_of_mem _ b5, b6⟩)
                        · exact .inr (.inr hb)
                      have rowRC : ∀ u, RC D w F hp.get β (.own i) u → RC D w F1 h2 (newB fr hp β) (.own (onum sl off)) u := fun u ⟨t2, l2, q1, g⟩ => by
                        rw [hrow] at q1
                        injection q1 with q1
                        injection q1 with q2 q3
                        subst q2
                        obtain rfl := eq_of_heq q3
                        exact ⟨t', q', hh2, by rw [hnew]; exact g⟩
                      have rowBlk : BlkOk D w F hp β fr F1 h2 (i :: os') (onum sl off) (.arr t' q') ∧ (newB fr hp β (onum sl off) = none ∨ ∃ L, β i = some L) := by
                        obtain ⟨t2, l2, q1, g⟩ := rcI
                        rw [hrow] at q1
                        injection q1 with q1
                        injection q1 with q2 q3
                        subst q2
                        obtain rfl := eq_of_heq q3
                        rcases g with ⟨g0, rfl, A, _⟩ | ⟨L, cap, g1, _⟩
                        · exact ⟨.inl ⟨hnew.trans g0, hk4, _, rfl⟩, .inl (hnew.trans g0)⟩
                        · exact ⟨.inr (.inl ⟨_, _, L, rfl, by rw [hold]; exact hrow, hnew.trans g1, by rw [hold]; exact g1, by rw [hold]; exact List.mem_cons_self, hk4⟩), .inr ⟨L, g1⟩⟩
                      have boxBlk : BlkOk D w F hp β fr F1 h2 (i :: os') id' (.box ((encL D t x').set off (.own (onum sl off)))) := .inr (.inr ⟨cs, _, L0, rfl, ho.1.1.2, hcs, q2, cells (vs' := vs') hcs' hx' (fun j hj => hv j (List.mem_append_left _ hj)) (fun u _ hu => rowRC u (by rw [List.getD_eq_getElem?_getD, hi] at hu; exact hu))⟩)
                      rcases rowBlk.2 with hn | ⟨L, hL⟩
                      · refine ⟨fun p hp' => (List.mem_cons.mp hp').elim (fun e' => ?_) (i1 p), fun p hp' => ?_, ks, ?_, fun p hp' h3 h4 => ?_⟩
                        · subst e'
                          exact ⟨_, L0, hh, hnewb.trans q2, by
                            have r0 : RC D w F hp.get β (.ptr id' 0) (a.tmps.getD sl undef) := s.frm sl _ hq
                            obtain ⟨cs0, L, q1, q2', q3⟩ := r0
                            rw [q2] at q2'; obtain rfl := Option.some.inj q2'; exact q3⟩
                        · rcases List.mem_cons.mp hp' with e' | hp'
                          · subst e'; exact boxBlk
                          · rcases List.mem_cons.mp hp' with e' | hp'
                            · subst e'; exact rowBlk.1
                            · exact mono p hp' (i2 p hp')
                        · rw [List.filter_cons, if_neg (by rw [← hnew, hn]; simp)]; exact i3
                        · rcases List.mem_cons.mp hp' with e' | hp'
                          · subst e'; simp only at h3; omega
                          · rcases List.mem_cons.mp hp' with e' | hp'
                            · subst e'; exact absurd hn h4
                            · exact i4 p hp' h3 h4
                      · refine ⟨fun p hp' => (List.mem_cons.mp hp').elim (fun e' => ?_) (i1 p), fun p hp' => ?_, onum sl off :: ks, ?_, fun p hp' h3 h4 => ?_⟩
                        · subst e'
                          exact ⟨_, L0, hh, hnewb.trans q2, by
                            have r0 : RC D w F hp.get β (.ptr id' 0) (a.tmps.getD sl undef) := s.frm sl _ hq
                            obtain ⟨cs0, L, q1, q2', q3⟩ := r0
                            rw [q2] at q2'; obtain rfl := Option.some.inj q2'; exact q3⟩
                        · rcases List.mem_cons.mp hp' with e' | hp'
                          · subst e'; exact boxBlk
                          · rcases List.mem_cons.mp hp' with e' | hp'
                            · subst e'; exact rowBlk.1
                            · exact mono p hp' (i2 p hp')
                        · rw [List.filter_cons, if_pos (by rw [hL]; rfl), List.map_cons, hold, i3]
                        · rcases List.mem_cons.mp hp' with e' | hp'
                          · subst e'; simp only at h3; omega
                          · rcases List.mem_cons.mp hp' with e' | hp'
                            · subst e'; exact List.mem_cons_self
                            · exact List.mem_cons_of_mem _ (i4 p hp' h3 h4)
                    · cases h
                  · cases h
                · cases h
              · cases h
            · cases h
          · rename_i hi
            have hfld : fldOf fr hp (onum sl off) = none := by unfold fldOf; rw [hk2, hk3, hq]; simp only [hcs, hi]
            have hnew : newB fr hp β (onum sl off) = none := by unfold newB; rw [if_neg hk0, if_neg hk1, hfld]
            split at h
            · rename_i cs' hcs'
              split at h
              · rename_i x' hx'
                split at h
                · rename_i y' os' vs' hrec
                  simp only [Option.some.injEq, Prod.mk.injEq] at h
                  obtain ⟨⟨rfl, rfl, rfl⟩, rfl, rfl⟩ := h
                  obtain ⟨i1, i2, ks, i3, i4⟩ := dec_ok lw s hF l y' os' vs' hrec ho.2 (fun id hi => hv id (List.mem_append_right _ hi)) (fun p hp => hs p (List.mem_cons_of_mem _ (List.mem_cons_of_mem _ hp)))
                  have hh := hs _ List.mem_cons_self
                  have hh2 := hs _ (List.mem_cons_of_mem _ List.mem_cons_self)
                  refine ⟨fun p hp' => (List.mem_cons.mp hp').elim (fun e' => ?_) (i1 p), fun p hp' => ?_, ks, i3, fun p hp' h3 h4 => ?_⟩
                  · subst e'
                    exact ⟨_, L0, hh, hnewb.trans q2, by
                      have r0 : RC D w F hp.get β (.ptr id' 0) (a.tmps.getD sl undef) := s.frm sl _ hq
                      obtain ⟨cs0, L, q1, q2', q3⟩ := r0
                      rw [q2] at q2'; obtain rfl := Option.some.inj q2'; exact q3⟩
                  · rcases List.mem_cons.mp hp' with e' | hp'
                    · subst e'
                      refine .inr (.inr ⟨cs, _, L0, rfl, ho.1.1.2, hcs, q2, cells (vs' := vs') hcs' hx' (fun j hj => hv j (List.mem_append_left _ hj)) (fun u _ hu => ?_)⟩)
                      rw [List.getD_eq_getElem?_getD, hi] at hu
                      have hu : RP D w F .nils u := hu
                      cases hu
                      exact ⟨e, [], hh2, .inl ⟨hnew, rfl, none, rfl⟩⟩
                    · rcases List.mem_cons.mp hp' with e' | hp'
                      · subst e'; exact .inl ⟨hnew, hk4, e, rfl⟩
                      · exact i2 p hp'
                  · rcases List.mem_cons.mp hp' with e' | hp'
                    · subst e'; simp only at h3; omega
                    · rcases List.mem_cons.mp hp' with e' | hp'
                      · subst e'; exact absurd hnew h4
                      · exact i4 p hp' h3 h4
                · cases h
              · cases h
            · cases h
          · cases h
        · cases h
      · cases h
    · cases h
  | .fn sl f :: l, y, os, vs, h, ho, hv, hs => by
    simp only [shOk, Bool.and_eq_true, decide_eq_true_eq] at ho
    simp only [decSh] at h
    split at h
    · rename_i f' hq
      split at h
      · rename_i hf
        obtain rfl := Nat.eq_of_beq_eq_true hf
        split at h
        · rename_i y' os' vs' hrec
          simp only [Option.some.injEq, Prod.mk.injEq] at h
          obtain ⟨rfl, rfl, rfl⟩ := h
          obtain ⟨i1, i2, i3⟩ := dec_ok lw s hF l y' os' vs' hrec ho.2 hv hs
          refine ⟨fun p hp' => (List.mem_cons.mp hp').elim (fun e' => ?_) (i1 p), i2, i3⟩
          subst e'
          have r0 : RC D w F hp.get β (.fn f' []) (a.tmps.getD sl undef) := s.frm sl _ hq
          exact ⟨r0.1, fun i hi => (by cases hi)⟩
        · cases h
      · cases h
    · cases h
theorem distinct_filter {f : Nat → Bool} : ∀ {l : List Nat}, distinct l = true → distinct (l.filter f) = true
  | [], _ => rfl
  | i :: l, h => by
    simp only [distinct] at h
    split at h
    · cases h
    · rename_i hne
      rw [List.filter_cons]
      split
      · simp only [distinct]
        have : (List.filter f l).elem i = false := by
          rw [List.elem_eq_contains]
          refine Bool.eq_false_iff.mpr fun hm => ?_
          have := (List.mem_filter.mp (List.contains_iff_mem.mp hm)).1
          rw [List.elem_eq_contains, List.contains_iff_mem.mpr this] at hne; cases hne
        rw [this]
        exact distinct_filter h
      · exact distinct_filter h
theorem dec_vs (s : Sim K β F fr hp a w) : ∀ (l : List Se) (x : X D l) (os vs : List Nat), decSh D l fr hp = some (x, os, vs) → ∀ id ∈ vs, ∃ (t : Ty) (q : List (T D.S t)), hp.get id = some (.arr t q)
  | [], x, os, vs, h => by
    simp only [decSh, Option.some.injEq, Prod.mk.injEq] at h
    obtain ⟨_, rfl, rfl⟩ := h
    exact fun id hi => by cases hi
  | .v sl t :: l, (x, y), os, vs, h => by
    simp only [decSh] at h
    split at h
    · rename_i q hq
      split at h
      · split at h
        · split at h
          · rename_i y' os' vs' hrec
            simp only [Option.some.injEq, Prod.mk.injEq] at h
            obtain ⟨⟨rfl, rfl⟩, rfl, rfl⟩ := h
            intro id hi
            rcases List.mem_append.mp hi with hi | hi
            · have r0 := s.frm sl _ hq
              cases q with
              | c c => exact ownsL_arr (w := w) (F := F) (β := β) (cs := [c]) (vs := [_]) ⟨rfl, fun j y u hy hu => by
                  cases j with
                  | zero => simp at hy hu; subst hy; subst hu; exact r0
                  | succ j => simp at hy⟩ id hi
              | agg cs => obtain ⟨us, _, rl⟩ := r0; exact ownsL_arr rl id hi
            · exact dec_vs s l y' os' vs' hrec id hi
          · cases h
        · cases h
      · cases h
    · cases h
  | .own sl t :: l, (x, y), os, vs, h => by
    simp only [decSh] at h
    split at h
    · split at h
      · split at h
        · split at h
          · rename_i y' os' vs' hrec
            simp only [Option.some.injEq, Prod.mk.injEq] at h
            obtain ⟨⟨rfl, rfl⟩, rfl, rfl⟩ := h
            exact dec_vs s l y' os' vs' hrec
          · cases h
        · cases h
      · cases h
    · split at h
      · rename_i y' os' vs' hrec
        simp only [Option.some.injEq, Prod.mk.injEq] at h
        obtain ⟨⟨rfl, rfl⟩, rfl, rfl⟩ := h
        exact dec_vs s l y' os' vs' hrec
      · cases h
    · cases h
  | .box sl id t :: l, (x, y), os, vs, h => by
    simp only [decSh] at h
    split at h
    · split at h
      · split at h
        · rename_i cs hcs
          split at h
          · split at h
            · split at h
              · rename_i y' os' vs' hrec
                simp only [Option.some.injEq, Prod.mk.injEq] at h
                obtain ⟨⟨rfl, rfl⟩, rfl, rfl⟩ := h
                intro i hi
                rcases List.mem_append.mp hi with hi | hi
                · obtain ⟨L', us, t, b1, b2, b3, b4, b5⟩ := s.blk _ _ hcs
                  exact ownsL_arr b5 i hi
                · exact dec_vs s l y' os' vs' hrec i hi
              · cases h
            · cases h
          · cases h
        · cases h
      · cases h
    · cases h
  | .boxo sl id t off e :: l, (x, (q, y)), os, vs, h => by
    have key : ∀ {cs : List (C D.S)} {vs' : List Nat}, hp.get id = some (.box cs) → (∀ i ∈ vs', ∃ (t : Ty) (q : List (T D.S t)), hp.get i = some (.arr t q)) → ∀ i ∈ ownsL (cs.set off .nils) ++ vs', ∃ (t : Ty) (q : List (T D.S t)), hp.get i = some (.arr t q) := fun {cs vs'} hcs hrec i hi => by
      rcases List.mem_append.mp hi with hi | hi
      · obtain ⟨L', us, t, b1, b2, b3, b4, b5⟩ := s.blk _ _ hcs
        refine ownsL_arr b5 i ?_
        rw [ownsL_eq, List.mem_flatMap] at hi ⊢
        obtain ⟨c, hc, hi⟩ := hi
        rcases List.mem_or_eq_of_mem_set hc with hc | rfl
        · exact ⟨c, hc, hi⟩
        · simp [ownsC] at hi
      · exact hrec i hi
    simp only [decSh] at h
    split at h
    · split at h
      · split at h
        · rename_i cs hcs
          split at h
          · split at h
            · split at h
              · split at h
                · split at h
                  · split at h
                    · rename_i y' os' vs' hrec
                      simp only [Option.some.injEq, Prod.mk.injEq] at h
                      obtain ⟨_, _, rfl⟩ := h
                      exact key hcs (dec_vs s l y' os' vs' hrec)
                    · cases h
                  · cases h
                · cases h
              · cases h
            · cases h
          · split at h
            · split at h
              · split at h
                · rename_i y' os' vs' hrec
                  simp only [Option.some.injEq, Prod.mk.injEq] at h
                  obtain ⟨_, _, rfl⟩ := h
                  exact key hcs (dec_vs s l y' os' vs' hrec)
                · cases h
              · cases h
            · cases h
          · cases h
        · cases h
      · cases h
    · cases h
  | .fn sl f :: l, y, os, vs, h => by
    simp only [decSh] at h
    split at h
    · split at h
      · split at h
        · rename_i y' os' vs' hrec
          simp only [Option.some.injEq, Prod.mk.injEq] at h
          obtain ⟨rfl, rfl, rfl⟩ := h
          exact dec_vs s l y' os' vs' hrec
        · cases h
      · cases h
    · cases h
/-- An own row is no block that was there. -/
theorem Sim.fresh (s : Sim K β F fr hp a w) {id : Nat} {t : Ty} {l : List (T D.S t)} {L : Loc} (h : hp.get id = some (.arr t l)) (hL : β id = some L) : K.w0.heap.size ≤ L.b := by
  have hng := s.gsep id _ L h hL
  by_cases hlt : L.b < K.w0.heap.size
  · exfalso
    refine hng ⟨hlt, fun q hq e => ?_⟩
    obtain ⟨i, Lq⟩ := q
    obtain ⟨g1, cs, g2⟩ := s.refs i Lq hq
    have := s.inj id i _ _ L Lq h g2 hL g1 e
    subst this
    rw [h] at g2; cases g2
  · omega
/-- A cut: the state in its form is as good. -/
theorem cut_ok (lw : Lawful D P) (s : Sim K β F fr hp a w) {R : Type} {r : R} {l : List Se} (hsh : shOk l = true) (hds : distinct (hpKeys l) = true) {k : X D l → Option R} (h : cutK D l fr hp k = some r)
    (hrf : ∀ i L, (i, L) ∈ K.refs → i ∈ hpKeys l ∧ i < 3000) : ∃ x, k x = some r ∧ ∃ β2 F1, Sim K β2 F1 (mkT (frL D l x)) (mkT (hpL D l x)) a w := by
  unfold cutK at h
  split at h
  · rename_i x os vs hx
    split at h
    · rename_i hc
      rw [Bool.and_eq_true] at hc
      have hvs := dec_vs s l x os vs hx
      have hkeys := keys_lt l x hsh
      have hg2 : ∀ i b, (mkT (hpL D l x)).get i = some b → (i, b) ∈ hpL D l x := fun i b h => by
        rw [get_mkT _ _ hkeys.2] at h; exact lk_mem h
      have hg2' : ∀ i b, (i, b) ∈ hpL D l x → (mkT (hpL D l x)).get i = some b := fun i b h => by
        rw [get_mkT _ _ hkeys.2]; exact lk_of_mem h (by rw [hpL_keys]; exact hds)
      obtain ⟨d1, d2, ks, d3, d4⟩ := dec_ok lw s (F1 := fun b => F b ∨ ∃ id ∈ vs, ∃ L, β id = some L ∧ b = L.b) (fun b hb => .inl hb) (h2 := (mkT (hpL D l x)).get) l x os vs hx hsh (fun id hi L hL => .inr ⟨id, hi, L, hL, rfl⟩) (fun p hp => hg2' p.1 p.2 hp)
      have nF1 : ∀ (j : Nat) b L, hp.get j = some b → β j = some L → j ∉ vs → ¬ (F L.b ∨ ∃ id ∈ vs, ∃ L', β id = some L' ∧ L.b = L'.b) := fun j b L h1 h2 h3 h4 => by
        rcases h4 with h4 | ⟨id, hi, L', hL', e⟩
        · exact (s.sep j b L h1 h2).1 h4
        · obtain ⟨t, q, hq⟩ := hvs id hi
          have := s.inj j id _ _ L L' h1 hq h2 hL' e
          exact h3 (this ▸ hi)
      refine ⟨x, h, newB fr hp β, fun b => F b ∨ ∃ id ∈ vs, ∃ L, β id = some L ∧ b = L.b, s.rebase (oldId fr hp) (fun b hb => .inl hb) (fun b hb => ?_) (fun i v hv => ?_) (fun i b hb => ?_) (fun i j b b' hi hj ni nj e => ?_) (fun i L hi => ?_)⟩
      · rcases hb with hb | ⟨id, hi, L, hL, rfl⟩
        · exact ⟨s.old b hb, s.fsub b hb⟩
        · obtain ⟨t, q, hq⟩ := hvs id hi
          exact ⟨(s.sep id _ L hq hL).2, .inr (s.fresh hq hL)⟩
      · rw [get_mkT _ _ hkeys.1] at hv
        exact d1 _ (lk_mem hv)
      · have hm := hg2 i b hb
        refine ⟨hkeys.2 _ hm, ?_⟩
        rcases d2 _ hm with ⟨q1, q2, q3⟩ | ⟨t, q, L, q1, q2, q3, q4, q5, q6⟩ | ⟨cs, y, L, q1, q2, q3, q4, q5⟩
        · exact .inl ⟨q1, q3⟩
        · exact .inr ⟨_, L, q2, q3, q4, nF1 _ _ L q2 q4 (apart_at hc.2 _ q5), .inl ⟨t, q, q1, rfl⟩⟩
        · have ho : oldId fr hp i = i := by unfold oldId; rw [if_pos q2]
          have hn : newB fr hp β i = β i := by unfold newB; rw [if_pos q2]
          refine .inr ⟨.box cs, L, by rw [ho]; exact q3, hn.trans q4, by rw [ho]; exact q4, nF1 _ _ L q3 q4 (fun hv => ?_), .inr ⟨cs, _, rfl, q1, q5⟩⟩
          obtain ⟨t', q', hq'⟩ := hvs i hv
          rw [q3] at hq'; cases hq'
      · have hmi := hg2 i b hi
        have hmj := hg2 j b' hj
        rcases d2 _ hmi with ⟨q1, _⟩ | ⟨t, q, L, q1, q2, q3, q4, q5, q6⟩ | ⟨cs, y, L, q1, q2, q3, q4, q5⟩
        · exact absurd q1 ni
        · rcases d2 _ hmj with ⟨p1, _⟩ | ⟨t', q', L', p1, p2, p3, p4, p5, p6⟩ | ⟨cs', y', L', p1, p2, p3, p4, p5⟩
          · exact absurd p1 nj
          · exact distinct_inj (f := oldId fr hp) (by rw [d3]; exact distinct_filter hc.1) i (d4 _ hmi q6 ni) j (d4 _ hmj p6 nj) e
          · have ho : oldId fr hp j = j := by unfold oldId; rw [if_pos p2]
            simp only at q2 p3
            rw [e, ho, p3] at q2; cases q2
        · have hoi : oldId fr hp i = i := by unfold oldId; rw [if_pos q2]
          rcases d2 _ hmj with ⟨p1, _⟩ | ⟨t', q', L', p1, p2, p3, p4, p5, p6⟩ | ⟨cs', y', L', p1, p2, p3, p4, p5⟩
          · exact absurd p1 nj
          · simp only at p2 q3
            rw [← e, hoi, q3] at p2; cases p2
          · have ho : oldId fr hp j = j := by unfold oldId; rw [if_pos p2]
            rw [hoi, ho] at e; exact e
      · obtain ⟨k1, k2⟩ := hrf i L hi
        rw [← hpL_keys l x] at k1
        obtain ⟨p, hp1, hp2⟩ := List.mem_map.mp k1
        subst hp2
        have hn : newB fr hp β p.1 = β p.1 := by unfold newB; rw [if_pos k2]
        refine ⟨hn.trans (s.refs _ L hi).1, ?_⟩
        rcases d2 _ hp1 with ⟨_, q2, _⟩ | ⟨t, q, L, q1, q2, q3, q4, q5, q6⟩ | ⟨cs, y, L, q1, _⟩
        · omega
        · omega
        · exact ⟨_, by rw [hg2' _ _ hp1, q1]⟩
    · cases h
  · cases h
end
end Go.Proofs.Ytalgppclaolonaa.Ev
