/- Values without memory: what is told and what is in memory, side by side. -/
import Derived.Test.YtalgppclaolonaaEv2
namespace Go.Proofs.Ytalgppclaolonaa.Ev
open Go
set_option linter.unusedVariables false
set_option linter.unusedSimpArgs false

/-- Where a call began: its world, which blocks stay as they were, which blocks were lent to it; how many slots it has. -/
structure Kx where
  w0 : World
  F0 : Nat → Prop
  refs : List (Nat × Loc)
  n : Nat
/-- The blocks that stay as they were. -/
def Kx.G (K : Kx) (b : Nat) : Prop := b < K.w0.heap.size ∧ ∀ r ∈ K.refs, b ≠ r.2.b

section
variable {D : Tys}
def Keep (h : Hp D) (β : Nat → Option Loc) (h' : Hp D) (β' : Nat → Option Loc) (id : Nat) : Prop :=
  β' id = β id ∧ (∀ cs, h id = some (.box cs) → ∃ cs', h' id = some (.box cs')) ∧ (∀ t l, h id = some (.arr t l) → ∃ l', h' id = some (.arr t l') ∧ l'.length = l.length)
theorem Keep.rfl' {h h' : Hp D} {β β' : Nat → Option Loc} {id : Nat} (e : h' id = h id) (b : β' id = β id) : Keep h β h' β' id :=
  ⟨b, fun cs hc => ⟨cs, e.trans hc⟩, fun t l hl => ⟨l, e.trans hl, rfl⟩⟩
theorem RC.trans {w w' : World} {F F' : Nat → Prop} {h h' : Hp D} {β β' : Nat → Option Loc} (hF : ∀ b, F b → F' b ∧ w'.heap[b]? = w.heap[b]?)
    (hk : ∀ id, (h id).isSome → Keep h β h' β' id) {c : C D.S} {v : Value} (r : RC D w F h β c v) : RC D w' F' h' β' c v := by
  cases c with
  | any => trivial
  | own id =>
    obtain ⟨t, l, hl, r⟩ := r
    obtain ⟨kb, _, ka⟩ := hk id (by rw [hl]; rfl)
    obtain ⟨l', hl', e⟩ := ka t l hl
    refine ⟨t, l', hl', ?_⟩
    rcases r with ⟨b0, rfl, r⟩ | ⟨L, cap, b1, r1, r2, r3⟩
    · exact .inl ⟨kb.trans b0, List.length_eq_zero_iff.mp e, r⟩
    · exact .inr ⟨L, cap, kb.trans b1, by omega, r2, by rw [e]; exact r3⟩
  | part id off n =>
    obtain ⟨t, l, hl, r0, r⟩ := r
    obtain ⟨kb, _, ka⟩ := hk id (by rw [hl]; rfl)
    obtain ⟨l', hl', e⟩ := ka t l hl
    refine ⟨t, l', hl', by omega, ?_⟩
    rcases r with ⟨b0, r⟩ | ⟨L, cap, b1, r⟩
    · exact .inl ⟨kb.trans b0, r⟩
    · exact .inr ⟨L, cap, kb.trans b1, r⟩
  | ptr id off =>
    obtain ⟨cs, L, hc, b1, r⟩ := r
    obtain ⟨kb, kx, _⟩ := hk id (by rw [hc]; rfl)
    obtain ⟨cs', hc'⟩ := kx cs hc
    exact ⟨cs', L, hc', kb.trans b1, r⟩
  | eptr id e off =>
    obtain ⟨t, l, L, hl, b1, r1, r2⟩ := r
    obtain ⟨kb, _, ka⟩ := hk id (by rw [hl]; rfl)
    obtain ⟨l', hl', e⟩ := ka t l hl
    exact ⟨t, l', L, hl', kb.trans b1, by omega, r2⟩
  | fn f caps =>
    obtain ⟨rv, rc⟩ := r
    have hb : ∀ i ∈ caps, β' i = β i := fun i hi => by
      obtain ⟨cs, L, hc, _⟩ := rc i hi
      exact (hk i (by rw [hc]; rfl)).1
    refine ⟨?_, fun i hi => ?_⟩
    · rw [rv]
      congr 2
      exact List.map_congr_left fun i hi => by rw [hb i hi]
    · obtain ⟨cs, L, hc, b1⟩ := rc i hi
      obtain ⟨cs', hc'⟩ := (hk i (by rw [hc]; rfl)).2.1 cs hc
      exact ⟨cs', L, hc', (hb i hi).trans b1⟩
  | int k n => exact RP.mono D hF r
  | bool b => exact RP.mono D hF r
  | str s => exact RP.mono D hF r
  | nilp => exact RP.mono D hF r
  | nils => exact RP.mono D hF r
  | emp => exact RP.mono D hF r
  | lst t l => exact RP.mono D hF r
  | fptr t l i o => exact RP.mono D hF r
  | nili => exact RP.mono D hF r
  | err t k n => exact RP.mono D hF r
  | nilf => exact RP.mono D hF r
theorem RL.map {w w' : World} {F F' : Nat → Prop} {h h' : Hp D} {β β' : Nat → Option Loc} (f : C D.S → C D.S) (H : ∀ c v, RC D w F h β c v → RC D w' F' h' β' (f c) v)
    {cs : List (C D.S)} {vs : List Value} (r : RL D w F h β cs vs) : RL D w' F' h' β' (cs.map f) vs := by
  refine ⟨by rw [List.length_map]; exact r.1, fun j x v hx hv => ?_⟩
  rw [List.getElem?_map] at hx
  obtain ⟨y, hy, rfl⟩ := Option.map_eq_some_iff.mp hx
  exact H _ _ (r.2 j y v hy hv)
def mapA (f : C D.S → C D.S) : A D.S → A D.S | .c x => .c (f x) | .agg cs => .agg (cs.map f)
def mapV (f : C D.S → C D.S) : V D.S → V D.S | .a a => .a (mapA f a) | .tup l => .tup (l.map (mapA f))
def mapB (f : C D.S → C D.S) : B D.S → B D.S | .box cs => .box (cs.map f) | .arr t l => .arr t l
theorem RA.map {w w' : World} {F F' : Nat → Prop} {h h' : Hp D} {β β' : Nat → Option Loc} (f : C D.S → C D.S) (H : ∀ c v, RC D w F h β c v → RC D w' F' h' β' (f c) v)
    {x : A D.S} {v : Value} (r : RA D w F h β x v) : RA D w' F' h' β' (mapA f x) v := by
  cases x with
  | c x => exact H _ _ r
  | agg cs => obtain ⟨vs, rfl, r⟩ := r; exact ⟨vs, rfl, RL.map f H r⟩
theorem RV.map {w w' : World} {F F' : Nat → Prop} {h h' : Hp D} {β β' : Nat → Option Loc} (f : C D.S → C D.S) (H : ∀ c v, RC D w F h β c v → RC D w' F' h' β' (f c) v)
    {x : V D.S} {v : Value} (r : RV D w F h β x v) : RV D w' F' h' β' (mapV f x) v := by
  cases x with
  | a x => exact RA.map f H r
  | tup l =>
    obtain ⟨vs, rfl, r1, r2⟩ := r
    refine ⟨vs, rfl, by rw [List.length_map]; exact r1, fun j x v hx hv => ?_⟩
    rw [List.getElem?_map] at hx
    obtain ⟨y, hy, rfl⟩ := Option.map_eq_some_iff.mp hx
    exact RA.map f H (r2 j y v hy hv)
theorem RL.trans {w w' : World} {F F' : Nat → Prop} {h h' : Hp D} {β β' : Nat → Option Loc} (H : ∀ c v, RC D w F h β c v → RC D w' F' h' β' c v)
    {cs : List (C D.S)} {vs : List Value} (r : RL D w F h β cs vs) : RL D w' F' h' β' cs vs := ⟨r.1, fun j x v hx hv => H _ _ (r.2 j x v hx hv)⟩
theorem RA.trans {w w' : World} {F F' : Nat → Prop} {h h' : Hp D} {β β' : Nat → Option Loc} (H : ∀ c v, RC D w F h β c v → RC D w' F' h' β' c v)
    {x : A D.S} {v : Value} (r : RA D w F h β x v) : RA D w' F' h' β' x v := by
  cases x with
  | c x => exact H _ _ r
  | agg cs => obtain ⟨vs, rfl, r⟩ := r; exact ⟨vs, rfl, RL.trans H r⟩
theorem RV.trans {w w' : World} {F F' : Nat → Prop} {h h' : Hp D} {β β' : Nat → Option Loc} (H : ∀ c v, RC D w F h β c v → RC D w' F' h' β' c v)
    {x : V D.S} {v : Value} (r : RV D w F h β x v) : RV D w' F' h' β' x v := by
  cases x with
  | a x => exact RA.trans H r
  | tup l =>
    obtain ⟨vs, rfl, r1, r2⟩ := r
    exact ⟨vs, rfl, r1, fun j x v hx hv => RA.trans H (r2 j x v hx hv)⟩

structure Sim (K : Kx) (β : Nat → Option Loc) (F : Nat → Prop) (fr : Tr (V D.S)) (hp : Tr (B D.S)) (a : Act) (w : World) : Prop where
  sz : a.tmps.size = K.n
  df : a.defers = []
  frm : ∀ i v, fr.get i = some v → RV D w F hp.get β v (a.tmps.getD i undef)
  blk : ∀ i b, hp.get i = some b → RB D w F hp.get β i b
  inj : ∀ i j b b' L L', hp.get i = some b → hp.get j = some b' → β i = some L → β j = some L' → L.b = L'.b → i = j
  sep : ∀ i b L, hp.get i = some b → β i = some L → ¬ F L.b ∧ L.b < w.heap.size
  old : ∀ b, F b → b < w.heap.size
  keep : ∀ b, K.G b → w.heap[b]? = K.w0.heap[b]?
  gsep : ∀ i b L, hp.get i = some b → β i = some L → ¬ K.G L.b
  fsub : ∀ b, F b → K.F0 b ∨ K.w0.heap.size ≤ b
  w0 : K.w0.heap.size ≤ w.heap.size ∧ w.os = K.w0.os ∧ w.tape = K.w0.tape ∧ w.output = K.w0.output
  refs : ∀ i L, (i, L) ∈ K.refs → β i = some L ∧ ∃ cs, hp.get i = some (.box cs)
  key : ∀ i b, hp.get i = some b → i < 65535

theorem depth_ok : 2 ^ depth = 65536 := rfl
theorem Sim.put {K : Kx} {β F} {fr : Tr (V D.S)} {hp : Tr (B D.S)} {a : Act} {w : World} (s : Sim K β F fr hp a w) {d : Nat} {v : V D.S} {cv : Value}
    (h : RV D w F hp.get β v cv) (hd : d < K.n) (hs : d < 65535) : Sim K β F (fr.set depth d (some v)) hp (a.put (some d) cv) w := by
  refine ⟨by simp only [Act.put, Array.size_setIfInBounds]; exact s.sz, s.df, fun i x hx => ?_, s.blk, s.inj, s.sep, s.old, s.keep, s.gsep, s.fsub, s.w0, s.refs, s.key⟩
  rw [Tr.get_set _ _ _ _ _ (by rw [depth_ok]; omega)] at hx
  simp only [Act.put]
  by_cases e : i = d
  · subst e
    rw [if_pos rfl] at hx
    obtain rfl := Option.some.inj hx
    rw [show (a.tmps.setIfInBounds i cv).getD i undef = cv by simp [Array.getD, Array.getElem?_setIfInBounds, s.sz, hd]]
    exact h
  · rw [if_neg e] at hx
    rw [show (a.tmps.setIfInBounds d cv).getD i undef = a.tmps.getD i undef by simp [Array.getD_eq_getD_getElem?, Array.getElem?_setIfInBounds, Ne.symm e]]
    exact s.frm i x hx
theorem Sim.putO {K : Kx} {β F} {fr : Tr (V D.S)} {hp : Tr (B D.S)} {a : Act} {w : World} (s : Sim K β F fr hp a w) {cv : Value} : Sim K β F fr hp (a.put none cv) w := s

/-- The world has grown: what was there is there; what is told stays as it was. -/
theorem Sim.grow {K : Kx} {β F} {fr : Tr (V D.S)} {hp : Tr (B D.S)} {a : Act} {w w' : World} (s : Sim K β F fr hp a w) (hz : w.heap.size ≤ w'.heap.size)
    (hh : ∀ b, b < w.heap.size → w'.heap[b]? = w.heap[b]?) (ho : w'.os = w.os ∧ w'.tape = w.tape ∧ w'.output = w.output) : Sim K β F fr hp a w' := by
  have hF : ∀ b, F b → F b ∧ w'.heap[b]? = w.heap[b]? := fun b hb => ⟨hb, hh b (s.old b hb)⟩
  have hR : ∀ c v, RC D w F hp.get β c v → RC D w' F hp.get β c v := fun c v => RC.trans hF fun id _ => Keep.rfl' rfl rfl
  refine ⟨s.sz, s.df, fun i v h => RV.trans hR (s.frm i v h), fun i b h => ?_, s.inj, fun i b L h1 h2 => ⟨(s.sep i b L h1 h2).1, Nat.lt_of_lt_of_le (s.sep i b L h1 h2).2 hz⟩, fun b hb => Nat.lt_of_lt_of_le (s.old b hb) hz,
    fun b hb => (hh b (Nat.lt_of_lt_of_le hb.1 s.w0.1)).trans (s.keep b hb), s.gsep, s.fsub, ⟨Nat.le_trans s.w0.1 hz, ho.1.trans s.w0.2.1, ho.2.1.trans s.w0.2.2.1, ho.2.2.trans s.w0.2.2.2⟩, s.refs, s.key⟩
  have r := s.blk i b h
  cases b with
  | box cs =>
    obtain ⟨L, vs, t, r1, r2, r3, r4, r5⟩ := r
    exact ⟨L, vs, t, r1, (hh _ (s.sep i _ L h r1).2).trans r2, r3, r4, RL.trans hR r5⟩
  | arr t l =>
    rcases r with r | ⟨L, vs, e, r1, r2, r3, r4, r5⟩
    · exact .inl r
    · refine .inr ⟨L, vs, e, r1, (hh _ (s.sep i _ L h r1).2).trans r2, r3, r4, fun i hi j x hx => ?_⟩
      obtain ⟨v, hv, rv⟩ := r5 i hi j x hx
      exact ⟨v, hv, RP.mono D hF rv⟩
def upd {α : Type} (β : Nat → Option α) (d : Nat) (L : Option α) : Nat → Option α := fun i => if i = d then L else β i
theorem upd_at {α : Type} (β : Nat → Option α) (d : Nat) (L : Option α) : upd β d L d = L := by simp [upd]
theorem upd_ne {α : Type} (β : Nat → Option α) {d i : Nat} (L : Option α) (h : i ≠ d) : upd β d L i = β i := by simp [upd, h]
/-- Another block is told. -/
theorem Sim.new {K : Kx} {β F} {fr : Tr (V D.S)} {hp : Tr (B D.S)} {a : Act} {w : World} (s : Sim K β F fr hp a w) {d : Nat} (hn : hp.get d = none) (hs : d < 65535) (b : B D.S) (L : Option Loc)
    (hL : ∀ L', L = some L' → L'.b < w.heap.size ∧ ¬ F L'.b ∧ (∀ i b L'', hp.get i = some b → β i = some L'' → L''.b ≠ L'.b) ∧ ¬ K.G L'.b)
    (hb : RB D w F (hp.set depth d (some b)).get (upd β d L) d b) :
    Sim K (upd β d L) F fr (hp.set depth d (some b)) a w ∧ (∀ c v, RC D w F hp.get β c v → RC D w F (hp.set depth d (some b)).get (upd β d L) c v) := by
  have hg : ∀ i, (hp.set depth d (some b)).get i = if i = d then some b else hp.get i := fun i => Tr.get_set _ _ _ _ _ (by rw [depth_ok]; omega)
  have hF : ∀ b, F b → F b ∧ w.heap[b]? = w.heap[b]? := fun b hb => ⟨hb, rfl⟩
  have hne : ∀ id b', hp.get id = some b' → id ≠ d := fun id b' h e => by rw [e, hn] at h; cases h
  have hR : ∀ c v, RC D w F hp.get β c v → RC D w F (hp.set depth d (some b)).get (upd β d L) c v := fun c v => RC.trans hF fun id h => by
    obtain ⟨b', hb'⟩ := Option.isSome_iff_exists.mp h
    exact Keep.rfl' (by rw [hg, if_neg (hne id b' hb')]) (upd_ne _ _ (hne id b' hb'))
  refine ⟨⟨s.sz, s.df, fun i v h => RV.trans hR (s.frm i v h), fun i b' h => ?_, fun i j b1 b2 L1 L2 h1 h2 h3 h4 e => ?_, fun i b' L1 h1 h2 => ?_, s.old, s.keep, fun i b' L1 h1 h2 => ?_, s.fsub, s.w0, fun i L1 h => ?_, fun i b' h => ?_⟩, hR⟩
  · rw [hg] at h
    by_cases e : i = d
    · subst e
      rw [if_pos rfl] at h
      obtain rfl := Option.some.inj h
      exact hb
    · rw [if_neg e] at h
      have r := s.blk i b' h
      cases b' with
      | box cs =>
        obtain ⟨L1, vs, t, r1, r2, r3, r4, r5⟩ := r
        exact ⟨L1, vs, t, (upd_ne _ _ e).trans r1, r2, r3, r4, RL.trans hR r5⟩
      | arr t l =>
        rcases r with ⟨r1, r2⟩ | ⟨L1, vs, e', r1, r⟩
        · exact .inl ⟨(upd_ne _ _ e).trans r1, r2⟩
        · exact .inr ⟨L1, vs, e', (upd_ne _ _ e).trans r1, r⟩
  · rw [hg] at h1 h2
    by_cases e1 : i = d
    · by_cases e2 : j = d
      · rw [e1, e2]
      · subst e1
        rw [if_neg e2] at h2
        rw [upd_at] at h3
        rw [upd_ne _ _ e2] at h4
        exact absurd e.symm ((hL L1 h3).2.2.1 j b2 L2 h2 h4)
    · rw [if_neg e1] at h1
      rw [upd_ne _ _ e1] at h3
      by_cases e2 : j = d
      · subst e2
        rw [upd_at] at h4
        exact absurd e ((hL L2 h4).2.2.1 i b1 L1 h1 h3)
      · rw [if_neg e2] at h2
        rw [upd_ne _ _ e2] at h4
        exact s.inj i j b1 b2 L1 L2 h1 h2 h3 h4 e
  · rw [hg] at h1
    by_cases e1 : i = d
    · subst e1
      rw [upd_at] at h2
      exact ⟨(hL L1 h2).2.1, (hL L1 h2).1⟩
    · rw [if_neg e1] at h1
      rw [upd_ne _ _ e1] at h2
      exact s.sep i b' L1 h1 h2
  · rw [hg] at h1
    by_cases e1 : i = d
    · subst e1
      rw [upd_at] at h2
      exact (hL L1 h2).2.2.2
    · rw [if_neg e1] at h1
      rw [upd_ne _ _ e1] at h2
      exact s.gsep i b' L1 h1 h2
  · obtain ⟨h1, cs, h2⟩ := s.refs i L1 h
    have e1 := hne i _ h2
    exact ⟨(upd_ne _ _ e1).trans h1, cs, by rw [hg, if_neg e1]; exact h2⟩
  · rw [hg] at h
    by_cases e : i = d
    · rw [e]; exact hs
    · rw [if_neg e] at h; exact s.key i b' h
/-- A block's number is let go: nothing that is told names it any more. -/
theorem Sim.drop {K : Kx} {β F} {F' : Nat → Prop} {fr : Tr (V D.S)} {hp : Tr (B D.S)} {a : Act} {w : World} (s : Sim K β F fr hp a w) {d : Nat} (hs : d < 65535) (f : C D.S → C D.S)
    (hF : ∀ b, F b → F' b) (hF' : ∀ b, F' b → b < w.heap.size) (hsep : ∀ i b L, i ≠ d → hp.get i = some b → β i = some L → ¬ F' L.b)
    (hr : ∀ L, (d, L) ∉ K.refs) (hfs : ∀ b, F' b → K.F0 b ∨ K.w0.heap.size ≤ b)
    (H : ∀ c v, RC D w F hp.get β c v → RC D w F' (hp.set depth d none).get β (f c) v) :
    Sim K β F' (fr.map (mapV f)) ((hp.set depth d none).map (mapB f)) a w := by
  have hg : ∀ i, (hp.set depth d none).get i = if i = d then none else hp.get i := fun i => Tr.get_set _ _ _ _ _ (by rw [depth_ok]; omega)
  have hg' : ∀ i, ((hp.set depth d none).map (mapB f)).get i = ((hp.set depth d none).get i).map (mapB f) := fun i => Tr.get_map _ _ _
  have hk : ∀ c v, RC D w F' (hp.set depth d none).get β c v → RC D w F' ((hp.set depth d none).map (mapB f)).get β c v := fun c v => RC.trans (fun b hb => ⟨hb, rfl⟩) fun id h => by
    refine ⟨rfl, fun cs hc => ⟨cs.map f, by rw [hg', hc]; rfl⟩, fun t l hl => ⟨l, by rw [hg', hl]; rfl, rfl⟩⟩
  have H' : ∀ c v, RC D w F hp.get β c v → RC D w F' ((hp.set depth d none).map (mapB f)).get β (f c) v := fun c v r => hk _ _ (H c v r)
  have un : ∀ i b, ((hp.set depth d none).map (mapB f)).get i = some b → i ≠ d ∧ ∃ b0, hp.get i = some b0 ∧ mapB f b0 = b := fun i b h => by
    rw [hg', hg] at h
    by_cases e : i = d
    · rw [if_pos e] at h; cases h
    · rw [if_neg e] at h
      obtain ⟨b0, h0, rfl⟩ := Option.map_eq_some_iff.mp h
      exact ⟨e, b0, h0, rfl⟩
  refine ⟨s.sz, s.df, fun i v h => ?_, fun i b h => ?_, fun i j b1 b2 L1 L2 h1 h2 h3 h4 e => ?_, fun i b L1 h1 h2 => ?_, hF', s.keep, fun i b L1 h1 h2 => ?_, hfs, s.w0, fun i L1 h => ?_, fun i b h => ?_⟩
  · rw [Tr.get_map] at h
    obtain ⟨v0, h0, rfl⟩ := Option.map_eq_some_iff.mp h
    exact RV.map f H' (s.frm i v0 h0)
  · obtain ⟨e, b0, h0, rfl⟩ := un i b h
    have r := s.blk i b0 h0
    cases b0 with
    | box cs =>
      obtain ⟨L1, vs, t, r1, r2, r3, r4, r5⟩ := r
      exact ⟨L1, vs, t, r1, r2, r3, r4, RL.map f H' r5⟩
    | arr t l =>
      rcases r with r | ⟨L1, vs, e', r1, r2, r3, r4, r5⟩
      · exact .inl r
      · refine .inr ⟨L1, vs, e', r1, r2, r3, r4, fun i hi j x hx => ?_⟩
        obtain ⟨v, hv, rv⟩ := r5 i hi j x hx
        exact ⟨v, hv, RP.mono D (fun b hb => ⟨hF b hb, rfl⟩) rv⟩
  · obtain ⟨_, c1, g1, _⟩ := un i b1 h1
    obtain ⟨_, c2, g2, _⟩ := un j b2 h2
    exact s.inj i j c1 c2 L1 L2 g1 g2 h3 h4 e
  · obtain ⟨e, c1, g1, _⟩ := un i b h1
    exact ⟨hsep i c1 L1 e g1 h2, (s.sep i c1 L1 g1 h2).2⟩
  · obtain ⟨e, c1, g1, _⟩ := un i b h1
    exact s.gsep i c1 L1 g1 h2
  · obtain ⟨h1, cs, h2⟩ := s.refs i L1 h
    have e : i ≠ d := fun e => hr L1 (e ▸ h)
    exact ⟨h1, cs.map f, by rw [hg', hg, if_neg e, h2]; rfl⟩
  · obtain ⟨_, c1, g1, _⟩ := un i b h
    exact s.key i c1 g1
end
end Go.Proofs.Ytalgppclaolonaa.Ev
