/- Values without memory: each operation that only reckons. -/
import Derived.Test.YtalgppclaolonaaEv6
namespace Go.Proofs.Ytalgppclaolonaa.Ev
open Go
set_option linter.unusedVariables false
set_option linter.unusedSimpArgs false
section
variable {D : Tys} {P : Program}
theorem Sim.kill {K β F} {fr : Tr (V D.S)} {hp : Tr (B D.S)} {a : Act} {w : World} (s : Sim K β F fr hp a w) {id : Nat} (hid : id < 65535) {t : Ty} {l : List (T D.S t)} (h : hp.get id = some (.arr t l)) :
    Sim K β F (fr.map (mapV (killF id))) ((hp.set depth id none).map (mapB (killF id))) a w ∧
      (∀ c v, RC D w F hp.get β c v → RC D w F ((hp.set depth id none).map (mapB (killF id))).get β (killF id c) v) := by
  have hg : ∀ i, (hp.set depth id none).get i = if i = id then none else hp.get i := fun i => Tr.get_set _ _ _ _ _ (by rw [depth_ok]; omega)
  have e : ∀ i, i ≠ id → (hp.set depth id none).get i = hp.get i := fun i hi => by rw [hg, if_neg hi]
  have H : ∀ c v, RC D w F hp.get β c v → RC D w F (hp.set depth id none).get β (killF id c) v := by
    intro c v r
    cases c with
    | own i =>
      simp only [killF]
      by_cases e' : i = id
      · rw [if_pos e']; trivial
      · rw [if_neg e']; obtain ⟨t2, l2, g, r⟩ := r; exact ⟨t2, l2, by rw [e i e']; exact g, r⟩
    | part i off n =>
      simp only [killF]
      by_cases e' : i = id
      · rw [if_pos e']; trivial
      · rw [if_neg e']; obtain ⟨t2, l2, g, r⟩ := r; exact ⟨t2, l2, by rw [e i e']; exact g, r⟩
    | eptr i e0 off =>
      simp only [killF]
      by_cases e' : i = id
      · rw [if_pos e']; trivial
      · rw [if_neg e']; obtain ⟨t2, l2, L, g, r⟩ := r; exact ⟨t2, l2, L, by rw [e i e']; exact g, r⟩
    | ptr i off =>
      simp only [killF]
      by_cases e' : i = id
      · rw [if_pos e']; trivial
      · rw [if_neg e']; obtain ⟨cs, L, g, r⟩ := r; exact ⟨cs, L, by rw [e i e']; exact g, r⟩
    | any => trivial
    | fn f caps =>
      simp only [killF]
      by_cases e' : id ∈ caps
      · rw [if_pos e']; trivial
      · rw [if_neg e']
        obtain ⟨g, r⟩ := r
        refine ⟨g, fun i hi => ?_⟩
        obtain ⟨cs, L, g1, g2⟩ := r i hi
        exact ⟨cs, L, by rw [e i (fun e0 => e' (e0 ▸ hi))]; exact g1, g2⟩
    | int k n => exact r
    | bool b => exact r
    | str s => exact r
    | nilp => exact r
    | nils => exact r
    | emp => exact r
    | lst t l => exact r
    | fptr t l i o => exact r
    | nili => exact r
    | err t k n => exact r
    | nilf => exact r
  refine ⟨s.drop hid _ (fun _ h => h) s.old (fun i b L hi hb hL => (s.sep i b L hb hL).1) (fun L hL => ?_) s.fsub H, fun c v r => ?_⟩
  · obtain ⟨_, cs, g⟩ := s.refs id L hL
    rw [h] at g; cases g
  · refine RC.trans (fun b hb => ⟨hb, rfl⟩) (fun i hi => ?_) (H c v r)
    refine ⟨rfl, fun cs hc => ⟨cs.map (killF id), ?_⟩, fun t2 l2 hl => ⟨l2, ?_, rfl⟩⟩
    · rw [Tr.get_map, hc]; rfl
    · rw [Tr.get_map, hl]; rfl

/-- The operation does, in memory, what is told. -/
def Done (D : Tys) (P : Program) (K : Kx) (o : Oper) (a : Act) (w : World) (v : V D.S) (fr : Tr (V D.S)) (hp : Tr (B D.S)) : Prop :=
  ∃ β F cv w', ((execOp a.eval o).run P w = .ok (.value cv) w' ∨ ((execOp a.eval o).run P w = .ok .skip w' ∧ cv = undef)) ∧ Sim K β F fr hp a w' ∧ RV D w' F hp.get β v cv
def Post (D : Tys) (P : Program) (K : Kx) (o : Oper) (a : Act) (w : World) {R : Type} (k : KK D R) (r : R) : Prop :=
  ∃ v fr hp, k v fr hp = some r ∧ Done D P K o a w v fr hp
theorem Post.pure {K β F} {fr : Tr (V D.S)} {hp : Tr (B D.S)} {a : Act} {w : World} (s : Sim K β F fr hp a w) {o : Oper} {R : Type} {k : KK D R} {r : R} {v : V D.S} {cv : Value} (hk : k v fr hp = some r)
    (hr : (execOp a.eval o).run P w = .ok (.value cv) w) (hv : RV D w F hp.get β v cv) : Post D P K o a w k r := ⟨v, fr, hp, hk, β, F, cv, w, .inl hr, s, hv⟩
theorem bK_some {R : Type} {b : Bool} {k : Option R} {r : R} (h : bK b k = some r) : b = true ∧ k = some r := by cases b with | true => exact ⟨rfl, h⟩ | false => cases h
theorem bKK_some {R : Type} {b : Bool} {k k' : Option R} {r : R} (h : bKK b k k' = some r) : (b = true ∧ k = some r) ∨ (b = false ∧ k' = some r) := by
  cases b with | true => exact .inl ⟨rfl, h⟩ | false => exact .inr ⟨rfl, h⟩
theorem lk_ti (lw : Lawful D P) {t : TypeId} {ti : TI D.S} (h : lk D.ti t = some ti) : TiOk D P t ti := lw.ti t ti (lk_mem h)

variable {R : Type} {H : HH D R} {K : Kx} {β : Nat → Option Loc} {F : Nat → Prop} {fr : Tr (V D.S)} {hp : Tr (B D.S)} {a : Act} {w : World} {o : Oper} {d : Nat} {k : KK D R} {r : R}
theorem op_move (s : Sim K β F fr hp a w) {x : Operand} (ho : o.op = .move x) (h : opK D H (.move x) d fr hp k = some r) : Post D P K o a w k r := by
  simp only [opK] at h
  split at h
  · rename_i v hv
    exact Post.pure s h (by simp [execOp, ho]) (ev_ok s hv)
  · cases h
theorem op_assign (s : Sim K β F fr hp a w) {x : Operand} (ho : o.op = .assign x) (h : opK D H (.assign x) d fr hp k = some r) : Post D P K o a w k r := by
  simp only [opK] at h
  split at h
  · rename_i v hv
    exact Post.pure s h (by simp [execOp, ho]) (ev_ok s hv)
  · cases h
theorem RC.int_inv {w F h β k n v} (r : RC D w F h β (.int k n) v) : v = .int k n := by cases r; rfl
theorem RC.bool_inv {w F h β b v} (r : RC D w F h β (.bool b) v) : v = .bool b := by cases r; rfl
theorem RC.str_inv {w F h β b v} (r : RC D w F h β (.str b) v) : v = .string b := by cases r; rfl
theorem op_pick (s : Sim K β F fr hp a w) {c x y : Operand} (ho : o.op = .pick c x y) (h : opK D H (.pick c x y) d fr hp k = some r) : Post D P K o a w k r := by
  simp only [opK] at h
  split at h
  · rename_i b hc
    have e := RC.bool_inv (evC_ok s hc)
    rcases bKK_some h with ⟨eb, h2⟩ | ⟨eb, h2⟩
    · subst eb
      split at h2
      · rename_i v hv
        exact Post.pure s h2 (by simp [execOp, ho, e, asBool]) (ev_ok s hv)
      · cases h2
    · subst eb
      split at h2
      · rename_i v hv
        exact Post.pure s h2 (by simp [execOp, ho, e, asBool]) (ev_ok s hv)
      · cases h2
  · cases h
theorem op_load (lw : Lawful D P) (s : Sim K β F fr hp a w) {t : TypeId} {p : Operand} (ho : o.op = .load t p) (h : opK D H (.load t p) d fr hp k = some r) : Post D P K o a w k r := by
  simp only [opK] at h
  split at h
  · rename_i ti hti
    split at h
    · rename_i c hc
      split at h
      · rename_i x hx
        obtain ⟨cv, g1, g2⟩ := loadA_ok lw s (lk_ti lw hti) (evC_ok s hc) hx
        exact Post.pure s h (by simp [execOp, ho, g1]) g2
      · cases h
    · cases h
  · cases h
theorem op_extract (s : Sim K β F fr hp a w) {x : Operand} {i : Nat} (ho : o.op = .extract x i) (h : opK D H (.extract x i) d fr hp k = some r) : Post D P K o a w k r := by
  have nth : ∀ (l : List (A D.S)) (i : Nat) x, nthA D l i = some x → l[i]? = some x := by
    intro l
    induction l with
    | nil => intro i x h; cases h
    | cons y l ih => intro i x h; cases i with | zero => exact h | succ i => exact ih i x h
  simp only [opK] at h
  split at h
  · rename_i l hl
    split at h
    · rename_i x' hx
      obtain ⟨vs, e, g1, g2⟩ := ev_ok s hl
      have hx := nth l i x' hx
      have hi : i < vs.size := by rw [← g1]; exact (List.getElem?_eq_some_iff.mp hx).1
      exact Post.pure s h (cv := vs[i]) (by simp [execOp, ho, e, Instr.extract, hi]) (g2 i x' _ hx (Array.getElem?_eq_getElem hi))
    · cases h
  · cases h
theorem op_nilCheck (s : Sim K β F fr hp a w) {x : Operand} (ho : o.op = .nilCheck x) (h : opK D H (.nilCheck x) d fr hp k = some r) : Post D P K o a w k r := by
  simp only [opK] at h
  split at h
  · rename_i i off hc
    have rc := evC_ok s hc
    obtain ⟨cs, L, _, _, e⟩ := rc
    exact Post.pure s h (by simp [execOp, ho, e]) (e ▸ evC_ok s hc)
  · rename_i i e' off hc
    have rc := evC_ok s hc
    obtain ⟨t, l, L, _, _, _, e⟩ := rc
    exact Post.pure s h (by simp [execOp, ho, e]) (e ▸ evC_ok s hc)
  · rename_i t l i off hc
    have rc := evC_ok s hc
    have hr : ∃ A, a.eval x = .pointer (some A) := by
      generalize a.eval x = z at rc
      cases rc
      exact ⟨_, rfl⟩
    obtain ⟨A, e⟩ := hr
    exact Post.pure s h (by simp [execOp, ho, e]) (e ▸ evC_ok s hc)
  · rename_i f caps hc
    have rc := evC_ok s hc
    obtain ⟨e, _⟩ := rc
    exact Post.pure s h (by simp [execOp, ho, e]) (e ▸ evC_ok s hc)
  · cases h
theorem op_unOp (s : Sim K β F fr hp a w) {u : UnOp} {t : TypeId} {x : Operand} (ho : o.op = .unOp u t x) (h : opK D H (.unOp u t x) d fr hp k = some r) : Post D P K o a w k r := by
  simp only [opK] at h
  split at h
  · rename_i k1 n hc
    have e := RC.int_inv (evC_ok s hc)
    split at h
    · exact Post.pure s h (by simp [execOp, ho, e, Op.unary, Op.intArith]) (.int _ _)
    · exact Post.pure s h (by simp [execOp, ho, e, Op.unary, Op.intBits]; rfl) (.int _ _)
    · cases h
  · rename_i b hc
    have e := RC.bool_inv (evC_ok s hc)
    split at h
    · exact Post.pure s h (by simp [execOp, ho, e, Op.unary]) (.bool _)
    · cases h
  · cases h
theorem op_convert (lw : Lawful D P) (s : Sim K β F fr hp a w) {q t : TypeId} {x : Operand} (ho : o.op = .convert q t x) (h : opK D H (.convert q t x) d fr hp k = some r) : Post D P K o a w k r := by
  simp only [opK] at h
  split at h
  · cases h
  · rename_i tq htq
    obtain ⟨dq, hdq⟩ := Option.isSome_iff_exists.mp (lk_ti lw htq).und
    split at h
    · cases h
    rename_i ti hti
    have ok := lk_ti lw hti
    split at h
    · rename_i k1 kk n hd hc
      have e := RC.int_inv (evC_ok s hc)
      have hu := ok.desc
      rw [hd] at hu
      exact Post.pure s h (by simp [execOp, ho, e, convert, run_underlying hdq, run_underlying hu, Conv.intToInt]) (.int _ _)
    · rename_i z hd hc
      have e := RC.str_inv (evC_ok s hc)
      have hu := ok.desc
      rw [hd] at hu
      exact Post.pure s h (cv := .string z) (by simp [execOp, ho, e, convert, run_underlying hdq, run_underlying hu]) (.str _)
    · cases h
end
end Go.Proofs.Ytalgppclaolonaa.Ev
