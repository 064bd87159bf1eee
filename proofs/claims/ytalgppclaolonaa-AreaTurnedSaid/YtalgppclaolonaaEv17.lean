/- Values without memory: one operation with its guard; regions in their order. -/
import Derived.Test.YtalgppclaolonaaEv16
namespace Go.Proofs.Ytalgppclaolonaa.Ev
open Go
set_option linter.unusedVariables false
set_option linter.unusedSimpArgs false
section
variable {D : Tys} {P : Program}
variable {R : Type} {H : HH D R} {K : Kx} {β : Nat → Option Loc} {F : Nat → Prop} {fr : Tr (V D.S)} {hp : Tr (B D.S)} {a : Act} {w : World} {o : Oper} {d : Nat} {r : R}
/-- An operation's slot is one of the frame's. -/
def dstOk (n : Nat) (o : Oper) : Bool := match o.dst with | some d => decide (d < n) && decide (d < 65535) | none => true
/-- From a state that is told as (fr, hp), the operation comes to one that is told as (fr', hp'). -/
def Good (P : Program) (K : Kx) (o : Oper) (fr : Tr (V D.S)) (hp : Tr (B D.S)) (fr' : Tr (V D.S)) (hp' : Tr (B D.S)) : Prop :=
  ∀ (β : Nat → Option Loc) (F : Nat → Prop) (a : Act) (w : World), Sim K β F fr hp a w → ∀ (next : Act → World → Prop) (Q : Exit → Act → World → Prop), (∀ β' F' a' w', Sim K β' F' fr' hp' a' w' → next a' w') → o.wp P a w next Q
theorem Sim.same (s : Sim K β F fr hp a w) {d : Nat} {v : V D.S} (h : fr.get d = some v) (hd : d < 65535) : Sim K β F (fr.set depth d (some v)) hp a w := by
  refine ⟨s.sz, s.df, fun i x hx => ?_, s.blk, s.inj, s.sep, s.old, s.keep, s.gsep, s.fsub, s.w0, s.refs, s.key⟩
  rw [Tr.get_set _ _ _ _ _ (by rw [depth_ok]; omega)] at hx
  by_cases e : i = d
  · subst e
    rw [if_pos rfl] at hx
    obtain rfl := Option.some.inj hx
    exact s.frm i v h
  · rw [if_neg e] at hx; exact s.frm i x hx
theorem putK_eq {k : Tr (V D.S) → Option R} {dst : Option Tmp} {v : V D.S} : putK D dst v fr k = k (match dst with | some d => fr.set depth d (some v) | none => fr) := by
  unfold putK; split <;> first | rw [Tr.setK_eq] | rfl
theorem Sim.putD (s : Sim K β F fr hp a w) {dst : Option Tmp} {v : V D.S} {cv : Value} (h : RV D w F hp.get β v cv) (hd : ∀ d, dst = some d → d < K.n ∧ d < 65535) :
    Sim K β F (match dst with | some d => fr.set depth d (some v) | none => fr) hp (a.put dst cv) w := by
  cases dst with
  | none => exact s
  | some d => exact s.put h (hd d rfl).1 (hd d rfl).2
theorem capPtrs_ok {w F β} {hp : Tr (B D.S)} : ∀ (caps : List Nat), (∀ i ∈ caps, ∃ cs L, hp.get i = some (.box cs) ∧ β i = some L) → (hz : ∀ i b L, hp.get i = some (.box b) → β i = some L → L.o = 0) →
    (capPtrs D caps).length = (caps.map fun i => Value.pointer ((β i).map fun L => ⟨L.b, L.o, none⟩)).length ∧ ∀ (j : Nat) x v, (capPtrs D caps)[j]? = some x → (caps.map fun i => Value.pointer ((β i).map fun L => ⟨L.b, L.o, none⟩))[j]? = some v → RA D w F hp.get β x v
  | [], _, _ => ⟨rfl, fun j x v hx => by simp [capPtrs] at hx⟩
  | i :: caps, h, hz => by
    obtain ⟨i1, i2⟩ := capPtrs_ok (w := w) (F := F) caps (fun q hq => h q (List.mem_cons_of_mem _ hq)) hz
    obtain ⟨cs, L, g1, g2⟩ := h i List.mem_cons_self
    refine ⟨by simp only [capPtrs, List.length_cons, i1, List.map_cons], fun j x v hx hv => ?_⟩
    cases j with
    | zero =>
      simp only [capPtrs, List.getElem?_cons_zero, List.map_cons, Option.some.injEq] at hx hv
      subst hx; subst hv
      exact ⟨cs, L, g1, g2, by rw [g2]; rfl⟩
    | succ j =>
      simp only [capPtrs, List.getElem?_cons_succ, List.map_cons] at hx hv
      exact i2 j x v hx hv
/-- An operation, in memory, behind what is told of it. -/
theorem opK_wp (lw : Lawful D P) (hH : HOk D P H) (s : Sim K β F fr hp a w) (hd : dstOk K.n o = true) {k : KK D R} (h : opK D H o.op (o.dst.getD 999) fr hp k = some r) :
    ∃ v fr' hp', k v fr' hp' = some r ∧ ∀ (next : Act → World → Prop) (Q : Exit → Act → World → Prop), (∀ β' F' cv w', Sim K β' F' fr' hp' a w' → RV D w' F' hp'.get β' v cv → next (a.put o.dst cv) w') → o.wp P a w next Q := by
  have hd9 : o.dst.getD 999 < 65535 := by
    unfold dstOk at hd
    split at hd
    · rename_i d e
      rw [Bool.and_eq_true] at hd
      rw [e]; exact of_decide_eq_true hd.2
    · rename_i e; rw [e]; decide
  cases hc : isCall o.op
  · obtain ⟨v, fr', hp', h1, β', F', cv, w', h2, h3, h4⟩ := op_ok lw s hd9 hc h
    refine ⟨v, fr', hp', h1, fun next Q hn => ?_⟩
    unfold Oper.wp
    rcases h2 with h2 | ⟨h2, rfl⟩
    · rw [h2, Oper.upon_value]; exact hn β' F' cv w' h3 h4
    · rw [h2, Oper.upon_skip]; exact hn β' F' undef w' h3 h4
  · generalize ho : o.op = op at h hc
    unfold isCall at hc
    split at hc
    · rename_i f args ts
      simp only [opK] at h
      split at h
      · rename_i g caps as hf has
        obtain ⟨e1, e2⟩ := evC_ok s hf
        obtain ⟨l1, l2⟩ := evAs_ok s has
        obtain ⟨c1, c2⟩ := capPtrs_ok (w := w) (F := F) caps e2 (fun i b L hb hL => by
          obtain ⟨L', us, t, b1, b2, b3, _⟩ := s.blk i _ hb
          rw [hL] at b1; obtain rfl := Option.some.inj b1; exact b3)
        obtain ⟨v, fr', hp', h1, hrun⟩ := call_ok lw hH s (vs := args.toList.map a.eval ++ caps.map fun i => Value.pointer ((β i).map fun L => ⟨L.b, L.o, none⟩)) (by rw [List.length_append, List.length_append, List.length_map, l1, c1]) (fun j x u hx hu => by
          by_cases hj : j < as.length
          · rw [List.getElem?_append_left hj] at hx
            rw [List.getElem?_append_left (by rw [List.length_map, ← l1]; exact hj), List.getElem?_map] at hu
            obtain ⟨y, hy, rfl⟩ := Option.map_eq_some_iff.mp hu
            exact l2 j x y hx hy
          · rw [List.getElem?_append_right (by omega)] at hx
            rw [List.getElem?_append_right (by rw [List.length_map, ← l1]; omega), List.length_map, ← l1] at hu
            exact c2 _ x u hx hu) h
        refine ⟨v, fr', hp', h1, fun next Q hn => ?_⟩
        have hexec : (execOp a.eval o).run P w = (callFunc g (args.toList.map a.eval ++ caps.map fun i => Value.pointer ((β i).map fun L => ⟨L.b, L.o, none⟩)).toArray).run P w := by
          simp only [execOp, ho, resolve, e1, Deferred.ofValue, Sem.run_bind, Sem.run_pure, Result.andThen_ok, invoke]
          congr 2
          apply Array.toList_inj.mp
          simp
        unfold Oper.wp
        rw [hexec]
        rcases hrun with ⟨r1, r2⟩ | ⟨u, r1, cv, F', r2, r3, r4⟩
        · rw [r1, Oper.upon_enter]
          refine r2.mono ?_
          rintro e w' ⟨cv, F', rfl, r3, r4⟩
          exact hn β F' cv w' r3 r4
        · injection r2 with r2
          subst r2
          rw [r1, Oper.upon_value]
          exact hn β F' u w r3 r4
      · cases h
    · cases hc
theorem yieldK_some {ops : List Oper} {j : Nat} {fr : Tr (V D.S)} {k : Nat → Bool → Option R} (h : yieldK D ops j fr k = some r) : ∃ o d b, ops[j]? = some o ∧ o.dst = some d ∧ fr.get d = some (.a (.c (.bool b))) ∧ k d b = some r := by
  unfold yieldK at h
  split at h
  · rename_i d q1 q2 q3 q4 q5 hj
    split at h
    · rename_i b hb
      exact ⟨_, d, b, hj, rfl, hb, h⟩
    · cases h
  · cases h
theorem yielded_of (s : Sim K β F fr hp a w) {ops : Array Oper} {j d : Nat} {o : Oper} {b : Bool} (ho : ops.toList[j]? = some o) (hd : o.dst = some d) (hb : fr.get d = some (.a (.c (.bool b)))) : yielded ops a.tmps j = some b := by
  have r : RP D w F (.bool b) (a.tmps.getD d undef) := s.frm d _ hb
  have e : a.tmps[d]? = some (.bool b) := by
    rw [Array.getD_eq_getD_getElem?] at r
    cases h : a.tmps[d]? with
    | none => rw [h] at r; simp only [Option.getD_none] at r; unfold undef at r; cases r
    | some v => rw [h] at r; simp only [Option.getD_some] at r; cases r; rfl
  unfold yielded
  rw [← Array.getElem?_toList, ho]
  simp [hd, e]
/-- One operation with its guard, in memory. -/
theorem op1K0_wp (lw : Lawful D P) (hH : HOk D P H) (s : Sim K β F fr hp a w) (hd : dstOk K.n o = true) {ops : Array Oper} (hds : ∀ o ∈ ops.toList, dstOk K.n o = true) {k : Tr (V D.S) → Tr (B D.S) → Option R} (h : op1K0 D H ops.toList o fr hp k = some r) :
    ∃ fr' hp', k fr' hp' = some r ∧ ∀ (next : Act → World → Prop) (Q : Exit → Act → World → Prop), (∀ β' F' a' w', Sim K β' F' fr' hp' a' w' → next a' w') →
      (if Region.wanted o (yielded ops a.tmps) then o.wp P a w next Q ∨ (o.asks P a w ∧ LetsOut Q) else next (a.put o.dst undef) w) := by
  have hdd : ∀ d, o.dst = some d → d < K.n ∧ d < 65535 := fun d e => by
    unfold dstOk at hd
    rw [e, Bool.and_eq_true] at hd
    exact ⟨of_decide_eq_true hd.1, of_decide_eq_true hd.2⟩
  -- the operation is carried out, in a frame where a guard's slot is told as what it is
  have run : ∀ {fr1 : Tr (V D.S)}, Sim K β F fr1 hp a w → (opK D H o.op (o.dst.getD 999) fr1 hp fun v fr hp => putK D o.dst v fr fun fr => k fr hp) = some r → ∃ fr' hp', k fr' hp' = some r ∧ ∀ (next : Act → World → Prop) (Q : Exit → Act → World → Prop), (∀ β' F' a' w', Sim K β' F' fr' hp' a' w' → next a' w') → o.wp P a w next Q := by
    intro fr1 s1 h1
    obtain ⟨v, fr2, hp2, h2, hw⟩ := opK_wp lw hH s1 hd h1
    rw [putK_eq] at h2
    exact ⟨_, _, h2, fun next Q hn => hw next Q fun β' F' cv w' s' rv => hn β' F' _ w' (s'.putD rv hdd)⟩
  have skip : ∀ {fr1 : Tr (V D.S)}, Sim K β F fr1 hp a w → (putK D o.dst (.tup []) fr1 fun fr => k fr hp) = some r → ∃ fr' hp', k fr' hp' = some r ∧ ∀ (next : Act → World → Prop), (∀ β' F' a' w', Sim K β' F' fr' hp' a' w' → next a' w') → next (a.put o.dst undef) w := by
    intro fr1 s1 h1
    rw [putK_eq] at h1
    exact ⟨_, _, h1, fun next hn => hn β F _ w (s1.putD (v := .tup []) ⟨#[], rfl, rfl, fun j x v h => by simp at h⟩ hdd)⟩
  have slot : ∀ {j d b}, (∃ o' : Oper, ops.toList[j]? = some o' ∧ o'.dst = some d) → fr.get d = some (.a (.c (.bool b))) → Sim K β F (fr.set depth d (some (cV (.bool b)))) hp a w := fun {j d b} hx hb => by
    obtain ⟨o', h1, h2⟩ := hx
    have := hds o' (List.mem_of_getElem? h1)
    unfold dstOk at this
    rw [h2, Bool.and_eq_true] at this
    exact s.same hb (of_decide_eq_true this.2)
  unfold op1K0 at h
  split at h
  · rename_i hg
    obtain ⟨fr', hp', h1, h2⟩ := run s h
    refine ⟨fr', hp', h1, fun next Q hn => ?_⟩
    have : Region.wanted o (yielded ops a.tmps) = true := by unfold Region.wanted; rw [hg]
    rw [if_pos this]
    exact .inl (h2 next Q hn)
  · rename_i j hg
    obtain ⟨o', d', b, e1, e2, e3, h⟩ := yieldK_some h
    have hy := yielded_of s e1 e2 e3
    have hs := slot ⟨o', e1, e2⟩ e3
    rcases bKK_some h with ⟨eb, h'⟩ | ⟨eb, h'⟩
    · subst eb
      clear h
      have h := h'
      rw [Tr.setK_eq] at h
      obtain ⟨fr', hp', h1, h2⟩ := run hs h
      refine ⟨fr', hp', h1, fun next Q hn => ?_⟩
      have : Region.wanted o (yielded ops a.tmps) = true := by unfold Region.wanted; rw [hg]; simp [hy]
      rw [if_pos this]
      exact .inl (h2 next Q hn)
    · subst eb
      clear h
      have h := h'
      rw [Tr.setK_eq] at h
      obtain ⟨fr', hp', h1, h2⟩ := skip hs h
      refine ⟨fr', hp', h1, fun next Q hn => ?_⟩
      have : ¬ Region.wanted o (yielded ops a.tmps) = true := by unfold Region.wanted; rw [hg]; simp [hy]
      rw [if_neg this]
      exact h2 next hn
  · rename_i j hg
    obtain ⟨o', d', b, e1, e2, e3, h⟩ := yieldK_some h
    have hy := yielded_of s e1 e2 e3
    have hs := slot ⟨o', e1, e2⟩ e3
    rcases bKK_some h with ⟨eb, h'⟩ | ⟨eb, h'⟩
    · subst eb
      clear h
      have h := h'
      rw [Tr.setK_eq] at h
      obtain ⟨fr', hp', h1, h2⟩ := skip hs h
      refine ⟨fr', hp', h1, fun next Q hn => ?_⟩
      have : ¬ Region.wanted o (yielded ops a.tmps) = true := by unfold Region.wanted; rw [hg]; simp [hy]
      rw [if_neg this]
      exact h2 next hn
    · subst eb
      clear h
      have h := h'
      rw [Tr.setK_eq] at h
      obtain ⟨fr', hp', h1, h2⟩ := run hs h
      refine ⟨fr', hp', h1, fun next Q hn => ?_⟩
      have : Region.wanted o (yielded ops a.tmps) = true := by unfold Region.wanted; rw [hg]; simp [hy]
      rw [if_pos this]
      exact .inl (h2 next Q hn)
theorem skB_some {ops : List Oper} {d : Nat} (h : skB D ops o fr = some d) : ∃ j w o', o.guard = some (j, w) ∧ ops[j]? = some o' ∧ o'.dst = some d ∧ fr.get d = some (.tup []) := by
  unfold skB at h
  split at h
  · cases h
  · rename_i j w hg
    split at h
    · rename_i d' q1 q2 q3 q4 q5 hj
      split at h
      · rename_i hb
        obtain rfl := Option.some.inj h
        exact ⟨j, w, _, hg, hj, rfl, hb⟩
      · cases h
    · cases h
theorem op1K_wp (lw : Lawful D P) (hH : HOk D P H) (s : Sim K β F fr hp a w) (hd : dstOk K.n o = true) {ops : Array Oper} (hds : ∀ o ∈ ops.toList, dstOk K.n o = true) {k : Tr (V D.S) → Tr (B D.S) → Option R} (h : op1K D H ops.toList o fr hp k = some r) :
    ∃ fr' hp', k fr' hp' = some r ∧ ∀ (next : Act → World → Prop) (Q : Exit → Act → World → Prop), (∀ β' F' a' w', Sim K β' F' fr' hp' a' w' → next a' w') →
      (if Region.wanted o (yielded ops a.tmps) then o.wp P a w next Q ∨ (o.asks P a w ∧ LetsOut Q) else next (a.put o.dst undef) w) := by
  unfold op1K at h
  split at h
  · rename_i d hsk
    obtain ⟨j, w', o', hg, h1, h2, h3⟩ := skB_some hsk
    have hdd : ∀ d, o.dst = some d → d < K.n ∧ d < 65535 := fun d e => by
      unfold dstOk at hd
      rw [e, Bool.and_eq_true] at hd
      exact ⟨of_decide_eq_true hd.1, of_decide_eq_true hd.2⟩
    rw [putK_eq] at h
    refine ⟨_, _, h, fun next Q hn => ?_⟩
    have hy : yielded ops a.tmps j = none := by
      have r : RV D w F hp.get β (.tup []) (a.tmps.getD d undef) := s.frm d _ h3
      obtain ⟨vs, hv, _, _⟩ := r
      rw [Array.getD_eq_getD_getElem?] at hv
      unfold yielded
      rw [← Array.getElem?_toList, h1]
      cases ht : a.tmps[d]? with
      | none => simp [h2, ht]
      | some v => rw [ht] at hv; simp only [Option.getD_some] at hv; subst hv; simp [h2, ht]
    have : ¬ Region.wanted o (yielded ops a.tmps) = true := by unfold Region.wanted; rw [hg]; simp [hy]
    rw [if_neg this]
    exact hn β F _ w (s.putD (v := .tup []) ⟨#[], rfl, rfl, fun j x v h => by simp at h⟩ hdd)
  · exact op1K0_wp lw hH s hd hds h
/-- A region in its order. -/
theorem opsK_wp (lw : Lawful D P) (hH : HOk D P H) {ops : Array Oper} (hds : ∀ o ∈ ops.toList, dstOk K.n o = true) {k : Tr (V D.S) → Tr (B D.S) → Option R} {Q : Exit → Act → World → Prop}
    (hQ : ∀ fr' hp' β' F' a' w', k fr' hp' = some r → Sim K β' F' fr' hp' a' w' → Q .normal a' w') :
    ∀ (n : Nat) (i : Nat) {β F fr hp a w}, i + n = ops.size → Sim K β F fr hp a w → opsK D H ops.toList (ops.toList.drop i) fr hp k = some r → wpOps P ops Q (List.range' i n) a w
  | 0, i, β, F, fr, hp, a, w, hi, s, h => by
    have : ops.toList.length = ops.size := Array.length_toList
    rw [List.drop_of_length_le (by omega)] at h
    exact hQ _ _ _ _ _ _ h s
  | n + 1, i, β, F, fr, hp, a, w, hi, s, h => by
    have hlt : i < ops.toList.length := by rw [Array.length_toList]; omega
    rw [List.drop_eq_getElem_cons hlt] at h
    obtain ⟨fr', hp', h1, h2⟩ := op1K_wp lw hH s (hds _ (List.getElem_mem hlt)) hds h
    have ho : ops[i]? = some ops.toList[i] := by rw [← Array.getElem?_toList]; exact List.getElem?_eq_getElem hlt
    rw [List.range'_succ]
    simp only [wpOps, ho]
    exact h2 _ _ fun β' F' a' w' s' => opsK_wp lw hH hds hQ n (i + 1) (by omega) s' h1
end
end Go.Proofs.Ytalgppclaolonaa.Ev
