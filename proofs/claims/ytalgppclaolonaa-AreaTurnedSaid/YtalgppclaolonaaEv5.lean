/- Values without memory: loads and stores. -/
import Derived.Test.YtalgppclaolonaaEv4
namespace Go.Proofs.Ytalgppclaolonaa.Ev
open Go
set_option linter.unusedVariables false
set_option linter.unusedSimpArgs false
section
variable {D : Tys} {P : Program}
theorem cell_of {w : World} {b : Nat} {vs : Array Value} {t : TypeId} {z : Nat × Nat} (h : w.heap[b]? = some (.cells vs t z)) (o : Nat) : w.cell? ⟨b, o, none⟩ = vs[o]? := by
  simp [World.cell?, h]
/-- Cells, side by side: n of them, from an address on. -/
def Side (w : World) (F : Nat → Prop) (h : Hp D) (β : Nat → Option Loc) (b o : Nat) (cs : List (C D.S)) : Prop :=
  ∀ (j : Nat) x, cs[j]? = some x → ∃ v, w.cell? ⟨b, o + j, none⟩ = some v ∧ RC D w F h β x v
theorem Side.sub {w F h β b o} {cs l : List (C D.S)} {off n : Nat} (hs : Side w F h β b o cs) (e : subS off n cs = some l) :
    ∃ vs, vs.length = n ∧ At w b (o + off) vs ∧ RL D w F h β l vs := by
  have e1 := subS_eq e
  have hl : l.length = n := by rw [e1.1, List.length_take, List.length_drop]; omega
  refine ⟨(List.range n).map fun j => (w.cell? ⟨b, o + off + j, none⟩).getD undef, by simp, fun j v hv => ?_, by simp [hl], fun j x v hx hv => ?_⟩
  · rw [List.getElem?_map] at hv
    obtain ⟨k, hk, rfl⟩ := Option.map_eq_some_iff.mp hv
    have hj : j < n := by
      have := (List.getElem?_eq_some_iff.mp hk).1
      simpa using this
    rw [List.getElem?_range hj, Option.some.injEq] at hk
    subst hk
    obtain ⟨v, hv, _⟩ := hs (off + j) _ (List.getElem?_eq_getElem (by omega))
    rw [← Nat.add_assoc] at hv
    rw [hv]
    rfl
  · have hj : j < n := by
      have := (List.getElem?_eq_some_iff.mp hx).1
      omega
    rw [subS_at e j hj] at hx
    obtain ⟨v', hv', r⟩ := hs (off + j) x hx
    rw [← Nat.add_assoc] at hv'
    rw [List.getElem?_map, List.getElem?_range hj] at hv
    simp only [Option.map_some, Option.some.injEq] at hv
    rw [hv'] at hv
    simp only [Option.getD_some] at hv
    subst hv
    exact r
theorem Side.load {w F h β b o} {cs l : List (C D.S)} {t : TypeId} {ti : TI D.S} {off : Nat} {x : A D.S} (hs : Side w F h β b o cs) (e : subS off ti.size cs = some l) (hm : mkA ti.agg l = some x)
    (ok : TiOk D P t ti) : ∃ cv, (loadVar t ⟨b, o + off, none⟩).run P w = .ok cv w ∧ RA D w F h β x cv := by
  obtain ⟨vs, hl, ha, hr⟩ := hs.sub e
  obtain ⟨j, hj, hz, _⟩ := ok.info
  obtain ⟨v, hv, g1, g2⟩ := run_loadVar (P := P) hj ok.und (by rw [hz]; exact hl) (by rw [hz]; exact ok.pos) ha
  refine ⟨v, hv, ?_⟩
  obtain ⟨_, m1, m2⟩ := mkA_eq hm
  rw [ok.agg] at g1 g2
  cases hg : ti.agg
  · obtain ⟨c, rfl, rfl⟩ := m2 hg
    exact hr.2 0 c v rfl (g2 hg)
  · obtain rfl := m1 hg
    exact ⟨vs.toArray, g1 hg, hr⟩
theorem side_box {K β F} {fr : Tr (V D.S)} {hp : Tr (B D.S)} {a : Act} {w : World} (s : Sim K β F fr hp a w) {id : Nat} {cs : List (C D.S)} {L : Loc} (h : hp.get id = some (.box cs)) (hL : β id = some L) :
    Side w F hp.get β L.b L.o cs := by
  obtain ⟨L', vs, t, h1, h2, h3, h4, h5⟩ := s.blk id _ h
  rw [hL] at h1
  obtain rfl := Option.some.inj h1
  intro j x hx
  have hj : j < vs.toList.length := by rw [← h5.1]; exact (List.getElem?_eq_some_iff.mp hx).1
  refine ⟨vs.toList[j], ?_, h5.2 j x _ hx (List.getElem?_eq_getElem hj)⟩
  rw [cell_of h2, h3, Nat.zero_add, ← Array.getElem?_toList]
  exact List.getElem?_eq_getElem hj
theorem side_arr (lw : Lawful D P) {K β F} {fr : Tr (V D.S)} {hp : Tr (B D.S)} {a : Act} {w : World} (s : Sim K β F fr hp a w) {id : Nat} {t : Ty} {l : List (T D.S t)} {L : Loc} (h : hp.get id = some (.arr t l)) (hL : β id = some L)
    {e : Nat} (he : e < l.length) : Side w F hp.get β L.b (L.o + e * size D t) (encL D t (getT D t l e)) := by
  rcases s.blk id _ h with ⟨h1, _⟩ | ⟨L', vs, t', h1, h2, h3, h4, h5⟩
  · rw [hL] at h1; cases h1
  rw [hL] at h1
  obtain rfl := Option.some.inj h1
  intro j x hx
  have eg : getT D t l e = l[e] := by unfold getT; rw [List.getD_eq_getElem?_getD, List.getElem?_eq_getElem he]; rfl
  rw [eg] at hx
  obtain ⟨v, hv, r⟩ := h5 e he j x hx
  exact ⟨v, by rw [cell_of h2]; exact hv, (encL_pure lw t _ x (List.mem_of_getElem? hx) _ _ _ _ _).mpr r⟩
theorem loadA_ok (lw : Lawful D P) {K β F} {fr : Tr (V D.S)} {hp : Tr (B D.S)} {a : Act} {w : World} (s : Sim K β F fr hp a w) {t : TypeId} {ti : TI D.S} {c : C D.S} {v : Value} {x : A D.S}
    (ok : TiOk D P t ti) (r : RC D w F hp.get β c v) (e : loadA D hp ti c = some x) : ∃ cv, (Instr.loadAt t v).run P w = .ok cv w ∧ RA D w F hp.get β x cv := by
  unfold loadA at e
  split at e
  · rename_i id off
    split at e
    · rename_i cs hcs
      split at e
      · rename_i l hl
        obtain ⟨cs', L, h1, h2, rfl⟩ := r
        rw [hcs] at h1
        obtain rfl : cs = cs' := by injection h1 with h1; injection h1
        obtain ⟨cv, g1, g2⟩ := (side_box s hcs h2).load hl e ok
        exact ⟨cv, by simp only [Instr.loadAt, Instr.sureAddr]; exact g1, g2⟩
      · cases e
    · cases e
  · rename_i id e' off
    split at e
    · rename_i t' l' hl'
      split at e
      · rename_i l hl
        obtain ⟨t2, l2, L, h1, h2, h3, rfl⟩ := r
        rw [hl'] at h1
        injection h1 with h1
        injection h1 with h4 h5
        subst h4
        obtain rfl := eq_of_heq h5
        obtain ⟨cv, g1, g2⟩ := (side_arr lw s hl' h2 h3).load hl e ok
        exact ⟨cv, by simp only [Instr.loadAt, Instr.sureAddr]; exact g1, g2⟩
      · cases e
    · cases e
  · rename_i t' l' e' off
    split at e
    · rename_i l hl
      cases r with
      | fptr _ _ _ _ b o f hb he hf hr =>
        have hs : Side w F hp.get β b (o + e' * size D t') (encL D t' (getT D t' l' e')) := fun j x hx => by
          have eg : getT D t' l' e' = l'[e'] := by unfold getT; rw [List.getD_eq_getElem?_getD, List.getElem?_eq_getElem he]; rfl
          rw [eg] at hx
          have hj : j < size D t' := by rw [← encL_len lw t' l'[e']]; exact (List.getElem?_eq_some_iff.mp hx).1
          exact ⟨f e' j, hf e' j he hj, (encL_pure lw t' _ x (List.mem_of_getElem? hx) _ _ _ _ _).mpr (hr e' he j x hx)⟩
        obtain ⟨cv, g1, g2⟩ := hs.load hl e ok
        exact ⟨cv, by simp only [Instr.loadAt, Instr.sureAddr]; exact g1, g2⟩
    · cases e
  · cases e

/-! ### stores -/
/-- The cells of a block are written from o on. -/
def putV (vs : Array Value) (o : Nat) (xs : List Value) : Array Value := (vs.toList.take o ++ xs ++ vs.toList.drop (o + xs.length)).toArray
theorem putV_size {vs : Array Value} {o : Nat} {xs : List Value} (h : o + xs.length ≤ vs.size) : (putV vs o xs).size = vs.size := by
  simp [putV]; omega
theorem putV_in {vs : Array Value} {o : Nat} {xs : List Value} (h : o + xs.length ≤ vs.size) (j : Nat) (hj : j < xs.length) : (putV vs o xs)[o + j]? = xs[j]? := by
  have hz : vs.toList.length = vs.size := Array.length_toList
  unfold putV
  rw [List.getElem?_toArray, List.append_assoc, List.getElem?_append_right (by rw [List.length_take]; omega), List.getElem?_append_left (by rw [List.length_take]; omega)]
  congr 1
  rw [List.length_take]; omega
theorem putV_out {vs : Array Value} {o : Nat} {xs : List Value} (h : o + xs.length ≤ vs.size) (j : Nat) (hj : j < o ∨ o + xs.length ≤ j) : (putV vs o xs)[j]? = vs[j]? := by
  have hz : vs.toList.length = vs.size := Array.length_toList
  unfold putV
  rw [List.getElem?_toArray, ← Array.getElem?_toList]
  rcases hj with hj | hj
  · rw [List.append_assoc, List.getElem?_append_left (by rw [List.length_take]; omega), List.getElem?_take_of_lt hj]
  · rw [List.getElem?_append_right (by rw [List.length_append, List.length_take]; omega), List.getElem?_drop]
    congr 1
    rw [List.length_append, List.length_take]; omega
def World.setBlock (w : World) (b : Nat) (o : Obj) : World := { w with heap := w.heap.setIfInBounds b o }
theorem setBlock_at {w : World} {b : Nat} {o : Obj} (h : b < w.heap.size) : (World.setBlock w b o).heap[b]? = some o := by
  simp [World.setBlock, Array.getElem?_setIfInBounds, h]
theorem setBlock_ne {w : World} {b b' : Nat} {o : Obj} (h : b' ≠ b) : (World.setBlock w b o).heap[b']? = w.heap[b']? := by
  simp [World.setBlock, Array.getElem?_setIfInBounds, Ne.symm h]
theorem setCells_block {w : World} {b : Nat} {vs : Array Value} {t : TypeId} {z : Nat × Nat} (h : w.heap[b]? = some (.cells vs t z)) : ∀ (xs : List Value) (o : Nat), o + xs.length ≤ vs.size →
    w.setCells b o xs = World.setBlock w b (.cells (putV vs o xs) t z)
  | [], o, hl => by
    have e : putV vs o [] = vs := by unfold putV; simp
    rw [e]
    have hb : b < w.heap.size := (Array.getElem?_eq_some_iff.mp h).1
    unfold World.setCells World.setBlock
    cases w
    simp only [World.mk.injEq, and_true, true_and]
    simp only [] at h hb
    apply Array.ext_getElem?
    intro i
    rw [Array.getElem?_setIfInBounds]
    split
    · rename_i e; subst e; exact h
    · rfl
  | x :: xs, o, hl => by
    have hb : b < w.heap.size := (Array.getElem?_eq_some_iff.mp h).1
    simp only [List.length_cons] at hl
    have e1 : w.setCell ⟨b, o, none⟩ x = World.setBlock w b (.cells (vs.setIfInBounds o x) t z) := by
      unfold World.setCell World.setBlock
      cases w
      simp only [World.mk.injEq, and_true, true_and]
      simp only [] at h hb
      apply Array.ext_getElem?
      intro i
      rw [Array.getElem?_modify, Array.getElem?_setIfInBounds]
      by_cases e : b = i
      · subst e; rw [if_pos rfl, if_pos rfl, if_pos hb, h]; rfl
      · rw [if_neg e, if_neg e]
    have ih := setCells_block (w := World.setBlock w b (.cells (vs.setIfInBounds o x) t z)) (setBlock_at hb) xs (o + 1) (by simp only [Array.size_setIfInBounds]; omega)
    show (w.setCell ⟨b, o, none⟩ x).setCells b (o + 1) xs = _
    rw [e1, ih]
    have e2 : putV (vs.setIfInBounds o x) (o + 1) xs = putV vs o (x :: xs) := by
      unfold putV
      congr 1
      have ht : (vs.setIfInBounds o x).toList = vs.toList.set o x := Array.toList_setIfInBounds
      have hlt : o < vs.toList.length := by rw [Array.length_toList]; omega
      rw [ht, List.take_succ_eq_append_getElem (by simpa using hlt), List.getElem_set_self, List.take_set_of_le (Nat.le_refl _), List.drop_set_of_lt (by omega)]
      simp only [List.append_assoc, List.singleton_append, List.cons_append, List.nil_append, List.length_cons]
      rw [show o + 1 + xs.length = o + (xs.length + 1) by omega]
    rw [e2]
    unfold World.setBlock
    simp only [World.mk.injEq, and_true, true_and]
    apply Array.ext_getElem?
    intro i
    simp only [Array.getElem?_setIfInBounds, Array.size_setIfInBounds]
    split <;> rfl
/-- A told block's cells are turned, and what is told of it. -/
theorem Sim.setblk {K β F} {fr : Tr (V D.S)} {hp : Tr (B D.S)} {a : Act} {w : World} (s : Sim K β F fr hp a w) {id : Nat} (hid : id < 65535) {b0 b1 : B D.S} {L : Loc} (h : hp.get id = some b0) (hL : β id = some L)
    {vs vs' : Array Value} {t : TypeId} (hv : w.heap[L.b]? = some (.cells vs t (0, 0))) (hz : vs'.size = vs.size)
    (hk : (∀ cs, b0 = .box cs → ∃ cs', b1 = .box cs') ∧ (∀ t l, b0 = .arr t l → ∃ l', b1 = .arr t l' ∧ l'.length = l.length))
    (hb : (∀ c v, RC D w F hp.get β c v → RC D (World.setBlock w L.b (.cells vs' t (0, 0))) F (hp.set depth id (some b1)).get β c v) →
      RB D (World.setBlock w L.b (.cells vs' t (0, 0))) F (hp.set depth id (some b1)).get β id b1) :
    Sim K β F fr (hp.set depth id (some b1)) a (World.setBlock w L.b (.cells vs' t (0, 0))) ∧
      ∀ c v, RC D w F hp.get β c v → RC D (World.setBlock w L.b (.cells vs' t (0, 0))) F (hp.set depth id (some b1)).get β c v := by
  have hlt : L.b < w.heap.size := (Array.getElem?_eq_some_iff.mp hv).1
  have hnF : ¬ F L.b := (s.sep id b0 L h hL).1
  have hg : ∀ i, (hp.set depth id (some b1)).get i = if i = id then some b1 else hp.get i := fun i => Tr.get_set _ _ _ _ _ (by rw [depth_ok]; omega)
  have hF : ∀ b, F b → F b ∧ (World.setBlock w L.b (.cells vs' t (0, 0))).heap[b]? = w.heap[b]? := fun b hb => ⟨hb, setBlock_ne fun e => hnF (e ▸ hb)⟩
  have hR : ∀ c v, RC D w F hp.get β c v → RC D (World.setBlock w L.b (.cells vs' t (0, 0))) F (hp.set depth id (some b1)).get β c v := fun c v => RC.trans hF fun i hi => by
    by_cases e : i = id
    · subst e
      refine ⟨rfl, fun cs hc => ?_, fun t l hl => ?_⟩
      · rw [h] at hc
        obtain ⟨cs', e'⟩ := hk.1 cs (Option.some.inj hc)
        exact ⟨cs', by rw [hg, if_pos rfl, e']⟩
      · rw [h] at hl
        obtain ⟨l', e', g⟩ := hk.2 t l (Option.some.inj hl)
        exact ⟨l', by rw [hg, if_pos rfl, e'], g⟩
    · exact Keep.rfl' (by rw [hg, if_neg e]) rfl
  have hz' : (World.setBlock w L.b (.cells vs' t (0, 0))).heap.size = w.heap.size := by simp [World.setBlock]
  have ex : ∀ i b, (hp.set depth id (some b1)).get i = some b → ∃ b', hp.get i = some b' := fun i b hi => by
    rw [hg] at hi
    by_cases e : i = id
    · exact ⟨b0, e ▸ h⟩
    · rw [if_neg e] at hi; exact ⟨b, hi⟩
  refine ⟨⟨s.sz, s.df, fun i v h => RV.trans hR (s.frm i v h), fun i b hi => ?_, fun i j b b' L1 L2 h1 h2 h3 h4 e => ?_, fun i b L1 h1 h2 => ?_, fun b hb => by rw [hz']; exact s.old b hb,
    fun b hb => (setBlock_ne (show b ≠ L.b from fun e => by rw [e] at hb; exact s.gsep id b0 L h hL hb)).trans (s.keep b hb), fun i b L1 h1 h2 => (by obtain ⟨c1, g1⟩ := ex i b h1; exact s.gsep i c1 L1 g1 h2), s.fsub, ⟨by rw [hz']; exact s.w0.1, s.w0.2⟩, fun i L1 h1 => ?_, fun i b h1 => ?_⟩, hR⟩
  · rw [hg] at hi
    by_cases e : i = id
    · subst e
      rw [if_pos rfl] at hi
      obtain rfl := Option.some.inj hi
      exact hb hR
    · rw [if_neg e] at hi
      have hne : ∀ L1, β i = some L1 → L1.b ≠ L.b := fun L1 h1 e' => e (s.inj i id b b0 L1 L hi h h1 hL e')
      have r := s.blk i b hi
      cases b with
      | box cs =>
        obtain ⟨L1, us, t', r1, r2, r3, r4, r5⟩ := r
        exact ⟨L1, us, t', r1, (setBlock_ne (hne L1 r1)).trans r2, r3, r4, RL.trans hR r5⟩
      | arr t' l =>
        rcases r with r | ⟨L1, us, e', r1, r2, r3, r4, r5⟩
        · exact .inl r
        · refine .inr ⟨L1, us, e', r1, (setBlock_ne (hne L1 r1)).trans r2, r3, r4, fun i hi j x hx => ?_⟩
          obtain ⟨v, hv, rv⟩ := r5 i hi j x hx
          exact ⟨v, hv, RP.mono D hF rv⟩
  · obtain ⟨c1, g1⟩ := ex i b h1
    obtain ⟨c2, g2⟩ := ex j b' h2
    exact s.inj i j c1 c2 L1 L2 g1 g2 h3 h4 e
  · obtain ⟨c1, g1⟩ := ex i b h1
    rw [hz']
    exact s.sep i c1 L1 g1 h2
  · obtain ⟨g1, cs, g2⟩ := s.refs i L1 h1
    refine ⟨g1, ?_⟩
    by_cases e : i = id
    · subst e
      rw [h] at g2
      obtain ⟨cs', e'⟩ := hk.1 cs (Option.some.inj g2)
      exact ⟨cs', by rw [hg, if_pos rfl, e']⟩
    · exact ⟨cs, by rw [hg, if_neg e]; exact g2⟩
  · obtain ⟨c1, g1⟩ := ex i b h1
    exact s.key i c1 g1
theorem RL.one {w F h β} {cs : List (C D.S)} {vs : List Value} (r : RL D w F h β cs vs) (hn : noAny cs = true) : ∀ v ∈ vs, v.oneCell' = true := fun v hv => by
  obtain ⟨j, hj⟩ := List.getElem?_of_mem hv
  have hlt : j < cs.length := by rw [r.1]; exact (List.getElem?_eq_some_iff.mp hj).1
  have hx := List.getElem?_eq_getElem hlt
  exact (RC.one (r.2 j _ v hx hj) (noAny_ne hn _ (List.getElem_mem hlt))).1
theorem RA.cells {w F h β} {x : A D.S} {v : Value} (r : RA D w F h β x v) (hn : noAny x.cells = true) : RL D w F h β x.cells v.cells.toList :=
  r.cells_len fun c e => by subst e; exact (RC.one r (noAny_ne hn c (by simp [A.cells]))).2
theorem run_storeVar {t : TypeId} {j : TypeInfo} (h : P.info? t = some j) {w : World} {b o : Nat} {v : Value} {vs : Array Value} {e : TypeId} (hb : w.heap[b]? = some (.cells vs e (0, 0)))
    (hl : v.cells.size = j.size) (hr : o + j.size ≤ vs.size) (h1 : ∀ u ∈ v.cells.toList, u.oneCell' = true) :
    (storeVar t ⟨b, o, none⟩ v).run P w = .ok () (World.setBlock w b (.cells (putV vs o v.cells.toList) e (0, 0))) := by
  have hs := run_storeCells_cells (P := P) b o v.cells.toList 0 w (fun i hi => by
    rw [cell_of hb, Array.getElem?_eq_getElem (by rw [Array.length_toList] at hi; omega)]; rfl) (fun i hi => by
    simp [World.frozen?, hb]) h1
  rw [setCells_block hb _ _ (by rw [Array.length_toList]; omega)] at hs
  simp only [Nat.add_zero] at hs
  simp [storeVar, run_sizeOf' h, hl, hs]
theorem decC_le {t : Ty} {c : C D.S} {x : T D.S t} (h : decC D t c = some x) (ht : ∀ n, t ≠ .st n) : ∀ c', (encL D t x)[0]? = some c' → Cle c c' := by
  intro c' hc'
  unfold decC at h
  split at h
  · split at h
    · rename_i k k' n e
      subst e
      obtain rfl := Option.some.inj h
      obtain rfl := Option.some.inj hc'
      exact fun _ _ _ r => r
    · cases h
  · obtain rfl := Option.some.inj h
    obtain rfl := Option.some.inj hc'
    exact fun _ _ _ r => r
  · obtain rfl := Option.some.inj h
    obtain rfl := Option.some.inj hc'
    exact fun _ _ _ r => r
  · split at h
    · rename_i t' l e' e _
      subst e
      obtain rfl := Option.some.inj h
      obtain rfl := Option.some.inj hc'
      exact fun _ _ _ r => r
    · cases h
  · obtain rfl := Option.some.inj h
    obtain rfl := Option.some.inj hc'
    intro w F v r
    cases r
    exact .lst0 _ _ _
  · obtain rfl := Option.some.inj h
    obtain rfl := Option.some.inj hc'
    intro w F v r
    cases r
    exact .lst0 _ _ _
  · cases h
theorem decL_le (lw : Lawful D P) {t : Ty} {cs : List (C D.S)} {x : T D.S t} (h : decL D t cs = some x) : cs.length = size D t ∧ ∀ (j : Nat) c c', cs[j]? = some c → (encL D t x)[j]? = some c' → Cle c c' := by
  cases t with
  | st n => exact lw.dec n cs x h
  | int k =>
    unfold decL at h
    match cs, h with
    | [c], h =>
      refine ⟨rfl, fun j c1 c2 h1 h2 => ?_⟩
      cases j with
      | zero => obtain rfl := Option.some.inj h1; exact decC_le h (fun n e => by cases e) c2 h2
      | succ j => simp at h1
  | bool =>
    unfold decL at h
    match cs, h with
    | [c], h =>
      refine ⟨rfl, fun j c1 c2 h1 h2 => ?_⟩
      cases j with
      | zero => obtain rfl := Option.some.inj h1; exact decC_le h (fun n e => by cases e) c2 h2
      | succ j => simp at h1
  | str =>
    unfold decL at h
    match cs, h with
    | [c], h =>
      refine ⟨rfl, fun j c1 c2 h1 h2 => ?_⟩
      cases j with
      | zero => obtain rfl := Option.some.inj h1; exact decC_le h (fun n e => by cases e) c2 h2
      | succ j => simp at h1
  | sl t =>
    unfold decL at h
    match cs, h with
    | [c], h =>
      refine ⟨rfl, fun j c1 c2 h1 h2 => ?_⟩
      cases j with
      | zero => obtain rfl := Option.some.inj h1; exact decC_le h (fun n e => by cases e) c2 h2
      | succ j => simp at h1
end
end Go.Proofs.Ytalgppclaolonaa.Ev
