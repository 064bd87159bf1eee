/- The interpreter of a claim: texts Ev12 Ev13 Ev14 Ev15 Ev16 EvC EvC2 Ev17 Ev21 in one. -/
import Derived.Test.YtkpjeihgigmnkaaEvAa
import Derived.Great.BuildSlice
/- Values without memory: blocks that are made; stores. -/
namespace Go.Proofs.Ytkpjeihgigmnkaa.Ev
open Go
set_option linter.unusedVariables false
set_option linter.unusedSimpArgs false
section
variable {D : Tys} {P : Program}
variable {R : Type} {H : HH D R} {K : Kx D} {β : Nat → Option Loc} {F : Nat → Prop} {fr : Tr (V D.S)} {hp : Tr (B D.S)} {a : Act} {w : World} {o : Oper} {d : Nat} {k : KK D R} {r : R}
/-- A world with one block more. -/
structure One (w w' : World) (x : Obj) : Prop where
  size : w'.heap.size = w.heap.size + 1
  at_ : w'.heap[w.heap.size]? = some x
  old : ∀ b, b < w.heap.size → w'.heap[b]? = w.heap[b]?
  rest : w'.os = w.os ∧ w'.tape = w.tape ∧ w'.output = w.output
theorem One.alloc (w : World) (x : Obj) : One w (w.alloc x) x := by
  refine ⟨Array.size_push .., ?_, fun b hb => ?_, rfl, rfl, rfl⟩
  · show (w.heap.push x)[w.heap.size]? = some x
    rw [Array.getElem?_push, if_pos rfl]
  · show (w.heap.push x)[b]? = w.heap[b]?
    rw [Array.getElem?_push, if_neg (by omega)]
theorem One.drew (w : World) (x : Obj) : One w (w.drew.alloc x) x := by
  have h := One.alloc w.drew x
  exact ⟨h.size, h.at_, h.old, h.rest⟩
theorem Sim.one (s : Sim K β F fr hp a w) {w' : World} {x : Obj} (h : One w w' x) : Sim K β F fr hp a w' :=
  s.grow (by rw [h.size]; omega) h.old h.rest
theorem newBox (s : Sim K β F fr hp a w) (hd : d < 65535) {cs : List (C D.S)} {vs : Array Value} {t : TypeId} {w' : World} (h1 : One w w' (.cells vs t (0, 0))) (hl : RL D w F hp.get β cs vs.toList)
    (hr : (execOp a.eval o).run P w = .ok (.value (.pointer (some ⟨w.heap.size, 0, none⟩))) w') (h : newK D d (.box cs) (.ptr d 0) fr hp k = some r) : Post D P K o a w k r := by
  unfold newK at h
  split at h
  · cases h
  · rename_i hn
    rw [Tr.setK_eq] at h
    have s1 := s.one h1
    have hR : ∀ c v, RC D w F hp.get β c v → RC D w' F hp.get β c v := fun c v => RC.trans (fun b hb => ⟨hb, h1.old b (s.old b hb)⟩) fun id _ => Keep.rfl' rfl rfl
    have hg : ∀ i, (hp.set depth d (some (.box cs))).get i = if i = d then some (.box cs) else hp.get i := fun i => Tr.get_set _ _ _ _ _ (by rw [depth_ok]; omega)
    have hk : ∀ c v, RC D w' F hp.get β c v → RC D w' F (hp.set depth d (some (.box cs))).get (upd β d (some ⟨w.heap.size, 0, vs.size⟩)) c v := fun c v => RC.trans (fun b hb => ⟨hb, rfl⟩) fun id hi => by
      obtain ⟨b', hb'⟩ := Option.isSome_iff_exists.mp hi
      have hne : id ≠ d := fun e => by rw [e, hn] at hb'; cases hb'
      exact Keep.rfl' (by rw [hg, if_neg hne]) (upd_ne _ _ hne)
    obtain ⟨s2, g2⟩ := s1.new hn hd (.box cs) (some ⟨w.heap.size, 0, vs.size⟩) (fun L' e => by
        obtain rfl := Option.some.inj e
        refine ⟨by rw [h1.size]; simp, fun hF => Nat.lt_irrefl _ (s.old _ hF), fun i b L'' hi hL e => ?_, fun hG => ?_⟩
        · have := (s.sep i b L'' hi hL).2
          simp only at e; omega
        · have := hG.1
          have := s.w0.1
          simp only at *; omega)
      ⟨_, vs, t, upd_at _ _ _, h1.at_, rfl, rfl, RL.trans (fun c v r => hk c v (hR c v r)) hl⟩
    exact ⟨_, _, _, h, _, F, _, w', .inl hr, s2, ⟨cs, _, by rw [hg, if_pos rfl], upd_at _ _ _, by simp⟩⟩
theorem newArr (lw : Lawful D P) (s : Sim K β F fr hp a w) (hd : d < 65535) {t : Ty} {l : List (T D.S t)} {vs : Array Value} {e : TypeId} {w' : World} (h1 : One w w' (.cells vs e (0, 0))) {cap : Nat} (hcap : l.length ≤ cap) (hsz : cap * size D t ≤ vs.size)
    (hl : ∀ i (hi : i < l.length) (j : Nat) x, (encL D t (l[i]'hi))[j]? = some x → ∃ v, vs[i * size D t + j]? = some v ∧ RP D w F x v)
    (hr : (execOp a.eval o).run P w = .ok (.value (.slice (some ⟨w.heap.size, 0, none⟩) l.length cap)) w') (h : newK D d (.arr t l) (.own d) fr hp k = some r) : Post D P K o a w k r := by
  unfold newK at h
  split at h
  · cases h
  · rename_i hn
    rw [Tr.setK_eq] at h
    have s1 := s.one h1
    have hg : ∀ i, (hp.set depth d (some (.arr t l))).get i = if i = d then some (.arr t l) else hp.get i := fun i => Tr.get_set _ _ _ _ _ (by rw [depth_ok]; omega)
    obtain ⟨s2, g2⟩ := s1.new hn hd (.arr t l) (some ⟨w.heap.size, 0, vs.size⟩) (fun L' e => by
        obtain rfl := Option.some.inj e
        refine ⟨by rw [h1.size]; simp, fun hF => Nat.lt_irrefl _ (s.old _ hF), fun i b L'' hi hL e => ?_, fun hG => ?_⟩
        · have := (s.sep i b L'' hi hL).2
          simp only at e; omega
        · have := hG.1
          have := s.w0.1
          simp only at *; omega)
      (.inr ⟨_, vs, e, upd_at _ _ _, h1.at_, rfl, by
        have := Nat.mul_le_mul_right (size D t) hcap
        simp only; omega, fun i hi j x hx => by
        obtain ⟨v, hv, rv⟩ := hl i hi j x hx
        exact ⟨v, by simpa using hv, RP.mono D (fun b hb => ⟨hb, h1.old b (s.old b hb)⟩) rv⟩⟩)
    exact ⟨_, _, _, h, _, F, _, w', .inl hr, s2, ⟨t, l, by rw [hg, if_pos rfl], .inr ⟨_, cap, upd_at _ _ _, hcap, by simpa using hsz, rfl⟩⟩⟩
theorem zero_RL {t : TypeId} {ti : TI D.S} (ok : TiOk D P t ti) (w F h β) : ∃ z, (zeroValue t).run P w = .ok z w ∧ RL D w F h β ti.zero z.cells.toList ∧ (ti.agg = true → z = .agg z.cells) := by
  obtain ⟨j, hj, hs, hb, z, hz, hc, hg⟩ := ok.info
  refine ⟨z, by simp [zeroValue, typeInfo, hj, hz], ⟨?_, fun i x v hx hv => ?_⟩, hg⟩
  · have := congrArg List.length hc
    simpa using this.symm
  · have e := congrArg (·[i]?) hc
    simp only [List.getElem?_map, hx, hv, Option.map_some, Option.some.injEq] at e
    exact valOf_RC e.symm
theorem newOne (lw : Lawful D P) (s : Sim K β F fr hp a w) (hd : d < 65535) {t : Ty} {z : T D.S t} {vs : Array Value} {e : TypeId} {w' : World} (h1 : One w w' (.cells vs e (0, 0))) (hsz : size D t ≤ vs.size)
    (hl : ∀ (j : Nat) x, (encL D t z)[j]? = some x → ∃ v, vs[j]? = some v ∧ RP D w F x v)
    (hr : (execOp a.eval o).run P w = .ok (.value (.pointer (some ⟨w.heap.size, 0, none⟩))) w') (h : newK D d (.arr t [z]) (.eptr d 0 0) fr hp k = some r) : Post D P K o a w k r := by
  unfold newK at h
  split at h
  · cases h
  · rename_i hn
    rw [Tr.setK_eq] at h
    have s1 := s.one h1
    have hg : ∀ i, (hp.set depth d (some (.arr t [z]))).get i = if i = d then some (.arr t [z]) else hp.get i := fun i => Tr.get_set _ _ _ _ _ (by rw [depth_ok]; omega)
    obtain ⟨s2, g2⟩ := s1.new hn hd (.arr t [z]) (some ⟨w.heap.size, 0, vs.size⟩) (fun L' e => by
        obtain rfl := Option.some.inj e
        refine ⟨by rw [h1.size]; simp, fun hF => Nat.lt_irrefl _ (s.old _ hF), fun i b L'' hi hL e => ?_, fun hG => ?_⟩
        · have := (s.sep i b L'' hi hL).2
          simp only at e; omega
        · have := hG.1
          have := s.w0.1
          simp only at *; omega)
      (.inr ⟨_, vs, e, upd_at _ _ _, h1.at_, rfl, by simp only [List.length_singleton]; omega, fun i hi j x hx => by
        obtain rfl : i = 0 := by simpa using hi
        obtain ⟨v, hv, rv⟩ := hl j x (by simpa using hx)
        exact ⟨v, by simpa using hv, RP.mono D (fun b hb => ⟨hb, h1.old b (s.old b hb)⟩) rv⟩⟩)
    exact ⟨_, _, _, h, _, F, _, w', .inl hr, s2, ⟨t, [z], _, by rw [hg, if_pos rfl], upd_at _ _ _, by simp, by simp⟩⟩
theorem op_alloc (lw : Lawful D P) (s : Sim K β F fr hp a w) (hd : d < 65535) {t : TypeId} (ho : o.op = .alloc t) (h : opK D H (.alloc t) d fr hp k = some r) : Post D P K o a w k r := by
  simp only [opK] at h
  split at h
  · split at h
    · rename_i ti hti
      obtain ⟨z, hz, hl, _⟩ := zero_RL (lk_ti lw hti) w F hp.get β
      refine newBox s hd (One.alloc w (.cells z.cells t)) hl ?_ h
      simp [execOp, ho, Instr.alloc, hz, newVar, newRow]
    · cases h
  · split at h
    · rename_i ti hti
      split at h
      · rename_i τ hτ
        split at h
        · rename_i y hy
          obtain ⟨z, hz, hl, _⟩ := zero_RL (lk_ti lw hti) w F hp.get β
          obtain ⟨le1, le2⟩ := decL_le lw hy
          have hzl : z.cells.size = size D τ := by
            have := hl.1
            rw [Array.length_toList] at this; omega
          obtain ⟨j, hj, hjs, hjb, z', hz', hzc, _⟩ := (lk_ti lw hti).info
          have ez : z' = z := by
            have : (zeroValue t).run P w = .ok z' w := by simp [zeroValue, typeInfo, hj, hz']
            rw [hz] at this; injection this with e1; exact e1.symm
          subst ez
          refine newOne lw s hd (One.alloc w (.cells z'.cells t)) (by omega) (fun jj x hx => ?_) ?_ h
          · have hjj : jj < size D τ := by rw [← encL_len lw τ y]; exact (List.getElem?_eq_some_iff.mp hx).1
            have hcj := List.getElem?_eq_getElem (l := ti.zero) (i := jj) (by omega)
            have hzz : z'.cells.toList[jj]? = some z'.cells[jj]! := by
              rw [Array.getElem?_toList, Array.getElem?_eq_getElem (by omega), getElem!_pos z'.cells jj (by omega)]
            have hv : valOf ti.zero[jj] = some z'.cells[jj]! := by
              have e := congrArg (·[jj]?) hzc
              simp only [List.getElem?_map, hcj, Option.map_some] at e
              rw [hzz] at e
              simpa using e.symm
            exact ⟨z'.cells[jj]!, by rw [← Array.getElem?_toList]; exact hzz, le2 jj _ x hcj hx _ _ _ (valOf_RP hv)⟩
          · simp [execOp, ho, Instr.alloc, hz, newVar, newRow]
        · cases h
      · cases h
    · cases h
theorem op_box (lw : Lawful D P) (s : Sim K β F fr hp a w) (hd : d < 65535) {t : TypeId} {x : Operand} (ho : o.op = .box t x) (h : opK D H (.box t x) d fr hp k = some r) : Post D P K o a w k r := by
  simp only [opK] at h
  split at h
  · rename_i ti hti
    split at h
    · rename_i y hy
      split at h
      · rename_i hc
        rw [Bool.and_eq_true] at hc
        have ra := evA_ok s hy
        refine newBox s hd (One.alloc w (.cells (a.eval x).cells t)) (ra.cells hc.2) ?_ h
        simp [execOp, ho, Instr.box, newVar, newRow]
      · cases h
    · cases h
  · cases h
theorem op_makeFunc (s : Sim K β F fr hp a w) {f : FuncId} {first caps : Array Operand} (ho : o.op = .makeFunc (.func f) first caps) (h : opK D H (.makeFunc (.func f) first caps) d fr hp k = some r) : Post D P K o a w k r := by
  have hc : ∀ (l : List Operand) (ids : List Nat), capIds D fr l = some ids → l.map a.eval = ids.map (fun i => Value.pointer ((β i).map fun L => ⟨L.b, L.o, none⟩)) ∧ ∀ i ∈ ids, ∃ cs L, hp.get i = some (.box cs) ∧ β i = some L := by
    intro l
    induction l with
    | nil => intro ids e; simp only [capIds, Option.some.injEq] at e; subst e; exact ⟨rfl, fun i hi => by cases hi⟩
    | cons x l ih =>
      intro ids e
      simp only [capIds] at e
      split at e
      · rename_i i hi
        split at e
        · rename_i rs hrs
          obtain rfl := Option.some.inj e
          obtain ⟨i1, i2⟩ := ih rs hrs
          obtain ⟨cs, L, g1, g2, g3⟩ := evC_ok s hi
          refine ⟨?_, fun i' hi' => ?_⟩
          · rw [List.map_cons, List.map_cons, i1, g3, g2]; rfl
          · rcases List.mem_cons.mp hi' with rfl | hi'
            · exact ⟨cs, L, g1, g2⟩
            · exact i2 i' hi'
        · cases e
      · cases e
  simp only [opK] at h
  split at h
  · rename_i ids hf hids
    obtain rfl : first = #[] := Array.toList_inj.mp hf
    obtain ⟨h1, h2⟩ := hc _ _ hids
    refine Post.pure s h (cv := .func (.func f) #[] (caps.map a.eval)) (by simp [execOp, ho, Instr.makeFunc]) ⟨?_, h2⟩
    congr 1
    apply Array.toList_inj.mp
    rw [Array.toList_map, h1]
  · cases h

/-! ### what is put together -/
theorem fold_put (off : Nat) : ∀ (xs : List Value) (n : Nat) (cells : Array Value), n + off + xs.length ≤ cells.size →
    ((xs.zipIdx n).foldl (fun cs (c, j) => cs.setIfInBounds (off + j) c) cells) = putV cells (off + n) xs
  | [], n, cells, h => by simp [putV]
  | x :: xs, n, cells, h => by
    simp only [List.length_cons] at h
    rw [List.zipIdx_cons, List.foldl_cons]
    rw [fold_put off xs (n + 1) (cells.setIfInBounds (off + n) x) (by simp only [Array.size_setIfInBounds]; omega)]
    unfold putV
    congr 1
    have ht : (cells.setIfInBounds (off + n) x).toList = cells.toList.set (off + n) x := Array.toList_setIfInBounds
    have hlt : off + n < cells.toList.length := by rw [Array.length_toList]; omega
    rw [ht, show off + (n + 1) = off + n + 1 by omega, List.take_succ_eq_append_getElem (by simpa using hlt), List.getElem_set_self, List.take_set_of_le (Nat.le_refl _), List.drop_set_of_lt (by omega)]
    simp only [List.append_assoc, List.singleton_append, List.cons_append, List.nil_append, List.length_cons]
    rw [show off + n + 1 + xs.length = off + n + (xs.length + 1) by omega]
theorem RL.putV {w F h β} {cs cs' xs : List (C D.S)} {vs : Array Value} {us : List Value} {off : Nat} (r : RL D w F h β cs vs.toList) (rx : RL D w F h β xs us) (e : putS off xs cs = some cs') : RL D w F h β cs' (putV vs off us).toList := by
  have hz : vs.toList.length = vs.size := Array.length_toList
  have hl := (putS_eq e).2
  have hlen : off + us.length ≤ vs.size := by have := r.1; have := rx.1; omega
  have hz' : (Ev.putV vs off us).toList.length = (Ev.putV vs off us).size := Array.length_toList
  refine ⟨by rw [putS_len e, hz', putV_size hlen, r.1, hz], fun j x v hx hv => ?_⟩
  rw [Array.getElem?_toList] at hv
  by_cases h1 : off ≤ j ∧ j < off + xs.length
  · obtain ⟨i, rfl⟩ : ∃ i, j = off + i := ⟨j - off, by omega⟩
    rw [putS_in e i (by omega)] at hx
    rw [putV_in hlen i (by have := rx.1; omega)] at hv
    exact rx.2 i x v hx hv
  · rw [putS_out e j (by omega)] at hx
    rw [putV_out hlen j (by have := rx.1; omega)] at hv
    exact r.2 j x v hx (by rw [Array.getElem?_toList]; exact hv)
/-- Parts, told and in memory. -/
def PartsOk (w : World) (F : Nat → Prop) (h : Hp D) (β : Nat → Option Loc) (ps : List (Nat × A D.S)) (us : List (Nat × Value)) : Prop :=
  ps.length = us.length ∧ ∀ (j : Nat) p u, ps[j]? = some p → us[j]? = some u → p.1 = u.1 ∧ RA D w F h β p.2 u.2 ∧ noAny p.2.cells = true
theorem evParts_ok (s : Sim K β F fr hp a w) : ∀ {xs : List (Nat × Operand)} {ps : List (Nat × A D.S)}, evParts D fr xs = some ps → PartsOk w F hp.get β ps (xs.map fun (i, x) => (i, a.eval x))
  | [], ps, h => by simp only [evParts, Option.some.injEq] at h; subst h; exact ⟨rfl, fun j p u hp => by simp at hp⟩
  | (i, x) :: xs, ps, h => by
    simp only [evParts] at h
    split at h
    · rename_i y hy
      split at h
      · rename_i rs hn hr
        obtain rfl := Option.some.inj h
        obtain ⟨i1, i2⟩ := evParts_ok s hr
        refine ⟨by simp [i1], fun j p u hp hu => ?_⟩
        cases j with
        | zero => simp at hp hu; subst hp; subst hu; exact ⟨rfl, evA_ok s hy, hn⟩
        | succ j => simp at hp hu; exact i2 j p u hp (by simpa using hu)
      · cases h
    · cases h
theorem fill_ok {w F h β} {place place' : Nat → Option (Nat × Nat)} (hp : ∀ i o s, place i = some (o, s) → place' i = some (o, s)) : ∀ {ps : List (Nat × A D.S)} {us : List (Nat × Value)} {cs cs' : List (C D.S)} {vs : Array Value}, PartsOk w F h β ps us → RL D w F h β cs vs.toList → fillS D place cs ps = some cs' →
    ∃ vs', Instr.fill place' vs us = some vs' ∧ RL D w F h β cs' vs'.toList
  | [], us, cs, cs', vs, hq, hr, e => by
    obtain rfl : us = [] := List.length_eq_zero_iff.mp hq.1.symm
    simp only [fillS, Option.some.injEq] at e
    subst e
    exact ⟨vs, rfl, hr⟩
  | (i, x) :: ps, us, cs, cs', vs, hq, hr, e => by
    match us, hq with
    | (i', v) :: us, hq =>
      obtain ⟨h1, h2, h3⟩ := hq.2 0 _ _ rfl rfl
      simp only at h1 h2 h3
      subst h1
      simp only [fillS] at e
      split at e
      · cases e
      · rename_i off sz hpl
        split at e
        · cases e
        · rename_i hsz
          split at e
          · rename_i cs1 hcs1
            have hz : vs.toList.length = vs.size := Array.length_toList
            have rx := h2.cells h3
            have hsz' := Nat.eq_of_beq_eq_true hsz
            have hlv : v.cells.toList.length = v.cells.size := Array.length_toList
            have hlu : v.cells.size = sz := by have := rx.1; omega
            have hlen : off + v.cells.size ≤ vs.size := by have := (putS_eq hcs1).2; have := hr.1; omega
            have hf : (v.cells.zipIdx.foldl (fun cs (c, j) => cs.setIfInBounds (off + j) c) vs) = putV vs off v.cells.toList := by
              have := fold_put off v.cells.toList 0 vs (by rw [Array.length_toList]; omega)
              rw [Nat.add_zero] at this
              rw [← this, ← Array.foldl_toList, Array.toList_zipIdx]
            obtain ⟨vs', g1, g2⟩ := fill_ok hp (ps := ps) (us := us) (cs := cs1) (vs := putV vs off v.cells.toList) ⟨by have := hq.1; simpa using this, fun j p u hp hu => hq.2 (j + 1) p u (by simpa using hp) (by simpa using hu)⟩ (hr.putV rx hcs1) e
            refine ⟨vs', ?_, g2⟩
            unfold Instr.fill
            rw [hp i off sz hpl]
            simp only
            have hn1 : ¬ (v.cells.size ≠ sz || decide (off + v.cells.size > vs.size)) = true := by
              simp [hlu]; omega
            rw [if_neg (by simpa using hn1), hf, g1]
          · cases e
theorem nthP_eq : ∀ {l : List (Nat × Nat × Bool)} {n : Nat} {x y}, nthP l n = some (x, y) → ∃ g, l[n]? = some (x, y, g)
  | [], _, _, _, h => by cases h
  | (o, s, g) :: l, 0, x, y, h => by simp only [nthP, Option.some.injEq, Prod.mk.injEq] at h; obtain ⟨rfl, rfl⟩ := h; exact ⟨g, rfl⟩
  | _ :: l, n + 1, x, y, h => nthP_eq (l := l) (n := n) h
theorem places_ok (fl : List Field) (h : ∀ f ∈ fl, 0 < P.cellsOf f.type) : ∃ pl, fl.mapM (fun f => (P.info? f.type).map fun i => (f.offset, i.size)) = some pl ∧ pl = fl.map fun f => (f.offset, P.cellsOf f.type) := by
  induction fl with
  | nil => exact ⟨[], rfl, rfl⟩
  | cons f fl ih =>
    obtain ⟨pl, h1, h2⟩ := ih fun f hf => h f (List.mem_cons_of_mem _ hf)
    obtain ⟨j, hj, hs⟩ := cellsOf_info (h f List.mem_cons_self)
    refine ⟨(f.offset, P.cellsOf f.type) :: pl, ?_, by rw [h2]; rfl⟩
    simp [List.mapM_cons, hj, h1, hs]
theorem op_build (lw : Lawful D P) (s : Sim K β F fr hp a w) {t : TypeId} {parts : Array (Nat × Operand)} (ho : o.op = .build t parts) (h : opK D H (.build t parts) d fr hp k = some r) : Post D P K o a w k r := by
  simp only [opK] at h
  split at h
  · rename_i ti hti
    have ok := lk_ti lw hti
    split at h
    · cases h
    · rename_i ps hps
      have hq := evParts_ok s hps
      obtain ⟨j, hj, hs, hb, z, hz, hc, hg⟩ := ok.info
      obtain ⟨z', hz', hl, _⟩ := zero_RL (P := P) ok w F hp.get β
      have ez : z' = z := by simp [zeroValue, typeInfo, hj, hz] at hz'; exact hz'.symm
      subst ez
      have fin : ∀ cs' vs', P.built t (parts.map fun (i, x) => (i, a.eval x)).toList = some vs' → RL D w F hp.get β cs' vs'.toList → k (.a (.agg cs')) fr hp = some r → Post D P K o a w k r := fun cs' vs' e1 e2 e3 => by
        refine Post.pure s e3 (cv := .agg vs') ?_ ⟨vs', rfl, e2⟩
        have := run_build (P := P) w t (parts.map fun (i, x) => (i, a.eval x)) vs' e1
        simp [execOp, ho, this]
      have hd := ok.desc
      split at h
      · rename_i fs hfs
        split at h
        · rename_i cs' hcs'
          rw [hfs] at hd
          obtain ⟨fl, hu, e⟩ := hd
          obtain ⟨pl, g1, g2⟩ := places_ok (P := P) fl.toList (fun f hf => by
            have : (f.offset, P.cellsOf f.type, aggOf P f.type) ∈ fs := by rw [e]; exact List.mem_map.mpr ⟨f, hf, rfl⟩
            exact (ok.fld fs hfs _ this).1)
          obtain ⟨vs', f1, f2⟩ := fill_ok (place' := fun i => pl.toArray[i]?) (fun i o' s' hpl => by
            obtain ⟨g, hg⟩ := nthP_eq hpl
            rw [e, List.getElem?_map] at hg
            obtain ⟨fd, hfd, he⟩ := Option.map_eq_some_iff.mp hg
            simp only [Prod.mk.injEq] at he
            rw [List.getElem?_toArray, g2, List.getElem?_map, hfd]
            simp [he.1, he.2.1]) hq hl hcs'
          refine fin cs' vs' ?_ f2 h
          unfold Program.built
          rw [Array.toList_map]
          simp only [hj, hu, hz, g1]
          exact f1
        · cases h
      · rename_i len esz g' hfs
        split at h
        · rename_i cs' hcs'
          rw [hfs] at hd
          obtain ⟨e, hu, he, hsz, _, hpos⟩ := hd
          obtain ⟨je, hje, hse⟩ := cellsOf_info (P := P) (t := e) (by rw [hsz]; exact hpos)
          obtain ⟨vs', f1, f2⟩ := fill_ok (place' := fun i => some (i * je.size, je.size)) (fun i o' s' hpl => by
            rw [hse, hsz]; exact hpl) hq hl hcs'
          refine fin cs' vs' ?_ f2 h
          unfold Program.built
          rw [Array.toList_map]
          simp only [hj, hu, hz, hje]
          exact f1
        · cases h
      · cases h
  · cases h
end
end Go.Proofs.Ytkpjeihgigmnkaa.Ev
/- Values without memory: rows that are made, written and grown. -/
namespace Go.Proofs.Ytkpjeihgigmnkaa.Ev
open Go
set_option linter.unusedVariables false
set_option linter.unusedSimpArgs false
section
variable {D : Tys} {P : Program}
variable {R : Type} {H : HH D R} {K : Kx D} {β : Nat → Option Loc} {F : Nat → Prop} {fr : Tr (V D.S)} {hp : Tr (B D.S)} {a : Act} {w : World} {o : Oper} {d : Nat} {k : KK D R} {r : R}
/-- What is the same behind rows that are told by value from here on. -/
structure Frz (β : Nat → Option Loc) (F F' : Nat → Prop) (hp hp' : Tr (B D.S)) (ids : List Nat) : Prop where
  up : ∀ b, F b → F' b
  own : ∀ id ∈ ids, ∀ t (l : List (T D.S t)) L, hp.get id = some (.arr t l) → β id = some L → F' L.b
  arr : ∀ id t (l : List (T D.S t)), hp'.get id = some (.arr t l) → hp.get id = some (.arr t l)
  some_ : ∀ id b, hp'.get id = some b → ∃ b', hp.get id = some b'
  box : ∀ id cs, hp'.get id = some (.box cs) → ∃ cs', hp.get id = some (.box cs')
  box' : ∀ id cs, hp.get id = some (.box cs) → ∃ cs', hp'.get id = some (.box cs')
  stay : ∀ id b, id ∉ ids → hp.get id = some b → ∃ b', hp'.get id = some b'
theorem frzs_ok (lw : Lawful D P) {k : Tr (V D.S) → Tr (B D.S) → Option R} : ∀ {ids : List Nat} {fr : Tr (V D.S)} {hp : Tr (B D.S)} {F : Nat → Prop}, Sim K β F fr hp a w → frzsK ids fr hp k = some r →
    ∃ F' fr' hp', k fr' hp' = some r ∧ Sim K β F' fr' hp' a w ∧ Frz β F F' hp hp' ids
  | [], fr, hp, F, s, h => ⟨F, fr, hp, h, s, ⟨fun _ h => h, fun id hi => (by cases hi), fun _ _ _ h => h, fun _ b h => ⟨b, h⟩, fun _ cs h => ⟨cs, h⟩, fun _ cs h => ⟨cs, h⟩, fun _ b _ h => ⟨b, h⟩⟩⟩
  | id :: ids, fr, hp, F, s, h => by
    simp only [frzsK] at h
    split at h
    · rename_i hn
      obtain ⟨F', fr', hp', h1, h2, h3⟩ := frzs_ok lw s h
      refine ⟨F', fr', hp', h1, h2, ⟨h3.up, fun i hi t l L g1 g2 => ?_, h3.arr, h3.some_, h3.box, h3.box', fun i b hi g => h3.stay i b (fun hm => hi (List.mem_cons_of_mem _ hm)) g⟩⟩
      rcases List.mem_cons.mp hi with rfl | hi
      · rw [hn] at g1; cases g1
      · exact h3.own i hi t l L g1 g2
    · rename_i b hb
      cases b with
      | box cs => simp only [frzK, hb] at h; cases h
      | arr t l =>
        rw [frzK_eq hb] at h
        have hid := s.key id _ hb
        obtain ⟨F1, g1, g2, g3, _⟩ := s.frz lw hid hb
        have hg : ∀ i, (hp.set depth id none).get i = if i = id then none else hp.get i := fun i => Tr.get_set _ _ _ _ _ (by rw [depth_ok]; omega)
        have hg' : ∀ i, ((hp.set depth id none).map (mapB (frzF id t l))).get i = if i = id then none else (hp.get i).map (mapB (frzF id t l)) := fun i => by
          rw [Tr.get_map, hg]; split <;> rfl
        obtain ⟨F', fr', hp', h1, h2, h3⟩ := frzs_ok lw g3 h
        have back : ∀ i b, ((hp.set depth id none).map (mapB (frzF id t l))).get i = some b → i ≠ id ∧ ∃ b', hp.get i = some b' ∧ mapB (frzF id t l) b' = b := fun i b e => by
          rw [hg'] at e
          by_cases ei : i = id
          · rw [if_pos ei] at e; cases e
          · rw [if_neg ei] at e
            obtain ⟨b', e1, e2⟩ := Option.map_eq_some_iff.mp e
            exact ⟨ei, b', e1, e2⟩
        refine ⟨F', fr', hp', h1, h2, ⟨fun b hb => h3.up b (g1 b hb), fun i hi t' l' L e1 e2 => ?_, fun i t' l' e => ?_, fun i b e => ?_, fun i cs e => ?_, fun i cs e => ?_, fun i b hi g => h3.stay i _ (fun hm => hi (List.mem_cons_of_mem _ hm)) (by rw [hg', if_neg (fun e => hi (by rw [e]; exact List.mem_cons_self)), g]; rfl)⟩⟩
        · rcases List.mem_cons.mp hi with rfl | hi
          · exact h3.up _ (g2 L e2)
          · by_cases ei : i = id
            · subst ei; exact h3.up _ (g2 L e2)
            · exact h3.own i hi t' l' L (by rw [hg', if_neg ei, e1]; rfl) e2
        · obtain ⟨_, b', e1, e2⟩ := back i _ (h3.arr i t' l' e)
          cases b' with
          | box cs => cases e2
          | arr t2 l2 => rw [e1]; exact congrArg some e2
        · obtain ⟨b1, e1⟩ := h3.some_ i b e
          obtain ⟨_, b', e2, _⟩ := back i b1 e1
          exact ⟨b', e2⟩
        · obtain ⟨cs1, e1⟩ := h3.box i cs e
          obtain ⟨_, b', e2, e3⟩ := back i _ e1
          cases b' with
          | box cs' => exact ⟨cs', e2⟩
          | arr t2 l2 => cases e3
        · have ei : i ≠ id := fun ei => by rw [ei, hb] at e; cases e
          exact h3.box' i (cs.map (frzF id t l)) (by rw [hg', if_neg ei, e]; rfl)
/-- A place in an own row, behind such rows: it is where it was. -/
theorem Frz.live {F F' : Nat → Prop} {hp hp' : Tr (B D.S)} {ids : List Nat} (f : Frz β F F' hp hp' ids) {id : Nat} {t : Ty} {l : List (T D.S t)} (h : hp'.get id = some (.arr t l)) : hp.get id = some (.arr t l) := f.arr id t l h

/-! ### rows that are written out -/
theorem fill_row {sz : Nat} : ∀ (n : Nat) (us : List (Nat × Value)) (cells : Array Value), (∀ (j : Nat) u, us[j]? = some u → u.1 = n + j ∧ u.2.cells.size = sz) → (n + us.length) * sz ≤ cells.size →
    ∃ cells', Instr.fill (fun i => some (i * sz, sz)) cells us = some cells' ∧ cells'.size = cells.size ∧ (∀ i, i < n * sz → cells'[i]? = cells[i]?) ∧ (∀ (j i : Nat) u, us[j]? = some u → i < sz → cells'[(n + j) * sz + i]? = u.2.cells[i]?)
  | n, [], cells, h1, h2 => ⟨cells, rfl, rfl, fun _ _ => rfl, fun j i u hu => by simp at hu⟩
  | n, (i0, v) :: us, cells, h1, h2 => by
    obtain ⟨e1, e2⟩ := h1 0 _ rfl
    simp only [Nat.add_zero] at e1 e2
    subst e1
    simp only [List.length_cons] at h2
    have hb : (i0 + 1) * sz ≤ cells.size := Nat.le_trans (Nat.mul_le_mul_right sz (by omega)) h2
    have hb' : i0 * sz + sz ≤ cells.size := by rw [Nat.add_mul, Nat.one_mul] at hb; exact hb
    have hlv : v.cells.toList.length = v.cells.size := Array.length_toList
    have hf : (v.cells.zipIdx.foldl (fun cs (c, j) => cs.setIfInBounds (i0 * sz + j) c) cells) = putV cells (i0 * sz) v.cells.toList := by
      have := fold_put (i0 * sz) v.cells.toList 0 cells (by omega)
      rw [Nat.add_zero] at this
      rw [← this, ← Array.foldl_toList, Array.toList_zipIdx]
    have hz1 : (putV cells (i0 * sz) v.cells.toList).size = cells.size := putV_size (by omega)
    obtain ⟨c', g1, g2, g3, g4⟩ := fill_row (i0 + 1) us (putV cells (i0 * sz) v.cells.toList) (fun j u hu => by
      obtain ⟨q1, q2⟩ := h1 (j + 1) u (by simpa using hu)
      exact ⟨by omega, q2⟩) (by rw [hz1, show i0 + 1 + us.length = i0 + (us.length + 1) by omega]; exact h2)
    refine ⟨c', ?_, g2.trans hz1, fun i hi => ?_, fun j i u hu hi => ?_⟩
    · unfold Instr.fill
      simp only
      have hn1 : ¬ ((v.cells.size ≠ sz || decide (i0 * sz + v.cells.size > cells.size)) = true) := by
        simp [e2]; omega
      rw [if_neg (by simpa using hn1), hf, g1]
    · have hi' : i < (i0 + 1) * sz := by rw [Nat.add_mul]; omega
      rw [g3 i hi', putV_out (by omega) i (.inl hi)]
    · cases j with
      | zero =>
        simp at hu
        subst hu
        rw [Nat.add_zero, g3 _ (by rw [Nat.add_mul]; omega), putV_in (by omega) i (by omega), Array.getElem?_toList]
      | succ j =>
        have := g4 j i u (by simpa using hu) hi
        rw [show i0 + (j + 1) = i0 + 1 + j by omega]
        exact this
theorem inOrder_at : ∀ {n : Nat} {ps : List (Nat × A D.S)}, inOrder D n ps = true → ∀ (j : Nat) p, ps[j]? = some p → p.1 = n + j
  | n, [], h, j, p, hp => by simp at hp
  | n, (i, x) :: ps, h, j, p, hp => by
    simp only [inOrder] at h
    split at h
    · rename_i e
      have e := Nat.eq_of_beq_eq_true e
      cases j with
      | zero => simp at hp; subst hp; exact e
      | succ j => have := inOrder_at h j p (by simpa using hp); omega
    · cases h
theorem decParts_at {hp : Tr (B D.S)} {t : Ty} : ∀ {ps : List (Nat × A D.S)} {l : List (T D.S t)}, decParts D hp t ps = some l → l.length = ps.length ∧ ∀ (j : Nat) p x, ps[j]? = some p → l[j]? = some x → ∃ cs, resL hp p.2.cells = some cs ∧ decL D t cs = some x
  | [], l, h => by simp only [decParts, Option.some.injEq] at h; subst h; exact ⟨rfl, fun j p x hp => by simp at hp⟩
  | (i, y) :: ps, l, h => by
    simp only [decParts] at h
    split at h
    · cases h
    · rename_i cs hcs
      split at h
      · rename_i x hx
        split at h
        · rename_i rs hr
          obtain rfl := Option.some.inj h
          obtain ⟨i1, i2⟩ := decParts_at hr
          refine ⟨by simp [i1], fun j p z hp hz => ?_⟩
          cases j with
          | zero => simp at hp hz; subst hp; subst hz; exact ⟨cs, hcs, hx⟩
          | succ j => simp at hp hz; exact i2 j p z hp hz
        · cases h
      · cases h
theorem ownsP_mem : ∀ {ps : List (Nat × A D.S)} {p : Nat × A D.S}, p ∈ ps → ∀ id ∈ ownsL p.2.cells, id ∈ ownsP D ps
  | (i, y) :: ps, p, h, id, hi => by
    simp only [ownsP, List.mem_append]
    rcases List.mem_cons.mp h with rfl | h
    · exact .inl hi
    · exact .inr (ownsP_mem h id hi)
theorem ownsL_arr {w F} {hp : Tr (B D.S)} {β} {cs : List (C D.S)} {vs : List Value} (r : RL D w F hp.get β cs vs) : ∀ id ∈ ownsL cs, ∃ t l, hp.get id = some (.arr t l) := fun id hi => by
  rw [ownsL_eq, List.mem_flatMap] at hi
  obtain ⟨c, hc, hi⟩ := hi
  obtain ⟨j, hj⟩ := List.getElem?_of_mem hc
  have hlt : j < vs.length := by rw [← r.1]; exact (List.getElem?_eq_some_iff.mp hj).1
  have rc := r.2 j c _ hj (List.getElem?_eq_getElem hlt)
  cases c <;> simp [ownsC] at hi <;> subst hi
  · obtain ⟨t, l, L, g, _⟩ := rc; exact ⟨t, l, g⟩
  · obtain ⟨t, l, g, _⟩ := rc; exact ⟨t, l, g⟩
  · obtain ⟨t, l, g, _⟩ := rc; exact ⟨t, l, g⟩
theorem run_buildSlice' (w : World) (t e : TypeId) (len : Nat) (parts : Array (Nat × Value)) (cells : Array Value) (ie : TypeInfo) (z : Value)
    (hu : P.underlying t = some (.slice e)) (hie : P.info? e = some ie) (hz : ie.zero = some z) (hsmall : ¬ len * ie.size > 2 ^ 24)
    (h : Instr.fill (fun i => some (i * ie.size, ie.size)) ((Array.range (len * ie.size)).map (z.cells[· % z.cells.size]!)) parts.toList = some cells) :
    (Instr.buildSlice t len parts).run P w = .ok (.slice (some ⟨w.heap.size, 0, none⟩) len len) (w.alloc (.cells cells e)) := by
  by_cases hpos : len * ie.size = 0
  · have e0 : ∀ g : Nat → Value, Array.map g (Array.range 0) = #[] := fun g => Array.eq_empty_of_size_eq_zero (by simp)
    rw [hpos, e0] at h
    simp [Instr.buildSlice, run_underlying hu, sizeOf, typeInfo, hie, hpos, e0, h, newRow]
  · exact run_buildSlice w t e len parts cells ie z hu hie hz hsmall hpos h
theorem op_buildSlice (lw : Lawful D P) (s : Sim K β F fr hp a w) (hd : d < 65535) {t : TypeId} {len : Nat} {parts : Array (Nat × Operand)} (ho : o.op = .buildSlice t len parts) (h : opK D H (.buildSlice t len parts) d fr hp k = some r) : Post D P K o a w k r := by
  simp only [opK] at h
  split at h
  · rename_i e q1 q2 q3 q4 q5 q50 hti
    split at h
    · rename_i q6 q7 q8 q9 q10 τ q51 htie
      have hu : P.underlying t = some (.slice e) := (lk_ti lw hti).desc
      have oke := lk_ti lw htie
      obtain ⟨j, hj, hjs, hjb, z, hz, hzc, _⟩ := oke.info
      obtain ⟨hτ, _⟩ := oke.ty τ rfl
      simp only at hjs hτ
      split at h
      · cases h
      · rename_i ps hps
        split at h
        · cases h
        · rename_i hord
          split at h
          · cases h
          · rename_i hlen
            rw [Bool.and_eq_true, Bool.and_eq_true] at hlen
            obtain ⟨⟨hl1, hl2⟩, hl3⟩ := hlen
            have hl1 := Nat.eq_of_beq_eq_true hl1
            have hl3 := Nat.le_of_ble_eq_true hl3
            split at h
            · cases h
            · rename_i l hl
              obtain ⟨dl, dp⟩ := decParts_at hl
              have hq := evParts_ok s hps
              have htl : (parts.map fun (i, x) => (i, a.eval x)).toList = parts.toList.map fun (i, x) => (i, a.eval x) := Array.toList_map
              generalize (parts.toList.map fun (i, x) => (i, a.eval x)) = us at hq htl
              obtain ⟨F', fr', hp', h1, s', fz⟩ := frzs_ok lw s h
              have hpos := oke.pos
              simp only at hpos
              have hsz : j.size = size D τ := by rw [hjs, hτ]
              -- the parts' cells
              have hpart : ∀ (i : Nat) u, us[i]? = some u → u.1 = 0 + i ∧ u.2.cells.size = size D τ := fun i u hu => by
                have hi : i < ps.length := by rw [hq.1]; exact (List.getElem?_eq_some_iff.mp hu).1
                have hp_ := List.getElem?_eq_getElem hi
                obtain ⟨g1, g2, g3⟩ := hq.2 i _ u hp_ hu
                have := inOrder_at hord i _ hp_
                refine ⟨by omega, ?_⟩
                have hil : i < l.length := by omega
                obtain ⟨cs, c1, c2⟩ := dp i _ _ hp_ (List.getElem?_eq_getElem hil)
                have rc := g2.cells g3
                have rp := resL_ok lw fz.up s.blk rc c1 (fun id hi L hL => by
                  obtain ⟨t', l', hg⟩ := ownsL_arr rc id hi
                  exact fz.own id (ownsP_mem (List.getElem_mem _) id hi) t' l' L hg hL)
                have := (decL_le lw c2).1
                have hlv : u.2.cells.toList.length = u.2.cells.size := Array.length_toList
                have := rp.1
                omega
              have hlens : us.length = len := by rw [← hq.1]; exact hl1
              obtain ⟨cells, f1, f2, _, f4⟩ := fill_row 0 us ((Array.range (len * j.size)).map (z.cells[· % z.cells.size]!)) (sz := size D τ) hpart (by rw [hlens]; simp [hsz])
              have hrun := run_buildSlice' (P := P) w t e len (parts.map fun (i, x) => (i, a.eval x)) cells j z hu hj hz (by rw [hsz]; omega) (by rw [htl]; rw [hsz] at f1 ⊢; exact f1)
              have hll : l.length = len := by omega
              refine newArr lw s' hd (One.alloc w (.cells cells e)) (cap := l.length) (Nat.le_refl _) (by rw [f2, hll]; simp [hsz]) ?_ (by rw [hll]; simp [execOp, ho, hrun]) h1
              intro i hi jj x hx
              have hip : i < ps.length := by omega
              have hp_ := List.getElem?_eq_getElem hip
              have hui : i < us.length := by omega
              have hu_ := List.getElem?_eq_getElem hui
              obtain ⟨g1, g2, g3⟩ := hq.2 i _ _ hp_ hu_
              obtain ⟨cs, c1, c2⟩ := dp i _ _ hp_ (List.getElem?_eq_getElem hi)
              have rc := g2.cells g3
              have rp := resL_ok lw fz.up s.blk rc c1 (fun id hi L hL => by
                obtain ⟨t', l', hg⟩ := ownsL_arr rc id hi
                exact fz.own id (ownsP_mem (List.getElem_mem _) id hi) t' l' L hg hL)
              obtain ⟨le1, le2⟩ := decL_le lw c2
              have hjj : jj < size D τ := by rw [← encL_len lw τ l[i]]; exact (List.getElem?_eq_some_iff.mp hx).1
              have hcj := List.getElem?_eq_getElem (l := cs) (i := jj) (by omega)
              have hvj := List.getElem?_eq_getElem (l := (us[i]).2.cells.toList) (i := jj) (by have := rp.1; omega)
              refine ⟨_, ?_, le2 jj _ x hcj hx _ _ _ (rp.2 jj _ _ hcj hvj)⟩
              have := f4 i jj _ hu_ hjj
              rw [Nat.zero_add] at this
              rw [this, ← Array.getElem?_toList]
              exact hvj
    · cases h
  · cases h
theorem op_makeSlice (lw : Lawful D P) (s : Sim K β F fr hp a w) (hd : d < 65535) {t : TypeId} {x y : Operand} (ho : o.op = .makeSlice t x y) (h : opK D H (.makeSlice t x y) d fr hp k = some r) : Post D P K o a w k r := by
  simp only [opK] at h
  split at h
  · rename_i e q1 q2 q3 q4 q5 q50 hti
    split at h
    · rename_i q6 q7 q8 by_ zc τ q51 htie
      have hu : P.underlying t = some (.slice e) := (lk_ti lw hti).desc
      have oke := lk_ti lw htie
      obtain ⟨j, hj, hjs, hjb, z, hz, hzc, _⟩ := oke.info
      obtain ⟨hτ, _⟩ := oke.ty τ rfl
      have hpos := oke.pos
      simp only at hjs hτ hjb hzc hpos
      split at h
      · rename_i k1 n k2 c zv hn hc hzv
        obtain ⟨b1, h⟩ := bK_some h
        obtain ⟨b2, h⟩ := bK_some h
        obtain ⟨b3, h⟩ := bK_some h
        have b1 := of_decide_eq_true b1
        have b2 := of_decide_eq_true b2
        have b3 : (by_ : Int) * c ≤ 281474976710656 := by
          have h3 : by_ * c.toNat ≤ 281474976710656 := Nat.le_of_ble_eq_true b3
          have h4 : ((by_ * c.toNat : Nat) : Int) ≤ 281474976710656 := by omega
          rw [Int.natCast_mul, Int.toNat_of_nonneg (by omega)] at h4
          exact h4
        have en := evC_int s hn
        have ec := evC_int s hc
        have hcb : c ≤ 9223372036854775807 ∧ (j.bytes : Int) * c ≤ 281474976710656 := by
          refine ⟨?_, by rw [hjb]; exact b3⟩
          have := oke.byt
          simp only at this
          have h1 : (1 : Int) * c ≤ (by_ : Int) * c := Int.mul_le_mul_of_nonneg_right (by omega) (by omega)
          omega
        have hrun := run_make (P := P) w t e j z hu hj hz k1 k2 n c b1 b2 hcb.2 hcb.1
        have hsz : j.size = size D τ := by rw [hjs, hτ]
        have hzl : z.cells.size = size D τ := by
          have := congrArg List.length hzc
          simp only [List.length_map, Array.length_toList] at this
          have h2 := (decL_le lw hzv).1
          omega
        refine newArr lw s hd (One.alloc w (.cells (madeCells z.cells (c.toNat * j.size)) e)) (cap := c.toNat) (by rw [List.length_replicate]; omega) (by rw [size_madeCells, hsz]; omega) ?_ (by rw [List.length_replicate]; simp [execOp, ho, en, ec, hrun]) h
        intro i hi jj x hx
        rw [List.length_replicate] at hi
        rw [List.getElem_replicate] at hx
        have hjj : jj < size D τ := by rw [← encL_len lw τ zv]; exact (List.getElem?_eq_some_iff.mp hx).1
        obtain ⟨le1, le2⟩ := decL_le lw hzv
        have hcj := List.getElem?_eq_getElem (l := zc) (i := jj) (by omega)
        have hlt : i * size D τ + jj < c.toNat * size D τ := by
          have h1 : (i + 1) * size D τ ≤ c.toNat * size D τ := Nat.mul_le_mul_right _ (by omega)
          rw [Nat.add_mul, Nat.one_mul] at h1
          omega
        have hv : valOf zc[jj] = some z.cells[jj]! := by
          have e := congrArg (·[jj]?) hzc
          simp only [List.getElem?_map, hcj, Option.map_some] at e
          have hzz : z.cells.toList[jj]? = some z.cells[jj]! := by
            rw [Array.getElem?_toList, Array.getElem?_eq_getElem (by omega), getElem!_pos z.cells jj (by omega)]
          rw [hzz] at e
          simpa using e.symm
        refine ⟨z.cells[jj]!, ?_, le2 jj _ x hcj hx _ _ _ ?_⟩
        · unfold madeCells
          rw [Array.getElem?_map, Array.getElem?_range, if_pos (by rw [hsz]; exact hlt)]
          simp only [Option.map_some, hzl]
          rw [Nat.add_comm, Nat.add_mul_mod_self_right, Nat.mod_eq_of_lt hjj]
        · have rv := valOf_RC (w := w) (F := F) (h := hp.get) (β := β) hv
          generalize zc[jj] = c0 at rv hv
          cases c0 <;> first | exact rv | (simp [valOf] at hv)
      · cases h
    · cases h
  · cases h
theorem resL_noAny {hp : Tr (B D.S)} : ∀ {cs cs' : List (C D.S)}, resL hp cs = some cs' → noAny cs = true
  | [], cs', h => rfl
  | c :: cs, cs', h => by
    simp only [resL] at h
    split at h
    · rename_i c1 hc1
      split at h
      · rename_i cs1 hcs1
        have ih := resL_noAny hcs1
        cases c <;> first | exact ih | (simp [resC] at hc1)
      · cases h
    · cases h
theorem op_store (lw : Lawful D P) (s : Sim K β F fr hp a w) {t : TypeId} {p x : Operand} (ho : o.op = .store t p x) (h : opK D H (.store t p x) d fr hp k = some r) : Post D P K o a w k r := by
  simp only [opK] at h
  split at h
  · rename_i ti hti
    have ok := lk_ti lw hti
    obtain ⟨j, hj, hjs, _⟩ := ok.info
    split at h
    · rename_i c hc
      split at h
      · rename_i y hy
        split at h
        · rename_i id0 off
          split at h
          · rename_i id b hb
            rw [Tr.setK_eq] at h
            unfold storeB at hb
            split at hb
            · cases hb
            · rename_i hchk
              rw [Bool.and_eq_true] at hchk
              have hlen := Nat.eq_of_beq_eq_true hchk.1
              dsimp only at hb
              split at hb
              · rename_i cs hcs
                split at hb
                · rename_i cs' hcs'
                  simp only [Option.some.injEq, Prod.mk.injEq] at hb
                  obtain ⟨rfl, rfl⟩ := hb
                  obtain ⟨cs0, L, g1, g2, g3⟩ := evC_ok s hc
                  rw [hcs] at g1
                  obtain rfl : cs = cs0 := by injection g1 with g1; injection g1
                  obtain ⟨L', vs, e, r1, r2, r3, r4, r5⟩ := s.blk id0 _ hcs
                  rw [g2] at r1
                  obtain rfl := Option.some.inj r1
                  have ra := evA_ok s hy
                  have rl := ra.cells hchk.2
                  have hlv : (a.eval x).cells.toList.length = (a.eval x).cells.size := Array.length_toList
                  have hvl : vs.toList.length = vs.size := Array.length_toList
                  have hput := (putS_eq hcs').2
                  have hvc : (a.eval x).cells.size = j.size := by have := rl.1; omega
                  have hin : off + j.size ≤ vs.size := by have := r5.1; omega
                  have e0 : L.o + off = off := by rw [r3, Nat.zero_add]
                  have hrun := run_storeVar (P := P) hj (b := L.b) (o := off) r2 hvc hin (rl.one hchk.2)
                  obtain ⟨s2, g⟩ := s.setblk (s.key _ _ hcs) (b1 := .box cs') hcs g2 r2 (vs' := putV vs off (a.eval x).cells.toList) (putV_size (by omega)) ⟨fun cs e => ⟨cs', rfl⟩, fun t l e => (by cases e)⟩ (fun hR =>
                    ⟨L, putV vs off (a.eval x).cells.toList, e, g2, setBlock_at (Array.getElem?_eq_some_iff.mp r2).1, r3, (putV_size (by omega)).trans r4, RL.putV (RL.trans hR r5) (RL.trans hR rl) hcs'⟩)
                  exact ⟨_, _, _, h, β, F, undef, _, .inr ⟨by simp [execOp, ho, g3, e0, Instr.storeAt, Instr.sureAddr, hrun], rfl⟩, s2, trivial⟩
                · cases hb
              · cases hb
          · cases h
        · rename_i c hnp
          split at h
          · cases h
          · rename_i cs hcs
            have hna := resL_noAny hcs
            have ra := evA_ok s hy
            have rl := ra.cells hna
            obtain ⟨F', fr', hp', h1, s', fz⟩ := frzs_ok lw s h
            have rp := resL_ok lw fz.up s.blk rl hcs (fun id hi L hL => by
              obtain ⟨t', l', hg⟩ := ownsL_arr rl id hi
              exact fz.own id hi t' l' L hg hL)
            split at h1
            · rename_i id b hb
              rw [Tr.setK_eq] at h1
              unfold storeB at hb
              split at hb
              · cases hb
              · rename_i hchk
                rw [Bool.and_eq_true] at hchk
                have hlen := Nat.eq_of_beq_eq_true hchk.1
                simp only [A.cells] at hlen hchk hb
                split at hb
                · rename_i id1 off1; exact (hnp id1 off1 rfl).elim
                · rename_i id1 e off1
                  split at hb
                  · rename_i t2 l2 hl2
                    split at hb
                    · rename_i cs' hcs'
                      split at hb
                      · rename_i x' hx'
                        simp only [Option.some.injEq, Prod.mk.injEq] at hb
                        obtain ⟨rfl, rfl⟩ := hb
                        have hl0 := fz.arr _ _ _ hl2
                        obtain ⟨t3, l3, L, g1, g2, ge, g3⟩ := evC_ok s hc
                        rw [hl0] at g1
                        injection g1 with g1
                        injection g1 with g4 g5
                        subst g4
                        obtain rfl := eq_of_heq g5
                        rcases s'.blk id1 _ hl2 with ⟨r1, _⟩ | ⟨L', vs, e', r1, r2, r4, r3, r5⟩
                        · rw [g2] at r1; cases r1
                        rw [g2] at r1
                        obtain rfl := Option.some.inj r1
                        have eg : getT D t2 l2 e = l2[e] := by unfold getT; rw [List.getD_eq_getElem?_getD, List.getElem?_eq_getElem ge]; rfl
                        rw [eg] at hcs'
                        have hlv : (a.eval x).cells.toList.length = (a.eval x).cells.size := Array.length_toList
                        have hput := (putS_eq hcs').2
                        rw [encL_len lw] at hput
                        have hvc : (a.eval x).cells.size = j.size := by have := rp.1; omega
                        have hmul : (e + 1) * size D t2 ≤ l2.length * size D t2 := Nat.mul_le_mul_right _ (by omega)
                        rw [Nat.add_mul, Nat.one_mul] at hmul
                        have hin : L.o + e * size D t2 + off1 + j.size ≤ vs.size := by have := rp.1; omega
                        have hrun := run_storeVar (P := P) hj (b := L.b) (o := L.o + e * size D t2 + off1) r2 hvc hin (rl.one hna)
                        obtain ⟨s2, g⟩ := s'.setblk (s'.key _ _ hl2) (b1 := .arr t2 (l2.set e x')) hl2 g2 r2 (vs' := putV vs (L.o + e * size D t2 + off1) (a.eval x).cells.toList) (putV_size (by omega))
                          ⟨fun cs e => (by cases e), fun t l e' => by
                            injection e' with e1 e2
                            subst e1
                            obtain rfl := eq_of_heq e2
                            exact ⟨_, rfl, by simp⟩⟩ (fun hR => .inr
                          ⟨L, putV vs (L.o + e * size D t2 + off1) (a.eval x).cells.toList, e', g2, setBlock_at (Array.getElem?_eq_some_iff.mp r2).1, (putV_size (by omega)).trans r4, by rw [List.length_set]; exact r3, fun i hi jj y hy => by
                            have hnF : ¬ F' L.b := (s'.sep id1 _ L hl2 g2).1
                            have upF : ∀ {c : C D.S} {v : Value}, RP D w F' c v → RP D (World.setBlock w L.b (.cells (putV vs (L.o + e * size D t2 + off1) (a.eval x).cells.toList) e' (0, 0))) F' c v :=
                              fun r => RP.mono D (fun b hb => ⟨hb, setBlock_ne (show b ≠ L.b from fun e => by rw [e] at hb; exact hnF hb)⟩) r
                            rw [List.length_set] at hi
                            have hjj : jj < size D t2 := by rw [← encL_len lw t2 ((l2.set e x')[i]'(by rw [List.length_set]; exact hi))]; exact (List.getElem?_eq_some_iff.mp hy).1
                            by_cases ei : i = e
                            · subst ei
                              rw [List.getElem_set_self] at hy
                              obtain ⟨le1, le2⟩ := decL_le lw hx'
                              have hcj := List.getElem?_eq_getElem (l := cs') (i := jj) (by omega)
                              by_cases hr : off1 ≤ jj ∧ jj < off1 + cs.length
                              · obtain ⟨q, rfl⟩ : ∃ q, jj = off1 + q := ⟨jj - off1, by omega⟩
                                have hq : q < (a.eval x).cells.toList.length := by have := rp.1; omega
                                refine ⟨(a.eval x).cells.toList[q], ?_, upF (le2 _ _ y hcj hy _ _ _ (rp.2 q _ _ ?_ (List.getElem?_eq_getElem hq)))⟩
                                · rw [show L.o + i * size D t2 + (off1 + q) = L.o + i * size D t2 + off1 + q by omega, putV_in (by omega) q hq]
                                  exact List.getElem?_eq_getElem hq
                                · rw [← putS_in hcs' q (by omega)]; exact hcj
                              · obtain ⟨v, hv, rv⟩ := r5 i ge jj _ (by rw [← putS_out hcs' jj (by omega)]; exact hcj)
                                refine ⟨v, ?_, upF (le2 _ _ y hcj hy _ _ _ rv)⟩
                                rw [putV_out (by omega) _ (by have := rp.1; omega)]
                                exact hv
                            · rw [List.getElem_set_ne (Ne.symm ei)] at hy
                              obtain ⟨v, hv, rv⟩ := r5 i hi jj y hy
                              refine ⟨v, ?_, upF rv⟩
                              rw [putV_out (by omega) _ ?_]
                              · exact hv
                              · rcases Nat.lt_or_ge i e with hlt | hge
                                · have : (i + 1) * size D t2 ≤ e * size D t2 := Nat.mul_le_mul_right _ (by omega)
                                  rw [Nat.add_mul, Nat.one_mul] at this
                                  left; omega
                                · have : (e + 1) * size D t2 ≤ i * size D t2 := Nat.mul_le_mul_right _ (by omega)
                                  rw [Nat.add_mul, Nat.one_mul] at this
                                  right; have := rp.1; omega⟩)
                        exact ⟨_, _, _, h1, β, F', undef, _, .inr ⟨by simp [execOp, ho, g3, Instr.storeAt, Instr.sureAddr, hrun], rfl⟩, s2, trivial⟩
                      · cases hb
                    · cases hb
                  · cases hb
                · cases hb
            · cases h1
      · cases h
    · cases h
  · cases h
end
end Go.Proofs.Ytkpjeihgigmnkaa.Ev
/- Values without memory: append. -/
namespace Go.Proofs.Ytkpjeihgigmnkaa.Ev
open Go
set_option linter.unusedVariables false
set_option linter.unusedSimpArgs false
section
variable {D : Tys} {P : Program}
variable {R : Type} {H : HH D R} {K : Kx D} {β : Nat → Option Loc} {F : Nat → Prop} {fr : Tr (V D.S)} {hp : Tr (B D.S)} {a : Act} {w : World} {o : Oper} {d : Nat} {k : KK D R} {r : R}
theorem RP.one' {w F} {c : C D.S} {v : Value} (r : RP D w F c v) : v.oneCell' = true := (RP.one r).1
/-- What is appended, told and in memory. -/
def News (D : Tys) (w : World) (F : Nat → Prop) (t : Ty) (xs : List (T D.S t)) (news : List Value) : Prop :=
  ∀ i (hi : i < xs.length) (j : Nat) y, (encL D t (xs[i]'hi))[j]? = some y → ∃ u, news[i * size D t + j]? = some u ∧ RP D w F y u
theorem src_f (lw : Lawful D P) {t : Ty} {xs : List (T D.S t)} {b o' cap : Nat} {f : Nat → Nat → Value} {tx e' : TypeId} (hk : P.underlying tx = some (.slice e')) (hpos : 0 < size D t)
    (hf : ∀ i j, i < xs.length → j < size D t → w.cell? ⟨b, o' + i * size D t + j, none⟩ = some (f i j)) (hr : ∀ i (hi : i < xs.length) (j : Nat) x, (encL D t (xs[i]'hi))[j]? = some x → RP D w F x (f i j)) :
    ∃ news, Src P (size D t) tx (.slice (some ⟨b, o', none⟩) xs.length cap) xs.length news w ∧ News D w F t xs news := by
  have hm : ∀ q, q < xs.length * size D t → q / size D t < xs.length ∧ q % size D t < size D t ∧ q / size D t * size D t + q % size D t = q := fun q hq =>
    ⟨Nat.div_lt_of_lt_mul (by rw [Nat.mul_comm]; exact hq), Nat.mod_lt _ hpos, Nat.div_add_mod' _ _⟩
  refine ⟨(List.range (xs.length * size D t)).map fun q => f (q / size D t) (q % size D t), Src.ofSlice (w := w) hk ⟨b, o', none⟩ xs.length cap _ (by simp) (fun j u hu => ?_) (fun u hu => ?_), fun i hi j y hy => ?_⟩
  · rw [List.getElem?_map] at hu
    obtain ⟨q, hq, rfl⟩ := Option.map_eq_some_iff.mp hu
    have hj : j < xs.length * size D t := by have := (List.getElem?_eq_some_iff.mp hq).1; simpa using this
    rw [List.getElem?_range hj, Option.some.injEq] at hq
    subst hq
    obtain ⟨h1, h2, h3⟩ := hm j hj
    rw [Addr.add_lit, ← hf _ _ h1 h2, Nat.add_assoc, h3]
  · obtain ⟨q, hq, rfl⟩ := List.mem_map.mp hu
    obtain ⟨h1, h2, h3⟩ := hm q (List.mem_range.mp hq)
    have hl : q % size D t < (encL D t (xs[q / size D t]'h1)).length := by rw [encL_len lw]; exact h2
    exact RP.one' (hr _ h1 _ _ (List.getElem?_eq_getElem hl))
  · have hj : j < size D t := by rw [← encL_len lw t xs[i]]; exact (List.getElem?_eq_some_iff.mp hy).1
    have hlt : i * size D t + j < xs.length * size D t := by
      have h1 : (i + 1) * size D t ≤ xs.length * size D t := Nat.mul_le_mul_right _ (by omega)
      rw [Nat.add_mul, Nat.one_mul] at h1
      omega
    refine ⟨f i j, ?_, hr i hi j y hy⟩
    rw [List.getElem?_map, List.getElem?_range hlt]
    simp only [Option.map_some]
    rw [Nat.add_comm (i * size D t) j, Nat.add_mul_div_right _ _ hpos, Nat.div_eq_of_lt hj, Nat.add_mul_mod_self_right, Nat.mod_eq_of_lt hj, Nat.zero_add]
theorem src_empty {t : Ty} {A : Option Addr} {cap : Nat} {tx e' : TypeId} (hk : P.underlying tx = some (.slice e')) :
    Src P (size D t) tx (.slice A 0 cap) 0 [] w ∧ News D w F t [] [] := by
  refine ⟨?_, fun i hi => by simp at hi⟩
  cases A with
  | none => exact Src.ofNil w hk cap
  | some A => exact Src.ofSlice w hk A 0 cap [] (by simp) (fun j u hu => by simp at hu) (fun u hu => by cases hu)
theorem eq?_some {t' t : Ty} {h : t' = t} (e : Ty.eq? t' t = some ⟨h⟩) : t' = t := h
theorem src_slice (lw : Lawful D P) (s : Sim K β F fr hp a w) {t : Ty} {xs : List (T D.S t)} {x : C D.S} {v : Value} {tx : TypeId} {dd : TD} (hpos : 0 < size D t) (hd : descOk P tx dd) (hs : srcOk D dd x = true) (rx : RC D w F hp.get β x v)
    (hns : ∀ z, x ≠ .str z) (he : elems D hp t x = some xs) : ∃ news, Src P (size D t) tx v xs.length news w ∧ News D w F t xs news := by
    have hk : ∃ e', P.underlying tx = some (.slice e') := by
      unfold srcOk at hs
      split at hs
      · exact absurd rfl (hns _)
      · cases hs
      · exact ⟨_, hd⟩
      · cases hs
    obtain ⟨e', hk⟩ := hk
    unfold elems at he
    split at he
    · rename_i id
      split at he
      · rename_i t' l hl
        split at he
        · rename_i h _
          subst h
          obtain rfl := Option.some.inj he
          obtain ⟨t2, l2, q1, g⟩ := rx
          rw [hl] at q1
          injection q1 with q1
          injection q1 with q2 q3
          subst q2
          obtain rfl := eq_of_heq q3
          rcases g with ⟨_, rfl, A, rfl⟩ | ⟨L, cap, b1, r1, r2, rfl⟩
          · exact ⟨[], src_empty hk⟩
          · obtain ⟨vs, ee, f, f1, f2, f3, f4, f5⟩ := arr_f lw (s.blk id _ hl) b1
            exact src_f lw hk hpos f4 f5
        · cases he
      · cases he
    · rename_i id off n
      split at he
      · rename_i t' l hl
        split at he
        · rename_i h _
          subst h
          obtain rfl := Option.some.inj he
          obtain ⟨t2, l2, q1, q0, g⟩ := rx
          rw [hl] at q1
          injection q1 with q1
          injection q1 with q2 q3
          subst q2
          obtain rfl := eq_of_heq q3
          have hlen : ((l.drop off).take n).length = n := by rw [List.length_take, List.length_drop]; omega
          have zero : ∀ A, n = 0 → ∃ news, Src P (size D t') tx (.slice A 0 0) ((l.drop off).take n).length news w ∧ News D w F t' ((l.drop off).take n) news := fun A hn => by
            subst hn
            rw [List.take_zero]
            exact ⟨[], src_empty hk⟩
          rcases g with ⟨b0, A, rfl⟩ | ⟨L, cap, b1, r1, r2, rfl | ⟨rfl, A, rfl⟩⟩
          · rcases s.blk id _ hl with ⟨_, rfl⟩ | ⟨L', _, _, q, _⟩
            · simp at q0; exact zero A (by omega)
            · rw [b0] at q; cases q
          · obtain ⟨vs, ee, f, f1, f2, f3, f4, f5⟩ := arr_f lw (s.blk id _ hl) b1
            have key := src_f (P := P) (w := w) (F := F) lw (xs := (l.drop off).take n) (b := L.b) (o' := L.o + off * size D t') (cap := cap) (f := fun i j => f (off + i) j) hk hpos
              (fun i j hi hj => by
                rw [hlen] at hi
                rw [← f4 (off + i) j (by omega) hj, show L.o + off * size D t' + i * size D t' + j = L.o + (off + i) * size D t' + j by rw [Nat.add_mul]; omega])
              (fun i hi j x hx => by
                have hi' : i < n := by rw [hlen] at hi; exact hi
                have e : ((l.drop off).take n)[i]'hi = l[off + i]'(by omega) := by rw [List.getElem_take, List.getElem_drop]
                rw [e] at hx
                exact f5 (off + i) (by omega) j x hx)
            rw [hlen] at key ⊢
            exact key
          · exact zero A (by omega)
        · cases he
      · cases he
    · rename_i t' l
      split at he
      · rename_i h _
        subst h
        obtain rfl := Option.some.inj he
        have rx' : RP D w F (.lst t' l) v := rx
        cases rx' with
        | lst0 => exact ⟨[], src_empty hk⟩
        | lst _ _ b o' cap f hb hc hf hr => exact src_f lw hk hpos hf hr
      · cases he
    · obtain rfl := Option.some.inj he
      obtain rfl := RC.nils_inv rx
      exact ⟨[], src_empty hk⟩
    · obtain rfl := Option.some.inj he
      have rx' : RP D w F .emp v := rx
      cases rx'
      exact ⟨[], src_empty hk⟩
    · cases he
theorem src_ok (lw : Lawful D P) (s : Sim K β F fr hp a w) {t : Ty} {xs : List (T D.S t)} {x : C D.S} {v : Value} {tx : TypeId} {dd : TD} (hpos : 0 < size D t) (hd : descOk P tx dd) (hs : srcOk D dd x = true) (rx : RC D w F hp.get β x v)
    (he : srcL D hp t x = some xs) : ∃ news, Src P (size D t) tx v xs.length news w ∧ News D w F t xs news := by
  by_cases hz : ∃ z, x = .str z
  · obtain ⟨z, rfl⟩ := hz
    obtain rfl := RC.str_inv rx
    have hk : P.underlying tx = some .string := by
      cases dd <;> first | exact hd | (simp [srcOk] at hs)
    have hu : t = .int .u8 := by
      cases t with
      | int k => cases k <;> first | rfl | (simp [srcL, elems] at he)
      | bool => simp [srcL, elems] at he
      | str => simp [srcL, elems] at he
      | st n => simp [srcL, elems] at he
      | sl t => simp [srcL, elems] at he
      | ptr t => simp [srcL, elems] at he
    subst hu
    obtain rfl := Option.some.inj he
    refine ⟨byteCells z, ?_, fun i hi j y hy => ?_⟩
    · have hl : (strBytes z).length = z.size := by unfold strBytes; rw [List.length_map, Array.length_toList]; rfl
      rw [hl]
      exact Src.ofString w hk z
    · have hj : j = 0 := by
        cases j with
        | zero => rfl
        | succ j => simp [encL] at hy
      subst hj
      simp only [encL, List.getElem?_cons_zero, Option.some.injEq] at hy
      subst hy
      have hi' : i < z.data.toList.length := by unfold strBytes at hi; simpa using hi
      refine ⟨.int .u8 ((z.data.toList[i]).toNat : Int), ?_, ?_⟩
      · show (byteCells z)[i * 1 + 0]? = _
        unfold byteCells
        rw [Nat.mul_one, Nat.add_zero, List.getElem?_map, List.getElem?_eq_getElem hi']
        rfl
      · have e : (strBytes z)[i] = ((z.data.toList[i]).toNat : Int) := List.getElem_map ..
        rw [e]
        exact .int _ _
  · have hns : ∀ z, x ≠ .str z := fun z e => hz ⟨z, e⟩
    refine src_slice lw s hpos hd hs rx hns ?_
    unfold srcL at he
    split at he
    · exact absurd rfl (hns _)
    · exact he
/-- A block that nothing names is turned. -/
theorem Sim.free (s : Sim K β F fr hp a w) {b : Nat} {x : Obj} (hb : b < w.heap.size) (hF : ¬ F b) (hG : ¬ K.G b) (hlive : ∀ i b' L, hp.get i = some b' → β i = some L → L.b ≠ b) : Sim K β F fr hp a (World.setBlock w b x) := by
  have hF' : ∀ b', F b' → F b' ∧ (World.setBlock w b x).heap[b']? = w.heap[b']? := fun b' hb' => ⟨hb', setBlock_ne fun e => hF (e ▸ hb')⟩
  have hR : ∀ c v, RC D w F hp.get β c v → RC D (World.setBlock w b x) F hp.get β c v := fun c v => RC.trans hF' fun id _ => Keep.rfl' rfl rfl
  have hz : (World.setBlock w b x).heap.size = w.heap.size := by simp [World.setBlock]
  refine ⟨s.sz, s.df, fun i v h => RV.trans hR (s.frm i v h), fun i b' h => ?_, s.inj, fun i b' L h1 h2 => by rw [hz]; exact s.sep i b' L h1 h2, fun b' h => by rw [hz]; exact s.old b' h,
    fun b' h => (setBlock_ne (show b' ≠ b from fun e => hG (e ▸ h))).trans (s.keep b' h), s.gsep, s.fsub, ⟨by rw [hz]; exact s.w0.1, s.w0.2⟩, s.refs, s.key⟩
  have r := s.blk i b' h
  cases b' with
  | box cs =>
    obtain ⟨L, vs, t, r1, r2, r3, r4, r5⟩ := r
    exact ⟨L, vs, t, r1, (setBlock_ne (hlive i _ L h r1)).trans r2, r3, r4, RL.trans hR r5⟩
  | arr t l =>
    rcases r with r | ⟨L, vs, e, r1, r2, r3, r4, r5⟩
    · exact .inl r
    · refine .inr ⟨L, vs, e, r1, (setBlock_ne (hlive i _ L h r1)).trans r2, r3, r4, fun i hi j y hy => ?_⟩
      obtain ⟨v, hv, rv⟩ := r5 i hi j y hy
      exact ⟨v, hv, RP.mono D hF' rv⟩
/-- What is appended to. -/
inductive Base (D : Tys) (w : World) (F : Nat → Prop) (hp : Tr (B D.S)) (β : Nat → Option Loc) (t : Ty) : Option Nat → List (T D.S t) → Value → Prop
  | zero (id : Option Nat) (A : Option Addr) (h : ∀ i, id = some i → ∃ (t' : Ty) (l : List (T D.S t')), hp.get i = some (.arr t' l)) : Base D w F hp β t id [] (.slice A 0 0)
  | at_ (id : Nat) (l0 l : List (T D.S t)) (L : Loc) (o' cap : Nat) (vs : Array Value) (e : TypeId) (h : hp.get id = some (.arr t l0)) (hL : β id = some L) (hv : w.heap[L.b]? = some (.cells vs e (0, 0))) (hn : vs.size = L.n)
      (hc : l.length ≤ cap) (ho : o' + cap * size D t ≤ L.n)
      (hr : ∀ i (hi : i < l.length) (j : Nat) x, (encL D t (l[i]'hi))[j]? = some x → ∃ u, vs[o' + i * size D t + j]? = some u ∧ RP D w F x u) : Base D w F hp β t (some id) l (.slice (some ⟨L.b, o', none⟩) l.length cap)
theorem base_ok (s : Sim K β F fr hp a w) {t : Ty} {c : C D.S} {v : Value} {id : Option Nat} {l : List (T D.S t)} (r : RC D w F hp.get β c v) (e : grow D t hp c = some (id, l)) : Base D w F hp β t id l v := by
  unfold grow at e
  split at e
  · simp only [Option.some.injEq, Prod.mk.injEq] at e
    obtain ⟨rfl, rfl⟩ := e
    obtain rfl := RC.nils_inv r
    exact .zero _ _ (fun i h => by cases h)
  · rename_i i
    split at e
    · rename_i t' l' hl
      split at e
      · rename_i h _
        subst h
        simp only [Option.some.injEq, Prod.mk.injEq] at e
        obtain ⟨rfl, rfl⟩ := e
        obtain ⟨t2, l2, q1, g⟩ := r
        rw [hl] at q1
        injection q1 with q1
        injection q1 with q2 q3
        subst q2
        obtain rfl := eq_of_heq q3
        rcases g with ⟨_, rfl, A, rfl⟩ | ⟨L, cap, b1, r1, r2, rfl⟩
        · exact .zero _ _ (fun j h => by obtain rfl := Option.some.inj h; exact ⟨_, _, hl⟩)
        · rcases s.blk i _ hl with ⟨q, _⟩ | ⟨L', vs, ee, q, f1, f2, f3, f4⟩
          · rw [b1] at q; cases q
          rw [b1] at q
          obtain rfl := Option.some.inj q
          exact .at_ i l' l' L L.o cap vs ee hl b1 f1 f2 r1 r2 f4
      · cases e
    · cases e
  · rename_i i off n
    split at e
    · rename_i t' l' hl
      split at e
      · rename_i h _
        subst h
        simp only [Option.some.injEq, Prod.mk.injEq] at e
        obtain ⟨rfl, rfl⟩ := e
        obtain ⟨t2, l2, q1, q0, g⟩ := r
        rw [hl] at q1
        injection q1 with q1
        injection q1 with q2 q3
        subst q2
        obtain rfl := eq_of_heq q3
        have hlen : ((l'.drop off).take n).length = n := by rw [List.length_take, List.length_drop]; omega
        have zero : ∀ A, n = 0 → Base D w F hp β t' (some i) ((l'.drop off).take n) (.slice A 0 0) := fun A hn => by
          subst hn
          rw [List.take_zero]
          exact .zero _ _ (fun j h => by obtain rfl := Option.some.inj h; exact ⟨_, _, hl⟩)
        rcases g with ⟨b0, A, rfl⟩ | ⟨L, cap, b1, r1, r2, rfl | ⟨rfl, A, rfl⟩⟩
        · rcases s.blk i _ hl with ⟨_, rfl⟩ | ⟨L', _, _, q, _⟩
          · simp at q0; exact zero A (by omega)
          · rw [b0] at q; cases q
        · rcases s.blk i _ hl with ⟨q, _⟩ | ⟨L', vs, ee, q, f1, f2, f3, f4⟩
          · rw [b1] at q; cases q
          rw [b1] at q
          obtain rfl := Option.some.inj q
          have key := Base.at_ (D := D) (w := w) (F := F) (hp := hp) (β := β) i l' ((l'.drop off).take n) L (L.o + off * size D t') cap vs ee hl b1 f1 f2 (by rw [hlen]; exact r1) (by rw [Nat.add_assoc, ← Nat.add_mul]; exact r2)
            (fun i hi j x hx => by
              have hi' : i < n := by rw [hlen] at hi; exact hi
              have e : ((l'.drop off).take n)[i]'hi = l'[off + i]'(by omega) := by rw [List.getElem_take, List.getElem_drop]
              rw [e] at hx
              obtain ⟨u, hu, ru⟩ := f4 (off + i) (by omega) j x hx
              exact ⟨u, by rw [← hu, show L.o + off * size D t' + i * size D t' + j = L.o + (off + i) * size D t' + j by rw [Nat.add_mul]; omega], ru⟩)
          rw [hlen] at key
          exact key
        · exact zero A (by omega)
      · cases e
    · cases e
  · cases e
theorem Base.arr {t : Ty} {i : Nat} {l : List (T D.S t)} {v : Value} (b : Base D w F hp β t (some i) l v) : ∃ (t' : Ty) (l' : List (T D.S t')), hp.get i = some (.arr t' l') := by
  cases b with
  | zero _ A h0 => exact h0 i rfl
  | at_ _ l0 _ L o' cap vs e' h0 => exact ⟨_, _, h0⟩
theorem enc_app (lw : Lawful D P) {t : Ty} {l xs : List (T D.S t)} {cells news : List Value} (hpos : 0 < size D t) (hc : cells.length = l.length * size D t)
    (h1 : ∀ i (hi : i < l.length) (j : Nat) x, (encL D t (l[i]'hi))[j]? = some x → ∃ u, cells[i * size D t + j]? = some u ∧ RP D w F x u) (h2 : News D w F t xs news) {tail : List Value} :
    ∀ i (hi : i < (l ++ xs).length) (j : Nat) x, (encL D t ((l ++ xs)[i]'hi))[j]? = some x → ∃ u, (cells ++ news ++ tail)[i * size D t + j]? = some u ∧ RP D w F x u := by
  intro i hi j x hx
  by_cases h : i < l.length
  · rw [List.getElem_append_left h] at hx
    obtain ⟨u, hu, ru⟩ := h1 i h j x hx
    refine ⟨u, ?_, ru⟩
    rw [List.append_assoc, List.getElem?_append_left (List.getElem?_eq_some_iff.mp hu).1]
    exact hu
  · rw [List.getElem_append_right (by omega)] at hx
    rw [List.length_append] at hi
    obtain ⟨u, hu, ru⟩ := h2 (i - l.length) (by omega) j x hx
    refine ⟨u, ?_, ru⟩
    have e : i * size D t + j = cells.length + ((i - l.length) * size D t + j) := by
      rw [hc, ← Nat.add_assoc, ← Nat.add_mul, show l.length + (i - l.length) = i by omega]
    rw [e, List.append_assoc, List.getElem?_append_right (by omega), show cells.length + ((i - l.length) * size D t + j) - cells.length = (i - l.length) * size D t + j by omega, List.getElem?_append_left (List.getElem?_eq_some_iff.mp hu).1]
    exact hu
theorem op_append (lw : Lawful D P) (s : Sim K β F fr hp a w) (hd : d < 65535) {args : Array Operand} {ts : Array TypeId} (ho : o.op = .call ⟨.builtin .append, args, ts⟩) (h : opK D H (.call ⟨.builtin .append, args, ts⟩) d fr hp k = some r) : Post D P K o a w k r := by
  simp only [opK] at h
  split at h
  case h_2 => cases h
  rename_i c x t tx ha ht
  split at h
  case h_2 => cases h
  rename_i e q1 q2 q3 q4 q5 q50 tix hti htix
  split at h
  case h_2 => cases h
  rename_i q6 q7 q8 by_ q9 τ q51 htie hsrc
  obtain ⟨y, y', rfl, rc, rx⟩ := evAs_two s ha
  obtain rfl : ts = #[t, tx] := by apply Array.toList_inj.mp; rw [ht]
  have hu : P.underlying t = some (.slice e) := (lk_ti lw hti).desc
  have hdx := (lk_ti lw htix).desc
  have oke := lk_ti lw htie
  obtain ⟨j, hj, hjs, hjb, z, hz, hzc, _⟩ := oke.info
  obtain ⟨hτ, _⟩ := oke.ty τ rfl
  have hpos := oke.pos
  have hbyt := oke.byt
  simp only at hjs hτ hjb hzc hpos hbyt
  have hsz : j.size = size D τ := by rw [hjs, hτ]
  have hp0 : 0 < size D τ := by omega
  unfold appendK at h
  split at h
  · cases h
  rename_i id l hg
  split at h
  · cases h
  rename_i xs hxs
  obtain ⟨hb, h⟩ := bK_some h
  have hb' : (l.length + xs.length) * j.bytes ≤ 140737488355328 := by
    rw [hjb]
    exact Nat.le_of_ble_eq_true hb
  have h63 : ((l.length + xs.length : Nat) : Int) ≤ 9223372036854775807 := by
    have : (l.length + xs.length) * 1 ≤ (l.length + xs.length) * j.bytes := Nat.mul_le_mul_left _ (by omega)
    omega
  obtain ⟨news, hsr, hnw⟩ := src_ok (P := P) lw s hp0 hdx hsrc rx hxs
  have hbase := base_ok s rc hg
  -- the run, from what append itself does
  have hexec : ∀ {v' w'}, (Builtin.append_ #[t, tx] o.type #[a.eval y, a.eval y']).run P w = .ok v' w' → (execOp a.eval o).run P w = .ok (.value v') w' := fun {v' w'} hr => by
    obtain ⟨cs, hx⟩ := exec_builtin (P := P) (a := a) _ _ _ ho w
    rw [hx]
    simp [builtin, hr]
  -- behind what is appended to: nothing names it any more
  have hkill : ∃ fr1 hp1, Sim K β F fr1 hp1 a w ∧ newK D d (.arr τ (l ++ xs)) (.own d) fr1 hp1 k = some r ∧ (∀ i b, hp1.get i = some b → ∃ b', hp.get i = some b') ∧ (∀ i, id = some i → hp1.get i = none) := by
    cases id with
    | none => exact ⟨fr, hp, s, h, fun i b h => ⟨b, h⟩, fun i h => by cases h⟩
    | some i =>
      simp only [killK_eq] at h
      obtain ⟨t', l', hi⟩ := hbase.arr
      have hid := s.key i _ hi
      have hg' : ∀ q, (hp.set depth i none).get q = if q = i then none else hp.get q := fun q => Tr.get_set _ _ _ _ _ (by rw [depth_ok]; omega)
      refine ⟨_, _, (s.kill hid hi).1, h, fun q b hq => ?_, fun q hq => ?_⟩
      · rw [Tr.get_map, hg'] at hq
        by_cases eq : q = i
        · rw [if_pos eq] at hq; cases hq
        · rw [if_neg eq] at hq
          obtain ⟨b', hb', _⟩ := Option.map_eq_some_iff.mp hq
          exact ⟨b', hb'⟩
      · obtain rfl := Option.some.inj hq
        rw [Tr.get_map, hg', if_pos rfl]; rfl
  obtain ⟨fr1, hp1, s1, h1, hback, hgone⟩ := hkill
  clear h
  have hlen : (l ++ xs).length = l.length + xs.length := List.length_append
  -- a new row
  have grow : ∀ (A : Option Addr) (cap : Nat) (olds : List Value), a.eval y = .slice A l.length cap → (Builtin.firstCells j.size l.length (.slice A l.length cap)).run P w.drew = .ok olds.toArray w.drew → olds.length = l.length * size D τ →
      (∀ i (hi : i < l.length) (jj : Nat) x, (encL D τ (l[i]'hi))[jj]? = some x → ∃ u, olds[i * size D τ + jj]? = some u ∧ RP D w F x u) → cap < l.length + xs.length → Post D P K o a w k r := by
    intro A cap olds ey hold hol hr hlt
    have hrun := run_append_grow_src (P := P) w t tx o.type e j z hu hj hz A l.length cap olds hold (a.eval y') xs.length news (by rw [hsz]; exact hsr) hlt h63 (growslice_fits hlt hb')
    rw [← ey] at hrun
    have hge := grownCap_ge w (l.length + xs.length) cap e
    have hnl := hsr.newsLen
    have hzl : z.cells.size = size D τ := by
      have := congrArg List.length hzc
      have h2 : q9.length = q8 := oke.zlen
      simp only [List.length_map, Array.length_toList] at this
      omega
    refine newArr lw s1 hd (One.drew w _) (cap := grownCap w (l.length + xs.length) cap e) (by rw [hlen]; exact hge) ?_ ?_ (by rw [hlen]; exact hexec hrun) h1
    · rw [Array.size_append, List.size_toArray, size_zeroCells, hzl, List.length_append, hol, hnl, ← Nat.add_mul, ← Nat.add_mul]
      exact Nat.mul_le_mul_right _ (by omega)
    · intro i hi jj x hx
      have := enc_app (w := w) (F := F) lw hp0 hol hr hnw (tail := (Builtin.zeroCells z.cells (grownCap w (l.length + xs.length) cap e - (l.length + xs.length))).toList) i hi jj x hx
      obtain ⟨u, hu', ru⟩ := this
      refine ⟨u, ?_, ru⟩
      rw [← hu', ← Array.getElem?_toList, Array.toList_append]
  generalize ey : a.eval y = v0 at hbase
  cases hbase with
  | zero _ A h0 =>
    by_cases hn0 : xs.length = 0
    · -- nothing is appended
      obtain rfl : xs = [] := List.length_eq_zero_iff.mp hn0
      have hrun : (Builtin.append_ #[t, tx] o.type #[a.eval y, a.eval y']).run P w = .ok (.slice A 0 0) w := by
        rw [ey]
        have hnews : news = [] := List.length_eq_zero_iff.mp (by rw [hsr.newsLen]; simp)
        have hc := hsr.cells
        rw [hnews] at hc
        simp only [List.length_nil] at hc
        have hl0 := hsr.len
        simp only [List.length_nil] at hl0
        rw [← hsz] at hc
        rcases hsr.kind with ⟨e', hk⟩ | hk <;> cases A <;> simp [Builtin.append_, run_underlying hu, run_underlying hk, sizeOf, typeInfo, hj, hl0, hc, storeCells]
      unfold newK at h1
      split at h1
      · cases h1
      · rename_i hdn
        rw [Tr.setK_eq] at h1
        have hg' : ∀ q, (hp1.set depth d (some (.arr τ ([] ++ [])))).get q = if q = d then some (.arr τ ([] ++ [])) else hp1.get q := fun q => Tr.get_set _ _ _ _ _ (by rw [depth_ok]; omega)
        obtain ⟨s2, g2⟩ := s1.new hdn hd (.arr τ ([] ++ [])) none (fun L' e => by cases e) (.inl ⟨upd_at _ _ _, rfl⟩)
        exact ⟨_, _, _, h1, _, F, _, w, .inl (hexec hrun), s2, ⟨τ, [] ++ [], by rw [hg', if_pos rfl], .inl ⟨upd_at _ _ _, rfl, A, rfl⟩⟩⟩
    · refine grow A 0 [] ey ?_ (by simp) (fun i hi => by simp at hi) (by simp; omega)
      cases A with
      | none => exact run_firstCells_none w.drew j.size 0 0 0
      | some A => exact run_firstCells_some w.drew j.size 0 A 0 0 [] (by simp) (fun j v hv => by simp at hv)
  | at_ i l0 _ L o' cap vs e' h0 hL hv hn hc ho' hr =>
    by_cases hroom : l.length + xs.length ≤ cap
    · have hnl := hsr.newsLen
      have hm1 : (l.length + xs.length) * size D τ ≤ cap * size D τ := Nat.mul_le_mul_right _ hroom
      have hm2 : l.length * size D τ + news.length = (l.length + xs.length) * size D τ := by rw [hnl, Nat.add_mul]
      have hin : o' + l.length * size D τ + news.length ≤ vs.size := by omega
      have hrun := run_append_room_src (P := P) w t tx o.type e j hu hj L.b o' l.length cap (a.eval y') xs.length news (by rw [hsz]; exact hsr) hroom
        (fun q hq => by rw [hsz, cell_of hv, Array.getElem?_eq_getElem (by omega)]; rfl) (fun q hq => by simp [World.frozen?, hv])
      rw [hsz, setCells_block hv _ _ (by omega), ← ey] at hrun
      have hLb := s.sep i _ L h0 hL
      have hlive : ∀ q b' L2, hp1.get q = some b' → β q = some L2 → L2.b ≠ L.b := fun q b' L2 hq hL2 e => by
        obtain ⟨b2, hb2⟩ := hback q b' hq
        have := s.inj q i b2 _ L2 L hb2 h0 hL2 hL e
        subst this
        rw [hgone q rfl] at hq; cases hq
      have s2 := s1.free (x := .cells (putV vs (o' + l.length * size D τ) news) e' (0, 0)) hLb.2 hLb.1 (s.gsep i _ L h0 hL) hlive
      unfold newK at h1
      split at h1
      · cases h1
      · rename_i hdn
        rw [Tr.setK_eq] at h1
        have hg' : ∀ q, (hp1.set depth d (some (.arr τ (l ++ xs)))).get q = if q = d then some (.arr τ (l ++ xs)) else hp1.get q := fun q => Tr.get_set _ _ _ _ _ (by rw [depth_ok]; omega)
        have upF : ∀ {c : C D.S} {v : Value}, RP D w F c v → RP D (World.setBlock w L.b (.cells (putV vs (o' + l.length * size D τ) news) e' (0, 0))) F c v :=
          fun r => RP.mono D (fun b hb => ⟨hb, setBlock_ne (show b ≠ L.b from fun e => by rw [e] at hb; exact hLb.1 hb)⟩) r
        have hzs : (putV vs (o' + l.length * size D τ) news).size = vs.size := putV_size hin
        obtain ⟨s3, g3⟩ := s2.new hdn hd (.arr τ (l ++ xs)) (some ⟨L.b, o', L.n⟩) (fun L' e => by
            obtain rfl := Option.some.inj e
            exact ⟨by simp [World.setBlock]; exact hLb.2, hLb.1, hlive, s.gsep i _ L h0 hL⟩)
          (.inr ⟨_, _, e', upd_at _ _ _, setBlock_at hLb.2, by rw [hzs, hn], by rw [hlen]; simp only; omega, fun q hq jj x hx => by
            have hjj : jj < size D τ := by rw [← encL_len lw τ ((l ++ xs)[q]'hq)]; exact (List.getElem?_eq_some_iff.mp hx).1
            by_cases hql : q < l.length
            · rw [List.getElem_append_left hql] at hx
              obtain ⟨u, hu', ru⟩ := hr q hql jj x hx
              have h2 : (q + 1) * size D τ ≤ l.length * size D τ := Nat.mul_le_mul_right _ (by omega)
              rw [Nat.add_mul, Nat.one_mul] at h2
              exact ⟨u, by simp only; rw [putV_out hin _ (.inl (by omega))]; exact hu', upF ru⟩
            · rw [List.getElem_append_right (by omega)] at hx
              rw [hlen] at hq
              obtain ⟨u, hu', ru⟩ := hnw (q - l.length) (by omega) jj x hx
              refine ⟨u, ?_, upF ru⟩
              have e1 : o' + q * size D τ + jj = o' + l.length * size D τ + ((q - l.length) * size D τ + jj) := by
                have : q * size D τ = l.length * size D τ + (q - l.length) * size D τ := by rw [← Nat.add_mul, show l.length + (q - l.length) = q by omega]
                omega
              simp only
              rw [e1, putV_in hin _ (List.getElem?_eq_some_iff.mp hu').1]
              exact hu'⟩)
        exact ⟨_, _, _, h1, _, F, _, _, .inl (hexec hrun), s3, ⟨τ, l ++ xs, by rw [hg', if_pos rfl], .inr ⟨_, cap, upd_at _ _ _, by rw [hlen]; exact hroom, by simp only; exact ho', by rw [hlen]⟩⟩⟩
    · have hml : l.length * size D τ ≤ cap * size D τ := Nat.mul_le_mul_right _ hc
      have hol : ((vs.toList.drop o').take (l.length * size D τ)).length = l.length * size D τ := by
        have hz : vs.toList.length = vs.size := Array.length_toList
        rw [List.length_take, List.length_drop]; omega
      refine grow (some ⟨L.b, o', none⟩) cap ((vs.toList.drop o').take (l.length * size D τ)) ey ?_ hol (fun q hq jj x hx => ?_) (by omega)
      · refine run_firstCells_some w.drew j.size l.length ⟨L.b, o', none⟩ l.length cap _ (by rw [hol, hsz]) (fun q u hq => ?_)
        have hql : q < l.length * size D τ := by rw [← hol]; exact (List.getElem?_eq_some_iff.mp hq).1
        rw [List.getElem?_take_of_lt hql, List.getElem?_drop, Array.getElem?_toList] at hq
        rw [Addr.add_lit]
        show w.cell? ⟨L.b, o' + q, none⟩ = some u
        rw [cell_of hv]; exact hq
      · obtain ⟨u, hu', ru⟩ := hr q hq jj x hx
        have hjj : jj < size D τ := by rw [← encL_len lw τ l[q]]; exact (List.getElem?_eq_some_iff.mp hx).1
        have h2 : (q + 1) * size D τ ≤ l.length * size D τ := Nat.mul_le_mul_right _ (by omega)
        rw [Nat.add_mul, Nat.one_mul] at h2
        refine ⟨u, ?_, ru⟩
        rw [List.getElem?_take_of_lt (by omega), List.getElem?_drop, Array.getElem?_toList, ← Nat.add_assoc]
        exact hu'
end
end Go.Proofs.Ytkpjeihgigmnkaa.Ev
/- Values without memory: whether two structs are the same; every operation that calls no function. -/
namespace Go.Proofs.Ytkpjeihgigmnkaa.Ev
open Go
set_option linter.unusedVariables false
set_option linter.unusedSimpArgs false
section
variable {D : Tys} {P : Program}
variable {R : Type} {H : HH D R} {K : Kx D} {β : Nat → Option Loc} {F : Nat → Prop} {fr : Tr (V D.S)} {hp : Tr (B D.S)} {a : Act} {w : World} {o : Oper} {d : Nat} {k : KK D R} {r : R}
def eqPl : List (C D.S) → List (C D.S) → Option Bool
  | [], [] => some true
  | x :: xs, y :: ys => match eqC x y with | some b => (match eqPl xs ys with | some b' => some (b && b') | none => none) | none => none
  | _, _ => none
theorem eqCs_pl : ∀ {xs ys : List (C D.S)} {r : Bool}, eqCs xs ys = some r → eqPl xs ys = some r
  | [], [], r, h => h
  | [], _ :: _, r, h => by simp [eqCs] at h
  | _ :: _, [], r, h => by simp [eqCs] at h
  | [x], [y], r, h => by
    simp only [eqCs] at h
    simp [eqPl, h]
  | [x], y :: y' :: ys, r, h => by
    simp only [eqCs] at h
    split at h <;> cases h
  | x :: x' :: xs, [y], r, h => by
    simp only [eqCs] at h
    split at h <;> cases h
  | x :: x' :: xs, y :: y' :: ys, r, h => by
    rw [eqCs] at h
    · split at h
      · rename_i b hb
        split at h
        · rename_i b' hb'
          rw [eqPl]
          rw [hb, eqCs_pl hb']
          exact h
        · cases h
      · cases h
    all_goals simp
theorem eqPl_split : ∀ {n : Nat} {xs ys : List (C D.S)} {r : Bool}, eqPl xs ys = some r → ∃ r1 r2, eqPl (xs.take n) (ys.take n) = some r1 ∧ eqPl (xs.drop n) (ys.drop n) = some r2 ∧ r = (r1 && r2)
  | 0, xs, ys, r, h => ⟨true, r, rfl, h, rfl⟩
  | n + 1, [], [], r, h => ⟨true, r, rfl, h, rfl⟩
  | n + 1, [], _ :: _, r, h => by simp [eqPl] at h
  | n + 1, _ :: _, [], r, h => by simp [eqPl] at h
  | n + 1, x :: xs, y :: ys, r, h => by
    simp only [eqPl] at h
    split at h
    · rename_i b hb
      split at h
      · rename_i b' hb'
        obtain rfl := Option.some.inj h
        obtain ⟨r1, r2, h1, h2, rfl⟩ := eqPl_split (n := n) hb'
        exact ⟨b && r1, r2, by simp [eqPl, hb, h1], by simpa using h2, by cases b <;> rfl⟩
      · cases h
    · cases h
theorem kindsC_at : ∀ {ks : List TD} {cs : List (C D.S)}, kindsC ks cs = true → ks.length = cs.length
  | [], [], _ => rfl
  | k :: ks, c :: cs, h => by
    simp only [kindsC] at h
    split at h
    · simp [kindsC_at h]
    · cases h
  | [], _ :: _, h => by cases h
  | _ :: _, [], h => by cases h
theorem kindsC_app : ∀ {k1 k2 : List TD} {cs : List (C D.S)}, kindsC (k1 ++ k2) cs = true → kindsC k1 (cs.take k1.length) = true ∧ kindsC k2 (cs.drop k1.length) = true
  | [], k2, cs, h => ⟨rfl, h⟩
  | k :: k1, k2, [], h => by cases h
  | k :: k1, k2, c :: cs, h => by
    simp only [List.cons_append, kindsC] at h
    split at h
    · rename_i hk
      obtain ⟨h1, h2⟩ := kindsC_app h
      refine ⟨?_, by simpa using h2⟩
      simp only [List.length_cons, List.take_succ_cons, kindsC, hk]
      exact h1
    · cases h
/-- A value of a type, told and in memory. -/
def ValOf (P : Program) (t : TypeId) (w : World) (F : Nat → Prop) (h : Hp D) (β : Nat → Option Loc) (cs : List (C D.S)) (v : Value) : Prop :=
  (aggOf P t = true → ∃ vs, v = .agg vs ∧ RL D w F h β cs vs.toList) ∧ (aggOf P t = false → ∃ c, cs = [c] ∧ RC D w F h β c v)
theorem eq_one {c c' : C D.S} {b : Bool} (e : eqPl [c] [c'] = some b) : eqC c c' = some b := by
  simp only [eqPl] at e
  split at e
  · rename_i b' hb'
    simp at e
    rw [hb', e]
  · cases e
theorem part_val {f : Field} (hu : (P.underlying f.type).isSome) (hpos : 0 < P.cellsOf f.type) {F h β} {cs : List (C D.S)} {vs : Array Value} (rl : RL D w F h β cs vs.toList) {off : Nat} (hl : off + P.cellsOf f.type ≤ cs.length)
    (hone : aggOf P f.type = false → P.cellsOf f.type = 1) : ∃ v, (part f.type vs off).run P w = .ok v w ∧ ValOf P f.type w F h β ((cs.drop off).take (P.cellsOf f.type)) v := by
  obtain ⟨j, hj, hs⟩ := cellsOf_info hpos
  have hsub : ∀ n (l : List (C D.S)), n ≤ l.length → takeS n l = some (l.take n) := by
    intro n
    induction n with
    | zero => intro l _; rfl
    | succ n ih =>
      intro l hl
      match l, hl with
      | x :: l, hl => simp only [takeS]; rw [ih l (by simpa using hl)]; rfl
  have hdrop : ∀ n (l : List (C D.S)), n ≤ l.length → dropS n l = some (l.drop n) := by
    intro n
    induction n with
    | zero => intro l _; rfl
    | succ n ih =>
      intro l hl
      match l, hl with
      | x :: l, hl => simp only [dropS]; rw [ih l (by simpa using hl)]; rfl
  have e : subS off j.size cs = some ((cs.drop off).take (P.cellsOf f.type)) := by
    unfold subS
    rw [hdrop off cs (by omega)]
    simp only
    rw [hs, hsub _ _ (by rw [List.length_drop]; omega)]
  cases hg : aggOf P f.type
  · have h1 := hone hg
    have hlen : ((cs.drop off).take (P.cellsOf f.type)).length = 1 := by rw [List.length_take, List.length_drop]; omega
    match hq : (cs.drop off).take (P.cellsOf f.type), hlen with
    | [c], _ =>
      rw [hq] at e
      obtain ⟨v, hv, ra⟩ := run_part hj hu (by omega) hg rl e (x := .c c) rfl
      exact ⟨v, hv, fun h => (by rw [hg] at h; cases h), fun _ => ⟨c, rfl, ra⟩⟩
  · obtain ⟨v, hv, ra⟩ := run_part hj hu (by omega) hg rl e (x := .agg _) rfl
    exact ⟨v, hv, fun _ => ra, fun h => (by rw [hg] at h; cases h)⟩
theorem kindsT_one {m : Nat} {t : TypeId} {ks : List TD} (h : kindsT P m t = some ks) (hg : aggOf P t = false) : ks.length = 1 := by
  cases m with
  | zero => cases h
  | succ m =>
    unfold kindsT at h
    unfold aggOf at hg
    split at h
    · obtain rfl := Option.some.inj h; rfl
    · obtain rfl := Option.some.inj h; rfl
    · obtain rfl := Option.some.inj h; rfl
    · rename_i e; rw [e] at hg; cases hg
    · rename_i e; rw [e] at hg; cases hg
    · cases h
/-- What two values of a type come to when they are compared. -/
def EqRun (D : Tys) (P : Program) (w : World) (F : Nat → Prop) (h : Hp D) (β : Nat → Option Loc) (m : Nat) (t : TypeId) (ks : List TD) : Prop :=
  ∀ (d : Nat) (cs ds : List (C D.S)) (v u : Value) (r : Bool), kindsC ks cs = true → kindsC ks ds = true → ValOf P t w F h β cs v → ValOf P t w F h β ds u → eqPl cs ds = some r → (Op.equalIn (d + m) t v u).run P w = .ok r w
theorem eqFields_run {h β} (m : Nat) (ih : ∀ t ks, kindsT P m t = some ks → EqRun D P w F h β m t ks) {cs ds : List (C D.S)} {xs ys : Array Value} (r1 : RL D w F h β cs xs.toList) (r2 : RL D w F h β ds ys.toList) (d : Nat) :
    ∀ (fs : List Field) (off : Nat) (ks : List TD) (r : Bool), kindsF P (kindsT P m) fs off = some ks → kindsC ks (cs.drop off) = true → kindsC ks (ds.drop off) = true → off ≤ cs.length → off ≤ ds.length → eqPl (cs.drop off) (ds.drop off) = some r → (Op.eqFields (d + m) xs ys fs).run P w = .ok r w
  | [], off, ks, r, hk, k1, k2, o1, o2, he => by
    simp only [kindsF, Option.some.injEq] at hk
    subst hk
    have e1 := kindsC_at k1
    have e2 := kindsC_at k2
    rw [List.length_eq_zero_iff.mp e1.symm, List.length_eq_zero_iff.mp e2.symm] at he
    simp only [eqPl, Option.some.injEq] at he
    subst he
    simp [Op.eqFields]
  | f :: fs, off, ks, r, hk, k1, k2, o1, o2, he => by
    simp only [kindsF] at hk
    split at hk
    · rename_i hc
      simp only [Bool.and_eq_true, bne_iff_ne, beq_iff_eq, decide_eq_true_eq] at hc
      obtain ⟨⟨⟨hn, ho⟩, hpos⟩, hu⟩ := hc
      split at hk
      · rename_i ka kb hka hkb
        split at hk
        · rename_i hkl
          obtain rfl := Option.some.inj hk
          obtain ⟨k1a, k1b⟩ := kindsC_app k1
          obtain ⟨k2a, k2b⟩ := kindsC_app k2
          have l1 := kindsC_at k1
          have l2 := kindsC_at k2
          rw [List.length_append, List.length_drop] at l1 l2
          rw [hkl] at k1a k1b k2a k2b
          rw [List.drop_drop] at k1b k2b
          obtain ⟨q1, q2, e1, e2, rfl⟩ := eqPl_split (n := P.cellsOf f.type) he
          rw [List.drop_drop, List.drop_drop] at e2
          have hone : aggOf P f.type = false → P.cellsOf f.type = 1 := fun hg => by rw [← hkl]; exact kindsT_one hka hg
          obtain ⟨v, hv, va⟩ := part_val (w := w) hu hpos r1 (off := off) (by omega) hone
          obtain ⟨u, hu', vu⟩ := part_val (w := w) hu hpos r2 (off := off) (by omega) hone
          have hrun := ih f.type ka hka d _ _ v u q1 k1a k2a va vu e1
          have hrest := eqFields_run m ih r1 r2 d fs (off + P.cellsOf f.type) kb q2 hkb k1b k2b (by omega) (by omega) e2
          simp only [Op.eqFields, if_pos hn, Sem.run_bind, ho, hv, hu', hrun, Result.andThen_ok]
          cases q1
          · simp
          · simp [hrest]
        · cases hk
      · cases hk
    · cases hk
/-- The elements of two arrays, in turn. -/
def eqElems (d : Nat) (e : TypeId) (n : Nat) (xs ys : Array Value) : List Nat → Sem Bool
  | [] => pure true
  | i :: is => do
    let a ← part e xs (i * n)
    let b ← part e ys (i * n)
    let r ← Op.equalIn d e a b
    if (!r) = true then pure false else eqElems d e n xs ys is
theorem run_equalIn_array (w : World) (d : Nat) {t e : TypeId} {len : Nat} (xs ys : Array Value) {j : TypeInfo} (hu : P.underlying t = some (.array len e)) (hj : P.info? e = some j) :
    (Op.equalIn (d + 1) t (.agg xs) (.agg ys)).run P w = (eqElems d e j.size xs ys (List.range' 0 len)).run P w := by
  simp only [Op.equalIn, Sem.run_bind, run_underlying hu, Result.andThen_ok, run_sizeOf' hj]
  simp only [Sem.run_bind, run_program, hj, Sem.run_pure, Result.andThen_ok, Std.Legacy.Range.forIn_eq_forIn_range', Std.Legacy.Range.size, Nat.sub_zero, Nat.add_one_sub_one, Nat.div_one]
  generalize List.range' 0 len = is
  induction is generalizing w with
  | nil => simp [eqElems]
  | cons i is ih =>
    simp only [List.forIn_cons, eqElems, Sem.run_bind, Sem.run_ite]
    generalize (part e xs (i * j.size)).run P w = r1
    cases r1 with
    | ok a w1 =>
      simp only [Result.andThen_ok]
      generalize (part e ys (i * j.size)).run P w1 = r2
      cases r2 with
      | ok b w2 =>
        simp only [Result.andThen_ok]
        generalize (Op.equalIn d e a b).run P w2 = r3
        cases r3 with
        | ok r w3 =>
          cases r
          · simp only [Result.andThen_ok, Bool.not_false, if_true, Sem.run_pure]
          · simp only [Result.andThen_ok, Bool.not_true, Bool.false_eq_true, if_false, Sem.run_pure]
            exact ih w3
        | halt x w3 => simp [Result.andThen]
      | halt x w2 => simp [Result.andThen]
    | halt x w1 => simp [Result.andThen]
theorem part_valE {e : TypeId} (hu : (P.underlying e).isSome) (hpos : 0 < P.cellsOf e) {F h β} {cs : List (C D.S)} {vs : Array Value} (rl : RL D w F h β cs vs.toList) {off : Nat} (hl : off + P.cellsOf e ≤ cs.length)
    (hone : aggOf P e = false → P.cellsOf e = 1) : ∃ v, (part e vs off).run P w = .ok v w ∧ ValOf P e w F h β ((cs.drop off).take (P.cellsOf e)) v :=
  part_val (f := { name := "", type := e, offset := 0, embedded := false, tag := "", pkgPath := default, byteOffset := default }) hu hpos rl hl hone
theorem eqElems_run {h β} (m : Nat) {e : TypeId} {ks : List TD} (ih : EqRun D P w F h β m e ks) (hkl : ks.length = P.cellsOf e) (hpos : 0 < P.cellsOf e) (hu : (P.underlying e).isSome) (hone : aggOf P e = false → P.cellsOf e = 1) {cs ds : List (C D.S)} {xs ys : Array Value} (r1 : RL D w F h β cs xs.toList) (r2 : RL D w F h β ds ys.toList) (d : Nat) :
    ∀ (len i : Nat) (r : Bool), kindsC (List.replicate len ks).flatten (cs.drop (i * P.cellsOf e)) = true → kindsC (List.replicate len ks).flatten (ds.drop (i * P.cellsOf e)) = true → i * P.cellsOf e ≤ cs.length → i * P.cellsOf e ≤ ds.length → eqPl (cs.drop (i * P.cellsOf e)) (ds.drop (i * P.cellsOf e)) = some r → (eqElems (d + m) e (P.cellsOf e) xs ys (List.range' i len)).run P w = .ok r w
  | 0, i, r, k1, k2, o1, o2, he => by
    rw [List.replicate_zero, List.flatten_nil] at k1 k2
    have e1 := kindsC_at k1
    have e2 := kindsC_at k2
    rw [List.length_eq_zero_iff.mp e1.symm, List.length_eq_zero_iff.mp e2.symm] at he
    simp only [eqPl, Option.some.injEq] at he
    subst he
    simp [eqElems]
  | len + 1, i, r, k1, k2, o1, o2, he => by
    rw [List.replicate_succ, List.flatten_cons] at k1 k2
    obtain ⟨k1a, k1b⟩ := kindsC_app k1
    obtain ⟨k2a, k2b⟩ := kindsC_app k2
    have l1 := kindsC_at k1
    have l2 := kindsC_at k2
    rw [List.length_append, List.length_drop] at l1 l2
    rw [hkl] at k1a k1b k2a k2b
    rw [List.drop_drop, show i * P.cellsOf e + P.cellsOf e = (i + 1) * P.cellsOf e by rw [Nat.add_mul, Nat.one_mul]] at k1b k2b
    obtain ⟨q1, q2, e1, e2, rfl⟩ := eqPl_split (n := P.cellsOf e) he
    rw [List.drop_drop, List.drop_drop, show i * P.cellsOf e + P.cellsOf e = (i + 1) * P.cellsOf e by rw [Nat.add_mul, Nat.one_mul]] at e2
    obtain ⟨v, hv, va⟩ := part_valE (w := w) hu hpos r1 (off := i * P.cellsOf e) (by omega) hone
    obtain ⟨u, hu', vu⟩ := part_valE (w := w) hu hpos r2 (off := i * P.cellsOf e) (by omega) hone
    have hrun := ih d _ _ v u q1 k1a k2a va vu e1
    have hrest := eqElems_run m ih hkl hpos hu hone r1 r2 d len (i + 1) q2 k1b k2b (by rw [Nat.add_mul, Nat.one_mul]; omega) (by rw [Nat.add_mul, Nat.one_mul]; omega) e2
    rw [List.range'_succ]
    simp only [eqElems, Sem.run_bind, hv, hu', hrun, Result.andThen_ok]
    cases q1
    · simp
    · simp [hrest]
theorem equal_run {h β} : ∀ (m : Nat) (t : TypeId) (ks : List TD), kindsT P m t = some ks → EqRun D P w F h β m t ks
  | 0, t, ks, hk => by cases hk
  | m + 1, t, ks, hk => by
    intro d cs ds v u r k1 k2 hv hu he
    unfold kindsT at hk
    have one : ∀ (kd : TD), ks = [kd] → aggOf P t = false → ∃ c c', kindC kd c = true ∧ kindC kd c' = true ∧ RC D w F h β c v ∧ RC D w F h β c' u ∧ eqC c c' = some r := by
      intro kd e hg
      subst e
      obtain ⟨c, rfl, rc⟩ := hv.2 hg
      obtain ⟨c', rfl, rc'⟩ := hu.2 hg
      simp only [kindsC] at k1 k2
      refine ⟨c, c', ?_, ?_, rc, rc', eq_one he⟩
      · split at k1 <;> first | assumption | cases k1
      · split at k2 <;> first | assumption | cases k2
    split at hk
    · rename_i hx
      obtain ⟨c, c', q1, q2, rc, rc', e⟩ := one .bool (Option.some.inj hk).symm (by unfold aggOf; rw [hx])
      cases c <;> simp [kindC] at q1
      cases c' <;> simp [kindC] at q2
      obtain rfl := RC.bool_inv rc
      obtain rfl := RC.bool_inv rc'
      simp only [eqC, Option.some.injEq] at e
      subst e
      show (Op.equalIn ((d + m) + 1) t _ _).run P w = _
      simp [Op.equalIn, run_underlying hx]
    · rename_i kk hx
      obtain ⟨c, c', q1, q2, rc, rc', e⟩ := one (.int kk) (Option.some.inj hk).symm (by unfold aggOf; rw [hx])
      cases c <;> simp [kindC] at q1
      cases c' <;> simp [kindC] at q2
      subst q1; subst q2
      obtain rfl := RC.int_inv rc
      obtain rfl := RC.int_inv rc'
      simp only [eqC, if_pos, Option.some.injEq] at e
      subst e
      show (Op.equalIn ((d + m) + 1) t _ _).run P w = _
      simp [Op.equalIn, run_underlying hx]
    · rename_i hx
      obtain ⟨c, c', q1, q2, rc, rc', e⟩ := one .str (Option.some.inj hk).symm (by unfold aggOf; rw [hx])
      cases c <;> simp [kindC] at q1
      cases c' <;> simp [kindC] at q2
      obtain rfl := RC.str_inv rc
      obtain rfl := RC.str_inv rc'
      simp only [eqC, Option.some.injEq] at e
      subst e
      show (Op.equalIn ((d + m) + 1) t _ _).run P w = _
      simp [Op.equalIn, run_underlying hx]
    · rename_i fs hx
      have hg : aggOf P t = true := by unfold aggOf; rw [hx]
      obtain ⟨vs, rfl, rl⟩ := hv.1 hg
      obtain ⟨us, rfl, ru⟩ := hu.1 hg
      split at hk
      · cases hk
      · rename_i hst
        have hfo : P.fieldsOf t = fs := by unfold Program.fieldsOf; rw [hx]
        show (Op.equalIn ((d + m) + 1) t _ _).run P w = _
        rw [run_equalIn_struct w (d + m) t vs us (by rw [hfo]; exact hx) (by simpa using hst), hfo]
        exact eqFields_run m (equal_run m) rl ru d fs.toList 0 ks r hk (by simpa using k1) (by simpa using k2) (Nat.zero_le _) (Nat.zero_le _) (by simpa using he)
    · rename_i len e hx
      have hg : aggOf P t = true := by unfold aggOf; rw [hx]
      obtain ⟨vs, rfl, rl⟩ := hv.1 hg
      obtain ⟨us, rfl, ru⟩ := hu.1 hg
      split at hk
      · rename_i ka hka
        split at hk
        · rename_i hc
          obtain rfl := Option.some.inj hk
          obtain ⟨hkl, hpos, hue⟩ := hc
          obtain ⟨j, hj, hs⟩ := cellsOf_info hpos
          show (Op.equalIn ((d + m) + 1) t _ _).run P w = _
          rw [run_equalIn_array w (d + m) vs us hx hj, hs]
          exact eqElems_run m (equal_run m e ka hka) hkl hpos hue (fun hg => by rw [← hkl]; exact kindsT_one hka hg) rl ru d len 0 r (by simpa using k1) (by simpa using k2) (by omega) (by omega) (by simpa using he)
        · cases hk
      · cases hk
    · cases hk
theorem op_binOp_agg (lw : Lawful D P) (s : Sim K β F fr hp a w) {op : BinOp} {t q : TypeId} {x y : Operand} (ho : o.op = .binOp op t x y q) {c1 c2 : List (C D.S)} (hx : evA fr x = some (.agg c1)) (hy : evA fr y = some (.agg c2))
    (h : opK D H (.binOp op t x y q) d fr hp k = some r) : Post D P K o a w k r := by
  simp only [opK, hx, hy] at h
  split at h
  · rename_i ti hti
    split at h
    · cases h
    · rename_i hkk
      rw [Bool.and_eq_true, Bool.and_eq_true] at hkk
      obtain ⟨hne, hkk⟩ := hkk
      split at h
      · cases h
      · rename_i b hb
        have ok := lk_ti lw hti
        obtain ⟨vs, ex, rx⟩ := evA_ok s hx
        obtain ⟨us, ey, ry⟩ := evA_ok s hy
        rcases ok.eqk with e0 | ⟨m, hm, hks, hgt, hg⟩
        · rw [e0] at hne; cases hne
        · have key := equal_run (w := w) (F := F) (h := hp.get) (β := β) m t ti.eqk hks
          have hval : ∀ cs vv, (∃ vs, vv = .agg vs ∧ RL D w F hp.get β cs vs.toList) → ValOf P t w F hp.get β cs vv := fun cs vv h => ⟨fun _ => h, fun e => by rw [hg] at e; cases e⟩
          have hrun : (Op.equal t (a.eval x) (a.eval y)).run P w = .ok b w := by
            have := key (10000 - m) c1 c2 _ _ b hkk.1 hkk.2 (hval _ _ ⟨vs, ex, rx⟩) (hval _ _ ⟨us, ey, ry⟩) (eqCs_pl hb)
            rw [Nat.sub_add_cancel hm] at this
            exact this
          have hgd : ∀ op, (eqGuard op t x y (a.eval x) (a.eval y)).run P w = .ok () w := fun op => by
            rw [ex, ey]
            unfold eqGuard
            cases op <;> first | rfl | simp [hgt]
          have := fun hop => opEq_run (P := P) (o := o) (a := a) (w := w) (op := op) (t := t) (q := q) (x := x) (y := y) ho rfl rfl hop (by rw [ex]; simp) (by rw [ex]; simp) (by rw [ex]; simp) (by rw [ex]; simp) (hgd op) hrun
          split at h
          · exact Post.pure s h ((this (.inl rfl)).1 rfl) (.bool _)
          · exact Post.pure s h ((this (.inr rfl)).2 rfl) (.bool _)
          · cases h
  · cases h
end
end Go.Proofs.Ytkpjeihgigmnkaa.Ev
/- Values without memory: calls. -/
namespace Go.Proofs.Ytkpjeihgigmnkaa.Ev
open Go
set_option linter.unusedVariables false
set_option linter.unusedSimpArgs false
section
variable {D : Tys} {P : Program}
variable {R : Type} {H : HH D R} {K : Kx D} {β : Nat → Option Loc} {F : Nat → Prop} {fr : Tr (V D.S)} {hp : Tr (B D.S)} {a : Act} {w : World} {o : Oper} {d : Nat} {k : KK D R} {r : R}
theorem op_binOp (lw : Lawful D P) (s : Sim K β F fr hp a w) {op : BinOp} {t q : TypeId} {x y : Operand} (ho : o.op = .binOp op t x y q) (h : opK D H (.binOp op t x y q) d fr hp k = some r) : Post D P K o a w k r := by
  cases hx : evA fr x with
  | none => simp [opK, hx] at h
  | some x' =>
    cases hy : evA fr y with
    | none => cases x' with
      | c c => cases c <;> simp [opK, hx, hy] at h
      | agg cs => simp [opK, hx, hy] at h
    | some y' =>
      cases x' with
      | agg cs =>
        cases y' with
        | agg ds => exact op_binOp_agg lw s ho hx hy h
        | c c => simp [opK, hx, hy] at h
      | c c =>
        cases y' with
        | agg ds => cases c <;> simp [opK, hx, hy] at h
        | c c' =>
          by_cases h1 : ∃ k1 m k2 n, c = .int k1 m ∧ c' = .int k2 n
          · obtain ⟨k1, m, k2, n, rfl, rfl⟩ := h1
            exact op_binOp_int s ho hx hy h
          · by_cases h2 : ∃ m n, c = .str m ∧ c' = .str n
            · obtain ⟨m, n, rfl, rfl⟩ := h2
              exact op_binOp_str s ho hx hy h
            · exact op_binOp_nil lw s ho hx hy (fun k1 m k2 n e1 e2 => h1 ⟨k1, m, k2, n, e1, e2⟩) (fun m n e1 e2 => h2 ⟨m, n, e1, e2⟩) h
/-- A call of a function value. -/
def isCall : Op → Bool | .call ⟨.value _, _, _⟩ => true | _ => false
theorem op_ok (lw : Lawful D P) (s : Sim K β F fr hp a w) (hd : d < 65535) (hc : isCall o.op = false) (h : opK D H o.op d fr hp k = some r) : Post D P K o a w k r := by
  generalize ho : o.op = op at h hc
  cases op with
  | move x => exact op_move s ho h
  | assign x => exact op_assign s ho h
  | pick c x y => exact op_pick s ho h
  | alloc t => exact op_alloc lw s hd ho h
  | box t x => exact op_box lw s hd ho h
  | build t ps => exact op_build lw s ho h
  | buildSlice t n ps => exact op_buildSlice lw s hd ho h
  | load t p => exact op_load lw s ho h
  | store t p x => exact op_store lw s ho h
  | nilCheck x => exact op_nilCheck s ho h
  | binOp op t x y q => exact op_binOp lw s ho h
  | unOp u t x => exact op_unOp s ho h
  | convert q t x => exact op_convert lw s ho h
  | makeFunc f first caps => cases f <;> first | exact op_makeFunc s ho h | (simp [opK] at h)
  | makeSlice t x y => exact op_makeSlice lw s hd ho h
  | slice t x lo hi mx => cases mx with | none => exact op_slice lw s hd ho h | some m => simp [opK] at h
  | fieldAddr t x f => exact op_fieldAddr lw s ho h
  | field t x f => exact op_field lw s ho h
  | indexAddr t x y => exact op_indexAddr lw s ho h
  | index t x y => exact op_index lw s ho h
  | extract x i => exact op_extract s ho h
  | call c =>
    obtain ⟨f, args, ts⟩ := c
    cases f with
    | value f => cases hc
    | invoke x m => simp [opK] at h
    | builtin b =>
      cases b <;> first | exact op_len lw s ho h | exact op_append lw s hd ho h | exact op_max s ho h | exact op_min s ho h | (simp [opK] at h)
  | _ => simp [opK] at h

/-! ### what a call is told to do -/
def RPA (D : Tys) (w : World) (F : Nat → Prop) (x : A D.S) (v : Value) : Prop := match x with
  | .c c => RP D w F c v
  | .agg cs => ∃ vs, v = .agg vs ∧ PL w F cs vs.toList
theorem RPA.mono {w w' : World} {F F' : Nat → Prop} (h : ∀ b, F b → F' b ∧ w'.heap[b]? = w.heap[b]?) {x : A D.S} {v : Value} (r : RPA D w F x v) : RPA D w' F' x v := by
  cases x with
  | c c => exact RP.mono D h r
  | agg cs => obtain ⟨vs, rfl, r1, r2⟩ := r; exact ⟨vs, rfl, r1, fun j x v hx hv => RP.mono D h (r2 j x v hx hv)⟩
/-- Cells that lie in a block that is lent. -/
def LentAt (D : Tys) (w : World) (F : Nat → Prop) (L : Loc) (cs : List (C D.S)) : Prop := L.o = 0 ∧ ∃ vs t, w.heap[L.b]? = some (.cells vs t (0, 0)) ∧ vs.size = L.n ∧ PL w F cs vs.toList
inductive Args (D : Tys) (w : World) (F : Nat → Prop) : List PM → List (A D.S) → List Value → List Loc → Prop
  | nil : Args D w F [] [] [] []
  | val {ps as vs Ls} (x : A D.S) (v : Value) (r : RPA D w F x v) (h : Args D w F ps as vs Ls) : Args D w F (.val :: ps) (x :: as) (v :: vs) Ls
  | ref {ps as vs Ls} (cs : List (C D.S)) (L : Loc) (r : LentAt D w F L cs) (hF : ¬ F L.b) (hn : ∀ L' ∈ Ls, L'.b ≠ L.b) (h : Args D w F ps as vs Ls) :
      Args D w F (.ref :: ps) (.agg cs :: as) (.pointer (some ⟨L.b, 0, none⟩) :: vs) (L :: Ls)
structure Behind (w w' : World) (Ls : List Loc) : Prop where
  size : w.heap.size ≤ w'.heap.size
  rest : w'.os = w.os ∧ w'.tape = w.tape ∧ w'.output = w.output
  same : ∀ b, b < w.heap.size → (∀ L ∈ Ls, b ≠ L.b) → w'.heap[b]? = w.heap[b]?
def tupV (vs : List Value) : Value := match vs with | [v] => v | vs => .tuple vs.toArray
def ResAll (D : Tys) (w : World) (F : Nat → Prop) (res : List (A D.S)) (rvs : List Value) : Prop := res.length = rvs.length ∧ ∀ (j : Nat) x v, res[j]? = some x → rvs[j]? = some v → RPA D w F x v
def LentAll (D : Tys) (w : World) (F : Nat → Prop) (Ls : List Loc) (css : List (List (C D.S))) : Prop := Ls.length = css.length ∧ ∀ (j : Nat) L cs, Ls[j]? = some L → css[j]? = some cs → LentAt D w F L cs
/-- A call of g: it is entered, and comes to 'post'; or the model answers for it at once. -/
def RunOk (P : Program) (g : FuncId) (args : Array Value) (w : World) (post : Ending → World → Prop) : Prop :=
  ((callFunc g args).run P w = .ok (.enter g args) w ∧ Calls P g args w post) ∨ ∃ v, (callFunc g args).run P w = .ok (.value v) w ∧ post (.returned v) w
theorem RunOk.mono {g : FuncId} {args : Array Value} {w : World} {p q : Ending → World → Prop} (h : RunOk P g args w p) (hq : ∀ e w', p e w' → q e w') : RunOk P g args w q := by
  rcases h with ⟨h1, h2⟩ | ⟨v, h1, h2⟩
  · exact .inl ⟨h1, h2.mono hq⟩
  · exact .inr ⟨v, h1, hq _ _ h2⟩
/-- Called with 'ws', function g answers 'res', and leaves 'css' in what was lent to it. -/
def CallOk (D : Tys) (P : Program) (g : FuncId) (ps : List PM) (ws : List (A D.S)) (res : List (A D.S)) (css : List (List (C D.S))) : Prop :=
  ∀ (w : World) (F : Nat → Prop) (vs : List Value) (Ls : List Loc), (∀ b, F b → b < w.heap.size) → GlAt D.gl w → (∀ x ∈ D.gl, ∀ L ∈ Ls, x.1 ≠ L.b) → Args D w F ps ws vs Ls → RunOk P g vs.toArray w fun e w' =>
    ∃ rvs F', e = .returned (tupV rvs) ∧ Behind w w' Ls ∧ (∀ b, F b → F' b) ∧ (∀ b, F' b → (F b ∨ w.heap.size ≤ b) ∧ b < w'.heap.size) ∧ ResAll D w' F' res rvs ∧ LentAll D w' F' Ls css
/-! ### what is handed over with all that is its own -/
/-- A cell that holds something of its own, by value. -/
def RO (D : Tys) (w : World) (F : Nat → Prop) (c : C D.S) (v : Value) (Bs : List Loc) : Prop := match c with
  | .lst t l => (Bs = [] ∧ l = [] ∧ ∃ a, v = .slice a 0 0) ∨ ∃ L cap vs e, Bs = [L] ∧ w.heap[L.b]? = some (.cells vs e (0, 0)) ∧ vs.size = L.n ∧ l.length ≤ cap ∧ L.o + cap * size D t ≤ L.n ∧ v = .slice (some ⟨L.b, L.o, none⟩) l.length cap ∧
      ∀ i (hi : i < l.length) (j : Nat) x, (encL D t (l[i]'hi))[j]? = some x → ∃ u, vs[L.o + i * size D t + j]? = some u ∧ RP D w F x u
  | .fptr t l i off => ∃ x L us e, l = [x] ∧ Bs = [L] ∧ L.o = 0 ∧ w.heap[L.b]? = some (.cells us e (0, 0)) ∧ us.size = L.n ∧ PL w F (encL D t x) us.toList ∧ v = .pointer (some ⟨L.b, 0, none⟩)
  | .emp => False
  | c => Bs = [] ∧ RP D w F c v
/-- Cells, of which those that are named hold something of their own. -/
inductive ROL (D : Tys) (w : World) (F : Nat → Prop) (own : OwL) : Nat → List (C D.S) → List Value → List Loc → Prop
  | nil (j) : ROL D w F own j [] [] []
  | plain {j c v cs vs Bs} (h : posO own j = none) (r : RP D w F c v) (t : ROL D w F own (j + 1) cs vs Bs) : ROL D w F own j (c :: cs) (v :: vs) Bs
  | own {j p c v cs vs B1 Bs} (h : posO own j = some p) (r : RO D w F c v B1) (t : ROL D w F own (j + 1) cs vs Bs) : ROL D w F own j (c :: cs) (v :: vs) (B1 ++ Bs)
def LentO (D : Tys) (w : World) (F : Nat → Prop) (own : OwL) (L : Loc) (cs : List (C D.S)) (Bs : List Loc) : Prop := L.o = 0 ∧ ∃ vs t, w.heap[L.b]? = some (.cells vs t (0, 0)) ∧ vs.size = L.n ∧ ROL D w F own 0 cs vs.toList Bs
inductive LentX (D : Tys) (w : World) (F : Nat → Prop) : List OwL → List Loc → List (List (C D.S)) → List Loc → Prop
  | nil : LentX D w F [] [] [] []
  | cons {own owns L Ls cs css B1 Bs} (r : LentO D w F own L cs B1) (t : LentX D w F owns Ls css Bs) : LentX D w F (own :: owns) (L :: Ls) (cs :: css) (B1 ++ Bs)
/-- Where blocks lie, as they are pointed to. -/
def ptrsL (Ls : List Loc) : Array Value := (Ls.map fun L => Value.pointer (some ⟨L.b, L.o, none⟩)).toArray
inductive ArgsX (D : Tys) (w : World) (F : Nat → Prop) : List XP → List (A D.S) → List Value → List Loc → List Loc → Prop
  | nil : ArgsX D w F [] [] [] [] []
  | val {ps as vs Ls Os} (x : A D.S) (v : Value) (r : RPA D w F x v) (h : ArgsX D w F ps as vs Ls Os) : ArgsX D w F (.val :: ps) (x :: as) (v :: vs) Ls Os
  | ref {ps as vs Ls Os} (off : Nat) (own out : OwL) (cs : List (C D.S)) (L : Loc) (Bs : List Loc) (r : LentO D w F own L cs Bs) (h : ArgsX D w F ps as vs Ls Os) :
      ArgsX D w F (.ref off own out :: ps) (.agg cs :: as) (.pointer (some ⟨L.b, off, none⟩) :: vs) (L :: Ls) (Bs ++ Os)
  | clo {ps as vs Ls Os} (l : List (Nat × OwL)) (f : FuncId) (css : List (List (C D.S))) (L1 B1 : List Loc) (r : LentX D w F (l.map (·.2)) L1 css B1) (hs : css.map List.length = l.map (·.1)) (h : ArgsX D w F ps as vs Ls Os) :
      ArgsX D w F (.clo l :: ps) (.agg (.fn f [] :: catS D css) :: as) (.func (.func f) #[] (ptrsL L1) :: vs) (L1 ++ Ls) (B1 ++ Os)
def ownsX : List XP → List OwL
  | [] => []
  | .val :: ps => ownsX ps
  | .ref _ _ own :: ps => own :: ownsX ps
  | .clo l :: ps => l.map (·.2) ++ ownsX ps
inductive ResO (D : Tys) (w : World) (F : Nat → Prop) (ro : OwL) : Nat → List (A D.S) → List Value → List Loc → Prop
  | nil (j) : ResO D w F ro j [] [] []
  | plain {j x v xs vs Bs} (h : posO ro j = none) (r : RPA D w F x v) (t : ResO D w F ro (j + 1) xs vs Bs) : ResO D w F ro j (x :: xs) (v :: vs) Bs
  | own {j p c v xs vs B1 Bs} (h : posO ro j = some p) (r : RO D w F c v B1) (t : ResO D w F ro (j + 1) xs vs Bs) : ResO D w F ro j (.c c :: xs) (v :: vs) (B1 ++ Bs)
def locs (l : List Loc) : List Nat := l.map (·.b)
/-- Called with 'ws', function g answers 'res', and leaves 'css' in what was lent to it; with all that is their own. -/
def CallX (D : Tys) (P : Program) (g : FuncId) (xm : XMd) (ws : List (A D.S)) (res : List (A D.S)) (css : List (List (C D.S))) : Prop :=
  ∀ (w : World) (F : Nat → Prop) (vs : List Value) (Ls Os : List Loc), (∀ b, F b → b < w.heap.size) → GlAt D.gl w → (∀ x ∈ D.gl, ∀ L ∈ Ls ++ Os, x.1 ≠ L.b) → (∀ L ∈ Ls ++ Os, ¬ F L.b) → (locs (Ls ++ Os)).Nodup → ArgsX D w F xm.ps ws vs Ls Os →
    RunOk P g vs.toArray w fun e w' => ∃ rvs F' B1 B2, e = .returned (tupV rvs) ∧ Behind w w' (Ls ++ Os) ∧ (∀ b, F b → F' b) ∧ (∀ b, F' b → (F b ∨ w.heap.size ≤ b ∨ b ∈ locs Os) ∧ b < w'.heap.size) ∧
      ResO D w' F' xm.ro 0 res rvs B1 ∧ LentX D w' F' (ownsX xm.ps) Ls css B2 ∧ (∀ L ∈ B1 ++ B2, ¬ F' L.b ∧ (w.heap.size ≤ L.b ∨ L.b ∈ locs Os)) ∧ (locs (Ls ++ (B1 ++ B2))).Nodup
def HX (D : Tys) (P : Program) {R : Type} (H : HH D R) : Prop :=
  ∀ g ws (kk : List (A D.S) → List (List (C D.S)) → Option R) r xm, xmOf D g = some xm → H g ws kk = some r → ∃ res css, kk res css = some r ∧ CallX D P g xm ws res css
/-- What the table of functions says is so. -/
def HOk0 (D : Tys) (P : Program) {R : Type} (H : HH D R) : Prop :=
  ∀ g ws (kk : List (A D.S) → List (List (C D.S)) → Option R) r md, lk D.mode g = some md → md.xm = none → H g ws kk = some r → ∃ res css, kk res css = some r ∧ CallOk D P g md.ps ws res css ∧ ∀ kk2 : List (A D.S) → List (List (C D.S)) → Option R, H g ws kk2 = kk2 res css
def HOk (D : Tys) (P : Program) {R : Type} (H : HH D R) : Prop := HOk0 D P H ∧ HX D P H
theorem noRef_any {c : C D.S} (h : noRefC c = true) {w w' : World} {F F' : Nat → Prop} {v : Value} (r : RP D w F c v) : RP D w' F' c v := by
  cases r <;> first | (simp [noRefC] at h; done) | constructor
theorem noRefL_at : ∀ {cs : List (C D.S)}, noRefL cs = true → ∀ c ∈ cs, noRefC c = true
  | [], _, c, hc => by cases hc
  | x :: l, h, c, hc => by
    simp only [noRefL] at h
    split at h
    · rename_i hx
      rcases List.mem_cons.mp hc with rfl | hc
      · exact hx
      · exact noRefL_at h c hc
    · cases h
theorem noRefAs_at : ∀ {as : List (A D.S)}, noRefAs as = true → ∀ x ∈ as, noRefL x.cells = true
  | [], _, c, hc => by cases hc
  | x :: l, h, c, hc => by
    simp only [noRefAs] at h
    split at h
    · rename_i hx
      rcases List.mem_cons.mp hc with rfl | hc
      · exact hx
      · exact noRefAs_at h c hc
    · cases h
theorem noRefLs_at : ∀ {as : List (List (C D.S))}, noRefLs D as = true → ∀ x ∈ as, noRefL x = true
  | [], _, c, hc => by cases hc
  | x :: l, h, c, hc => by
    simp only [noRefLs] at h
    split at h
    · rename_i hx
      rcases List.mem_cons.mp hc with rfl | hc
      · exact hx
      · exact noRefLs_at h c hc
    · cases h
theorem noRef_PL {cs : List (C D.S)} (h : noRefL cs = true) {w w' : World} {F F' : Nat → Prop} {vs : List Value} (r : PL w F cs vs) : PL w' F' cs vs :=
  ⟨r.1, fun j x v hx hv => noRef_any (noRefL_at h x (List.mem_of_getElem? hx)) (r.2 j x v hx hv)⟩
theorem noRef_RPA {x : A D.S} (h : noRefL x.cells = true) {w w' : World} {F F' : Nat → Prop} {v : Value} (r : RPA D w F x v) : RPA D w' F' x v := by
  cases x with
  | c c => exact noRef_any (noRefL_at h c (by simp [A.cells])) r
  | agg cs => obtain ⟨vs, rfl, r⟩ := r; exact ⟨vs, rfl, noRef_PL h r⟩
/-- By value, and so in every way. -/
theorem RP.rc {w F h β} {c : C D.S} {v : Value} (r : RP D w F c v) : RC D w F h β c v := by
  cases r with
  | fn f => exact ⟨rfl, fun i hi => by cases hi⟩
  | int k n => exact .int k n
  | bool b => exact .bool b
  | str b => exact .str b
  | nilp => exact .nilp
  | nils => exact .nils
  | nili => exact .nili
  | nilf => exact .nilf
  | emp a cap => exact .emp a cap
  | err t k n => exact .err t k n
  | lst0 t a c hn => exact .lst0 t a c hn
  | lst t l b o cap f h1 h2 h3 h4 => exact .lst t l b o cap f h1 h2 h3 h4
  | fptr t l e off b o f h1 h2 h3 h4 => exact .fptr t l e off b o f h1 h2 h3 h4
theorem RPA.ra {w F h β} {x : A D.S} {v : Value} (r : RPA D w F x v) : RA D w F h β x v := by
  cases x with
  | c c => exact RP.rc r
  | agg cs => obtain ⟨vs, rfl, r1, r2⟩ := r; exact ⟨vs, rfl, r1, fun j x v hx hv => RP.rc (r2 j x v hx hv)⟩
theorem pack_ok {w F h β} {res : List (A D.S)} {rvs : List Value} (r : ResAll D w F res rvs) : RV D w F h β (packV D res) (tupV rvs) := by
  obtain ⟨r1, r2⟩ := r
  match res, rvs, r1, r2 with
  | [], [], _, _ => exact ⟨#[], rfl, rfl, fun j x v hx => by simp at hx⟩
  | [x], [v], _, r2 => exact RPA.ra (r2 0 x v rfl rfl)
  | x :: x' :: l, v :: v' :: l', r1, r2 =>
    refine ⟨(v :: v' :: l').toArray, rfl, by simpa using r1, fun j y u hy hu => ?_⟩
    rw [List.getElem?_toArray] at hu
    exact RPA.ra (r2 j y u hy hu)
theorem setRefsK_some {kk : Tr (B D.S) → Option R} : ∀ {rs : List Nat} {css : List (List (C D.S))} {hp : Tr (B D.S)}, setRefsK D rs css hp kk = some r → (∀ i ∈ rs, i < 65535) → distinct rs = true →
    ∃ hp', kk hp' = some r ∧ rs.length = css.length ∧ (∀ i, i ∉ rs → hp'.get i = hp.get i) ∧ (∀ (j : Nat) i cs, rs[j]? = some i → css[j]? = some cs → hp'.get i = some (.box cs))
  | [], [], hp, h, _, _ => ⟨hp, h, rfl, fun _ _ => rfl, fun j i cs hj => by simp at hj⟩
  | [], _ :: _, hp, h, _, _ => by cases h
  | _ :: _, [], hp, h, _, _ => by cases h
  | i :: rs, cs :: css, hp, h, hb, hd => by
    simp only [setRefsK, Tr.setK_eq] at h
    have hi : i < 65535 := hb i List.mem_cons_self
    have hg : ∀ q, (hp.set depth i (some (.box cs))).get q = if q = i then some (.box cs) else hp.get q := fun q => Tr.get_set _ _ _ _ _ (by rw [depth_ok]; omega)
    simp only [distinct] at hd
    split at hd
    · cases hd
    · rename_i hne
      have hni : i ∉ rs := fun hm => by
        rw [List.elem_eq_contains, List.contains_iff_mem.mpr hm] at hne; cases hne
      obtain ⟨hp', h1, h2, h3, h4⟩ := setRefsK_some h (fun q hq => hb q (List.mem_cons_of_mem _ hq)) hd
      refine ⟨hp', h1, by simp [h2], fun q hq => ?_, fun j q cs' hj hc => ?_⟩
      · rw [h3 q (fun hm => hq (List.mem_cons_of_mem _ hm)), hg, if_neg (show ¬ q = i from fun e => hq (by rw [e]; exact List.mem_cons_self))]
      · cases j with
        | zero =>
          simp at hj hc
          subst hj; subst hc
          rw [h3 _ hni, hg, if_pos rfl]
        | succ j => simp at hj hc; exact h4 j q cs' hj hc
/-- The state behind a call. -/
theorem Sim.called (s : Sim K β F fr hp a w) {w' : World} {F1 : Nat → Prop} {rs : List Nat} {css : List (List (C D.S))} {Ls : List Loc} (hbeh : Behind w w' Ls) (hF : ∀ b, F b → F1 b) (hF1 : ∀ b, F1 b → (F b ∨ w.heap.size ≤ b) ∧ b < w'.heap.size)
    (hLs : ∀ (j : Nat) i L, rs[j]? = some i → Ls[j]? = some L → β i = some L ∧ ∃ cs, hp.get i = some (.box cs)) (hlen : rs.length = Ls.length) (hlt : LentAll D w' F1 Ls css) {hp' : Tr (B D.S)}
    (h1 : ∀ i, i ∉ rs → hp'.get i = hp.get i) (h2 : ∀ (j : Nat) i cs, rs[j]? = some i → css[j]? = some cs → hp'.get i = some (.box cs)) : Sim K β F1 fr hp' a w' := by
  have find : ∀ i ∈ rs, ∃ (j : Nat) (L : Loc) (cs : List (C D.S)), rs[j]? = some i ∧ Ls[j]? = some L ∧ css[j]? = some cs := fun i hi => by
    obtain ⟨j, hj⟩ := List.getElem?_of_mem hi
    have hjl : j < rs.length := (List.getElem?_eq_some_iff.mp hj).1
    have := hlt.1
    exact ⟨j, Ls[j]'(by omega), css[j]'(by omega), hj, List.getElem?_eq_getElem (by omega), List.getElem?_eq_getElem (by omega)⟩
  have lentOf : ∀ L ∈ Ls, ∃ i ∈ rs, β i = some L ∧ ∃ cs, hp.get i = some (.box cs) := fun L hL => by
    obtain ⟨j, hj⟩ := List.getElem?_of_mem hL
    have hjl : j < rs.length := by rw [hlen]; exact (List.getElem?_eq_some_iff.mp hj).1
    exact ⟨rs[j], List.getElem_mem _, hLs j _ L (List.getElem?_eq_getElem hjl) hj⟩
  -- blocks that are not lent
  have same : ∀ b, b < w.heap.size → (∀ L ∈ Ls, b ≠ L.b) → w'.heap[b]? = w.heap[b]? := hbeh.same
  have Fne : ∀ b, F b → ∀ L ∈ Ls, b ≠ L.b := fun b hb L hL e => by
    obtain ⟨i, _, hi, cs, hc⟩ := lentOf L hL
    exact (s.sep i _ L hc hi).1 (e ▸ hb)
  have hFF : ∀ b, F b → F1 b ∧ w'.heap[b]? = w.heap[b]? := fun b hb => ⟨hF b hb, same b (s.old b hb) (Fne b hb)⟩
  have hkp : ∀ id, (hp.get id).isSome → Keep hp.get β hp'.get β id := fun id hid => by
    by_cases e : id ∈ rs
    · obtain ⟨j, L, cs, g1, g2, g3⟩ := find id e
      obtain ⟨_, cs0, g4⟩ := hLs j id L g1 g2
      refine ⟨rfl, fun _ _ => ⟨cs, h2 j id cs g1 g3⟩, fun t l hl => by rw [g4] at hl; cases hl⟩
    · exact Keep.rfl' (h1 id e) rfl
  have hR : ∀ c v, RC D w F hp.get β c v → RC D w' F1 hp'.get β c v := fun c v => RC.trans hFF hkp
  have ex : ∀ i b, hp'.get i = some b → ∃ b', hp.get i = some b' := fun i b h => by
    by_cases e : i ∈ rs
    · obtain ⟨j, L, cs, g1, g2, g3⟩ := find i e
      obtain ⟨_, cs0, g4⟩ := hLs j i L g1 g2
      exact ⟨_, g4⟩
    · rw [h1 i e] at h; exact ⟨b, h⟩
  refine ⟨s.sz, s.df, fun i v h => RV.trans hR (s.frm i v h), fun i b h => ?_, fun i j b b' L L' g1 g2 g3 g4 e => ?_, fun i b L g1 g2 => ?_, fun b hb => (hF1 b hb).2, fun b hb => ?_, fun i b L g1 g2 => ?_, fun b hb => ?_, ?_, fun i L h => ?_, fun i b h => ?_⟩
  · by_cases e : i ∈ rs
    · obtain ⟨j, L, cs, g1, g2, g3⟩ := find i e
      obtain ⟨g5, cs0, g4⟩ := hLs j i L g1 g2
      rw [h2 j i cs g1 g3] at h
      obtain rfl := Option.some.inj h
      obtain ⟨l1, vs, t, l2, l3, l4, l5⟩ := hlt.2 j L cs g2 g3
      exact ⟨L, vs, t, g5, l2, l1, l3, l4, fun q x v hx hv => RP.rc (l5 q x v hx hv)⟩
    · rw [h1 i e] at h
      have hne : ∀ L, β i = some L → ∀ L' ∈ Ls, L.b ≠ L'.b := fun L hL L' hL' e' => by
        obtain ⟨i', hi', g5, cs0, g4⟩ := lentOf L' hL'
        have := s.inj i i' b _ L L' h g4 hL g5 e'
        exact e (this ▸ hi')
      have r := s.blk i b h
      cases b with
      | box cs =>
        obtain ⟨L, vs, t, r1, r2, r3, r4, r5⟩ := r
        exact ⟨L, vs, t, r1, (same _ (s.sep i _ L h r1).2 (hne L r1)).trans r2, r3, r4, RL.trans hR r5⟩
      | arr t l =>
        rcases r with r | ⟨L, vs, e', r1, r2, r3, r4, r5⟩
        · exact .inl r
        · refine .inr ⟨L, vs, e', r1, (same _ (s.sep i _ L h r1).2 (hne L r1)).trans r2, r3, r4, fun i hi j x hx => ?_⟩
          obtain ⟨v, hv, rv⟩ := r5 i hi j x hx
          exact ⟨v, hv, RP.mono D hFF rv⟩
  · obtain ⟨c1, k1⟩ := ex i b g1
    obtain ⟨c2, k2⟩ := ex j b' g2
    exact s.inj i j c1 c2 L L' k1 k2 g3 g4 e
  · obtain ⟨c1, k1⟩ := ex i b g1
    have := s.sep i c1 L k1 g2
    refine ⟨fun h => ?_, Nat.lt_of_lt_of_le this.2 hbeh.size⟩
    rcases (hF1 _ h).1 with h | h
    · exact this.1 h
    · omega
  · have hlt : b < w.heap.size := Nat.lt_of_lt_of_le hb.1 s.w0.1
    refine (same b hlt fun L hL e => ?_).trans (s.keep b hb)
    obtain ⟨i, _, hi, cs, hc⟩ := lentOf L hL
    exact s.gsep i _ L hc hi (e ▸ hb)
  · obtain ⟨c1, k1⟩ := ex i b g1
    exact s.gsep i c1 L k1 g2
  · rcases (hF1 b hb).1 with h | h
    · exact s.fsub b h
    · exact .inr (Nat.le_trans s.w0.1 h)
  · exact ⟨Nat.le_trans s.w0.1 hbeh.size, hbeh.rest.1.trans s.w0.2.1, hbeh.rest.2.1.trans s.w0.2.2.1, hbeh.rest.2.2.trans s.w0.2.2.2⟩
  · obtain ⟨g1, cs, g2⟩ := s.refs i L h
    refine ⟨g1, ?_⟩
    by_cases e : i ∈ rs
    · obtain ⟨j, L', cs', k1, k2, k3⟩ := find i e
      exact ⟨cs', h2 j i cs' k1 k3⟩
    · exact ⟨cs, by rw [h1 i e]; exact g2⟩
  · obtain ⟨c1, k1⟩ := ex i b h
    exact s.key i c1 k1
/-- The arguments, told and in memory. F2: what may be read; what is lent is no part of it. -/
theorem callArgs_ok (lw : Lawful D P) (s : Sim K β F fr hp a w) {F2 : Nat → Prop} (hup : ∀ b, F b → F2 b) : ∀ {ps : List PM} {as ws : List (A D.S)} {rs os : List Nat} {vs : List Value}, callArgs D hp ps as = some (ws, rs, os) →
    as.length = vs.length → (∀ (j : Nat) x v, as[j]? = some x → vs[j]? = some v → RA D w F hp.get β x v) → distinct rs = true → (∀ id ∈ os, ∀ L, β id = some L → F2 L.b) → (∀ i ∈ rs, ∀ L, β i = some L → ¬ F2 L.b) →
    ∃ Ls, Args D w F2 ps ws vs Ls ∧ rs.length = Ls.length ∧ ∀ (j : Nat) i L, rs[j]? = some i → Ls[j]? = some L → β i = some L ∧ ∃ cs, hp.get i = some (.box cs)
  | [], [], ws, rs, os, vs, h, hl, hr, hd, ho, hn => by
    simp only [callArgs, Option.some.injEq, Prod.mk.injEq] at h
    obtain ⟨rfl, rfl, rfl⟩ := h
    obtain rfl : vs = [] := List.length_eq_zero_iff.mp hl.symm
    exact ⟨[], .nil, rfl, fun j i L hj => by simp at hj⟩
  | [], _ :: _, ws, rs, os, vs, h, _, _, _, _, _ => by simp [callArgs] at h
  | .val :: ps, [], ws, rs, os, vs, h, _, _, _, _, _ => by simp [callArgs] at h
  | .ref :: ps, [], ws, rs, os, vs, h, _, _, _, _, _ => by simp [callArgs] at h
  | .val :: ps, x :: as, ws, rs, os, vs, h, hl, hr, hd, ho, hn => by
    simp only [callArgs] at h
    split at h
    · cases h
    · rename_i x' hx'
      split at h
      · rename_i ws' rs' os' hrec
        simp only [Option.some.injEq, Prod.mk.injEq] at h
        obtain ⟨rfl, rfl, rfl⟩ := h
        match vs, hl, hr with
        | v :: vs, hl, hr =>
          have r0 := hr 0 x v rfl rfl
          obtain ⟨Ls, g1, g2, g3⟩ := callArgs_ok lw s hup (vs := vs) hrec (by simpa using hl) (fun j y u hy hu => hr (j + 1) y u (by simpa using hy) (by simpa using hu)) hd (fun id hi => ho id (List.mem_append_right _ hi)) hn
          refine ⟨Ls, .val x' v ?_ g1, g2, g3⟩
          cases x with
          | c c =>
            simp only [resA] at hx'
            split at hx'
            · rename_i c' hc'
              obtain rfl := Option.some.inj hx'
              exact resC_ok lw hup s.blk r0 hc' (fun id hi => ho id (List.mem_append_left _ (by rw [ownsL_eq]; simpa [A.cells] using hi)))
            · cases hx'
          | agg cs =>
            simp only [resA] at hx'
            split at hx'
            · rename_i cs' hcs'
              obtain rfl := Option.some.inj hx'
              obtain ⟨us, rfl, rl⟩ := r0
              exact ⟨us, rfl, resL_ok lw hup s.blk rl hcs' (fun id hi => ho id (List.mem_append_left _ hi))⟩
            · cases hx'
      · cases h
  | .ref :: ps, x :: as, ws, rs, os, vs, h, hl, hr, hd, ho, hn => by
    unfold callArgs at h
    split at h
    · rename_i heq _; cases heq
    · rename_i heq _; injection heq with heq; cases heq
    · rename_i ps' id as' heq1 heq2
      injection heq1 with _ e1
      injection heq2 with e2 e3
      subst e1; subst e2; subst e3
      split at h
      · rename_i cs hcs
        split at h
        · cases h
        · rename_i cs' hcs'
          split at h
          · rename_i ws' rs' os' hrec
            simp only [Option.some.injEq, Prod.mk.injEq] at h
            obtain ⟨rfl, rfl, rfl⟩ := h
            match vs, hl, hr with
            | v :: vs, hl, hr =>
              obtain ⟨cs0, L, q1, q2, q3⟩ := hr 0 _ v rfl rfl
              rw [hcs] at q1
              obtain rfl : cs = cs0 := by injection q1 with q1; injection q1
              simp only [distinct] at hd
              split at hd
              · cases hd
              · rename_i hne
                have hni : id ∉ rs' := fun hm => by
                  rw [List.elem_eq_contains, List.contains_iff_mem.mpr hm] at hne; cases hne
                obtain ⟨Ls, g1, g2, g3⟩ := callArgs_ok lw s hup (vs := vs) hrec (by simpa using hl) (fun j y u hy hu => hr (j + 1) y u (by simpa using hy) (by simpa using hu)) hd (fun id hi => ho id (List.mem_append_right _ hi)) (fun i hi => hn i (List.mem_cons_of_mem _ hi))
                obtain ⟨L', us, t, b1, b2, b3, b4, b5⟩ := s.blk id _ hcs
                rw [q2] at b1
                obtain rfl := Option.some.inj b1
                obtain rfl : v = .pointer (some ⟨L.b, 0, none⟩) := by rw [q3, b3]
                refine ⟨L :: Ls, .ref cs' L ⟨b3, us, t, b2, b4, resL_ok lw hup s.blk b5 hcs' (fun i hi => ho i (List.mem_append_left _ hi))⟩ (hn id List.mem_cons_self L q2) (fun L' hL' e => ?_) g1, by simp [g2], fun j i L' hj hL' => ?_⟩
                · obtain ⟨j, hj⟩ := List.getElem?_of_mem hL'
                  have hjl : j < rs'.length := by rw [g2]; exact (List.getElem?_eq_some_iff.mp hj).1
                  obtain ⟨k1, cs1, k2⟩ := g3 j _ L' (List.getElem?_eq_getElem hjl) hj
                  have := s.inj _ id _ _ L' L k2 hcs k1 q2 e
                  exact hni (this ▸ List.getElem_mem hjl)
                · cases j with
                  | zero => simp at hj hL'; subst hj; subst hL'; exact ⟨q2, cs, hcs⟩
                  | succ j => simp at hj hL'; exact g3 j i L' hj hL'
          · cases h
      · cases h
    · cases h
theorem callArgs_rs {lw : Lawful D P} : ∀ {ps : List PM} {as ws : List (A D.S)} {rs os : List Nat}, callArgs D hp ps as = some (ws, rs, os) → ∀ i ∈ rs, ∃ cs, hp.get i = some (.box cs)
  | [], [], ws, rs, os, h => by
    simp only [callArgs, Option.some.injEq, Prod.mk.injEq] at h
    obtain ⟨rfl, rfl, rfl⟩ := h
    exact fun i hi => by cases hi
  | [], _ :: _, ws, rs, os, h => by simp [callArgs] at h
  | .val :: ps, [], ws, rs, os, h => by simp [callArgs] at h
  | .ref :: ps, [], ws, rs, os, h => by simp [callArgs] at h
  | .val :: ps, x :: as, ws, rs, os, h => by
    simp only [callArgs] at h
    split at h
    · cases h
    · split at h
      · rename_i hrec
        simp only [Option.some.injEq, Prod.mk.injEq] at h
        obtain ⟨rfl, rfl, rfl⟩ := h
        exact callArgs_rs (lw := lw) hrec
      · cases h
  | .ref :: ps, x :: as, ws, rs, os, h => by
    unfold callArgs at h
    split at h
    · rename_i heq _; cases heq
    · rename_i heq _; injection heq with heq; cases heq
    · rename_i ps' id as' heq1 heq2
      injection heq1 with _ e1
      injection heq2 with e2 e3
      subst e1; subst e2; subst e3
      split at h
      · rename_i cs hcs
        split at h
        · cases h
        · split at h
          · rename_i hrec
            simp only [Option.some.injEq, Prod.mk.injEq] at h
            obtain ⟨rfl, rfl, rfl⟩ := h
            intro i hi
            rcases List.mem_cons.mp hi with rfl | hi
            · exact ⟨cs, hcs⟩
            · exact callArgs_rs (lw := lw) hrec i hi
          · cases h
      · cases h
    · cases h
theorem callArgs_os (lw : Lawful D P) (s : Sim K β F fr hp a w) : ∀ {ps : List PM} {as ws : List (A D.S)} {rs os : List Nat} {vs : List Value}, callArgs D hp ps as = some (ws, rs, os) → as.length = vs.length →
    (∀ (j : Nat) x v, as[j]? = some x → vs[j]? = some v → RA D w F hp.get β x v) → ∀ id ∈ os, ∃ (t : Ty) (l : List (T D.S t)), hp.get id = some (.arr t l)
  | [], [], ws, rs, os, vs, h, hl, hr => by
    simp only [callArgs, Option.some.injEq, Prod.mk.injEq] at h
    obtain ⟨rfl, rfl, rfl⟩ := h
    exact fun i hi => by cases hi
  | [], _ :: _, ws, rs, os, vs, h, _, _ => by simp [callArgs] at h
  | .val :: ps, [], ws, rs, os, vs, h, _, _ => by simp [callArgs] at h
  | .ref :: ps, [], ws, rs, os, vs, h, _, _ => by simp [callArgs] at h
  | .val :: ps, x :: as, ws, rs, os, vs, h, hl, hr => by
    simp only [callArgs] at h
    split at h
    · cases h
    · split at h
      · rename_i hrec
        simp only [Option.some.injEq, Prod.mk.injEq] at h
        obtain ⟨rfl, rfl, rfl⟩ := h
        match vs, hl, hr with
        | v :: vs, hl, hr =>
          intro id hi
          rcases List.mem_append.mp hi with hi | hi
          · have r0 := hr 0 x v rfl rfl
            cases x with
            | c c => exact ownsL_arr (w := w) (F := F) (β := β) (cs := [c]) (vs := [v]) ⟨rfl, fun j y u hy hu => by
                cases j with
                | zero => simp at hy hu; subst hy; subst hu; exact r0
                | succ j => simp at hy⟩ id hi
            | agg cs => obtain ⟨us, _, rl⟩ := r0; exact ownsL_arr rl id hi
          · exact callArgs_os lw s (vs := vs) hrec (by simpa using hl) (fun j y u hy hu => hr (j + 1) y u (by simpa using hy) (by simpa using hu)) id hi
      · cases h
  | .ref :: ps, x :: as, ws, rs, os, vs, h, hl, hr => by
    unfold callArgs at h
    split at h
    · rename_i heq _; cases heq
    · rename_i heq _; injection heq with heq; cases heq
    · rename_i ps' id as' heq1 heq2
      injection heq1 with _ e1
      injection heq2 with e2 e3
      subst e1; subst e2; subst e3
      split at h
      · rename_i cs hcs
        split at h
        · cases h
        · split at h
          · rename_i hrec
            simp only [Option.some.injEq, Prod.mk.injEq] at h
            obtain ⟨rfl, rfl, rfl⟩ := h
            match vs, hl, hr with
            | v :: vs, hl, hr =>
              intro i hi
              rcases List.mem_append.mp hi with hi | hi
              · obtain ⟨L', us, t, b1, b2, b3, b4, b5⟩ := s.blk id _ hcs
                exact ownsL_arr b5 i hi
              · exact callArgs_os lw s (vs := vs) hrec (by simpa using hl) (fun j y u hy hu => hr (j + 1) y u (by simpa using hy) (by simpa using hu)) i hi
          · cases h
      · cases h
    · cases h
/-- The variables that are told stand as they did. -/
theorem Sim.glAt (s : Sim K β F fr hp a w) : GlAt D.gl w := fun x hx => by
  obtain ⟨h1, h2⟩ := K.gl x hx
  exact ⟨Nat.lt_of_lt_of_le h1 s.w0.1, fun j v hv => (cell_heap (s.keep x.1 ⟨h1, K.gr x hx, K.lg x hx⟩) j).trans (h2 j v hv)⟩
theorem Sim.glRef (s : Sim K β F fr hp a w) {rs : List Nat} {Ls : List Loc} (hlen : rs.length = Ls.length) (h : ∀ (j : Nat) i L, rs[j]? = some i → Ls[j]? = some L → β i = some L ∧ ∃ cs, hp.get i = some (.box cs)) : ∀ x ∈ D.gl, ∀ L ∈ Ls, x.1 ≠ L.b := fun x hx L hL e => by
  obtain ⟨j, hj⟩ := List.getElem?_of_mem hL
  have hjl : j < rs.length := by rw [hlen]; exact (List.getElem?_eq_some_iff.mp hj).1
  obtain ⟨k1, cs, k2⟩ := h j _ L (List.getElem?_eq_getElem hjl) hj
  exact s.gsep _ _ L k2 k1 (e ▸ ⟨(K.gl x hx).1, K.gr x hx, K.lg x hx⟩)
/-- A call, told and in memory. -/
theorem call0_ok (lw : Lawful D P) (hH : HOk D P H) (s : Sim K β F fr hp a w) {g : FuncId} {as : List (A D.S)} {vs : List Value} (hl : as.length = vs.length) (hr : ∀ (j : Nat) x v, as[j]? = some x → vs[j]? = some v → RA D w F hp.get β x v)
    (hxm : xmOf D g = none) (h : callK0 D H g d as fr hp k = some r) : ∃ v fr' hp', k v fr' hp' = some r ∧ RunOk P g vs.toArray w fun e w' => ∃ cv F', e = .returned cv ∧ Sim K β F' fr' hp' a w' ∧ RV D w' F' hp'.get β v cv := by
  unfold callK0 at h
  split at h
  · cases h
  rename_i md hmd
  have hx0 : md.xm = none := by unfold xmOf at hxm; rw [hmd] at hxm; exact hxm
  split at h
  · cases h
  rename_i ws rs os hargs
  have hrk : ∀ i ∈ rs, i < 65535 := fun i hi => by
    obtain ⟨cs, hc⟩ := callArgs_rs (lw := lw) hargs i hi
    exact s.key i _ hc
  split at h
  · cases h
  · -- what is own is told by value from here on
    rename_i hds _
    obtain ⟨F', fr', hp', h1, s', fz⟩ := frzs_ok lw s h
    obtain ⟨res, css, h2, hcall, _⟩ := hH.1 g ws _ r md hmd hx0 h1
    obtain ⟨hp'', h3, q1, q2, q3⟩ := setRefsK_some h2 hrk hds
    have hown : ∀ id ∈ os, ∀ L, β id = some L → F' L.b := fun id hi L hL => by
      obtain ⟨t, l, hg⟩ := callArgs_os lw s hargs hl hr id hi
      exact fz.own id hi t l L hg hL
    have hrsn : ∀ i ∈ rs, ∀ L, β i = some L → ¬ F' L.b := fun i hi L hL => by
      obtain ⟨cs, hc⟩ := callArgs_rs (lw := lw) hargs i hi
      obtain ⟨cs', hc'⟩ := fz.box' i cs hc
      exact (s'.sep i _ L hc' hL).1
    obtain ⟨Ls, g1, g2, g3⟩ := callArgs_ok lw s fz.up hargs hl hr hds hown hrsn
    refine ⟨_, _, _, h3, (hcall w F' vs Ls s'.old s.glAt (s.glRef g2 g3) g1).mono ?_⟩
    rintro e w' ⟨rvs, F1, rfl, hbeh, hF1, hF1', hres, hlent⟩
    have s'' := s'.called hbeh hF1 hF1' (fun j i L hj hL => by
      obtain ⟨k1, cs, k2⟩ := g3 j i L hj hL
      exact ⟨k1, fz.box' i cs k2⟩) g2 hlent q2 q3
    exact ⟨_, F1, rfl, s'', pack_ok hres⟩
  · rename_i hds _
    obtain ⟨res, css, h2, hcall, _⟩ := hH.1 g ws _ r md hmd hx0 h
    split at h2
    · cases h2
    · rename_i hnr
      rw [Bool.and_eq_true] at hnr
      obtain ⟨hp'', h3, q1, q2, q3⟩ := setRefsK_some h2 hrk hds
      -- what is lent
      have hx : ∃ Ls, Args D w (fun b => b < w.heap.size ∧ ∀ i ∈ rs, ∀ L, β i = some L → b ≠ L.b) md.ps ws vs Ls ∧ rs.length = Ls.length ∧ ∀ (j : Nat) i L, rs[j]? = some i → Ls[j]? = some L → β i = some L ∧ ∃ cs, hp.get i = some (.box cs) :=
        callArgs_ok lw s (fun b hb => ⟨s.old b hb, fun i hi L hL e => by
          obtain ⟨cs, hc⟩ := callArgs_rs (lw := lw) hargs i hi
          exact (s.sep i _ L hc hL).1 (e ▸ hb)⟩) hargs hl hr hds (fun id hi L hL => by
            obtain ⟨t, l, hg⟩ := callArgs_os lw s hargs hl hr id hi
            refine ⟨(s.sep id _ L hg hL).2, fun i hi' L' hL' e => ?_⟩
            obtain ⟨cs, hc⟩ := callArgs_rs (lw := lw) hargs i hi'
            have := s.inj id i _ _ L L' hg hc hL hL' e
            subst this
            rw [hg] at hc; cases hc) (fun i hi L hL hF => hF.2 i hi L hL rfl)
      obtain ⟨Ls, g1, g2, g3⟩ := hx
      refine ⟨_, _, _, h3, (hcall w _ vs Ls (fun b hb => hb.1) s.glAt (s.glRef g2 g3) g1).mono ?_⟩
      rintro e w' ⟨rvs, F1, rfl, hbeh, hF1, hF1', hres, hlent⟩
      have hlent' : LentAll D w' F Ls css := ⟨hlent.1, fun j L cs hj hc => by
        obtain ⟨l1, us, t, l2, l3, l4⟩ := hlent.2 j L cs hj hc
        exact ⟨l1, us, t, l2, l3, noRef_PL (noRefLs_at hnr.2 cs (List.mem_of_getElem? hc)) l4⟩⟩
      have hres' : ResAll D w' F res rvs := ⟨hres.1, fun j x v hx hv => noRef_RPA (noRefAs_at hnr.1 x (List.mem_of_getElem? hx)) (hres.2 j x v hx hv)⟩
      have s'' := s.called hbeh (fun b hb => hb) (fun b hb => ⟨.inl hb, Nat.lt_of_lt_of_le (s.old b hb) hbeh.size⟩) g3 g2 hlent' q2 q3
      exact ⟨_, F, rfl, s'', pack_ok hres'⟩
end
end Go.Proofs.Ytkpjeihgigmnkaa.Ev
/- Values without memory: calls that hand over, and answer, what is nobody else's. -/
namespace Go.Proofs.Ytkpjeihgigmnkaa.Ev
open Go
set_option linter.unusedVariables false
set_option linter.unusedSimpArgs false
section
variable {D : Tys} {P : Program}
/-! ### what runs comes to -/
inductive AddR : List (Nat × B D.S) → Tr (B D.S) → Tr (B D.S) → Prop
  | nil (hp) : AddR [] hp hp
  | cons {i b l hp hp'} (h : hp.get i = none) (hi : i < 65535) (t : AddR l (hp.set depth i (some b)) hp') : AddR ((i, b) :: l) hp hp'
theorem addBK_some {R : Type} {kk : Tr (B D.S) → Option R} {r : R} : ∀ {l : List (Nat × B D.S)} {hp : Tr (B D.S)}, addBK D l hp kk = some r → ∃ hp', AddR l hp hp' ∧ kk hp' = some r ∧ ∀ kk2 : Tr (B D.S) → Option R, addBK D l hp kk2 = kk2 hp'
  | [], hp, h => ⟨hp, .nil hp, h, fun _ => rfl⟩
  | (i, b) :: l, hp, h => by
    simp only [addBK, Tr.setK_eq] at h
    split at h
    · rename_i h1 h2
      obtain ⟨hp', g1, g2, g3⟩ := addBK_some h
      exact ⟨hp', .cons h1 (by simpa using h2) g1, g2, fun kk2 => by simp only [addBK, Tr.setK_eq, h1, h2]; exact g3 kk2⟩
    · cases h
theorem AddR.app {l1 l2 : List (Nat × B D.S)} : ∀ {hp hp' : Tr (B D.S)}, AddR (l1 ++ l2) hp hp' → ∃ hp1, AddR l1 hp hp1 ∧ AddR l2 hp1 hp' := by
  induction l1 with
  | nil => exact fun h => ⟨_, .nil _, h⟩
  | cons x l ih =>
    intro hp hp' h
    cases h with
    | cons h hi t =>
      obtain ⟨hp1, g1, g2⟩ := ih t
      exact ⟨hp1, .cons h hi g1, g2⟩
theorem thCK_eq {R : Type} (s : Nat) (c : C D.S) (k : C D.S → List (Nat × B D.S) → Option R) : thCK D s c k = k (thC D s c) (thB D s c) := by
  cases c with
  | fptr t l i o => rcases l with _ | ⟨x, _ | ⟨y, l⟩⟩ <;> rfl
  | _ => rfl
theorem thLK_eq {R : Type} (own : OwL) (base : Nat) : ∀ (j : Nat) (cs : List (C D.S)) (k : List (C D.S) → List (Nat × B D.S) → Option R), thLK D own base j cs k = k (thL D own base j cs) (thN D own base j cs)
  | _, [], k => rfl
  | j, c :: cs, k => by
    simp only [thLK, thL, thN]
    cases h : posO own j with
    | none => simp only; rw [thLK_eq own base]
    | some p => simp only; rw [thCK_eq, thLK_eq own base]
inductive PutR (d : Nat) : Nat → List (Nat × OwL) → List (List (C D.S)) → Tr (B D.S) → Tr (B D.S) → Prop
  | nil (p hp) : PutR d p [] [] hp hp
  | cons {p id own rs cs css hp hp1 hp'} (a : AddR (thN D own (newC d p) 0 cs) hp hp1) (t : PutR d (p + 1) rs css (hp1.set depth id (some (.box (thL D own (newC d p) 0 cs)))) hp') : PutR d p ((id, own) :: rs) (cs :: css) hp hp'
theorem putRefsK_some {R : Type} {d : Nat} {kk : Tr (B D.S) → Option R} {r : R} : ∀ {rs : List (Nat × OwL)} {css : List (List (C D.S))} {p : Nat} {hp : Tr (B D.S)}, putRefsK D d p rs css hp kk = some r →
    ∃ hp', PutR d p rs css hp hp' ∧ kk hp' = some r ∧ ∀ kk2 : Tr (B D.S) → Option R, putRefsK D d p rs css hp kk2 = kk2 hp'
  | [], [], p, hp, h => ⟨hp, .nil p hp, h, fun _ => rfl⟩
  | [], _ :: _, p, hp, h => by simp [putRefsK] at h
  | _ :: _, [], p, hp, h => by simp [putRefsK] at h
  | (id, own) :: rs, cs :: css, p, hp, h => by
    simp only [putRefsK, thLK_eq, Tr.setK_eq] at h
    obtain ⟨hp1, a1, a2, a3⟩ := addBK_some h
    obtain ⟨hp', g1, g2, g3⟩ := putRefsK_some a2
    exact ⟨hp', .cons a1 g1, g2, fun kk2 => by simp only [putRefsK, thLK_eq, Tr.setK_eq]; rw [a3]; exact g3 kk2⟩
inductive ResR (d : Nat) (ro : OwL) : Nat → List (A D.S) → Tr (B D.S) → List (A D.S) → Tr (B D.S) → Prop
  | nil (j hp) : ResR d ro j [] hp [] hp
  | plain {j x xs hp xs' hp'} (h : posO ro j = none) (t : ResR d ro (j + 1) xs hp xs' hp') : ResR d ro j (x :: xs) hp (x :: xs') hp'
  | own {j p c xs hp hp1 xs' hp'} (h : posO ro j = some p) (a : AddR (thB D (newC d 2 + p) c) hp hp1) (t : ResR d ro (j + 1) xs hp1 xs' hp') : ResR d ro j (.c c :: xs) hp (.c (thC D (newC d 2 + p) c) :: xs') hp'
theorem putResK_some {R : Type} {d : Nat} {ro : OwL} : ∀ {xs : List (A D.S)} {j : Nat} {hp : Tr (B D.S)} {kk : List (A D.S) → Tr (B D.S) → Option R} {r : R}, putResK D d ro j xs hp kk = some r →
    ∃ xs' hp', ResR d ro j xs hp xs' hp' ∧ kk xs' hp' = some r ∧ ∀ kk2 : List (A D.S) → Tr (B D.S) → Option R, putResK D d ro j xs hp kk2 = kk2 xs' hp'
  | [], j, hp, kk, r, h => ⟨[], hp, .nil j hp, h, fun _ => rfl⟩
  | x :: xs, j, hp, kk, r, h => by
    simp only [putResK] at h
    split at h
    · rename_i hj
      obtain ⟨xs', hp', g1, g2, g3⟩ := putResK_some h
      exact ⟨_, hp', .plain hj g1, g2, fun kk2 => by simp only [putResK, hj]; exact g3 _⟩
    · rename_i p hj
      split at h
      · rename_i c
        rw [thCK_eq] at h
        obtain ⟨hp1, a1, a2, a3⟩ := addBK_some h
        obtain ⟨xs', hp', g1, g2, g3⟩ := putResK_some a2
        exact ⟨_, hp', .own hj a1 g1, g2, fun kk2 => by simp only [putResK, hj]; rw [thCK_eq, a3]; exact g3 _⟩
      · cases h
inductive KillR : List Nat → Tr (V D.S) → Tr (B D.S) → Tr (V D.S) → Tr (B D.S) → Prop
  | nil (fr hp) : KillR [] fr hp fr hp
  | cons {id ids fr hp fr' hp'} (t : KillR ids (fr.map (mapV (killF id))) ((hp.set depth id none).map (mapB (killF id))) fr' hp') : KillR (id :: ids) fr hp fr' hp'
theorem killsK_some {R : Type} {kk : Tr (V D.S) → Tr (B D.S) → Option R} {r : R} : ∀ {ids : List Nat} {fr : Tr (V D.S)} {hp : Tr (B D.S)}, killsK D ids fr hp kk = some r →
    ∃ fr' hp', KillR ids fr hp fr' hp' ∧ kk fr' hp' = some r ∧ ∀ kk2 : Tr (V D.S) → Tr (B D.S) → Option R, killsK D ids fr hp kk2 = kk2 fr' hp'
  | [], fr, hp, h => ⟨fr, hp, .nil fr hp, h, fun _ => rfl⟩
  | id :: ids, fr, hp, h => by
    simp only [killsK, killK_eq] at h
    obtain ⟨fr', hp', g1, g2, g3⟩ := killsK_some h
    exact ⟨fr', hp', .cons g1, g2, fun kk2 => by simp only [killsK, killK_eq]; exact g3 kk2⟩
inductive BlurR : List (Nat × OwL) → Tr (B D.S) → Tr (B D.S) → Prop
  | nil (hp) : BlurR [] hp hp
  | cons {id own rs hp cs hp'} (h : hp.get id = some (.box cs)) (t : BlurR rs (hp.set depth id (some (.box (anyL D cs)))) hp') : BlurR ((id, own) :: rs) hp hp'
theorem blurK_some {R : Type} {kk : Tr (B D.S) → Option R} {r : R} : ∀ {rs : List (Nat × OwL)} {hp : Tr (B D.S)}, blurK D rs hp kk = some r → ∃ hp', BlurR rs hp hp' ∧ kk hp' = some r ∧ ∀ kk2 : Tr (B D.S) → Option R, blurK D rs hp kk2 = kk2 hp'
  | [], hp, h => ⟨hp, .nil hp, h, fun _ => rfl⟩
  | (id, own) :: rs, hp, h => by
    simp only [blurK, Tr.setK_eq] at h
    split at h
    · rename_i cs hc
      obtain ⟨hp', g1, g2, g3⟩ := blurK_some h
      exact ⟨hp', .cons hc g1, g2, fun kk2 => by simp only [blurK, Tr.setK_eq, hc]; exact g3 kk2⟩
    · cases h
theorem posO_some : ∀ {l : OwL} {j : Nat} {o : Option Ty}, lk l j = some o → ∃ p, posO l j = some p
  | (m, x) :: l, j, o, h => by
    simp only [lk] at h
    simp only [posO]
    rw [show Nat.beq m j = Nat.beq j m by
      cases h1 : Nat.beq m j <;> cases h2 : Nat.beq j m <;> first | rfl | (exfalso; first | (have := Nat.eq_of_beq_eq_true h1; subst this; rw [Nat.beq_refl] at h2; cases h2) | (have := Nat.eq_of_beq_eq_true h2; subst this; rw [Nat.beq_refl] at h1; cases h1))]
    split at h
    · rename_i e; first | rw [e] | skip
      exact ⟨0, rfl⟩
    · rename_i e
      first | rw [e] | skip
      obtain ⟨p, hp⟩ := posO_some h
      exact ⟨p + 1, by rw [hp]⟩
theorem posO_none : ∀ {l : OwL} {j : Nat}, lk l j = none → posO l j = none
  | [], j, h => rfl
  | (m, x) :: l, j, h => by
    simp only [lk] at h
    simp only [posO]
    rw [show Nat.beq m j = Nat.beq j m by
      cases h1 : Nat.beq m j <;> cases h2 : Nat.beq j m <;> first | rfl | (exfalso; first | (have := Nat.eq_of_beq_eq_true h1; subst this; rw [Nat.beq_refl] at h2; cases h2) | (have := Nat.eq_of_beq_eq_true h2; subst this; rw [Nat.beq_refl] at h1; cases h1))]
    split at h
    · cases h
    · rename_i e
      first | rw [e] | skip
      rw [posO_none h]
end
section
variable {D : Tys} {P : Program}
variable {R : Type} {H : HH D R} {K : Kx D} {β : Nat → Option Loc} {F : Nat → Prop} {fr : Tr (V D.S)} {hp : Tr (B D.S)} {a : Act} {w : World} {d : Nat} {k : KK D R} {r : R}
/-! ### by value -/
theorem noRef_RP {h : Hp D} {c : C D.S} (hn : noRefC c = true) {w w' : World} {F F' : Nat → Prop} {v : Value} (r : RC D w F h β c v) : RP D w' F' c v := by
  cases c <;> first | (simp [noRefC] at hn; done) | exact noRef_any rfl r
theorem RL.pl {h : Hp D} {cs : List (C D.S)} (hn : noRefL cs = true) {w w' : World} {F F' : Nat → Prop} {vs : List Value} (r : RL D w F h β cs vs) : PL w' F' cs vs :=
  ⟨r.1, fun j x v hx hv => noRef_RP (noRefL_at hn x (List.mem_of_getElem? hx)) (r.2 j x v hx hv)⟩
theorem frozC_ok (lw : Lawful D P) {F1 : Nat → Prop} (hF : ∀ b, F b → F1 b) (hb : ∀ i b, hp.get i = some b → RB D w F hp.get β i b) {n0 : Nat} {o : Option Ty} {c c' : C D.S} {is : List Nat} {v : Value} (r : RC D w F hp.get β c v)
    (e : frozC D n0 hp o c = some (is, c')) : ∃ Bs, RO D w F1 c' v Bs ∧ (locs Bs).Sublist (locs (is.filterMap β)) := by
  have up : ∀ {c : C D.S} {v : Value}, RP D w F c v → RP D w F1 c v := fun r => RP.mono D (fun b hb => ⟨hF b hb, rfl⟩) r
  unfold frozC at e
  split at e
  · simp only [Option.some.injEq, Prod.mk.injEq] at e
    obtain ⟨rfl, rfl⟩ := e
    exact ⟨[], ⟨rfl, up r⟩, List.nil_sublist _⟩
  · rename_i id
    split at e
    · rename_i t l hl
      simp only [Option.some.injEq, Prod.mk.injEq] at e
      obtain ⟨rfl, rfl⟩ := e
      obtain ⟨t2, l2, g1, r⟩ := r
      rw [hl] at g1
      injection g1 with g1
      injection g1 with g2 g3
      subst g2
      obtain rfl := eq_of_heq g3
      rcases r with ⟨b0, rfl, A, hv⟩ | ⟨L, cap, b1, q1, q2, hv⟩
      · exact ⟨[], .inl ⟨rfl, rfl, A, hv⟩, List.nil_sublist _⟩
      · rcases hb id _ hl with ⟨b0, _⟩ | ⟨L', us, e, b2, p1, p2, p3, p4⟩
        · rw [b1] at b0; cases b0
        · rw [b1] at b2
          obtain rfl := Option.some.inj b2
          refine ⟨[L], .inr ⟨L, cap, us, e, rfl, p1, p2, q1, q2, hv, fun i hi j x hx => ?_⟩, by simp [b1]⟩
          obtain ⟨z, hz, rz⟩ := p4 i hi j x hx
          exact ⟨z, hz, up rz⟩
    · cases e
  · rename_i id off n
    split at e
    · rename_i t l hl
      simp only [Option.some.injEq, Prod.mk.injEq] at e
      obtain ⟨rfl, rfl⟩ := e
      obtain ⟨t2, l2, g1, q0, r⟩ := r
      rw [hl] at g1
      injection g1 with g1
      injection g1 with g2 g3
      subst g2
      obtain rfl := eq_of_heq g3
      have hlen : ((l.drop off).take n).length = n := by rw [List.length_take, List.length_drop]; omega
      rcases hb id _ hl with ⟨b0, hl0⟩ | ⟨L', us, e, b2, p1, p2, p3, p4⟩
      · rcases r with ⟨_, A, hv⟩ | ⟨L, cap, b1, _⟩
        · subst hl0
          have : n = 0 := by simp at q0; omega
          subst this
          exact ⟨[], .inl ⟨rfl, by simp, A, hv⟩, List.nil_sublist _⟩
        · rw [b0] at b1; cases b1
      · rcases r with ⟨b0, _⟩ | ⟨L, cap, b1, q1, q2, hv⟩
        · rw [b0] at b2; cases b2
        · rw [b1] at b2
          obtain rfl := Option.some.inj b2
          rcases hv with hv | ⟨hc, A, hv⟩
          · refine ⟨[⟨L.b, L.o + off * size D t, L.n⟩], .inr ⟨⟨L.b, L.o + off * size D t, L.n⟩, cap, us, e, rfl, p1, p2, by rw [hlen]; exact q1, ?_, by rw [hlen]; exact hv, fun i hi j x hx => ?_⟩, by simp [b1, locs]⟩
            · simp only; rw [Nat.add_assoc, ← Nat.add_mul]; exact q2
            · have hi' : i < n := by rw [hlen] at hi; exact hi
              have hx' : (encL D t (l[off + i]'(by omega)))[j]? = some x := by simpa using hx
              obtain ⟨z, hz, rz⟩ := p4 (off + i) (by omega) j x hx'
              refine ⟨z, ?_, up rz⟩
              simp only
              rw [show L.o + off * size D t + i * size D t + j = L.o + (off + i) * size D t + j by rw [Nat.add_mul]; omega]
              exact hz
          · have : n = 0 := by omega
            subst this
            exact ⟨[], .inl ⟨rfl, by simp, A, hv⟩, List.nil_sublist _⟩
    · cases e
  · simp only [Option.some.injEq, Prod.mk.injEq] at e
    obtain ⟨rfl, rfl⟩ := e
    exact ⟨[], ⟨rfl, up r⟩, List.nil_sublist _⟩
  · rename_i t id off
    split at e
    · rename_i cs h3 hcs
      split at e
      · rename_i x hn hx
        simp only [Option.some.injEq, Prod.mk.injEq] at e
        obtain ⟨rfl, rfl⟩ := e
        obtain ⟨cs0, L, g1, g2, g3⟩ := r
        rw [hcs] at g1
        obtain rfl : cs = cs0 := by injection g1 with g1; injection g1
        obtain ⟨L', us, e, b1, b2, b3, b4, b5⟩ := hb id _ hcs
        rw [g2] at b1
        obtain rfl := Option.some.inj b1
        obtain ⟨le1, le2⟩ := decL_le lw hx
        have pl := RL.pl (w' := w) (F' := F1) hn b5
        refine ⟨[L], ⟨x, L, us, e, rfl, rfl, b3, b2, b4, ⟨by rw [encL_len lw, ← le1]; exact pl.1, fun j y u hy hu => ?_⟩, by rw [g3, b3]⟩, by simp [g2]⟩
        have hj : j < cs.length := by rw [pl.1]; exact (List.getElem?_eq_some_iff.mp hu).1
        have hc := List.getElem?_eq_getElem hj
        exact le2 j _ y hc hy _ _ _ (pl.2 j _ u hc hu)
      · cases e
    · cases e
  · cases e
/-- What a number names that is nobody else's. -/
def OwnId (n0 : Nat) (hp : Tr (B D.S)) (id : Nat) : Prop := (∃ t l, hp.get id = some (.arr t l)) ∨ (n0 ≤ id ∧ ∃ cs, hp.get id = some (.box cs))
theorem frozC_own {n0 : Nat} {o : Option Ty} {c c' : C D.S} {is : List Nat} (e : frozC D n0 hp o c = some (is, c')) : ∀ id ∈ is, OwnId n0 hp id := by
  unfold frozC at e
  split at e
  · simp only [Option.some.injEq, Prod.mk.injEq] at e; obtain ⟨rfl, rfl⟩ := e; exact fun id h => by cases h
  · split at e
    · rename_i t l hl
      simp only [Option.some.injEq, Prod.mk.injEq] at e; obtain ⟨rfl, rfl⟩ := e
      exact fun id h => by obtain rfl := List.mem_singleton.mp h; exact .inl ⟨t, l, hl⟩
    · cases e
  · split at e
    · rename_i t l hl
      simp only [Option.some.injEq, Prod.mk.injEq] at e; obtain ⟨rfl, rfl⟩ := e
      exact fun id h => by obtain rfl := List.mem_singleton.mp h; exact .inl ⟨t, l, hl⟩
    · cases e
  · simp only [Option.some.injEq, Prod.mk.injEq] at e; obtain ⟨rfl, rfl⟩ := e; exact fun id h => by cases h
  · split at e
    · rename_i cs h3 hcs
      split at e
      · simp only [Option.some.injEq, Prod.mk.injEq] at e; obtain ⟨rfl, rfl⟩ := e
        exact fun id h => by obtain rfl := List.mem_singleton.mp h; exact .inr ⟨Nat.le_of_ble_eq_true h3, cs, hcs⟩
      · cases e
    · cases e
  · cases e
theorem locs_app (a b : List Loc) : locs (a ++ b) = locs a ++ locs b := List.map_append
theorem frozL_ok (lw : Lawful D P) {F1 : Nat → Prop} (hF : ∀ b, F b → F1 b) (hb : ∀ i b, hp.get i = some b → RB D w F hp.get β i b) {n0 : Nat} {own : OwL} : ∀ {cs : List (C D.S)} {j : Nat} {is os : List Nat} {cs' : List (C D.S)} {vs : List Value}, RL D w F hp.get β cs vs →
    frozL D n0 hp own j cs = some (is, os, cs') → (∀ id ∈ os, ∀ L, β id = some L → F1 L.b) → (∃ Bs, ROL D w F1 own j cs' vs Bs ∧ (locs Bs).Sublist (locs (is.filterMap β))) ∧ (∀ id ∈ is, OwnId n0 hp id) ∧ (∀ id ∈ os, ∃ t l, hp.get id = some (.arr t l))
  | [], j, is, os, cs', vs, r, e, ho => by
    simp only [frozL, Option.some.injEq, Prod.mk.injEq] at e
    obtain ⟨rfl, rfl, rfl⟩ := e
    obtain rfl : vs = [] := List.length_eq_zero_iff.mp r.1.symm
    exact ⟨⟨[], .nil _, List.nil_sublist _⟩, fun id h => (by cases h), fun id h => (by cases h)⟩
  | c :: cs, j, is, os, cs', vs, r, e, ho => by
    match vs, r with
    | [], r => exact absurd r.1 (by simp)
    | v :: vs, r =>
      have r0 := r.2 0 c v rfl rfl
      have rt : RL D w F hp.get β cs vs := ⟨by simpa using r.1, fun i x u hx hu => r.2 (i + 1) x u (by simpa using hx) (by simpa using hu)⟩
      simp only [frozL] at e
      split at e
      · rename_i o hj
        split at e
        · cases e
        · rename_i i1 c1 hc
          split at e
          · rename_i is' os' cs1 hrec
            simp only [Option.some.injEq, Prod.mk.injEq] at e
            obtain ⟨rfl, rfl, rfl⟩ := e
            obtain ⟨p, hp1⟩ := posO_some hj
            obtain ⟨⟨Bs, g1, g2⟩, g3, g4⟩ := frozL_ok lw hF hb rt hrec ho
            obtain ⟨B1, k1, k2⟩ := frozC_ok lw hF hb r0 hc
            refine ⟨⟨B1 ++ Bs, .own hp1 k1 g1, ?_⟩, fun id hi => ?_, g4⟩
            · rw [locs_app, List.filterMap_append, locs_app]; exact k2.append g2
            · rcases List.mem_append.mp hi with hi | hi
              · exact frozC_own hc id hi
              · exact g3 id hi
          · cases e
      · rename_i hj
        split at e
        · cases e
        · rename_i c1 hc
          split at e
          · rename_i is' os' cs1 hrec
            simp only [Option.some.injEq, Prod.mk.injEq] at e
            obtain ⟨rfl, rfl, rfl⟩ := e
            obtain ⟨⟨Bs, g1, g2⟩, g3, g4⟩ := frozL_ok lw hF hb rt hrec (fun id hi => ho id (List.mem_append_right _ hi))
            have r1 : RL D w F hp.get β [c] [v] := ⟨rfl, fun i x u hx hu => by
              cases i with
              | zero => simp at hx hu; subst hx; subst hu; exact r0
              | succ i => simp at hx⟩
            refine ⟨⟨Bs, .plain (posO_none hj) (resC_ok lw hF hb r0 hc fun id hi => ho id (List.mem_append_left _ (by rw [ownsL_eq]; simpa using hi))) g1, g2⟩, g3, fun id hi => ?_⟩
            rcases List.mem_append.mp hi with hi | hi
            · exact ownsL_arr r1 id hi
            · exact g4 id hi
          · cases e
theorem fm_id (f : Nat → Option Loc) : ∀ (l : List Nat), l.filterMap f = (l.map f).filterMap id
  | [] => rfl
  | x :: l => by rw [List.filterMap_cons, List.map_cons, List.filterMap_cons, fm_id f l]; rfl
theorem frozB_ok (lw : Lawful D P) (s : Sim K β F fr hp a w) {F1 : Nat → Prop} (hF : ∀ b, F b → F1 b) {n0 : Nat} : ∀ {rf : List (Nat × OwL)} {css : List (List (C D.S))} {is os : List Nat} {Ls : List Loc}, frozB D n0 hp rf = some (is, os, css) → (rf.map (·.1)).map β = Ls.map some → (∀ id ∈ os, ∀ L, β id = some L → F1 L.b) →
    ∃ Bs, LentX D w F1 (rf.map (·.2)) Ls css Bs ∧ (locs Bs).Sublist (locs (is.filterMap β)) ∧ (∀ id ∈ is, OwnId n0 hp id) ∧ (∀ id ∈ os, ∃ t l, hp.get id = some (.arr t l))
  | [], css, is, os, Ls, h, hb, ho => by
    simp only [frozB, Option.some.injEq, Prod.mk.injEq] at h
    obtain ⟨rfl, rfl, rfl⟩ := h
    obtain rfl : Ls = [] := by cases Ls with | nil => rfl | cons L Ls => simp at hb
    exact ⟨[], .nil, List.nil_sublist _, fun id h => (by cases h), fun id h => (by cases h)⟩
  | (i, own) :: rf, css, is, os, Ls, h, hb, ho => by
    match Ls, hb with
    | [], hb => simp at hb
    | L :: Ls, hb =>
      simp only [List.map_cons, List.cons.injEq] at hb
      obtain ⟨hL, hb⟩ := hb
      simp only [frozB] at h
      split at h
      · rename_i cs hcs
        split at h
        · rename_i i1 o1 cs' hf
          split at h
          · rename_i is' os' css' hrec
            simp only [Option.some.injEq, Prod.mk.injEq] at h
            obtain ⟨rfl, rfl, rfl⟩ := h
            obtain ⟨Bs, g1, g2, g3, g4⟩ := frozB_ok lw s hF hrec hb (fun id hi => ho id (List.mem_append_right _ hi))
            obtain ⟨L', us, ty, b1, b2, b3, b4, b5⟩ := s.blk i _ hcs
            rw [hL] at b1
            obtain rfl := Option.some.inj b1
            obtain ⟨⟨B1, k1, k2⟩, k3, k4⟩ := frozL_ok lw hF s.blk b5 hf (fun id hi => ho id (List.mem_append_left _ hi))
            refine ⟨B1 ++ Bs, .cons ⟨b3, us, ty, b2, b4, k1⟩ g1, ?_, fun id hi => (List.mem_append.mp hi).elim (k3 id) (g3 id), fun id hi => (List.mem_append.mp hi).elim (k4 id) (g4 id)⟩
            rw [locs_app, List.filterMap_append, locs_app]; exact k2.append g2
          · cases h
        · cases h
      · cases h
theorem zipO_some : ∀ {l : List (Nat × OwL)} {ids : List Nat} {rf : List (Nat × OwL)}, zipO l ids = some rf → rf.map (·.1) = ids ∧ rf.map (·.2) = l.map (·.2)
  | [], [], rf, h => by
    simp only [zipO, Option.some.injEq] at h
    subst h; exact ⟨rfl, rfl⟩
  | [], _ :: _, rf, h => by simp [zipO] at h
  | _ :: _, [], rf, h => by simp [zipO] at h
  | (n, own) :: l, i :: ids, rf, h => by
    simp only [zipO] at h
    split at h
    · rename_i r hr
      obtain rfl := Option.some.inj h
      obtain ⟨h1, h2⟩ := zipO_some hr
      exact ⟨by simp [h1], by simp [h2]⟩
    · cases h
theorem lensOk_at : ∀ {l : List (Nat × OwL)} {css : List (List (C D.S))}, lensOk D l css = true → css.map List.length = l.map (·.1)
  | [], [], _ => rfl
  | [], _ :: _, h => by simp [lensOk] at h
  | _ :: _, [], h => by simp [lensOk] at h
  | (n, own) :: l, cs :: css, h => by
    simp only [lensOk] at h
    split at h
    · rename_i hb
      rw [List.map_cons, List.map_cons, lensOk_at h, Nat.eq_of_beq_eq_true hb]
    · cases h
theorem keysN_map : ∀ (l : List (Nat × OwL)), keysN l = l.map (·.1)
  | [] => rfl
  | (i, _) :: l => by simp [keysN, keysN_map l]
theorem keysN_app (a b : List (Nat × OwL)) : keysN (a ++ b) = keysN a ++ keysN b := by simp [keysN_map]
theorem caps_at {hp : Tr (B D.S)} {ids : List Nat} (h : ∀ i ∈ ids, ∃ cs L, hp.get i = some (.box cs) ∧ β i = some L) : ids.map β = (ids.filterMap β).map some ∧ (ids.map fun i => Value.pointer ((β i).map fun L => ⟨L.b, L.o, none⟩)).toArray = ptrsL (ids.filterMap β) := by
  induction ids with
  | nil => exact ⟨rfl, rfl⟩
  | cons i ids ih =>
    obtain ⟨g1, g2⟩ := ih fun j hj => h j (List.mem_cons_of_mem _ hj)
    obtain ⟨cs, L, _, hL⟩ := h i List.mem_cons_self
    refine ⟨by rw [List.map_cons, List.filterMap_cons, hL, List.map_cons, g1], ?_⟩
    unfold ptrsL at g2 ⊢
    rw [List.map_cons, List.filterMap_cons, hL, List.map_cons]
    have : (ids.map fun i => Value.pointer ((β i).map fun L => ⟨L.b, L.o, none⟩)) = (ids.filterMap β).map fun L => Value.pointer (some ⟨L.b, L.o, none⟩) := by simpa using congrArg Array.toList g2
    rw [show (ids.map fun i => Value.pointer ((β i).map fun L => ⟨L.b, L.o, none⟩)) = (ids.filterMap β).map fun L => Value.pointer (some ⟨L.b, L.o, none⟩) from this]
    rfl
theorem argsX_ok (lw : Lawful D P) (s : Sim K β F fr hp a w) {F1 : Nat → Prop} (hF : ∀ b, F b → F1 b) : ∀ {ps : List XP} {as ws : List (A D.S)} {rs : List (Nat × OwL)} {is os : List Nat} {vs : List Value}, argsX D hp ps as = some (ws, rs, is, os) →
    as.length = vs.length → (∀ (j : Nat) x v, as[j]? = some x → vs[j]? = some v → RA D w F hp.get β x v) → (∀ id ∈ os, ∀ L, β id = some L → F1 L.b) →
    ∃ Ls Os, ArgsX D w F1 ps ws vs Ls Os ∧ (keysN rs).map β = Ls.map some ∧ rs.map (·.2) = ownsX ps ∧ (∀ id ∈ keysN rs, ∃ cs, hp.get id = some (.box cs)) ∧ (locs Os).Sublist (locs (is.filterMap β)) ∧ (∀ id ∈ is, OwnId 3000 hp id) ∧ (∀ id ∈ os, ∃ t l, hp.get id = some (.arr t l))
  | [], [], ws, rs, is, os, vs, h, hl, hr, ho => by
    simp only [argsX, Option.some.injEq, Prod.mk.injEq] at h
    obtain ⟨rfl, rfl, rfl, rfl⟩ := h
    obtain rfl : vs = [] := List.length_eq_zero_iff.mp hl.symm
    exact ⟨[], [], .nil, rfl, rfl, fun id h => (by cases h), List.nil_sublist _, fun id h => (by cases h), fun id h => (by cases h)⟩
  | [], _ :: _, ws, rs, is, os, vs, h, _, _, _ => by simp [argsX] at h
  | .val :: ps, [], ws, rs, is, os, vs, h, _, _, _ => by simp [argsX] at h
  | .ref _ _ _ :: ps, [], ws, rs, is, os, vs, h, _, _, _ => by simp [argsX] at h
  | .clo _ :: ps, [], ws, rs, is, os, vs, h, _, _, _ => by simp [argsX] at h
  | .val :: ps, x :: as, ws, rs, is, os, vs, h, hl, hr, ho => by
    simp only [argsX] at h
    split at h
    · cases h
    · rename_i x' hx'
      split at h
      · rename_i ws' rs' is' os' hrec
        simp only [Option.some.injEq, Prod.mk.injEq] at h
        obtain ⟨rfl, rfl, rfl, rfl⟩ := h
        match vs, hl, hr with
        | v :: vs, hl, hr =>
          have r0 := hr 0 x v rfl rfl
          obtain ⟨Ls, Os, g1, g2, g3, g4, g5, g6, g7⟩ := argsX_ok lw s hF (vs := vs) hrec (by simpa using hl) (fun j y u hy hu => hr (j + 1) y u (by simpa using hy) (by simpa using hu)) (fun id hi => ho id (List.mem_append_right _ hi))
          have own : ∀ id ∈ ownsL x.cells, ∃ t l, hp.get id = some (.arr t l) := fun id hi => by
            cases x with
            | c c => exact ownsL_arr (w := w) (F := F) (β := β) (cs := [c]) (vs := [v]) ⟨rfl, fun j y u hy hu => by
                cases j with
                | zero => simp at hy hu; subst hy; subst hu; exact r0
                | succ j => simp at hy⟩ id hi
            | agg cs => obtain ⟨us, _, rl⟩ := r0; exact ownsL_arr rl id hi
          refine ⟨Ls, Os, .val x' v ?_ g1, g2, g3, g4, g5, g6, fun id hi => ?_⟩
          · cases x with
            | c c =>
              simp only [resA] at hx'
              split at hx'
              · rename_i c' hc'
                obtain rfl := Option.some.inj hx'
                exact resC_ok lw hF s.blk r0 hc' (fun id hi => ho id (List.mem_append_left _ (by rw [ownsL_eq]; simpa [A.cells] using hi)))
              · cases hx'
            | agg cs =>
              simp only [resA] at hx'
              split at hx'
              · rename_i cs' hcs'
                obtain rfl := Option.some.inj hx'
                obtain ⟨us, rfl, rl⟩ := r0
                exact ⟨us, rfl, resL_ok lw hF s.blk rl hcs' (fun id hi => ho id (List.mem_append_left _ hi))⟩
              · cases hx'
          · rcases List.mem_append.mp hi with hi | hi
            · exact own id hi
            · exact g7 id hi
      · cases h
  | .ref off own out :: ps, x :: as, ws, rs, is, os, vs, h, hl, hr, ho => by
    unfold argsX at h
    split at h
    · rename_i heq _; cases heq
    · rename_i heq _; injection heq with heq; cases heq
    · rename_i off2 own2 out2 ps' id off' as' heq1 heq2
      injection heq1 with e0 e1
      injection e0 with e3 e4 e6
      injection heq2 with e2 e5
      subst e1; subst e2; subst e3; subst e4; subst e5; subst e6
      split at h
      · rename_i cs hoff hcs
        obtain rfl := Nat.eq_of_beq_eq_true hoff
        split at h
        · cases h
        · rename_i i1 o1 cs' hcs'
          split at h
          · rename_i ws' rs' is' os' hrec
            simp only [Option.some.injEq, Prod.mk.injEq] at h
            obtain ⟨rfl, rfl, rfl, rfl⟩ := h
            match vs, hl, hr with
            | v :: vs, hl, hr =>
              obtain ⟨cs0, L, q1, q2, q3⟩ := hr 0 _ v rfl rfl
              rw [hcs] at q1
              obtain rfl : cs = cs0 := by injection q1 with q1; injection q1
              obtain ⟨Ls, Os, g1, g2, g3, g4, g5, g6, g7⟩ := argsX_ok lw s hF (vs := vs) hrec (by simpa using hl) (fun j y u hy hu => hr (j + 1) y u (by simpa using hy) (by simpa using hu)) (fun id hi => ho id (List.mem_append_right _ hi))
              obtain ⟨L', us, t, b1, b2, b3, b4, b5⟩ := s.blk id _ hcs
              rw [q2] at b1
              obtain rfl := Option.some.inj b1
              obtain rfl : v = .pointer (some ⟨L.b, off', none⟩) := by rw [q3, b3, Nat.zero_add]
              obtain ⟨⟨Bs, k1, k2⟩, k3, k4⟩ := frozL_ok lw hF s.blk b5 hcs' (fun id hi => ho id (List.mem_append_left _ hi))
              refine ⟨L :: Ls, Bs ++ Os, .ref off' own out cs' L Bs ⟨b3, us, t, b2, b4, k1⟩ g1, by simp [keysN, q2, g2], by simp [ownsX, g3], fun i hi => ?_, ?_, fun i hi => ?_, fun i hi => ?_⟩
              · rcases List.mem_cons.mp hi with rfl | hi
                · exact ⟨cs, hcs⟩
                · exact g4 i hi
              · rw [locs_app, List.filterMap_append, locs_app]; exact k2.append g5
              · rcases List.mem_append.mp hi with hi | hi
                · exact k3 i hi
                · exact g6 i hi
              · rcases List.mem_append.mp hi with hi | hi
                · exact k4 i hi
                · exact g7 i hi
          · cases h
      · cases h
    · rename_i heq _; injection heq with heq; cases heq
    · cases h
  | .clo l :: ps, x :: as, ws, rs, is, os, vs, h, hl, hr, ho => by
    unfold argsX at h
    split at h
    · rename_i heq _; cases heq
    · rename_i heq _; injection heq with heq; cases heq
    · rename_i heq _; injection heq with heq; cases heq
    · rename_i l2 ps' f ids as' heq1 heq2
      injection heq1 with e0 e1
      injection e0 with e0
      injection heq2 with e2 e5
      subst e0; subst e1; subst e2; subst e5
      split at h
      · cases h
      · rename_i rf hrf
        split at h
        · cases h
        · rename_i i1 o1 css hfb
          split at h
          · cases h
          · rename_i hlen
            split at h
            · rename_i ws' rs' is' os' hrec
              simp only [Option.some.injEq, Prod.mk.injEq] at h
              obtain ⟨rfl, rfl, rfl, rfl⟩ := h
              match vs, hl, hr with
              | v :: vs, hl, hr =>
                obtain ⟨q1, q2⟩ := hr 0 _ v rfl rfl
                obtain ⟨Ls, Os, g1, g2, g3, g4, g5, g6, g7⟩ := argsX_ok lw s hF (vs := vs) hrec (by simpa using hl) (fun j y u hy hu => hr (j + 1) y u (by simpa using hy) (by simpa using hu)) (fun id hi => ho id (List.mem_append_right _ hi))
                obtain ⟨z1, z2⟩ := zipO_some hrf
                obtain ⟨c1, c2⟩ := caps_at q2
                rw [c2] at q1
                subst q1
                obtain ⟨B1, k1, k2, k3, k4⟩ := frozB_ok lw s hF hfb (by rw [z1]; exact c1) (fun id hi => ho id (List.mem_append_left _ hi))
                rw [z2] at k1
                refine ⟨ids.filterMap β ++ Ls, B1 ++ Os, .clo l f css _ B1 k1 (lensOk_at hlen) g1, by rw [keysN_app, List.map_append, g2, keysN_map, z1, c1, List.map_append], by rw [List.map_append, g3, z2]; rfl, fun i hi => ?_, ?_, fun i hi => (List.mem_append.mp hi).elim (k3 i) (g6 i), fun i hi => (List.mem_append.mp hi).elim (k4 i) (g7 i)⟩
                · rw [keysN_app] at hi
                  rcases List.mem_append.mp hi with hi | hi
                  · rw [keysN_map, z1] at hi
                    obtain ⟨cs, L, h1, _⟩ := q2 i hi
                    exact ⟨cs, h1⟩
                  · exact g4 i hi
                · rw [locs_app, List.filterMap_append, locs_app]; exact k2.append g5
            · cases h
    · cases h
/-! ### what is let go, what is blurred -/
theorem kills_ok {K : Kx D} {β : Nat → Option Loc} {F : Nat → Prop} {a : Act} {w : World} : ∀ {ids : List Nat} {fr : Tr (V D.S)} {hp : Tr (B D.S)} {fr' : Tr (V D.S)} {hp' : Tr (B D.S)}, KillR ids fr hp fr' hp' → Sim K β F fr hp a w → (∀ id ∈ ids, id < 65535 ∧ ∀ L, (id, L) ∉ K.refs) →
    Sim K β F fr' hp' a w ∧ (∀ id ∈ ids, hp'.get id = none) ∧ (∀ i, hp.get i = none → hp'.get i = none) ∧ (∀ i b, hp'.get i = some b → ∃ b0, hp.get i = some b0) ∧ (∀ i cs, i ∉ ids → hp.get i = some (.box cs) → ∃ cs', hp'.get i = some (.box cs'))
  | _, _, _, _, _, .nil fr hp, s, _ => ⟨s, fun id h => (by cases h), fun _ h => h, fun i b h => ⟨b, h⟩, fun i cs _ h => ⟨cs, h⟩⟩
  | _, fr, hp, fr', hp', .cons (id := id) (ids := ids) t, s, hk => by
    obtain ⟨h1, h2⟩ := hk id List.mem_cons_self
    have hg : ∀ i, ((hp.set depth id none).map (mapB (killF id))).get i = if i = id then none else (hp.get i).map (mapB (killF id)) := fun i => by
      rw [Tr.get_map, Tr.get_set _ _ _ _ _ (by rw [depth_ok]; omega)]
      split <;> rfl
    obtain ⟨g1, g2, g3, g4, g5⟩ := kills_ok t (s.killB h1 h2).1 (fun i hi => hk i (List.mem_cons_of_mem _ hi))
    refine ⟨g1, fun i hi => ?_, fun i hi => g3 i (by rw [hg]; split <;> simp [hi]), fun i b hb => ?_, fun i cs hn hc => ?_⟩
    · rcases List.mem_cons.mp hi with rfl | hi
      · exact g3 i (by rw [hg, if_pos rfl])
      · exact g2 i hi
    · obtain ⟨b0, hb0⟩ := g4 i b hb
      rw [hg] at hb0
      split at hb0
      · cases hb0
      · obtain ⟨b1, hb1, _⟩ := Option.map_eq_some_iff.mp hb0
        exact ⟨b1, hb1⟩
    · have hne : i ≠ id := fun e => hn (by rw [e]; exact List.mem_cons_self)
      exact g5 i (cs.map (killF id)) (fun hm => hn (List.mem_cons_of_mem _ hm)) (by rw [hg, if_neg hne, hc]; rfl)
/-- A block's cells, told anew. -/
theorem Sim.setbox (s : Sim K β F fr hp a w) {id : Nat} {cs0 cs : List (C D.S)} {L : Loc} (h : hp.get id = some (.box cs0)) (hL : β id = some L) (r : ∀ vs t, w.heap[L.b]? = some (.cells vs t (0, 0)) → RL D w F hp.get β cs vs.toList) :
    Sim K β F fr (hp.set depth id (some (.box cs))) a w ∧ (∀ c v, RC D w F hp.get β c v → RC D w F (hp.set depth id (some (.box cs))).get β c v) := by
  have hid := s.key id _ h
  have hg : ∀ i, (hp.set depth id (some (.box cs))).get i = if i = id then some (.box cs) else hp.get i := fun i => Tr.get_set _ _ _ _ _ (by rw [depth_ok]; omega)
  have hR : ∀ c v, RC D w F hp.get β c v → RC D w F (hp.set depth id (some (.box cs))).get β c v := fun c v => RC.trans (fun b hb => ⟨hb, rfl⟩) fun i hi => by
    by_cases e : i = id
    · subst e
      refine ⟨rfl, fun _ _ => ⟨cs, by rw [hg, if_pos rfl]⟩, fun t l hl => by rw [h] at hl; cases hl⟩
    · exact Keep.rfl' (by rw [hg, if_neg e]) rfl
  have ex : ∀ i b, (hp.set depth id (some (.box cs))).get i = some b → ∃ b', hp.get i = some b' := fun i b e => by
    rw [hg] at e
    by_cases e' : i = id
    · rw [e']; exact ⟨_, h⟩
    · rw [if_neg e'] at e; exact ⟨b, e⟩
  refine ⟨⟨s.sz, s.df, fun i v e => RV.trans hR (s.frm i v e), fun i b e => ?_, fun i j b b' L L' g1 g2 g3 g4 e => ?_, fun i b L1 g1 g2 => ?_, s.old, s.keep, fun i b L1 g1 g2 => ?_, s.fsub, s.w0, fun i L1 hm => ?_, fun i b e => ?_⟩, hR⟩
  · rw [hg] at e
    by_cases e' : i = id
    · subst e'
      rw [if_pos rfl] at e
      obtain rfl := Option.some.inj e
      obtain ⟨L', us, t, b1, b2, b3, b4, _⟩ := s.blk i _ h
      rw [hL] at b1
      obtain rfl := Option.some.inj b1
      exact ⟨L, us, t, hL, b2, b3, b4, RL.trans hR (r us t b2)⟩
    · rw [if_neg e'] at e
      have rb := s.blk i b e
      cases b with
      | box cs1 =>
        obtain ⟨L1, vs, t, r1, r2, r3, r4, r5⟩ := rb
        exact ⟨L1, vs, t, r1, r2, r3, r4, RL.trans hR r5⟩
      | arr t l => exact rb
  · obtain ⟨c1, k1⟩ := ex i b g1
    obtain ⟨c2, k2⟩ := ex j b' g2
    exact s.inj i j c1 c2 L L' k1 k2 g3 g4 e
  · obtain ⟨c1, k1⟩ := ex i b g1
    exact s.sep i c1 L1 k1 g2
  · obtain ⟨c1, k1⟩ := ex i b g1
    exact s.gsep i c1 L1 k1 g2
  · obtain ⟨g1, cs1, g2⟩ := s.refs i L1 hm
    refine ⟨g1, ?_⟩
    by_cases e' : i = id
    · exact ⟨cs, by rw [hg, if_pos e']⟩
    · exact ⟨cs1, by rw [hg, if_neg e']; exact g2⟩
  · obtain ⟨c1, k1⟩ := ex i b e
    exact s.key i c1 k1
theorem anyL_len : ∀ (l : List (C D.S)), (anyL D l).length = l.length
  | [] => rfl
  | _ :: l => by simp [anyL, anyL_len l]
theorem anyL_at : ∀ {l : List (C D.S)} {j : Nat} {x : C D.S}, (anyL D l)[j]? = some x → x = .any
  | [], j, x, h => by simp [anyL] at h
  | _ :: l, 0, x, h => by simp [anyL] at h; exact h.symm
  | _ :: l, j + 1, x, h => by simp [anyL] at h; exact anyL_at h
theorem anyL_rl {h : Hp D} {w : World} {F : Nat → Prop} {cs : List (C D.S)} {vs : List Value} (e : cs.length = vs.length) : RL D w F h β (anyL D cs) vs := ⟨by rw [anyL_len]; exact e, fun j x v hx _ => by rw [anyL_at hx]; trivial⟩
theorem blur_ok : ∀ {rs : List (Nat × OwL)} {hp hp' : Tr (B D.S)}, BlurR rs hp hp' → Sim K β F fr hp a w → Sim K β F fr hp' a w ∧ (∀ i b, hp'.get i = some b → ∃ b0, hp.get i = some b0) ∧ (∀ i, hp.get i = none → hp'.get i = none) ∧
      (∀ i, i ∉ keysN rs → hp'.get i = hp.get i) ∧ (∀ i ∈ keysN rs, ∃ cs, hp'.get i = some (.box (anyL D cs)))
  | _, _, _, .nil hp, s => ⟨s, fun i b h => ⟨b, h⟩, fun _ h => h, fun _ _ => rfl, fun i h => (by cases h)⟩
  | _, hp, hp', .cons (id := id) (own := own) (rs := rs) (cs := cs) h t, s => by
    have hid := s.key id _ h
    have hg : ∀ i, (hp.set depth id (some (.box (anyL D cs)))).get i = if i = id then some (.box (anyL D cs)) else hp.get i := fun i => Tr.get_set _ _ _ _ _ (by rw [depth_ok]; omega)
    obtain ⟨L, us, t', b1, b2, b3, b4, b5⟩ := s.blk id _ h
    obtain ⟨g1, g2, g3, g4, g5⟩ := blur_ok t (s.setbox (cs := anyL D cs) h b1 (fun vs t2 hv => anyL_rl (by rw [b2] at hv; injection hv with hv; injection hv with hv; subst hv; exact b5.1))).1
    refine ⟨g1, fun i b e => ?_, fun i e => g3 i ?_, fun i hn => ?_, fun i hi => ?_⟩
    · obtain ⟨b0, e0⟩ := g2 i b e
      rw [hg] at e0
      split at e0
      · rename_i e1; rw [e1]; exact ⟨_, h⟩
      · exact ⟨b0, e0⟩
    · rw [hg]; split
      · rename_i e1; rw [e1, h] at e; cases e
      · exact e
    · have h1 : i ≠ id := fun e => hn (by rw [e]; exact List.mem_cons_self)
      rw [g4 i (fun hm => hn (List.mem_cons_of_mem _ hm)), hg, if_neg h1]
    · by_cases hm : i ∈ keysN rs
      · exact g5 i hm
      · rcases List.mem_cons.mp hi with rfl | hi
        · exact ⟨cs, by rw [g4 i hm, hg, if_pos rfl]⟩
        · exact absurd hi hm
end
end Go.Proofs.Ytkpjeihgigmnkaa.Ev
/- Values without memory: the state behind a call that hands over, and answers, what is nobody else's. -/
namespace Go.Proofs.Ytkpjeihgigmnkaa.Ev
open Go
set_option linter.unusedVariables false
set_option linter.unusedSimpArgs false
section
variable {D : Tys} {P : Program}
variable {R : Type} {H : HH D R} {K : Kx D} {β : Nat → Option Loc} {F : Nat → Prop} {fr : Tr (V D.S)} {hp : Tr (B D.S)} {a : Act} {w : World} {d : Nat} {k : KK D R} {r : R}
theorem Sim.calledX (s : Sim K β F fr hp a w) {w' : World} {F1 : Nat → Prop} {Ls Os : List Loc} (hbeh : Behind w w' (Ls ++ Os)) (hF : ∀ b, F b → F1 b) (hF1 : ∀ b, F1 b → (F b ∨ w.heap.size ≤ b ∨ b ∈ locs Os) ∧ b < w'.heap.size)
    (hLs : ∀ L ∈ Ls, ∃ i cs, hp.get i = some (.box (anyL D cs)) ∧ β i = some L) (hvs : ∀ L ∈ Ls, L.o = 0 ∧ ∃ vs t, w'.heap[L.b]? = some (.cells vs t (0, 0)) ∧ vs.size = L.n)
    (hOs : ∀ b ∈ locs Os, ¬ F b ∧ ¬ K.G b ∧ (∀ i b' L', hp.get i = some b' → β i = some L' → L'.b ≠ b) ∧ (K.F0 b ∨ K.w0.heap.size ≤ b)) : Sim K β F1 fr hp a w' := by
  have inOs : ∀ L ∈ Os, L.b ∈ locs Os := fun L hL => List.mem_map.mpr ⟨L, hL, rfl⟩
  have same : ∀ b, b < w.heap.size → (∀ L ∈ Ls, b ≠ L.b) → b ∉ locs Os → w'.heap[b]? = w.heap[b]? := fun b hb h1 h2 => hbeh.same b hb fun L hL e => by
    rcases List.mem_append.mp hL with hL | hL
    · exact h1 L hL e
    · exact h2 (e ▸ inOs L hL)
  have Fne : ∀ b, F b → ∀ L ∈ Ls, b ≠ L.b := fun b hb L hL e => by
    obtain ⟨i, cs, h1, h2⟩ := hLs L hL
    exact (s.sep i _ L h1 h2).1 (e ▸ hb)
  have hFF : ∀ b, F b → F1 b ∧ w'.heap[b]? = w.heap[b]? := fun b hb => ⟨hF b hb, same b (s.old b hb) (Fne b hb) fun hm => (hOs b hm).1 hb⟩
  have hR : ∀ c v, RC D w F hp.get β c v → RC D w' F1 hp.get β c v := fun c v => RC.trans hFF fun id _ => Keep.rfl' rfl rfl
  have nOs : ∀ i b L, hp.get i = some b → β i = some L → L.b ∉ locs Os := fun i b L h1 h2 hm => (hOs _ hm).2.2.1 i b L h1 h2 rfl
  refine ⟨s.sz, s.df, fun i v h => RV.trans hR (s.frm i v h), fun i b h => ?_, s.inj, fun i b L g1 g2 => ?_, fun b hb => (hF1 b hb).2, fun b hb => ?_, s.gsep, fun b hb => ?_, ?_, s.refs, s.key⟩
  · have rb := s.blk i b h
    cases b with
    | box cs =>
      obtain ⟨L, vs, t, r1, r2, r3, r4, r5⟩ := rb
      by_cases hm : ∃ L' ∈ Ls, L.b = L'.b
      · obtain ⟨L', hL', e⟩ := hm
        obtain ⟨i', cs', h1, h2⟩ := hLs L' hL'
        have := s.inj i i' _ _ L L' h h1 r1 h2 e
        subst this
        rw [h1] at h
        injection h with h
        injection h with h
        subst h
        rw [r1] at h2
        obtain rfl := Option.some.inj h2
        obtain ⟨_, us, t', g1, g2⟩ := hvs L hL'
        refine ⟨L, us, t', r1, g1, r3, g2, anyL_rl ?_⟩
        have := r5.1
        rw [anyL_len] at this
        rw [this, Array.length_toList, Array.length_toList, r4, g2]
      · exact ⟨L, vs, t, r1, (same _ (s.sep i _ L h r1).2 (fun L' hL' e => hm ⟨L', hL', e⟩) (nOs i _ L h r1)).trans r2, r3, r4, RL.trans hR r5⟩
    | arr t l =>
      rcases rb with rb | ⟨L, vs, e', r1, r2, r3, r4, r5⟩
      · exact .inl rb
      · refine .inr ⟨L, vs, e', r1, (same _ (s.sep i _ L h r1).2 (fun L' hL' e => ?_) (nOs i _ L h r1)).trans r2, r3, r4, fun i hi j x hx => ?_⟩
        · obtain ⟨i', cs', h1, h2⟩ := hLs L' hL'
          have := s.inj i i' _ _ L L' h h1 r1 h2 e
          subst this
          rw [h1] at h; cases h
        · obtain ⟨v, hv, rv⟩ := r5 i hi j x hx
          exact ⟨v, hv, RP.mono D hFF rv⟩
  · have := s.sep i b L g1 g2
    refine ⟨fun h => ?_, Nat.lt_of_lt_of_le this.2 hbeh.size⟩
    rcases (hF1 _ h).1 with h | h | h
    · exact this.1 h
    · omega
    · exact nOs i b L g1 g2 h
  · refine (same b (Nat.lt_of_lt_of_le hb.1 s.w0.1) (fun L hL e => ?_) fun hm => (hOs b hm).2.1 hb).trans (s.keep b hb)
    obtain ⟨i, cs, h1, h2⟩ := hLs L hL
    exact s.gsep i _ L h1 h2 (e ▸ hb)
  · rcases (hF1 b hb).1 with h | h | h
    · exact s.fsub b h
    · exact .inr (Nat.le_trans s.w0.1 h)
    · exact (hOs b h).2.2.2
  · exact ⟨Nat.le_trans s.w0.1 hbeh.size, hbeh.rest.1.trans s.w0.2.1, hbeh.rest.2.1.trans s.w0.2.2.1, hbeh.rest.2.2.trans s.w0.2.2.2⟩
/-- A block that nothing names. -/
def FreeB (K : Kx D) (β : Nat → Option Loc) (F : Nat → Prop) (hp : Tr (B D.S)) (w : World) (b : Nat) : Prop := b < w.heap.size ∧ ¬ F b ∧ (∀ i b' L', hp.get i = some b' → β i = some L' → L'.b ≠ b) ∧ ¬ K.G b
structure Ext (K : Kx D) (F : Nat → Prop) (w : World) (hp : Tr (B D.S)) (β : Nat → Option Loc) (hp' : Tr (B D.S)) (β' : Nat → Option Loc) (Bs : List Nat) : Prop where
  rc : ∀ c v, RC D w F hp.get β c v → RC D w F hp'.get β' c v
  free : ∀ b, FreeB K β F hp w b → b ∉ Bs → FreeB K β' F hp' w b
  stay : ∀ i L cs, hp.get i = some (.box cs) → β i = some L → (∃ cs', hp'.get i = some (.box cs')) ∧ β' i = some L
theorem Ext.refl {Bs : List Nat} : Ext K F w hp β hp β Bs := ⟨fun _ _ h => h, fun _ h _ => h, fun _ _ cs h1 h2 => ⟨⟨cs, h1⟩, h2⟩⟩
theorem Ext.trans {hp1 hp2 : Tr (B D.S)} {β1 β2 : Nat → Option Loc} {B1 B2 : List Nat} (h1 : Ext K F w hp β hp1 β1 B1) (h2 : Ext K F w hp1 β1 hp2 β2 B2) : Ext K F w hp β hp2 β2 (B1 ++ B2) :=
  ⟨fun c v h => h2.rc c v (h1.rc c v h), fun b h hn => h2.free b (h1.free b h fun hm => hn (List.mem_append_left _ hm)) fun hm => hn (List.mem_append_right _ hm), fun i L cs g1 g2 => by
    obtain ⟨⟨cs', g3⟩, g4⟩ := h1.stay i L cs g1 g2
    exact h2.stay i L cs' g3 g4⟩
theorem Sim.newE (s : Sim K β F fr hp a w) {i : Nat} (hn : hp.get i = none) (hs : i < 65535) (b : B D.S) (L : Option Loc) (hL : ∀ L', L = some L' → FreeB K β F hp w L'.b) (hb : RB D w F (hp.set depth i (some b)).get (upd β i L) i b) :
    Sim K (upd β i L) F fr (hp.set depth i (some b)) a w ∧ Ext K F w hp β (hp.set depth i (some b)) (upd β i L) (L.toList.map (·.b)) ∧ (hp.set depth i (some b)).get i = some b := by
  have hg : ∀ j, (hp.set depth i (some b)).get j = if j = i then some b else hp.get j := fun j => Tr.get_set _ _ _ _ _ (by rw [depth_ok]; omega)
  obtain ⟨s1, s2⟩ := s.new hn hs b L (fun L' e => by
    obtain ⟨h1, h2, h3, h4⟩ := hL L' e
    exact ⟨h1, h2, h3, h4⟩) hb
  refine ⟨s1, ⟨s2, fun b' ⟨h1, h2, h3, h4⟩ hm => ⟨h1, h2, fun j b2 L' e1 e2 e3 => ?_, h4⟩, fun j L' cs e1 e2 => ?_⟩, by rw [hg, if_pos rfl]⟩
  · rw [hg] at e1
    by_cases e : j = i
    · subst e
      rw [upd_at] at e2
      subst e2
      exact hm (by simp [e3])
    · rw [if_neg e] at e1
      rw [upd_ne _ _ e] at e2
      exact h3 j b2 L' e1 e2 e3
  · have e : j ≠ i := fun e => by subst e; rw [hn] at e1; cases e1
    exact ⟨⟨cs, by rw [hg, if_neg e]; exact e1⟩, by rw [upd_ne _ _ e]; exact e2⟩
theorem thaw_cases (c : C D.S) : (∃ t l, c = .lst t l) ∨ (∃ t l i o, c = .fptr t l i o) ∨ ((∀ s, thB D s c = [] ∧ thC D s c = c) ∧ ∀ w F v Bs, RO D w F c v Bs → Bs = [] ∧ RP D w F c v) := by
  cases c with
  | lst t l => exact .inl ⟨t, l, rfl⟩
  | fptr t l i o => exact .inr (.inl ⟨t, l, i, o, rfl⟩)
  | emp => exact .inr (.inr ⟨fun _ => ⟨rfl, rfl⟩, fun w F v Bs h => absurd h id⟩)
  | _ => exact .inr (.inr ⟨fun _ => ⟨rfl, rfl⟩, fun w F v Bs h => h⟩)
theorem Sim.thaw1 (lw : Lawful D P) (s : Sim K β F fr hp a w) {n : Nat} {c : C D.S} {v : Value} {Bs : List Loc} (ro : RO D w F c v Bs) (hB : ∀ L ∈ Bs, FreeB K β F hp w L.b) {hp' : Tr (B D.S)} (h : AddR (thB D n c) hp hp') :
    ∃ β', Sim K β' F fr hp' a w ∧ RC D w F hp'.get β' (thC D n c) v ∧ Ext K F w hp β hp' β' (locs Bs) := by
  rcases thaw_cases c with ⟨t, l, rfl⟩ | ⟨t, l, i, o, rfl⟩ | ⟨h1, h2⟩
  · simp only [thB] at h
    cases h with
    | cons hn hi t' =>
      cases t'
      rcases ro with ⟨rfl, rfl, A, hv⟩ | ⟨L, cap, vs, e, rfl, q1, q2, q3, q4, hv, q5⟩
      · obtain ⟨s1, s2, s3⟩ := s.newE hn hi (.arr t []) none (fun L' e => by cases e) (.inl ⟨upd_at _ _ _, rfl⟩)
        exact ⟨_, s1, ⟨t, [], s3, .inl ⟨upd_at _ _ _, rfl, A, hv⟩⟩, s2⟩
      · obtain ⟨s1, s2, s3⟩ := s.newE hn hi (.arr t l) (some L) (fun L' e => by obtain rfl := Option.some.inj e; exact hB _ List.mem_cons_self) (.inr ⟨L, vs, e, upd_at _ _ _, q1, q2, by
          have := Nat.mul_le_mul_right (size D t) q3; omega, q5⟩)
        exact ⟨_, s1, ⟨t, l, s3, .inr ⟨L, cap, upd_at _ _ _, q3, q4, hv⟩⟩, s2⟩
  · obtain ⟨x, L, us, e, rfl, rfl, q1, q2, q3, q4, hv⟩ := ro
    simp only [thB] at h
    cases h with
    | cons hn hi t' =>
      cases t'
      obtain ⟨s1, s2, s3⟩ := s.newE hn hi (.box (encL D t x)) (some L) (fun L' e => by obtain rfl := Option.some.inj e; exact hB _ List.mem_cons_self)
        ⟨L, us, e, upd_at _ _ _, q2, q1, q3, q4.1, fun j y u hy hu => (encL_pure lw t x y (List.mem_of_getElem? hy) _ _ _ _ _).mpr (q4.2 j y u hy hu)⟩
      exact ⟨_, s1, ⟨_, L, s3, upd_at _ _ _, by rw [q1]; exact hv⟩, s2⟩
  · obtain ⟨rfl, rp⟩ := h2 w F v Bs ro
    rw [(h1 n).1] at h
    cases h
    exact ⟨β, s, by rw [(h1 n).2]; exact RP.rc rp, Ext.refl⟩
theorem Sim.thawL (lw : Lawful D P) {own : OwL} {base : Nat} : ∀ {j : Nat} {cs : List (C D.S)} {vs : List Value} {Bs : List Loc}, ROL D w F own j cs vs Bs → ∀ {β : Nat → Option Loc} {hp hp' : Tr (B D.S)}, Sim K β F fr hp a w → (∀ L ∈ Bs, FreeB K β F hp w L.b) → (locs Bs).Nodup →
    AddR (thN D own base j cs) hp hp' → ∃ β', Sim K β' F fr hp' a w ∧ RL D w F hp'.get β' (thL D own base j cs) vs ∧ Ext K F w hp β hp' β' (locs Bs)
  | _, _, _, _, .nil _, β, hp, hp', s, hB, hd, h => by
    cases h
    exact ⟨β, s, ⟨rfl, fun i x u hx => by simp [thL] at hx⟩, Ext.refl⟩
  | _, _, _, _, .plain hj rp t, β, hp, hp', s, hB, hd, h => by
    simp only [thN, hj] at h
    obtain ⟨β', s1, r1, e1⟩ := Sim.thawL lw t s hB hd h
    refine ⟨β', s1, ⟨by have := r1.1; simpa [thL] using this, fun i x u hx hu => ?_⟩, e1⟩
    simp only [thL, hj] at hx
    cases i with
    | zero => simp at hx hu; subst hx; subst hu; exact RP.rc rp
    | succ i => simp at hx hu; exact r1.2 i x u hx hu
  | _, _, _, _, .own (B1 := B1) (Bs := Bs) hj ro t, β, hp, hp', s, hB, hd, h => by
    simp only [thN, hj] at h
    obtain ⟨hp1, a1, a2⟩ := h.app
    rw [locs_app] at hd
    obtain ⟨n1, n2, n3⟩ := List.nodup_append.mp hd
    obtain ⟨β1, s1, r1, e1⟩ := s.thaw1 lw ro (fun L hL => hB L (List.mem_append_left _ hL)) a1
    obtain ⟨β', s2, r2, e2⟩ := Sim.thawL lw t s1 (fun L hL => e1.free _ (hB L (List.mem_append_right _ hL)) fun hm => n3 _ hm _ (List.mem_map.mpr ⟨L, hL, rfl⟩) rfl) n2 a2
    refine ⟨β', s2, ⟨by have := r2.1; simpa [thL] using this, fun i x u hx hu => ?_⟩, by rw [locs_app]; exact e1.trans e2⟩
    simp only [thL, hj] at hx
    cases i with
    | zero => simp at hx hu; subst hx; subst hu; exact e2.rc _ _ r1
    | succ i => simp at hx hu; exact r2.2 i x u hx hu
theorem Sim.setboxE (s : Sim K β F fr hp a w) {id : Nat} {cs0 cs : List (C D.S)} {L : Loc} (h : hp.get id = some (.box cs0)) (hL : β id = some L) (r : ∀ vs t, w.heap[L.b]? = some (.cells vs t (0, 0)) → RL D w F hp.get β cs vs.toList) :
    Sim K β F fr (hp.set depth id (some (.box cs))) a w ∧ Ext K F w hp β (hp.set depth id (some (.box cs))) β [] := by
  have hid := s.key id _ h
  have hg : ∀ i, (hp.set depth id (some (.box cs))).get i = if i = id then some (.box cs) else hp.get i := fun i => Tr.get_set _ _ _ _ _ (by rw [depth_ok]; omega)
  obtain ⟨s1, s2⟩ := s.setbox h hL r
  refine ⟨s1, s2, fun b ⟨h1, h2, h3, h4⟩ _ => ⟨h1, h2, fun j b2 L' e1 e2 => ?_, h4⟩, fun j L' cs1 e1 e2 => ⟨?_, e2⟩⟩
  · rw [hg] at e1
    by_cases e : j = id
    · subst e; exact h3 j _ L' h e2
    · rw [if_neg e] at e1; exact h3 j b2 L' e1 e2
  · by_cases e : j = id
    · exact ⟨cs, by rw [hg, if_pos e]⟩
    · exact ⟨cs1, by rw [hg, if_neg e]; exact e1⟩
theorem put_ok (lw : Lawful D P) {d : Nat} : ∀ {p : Nat} {rs : List (Nat × OwL)} {css : List (List (C D.S))} {hp hp' : Tr (B D.S)}, PutR d p rs css hp hp' → ∀ {owns : List OwL} {Ls Bs : List Loc}, LentX D w F owns Ls css Bs → ∀ {β : Nat → Option Loc}, rs.map (·.2) = owns → (keysN rs).map β = Ls.map some →
    (∀ id ∈ keysN rs, ∃ cs, hp.get id = some (.box cs)) → Sim K β F fr hp a w → (∀ L ∈ Bs, FreeB K β F hp w L.b) → (locs Bs).Nodup → ∃ β', Sim K β' F fr hp' a w ∧ Ext K F w hp β hp' β' (locs Bs)
  | _, _, _, _, _, .nil _ _, owns, Ls, Bs, hl, β, e1, e2, hx, s, hB, hd => by
    cases hl
    exact ⟨β, s, Ext.refl⟩
  | _, _, _, _, _, .cons (p := p) (id := id) (own := own) (rs := rs) (cs := cs) (css := css) (hp := hp) (hp1 := hp1) (hp' := hp') ad t, _, _, _, .cons (own := own2) (L := L) (B1 := B1) (Bs := Bs) rl tl, β, e1, e2, hx, s, hB, hd => by
    simp only [List.map_cons, List.cons.injEq, keysN] at e1 e2
    obtain ⟨rfl, e1⟩ := e1
    obtain ⟨hL, e2⟩ := e2
    rw [locs_app] at hd
    obtain ⟨n1, n2, n3⟩ := List.nodup_append.mp hd
    obtain ⟨ho, vs, ty, q1, q2, q3⟩ := rl
    obtain ⟨β1, s1, r1, x1⟩ := Sim.thawL lw q3 s (fun L hL => hB L (List.mem_append_left _ hL)) n1 ad
    obtain ⟨cs0, hc0⟩ := hx id List.mem_cons_self
    obtain ⟨⟨cs1, hc1⟩, hb1⟩ := x1.stay id L cs0 hc0 hL
    obtain ⟨s2, x2⟩ := s1.setboxE (cs := thL D own (newC d p) 0 cs) hc1 hb1 (fun us t2 hu => by
      rw [q1] at hu; injection hu with hu; injection hu with hu; subst hu; exact r1)
    have x3 := x1.trans x2
    rw [List.append_nil] at x3
    have stay : ∀ i ∈ keysN rs, ∀ L', β i = some L' → (∃ cs', (hp1.set depth id (some (.box (thL D own (newC d p) 0 cs)))).get i = some (.box cs')) ∧ β1 i = some L' := fun i hi L' hL' => by
      obtain ⟨csi, hci⟩ := hx i (List.mem_cons_of_mem _ hi)
      exact x3.stay i L' csi hci hL'
    have some_ : ∀ i ∈ keysN rs, ∃ L', β i = some L' := fun i hi => by
      have : β i ∈ (keysN rs).map β := List.mem_map.mpr ⟨i, hi, rfl⟩
      rw [e2, List.mem_map] at this
      obtain ⟨L', _, hL'⟩ := this
      exact ⟨L', hL'.symm⟩
    obtain ⟨β', s4, x4⟩ := put_ok lw t tl (β := β1) e1 (by
      rw [← e2]
      exact List.map_congr_left fun i hi => by
        obtain ⟨L', hL'⟩ := some_ i hi
        rw [(stay i hi L' hL').2, hL']) (fun i hi => by
        obtain ⟨L', hL'⟩ := some_ i hi
        exact (stay i hi L' hL').1) s2 (fun L hL => x3.free _ (hB L (List.mem_append_right _ hL)) fun hm => n3 _ hm _ (List.mem_map.mpr ⟨L, hL, rfl⟩) rfl) n2
    exact ⟨β', s4, by rw [locs_app]; exact x3.trans x4⟩
theorem res_ok (lw : Lawful D P) {d : Nat} {ro : OwL} : ∀ {j : Nat} {xs xs' : List (A D.S)} {hp hp' : Tr (B D.S)}, ResR d ro j xs hp xs' hp' → ∀ {vs : List Value} {Bs : List Loc}, ResO D w F ro j xs vs Bs → ∀ {β : Nat → Option Loc}, Sim K β F fr hp a w → (∀ L ∈ Bs, FreeB K β F hp w L.b) → (locs Bs).Nodup →
    ∃ β', Sim K β' F fr hp' a w ∧ Ext K F w hp β hp' β' (locs Bs) ∧ xs'.length = vs.length ∧ ∀ (i : Nat) x v, xs'[i]? = some x → vs[i]? = some v → RA D w F hp'.get β' x v
  | _, _, _, _, _, .nil _ _, vs, Bs, hr, β, s, hB, hd => by
    cases hr
    exact ⟨β, s, Ext.refl, rfl, fun i x v hx => by simp at hx⟩
  | _, _, _, _, _, .plain hj t, vs, Bs, hr, β, s, hB, hd => by
    cases hr with
    | plain hj' rp tr =>
      obtain ⟨β', s1, x1, l1, r1⟩ := res_ok lw t tr s hB hd
      refine ⟨β', s1, x1, by simp [l1], fun i y u hy hu => ?_⟩
      cases i with
      | zero => simp at hy hu; subst hy; subst hu; exact RPA.ra rp
      | succ i => simp at hy hu; exact r1 i y u hy hu
    | own hj' ro tr => rw [hj] at hj'; cases hj'
  | _, _, _, _, _, .own (c := c) hj ad t, vs, Bs, hr, β, s, hB, hd => by
    cases hr with
    | plain hj' rp tr => rw [hj] at hj'; cases hj'
    | own hj' ro tr =>
      rw [locs_app] at hd
      obtain ⟨n1, n2, n3⟩ := List.nodup_append.mp hd
      obtain ⟨β1, s1, r1, x1⟩ := s.thaw1 lw ro (fun L hL => hB L (List.mem_append_left _ hL)) ad
      obtain ⟨β', s2, x2, l2, r2⟩ := res_ok lw t tr s1 (fun L hL => x1.free _ (hB L (List.mem_append_right _ hL)) fun hm => n3 _ hm _ (List.mem_map.mpr ⟨L, hL, rfl⟩) rfl) n2
      refine ⟨β', s2, by rw [locs_app]; exact x1.trans x2, by simp [l2], fun i y u hy hu => ?_⟩
      cases i with
      | zero => simp at hy hu; subst hy; subst hu; exact x2.rc _ _ r1
      | succ i => simp at hy hu; exact r2 i y u hy hu
theorem pack_ra {w F h β} {res : List (A D.S)} {rvs : List Value} (r1 : res.length = rvs.length) (r2 : ∀ (j : Nat) x v, res[j]? = some x → rvs[j]? = some v → RA D w F h β x v) : RV D w F h β (packV D res) (tupV rvs) := by
  match res, rvs, r1, r2 with
  | [], [], _, _ => exact ⟨#[], rfl, rfl, fun j x v hx => by simp at hx⟩
  | [x], [v], _, r2 => exact r2 0 x v rfl rfl
  | x :: x' :: l, v :: v' :: l', r1, r2 =>
    refine ⟨(v :: v' :: l').toArray, rfl, by simpa using r1, fun j y u hy hu => ?_⟩
    rw [List.getElem?_toArray] at hu
    exact r2 j y u hy hu
theorem RO.lt {w : World} {F : Nat → Prop} {c : C D.S} {v : Value} {Bs : List Loc} (h : RO D w F c v Bs) : ∀ L ∈ Bs, L.b < w.heap.size := by
  rcases thaw_cases c with ⟨t, l, rfl⟩ | ⟨t, l, i, o, rfl⟩ | ⟨_, h2⟩
  · rcases h with ⟨rfl, _⟩ | ⟨L, cap, vs, e, rfl, q1, _⟩
    · exact fun L h => by cases h
    · intro L' h; obtain rfl := List.mem_singleton.mp h; exact (Array.getElem?_eq_some_iff.mp q1).1
  · obtain ⟨x, L, us, e, rfl, rfl, q1, q2, _⟩ := h
    intro L' h; obtain rfl := List.mem_singleton.mp h; exact (Array.getElem?_eq_some_iff.mp q2).1
  · obtain ⟨rfl, _⟩ := h2 _ _ _ _ h
    exact fun L h => by cases h
theorem ROL.lt {w : World} {F : Nat → Prop} {own : OwL} {j : Nat} {cs : List (C D.S)} {vs : List Value} {Bs : List Loc} (h : ROL D w F own j cs vs Bs) : ∀ L ∈ Bs, L.b < w.heap.size := by
  induction h with
  | nil => exact fun L h => by cases h
  | plain h r t ih => exact ih
  | own h r t ih => exact fun L hL => (List.mem_append.mp hL).elim (r.lt L) (ih L)
theorem LentX.lt {w : World} {F : Nat → Prop} {owns : List OwL} {Ls : List Loc} {css : List (List (C D.S))} {Bs : List Loc} (h : LentX D w F owns Ls css Bs) : ∀ L ∈ Bs, L.b < w.heap.size := by
  induction h with
  | nil => exact fun L h => by cases h
  | cons r t ih => exact fun L hL => (List.mem_append.mp hL).elim (fun h => by obtain ⟨_, vs, ty, _, _, q⟩ := r; exact q.lt L h) (ih L)
theorem LentX.at {w : World} {F : Nat → Prop} {owns : List OwL} {Ls : List Loc} {css : List (List (C D.S))} {Bs : List Loc} (h : LentX D w F owns Ls css Bs) : ∀ L ∈ Ls, L.o = 0 ∧ ∃ vs t, w.heap[L.b]? = some (.cells vs t (0, 0)) ∧ vs.size = L.n := by
  induction h with
  | nil => exact fun L h => by cases h
  | cons r t ih => exact fun L hL => (List.mem_cons.mp hL).elim (fun e => by subst e; obtain ⟨h1, vs, ty, h2, h3, _⟩ := r; exact ⟨h1, vs, ty, h2, h3⟩) (ih L)
theorem ResO.lt {w : World} {F : Nat → Prop} {ro : OwL} {j : Nat} {xs : List (A D.S)} {vs : List Value} {Bs : List Loc} (h : ResO D w F ro j xs vs Bs) : ∀ L ∈ Bs, L.b < w.heap.size := by
  induction h with
  | nil => exact fun L h => by cases h
  | plain h r t ih => exact ih
  | own h r t ih => exact fun L hL => (List.mem_append.mp hL).elim (r.lt L) (ih L)
theorem distinct_nodup : ∀ {l : List Nat}, distinct l = true → l.Nodup
  | [], _ => List.nodup_nil
  | i :: l, h => by
    simp only [distinct] at h
    split at h
    · cases h
    · rename_i hne
      refine List.nodup_cons.mpr ⟨fun hm => ?_, distinct_nodup h⟩
      rw [List.elem_eq_contains, List.contains_iff_mem.mpr hm] at hne; cases hne
theorem apart_at : ∀ {os vs : List Nat}, apart os vs = true → ∀ i ∈ os, i ∉ vs
  | [], vs, h, i, hi => by cases hi
  | j :: os, vs, h, i, hi => by
    simp only [apart] at h
    split at h
    · cases h
    · rename_i hne
      rcases List.mem_cons.mp hi with rfl | hi
      · intro hm; rw [List.elem_eq_contains, List.contains_iff_mem.mpr hm] at hne; cases hne
      · exact apart_at h i hi
/-- Other numbers, other blocks. -/
theorem Sim.nodupB (s : Sim K β F fr hp a w) : ∀ {ids : List Nat}, ids.Nodup → (∀ i ∈ ids, ∃ b, hp.get i = some b) → (locs (ids.filterMap β)).Nodup
  | [], _, _ => List.nodup_nil
  | i :: ids, hd, hx => by
    obtain ⟨h1, h2⟩ := List.nodup_cons.mp hd
    have ih := s.nodupB h2 fun j hj => hx j (List.mem_cons_of_mem _ hj)
    rw [List.filterMap_cons]
    split
    · exact ih
    · rename_i L hL
      refine List.nodup_cons.mpr ⟨fun hm => ?_, ih⟩
      obtain ⟨L', hL', e⟩ := List.mem_map.mp hm
      obtain ⟨j, hj, hb⟩ := List.mem_filterMap.mp hL'
      obtain ⟨bi, hbi⟩ := hx i List.mem_cons_self
      obtain ⟨bj, hbj⟩ := hx j (List.mem_cons_of_mem _ hj)
      have := s.inj i j _ _ L L' hbi hbj hL hb e.symm
      exact h1 (this ▸ hj)
theorem mem_locs {ids : List Nat} {b : Nat} (h : b ∈ locs (ids.filterMap β)) : ∃ i ∈ ids, ∃ L, β i = some L ∧ L.b = b := by
  obtain ⟨L, hL, e⟩ := List.mem_map.mp h
  obtain ⟨i, hi, hb⟩ := List.mem_filterMap.mp hL
  exact ⟨i, hi, L, hb, e⟩
theorem OwnId.nref' {n0 id : Nat} (s : Sim K β F fr hp a w) (hn : ∀ r ∈ K.refs, r.1 < n0) (h : OwnId n0 hp id) : ∀ L, (id, L) ∉ K.refs := fun L hm => by
  rcases h with ⟨t, l, h⟩ | ⟨h3, _⟩
  · obtain ⟨_, cs, g⟩ := s.refs id L hm
    rw [h] at g; cases g
  · have := hn _ hm
    simp only at this; omega
theorem OwnId.nref {id : Nat} (s : Sim K β F fr hp a w) (h : OwnId 3000 hp id) : ∀ L, (id, L) ∉ K.refs := h.nref' s K.rlt
theorem OwnId.some {n0 id : Nat} (h : OwnId n0 hp id) : ∃ b, hp.get id = some b := by
  rcases h with ⟨t, l, h⟩ | ⟨_, cs, h⟩ <;> exact ⟨_, h⟩
/-- A call that hands over, and answers, what is nobody else's. -/
theorem callX_ok (lw : Lawful D P) (hH : HOk D P H) (s : Sim K β F fr hp a w) {g : FuncId} {xm : XMd} (hxm : xmOf D g = some xm) {as : List (A D.S)} {vs : List Value} (hl : as.length = vs.length) (hr : ∀ (j : Nat) x v, as[j]? = some x → vs[j]? = some v → RA D w F hp.get β x v)
    (h : callXK D H g xm d as fr hp k = some r) : ∃ v fr' hp', k v fr' hp' = some r ∧ RunOk P g vs.toArray w fun e w' => ∃ cv β' F', e = .returned cv ∧ Sim K β' F' fr' hp' a w' ∧ RV D w' F' hp'.get β' v cv := by
  unfold callXK at h
  split at h
  · cases h
  rename_i ws rs is os hargs
  split at h
  · cases h
  rename_i hck
  rw [Bool.and_eq_true] at hck
  obtain ⟨hds, hap⟩ := hck
  obtain ⟨F', fr1, hp1, h1, s1, fz⟩ := frzs_ok lw s h
  obtain ⟨fr2, hp2, kl, h2, _⟩ := killsK_some h1
  obtain ⟨hp3, bl, h3, _⟩ := blurK_some h2
  obtain ⟨res, css, h4, hcall⟩ := hH.2 g ws _ r xm hxm h3
  obtain ⟨hp4, pt, h5, _⟩ := putRefsK_some h4
  obtain ⟨res', hp5, rr, h6, _⟩ := putResK_some h5
  have hnd := distinct_nodup hds
  -- the arguments
  have own0 : ∀ id ∈ os, ∀ L, β id = some L → F' L.b := fun id hi L hL => by
    have : ∃ t l, hp.get id = some (.arr t l) := by
      obtain ⟨_, _, _, _, _, _, _, _, g7⟩ := argsX_ok lw s (F1 := fun _ => True) (fun _ _ => trivial) hargs hl hr (fun _ _ _ _ => trivial)
      exact g7 id hi
    obtain ⟨t, l, hg⟩ := this
    exact fz.own id hi t l L hg hL
  obtain ⟨Ls, Os, hA, hLs, hown, hbox, hOs, hid, hos⟩ := argsX_ok lw s fz.up hargs hl hr own0
  have some_ : ∀ i ∈ keysN rs ++ is, ∃ b, hp.get i = some b := fun i hi => (List.mem_append.mp hi).elim (fun h => by obtain ⟨cs, h⟩ := hbox i h; exact ⟨_, h⟩) (fun h => (hid i h).some)
  have eLs : (keysN rs).filterMap β = Ls := by
    have : (keysN rs).filterMap β = ((keysN rs).map β).filterMap id := by rw [List.filterMap_map]; rfl
    rw [this, hLs, List.filterMap_map]; simp
  have ndAll : (locs (Ls ++ is.filterMap β)).Nodup := by rw [← eLs, ← List.filterMap_append]; exact s.nodupB hnd some_
  have ndLO : (locs (Ls ++ Os)).Nodup := by
    rw [locs_app] at ndAll ⊢
    exact ndAll.sublist (List.Sublist.append (List.Sublist.refl _) hOs)
  have ofLs : ∀ L ∈ Ls, ∃ i ∈ keysN rs, β i = some L ∧ ∃ cs, hp.get i = some (.box cs) := fun L hL => by
    rw [← eLs] at hL
    obtain ⟨i, hi, hb⟩ := List.mem_filterMap.mp hL
    exact ⟨i, hi, hb, hbox i hi⟩
  have ofOs : ∀ b ∈ locs Os, ∃ i ∈ is, ∃ L, β i = some L ∧ L.b = b := fun b hb => mem_locs (hOs.subset hb)
  have notis : ∀ i ∈ is, i ∉ os := apart_at hap
  -- what is there behind each step
  obtain ⟨s2, k1, k2, k3, k4⟩ := kills_ok kl s1 (fun id hi => ⟨by obtain ⟨b, hb⟩ := (hid id hi).some; exact s.key id b hb, (hid id hi).nref s⟩)
  obtain ⟨s3, b1, b2, b3, b4⟩ := blur_ok bl s2
  have back : ∀ i b, hp3.get i = some b → ∃ b0, hp.get i = some b0 := fun i b h => by
    obtain ⟨x, h⟩ := b1 i b h
    obtain ⟨x, h⟩ := k3 i x h
    exact fz.some_ i x h
  have gone : ∀ i ∈ is, hp3.get i = none := fun i hi => b2 i (k1 i hi)
  have nF : ∀ L ∈ Ls ++ Os, ¬ F' L.b := fun L hL => by
    rcases List.mem_append.mp hL with hL | hL
    · obtain ⟨i, hi, hb, cs, hc⟩ := ofLs L hL
      obtain ⟨cs', hc'⟩ := fz.box' i cs hc
      exact (s1.sep i _ L hc' hb).1
    · obtain ⟨i, hi, L', hb, e⟩ := ofOs _ (List.mem_map.mpr ⟨L, hL, rfl⟩)
      obtain ⟨b, hb0⟩ := (hid i hi).some
      obtain ⟨b', hb'⟩ := fz.stay i b (notis i hi) hb0
      rw [← e]
      exact (s1.sep i _ L' hb' hb).1
  have nG : ∀ L ∈ Ls ++ Os, ¬ K.G L.b := fun L hL => by
    rcases List.mem_append.mp hL with hL | hL
    · obtain ⟨i, hi, hb, cs, hc⟩ := ofLs L hL
      exact s.gsep i _ L hc hb
    · obtain ⟨i, hi, L', hb, e⟩ := ofOs _ (List.mem_map.mpr ⟨L, hL, rfl⟩)
      obtain ⟨b, hb0⟩ := (hid i hi).some
      rw [← e]
      exact s.gsep i _ L' hb0 hb
  have dead : ∀ b ∈ locs Os, ∀ i b' L', hp3.get i = some b' → β i = some L' → L'.b ≠ b := fun b hb i b' L' e1 e2 e3 => by
    obtain ⟨j, hj, L, hL, e⟩ := ofOs b hb
    obtain ⟨b0, hb0⟩ := back i b' e1
    obtain ⟨bj, hbj⟩ := (hid j hj).some
    have := s.inj i j _ _ L' L hb0 hbj e2 hL (e3.trans e.symm)
    subst this
    rw [gone i hj] at e1; cases e1
  refine ⟨_, _, _, h6, (hcall w F' vs Ls Os s1.old s.glAt (fun x hx L hL e => nG L hL (e ▸ ⟨(K.gl x hx).1, K.gr x hx, K.lg x hx⟩)) nF ndLO hA).mono ?_⟩
  rintro e w' ⟨rvs, F1, B1, B2, rfl, hbeh, hF1, hF1', hres, hlent, hfr, hndB⟩
  have s4 := s3.calledX hbeh hF1 hF1' (fun L hL => by
      obtain ⟨i, hi, hb, _⟩ := ofLs L hL
      obtain ⟨cs, hc⟩ := b4 i hi
      exact ⟨i, cs, hc, hb⟩) hlent.at (fun b hb => by
      obtain ⟨L, hL, rfl⟩ := List.mem_map.mp hb
      refine ⟨nF L (List.mem_append_right _ hL), nG L (List.mem_append_right _ hL), dead _ hb, ?_⟩
      obtain ⟨i, hi, L', hb', e⟩ := ofOs _ hb
      obtain ⟨b0, hb0⟩ := (hid i hi).some
      rw [← e]
      exact s.freshF hb0 hb' ((hid i hi).nref s))
  have free : ∀ L ∈ B1 ++ B2, FreeB K β F1 hp3 w' L.b := fun L hL => by
    obtain ⟨g1, g2⟩ := hfr L hL
    refine ⟨(List.mem_append.mp hL).elim (hres.lt L) (hlent.lt L), g1, fun i b' L' e1 e2 e3 => ?_, fun hG => ?_⟩
    · rcases g2 with g2 | g2
      · have := (s3.sep i b' L' e1 e2).2
        omega
      · exact dead _ g2 i b' L' e1 e2 e3
    · rcases g2 with g2 | g2
      · have := hG.1
        have := s.w0.1
        omega
      · obtain ⟨L2, hL2, e⟩ := List.mem_map.mp g2
        exact nG L2 (List.mem_append_right _ hL2) (e ▸ hG)
  rw [locs_app, locs_app] at hndB
  obtain ⟨_, n12, _⟩ := List.nodup_append.mp hndB
  obtain ⟨n1, n2, n3⟩ := List.nodup_append.mp n12
  obtain ⟨β1, s5, x5⟩ := put_ok lw pt hlent hown hLs (fun i hi => by obtain ⟨cs, hc⟩ := b4 i hi; exact ⟨_, hc⟩) s4 (fun L hL => free L (List.mem_append_right _ hL)) n2
  obtain ⟨β2, s6, x6, l6, r6⟩ := res_ok lw rr hres s5 (fun L hL => x5.free _ (free L (List.mem_append_left _ hL)) fun hm => n3 _ (List.mem_map.mpr ⟨L, hL, rfl⟩) _ hm rfl) n1
  exact ⟨_, β2, F1, rfl, s6, pack_ra l6 r6⟩
theorem call_ok (lw : Lawful D P) (hH : HOk D P H) (s : Sim K β F fr hp a w) {g : FuncId} {as : List (A D.S)} {vs : List Value} (hl : as.length = vs.length) (hr : ∀ (j : Nat) x v, as[j]? = some x → vs[j]? = some v → RA D w F hp.get β x v)
    (h : callK D H g d as fr hp k = some r) : ∃ v fr' hp', k v fr' hp' = some r ∧ RunOk P g vs.toArray w fun e w' => ∃ cv β' F', e = .returned cv ∧ Sim K β' F' fr' hp' a w' ∧ RV D w' F' hp'.get β' v cv := by
  unfold callK at h
  split at h
  · rename_i xm hx
    exact callX_ok lw hH s hx hl hr h
  · rename_i hx
    obtain ⟨v, fr', hp', h1, h2⟩ := call0_ok lw hH s hl hr hx h
    exact ⟨v, fr', hp', h1, h2.mono fun e w' ⟨cv, F', q1, q2, q3⟩ => ⟨cv, β, F', q1, q2, q3⟩⟩
end
end Go.Proofs.Ytkpjeihgigmnkaa.Ev
/- Values without memory: one operation with its guard; regions in their order. -/
namespace Go.Proofs.Ytkpjeihgigmnkaa.Ev
open Go
set_option linter.unusedVariables false
set_option linter.unusedSimpArgs false
section
variable {D : Tys} {P : Program}
variable {R : Type} {H : HH D R} {K : Kx D} {β : Nat → Option Loc} {F : Nat → Prop} {fr : Tr (V D.S)} {hp : Tr (B D.S)} {a : Act} {w : World} {o : Oper} {d : Nat} {r : R}
/-- An operation's slot is one of the frame's. -/
def dstOk (n : Nat) (o : Oper) : Bool := match o.dst with | some d => decide (d < n) && decide (d < 65535) | none => true
/-- From a state that is told as (fr, hp), the operation comes to one that is told as (fr', hp'). -/
def Good (P : Program) (K : Kx D) (o : Oper) (fr : Tr (V D.S)) (hp : Tr (B D.S)) (fr' : Tr (V D.S)) (hp' : Tr (B D.S)) : Prop :=
  ∀ (β : Nat → Option Loc) (F : Nat → Prop) (a : Act) (w : World), Sim K β F fr hp a w → ∀ (next : Act → World → Prop) (Q : Exit → Act → World → Prop), (∀ β' F' a' w', Sim K β' F' fr' hp' a' w' → next a' w') → o.wp P a w next Q
theorem Sim.same (s : Sim K β F fr hp a w) {d : Nat} {v : V D.S} (h : fr.get d = some v) (hd : d < 65535) : Sim K β F (fr.set depth d (some v)) hp a w := by
  refine ⟨s.sz, s.df, fun i x hx => ?_, s.blk, s.inj, s.sep, s.old, s.keep, s.gsep, s.fsub, s.w0, s.refs, s.key⟩
  rw [Tr.get_set _ _ _ _ _ (by rw [depth_ok]; omega)] at hx
  by_cases e : i = d
  · subst e
    rw [if_pos rfl] at hx
    obtain rfl := Option.some.inj hx
    exact s.frm i v h
  · rw [if_neg e] at hx; exact s.frm i x hx
theorem putK_eq {k : Tr (V D.S) → Option R} {dst : Option Tmp} {v : V D.S} : putK D dst v fr k = k (match dst with | some d => fr.set depth d (some v) | none => fr) := by
  unfold putK; split <;> first | rw [Tr.setK_eq] | rfl
theorem Sim.putD (s : Sim K β F fr hp a w) {dst : Option Tmp} {v : V D.S} {cv : Value} (h : RV D w F hp.get β v cv) (hd : ∀ d, dst = some d → d < K.n ∧ d < 65535) :
    Sim K β F (match (generalizing := false) dst with | some d => fr.set depth d (some v) | none => fr) hp (a.put dst cv) w := by
  cases dst with
  | none => exact s
  | some d => exact s.put h (hd d rfl).1 (hd d rfl).2
theorem capPtrs_ok {w F β} {hp : Tr (B D.S)} : ∀ (caps : List Nat), (∀ i ∈ caps, ∃ cs L, hp.get i = some (.box cs) ∧ β i = some L) → (hz : ∀ i b L, hp.get i = some (.box b) → β i = some L → L.o = 0) →
    (capPtrs D caps).length = (caps.map fun i => Value.pointer ((β i).map fun L => ⟨L.b, L.o, none⟩)).length ∧ ∀ (j : Nat) x v, (capPtrs D caps)[j]? = some x → (caps.map fun i => Value.pointer ((β i).map fun L => ⟨L.b, L.o, none⟩))[j]? = some v → RA D w F hp.get β x v
  | [], _, _ => ⟨rfl, fun j x v hx => by simp [capPtrs] at hx⟩
  | i :: caps, h, hz => by
    obtain ⟨i1, i2⟩ := capPtrs_ok (w := w) (F := F) caps (fun q hq => h q (List.mem_cons_of_mem _ hq)) hz
    obtain ⟨cs, L, g1, g2⟩ := h i List.mem_cons_self
    refine ⟨by simp only [capPtrs, List.length_cons, i1, List.map_cons], fun j x v hx hv => ?_⟩
    cases j with
    | zero =>
      simp only [capPtrs, List.getElem?_cons_zero, List.map_cons, Option.some.injEq] at hx hv
      subst hx; subst hv
      exact ⟨cs, L, g1, g2, by rw [g2]; rfl⟩
    | succ j =>
      simp only [capPtrs, List.getElem?_cons_succ, List.map_cons] at hx hv
      exact i2 j x v hx hv
/-- An operation, in memory, behind what is told of it. -/
theorem opK_wp (lw : Lawful D P) (hH : HOk D P H) (s : Sim K β F fr hp a w) (hd : dstOk K.n o = true) {k : KK D R} (h : opK D H o.op (o.dst.getD 999) fr hp k = some r) :
    ∃ v fr' hp', k v fr' hp' = some r ∧ ∀ (next : Act → World → Prop) (Q : Exit → Act → World → Prop), (∀ β' F' cv w', Sim K β' F' fr' hp' a w' → RV D w' F' hp'.get β' v cv → next (a.put o.dst cv) w') → o.wp P a w next Q := by
  have hd9 : o.dst.getD 999 < 65535 := by
    unfold dstOk at hd
    split at hd
    · rename_i d e
      rw [Bool.and_eq_true] at hd
      rw [e]; exact of_decide_eq_true hd.2
    · rename_i e; rw [e]; decide
  cases hc : isCall o.op
  · obtain ⟨v, fr', hp', h1, β', F', cv, w', h2, h3, h4⟩ := op_ok lw s hd9 hc h
    refine ⟨v, fr', hp', h1, fun next Q hn => ?_⟩
    unfold Oper.wp
    rcases h2 with h2 | ⟨h2, rfl⟩
    · rw [h2, Oper.upon_value]; exact hn β' F' cv w' h3 h4
    · rw [h2, Oper.upon_skip]; exact hn β' F' undef w' h3 h4
  · generalize ho : o.op = op at h hc
    unfold isCall at hc
    split at hc
    · rename_i f args ts
      simp only [opK] at h
      split at h
      · rename_i g caps as hf has
        obtain ⟨e1, e2⟩ := evC_ok s hf
        obtain ⟨l1, l2⟩ := evAs_ok s has
        obtain ⟨c1, c2⟩ := capPtrs_ok (w := w) (F := F) caps e2 (fun i b L hb hL => by
          obtain ⟨L', us, t, b1, b2, b3, _⟩ := s.blk i _ hb
          rw [hL] at b1; obtain rfl := Option.some.inj b1; exact b3)
        obtain ⟨v, fr', hp', h1, hrun⟩ := call_ok lw hH s (vs := args.toList.map a.eval ++ caps.map fun i => Value.pointer ((β i).map fun L => ⟨L.b, L.o, none⟩)) (by rw [List.length_append, List.length_append, List.length_map, l1, c1]) (fun j x u hx hu => by
          by_cases hj : j < as.length
          · rw [List.getElem?_append_left hj] at hx
            rw [List.getElem?_append_left (by rw [List.length_map, ← l1]; exact hj), List.getElem?_map] at hu
            obtain ⟨y, hy, rfl⟩ := Option.map_eq_some_iff.mp hu
            exact l2 j x y hx hy
          · rw [List.getElem?_append_right (by omega)] at hx
            rw [List.getElem?_append_right (by rw [List.length_map, ← l1]; omega), List.length_map, ← l1] at hu
            exact c2 _ x u hx hu) h
        refine ⟨v, fr', hp', h1, fun next Q hn => ?_⟩
        have hexec : (execOp a.eval o).run P w = (callFunc g (args.toList.map a.eval ++ caps.map fun i => Value.pointer ((β i).map fun L => ⟨L.b, L.o, none⟩)).toArray).run P w := by
          simp only [execOp, ho, resolve, e1, Deferred.ofValue, Sem.run_bind, Sem.run_pure, Result.andThen_ok, invoke]
          congr 2
          apply Array.toList_inj.mp
          simp
        unfold Oper.wp
        rw [hexec]
        rcases hrun with ⟨r1, r2⟩ | ⟨u, r1, cv, β', F', r2, r3, r4⟩
        · rw [r1, Oper.upon_enter]
          refine r2.mono ?_
          rintro e w' ⟨cv, β', F', rfl, r3, r4⟩
          exact hn β' F' cv w' r3 r4
        · injection r2 with r2
          subst r2
          rw [r1, Oper.upon_value]
          exact hn β' F' u w r3 r4
      · cases h
    · cases hc
theorem yieldK_some {ops : List Oper} {j : Nat} {fr : Tr (V D.S)} {k : Nat → Bool → Option R} (h : yieldK D ops j fr k = some r) : ∃ o d b, ops[j]? = some o ∧ o.dst = some d ∧ fr.get d = some (.a (.c (.bool b))) ∧ k d b = some r := by
  unfold yieldK at h
  split at h
  · rename_i d q1 q2 q3 q4 q5 hj
    split at h
    · rename_i b hb
      exact ⟨_, d, b, hj, rfl, hb, h⟩
    · cases h
  · cases h
theorem yielded_of (s : Sim K β F fr hp a w) {ops : Array Oper} {j d : Nat} {o : Oper} {b : Bool} (ho : ops.toList[j]? = some o) (hd : o.dst = some d) (hb : fr.get d = some (.a (.c (.bool b)))) : yielded ops a.tmps j = some b := by
  have r : RP D w F (.bool b) (a.tmps.getD d undef) := s.frm d _ hb
  have e : a.tmps[d]? = some (.bool b) := by
    rw [Array.getD_eq_getD_getElem?] at r
    cases h : a.tmps[d]? with
    | none => rw [h] at r; simp only [Option.getD_none] at r; unfold undef at r; cases r
    | some v => rw [h] at r; simp only [Option.getD_some] at r; cases r; rfl
  unfold yielded
  rw [← Array.getElem?_toList, ho]
  simp [hd, e]
/-- One operation with its guard, in memory. -/
theorem op1K0_wp (lw : Lawful D P) (hH : HOk D P H) (s : Sim K β F fr hp a w) (hd : dstOk K.n o = true) {ops : Array Oper} (hds : ∀ o ∈ ops.toList, dstOk K.n o = true) {k : Tr (V D.S) → Tr (B D.S) → Option R} (h : op1K0 D H ops.toList o fr hp k = some r) :
    ∃ fr' hp', k fr' hp' = some r ∧ ∀ (next : Act → World → Prop) (Q : Exit → Act → World → Prop), (∀ β' F' a' w', Sim K β' F' fr' hp' a' w' → next a' w') →
      (if Region.wanted o (yielded ops a.tmps) then o.wp P a w next Q ∨ (o.asks P a w ∧ LetsOut Q) else next (a.put o.dst undef) w) := by
  have hdd : ∀ d, o.dst = some d → d < K.n ∧ d < 65535 := fun d e => by
    unfold dstOk at hd
    rw [e, Bool.and_eq_true] at hd
    exact ⟨of_decide_eq_true hd.1, of_decide_eq_true hd.2⟩
  -- the operation is carried out, in a frame where a guard's slot is told as what it is
  have run : ∀ {fr1 : Tr (V D.S)}, Sim K β F fr1 hp a w → (opK D H o.op (o.dst.getD 999) fr1 hp fun v fr hp => putK D o.dst v fr fun fr => k fr hp) = some r → ∃ fr' hp', k fr' hp' = some r ∧ ∀ (next : Act → World → Prop) (Q : Exit → Act → World → Prop), (∀ β' F' a' w', Sim K β' F' fr' hp' a' w' → next a' w') → o.wp P a w next Q := by
    intro fr1 s1 h1
    obtain ⟨v, fr2, hp2, h2, hw⟩ := opK_wp lw hH s1 hd h1
    rw [putK_eq] at h2
    exact ⟨_, _, h2, fun next Q hn => hw next Q fun β' F' cv w' s' rv => hn β' F' _ w' (s'.putD rv hdd)⟩
  have skip : ∀ {fr1 : Tr (V D.S)}, Sim K β F fr1 hp a w → (putK D o.dst (.tup []) fr1 fun fr => k fr hp) = some r → ∃ fr' hp', k fr' hp' = some r ∧ ∀ (next : Act → World → Prop), (∀ β' F' a' w', Sim K β' F' fr' hp' a' w' → next a' w') → next (a.put o.dst undef) w := by
    intro fr1 s1 h1
    rw [putK_eq] at h1
    exact ⟨_, _, h1, fun next hn => hn β F _ w (s1.putD (v := .tup []) ⟨#[], rfl, rfl, fun j x v h => by simp at h⟩ hdd)⟩
  have slot : ∀ {j d b}, (∃ o' : Oper, ops.toList[j]? = some o' ∧ o'.dst = some d) → fr.get d = some (.a (.c (.bool b))) → Sim K β F (fr.set depth d (some (cV (.bool b)))) hp a w := fun {j d b} hx hb => by
    obtain ⟨o', h1, h2⟩ := hx
    have := hds o' (List.mem_of_getElem? h1)
    unfold dstOk at this
    rw [h2, Bool.and_eq_true] at this
    exact s.same hb (of_decide_eq_true this.2)
  unfold op1K0 at h
  split at h
  · rename_i hg
    obtain ⟨fr', hp', h1, h2⟩ := run s h
    refine ⟨fr', hp', h1, fun next Q hn => ?_⟩
    have : Region.wanted o (yielded ops a.tmps) = true := by unfold Region.wanted; rw [hg]
    rw [if_pos this]
    exact .inl (h2 next Q hn)
  · rename_i j hg
    obtain ⟨o', d', b, e1, e2, e3, h⟩ := yieldK_some h
    have hy := yielded_of s e1 e2 e3
    have hs := slot ⟨o', e1, e2⟩ e3
    rcases bKK_some h with ⟨eb, h'⟩ | ⟨eb, h'⟩
    · subst eb
      clear h
      have h := h'
      rw [Tr.setK_eq] at h
      obtain ⟨fr', hp', h1, h2⟩ := run hs h
      refine ⟨fr', hp', h1, fun next Q hn => ?_⟩
      have : Region.wanted o (yielded ops a.tmps) = true := by unfold Region.wanted; rw [hg]; simp [hy]
      rw [if_pos this]
      exact .inl (h2 next Q hn)
    · subst eb
      clear h
      have h := h'
      rw [Tr.setK_eq] at h
      obtain ⟨fr', hp', h1, h2⟩ := skip hs h
      refine ⟨fr', hp', h1, fun next Q hn => ?_⟩
      have : ¬ Region.wanted o (yielded ops a.tmps) = true := by unfold Region.wanted; rw [hg]; simp [hy]
      rw [if_neg this]
      exact h2 next hn
  · rename_i j hg
    obtain ⟨o', d', b, e1, e2, e3, h⟩ := yieldK_some h
    have hy := yielded_of s e1 e2 e3
    have hs := slot ⟨o', e1, e2⟩ e3
    rcases bKK_some h with ⟨eb, h'⟩ | ⟨eb, h'⟩
    · subst eb
      clear h
      have h := h'
      rw [Tr.setK_eq] at h
      obtain ⟨fr', hp', h1, h2⟩ := skip hs h
      refine ⟨fr', hp', h1, fun next Q hn => ?_⟩
      have : ¬ Region.wanted o (yielded ops a.tmps) = true := by unfold Region.wanted; rw [hg]; simp [hy]
      rw [if_neg this]
      exact h2 next hn
    · subst eb
      clear h
      have h := h'
      rw [Tr.setK_eq] at h
      obtain ⟨fr', hp', h1, h2⟩ := run hs h
      refine ⟨fr', hp', h1, fun next Q hn => ?_⟩
      have : Region.wanted o (yielded ops a.tmps) = true := by unfold Region.wanted; rw [hg]; simp [hy]
      rw [if_pos this]
      exact .inl (h2 next Q hn)
theorem skB_some {ops : List Oper} {d : Nat} (h : skB D ops o fr = some d) : ∃ j w o', o.guard = some (j, w) ∧ ops[j]? = some o' ∧ o'.dst = some d ∧ fr.get d = some (.tup []) := by
  unfold skB at h
  split at h
  · cases h
  · rename_i j w hg
    split at h
    · rename_i d' q1 q2 q3 q4 q5 hj
      split at h
      · rename_i hb
        obtain rfl := Option.some.inj h
        exact ⟨j, w, _, hg, hj, rfl, hb⟩
      · cases h
    · cases h
theorem op1K_wp (lw : Lawful D P) (hH : HOk D P H) (s : Sim K β F fr hp a w) (hd : dstOk K.n o = true) {ops : Array Oper} (hds : ∀ o ∈ ops.toList, dstOk K.n o = true) {k : Tr (V D.S) → Tr (B D.S) → Option R} (h : op1K D H ops.toList o fr hp k = some r) :
    ∃ fr' hp', k fr' hp' = some r ∧ ∀ (next : Act → World → Prop) (Q : Exit → Act → World → Prop), (∀ β' F' a' w', Sim K β' F' fr' hp' a' w' → next a' w') →
      (if Region.wanted o (yielded ops a.tmps) then o.wp P a w next Q ∨ (o.asks P a w ∧ LetsOut Q) else next (a.put o.dst undef) w) := by
  unfold op1K at h
  split at h
  · rename_i d hsk
    obtain ⟨j, w', o', hg, h1, h2, h3⟩ := skB_some hsk
    have hdd : ∀ d, o.dst = some d → d < K.n ∧ d < 65535 := fun d e => by
      unfold dstOk at hd
      rw [e, Bool.and_eq_true] at hd
      exact ⟨of_decide_eq_true hd.1, of_decide_eq_true hd.2⟩
    rw [putK_eq] at h
    refine ⟨_, _, h, fun next Q hn => ?_⟩
    have hy : yielded ops a.tmps j = none := by
      have r : RV D w F hp.get β (.tup []) (a.tmps.getD d undef) := s.frm d _ h3
      obtain ⟨vs, hv, _, _⟩ := r
      rw [Array.getD_eq_getD_getElem?] at hv
      unfold yielded
      rw [← Array.getElem?_toList, h1]
      cases ht : a.tmps[d]? with
      | none => simp [h2, ht]
      | some v => rw [ht] at hv; simp only [Option.getD_some] at hv; subst hv; simp [h2, ht]
    have : ¬ Region.wanted o (yielded ops a.tmps) = true := by unfold Region.wanted; rw [hg]; simp [hy]
    rw [if_neg this]
    exact hn β F _ w (s.putD (v := .tup []) ⟨#[], rfl, rfl, fun j x v h => by simp at h⟩ hdd)
  · exact op1K0_wp lw hH s hd hds h
/-- A region in its order. -/
theorem opsK_wp (lw : Lawful D P) (hH : HOk D P H) {ops : Array Oper} (hds : ∀ o ∈ ops.toList, dstOk K.n o = true) {k : Tr (V D.S) → Tr (B D.S) → Option R} {Q : Exit → Act → World → Prop}
    (hQ : ∀ fr' hp' β' F' a' w', k fr' hp' = some r → Sim K β' F' fr' hp' a' w' → Q .normal a' w') :
    ∀ (n : Nat) (i : Nat) {β F fr hp a w}, i + n = ops.size → Sim K β F fr hp a w → opsK D H ops.toList (ops.toList.drop i) fr hp k = some r → wpOps P ops Q (List.range' i n) a w
  | 0, i, β, F, fr, hp, a, w, hi, s, h => by
    have : ops.toList.length = ops.size := Array.length_toList
    rw [List.drop_of_length_le (by omega)] at h
    exact hQ _ _ _ _ _ _ h s
  | n + 1, i, β, F, fr, hp, a, w, hi, s, h => by
    have hlt : i < ops.toList.length := by rw [Array.length_toList]; omega
    rw [List.drop_eq_getElem_cons hlt] at h
    obtain ⟨fr', hp', h1, h2⟩ := op1K_wp lw hH s (hds _ (List.getElem_mem hlt)) hds h
    have ho : ops[i]? = some ops.toList[i] := by rw [← Array.getElem?_toList]; exact List.getElem?_eq_getElem hlt
    rw [List.range'_succ]
    simp only [wpOps, ho]
    exact h2 _ _ fun β' F' a' w' s' => opsK_wp lw hH hds hQ n (i + 1) (by omega) s' h1
end
end Go.Proofs.Ytkpjeihgigmnkaa.Ev
/- Values without memory: what runs the code hands on one state alone: so it may be run with another continuation. -/
namespace Go.Proofs.Ytkpjeihgigmnkaa.Ev
open Go
set_option linter.unusedVariables false
set_option linter.unusedSimpArgs false
section
variable {D : Tys} {R : Type}
def N3 (g : KK D R → Option R) : Prop := ∀ k r, g k = some r → ∃ v fr hp, k v fr hp = some r ∧ ∀ k2, g k2 = k2 v fr hp
def N2 (g : (Tr (V D.S) → Tr (B D.S) → Option R) → Option R) : Prop := ∀ k r, g k = some r → ∃ fr hp, k fr hp = some r ∧ ∀ k2, g k2 = k2 fr hp
/-- What a table of functions hands on. -/
def HNat (H : HH D R) : Prop := ∀ g ws (kk : List (A D.S) → List (List (C D.S)) → Option R) r, H g ws kk = some r → ∃ res css, kk res css = some r ∧ ∀ kk2, H g ws kk2 = kk2 res css
theorem bK_nat {b : Bool} {k : Option R} {r : R} (h : bK b k = some r) : b = true ∧ k = some r := by
  cases b with
  | true => exact ⟨rfl, h⟩
  | false => cases h
theorem frzK_nat {id : Nat} {fr : Tr (V D.S)} {hp : Tr (B D.S)} : N2 (D := D) (R := R) (frzK id fr hp) := by
  intro k r h
  cases hg : hp.get id with
  | none => simp [frzK, hg] at h
  | some b => cases b with
    | box cs => simp [frzK, hg] at h
    | arr t l => rw [frzK_eq hg] at h; exact ⟨_, _, h, fun k2 => frzK_eq hg⟩
theorem frzsK_nat : ∀ {ids : List Nat} {fr : Tr (V D.S)} {hp : Tr (B D.S)}, N2 (D := D) (R := R) (frzsK ids fr hp)
  | [], fr, hp, k, r, h => ⟨fr, hp, h, fun k2 => rfl⟩
  | id :: ids, fr, hp, k, r, h => by
    unfold frzsK at h
    split at h
    · rename_i hg
      obtain ⟨fr', hp', h1, h2⟩ := frzsK_nat _ _ h
      exact ⟨fr', hp', h1, fun k2 => by unfold frzsK; rw [hg]; exact h2 k2⟩
    · rename_i b hg
      obtain ⟨fr1, hp1, h1, h2⟩ := frzK_nat _ _ h
      obtain ⟨fr', hp', h3, h4⟩ := frzsK_nat _ _ h1
      exact ⟨fr', hp', h3, fun k2 => by unfold frzsK; rw [hg]; simp only; rw [h2]; exact h4 k2⟩
theorem newK_nat {d : Nat} {b : B D.S} {c : C D.S} {fr : Tr (V D.S)} {hp : Tr (B D.S)} : N3 (R := R) (newK D d b c fr hp) := by
  intro k r h
  unfold newK at h
  split at h
  · cases h
  · rename_i hg
    rw [Tr.setK_eq] at h
    exact ⟨_, _, _, h, fun k2 => by unfold newK; rw [hg]; simp only; rw [Tr.setK_eq]⟩
theorem appendK_nat {d by_ : Nat} {t : Ty} {s x : C D.S} {fr : Tr (V D.S)} {hp : Tr (B D.S)} : N3 (R := R) (appendK D d by_ t s x fr hp) := by
  intro k r h
  unfold appendK at h
  split at h
  · cases h
  · rename_i id l hg
    split at h
    · cases h
    · rename_i xs hx
      obtain ⟨hb, h⟩ := bK_nat h
      split at h
      · obtain ⟨v, fr', hp', h1, h2⟩ := newK_nat _ _ h
        exact ⟨v, fr', hp', h1, fun k2 => by unfold appendK; rw [hg]; simp only; rw [hx]; simp only; rw [hb]; exact h2 k2⟩
      · rw [killK_eq] at h
        obtain ⟨v, fr', hp', h1, h2⟩ := newK_nat _ _ h
        exact ⟨v, fr', hp', h1, fun k2 => by unfold appendK; rw [hg]; simp only; rw [hx]; simp only; rw [hb]; simp only [bK]; rw [killK_eq]; exact h2 k2⟩
theorem idxK_nat {n i : Int} {k : Option R} {r : R} (h : idxK n i k = some r) : k = some r ∧ ∀ k2 : Option R, idxK n i k2 = k2 := by
  obtain ⟨h1, h⟩ := bK_nat h
  obtain ⟨h2, h⟩ := bK_nat h
  exact ⟨h, fun k2 => by unfold idxK; rw [h1, h2]; rfl⟩
theorem setRefsK_nat : ∀ {rs : List Nat} {css : List (List (C D.S))} {hp : Tr (B D.S)} (k : Tr (B D.S) → Option R) (r : R), setRefsK D rs css hp k = some r → ∃ hp', k hp' = some r ∧ ∀ k2 : Tr (B D.S) → Option R, setRefsK D rs css hp k2 = k2 hp'
  | [], [], hp, k, r, h => ⟨hp, h, fun _ => rfl⟩
  | [], _ :: _, hp, k, r, h => by simp [setRefsK] at h
  | _ :: _, [], hp, k, r, h => by simp [setRefsK] at h
  | i :: rs, cs :: css, hp, k, r, h => by
    simp only [setRefsK, Tr.setK_eq] at h ⊢
    exact setRefsK_nat k r h
theorem callK0_nat {H : HH D R} (hH : HNat H) {g : FuncId} {d : Nat} {as : List (A D.S)} {fr : Tr (V D.S)} {hp : Tr (B D.S)} : N3 (callK0 D H g d as fr hp) := by
  intro k r h
  unfold callK0 at h
  split at h
  · cases h
  rename_i md hmd
  split at h
  · cases h
  rename_i ws rs os hargs
  split at h
  · cases h
  · rename_i hd hf
    obtain ⟨fr1, hp1, h1, e1⟩ := frzsK_nat _ _ h
    obtain ⟨res, css, h2, e2⟩ := hH _ _ _ _ h1
    obtain ⟨hp2, h3, e3⟩ := setRefsK_nat _ _ h2
    exact ⟨_, _, _, h3, fun k2 => by unfold callK0; simp only [hmd, hargs, hd, hf]; rw [e1, e2, e3]⟩
  · rename_i hd hf
    obtain ⟨res, css, h2, e2⟩ := hH _ _ _ _ h
    split at h2
    · cases h2
    · rename_i hn
      obtain ⟨hp2, h3, e3⟩ := setRefsK_nat _ _ h2
      exact ⟨_, _, _, h3, fun k2 => by unfold callK0; simp only [hmd, hargs, hd, hf]; rw [e2, hn]; simp only; rw [e3]⟩
theorem callK_nat {H : HH D R} (hH : HNat H) {g : FuncId} {d : Nat} {as : List (A D.S)} {fr : Tr (V D.S)} {hp : Tr (B D.S)} : N3 (callK D H g d as fr hp) := by
  intro k r h
  unfold callK at h
  split at h
  · rename_i xm hx
    unfold callXK at h
    split at h
    · cases h
    rename_i ws rs is os hargs
    split at h
    · cases h
    rename_i hck
    obtain ⟨fr1, hp1, h1, e1⟩ := frzsK_nat _ _ h
    obtain ⟨fr2, hp2, _, h2, e2⟩ := killsK_some h1
    obtain ⟨hp3, _, h3, e3⟩ := blurK_some h2
    obtain ⟨res, css, h4, e4⟩ := hH _ _ _ _ h3
    obtain ⟨hp4, _, h5, e5⟩ := putRefsK_some h4
    obtain ⟨res', hp5, _, h6, e6⟩ := putResK_some h5
    exact ⟨_, _, _, h6, fun k2 => by unfold callK; rw [hx]; simp only; unfold callXK; rw [hargs]; simp only; rw [hck]; simp only; rw [e1, e2, e3, e4, e5, e6]⟩
  · rename_i hx
    obtain ⟨v, fr', hp', h1, h2⟩ := callK0_nat hH k r h
    exact ⟨v, fr', hp', h1, fun k2 => by unfold callK; rw [hx]; exact h2 k2⟩
theorem bK2_nat {b1 b2 : Bool} {k : Option R} {r : R} (h1 : bK b1 (bK b2 k) = some r) : b1 = true ∧ b2 = true ∧ k = some r := by
  obtain ⟨a1, h1⟩ := bK_nat h1
  obtain ⟨a2, h1⟩ := bK_nat h1
  exact ⟨a1, a2, h1⟩
theorem bK4_nat {b1 b2 b3 b4 : Bool} {k : Option R} {r : R} (h1 : bK b1 (bK b2 (bK b3 (bK b4 k))) = some r) : b1 = true ∧ b2 = true ∧ b3 = true ∧ b4 = true ∧ k = some r := by
  obtain ⟨a1, a2, h1⟩ := bK2_nat h1
  obtain ⟨a3, a4, h1⟩ := bK2_nat h1
  exact ⟨a1, a2, a3, a4, h1⟩
theorem sliceK_nat {d : TD} {c : C D.S} {lo hi : Option Int} {fr : Tr (V D.S)} {hp : Tr (B D.S)} : N3 (R := R) (sliceK D d c lo hi fr hp) := by
  intro k r h
  unfold sliceK at h
  repeat' split at h
  all_goals first
    | (cases h; done)
    | exact ⟨_, _, _, h, fun k2 => by simp only [sliceK, *]⟩
    | (obtain ⟨a1, a2, h⟩ := bK2_nat h; exact ⟨_, _, _, h, fun k2 => by simp only [sliceK, bK, *]⟩)
    | (obtain ⟨a1, a2, a3, a4, h⟩ := bK4_nat h; exact ⟨_, _, _, h, fun k2 => by simp only [sliceK, bK, *]⟩)
end
end Go.Proofs.Ytkpjeihgigmnkaa.Ev
