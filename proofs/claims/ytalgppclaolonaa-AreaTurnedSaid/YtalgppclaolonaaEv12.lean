/- Values without memory: blocks that are made; stores. -/
import Derived.Test.YtalgppclaolonaaEv11
import Derived.Great.BuildSlice
namespace Go.Proofs.Ytalgppclaolonaa.Ev
open Go
set_option linter.unusedVariables false
set_option linter.unusedSimpArgs false
section
variable {D : Tys} {P : Program}
variable {R : Type} {H : HH D R} {K : Kx} {β : Nat → Option Loc} {F : Nat → Prop} {fr : Tr (V D.S)} {hp : Tr (B D.S)} {a : Act} {w : World} {o : Oper} {d : Nat} {k : KK D R} {r : R}
/-- A world with one block more. -/
structure One (w w' : World) (x : Obj) : Prop where
  size : w'.heap.size = w.heap.size + 1
  at_ : w'.heap[w.heap.size]? = some x
  old : ∀ b, b < w.heap.size → w'.heap[b]? = w.heap[b]?
  rest : w'.os = w.os ∧ w'.tape = w.tape ∧ w'.output = w.output
theorem One.alloc (w : World) (x : Obj) : One w (w.alloc x) x := by
  refine ⟨Array.size_push .., ?_, fun b hb => ?_, rfl, rfl, rfl⟩
  · show (w.heap.push x)[w.heap.size]? = some x
    rw [Array.getElem?_push, if_pos rfl]
  · show (w.heap.push x)[b]? = w.heap[b]?
    rw [Array.getElem?_push, if_neg (by omega)]
theorem One.drew (w : World) (x : Obj) : One w (w.drew.alloc x) x := by
  have h := One.alloc w.drew x
  exact ⟨h.size, h.at_, h.old, h.rest⟩
theorem Sim.one (s : Sim K β F fr hp a w) {w' : World} {x : Obj} (h : One w w' x) : Sim K β F fr hp a w' :=
  s.grow (by rw [h.size]; omega) h.old h.rest
theorem newBox (s : Sim K β F fr hp a w) (hd : d < 65535) {cs : List (C D.S)} {vs : Array Value} {t : TypeId} {w' : World} (h1 : One w w' (.cells vs t (0, 0))) (hl : RL D w F hp.get β cs vs.toList)
    (hr : (execOp a.eval o).run P w = .ok (.value (.pointer (some ⟨w.heap.size, 0, none⟩))) w') (h : newK D d (.box cs) (.ptr d 0) fr hp k = some r) : Post D P K o a w k r := by
  unfold newK at h
  split at h
  · cases h
  · rename_i hn
    rw [Tr.setK_eq] at h
    have s1 := s.one h1
    have hR : ∀ c v, RC D w F hp.get β c v → RC D w' F hp.get β c v := fun c v => RC.trans (fun b hb => ⟨hb, h1.old b (s.old b hb)⟩) fun id _ => Keep.rfl' rfl rfl
    have hg : ∀ i, (hp.set depth d (some (.box cs))).get i = if i = d then some (.box cs) else hp.get i := fun i => Tr.get_set _ _ _ _ _ (by rw [depth_ok]; omega)
    have hk : ∀ c v, RC D w' F hp.get β c v → RC D w' F (hp.set depth d (some (.box cs))).get (upd β d (some ⟨w.heap.size, 0, vs.size⟩)) c v := fun c v => RC.trans (fun b hb => ⟨hb, rfl⟩) fun id hi => by
      obtain ⟨b', hb'⟩ := Option.isSome_iff_exists.mp hi
      have hne : id ≠ d := fun e => by rw [e, hn] at hb'; cases hb'
      exact Keep.rfl' (by rw [hg, if_neg hne]) (upd_ne _ _ hne)
    obtain ⟨s2, g2⟩ := s1.new hn hd (.box cs) (some ⟨w.heap.size, 0, vs.size⟩) (fun L' e => by
        obtain rfl := Option.some.inj e
        refine ⟨by rw [h1.size]; simp, fun hF => Nat.lt_irrefl _ (s.old _ hF), fun i b L'' hi hL e => ?_, fun hG => ?_⟩
        · have := (s.sep i b L'' hi hL).2
          simp only at e; omega
        · have := hG.1
          have := s.w0.1
          simp only at *; omega)
      ⟨_, vs, t, upd_at _ _ _, h1.at_, rfl, rfl, RL.trans (fun c v r => hk c v (hR c v r)) hl⟩
    exact ⟨_, _, _, h, _, F, _, w', .inl hr, s2, ⟨cs, _, by rw [hg, if_pos rfl], upd_at _ _ _, by simp⟩⟩
theorem newArr (lw : Lawful D P) (s : Sim K β F fr hp a w) (hd : d < 65535) {t : Ty} {l : List (T D.S t)} {vs : Array Value} {e : TypeId} {w' : World} (h1 : One w w' (.cells vs e (0, 0))) {cap : Nat} (hcap : l.length ≤ cap) (hsz : cap * size D t ≤ vs.size)
    (hl : ∀ i (hi : i < l.length) (j : Nat) x, (encL D t (l[i]'hi))[j]? = some x → ∃ v, vs[i * size D t + j]? = some v ∧ RP D w F x v)
    (hr : (execOp a.eval o).run P w = .ok (.value (.slice (some ⟨w.heap.size, 0, none⟩) l.length cap)) w') (h : newK D d (.arr t l) (.own d) fr hp k = some r) : Post D P K o a w k r := by
  unfold newK at h
  split at h
  · cases h
  · rename_i hn
    rw [Tr.setK_eq] at h
    have s1 := s.one h1
    have hg : ∀ i, (hp.set depth d (some (.arr t l))).get i = if i = d then some (.arr t l) else hp.get i := fun i => Tr.get_set _ _ _ _ _ (by rw [depth_ok]; omega)
    obtain ⟨s2, g2⟩ := s1.new hn hd (.arr t l) (some ⟨w.heap.size, 0, vs.size⟩) (fun L' e => by
        obtain rfl := Option.some.inj e
        refine ⟨by rw [h1.size]; simp, fun hF => Nat.lt_irrefl _ (s.old _ hF), fun i b L'' hi hL e => ?_, fun hG => ?_⟩
        · have := (s.sep i b L'' hi hL).2
          simp only at e; omega
        · have := hG.1
          have := s.w0.1
          simp only at *; omega)
      (.inr ⟨_, vs, e, upd_at _ _ _, h1.at_, rfl, by
        have := Nat.mul_le_mul_right (size D t) hcap
        simp only; omega, fun i hi j x hx => by
        obtain ⟨v, hv, rv⟩ := hl i hi j x hx
        exact ⟨v, by simpa using hv, RP.mono D (fun b hb => ⟨hb, h1.old b (s.old b hb)⟩) rv⟩⟩)
    exact ⟨_, _, _, h, _, F, _, w', .inl hr, s2, ⟨t, l, by rw [hg, if_pos rfl], .inr ⟨_, cap, upd_at _ _ _, hcap, by simpa using hsz, rfl⟩⟩⟩
theorem zero_RL {t : TypeId} {ti : TI D.S} (ok : TiOk D P t ti) (w F h β) : ∃ z, (zeroValue t).run P w = .ok z w ∧ RL D w F h β ti.zero z.cells.toList ∧ (ti.agg = true → z = .agg z.cells) := by
  obtain ⟨j, hj, hs, hb, z, hz, hc, hg⟩ := ok.info
  refine ⟨z, by simp [zeroValue, typeInfo, hj, hz], ⟨?_, fun i x v hx hv => ?_⟩, hg⟩
  · have := congrArg List.length hc
    simpa using this.symm
  · have e := congrArg (·[i]?) hc
    simp only [List.getElem?_map, hx, hv, Option.map_some, Option.some.injEq] at e
    exact valOf_RC e.symm
theorem op_alloc (lw : Lawful D P) (s : Sim K β F fr hp a w) (hd : d < 65535) {t : TypeId} (ho : o.op = .alloc t) (h : opK D H (.alloc t) d fr hp k = some r) : Post D P K o a w k r := by
  simp only [opK] at h
  split at h
  · rename_i ti hti
    obtain ⟨z, hz, hl, _⟩ := zero_RL (lk_ti lw hti) w F hp.get β
    refine newBox s hd (One.alloc w (.cells z.cells t)) hl ?_ h
    simp [execOp, ho, Instr.alloc, hz, newVar, newRow]
  · cases h
theorem op_box (lw : Lawful D P) (s : Sim K β F fr hp a w) (hd : d < 65535) {t : TypeId} {x : Operand} (ho : o.op = .box t x) (h : opK D H (.box t x) d fr hp k = some r) : Post D P K o a w k r := by
  simp only [opK] at h
  split at h
  · rename_i ti hti
    split at h
    · rename_i y hy
      split at h
      · rename_i hc
        rw [Bool.and_eq_true] at hc
        have ra := evA_ok s hy
        refine newBox s hd (One.alloc w (.cells (a.eval x).cells t)) (ra.cells hc.2) ?_ h
        simp [execOp, ho, Instr.box, newVar, newRow]
      · cases h
    · cases h
  · cases h
theorem op_makeFunc (s : Sim K β F fr hp a w) {f : FuncId} {first caps : Array Operand} (ho : o.op = .makeFunc (.func f) first caps) (h : opK D H (.makeFunc (.func f) first caps) d fr hp k = some r) : Post D P K o a w k r := by
  have hc : ∀ (l : List Operand) (ids : List Nat), capIds D fr l = some ids → l.map a.eval = ids.map (fun i => Value.pointer ((β i).map fun L => ⟨L.b, L.o, none⟩)) ∧ ∀ i ∈ ids, ∃ cs L, hp.get i = some (.box cs) ∧ β i = some L := by
    intro l
    induction l with
    | nil => intro ids e; simp only [capIds, Option.some.injEq] at e; subst e; exact ⟨rfl, fun i hi => by cases hi⟩
    | cons x l ih =>
      intro ids e
      simp only [capIds] at e
      split at e
      · rename_i i hi
        split at e
        · rename_i rs hrs
          obtain rfl := Option.some.inj e
          obtain ⟨i1, i2⟩ := ih rs hrs
          obtain ⟨cs, L, g1, g2, g3⟩ := evC_ok s hi
          refine ⟨?_, fun i' hi' => ?_⟩
          · rw [List.map_cons, List.map_cons, i1, g3, g2]; rfl
          · rcases List.mem_cons.mp hi' with rfl | hi'
            · exact ⟨cs, L, g1, g2⟩
            · exact i2 i' hi'
        · cases e
      · cases e
  simp only [opK] at h
  split at h
  · rename_i ids hf hids
    obtain rfl : first = #[] := Array.toList_inj.mp hf
    obtain ⟨h1, h2⟩ := hc _ _ hids
    refine Post.pure s h (cv := .func (.func f) #[] (caps.map a.eval)) (by simp [execOp, ho, Instr.makeFunc]) ⟨?_, h2⟩
    congr 1
    apply Array.toList_inj.mp
    rw [Array.toList_map, h1]
  · cases h

/-! ### what is put together -/
theorem fold_put (off : Nat) : ∀ (xs : List Value) (n : Nat) (cells : Array Value), n + off + xs.length ≤ cells.size →
    ((xs.zipIdx n).foldl (fun cs (c, j) => cs.setIfInBounds (off + j) c) cells) = putV cells (off + n) xs
  | [], n, cells, h => by simp [putV]
  | x :: xs, n, cells, h => by
    simp only [List.length_cons] at h
    rw [List.zipIdx_cons, List.foldl_cons]
    rw [fold_put off xs (n + 1) (cells.setIfInBounds (off + n) x) (by simp only [Array.size_setIfInBounds]; omega)]
    unfold putV
    congr 1
    have ht : (cells.setIfInBounds (off + n) x).toList = cells.toList.set (off + n) x := Array.toList_setIfInBounds
    have hlt : off + n < cells.toList.length := by rw [Array.length_toList]; omega
    rw [ht, show off + (n + 1) = off + n + 1 by omega, List.take_succ_eq_append_getElem (by simpa using hlt), List.getElem_set_self, List.take_set_of_le (Nat.le_refl _), List.drop_set_of_lt (by omega)]
    simp only [List.append_assoc, List.singleton_append, List.cons_append, List.nil_append, List.length_cons]
    rw [show off + n + 1 + xs.length = off + n + (xs.length + 1) by omega]
theorem RL.putV {w F h β} {cs cs' xs : List (C D.S)} {vs : Array Value} {us : List Value} {off : Nat} (r : RL D w F h β cs vs.toList) (rx : RL D w F h β xs us) (e : putS off xs cs = some cs') : RL D w F h β cs' (putV vs off us).toList := by
  have hz : vs.toList.length = vs.size := Array.length_toList
  have hl := (putS_eq e).2
  have hlen : off + us.length ≤ vs.size := by have := r.1; have := rx.1; omega
  have hz' : (Ev.putV vs off us).toList.length = (Ev.putV vs off us).size := Array.length_toList
  refine ⟨by rw [putS_len e, hz', putV_size hlen, r.1, hz], fun j x v hx hv => ?_⟩
  rw [Array.getElem?_toList] at hv
  by_cases h1 : off ≤ j ∧ j < off + xs.length
  · obtain ⟨i, rfl⟩ : ∃ i, j = off + i := ⟨j - off, by omega⟩
    rw [putS_in e i (by omega)] at hx
    rw [putV_in hlen i (by have := rx.1; omega)] at hv
    exact rx.2 i x v hx hv
  · rw [putS_out e j (by omega)] at hx
    rw [putV_out hlen j (by have := rx.1; omega)] at hv
    exact r.2 j x v hx (by rw [Array.getElem?_toList]; exact hv)
/-- Parts, told and in memory. -/
def PartsOk (w : World) (F : Nat → Prop) (h : Hp D) (β : Nat → Option Loc) (ps : List (Nat × A D.S)) (us : List (Nat × Value)) : Prop :=
  ps.length = us.length ∧ ∀ (j : Nat) p u, ps[j]? = some p → us[j]? = some u → p.1 = u.1 ∧ RA D w F h β p.2 u.2 ∧ noAny p.2.cells = true
theorem evParts_ok (s : Sim K β F fr hp a w) : ∀ {xs : List (Nat × Operand)} {ps : List (Nat × A D.S)}, evParts D fr xs = some ps → PartsOk w F hp.get β ps (xs.map fun (i, x) => (i, a.eval x))
  | [], ps, h => by simp only [evParts, Option.some.injEq] at h; subst h; exact ⟨rfl, fun j p u hp => by simp at hp⟩
  | (i, x) :: xs, ps, h => by
    simp only [evParts] at h
    split at h
    · rename_i y hy
      split at h
      · rename_i rs hn hr
        obtain rfl := Option.some.inj h
        obtain ⟨i1, i2⟩ := evParts_ok s hr
        refine ⟨by simp [i1], fun j p u hp hu => ?_⟩
        cases j with
        | zero => simp at hp hu; subst hp; subst hu; exact ⟨rfl, evA_ok s hy, hn⟩
        | succ j => simp at hp hu; exact i2 j p u hp (by simpa using hu)
      · cases h
    · cases h
theorem fill_ok {w F h β} {place place' : Nat → Option (Nat × Nat)} (hp : ∀ i o s, place i = some (o, s) → place' i = some (o, s)) : ∀ {ps : List (Nat × A D.S)} {us : List (Nat × Value)} {cs cs' : List (C D.S)} {vs : Array Value}, PartsOk w F h β ps us → RL D w F h β cs vs.toList → fillS D place cs ps = some cs' →
    ∃ vs', Instr.fill place' vs us = some vs' ∧ RL D w F h β cs' vs'.toList
  | [], us, cs, cs', vs, hq, hr, e => by
    obtain rfl : us = [] := List.length_eq_zero_iff.mp hq.1.symm
    simp only [fillS, Option.some.injEq] at e
    subst e
    exact ⟨vs, rfl, hr⟩
  | (i, x) :: ps, us, cs, cs', vs, hq, hr, e => by
    match us, hq with
    | (i', v) :: us, hq =>
      obtain ⟨h1, h2, h3⟩ := hq.2 0 _ _ rfl rfl
      simp only at h1 h2 h3
      subst h1
      simp only [fillS] at e
      split at e
      · cases e
      · rename_i off sz hpl
        split at e
        · cases e
        · rename_i hsz
          split at e
          · rename_i cs1 hcs1
            have hz : vs.toList.length = vs.size := Array.length_toList
            have rx := h2.cells h3
            have hsz' := Nat.eq_of_beq_eq_true hsz
            have hlv : v.cells.toList.length = v.cells.size := Array.length_toList
            have hlu : v.cells.size = sz := by have := rx.1; omega
            have hlen : off + v.cells.size ≤ vs.size := by have := (putS_eq hcs1).2; have := hr.1; omega
            have hf : (v.cells.zipIdx.foldl (fun cs (c, j) => cs.setIfInBounds (off + j) c) vs) = putV vs off v.cells.toList := by
              have := fold_put off v.cells.toList 0 vs (by rw [Array.length_toList]; omega)
              rw [Nat.add_zero] at this
              rw [← this, ← Array.foldl_toList, Array.toList_zipIdx]
            obtain ⟨vs', g1, g2⟩ := fill_ok hp (ps := ps) (us := us) (cs := cs1) (vs := putV vs off v.cells.toList) ⟨by have := hq.1; simpa using this, fun j p u hp hu => hq.2 (j + 1) p u (by simpa using hp) (by simpa using hu)⟩ (hr.putV rx hcs1) e
            refine ⟨vs', ?_, g2⟩
            unfold Instr.fill
            rw [hp i off sz hpl]
            simp only
            have hn1 : ¬ (v.cells.size ≠ sz || decide (off + v.cells.size > vs.size)) = true := by
              simp [hlu]; omega
            rw [if_neg (by simpa using hn1), hf, g1]
          · cases e
theorem nthP_eq : ∀ {l : List (Nat × Nat × Bool)} {n : Nat} {x y}, nthP l n = some (x, y) → ∃ g, l[n]? = some (x, y, g)
  | [], _, _, _, h => by cases h
  | (o, s, g) :: l, 0, x, y, h => by simp only [nthP, Option.some.injEq, Prod.mk.injEq] at h; obtain ⟨rfl, rfl⟩ := h; exact ⟨g, rfl⟩
  | _ :: l, n + 1, x, y, h => nthP_eq (l := l) (n := n) h
theorem places_ok (fl : List Field) (h : ∀ f ∈ fl, 0 < P.cellsOf f.type) : ∃ pl, fl.mapM (fun f => (P.info? f.type).map fun i => (f.offset, i.size)) = some pl ∧ pl = fl.map fun f => (f.offset, P.cellsOf f.type) := by
  induction fl with
  | nil => exact ⟨[], rfl, rfl⟩
  | cons f fl ih =>
    obtain ⟨pl, h1, h2⟩ := ih fun f hf => h f (List.mem_cons_of_mem _ hf)
    obtain ⟨j, hj, hs⟩ := cellsOf_info (h f List.mem_cons_self)
    refine ⟨(f.offset, P.cellsOf f.type) :: pl, ?_, by rw [h2]; rfl⟩
    simp [List.mapM_cons, hj, h1, hs]
theorem op_build (lw : Lawful D P) (s : Sim K β F fr hp a w) {t : TypeId} {parts : Array (Nat × Operand)} (ho : o.op = .build t parts) (h : opK D H (.build t parts) d fr hp k = some r) : Post D P K o a w k r := by
  simp only [opK] at h
  split at h
  · rename_i ti hti
    have ok := lk_ti lw hti
    split at h
    · cases h
    · rename_i ps hps
      have hq := evParts_ok s hps
      obtain ⟨j, hj, hs, hb, z, hz, hc, hg⟩ := ok.info
      obtain ⟨z', hz', hl, _⟩ := zero_RL (P := P) ok w F hp.get β
      have ez : z' = z := by simp [zeroValue, typeInfo, hj, hz] at hz'; exact hz'.symm
      subst ez
      have fin : ∀ cs' vs', P.built t (parts.map fun (i, x) => (i, a.eval x)).toList = some vs' → RL D w F hp.get β cs' vs'.toList → k (.a (.agg cs')) fr hp = some r → Post D P K o a w k r := fun cs' vs' e1 e2 e3 => by
        refine Post.pure s e3 (cv := .agg vs') ?_ ⟨vs', rfl, e2⟩
        have := run_build (P := P) w t (parts.map fun (i, x) => (i, a.eval x)) vs' e1
        simp [execOp, ho, this]
      have hd := ok.desc
      split at h
      · rename_i fs hfs
        split at h
        · rename_i cs' hcs'
          rw [hfs] at hd
          obtain ⟨fl, hu, e⟩ := hd
          obtain ⟨pl, g1, g2⟩ := places_ok (P := P) fl.toList (fun f hf => by
            have : (f.offset, P.cellsOf f.type, aggOf P f.type) ∈ fs := by rw [e]; exact List.mem_map.mpr ⟨f, hf, rfl⟩
            exact (ok.fld fs hfs _ this).1)
          obtain ⟨vs', f1, f2⟩ := fill_ok (place' := fun i => pl.toArray[i]?) (fun i o' s' hpl => by
            obtain ⟨g, hg⟩ := nthP_eq hpl
            rw [e, List.getElem?_map] at hg
            obtain ⟨fd, hfd, he⟩ := Option.map_eq_some_iff.mp hg
            simp only [Prod.mk.injEq] at he
            rw [List.getElem?_toArray, g2, List.getElem?_map, hfd]
            simp [he.1, he.2.1]) hq hl hcs'
          refine fin cs' vs' ?_ f2 h
          unfold Program.built
          rw [Array.toList_map]
          simp only [hj, hu, hz, g1]
          exact f1
        · cases h
      · rename_i len esz g' hfs
        split at h
        · rename_i cs' hcs'
          rw [hfs] at hd
          obtain ⟨e, hu, he, hsz, _, hpos⟩ := hd
          obtain ⟨je, hje, hse⟩ := cellsOf_info (P := P) (t := e) (by rw [hsz]; exact hpos)
          obtain ⟨vs', f1, f2⟩ := fill_ok (place' := fun i => some (i * je.size, je.size)) (fun i o' s' hpl => by
            rw [hse, hsz]; exact hpl) hq hl hcs'
          refine fin cs' vs' ?_ f2 h
          unfold Program.built
          rw [Array.toList_map]
          simp only [hj, hu, hz, hje]
          exact f1
        · cases h
      · cases h
  · cases h
end
end Go.Proofs.Ytalgppclaolonaa.Ev
