/- The interpreter of a claim: texts Ev20 EvC3 Ev22b Ev23 Ev24 Ev32 Ev33 Ev34 in one. -/
import Derived.Test.YtkpjeihgigmnkaaEvAc
/- Values without memory: a function as a whole: how it is entered, what is read of it when it is left. -/
namespace Go.Proofs.Ytkpjeihgigmnkaa.Ev
open Go
set_option linter.unusedVariables false
set_option linter.unusedSimpArgs false
section
variable (D : Tys)
def frE : Nat → List PM → List (A D.S) → List (Nat × V D.S)
  | i, .val :: ps, x :: ws => (i, .a x) :: frE (i + 1) ps ws
  | i, .ref :: ps, _ :: ws => (i, cV (.ptr i 0)) :: frE (i + 1) ps ws
  | _, _, _ => []
def hpE : Nat → List PM → List (A D.S) → List (Nat × B D.S)
  | i, .val :: ps, _ :: ws => hpE (i + 1) ps ws
  | i, .ref :: ps, x :: ws => (i, .box x.cells) :: hpE (i + 1) ps ws
  | _, _, _ => []
end
def rfE : Nat → List PM → List Loc → List (Nat × Loc)
  | i, .val :: ps, Ls => rfE (i + 1) ps Ls
  | i, .ref :: ps, L :: Ls => (i, L) :: rfE (i + 1) ps Ls
  | i, .clo _ :: ps, Ls => rfE (i + 1) ps Ls
  | _, _, _ => []
def refI : Nat → List PM → List Nat
  | i, .val :: ps => refI (i + 1) ps
  | i, .ref :: ps => i :: refI (i + 1) ps
  | i, .clo _ :: ps => refI (i + 1) ps
  | _, [] => []
section
variable (D : Tys)
/-- What the results are. -/
def resR (fr : Tr (V D.S)) (hp : Tr (B D.S)) : List ResultVar → Option (List (A D.S))
  | [] => some []
  | .tmp t :: l => match fr.get t with
    | some (.a x) => match resA hp x with
      | some x => match resR fr hp l with | some r => some (x :: r) | none => none
      | none => none
    | _ => none
  | .cell a ty :: l => match lk D.ti ty, fr.get a with
    | some ti, some (.a (.c c)) => match loadA D hp ti c with
      | some x => match resA hp x with
        | some x => match resR fr hp l with | some r => some (x :: r) | none => none
        | none => none
      | none => none
    | _, _ => none
/-- What is left in what was lent. -/
def boxR (hp : Tr (B D.S)) : List Nat → Option (List (List (C D.S)))
  | [] => some []
  | i :: l => match hp.get i with
    | some (.box cs) => match resL hp cs with
      | some cs => match boxR hp l with | some r => some (cs :: r) | none => none
      | none => none
    | _ => none
def finK {R : Type} (rs : List ResultVar) (rf : List Nat) (k : List (A D.S) → List (List (C D.S)) → Option R) (fr : Tr (V D.S)) (hp : Tr (B D.S)) : Option R := match resR D fr hp rs with
  | none => none
  | some ws => match boxR D hp rf with
    | none => none
    | some css => k ws css
end
section
variable {D : Tys} {P : Program}
variable {K : Kx D} {β : Nat → Option Loc} {F : Nat → Prop} {fr : Tr (V D.S)} {hp : Tr (B D.S)} {a : Act} {w : World}
theorem frE_at {w : World} {F : Nat → Prop} : ∀ {ps : List PM} {ws : List (A D.S)} {vs : List Value} {Ls : List Loc} (h : Args D w F ps ws vs Ls) (i : Nat) (k : Nat) (v : V D.S), (k, v) ∈ frE D i ps ws →
    i ≤ k ∧ ∃ u, vs[k - i]? = some u ∧ ((∃ x, v = .a x ∧ RPA D w F x u) ∨ (v = cV (.ptr k 0) ∧ ∃ L cs, (k, L) ∈ rfE i ps Ls ∧ (k, .box cs) ∈ hpE D i ps ws ∧ u = .pointer (some ⟨L.b, 0, none⟩)))
  | _, _, _, _, .nil, i, k, v, hm => by simp [frE] at hm
  | _, _, _, _, .val x u r h, i, k, v, hm => by
    simp only [frE] at hm
    rcases List.mem_cons.mp hm with e | hm
    · injection e with e1 e2
      subst e1; subst e2
      exact ⟨Nat.le_refl _, u, by simp, .inl ⟨x, rfl, r⟩⟩
    · obtain ⟨h1, u', h2, h3⟩ := frE_at h (i + 1) k v hm
      refine ⟨by omega, u', ?_, ?_⟩
      · rw [show k - i = k - (i + 1) + 1 by omega]; simpa using h2
      · rcases h3 with h3 | ⟨e, L, cs, g1, g2, g3⟩
        · exact .inl h3
        · exact .inr ⟨e, L, cs, by simpa [rfE] using g1, by simpa [hpE] using g2, g3⟩
  | _, _, _, _, .ref cs L r hF hn h, i, k, v, hm => by
    simp only [frE] at hm
    rcases List.mem_cons.mp hm with e | hm
    · injection e with e1 e2
      subst e1; subst e2
      exact ⟨Nat.le_refl _, _, by simp, .inr ⟨rfl, L, cs, by simp [rfE], by simp [hpE, A.cells], rfl⟩⟩
    · obtain ⟨h1, u', h2, h3⟩ := frE_at h (i + 1) k v hm
      refine ⟨by omega, u', ?_, ?_⟩
      · rw [show k - i = k - (i + 1) + 1 by omega]; simpa using h2
      · rcases h3 with h3 | ⟨e, L, cs, g1, g2, g3⟩
        · exact .inl h3
        · exact .inr ⟨e, L, cs, by simp [rfE, g1], by simp [hpE, g2], g3⟩
theorem rfE_at {w : World} {F : Nat → Prop} : ∀ {ps : List PM} {ws : List (A D.S)} {vs : List Value} {Ls : List Loc} (h : Args D w F ps ws vs Ls) (i : Nat),
    (∀ k b, (k, b) ∈ hpE D i ps ws → i ≤ k ∧ k < i + ps.length ∧ ∃ L cs, b = .box cs ∧ (k, L) ∈ rfE i ps Ls ∧ LentAt D w F L cs ∧ ¬ F L.b) ∧
    (∀ k L, (k, L) ∈ rfE i ps Ls → i ≤ k ∧ k < i + ps.length ∧ L ∈ Ls ∧ ∃ cs, (k, .box cs) ∈ hpE D i ps ws) ∧
    (∀ k k' L L', (k, L) ∈ rfE i ps Ls → (k', L') ∈ rfE i ps Ls → L.b = L'.b → k = k') ∧ distinct ((hpE D i ps ws).map (·.1)) = true ∧ distinct ((rfE i ps Ls).map (·.1)) = true
  | _, _, _, _, .nil, i => by refine ⟨fun k b h => by simp [hpE] at h, fun k L h => by simp [rfE] at h, fun k k' L L' h => by simp [rfE] at h, rfl, rfl⟩
  | _, _, _, _, .val x u r h, i => by
    obtain ⟨h1, h2, h3, h4, h5⟩ := rfE_at h (i + 1)
    simp only [hpE, rfE, List.length_cons]
    exact ⟨fun k b hm => by have := h1 k b hm; exact ⟨by omega, by omega, this.2.2⟩, fun k L hm => by have := h2 k L hm; exact ⟨by omega, by omega, this.2.2⟩, h3, h4, h5⟩
  | _, _, _, _, .ref cs L r hF hn h, i => by
    obtain ⟨h1, h2, h3, h4, h5⟩ := rfE_at h (i + 1)
    simp only [hpE, rfE, List.length_cons]
    have nd : ∀ {α : Type} (l : List (Nat × α)), (∀ k b, (k, b) ∈ l → i + 1 ≤ k) → distinct (l.map (·.1)) = true → distinct (i :: l.map (·.1)) = true := fun l hl hd => by
      simp only [distinct]
      split
      · rename_i he
        rw [List.elem_eq_contains, List.contains_iff_mem] at he
        obtain ⟨⟨k, b⟩, hm, hk⟩ := List.mem_map.mp he
        simp only at hk; subst hk
        have := hl _ _ hm
        omega
      · exact hd
    refine ⟨fun k b hm => ?_, fun k L' hm => ?_, fun k k' L1 L2 hm1 hm2 e => ?_, nd _ (fun k b hm => (h1 k b hm).1) h4, nd _ (fun k b hm => (h2 k b hm).1) h5⟩
    · rcases List.mem_cons.mp hm with e | hm
      · injection e with e1 e2
        subst e1; subst e2
        exact ⟨Nat.le_refl _, by omega, L, cs, rfl, List.mem_cons_self, r, hF⟩
      · obtain ⟨g1, g2, L', cs', g3, g4, g5⟩ := h1 k b hm
        exact ⟨by omega, by omega, L', cs', g3, List.mem_cons_of_mem _ g4, g5⟩
    · rcases List.mem_cons.mp hm with e | hm
      · injection e with e1 e2
        subst e1; subst e2
        exact ⟨Nat.le_refl _, by omega, List.mem_cons_self, cs, List.mem_cons_self⟩
      · obtain ⟨g1, g2, g3, cs', g4⟩ := h2 k L' hm
        exact ⟨by omega, by omega, List.mem_cons_of_mem _ g3, cs', List.mem_cons_of_mem _ g4⟩
    · rcases List.mem_cons.mp hm1 with e1 | m1 <;> rcases List.mem_cons.mp hm2 with e2 | m2
      · injection e1 with e1 _; injection e2 with e2 _; omega
      · injection e1 with _ e1; subst e1
        exact absurd e.symm (hn _ (h2 k' L2 m2).2.2.1)
      · injection e2 with _ e2; subst e2
        exact absurd e (hn _ (h2 k L1 m1).2.2.1)
      · exact h3 k k' L1 L2 m1 m2 e
theorem mem_of_lk {α : Type} {l : List (Nat × α)} {i : Nat} {x : α} (h : lk l i = some x) : (i, x) ∈ l := lk_mem h
theorem args_len {w : World} {F : Nat → Prop} : ∀ {ps : List PM} {ws : List (A D.S)} {vs : List Value} {Ls : List Loc}, Args D w F ps ws vs Ls → vs.length = ps.length
  | _, _, _, _, .nil => rfl
  | _, _, _, _, .val _ _ _ h => by simp [args_len h]
  | _, _, _, _, .ref _ _ _ _ _ h => by simp [args_len h]
theorem rltE {w : World} {F : Nat → Prop} {ps : List PM} {ws : List (A D.S)} {vs : List Value} {Ls : List Loc} (h : Args D w F ps ws vs Ls) (hs : ps.length < 3000) : ∀ r ∈ rfE 0 ps Ls, r.1 < 3000 := fun r hr => by
  have := ((rfE_at h 0).2.1 r.1 r.2 hr).2.1
  omega
/-- The state in which a function begins. -/
theorem enter_ok {ps : List PM} {ws : List (A D.S)} {vs : List Value} {Ls : List Loc} {w : World} {F : Nat → Prop} {n : Nat} (hold : ∀ b, F b → b < w.heap.size) (hG : GlAt D.gl w) (hR : ∀ x ∈ D.gl, ∀ r ∈ rfE 0 ps Ls, x.1 ≠ r.2.b) (h : Args D w F ps ws vs Ls) (hn : ps.length ≤ n) (hs : ps.length < 3000) :
    Sim { w0 := w, F0 := F, refs := rfE 0 ps Ls, n := n, gl := hG, gr := hR, lg := fun _ _ h => ((List.not_mem_nil h).elim), lf := fun _ h => ((List.not_mem_nil h).elim), rlt := rltE h hs } (lk (rfE 0 ps Ls)) F (mkT (frE D 0 ps ws)) (mkT (hpE D 0 ps ws)) { tmps := vs.toArray ++ Array.replicate (n - vs.toArray.size) undef, defers := [] } w := by
  obtain ⟨h1, h2, h3, h4, h5⟩ := rfE_at h 0
  have hl := args_len h
  have gh : ∀ i, (mkT (hpE D 0 ps ws)).get i = lk (hpE D 0 ps ws) i := fun i => get_mkT _ i fun x hx => by
    have := (h1 x.1 x.2 hx).2.1; omega
  have fl : ∀ x ∈ frE D 0 ps ws, x.1 < 65535 := fun x hx => by
    obtain ⟨_, u, hu, _⟩ := frE_at h 0 x.1 x.2 hx
    have := (List.getElem?_eq_some_iff.mp hu).1
    omega
  have lent : ∀ L cs, LentAt D w F L cs → L.b < w.heap.size := fun L cs hL => by
    obtain ⟨_, us, t, hb, _⟩ := hL
    exact (Array.getElem?_eq_some_iff.mp hb).1
  have box : ∀ i b, (mkT (hpE D 0 ps ws)).get i = some b → ∃ L cs, b = .box cs ∧ lk (rfE 0 ps Ls) i = some L ∧ (i, L) ∈ rfE 0 ps Ls ∧ LentAt D w F L cs ∧ ¬ F L.b := fun i b hb => by
    rw [gh] at hb
    obtain ⟨_, _, L, cs, g1, g2, g3, g4⟩ := h1 i b (lk_mem hb)
    exact ⟨L, cs, g1, lk_of_mem g2 h5, g2, g3, g4⟩
  refine ⟨?_, rfl, fun i v hv => ?_, fun i b hb => ?_, fun i j b b' L L' g1 g2 g3 g4 e => ?_, fun i b L g1 g2 => ?_, hold, fun b _ => rfl, fun i b L g1 g2 hG => ?_, fun b hb => .inl hb, ⟨Nat.le_refl _, rfl, rfl, rfl⟩, fun i L hm => ?_, fun i b hb => ?_⟩
  · simp [hl]; omega
  · rw [get_mkT _ _ fl] at hv
    obtain ⟨_, u, hu, h⟩ := frE_at h 0 i v (lk_mem hv)
    rw [Nat.sub_zero] at hu
    have hil := (List.getElem?_eq_some_iff.mp hu).1
    have hgu : (vs.toArray ++ Array.replicate (n - vs.toArray.size) undef).getD i undef = u := by
      rw [Array.getD_eq_getD_getElem?, Array.getElem?_append]
      simp [hil]
      exact (List.getElem?_eq_some_iff.mp hu).2
    show RV D w F _ _ v ((vs.toArray ++ Array.replicate (n - vs.toArray.size) undef).getD i undef)
    rw [hgu]
    rcases h with ⟨x, rfl, r⟩ | ⟨rfl, L, cs, g1, g2, rfl⟩
    · exact RPA.ra r
    · exact ⟨cs, L, by rw [gh]; exact lk_of_mem g2 h4, lk_of_mem g1 h5, by
        obtain ⟨_, _, L', cs', e, g3, g4, _⟩ := h1 i _ g2
        have : L = L' := by
          have a1 := lk_of_mem g1 h5
          have a2 := lk_of_mem g3 h5
          rw [a1] at a2; exact Option.some.inj a2
        rw [this, g4.1]⟩
  · obtain ⟨L, cs, rfl, g1, _, ⟨g2, us, t, g3, g4, g5⟩, _⟩ := box i b hb
    exact ⟨L, us, t, g1, g3, g2, g4, g5.1, fun j x v hx hv => RP.rc (g5.2 j x v hx hv)⟩
  · obtain ⟨L1, _, _, k1, k2, _⟩ := box i b g1
    obtain ⟨L2, _, _, k3, k4, _⟩ := box j b' g2
    rw [k1] at g3; rw [k3] at g4
    obtain rfl := Option.some.inj g3
    obtain rfl := Option.some.inj g4
    exact h3 i j _ _ k2 k4 e
  · obtain ⟨L1, cs, _, k1, k2, k3, k4⟩ := box i b g1
    rw [k1] at g2
    obtain rfl := Option.some.inj g2
    exact ⟨k4, lent _ _ k3⟩
  · obtain ⟨L1, cs, _, k1, k2, k3, k4⟩ := box i b g1
    rw [k1] at g2
    obtain rfl := Option.some.inj g2
    exact hG.2.1 _ k2 rfl
  · obtain ⟨_, _, _, cs, g⟩ := h2 i L hm
    exact ⟨lk_of_mem hm h5, cs, by rw [gh]; exact lk_of_mem g h4⟩
  · rw [gh] at hb
    have := (h1 i b (lk_mem hb)).2.1
    omega
theorem loadA_var (lw : Lawful D P) (s : Sim K β F fr hp a w) {t : TypeId} {ti : TI D.S} {c : C D.S} {v : Value} {x : A D.S} (ok : TiOk D P t ti) (r : RC D w F hp.get β c v) (e : loadA D hp ti c = some x) :
    ∃ ad cv, v = .pointer (some ad) ∧ (loadVar t ad).run P w = .ok cv w ∧ RA D w F hp.get β x cv := by
  obtain ⟨cv, h1, h2⟩ := loadA_ok lw s ok r e
  have : ∃ ad, v = .pointer (some ad) := by
    unfold loadA at e
    split at e
    · obtain ⟨_, _, _, _, rfl⟩ := r; exact ⟨_, rfl⟩
    · obtain ⟨_, _, _, _, _, _, rfl⟩ := r; exact ⟨_, rfl⟩
    · cases r; exact ⟨_, rfl⟩
    · cases e
  obtain ⟨ad, rfl⟩ := this
  exact ⟨ad, cv, rfl, by simpa [Instr.loadAt, Instr.sureAddr] using h1, h2⟩
theorem resA_ok (lw : Lawful D P) {w F} {F' : Nat → Prop} {hp : Tr (B D.S)} {β} (hF : ∀ b, F b → F' b) (hb : ∀ i b, hp.get i = some b → RB D w F hp.get β i b) {x x' : A D.S} {v : Value} (r : RA D w F hp.get β x v) (e : resA hp x = some x')
    (ho : ∀ id L t l, hp.get id = some (.arr t l) → β id = some L → F' L.b) : RPA D w F' x' v := by
  cases x with
  | c c =>
    simp only [resA] at e
    split at e
    · rename_i c' hc
      obtain rfl := Option.some.inj e
      refine resC_ok lw hF hb r hc fun id hi L hL => ?_
      obtain ⟨t, l, hg⟩ := ownsL_arr (w := w) (F := F) (β := β) (hp := hp) (cs := [c]) (vs := [v]) ⟨rfl, fun j y u hy hu => by
        cases j with
        | zero => simp at hy hu; subst hy; subst hu; exact r
        | succ j => simp at hy⟩ id (by rw [ownsL_eq]; simpa using hi)
      exact ho id L t l hg hL
    · cases e
  | agg cs =>
    simp only [resA] at e
    split at e
    · rename_i cs' hc
      obtain rfl := Option.some.inj e
      obtain ⟨us, rfl, rl⟩ := r
      refine ⟨us, rfl, resL_ok lw hF hb rl hc fun id hi L hL => ?_⟩
      obtain ⟨t, l, hg⟩ := ownsL_arr rl id hi
      exact ho id L t l hg hL
    · cases e
theorem resR_ok (lw : Lawful D P) (s : Sim K β F fr hp a w) {F' : Nat → Prop} (hF : ∀ b, F b → F' b) (ho : ∀ id L t l, hp.get id = some (.arr t l) → β id = some L → F' L.b)
    (f : ResultVar → Sem Value) (hf : ∀ u, f (.tmp u) = pure (a.tmps.getD u undef)) (hc : ∀ u t, f (.cell u t) = (do loadVar t (← asAddr (a.tmps.getD u undef)))) :
    ∀ (rs : List ResultVar) (ws : List (A D.S)), resR D fr hp rs = some ws → ∃ vs, (rs.mapM f).run P w = .ok vs w ∧ ResAll D w F' ws vs
  | [], ws, h => by
    simp only [resR, Option.some.injEq] at h
    subst h
    exact ⟨[], by simp, rfl, fun j x v hx => by simp at hx⟩
  | .tmp u :: rs, ws, h => by
    simp only [resR] at h
    split at h
    · rename_i x hx
      split at h
      · rename_i x' hx'
        split at h
        · rename_i r hr
          obtain rfl := Option.some.inj h
          obtain ⟨vs, h1, h2, h3⟩ := resR_ok lw s hF ho f hf hc rs r hr
          have rx : RA D w F hp.get β x (a.tmps.getD u undef) := s.frm u _ hx
          refine ⟨a.tmps.getD u undef :: vs, by simp [List.mapM_cons, hf, h1], by simp [h2], fun j y v hy hv => ?_⟩
          cases j with
          | zero => simp at hy hv; subst hy; subst hv; exact resA_ok lw hF s.blk (by simpa using rx) hx' ho
          | succ j => simp at hy hv; exact h3 j y v hy hv
        · cases h
      · cases h
    · cases h
  | .cell u t :: rs, ws, h => by
    simp only [resR] at h
    split at h
    · rename_i ti c hti hx
      split at h
      · rename_i x hl
        split at h
        · rename_i x' hx'
          split at h
          · rename_i r hr
            obtain rfl := Option.some.inj h
            obtain ⟨vs, h1, h2, h3⟩ := resR_ok lw s hF ho f hf hc rs r hr
            have rx : RC D w F hp.get β c (a.tmps.getD u undef) := s.frm u _ hx
            obtain ⟨ad, cv, g1, g2, g3⟩ := loadA_var lw s (lk_ti lw hti) rx hl
            refine ⟨cv :: vs, by rw [List.mapM_cons, hc, g1]; simp [asAddr, g2, h1], by simp [h2], fun j y v hy hv => ?_⟩
            cases j with
            | zero => simp at hy hv; subst hy; subst hv; exact resA_ok lw hF s.blk g3 hx' ho
            | succ j => simp at hy hv; exact h3 j y v hy hv
          · cases h
        · cases h
      · cases h
    · cases h
theorem results_ok (lw : Lawful D P) (s : Sim K β F fr hp a w) {F' : Nat → Prop} (hF : ∀ b, F b → F' b) (ho : ∀ id L t l, hp.get id = some (.arr t l) → β id = some L → F' L.b) {fn : Func} {ws : List (A D.S)}
    (h : resR D fr hp fn.results.toList = some ws) : ∃ vs, (results fn a.tmps).run P w = .ok (tupV vs) w ∧ ResAll D w F' ws vs := by
  obtain ⟨vs, h1, h2⟩ := resR_ok lw s hF ho (fun | .tmp t => pure (a.tmps.getD t undef) | .cell u t => do loadVar t (← asAddr (a.tmps.getD u undef))) (fun _ => rfl) (fun _ _ => rfl) _ _ h
  refine ⟨vs, ?_, h2⟩
  unfold results
  rw [show fn.results = fn.results.toList.toArray from rfl, List.mapM_toArray]
  simp only [Sem.run_bind, Sem.run_map]
  erw [h1]
  match vs with
  | [] => rfl
  | [v] => rfl
  | v :: v' :: l => simp [tupV]
theorem boxR_ok (lw : Lawful D P) (s : Sim K β F fr hp a w) {F' : Nat → Prop} (hF : ∀ b, F b → F' b) (ho : ∀ id L t l, hp.get id = some (.arr t l) → β id = some L → F' L.b) :
    ∀ (ps : List PM) (Ls : List Loc) (i : Nat) (css : List (List (C D.S))), boxR D hp (refI i ps) = some css → (∀ k L, (k, L) ∈ rfE i ps Ls → β k = some L) → (ps.filter fun | .ref => true | _ => false).length = Ls.length → LentAll D w F' Ls css
  | [], [], i, css, h, _, _ => by
    simp only [refI, boxR, Option.some.injEq] at h
    subst h
    exact ⟨rfl, fun j L cs hj => by simp at hj⟩
  | [], _ :: _, i, css, h, _, hl => by simp at hl
  | .val :: ps, Ls, i, css, h, hr, hl => boxR_ok lw s hF ho ps Ls (i + 1) css (by simpa [refI] using h) (by simpa [rfE] using hr) (by simpa using hl)
  | .clo _ :: ps, Ls, i, css, h, hr, hl => boxR_ok lw s hF ho ps Ls (i + 1) css (by simpa [refI] using h) (by simpa [rfE] using hr) (by simpa using hl)
  | .ref :: ps, [], i, css, h, hr, hl => by simp at hl
  | .ref :: ps, L :: Ls, i, css, h, hr, hl => by
    simp only [refI, boxR] at h
    split at h
    · rename_i cs hcs
      split at h
      · rename_i cs' hcs'
        split at h
        · rename_i r hr'
          obtain rfl := Option.some.inj h
          obtain ⟨g1, g2⟩ := boxR_ok lw s hF ho ps Ls (i + 1) r hr' (fun k L hm => hr k L (by simp [rfE, hm])) (by simpa using hl)
          refine ⟨by simp [g1], fun j L' cs2 hj hc => ?_⟩
          cases j with
          | zero =>
            simp at hj hc; subst hj; subst hc
            obtain ⟨L', us, t, b1, b2, b3, b4, b5⟩ := s.blk i _ hcs
            rw [hr i L (by simp [rfE])] at b1
            obtain rfl := Option.some.inj b1
            refine ⟨b3, us, t, b2, b4, resL_ok lw hF s.blk b5 hcs' fun id hi L2 hL2 => ?_⟩
            obtain ⟨t2, l2, hg⟩ := ownsL_arr b5 id hi
            exact ho id L2 t2 l2 hg hL2
          | succ j => simp at hj hc; exact g2 j L' cs2 hj hc
        · cases h
      · cases h
    · cases h
theorem args_refs {w : World} {F : Nat → Prop} : ∀ {ps : List PM} {ws : List (A D.S)} {vs : List Value} {Ls : List Loc}, Args D w F ps ws vs Ls → (ps.filter fun | .ref => true | _ => false).length = Ls.length
  | _, _, _, _, .nil => rfl
  | _, _, _, _, .val _ _ _ h => by simpa using args_refs h
  | _, _, _, _, .ref _ _ _ _ _ h => by simpa using args_refs h
/-- When a function is left: what is answered, what is left in what was lent. -/
theorem leave_ok (lw : Lawful D P) {fn : Func} {w0 : World} {F0 : Nat → Prop} {ps : List PM} {Ls : List Loc} {n : Nat} (hold : ∀ b, F0 b → b < w0.heap.size) (hlen : (ps.filter fun | .ref => true | _ => false).length = Ls.length)
    {hG : GlAt D.gl w0} {hR : ∀ x ∈ D.gl, ∀ r ∈ rfE 0 ps Ls, x.1 ≠ r.2.b} {hl1 : ∀ x ∈ D.gl, x.1 ∉ ([] : List Nat)} {hl2 : ∀ b ∈ ([] : List Nat), F0 b} {hl3 : ∀ r ∈ rfE 0 ps Ls, r.1 < 3000} (s : Sim { w0 := w0, F0 := F0, refs := rfE 0 ps Ls, n := n, gl := hG, gr := hR, lg := hl1, lf := hl2, rlt := hl3 } β F fr hp a w) (hk : ∀ k L, (k, L) ∈ rfE 0 ps Ls → L ∈ Ls) {R : Type} {r : R} {k : List (A D.S) → List (List (C D.S)) → Option R}
    (h : finK D fn.results.toList (refI 0 ps) k fr hp = some r) : ∃ ws css rvs F', k ws css = some r ∧ (results fn a.tmps).run P w = .ok (tupV rvs) w ∧ Behind w0 w Ls ∧ (∀ b, F0 b → F' b) ∧ (∀ b, F' b → (F0 b ∨ w0.heap.size ≤ b) ∧ b < w.heap.size) ∧
      ResAll D w F' ws rvs ∧ LentAll D w F' Ls css := by
  unfold finK at h
  split at h
  · cases h
  · rename_i ws hws
    split at h
    · cases h
    · rename_i css hcss
      let F' : Nat → Prop := fun b => F0 b ∨ F b ∨ ∃ id L t l, hp.get id = some (.arr t l) ∧ β id = some L ∧ b = L.b
      have hF : ∀ b, F b → F' b := fun b hb => .inr (.inl hb)
      have ho : ∀ id L t l, hp.get id = some (.arr t l) → β id = some L → F' L.b := fun id L t l h1 h2 => .inr (.inr ⟨id, L, t, l, h1, h2, rfl⟩)
      obtain ⟨rvs, h1, h2⟩ := results_ok lw s hF ho hws
      have h3 := boxR_ok lw s hF ho ps Ls 0 css hcss (fun k L hm => (s.refs k L hm).1) hlen
      refine ⟨ws, css, rvs, F', h, h1, ⟨s.w0.1, s.w0.2, fun b hb hne => s.keep b ⟨hb, fun x hx => hne _ (hk x.1 x.2 hx), fun h => ((List.not_mem_nil h).elim)⟩⟩, fun b hb => .inl hb, fun b hb => ?_, h2, h3⟩
      rcases hb with hb | hb | ⟨id, L, t, l, g1, g2, rfl⟩
      · exact ⟨.inl hb, Nat.lt_of_lt_of_le (hold b hb) s.w0.1⟩
      · exact ⟨s.fsub b hb, s.old b hb⟩
      · exact ⟨s.freshF g1 g2 (OwnId.nref s (.inl ⟨t, l, g1⟩)), (s.sep id _ L g1 g2).2⟩
end
end Go.Proofs.Ytkpjeihgigmnkaa.Ev
/- Values without memory: how a function is entered, and left, that is handed over, and answers, what is nobody else's. -/
namespace Go.Proofs.Ytkpjeihgigmnkaa.Ev
open Go
set_option linter.unusedVariables false
set_option linter.unusedSimpArgs false
/-- The numbers of the blocks that the function in slot i has caught. -/
def capO (i : Nat) : Nat → List (Nat × OwL) → List (Nat × OwL)
  | _, [] => []
  | j, (_, own) :: l => (2000 + 16 * i + j, own) :: capO i (j + 1) l
def zipL : List Nat → List Loc → List (Nat × Loc)
  | i :: is, L :: Ls => (i, L) :: zipL is Ls
  | _, _ => []
def rfX : Nat → List XP → List Loc → List (Nat × Loc)
  | i, .val :: ps, Ls => rfX (i + 1) ps Ls
  | i, .ref _ _ _ :: ps, L :: Ls => (i, L) :: rfX (i + 1) ps Ls
  | i, .clo l :: ps, Ls => zipL (keysN (capO i 0 l)) (Ls.take l.length) ++ rfX (i + 1) ps (Ls.drop l.length)
  | _, _, _ => []
def refX : Nat → List XP → List (Nat × OwL)
  | i, .val :: ps => refX (i + 1) ps
  | i, .ref _ _ own :: ps => (i, own) :: refX (i + 1) ps
  | i, .clo l :: ps => capO i 0 l ++ refX (i + 1) ps
  | _, [] => []
/-- The blocks that were caught, each by itself. -/
def bxI {S : Nat → Type} (i : Nat) : Nat → List (Nat × OwL) → List (C S) → List (Im S)
  | _, [], _ => []
  | j, (n, own) :: l, cs => .bx (2000 + 16 * i + j) own (cs.take n) :: bxI i (j + 1) l (cs.drop n)
def cloI {S : Nat → Type} (i : Nat) (l : List (Nat × OwL)) : List (C S) → List (Im S)
  | .fn f [] :: cs => .fn i f (keysN (capO i 0 l)) :: bxI i 0 l cs
  | _ => []
def imX {S : Nat → Type} : Nat → List XP → List (A S) → List (Im S)
  | i, .val :: ps, x :: ws => .v i x :: imX (i + 1) ps ws
  | i, .ref off own _ :: ps, x :: ws => .box i i off own x.cells :: imX (i + 1) ps ws
  | i, .clo l :: ps, x :: ws => cloI i l x.cells ++ imX (i + 1) ps ws
  | _, _, _ => []
section
variable (D : Tys)
/-- The results, as they lie. -/
def resV (fr : Tr (V D.S)) (hp : Tr (B D.S)) : List ResultVar → Option (List (A D.S))
  | [] => some []
  | .tmp t :: l => match fr.get t with
    | some (.a x) => match resV fr hp l with | some r => some (x :: r) | none => none
    | _ => none
  | .cell a ty :: l => match lk D.ti ty, fr.get a with
    | some ti, some (.a (.c c)) => match loadA D hp ti c with
      | some x => match resV fr hp l with | some r => some (x :: r) | none => none
      | none => none
    | _, _ => none
def frozR (n0 : Nat) (hp : Tr (B D.S)) (ro : OwL) : Nat → List (A D.S) → Option (List Nat × List Nat × List (A D.S))
  | _, [] => some ([], [], [])
  | j, x :: xs => match lk ro j with
    | some o => match x with
      | .c c => match frozC D n0 hp o c with
        | some (i1, c') => match frozR n0 hp ro (j + 1) xs with | some (is, os, ws) => some (i1 ++ is, os, .c c' :: ws) | none => none
        | none => none
      | .agg _ => none
    | none => match resA hp x with
      | some x' => match frozR n0 hp ro (j + 1) xs with | some (is, os, ws) => some (is, ownsL x.cells ++ os, x' :: ws) | none => none
      | none => none
def finXK {R : Type} (n0 : Nat) (rs : List ResultVar) (ro : OwL) (rf : List (Nat × OwL)) (k : List (A D.S) → List (List (C D.S)) → Option R) (fr : Tr (V D.S)) (hp : Tr (B D.S)) : Option R := match resV D fr hp rs with
  | none => none
  | some xs => match frozR D n0 hp ro 0 xs with
    | none => none
    | some (is1, os1, ws) => match frozB D n0 hp rf with
      | none => none
      | some (is2, os2, css) => match distinct (is1 ++ is2) && apart (is1 ++ is2) (os1 ++ os2) with
        | true => k ws css
        | false => none
end
section
variable {D : Tys} {P : Program}
variable {K : Kx D} {β : Nat → Option Loc} {F : Nat → Prop} {fr : Tr (V D.S)} {hp : Tr (B D.S)} {a : Act} {w : World}
theorem keysN_capO (i : Nat) : ∀ (j : Nat) (l : List (Nat × OwL)), (capO i j l).map (·.2) = l.map (·.2) ∧ (capO i j l).length = l.length
  | _, [] => ⟨rfl, rfl⟩
  | j, (n, own) :: l => by obtain ⟨h1, h2⟩ := keysN_capO i (j + 1) l; exact ⟨by simp [capO, h1], by simp [capO, h2]⟩
theorem LentX.len {w : World} {F : Nat → Prop} {owns : List OwL} {Ls : List Loc} {css : List (List (C D.S))} {Bs : List Loc} (h : LentX D w F owns Ls css Bs) : owns.length = Ls.length ∧ css.length = Ls.length := by
  induction h with
  | nil => exact ⟨rfl, rfl⟩
  | cons r t ih => exact ⟨by simp [ih.1], by simp [ih.2]⟩
theorem zipL_map : ∀ (is : List Nat) (Ls : List Loc), is.length = Ls.length → (zipL is Ls).map (·.1) = is ∧ (zipL is Ls).map (·.2) = Ls
  | [], [], _ => ⟨rfl, rfl⟩
  | [], _ :: _, h => by simp at h
  | _ :: _, [], h => by simp at h
  | i :: is, L :: Ls, h => by obtain ⟨h1, h2⟩ := zipL_map is Ls (by simpa using h); exact ⟨by simp [zipL, h1], by simp [zipL, h2]⟩
theorem bxI_vs {w : World} {F : Nat → Prop} {g : Nat → Value} {i : Nat} {l0 : List (Im D.S)} {bx : List (Nat × Loc)} {Os : List Loc} (h0 : VS D w F g l0 bx Os) : ∀ (j : Nat) (l : List (Nat × OwL)) (L1 B1 : List Loc) (css : List (List (C D.S))), LentX D w F (l.map (·.2)) L1 css B1 → css.map List.length = l.map (·.1) →
    VS D w F g (bxI i j l (catS D css) ++ l0) (zipL (keysN (capO i j l)) L1 ++ bx) (B1 ++ Os)
  | j, [], L1, B1, css, h, hs => by
    cases h
    exact h0
  | j, (n, own) :: l, L1, B1, css, h, hs => by
    cases h with
    | cons r t =>
      rename_i L Ls cs css B1 Bs
      simp only [List.map_cons, List.cons.injEq] at hs
      obtain ⟨rfl, hs⟩ := hs
      have ih := bxI_vs (i := i) h0 (j + 1) l Ls Bs css t hs
      simp only [bxI, catS, capO, keysN, zipL, List.cons_append, List.take_left', List.drop_left', List.append_assoc]
      exact .bx r ih
theorem capsAt_zip {bx : List (Nat × Loc)} : ∀ (is : List Nat) (Ls : List Loc), is.length = Ls.length → (∀ p ∈ zipL is Ls, p ∈ bx) → CapsAt bx is Ls
  | [], [], _, _ => .nil
  | [], _ :: _, h, _ => by simp at h
  | _ :: _, [], h, _ => by simp at h
  | i :: is, L :: Ls, h, hm => .cons (hm _ List.mem_cons_self) (capsAt_zip is Ls (by simpa using h) fun p hp => hm p (List.mem_cons_of_mem _ hp))
theorem ArgsX.vs {w : World} {F : Nat → Prop} {ps : List XP} {ws : List (A D.S)} {vs : List Value} {Ls Os : List Loc} (h : ArgsX D w F ps ws vs Ls Os) : ∀ (g : Nat → Value) (i : Nat), (∀ (k : Nat) v, vs[k]? = some v → g (i + k) = v) → VS D w F g (imX i ps ws) (rfX i ps Ls) Os := by
  induction h with
  | nil => exact fun g i _ => .nil
  | val x v r h ih =>
    intro g i hg
    have e : g i = v := hg 0 v rfl
    refine .v (by rw [e]; exact r) (ih g (i + 1) fun k u hu => ?_)
    rw [Nat.add_right_comm]; exact hg (k + 1) u (by simpa using hu)
  | ref off own out cs L Bs r h ih =>
    intro g i hg
    refine .box (hg 0 _ rfl) r (ih g (i + 1) fun k u hu => ?_)
    rw [Nat.add_right_comm]; exact hg (k + 1) u (by simpa using hu)
  | clo l f css L1 B1 r hs h ih =>
    rename_i ps as vs Ls Os
    intro g i hg
    have ih' := ih g (i + 1) fun k u hu => by rw [Nat.add_right_comm]; exact hg (k + 1) u (by simpa using hu)
    have hl : l.length = L1.length := by have := r.len.1; simpa using this
    have hk : (keysN (capO i 0 l)).length = L1.length := by rw [keysN_map, List.length_map, (keysN_capO i 0 l).2, hl]
    have v1 := bxI_vs (i := i) ih' 0 l L1 B1 css r hs
    simp only [imX, A.cells, cloI, rfX, List.cons_append]
    rw [List.take_left' hl.symm, List.drop_left' hl.symm]
    exact .fn (hg 0 _ rfl) (capsAt_zip _ _ hk fun p hp => List.mem_append_left _ hp) v1
theorem ArgsX.rf {w : World} {F : Nat → Prop} {ps : List XP} {ws : List (A D.S)} {vs : List Value} {Ls Os : List Loc} (h : ArgsX D w F ps ws vs Ls Os) : ∀ (i : Nat), (rfX i ps Ls).map (·.2) = Ls ∧ vs.length = ps.length ∧
    (refX i ps).map (·.1) = (rfX i ps Ls).map (·.1) ∧ (refX i ps).map (·.2) = ownsX ps := by
  induction h with
  | nil => exact fun i => ⟨rfl, rfl, rfl, rfl⟩
  | val x v r h ih =>
    intro i
    obtain ⟨h1, h2, h5, h6⟩ := ih (i + 1)
    exact ⟨h1, by simp [h2], h5, h6⟩
  | ref off own out cs L Bs r h ih =>
    intro i
    obtain ⟨h1, h2, h5, h6⟩ := ih (i + 1)
    exact ⟨by simp [rfX, h1], by simp [h2], by simp [rfX, refX, h5], by simp [refX, ownsX, h6]⟩
  | clo l f css L1 B1 r hs h ih =>
    rename_i ps as vs Ls Os
    intro i
    obtain ⟨h1, h2, h5, h6⟩ := ih (i + 1)
    have hl : l.length = L1.length := by have := r.len.1; simpa using this
    have hk : (keysN (capO i 0 l)).length = L1.length := by rw [keysN_map, List.length_map, (keysN_capO i 0 l).2, hl]
    obtain ⟨z1, z2⟩ := zipL_map _ _ hk
    refine ⟨?_, by simp [h2], ?_, ?_⟩
    · simp only [rfX]
      rw [List.take_left' hl.symm, List.drop_left' hl.symm, List.map_append, z2, h1]
    · simp only [rfX, refX]
      rw [List.take_left' hl.symm, List.drop_left' hl.symm, List.map_append, List.map_append, z1, h5, keysN_map]
    · simp only [refX, ownsX]
      rw [List.map_append, (keysN_capO i 0 l).1, h6]
/-- Which numbers are no argument's. -/
def n0X : List XP → Nat
  | [] => 0
  | .clo _ :: _ => 3000
  | _ :: ps => match n0X ps with | 3000 => 3000 | n => n + 1
def ltN (m : Nat) : List Nat → Bool
  | [] => true
  | i :: l => match Nat.blt i m with | true => ltN m l | false => false
theorem ltN_at {m : Nat} : ∀ {l : List Nat}, ltN m l = true → ∀ i ∈ l, i < m
  | [], _, i, h => by cases h
  | j :: l, h, i, hi => by
    simp only [ltN] at h
    split at h
    · rename_i hj
      rcases List.mem_cons.mp hi with rfl | hi
      · simpa using hj
      · exact ltN_at h i hi
    · cases h
/-- The numbers of what is handed over are apart, and small. -/
def refOk (ps : List XP) : Bool := distinct (keysN (refX 0 ps)) && (ltN (n0X ps) (keysN (refX 0 ps)) && ltN 3000 (keysN (refX 0 ps)))
theorem ArgsX.rfOk {w : World} {F : Nat → Prop} {ps : List XP} {ws : List (A D.S)} {vs : List Value} {Ls Os : List Loc} (h : ArgsX D w F ps ws vs Ls Os) (hk : refOk ps = true) :
    (∀ p ∈ rfX 0 ps Ls, p.1 < n0X ps ∧ p.1 < 3000 ∧ p.2 ∈ Ls) ∧ ((rfX 0 ps Ls).map (·.1)).Nodup := by
  obtain ⟨h1, h2, h5, h6⟩ := h.rf 0
  simp only [refOk, Bool.and_eq_true] at hk
  obtain ⟨k1, k2, k3⟩ := hk
  rw [keysN_map, h5] at k1 k2 k3
  refine ⟨fun p hp => ⟨ltN_at k2 _ (List.mem_map.mpr ⟨p, hp, rfl⟩), ltN_at k3 _ (List.mem_map.mpr ⟨p, hp, rfl⟩), ?_⟩, distinct_nodup k1⟩
  have : p.2 ∈ (rfX 0 ps Ls).map (·.2) := List.mem_map.mpr ⟨p, hp, rfl⟩
  rwa [h1] at this
/-- The call's view of where it began. -/
def KX (w : World) (F : Nat → Prop) (ps : List XP) (Ls Os : List Loc) (n : Nat) (hG : GlAt D.gl w) (hgl : ∀ x ∈ D.gl, ∀ L ∈ Ls ++ Os, x.1 ≠ L.b) (hm : ∀ r ∈ rfX 0 ps Ls, r.2 ∈ Ls ∧ r.1 < 3000) : Kx D where
  w0 := w
  F0 := fun b => F b ∨ b ∈ locs Os
  refs := rfX 0 ps Ls
  n := n
  lent := locs Os
  gl := hG
  gr := fun x hx r hr => hgl x hx _ (List.mem_append_left _ (hm r hr).1)
  lg := fun x hx hb => by
    obtain ⟨L, hL, e⟩ := List.mem_map.mp hb
    exact hgl x hx L (List.mem_append_right _ hL) e.symm
  lf := fun b hb => .inr hb
  rlt := fun r hr => (hm r hr).2
theorem enterX_ok (lw : Lawful D P) {ps : List XP} {ws : List (A D.S)} {vs : List Value} {Ls Os : List Loc} {w : World} {F : Nat → Prop} {n : Nat} (hold : ∀ b, F b → b < w.heap.size) (hG : GlAt D.gl w) (hgl : ∀ x ∈ D.gl, ∀ L ∈ Ls ++ Os, x.1 ≠ L.b)
    (hnF : ∀ L ∈ Ls ++ Os, ¬ F L.b) (hnd : (locs (Ls ++ Os)).Nodup) (h : ArgsX D w F ps ws vs Ls Os) (hn : ps.length ≤ n) (hok : imOk D (imX 0 ps ws) = true) (hm : ∀ r ∈ rfX 0 ps Ls, r.2 ∈ Ls ∧ r.1 < 3000) :
    ∃ β, Sim (KX w F ps Ls Os n hG hgl hm) β F (mkT (frI D (imX 0 ps ws))) (mkT (hpI D (imX 0 ps ws))) { tmps := vs.toArray ++ Array.replicate (n - vs.toArray.size) undef, defers := [] } w := by
  obtain ⟨h1, h2, h5, h6⟩ := h.rf 0
  have hvs := h.vs (fun i => ({ tmps := vs.toArray ++ Array.replicate (n - vs.toArray.size) undef, defers := [] } : Act).tmps.getD i undef) 0 (fun k v hv => by
    have hk := (List.getElem?_eq_some_iff.mp hv).1
    rw [Nat.zero_add]
    simp only
    rw [Array.getD_eq_getD_getElem?, Array.getElem?_append]
    simp [hk]
    exact (List.getElem?_eq_some_iff.mp hv).2)
  refine build_ok (K := KX w F ps Ls Os n hG hgl hm) lw hvs hok ?_ rfl (fun L hL => ?_) (by rw [h1]; exact hnd) hold (fun b _ => rfl) (fun b hb => .inl (.inl hb)) ⟨Nat.le_refl _, rfl, rfl, rfl⟩ (fun i L hi => hi)
  · simp [h2]
    show _ = n
    omega
  · rw [h1] at hL
    refine ⟨hnF L hL, fun hg => ?_⟩
    rcases List.mem_append.mp hL with hL | hL
    · rw [← h1] at hL
      obtain ⟨p, hp, e⟩ := List.mem_map.mp hL
      exact hg.2.1 p hp (by rw [e])
    · exact hg.2.2 (List.mem_map.mpr ⟨L, hL, rfl⟩)
theorem resV_ok (lw : Lawful D P) (s : Sim K β F fr hp a w) (f : ResultVar → Sem Value) (hf : ∀ u, f (.tmp u) = pure (a.tmps.getD u undef)) (hc : ∀ u t, f (.cell u t) = (do loadVar t (← asAddr (a.tmps.getD u undef)))) :
    ∀ (rs : List ResultVar) (ws : List (A D.S)), resV D fr hp rs = some ws → ∃ vs, (rs.mapM f).run P w = .ok vs w ∧ ws.length = vs.length ∧ ∀ (j : Nat) x v, ws[j]? = some x → vs[j]? = some v → RA D w F hp.get β x v
  | [], ws, h => by
    simp only [resV, Option.some.injEq] at h
    subst h
    exact ⟨[], by simp, rfl, fun j x v hx => by simp at hx⟩
  | .tmp u :: rs, ws, h => by
    simp only [resV] at h
    split at h
    · rename_i x hx
      split at h
      · rename_i r hr
        obtain rfl := Option.some.inj h
        obtain ⟨vs, h1, h2, h3⟩ := resV_ok lw s f hf hc rs r hr
        have rx : RA D w F hp.get β x (a.tmps.getD u undef) := s.frm u _ hx
        refine ⟨a.tmps.getD u undef :: vs, by simp [List.mapM_cons, hf, h1], by simp [h2], fun j y v hy hv => ?_⟩
        cases j with
        | zero => simp at hy hv; subst hy; subst hv; simpa using rx
        | succ j => simp at hy hv; exact h3 j y v hy hv
      · cases h
    · cases h
  | .cell u t :: rs, ws, h => by
    simp only [resV] at h
    split at h
    · rename_i ti c hti hx
      split at h
      · rename_i x hl
        split at h
        · rename_i r hr
          obtain rfl := Option.some.inj h
          obtain ⟨vs, h1, h2, h3⟩ := resV_ok lw s f hf hc rs r hr
          have rx : RC D w F hp.get β c (a.tmps.getD u undef) := s.frm u _ hx
          obtain ⟨ad, cv, g1, g2, g3⟩ := loadA_var lw s (lk_ti lw hti) rx hl
          refine ⟨cv :: vs, by rw [List.mapM_cons, hc, g1]; simp [asAddr, g2, h1], by simp [h2], fun j y v hy hv => ?_⟩
          cases j with
          | zero => simp at hy hv; subst hy; subst hv; exact g3
          | succ j => simp at hy hv; exact h3 j y v hy hv
        · cases h
      · cases h
    · cases h
theorem resultsV_ok (lw : Lawful D P) (s : Sim K β F fr hp a w) {fn : Func} {ws : List (A D.S)} (h : resV D fr hp fn.results.toList = some ws) :
    ∃ vs, (results fn a.tmps).run P w = .ok (tupV vs) w ∧ ws.length = vs.length ∧ ∀ (j : Nat) x v, ws[j]? = some x → vs[j]? = some v → RA D w F hp.get β x v := by
  obtain ⟨vs, h1, h2, h3⟩ := resV_ok lw s (fun | .tmp t => pure (a.tmps.getD t undef) | .cell u t => do loadVar t (← asAddr (a.tmps.getD u undef))) (fun _ => rfl) (fun _ _ => rfl) _ _ h
  refine ⟨vs, ?_, h2, h3⟩
  unfold results
  rw [show fn.results = fn.results.toList.toArray from rfl, List.mapM_toArray]
  simp only [Sem.run_bind, Sem.run_map]
  erw [h1]
  match vs with
  | [] => rfl
  | [v] => rfl
  | v :: v' :: l => simp [tupV]
theorem frozR_ok (lw : Lawful D P) (s : Sim K β F fr hp a w) {F1 : Nat → Prop} (hF : ∀ b, F b → F1 b) {n0 : Nat} {ro : OwL} : ∀ {xs ws : List (A D.S)} {j : Nat} {is os : List Nat} {vs : List Value}, frozR D n0 hp ro j xs = some (is, os, ws) → xs.length = vs.length →
    (∀ (i : Nat) x v, xs[i]? = some x → vs[i]? = some v → RA D w F hp.get β x v) → (∀ id ∈ os, ∀ L, β id = some L → F1 L.b) → ∃ Bs, ResO D w F1 ro j ws vs Bs ∧ (locs Bs).Sublist (locs (is.filterMap β)) ∧ (∀ id ∈ is, OwnId n0 hp id) ∧ (∀ id ∈ os, ∃ t l, hp.get id = some (.arr t l))
  | [], ws, j, is, os, vs, h, hl, hr, ho => by
    simp only [frozR, Option.some.injEq, Prod.mk.injEq] at h
    obtain ⟨rfl, rfl, rfl⟩ := h
    obtain rfl : vs = [] := List.length_eq_zero_iff.mp hl.symm
    exact ⟨[], .nil j, List.nil_sublist _, fun id h => (by cases h), fun id h => (by cases h)⟩
  | x :: xs, ws, j, is, os, vs, h, hl, hr, ho => by
    match vs, hl, hr with
    | v :: vs, hl, hr =>
      have r0 := hr 0 x v rfl rfl
      have rt : ∀ (i : Nat) y u, xs[i]? = some y → vs[i]? = some u → RA D w F hp.get β y u := fun i y u hy hu => hr (i + 1) y u (by simpa using hy) (by simpa using hu)
      simp only [frozR] at h
      split at h
      · rename_i o hj
        cases x with
        | agg cs => cases h
        | c c =>
          simp only at h
          split at h
          · rename_i i1 c' hc
            split at h
            · rename_i is' os' ws' hrec
              simp only [Option.some.injEq, Prod.mk.injEq] at h
              obtain ⟨rfl, rfl, rfl⟩ := h
              obtain ⟨p, hp1⟩ := posO_some hj
              obtain ⟨Bs, g1, g2, g3, g4⟩ := frozR_ok lw s hF hrec (by simpa using hl) rt ho
              obtain ⟨B1, k1, k2⟩ := frozC_ok lw hF s.blk (show RC D w F hp.get β c v from r0) hc
              refine ⟨B1 ++ Bs, .own hp1 k1 g1, ?_, fun id hi => (List.mem_append.mp hi).elim (frozC_own hc id) (g3 id), g4⟩
              rw [locs_app, List.filterMap_append, locs_app]; exact k2.append g2
            · cases h
          · cases h
      · rename_i hj
        split at h
        · rename_i x' hx'
          split at h
          · rename_i is' os' ws' hrec
            simp only [Option.some.injEq, Prod.mk.injEq] at h
            obtain ⟨rfl, rfl, rfl⟩ := h
            obtain ⟨Bs, g1, g2, g3, g4⟩ := frozR_ok lw s hF hrec (by simpa using hl) rt (fun id hi => ho id (List.mem_append_right _ hi))
            have own : ∀ id ∈ ownsL x.cells, ∃ t l, hp.get id = some (.arr t l) := fun id hi => by
              cases x with
              | c c => exact ownsL_arr (w := w) (F := F) (β := β) (cs := [c]) (vs := [v]) ⟨rfl, fun j y u hy hu => by
                  cases j with
                  | zero => simp at hy hu; subst hy; subst hu; exact r0
                  | succ j => simp at hy⟩ id hi
              | agg cs => obtain ⟨us, _, rl⟩ := r0; exact ownsL_arr rl id hi
            refine ⟨Bs, .plain (posO_none hj) ?_ g1, g2, g3, fun id hi => (List.mem_append.mp hi).elim (own id) (g4 id)⟩
            cases x with
            | c c =>
              simp only [resA] at hx'
              split at hx'
              · rename_i c' hc'
                obtain rfl := Option.some.inj hx'
                exact resC_ok lw hF s.blk r0 hc' (fun id hi => ho id (List.mem_append_left _ (by rw [ownsL_eq]; simpa [A.cells] using hi)))
              · cases hx'
            | agg cs =>
              simp only [resA] at hx'
              split at hx'
              · rename_i cs' hcs'
                obtain rfl := Option.some.inj hx'
                obtain ⟨us, rfl, rl⟩ := r0
                exact ⟨us, rfl, resL_ok lw hF s.blk rl hcs' (fun id hi => ho id (List.mem_append_left _ hi))⟩
              · cases hx'
          · cases h
        · cases h
/-- When such a function is left. -/
theorem leaveX_ok (lw : Lawful D P) {fn : Func} {ps : List XP} {ws0 : List (A D.S)} {vs : List Value} {Ls Os : List Loc} {w0 : World} {F0 : Nat → Prop} {n : Nat} {ro : OwL} (hold : ∀ b, F0 b → b < w0.heap.size) {hG : GlAt D.gl w0} {hgl : ∀ x ∈ D.gl, ∀ L ∈ Ls ++ Os, x.1 ≠ L.b}
    (hA : ArgsX D w0 F0 ps ws0 vs Ls Os) {hm : ∀ r ∈ rfX 0 ps Ls, r.2 ∈ Ls ∧ r.1 < 3000} (hnF : ∀ L ∈ Ls ++ Os, ¬ F0 L.b) (hnd : (locs (Ls ++ Os)).Nodup) (s : Sim (KX w0 F0 ps Ls Os n hG hgl hm) β F fr hp a w) (hk : refOk ps = true) {R : Type} {r : R} {k : List (A D.S) → List (List (C D.S)) → Option R}
    (h : finXK D (n0X ps) fn.results.toList ro (refX 0 ps) k fr hp = some r) : ∃ ws css rvs F' B1 B2, k ws css = some r ∧ (results fn a.tmps).run P w = .ok (tupV rvs) w ∧ Behind w0 w (Ls ++ Os) ∧ (∀ b, F0 b → F' b) ∧ (∀ b, F' b → (F0 b ∨ w0.heap.size ≤ b ∨ b ∈ locs Os) ∧ b < w.heap.size) ∧
      ResO D w F' ro 0 ws rvs B1 ∧ LentX D w F' (ownsX ps) Ls css B2 ∧ (∀ L ∈ B1 ++ B2, ¬ F' L.b ∧ (w0.heap.size ≤ L.b ∨ L.b ∈ locs Os)) ∧ (locs (Ls ++ (B1 ++ B2))).Nodup := by
  obtain ⟨e1, e2, e5, e6⟩ := hA.rf 0
  obtain ⟨e3, e4⟩ := hA.rfOk hk
  have hrn : ∀ r ∈ rfX 0 ps Ls, r.1 < n0X ps := fun r hr => (e3 r hr).1
  unfold finXK at h
  split at h
  · cases h
  rename_i xs hxs
  split at h
  · cases h
  rename_i is1 os1 ws hws
  split at h
  · cases h
  rename_i is2 os2 css hcss
  split at h
  case h_2 => cases h
  rename_i hck
  rw [Bool.and_eq_true] at hck
  obtain ⟨hds, hap⟩ := hck
  obtain ⟨rvs, r1, r2, r3⟩ := resultsV_ok lw s hxs
  have hbeta : ((refX 0 ps).map (·.1)).map β = Ls.map some := by
    have : Ls.map some = (rfX 0 ps Ls).map fun p => β p.1 := by
      rw [show Ls.map some = ((rfX 0 ps Ls).map (·.2)).map some by rw [e1], List.map_map]
      exact List.map_congr_left fun p hp => ((s.refs p.1 p.2 hp).1).symm
    rw [e5, this, List.map_map]; rfl
  have arrs1 : ∀ id ∈ os1, ∃ t l, hp.get id = some (.arr t l) := by
    obtain ⟨_, _, _, _, g⟩ := frozR_ok lw s (F1 := fun _ => True) (fun _ _ => trivial) hws r2 r3 (fun _ _ _ _ => trivial)
    exact g
  have arrs2 : ∀ id ∈ os2, ∃ t l, hp.get id = some (.arr t l) := by
    obtain ⟨_, _, _, _, g⟩ := frozB_ok lw s (F1 := fun _ => True) (fun _ _ => trivial) hcss hbeta (fun _ _ _ _ => trivial)
    exact g
  have arrs : ∀ id ∈ os1 ++ os2, ∃ t l, hp.get id = some (.arr t l) := fun id hi => (List.mem_append.mp hi).elim (arrs1 id) (arrs2 id)
  let F' : Nat → Prop := fun b => F0 b ∨ F b ∨ ∃ id ∈ os1 ++ os2, ∃ L, β id = some L ∧ b = L.b
  have hF : ∀ b, F b → F' b := fun b hb => .inr (.inl hb)
  obtain ⟨B1, g1, g2, g3, _⟩ := frozR_ok lw s hF hws r2 r3 (fun id hi L hL => .inr (.inr ⟨id, List.mem_append_left _ hi, L, hL, rfl⟩))
  obtain ⟨B2, k1, k2, k3, _⟩ := frozB_ok lw s hF hcss hbeta (fun id hi L hL => .inr (.inr ⟨id, List.mem_append_right _ hi, L, hL, rfl⟩))
  rw [e6] at k1
  have own : ∀ id ∈ is1 ++ is2, OwnId (n0X ps) hp id := fun id hi => (List.mem_append.mp hi).elim (g3 id) (k3 id)
  have sub : (locs (B1 ++ B2)).Sublist (locs ((is1 ++ is2).filterMap β)) := by rw [locs_app, List.filterMap_append, locs_app]; exact g2.append k2
  have mem : ∀ L ∈ B1 ++ B2, ∃ i ∈ is1 ++ is2, ∃ L', β i = some L' ∧ L'.b = L.b := fun L hL => mem_locs (sub.subset (List.mem_map.mpr ⟨L, hL, rfl⟩))
  have fresh : ∀ id b L, hp.get id = some b → β id = some L → (∀ L', (id, L') ∉ rfX 0 ps Ls) → L.b ∈ locs Os ∨ w0.heap.size ≤ L.b := fun id b L h1 h2 h3 => s.freshL h1 h2 h3
  refine ⟨ws, css, rvs, F', B1, B2, h, r1, ⟨s.w0.1, s.w0.2, fun b hb hne => s.keep b ⟨hb, fun x hx => hne _ (List.mem_append_left _ (hm x hx).1), fun hl => ?_⟩⟩, fun b hb => .inl hb, fun b hb => ?_, g1, k1, fun L hL => ?_, ?_⟩
  · obtain ⟨L, hL, e⟩ := List.mem_map.mp hl
    exact hne L (List.mem_append_right _ hL) e.symm
  · rcases hb with hb | hb | ⟨id, hi, L, hL, rfl⟩
    · exact ⟨.inl hb, Nat.lt_of_lt_of_le (hold b hb) s.w0.1⟩
    · refine ⟨?_, s.old b hb⟩
      rcases s.fsub b hb with (h | h) | h
      · exact .inl h
      · exact .inr (.inr h)
      · exact .inr (.inl h)
    · obtain ⟨t, l, hg⟩ := arrs id hi
      refine ⟨?_, (s.sep id _ L hg hL).2⟩
      rcases fresh id _ L hg hL (OwnId.nref' (n0 := n0X ps) s hrn (.inl ⟨t, l, hg⟩)) with h | h
      · exact .inr (.inr h)
      · exact .inr (.inl h)
  · obtain ⟨i, hi, L', hL', e⟩ := mem L hL
    obtain ⟨b, hb⟩ := (own i hi).some
    rw [← e]
    refine ⟨fun hf => ?_, ?_⟩
    · rcases hf with hf | hf | ⟨id, hid, L2, hL2, e2⟩
      · rcases fresh i b L' hb hL' ((own i hi).nref' s hrn) with h | h
        · obtain ⟨L3, hL3, e3⟩ := List.mem_map.mp h
          exact hnF L3 (List.mem_append_right _ hL3) (e3 ▸ hf)
        · have := hold _ hf; omega
      · exact (s.sep i b L' hb hL').1 hf
      · obtain ⟨t, l, hg⟩ := arrs id hid
        have := s.inj i id _ _ L' L2 hb hg hL' hL2 e2
        subst this
        exact apart_at hap i hi hid
    · rcases fresh i b L' hb hL' ((own i hi).nref' s hrn) with h | h
      · exact .inr h
      · exact .inl h
  · have nd : ((rfX 0 ps Ls).map (·.1) ++ (is1 ++ is2)).Nodup := List.nodup_append.mpr ⟨e4, distinct_nodup hds, fun i hi j hj e => by
      subst e
      obtain ⟨p, hp', e⟩ := List.mem_map.mp hi
      exact (own i hj).nref' s hrn p.2 (by rw [← e]; exact hp')⟩
    have := s.nodupB nd (fun i hi => by
      rcases List.mem_append.mp hi with hi | hi
      · obtain ⟨p, hp', e⟩ := List.mem_map.mp hi
        obtain ⟨_, cs, hc⟩ := s.refs p.1 p.2 hp'
        exact ⟨_, by rw [← e]; exact hc⟩
      · exact (own i hi).some)
    rw [List.filterMap_append, show ((rfX 0 ps Ls).map (·.1)).filterMap β = Ls by
      rw [fm_id, ← e5, hbeta, List.filterMap_map]; simp, locs_app] at this
    rw [locs_app]
    exact this.sublist (List.Sublist.append (List.Sublist.refl _) sub)
end
end Go.Proofs.Ytkpjeihgigmnkaa.Ev
/- Values without memory: the code hands on one state alone. -/
namespace Go.Proofs.Ytkpjeihgigmnkaa.Ev
open Go
set_option linter.unusedVariables false
set_option linter.unusedSimpArgs false
section
variable {D : Tys} {R : Type}
theorem exK_nat {H : HH D R} (hH : HNat H) {o : Oper} {gs : List Nat} {fr : Tr (V D.S)} {hp : Tr (B D.S)} {k : KL D R} {r : R} (h : exK D H o gs fr hp k = some r) :
    ∃ lk T U e a kl s1 s2 s3 fr' hp', k lk T U e a kl s1 s2 s3 fr' hp' = some r ∧ ∀ k2 : KL D R, exK D H o gs fr hp k2 = k2 lk T U e a kl s1 s2 s3 fr' hp' := by
  unfold exK at h
  split at h
  · cases h
  · rename_i hc
    obtain ⟨v, fr1, hp1, h1, h2⟩ := opK_nat hH _ _ h
    simp only [putK_set] at h1
    split at h1
    · rename_i hl
      exact ⟨_, _, _, _, _, _, _, _, _, _, _, h1, fun k2 => by unfold exK; rw [hc]; simp only; rw [h2]; simp only [putK_set, hl]⟩
    · cases h1
theorem dr1K0_nat {H : HH D R} (hH : HNat H) {ops : List Oper} {o : Oper} {fr : Tr (V D.S)} {hp : Tr (B D.S)} {k : KL D R} {r : R} (h : dr1K0 D H ops o fr hp k = some r) :
    ∃ lk T U e a kl s1 s2 s3 fr' hp', k lk T U e a kl s1 s2 s3 fr' hp' = some r ∧ ∀ k2 : KL D R, dr1K0 D H ops o fr hp k2 = k2 lk T U e a kl s1 s2 s3 fr' hp' := by
  unfold dr1K0 at h
  simp only [putK_set, Tr.setK_eq] at h
  split at h
  · rename_i hg
    obtain ⟨lk, T, U, e, a, kl, s1, s2, s3, fr', hp', h1, h2⟩ := exK_nat hH h
    exact ⟨lk, T, U, e, a, kl, s1, s2, s3, fr', hp', h1, fun k2 => by unfold dr1K0; rw [hg]; exact h2 k2⟩
  · rename_i j hg
    obtain ⟨d, b, h0, e0⟩ := yieldK_nat h
    rcases bKK_nat h0 with ⟨rfl, h'⟩ | ⟨rfl, h'⟩
    · obtain ⟨lk, T, U, e, a, kl, s1, s2, s3, fr', hp', h1, h2⟩ := exK_nat hH h'
      exact ⟨lk, T, U, e, a, kl, s1, s2, s3, fr', hp', h1, fun k2 => by unfold dr1K0; simp only [putK_set, Tr.setK_eq, hg]; rw [e0]; simp only [bKK]; exact h2 k2⟩
    · exact ⟨_, _, _, _, _, _, _, _, _, _, _, h', fun k2 => by unfold dr1K0; simp only [putK_set, Tr.setK_eq, hg]; rw [e0]; rfl⟩
  · rename_i j hg
    obtain ⟨d, b, h0, e0⟩ := yieldK_nat h
    rcases bKK_nat h0 with ⟨rfl, h'⟩ | ⟨rfl, h'⟩
    · exact ⟨_, _, _, _, _, _, _, _, _, _, _, h', fun k2 => by unfold dr1K0; simp only [putK_set, Tr.setK_eq, hg]; rw [e0]; rfl⟩
    · obtain ⟨lk, T, U, e, a, kl, s1, s2, s3, fr', hp', h1, h2⟩ := exK_nat hH h'
      exact ⟨lk, T, U, e, a, kl, s1, s2, s3, fr', hp', h1, fun k2 => by unfold dr1K0; simp only [putK_set, Tr.setK_eq, hg]; rw [e0]; simp only [bKK]; exact h2 k2⟩
theorem dr1K_nat {H : HH D R} (hH : HNat H) {ops : List Oper} {o : Oper} {fr : Tr (V D.S)} {hp : Tr (B D.S)} {k : KL D R} {r : R} (h : dr1K D H ops o fr hp k = some r) :
    ∃ lk T U e a kl s1 s2 s3 fr' hp', k lk T U e a kl s1 s2 s3 fr' hp' = some r ∧ ∀ k2 : KL D R, dr1K D H ops o fr hp k2 = k2 lk T U e a kl s1 s2 s3 fr' hp' := by
  unfold dr1K at h
  split at h
  · rename_i d hsk
    rw [putK_set] at h
    exact ⟨_, _, _, _, _, _, _, _, _, _, _, h, fun k2 => by unfold dr1K; rw [hsk]; simp only [putK_set]⟩
  · rename_i hsk
    obtain ⟨lk, T, U, e, a, kl, s1, s2, s3, fr', hp', h1, h2⟩ := dr1K0_nat hH h
    exact ⟨lk, T, U, e, a, kl, s1, s2, s3, fr', hp', h1, fun k2 => by unfold dr1K; rw [hsk]; exact h2 k2⟩
theorem drawK_nat {H : HH D R} (hH : HNat H) {ops : List Oper} : ∀ {l : List Oper} {i : Nat} {ms : List Nat} {lgs : List Lg} {fr : Tr (V D.S)} {hp : Tr (B D.S)}, N2 (drawK D H ops l i ms lgs fr hp)
  | [], i, ms, lgs, fr, hp, k, r, h => ⟨fr, hp, h, fun _ => rfl⟩
  | o :: l, i, ms, lgs, fr, hp, k, r, h => by
    unfold drawK at h
    split at h
    · cases h
    · rename_i m hm
      obtain ⟨lk, T, U, e, a, kl, s1, s2, s3, fr1, hp1, h1, h2⟩ := dr1K_nat hH h
      split at h1
      · rename_i hc
        obtain ⟨fr', hp', h3, h4⟩ := drawK_nat hH _ _ h1
        exact ⟨fr', hp', h3, fun k2 => by unfold drawK; rw [hm]; simp only; rw [h2]; simp only [hc]; exact h4 k2⟩
      · cases h1
def N4 (κ : Nat → Tr (V D.S) → Tr (B D.S) → Option R) (ρ : Tr (V D.S) → Tr (B D.S) → Option R) (r : R) (g : (Nat → Tr (V D.S) → Tr (B D.S) → Option R) → (Tr (V D.S) → Tr (B D.S) → Option R) → Option R) : Prop :=
  (∃ fr hp, ρ fr hp = some r ∧ ∀ κ2 ρ2, g κ2 ρ2 = ρ2 fr hp) ∨ ∃ p fr hp, κ p fr hp = some r ∧ ∀ κ2 ρ2, g κ2 ρ2 = κ2 p fr hp
theorem N4.of {κ : Nat → Tr (V D.S) → Tr (B D.S) → Option R} {ρ : Tr (V D.S) → Tr (B D.S) → Option R} {r : R} {g g' : (Nat → Tr (V D.S) → Tr (B D.S) → Option R) → (Tr (V D.S) → Tr (B D.S) → Option R) → Option R}
    (h : N4 κ ρ r g) (e : ∀ κ2 ρ2, g' κ2 ρ2 = g κ2 ρ2) : N4 κ ρ r g' := by
  rcases h with ⟨fr, hp, h1, h2⟩ | ⟨p, fr, hp, h1, h2⟩
  · exact .inl ⟨fr, hp, h1, fun κ2 ρ2 => (e κ2 ρ2).trans (h2 κ2 ρ2)⟩
  · exact .inr ⟨p, fr, hp, h1, fun κ2 ρ2 => (e κ2 ρ2).trans (h2 κ2 ρ2)⟩
theorem runK_nat {H : HH D R} (hH : HNat H) {cuts : List Nat} {κ : Nat → Tr (V D.S) → Tr (B D.S) → Option R} {ρ : Tr (V D.S) → Tr (B D.S) → Option R} {r : R} :
    ∀ (n : Nat) (here : Bool) (todo : List It) (fr : Tr (V D.S)) (hp : Tr (B D.S)), runK D H cuts κ ρ n here todo fr hp = some r → N4 κ ρ r fun κ2 ρ2 => runK D H cuts κ2 ρ2 n here todo fr hp
  | 0, here, todo, fr, hp, h => by unfold runK at h; cases h
  | n + 1, here, [], fr, hp, h => .inl ⟨fr, hp, h, fun κ2 ρ2 => by unfold runK; rfl⟩
  | n + 1, here, .inBlock id :: t, fr, hp, h => by
    unfold runK at h
    exact (runK_nat hH n _ _ _ _ h).of fun κ2 ρ2 => by rw [runK]
  | n + 1, here, .inLoop c p :: t, fr, hp, h => by
    unfold runK at h
    exact (runK_nat hH n _ _ _ _ h).of fun κ2 ρ2 => by rw [runK]
  | n + 1, here, .code c p :: t, fr, hp, h => by
    unfold runK at h
    split at h
    · rename_i hm
      exact .inr ⟨p, fr, hp, h, fun κ2 ρ2 => by unfold runK; rw [hm]⟩
    · rename_i hm
      cases c with
      | skip => exact (runK_nat hH n _ _ _ _ h).of fun κ2 ρ2 => by rw [runK]; simp only [hm]
      | region id ops draw =>
        cases draw with
        | true =>
          simp only at h
          obtain ⟨fr1, hp1, h1, e1⟩ := drawK_nat hH _ _ h
          exact (runK_nat hH n _ _ _ _ h1).of fun κ2 ρ2 => by rw [runK]; simp only [hm]; rw [e1]
        | false =>
          simp only at h
          obtain ⟨fr1, hp1, h1, e1⟩ := opsK_nat hH _ _ h
          exact (runK_nat hH n _ _ _ _ h1).of fun κ2 ρ2 => by rw [runK]; simp only [hm]; rw [e1]
      | seq x y => exact (runK_nat hH n _ _ _ _ h).of fun κ2 ρ2 => by rw [runK]; simp only [hm]
      | cond c x y =>
        simp only at h
        split at h
        · rename_i d
          split at h
          · rename_i v hv
            rcases bKK_nat h with ⟨rfl, h'⟩ | ⟨rfl, h'⟩
            · clear h
              simp only [Tr.setK_eq] at h'
              split at h'
              · rename_i hd
                exact (runK_nat hH n _ _ _ _ h').of fun κ2 ρ2 => by rw [runK]; simp only [hm, hv, bKK, Tr.setK_eq, hd]
              · cases h'
            · clear h
              simp only [Tr.setK_eq] at h'
              split at h'
              · rename_i hd
                exact (runK_nat hH n _ _ _ _ h').of fun κ2 ρ2 => by rw [runK]; simp only [hm, hv, bKK, Tr.setK_eq, hd]
              · cases h'
          · cases h
        · rename_i v
          rcases bKK_nat h with ⟨rfl, h'⟩ | ⟨rfl, h'⟩
          · exact (runK_nat hH n _ _ _ _ h').of fun κ2 ρ2 => by rw [runK]; simp only [hm, bKK]
          · exact (runK_nat hH n _ _ _ _ h').of fun κ2 ρ2 => by rw [runK]; simp only [hm, bKK]
        · cases h
      | block id c => exact (runK_nat hH n _ _ _ _ h).of fun κ2 ρ2 => by rw [runK]; simp only [hm]
      | loop c => exact (runK_nat hH n _ _ _ _ h).of fun κ2 ρ2 => by rw [runK]; simp only [hm]
      | exit id =>
        simp only at h
        split at h
        · rename_i t' ht
          exact (runK_nat hH n _ _ _ _ h).of fun κ2 ρ2 => by rw [runK]; simp only [hm, ht]
        · cases h
      | label l => exact (runK_nat hH n _ _ _ _ h).of fun κ2 ρ2 => by rw [runK]; simp only [hm]
      | ret => exact .inl ⟨fr, hp, h, fun κ2 ρ2 => by unfold runK; simp only [hm]⟩
      | rangeFunc f ps x y => cases h
      | scope c => cases h
      | goto l => cases h
      | refuse y => cases h
end
end Go.Proofs.Ytkpjeihgigmnkaa.Ev
/- Values without memory: functions as they are told: typed arguments, typed results; tables of them. -/
namespace Go.Proofs.Ytkpjeihgigmnkaa.Ev
open Go
set_option linter.unusedVariables false
set_option linter.unusedSimpArgs false
/-- What is handed over: a value; an error; one function, told by its number. -/
inductive RT where | v (t : Ty) | er | fc (f : FuncId)
def aggT : RT → Bool | .v t => isAgg t | .er => false | .fc _ => false
section
variable (D : Tys)
@[reducible] def TT : RT → Type | .v t => T D.S t | .er => Option (Nat × IntKind × Int) | .fc _ => Unit
@[reducible] def YR : List RT → Type
  | [] => Unit
  | [r] => TT D r
  | r :: r' :: l => TT D r × YR (r' :: l)
def encT : (r : RT) → TT D r → List (C D.S)
  | .v t, x => encL D t x
  | .er, none => [.nili]
  | .er, some (t, k, n) => [.err t k n]
  | .fc f, _ => [.fn f []]
def decT : (r : RT) → List (C D.S) → Option (TT D r)
  | .v t, cs => decL D t cs
  | .er, cs => match cs with
    | [.nili] => some none
    | [.err t k n] => some (some (t, k, n))
    | _ => none
  | .fc f, cs => match cs with
    | [.fn g []] => (match Nat.beq g f with | true => some () | false => none)
    | _ => none
def encY : (l : List RT) → YR D l → List (List (C D.S))
  | [], _ => []
  | [r], x => [encT D r x]
  | r :: r' :: l, x => encT D r x.1 :: encY (r' :: l) x.2
def decY : (l : List RT) → List (List (C D.S)) → Option (YR D l)
  | [], css => match css with | [] => some () | _ => none
  | [r], css => match css with | [cs] => decT D r cs | _ => none
  | r :: r' :: l, css => match css with
    | cs :: css => match decT D r cs with
      | some x => match decY (r' :: l) css with | some y => some (x, y) | none => none
      | none => none
    | [] => none
def mkA2 (g : Bool) (cs : List (C D.S)) : A D.S := match g with
  | true => .agg cs
  | false => match cs with | [c] => .c c | _ => .agg cs
def wrapA : List RT → List (List (C D.S)) → List (A D.S)
  | r :: rs, cs :: css => mkA2 D (aggT r) cs :: wrapA rs css
  | _, _ => []
def wrapP : List PM → List RT → List (List (C D.S)) → List (A D.S)
  | .val :: ps, r :: rs, cs :: css => mkA2 D (aggT r) cs :: wrapP ps rs css
  | .ref :: ps, r :: rs, cs :: css => .agg cs :: wrapP ps rs css
  | .clo ns :: ps, r :: rs, cs :: css => .agg (cs ++ catS D (css.take ns.length)) :: wrapP ps (rs.drop ns.length) (css.drop ns.length)
  | _, _, _ => []
def aggsA : List RT → List (A D.S) → Bool
  | _, [] => true
  | r :: rs, x :: l => match isAggA x == aggT r with | true => aggsA rs l | false => false
  | [], _ :: _ => false
def aggsP : List PM → List RT → List (A D.S) → Bool
  | [], [], [] => true
  | .val :: ps, r :: rs, x :: l => match isAggA x == aggT r with | true => aggsP ps rs l | false => false
  | .ref :: ps, _ :: rs, x :: l => match isAggA x with | true => aggsP ps rs l | false => false
  | .clo ns :: ps, .fc f :: rs, x :: l => match x with
    | .agg (.fn g [] :: _) => (match Nat.beq g f with | true => aggsP ps (rs.drop ns.length) l | false => false)
    | _ => false
  | _, _, _ => false
/-- Cells, cut into pieces. -/
def splitS : List Nat → List (C D.S) → List (List (C D.S))
  | [], _ => []
  | n :: ns, cs => cs.take n :: splitS ns (cs.drop n)
def cellsP : List PM → List (A D.S) → List (List (C D.S))
  | .clo ns :: ps, x :: ws => (match x.cells with | c :: cs => [c] :: splitS D ns cs | [] => []) ++ cellsP ps ws
  | .val :: ps, x :: ws => x.cells :: cellsP ps ws
  | .ref :: ps, x :: ws => x.cells :: cellsP ps ws
  | _, _ => []
def encRes (ts : List RT) (nr : Nat) (y : YR D ts) : List (A D.S) := wrapA D ts ((encY D ts y).take nr)
def encRef (ts : List RT) (nr : Nat) (y : YR D ts) : List (List (C D.S)) := (encY D ts y).drop nr
def encArgs (pm : List PM) (as : List RT) (x : YR D as) : List (A D.S) := wrapP D pm as (encY D as x)
def cellsL : List (A D.S) → List (List (C D.S))
  | [] => []
  | x :: l => x.cells :: cellsL l
def appL : List (List (C D.S)) → List (List (C D.S)) → List (List (C D.S))
  | [], l => l
  | x :: m, l => x :: appL m l
/-- The results, told. -/
def decRes (ts : List RT) (nr : Nat) (res : List (A D.S)) (css : List (List (C D.S))) : Option (YR D ts) := match Nat.beq res.length nr && aggsA D ts res with
  | true => decY D ts (appL D (cellsL D res) css)
  | false => none
def decArgs (pm : List PM) (as : List RT) (ws : List (A D.S)) : Option (YR D as) := match aggsP D pm as ws with
  | true => decY D as (cellsP D pm ws)
  | false => none
/-- A function in a table. -/
structure En where
  g : FuncId
  pm : List PM
  as : List RT
  ts : List RT
  nr : Nat
  G : YR D as → Option (YR D ts)
def spT {R : Type} : (t : Ty) → T D.S t → (T D.S t → Option R) → Option R
  | .ptr _, x, k => match x with | none => k none | some z => k (some z)
  | .st n, x, k => (D.spl n).f x k
  | .int _, x, k => k x
  | .bool, x, k => k x
  | .str, x, k => k x
  | .sl _, x, k => k x
theorem spT_eq {R : Type} : ∀ (t : Ty) (x : T D.S t) (k : T D.S t → Option R), spT D t x k = k x
  | .ptr _, none, k => rfl
  | .ptr _, some _, k => rfl
  | .st n, x, k => (D.spl n).h x k
  | .int _, x, k => rfl
  | .bool, x, k => rfl
  | .str, x, k => rfl
  | .sl _, x, k => rfl
def spR {R : Type} : (r : RT) → TT D r → (TT D r → Option R) → Option R
  | .v t, x, k => spT D t x k
  | .er, x, k => match x with | none => k none | some (t, i, n) => k (some (t, i, n))
  | .fc _, x, k => k x
theorem spR_eq {R : Type} : ∀ (r : RT) (x : TT D r) (k : TT D r → Option R), spR D r x k = k x
  | .v t, x, k => spT_eq D t x k
  | .er, none, k => rfl
  | .er, some (_, _, _), k => rfl
  | .fc _, x, k => rfl
/-- Values, parted by what stands behind their pointers. -/
def spY {R : Type} : (l : List RT) → YR D l → (YR D l → Option R) → Option R
  | [], x, k => k x
  | [r], x, k => spR D r x k
  | r :: r' :: l, x, k => spR D r x.1 fun a => spY (r' :: l) x.2 fun b => k (a, b)
theorem spY_eq {R : Type} : ∀ (l : List RT) (x : YR D l) (k : YR D l → Option R), spY D l x k = k x
  | [], x, k => rfl
  | [r], x, k => spR_eq D r x k
  | r :: r' :: l, x, k => by
    show (spR D r x.1 fun a => spY D (r' :: l) x.2 fun b => k (a, b)) = k x
    rw [spR_eq, spY_eq (r' :: l)]
def spX {R : Type} : (l : List Se) → X D l → (X D l → Option R) → Option R
  | [], x, k => k x
  | .v _ t :: l, (x, y), k => spT D t x fun x => spX l y fun y => k (x, y)
  | .own _ _ :: l, (x, y), k => spX l y fun y => k (x, y)
  | .ob _ t :: l, (x, y), k => spT D t x fun x => spX l y fun y => k (x, y)
  | .box _ _ t _ _ :: l, (x, y), k => spT D t x fun x => spX l y fun y => k (x, y)
  | .bx _ t _ :: l, (x, y), k => spT D t x fun x => spX l y fun y => k (x, y)
  | .fn _ _ _ :: l, x, k => spX l x k
theorem spX_eq {R : Type} : ∀ (l : List Se) (x : X D l) (k : X D l → Option R), spX D l x k = k x
  | [], x, k => rfl
  | .v _ t :: l, (x, y), k => by simp only [spX]; rw [spT_eq, spX_eq l]
  | .own _ _ :: l, (x, y), k => by simp only [spX]; rw [spX_eq l]
  | .ob _ t :: l, (x, y), k => by simp only [spX]; rw [spT_eq, spX_eq l]
  | .box _ _ t _ _ :: l, (x, y), k => by simp only [spX]; rw [spT_eq, spX_eq l]
  | .bx _ t _ :: l, (x, y), k => by simp only [spX]; rw [spT_eq, spX_eq l]
  | .fn _ _ _ :: l, x, k => spX_eq l x k
def enK {R : Type} (e : En D) (ws : List (A D.S)) (kk : List (A D.S) → List (List (C D.S)) → Option R) : Option R := match decArgs D e.pm e.as ws with
  | none => none
  | some x => (e.G x).bind fun y => spY D e.ts y fun y => kk (encRes D e.ts e.nr y) (encRef D e.ts e.nr y)
/-- The functions that are handed over are those that are told. -/
def okF : List PM → List RT → List (A D.S) → Bool
  | .clo ns :: ps, .fc f :: rs, x :: ws => match x with
    | .agg (.fn g [] :: _) => (match Nat.beq g f with | true => okF ps (rs.drop ns.length) ws | false => false)
    | _ => false
  | _ :: ps, .fc f :: rs, x :: ws => match x with
    | .c (.fn g []) => (match Nat.beq g f with | true => okF ps rs ws | false => false)
    | _ => false
  | _ :: ps, _ :: rs, _ :: ws => okF ps rs ws
  | _, _, _ => true
def findE : List (En D) → FuncId → List (A D.S) → Option (En D)
  | [], _, _ => none
  | e :: l, g, ws => match Nat.beq e.g g with
    | true => (match okF D e.pm e.as ws with | true => some e | false => findE l g ws)
    | false => findE l g ws
def tabH {R : Type} (l : List (En D)) : HH D R := fun g ws kk => match findE D l g ws with
  | some e => enK D e ws kk
  | none => none
end
section
variable {D : Tys} {P : Program}
def CL (cs cs' : List (C D.S)) : Prop := cs.length = cs'.length ∧ ∀ (i : Nat) c c', cs[i]? = some c → cs'[i]? = some c' → Cle c c'
inductive CLs : List (List (C D.S)) → List (List (C D.S)) → Prop
  | nil : CLs [] []
  | cons {cs cs' l l'} (h : CL cs cs') (t : CLs l l') : CLs (cs :: l) (cs' :: l')
theorem Cle.rfl' (c : C D.S) : Cle c c := fun _ _ _ h => h
theorem CL.rfl' (cs : List (C D.S)) : CL cs cs := ⟨rfl, fun i c c' h h' => by rw [h] at h'; obtain rfl := Option.some.inj h'; exact Cle.rfl' c⟩
theorem CL.pl {cs cs' : List (C D.S)} (h : CL cs cs') {w F vs} (r : PL w F cs vs) : PL w F cs' vs := by
  refine ⟨h.1.symm.trans r.1, fun j x v hx hv => ?_⟩
  have hj := (List.getElem?_eq_some_iff.mp hx).1
  have hj' : j < cs.length := by rw [h.1]; exact hj
  exact h.2 j _ _ (List.getElem?_eq_getElem hj') hx w F v (r.2 j _ v (List.getElem?_eq_getElem hj') hv)
theorem CLs.len {l l' : List (List (C D.S))} (h : CLs l l') : l.length = l'.length := by induction h with | nil => rfl | cons _ _ ih => simp [ih]
theorem CLs.at {l l' : List (List (C D.S))} (h : CLs l l') : ∀ (j : Nat) cs cs', l[j]? = some cs → l'[j]? = some cs' → CL cs cs' := by
  induction h with
  | nil => intro j cs cs' h; simp at h
  | cons h t ih =>
    intro j cs cs' h1 h2
    cases j with
    | zero => simp at h1 h2; subst h1; subst h2; exact h
    | succ j => simp at h1 h2; exact ih j cs cs' h1 h2
theorem decT_le (lw : Lawful D P) {r : RT} {cs : List (C D.S)} {x : TT D r} (h : decT D r cs = some x) : CL cs (encT D r x) := by
  cases r with
  | v t =>
    obtain ⟨h1, h2⟩ := decL_le lw h
    exact ⟨h1.trans (encL_len lw t x).symm, h2⟩
  | er =>
    simp only [decT] at h
    split at h
    · obtain rfl := Option.some.inj h; exact CL.rfl' _
    · obtain rfl := Option.some.inj h; exact CL.rfl' _
    · cases h
  | fc f =>
    simp only [decT] at h
    split at h
    · split at h
      · rename_i hb
        rw [Nat.eq_of_beq_eq_true hb]
        exact CL.rfl' _
      · cases h
    · cases h
theorem decY_le (lw : Lawful D P) : ∀ {l : List RT} {css : List (List (C D.S))} {y : YR D l}, decY D l css = some y → CLs css (encY D l y)
  | [], css, y, h => by
    simp only [decY] at h
    split at h
    · exact .nil
    · cases h
  | [r], css, y, h => by
    simp only [decY] at h
    split at h
    · exact .cons (decT_le lw h) .nil
    · cases h
  | r :: r' :: l, css, y, h => by
    simp only [decY] at h
    split at h
    · split at h
      · rename_i x hx
        split at h
        · rename_i y' hy
          obtain rfl := Option.some.inj h
          exact .cons (decT_le lw hx) (decY_le lw hy)
        · cases h
      · cases h
    · cases h
theorem RPA.cl {g : Bool} {x : A D.S} (hg : (isAggA x == g) = true) {cs' : List (C D.S)} (h : CL x.cells cs') {w F v} (r : RPA D w F x v) : RPA D w F (mkA2 D g cs') v := by
  have hg := eq_of_beq hg
  subst hg
  cases x with
  | c c =>
    have hl : cs'.length = 1 := h.1.symm
    match cs', hl, h with
    | [c'], _, h =>
      exact h.2 0 c c' rfl rfl w F v r
  | agg cs =>
    obtain ⟨us, rfl, r⟩ := r
    exact ⟨us, rfl, h.pl r⟩
theorem args_le {w : World} {F : Nat → Prop} : ∀ {pm : List PM} {as : List RT} {ws : List (A D.S)} {vs : List Value} {Ls : List Loc} {css : List (List (C D.S))}, Args D w F pm ws vs Ls → aggsP D pm as ws = true → CLs (cellsP D pm ws) css →
    Args D w F pm (wrapP D pm as css) vs Ls
  | _, [], _, _, _, _, .nil, hg, h => by cases h; exact .nil
  | _, r :: as, _, _, _, _, .nil, hg, h => by simp [aggsP] at hg
  | _, r :: as, _, _, _, _, .val x v rx t, hg, h => by
    simp only [aggsP] at hg
    split at hg
    · rename_i hx
      cases h with
      | cons hc ht => exact .val _ _ (RPA.cl hx hc rx) (args_le t hg ht)
    · cases hg
  | _, [], _, _, _, _, .val x v rx t, hg, h => by simp [aggsP] at hg
  | _, [], _, _, _, _, .ref cs L rl hF hn t, hg, h => by simp [aggsP] at hg
  | _, r :: as, _, _, _, _, .ref cs L rl hF hn t, hg, h => by
    simp only [aggsP] at hg
    split at hg
    · cases h with
      | cons hc ht =>
        refine .ref _ L ?_ hF hn (args_le t hg ht)
        obtain ⟨h1, us, ty, h2, h3, h4⟩ := rl
        exact ⟨h1, us, ty, h2, h3, hc.pl h4⟩
    · cases hg
theorem res_le {w : World} {F : Nat → Prop} : ∀ {ts : List RT} {res : List (A D.S)} {css css' : List (List (C D.S))} {rvs : List Value}, ResAll D w F res rvs → aggsA D ts res = true → CLs (appL D (cellsL D res) css) css' →
    ResAll D w F (wrapA D ts (css'.take res.length)) rvs ∧ CLs css (css'.drop res.length)
  | ts, [], css, css', rvs, hr, hg, h => by
    obtain ⟨h1, h2⟩ := hr
    obtain rfl : rvs = [] := List.length_eq_zero_iff.mp h1.symm
    refine ⟨?_, by simpa [cellsL, appL] using h⟩
    cases ts <;> exact ⟨rfl, fun j x v hx => by simp [wrapA] at hx⟩
  | [], x :: res, css, css', rvs, hr, hg, h => by simp [aggsA] at hg
  | r :: ts, x :: res, css, css', rvs, hr, hg, h => by
    simp only [aggsA] at hg
    split at hg
    · rename_i hx
      simp only [cellsL, appL] at h
      cases h with
      | cons hc ht =>
        rename_i cs' l'
        obtain ⟨h1, h2⟩ := hr
        match rvs, h1, h2 with
        | v :: rvs, h1, h2 =>
          obtain ⟨⟨g1, g2⟩, g3⟩ := res_le (rvs := rvs) ⟨by simpa using h1, fun j y u hy hu => h2 (j + 1) y u (by simpa using hy) (by simpa using hu)⟩ hg ht
          refine ⟨⟨by simp [wrapA, g1], fun j y u hy hu => ?_⟩, by simpa using g3⟩
          cases j with
          | zero => simp [wrapA] at hy hu; subst hy; subst hu; exact RPA.cl hx hc (h2 0 x v rfl rfl)
          | succ j => simp [wrapA] at hy hu; exact g2 j y u hy hu
    · cases hg
theorem lent_le {w : World} {F : Nat → Prop} {Ls : List Loc} {css css' : List (List (C D.S))} (h : LentAll D w F Ls css) (hc : CLs css css') : LentAll D w F Ls css' := by
  refine ⟨h.1.trans hc.len, fun j L cs hj hcs => ?_⟩
  have hl := (List.getElem?_eq_some_iff.mp hcs).1
  have hl' : j < css.length := by rw [hc.len]; exact hl
  obtain ⟨h1, us, ty, h2, h3, h4⟩ := h.2 j L _ hj (List.getElem?_eq_getElem hl')
  exact ⟨h1, us, ty, h2, h3, (hc.at j _ _ (List.getElem?_eq_getElem hl') hcs).pl h4⟩
/-- The program's function g does what e says. -/
def FnV (D : Tys) (P : Program) (e : En D) : Prop := ∀ x y, e.G x = some y → CallOk D P e.g e.pm (encArgs D e.pm e.as x) (encRes D e.ts e.nr y) (encRef D e.ts e.nr y)
def pmX : List XP → List PM
  | [] => []
  | .val :: ps => .val :: pmX ps
  | .ref _ _ _ :: ps => .ref :: pmX ps
  | .clo l :: ps => .clo (l.map (·.1)) :: pmX ps
/-- The function hands over, and answers, what is nobody else's. -/
def FnX (D : Tys) (P : Program) (e : En D) (xm : XMd) : Prop := e.pm = pmX xm.ps ∧ ∀ x y, e.G x = some y → CallX D P e.g xm (encArgs D e.pm e.as x) (encRes D e.ts e.nr y) (encRef D e.ts e.nr y)
def FnOk (D : Tys) (P : Program) (e : En D) : Prop := (xmOf D e.g = none → FnV D P e) ∧ ∀ xm, xmOf D e.g = some xm → FnX D P e xm
theorem FnV.ok {e : En D} (h : FnV D P e) (hw : xmOf D e.g = none) : FnOk D P e := ⟨fun _ => h, fun t ht => by rw [hw] at ht; cases ht⟩
theorem FnX.ok {e : En D} {xm : XMd} (h : FnX D P e xm) (hw : xmOf D e.g = some xm) : FnOk D P e := ⟨fun h' => (by rw [hw] at h'; cases h'), fun t ht => (by rw [hw] at ht; obtain rfl := Option.some.inj ht; exact h)⟩
inductive CQs : List (List (C D.S)) → List (List (C D.S)) → Prop
  | nil : CQs [] []
  | cons {cs cs' l l'} (h : CQ cs cs') (t : CQs l l') : CQs (cs :: l) (cs' :: l')
theorem decT_cq (lw : Lawful D P) {r : RT} {cs : List (C D.S)} {x : TT D r} (h : decT D r cs = some x) : CQ cs (encT D r x) := by
  cases r with
  | v t => exact decL_cq lw h
  | er =>
    simp only [decT] at h
    split at h
    · obtain rfl := Option.some.inj h; exact CQ.rfl' _
    · obtain rfl := Option.some.inj h; exact CQ.rfl' _
    · cases h
  | fc f =>
    simp only [decT] at h
    split at h
    · split at h
      · rename_i hb
        rw [Nat.eq_of_beq_eq_true hb]
        exact CQ.rfl' _
      · cases h
    · cases h
theorem decY_cq (lw : Lawful D P) : ∀ {l : List RT} {css : List (List (C D.S))} {y : YR D l}, decY D l css = some y → CQs css (encY D l y)
  | [], css, y, h => by
    simp only [decY] at h
    split at h
    · exact .nil
    · cases h
  | [r], css, y, h => by
    simp only [decY] at h
    split at h
    · exact .cons (decT_cq lw h) .nil
    · cases h
  | r :: r' :: l, css, y, h => by
    simp only [decY] at h
    split at h
    · split at h
      · rename_i x hx
        split at h
        · rename_i y' hy
          obtain rfl := Option.some.inj h
          exact .cons (decT_cq lw hx) (decY_cq lw hy)
        · cases h
      · cases h
    · cases h
theorem CQ.cl {cs cs' : List (C D.S)} (h : CQ cs cs') : CL cs cs' := ⟨h.1, fun i c c' h1 h2 => (h.2 i c c' h1 h2).le⟩
theorem CQs.len {l l' : List (List (C D.S))} (h : CQs l l') : l.length = l'.length := by induction h with | nil => rfl | cons _ _ ih => simp [ih]
theorem splitS_cat : ∀ (css : List (List (C D.S))), splitS D (css.map List.length) (catS D css) = css
  | [] => rfl
  | cs :: css => by simp only [List.map_cons, splitS, catS, List.take_left', List.drop_left', splitS_cat css]
theorem CQs.split : ∀ {a b l : List (List (C D.S))}, CQs (a ++ b) l → ∃ l1 l2, l = l1 ++ l2 ∧ CQs a l1 ∧ CQs b l2
  | [], b, l, h => ⟨[], l, rfl, .nil, h⟩
  | x :: a, b, _, .cons (cs' := y) h t => by
    obtain ⟨l1, l2, rfl, h1, h2⟩ := CQs.split t
    exact ⟨y :: l1, l2, rfl, .cons h h1, h2⟩
theorem CQs.lens : ∀ {a b : List (List (C D.S))}, CQs a b → b.map List.length = a.map List.length
  | _, _, .nil => rfl
  | _, _, .cons h t => by rw [List.map_cons, List.map_cons, t.lens, h.1]
theorem lentX_le {w : World} {F : Nat → Prop} {owns : List OwL} {Ls : List Loc} {css : List (List (C D.S))} {Bs : List Loc} (r : LentX D w F owns Ls css Bs) : ∀ {css' : List (List (C D.S))}, CQs css css' → LentX D w F owns Ls css' Bs := by
  induction r with
  | nil => intro css' h; cases h; exact .nil
  | cons r t ih =>
    intro css' h
    cases h with
    | cons hc ht =>
      obtain ⟨h1, us, ty, h2, h3, h4⟩ := r
      exact .cons ⟨h1, us, ty, h2, h3, h4.ceq hc⟩ (ih ht)
theorem argsX_le {w : World} {F : Nat → Prop} {ps : List XP} {ws : List (A D.S)} {vs : List Value} {Ls Os : List Loc} (r : ArgsX D w F ps ws vs Ls Os) : ∀ {as : List RT} {css : List (List (C D.S))}, aggsP D (pmX ps) as ws = true → CQs (cellsP D (pmX ps) ws) css →
    ArgsX D w F ps (wrapP D (pmX ps) as css) vs Ls Os := by
  induction r with
  | nil =>
    intro as css hg h
    cases as with
    | nil => exact .nil
    | cons r as => simp [aggsP, pmX] at hg
  | val x v rx t ih =>
    intro as css hg h
    cases as with
    | nil => simp [aggsP, pmX] at hg
    | cons r as =>
      simp only [aggsP, pmX] at hg
      split at hg
      · rename_i hx
        cases h with
        | cons hc ht => exact .val _ _ (RPA.cl hx hc.cl rx) (ih hg ht)
      · cases hg
  | ref off own out cs L Bs rl t ih =>
    intro as css hg h
    cases as with
    | nil => simp [aggsP, pmX] at hg
    | cons r as =>
      simp only [aggsP, pmX] at hg
      split at hg
      · cases h with
        | cons hc ht =>
          obtain ⟨h1, us, ty, h2, h3, h4⟩ := rl
          exact .ref off own out _ L Bs ⟨h1, us, ty, h2, h3, h4.ceq hc⟩ (ih hg ht)
      · cases hg
  | clo l f css0 L1 B1 r hs t ih =>
    rename_i ps ws vs Ls Os
    intro as css hg h
    cases as with
    | nil => simp [aggsP, pmX] at hg
    | cons rt as =>
      cases rt with
      | v t => simp [aggsP, pmX] at hg
      | er => simp [aggsP, pmX] at hg
      | fc f' =>
        simp only [aggsP, pmX] at hg
        split at hg
        · rename_i hf
          have e1 : cellsP D (pmX (.clo l :: ps)) (.agg (.fn f [] :: catS D css0) :: ws) = [.fn f []] :: (css0 ++ cellsP D (pmX ps) ws) := by
            simp only [pmX, cellsP, A.cells]
            rw [← hs, splitS_cat]; rfl
          rw [e1] at h
          cases h with
          | cons hc ht =>
            rename_i c0 rest
            obtain ⟨l1, l2, rfl, h1, h2⟩ := ht.split
            have hc0 : c0 = [.fn f []] := by
              match c0, hc with
              | [], hc => exact absurd hc.1 (by simp)
              | _ :: _ :: _, hc => exact absurd hc.1 (by simp)
              | [c'], hc =>
                rcases hc.2 0 _ c' rfl rfl with e | ⟨e | e, _⟩
                · rw [← e]
                · cases e
                · cases e
            subst hc0
            have ll : (l.map (·.1)).length = l1.length := by rw [← hs, List.length_map]; exact h1.len
            simp only [pmX, wrapP]
            rw [List.take_left' ll.symm, List.drop_left' ll.symm]
            exact .clo l f l1 L1 B1 (lentX_le r h1) (by rw [h1.lens]; exact hs) (ih hg h2)
        · cases hg
theorem resX_le {w : World} {F : Nat → Prop} {ro : OwL} {j : Nat} {res : List (A D.S)} {rvs : List Value} {Bs : List Loc} (r : ResO D w F ro j res rvs Bs) : ∀ {ts : List RT} {css css' : List (List (C D.S))}, aggsA D ts res = true → CQs (appL D (cellsL D res) css) css' →
    ResO D w F ro j (wrapA D ts (css'.take res.length)) rvs Bs ∧ CQs css (css'.drop res.length) := by
  induction r with
  | nil j =>
    intro ts css css' hg h
    refine ⟨?_, by simpa [cellsL, appL] using h⟩
    cases ts <;> exact .nil j
  | plain hj rx t ih =>
    intro ts css css' hg h
    cases ts with
    | nil => simp [aggsA] at hg
    | cons r ts =>
      simp only [aggsA] at hg
      split at hg
      · rename_i hx
        simp only [cellsL, appL] at h
        cases h with
        | cons hc ht =>
          obtain ⟨g1, g2⟩ := ih hg ht
          exact ⟨by simpa [wrapA] using ResO.plain hj (RPA.cl hx hc.cl rx) g1, by simpa using g2⟩
      · cases hg
  | own hj ro t ih =>
    rename_i j p c v xs vs B1 Bs
    intro ts css css' hg h
    cases ts with
    | nil => simp [aggsA] at hg
    | cons r ts =>
      simp only [aggsA] at hg
      split at hg
      · rename_i hx
        simp only [cellsL, appL] at h
        cases h with
        | cons hc ht =>
          rename_i cs' l'
          obtain ⟨g1, g2⟩ := ih hg ht
          have hagg : aggT r = false := (eq_of_beq hx).symm
          match cs', hc with
          | [], hc => exact absurd hc.1 (by simp [A.cells])
          | c' :: c2 :: l2, hc => exact absurd hc.1 (by simp [A.cells])
          | [c'], hc =>
            have q : Ceq c c' := hc.2 0 c c' rfl rfl
            refine ⟨?_, by simpa using g2⟩
            have := ResO.own hj (ro.ceq q) g1
            simpa [wrapA, mkA2, hagg] using this
      · cases hg
theorem CallX.le {g : FuncId} {xm : XMd} {as : List RT} {ws : List (A D.S)} (lw : Lawful D P) {x : YR D as} (hx : decArgs D (pmX xm.ps) as ws = some x) {res css} (h : CallX D P g xm (encArgs D (pmX xm.ps) as x) res css) : CallX D P g xm ws res css := by
  unfold decArgs at hx
  split at hx
  · rename_i hg
    exact fun w F vs Ls Os h1 h2 h3 h4 h5 hA => h w F vs Ls Os h1 h2 h3 h4 h5 (argsX_le hA hg (decY_cq lw hx))
  · cases hx
theorem enK_nat {R : Type} {e : En D} {ws : List (A D.S)} {kk : List (A D.S) → List (List (C D.S)) → Option R} {r : R} (h : enK D e ws kk = some r) :
    ∃ x y, decArgs D e.pm e.as ws = some x ∧ e.G x = some y ∧ kk (encRes D e.ts e.nr y) (encRef D e.ts e.nr y) = some r ∧ ∀ kk2 : List (A D.S) → List (List (C D.S)) → Option R, enK D e ws kk2 = kk2 (encRes D e.ts e.nr y) (encRef D e.ts e.nr y) := by
  unfold enK at h
  split at h
  · cases h
  · rename_i x hx
    obtain ⟨y, hy, h⟩ := Option.bind_eq_some_iff.mp h
    rw [spY_eq] at h
    exact ⟨x, y, hx, hy, h, fun kk2 => by unfold enK; rw [hx]; simp only [hy, Option.bind_some, spY_eq]⟩
theorem findE_mem : ∀ {l : List (En D)} {g : FuncId} {ws : List (A D.S)} {e : En D}, findE D l g ws = some e → e ∈ l ∧ e.g = g
  | x :: l, g, ws, e, h => by
    unfold findE at h
    split at h
    · rename_i hb
      split at h
      · obtain rfl := Option.some.inj h
        exact ⟨List.mem_cons_self, Nat.eq_of_beq_eq_true hb⟩
      · obtain ⟨h1, h2⟩ := findE_mem h
        exact ⟨List.mem_cons_of_mem _ h1, h2⟩
    · obtain ⟨h1, h2⟩ := findE_mem h
      exact ⟨List.mem_cons_of_mem _ h1, h2⟩
theorem tabH_nat {R : Type} (l : List (En D)) : HNat (tabH (R := R) D l) := fun g ws kk r h => by
  unfold tabH at h
  split at h
  · rename_i e he
    obtain ⟨x, y, _, _, h1, h2⟩ := enK_nat h
    exact ⟨_, _, h1, fun kk2 => by unfold tabH; rw [he]; exact h2 kk2⟩
  · cases h
/-- Told with more, called with less. -/
theorem CallOk.le {g : FuncId} {pm : List PM} {as : List RT} {ws : List (A D.S)} (lw : Lawful D P) {x : YR D as} (hx : decArgs D pm as ws = some x) {res css} (h : CallOk D P g pm (encArgs D pm as x) res css) : CallOk D P g pm ws res css := by
  unfold decArgs at hx
  split at hx
  · rename_i hg
    exact fun w F vs Ls hF hG hR hA => h w F vs Ls hF hG hR (args_le hA hg (decY_le lw hx))
  · cases hx
theorem tabH_ok {R : Type} (lw : Lawful D P) {l : List (En D)} (hm : ∀ e ∈ l, ∀ md, lk D.mode e.g = some md → md.ps = e.pm) (h : ∀ e ∈ l, FnOk D P e) : HOk (R := R) D P (tabH D l) := by
  refine ⟨fun g ws kk r md hmd hx0 hk => ?_, fun g ws kk r xm ho hk => ?_⟩
  · obtain ⟨res, css, h1, h2⟩ := tabH_nat l g ws kk r hk
    unfold tabH at hk
    split at hk
    · rename_i e he
      obtain ⟨hm1, rfl⟩ := findE_mem he
      obtain ⟨x, y, hx, hy, k1, k2⟩ := enK_nat hk
      refine ⟨_, _, k1, ?_, fun kk2 => by unfold tabH; rw [he]; exact k2 kk2⟩
      rw [hm e hm1 md hmd]
      exact CallOk.le lw hx ((h e hm1).1 (by unfold xmOf; rw [hmd]; exact hx0) x y hy)
    · cases hk
  · unfold tabH at hk
    split at hk
    · rename_i e he
      obtain ⟨hm1, rfl⟩ := findE_mem he
      obtain ⟨x, y, hx, hy, k1, k2⟩ := enK_nat hk
      obtain ⟨e1, hc⟩ := (h e hm1).2 xm ho
      have hc := hc x y hy
      rw [e1] at hx hc
      exact ⟨_, _, k1, CallX.le lw hx hc⟩
    · cases hk
end
end Go.Proofs.Ytkpjeihgigmnkaa.Ev
/- Values without memory: a function's loops; the function as a whole, told. -/
namespace Go.Proofs.Ytkpjeihgigmnkaa.Ev
open Go
set_option linter.unusedVariables false
set_option linter.unusedSimpArgs false
theorem walk_place {body : Code} : ∀ (f p : Nat) (c : Code) (t : List It), walk body f p = some (c, t) → Place body p c t
  | 0, p, c, t, h => by simp [walk] at h
  | f + 1, p, c, t, h => by
    unfold walk at h
    split at h
    · rename_i hp
      rw [Nat.eq_of_beq_eq_true hp]
      injection h with h; injection h with h1 h2
      subst h1; subst h2
      exact .root
    · have ev : Nat.beq (p % 2) 0 = true → p = 2 * (p / 2) := fun h => by have := Nat.eq_of_beq_eq_true h; omega
      have od : Nat.beq (p % 2) 0 = false → p = 2 * (p / 2) + 1 := fun h => by have := ne_of_beq h; omega
      have key : ∀ {q : Nat} {c : Code} {t : List It}, p = q → Place body q c t → Place body p c t := fun e h => e ▸ h
      split at h
      · rename_i hw
        have ih := walk_place f _ _ _ hw
        split at h
        · rename_i hb
          injection h with h; injection h with h1 h2; subst h1; subst h2
          exact key (ev hb) (.seqL ih)
        · rename_i hb
          injection h with h; injection h with h1 h2; subst h1; subst h2
          exact key (od hb) (.seqR ih)
      · rename_i hw
        have ih := walk_place f _ _ _ hw
        split at h
        · rename_i hb
          injection h with h; injection h with h1 h2; subst h1; subst h2
          exact key (ev hb) (.condL ih)
        · rename_i hb
          injection h with h; injection h with h1 h2; subst h1; subst h2
          exact key (od hb) (.condR ih)
      · rename_i hw
        have ih := walk_place f _ _ _ hw
        split at h
        · rename_i hb
          injection h with h; injection h with h1 h2; subst h1; subst h2
          exact key (ev hb) (.block ih)
        · cases h
      · rename_i hw
        have ih := walk_place f _ _ _ hw
        split at h
        · rename_i hb
          injection h with h; injection h with h1 h2; subst h1; subst h2
          exact key (ev hb) (.loop ih)
        · cases h
      · cases h
/-- A place at which the code is cut, and what is told there. -/
structure Cut where
  p : Nat
  sh : List Se
def findC : List Cut → Nat → Option Cut
  | [], _ => none
  | c :: l, p => match Nat.beq c.p p with | true => some c | false => findC l p
def cutPs : List Cut → List Nat
  | [] => []
  | c :: l => c.p :: cutPs l
section
variable (D : Tys) {R : Type}
abbrev LL (R : Type) := (c : Cut) → X D c.sh → Option R
def kapK (cuts : List Cut) (L : LL D R) (p : Nat) (fr : Tr (V D.S)) (hp : Tr (B D.S)) : Option R := match findC cuts p with
  | some c => cutK D c.sh fr hp (L c)
  | none => none
def stepK (H : HH D R) (body : Code) (cuts : List Cut) (ρ : Tr (V D.S) → Tr (B D.S) → Option R) (N : Nat) (L : LL D R) (c : Cut) (x : X D c.sh) : Option R := match walk body 400 c.p with
  | some (cd, t) => stK D c.sh x fun fr hp => runK D H (cutPs cuts) (kapK D cuts L) ρ N false (.code cd c.p :: t) fr hp
  | none => none
def Lf (H : HH D R) (body : Code) (cuts : List Cut) (ρ : Tr (V D.S) → Tr (B D.S) → Option R) (N : Nat) : Nat → LL D R
  | 0 => fun _ _ => none
  | n + 1 => stepK D H body cuts ρ N (Lf H body cuts ρ N n)
end
open Classical in
noncomputable def lim {R : Type} (f : Nat → Option R) : Option R := if h : ∃ n r, f n = some r then f (Classical.choose h) else none
theorem lim_some {R : Type} {f : Nat → Option R} {r : R} (h : lim f = some r) : ∃ n, f n = some r := by
  unfold lim at h
  split at h
  · exact ⟨_, h⟩
  · cases h
theorem lim_of {R : Type} {f : Nat → Option R} (hm : ∀ n m r, n ≤ m → f n = some r → f m = some r) {n : Nat} {r : R} (h : f n = some r) : lim f = some r := by
  have hex : ∃ n r, f n = some r := ⟨n, r, h⟩
  unfold lim
  rw [dif_pos hex]
  obtain ⟨r', hr'⟩ := Classical.choose_spec hex
  rcases Nat.le_total n (Classical.choose hex) with hl | hl
  · exact hm _ _ _ hl h
  · rw [hr', ← hm _ _ _ hl hr', h]
section
variable {D : Tys} {P : Program} {R : Type} {H : HH D R} {body : Code} {cuts : List Cut} {ρ : Tr (V D.S) → Tr (B D.S) → Option R} {N : Nat}
noncomputable def Li (D : Tys) {R : Type} (H : HH D R) (body : Code) (cuts : List Cut) (ρ : Tr (V D.S) → Tr (B D.S) → Option R) (N : Nat) : LL D R := fun c x => lim fun n => Lf D H body cuts ρ N n c x
theorem cutK_nat {l : List Se} {fr : Tr (V D.S)} {hp : Tr (B D.S)} {k : X D l → Option R} {r : R} (h : cutK D l fr hp k = some r) : ∃ x, k x = some r ∧ ∀ k2 : X D l → Option R, cutK D l fr hp k2 = k2 x := by
  unfold cutK at h
  split at h
  · split at h
    · exact ⟨_, h, fun k2 => by unfold cutK; simp only [*]⟩
    · cases h
  · cases h
theorem findC_mem : ∀ {l : List Cut} {p : Nat} {c : Cut}, findC l p = some c → c ∈ l ∧ c.p = p
  | x :: l, p, c, h => by
    unfold findC at h
    split at h
    · rename_i hb
      obtain rfl := Option.some.inj h
      exact ⟨List.mem_cons_self, Nat.eq_of_beq_eq_true hb⟩
    · obtain ⟨h1, h2⟩ := findC_mem h
      exact ⟨List.mem_cons_of_mem _ h1, h2⟩
theorem kapK_nat {L : LL D R} {p : Nat} {fr : Tr (V D.S)} {hp : Tr (B D.S)} {r : R} (h : kapK D cuts L p fr hp = some r) : ∃ c x, L c x = some r ∧ ∀ L2 : LL D R, kapK D cuts L2 p fr hp = L2 c x := by
  unfold kapK at h
  split at h
  · rename_i c hc
    obtain ⟨x, h1, h2⟩ := cutK_nat h
    exact ⟨c, x, h1, fun L2 => by unfold kapK; rw [hc]; exact h2 _⟩
  · cases h
def Out (L : LL D R) (r : R) (g : LL D R → Option R) : Prop := (∀ L2, g L2 = some r) ∨ ∃ c x, L c x = some r ∧ ∀ L2, g L2 = L2 c x
theorem run_out (hH : HNat H) {n : Nat} {here : Bool} {todo : List It} {fr : Tr (V D.S)} {hp : Tr (B D.S)} {L : LL D R} {r : R} (h : runK D H (cutPs cuts) (kapK D cuts L) ρ n here todo fr hp = some r) :
    Out L r fun L2 => runK D H (cutPs cuts) (kapK D cuts L2) ρ n here todo fr hp := by
  rcases runK_nat hH n here todo fr hp h with ⟨fr', hp', h1, h2⟩ | ⟨p, fr', hp', h1, h2⟩
  · exact .inl fun L2 => (h2 _ _).trans h1
  · obtain ⟨c, x, h3, h4⟩ := kapK_nat h1
    exact .inr ⟨c, x, h3, fun L2 => (h2 _ _).trans (h4 L2)⟩
theorem step_out (hH : HNat H) {L : LL D R} {c : Cut} {x : X D c.sh} {r : R} (h : stepK D H body cuts ρ N L c x = some r) : Out L r fun L2 => stepK D H body cuts ρ N L2 c x := by
  unfold stepK at h
  split at h
  · rename_i cd t hw
    unfold stK at h
    rw [mkTK_eq, mkTK_eq] at h
    have e : ∀ L2, stepK D H body cuts ρ N L2 c x = runK D H (cutPs cuts) (kapK D cuts L2) ρ N false (.code cd c.p :: t) (mkT (frI D (imL D c.sh x))) (mkT (hpI D (imL D c.sh x))) := fun L2 => by
      unfold stepK stK; rw [hw]; simp only; rw [mkTK_eq, mkTK_eq]
    rcases run_out hH h with h | ⟨c', x', h1, h2⟩
    · exact .inl fun L2 => (e L2).trans (h L2)
    · exact .inr ⟨c', x', h1, fun L2 => (e L2).trans (h2 L2)⟩
  · cases h
theorem Out.mono {L L' : LL D R} {r : R} {g : LL D R → Option R} (h : Out L r g) (hl : ∀ c x, L c x = some r → L' c x = some r) : g L' = some r := by
  rcases h with h | ⟨c, x, h1, h2⟩
  · exact h L'
  · exact (h2 L').trans (hl c x h1)
theorem Lf_succ (hH : HNat H) : ∀ (n : Nat) (c : Cut) (x : X D c.sh) (r : R), Lf D H body cuts ρ N n c x = some r → Lf D H body cuts ρ N (n + 1) c x = some r
  | 0, c, x, r, h => by simp [Lf] at h
  | n + 1, c, x, r, h => (step_out hH h).mono fun c x h => Lf_succ hH n c x r h
theorem Lf_mono (hH : HNat H) (c : Cut) (x : X D c.sh) (n m : Nat) (r : R) (hl : n ≤ m) (h : Lf D H body cuts ρ N n c x = some r) : Lf D H body cuts ρ N m c x = some r := by
  induction hl with
  | refl => exact h
  | step _ ih => exact Lf_succ hH _ c x r ih
theorem Li_of (hH : HNat H) {n : Nat} {c : Cut} {x : X D c.sh} {r : R} (h : Lf D H body cuts ρ N n c x = some r) : Li D H body cuts ρ N c x = some r := lim_of (fun n m r => Lf_mono hH c x n m r) h
/-- What the loops answer is what one turn of them answers. -/
theorem Li_eq (hH : HNat H) (c : Cut) (x : X D c.sh) : Li D H body cuts ρ N c x = stepK D H body cuts ρ N (Li D H body cuts ρ N) c x := by
  apply Option.ext
  intro r
  constructor
  · intro h
    obtain ⟨n, h⟩ := lim_some h
    cases n with
    | zero => simp [Lf] at h
    | succ n => exact (step_out hH h).mono fun c x h => Li_of hH h
  · intro h
    rcases step_out hH h with h1 | ⟨c', x', h1, h2⟩
    · exact Li_of hH (n := 1) (h1 _)
    · obtain ⟨n, h3⟩ := lim_some h1
      exact Li_of hH (n := n + 1) ((h2 _).trans h3)
def cutOk (rf : List Nat) (c : Cut) : Bool := rf.all fun i => (seIds c.sh).elem i
theorem cutOk_at {rf : List Nat} {c : Cut} (h : cutOk rf c = true) : ∀ i ∈ rf, i ∈ seIds c.sh := fun i hi => by
  have h1 := List.all_eq_true.mp h i hi
  rw [List.elem_eq_contains, List.contains_iff_mem] at h1
  exact h1
theorem Lf_ok (lw : Lawful D P) (hH : HOk D P H) (hN : HNat H) {K : Kx D} (hok : okC K.n body = true) {rf : List Nat} (hrf : ∀ i L, (i, L) ∈ K.refs → i ∈ rf) (hc : cuts.all (cutOk rf) = true) :
    ∀ (n : Nat) (c : Cut) (x : X D c.sh) (cd : Code) (t : List It) (r : R), Place body c.p cd t → Lf D H body cuts ρ N n c x = some r → Comes' P K (.code cd c.p :: t) (mkT (frI D (imL D c.sh x))) (mkT (hpI D (imL D c.sh x))) fun fr hp => ρ fr hp = some r
  | 0, c, x, cd, t, r, hp, h => by simp [Lf] at h
  | n + 1, c, x, cd, t, r, hpl, h => by
    unfold Lf stepK at h
    split at h
    · rename_i cd' t' hw
      obtain ⟨rfl, rfl⟩ := Place.uniq hpl (walk_place _ _ _ _ hw)
      unfold stK at h
      rw [mkTK_eq, mkTK_eq] at h
      refine runK_ok lw hH hN hok (fun p c0 t0 fr hp hp0 h0 => ?_) N false _ _ _ (.code hpl hpl.good) h
      unfold kapK at h0
      split at h0
      · rename_i c' hc'
        obtain ⟨hm, rfl⟩ := findC_mem hc'
        have hco := List.all_eq_true.mp hc c' hm
        intro β F a w s b cs
        obtain ⟨x', h1, β2, F1, s'⟩ := cut_ok lw s h0 (fun i L hi => cutOk_at hco i (hrf i L hi))
        exact Lf_ok lw hH hN hok hrf hc n c' x' c0 t0 r hp0 h1 β2 F1 a w s' b cs
      · cases h0
    · cases h
end
/-- A function, as it is told. -/
structure FD where
  g : FuncId
  body : Code
  rs : List ResultVar
  nt : Nat
  pm : List PM
  as : List RT
  ts : List RT
  nr : Nat
  cuts : List Cut
  N : Nat
  xm : Option XMd := none
section
variable (D : Tys)
def finF (f : FD) : Tr (V D.S) → Tr (B D.S) → Option (YR D f.ts) := match f.xm with
  | none => finK D f.rs (refI 0 f.pm) (decRes D f.ts f.nr)
  | some xm => finXK D (n0X xm.ps) f.rs xm.ro (refX 0 xm.ps) (decRes D f.ts f.nr)
def frS (f : FD) (ws : List (A D.S)) : List (Nat × V D.S) := match f.xm with
  | none => frE D 0 f.pm ws
  | some xm => frI D (imX 0 xm.ps ws)
def hpS (f : FD) (ws : List (A D.S)) : List (Nat × B D.S) := match f.xm with
  | none => hpE D 0 f.pm ws
  | some xm => hpI D (imX 0 xm.ps ws)
def okS (f : FD) (ws : List (A D.S)) : Bool := match f.xm with
  | none => true
  | some xm => imOk D (imX 0 xm.ps ws)
def entW (f : FD) (H : HH D (YR D f.ts)) (L : LL D (YR D f.ts)) (ws : List (A D.S)) : Option (YR D f.ts) := match okS D f ws with
  | true => mkTK (frS D f ws) fun fr => mkTK (hpS D f ws) fun hp => runK D H (cutPs f.cuts) (kapK D f.cuts L) (finF D f) f.N false [.code f.body 1] fr hp
  | false => none
def entK (f : FD) (H : HH D (YR D f.ts)) (L : LL D (YR D f.ts)) (x : YR D f.as) : Option (YR D f.ts) := entW D f H L (encArgs D f.pm f.as x)
noncomputable def LiF (f : FD) (H : HH D (YR D f.ts)) : LL D (YR D f.ts) := Li D H f.body f.cuts (finF D f) f.N
abbrev stepF (f : FD) (H : HH D (YR D f.ts)) (L : LL D (YR D f.ts)) (c : Cut) (x : X D c.sh) : Option (YR D f.ts) := stepK D H f.body f.cuts (finF D f) f.N L c x
noncomputable def Gof (f : FD) (H : HH D (YR D f.ts)) (x : YR D f.as) : Option (YR D f.ts) := entK D f H (LiF D f H) x
end
def pmEq : List PM → List PM → Bool
  | [], [] => true
  | .val :: l, .val :: m => pmEq l m
  | .ref :: l, .ref :: m => pmEq l m
  | .clo a :: l, .clo b :: m => match eqN a b with | true => pmEq l m | false => false
  | _, _ => false
theorem pmEq_ok : ∀ {l m : List PM}, pmEq l m = true → l = m
  | [], [], _ => rfl
  | .val :: l, .val :: m, h => by rw [pmEq_ok (l := l) (m := m) h]
  | .ref :: l, .ref :: m, h => by rw [pmEq_ok (l := l) (m := m) h]
  | .clo a :: l, .clo b :: m, h => by
    simp only [pmEq] at h
    split at h
    · rename_i hb
      rw [eqN_eq hb, pmEq_ok (l := l) (m := m) h]
    · cases h
  | .val :: l, .ref :: m, h => by cases h
  | .val :: l, .clo _ :: m, h => by cases h
  | .ref :: l, .val :: m, h => by cases h
  | .ref :: l, .clo _ :: m, h => by cases h
  | .clo _ :: l, .val :: m, h => by cases h
  | .clo _ :: l, .ref :: m, h => by cases h
  | [], .val :: _, h => by cases h
  | [], .ref :: _, h => by cases h
  | [], .clo _ :: _, h => by cases h
  | .val :: _, [], h => by cases h
  | .ref :: _, [], h => by cases h
  | .clo _ :: _, [], h => by cases h
def idsF (f : FD) : List Nat := match f.xm with
  | none => refI 0 f.pm
  | some xm => keysN (refX 0 xm.ps)
def xmOk (f : FD) : Bool := match f.xm with
  | none => true
  | some xm => pmEq f.pm (pmX xm.ps) && refOk xm.ps
def fdOk (f : FD) : Bool := okC f.nt f.body && decide (f.pm.length ≤ f.nt) && decide (f.pm.length < 3000) && f.cuts.all (cutOk (idsF f)) && xmOk f
theorem rfE_refI : ∀ (ps : List PM) (Ls : List Loc) (i k : Nat) (L : Loc), (k, L) ∈ rfE i ps Ls → k ∈ refI i ps
  | [], Ls, i, k, L, h => by simp [rfE] at h
  | .val :: ps, Ls, i, k, L, h => by simp only [rfE, refI] at h ⊢; exact rfE_refI ps Ls (i + 1) k L h
  | .clo _ :: ps, Ls, i, k, L, h => by simp only [rfE, refI] at h ⊢; exact rfE_refI ps Ls (i + 1) k L h
  | .ref :: ps, [], i, k, L, h => by simp [rfE] at h
  | .ref :: ps, L' :: Ls, i, k, L, h => by
    simp only [rfE, refI] at h ⊢
    rcases List.mem_cons.mp h with e | h
    · injection e with e1 e2; subst e1; exact List.mem_cons_self
    · exact List.mem_cons_of_mem _ (rfE_refI ps Ls (i + 1) k L h)
theorem rfE_mem : ∀ {ps : List PM} {Ls : List Loc} {i : Nat} {r : Nat × Loc}, r ∈ rfE i ps Ls → r.2 ∈ Ls
  | [], Ls, i, r, h => by simp [rfE] at h
  | .val :: ps, Ls, i, r, h => by simp only [rfE] at h; exact rfE_mem h
  | .clo _ :: ps, Ls, i, r, h => by simp only [rfE] at h; exact rfE_mem h
  | .ref :: ps, [], i, r, h => by simp [rfE] at h
  | .ref :: ps, L :: Ls, i, r, h => by
    simp only [rfE] at h
    rcases List.mem_cons.mp h with e | h
    · rw [e]; exact List.mem_cons_self
    · exact List.mem_cons_of_mem _ (rfE_mem h)
section
variable {D : Tys} {P : Program}
theorem keysN_eq : ∀ (l : List (Nat × OwL)), keysN l = l.map (·.1)
  | [] => rfl
  | (i, _) :: l => by simp [keysN, keysN_eq l]
theorem pmX_len : ∀ (ps : List XP), (pmX ps).length = ps.length
  | [] => rfl
  | .val :: ps => by simp [pmX, pmX_len ps]
  | .ref _ _ _ :: ps => by simp [pmX, pmX_len ps]
  | .clo _ :: ps => by simp [pmX, pmX_len ps]
theorem fdW_ok (lw : Lawful D P) {f : FD} {H : HH D (YR D f.ts)} (hH : HOk D P H) (hN : HNat H) {fn : Func} (hf : P.funcs[f.g]? = some fn) (hb : fn.body = some f.body) (hr : fn.results.toList = f.rs) (hn : fn.ntmps = f.nt)
    (hcall : ∀ args w, (callFunc f.g args).run P w = .ok (.enter f.g args) w) (hok : fdOk f = true) (hxm : f.xm = none) {ws0 : List (A D.S)} {y : YR D f.ts} (hx : entW D f H (LiF D f H) ws0 = some y) : CallOk D P f.g f.pm ws0 (encRes D f.ts f.nr y) (encRef D f.ts f.nr y) := by
  intro w F vs Ls hold hG hR hA
  refine .inl ⟨hcall _ _, ?_⟩
  simp only [fdOk, Bool.and_eq_true, decide_eq_true_eq] at hok
  obtain ⟨⟨⟨⟨hok1, hok2⟩, hok3⟩, hok4⟩, hok5⟩ := hok
  unfold entW at hx
  simp only [okS, frS, hpS, hxm] at hx
  rw [mkTK_eq, mkTK_eq] at hx
  have hids : idsF f = refI 0 f.pm := by unfold idsF; rw [hxm]
  rw [hids] at hok4
  intro cs
  let b : Frame := { (default : Frame) with fn := f.g, kind := .normal }
  let a0 : Act := { tmps := vs.toArray ++ Array.replicate (fn.ntmps - vs.toArray.size) undef, defers := [] }
  have henter : Frame.enter P f.g vs.toArray .normal = b.at a0 [.code f.body] := by
    simp [Frame.enter, Frame.at, hf, hb, b, a0]
  have s0 := enter_ok (n := fn.ntmps) hold hG (fun x hx r hr => hR x hx r.2 (rfE_mem hr)) hA (by rw [hn]; exact hok2) hok3
  have hcm := runK_ok (K := { w0 := w, F0 := F, refs := rfE 0 f.pm Ls, n := fn.ntmps, gl := hG, gr := fun x hx r hr => hR x hx r.2 (rfE_mem hr), lg := fun _ _ h => ((List.not_mem_nil h).elim), lf := fun _ h => ((List.not_mem_nil h).elim), rlt := rltE hA hok3 }) lw hH hN (body := f.body) (by rw [hn]; exact hok1) (fun p c0 t0 fr hp hp0 h0 => by
    unfold kapK at h0
    split at h0
    · rename_i c' hc'
      obtain ⟨hm, rfl⟩ := findC_mem hc'
      have hco := List.all_eq_true.mp hok4 c' hm
      intro β F a w s b cs
      obtain ⟨x', h1, β2, F1, s'⟩ := cut_ok lw s h0 (fun i L hi => cutOk_at hco i (rfE_refI _ _ _ _ _ hi))
      obtain ⟨n, h2⟩ := lim_some h1
      exact Lf_ok lw hH hN (by rw [hn]; exact hok1) (fun i L hi => rfE_refI _ _ _ _ _ hi) hok4 n c' x' c0 t0 y hp0 h2 β2 F1 a w s' b cs
    · cases h0) f.N false _ _ _ (.code .root .nil) hx
  obtain ⟨fr', hp', β', F', a', w', todo', h1, h2, h3⟩ := hcm _ _ _ _ s0 b cs
  have h1 : finK D f.rs (refI 0 f.pm) (decRes D f.ts f.nr) fr' hp' = some y := by
    have h1 := h1
    unfold finF at h1
    simp only [hxm] at h1
    exact h1
  obtain ⟨ws, css, rvs, F'', k1, k2, k3, k4, k5, k6, k7⟩ := leave_ok (fn := fn) lw hold (args_refs hA) h2 (fun k L hm => (rfE_at hA 0).2.1 k L hm |>.2.2.1) (by rw [hr]; exact h1)
  unfold decRes at k1
  split at k1
  · rename_i hg
    rw [Bool.and_eq_true] at hg
    have hlen := Nat.eq_of_beq_eq_true hg.1
    have hcl := decY_le lw k1
    obtain ⟨g1, g2⟩ := res_le k6 hg.2 hcl
    rw [hlen] at g1 g2
    refine ⟨.returned (tupV rvs), w', { b.at a' todo' with mode := .returning }, ⟨rvs, F'', rfl, k3, k4, k5, g1, lent_le k7 g2⟩, ?_, rfl, rfl, h2.df, rfl, fn, hf, k2⟩
    rw [henter]
    exact h3
  · cases k1
theorem fdWX_ok (lw : Lawful D P) {f : FD} {H : HH D (YR D f.ts)} (hH : HOk D P H) (hN : HNat H) {fn : Func} (hf : P.funcs[f.g]? = some fn) (hb : fn.body = some f.body) (hr : fn.results.toList = f.rs) (hn : fn.ntmps = f.nt)
    (hcall : ∀ args w, (callFunc f.g args).run P w = .ok (.enter f.g args) w) (hok : fdOk f = true) {xm : XMd} (hxm : f.xm = some xm) {ws0 : List (A D.S)} {y : YR D f.ts} (hx : entW D f H (LiF D f H) ws0 = some y) : CallX D P f.g xm ws0 (encRes D f.ts f.nr y) (encRef D f.ts f.nr y) := by
  intro w F vs Ls Os hold hG hgl hnF hnd hA
  refine .inl ⟨hcall _ _, ?_⟩
  simp only [fdOk, Bool.and_eq_true, decide_eq_true_eq] at hok
  obtain ⟨⟨⟨⟨hok1, hok2⟩, hok3⟩, hok4⟩, hok5⟩ := hok
  have hids : idsF f = keysN (refX 0 xm.ps) := by unfold idsF; rw [hxm]
  rw [hids] at hok4
  unfold xmOk at hok5
  rw [hxm] at hok5
  simp only [Bool.and_eq_true] at hok5
  obtain ⟨hok5, hrfk⟩ := hok5
  have hpm : f.pm = pmX xm.ps := pmEq_ok hok5
  rw [hpm, pmX_len] at hok2 hok3
  unfold entW at hx
  split at hx
  case h_2 => cases hx
  rename_i hims
  simp only [okS, hxm] at hims
  simp only [frS, hpS, hxm] at hx
  rw [mkTK_eq, mkTK_eq] at hx
  intro cs
  obtain ⟨e1, e2, e5, e6⟩ := hA.rf 0
  have hm : ∀ r ∈ rfX 0 xm.ps Ls, r.2 ∈ Ls ∧ r.1 < 3000 := fun r hr => ⟨((hA.rfOk hrfk).1 r hr).2.2, ((hA.rfOk hrfk).1 r hr).2.1⟩
  let b : Frame := { (default : Frame) with fn := f.g, kind := .normal }
  let a0 : Act := { tmps := vs.toArray ++ Array.replicate (fn.ntmps - vs.toArray.size) undef, defers := [] }
  have henter : Frame.enter P f.g vs.toArray .normal = b.at a0 [.code f.body] := by
    simp [Frame.enter, Frame.at, hf, hb, b, a0]
  obtain ⟨β0, s0⟩ := enterX_ok (n := fn.ntmps) lw hold hG hgl hnF hnd hA (by rw [hn]; exact hok2) hims hm
  have hrf : ∀ i L, (i, L) ∈ rfX 0 xm.ps Ls → i ∈ keysN (refX 0 xm.ps) := fun i L hi => by
    rw [keysN_eq, e5]; exact List.mem_map.mpr ⟨_, hi, rfl⟩
  have hcm := runK_ok (K := KX w F xm.ps Ls Os fn.ntmps hG hgl hm) lw hH hN (body := f.body) (by rw [show (KX w F xm.ps Ls Os fn.ntmps hG hgl hm).n = fn.ntmps from rfl, hn]; exact hok1) (fun p c0 t0 fr hp hp0 h0 => by
    unfold kapK at h0
    split at h0
    · rename_i c' hc'
      obtain ⟨hmm, rfl⟩ := findC_mem hc'
      have hco := List.all_eq_true.mp hok4 c' hmm
      intro β F a w s b cs
      obtain ⟨x', h1, β2, F1, s'⟩ := cut_ok lw s h0 (fun i L hi => cutOk_at hco i (hrf i L hi))
      obtain ⟨n, h2⟩ := lim_some h1
      exact Lf_ok lw hH hN (by rw [show (KX _ _ xm.ps Ls Os fn.ntmps hG hgl hm).n = fn.ntmps from rfl, hn]; exact hok1) (fun i L hi => hrf i L hi) hok4 n c' x' c0 t0 y hp0 h2 β2 F1 a w s' b cs
    · cases h0) f.N false _ _ _ (.code .root .nil) hx
  obtain ⟨fr', hp', β', F', a', w', todo', h1, h2, h3⟩ := hcm _ _ _ _ s0 b cs
  have h1 : finXK D (n0X xm.ps) f.rs xm.ro (refX 0 xm.ps) (decRes D f.ts f.nr) fr' hp' = some y := by
    have h1 := h1
    unfold finF at h1
    simp only [hxm] at h1
    exact h1
  obtain ⟨ws, css, rvs, F'', B1, B2, k1, k2, k3, k4, k5, k6, k7, k8, k9⟩ := leaveX_ok (fn := fn) lw hold hA hnF hnd h2 hrfk (by rw [hr]; exact h1)
  unfold decRes at k1
  split at k1
  · rename_i hg
    rw [Bool.and_eq_true] at hg
    have hlen := Nat.eq_of_beq_eq_true hg.1
    obtain ⟨g1, g2⟩ := resX_le k6 hg.2 (decY_cq lw k1)
    rw [hlen] at g1 g2
    refine ⟨.returned (tupV rvs), w', { b.at a' todo' with mode := .returning }, ⟨rvs, F'', B1, B2, rfl, k3, k4, k5, g1, lentX_le k7 g2, k8, k9⟩, ?_, rfl, rfl, h2.df, rfl, fn, hf, k2⟩
    rw [henter]
    exact h3
  · cases k1
theorem fd_ok (lw : Lawful D P) {f : FD} {H : HH D (YR D f.ts)} (hH : HOk D P H) (hN : HNat H) {fn : Func} (hf : P.funcs[f.g]? = some fn) (hb : fn.body = some f.body) (hr : fn.results.toList = f.rs) (hn : fn.ntmps = f.nt)
    (hcall : ∀ args w, (callFunc f.g args).run P w = .ok (.enter f.g args) w) (hok : fdOk f = true) (hw : xmOf D f.g = f.xm) : FnOk D P ⟨f.g, f.pm, f.as, f.ts, f.nr, Gof D f H⟩ := by
  cases hxm : f.xm with
  | none => exact FnV.ok (fun x y hx => fdW_ok lw hH hN hf hb hr hn hcall hok hxm (ws0 := encArgs D f.pm f.as x) hx) (hw.trans hxm)
  | some xm =>
    refine FnX.ok (xm := xm) ⟨?_, fun x y hx => fdWX_ok lw hH hN hf hb hr hn hcall hok hxm (ws0 := encArgs D f.pm f.as x) hx⟩ (hw.trans hxm)
    simp only [fdOk, Bool.and_eq_true] at hok
    have h5 := hok.2
    unfold xmOk at h5
    rw [hxm] at h5
    simp only [Bool.and_eq_true] at h5
    exact pmEq_ok h5.1
end
end Go.Proofs.Ytkpjeihgigmnkaa.Ev
/- Values without memory: what a function and its loops answer, sealed (nothing looks into it), with its equations. -/
namespace Go.Proofs.Ytkpjeihgigmnkaa.Ev
open Go
set_option linter.unusedVariables false
noncomputable def sealF {α : Type} (a : α) : α := Classical.choose (⟨a, rfl⟩ : ∃ b, b = a)
theorem sealF_eq {α : Type} (a : α) : sealF a = a := Classical.choose_spec (⟨a, rfl⟩ : ∃ b, b = a)
section
variable {D : Tys} {P : Program}
theorem LiS_eq (f : FD) {H : HH D (YR D f.ts)} (hN : HNat H) (c : Cut) (x : X D c.sh) : sealF (LiF D f H) c x = stepF D f H (sealF (LiF D f H)) c x := by
  rw [sealF_eq]; exact Li_eq hN c x
theorem GoS_eq (f : FD) (H : HH D (YR D f.ts)) (x : YR D f.as) : sealF (Gof D f H) x = entK D f H (sealF (LiF D f H)) x := by
  rw [sealF_eq, sealF_eq]; rfl
/-- Likewise, with what is handed over parted by what stands behind its pointers. -/
theorem LiP_eq (f : FD) {H : HH D (YR D f.ts)} (hN : HNat H) (c : Cut) (x : X D c.sh) : sealF (LiF D f H) c x = spX D c.sh x fun x => stepF D f H (sealF (LiF D f H)) c x := by
  rw [spX_eq]; exact LiS_eq f hN c x
theorem GoP_eq (f : FD) (H : HH D (YR D f.ts)) (x : YR D f.as) : sealF (Gof D f H) x = spY D f.as x fun x => entK D f H (sealF (LiF D f H)) x := by
  rw [spY_eq]; exact GoS_eq f H x
theorem FnOk.sld {g : FuncId} {pm : List PM} {as ts : List RT} {nr : Nat} {G : YR D as → Option (YR D ts)} (h : FnOk D P ⟨g, pm, as, ts, nr, G⟩) : FnOk D P ⟨g, pm, as, ts, nr, sealF G⟩ := by
  rw [sealF_eq]; exact h
theorem FnV.sld {g : FuncId} {pm : List PM} {as ts : List RT} {nr : Nat} {G : YR D as → Option (YR D ts)} (h : FnV D P ⟨g, pm, as, ts, nr, G⟩) : FnV D P ⟨g, pm, as, ts, nr, sealF G⟩ := by
  rw [sealF_eq]; exact h
/-- All of a table. -/
def AllOk (D : Tys) (P : Program) (l : List (En D)) : Prop := ∀ e ∈ l, FnOk D P e
theorem AllOk.nil : AllOk D P [] := fun e h => by cases h
theorem AllOk.cons {e : En D} {l : List (En D)} (h : FnOk D P e) (t : AllOk D P l) : AllOk D P (e :: l) := fun x hx => by
  rcases List.mem_cons.mp hx with e1 | m
  · subst e1; exact h
  · exact t x m
def pmOk (D : Tys) (l : List (En D)) : Bool := l.all fun e => match lk D.mode e.g with | some md => pmEq md.ps e.pm | none => true
theorem pmOk_ok {l : List (En D)} (h : pmOk D l = true) : ∀ e ∈ l, ∀ md, lk D.mode e.g = some md → md.ps = e.pm := fun e he md hm => by
  have := List.all_eq_true.mp h e he
  simp only [hm] at this
  exact pmEq_ok this
theorem fdS_ok (lw : Lawful D P) (f : FD) {l : List (En D)} (hp : pmOk D l = true) (ha : AllOk D P l) {fn : Func} (hf : P.funcs[f.g]? = some fn) (hb : fn.body = some f.body) (hr : fn.results.toList = f.rs) (hn : fn.ntmps = f.nt)
    (hcall : ∀ args w, (callFunc f.g args).run P w = .ok (.enter f.g args) w) (hok : fdOk f = true) (hw : xmOf D f.g = f.xm) : FnOk D P ⟨f.g, f.pm, f.as, f.ts, f.nr, sealF (Gof D f (tabH D l))⟩ :=
  (fd_ok lw (tabH_ok lw (pmOk_ok hp) ha) (tabH_nat l) hf hb hr hn hcall hok hw).sld
theorem fdSW (lw : Lawful D P) (f : FD) {fn : Func} (hf : P.funcs[f.g]? = some fn) (hb : fn.body = some f.body) (hr : fn.results.toList = f.rs) (hn : fn.ntmps = f.nt)
    (hcall : ∀ args w, (callFunc f.g args).run P w = .ok (.enter f.g args) w) (hok : fdOk f = true) (hxm : f.xm = none) {ws0 : List (A D.S)} {y : YR D f.ts} (hx : entW D f (tabH D []) (LiF D f (tabH D [])) ws0 = some y) : CallOk D P f.g f.pm ws0 (encRes D f.ts f.nr y) (encRef D f.ts f.nr y) :=
  fdW_ok lw (tabH_ok lw (pmOk_ok (l := []) rfl) AllOk.nil) (tabH_nat []) hf hb hr hn hcall hok hxm hx
theorem fdSX (lw : Lawful D P) (f : FD) {fn : Func} (hf : P.funcs[f.g]? = some fn) (hb : fn.body = some f.body) (hr : fn.results.toList = f.rs) (hn : fn.ntmps = f.nt)
    (hcall : ∀ args w, (callFunc f.g args).run P w = .ok (.enter f.g args) w) (hok : fdOk f = true) {xm : XMd} (hxm : f.xm = some xm) {ws0 : List (A D.S)} {y : YR D f.ts} (hx : entW D f (tabH D []) (LiF D f (tabH D [])) ws0 = some y) : CallX D P f.g xm ws0 (encRes D f.ts f.nr y) (encRef D f.ts f.nr y) :=
  fdWX_ok lw (tabH_ok lw (pmOk_ok (l := []) rfl) AllOk.nil) (tabH_nat []) hf hb hr hn hcall hok hxm hx
theorem enters_of {f : FuncId} {fn : Func} {c : Code} (hf : P.funcs[f]? = some fn) (hname : (fn.name == "runtime.NumGoroutine") = false) (hb : fn.body = some c) (args : Array Value) (w : World) :
    (callFunc f args).run P w = .ok (.enter f args) w := by
  have h1 : fn.name ≠ "runtime.NumGoroutine" := by simpa using hname
  simp [callFunc, hf, h1, hb]
end
end Go.Proofs.Ytkpjeihgigmnkaa.Ev
/- Values without memory: a function run on given numbers, by the kernel: what it finds so, the function answers. -/
namespace Go.Proofs.Ytkpjeihgigmnkaa.Ev
open Go
set_option linter.unusedVariables false
set_option linter.unusedSimpArgs false
section
variable {D : Tys} {R : Type}
/-- What the one table finds, the other finds. -/
def HLe (H H' : HH D R) : Prop := ∀ g ws kk r, H g ws kk = some r → H' g ws kk = some r
variable {H H' : HH D R}
theorem callK0_mono (hl : HLe H H') {g : FuncId} {d : Nat} {as : List (A D.S)} {fr : Tr (V D.S)} {hp : Tr (B D.S)} {k : KK D R} {r : R} (h : callK0 D H g d as fr hp k = some r) : callK0 D H' g d as fr hp k = some r := by
  unfold callK0 at h ⊢
  split at h
  · cases h
  rename_i md hmd
  split at h
  · cases h
  rename_i ws rs os hargs
  try simp only [hmd, hargs]
  split at h
  · cases h
  · rename_i e1 e2
    try simp only [e1, e2]
    obtain ⟨fr1, hp1, h1, h2⟩ := frzsK_nat _ _ h
    rw [h2]
    exact hl _ _ _ _ h1
  · rename_i e1 e2
    try simp only [e1, e2]
    exact hl _ _ _ _ h
theorem frzsK_map {k k' : Tr (V D.S) → Tr (B D.S) → Option R} (h : ∀ fr hp r, k fr hp = some r → k' fr hp = some r) {ids : List Nat} {fr : Tr (V D.S)} {hp : Tr (B D.S)} {r : R} (e : frzsK ids fr hp k = some r) : frzsK ids fr hp k' = some r := by
  obtain ⟨fr', hp', h1, h2⟩ := frzsK_nat _ _ e
  rw [h2]; exact h _ _ _ h1
theorem callK_mono (hl : HLe H H') {g : FuncId} {d : Nat} {as : List (A D.S)} {fr : Tr (V D.S)} {hp : Tr (B D.S)} {k : KK D R} {r : R} (h : callK D H g d as fr hp k = some r) : callK D H' g d as fr hp k = some r := by
  unfold callK at h ⊢
  split at h
  · unfold callXK at h ⊢
    split at h
    · cases h
    split at h
    · cases h
    rename_i hc
    try simp only [hc]
    refine frzsK_map (fun fr hp r e => ?_) h
    obtain ⟨fr2, hp2, _, h2, e2⟩ := killsK_some e
    rw [e2]
    obtain ⟨hp3, _, h3, e3⟩ := blurK_some h2
    rw [e3]
    exact hl _ _ _ _ h3
  · exact callK0_mono hl h
theorem opK_mono (hl : HLe H H') {op : Op} {d : Nat} {fr : Tr (V D.S)} {hp : Tr (B D.S)} {k : KK D R} {r : R} (h : opK D H op d fr hp k = some r) : opK D H' op d fr hp k = some r := by
  cases op with
  | call c =>
    obtain ⟨f, args, ts⟩ := c
    cases f with
    | value f =>
      simp only [opK] at h ⊢
      split at h
      · exact callK_mono hl h
      · cases h
    | invoke x m => simp [opK] at h
    | builtin b => cases b <;> first | exact h | (simp [opK] at h; done)
  | makeFunc fn first caps => cases fn <;> first | exact h | (simp [opK] at h; done)
  | slice t x lo hi mx => cases mx <;> first | exact h | (simp [opK] at h; done)
  | _ => first | exact h | (simp [opK] at h; done)
theorem op1K0_mono (hl : HLe H H') {ops : List Oper} {o : Oper} {fr : Tr (V D.S)} {hp : Tr (B D.S)} {k : Tr (V D.S) → Tr (B D.S) → Option R} {r : R} (h : op1K0 D H ops o fr hp k = some r) : op1K0 D H' ops o fr hp k = some r := by
  unfold op1K0 at h ⊢
  simp only [Tr.setK_eq] at h ⊢
  split at h
  · exact opK_mono hl h
  · obtain ⟨d, b, h0, e0⟩ := yieldK_nat h
    rw [e0]
    rcases bKK_nat h0 with ⟨rfl, h'⟩ | ⟨rfl, h'⟩
    · exact opK_mono hl h'
    · exact h'
  · obtain ⟨d, b, h0, e0⟩ := yieldK_nat h
    rw [e0]
    rcases bKK_nat h0 with ⟨rfl, h'⟩ | ⟨rfl, h'⟩
    · exact h'
    · exact opK_mono hl h'
theorem op1K_mono (hl : HLe H H') {ops : List Oper} {o : Oper} {fr : Tr (V D.S)} {hp : Tr (B D.S)} {k : Tr (V D.S) → Tr (B D.S) → Option R} {r : R} (h : op1K D H ops o fr hp k = some r) : op1K D H' ops o fr hp k = some r := by
  unfold op1K at h ⊢
  split at h
  · exact h
  · exact op1K0_mono hl h
theorem opsK_mono (hH : HNat H) (hl : HLe H H') {ops : List Oper} : ∀ {l : List Oper} {fr : Tr (V D.S)} {hp : Tr (B D.S)} {k : Tr (V D.S) → Tr (B D.S) → Option R} {r : R}, opsK D H ops l fr hp k = some r → opsK D H' ops l fr hp k = some r
  | [], fr, hp, k, r, h => h
  | o :: l, fr, hp, k, r, h => by
    unfold opsK at h ⊢
    obtain ⟨fr1, hp1, h1, e1⟩ := op1K_nat hH _ _ h
    exact op1K_mono hl ((e1 _).trans (opsK_mono hH hl h1))
theorem exK_mono (hl : HLe H H') {o : Oper} {gs : List Nat} {fr : Tr (V D.S)} {hp : Tr (B D.S)} {k : KL D R} {r : R} (h : exK D H o gs fr hp k = some r) : exK D H' o gs fr hp k = some r := by
  unfold exK at h ⊢
  split at h
  · cases h
  · rename_i hc
    try simp only [hc]
    exact opK_mono hl h
theorem dr1K0_mono (hl : HLe H H') {ops : List Oper} {o : Oper} {fr : Tr (V D.S)} {hp : Tr (B D.S)} {k : KL D R} {r : R} (h : dr1K0 D H ops o fr hp k = some r) : dr1K0 D H' ops o fr hp k = some r := by
  unfold dr1K0 at h ⊢
  simp only [Tr.setK_eq] at h ⊢
  split at h
  · exact exK_mono hl h
  · obtain ⟨d, b, h0, e0⟩ := yieldK_nat h
    rw [e0]
    rcases bKK_nat h0 with ⟨rfl, h'⟩ | ⟨rfl, h'⟩
    · exact exK_mono hl h'
    · exact h'
  · obtain ⟨d, b, h0, e0⟩ := yieldK_nat h
    rw [e0]
    rcases bKK_nat h0 with ⟨rfl, h'⟩ | ⟨rfl, h'⟩
    · exact h'
    · exact exK_mono hl h'
theorem dr1K_mono (hl : HLe H H') {ops : List Oper} {o : Oper} {fr : Tr (V D.S)} {hp : Tr (B D.S)} {k : KL D R} {r : R} (h : dr1K D H ops o fr hp k = some r) : dr1K D H' ops o fr hp k = some r := by
  unfold dr1K at h ⊢
  split at h
  · exact h
  · exact dr1K0_mono hl h
theorem drawK_mono (hH : HNat H) (hl : HLe H H') {ops : List Oper} : ∀ {l : List Oper} {i : Nat} {ms : List Nat} {lgs : List Lg} {fr : Tr (V D.S)} {hp : Tr (B D.S)} {k : Tr (V D.S) → Tr (B D.S) → Option R} {r : R}, drawK D H ops l i ms lgs fr hp k = some r → drawK D H' ops l i ms lgs fr hp k = some r
  | [], i, ms, lgs, fr, hp, k, r, h => h
  | o :: l, i, ms, lgs, fr, hp, k, r, h => by
    unfold drawK at h ⊢
    split at h
    · cases h
    · rename_i m hm
      try simp only [hm]
      obtain ⟨lk, T, U, e, a, kl, s1, s2, s3, fr1, hp1, h1, h2⟩ := dr1K_nat hH h
      refine dr1K_mono hl ((h2 _).trans ?_)
      split at h1
      · rename_i hc
        try simp only [hc]
        exact drawK_mono hH hl h1
      · cases h1
theorem runK_mono (hH : HNat H) (hl : HLe H H') {cuts : List Nat} {κ : Nat → Tr (V D.S) → Tr (B D.S) → Option R} {ρ : Tr (V D.S) → Tr (B D.S) → Option R} : ∀ (n : Nat) (here : Bool) (todo : List It) (fr : Tr (V D.S)) (hp : Tr (B D.S)) (r : R),
    runK D H cuts κ ρ n here todo fr hp = some r → runK D H' cuts κ ρ n here todo fr hp = some r
  | 0, here, todo, fr, hp, r, h => by simp [runK] at h
  | n + 1, here, [], fr, hp, r, h => h
  | n + 1, here, .inBlock _ :: t, fr, hp, r, h => by
    unfold runK at h ⊢; exact runK_mono hH hl n _ _ _ _ _ h
  | n + 1, here, .inLoop c p :: t, fr, hp, r, h => by
    unfold runK at h ⊢; exact runK_mono hH hl n _ _ _ _ _ h
  | n + 1, here, .code c p :: t, fr, hp, r, h => by
    unfold runK at h ⊢
    split at h
    · rename_i hc
      exact h
    · rename_i hc
      cases c with
      | skip => exact runK_mono hH hl n _ _ _ _ _ h
      | region id ops dr =>
        cases dr with
        | false =>
          obtain ⟨fr1, hp1, h1, e1⟩ := opsK_nat hH _ _ h
          exact opsK_mono hH hl ((e1 _).trans (runK_mono hH hl n _ _ _ _ _ h1))
        | true =>
          obtain ⟨fr1, hp1, h1, e1⟩ := drawK_nat hH _ _ h
          exact drawK_mono hH hl ((e1 _).trans (runK_mono hH hl n _ _ _ _ _ h1))
      | seq a b => exact runK_mono hH hl n _ _ _ _ _ h
      | cond c x y =>
        cases c with
        | tmp d =>
          simp only [Tr.setK_eq] at h ⊢
          split at h
          · rename_i b hb
            rcases bKK_nat h with ⟨rfl, h'⟩ | ⟨rfl, h'⟩
            · simp only [bKK]
              split at h'
              · rename_i hlt
                try simp only [hlt]
                exact runK_mono hH hl n _ _ _ _ _ h'
              · cases h'
            · simp only [bKK]
              split at h'
              · rename_i hlt
                try simp only [hlt]
                exact runK_mono hH hl n _ _ _ _ _ h'
              · cases h'
          · cases h
        | const v =>
          cases v with
          | bool b =>
            rcases bKK_nat h with ⟨rfl, h'⟩ | ⟨rfl, h'⟩
            · exact runK_mono hH hl n _ _ _ _ _ h'
            · exact runK_mono hH hl n _ _ _ _ _ h'
          | _ => cases h
        | _ => cases h
      | block id c => exact runK_mono hH hl n _ _ _ _ _ h
      | loop c => exact runK_mono hH hl n _ _ _ _ _ h
      | exit id =>
        simp only at h ⊢
        split at h
        · rename_i t' ht
          exact runK_mono hH hl n _ _ _ _ _ h
        · cases h
      | label l => exact runK_mono hH hl n _ _ _ _ _ h
      | ret => exact h
      | _ => cases h
end
section
variable {D : Tys} {R : Type} {H H' : HH D R} {body : Code} {cuts : List Cut} {ρ : Tr (V D.S) → Tr (B D.S) → Option R} {N : Nat}
theorem stepK_mono (hH : HNat H) (hl : HLe H H') {L : LL D R} {c : Cut} {x : X D c.sh} {r : R} (h : stepK D H body cuts ρ N L c x = some r) : stepK D H' body cuts ρ N L c x = some r := by
  unfold stepK at h ⊢
  split at h
  · rename_i cd t hw
    unfold stK at h ⊢
    simp only [mkTK_eq] at h ⊢
    exact runK_mono hH hl _ _ _ _ _ _ h
  · cases h
theorem Lf_monoH (hH : HNat H) (hH' : HNat H') (hl : HLe H H') : ∀ (n : Nat) (c : Cut) (x : X D c.sh) (r : R), Lf D H body cuts ρ N n c x = some r → Lf D H' body cuts ρ N n c x = some r
  | 0, c, x, r, h => by simp [Lf] at h
  | n + 1, c, x, r, h => (step_out hH' (stepK_mono hH hl h)).mono fun c x h => Lf_monoH hH hH' hl n c x r h
/-- A function, run with so many turns. -/
def evF (D : Tys) (f : FD) (H : HH D (YR D f.ts)) (n : Nat) (x : YR D f.as) : Option (YR D f.ts) := entK D f H (Lf D H f.body f.cuts (finF D f) f.N n) x
theorem evF_le {f : FD} {H H' : HH D (YR D f.ts)} (hH : HNat H) (hH' : HNat H') (hl : HLe H H') (n : Nat) (x : YR D f.as) (y : YR D f.ts) (h : evF D f H n x = some y) : sealF (Gof D f H') x = some y := by
  rw [sealF_eq]
  unfold evF entK entW at h
  unfold Gof entK entW
  split at h
  case h_2 => cases h
  rename_i hs
  try simp only [hs]
  simp only [mkTK_eq] at h ⊢
  have h1 := runK_mono hH hl _ _ _ _ _ _ h
  exact (run_out hH' h1).mono fun c x h => Li_of hH' (Lf_monoH hH hH' hl n c x y h)
end
section
variable {D : Tys}
/-- Two tables: the first finds less. -/
inductive TLe : List (En D) → List (En D) → Prop
  | nil : TLe [] []
  | cons {g : FuncId} {pm : List PM} {as ts : List RT} {nr : Nat} {G G' : YR D as → Option (YR D ts)} {l l' : List (En D)} (h : ∀ x y, G x = some y → G' x = some y) (t : TLe l l') : TLe (⟨g, pm, as, ts, nr, G⟩ :: l) (⟨g, pm, as, ts, nr, G'⟩ :: l')
theorem tabH_le {R : Type} {l l' : List (En D)} (h : TLe l l') : HLe (tabH (R := R) D l) (tabH D l') := by
  intro g ws kk r hk
  unfold tabH at hk ⊢
  induction h with
  | nil => simp [findE] at hk
  | @cons g' pm as ts nr G G' l l' hG t ih =>
    have e1 : findE D (⟨g', pm, as, ts, nr, G⟩ :: l) g ws = (match Nat.beq g' g with | true => (match okF D pm as ws with | true => some ⟨g', pm, as, ts, nr, G⟩ | false => findE D l g ws) | false => findE D l g ws) := rfl
    have e2 : findE D (⟨g', pm, as, ts, nr, G'⟩ :: l') g ws = (match Nat.beq g' g with | true => (match okF D pm as ws with | true => some ⟨g', pm, as, ts, nr, G'⟩ | false => findE D l' g ws) | false => findE D l' g ws) := rfl
    rw [e1] at hk
    rw [e2]
    cases hb : Nat.beq g' g with
    | false => rw [hb] at hk; exact ih hk
    | true =>
      rw [hb] at hk
      simp only at hk ⊢
      cases ho : okF D pm as ws with
      | false => rw [ho] at hk; exact ih hk
      | true =>
        rw [ho] at hk
        simp only at hk ⊢
        unfold enK at hk ⊢
        split at hk
        · cases hk
        · rename_i x hx
          obtain ⟨y, hy, hk⟩ := Option.bind_eq_some_iff.mp hk
          have hy' := hG x y hy
          simp only [hx]
          rw [hy']
          exact hk
end
end Go.Proofs.Ytkpjeihgigmnkaa.Ev
/- Values without memory: a function that calls itself. -/
namespace Go.Proofs.Ytkpjeihgigmnkaa.Ev
open Go
set_option linter.unusedVariables false
section
variable {D : Tys} {P : Program}
/-- What finds more, answers more. -/
theorem Gof_mono {f : FD} {H H' : HH D (YR D f.ts)} (hH : HNat H) (hH' : HNat H') (hl : HLe H H') (x : YR D f.as) (y : YR D f.ts) (h : Gof D f H x = some y) : Gof D f H' x = some y := by
  unfold Gof entK entW at h ⊢
  split at h
  case h_2 => cases h
  rename_i hs
  try simp only [hs]
  simp only [mkTK_eq] at h ⊢
  have h1 := runK_mono hH hl _ _ _ _ _ _ h
  refine (run_out hH' h1).mono fun c x h => ?_
  obtain ⟨n, h2⟩ := lim_some h
  exact Li_of hH' (Lf_monoH hH hH' hl n c x y h2)
/-- A function that calls itself, so many calls deep: 'l G' is the table of what it calls. -/
noncomputable def Gn (D : Tys) (f : FD) (l : (YR D f.as → Option (YR D f.ts)) → List (En D)) : Nat → YR D f.as → Option (YR D f.ts)
  | 0 => fun _ => none
  | n + 1 => sealF (Gof D f (tabH D (l (Gn D f l n))))
/-- However deep. -/
noncomputable def Gr (D : Tys) (f : FD) (l : (YR D f.as → Option (YR D f.ts)) → List (En D)) (x : YR D f.as) : Option (YR D f.ts) := lim fun n => Gn D f l n x
variable {f : FD} {l : (YR D f.as → Option (YR D f.ts)) → List (En D)}
/-- The table grows with what the function answers. -/
def TMono (l : (YR D f.as → Option (YR D f.ts)) → List (En D)) : Prop := ∀ G G' : YR D f.as → Option (YR D f.ts), (∀ x y, G x = some y → G' x = some y) → TLe (l G) (l G')
theorem Gn_succ (hm : TMono l) : ∀ (n : Nat) (x : YR D f.as) (y : YR D f.ts), Gn D f l n x = some y → Gn D f l (n + 1) x = some y
  | 0, x, y, h => by simp [Gn] at h
  | n + 1, x, y, h => by
    unfold Gn at h ⊢
    rw [sealF_eq] at h ⊢
    exact Gof_mono (tabH_nat _) (tabH_nat _) (tabH_le (hm _ _ (Gn_succ hm n))) x y h
theorem Gn_mono (hm : TMono l) {n m : Nat} (hl : n ≤ m) (x : YR D f.as) (y : YR D f.ts) (h : Gn D f l n x = some y) : Gn D f l m x = some y := by
  induction hl with
  | refl => exact h
  | step _ ih => exact Gn_succ hm _ x y ih
theorem Gr_of (hm : TMono l) {n : Nat} {x : YR D f.as} {y : YR D f.ts} (h : Gn D f l n x = some y) : Gr D f l x = some y := lim_of (fun n m r hl h => Gn_mono hm hl x r h) h
theorem Gr_some {x : YR D f.as} {y : YR D f.ts} (h : Gr D f l x = some y) : ∃ n, Gn D f l n x = some y := lim_some h
theorem FnOk.of (hok : fdOk f = true) (hw : xmOf D f.g = f.xm) {G : YR D f.as → Option (YR D f.ts)} (h : ∀ x y, G x = some y → ∃ G', G' x = some y ∧ FnOk D P ⟨f.g, f.pm, f.as, f.ts, f.nr, G'⟩) : FnOk D P ⟨f.g, f.pm, f.as, f.ts, f.nr, G⟩ := by
  cases hxm : f.xm with
  | none => exact FnV.ok (fun x y hx => by
      obtain ⟨G', h1, h2⟩ := h x y hx
      exact h2.1 (hw.trans hxm) x y h1) (hw.trans hxm)
  | some xm =>
    refine FnX.ok (xm := xm) ⟨?_, fun x y hx => by
      obtain ⟨G', h1, h2⟩ := h x y hx
      exact (h2.2 xm (hw.trans hxm)).2 x y h1⟩ (hw.trans hxm)
    simp only [fdOk, Bool.and_eq_true] at hok
    have h5 := hok.2
    unfold xmOk at h5
    rw [hxm] at h5
    simp only [Bool.and_eq_true] at h5
    exact pmEq_ok h5.1
theorem FnOk.none (hok : fdOk f = true) (hw : xmOf D f.g = f.xm) {G : YR D f.as → Option (YR D f.ts)} (h : ∀ x, G x = none) : FnOk D P ⟨f.g, f.pm, f.as, f.ts, f.nr, G⟩ := FnOk.of hok hw fun x y hx => by rw [h x] at hx; cases hx
theorem Gn_ok (lw : Lawful D P) (hp : ∀ G, pmOk D (l G) = true) (ha : ∀ G, FnOk D P ⟨f.g, f.pm, f.as, f.ts, f.nr, G⟩ → AllOk D P (l G)) {fn : Func} (hf : P.funcs[f.g]? = some fn) (hb : fn.body = some f.body) (hr : fn.results.toList = f.rs) (hn : fn.ntmps = f.nt)
    (hcall : ∀ args w, (callFunc f.g args).run P w = .ok (.enter f.g args) w) (hok : fdOk f = true) (hw : xmOf D f.g = f.xm) : ∀ n, FnOk D P ⟨f.g, f.pm, f.as, f.ts, f.nr, Gn D f l n⟩
  | 0 => FnOk.none hok hw (fun x => rfl)
  | n + 1 => fdS_ok lw f (hp _) (ha _ (Gn_ok lw hp ha hf hb hr hn hcall hok hw n)) hf hb hr hn hcall hok hw
theorem Gr_ok (lw : Lawful D P) (hp : ∀ G, pmOk D (l G) = true) (ha : ∀ G, FnOk D P ⟨f.g, f.pm, f.as, f.ts, f.nr, G⟩ → AllOk D P (l G)) {fn : Func} (hf : P.funcs[f.g]? = some fn) (hb : fn.body = some f.body) (hr : fn.results.toList = f.rs) (hn : fn.ntmps = f.nt)
    (hcall : ∀ args w, (callFunc f.g args).run P w = .ok (.enter f.g args) w) (hok : fdOk f = true) (hw : xmOf D f.g = f.xm) : FnOk D P ⟨f.g, f.pm, f.as, f.ts, f.nr, sealF (Gr D f l)⟩ := by
  refine FnOk.sld (FnOk.of hok hw fun x y h => ?_)
  obtain ⟨n, h⟩ := Gr_some h
  exact ⟨_, h, Gn_ok lw hp ha hf hb hr hn hcall hok hw n⟩
/-- One more call deep. -/
theorem Gn_eq (n : Nat) (x : YR D f.as) : Gn D f l (n + 1) x = entK D f (tabH D (l (Gn D f l n))) (sealF (LiF D f (tabH D (l (Gn D f l n))))) x := by
  have e : Gn D f l (n + 1) = sealF (Gof D f (tabH D (l (Gn D f l n)))) := rfl
  rw [e, GoS_eq]
/-- Run on given numbers: so many calls deep, so many turns. -/
def evN (D : Tys) (f : FD) (v : (YR D f.as → Option (YR D f.ts)) → List (En D)) (m : Nat) : Nat → YR D f.as → Option (YR D f.ts)
  | 0 => fun _ => none
  | n + 1 => evF D f (tabH D (v (evN D f v m n))) m
theorem evN_le {v : (YR D f.as → Option (YR D f.ts)) → List (En D)} (m : Nat) (hm : TMono l) (hl : ∀ G G' : YR D f.as → Option (YR D f.ts), (∀ x y, G x = some y → G' x = some y) → TLe (v G) (l G')) : ∀ (n : Nat) (x : YR D f.as) (y : YR D f.ts), evN D f v m n x = some y → Gn D f l n x = some y
  | 0, x, y, h => by simp [evN] at h
  | n + 1, x, y, h => evF_le (tabH_nat _) (tabH_nat _) (tabH_le (hl _ _ (evN_le m hm hl n))) m x y h
theorem evR_le {v : (YR D f.as → Option (YR D f.ts)) → List (En D)} (m n : Nat) (hm : TMono l) (hl : ∀ G G' : YR D f.as → Option (YR D f.ts), (∀ x y, G x = some y → G' x = some y) → TLe (v G) (l G')) (x : YR D f.as) (y : YR D f.ts) (h : evN D f v m n x = some y) : sealF (Gr D f l) x = some y := by
  rw [sealF_eq]
  exact Gr_of hm (evN_le m hm hl n x y h)
end
end Go.Proofs.Ytkpjeihgigmnkaa.Ev
