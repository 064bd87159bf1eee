/- Values without memory: a function as a whole: how it is entered, what is read of it when it is left. -/
import Derived.Test.YtalgppclaolonaaEv19
namespace Go.Proofs.Ytalgppclaolonaa.Ev
open Go
set_option linter.unusedVariables false
set_option linter.unusedSimpArgs false
section
variable (D : Tys)
def frE : Nat → List PM → List (A D.S) → List (Nat × V D.S)
  | i, .val :: ps, x :: ws => (i, .a x) :: frE (i + 1) ps ws
  | i, .ref :: ps, _ :: ws => (i, cV (.ptr i 0)) :: frE (i + 1) ps ws
  | _, _, _ => []
def hpE : Nat → List PM → List (A D.S) → List (Nat × B D.S)
  | i, .val :: ps, _ :: ws => hpE (i + 1) ps ws
  | i, .ref :: ps, x :: ws => (i, .box x.cells) :: hpE (i + 1) ps ws
  | _, _, _ => []
end
def rfE : Nat → List PM → List Loc → List (Nat × Loc)
  | i, .val :: ps, Ls => rfE (i + 1) ps Ls
  | i, .ref :: ps, L :: Ls => (i, L) :: rfE (i + 1) ps Ls
  | _, _, _ => []
def refI : Nat → List PM → List Nat
  | i, .val :: ps => refI (i + 1) ps
  | i, .ref :: ps => i :: refI (i + 1) ps
  | _, [] => []
section
variable (D : Tys)
/-- What the results are. -/
def resR (fr : Tr (V D.S)) (hp : Tr (B D.S)) : List ResultVar → Option (List (A D.S))
  | [] => some []
  | .tmp t :: l => match fr.get t with
    | some (.a x) => match resA hp x with
      | some x => match resR fr hp l with | some r => some (x :: r) | none => none
      | none => none
    | _ => none
  | .cell a ty :: l => match lk D.ti ty, fr.get a with
    | some ti, some (.a (.c c)) => match loadA D hp ti c with
      | some x => match resA hp x with
        | some x => match resR fr hp l with | some r => some (x :: r) | none => none
        | none => none
      | none => none
    | _, _ => none
/-- What is left in what was lent. -/
def boxR (hp : Tr (B D.S)) : List Nat → Option (List (List (C D.S)))
  | [] => some []
  | i :: l => match hp.get i with
    | some (.box cs) => match resL hp cs with
      | some cs => match boxR hp l with | some r => some (cs :: r) | none => none
      | none => none
    | _ => none
def finK {R : Type} (rs : List ResultVar) (rf : List Nat) (k : List (A D.S) → List (List (C D.S)) → Option R) (fr : Tr (V D.S)) (hp : Tr (B D.S)) : Option R := match resR D fr hp rs with
  | none => none
  | some ws => match boxR D hp rf with
    | none => none
    | some css => k ws css
end
section
variable {D : Tys} {P : Program}
variable {K : Kx} {β : Nat → Option Loc} {F : Nat → Prop} {fr : Tr (V D.S)} {hp : Tr (B D.S)} {a : Act} {w : World}
theorem frE_at {w : World} {F : Nat → Prop} : ∀ {ps : List PM} {ws : List (A D.S)} {vs : List Value} {Ls : List Loc} (h : Args D w F ps ws vs Ls) (i : Nat) (k : Nat) (v : V D.S), (k, v) ∈ frE D i ps ws →
    i ≤ k ∧ ∃ u, vs[k - i]? = some u ∧ ((∃ x, v = .a x ∧ RPA D w F x u) ∨ (v = cV (.ptr k 0) ∧ ∃ L cs, (k, L) ∈ rfE i ps Ls ∧ (k, .box cs) ∈ hpE D i ps ws ∧ u = .pointer (some ⟨L.b, 0, none⟩)))
  | _, _, _, _, .nil, i, k, v, hm => by simp [frE] at hm
  | _, _, _, _, .val x u r h, i, k, v, hm => by
    simp only [frE] at hm
    rcases List.mem_cons.mp hm with e | hm
    · injection e with e1 e2
      subst e1; subst e2
      exact ⟨Nat.le_refl _, u, by simp, .inl ⟨x, rfl, r⟩⟩
    · obtain ⟨h1, u', h2, h3⟩ := frE_at h (i + 1) k v hm
      refine ⟨by omega, u', ?_, ?_⟩
      · rw [show k - i = k - (i + 1) + 1 by omega]; simpa using h2
      · rcases h3 with h3 | ⟨e, L, cs, g1, g2, g3⟩
        · exact .inl h3
        · exact .inr ⟨e, L, cs, by simpa [rfE] using g1, by simpa [hpE] using g2, g3⟩
  | _, _, _, _, .ref cs L r hF hn h, i, k, v, hm => by
    simp only [frE] at hm
    rcases List.mem_cons.mp hm with e | hm
    · injection e with e1 e2
      subst e1; subst e2
      exact ⟨Nat.le_refl _, _, by simp, .inr ⟨rfl, L, cs, by simp [rfE], by simp [hpE, A.cells], rfl⟩⟩
    · obtain ⟨h1, u', h2, h3⟩ := frE_at h (i + 1) k v hm
      refine ⟨by omega, u', ?_, ?_⟩
      · rw [show k - i = k - (i + 1) + 1 by omega]; simpa using h2
      · rcases h3 with h3 | ⟨e, L, cs, g1, g2, g3⟩
        · exact .inl h3
        · exact .inr ⟨e, L, cs, by simp [rfE, g1], by simp [hpE, g2], g3⟩
theorem rfE_at {w : World} {F : Nat → Prop} : ∀ {ps : List PM} {ws : List (A D.S)} {vs : List Value} {Ls : List Loc} (h : Args D w F ps ws vs Ls) (i : Nat),
    (∀ k b, (k, b) ∈ hpE D i ps ws → i ≤ k ∧ k < i + ps.length ∧ ∃ L cs, b = .box cs ∧ (k, L) ∈ rfE i ps Ls ∧ LentAt D w F L cs ∧ ¬ F L.b) ∧
    (∀ k L, (k, L) ∈ rfE i ps Ls → i ≤ k ∧ k < i + ps.length ∧ L ∈ Ls ∧ ∃ cs, (k, .box cs) ∈ hpE D i ps ws) ∧
    (∀ k k' L L', (k, L) ∈ rfE i ps Ls → (k', L') ∈ rfE i ps Ls → L.b = L'.b → k = k') ∧ distinct ((hpE D i ps ws).map (·.1)) = true ∧ distinct ((rfE i ps Ls).map (·.1)) = true
  | _, _, _, _, .nil, i => by refine ⟨fun k b h => by simp [hpE] at h, fun k L h => by simp [rfE] at h, fun k k' L L' h => by simp [rfE] at h, rfl, rfl⟩
  | _, _, _, _, .val x u r h, i => by
    obtain ⟨h1, h2, h3, h4, h5⟩ := rfE_at h (i + 1)
    simp only [hpE, rfE, List.length_cons]
    exact ⟨fun k b hm => by have := h1 k b hm; exact ⟨by omega, by omega, this.2.2⟩, fun k L hm => by have := h2 k L hm; exact ⟨by omega, by omega, this.2.2⟩, h3, h4, h5⟩
  | _, _, _, _, .ref cs L r hF hn h, i => by
    obtain ⟨h1, h2, h3, h4, h5⟩ := rfE_at h (i + 1)
    simp only [hpE, rfE, List.length_cons]
    have nd : ∀ {α : Type} (l : List (Nat × α)), (∀ k b, (k, b) ∈ l → i + 1 ≤ k) → distinct (l.map (·.1)) = true → distinct (i :: l.map (·.1)) = true := fun l hl hd => by
      simp only [distinct]
      split
      · rename_i he
        rw [List.elem_eq_contains, List.contains_iff_mem] at he
        obtain ⟨⟨k, b⟩, hm, hk⟩ := List.mem_map.mp he
        simp only at hk; subst hk
        have := hl _ _ hm
        omega
      · exact hd
    refine ⟨fun k b hm => ?_, fun k L' hm => ?_, fun k k' L1 L2 hm1 hm2 e => ?_, nd _ (fun k b hm => (h1 k b hm).1) h4, nd _ (fun k b hm => (h2 k b hm).1) h5⟩
    · rcases List.mem_cons.mp hm with e | hm
      · injection e with e1 e2
        subst e1; subst e2
        exact ⟨Nat.le_refl _, by omega, L, cs, rfl, List.mem_cons_self, r, hF⟩
      · obtain ⟨g1, g2, L', cs', g3, g4, g5⟩ := h1 k b hm
        exact ⟨by omega, by omega, L', cs', g3, List.mem_cons_of_mem _ g4, g5⟩
    · rcases List.mem_cons.mp hm with e | hm
      · injection e with e1 e2
        subst e1; subst e2
        exact ⟨Nat.le_refl _, by omega, List.mem_cons_self, cs, List.mem_cons_self⟩
      · obtain ⟨g1, g2, g3, cs', g4⟩ := h2 k L' hm
        exact ⟨by omega, by omega, List.mem_cons_of_mem _ g3, cs', List.mem_cons_of_mem _ g4⟩
    · rcases List.mem_cons.mp hm1 with e1 | m1 <;> rcases List.mem_cons.mp hm2 with e2 | m2
      · injection e1 with e1 _; injection e2 with e2 _; omega
      · injection e1 with _ e1; subst e1
        exact absurd e.symm (hn _ (h2 k' L2 m2).2.2.1)
      · injection e2 with _ e2; subst e2
        exact absurd e (hn _ (h2 k L1 m1).2.2.1)
      · exact h3 k k' L1 L2 m1 m2 e
theorem mem_of_lk {α : Type} {l : List (Nat × α)} {i : Nat} {x : α} (h : lk l i = some x) : (i, x) ∈ l := lk_mem h
theorem args_len {w : World} {F : Nat → Prop} : ∀ {ps : List PM} {ws : List (A D.S)} {vs : List Value} {Ls : List Loc}, Args D w F ps ws vs Ls → vs.length = ps.length
  | _, _, _, _, .nil => rfl
  | _, _, _, _, .val _ _ _ h => by simp [args_len h]
  | _, _, _, _, .ref _ _ _ _ _ h => by simp [args_len h]
/-- The state in which a function begins. -/
theorem enter_ok {ps : List PM} {ws : List (A D.S)} {vs : List Value} {Ls : List Loc} {w : World} {F : Nat → Prop} {n : Nat} (hold : ∀ b, F b → b < w.heap.size) (h : Args D w F ps ws vs Ls) (hn : ps.length ≤ n) (hs : ps.length < 65535) :
    Sim { w0 := w, F0 := F, refs := rfE 0 ps Ls, n := n } (lk (rfE 0 ps Ls)) F (mkT (frE D 0 ps ws)) (mkT (hpE D 0 ps ws)) { tmps := vs.toArray ++ Array.replicate (n - vs.toArray.size) undef, defers := [] } w := by
  obtain ⟨h1, h2, h3, h4, h5⟩ := rfE_at h 0
  have hl := args_len h
  have gh : ∀ i, (mkT (hpE D 0 ps ws)).get i = lk (hpE D 0 ps ws) i := fun i => get_mkT _ i fun x hx => by
    have := (h1 x.1 x.2 hx).2.1; omega
  have fl : ∀ x ∈ frE D 0 ps ws, x.1 < 65535 := fun x hx => by
    obtain ⟨_, u, hu, _⟩ := frE_at h 0 x.1 x.2 hx
    have := (List.getElem?_eq_some_iff.mp hu).1
    omega
  have lent : ∀ L cs, LentAt D w F L cs → L.b < w.heap.size := fun L cs hL => by
    obtain ⟨_, us, t, hb, _⟩ := hL
    exact (Array.getElem?_eq_some_iff.mp hb).1
  have box : ∀ i b, (mkT (hpE D 0 ps ws)).get i = some b → ∃ L cs, b = .box cs ∧ lk (rfE 0 ps Ls) i = some L ∧ (i, L) ∈ rfE 0 ps Ls ∧ LentAt D w F L cs ∧ ¬ F L.b := fun i b hb => by
    rw [gh] at hb
    obtain ⟨_, _, L, cs, g1, g2, g3, g4⟩ := h1 i b (lk_mem hb)
    exact ⟨L, cs, g1, lk_of_mem g2 h5, g2, g3, g4⟩
  refine ⟨?_, rfl, fun i v hv => ?_, fun i b hb => ?_, fun i j b b' L L' g1 g2 g3 g4 e => ?_, fun i b L g1 g2 => ?_, hold, fun b _ => rfl, fun i b L g1 g2 hG => ?_, fun b hb => .inl hb, ⟨Nat.le_refl _, rfl, rfl, rfl⟩, fun i L hm => ?_, fun i b hb => ?_⟩
  · simp [hl]; omega
  · rw [get_mkT _ _ fl] at hv
    obtain ⟨_, u, hu, h⟩ := frE_at h 0 i v (lk_mem hv)
    rw [Nat.sub_zero] at hu
    have hil := (List.getElem?_eq_some_iff.mp hu).1
    have hgu : (vs.toArray ++ Array.replicate (n - vs.toArray.size) undef).getD i undef = u := by
      rw [Array.getD_eq_getD_getElem?, Array.getElem?_append]
      simp [hil]
      exact (List.getElem?_eq_some_iff.mp hu).2
    show RV D w F _ _ v ((vs.toArray ++ Array.replicate (n - vs.toArray.size) undef).getD i undef)
    rw [hgu]
    rcases h with ⟨x, rfl, r⟩ | ⟨rfl, L, cs, g1, g2, rfl⟩
    · exact RPA.ra r
    · exact ⟨cs, L, by rw [gh]; exact lk_of_mem g2 h4, lk_of_mem g1 h5, by
        obtain ⟨_, _, L', cs', e, g3, g4, _⟩ := h1 i _ g2
        have : L = L' := by
          have a1 := lk_of_mem g1 h5
          have a2 := lk_of_mem g3 h5
          rw [a1] at a2; exact Option.some.inj a2
        rw [this, g4.1]⟩
  · obtain ⟨L, cs, rfl, g1, _, ⟨g2, us, t, g3, g4, g5⟩, _⟩ := box i b hb
    exact ⟨L, us, t, g1, g3, g2, g4, g5.1, fun j x v hx hv => RP.rc (g5.2 j x v hx hv)⟩
  · obtain ⟨L1, _, _, k1, k2, _⟩ := box i b g1
    obtain ⟨L2, _, _, k3, k4, _⟩ := box j b' g2
    rw [k1] at g3; rw [k3] at g4
    obtain rfl := Option.some.inj g3
    obtain rfl := Option.some.inj g4
    exact h3 i j _ _ k2 k4 e
  · obtain ⟨L1, cs, _, k1, k2, k3, k4⟩ := box i b g1
    rw [k1] at g2
    obtain rfl := Option.some.inj g2
    exact ⟨k4, lent _ _ k3⟩
  · obtain ⟨L1, cs, _, k1, k2, k3, k4⟩ := box i b g1
    rw [k1] at g2
    obtain rfl := Option.some.inj g2
    exact hG.2 _ k2 rfl
  · obtain ⟨_, _, _, cs, g⟩ := h2 i L hm
    exact ⟨lk_of_mem hm h5, cs, by rw [gh]; exact lk_of_mem g h4⟩
  · rw [gh] at hb
    have := (h1 i b (lk_mem hb)).2.1
    omega
theorem loadA_var (lw : Lawful D P) (s : Sim K β F fr hp a w) {t : TypeId} {ti : TI D.S} {c : C D.S} {v : Value} {x : A D.S} (ok : TiOk D P t ti) (r : RC D w F hp.get β c v) (e : loadA D hp ti c = some x) :
    ∃ ad cv, v = .pointer (some ad) ∧ (loadVar t ad).run P w = .ok cv w ∧ RA D w F hp.get β x cv := by
  obtain ⟨cv, h1, h2⟩ := loadA_ok lw s ok r e
  have : ∃ ad, v = .pointer (some ad) := by
    unfold loadA at e
    split at e
    · obtain ⟨_, _, _, _, rfl⟩ := r; exact ⟨_, rfl⟩
    · obtain ⟨_, _, _, _, _, _, rfl⟩ := r; exact ⟨_, rfl⟩
    · cases r; exact ⟨_, rfl⟩
    · cases e
  obtain ⟨ad, rfl⟩ := this
  exact ⟨ad, cv, rfl, by simpa [Instr.loadAt, Instr.sureAddr] using h1, h2⟩
theorem resA_ok (lw : Lawful D P) {w F} {F' : Nat → Prop} {hp : Tr (B D.S)} {β} (hF : ∀ b, F b → F' b) (hb : ∀ i b, hp.get i = some b → RB D w F hp.get β i b) {x x' : A D.S} {v : Value} (r : RA D w F hp.get β x v) (e : resA hp x = some x')
    (ho : ∀ id L t l, hp.get id = some (.arr t l) → β id = some L → F' L.b) : RPA D w F' x' v := by
  cases x with
  | c c =>
    simp only [resA] at e
    split at e
    · rename_i c' hc
      obtain rfl := Option.some.inj e
      refine resC_ok lw hF hb r hc fun id hi L hL => ?_
      obtain ⟨t, l, hg⟩ := ownsL_arr (w := w) (F := F) (β := β) (hp := hp) (cs := [c]) (vs := [v]) ⟨rfl, fun j y u hy hu => by
        cases j with
        | zero => simp at hy hu; subst hy; subst hu; exact r
        | succ j => simp at hy⟩ id (by rw [ownsL_eq]; simpa using hi)
      exact ho id L t l hg hL
    · cases e
  | agg cs =>
    simp only [resA] at e
    split at e
    · rename_i cs' hc
      obtain rfl := Option.some.inj e
      obtain ⟨us, rfl, rl⟩ := r
      refine ⟨us, rfl, resL_ok lw hF hb rl hc fun id hi L hL => ?_⟩
      obtain ⟨t, l, hg⟩ := ownsL_arr rl id hi
      exact ho id L t l hg hL
    · cases e
theorem resR_ok (lw : Lawful D P) (s : Sim K β F fr hp a w) {F' : Nat → Prop} (hF : ∀ b, F b → F' b) (ho : ∀ id L t l, hp.get id = some (.arr t l) → β id = some L → F' L.b)
    (f : ResultVar → Sem Value) (hf : ∀ u, f (.tmp u) = pure (a.tmps.getD u undef)) (hc : ∀ u t, f (.cell u t) = (do loadVar t (← asAddr (a.tmps.getD u undef)))) :
    ∀ (rs : List ResultVar) (ws : List (A D.S)), resR D fr hp rs = some ws → ∃ vs, (rs.mapM f).run P w = .ok vs w ∧ ResAll D w F' ws vs
  | [], ws, h => by
    simp only [resR, Option.some.injEq] at h
    subst h
    exact ⟨[], by simp, rfl, fun j x v hx => by simp at hx⟩
  | .tmp u :: rs, ws, h => by
    simp only [resR] at h
    split at h
    · rename_i x hx
      split at h
      · rename_i x' hx'
        split at h
        · rename_i r hr
          obtain rfl := Option.some.inj h
          obtain ⟨vs, h1, h2, h3⟩ := resR_ok lw s hF ho f hf hc rs r hr
          have rx : RA D w F hp.get β x (a.tmps.getD u undef) := s.frm u _ hx
          refine ⟨a.tmps.getD u undef :: vs, by simp [List.mapM_cons, hf, h1], by simp [h2], fun j y v hy hv => ?_⟩
          cases j with
          | zero => simp at hy hv; subst hy; subst hv; exact resA_ok lw hF s.blk (by simpa using rx) hx' ho
          | succ j => simp at hy hv; exact h3 j y v hy hv
        · cases h
      · cases h
    · cases h
  | .cell u t :: rs, ws, h => by
    simp only [resR] at h
    split at h
    · rename_i ti c hti hx
      split at h
      · rename_i x hl
        split at h
        · rename_i x' hx'
          split at h
          · rename_i r hr
            obtain rfl := Option.some.inj h
            obtain ⟨vs, h1, h2, h3⟩ := resR_ok lw s hF ho f hf hc rs r hr
            have rx : RC D w F hp.get β c (a.tmps.getD u undef) := s.frm u _ hx
            obtain ⟨ad, cv, g1, g2, g3⟩ := loadA_var lw s (lk_ti lw hti) rx hl
            refine ⟨cv :: vs, by rw [List.mapM_cons, hc, g1]; simp [asAddr, g2, h1], by simp [h2], fun j y v hy hv => ?_⟩
            cases j with
            | zero => simp at hy hv; subst hy; subst hv; exact resA_ok lw hF s.blk g3 hx' ho
            | succ j => simp at hy hv; exact h3 j y v hy hv
          · cases h
        · cases h
      · cases h
    · cases h
theorem results_ok (lw : Lawful D P) (s : Sim K β F fr hp a w) {F' : Nat → Prop} (hF : ∀ b, F b → F' b) (ho : ∀ id L t l, hp.get id = some (.arr t l) → β id = some L → F' L.b) {fn : Func} {ws : List (A D.S)}
    (h : resR D fr hp fn.results.toList = some ws) : ∃ vs, (results fn a.tmps).run P w = .ok (tupV vs) w ∧ ResAll D w F' ws vs := by
  obtain ⟨vs, h1, h2⟩ := resR_ok lw s hF ho (fun | .tmp t => pure (a.tmps.getD t undef) | .cell u t => do loadVar t (← asAddr (a.tmps.getD u undef))) (fun _ => rfl) (fun _ _ => rfl) _ _ h
  refine ⟨vs, ?_, h2⟩
  unfold results
  rw [show fn.results = fn.results.toList.toArray from rfl, List.mapM_toArray]
  simp only [Sem.run_bind, Sem.run_map]
  erw [h1]
  match vs with
  | [] => rfl
  | [v] => rfl
  | v :: v' :: l => simp [tupV]
theorem boxR_ok (lw : Lawful D P) (s : Sim K β F fr hp a w) {F' : Nat → Prop} (hF : ∀ b, F b → F' b) (ho : ∀ id L t l, hp.get id = some (.arr t l) → β id = some L → F' L.b) :
    ∀ (ps : List PM) (Ls : List Loc) (i : Nat) (css : List (List (C D.S))), boxR D hp (refI i ps) = some css → (∀ k L, (k, L) ∈ rfE i ps Ls → β k = some L) → (ps.filter fun | .ref => true | _ => false).length = Ls.length → LentAll D w F' Ls css
  | [], [], i, css, h, _, _ => by
    simp only [refI, boxR, Option.some.injEq] at h
    subst h
    exact ⟨rfl, fun j L cs hj => by simp at hj⟩
  | [], _ :: _, i, css, h, _, hl => by simp at hl
  | .val :: ps, Ls, i, css, h, hr, hl => boxR_ok lw s hF ho ps Ls (i + 1) css (by simpa [refI] using h) (by simpa [rfE] using hr) (by simpa using hl)
  | .ref :: ps, [], i, css, h, hr, hl => by simp at hl
  | .ref :: ps, L :: Ls, i, css, h, hr, hl => by
    simp only [refI, boxR] at h
    split at h
    · rename_i cs hcs
      split at h
      · rename_i cs' hcs'
        split at h
        · rename_i r hr'
          obtain rfl := Option.some.inj h
          obtain ⟨g1, g2⟩ := boxR_ok lw s hF ho ps Ls (i + 1) r hr' (fun k L hm => hr k L (by simp [rfE, hm])) (by simpa using hl)
          refine ⟨by simp [g1], fun j L' cs2 hj hc => ?_⟩
          cases j with
          | zero =>
            simp at hj hc; subst hj; subst hc
            obtain ⟨L', us, t, b1, b2, b3, b4, b5⟩ := s.blk i _ hcs
            rw [hr i L (by simp [rfE])] at b1
            obtain rfl := Option.some.inj b1
            refine ⟨b3, us, t, b2, b4, resL_ok lw hF s.blk b5 hcs' fun id hi L2 hL2 => ?_⟩
            obtain ⟨t2, l2, hg⟩ := ownsL_arr b5 id hi
            exact ho id L2 t2 l2 hg hL2
          | succ j => simp at hj hc; exact g2 j L' cs2 hj hc
        · cases h
      · cases h
    · cases h
theorem args_refs {w : World} {F : Nat → Prop} : ∀ {ps : List PM} {ws : List (A D.S)} {vs : List Value} {Ls : List Loc}, Args D w F ps ws vs Ls → (ps.filter fun | .ref => true | _ => false).length = Ls.length
  | _, _, _, _, .nil => rfl
  | _, _, _, _, .val _ _ _ h => by simpa using args_refs h
  | _, _, _, _, .ref _ _ _ _ _ h => by simpa using args_refs h
/-- When a function is left: what is answered, what is left in what was lent. -/
theorem leave_ok (lw : Lawful D P) {fn : Func} {w0 : World} {F0 : Nat → Prop} {ps : List PM} {Ls : List Loc} {n : Nat} (hold : ∀ b, F0 b → b < w0.heap.size) (hlen : (ps.filter fun | .ref => true | _ => false).length = Ls.length)
    (s : Sim { w0 := w0, F0 := F0, refs := rfE 0 ps Ls, n := n } β F fr hp a w) (hk : ∀ k L, (k, L) ∈ rfE 0 ps Ls → L ∈ Ls) {R : Type} {r : R} {k : List (A D.S) → List (List (C D.S)) → Option R}
    (h : finK D fn.results.toList (refI 0 ps) k fr hp = some r) : ∃ ws css rvs F', k ws css = some r ∧ (results fn a.tmps).run P w = .ok (tupV rvs) w ∧ Behind w0 w Ls ∧ (∀ b, F0 b → F' b) ∧ (∀ b, F' b → (F0 b ∨ w0.heap.size ≤ b) ∧ b < w.heap.size) ∧
      ResAll D w F' ws rvs ∧ LentAll D w F' Ls css := by
  unfold finK at h
  split at h
  · cases h
  · rename_i ws hws
    split at h
    · cases h
    · rename_i css hcss
      let F' : Nat → Prop := fun b => F0 b ∨ F b ∨ ∃ id L t l, hp.get id = some (.arr t l) ∧ β id = some L ∧ b = L.b
      have hF : ∀ b, F b → F' b := fun b hb => .inr (.inl hb)
      have ho : ∀ id L t l, hp.get id = some (.arr t l) → β id = some L → F' L.b := fun id L t l h1 h2 => .inr (.inr ⟨id, L, t, l, h1, h2, rfl⟩)
      obtain ⟨rvs, h1, h2⟩ := results_ok lw s hF ho hws
      have h3 := boxR_ok lw s hF ho ps Ls 0 css hcss (fun k L hm => (s.refs k L hm).1) hlen
      refine ⟨ws, css, rvs, F', h, h1, ⟨s.w0.1, s.w0.2, fun b hb hne => s.keep b ⟨hb, fun x hx => hne _ (hk x.1 x.2 hx)⟩⟩, fun b hb => .inl hb, fun b hb => ?_, h2, h3⟩
      rcases hb with hb | hb | ⟨id, L, t, l, g1, g2, rfl⟩
      · exact ⟨.inl hb, Nat.lt_of_lt_of_le (hold b hb) s.w0.1⟩
      · exact ⟨s.fsub b hb, s.old b hb⟩
      · exact ⟨.inr (s.fresh g1 g2), (s.sep id _ L g1 g2).2⟩
end
end Go.Proofs.Ytalgppclaolonaa.Ev
