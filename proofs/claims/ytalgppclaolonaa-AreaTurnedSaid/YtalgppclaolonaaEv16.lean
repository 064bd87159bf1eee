/- Values without memory: calls. -/
import Derived.Test.YtalgppclaolonaaEv15
namespace Go.Proofs.Ytalgppclaolonaa.Ev
open Go
set_option linter.unusedVariables false
set_option linter.unusedSimpArgs false
section
variable {D : Tys} {P : Program}
variable {R : Type} {H : HH D R} {K : Kx} {β : Nat → Option Loc} {F : Nat → Prop} {fr : Tr (V D.S)} {hp : Tr (B D.S)} {a : Act} {w : World} {o : Oper} {d : Nat} {k : KK D R} {r : R}
theorem op_binOp (lw : Lawful D P) (s : Sim K β F fr hp a w) {op : BinOp} {t q : TypeId} {x y : Operand} (ho : o.op = .binOp op t x y q) (h : opK D H (.binOp op t x y q) d fr hp k = some r) : Post D P K o a w k r := by
  cases hx : evA fr x with
  | none => simp [opK, hx] at h
  | some x' =>
    cases hy : evA fr y with
    | none => cases x' with
      | c c => cases c <;> simp [opK, hx, hy] at h
      | agg cs => simp [opK, hx, hy] at h
    | some y' =>
      cases x' with
      | agg cs =>
        cases y' with
        | agg ds => exact op_binOp_agg lw s ho hx hy h
        | c c => simp [opK, hx, hy] at h
      | c c =>
        cases y' with
        | agg ds => cases c <;> simp [opK, hx, hy] at h
        | c c' =>
          by_cases h1 : ∃ k1 m k2 n, c = .int k1 m ∧ c' = .int k2 n
          · obtain ⟨k1, m, k2, n, rfl, rfl⟩ := h1
            exact op_binOp_int s ho hx hy h
          · by_cases h2 : ∃ m n, c = .str m ∧ c' = .str n
            · obtain ⟨m, n, rfl, rfl⟩ := h2
              exact op_binOp_str s ho hx hy h
            · exact op_binOp_nil lw s ho hx hy (fun k1 m k2 n e1 e2 => h1 ⟨k1, m, k2, n, e1, e2⟩) (fun m n e1 e2 => h2 ⟨m, n, e1, e2⟩) h
/-- A call of a function value. -/
def isCall : Op → Bool | .call ⟨.value _, _, _⟩ => true | _ => false
theorem op_ok (lw : Lawful D P) (s : Sim K β F fr hp a w) (hd : d < 65535) (hc : isCall o.op = false) (h : opK D H o.op d fr hp k = some r) : Post D P K o a w k r := by
  generalize ho : o.op = op at h hc
  cases op with
  | move x => exact op_move s ho h
  | assign x => exact op_assign s ho h
  | pick c x y => exact op_pick s ho h
  | alloc t => exact op_alloc lw s hd ho h
  | box t x => exact op_box lw s hd ho h
  | build t ps => exact op_build lw s ho h
  | buildSlice t n ps => exact op_buildSlice lw s hd ho h
  | load t p => exact op_load lw s ho h
  | store t p x => exact op_store lw s ho h
  | nilCheck x => exact op_nilCheck s ho h
  | binOp op t x y q => exact op_binOp lw s ho h
  | unOp u t x => exact op_unOp s ho h
  | convert q t x => exact op_convert lw s ho h
  | makeFunc f first caps => cases f <;> first | exact op_makeFunc s ho h | (simp [opK] at h)
  | makeSlice t x y => exact op_makeSlice lw s hd ho h
  | slice t x lo hi mx => cases mx with | none => exact op_slice lw s ho h | some m => simp [opK] at h
  | fieldAddr t x f => exact op_fieldAddr lw s ho h
  | field t x f => exact op_field lw s ho h
  | indexAddr t x y => exact op_indexAddr lw s ho h
  | index t x y => exact op_index lw s ho h
  | extract x i => exact op_extract s ho h
  | call c =>
    obtain ⟨f, args, ts⟩ := c
    cases f with
    | value f => cases hc
    | invoke x m => simp [opK] at h
    | builtin b =>
      cases b <;> first | exact op_len lw s ho h | exact op_append lw s hd ho h | exact op_max s ho h | exact op_min s ho h | (simp [opK] at h)
  | _ => simp [opK] at h

/-! ### what a call is told to do -/
def RPA (D : Tys) (w : World) (F : Nat → Prop) (x : A D.S) (v : Value) : Prop := match x with
  | .c c => RP D w F c v
  | .agg cs => ∃ vs, v = .agg vs ∧ PL w F cs vs.toList
theorem RPA.mono {w w' : World} {F F' : Nat → Prop} (h : ∀ b, F b → F' b ∧ w'.heap[b]? = w.heap[b]?) {x : A D.S} {v : Value} (r : RPA D w F x v) : RPA D w' F' x v := by
  cases x with
  | c c => exact RP.mono D h r
  | agg cs => obtain ⟨vs, rfl, r1, r2⟩ := r; exact ⟨vs, rfl, r1, fun j x v hx hv => RP.mono D h (r2 j x v hx hv)⟩
/-- Cells that lie in a block that is lent. -/
def LentAt (D : Tys) (w : World) (F : Nat → Prop) (L : Loc) (cs : List (C D.S)) : Prop := L.o = 0 ∧ ∃ vs t, w.heap[L.b]? = some (.cells vs t (0, 0)) ∧ vs.size = L.n ∧ PL w F cs vs.toList
inductive Args (D : Tys) (w : World) (F : Nat → Prop) : List PM → List (A D.S) → List Value → List Loc → Prop
  | nil : Args D w F [] [] [] []
  | val {ps as vs Ls} (x : A D.S) (v : Value) (r : RPA D w F x v) (h : Args D w F ps as vs Ls) : Args D w F (.val :: ps) (x :: as) (v :: vs) Ls
  | ref {ps as vs Ls} (cs : List (C D.S)) (L : Loc) (r : LentAt D w F L cs) (hF : ¬ F L.b) (hn : ∀ L' ∈ Ls, L'.b ≠ L.b) (h : Args D w F ps as vs Ls) :
      Args D w F (.ref :: ps) (.agg cs :: as) (.pointer (some ⟨L.b, 0, none⟩) :: vs) (L :: Ls)
structure Behind (w w' : World) (Ls : List Loc) : Prop where
  size : w.heap.size ≤ w'.heap.size
  rest : w'.os = w.os ∧ w'.tape = w.tape ∧ w'.output = w.output
  same : ∀ b, b < w.heap.size → (∀ L ∈ Ls, b ≠ L.b) → w'.heap[b]? = w.heap[b]?
def tupV (vs : List Value) : Value := match vs with | [v] => v | vs => .tuple vs.toArray
def ResAll (D : Tys) (w : World) (F : Nat → Prop) (res : List (A D.S)) (rvs : List Value) : Prop := res.length = rvs.length ∧ ∀ (j : Nat) x v, res[j]? = some x → rvs[j]? = some v → RPA D w F x v
def LentAll (D : Tys) (w : World) (F : Nat → Prop) (Ls : List Loc) (css : List (List (C D.S))) : Prop := Ls.length = css.length ∧ ∀ (j : Nat) L cs, Ls[j]? = some L → css[j]? = some cs → LentAt D w F L cs
/-- A call of g: it is entered, and comes to 'post'; or the model answers for it at once. -/
def RunOk (P : Program) (g : FuncId) (args : Array Value) (w : World) (post : Ending → World → Prop) : Prop :=
  ((callFunc g args).run P w = .ok (.enter g args) w ∧ Calls P g args w post) ∨ ∃ v, (callFunc g args).run P w = .ok (.value v) w ∧ post (.returned v) w
theorem RunOk.mono {g : FuncId} {args : Array Value} {w : World} {p q : Ending → World → Prop} (h : RunOk P g args w p) (hq : ∀ e w', p e w' → q e w') : RunOk P g args w q := by
  rcases h with ⟨h1, h2⟩ | ⟨v, h1, h2⟩
  · exact .inl ⟨h1, h2.mono hq⟩
  · exact .inr ⟨v, h1, hq _ _ h2⟩
/-- Called with 'ws', function g answers 'res', and leaves 'css' in what was lent to it. -/
def CallOk (D : Tys) (P : Program) (g : FuncId) (ps : List PM) (ws : List (A D.S)) (res : List (A D.S)) (css : List (List (C D.S))) : Prop :=
  ∀ (w : World) (F : Nat → Prop) (vs : List Value) (Ls : List Loc), (∀ b, F b → b < w.heap.size) → Args D w F ps ws vs Ls → RunOk P g vs.toArray w fun e w' =>
    ∃ rvs F', e = .returned (tupV rvs) ∧ Behind w w' Ls ∧ (∀ b, F b → F' b) ∧ (∀ b, F' b → (F b ∨ w.heap.size ≤ b) ∧ b < w'.heap.size) ∧ ResAll D w' F' res rvs ∧ LentAll D w' F' Ls css
/-- What the table of functions says is so. -/
def HOk (D : Tys) (P : Program) {R : Type} (H : HH D R) : Prop :=
  ∀ g ws (kk : List (A D.S) → List (List (C D.S)) → Option R) r md, lk D.mode g = some md → H g ws kk = some r → ∃ res css, kk res css = some r ∧ CallOk D P g md.ps ws res css ∧ ∀ kk2 : List (A D.S) → List (List (C D.S)) → Option R, H g ws kk2 = kk2 res css
theorem noRef_any {c : C D.S} (h : noRefC c = true) {w w' : World} {F F' : Nat → Prop} {v : Value} (r : RP D w F c v) : RP D w' F' c v := by
  cases r <;> first | (simp [noRefC] at h; done) | constructor
theorem noRefL_at : ∀ {cs : List (C D.S)}, noRefL cs = true → ∀ c ∈ cs, noRefC c = true
  | [], _, c, hc => by cases hc
  | x :: l, h, c, hc => by
    simp only [noRefL] at h
    split at h
    · rename_i hx
      rcases List.mem_cons.mp hc with rfl | hc
      · exact hx
      · exact noRefL_at h c hc
    · cases h
theorem noRefAs_at : ∀ {as : List (A D.S)}, noRefAs as = true → ∀ x ∈ as, noRefL x.cells = true
  | [], _, c, hc => by cases hc
  | x :: l, h, c, hc => by
    simp only [noRefAs] at h
    split at h
    · rename_i hx
      rcases List.mem_cons.mp hc with rfl | hc
      · exact hx
      · exact noRefAs_at h c hc
    · cases h
theorem noRefLs_at : ∀ {as : List (List (C D.S))}, noRefLs D as = true → ∀ x ∈ as, noRefL x = true
  | [], _, c, hc => by cases hc
  | x :: l, h, c, hc => by
    simp only [noRefLs] at h
    split at h
    · rename_i hx
      rcases List.mem_cons.mp hc with rfl | hc
      · exact hx
      · exact noRefLs_at h c hc
    · cases h
theorem noRef_PL {cs : List (C D.S)} (h : noRefL cs = true) {w w' : World} {F F' : Nat → Prop} {vs : List Value} (r : PL w F cs vs) : PL w' F' cs vs :=
  ⟨r.1, fun j x v hx hv => noRef_any (noRefL_at h x (List.mem_of_getElem? hx)) (r.2 j x v hx hv)⟩
theorem noRef_RPA {x : A D.S} (h : noRefL x.cells = true) {w w' : World} {F F' : Nat → Prop} {v : Value} (r : RPA D w F x v) : RPA D w' F' x v := by
  cases x with
  | c c => exact noRef_any (noRefL_at h c (by simp [A.cells])) r
  | agg cs => obtain ⟨vs, rfl, r⟩ := r; exact ⟨vs, rfl, noRef_PL h r⟩
/-- By value, and so in every way. -/
theorem RP.rc {w F h β} {c : C D.S} {v : Value} (r : RP D w F c v) : RC D w F h β c v := by
  cases r with
  | fn f => exact ⟨rfl, fun i hi => by cases hi⟩
  | int k n => exact .int k n
  | bool b => exact .bool b
  | str b => exact .str b
  | nilp => exact .nilp
  | nils => exact .nils
  | nili => exact .nili
  | nilf => exact .nilf
  | emp a => exact .emp a
  | err t k n => exact .err t k n
  | lst0 t a c => exact .lst0 t a c
  | lst t l b o cap f h1 h2 h3 h4 => exact .lst t l b o cap f h1 h2 h3 h4
  | fptr t l e off b o f h1 h2 h3 h4 => exact .fptr t l e off b o f h1 h2 h3 h4
theorem RPA.ra {w F h β} {x : A D.S} {v : Value} (r : RPA D w F x v) : RA D w F h β x v := by
  cases x with
  | c c => exact RP.rc r
  | agg cs => obtain ⟨vs, rfl, r1, r2⟩ := r; exact ⟨vs, rfl, r1, fun j x v hx hv => RP.rc (r2 j x v hx hv)⟩
theorem pack_ok {w F h β} {res : List (A D.S)} {rvs : List Value} (r : ResAll D w F res rvs) : RV D w F h β (packV D res) (tupV rvs) := by
  obtain ⟨r1, r2⟩ := r
  match res, rvs, r1, r2 with
  | [], [], _, _ => exact ⟨#[], rfl, rfl, fun j x v hx => by simp at hx⟩
  | [x], [v], _, r2 => exact RPA.ra (r2 0 x v rfl rfl)
  | x :: x' :: l, v :: v' :: l', r1, r2 =>
    refine ⟨(v :: v' :: l').toArray, rfl, by simpa using r1, fun j y u hy hu => ?_⟩
    rw [List.getElem?_toArray] at hu
    exact RPA.ra (r2 j y u hy hu)
theorem setRefsK_some {kk : Tr (B D.S) → Option R} : ∀ {rs : List Nat} {css : List (List (C D.S))} {hp : Tr (B D.S)}, setRefsK D rs css hp kk = some r → (∀ i ∈ rs, i < 65535) → distinct rs = true →
    ∃ hp', kk hp' = some r ∧ rs.length = css.length ∧ (∀ i, i ∉ rs → hp'.get i = hp.get i) ∧ (∀ (j : Nat) i cs, rs[j]? = some i → css[j]? = some cs → hp'.get i = some (.box cs))
  | [], [], hp, h, _, _ => ⟨hp, h, rfl, fun _ _ => rfl, fun j i cs hj => by simp at hj⟩
  | [], _ :: _, hp, h, _, _ => by cases h
  | _ :: _, [], hp, h, _, _ => by cases h
  | i :: rs, cs :: css, hp, h, hb, hd => by
    simp only [setRefsK, Tr.setK_eq] at h
    have hi : i < 65535 := hb i List.mem_cons_self
    have hg : ∀ q, (hp.set depth i (some (.box cs))).get q = if q = i then some (.box cs) else hp.get q := fun q => Tr.get_set _ _ _ _ _ (by rw [depth_ok]; omega)
    simp only [distinct] at hd
    split at hd
    · cases hd
    · rename_i hne
      have hni : i ∉ rs := fun hm => by
        rw [List.elem_eq_contains, List.contains_iff_mem.mpr hm] at hne; cases hne
      obtain ⟨hp', h1, h2, h3, h4⟩ := setRefsK_some h (fun q hq => hb q (List.mem_cons_of_mem _ hq)) hd
      refine ⟨hp', h1, by simp [h2], fun q hq => ?_, fun j q cs' hj hc => ?_⟩
      · rw [h3 q (fun hm => hq (List.mem_cons_of_mem _ hm)), hg, if_neg (show ¬ q = i from fun e => hq (by rw [e]; exact List.mem_cons_self))]
      · cases j with
        | zero =>
          simp at hj hc
          subst hj; subst hc
          rw [h3 _ hni, hg, if_pos rfl]
        | succ j => simp at hj hc; exact h4 j q cs' hj hc
/-- The state behind a call. -/
theorem Sim.called (s : Sim K β F fr hp a w) {w' : World} {F1 : Nat → Prop} {rs : List Nat} {css : List (List (C D.S))} {Ls : List Loc} (hbeh : Behind w w' Ls) (hF : ∀ b, F b → F1 b) (hF1 : ∀ b, F1 b → (F b ∨ w.heap.size ≤ b) ∧ b < w'.heap.size)
    (hLs : ∀ (j : Nat) i L, rs[j]? = some i → Ls[j]? = some L → β i = some L ∧ ∃ cs, hp.get i = some (.box cs)) (hlen : rs.length = Ls.length) (hlt : LentAll D w' F1 Ls css) {hp' : Tr (B D.S)}
    (h1 : ∀ i, i ∉ rs → hp'.get i = hp.get i) (h2 : ∀ (j : Nat) i cs, rs[j]? = some i → css[j]? = some cs → hp'.get i = some (.box cs)) : Sim K β F1 fr hp' a w' := by
  have find : ∀ i ∈ rs, ∃ (j : Nat) (L : Loc) (cs : List (C D.S)), rs[j]? = some i ∧ Ls[j]? = some L ∧ css[j]? = some cs := fun i hi => by
    obtain ⟨j, hj⟩ := List.getElem?_of_mem hi
    have hjl : j < rs.length := (List.getElem?_eq_some_iff.mp hj).1
    have := hlt.1
    exact ⟨j, Ls[j]'(by omega), css[j]'(by omega), hj, List.getElem?_eq_getElem (by omega), List.getElem?_eq_getElem (by omega)⟩
  have lentOf : ∀ L ∈ Ls, ∃ i ∈ rs, β i = some L ∧ ∃ cs, hp.get i = some (.box cs) := fun L hL => by
    obtain ⟨j, hj⟩ := List.getElem?_of_mem hL
    have hjl : j < rs.length := by rw [hlen]; exact (List.getElem?_eq_some_iff.mp hj).1
    exact ⟨rs[j], List.getElem_mem _, hLs j _ L (List.getElem?_eq_getElem hjl) hj⟩
  -- blocks that are not lent
  have same : ∀ b, b < w.heap.size → (∀ L ∈ Ls, b ≠ L.b) → w'.heap[b]? = w.heap[b]? := hbeh.same
  have Fne : ∀ b, F b → ∀ L ∈ Ls, b ≠ L.b := fun b hb L hL e => by
    obtain ⟨i, _, hi, cs, hc⟩ := lentOf L hL
    exact (s.sep i _ L hc hi).1 (e ▸ hb)
  have hFF : ∀ b, F b → F1 b ∧ w'.heap[b]? = w.heap[b]? := fun b hb => ⟨hF b hb, same b (s.old b hb) (Fne b hb)⟩
  have hkp : ∀ id, (hp.get id).isSome → Keep hp.get β hp'.get β id := fun id hid => by
    by_cases e : id ∈ rs
    · obtain ⟨j, L, cs, g1, g2, g3⟩ := find id e
      obtain ⟨_, cs0, g4⟩ := hLs j id L g1 g2
      refine ⟨rfl, fun _ _ => ⟨cs, h2 j id cs g1 g3⟩, fun t l hl => by rw [g4] at hl; cases hl⟩
    · exact Keep.rfl' (h1 id e) rfl
  have hR : ∀ c v, RC D w F hp.get β c v → RC D w' F1 hp'.get β c v := fun c v => RC.trans hFF hkp
  have ex : ∀ i b, hp'.get i = some b → ∃ b', hp.get i = some b' := fun i b h => by
    by_cases e : i ∈ rs
    · obtain ⟨j, L, cs, g1, g2, g3⟩ := find i e
      obtain ⟨_, cs0, g4⟩ := hLs j i L g1 g2
      exact ⟨_, g4⟩
    · rw [h1 i e] at h; exact ⟨b, h⟩
  refine ⟨s.sz, s.df, fun i v h => RV.trans hR (s.frm i v h), fun i b h => ?_, fun i j b b' L L' g1 g2 g3 g4 e => ?_, fun i b L g1 g2 => ?_, fun b hb => (hF1 b hb).2, fun b hb => ?_, fun i b L g1 g2 => ?_, fun b hb => ?_, ?_, fun i L h => ?_, fun i b h => ?_⟩
  · by_cases e : i ∈ rs
    · obtain ⟨j, L, cs, g1, g2, g3⟩ := find i e
      obtain ⟨g5, cs0, g4⟩ := hLs j i L g1 g2
      rw [h2 j i cs g1 g3] at h
      obtain rfl := Option.some.inj h
      obtain ⟨l1, vs, t, l2, l3, l4, l5⟩ := hlt.2 j L cs g2 g3
      exact ⟨L, vs, t, g5, l2, l1, l3, l4, fun q x v hx hv => RP.rc (l5 q x v hx hv)⟩
    · rw [h1 i e] at h
      have hne : ∀ L, β i = some L → ∀ L' ∈ Ls, L.b ≠ L'.b := fun L hL L' hL' e' => by
        obtain ⟨i', hi', g5, cs0, g4⟩ := lentOf L' hL'
        have := s.inj i i' b _ L L' h g4 hL g5 e'
        exact e (this ▸ hi')
      have r := s.blk i b h
      cases b with
      | box cs =>
        obtain ⟨L, vs, t, r1, r2, r3, r4, r5⟩ := r
        exact ⟨L, vs, t, r1, (same _ (s.sep i _ L h r1).2 (hne L r1)).trans r2, r3, r4, RL.trans hR r5⟩
      | arr t l =>
        rcases r with r | ⟨L, vs, e', r1, r2, r3, r4, r5⟩
        · exact .inl r
        · refine .inr ⟨L, vs, e', r1, (same _ (s.sep i _ L h r1).2 (hne L r1)).trans r2, r3, r4, fun i hi j x hx => ?_⟩
          obtain ⟨v, hv, rv⟩ := r5 i hi j x hx
          exact ⟨v, hv, RP.mono D hFF rv⟩
  · obtain ⟨c1, k1⟩ := ex i b g1
    obtain ⟨c2, k2⟩ := ex j b' g2
    exact s.inj i j c1 c2 L L' k1 k2 g3 g4 e
  · obtain ⟨c1, k1⟩ := ex i b g1
    have := s.sep i c1 L k1 g2
    refine ⟨fun h => ?_, Nat.lt_of_lt_of_le this.2 hbeh.size⟩
    rcases (hF1 _ h).1 with h | h
    · exact this.1 h
    · omega
  · have hlt : b < w.heap.size := Nat.lt_of_lt_of_le hb.1 s.w0.1
    refine (same b hlt fun L hL e => ?_).trans (s.keep b hb)
    obtain ⟨i, _, hi, cs, hc⟩ := lentOf L hL
    exact s.gsep i _ L hc hi (e ▸ hb)
  · obtain ⟨c1, k1⟩ := ex i b g1
    exact s.gsep i c1 L k1 g2
  · rcases (hF1 b hb).1 with h | h
    · exact s.fsub b h
    · exact .inr (Nat.le_trans s.w0.1 h)
  · exact ⟨Nat.le_trans s.w0.1 hbeh.size, hbeh.rest.1.trans s.w0.2.1, hbeh.rest.2.1.trans s.w0.2.2.1, hbeh.rest.2.2.trans s.w0.2.2.2⟩
  · obtain ⟨g1, cs, g2⟩ := s.refs i L h
    refine ⟨g1, ?_⟩
    by_cases e : i ∈ rs
    · obtain ⟨j, L', cs', k1, k2, k3⟩ := find i e
      exact ⟨cs', h2 j i cs' k1 k3⟩
    · exact ⟨cs, by rw [h1 i e]; exact g2⟩
  · obtain ⟨c1, k1⟩ := ex i b h
    exact s.key i c1 k1
/-- The arguments, told and in memory. F2: what may be read; what is lent is no part of it. -/
theorem callArgs_ok (lw : Lawful D P) (s : Sim K β F fr hp a w) {F2 : Nat → Prop} (hup : ∀ b, F b → F2 b) : ∀ {ps : List PM} {as ws : List (A D.S)} {rs os : List Nat} {vs : List Value}, callArgs D hp ps as = some (ws, rs, os) →
    as.length = vs.length → (∀ (j : Nat) x v, as[j]? = some x → vs[j]? = some v → RA D w F hp.get β x v) → distinct rs = true → (∀ id ∈ os, ∀ L, β id = some L → F2 L.b) → (∀ i ∈ rs, ∀ L, β i = some L → ¬ F2 L.b) →
    ∃ Ls, Args D w F2 ps ws vs Ls ∧ rs.length = Ls.length ∧ ∀ (j : Nat) i L, rs[j]? = some i → Ls[j]? = some L → β i = some L ∧ ∃ cs, hp.get i = some (.box cs)
  | [], [], ws, rs, os, vs, h, hl, hr, hd, ho, hn => by
    simp only [callArgs, Option.some.injEq, Prod.mk.injEq] at h
    obtain ⟨rfl, rfl, rfl⟩ := h
    obtain rfl : vs = [] := List.length_eq_zero_iff.mp hl.symm
    exact ⟨[], .nil, rfl, fun j i L hj => by simp at hj⟩
  | [], _ :: _, ws, rs, os, vs, h, _, _, _, _, _ => by simp [callArgs] at h
  | .val :: ps, [], ws, rs, os, vs, h, _, _, _, _, _ => by simp [callArgs] at h
  | .ref :: ps, [], ws, rs, os, vs, h, _, _, _, _, _ => by simp [callArgs] at h
  | .val :: ps, x :: as, ws, rs, os, vs, h, hl, hr, hd, ho, hn => by
    simp only [callArgs] at h
    split at h
    · cases h
    · rename_i x' hx'
      split at h
      · rename_i ws' rs' os' hrec
        simp only [Option.some.injEq, Prod.mk.injEq] at h
        obtain ⟨rfl, rfl, rfl⟩ := h
        match vs, hl, hr with
        | v :: vs, hl, hr =>
          have r0 := hr 0 x v rfl rfl
          obtain ⟨Ls, g1, g2, g3⟩ := callArgs_ok lw s hup (vs := vs) hrec (by simpa using hl) (fun j y u hy hu => hr (j + 1) y u (by simpa using hy) (by simpa using hu)) hd (fun id hi => ho id (List.mem_append_right _ hi)) hn
          refine ⟨Ls, .val x' v ?_ g1, g2, g3⟩
          cases x with
          | c c =>
            simp only [resA] at hx'
            split at hx'
            · rename_i c' hc'
              obtain rfl := Option.some.inj hx'
              exact resC_ok lw hup s.blk r0 hc' (fun id hi => ho id (List.mem_append_left _ (by rw [ownsL_eq]; simpa [A.cells] using hi)))
            · cases hx'
          | agg cs =>
            simp only [resA] at hx'
            split at hx'
            · rename_i cs' hcs'
              obtain rfl := Option.some.inj hx'
              obtain ⟨us, rfl, rl⟩ := r0
              exact ⟨us, rfl, resL_ok lw hup s.blk rl hcs' (fun id hi => ho id (List.mem_append_left _ hi))⟩
            · cases hx'
      · cases h
  | .ref :: ps, x :: as, ws, rs, os, vs, h, hl, hr, hd, ho, hn => by
    unfold callArgs at h
    split at h
    · rename_i heq _; cases heq
    · rename_i heq _; injection heq with heq; cases heq
    · rename_i ps' id as' heq1 heq2
      injection heq1 with _ e1
      injection heq2 with e2 e3
      subst e1; subst e2; subst e3
      split at h
      · rename_i cs hcs
        split at h
        · cases h
        · rename_i cs' hcs'
          split at h
          · rename_i ws' rs' os' hrec
            simp only [Option.some.injEq, Prod.mk.injEq] at h
            obtain ⟨rfl, rfl, rfl⟩ := h
            match vs, hl, hr with
            | v :: vs, hl, hr =>
              obtain ⟨cs0, L, q1, q2, q3⟩ := hr 0 _ v rfl rfl
              rw [hcs] at q1
              obtain rfl : cs = cs0 := by injection q1 with q1; injection q1
              simp only [distinct] at hd
              split at hd
              · cases hd
              · rename_i hne
                have hni : id ∉ rs' := fun hm => by
                  rw [List.elem_eq_contains, List.contains_iff_mem.mpr hm] at hne; cases hne
                obtain ⟨Ls, g1, g2, g3⟩ := callArgs_ok lw s hup (vs := vs) hrec (by simpa using hl) (fun j y u hy hu => hr (j + 1) y u (by simpa using hy) (by simpa using hu)) hd (fun id hi => ho id (List.mem_append_right _ hi)) (fun i hi => hn i (List.mem_cons_of_mem _ hi))
                obtain ⟨L', us, t, b1, b2, b3, b4, b5⟩ := s.blk id _ hcs
                rw [q2] at b1
                obtain rfl := Option.some.inj b1
                obtain rfl : v = .pointer (some ⟨L.b, 0, none⟩) := by rw [q3, b3]
                refine ⟨L :: Ls, .ref cs' L ⟨b3, us, t, b2, b4, resL_ok lw hup s.blk b5 hcs' (fun i hi => ho i (List.mem_append_left _ hi))⟩ (hn id List.mem_cons_self L q2) (fun L' hL' e => ?_) g1, by simp [g2], fun j i L' hj hL' => ?_⟩
                · obtain ⟨j, hj⟩ := List.getElem?_of_mem hL'
                  have hjl : j < rs'.length := by rw [g2]; exact (List.getElem?_eq_some_iff.mp hj).1
                  obtain ⟨k1, cs1, k2⟩ := g3 j _ L' (List.getElem?_eq_getElem hjl) hj
                  have := s.inj _ id _ _ L' L k2 hcs k1 q2 e
                  exact hni (this ▸ List.getElem_mem hjl)
                · cases j with
                  | zero => simp at hj hL'; subst hj; subst hL'; exact ⟨q2, cs, hcs⟩
                  | succ j => simp at hj hL'; exact g3 j i L' hj hL'
          · cases h
      · cases h
    · cases h
theorem callArgs_rs {lw : Lawful D P} : ∀ {ps : List PM} {as ws : List (A D.S)} {rs os : List Nat}, callArgs D hp ps as = some (ws, rs, os) → ∀ i ∈ rs, ∃ cs, hp.get i = some (.box cs)
  | [], [], ws, rs, os, h => by
    simp only [callArgs, Option.some.injEq, Prod.mk.injEq] at h
    obtain ⟨rfl, rfl, rfl⟩ := h
    exact fun i hi => by cases hi
  | [], _ :: _, ws, rs, os, h => by simp [callArgs] at h
  | .val :: ps, [], ws, rs, os, h => by simp [callArgs] at h
  | .ref :: ps, [], ws, rs, os, h => by simp [callArgs] at h
  | .val :: ps, x :: as, ws, rs, os, h => by
    simp only [callArgs] at h
    split at h
    · cases h
    · split at h
      · rename_i hrec
        simp only [Option.some.injEq, Prod.mk.injEq] at h
        obtain ⟨rfl, rfl, rfl⟩ := h
        exact callArgs_rs (lw := lw) hrec
      · cases h
  | .ref :: ps, x :: as, ws, rs, os, h => by
    unfold callArgs at h
    split at h
    · rename_i heq _; cases heq
    · rename_i heq _; injection heq with heq; cases heq
    · rename_i ps' id as' heq1 heq2
      injection heq1 with _ e1
      injection heq2 with e2 e3
      subst e1; subst e2; subst e3
      split at h
      · rename_i cs hcs
        split at h
        · cases h
        · split at h
          · rename_i hrec
            simp only [Option.some.injEq, Prod.mk.injEq] at h
            obtain ⟨rfl, rfl, rfl⟩ := h
            intro i hi
            rcases List.mem_cons.mp hi with rfl | hi
            · exact ⟨cs, hcs⟩
            · exact callArgs_rs (lw := lw) hrec i hi
          · cases h
      · cases h
    · cases h
theorem callArgs_os (lw : Lawful D P) (s : Sim K β F fr hp a w) : ∀ {ps : List PM} {as ws : List (A D.S)} {rs os : List Nat} {vs : List Value}, callArgs D hp ps as = some (ws, rs, os) → as.length = vs.length →
    (∀ (j : Nat) x v, as[j]? = some x → vs[j]? = some v → RA D w F hp.get β x v) → ∀ id ∈ os, ∃ (t : Ty) (l : List (T D.S t)), hp.get id = some (.arr t l)
  | [], [], ws, rs, os, vs, h, hl, hr => by
    simp only [callArgs, Option.some.injEq, Prod.mk.injEq] at h
    obtain ⟨rfl, rfl, rfl⟩ := h
    exact fun i hi => by cases hi
  | [], _ :: _, ws, rs, os, vs, h, _, _ => by simp [callArgs] at h
  | .val :: ps, [], ws, rs, os, vs, h, _, _ => by simp [callArgs] at h
  | .ref :: ps, [], ws, rs, os, vs, h, _, _ => by simp [callArgs] at h
  | .val :: ps, x :: as, ws, rs, os, vs, h, hl, hr => by
    simp only [callArgs] at h
    split at h
    · cases h
    · split at h
      · rename_i hrec
        simp only [Option.some.injEq, Prod.mk.injEq] at h
        obtain ⟨rfl, rfl, rfl⟩ := h
        match vs, hl, hr with
        | v :: vs, hl, hr =>
          intro id hi
          rcases List.mem_append.mp hi with hi | hi
          · have r0 := hr 0 x v rfl rfl
            cases x with
            | c c => exact ownsL_arr (w := w) (F := F) (β := β) (cs := [c]) (vs := [v]) ⟨rfl, fun j y u hy hu => by
                cases j with
                | zero => simp at hy hu; subst hy; subst hu; exact r0
                | succ j => simp at hy⟩ id hi
            | agg cs => obtain ⟨us, _, rl⟩ := r0; exact ownsL_arr rl id hi
          · exact callArgs_os lw s (vs := vs) hrec (by simpa using hl) (fun j y u hy hu => hr (j + 1) y u (by simpa using hy) (by simpa using hu)) id hi
      · cases h
  | .ref :: ps, x :: as, ws, rs, os, vs, h, hl, hr => by
    unfold callArgs at h
    split at h
    · rename_i heq _; cases heq
    · rename_i heq _; injection heq with heq; cases heq
    · rename_i ps' id as' heq1 heq2
      injection heq1 with _ e1
      injection heq2 with e2 e3
      subst e1; subst e2; subst e3
      split at h
      · rename_i cs hcs
        split at h
        · cases h
        · split at h
          · rename_i hrec
            simp only [Option.some.injEq, Prod.mk.injEq] at h
            obtain ⟨rfl, rfl, rfl⟩ := h
            match vs, hl, hr with
            | v :: vs, hl, hr =>
              intro i hi
              rcases List.mem_append.mp hi with hi | hi
              · obtain ⟨L', us, t, b1, b2, b3, b4, b5⟩ := s.blk id _ hcs
                exact ownsL_arr b5 i hi
              · exact callArgs_os lw s (vs := vs) hrec (by simpa using hl) (fun j y u hy hu => hr (j + 1) y u (by simpa using hy) (by simpa using hu)) i hi
          · cases h
      · cases h
    · cases h
/-- A call, told and in memory. -/
theorem call_ok (lw : Lawful D P) (hH : HOk D P H) (s : Sim K β F fr hp a w) {g : FuncId} {as : List (A D.S)} {vs : List Value} (hl : as.length = vs.length) (hr : ∀ (j : Nat) x v, as[j]? = some x → vs[j]? = some v → RA D w F hp.get β x v)
    (h : callK D H g d as fr hp k = some r) : ∃ v fr' hp', k v fr' hp' = some r ∧ RunOk P g vs.toArray w fun e w' => ∃ cv F', e = .returned cv ∧ Sim K β F' fr' hp' a w' ∧ RV D w' F' hp'.get β v cv := by
  unfold callK at h
  split at h
  · cases h
  rename_i md hmd
  split at h
  · cases h
  rename_i ws rs os hargs
  have hrk : ∀ i ∈ rs, i < 65535 := fun i hi => by
    obtain ⟨cs, hc⟩ := callArgs_rs (lw := lw) hargs i hi
    exact s.key i _ hc
  split at h
  · cases h
  · -- what is own is told by value from here on
    rename_i hds _
    obtain ⟨F', fr', hp', h1, s', fz⟩ := frzs_ok lw s h
    obtain ⟨res, css, h2, hcall, _⟩ := hH g ws _ r md hmd h1
    obtain ⟨hp'', h3, q1, q2, q3⟩ := setRefsK_some h2 hrk hds
    have hown : ∀ id ∈ os, ∀ L, β id = some L → F' L.b := fun id hi L hL => by
      obtain ⟨t, l, hg⟩ := callArgs_os lw s hargs hl hr id hi
      exact fz.own id hi t l L hg hL
    have hrsn : ∀ i ∈ rs, ∀ L, β i = some L → ¬ F' L.b := fun i hi L hL => by
      obtain ⟨cs, hc⟩ := callArgs_rs (lw := lw) hargs i hi
      obtain ⟨cs', hc'⟩ := fz.box' i cs hc
      exact (s'.sep i _ L hc' hL).1
    obtain ⟨Ls, g1, g2, g3⟩ := callArgs_ok lw s fz.up hargs hl hr hds hown hrsn
    refine ⟨_, _, _, h3, (hcall w F' vs Ls s'.old g1).mono ?_⟩
    rintro e w' ⟨rvs, F1, rfl, hbeh, hF1, hF1', hres, hlent⟩
    have s'' := s'.called hbeh hF1 hF1' (fun j i L hj hL => by
      obtain ⟨k1, cs, k2⟩ := g3 j i L hj hL
      exact ⟨k1, fz.box' i cs k2⟩) g2 hlent q2 q3
    exact ⟨_, F1, rfl, s'', pack_ok hres⟩
  · rename_i hds _
    obtain ⟨res, css, h2, hcall, _⟩ := hH g ws _ r md hmd h
    split at h2
    · cases h2
    · rename_i hnr
      rw [Bool.and_eq_true] at hnr
      obtain ⟨hp'', h3, q1, q2, q3⟩ := setRefsK_some h2 hrk hds
      -- what is lent
      have hx : ∃ Ls, Args D w (fun b => b < w.heap.size ∧ ∀ i ∈ rs, ∀ L, β i = some L → b ≠ L.b) md.ps ws vs Ls ∧ rs.length = Ls.length ∧ ∀ (j : Nat) i L, rs[j]? = some i → Ls[j]? = some L → β i = some L ∧ ∃ cs, hp.get i = some (.box cs) :=
        callArgs_ok lw s (fun b hb => ⟨s.old b hb, fun i hi L hL e => by
          obtain ⟨cs, hc⟩ := callArgs_rs (lw := lw) hargs i hi
          exact (s.sep i _ L hc hL).1 (e ▸ hb)⟩) hargs hl hr hds (fun id hi L hL => by
            obtain ⟨t, l, hg⟩ := callArgs_os lw s hargs hl hr id hi
            refine ⟨(s.sep id _ L hg hL).2, fun i hi' L' hL' e => ?_⟩
            obtain ⟨cs, hc⟩ := callArgs_rs (lw := lw) hargs i hi'
            have := s.inj id i _ _ L L' hg hc hL hL' e
            subst this
            rw [hg] at hc; cases hc) (fun i hi L hL hF => hF.2 i hi L hL rfl)
      obtain ⟨Ls, g1, g2, g3⟩ := hx
      refine ⟨_, _, _, h3, (hcall w _ vs Ls (fun b hb => hb.1) g1).mono ?_⟩
      rintro e w' ⟨rvs, F1, rfl, hbeh, hF1, hF1', hres, hlent⟩
      have hlent' : LentAll D w' F Ls css := ⟨hlent.1, fun j L cs hj hc => by
        obtain ⟨l1, us, t, l2, l3, l4⟩ := hlent.2 j L cs hj hc
        exact ⟨l1, us, t, l2, l3, noRef_PL (noRefLs_at hnr.2 cs (List.mem_of_getElem? hc)) l4⟩⟩
      have hres' : ResAll D w' F res rvs := ⟨hres.1, fun j x v hx hv => noRef_RPA (noRefAs_at hnr.1 x (List.mem_of_getElem? hx)) (hres.2 j x v hx hv)⟩
      have s'' := s.called hbeh (fun b hb => hb) (fun b hb => ⟨.inl hb, Nat.lt_of_lt_of_le (s.old b hb) hbeh.size⟩) g3 g2 hlent' q2 q3
      exact ⟨_, F, rfl, s'', pack_ok hres'⟩
end
end Go.Proofs.Ytalgppclaolonaa.Ev
