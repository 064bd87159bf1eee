/- The interpreter of a claim: texts Ev22 Ev25 Ev26 Ev27 Ev28 Ev29 Ev30 Ev31 Ev18 Ev19 Ev19b in one. -/
import Derived.Test.YtkpjeihgigmnkaaEvAb
import Derived.Orders
/- Values without memory: an operation hands on one state alone. -/
namespace Go.Proofs.Ytkpjeihgigmnkaa.Ev
open Go
set_option linter.unusedVariables false
set_option linter.unusedSimpArgs false
section
variable {D : Tys} {R : Type}
theorem bKK_nat {b : Bool} {k k' : Option R} {r : R} (h : bKK b k k' = some r) : (b = true ∧ k = some r) ∨ (b = false ∧ k' = some r) := by
  cases b with
  | true => exact .inl ⟨rfl, h⟩
  | false => exact .inr ⟨rfl, h⟩
theorem rowK_nat {ad : TD} {c : C D.S} {d : Nat} {fr : Tr (V D.S)} {hp : Tr (B D.S)} : N3 (R := R) (rowK D ad c d fr hp) := by
  intro k r h
  unfold rowK at h
  split at h
  case h_2 => cases h
  rename_i len esz g id e off
  split at h
  case h_2 => cases h
  rename_i t1 v hb hi
  split at h
  case h_2 => cases h
  rename_i l hl
  split at h
  case h_2 => cases h
  rename_i hlen
  rw [killK_eq] at h
  obtain ⟨v', fr', hp', h1, h2⟩ := newK_nat _ _ h
  exact ⟨v', fr', hp', h1, fun k2 => by simp only [rowK, hb, hi, hl, hlen, killK_eq]; exact h2 k2⟩
theorem opK_nat {H : HH D R} (hH : HNat H) {op : Op} {d : Nat} {fr : Tr (V D.S)} {hp : Tr (B D.S)} : N3 (opK D H op d fr hp) := by
  intro k r h
  cases op with
  | move x => simp only [opK, arrK_eq] at h ⊢; split at h <;> first | (cases h; done) | exact ⟨_, _, _, h, fun k2 => by simp only [*]⟩
  | assign x => simp only [opK, arrK_eq] at h ⊢; split at h <;> first | (cases h; done) | exact ⟨_, _, _, h, fun k2 => by simp only [*]⟩
  | pick c x y =>
    simp only [opK, arrK_eq] at h ⊢
    split at h
    · rcases bKK_nat h with ⟨rfl, h'⟩ | ⟨rfl, h'⟩ <;> clear h <;> split at h' <;> first | (cases h'; done) | exact ⟨_, _, _, h', fun k2 => by simp only [bKK, *]⟩
    · cases h
  | alloc t =>
    simp only [opK, arrK_eq] at h ⊢
    repeat' split at h
    all_goals first
      | (cases h; done)
      | (obtain ⟨v, fr', hp', h1, h2⟩ := newK_nat _ _ h; exact ⟨v, fr', hp', h1, fun k2 => by simp only [*]⟩)
  | box t x =>
    simp only [opK, arrK_eq] at h ⊢
    repeat' split at h
    all_goals first
      | (cases h; done)
      | (obtain ⟨v, fr', hp', h1, h2⟩ := newK_nat _ _ h; exact ⟨v, fr', hp', h1, fun k2 => by simp only [*]⟩)
  | build t ps =>
    simp only [opK, arrK_eq] at h ⊢
    repeat' split at h
    all_goals first
      | (cases h; done)
      | exact ⟨_, _, _, h, fun k2 => by simp only [*]⟩
  | buildSlice t n ps =>
    simp only [opK, arrK_eq] at h ⊢
    repeat' split at h
    all_goals first
      | (cases h; done)
      | (obtain ⟨fr1, hp1, h1, h2⟩ := frzsK_nat _ _ h; obtain ⟨v, fr', hp', h3, h4⟩ := newK_nat _ _ h1; exact ⟨v, fr', hp', h3, fun k2 => by simp only [*]⟩)
  | load t p =>
    simp only [opK, arrK_eq] at h ⊢
    repeat' split at h
    all_goals first
      | (cases h; done)
      | exact ⟨_, _, _, h, fun k2 => by simp only [*]⟩
  | store t p x =>
    simp only [opK, arrK_eq, Tr.setK_eq] at h ⊢
    repeat' split at h
    all_goals first
      | (cases h; done)
      | exact ⟨_, _, _, h, fun k2 => by simp only [*]⟩
      | (obtain ⟨fr1, hp1, h1, h2⟩ := frzsK_nat _ _ h; split at h1 <;> first | (cases h1; done) | exact ⟨_, _, _, h1, fun k2 => by simp only [*]⟩)
  | nilCheck x =>
    simp only [opK, arrK_eq] at h ⊢
    repeat' split at h
    all_goals first
      | (cases h; done)
      | exact ⟨_, _, _, h, fun k2 => by simp only [*]⟩
  | binOp op t x y q =>
    simp only [opK, arrK_eq] at h ⊢
    split at h
    · rename_i k1 a k2 b hx hy
      split at h
      all_goals first
        | (obtain ⟨a1, h⟩ := bK_nat h; exact ⟨_, _, _, h, fun k2 => by simp only [bK, *]⟩)
        | (split at h
           · rcases bKK_nat h with ⟨e, h'⟩ | ⟨e, h'⟩
             · cases h'
             · exact ⟨_, _, _, h', fun k2 => by simp only [bKK, if_true, *]⟩
           · cases h)
        | (split at h
           · split at h
             · exact ⟨_, _, _, h, fun k2 => by simp only [if_true, *]⟩
             · cases h
           · cases h)
    · split at h
      · obtain ⟨a1, h⟩ := bK_nat h; exact ⟨_, _, _, h, fun k2 => by simp only [bK, *]⟩
      · split at h
        · exact ⟨_, _, _, h, fun k2 => by simp only [*]⟩
        · cases h
    · repeat' split at h
      all_goals first
        | (cases h; done)
        | exact ⟨_, _, _, h, fun k2 => by simp only [*]⟩
    · repeat' split at h
      all_goals first
        | (cases h; done)
        | exact ⟨_, _, _, h, fun k2 => by simp only [*]⟩
    · cases h
  | unOp u t x =>
    simp only [opK, arrK_eq] at h ⊢
    repeat' split at h
    all_goals first
      | (cases h; done)
      | exact ⟨_, _, _, h, fun k2 => by simp only [if_true, Bool.false_eq_true, if_false, *]⟩
  | convert q t x =>
    simp only [opK, arrK_eq] at h ⊢
    repeat' split at h
    all_goals first
      | (cases h; done)
      | exact ⟨_, _, _, h, fun k2 => by simp only [*]⟩
  | makeFunc f first caps =>
    cases f <;> first
      | (simp [opK, arrK_eq] at h; done)
      | (simp only [opK, arrK_eq] at h ⊢; split at h <;> first | (cases h; done) | exact ⟨_, _, _, h, fun k2 => by simp only [*]⟩)
  | makeSlice t x y =>
    simp only [opK, arrK_eq] at h ⊢
    repeat' split at h
    all_goals first
      | (cases h; done)
      | (obtain ⟨a1, a2, h⟩ := bK2_nat h; obtain ⟨a3, h⟩ := bK_nat h; obtain ⟨v, fr', hp', h1, h2⟩ := newK_nat _ _ h; exact ⟨v, fr', hp', h1, fun k2 => by simp only [bK, *]⟩)
  | slice t x lo hi mx =>
    cases mx with
    | some m => simp [opK, arrK_eq] at h
    | none =>
      simp only [opK, arrK_eq] at h ⊢
      repeat' split at h
      all_goals first
        | (cases h; done)
        | (obtain ⟨v, fr', hp', h1, h2⟩ := sliceK_nat _ _ h; exact ⟨v, fr', hp', h1, fun k2 => by simp only [*]⟩)
        | (obtain ⟨v, fr', hp', h1, h2⟩ := rowK_nat _ _ h; exact ⟨v, fr', hp', h1, fun k2 => by simp only [*]⟩)
  | fieldAddr t x f =>
    simp only [opK, arrK_eq] at h ⊢
    repeat' split at h
    all_goals first
      | (cases h; done)
      | exact ⟨_, _, _, h, fun k2 => by simp only [*]⟩
  | field t x f =>
    simp only [opK, arrK_eq] at h ⊢
    repeat' split at h
    all_goals first
      | (cases h; done)
      | exact ⟨_, _, _, h, fun k2 => by simp only [*]⟩
  | indexAddr t x y =>
    simp only [opK, arrK_eq] at h ⊢
    repeat' split at h
    all_goals first
      | (cases h; done)
      | (obtain ⟨h, h2⟩ := idxK_nat h; exact ⟨_, _, _, h, fun k2 => by simp only [*]⟩)
  | index t x y =>
    simp only [opK, arrK_eq] at h ⊢
    split at h
    · obtain ⟨h, h2⟩ := idxK_nat h; exact ⟨_, _, _, h, fun k2 => by simp only [*]⟩
    · obtain ⟨h, h2⟩ := idxK_nat h
      repeat' split at h
      all_goals first
        | (cases h; done)
        | exact ⟨_, _, _, h, fun k2 => by simp only [*]⟩
    · cases h
  | extract x i =>
    simp only [opK, arrK_eq] at h ⊢
    repeat' split at h
    all_goals first
      | (cases h; done)
      | exact ⟨_, _, _, h, fun k2 => by simp only [*]⟩
  | call c =>
    obtain ⟨f, args, ts⟩ := c
    cases f with
    | value f =>
      simp only [opK, arrK_eq] at h ⊢
      split at h
      · obtain ⟨v, fr', hp', h1, h2⟩ := callK_nat hH _ _ h
        exact ⟨v, fr', hp', h1, fun k2 => by simp only [*]⟩
      · cases h
    | invoke x m => simp [opK, arrK_eq] at h
    | builtin b =>
      cases b <;> first
        | (simp [opK, arrK_eq] at h; done)
        | (simp only [opK, arrK_eq] at h ⊢
           repeat' split at h
           all_goals first
             | (cases h; done)
             | exact ⟨_, _, _, h, fun k2 => by simp only [*]⟩
             | (obtain ⟨v, fr', hp', h1, h2⟩ := appendK_nat _ _ h; exact ⟨v, fr', hp', h1, fun k2 => by simp only [*]⟩))
  | _ => simp [opK, arrK_eq] at h
theorem putK_set {dst : Option Tmp} {v : V D.S} {fr : Tr (V D.S)} (k : Tr (V D.S) → Option R) : putK D dst v fr k = k (match dst with | some d => fr.set depth d (some v) | none => fr) := by
  cases dst with
  | none => rfl
  | some d => simp only [putK, Tr.setK_eq]
theorem yieldK_nat {ops : List Oper} {j : Nat} {fr : Tr (V D.S)} {k : Nat → Bool → Option R} {r : R} (h : yieldK D ops j fr k = some r) : ∃ d b, k d b = some r ∧ ∀ k2 : Nat → Bool → Option R, yieldK D ops j fr k2 = k2 d b := by
  unfold yieldK at h
  split at h
  · split at h
    · exact ⟨_, _, h, fun k2 => by unfold yieldK; simp only [*]⟩
    · cases h
  · cases h
theorem op1K0_nat {H : HH D R} (hH : HNat H) {ops : List Oper} {o : Oper} {fr : Tr (V D.S)} {hp : Tr (B D.S)} : N2 (op1K0 D H ops o fr hp) := by
  intro k r h
  unfold op1K0 at h
  simp only [putK_set, Tr.setK_eq] at h
  split at h
  · rename_i hg
    obtain ⟨v, fr', hp', h1, h2⟩ := opK_nat hH _ _ h
    exact ⟨_, _, h1, fun k2 => by unfold op1K0; simp only [putK_set, Tr.setK_eq, hg]; rw [h2]⟩
  · rename_i j hg
    obtain ⟨d, b, h0, e0⟩ := yieldK_nat h
    rcases bKK_nat h0 with ⟨rfl, h'⟩ | ⟨rfl, h'⟩
    · obtain ⟨v, fr', hp', h1, h2⟩ := opK_nat hH _ _ h'
      exact ⟨_, _, h1, fun k2 => by unfold op1K0; simp only [putK_set, Tr.setK_eq, hg]; rw [e0]; simp only [bKK]; rw [h2]⟩
    · exact ⟨_, _, h', fun k2 => by unfold op1K0; simp only [putK_set, Tr.setK_eq, hg]; rw [e0]; rfl⟩
  · rename_i j hg
    obtain ⟨d, b, h0, e0⟩ := yieldK_nat h
    rcases bKK_nat h0 with ⟨rfl, h'⟩ | ⟨rfl, h'⟩
    · exact ⟨_, _, h', fun k2 => by unfold op1K0; simp only [putK_set, Tr.setK_eq, hg]; rw [e0]; rfl⟩
    · obtain ⟨v, fr', hp', h1, h2⟩ := opK_nat hH _ _ h'
      exact ⟨_, _, h1, fun k2 => by unfold op1K0; simp only [putK_set, Tr.setK_eq, hg]; rw [e0]; simp only [bKK]; rw [h2]⟩
theorem op1K_nat {H : HH D R} (hH : HNat H) {ops : List Oper} {o : Oper} {fr : Tr (V D.S)} {hp : Tr (B D.S)} : N2 (op1K D H ops o fr hp) := by
  intro k r h
  unfold op1K at h
  split at h
  · rename_i d hsk
    rw [putK_set] at h
    exact ⟨_, _, h, fun k2 => by unfold op1K; rw [hsk]; simp only [putK_set]⟩
  · rename_i hsk
    obtain ⟨fr', hp', h1, h2⟩ := op1K0_nat hH _ _ h
    exact ⟨_, _, h1, fun k2 => by unfold op1K; rw [hsk]; exact h2 k2⟩
theorem opsK_nat {H : HH D R} (hH : HNat H) {ops : List Oper} : ∀ {l : List Oper} {fr : Tr (V D.S)} {hp : Tr (B D.S)}, N2 (opsK D H ops l fr hp)
  | [], fr, hp, k, r, h => ⟨fr, hp, h, fun _ => rfl⟩
  | o :: l, fr, hp, k, r, h => by
    unfold opsK at h
    obtain ⟨fr1, hp1, h1, e1⟩ := op1K_nat hH _ _ h
    obtain ⟨fr2, hp2, h2, e2⟩ := opsK_nat hH _ _ h1
    exact ⟨fr2, hp2, h2, fun k2 => by unfold opsK; rw [e1]; exact e2 k2⟩
end
end Go.Proofs.Ytkpjeihgigmnkaa.Ev
/- Values without memory: what an operation looks at, what it turns. -/
namespace Go.Proofs.Ytkpjeihgigmnkaa.Ev
open Go
set_option linter.unusedVariables false
set_option linter.unusedSimpArgs false
section
variable {S : Nat → Type}
theorem appN_eq : ∀ (a b : List Nat), appN a b = a ++ b
  | [], b => rfl
  | i :: a, b => by simp [appN, appN_eq a b]
theorem idsL_mem {c : C S} {cs : List (C S)} (h : c ∈ cs) {i : Nat} (hi : i ∈ idsC c) : i ∈ idsL cs := by
  induction cs with
  | nil => cases h
  | cons d cs ih =>
    simp only [idsL, appN_eq, List.mem_append]
    rcases List.mem_cons.mp h with rfl | h
    · exact .inl hi
    · exact .inr (ih h)
end
theorem slotsL_mem {t : Tmp} {l : List Operand} (h : Operand.tmp t ∈ l) : t ∈ slotsL l := by
  induction l with
  | nil => cases h
  | cons x l ih =>
    rcases List.mem_cons.mp h with e | m
    · subst e; exact List.mem_cons_self
    · cases x <;> simp only [slotsL] <;> first | exact List.mem_cons_of_mem _ (ih m) | exact ih m
section
variable {D : Tys} {R : Type} {fr fr2 : Tr (V D.S)} {hp hp2 : Tr (B D.S)}
/-- Two states that agree in some slots, in some blocks. -/
def AgF (S : List Nat) (fr fr2 : Tr (V D.S)) : Prop := ∀ t ∈ S, fr2.get t = fr.get t
def AgH (S : List Nat) (hp hp2 : Tr (B D.S)) : Prop := ∀ t ∈ S, hp2.get t = hp.get t
theorem ev_ag {l : List Operand} (h : AgF (slotsL l) fr fr2) {x : Operand} (hx : x ∈ l) : ev fr2 x = ev fr x := by
  cases x with
  | tmp t => exact h t (slotsL_mem hx)
  | _ => rfl
theorem evA_ag {l : List Operand} (h : AgF (slotsL l) fr fr2) {x : Operand} (hx : x ∈ l) : evA fr2 x = evA fr x := by unfold evA; rw [ev_ag h hx]
theorem evC_ag {l : List Operand} (h : AgF (slotsL l) fr fr2) {x : Operand} (hx : x ∈ l) : evC fr2 x = evC fr x := by unfold evC; rw [ev_ag h hx]
theorem evAs_ag {l : List Operand} (h : AgF (slotsL l) fr fr2) : ∀ {m : List Operand}, (∀ x ∈ m, x ∈ l) → evAs D fr2 m = evAs D fr m
  | [], _ => rfl
  | x :: m, hm => by simp only [evAs]; rw [evA_ag h (hm x List.mem_cons_self), evAs_ag h fun y hy => hm y (List.mem_cons_of_mem _ hy)]
theorem evParts_ag {l : List Operand} (h : AgF (slotsL l) fr fr2) : ∀ {m : List (Nat × Operand)}, (∀ x ∈ m, x.2 ∈ l) → evParts D fr2 m = evParts D fr m
  | [], _ => rfl
  | (i, x) :: m, hm => by
    have hx : x ∈ l := hm (i, x) List.mem_cons_self
    simp only [evParts]; rw [evA_ag h hx, evParts_ag h fun y hy => hm y (List.mem_cons_of_mem _ hy)]
theorem capIds_ag {l : List Operand} (h : AgF (slotsL l) fr fr2) : ∀ {m : List Operand}, (∀ x ∈ m, x ∈ l) → capIds D fr2 m = capIds D fr m
  | [], _ => rfl
  | x :: m, hm => by simp only [capIds]; rw [evC_ag h (hm x List.mem_cons_self), capIds_ag h fun y hy => hm y (List.mem_cons_of_mem _ hy)]
theorem optI_ag {l : List Operand} (h : AgF (slotsL l) fr fr2) {o : Option Operand} (ho : ∀ x, o = some x → x ∈ l) : optI D fr2 o = optI D fr o := by
  cases o with
  | none => rfl
  | some x => simp only [optI]; rw [evC_ag h (ho x rfl)]
theorem resC_ag {c : C D.S} (h : AgH (idsC c) hp hp2) : resC hp2 c = resC hp c := by
  cases c <;> simp only [resC] <;> first
    | (rw [h _ List.mem_cons_self]; done)
    | rfl
    | skip
  rename_i f caps
  cases caps <;> rfl
theorem AgH.mono {S S' : List Nat} (h : AgH S hp hp2) (hs : ∀ i ∈ S', i ∈ S) : AgH S' hp hp2 := fun i hi => h i (hs i hi)
theorem resL_ag : ∀ {cs : List (C D.S)}, AgH (idsL cs) hp hp2 → resL hp2 cs = resL hp cs
  | [], _ => rfl
  | c :: cs, h => by
    simp only [idsL, appN_eq] at h
    simp only [resL]
    rw [resC_ag (h.mono fun i hi => List.mem_append_left _ hi), resL_ag (h.mono fun i hi => List.mem_append_right _ hi)]
theorem resA_ag {x : A D.S} (h : AgH (idsL x.cells) hp hp2) : resA hp2 x = resA hp x := by
  cases x with
  | c c => simp only [resA]; rw [resC_ag (h.mono fun i hi => by simpa [A.cells, idsL, appN_eq] using hi)]
  | agg cs => simp only [resA]; rw [resL_ag (cs := cs) h]
theorem lenC_ag {d : TD} {c : C D.S} (h : AgH (idsC c) hp hp2) : lenC D hp2 d c = lenC D hp d c := by
  cases d <;> cases c <;> simp only [lenC] <;> (rw [h _ List.mem_cons_self])
theorem loadA_ag {ti : TI D.S} {c : C D.S} (h : AgH (idsC c) hp hp2) : loadA D hp2 ti c = loadA D hp ti c := by
  cases c <;> simp only [loadA] <;> (rw [h _ List.mem_cons_self])
theorem storeB_ag {ti : TI D.S} {c : C D.S} {x : A D.S} (h : AgH (idsC c) hp hp2) : storeB D hp2 ti c x = storeB D hp ti c x := by
  unfold storeB
  split
  · rfl
  · cases c <;> simp only <;> (rw [h _ List.mem_cons_self])
theorem elems_ag {t : Ty} {c : C D.S} (h : AgH (idsC c) hp hp2) : elems D hp2 t c = elems D hp t c := by
  cases c <;> simp only [elems] <;> (rw [h _ List.mem_cons_self])
theorem srcL_ag {t : Ty} {c : C D.S} (h : AgH (idsC c) hp hp2) : srcL D hp2 t c = srcL D hp t c := by
  unfold srcL
  split
  · rfl
  · exact elems_ag h
theorem grow_ag {t : Ty} {c : C D.S} (h : AgH (idsC c) hp hp2) : grow D t hp2 c = grow D t hp c := by
  cases c <;> simp only [grow] <;> (rw [h _ List.mem_cons_self])
def idsP : List (Nat × A D.S) → List Nat
  | [] => []
  | (_, x) :: l => appN (idsL x.cells) (idsP l)
theorem decParts_ag {t : Ty} : ∀ {ps : List (Nat × A D.S)}, AgH (idsP ps) hp hp2 → decParts D hp2 t ps = decParts D hp t ps
  | [], _ => rfl
  | (i, x) :: ps, h => by
    simp only [idsP, appN_eq] at h
    simp only [decParts]
    rw [resL_ag (h.mono fun i hi => List.mem_append_left _ hi), decParts_ag (h.mono fun i hi => List.mem_append_right _ hi)]
theorem idsBs_mem {hp : Tr (B D.S)} {i : Nat} {b : B D.S} (hb : hp.get i = some b) : ∀ {l : List Nat}, i ∈ l → ∀ j ∈ idsB b, j ∈ idsBs hp l
  | x :: l, h, j, hj => by
    rcases List.mem_cons.mp h with rfl | h
    · simp only [idsBs, hb, appN_eq, List.mem_append]; exact .inl hj
    · have := idsBs_mem hb h j hj
      simp only [idsBs]
      split
      · rw [appN_eq]; exact List.mem_append_right _ this
      · exact this
theorem callArgs_ag : ∀ {ps : List PM} {xs : List (A D.S)}, AgH (idsAs xs) hp hp2 → AgH (idsBs hp (idsAs xs)) hp hp2 → callArgs D hp2 ps xs = callArgs D hp ps xs
  | [], [], _, _ => rfl
  | [], _ :: _, _, _ => rfl
  | .val :: ps, [], _, _ => rfl
  | .ref :: ps, [], _, _ => rfl
  | .clo _ :: ps, [], _, _ => rfl
  | .clo _ :: ps, _ :: _, _, _ => rfl
  | .val :: ps, x :: xs, h, h2 => by
    simp only [idsAs, appN_eq] at h
    simp only [callArgs]
    rw [resA_ag (h.mono fun i hi => List.mem_append_left _ hi), callArgs_ag (h.mono fun i hi => List.mem_append_right _ hi) (h2.mono fun i hi => by
      have key : ∀ l m : List Nat, i ∈ idsBs hp m → i ∈ idsBs hp (l ++ m) := fun l m hm => by
        induction l with
        | nil => exact hm
        | cons y l ih =>
          simp only [List.cons_append, idsBs]
          split
          · rw [appN_eq]; exact List.mem_append_right _ ih
          · exact ih
      simp only [idsAs, appN_eq]
      exact key _ _ hi)]
  | .ref :: ps, x :: xs, h, h2 => by
    have h' := h
    simp only [idsAs, appN_eq] at h'
    have hrec := callArgs_ag (ps := ps) (xs := xs) (h'.mono fun i hi => List.mem_append_right _ hi) (h2.mono fun i hi => by
      have key : ∀ l m : List Nat, i ∈ idsBs hp m → i ∈ idsBs hp (l ++ m) := fun l m hm => by
        induction l with
        | nil => exact hm
        | cons y l ih =>
          simp only [List.cons_append, idsBs]
          split
          · rw [appN_eq]; exact List.mem_append_right _ ih
          · exact ih
      simp only [idsAs, appN_eq]
      exact key _ _ hi)
    cases x with
    | agg cs => rfl
    | c c =>
      cases c with
      | ptr id off =>
        cases off with
        | succ n => rfl
        | zero =>
          have hid : id ∈ idsAs (A.c (.ptr id 0) :: xs) := by simp [idsAs, A.cells, idsL, idsC, appN_eq]
          simp only [callArgs]
          rw [h id hid]
          cases hg : hp.get id with
          | none => rfl
          | some b =>
            cases b with
            | arr t l => rfl
            | box cs =>
              simp only
              rw [resL_ag (h2.mono fun i hi => idsBs_mem hg hid i hi), hrec]
      | _ => rfl
end
end Go.Proofs.Ytkpjeihgigmnkaa.Ev
/- Values without memory: an operation gives the same wherever what it looks at is the same. -/
namespace Go.Proofs.Ytkpjeihgigmnkaa.Ev
open Go
set_option linter.unusedVariables false
set_option linter.unusedSimpArgs false
section
variable {D : Tys} {R : Type}
/-- What an operation does to a state but for its result: blocks go, and what names them is turned; blocks are set. -/
structure Dl (D : Tys) where
  ks : List (Nat × (C D.S → C D.S))
  us : List (Nat × B D.S)
def kF : List (Nat × (C D.S → C D.S)) → Tr (V D.S) → Tr (V D.S)
  | [], fr => fr
  | (_, f) :: l, fr => kF l (fr.map (mapV f))
def kH : List (Nat × (C D.S → C D.S)) → Tr (B D.S) → Tr (B D.S)
  | [], hp => hp
  | (id, f) :: l, hp => kH l ((hp.set depth id none).map (mapB f))
def Dl.F (δ : Dl D) (fr : Tr (V D.S)) : Tr (V D.S) := kF δ.ks fr
def setAll : List (Nat × B D.S) → Tr (B D.S) → Tr (B D.S)
  | [], hp => hp
  | (i, b) :: l, hp => setAll l (hp.set depth i (some b))
def Dl.H (δ : Dl D) (hp : Tr (B D.S)) : Tr (B D.S) := setAll δ.us (kH δ.ks hp)
/-- The blocks that are turned. -/
def Dl.aff (δ : Dl D) : List Nat := δ.ks.map (·.1) ++ δ.us.map (·.1)
theorem tchO_mem {fr : Tr (V D.S)} {hp : Tr (B D.S)} {x : Operand} {v : V D.S} (hv : ev fr x = some v) : ∀ {l : List Operand}, x ∈ l → ∀ i ∈ idsV v, i ∈ tchO fr hp l
  | y :: l, h, i, hi => by
    simp only [tchO]
    rcases List.mem_cons.mp h with rfl | h
    · rw [hv]; simp only [appN_eq, List.mem_append]; exact .inl hi
    · have := tchO_mem (hp := hp) hv h i hi
      split
      · rw [appN_eq]; exact List.mem_append_right _ this
      · exact this
/-- What is turned is what names the block, and it names nothing else then. -/
def Nm (id : Nat) (f : C D.S → C D.S) : Prop := ∀ c, (id ∉ idsC c → f c = c) ∧ ∀ i ∈ idsC (f c), i ∈ idsC c
theorem Nm.kill (n : Nat) : Nm (D := D) n (killF n) := fun c => by
  cases c with
  | own i =>
    simp only [idsC, killF, List.mem_singleton]
    refine ⟨fun h => if_neg fun e => h e.symm, fun j hj => ?_⟩
    by_cases e : i = n
    · rw [if_pos e] at hj; simp [idsC] at hj
    · rw [if_neg e] at hj; simpa [idsC] using hj
  | part i off m =>
    simp only [idsC, killF, List.mem_singleton]
    refine ⟨fun h => if_neg fun e => h e.symm, fun j hj => ?_⟩
    by_cases e : i = n
    · rw [if_pos e] at hj; simp [idsC] at hj
    · rw [if_neg e] at hj; simpa [idsC] using hj
  | eptr i e off =>
    simp only [idsC, killF, List.mem_singleton]
    refine ⟨fun h => if_neg fun e => h e.symm, fun j hj => ?_⟩
    by_cases e : i = n
    · rw [if_pos e] at hj; simp [idsC] at hj
    · rw [if_neg e] at hj; simpa [idsC] using hj
  | ptr i off =>
    simp only [idsC, killF, List.mem_singleton]
    refine ⟨fun h => if_neg fun e => h e.symm, fun j hj => ?_⟩
    by_cases e : i = n
    · rw [if_pos e] at hj; simp [idsC] at hj
    · rw [if_neg e] at hj; simpa [idsC] using hj
  | fn f caps =>
    simp only [idsC, killF]
    refine ⟨fun h => if_neg h, fun j hj => ?_⟩
    by_cases e : n ∈ caps
    · rw [if_pos e] at hj; simp [idsC] at hj
    · rw [if_neg e] at hj; simpa [idsC] using hj
  | _ => exact ⟨fun _ => rfl, fun i hi => hi⟩
theorem Nm.frz (n : Nat) (t : Ty) (l : List (T D.S t)) : Nm (D := D) n (frzF n t l) := fun c => by
  cases c with
  | own i =>
    simp only [idsC, frzF, List.mem_singleton]
    refine ⟨fun h => if_neg fun e => h e.symm, fun j hj => ?_⟩
    by_cases e : i = n
    · rw [if_pos e] at hj; simp [idsC] at hj
    · rw [if_neg e] at hj; simpa [idsC] using hj
  | part i off m =>
    simp only [idsC, frzF, List.mem_singleton]
    refine ⟨fun h => if_neg fun e => h e.symm, fun j hj => ?_⟩
    by_cases e : i = n
    · rw [if_pos e] at hj; simp [idsC] at hj
    · rw [if_neg e] at hj; simpa [idsC] using hj
  | eptr i e off =>
    simp only [idsC, frzF, List.mem_singleton]
    refine ⟨fun h => if_neg fun e => h e.symm, fun j hj => ?_⟩
    by_cases e : i = n
    · rw [if_pos e] at hj; simp [idsC] at hj
    · rw [if_neg e] at hj; simpa [idsC] using hj
  | ptr i off =>
    simp only [idsC, frzF, List.mem_singleton]
    refine ⟨fun h => if_neg fun e => h e.symm, fun j hj => ?_⟩
    by_cases e : i = n
    · rw [if_pos e] at hj; simp [idsC] at hj
    · rw [if_neg e] at hj; simpa [idsC] using hj
  | _ => exact ⟨fun _ => rfl, fun i hi => hi⟩
def Loc3 (D : Tys) {R : Type} (H : HH D R) (op : Op) (d : Nat) (fr : Tr (V D.S)) (hp : Tr (B D.S)) (k : KK D R) (r : R) : Prop :=
  ∃ v δ, k v (Dl.F δ fr) (Dl.H δ hp) = some r ∧ (∀ i ∈ Dl.aff δ, i ∈ nwT D fr op d ∨ i ∈ tch op fr hp) ∧ (effO D fr hp op = false → δ.ks = [] ∧ δ.us = []) ∧ ((killO op || frzO D fr hp op) = false → δ.ks = []) ∧ (∀ x ∈ δ.ks, x.1 ∈ kidO D fr hp op ∧ Nm x.1 x.2) ∧ (∀ i ∈ nwT D fr op d, hp.get i = none) ∧
    ∀ fr2 hp2, AgF (slotsL op.operands.toList) fr fr2 → AgH (tch op fr hp) hp hp2 → (∀ i ∈ nwT D fr op d, hp2.get i = none) → ∀ k2, opK D H op d fr2 hp2 k2 = k2 v (Dl.F δ fr2) (Dl.H δ hp2)
def δ0 : Dl D := ⟨[], []⟩
variable {H : HH D R} {op : Op} {d : Nat} {fr : Tr (V D.S)} {hp : Tr (B D.S)} {k : KK D R} {r : R}
theorem tch_op {x : Operand} {v : V D.S} (hx : x ∈ op.operands.toList) (hv : ev fr x = some v) : ∀ i ∈ idsV v, i ∈ tch op fr hp := fun i hi => by
  unfold tch; rw [appN_eq]; exact List.mem_append_left _ (tchO_mem hv hx i hi)
theorem evA_ev {fr : Tr (V D.S)} {x : Operand} {a : A D.S} (h : evA fr x = some a) : ev fr x = some (.a a) := by
  unfold evA at h
  split at h
  · rename_i h'; rw [h', Option.some.inj h]
  · cases h
theorem evC_ev {fr : Tr (V D.S)} {x : Operand} {c : C D.S} (h : evC fr x = some c) : ev fr x = some (.a (.c c)) := by
  unfold evC at h
  split at h
  · rename_i h'; rw [h', Option.some.inj h]
  · cases h
theorem agC {hp2 : Tr (B D.S)} {x : Operand} {c : C D.S} (h : AgH (tch op fr hp) hp hp2) (hx : x ∈ op.operands.toList) (hc : evC fr x = some c) : AgH (idsC c) hp hp2 :=
  h.mono fun i hi => tch_op hx (evC_ev hc) i (by simpa [idsV, A.cells, idsL, appN_eq] using hi)
theorem agA {hp2 : Tr (B D.S)} {x : Operand} {a : A D.S} (h : AgH (tch op fr hp) hp hp2) (hx : x ∈ op.operands.toList) (hc : evA fr x = some a) : AgH (idsL a.cells) hp hp2 :=
  h.mono fun i hi => tch_op hx (evA_ev hc) i hi
/-- Nothing is turned. -/
theorem Loc3.quiet {v : V D.S} (h : k v fr hp = some r) (hn : nwT D fr op d = []) (he : ∀ fr2 hp2, AgF (slotsL op.operands.toList) fr fr2 → AgH (tch op fr hp) hp hp2 → ∀ k2, opK D H op d fr2 hp2 k2 = k2 v fr2 hp2) : Loc3 D H op d fr hp k r :=
  ⟨v, δ0, h, fun i hi => by simp [Dl.aff, δ0] at hi, fun _ => ⟨rfl, rfl⟩, fun _ => rfl, fun x hx => (by cases hx), fun i hi => (by rw [hn] at hi; cases hi), fun fr2 hp2 h1 h2 _ k2 => he fr2 hp2 h1 h2 k2⟩
theorem loc_move {x : Operand} (h : opK D H (.move x) d fr hp k = some r) : Loc3 D H (.move x) d fr hp k r := by
  simp only [opK, arrK_eq] at h
  split at h
  · rename_i v hv
    exact .quiet h rfl fun fr2 hp2 h1 h2 k2 => by simp only [opK, arrK_eq]; rw [ev_ag h1 (by simp [Op.operands]), hv]
  · cases h
theorem loc_assign {x : Operand} (h : opK D H (.assign x) d fr hp k = some r) : Loc3 D H (.assign x) d fr hp k r := by
  simp only [opK, arrK_eq] at h
  split at h
  · rename_i v hv
    exact .quiet h rfl fun fr2 hp2 h1 h2 k2 => by simp only [opK, arrK_eq]; rw [ev_ag h1 (by simp [Op.operands]), hv]
  · cases h
theorem loc_pick {c x y : Operand} (h : opK D H (.pick c x y) d fr hp k = some r) : Loc3 D H (.pick c x y) d fr hp k r := by
  simp only [opK, arrK_eq] at h
  split at h
  · rename_i b hb
    rcases bKK_nat h with ⟨rfl, h'⟩ | ⟨rfl, h'⟩
    · clear h
      split at h'
      · rename_i v hv
        exact .quiet h' rfl fun fr2 hp2 h1 h2 k2 => by simp only [opK, arrK_eq]; rw [evC_ag h1 (by simp [Op.operands]), hb, ev_ag (x := x) h1 (by simp [Op.operands]), hv]; rfl
      · cases h'
    · clear h
      split at h'
      · rename_i v hv
        exact .quiet h' rfl fun fr2 hp2 h1 h2 k2 => by simp only [opK, arrK_eq]; rw [evC_ag h1 (by simp [Op.operands]), hb, ev_ag (x := y) h1 (by simp [Op.operands]), hv]; rfl
      · cases h'
  · cases h
theorem loc_load {t : TypeId} {p : Operand} (h : opK D H (.load t p) d fr hp k = some r) : Loc3 D H (.load t p) d fr hp k r := by
  simp only [opK, arrK_eq] at h
  split at h
  · rename_i ti hti
    split at h
    · rename_i c hc
      split at h
      · rename_i x hx
        exact .quiet h rfl fun fr2 hp2 h1 h2 k2 => by
          simp only [opK, arrK_eq]
          rw [hti, evC_ag h1 (by simp [Op.operands]), hc]
          simp only
          rw [loadA_ag (agC h2 (by simp [Op.operands]) hc), hx]
      · cases h
    · cases h
  · cases h
theorem ld_loc {t : TypeId} {p : Operand} (h : opK D H (.load t p) d fr hp k = some r) : ∃ v, k v fr hp = some r ∧ ∀ fr2 hp2, AgF (slotsL (Op.load t p).operands.toList) fr fr2 → AgH (tchO fr hp (Op.load t p).operands.toList) hp hp2 → ∀ k2, opK D H (.load t p) d fr2 hp2 k2 = k2 v fr2 hp2 := by
  simp only [opK, arrK_eq] at h
  split at h
  · rename_i ti hti
    split at h
    · rename_i c hc
      split at h
      · rename_i x hx
        exact ⟨_, h, fun fr2 hp2 h1 h2 k2 => by
          simp only [opK, arrK_eq]
          rw [hti, evC_ag h1 (by simp [Op.operands]), hc]
          simp only
          rw [loadA_ag (h2.mono fun i hi => tchO_mem (evC_ev hc) (by simp [Op.operands]) i (by simpa [idsV, A.cells, idsL, appN_eq] using hi)), hx]⟩
      · cases h
    · cases h
  · cases h
theorem loc_unOp {u : UnOp} {t : TypeId} {x : Operand} (h : opK D H (.unOp u t x) d fr hp k = some r) : Loc3 D H (.unOp u t x) d fr hp k r := by
  have e : ∀ fr2, AgF (slotsL (Op.unOp u t x).operands.toList) fr fr2 → evC fr2 x = evC fr x := fun fr2 h1 => evC_ag h1 (by simp [Op.operands])
  simp only [opK, arrK_eq] at h
  repeat' split at h
  all_goals first
    | (cases h; done)
    | exact .quiet h rfl fun fr2 hp2 h1 h2 k2 => by simp only [opK, arrK_eq]; rw [e fr2 h1]; simp only [if_true, Bool.false_eq_true, if_false, *]
theorem loc_nilCheck {x : Operand} (h : opK D H (.nilCheck x) d fr hp k = some r) : Loc3 D H (.nilCheck x) d fr hp k r := by
  have e : ∀ fr2, AgF (slotsL (Op.nilCheck x).operands.toList) fr fr2 → evC fr2 x = evC fr x := fun fr2 h1 => evC_ag h1 (by simp [Op.operands])
  simp only [opK, arrK_eq] at h
  repeat' split at h
  all_goals first
    | (cases h; done)
    | exact .quiet h rfl fun fr2 hp2 h1 h2 k2 => by simp only [opK, arrK_eq]; rw [e fr2 h1]; simp only [*]
theorem loc_convert {q t : TypeId} {x : Operand} (h : opK D H (.convert q t x) d fr hp k = some r) : Loc3 D H (.convert q t x) d fr hp k r := by
  have e : ∀ fr2, AgF (slotsL (Op.convert q t x).operands.toList) fr fr2 → evC fr2 x = evC fr x := fun fr2 h1 => evC_ag h1 (by simp [Op.operands])
  simp only [opK, arrK_eq] at h
  repeat' split at h
  all_goals first
    | (cases h; done)
    | (rename_i c hne hd hc _ _ c' hb hr _ l hl; have hl2 : bytesC D c' = some l := hl; exact .quiet h rfl fun fr2 hp2 h1 h2 k2 => by simp only [opK, arrK_eq]; rw [e fr2 h1]; have := resC_ag (agC h2 (by simp [Op.operands]) hc); simp only [*])
    | exact .quiet h rfl fun fr2 hp2 h1 h2 k2 => by simp only [opK, arrK_eq]; rw [e fr2 h1]; simp only [*]
theorem loc_fieldAddr {t : TypeId} {x : Operand} {f : Nat} (h : opK D H (.fieldAddr t x f) d fr hp k = some r) : Loc3 D H (.fieldAddr t x f) d fr hp k r := by
  have e : ∀ fr2, AgF (slotsL (Op.fieldAddr t x f).operands.toList) fr fr2 → evC fr2 x = evC fr x := fun fr2 h1 => evC_ag h1 (by simp [Op.operands])
  simp only [opK, arrK_eq] at h
  repeat' split at h
  all_goals first
    | (cases h; done)
    | exact .quiet h rfl fun fr2 hp2 h1 h2 k2 => by simp only [opK, arrK_eq]; rw [e fr2 h1]; simp only [*]
theorem loc_field {t : TypeId} {x : Operand} {f : Nat} (h : opK D H (.field t x f) d fr hp k = some r) : Loc3 D H (.field t x f) d fr hp k r := by
  have e : ∀ fr2, AgF (slotsL (Op.field t x f).operands.toList) fr fr2 → evA fr2 x = evA fr x := fun fr2 h1 => evA_ag h1 (by simp [Op.operands])
  simp only [opK, arrK_eq] at h
  repeat' split at h
  all_goals first
    | (cases h; done)
    | exact .quiet h rfl fun fr2 hp2 h1 h2 k2 => by simp only [opK, arrK_eq]; rw [e fr2 h1]; simp only [*]
theorem loc_extract {x : Operand} {i : Nat} (h : opK D H (.extract x i) d fr hp k = some r) : Loc3 D H (.extract x i) d fr hp k r := by
  have e : ∀ fr2, AgF (slotsL (Op.extract x i).operands.toList) fr fr2 → ev fr2 x = ev fr x := fun fr2 h1 => ev_ag h1 (by simp [Op.operands])
  simp only [opK, arrK_eq] at h
  repeat' split at h
  all_goals first
    | (cases h; done)
    | exact .quiet h rfl fun fr2 hp2 h1 h2 k2 => by simp only [opK, arrK_eq]; rw [e fr2 h1]; simp only [*]
theorem loc_build {t : TypeId} {ps : Array (Nat × Operand)} (h : opK D H (.build t ps) d fr hp k = some r) : Loc3 D H (.build t ps) d fr hp k r := by
  have e : ∀ fr2, AgF (slotsL (Op.build t ps).operands.toList) fr fr2 → evParts D fr2 ps.toList = evParts D fr ps.toList := fun fr2 h1 => evParts_ag h1 fun x hx => by
    simp only [Op.operands]; exact List.mem_map.mpr ⟨x, hx, rfl⟩
  simp only [opK, arrK_eq] at h
  repeat' split at h
  all_goals first
    | (cases h; done)
    | exact .quiet h rfl fun fr2 hp2 h1 h2 k2 => by simp only [opK, arrK_eq]; rw [e fr2 h1]; simp only [*]
theorem loc_makeFunc {f : Fn} {first caps : Array Operand} (h : opK D H (.makeFunc f first caps) d fr hp k = some r) : Loc3 D H (.makeFunc f first caps) d fr hp k r := by
  cases f with
  | func f =>
    have e : ∀ fr2, AgF (slotsL (Op.makeFunc (.func f) first caps).operands.toList) fr fr2 → capIds D fr2 caps.toList = capIds D fr caps.toList := fun fr2 h1 => capIds_ag h1 fun x hx => by
      simp only [Op.operands, Array.toList_append]; exact List.mem_append_right _ hx
    simp only [opK, arrK_eq] at h
    repeat' split at h
    all_goals first
      | (cases h; done)
      | exact .quiet h rfl fun fr2 hp2 h1 h2 k2 => by simp only [opK, arrK_eq]; rw [e fr2 h1]; simp only [*]
  | _ => simp [opK, arrK_eq] at h
theorem loc_index {t : TypeId} {x y : Operand} (h : opK D H (.index t x y) d fr hp k = some r) : Loc3 D H (.index t x y) d fr hp k r := by
  have e : ∀ fr2, AgF (slotsL (Op.index t x y).operands.toList) fr fr2 → evA fr2 x = evA fr x ∧ evC fr2 y = evC fr y := fun fr2 h1 => ⟨evA_ag h1 (by simp [Op.operands]), evC_ag h1 (by simp [Op.operands])⟩
  simp only [opK, arrK_eq] at h
  split at h
  · obtain ⟨h, h2⟩ := idxK_nat h
    exact .quiet h rfl fun fr2 hp2 h1 h2 k2 => by simp only [opK, arrK_eq]; rw [(e fr2 h1).1, (e fr2 h1).2]; simp only [*]
  · obtain ⟨h, h2⟩ := idxK_nat h
    repeat' split at h
    all_goals first
      | (cases h; done)
      | exact .quiet h rfl fun fr2 hp2 h1 h2 k2 => by simp only [opK, arrK_eq]; rw [(e fr2 h1).1, (e fr2 h1).2]; simp only [*]
  · cases h
theorem loc_indexAddr {t : TypeId} {x y : Operand} (h : opK D H (.indexAddr t x y) d fr hp k = some r) : Loc3 D H (.indexAddr t x y) d fr hp k r := by
  have e : ∀ fr2, AgF (slotsL (Op.indexAddr t x y).operands.toList) fr fr2 → evC fr2 x = evC fr x ∧ evC fr2 y = evC fr y := fun fr2 h1 => ⟨evC_ag h1 (by simp [Op.operands]), evC_ag h1 (by simp [Op.operands])⟩
  have ea : ∀ {hp2 : Tr (B D.S)} {c : C D.S}, AgH (tch (.indexAddr t x y) fr hp) hp hp2 → evC fr x = some c → ∀ i ∈ idsC c, hp2.get i = hp.get i := fun h2 hc => agC h2 (by simp [Op.operands]) hc
  simp only [opK, arrK_eq] at h
  split at h
  · rename_i hti hx hy
    split at h
    · split at h
      · obtain ⟨h, h2⟩ := idxK_nat h
        exact .quiet h rfl fun fr2 hp2 h1 h2 k2 => by simp only [opK, arrK_eq]; rw [(e fr2 h1).1, (e fr2 h1).2]; simp only [*]
      · cases h
    · have e2 := fun {hp2 : Tr (B D.S)} (g : AgH (tch (.indexAddr t x y) fr hp) hp hp2) => ea g hx _ List.mem_cons_self
      split at h
      · split at h
        · obtain ⟨h, h2⟩ := idxK_nat h
          exact .quiet h rfl fun fr2 hp2 h1 h2 k2 => by simp only [opK, arrK_eq]; rw [(e fr2 h1).1, (e fr2 h1).2, hti, hx, hy]; simp only; rw [e2 h2]; simp only [*]
        · cases h
      · cases h
    · have e2 := fun {hp2 : Tr (B D.S)} (g : AgH (tch (.indexAddr t x y) fr hp) hp hp2) => ea g hx _ List.mem_cons_self
      split at h
      · split at h
        · obtain ⟨h, h2⟩ := idxK_nat h
          exact .quiet h rfl fun fr2 hp2 h1 h2 k2 => by simp only [opK, arrK_eq]; rw [(e fr2 h1).1, (e fr2 h1).2, hti, hx, hy]; simp only; rw [e2 h2]; simp only [*]
        · cases h
      · cases h
    · cases h
  all_goals first
    | (obtain ⟨h, h2⟩ := idxK_nat h; exact .quiet h rfl fun fr2 hp2 h1 h2 k2 => by simp only [opK, arrK_eq]; rw [(e fr2 h1).1, (e fr2 h1).2]; simp only [*])
    | (cases h; done)
theorem loc_binOp {op : BinOp} {t q : TypeId} {x y : Operand} (h : opK D H (.binOp op t x y q) d fr hp k = some r) : Loc3 D H (.binOp op t x y q) d fr hp k r := by
  have e : ∀ fr2, AgF (slotsL (Op.binOp op t x y q).operands.toList) fr fr2 → evA fr2 x = evA fr x ∧ evA fr2 y = evA fr y := fun fr2 h1 => ⟨evA_ag h1 (by simp [Op.operands]), evA_ag h1 (by simp [Op.operands])⟩
  simp only [opK, arrK_eq] at h
  split at h
  · rename_i k1 a k2 b hx hy
    split at h
    all_goals first
      | (obtain ⟨a1, h⟩ := bK_nat h; exact .quiet h rfl fun fr2 hp2 h1 h2 k2 => by simp only [opK, arrK_eq]; rw [(e fr2 h1).1, (e fr2 h1).2]; simp only [bK, *])
      | (split at h
         · rcases bKK_nat h with ⟨e', h'⟩ | ⟨e', h'⟩
           · cases h'
           · exact .quiet h' rfl fun fr2 hp2 h1 h2 k2 => by simp only [opK, arrK_eq]; rw [(e fr2 h1).1, (e fr2 h1).2]; simp only [bKK, if_true, *]
         · cases h)
      | (split at h
         · rename_i hk
           subst hk
           split at h
           · exact .quiet h rfl fun fr2 hp2 h1 h2 k2 => by simp only [opK, arrK_eq]; rw [(e fr2 h1).1, (e fr2 h1).2]; simp only [if_true, *]
           · cases h
         · cases h)
  · split at h
    · obtain ⟨a1, h⟩ := bK_nat h; exact .quiet h rfl fun fr2 hp2 h1 h2 k2 => by simp only [opK, arrK_eq]; rw [(e fr2 h1).1, (e fr2 h1).2]; simp only [bK, *]
    · split at h
      · exact .quiet h rfl fun fr2 hp2 h1 h2 k2 => by simp only [opK, arrK_eq]; rw [(e fr2 h1).1, (e fr2 h1).2]; simp only [*]
      · cases h
  · repeat' split at h
    all_goals first
      | (cases h; done)
      | exact .quiet h rfl fun fr2 hp2 h1 h2 k2 => by simp only [opK, arrK_eq]; rw [(e fr2 h1).1, (e fr2 h1).2]; simp only [*]
  · repeat' split at h
    all_goals first
      | (cases h; done)
      | exact .quiet h rfl fun fr2 hp2 h1 h2 k2 => by simp only [opK, arrK_eq]; rw [(e fr2 h1).1, (e fr2 h1).2]; simp only [*]
  · cases h
end
end Go.Proofs.Ytkpjeihgigmnkaa.Ev
/- Values without memory: what an operation looks at: slices, rows that are made, stores, calls. -/
namespace Go.Proofs.Ytkpjeihgigmnkaa.Ev
open Go
set_option linter.unusedVariables false
set_option linter.unusedSimpArgs false
section
variable {D : Tys} {R : Type}
variable {H : HH D R} {op : Op} {d : Nat} {fr : Tr (V D.S)} {hp : Tr (B D.S)} {k : KK D R} {r : R}
theorem sliceK_loc {dd : TD} {c : C D.S} {lo hi : Option Int} (h : sliceK D dd c lo hi fr hp k = some r) :
    ∃ v, k v fr hp = some r ∧ ∀ fr2 hp2, AgH (idsC c) hp hp2 → ∀ k2 : KK D R, sliceK D dd c lo hi fr2 hp2 k2 = k2 v fr2 hp2 := by
  have ea : ∀ {hp2 : Tr (B D.S)}, AgH (idsC c) hp hp2 → ∀ i ∈ idsC c, hp2.get i = hp.get i := fun h2 => h2
  unfold sliceK at h
  split at h
  · repeat' split at h
    all_goals first
      | (cases h; done)
      | exact ⟨_, h, fun fr2 hp2 h2 k2 => by simp only [sliceK, *]⟩
      | (obtain ⟨a1, a2, h⟩ := bK2_nat h; exact ⟨_, h, fun fr2 hp2 h2 k2 => by simp only [sliceK, bK, *]⟩)
      | (obtain ⟨a1, a2, a3, a4, h⟩ := bK4_nat h; exact ⟨_, h, fun fr2 hp2 h2 k2 => by simp only [sliceK, bK, *]⟩)
  · repeat' split at h
    all_goals first
      | (cases h; done)
      | exact ⟨_, h, fun fr2 hp2 h2 k2 => by simp only [sliceK, *]⟩
      | (obtain ⟨a1, a2, h⟩ := bK2_nat h; exact ⟨_, h, fun fr2 hp2 h2 k2 => by simp only [sliceK, bK, *]⟩)
      | (obtain ⟨a1, a2, a3, a4, h⟩ := bK4_nat h; exact ⟨_, h, fun fr2 hp2 h2 k2 => by simp only [sliceK, bK, *]⟩)
  · split at h
    · rename_i hg
      repeat' split at h
      all_goals first
        | (cases h; done)
        | exact ⟨_, h, fun fr2 hp2 h2 k2 => by have e := ea h2 _ List.mem_cons_self; simp only [sliceK]; rw [e]; simp only [*]⟩
        | (obtain ⟨a1, a2, h⟩ := bK2_nat h; exact ⟨_, h, fun fr2 hp2 h2 k2 => by have e := ea h2 _ List.mem_cons_self; simp only [sliceK]; rw [e]; simp only [bK, *]⟩)
        | (obtain ⟨a1, a2, a3, a4, h⟩ := bK4_nat h; exact ⟨_, h, fun fr2 hp2 h2 k2 => by have e := ea h2 _ List.mem_cons_self; simp only [sliceK]; rw [e]; simp only [bK, *]⟩)
    · cases h
  · split at h
    · rename_i hg
      repeat' split at h
      all_goals first
        | (cases h; done)
        | exact ⟨_, h, fun fr2 hp2 h2 k2 => by have e := ea h2 _ List.mem_cons_self; simp only [sliceK]; rw [e]; simp only [*]⟩
        | (obtain ⟨a1, a2, h⟩ := bK2_nat h; exact ⟨_, h, fun fr2 hp2 h2 k2 => by have e := ea h2 _ List.mem_cons_self; simp only [sliceK]; rw [e]; simp only [bK, *]⟩)
        | (obtain ⟨a1, a2, a3, a4, h⟩ := bK4_nat h; exact ⟨_, h, fun fr2 hp2 h2 k2 => by have e := ea h2 _ List.mem_cons_self; simp only [sliceK]; rw [e]; simp only [bK, *]⟩)
    · cases h
  · cases h
theorem loc_slice {t : TypeId} {x : Operand} {lo hi mx : Option Operand} (hok : drawOk D fr hp (.slice t x lo hi mx) = true) (h : opK D H (.slice t x lo hi mx) d fr hp k = some r) : Loc3 D H (.slice t x lo hi mx) d fr hp k r := by
  cases mx with
  | some m => simp [opK] at h
  | none =>
    have hm : ∀ y, lo = some y ∨ hi = some y → y ∈ (Op.slice t x lo hi none).operands.toList := fun y hy => by
      simp only [Op.operands]
      rcases hy with rfl | rfl <;> simp
    have e : ∀ fr2, AgF (slotsL (Op.slice t x lo hi none).operands.toList) fr fr2 → evC fr2 x = evC fr x ∧ optI D fr2 lo = optI D fr lo ∧ optI D fr2 hi = optI D fr hi := fun fr2 h1 =>
      ⟨evC_ag h1 (by simp [Op.operands]), optI_ag h1 fun y hy => hm y (.inl hy), optI_ag h1 fun y hy => hm y (.inr hy)⟩
    have hrt : D.rowt t = false := by simpa [drawOk] using hok
    simp only [opK, hrt] at h
    split at h
    · rename_i hti hx hlo hhi
      obtain ⟨v, h3, h4⟩ := sliceK_loc h
      exact .quiet h3 rfl fun fr2 hp2 h1 h2 k2 => by
        simp only [opK, hrt]
        rw [(e fr2 h1).1, (e fr2 h1).2.1, (e fr2 h1).2.2, hti, hx, hlo, hhi]
        exact h4 fr2 hp2 (agC h2 (by simp [Op.operands]) hx) k2
    · cases h
/-- A block is made. -/
theorem newK_loc {b : B D.S} {c : C D.S} (h : newK D d b c fr hp k = some r) : hp.get d = none ∧ k (cV c) fr (hp.set depth d (some b)) = some r := by
  unfold newK at h
  split at h
  · cases h
  · rename_i hg
    rw [Tr.setK_eq] at h
    exact ⟨hg, h⟩
theorem newK_at {b : B D.S} {c : C D.S} {fr2 : Tr (V D.S)} {hp2 : Tr (B D.S)} (hg : hp2.get d = none) (k2 : KK D R) : newK D d b c fr2 hp2 k2 = k2 (cV c) fr2 (hp2.set depth d (some b)) := by
  unfold newK; rw [hg]; simp only; rw [Tr.setK_eq]
theorem Loc3.new {b : B D.S} {c : C D.S} (hn : newOp op = true) (h : newK D d b c fr hp k = some r) (he : ∀ fr2 hp2, AgF (slotsL op.operands.toList) fr fr2 → AgH (tch op fr hp) hp hp2 → ∀ k2, opK D H op d fr2 hp2 k2 = newK D d b c fr2 hp2 k2) : Loc3 D H op d fr hp k r := by
  obtain ⟨hg, h⟩ := newK_loc h
  have hw : nwT D fr op d = [d] := by unfold nwT; rw [hn]
  exact ⟨cV c, ⟨[], [(d, b)]⟩, h, fun i hi => by simp [Dl.aff] at hi; exact .inl (by rw [hw, hi]; exact List.mem_singleton.mpr rfl), fun h => (by simp [effO, hn] at h), fun _ => rfl, fun x hx => (by cases hx), fun i hi => (by rw [hw] at hi; rw [List.mem_singleton.mp hi]; exact hg), fun fr2 hp2 h1 h2 h3 k2 => (he fr2 hp2 h1 h2 k2).trans (newK_at (h3 d (by rw [hw]; exact List.mem_singleton.mpr rfl)) k2)⟩
theorem loc_alloc {t : TypeId} (h : opK D H (.alloc t) d fr hp k = some r) : Loc3 D H (.alloc t) d fr hp k r := by
  simp only [opK] at h
  split at h
  · rename_i hrt
    split at h
    · rename_i ti hti
      exact .new rfl h fun fr2 hp2 h1 h2 k2 => by simp only [opK, hrt]; rw [hti]
    · cases h
  · rename_i hrt
    split at h
    · rename_i ti hti
      split at h
      · rename_i τ hτ
        split at h
        · rename_i y hy
          exact .new rfl h fun fr2 hp2 h1 h2 k2 => by simp only [opK, hrt]; rw [hti]; simp only [hτ]; rw [hy]
        · cases h
      · cases h
    · cases h
theorem loc_box {t : TypeId} {x : Operand} (h : opK D H (.box t x) d fr hp k = some r) : Loc3 D H (.box t x) d fr hp k r := by
  have e : ∀ fr2, AgF (slotsL (Op.box t x).operands.toList) fr fr2 → evA fr2 x = evA fr x := fun fr2 h1 => evA_ag h1 (by simp [Op.operands])
  simp only [opK] at h
  repeat' split at h
  all_goals first
    | (cases h; done)
    | exact .new rfl h fun fr2 hp2 h1 h2 k2 => by simp only [opK]; rw [e fr2 h1]; simp only [*]
theorem loc_makeSlice {t : TypeId} {x y : Operand} (h : opK D H (.makeSlice t x y) d fr hp k = some r) : Loc3 D H (.makeSlice t x y) d fr hp k r := by
  have e : ∀ fr2, AgF (slotsL (Op.makeSlice t x y).operands.toList) fr fr2 → evC fr2 x = evC fr x ∧ evC fr2 y = evC fr y := fun fr2 h1 => ⟨evC_ag h1 (by simp [Op.operands]), evC_ag h1 (by simp [Op.operands])⟩
  simp only [opK] at h
  repeat' split at h
  all_goals first
    | (cases h; done)
    | (obtain ⟨a1, a2, h⟩ := bK2_nat h; obtain ⟨a3, h⟩ := bK_nat h; exact .new rfl h fun fr2 hp2 h1 h2 k2 => by simp only [opK]; rw [(e fr2 h1).1, (e fr2 h1).2]; simp only [bK, *])
theorem idsP_tch {ps : List (Nat × Operand)} : ∀ {l : List (Nat × A D.S)}, evParts D fr ps = some l → (∀ x ∈ ps, x.2 ∈ op.operands.toList) → ∀ i ∈ idsP l, i ∈ tch op fr hp := by
  induction ps with
  | nil => intro l h _ i hi; simp only [evParts, Option.some.injEq] at h; subst h; simp [idsP] at hi
  | cons p ps ih =>
    obtain ⟨j, x⟩ := p
    intro l h hm i hi
    simp only [evParts] at h
    split at h
    · rename_i a ha
      split at h
      · rename_i l' _ hl
        obtain rfl := Option.some.inj h
        simp only [idsP, appN_eq, List.mem_append] at hi
        rcases hi with hi | hi
        · exact tch_op (hm (j, x) List.mem_cons_self) (evA_ev ha) i hi
        · exact ih hl (fun y hy => hm y (List.mem_cons_of_mem _ hy)) i hi
      · cases h
    · cases h
theorem loc_buildSlice {t : TypeId} {n : Nat} {ps : Array (Nat × Operand)} (hok : drawOk D fr hp (.buildSlice t n ps) = true) (h : opK D H (.buildSlice t n ps) d fr hp k = some r) : Loc3 D H (.buildSlice t n ps) d fr hp k r := by
  have hm : ∀ x ∈ ps.toList, x.2 ∈ (Op.buildSlice t n ps).operands.toList := fun x hx => by
    simp only [Op.operands]; exact List.mem_map.mpr ⟨x, hx, rfl⟩
  have e : ∀ fr2, AgF (slotsL (Op.buildSlice t n ps).operands.toList) fr fr2 → evParts D fr2 ps.toList = evParts D fr ps.toList := fun fr2 h1 => evParts_ag h1 hm
  simp only [opK] at h
  split at h
  · rename_i hti
    split at h
    · rename_i hte
      split at h
      · cases h
      · rename_i l hl
        simp only [drawOk, hl, List.isEmpty_iff] at hok
        split at h
        · cases h
        · rename_i ho
          split at h
          · cases h
          · rename_i hb
            split at h
            · cases h
            · rename_i q hq
              rw [hok] at h
              simp only [frzsK] at h
              exact .new rfl h fun fr2 hp2 h1 h2 k2 => by
                simp only [opK]
                rw [e fr2 h1, hti]
                simp only
                rw [hte]
                simp only
                rw [hl]
                simp only
                rw [ho]
                simp only
                rw [hb]
                simp only
                rw [decParts_ag (h2.mono fun i hi => idsP_tch hl hm i hi), hq]
                simp only
                rw [hok]
                rfl
    · cases h
  · cases h
end
end Go.Proofs.Ytkpjeihgigmnkaa.Ev
/- Values without memory: what an operation looks at: stores, built-in calls, calls; all together. -/
namespace Go.Proofs.Ytkpjeihgigmnkaa.Ev
open Go
set_option linter.unusedVariables false
set_option linter.unusedSimpArgs false
section
variable {D : Tys} {R : Type}
variable {H : HH D R} {op : Op} {d : Nat} {fr : Tr (V D.S)} {hp : Tr (B D.S)} {k : KK D R} {r : R}
theorem storeB_id {ti : TI D.S} {c : C D.S} {x : A D.S} {id : Nat} {b : B D.S} (h : storeB D hp ti c x = some (id, b)) : id ∈ idsC c := by
  unfold storeB at h
  split at h
  · cases h
  · split at h
    · split at h
      · split at h
        · injection h with h; injection h with h1 _; subst h1; exact List.mem_cons_self
        · cases h
      · cases h
    · split at h
      · split at h
        · split at h
          · injection h with h; injection h with h1 _; subst h1; exact List.mem_cons_self
          · cases h
        · cases h
      · cases h
    · cases h
theorem idC_tch {x : Operand} {c : C D.S} (hx : x ∈ op.operands.toList) (hc : evC fr x = some c) : ∀ i ∈ idsC c, i ∈ tch op fr hp := fun i hi => tch_op hx (evC_ev hc) i (by simpa [idsV, A.cells, idsL, appN_eq] using hi)
theorem loc_store {t : TypeId} {p x : Operand} (hok : drawOk D fr hp (.store t p x) = true) (h : opK D H (.store t p x) d fr hp k = some r) : Loc3 D H (.store t p x) d fr hp k r := by
  have e : ∀ fr2, AgF (slotsL (Op.store t p x).operands.toList) fr fr2 → evC fr2 p = evC fr p ∧ evA fr2 x = evA fr x := fun fr2 h1 => ⟨evC_ag h1 (by simp [Op.operands]), evA_ag h1 (by simp [Op.operands])⟩
  simp only [opK, Tr.setK_eq] at h
  split at h
  · rename_i ti hti
    split at h
    · rename_i c hc
      split at h
      · rename_i a ha
        split at h
        · rename_i id0 off0
          split at h
          · rename_i id b hb
            refine ⟨cV .any, ⟨[], [(id, b)]⟩, h, fun i hi => ?_, fun h => (by cases h), fun _ => rfl, fun x hx => (by cases hx), fun i hi => (by simp [nwT, newOp, xNew] at hi), fun fr2 hp2 h1 h2 _ k2 => ?_⟩
            · simp [Dl.aff] at hi
              subst hi
              exact .inr (idC_tch (by simp [Op.operands]) hc _ (storeB_id hb))
            · simp only [opK, Tr.setK_eq]
              rw [(e fr2 h1).1, (e fr2 h1).2, hti, hc]
              simp only
              rw [ha]
              simp only
              rw [storeB_ag (agC h2 (by simp [Op.operands]) hc), hb]
              rfl
          · cases h
        · rename_i hne
          split at h
          · cases h
          · rename_i cs hcs
            have hown : ownsL a.cells = [] := by
              simp only [drawOk, hc, ha] at hok
              clear h hcs hc
              cases c <;> first
                | exact absurd rfl (hne _ _)
                | exact List.isEmpty_iff.mp hok
            rw [hown] at h
            simp only [frzsK] at h
            split at h
            · rename_i id b hb
              refine ⟨cV .any, ⟨[], [(id, b)]⟩, h, fun i hi => ?_, fun h => (by cases h), fun _ => rfl, fun x hx => (by cases hx), fun i hi => (by simp [nwT, newOp, xNew] at hi), fun fr2 hp2 h1 h2 _ k2 => ?_⟩
              · simp [Dl.aff] at hi
                subst hi
                exact .inr (idC_tch (by simp [Op.operands]) hc _ (storeB_id hb))
              · simp only [opK, Tr.setK_eq]
                rw [(e fr2 h1).1, (e fr2 h1).2, hti, hc]
                simp only
                rw [ha]
                simp only
                have e3 : resL hp2 a.cells = some cs := (resL_ag (agA h2 (by simp [Op.operands]) ha)).trans hcs
                have e4 : storeB D hp2 ti c (.agg cs) = some (id, b) := (storeB_ag (agC h2 (by simp [Op.operands]) hc)).trans hb
                clear hc h h2 hb
                cases c <;> first
                  | exact absurd rfl (hne _ _)
                  | (simp only [e3, hown, frzsK, e4]; rfl)
            · cases h
      · cases h
    · cases h
  · cases h
theorem call_op {f : Callee} {args : Array Operand} {ts : Array TypeId} {x : Operand} (h : x ∈ args.toList) : x ∈ (Op.call ⟨f, args, ts⟩).operands.toList := by
  simp only [Op.operands, Call.operands, Array.toList_append]
  exact List.mem_append_right _ h
theorem evAs_mem {l : List Operand} : ∀ {as : List (A D.S)}, evAs D fr l = some as → ∀ a ∈ as, ∃ x ∈ l, evA fr x = some a := by
  induction l with
  | nil => intro as h a ha; simp only [evAs, Option.some.injEq] at h; subst h; cases ha
  | cons x l ih =>
    intro as h a ha
    simp only [evAs] at h
    split at h
    · rename_i a' ha'
      split at h
      · rename_i r' hr'
        obtain rfl := Option.some.inj h
        rcases List.mem_cons.mp ha with rfl | ha
        · exact ⟨x, List.mem_cons_self, ha'⟩
        · obtain ⟨y, hy, hy'⟩ := ih hr' a ha
          exact ⟨y, List.mem_cons_of_mem _ hy, hy'⟩
      · cases h
    · cases h
theorem loc_len {args : Array Operand} {ts : Array TypeId} (h : opK D H (.call ⟨.builtin .len, args, ts⟩) d fr hp k = some r) : Loc3 D H (.call ⟨.builtin .len, args, ts⟩) d fr hp k r := by
  have e : ∀ fr2, AgF (slotsL (Op.call ⟨.builtin .len, args, ts⟩).operands.toList) fr fr2 → evAs D fr2 args.toList = evAs D fr args.toList := fun fr2 h1 => evAs_ag h1 fun x hx => call_op hx
  simp only [opK] at h
  split at h
  · rename_i c t hc ht
    split at h
    · rename_i ti hti
      split at h
      · rename_i n hn
        exact .quiet h rfl fun fr2 hp2 h1 h2 k2 => by
          obtain ⟨x, hx, hx'⟩ := evAs_mem hc (.c c) List.mem_cons_self
          have h3 : AgH (idsC c) hp hp2 := h2.mono fun i hi => tch_op (call_op hx) (evA_ev hx') i (by simpa [idsV, A.cells, idsL, appN_eq] using hi)
          simp only [opK]
          rw [e fr2 h1, hc, ht]
          simp only
          rw [hti]
          simp only
          rw [lenC_ag h3, hn]
      · cases h
    · cases h
  · cases h
theorem loc_max {args : Array Operand} {ts : Array TypeId} (h : opK D H (.call ⟨.builtin .max, args, ts⟩) d fr hp k = some r) : Loc3 D H (.call ⟨.builtin .max, args, ts⟩) d fr hp k r := by
  have e : ∀ fr2, AgF (slotsL (Op.call ⟨.builtin .max, args, ts⟩).operands.toList) fr fr2 → evAs D fr2 args.toList = evAs D fr args.toList := fun fr2 h1 => evAs_ag h1 fun x hx => call_op hx
  simp only [opK] at h
  repeat' split at h
  all_goals first
    | (cases h; done)
    | exact .quiet h rfl fun fr2 hp2 h1 h2 k2 => by simp only [opK]; rw [e fr2 h1]; simp only [*]
theorem loc_min {args : Array Operand} {ts : Array TypeId} (h : opK D H (.call ⟨.builtin .min, args, ts⟩) d fr hp k = some r) : Loc3 D H (.call ⟨.builtin .min, args, ts⟩) d fr hp k r := by
  have e : ∀ fr2, AgF (slotsL (Op.call ⟨.builtin .min, args, ts⟩).operands.toList) fr fr2 → evAs D fr2 args.toList = evAs D fr args.toList := fun fr2 h1 => evAs_ag h1 fun x hx => call_op hx
  simp only [opK] at h
  repeat' split at h
  all_goals first
    | (cases h; done)
    | exact .quiet h rfl fun fr2 hp2 h1 h2 k2 => by simp only [opK]; rw [e fr2 h1]; simp only [*]
theorem grow_id {t : Ty} {c : C D.S} {id : Nat} {l : List (T D.S t)} (h : grow D t hp c = some (some id, l)) : id ∈ idsC c ∧ (hp.get id).isSome := by
  cases c <;> simp only [grow] at h <;> first | (cases h; done) | skip
  · split at h
    · rename_i hg
      split at h
      · injection h with h; injection h with h1 _; injection h1 with h1; subst h1
        exact ⟨List.mem_cons_self, by rw [hg]; rfl⟩
      · cases h
    · cases h
  · split at h
    · rename_i hg
      split at h
      · injection h with h; injection h with h1 _; injection h1 with h1; subst h1
        exact ⟨List.mem_cons_self, by rw [hg]; rfl⟩
      · cases h
    · cases h
theorem kill_none {id : Nat} {hp2 : Tr (B D.S)} (hg : hp2.get d = none) (hid : id < 65535) : ((hp2.set depth id none).map (mapB (killF id))).get d = none := by
  rw [Tr.get_map, Tr.get_set _ _ _ _ _ (by rw [depth_ok]; omega)]
  split
  · rfl
  · rw [hg]; rfl
theorem loc_append {args : Array Operand} {ts : Array TypeId} (hkey : ∀ i b, hp.get i = some b → i < 65535) (h : opK D H (.call ⟨.builtin .append, args, ts⟩) d fr hp k = some r) (hdn : hp.get d = none) : Loc3 D H (.call ⟨.builtin .append, args, ts⟩) d fr hp k r := by
  have e : ∀ fr2, AgF (slotsL (Op.call ⟨.builtin .append, args, ts⟩).operands.toList) fr fr2 → evAs D fr2 args.toList = evAs D fr args.toList := fun fr2 h1 => evAs_ag h1 fun x hx => call_op hx
  simp only [opK] at h
  split at h
  · rename_i s x t tx hs ht
    split at h
    · rename_i ee q1 q2 q3 q4 q5 q6 tix hti htix
      split at h
      · rename_i by_ _ τ _ hte hsrc
        obtain ⟨y, hy, hy'⟩ := evAs_mem hs (.c s) List.mem_cons_self
        obtain ⟨y2, hy2, hy2'⟩ := evAs_mem hs (.c x) (List.mem_cons_of_mem _ List.mem_cons_self)
        have is : ∀ i ∈ idsC s, i ∈ tch (.call ⟨.builtin .append, args, ts⟩) fr hp := fun i hi => tch_op (call_op hy) (evA_ev hy') i (by simpa [idsV, A.cells, idsL, appN_eq] using hi)
        have ix : ∀ i ∈ idsC x, i ∈ tch (.call ⟨.builtin .append, args, ts⟩) fr hp := fun i hi => tch_op (call_op hy2) (evA_ev hy2') i (by simpa [idsV, A.cells, idsL, appN_eq] using hi)
        unfold appendK at h
        split at h
        · cases h
        · rename_i id l hg
          split at h
          · cases h
          · rename_i xs hxs
            obtain ⟨hb, h⟩ := bK_nat h
            have common : ∀ fr2 hp2, AgF (slotsL (Op.call ⟨.builtin .append, args, ts⟩).operands.toList) fr fr2 → AgH (tch (.call ⟨.builtin .append, args, ts⟩) fr hp) hp hp2 → ∀ k2, opK D H (.call ⟨.builtin .append, args, ts⟩) d fr2 hp2 k2 = match (generalizing := false) id with
                | none => newK D d (.arr τ (l ++ xs)) (.own d) fr2 hp2 k2
                | some id => killK id fr2 hp2 fun fr hp => newK D d (.arr τ (l ++ xs)) (.own d) fr hp k2 := fun fr2 hp2 h1 h2 k2 => by
              simp only [opK]
              rw [e fr2 h1, hs, ht]
              simp only
              rw [hti, htix]
              simp only
              rw [hte, hsrc]
              simp only
              unfold appendK
              rw [grow_ag (h2.mono is), hg]
              simp only
              rw [srcL_ag (h2.mono ix), hxs]
              simp only
              rw [hb]
              rfl
            cases id with
            | none =>
              simp only at h
              exact .new rfl h fun fr2 hp2 h1 h2 k2 => common fr2 hp2 h1 h2 k2
            | some id =>
              simp only at h
              obtain ⟨hid, hsome⟩ := grow_id hg
              obtain ⟨b0, hb0⟩ := Option.isSome_iff_exists.mp hsome
              have hlt := hkey id b0 hb0
              rw [killK_eq] at h
              obtain ⟨_, h⟩ := newK_loc h
              refine ⟨cV (.own d), ⟨[(id, killF id)], [(d, .arr τ (l ++ xs))]⟩, h, fun i hi => ?_, fun h => (by cases h), fun h => (by cases h), fun x hx => (by rw [List.mem_singleton.mp hx]; exact ⟨by simp only [kidO, hs]; exact hid, .kill id⟩), fun i hi => (by rw [List.mem_singleton.mp hi]; exact hdn), fun fr2 hp2 h1 h2 h3 k2 => ?_⟩
              · simp [Dl.aff] at hi
                rcases hi with rfl | rfl
                · exact .inr (is _ hid)
                · exact .inl (List.mem_singleton.mpr rfl)
              · rw [common fr2 hp2 h1 h2 k2]
                simp only
                rw [killK_eq, newK_at (kill_none (h3 d (List.mem_singleton.mpr rfl)) hlt)]
                rfl
      · cases h
    · cases h
  · cases h
theorem idsBs_sub {l l' : List Nat} (h : ∀ i ∈ l, i ∈ l') : ∀ i ∈ idsBs hp l, i ∈ idsBs hp l' := by
  induction l with
  | nil => intro i hi; cases hi
  | cons x l ih =>
    intro i hi
    simp only [idsBs] at hi
    split at hi
    · rename_i b hb
      rw [appN_eq] at hi
      rcases List.mem_append.mp hi with hi | hi
      · exact idsBs_mem hb (h x List.mem_cons_self) i hi
      · exact ih (fun j hj => h j (List.mem_cons_of_mem _ hj)) i hi
    · exact ih (fun j hj => h j (List.mem_cons_of_mem _ hj)) i hi
theorem idsAs_app : ∀ (a b : List (A D.S)), idsAs (a ++ b) = idsAs a ++ idsAs b
  | [], b => rfl
  | x :: a, b => by simp [idsAs, appN_eq, idsAs_app a b]
theorem idsAs_caps : ∀ (l : List Nat), idsAs (capPtrs D l) = l
  | [] => rfl
  | i :: l => by simp [capPtrs, idsAs, A.cells, idsL, idsC, appN_eq, idsAs_caps l]
theorem idsAs_mem {a : A D.S} {as : List (A D.S)} (h : a ∈ as) : ∀ i ∈ idsL a.cells, i ∈ idsAs as := by
  induction as with
  | nil => cases h
  | cons x as ih =>
    intro i hi
    simp only [idsAs, appN_eq, List.mem_append]
    rcases List.mem_cons.mp h with e | m
    · subst e; exact .inl hi
    · exact .inr (ih m i hi)
theorem mem_idsAs {as : List (A D.S)} {i : Nat} (h : i ∈ idsAs as) : ∃ a ∈ as, i ∈ idsL a.cells := by
  induction as with
  | nil => cases h
  | cons x as ih =>
    simp only [idsAs, appN_eq, List.mem_append] at h
    rcases h with h | h
    · exact ⟨x, List.mem_cons_self, h⟩
    · obtain ⟨a, h1, h2⟩ := ih h; exact ⟨a, List.mem_cons_of_mem _ h1, h2⟩
theorem callArgs_rs_ids : ∀ {ps : List PM} {as ws : List (A D.S)} {rs os : List Nat}, callArgs D hp ps as = some (ws, rs, os) → ∀ i ∈ rs, i ∈ idsAs as
  | [], [], ws, rs, os, h => by
    simp only [callArgs, Option.some.injEq, Prod.mk.injEq] at h
    obtain ⟨rfl, rfl, rfl⟩ := h
    exact fun i hi => by cases hi
  | [], _ :: _, ws, rs, os, h => by simp [callArgs] at h
  | .val :: ps, [], ws, rs, os, h => by simp [callArgs] at h
  | .ref :: ps, [], ws, rs, os, h => by simp [callArgs] at h
  | .clo _ :: ps, [], ws, rs, os, h => by simp [callArgs] at h
  | .clo _ :: ps, _ :: _, ws, rs, os, h => by simp [callArgs] at h
  | .val :: ps, x :: as, ws, rs, os, h => by
    simp only [callArgs] at h
    split at h
    · cases h
    · split at h
      · rename_i hrec
        simp only [Option.some.injEq, Prod.mk.injEq] at h
        obtain ⟨rfl, rfl, rfl⟩ := h
        intro i hi
        simp only [idsAs, appN_eq, List.mem_append]
        exact .inr (callArgs_rs_ids hrec i hi)
      · cases h
  | .ref :: ps, x :: as, ws, rs, os, h => by
    unfold callArgs at h
    split at h
    · rename_i heq _; cases heq
    · rename_i heq _; injection heq with heq; cases heq
    · rename_i ps' id as' heq1 heq2
      injection heq1 with _ e1
      injection heq2 with e2 e3
      subst e1; subst e2; subst e3
      split at h
      · split at h
        · cases h
        · split at h
          · rename_i hrec
            simp only [Option.some.injEq, Prod.mk.injEq] at h
            obtain ⟨rfl, rfl, rfl⟩ := h
            intro i hi
            simp only [idsAs, appN_eq, List.mem_append]
            rcases List.mem_cons.mp hi with e | hi
            · subst e; exact .inl (by simp [A.cells, idsL, idsC, appN_eq])
            · exact .inr (callArgs_rs_ids hrec i hi)
          · cases h
      · cases h
    · cases h
def boxes : List Nat → List (List (C D.S)) → List (Nat × B D.S)
  | i :: rs, cs :: css => (i, .box cs) :: boxes rs css
  | _, _ => []
theorem boxes_keys : ∀ (rs : List Nat) (css : List (List (C D.S))), ∀ i ∈ (boxes (D := D) rs css).map (·.1), i ∈ rs
  | [], _, i, h => by simp [boxes] at h
  | _ :: _, [], i, h => by simp [boxes] at h
  | j :: rs, cs :: css, i, h => by
    simp only [boxes, List.map_cons] at h
    rcases List.mem_cons.mp h with e | h
    · subst e; exact List.mem_cons_self
    · exact List.mem_cons_of_mem _ (boxes_keys rs css i h)
theorem setRefsK_loc : ∀ {rs : List Nat} {css : List (List (C D.S))} {hp : Tr (B D.S)} {k : Tr (B D.S) → Option R} {r : R}, setRefsK D rs css hp k = some r → k (setAll (boxes rs css) hp) = some r ∧ ∀ hp2 (k2 : Tr (B D.S) → Option R), setRefsK D rs css hp2 k2 = k2 (setAll (boxes rs css) hp2)
  | [], [], hp, k, r, h => ⟨h, fun _ _ => rfl⟩
  | [], _ :: _, hp, k, r, h => by simp [setRefsK] at h
  | _ :: _, [], hp, k, r, h => by simp [setRefsK] at h
  | i :: rs, cs :: css, hp, k, r, h => by
    simp only [setRefsK, Tr.setK_eq] at h
    obtain ⟨h1, h2⟩ := setRefsK_loc h
    exact ⟨h1, fun hp2 k2 => by simp only [setRefsK, Tr.setK_eq]; rw [h2]; rfl⟩
theorem AddR.set : ∀ {l : List (Nat × B D.S)} {hp hp' : Tr (B D.S)}, AddR l hp hp' → hp' = setAll l hp ∧ (∀ i ∈ l.map (·.1), hp.get i = none) ∧ ∀ hp2 : Tr (B D.S), (∀ i ∈ l.map (·.1), hp2.get i = none) → AddR l hp2 (setAll l hp2)
  | _, _, _, .nil hp => ⟨rfl, fun i h => (by cases h), fun hp2 _ => .nil hp2⟩
  | _, _, _, .cons (i := i) (b := b) (l := l) (hp := hp) h hi t => by
    obtain ⟨h1, h2, h3⟩ := AddR.set t
    have hg : ∀ (hp : Tr (B D.S)) j, (hp.set depth i (some b)).get j = if j = i then some b else hp.get j := fun hp j => Tr.get_set _ _ _ _ _ (by rw [depth_ok]; omega)
    have hne : ∀ j ∈ l.map (·.1), j ≠ i := fun j hj e => by
      have := h2 j hj
      rw [hg, if_pos e] at this; cases this
    refine ⟨h1, fun j hj => ?_, fun hp2 hf => .cons (hf i List.mem_cons_self) hi (h3 _ fun j hj => ?_)⟩
    · rcases List.mem_cons.mp hj with rfl | hj
      · exact h
      · have := h2 j hj
        rw [hg, if_neg (hne j hj)] at this
        exact this
    · rw [hg, if_neg (hne j hj)]
      exact hf j (List.mem_cons_of_mem _ hj)
theorem addBK_of {l : List (Nat × B D.S)} {hp hp' : Tr (B D.S)} (a : AddR l hp hp') : ∀ kk : Tr (B D.S) → Option R, addBK D l hp kk = kk hp' := by
  induction a with
  | nil hp => exact fun _ => rfl
  | cons h hi t ih =>
    intro kk
    simp only [addBK, Tr.setK_eq, h, show Nat.blt _ 65535 = true by simpa using hi]
    exact ih kk
def resN (D : Tys) (d : Nat) (ro : OwL) : Nat → List (A D.S) → List (Nat × B D.S)
  | _, [] => []
  | j, a :: as => match posO ro j with
    | none => resN D d ro (j + 1) as
    | some p => match a with
      | .c c => thB D (newC d 2 + p) c ++ resN D d ro (j + 1) as
      | .agg _ => []
theorem setAll_app : ∀ (a b : List (Nat × B D.S)) (hp : Tr (B D.S)), setAll (a ++ b) hp = setAll b (setAll a hp)
  | [], b, hp => rfl
  | (i, x) :: a, b, hp => by simp only [List.cons_append, setAll]; exact setAll_app a b _
theorem get_setAll_none : ∀ {l : List (Nat × B D.S)} {hp : Tr (B D.S)} {j : Nat}, (∀ i ∈ l.map (·.1), i < 65535) → hp.get j = none → j ∉ l.map (·.1) → (setAll l hp).get j = none
  | [], hp, j, _, h, _ => h
  | (i, b) :: l, hp, j, hl, h, hn => by
    simp only [List.map_cons, List.mem_cons, not_or] at hn
    simp only [setAll]
    refine get_setAll_none (fun k hk => hl k (List.mem_cons_of_mem _ hk)) ?_ hn.2
    rw [Tr.get_set _ _ _ _ _ (by rw [depth_ok]; have := hl i List.mem_cons_self; omega), if_neg hn.1]
    exact h
theorem AddR.lt {l : List (Nat × B D.S)} {hp hp' : Tr (B D.S)} (a : AddR l hp hp') : ∀ i ∈ l.map (·.1), i < 65535 := by
  induction a with
  | nil hp => exact fun i h => by cases h
  | cons h hi t ih => exact fun i hm => (List.mem_cons.mp hm).elim (fun e => by rw [e]; exact hi) (ih i)
theorem AddR.has {l : List (Nat × B D.S)} {hp hp' : Tr (B D.S)} (a : AddR l hp hp') : (∀ i b, hp.get i = some b → hp'.get i = some b) ∧ ∀ i ∈ l.map (·.1), ∃ b, hp'.get i = some b := by
  induction a with
  | nil hp => exact ⟨fun i b h => h, fun i h => by cases h⟩
  | @cons i b l hp hp' h hi t ih =>
    have hg : ∀ j, (hp.set depth i (some b)).get j = if j = i then some b else hp.get j := fun j => Tr.get_set _ _ _ _ _ (by rw [depth_ok]; omega)
    refine ⟨fun j b' hj => ih.1 j b' ?_, fun j hm => (List.mem_cons.mp hm).elim (fun e => ⟨b, ih.1 j b (by rw [hg, if_pos e])⟩) (ih.2 j)⟩
    have hne : j ≠ i := fun e => by rw [e, h] at hj; cases hj
    rw [hg, if_neg hne]; exact hj
theorem ResR.set {d : Nat} {ro : OwL} : ∀ {j : Nat} {xs xs' : List (A D.S)} {hp hp' : Tr (B D.S)}, ResR d ro j xs hp xs' hp' → hp' = setAll (resN D d ro j xs) hp ∧ (∀ i ∈ (resN D d ro j xs).map (·.1), hp.get i = none) ∧
    ∀ hp2 : Tr (B D.S), (∀ i ∈ (resN D d ro j xs).map (·.1), hp2.get i = none) → ∀ kk : List (A D.S) → Tr (B D.S) → Option R, putResK D d ro j xs hp2 kk = kk xs' (setAll (resN D d ro j xs) hp2)
  | _, _, _, _, _, .nil _ _ => ⟨rfl, fun i h => (by cases h), fun hp2 _ kk => rfl⟩
  | _, _, _, _, _, .plain hj t => by
    obtain ⟨h1, h2, h3⟩ := ResR.set t
    simp only [resN, hj]
    exact ⟨h1, h2, fun hp2 hf kk => by simp only [putResK, hj]; exact h3 hp2 hf _⟩
  | _, _, _, _, _, .own (j := j) (p := p) (c := c) (xs := xs) (hp := hp) (hp1 := hp1) hj a t => by
    obtain ⟨h1, h2, h3⟩ := ResR.set t
    obtain ⟨a1, a2, a3⟩ := a.set
    have lt := a.lt
    obtain ⟨k1, k2⟩ := a.has
    have dis : ∀ i ∈ (resN D d ro (j + 1) xs).map (·.1), i ∉ (thB D (newC d 2 + p) c).map (·.1) := fun i hi hm => by
      obtain ⟨b, hb⟩ := k2 i hm
      rw [h2 i hi] at hb; cases hb
    simp only [resN, hj]
    refine ⟨by rw [setAll_app, ← a1]; exact h1, fun i hi => ?_, fun hp2 hf kk => ?_⟩
    · rw [List.map_append] at hi
      rcases List.mem_append.mp hi with hi | hi
      · exact a2 i hi
      · cases hg : hp.get i with
        | none => rfl
        | some b => have := k1 i b hg; rw [h2 i hi] at this; cases this
    · rw [List.map_append] at hf
      have a4 := a3 hp2 (fun i hi => hf i (List.mem_append_left _ hi))
      simp only [putResK, hj]
      rw [thCK_eq, addBK_of a4, setAll_app]
      exact h3 _ (fun i hi => get_setAll_none lt (hf i (List.mem_append_right _ hi)) (dis i hi)) _
theorem posO_lt : ∀ {l : OwL} {j p : Nat}, posO l j = some p → p < l.length
  | (m, x) :: l, j, p, h => by
    simp only [posO] at h
    split at h
    · obtain rfl := Option.some.inj h; simp
    · split at h
      · rename_i q hq
        obtain rfl := Option.some.inj h
        have := posO_lt hq
        simp; omega
      · cases h
theorem roIds_mem {d : Nat} : ∀ {l : OwL} {q p : Nat}, p < l.length → newC d 2 + (q + p) ∈ roIds d l q
  | [], q, p, h => by simp at h
  | x :: l, q, 0, h => List.mem_cons_self
  | x :: l, q, p + 1, h => by
    have := roIds_mem (d := d) (l := l) (q := q + 1) (p := p) (by simpa using h)
    rw [show q + (p + 1) = q + 1 + p by omega]
    exact List.mem_cons_of_mem _ this
theorem thB_keys {s : Nat} {c : C D.S} : ∀ i ∈ (thB D s c).map (·.1), i = s := by
  rcases thaw_cases c with ⟨t, l, rfl⟩ | ⟨t, l, i, o, rfl⟩ | ⟨h1, _⟩
  · intro i hi; simpa [thB] using hi
  · rcases l with _ | ⟨x, _ | ⟨y, l⟩⟩ <;> (intro i hi; simp [thB] at hi ⊢; try exact hi)
  · intro i hi; rw [(h1 s).1] at hi; cases hi
theorem resN_keys {d : Nat} {ro : OwL} : ∀ {xs : List (A D.S)} {j : Nat}, ∀ i ∈ (resN D d ro j xs).map (·.1), i ∈ roIds d ro 0
  | [], j, i, h => by cases h
  | x :: xs, j, i, h => by
    simp only [resN] at h
    split at h
    · exact resN_keys i h
    · rename_i p hp
      split at h
      · rw [List.map_append] at h
        rcases List.mem_append.mp h with h | h
        · rw [thB_keys i h]
          have := roIds_mem (d := d) (q := 0) (posO_lt hp)
          rwa [Nat.zero_add] at this
        · exact resN_keys i h
      · cases h
theorem resN_nil {d : Nat} : ∀ {xs : List (A D.S)} {j : Nat}, resN D d [] j xs = []
  | [], j => rfl
  | x :: xs, j => by simp only [resN, posO]; exact resN_nil
theorem ownsL_ids : ∀ {cs : List (C D.S)}, ∀ i ∈ ownsL cs, i ∈ idsL cs
  | [], i, h => by cases h
  | c :: cs, i, h => by
    simp only [idsL, appN_eq, List.mem_append]
    cases c with
    | own id =>
      simp only [ownsL] at h
      rcases List.mem_cons.mp h with rfl | h
      · exact .inl List.mem_cons_self
      · exact .inr (ownsL_ids i h)
    | part id off n =>
      simp only [ownsL] at h
      rcases List.mem_cons.mp h with rfl | h
      · exact .inl List.mem_cons_self
      · exact .inr (ownsL_ids i h)
    | eptr id e off =>
      simp only [ownsL] at h
      rcases List.mem_cons.mp h with rfl | h
      · exact .inl List.mem_cons_self
      · exact .inr (ownsL_ids i h)
    | _ => exact .inr (ownsL_ids i h)
theorem callArgs_os_ids : ∀ {ps : List PM} {as ws : List (A D.S)} {rs os : List Nat}, callArgs D hp ps as = some (ws, rs, os) → ∀ i ∈ os, i ∈ idsAs as ∨ i ∈ idsBs hp (idsAs as)
  | [], [], ws, rs, os, h => by
    simp only [callArgs, Option.some.injEq, Prod.mk.injEq] at h
    obtain ⟨rfl, rfl, rfl⟩ := h
    exact fun i hi => by cases hi
  | [], _ :: _, ws, rs, os, h => by simp [callArgs] at h
  | .val :: ps, [], ws, rs, os, h => by simp [callArgs] at h
  | .ref :: ps, [], ws, rs, os, h => by simp [callArgs] at h
  | .clo _ :: ps, [], ws, rs, os, h => by simp [callArgs] at h
  | .clo _ :: ps, _ :: _, ws, rs, os, h => by simp [callArgs] at h
  | .val :: ps, x :: as, ws, rs, os, h => by
    simp only [callArgs] at h
    split at h
    · cases h
    · split at h
      · rename_i hrec
        simp only [Option.some.injEq, Prod.mk.injEq] at h
        obtain ⟨rfl, rfl, rfl⟩ := h
        intro i hi
        simp only [idsAs, appN_eq, List.mem_append]
        rcases List.mem_append.mp hi with hi | hi
        · exact .inl (.inl (ownsL_ids i hi))
        · rcases callArgs_os_ids hrec i hi with h | h
          · exact .inl (.inr h)
          · exact .inr (idsBs_sub (fun j hj => List.mem_append_right _ hj) i h)
      · cases h
  | .ref :: ps, x :: as, ws, rs, os, h => by
    unfold callArgs at h
    split at h
    · rename_i heq _; cases heq
    · rename_i heq _; injection heq with heq; cases heq
    · rename_i ps' id as' heq1 heq2
      injection heq1 with _ e1
      injection heq2 with e2 e3
      subst e1; subst e2; subst e3
      split at h
      · rename_i cs hcs
        split at h
        · cases h
        · split at h
          · rename_i hrec
            simp only [Option.some.injEq, Prod.mk.injEq] at h
            obtain ⟨rfl, rfl, rfl⟩ := h
            intro i hi
            simp only [idsAs, appN_eq, List.mem_append]
            rcases List.mem_append.mp hi with hi | hi
            · exact .inr (idsBs_mem hcs (List.mem_append_left _ (by simp [A.cells, idsL, idsC, appN_eq])) i (ownsL_ids i hi))
            · rcases callArgs_os_ids hrec i hi with h | h
              · exact .inl (.inr h)
              · exact .inr (idsBs_sub (fun j hj => List.mem_append_right _ hj) i h)
          · cases h
      · cases h
    · cases h
theorem frzs_loc {k : Tr (V D.S) → Tr (B D.S) → Option R} : ∀ {ids : List Nat} {fr : Tr (V D.S)} {hp : Tr (B D.S)} (hkey : ∀ i b, hp.get i = some b → i < 65535), frzsK ids fr hp k = some r →
    ∃ fs : List (Nat × (C D.S → C D.S)), (∀ i ∈ fs.map (·.1), i ∈ ids ∧ i < 65535) ∧ (∀ x ∈ fs, Nm x.1 x.2) ∧ k (kF fs fr) (kH fs hp) = some r ∧ (ids = [] → fs = []) ∧ ∀ (fr2 : Tr (V D.S)) (hp2 : Tr (B D.S)), (∀ i ∈ ids, hp2.get i = hp.get i) → ∀ k2 : Tr (V D.S) → Tr (B D.S) → Option R, frzsK ids fr2 hp2 k2 = k2 (kF fs fr2) (kH fs hp2)
  | [], fr, hp, _, h => ⟨[], fun i h => (by cases h), fun x h => (by cases h), h, fun _ => rfl, fun fr2 hp2 _ k2 => rfl⟩
  | id :: ids, fr, hp, hkey, h => by
    simp only [frzsK] at h
    split at h
    · rename_i hn
      obtain ⟨fs, f1, fn, f2, f3, f4⟩ := frzs_loc hkey h
      refine ⟨fs, fun i hi => ⟨List.mem_cons_of_mem _ (f1 i hi).1, (f1 i hi).2⟩, fn, f2, fun h => (by cases h), fun fr2 hp2 hag k2 => ?_⟩
      simp only [frzsK]
      rw [hag id List.mem_cons_self, hn]
      exact f4 fr2 hp2 (fun i hi => hag i (List.mem_cons_of_mem _ hi)) k2
    · rename_i b hb
      cases b with
      | box cs => simp only [frzK, hb] at h; cases h
      | arr t l =>
        rw [frzK_eq hb] at h
        have hid := hkey id _ hb
        have hg : ∀ (hp : Tr (B D.S)) i, ((hp.set depth id none).map (mapB (frzF id t l))).get i = if i = id then none else (hp.get i).map (mapB (frzF id t l)) := fun hp i => by
          rw [Tr.get_map, Tr.get_set _ _ _ _ _ (by rw [depth_ok]; omega)]
          split <;> rfl
        obtain ⟨fs, f1, fn, f2, f3, f4⟩ := frzs_loc (fun i b' hb' => by
          rw [hg] at hb'
          split at hb'
          · cases hb'
          · obtain ⟨b0, h0, _⟩ := Option.map_eq_some_iff.mp hb'
            exact hkey i b0 h0) h
        refine ⟨(id, frzF id t l) :: fs, fun i hi => ?_, fun x hx => (by rcases List.mem_cons.mp hx with rfl | hx; exact .frz id t l; exact fn x hx), f2, fun h => (by cases h), fun fr2 hp2 hag k2 => ?_⟩
        · rcases List.mem_cons.mp hi with rfl | hi
          · exact ⟨List.mem_cons_self, hid⟩
          · exact ⟨List.mem_cons_of_mem _ (f1 i hi).1, (f1 i hi).2⟩
        · simp only [frzsK]
          have hb2 : hp2.get id = some (.arr t l) := (hag id List.mem_cons_self).trans hb
          rw [hb2]
          simp only
          rw [frzK_eq hb2]
          exact f4 _ _ (fun i hi => by rw [hg, hg, hag i (List.mem_cons_of_mem _ hi)]) k2
section
variable {D : Tys} {R : Type} {fr : Tr (V D.S)} {hp hp2 : Tr (B D.S)}
theorem frozC_ag {n0 : Nat} {o : Option Ty} {c : C D.S} (h : AgH (idsC c) hp hp2) : frozC D n0 hp2 o c = frozC D n0 hp o c := by
  cases o <;> cases c <;> simp only [frozC] <;> first | rfl | (rw [h _ List.mem_cons_self])
theorem frozL_ag {n0 : Nat} {own : OwL} : ∀ {cs : List (C D.S)} {j : Nat}, AgH (idsL cs) hp hp2 → frozL D n0 hp2 own j cs = frozL D n0 hp own j cs
  | [], j, _ => rfl
  | c :: cs, j, h => by
    simp only [idsL, appN_eq] at h
    have h1 : AgH (idsC c) hp hp2 := h.mono fun i hi => List.mem_append_left _ hi
    have h2 : AgH (idsL cs) hp hp2 := h.mono fun i hi => List.mem_append_right _ hi
    simp only [frozL]
    rw [frozL_ag h2, resC_ag h1]
    cases lk own j with
    | none => rfl
    | some o => simp only; rw [frozC_ag h1]
theorem frozB_ag {n0 : Nat} : ∀ {rf : List (Nat × OwL)}, AgH (rf.map (·.1)) hp hp2 → AgH (idsBs hp (rf.map (·.1))) hp hp2 → frozB D n0 hp2 rf = frozB D n0 hp rf
  | [], _, _ => rfl
  | (i, own) :: rf, h, g => by
    have hi : hp2.get i = hp.get i := h i List.mem_cons_self
    have ih := frozB_ag (n0 := n0) (rf := rf) (h.mono fun j hj => List.mem_cons_of_mem _ hj) (g.mono fun j hj => idsBs_sub (fun k hk => List.mem_cons_of_mem _ hk) j hj)
    simp only [frozB]
    rw [hi, ih]
    cases hb : hp.get i with
    | none => rfl
    | some b =>
      cases b with
      | arr t l => rfl
      | box cs =>
        simp only
        rw [frozL_ag (hp := hp) (g.mono fun j hj => idsBs_mem hb List.mem_cons_self j hj)]
theorem argsX_agG : ∀ {ps : List XP} {xs : List (A D.S)}, AgH (idsAs xs) hp hp2 → AgH (idsBs hp (idsAs xs)) hp hp2 → argsX D hp2 ps xs = argsX D hp ps xs
  | [], [], _, _ => rfl
  | [], _ :: _, _, _ => rfl
  | .val :: ps, [], _, _ => rfl
  | .ref _ _ _ :: ps, [], _, _ => rfl
  | .clo _ :: ps, [], _, _ => rfl
  | .val :: ps, x :: xs, h, g => by
    simp only [idsAs, appN_eq] at h g
    have h1 : AgH (idsL x.cells) hp hp2 := h.mono fun i hi => List.mem_append_left _ hi
    have h2 : AgH (idsAs xs) hp hp2 := h.mono fun i hi => List.mem_append_right _ hi
    have h3 : AgH (idsBs hp (idsAs xs)) hp hp2 := g.mono fun i hi => idsBs_sub (fun j hj => List.mem_append_right _ hj) i hi
    simp only [argsX]
    rw [resA_ag h1, argsX_agG h2 h3]
  | .ref off own out :: ps, x :: xs, h, g => by
    simp only [idsAs, appN_eq] at h g
    have h2 : AgH (idsAs xs) hp hp2 := h.mono fun i hi => List.mem_append_right _ hi
    have h3 : AgH (idsBs hp (idsAs xs)) hp hp2 := g.mono fun i hi => idsBs_sub (fun j hj => List.mem_append_right _ hj) i hi
    have ih := argsX_agG (ps := ps) h2 h3
    cases x with
    | agg cs => rfl
    | c c =>
      cases c with
      | ptr id off' =>
        have hm : id ∈ idsL (A.c (C.ptr id off') : A D.S).cells ++ idsAs xs := List.mem_append_left _ (by simp [A.cells, idsL, idsC, appN_eq])
        have h1 : hp2.get id = hp.get id := h id hm
        simp only [argsX]
        rw [h1, ih]
        cases hb : hp.get id with
        | none => cases Nat.beq off' off <;> rfl
        | some b =>
          cases b with
          | arr t l => cases Nat.beq off' off <;> rfl
          | box cs =>
            have : AgH (idsL cs) hp hp2 := g.mono fun i hi => idsBs_mem hb hm i hi
            cases Nat.beq off' off with
            | false => rfl
            | true => simp only; rw [frozL_ag this]
      | _ => rfl
  | .clo l :: ps, x :: xs, h, g => by
    simp only [idsAs, appN_eq] at h g
    have h2 : AgH (idsAs xs) hp hp2 := h.mono fun i hi => List.mem_append_right _ hi
    have h3 : AgH (idsBs hp (idsAs xs)) hp hp2 := g.mono fun i hi => idsBs_sub (fun j hj => List.mem_append_right _ hj) i hi
    have ih := argsX_agG (ps := ps) h2 h3
    cases x with
    | agg cs => rfl
    | c c =>
      cases c with
      | fn f ids =>
        simp only [argsX]
        rw [ih]
        cases hz : zipO l ids with
        | none => rfl
        | some rf =>
          have hk := (zipO_some hz).1
          simp only
          rw [frozB_ag (hp := hp) (rf := rf) (fun i hi => h i (List.mem_append_left _ (by rw [hk] at hi; simpa [A.cells, idsL, idsC, appN_eq] using hi))) (fun i hi => g i (idsBs_sub (fun j hj => List.mem_append_left _ (by rw [hk] at hj; simpa [A.cells, idsL, idsC, appN_eq] using hj)) i hi))]
      | _ => rfl
theorem frozC_ids {n0 : Nat} {o : Option Ty} {c c' : C D.S} {is : List Nat} (h : frozC D n0 hp o c = some (is, c')) : ∀ i ∈ is, i ∈ idsC c ∧ ∃ b, hp.get i = some b := by
  unfold frozC at h
  split at h
  · obtain ⟨rfl, rfl⟩ := Prod.mk.inj (Option.some.inj h); exact fun i hi => by cases hi
  · split at h
    · rename_i hb; obtain ⟨rfl, rfl⟩ := Prod.mk.inj (Option.some.inj h); exact fun i hi => ⟨hi, (by rw [List.mem_singleton.mp hi]; exact ⟨_, hb⟩)⟩
    · cases h
  · split at h
    · rename_i hb; obtain ⟨rfl, rfl⟩ := Prod.mk.inj (Option.some.inj h); exact fun i hi => ⟨hi, (by rw [List.mem_singleton.mp hi]; exact ⟨_, hb⟩)⟩
    · cases h
  · obtain ⟨rfl, rfl⟩ := Prod.mk.inj (Option.some.inj h); exact fun i hi => by cases hi
  · split at h
    · rename_i hb
      split at h
      · obtain ⟨rfl, rfl⟩ := Prod.mk.inj (Option.some.inj h); exact fun i hi => ⟨hi, (by rw [List.mem_singleton.mp hi]; exact ⟨_, hb⟩)⟩
      · cases h
    · cases h
  · cases h
theorem frozL_ids {n0 : Nat} {own : OwL} : ∀ {cs : List (C D.S)} {j : Nat} {is os : List Nat} {cs' : List (C D.S)}, frozL D n0 hp own j cs = some (is, os, cs') → (∀ i ∈ is, i ∈ idsL cs ∧ ∃ b, hp.get i = some b) ∧ (∀ i ∈ os, i ∈ idsL cs)
  | [], j, is, os, cs', h => by
    simp only [frozL, Option.some.injEq, Prod.mk.injEq] at h
    obtain ⟨rfl, rfl, rfl⟩ := h
    exact ⟨fun i hi => (by cases hi), fun i hi => by cases hi⟩
  | c :: cs, j, is, os, cs', h => by
    simp only [frozL] at h
    simp only [idsL, appN_eq, List.mem_append]
    split at h
    · split at h
      · cases h
      · rename_i h1
        split at h
        · rename_i h2
          simp only [Option.some.injEq, Prod.mk.injEq] at h
          obtain ⟨rfl, rfl, rfl⟩ := h
          obtain ⟨g1, g2⟩ := frozL_ids h2
          exact ⟨fun i hi => (List.mem_append.mp hi).elim (fun q => ⟨.inl (frozC_ids h1 i q).1, (frozC_ids h1 i q).2⟩) fun q => ⟨.inr (g1 i q).1, (g1 i q).2⟩, fun i hi => .inr (g2 i hi)⟩
        · cases h
    · split at h
      · cases h
      · split at h
        · rename_i h2
          simp only [Option.some.injEq, Prod.mk.injEq] at h
          obtain ⟨rfl, rfl, rfl⟩ := h
          obtain ⟨g1, g2⟩ := frozL_ids h2
          refine ⟨fun i hi => ⟨.inr (g1 i hi).1, (g1 i hi).2⟩, fun i hi => (List.mem_append.mp hi).elim (fun q => .inl ?_) fun q => .inr (g2 i q)⟩
          have := ownsL_ids i q
          simpa [idsL, appN_eq] using this
        · cases h
theorem frozB_ids {n0 : Nat} : ∀ {rf : List (Nat × OwL)} {is os : List Nat} {css : List (List (C D.S))}, frozB D n0 hp rf = some (is, os, css) →
    (∀ i ∈ rf.map (·.1), ∃ b, hp.get i = some b) ∧ (∀ i ∈ is, i ∈ idsBs hp (rf.map (·.1)) ∧ ∃ b, hp.get i = some b) ∧ (∀ i ∈ os, i ∈ idsBs hp (rf.map (·.1)))
  | [], is, os, css, h => by
    simp only [frozB, Option.some.injEq, Prod.mk.injEq] at h
    obtain ⟨rfl, rfl, rfl⟩ := h
    exact ⟨fun i hi => (by cases hi), fun i hi => (by cases hi), fun i hi => (by cases hi)⟩
  | (i, own) :: rf, is, os, css, h => by
    simp only [frozB] at h
    split at h
    · rename_i cs hb
      split at h
      · rename_i hf
        split at h
        · rename_i hrec
          simp only [Option.some.injEq, Prod.mk.injEq] at h
          obtain ⟨rfl, rfl, rfl⟩ := h
          obtain ⟨g1, g2, g3⟩ := frozB_ids hrec
          obtain ⟨f1, f2⟩ := frozL_ids hf
          have sb := idsBs_sub (hp := hp) (l := rf.map (·.1)) (l' := ((i, own) :: rf).map (·.1)) fun j hj => List.mem_cons_of_mem _ hj
          have sc : ∀ j ∈ idsL cs, j ∈ idsBs hp (((i, own) :: rf).map (·.1)) := fun j hj => idsBs_mem hb List.mem_cons_self j hj
          refine ⟨fun j hj => ?_, fun j hj => ?_, fun j hj => ?_⟩
          · rcases List.mem_cons.mp hj with q | q
            · rw [q]; exact ⟨_, hb⟩
            · exact g1 j q
          · rcases List.mem_append.mp hj with q | q
            · exact ⟨sc j (f1 j q).1, (f1 j q).2⟩
            · exact ⟨sb j (g2 j q).1, (g2 j q).2⟩
          · rcases List.mem_append.mp hj with q | q
            · exact sc j (f2 j q)
            · exact sb j (g3 j q)
        · cases h
      · cases h
    · cases h
theorem argsX_ids : ∀ {ps : List XP} {xs ws : List (A D.S)} {rs : List (Nat × OwL)} {is os : List Nat}, argsX D hp ps xs = some (ws, rs, is, os) →
    (∀ i ∈ keysN rs, i ∈ idsAs xs ∧ ∃ b, hp.get i = some b) ∧ (∀ i ∈ is, i ∈ idsBs hp (idsAs xs) ∧ ∃ b, hp.get i = some b) ∧ (∀ i ∈ os, i ∈ idsAs xs ∨ i ∈ idsBs hp (idsAs xs))
  | [], [], ws, rs, is, os, h => by
    simp only [argsX, Option.some.injEq, Prod.mk.injEq] at h
    obtain ⟨rfl, rfl, rfl, rfl⟩ := h
    exact ⟨fun i hi => (by cases hi), fun i hi => (by cases hi), fun i hi => by cases hi⟩
  | [], _ :: _, ws, rs, is, os, h => by simp [argsX] at h
  | .val :: ps, [], ws, rs, is, os, h => by simp [argsX] at h
  | .ref _ _ _ :: ps, [], ws, rs, is, os, h => by simp [argsX] at h
  | .clo _ :: ps, [], ws, rs, is, os, h => by simp [argsX] at h
  | .val :: ps, x :: xs, ws, rs, is, os, h => by
    simp only [argsX] at h
    split at h
    · cases h
    · split at h
      · rename_i hrec
        simp only [Option.some.injEq, Prod.mk.injEq] at h
        obtain ⟨rfl, rfl, rfl, rfl⟩ := h
        obtain ⟨g1, g2, g3⟩ := argsX_ids hrec
        have sb := idsBs_sub (hp := hp) (l := idsAs xs) (l' := idsAs (x :: xs)) fun j hj => by simp only [idsAs, appN_eq]; exact List.mem_append_right _ hj
        have sa : ∀ i ∈ idsAs xs, i ∈ idsAs (x :: xs) := fun j hj => by simp only [idsAs, appN_eq]; exact List.mem_append_right _ hj
        have sc : ∀ i ∈ idsL x.cells, i ∈ idsAs (x :: xs) := fun j hj => by simp only [idsAs, appN_eq]; exact List.mem_append_left _ hj
        refine ⟨fun i hi => ⟨sa i (g1 i hi).1, (g1 i hi).2⟩, fun i hi => ⟨sb i (g2 i hi).1, (g2 i hi).2⟩, fun i hi => ?_⟩
        rcases List.mem_append.mp hi with q | q
        · exact .inl (sc i (ownsL_ids i q))
        · exact (g3 i q).elim (fun z => .inl (sa i z)) fun z => .inr (sb i z)
      · cases h
  | .ref off own out :: ps, x :: xs, ws, rs, is, os, h => by
    cases x with
    | agg cs => simp [argsX] at h
    | c c =>
      cases c with
      | ptr id off' =>
        simp only [argsX] at h
        split at h
        · rename_i hb
          split at h
          · cases h
          · rename_i hf
            split at h
            · rename_i hrec
              simp only [Option.some.injEq, Prod.mk.injEq] at h
              obtain ⟨rfl, rfl, rfl, rfl⟩ := h
              obtain ⟨g1, g2, g3⟩ := argsX_ids hrec
              obtain ⟨f1, f2⟩ := frozL_ids hf
              have hm : id ∈ idsAs (A.c (C.ptr id off') :: xs) := by simp [idsAs, A.cells, idsL, idsC, appN_eq]
              have sb := idsBs_sub (hp := hp) (l := idsAs xs) (l' := idsAs (A.c (C.ptr id off') :: xs)) fun j hj => by simp only [idsAs, appN_eq]; exact List.mem_append_right _ hj
              have sa : ∀ i ∈ idsAs xs, i ∈ idsAs (A.c (C.ptr id off') :: xs) := fun j hj => by simp only [idsAs, appN_eq]; exact List.mem_append_right _ hj
              refine ⟨fun i hi => ?_, fun i hi => ?_, fun i hi => ?_⟩
              · simp only [keysN] at hi
                rcases List.mem_cons.mp hi with q | q
                · exact ⟨(by rw [q]; exact hm), (by rw [q]; exact ⟨_, hb⟩)⟩
                · exact ⟨sa i (g1 i q).1, (g1 i q).2⟩
              · rcases List.mem_append.mp hi with q | q
                · exact ⟨idsBs_mem hb hm i (f1 i q).1, (f1 i q).2⟩
                · exact ⟨sb i (g2 i q).1, (g2 i q).2⟩
              · rcases List.mem_append.mp hi with q | q
                · exact .inr (idsBs_mem hb hm i (f2 i q))
                · exact (g3 i q).elim (fun z => .inl (sa i z)) fun z => .inr (sb i z)
            · cases h
        · cases h
      | _ => simp [argsX] at h
  | .clo l :: ps, x :: xs, ws, rs, is, os, h => by
    cases x with
    | agg cs => simp [argsX] at h
    | c c =>
      cases c with
      | fn f ids =>
        simp only [argsX] at h
        split at h
        · cases h
        · rename_i rf hz
          have hk := (zipO_some hz).1
          split at h
          · cases h
          · rename_i hf
            split at h
            · cases h
            · split at h
              · rename_i hrec
                simp only [Option.some.injEq, Prod.mk.injEq] at h
                obtain ⟨rfl, rfl, rfl, rfl⟩ := h
                obtain ⟨g1, g2, g3⟩ := argsX_ids hrec
                obtain ⟨f1, f2, f3⟩ := frozB_ids hf
                have sb := idsBs_sub (hp := hp) (l := idsAs xs) (l' := idsAs (A.c (C.fn f ids) :: xs)) fun j hj => by simp only [idsAs, appN_eq]; exact List.mem_append_right _ hj
                have sa : ∀ i ∈ idsAs xs, i ∈ idsAs (A.c (C.fn f ids) :: xs) := fun j hj => by simp only [idsAs, appN_eq]; exact List.mem_append_right _ hj
                have sk : ∀ i ∈ rf.map (·.1), i ∈ idsAs (A.c (C.fn f ids) :: xs) := fun j hj => by rw [hk] at hj; simp only [idsAs, appN_eq]; exact List.mem_append_left _ (by simpa [A.cells, idsL, idsC, appN_eq] using hj)
                have sc := idsBs_sub (hp := hp) (l := rf.map (·.1)) (l' := idsAs (A.c (C.fn f ids) :: xs)) sk
                refine ⟨fun i hi => ?_, fun i hi => ?_, fun i hi => ?_⟩
                · rw [keysN_app] at hi
                  rcases List.mem_append.mp hi with q | q
                  · rw [keysN_map] at q; exact ⟨sk i q, f1 i q⟩
                  · exact ⟨sa i (g1 i q).1, (g1 i q).2⟩
                · rcases List.mem_append.mp hi with q | q
                  · exact ⟨sc i (f2 i q).1, (f2 i q).2⟩
                  · exact ⟨sb i (g2 i q).1, (g2 i q).2⟩
                · rcases List.mem_append.mp hi with q | q
                  · exact .inr (sc i (f3 i q))
                  · exact (g3 i q).elim (fun z => .inl (sa i z)) fun z => .inr (sb i z)
              · cases h
      | _ => simp [argsX] at h
/-! what goes, what is unknown for a while, what comes back -/
def kills (D : Tys) (is : List Nat) : List (Nat × (C D.S → C D.S)) := is.map fun i => (i, killF i)
theorem killsK_eq : ∀ (is : List Nat) (fr : Tr (V D.S)) (hp : Tr (B D.S)) (k : Tr (V D.S) → Tr (B D.S) → Option R), killsK D is fr hp k = k (kF (kills D is) fr) (kH (kills D is) hp)
  | [], fr, hp, k => rfl
  | i :: is, fr, hp, k => by
    simp only [killsK]
    rw [killK_eq]
    exact killsK_eq is _ _ k
theorem kF_app : ∀ (a b : List (Nat × (C D.S → C D.S))) (fr : Tr (V D.S)), kF (a ++ b) fr = kF b (kF a fr)
  | [], b, fr => rfl
  | (i, f) :: a, b, fr => by simp only [List.cons_append, kF]; exact kF_app a b _
theorem kH_app : ∀ (a b : List (Nat × (C D.S → C D.S))) (hp : Tr (B D.S)), kH (a ++ b) hp = kH b (kH a hp)
  | [], b, hp => rfl
  | (i, f) :: a, b, hp => by simp only [List.cons_append, kH]; exact kH_app a b _
theorem kills_keys (is : List Nat) : (kills D is).map (·.1) = is := by unfold kills; rw [List.map_map]; exact (List.map_congr_left fun _ _ => rfl).trans (List.map_id _)
theorem get_set_lt {hp : Tr (B D.S)} {i j : Nat} {b : Option (B D.S)} (h : i < 65535) : (hp.set depth i b).get j = if j = i then b else hp.get j := Tr.get_set _ _ _ _ _ (by rw [depth_ok]; omega)
theorem blurK_loc {k : Tr (B D.S) → Option R} {r : R} : ∀ {rs : List (Nat × OwL)} {hp : Tr (B D.S)}, (∀ i ∈ keysN rs, i < 65535) → blurK D rs hp k = some r →
    ∃ bl : List (Nat × B D.S), bl.map (·.1) = keysN rs ∧ k (setAll bl hp) = some r ∧ ∀ hp2 : Tr (B D.S), (∀ i ∈ keysN rs, hp2.get i = hp.get i) → ∀ k2 : Tr (B D.S) → Option R, blurK D rs hp2 k2 = k2 (setAll bl hp2)
  | [], hp, _, h => ⟨[], rfl, h, fun _ _ _ => rfl⟩
  | (id, o) :: rs, hp, hl, h => by
    have hid : id < 65535 := hl id List.mem_cons_self
    simp only [blurK] at h
    split at h
    · rename_i cs hb
      rw [Tr.setK_eq] at h
      obtain ⟨bl, b1, b2, b3⟩ := blurK_loc (fun i hi => hl i (List.mem_cons_of_mem _ hi)) h
      refine ⟨(id, .box (anyL D cs)) :: bl, by simp only [List.map_cons, keysN, b1], b2, fun hp2 hag k2 => ?_⟩
      simp only [blurK]
      rw [hag id List.mem_cons_self, hb]
      simp only
      rw [Tr.setK_eq, b3 _ (fun i hi => by rw [get_set_lt hid, get_set_lt hid, hag i (List.mem_cons_of_mem _ hi)]) k2]
      rfl
    · cases h
def refsN (D : Tys) (d : Nat) : Nat → List (Nat × OwL) → List (List (C D.S)) → List (Nat × B D.S)
  | p, (id, own) :: rs, cs :: css => thN D own (newC d p) 0 cs ++ (id, .box (thL D own (newC d p) 0 cs)) :: refsN D d (p + 1) rs css
  | _, _, _ => []
def refsW (D : Tys) (d : Nat) : Nat → List (Nat × OwL) → List (List (C D.S)) → List Nat
  | p, (id, own) :: rs, cs :: css => (thN D own (newC d p) 0 cs).map (·.1) ++ refsW D d (p + 1) rs css
  | _, _, _ => []
theorem get_setAll_some : ∀ {l : List (Nat × B D.S)} {hp : Tr (B D.S)} {j : Nat}, (∀ i ∈ l.map (·.1), i < 65535) → (setAll l hp).get j = none → j ∉ l.map (·.1)
  | [], hp, j, _, h, hm => by cases hm
  | (i, b) :: l, hp, j, hl, h, hm => by
    simp only [setAll] at h
    have hl' : ∀ k ∈ l.map (·.1), k < 65535 := fun k hk => hl k (List.mem_cons_of_mem _ hk)
    have hi : i < 65535 := hl i List.mem_cons_self
    have hn := get_setAll_some hl' h
    rcases List.mem_cons.mp hm with e | m
    · have e : j = i := e
      have key : ∀ {l : List (Nat × B D.S)} {hp : Tr (B D.S)}, (∀ k ∈ l.map (·.1), k < 65535) → j ∉ l.map (·.1) → (setAll l hp).get j = hp.get j := by
        intro l
        induction l with
        | nil => intro hp _ _; rfl
        | cons x l ih =>
          intro hp hl hn
          simp only [List.map_cons, List.mem_cons, not_or] at hn
          simp only [setAll]
          rw [ih (fun k hk => hl k (List.mem_cons_of_mem _ hk)) hn.2, get_set_lt (hl _ List.mem_cons_self), if_neg hn.1]
      rw [key hl' hn, get_set_lt hi, if_pos e] at h
      cases h
    · exact hn m
theorem putRefs_loc {d : Nat} {k : Tr (B D.S) → Option R} {r : R} : ∀ {rs : List (Nat × OwL)} {css : List (List (C D.S))} {p : Nat} {hp : Tr (B D.S)}, (∀ i ∈ keysN rs, i < 65535) → putRefsK D d p rs css hp k = some r →
    k (setAll (refsN D d p rs css) hp) = some r ∧ (∀ i ∈ (refsN D d p rs css).map (·.1), i < 65535 ∧ (i ∈ keysN rs ∨ i ∈ refsW D d p rs css)) ∧ (∀ i ∈ refsW D d p rs css, hp.get i = none) ∧
      ∀ hp2 : Tr (B D.S), (∀ i ∈ refsW D d p rs css, hp2.get i = none) → ∀ k2 : Tr (B D.S) → Option R, putRefsK D d p rs css hp2 k2 = k2 (setAll (refsN D d p rs css) hp2)
  | [], [], p, hp, _, h => ⟨h, fun i hi => (by cases hi), fun i hi => (by cases hi), fun _ _ _ => rfl⟩
  | [], _ :: _, p, hp, _, h => by simp [putRefsK] at h
  | _ :: _, [], p, hp, _, h => by simp [putRefsK] at h
  | (id, own) :: rs, cs :: css, p, hp, hl, h => by
    have hid : id < 65535 := hl id List.mem_cons_self
    simp only [putRefsK] at h
    rw [thLK_eq] at h
    obtain ⟨hp1, a, h2, _⟩ := addBK_some h
    rw [Tr.setK_eq] at h2
    obtain ⟨a1, a2, a3⟩ := a.set
    have alt := a.lt
    obtain ⟨g1, g2, g3, g4⟩ := putRefs_loc (fun i hi => hl i (List.mem_cons_of_mem _ hi)) h2
    have e1 : ∀ hp : Tr (B D.S), setAll (refsN D d p ((id, own) :: rs) (cs :: css)) hp = setAll (refsN D d (p + 1) rs css) ((setAll (thN D own (newC d p) 0 cs) hp).set depth id (some (.box (thL D own (newC d p) 0 cs)))) := fun hp => by
      simp only [refsN]; rw [setAll_app]; rfl
    have dis : ∀ i ∈ refsW D d (p + 1) rs css, i ≠ id ∧ i ∉ (thN D own (newC d p) 0 cs).map (·.1) ∧ hp.get i = none := fun i hi => by
      have hn := g3 i hi
      rw [get_set_lt hid] at hn
      split at hn
      · cases hn
      · rename_i hne
        rw [a1] at hn
        have h1 := get_setAll_some alt hn
        refine ⟨hne, h1, ?_⟩
        cases hg : hp.get i with
        | none => rfl
        | some b =>
          have := (a.has).1 i b hg
          rw [a1, hn] at this; cases this
    refine ⟨by rw [e1, ← a1]; exact g1, fun i hi => ?_, fun i hi => ?_, fun hp2 hf k2 => ?_⟩
    · simp only [refsN, List.map_append, List.map_cons] at hi
      simp only [keysN, refsW]
      rcases List.mem_append.mp hi with q | q
      · exact ⟨alt i q, .inr (List.mem_append_left _ q)⟩
      · rcases List.mem_cons.mp q with e | q
        · exact ⟨by rw [e]; exact hid, .inl (by rw [e]; exact List.mem_cons_self)⟩
        · obtain ⟨z1, z2⟩ := g2 i q
          exact ⟨z1, z2.elim (fun z => .inl (List.mem_cons_of_mem _ z)) fun z => .inr (List.mem_append_right _ z)⟩
    · simp only [refsW] at hi
      rcases List.mem_append.mp hi with q | q
      · exact a2 i q
      · exact (dis i q).2.2
    · simp only [refsW] at hf
      simp only [putRefsK]
      rw [thLK_eq, addBK_of (a3 hp2 fun i hi => hf i (List.mem_append_left _ hi)), Tr.setK_eq, e1]
      refine g4 _ (fun i hi => ?_) k2
      obtain ⟨z1, z2, _⟩ := dis i hi
      rw [get_set_lt hid, if_neg z1]
      exact get_setAll_none alt (hf i (List.mem_append_right _ hi)) z2
/-! the state behind it, looked at -/
theorem kH_getA {ks : List (Nat × (C D.S → C D.S))} : ∀ {hp hp2 : Tr (B D.S)} {i : Nat}, (∀ j ∈ ks.map (·.1), j < 65535) → hp2.get i = hp.get i → (kH ks hp2).get i = (kH ks hp).get i := by
  induction ks with
  | nil => intro hp hp2 i _ h; exact h
  | cons x ks ih =>
    intro hp hp2 i hl h
    obtain ⟨id, f⟩ := x
    simp only [kH]
    refine ih (fun j hj => hl j (List.mem_cons_of_mem _ hj)) ?_
    rw [Tr.get_map, Tr.get_map, get_set_lt (hl id List.mem_cons_self), get_set_lt (hl id List.mem_cons_self), h]
theorem kH_noneA {ks : List (Nat × (C D.S → C D.S))} : ∀ {hp : Tr (B D.S)} {i : Nat}, (∀ j ∈ ks.map (·.1), j < 65535) → hp.get i = none → (kH ks hp).get i = none := by
  induction ks with
  | nil => intro hp i _ h; exact h
  | cons x ks ih =>
    intro hp i hl h
    obtain ⟨id, f⟩ := x
    simp only [kH]
    refine ih (fun j hj => hl j (List.mem_cons_of_mem _ hj)) ?_
    rw [Tr.get_map, get_set_lt (hl id List.mem_cons_self), h]
    split <;> rfl
theorem ownIds_mem {b : Nat} : ∀ {l : OwL} {q p : Nat}, p < l.length → b + (q + p) ∈ ownIds b l q
  | [], q, p, h => by simp at h
  | x :: l, q, 0, h => List.mem_cons_self
  | x :: l, q, p + 1, h => by
    have := ownIds_mem (b := b) (l := l) (q := q + 1) (p := p) (by simpa using h)
    rw [show q + (p + 1) = q + 1 + p by omega]
    exact List.mem_cons_of_mem _ this
theorem thN_keys {own : OwL} {base : Nat} : ∀ {cs : List (C D.S)} {j : Nat}, ∀ i ∈ (thN D own base j cs).map (·.1), i ∈ ownIds base own 0
  | [], j, i, h => by simp [thN] at h
  | c :: cs, j, i, h => by
    simp only [thN] at h
    split at h
    · rename_i p hp
      rw [List.map_append] at h
      rcases List.mem_append.mp h with h | h
      · rw [thB_keys i h]
        have := ownIds_mem (b := base) (q := 0) (posO_lt hp)
        rwa [Nat.zero_add] at this
      · exact thN_keys i h
    · exact thN_keys i h
theorem refsW_app {d : Nat} : ∀ {rf rs : List (Nat × OwL)} {css : List (List (C D.S))} {p i : Nat}, i ∈ refsW D d p (rf ++ rs) css → i ∈ refsW D d p rf css ∨ ∃ css', i ∈ refsW D d (p + rf.length) rs css'
  | [], rs, css, p, i, h => .inr ⟨css, h⟩
  | (id, own) :: rf, rs, [], p, i, h => by simp [refsW] at h
  | (id, own) :: rf, rs, cs :: css, p, i, h => by
    simp only [List.cons_append, refsW] at h ⊢
    rcases List.mem_append.mp h with q | q
    · exact .inl (List.mem_append_left _ q)
    · rcases refsW_app q with q | ⟨css', q⟩
      · exact .inl (List.mem_append_right _ q)
      · exact .inr ⟨css', by rw [List.length_cons, show p + (rf.length + 1) = p + 1 + rf.length by omega]; exact q⟩
theorem cloIds_mem {d : Nat} : ∀ {l rf : List (Nat × OwL)} {css : List (List (C D.S))} {p i : Nat}, rf.map (·.2) = l.map (·.2) → i ∈ refsW D d p rf css → i ∈ cloIds d p l
  | _, [], css, p, i, e, h => by simp [refsW] at h
  | [], _ :: _, css, p, i, e, h => by simp at e
  | (n, own) :: l, (id, own2) :: rf, [], p, i, e, h => by simp [refsW] at h
  | (n, own) :: l, (id, own2) :: rf, cs :: css, p, i, e, h => by
    simp only [List.map_cons, List.cons.injEq] at e
    obtain ⟨rfl, e⟩ := e
    simp only [refsW] at h
    simp only [cloIds, appN_eq]
    rcases List.mem_append.mp h with q | q
    · exact List.mem_append_left _ (thN_keys i q)
    · exact List.mem_append_right _ (cloIds_mem e q)
theorem refsW_mem {d : Nat} : ∀ {ps : List XP} {xs ws : List (A D.S)} {rs : List (Nat × OwL)} {is os : List Nat} {css : List (List (C D.S))} {p : Nat}, argsX D hp ps xs = some (ws, rs, is, os) → ∀ i ∈ refsW D d p rs css, i ∈ refIds d p ps
  | [], [], ws, rs, is, os, css, p, h, i, hi => by
    simp only [argsX, Option.some.injEq, Prod.mk.injEq] at h
    obtain ⟨rfl, rfl, rfl, rfl⟩ := h
    simp [refsW] at hi
  | [], _ :: _, ws, rs, is, os, css, p, h, i, hi => by simp [argsX] at h
  | .val :: ps, [], ws, rs, is, os, css, p, h, i, hi => by simp [argsX] at h
  | .ref _ _ _ :: ps, [], ws, rs, is, os, css, p, h, i, hi => by simp [argsX] at h
  | .clo _ :: ps, [], ws, rs, is, os, css, p, h, i, hi => by simp [argsX] at h
  | .val :: ps, x :: xs, ws, rs, is, os, css, p, h, i, hi => by
    simp only [argsX] at h
    split at h
    · cases h
    · split at h
      · rename_i hrec
        simp only [Option.some.injEq, Prod.mk.injEq] at h
        obtain ⟨rfl, rfl, rfl, rfl⟩ := h
        simp only [refIds]
        exact refsW_mem hrec i hi
      · cases h
  | .ref off own out :: ps, x :: xs, ws, rs, is, os, css, p, h, i, hi => by
    cases x with
    | agg cs => simp [argsX] at h
    | c c =>
      cases c with
      | ptr id off' =>
        simp only [argsX] at h
        split at h
        · split at h
          · cases h
          · split at h
            · rename_i hrec
              simp only [Option.some.injEq, Prod.mk.injEq] at h
              obtain ⟨rfl, rfl, rfl, rfl⟩ := h
              cases css with
              | nil => simp [refsW] at hi
              | cons cs css =>
                simp only [refsW] at hi
                simp only [refIds, appN_eq]
                rcases List.mem_append.mp hi with q | q
                · exact List.mem_append_left _ (thN_keys i q)
                · exact List.mem_append_right _ (refsW_mem hrec i q)
            · cases h
        · cases h
      | _ => simp [argsX] at h
  | .clo l :: ps, x :: xs, ws, rs, is, os, css, p, h, i, hi => by
    cases x with
    | agg cs => simp [argsX] at h
    | c c =>
      cases c with
      | fn f ids =>
        simp only [argsX] at h
        split at h
        · cases h
        · rename_i rf hz
          split at h
          · cases h
          · split at h
            · cases h
            · split at h
              · rename_i hrec
                simp only [Option.some.injEq, Prod.mk.injEq] at h
                obtain ⟨rfl, rfl, rfl, rfl⟩ := h
                simp only [refIds, appN_eq]
                rcases refsW_app hi with q | ⟨css', q⟩
                · exact List.mem_append_left _ (cloIds_mem (zipO_some hz).2 q)
                · have e : rf.length = l.length := by have := congrArg List.length (zipO_some hz).2; simpa using this
                  rw [e] at q
                  exact List.mem_append_right _ (refsW_mem hrec i q)
              · cases h
      | _ => simp [argsX] at h
end
theorem refsW_nil {d p : Nat} {css : List (List (C D.S))} : refsN D d p [] css = [] := by cases css <;> rfl
theorem loc_callX (hkey : ∀ i b, hp.get i = some b → i < 65535) (hH : HNat H) {f : Operand} {args : Array Operand} {ts : Array TypeId} (e : ∀ fr2, AgF (slotsL (Op.call ⟨.value f, args, ts⟩).operands.toList) fr fr2 → evC fr2 f = evC fr f ∧ evAs D fr2 args.toList = evAs D fr args.toList)
    {g : FuncId} {caps : List Nat} {xs : List (A D.S)} (hg : evC fr f = some (.fn g caps)) (hxs : evAs D fr args.toList = some xs) (hids2 : ∀ i ∈ idsAs (xs ++ capPtrs D caps), i ∈ tch (.call ⟨.value f, args, ts⟩) fr hp)
    (hids3 : ∀ i ∈ idsBs hp (idsAs (xs ++ capPtrs D caps)), i ∈ tch (.call ⟨.value f, args, ts⟩) fr hp) {md : Md} {xm : XMd} (hmd : lk D.mode g = some md) (hw : md.xm = some xm) (hok : drawCall D hp md (xs ++ capPtrs D caps) = true)
    (hnew : ∀ i ∈ nwT D fr (.call ⟨.value f, args, ts⟩) d, hp.get i = none) (h : callK D H g d (xs ++ capPtrs D caps) fr hp k = some r) : Loc3 D H (.call ⟨.value f, args, ts⟩) d fr hp k r := by
  have ho : xmOf D g = some xm := by unfold xmOf; rw [hmd]; exact hw
  have hx0 : ∀ d, xNew D fr (.call ⟨.value f, args, ts⟩) d = appN (refIds d 0 xm.ps) (roIds d xm.ro 0) := fun d => by simp only [xNew, hg, ho]
  have hnw : nwT D fr (.call ⟨.value f, args, ts⟩) d = refIds d 0 xm.ps ++ roIds d xm.ro 0 := by simp only [nwT, newOp, hx0, appN_eq]
  cases hargs : argsX D hp xm.ps (xs ++ capPtrs D caps) with
  | none => simp only [drawCall, hw, hargs] at hok; cases hok
  | some z =>
  obtain ⟨ws, rs, is, os⟩ := z
  obtain ⟨j1, j2, j3⟩ := argsX_ids hargs
  have hfo : frzO D fr hp (.call ⟨.value f, args, ts⟩) = !(rs.isEmpty && (is.isEmpty && os.isEmpty)) := by simp only [frzO, hg, hxs, hmd, hw, hargs]
  have step : ∀ (fr2 : Tr (V D.S)) (hp2 : Tr (B D.S)) (k2 : KK D R), AgH (tch (.call ⟨.value f, args, ts⟩) fr hp) hp hp2 → callK D H g d (xs ++ capPtrs D caps) fr2 hp2 k2 = (match distinct (keysN rs ++ is) && apart is os with
      | false => none
      | true => frzsK os fr2 hp2 fun fr hp => killsK D is fr hp fun fr hp => blurK D rs hp fun hp => H g ws fun res css => putRefsK D d 0 rs css hp fun hp => putResK D d xm.ro 0 res hp fun res hp => k2 (packV D res) fr hp) := fun fr2 hp2 k2 hag => by
    unfold callK
    rw [ho]
    simp only
    unfold callXK
    rw [argsX_agG (hag.mono hids2) (hag.mono hids3), hargs]
    rfl
  rw [step fr hp k (fun _ _ => rfl)] at h
  cases hda : distinct (keysN rs ++ is) && apart is os with
  | false => rw [hda] at h; cases h
  | true =>
  rw [hda] at h
  simp only at h
  have hrs : ∀ i ∈ keysN rs, i < 65535 := fun i hi => by obtain ⟨b, hb⟩ := (j1 i hi).2; exact hkey i b hb
  have his : ∀ i ∈ is, i < 65535 := fun i hi => by obtain ⟨b, hb⟩ := (j2 i hi).2; exact hkey i b hb
  obtain ⟨fs, f1, fn, f2, f3, f4⟩ := frzs_loc (hkey := hkey) h
  rw [killsK_eq] at f2
  have hks : ∀ j ∈ (fs ++ kills D is).map (·.1), j < 65535 := fun j hj => by
    rw [List.map_append, kills_keys] at hj
    exact (List.mem_append.mp hj).elim (fun q => (f1 j q).2) (his j)
  obtain ⟨bl, b1, b2, b3⟩ := blurK_loc hrs f2
  obtain ⟨res, css, h2, e2⟩ := hH _ _ _ _ b2
  obtain ⟨p1, p2, p3, p4⟩ := putRefs_loc hrs h2
  obtain ⟨xs', hp', rr, h3, _⟩ := putResK_some p1
  obtain ⟨q1, q2, q3⟩ := ResR.set (R := R) rr
  have hW : ∀ i ∈ refsW D d 0 rs css, i ∈ nwT D fr (.call ⟨.value f, args, ts⟩) d := fun i hi => by rw [hnw]; exact List.mem_append_left _ (refsW_mem hargs i hi)
  have hRo : ∀ i ∈ (resN D d xm.ro 0 res).map (·.1), i ∈ nwT D fr (.call ⟨.value f, args, ts⟩) d := fun i hi => by rw [hnw]; exact List.mem_append_right _ (resN_keys i hi)
  have hbr : ∀ i ∈ (bl ++ refsN D d 0 rs css).map (·.1), i < 65535 := fun i hi => by
    rw [List.map_append, b1] at hi
    exact (List.mem_append.mp hi).elim (hrs i) fun q => (p2 i q).1
  have hnk : ∀ i ∈ nwT D fr (.call ⟨.value f, args, ts⟩) d, i ∉ keysN rs := fun i hi hm => by
    obtain ⟨b, hb⟩ := (j1 i hm).2
    rw [hnew i hi] at hb; cases hb
  have eF : ∀ fr : Tr (V D.S), kF (kills D is) (kF fs fr) = kF (fs ++ kills D is) fr := fun fr => (kF_app _ _ _).symm
  have eH : ∀ hp : Tr (B D.S), kH (kills D is) (kH fs hp) = kH (fs ++ kills D is) hp := fun hp => (kH_app _ _ _).symm
  refine ⟨packV D xs', ⟨fs ++ kills D is, bl ++ refsN D d 0 rs css ++ resN D d xm.ro 0 res⟩, ?_, fun i hi => ?_, fun he => ?_, fun hk => ?_, fun x hx => ?_, hnew, fun fr2 hp2 g1 g2 g3 k2 => ?_⟩
  · unfold Dl.F Dl.H
    simp only
    rw [setAll_app, setAll_app, ← eF, ← eH, ← q1]
    exact h3
  · simp only [Dl.aff, List.map_append, kills_keys, b1] at hi
    rcases List.mem_append.mp hi with hi | hi
    · rcases List.mem_append.mp hi with hi | hi
      · exact .inr ((j3 i (f1 i hi).1).elim (hids2 i) (hids3 i))
      · exact .inr (hids3 i (j2 i hi).1)
    · rcases List.mem_append.mp hi with hi | hi
      · rcases List.mem_append.mp hi with hi | hi
        · exact .inr (hids2 i (j1 i hi).1)
        · rcases (p2 i hi).2 with q | q
          · exact .inr (hids2 i (j1 i q).1)
          · exact .inl (hW i q)
      · exact .inl (hRo i hi)
  · simp only [effO, newOp, hx0, hg, hxs, hmd, hw, hargs, appN_eq, Bool.false_or, Bool.or_eq_false_iff, Bool.not_eq_false', List.isEmpty_iff, Bool.and_eq_true] at he
    obtain ⟨he1, rfl, rfl, rfl⟩ := he
    have hro : xm.ro = [] := by
      have := (List.append_eq_nil_iff.mp he1).2
      cases hr : xm.ro with
      | nil => rfl
      | cons y l => rw [hr] at this; simp [roIds] at this
    have hb : bl = [] := List.map_eq_nil_iff.mp b1
    exact ⟨by rw [f3 rfl]; rfl, by rw [hb, refsW_nil, hro, resN_nil]; rfl⟩
  · rw [hfo] at hk
    simp only [Bool.or_eq_false_iff, Bool.not_eq_false', Bool.and_eq_true, List.isEmpty_iff] at hk
    obtain ⟨_, rfl, rfl, rfl⟩ := hk
    show fs ++ kills D [] = []
    rw [f3 rfl]; rfl
  · simp only [kidO, hg, hxs, hmd, hw, hargs, appN_eq, List.mem_append]
    rcases List.mem_append.mp hx with hx | hx
    · exact ⟨.inr (f1 _ (List.mem_map_of_mem hx)).1, fn x hx⟩
    · obtain ⟨i, hi, rfl⟩ := List.mem_map.mp hx
      exact ⟨.inl hi, .kill i⟩
  · have hos : ∀ i ∈ os, hp2.get i = hp.get i := fun i hi => g2 i ((j3 i hi).elim (hids2 i) (hids3 i))
    simp only [opK]
    rw [(e fr2 g1).1, (e fr2 g1).2, hg, hxs]
    simp only
    rw [step fr2 hp2 k2 g2, hda]
    simp only
    rw [f4 fr2 hp2 hos, killsK_eq, eF, eH]
    rw [eH] at b3 p3 q2
    rw [b3 (kH (fs ++ kills D is) hp2) (fun i hi => kH_getA hks (g2 i (hids2 i (j1 i hi).1))), e2]
    have n1 : ∀ i ∈ nwT D fr (.call ⟨.value f, args, ts⟩) d, (setAll bl (kH (fs ++ kills D is) hp2)).get i = none := fun i hi =>
      get_setAll_none (fun j hj => hrs j (by rw [← b1]; exact hj)) (kH_noneA hks (g3 i hi)) (by rw [b1]; exact hnk i hi)
    rw [p4 _ (fun i hi => n1 i (hW i hi))]
    have dis : ∀ i ∈ (resN D d xm.ro 0 res).map (·.1), i ∉ (bl ++ refsN D d 0 rs css).map (·.1) := fun i hi => get_setAll_some hbr (by rw [setAll_app]; exact q2 i hi)
    rw [q3 _ (fun i hi => by
      rw [← setAll_app]
      exact get_setAll_none hbr (kH_noneA hks (g3 i (hRo i hi))) (dis i hi))]
    unfold Dl.F Dl.H
    simp only
    rw [setAll_app, setAll_app]
theorem loc_call (hkey : ∀ i b, hp.get i = some b → i < 65535) (hH : HNat H) {f : Operand} {args : Array Operand} {ts : Array TypeId} (hok : drawOk D fr hp (.call ⟨.value f, args, ts⟩) = true) (hnew : ∀ i ∈ nwT D fr (.call ⟨.value f, args, ts⟩) d, hp.get i = none) (h : opK D H (.call ⟨.value f, args, ts⟩) d fr hp k = some r) :
    Loc3 D H (.call ⟨.value f, args, ts⟩) d fr hp k r := by
  have hf : f ∈ (Op.call ⟨.value f, args, ts⟩).operands.toList := by simp [Op.operands, Call.operands]
  have e : ∀ fr2, AgF (slotsL (Op.call ⟨.value f, args, ts⟩).operands.toList) fr fr2 → evC fr2 f = evC fr f ∧ evAs D fr2 args.toList = evAs D fr args.toList := fun fr2 h1 => ⟨evC_ag h1 hf, evAs_ag h1 fun x hx => call_op hx⟩
  simp only [opK] at h
  split at h
  · rename_i g caps xs hg hxs
    simp only [drawOk, hg, hxs] at hok
    have hids : ∀ i ∈ idsAs (xs ++ capPtrs D caps), i ∈ tchO fr hp (Op.call ⟨.value f, args, ts⟩).operands.toList := fun i hi => by
      rw [idsAs_app, idsAs_caps] at hi
      rcases List.mem_append.mp hi with hi | hi
      · obtain ⟨a, ha, hia⟩ := mem_idsAs hi
        obtain ⟨x, hx, hx'⟩ := evAs_mem hxs a ha
        exact tchO_mem (evA_ev hx') (call_op hx) i hia
      · exact tchO_mem (evC_ev hg) hf i (by simpa [idsV, A.cells, idsL, idsC, appN_eq] using hi)
    have hids2 : ∀ i ∈ idsAs (xs ++ capPtrs D caps), i ∈ tch (.call ⟨.value f, args, ts⟩) fr hp := fun i hi => by
      unfold tch; rw [appN_eq]; exact List.mem_append_left _ (hids i hi)
    have hids3 : ∀ i ∈ idsBs hp (idsAs (xs ++ capPtrs D caps)), i ∈ tch (.call ⟨.value f, args, ts⟩) fr hp := fun i hi => by
      unfold tch; rw [appN_eq]; exact List.mem_append_right _ (idsBs_sub hids i hi)
    cases hmd0 : lk D.mode g with
    | none => simp only [hmd0] at hok; cases hok
    | some md0 =>
    cases hw0 : md0.xm with
    | some xm =>
      simp only [hmd0] at hok
      exact loc_callX hkey hH e hg hxs hids2 hids3 hmd0 hw0 hok hnew h
    | none =>
    have ho : xmOf D g = none := by unfold xmOf; rw [hmd0]; exact hw0
    have hx0 : ∀ d, xNew D fr (.call ⟨.value f, args, ts⟩) d = [] := fun d => by simp only [xNew, hg, ho]
    have hnw : nwT D fr (.call ⟨.value f, args, ts⟩) d = [] := by simp only [nwT, newOp, hx0]
    have hck : ∀ (d : Nat) (as : List (A D.S)) (fr : Tr (V D.S)) (hp : Tr (B D.S)) (k : KK D R), callK D H g d as fr hp k = callK0 D H g d as fr hp k := fun d as fr hp k => by unfold callK; rw [ho]
    rw [hck] at h
    unfold callK0 at h
    split at h
    · cases h
    rename_i md hmd
    have hw : md.xm = none := by unfold xmOf at ho; rw [hmd] at ho; exact ho
    clear hok
    split at h
    · cases h
    rename_i ws rs os hargs
    have hcommon : ∀ hp2, AgH (tch (.call ⟨.value f, args, ts⟩) fr hp) hp hp2 → callArgs D hp2 md.ps (xs ++ capPtrs D caps) = some (ws, rs, os) := fun hp2 h2 => (callArgs_ag (h2.mono hids2) (h2.mono hids3)).trans hargs
    have haff : ∀ (css : List (List (C D.S))) (i : Nat), i ∈ (boxes (D := D) rs css).map (·.1) → i ∈ tch (.call ⟨.value f, args, ts⟩) fr hp := fun css i hi => hids2 i (callArgs_rs_ids hargs i (boxes_keys _ _ i hi))
    have hos : ∀ i ∈ os, i ∈ tch (.call ⟨.value f, args, ts⟩) fr hp := fun i hi => (callArgs_os_ids hargs i hi).elim (hids2 i) (hids3 i)
    have hfo : frzO D fr hp (.call ⟨.value f, args, ts⟩) = (md.fz && !os.isEmpty) := by simp only [frzO, hg, hxs, hmd, hw, hargs]
    split at h
    · cases h
    · rename_i hd hfz
      obtain ⟨fs, f1, fn, f2, f3, f4⟩ := frzs_loc (hkey := hkey) h
      obtain ⟨res, css, h2, e2⟩ := hH _ _ _ _ f2
      obtain ⟨h3, e3⟩ := setRefsK_loc h2
      refine ⟨packV D res, ⟨fs, boxes rs css⟩, h3, fun i hi => ?_, fun he => ?_, fun hk => ?_, fun x hx => ?_, fun i hi => (by rw [hnw] at hi; cases hi), fun fr2 hp2 g1 g2 _ k2 => ?_⟩
      · simp only [Dl.aff] at hi
        rcases List.mem_append.mp hi with hi | hi
        · exact .inr (hos i (f1 i hi).1)
        · exact .inr (haff css i hi)
      · simp only [effO, newOp, hx0, List.isEmpty_nil, Bool.not_true, Bool.false_or, hg, hxs, hmd, hw, hargs, Bool.or_eq_false_iff, Bool.not_eq_false', List.isEmpty_iff, hfz, Bool.true_and] at he
        obtain ⟨rfl, rfl⟩ := he
        exact ⟨f3 rfl, by cases css <;> rfl⟩
      · rw [hfo, hfz] at hk
        simp only [Bool.true_and, Bool.or_eq_false_iff, Bool.not_eq_false', List.isEmpty_iff] at hk
        exact f3 hk.2
      · simp only [kidO, hg, hxs, hmd, hw, hargs]
        exact ⟨(f1 _ (List.mem_map_of_mem hx)).1, fn x hx⟩
      · simp only [opK]
        rw [(e fr2 g1).1, (e fr2 g1).2, hg, hxs]
        simp only
        rw [hck]
        unfold callK0
        rw [hmd]
        simp only
        rw [hcommon hp2 g2]
        simp only
        rw [hd, hfz]
        simp only
        rw [f4 fr2 hp2 (fun i hi => g2 i (hos i hi)), e2, e3]
        rfl
    · rename_i hd hfz
      obtain ⟨res, css, h2, e2⟩ := hH _ _ _ _ h
      split at h2
      · cases h2
      · rename_i hn
        obtain ⟨h3, e3⟩ := setRefsK_loc h2
        refine ⟨packV D res, ⟨[], boxes rs css⟩, h3, fun i hi => ?_, fun he => ⟨rfl, ?_⟩, fun _ => rfl, fun x hx => (by cases hx), fun i hi => (by rw [hnw] at hi; cases hi), fun fr2 hp2 g1 g2 _ k2 => ?_⟩
        · simp only [Dl.aff, List.map_nil, List.nil_append] at hi
          exact .inr (haff css i hi)
        · simp only [effO, newOp, hx0, List.isEmpty_nil, Bool.not_true, Bool.false_or, hg, hxs, hmd, hw, hargs, Bool.or_eq_false_iff, Bool.not_eq_false', List.isEmpty_iff] at he
          obtain ⟨rfl, _⟩ := he
          cases css <;> rfl
        simp only [opK]
        rw [(e fr2 g1).1, (e fr2 g1).2, hg, hxs]
        simp only
        rw [hck]
        unfold callK0
        rw [hmd]
        simp only
        rw [hcommon hp2 g2]
        simp only
        rw [hd, hfz]
        simp only
        rw [e2, hn]
        simp only
        rw [e3]
        rfl
  · cases h
/-- Every operation: it gives the same wherever what it looks at is the same. -/
theorem opK_loc (hH : HNat H) (hkey : ∀ i b, hp.get i = some b → i < 65535) (hok : drawOk D fr hp op = true) (hnew : ∀ i ∈ nwT D fr op d, hp.get i = none) (h : opK D H op d fr hp k = some r) : Loc3 D H op d fr hp k r := by
  cases op with
  | move x => exact loc_move h
  | assign x => exact loc_assign h
  | pick c x y => exact loc_pick h
  | alloc t => exact loc_alloc h
  | box t x => exact loc_box h
  | build t ps => exact loc_build h
  | buildSlice t n ps => exact loc_buildSlice hok h
  | load t p => exact loc_load h
  | store t p x => exact loc_store hok h
  | nilCheck x => exact loc_nilCheck h
  | binOp op t x y q => exact loc_binOp h
  | unOp u t x => exact loc_unOp h
  | convert q t x => exact loc_convert h
  | makeFunc f first caps => exact loc_makeFunc h
  | makeSlice t x y => exact loc_makeSlice h
  | slice t x lo hi mx => exact loc_slice hok h
  | fieldAddr t x f => exact loc_fieldAddr h
  | field t x f => exact loc_field h
  | indexAddr t x y => exact loc_indexAddr h
  | index t x y => exact loc_index h
  | extract x i => exact loc_extract h
  | call c =>
    obtain ⟨f, args, ts⟩ := c
    cases f with
    | value f => exact loc_call hkey hH hok hnew h
    | invoke x m => simp [opK] at h
    | builtin b =>
      cases b <;> first | exact loc_len h | exact loc_append hkey h (hnew d (List.mem_singleton.mpr rfl)) | exact loc_max h | exact loc_min h | (simp [opK] at h)
  | _ => simp [opK] at h
/-- An operation that looks at no block. -/
def Mv3 (D : Tys) {R : Type} (H : HH D R) (op : Op) (d : Nat) (fr : Tr (V D.S)) (hp : Tr (B D.S)) (k : KK D R) (r : R) : Prop :=
  ∃ v, k v fr hp = some r ∧ ∀ fr2 hp2, AgF (slotsL op.operands.toList) fr fr2 → ∀ k2, opK D H op d fr2 hp2 k2 = k2 v fr2 hp2
theorem mov_loc (hm : movOp op = true) (h : opK D H op d fr hp k = some r) : Mv3 D H op d fr hp k r := by
  cases op with
  | move x =>
    simp only [opK] at h
    split at h
    · rename_i v hv
      exact ⟨v, h, fun fr2 hp2 h1 k2 => by simp only [opK]; rw [ev_ag h1 (by simp [Op.operands]), hv]⟩
    · cases h
  | assign x =>
    simp only [opK] at h
    split at h
    · rename_i v hv
      exact ⟨v, h, fun fr2 hp2 h1 k2 => by simp only [opK]; rw [ev_ag h1 (by simp [Op.operands]), hv]⟩
    · cases h
  | pick c x y =>
    simp only [opK] at h
    split at h
    · rename_i b hb
      rcases bKK_nat h with ⟨rfl, h'⟩ | ⟨rfl, h'⟩
      · clear h
        split at h'
        · rename_i v hv
          exact ⟨v, h', fun fr2 hp2 h1 k2 => by simp only [opK]; rw [evC_ag h1 (by simp [Op.operands]), hb, ev_ag (x := x) h1 (by simp [Op.operands]), hv]; rfl⟩
        · cases h'
      · clear h
        split at h'
        · rename_i v hv
          exact ⟨v, h', fun fr2 hp2 h1 k2 => by simp only [opK]; rw [evC_ag h1 (by simp [Op.operands]), hb, ev_ag (x := y) h1 (by simp [Op.operands]), hv]; rfl⟩
        · cases h'
    · cases h
  | fieldAddr t x f =>
    have e : ∀ fr2, AgF (slotsL (Op.fieldAddr t x f).operands.toList) fr fr2 → evC fr2 x = evC fr x := fun fr2 h1 => evC_ag h1 (by simp [Op.operands])
    simp only [opK] at h
    repeat' split at h
    all_goals first
      | (cases h; done)
      | exact ⟨_, h, fun fr2 hp2 h1 k2 => by simp only [opK]; rw [e fr2 h1]; simp only [*]⟩
  | nilCheck x =>
    have e : ∀ fr2, AgF (slotsL (Op.nilCheck x).operands.toList) fr fr2 → evC fr2 x = evC fr x := fun fr2 h1 => evC_ag h1 (by simp [Op.operands])
    simp only [opK] at h
    repeat' split at h
    all_goals first
      | (cases h; done)
      | exact ⟨_, h, fun fr2 hp2 h1 k2 => by simp only [opK]; rw [e fr2 h1]; simp only [*]⟩
  | extract x i =>
    have e : ∀ fr2, AgF (slotsL (Op.extract x i).operands.toList) fr fr2 → ev fr2 x = ev fr x := fun fr2 h1 => ev_ag h1 (by simp [Op.operands])
    simp only [opK] at h
    repeat' split at h
    all_goals first
      | (cases h; done)
      | exact ⟨_, h, fun fr2 hp2 h1 k2 => by simp only [opK]; rw [e fr2 h1]; simp only [*]⟩
  | makeFunc f first caps =>
    cases f with
    | func f =>
      have e : ∀ fr2, AgF (slotsL (Op.makeFunc (.func f) first caps).operands.toList) fr fr2 → capIds D fr2 caps.toList = capIds D fr caps.toList := fun fr2 h1 => capIds_ag h1 fun x hx => by
        simp only [Op.operands, Array.toList_append]; exact List.mem_append_right _ hx
      simp only [opK] at h
      repeat' split at h
      all_goals first
        | (cases h; done)
        | exact ⟨_, h, fun fr2 hp2 h1 k2 => by simp only [opK]; rw [e fr2 h1]; simp only [*]⟩
    | _ => simp [opK] at h
  | _ => simp [movOp] at hm
end
end Go.Proofs.Ytkpjeihgigmnkaa.Ev
/- Values without memory: two operations that do not touch each other may change places. -/
namespace Go.Proofs.Ytkpjeihgigmnkaa.Ev
open Go
set_option linter.unusedVariables false
set_option linter.unusedSimpArgs false
section
variable {D : Tys} {R : Type}
abbrev KS (D : Tys) := List (Nat × (C D.S → C D.S))
def kV : KS D → V D.S → V D.S
  | [], v => v
  | (_, f) :: l, v => kV l (mapV f v)
def kB : KS D → B D.S → B D.S
  | [], b => b
  | (_, f) :: l, b => kB l (mapB f b)
abbrev FS (D : Tys) := Nat → Option (V D.S)
abbrev HS (D : Tys) := Nat → Option (B D.S)
def nF (dst : Option Tmp) (v : V D.S) (ks : KS D) (F : FS D) : FS D := fun t => if dst = some t then some v else (F t).map (kV ks)
def setF : List (Nat × B D.S) → HS D → HS D
  | [], h => h
  | (i, b) :: l, h => setF l fun j => if j = i then some b else h j
def nH (ks : KS D) (us : List (Nat × B D.S)) (h : HS D) : HS D := setF us fun j => if j ∈ ks.map (·.1) then none else (h j).map (kB ks)
/-- What is found of one operation. -/
structure Lx (D : Tys) where
  lk : List Nat
  T : List Nat
  U : List Nat
  eff : Bool
  an : Bool
  kl : Bool
  v : V D.S
  δ : Dl D
  tn : List Nat
  tb : List Nat
  od : List Nat
structure RelF (H : HH D R) (ops : List Oper) (o : Oper) (L : Lx D) (F : FS D) (h : HS D) : Prop where
  aff : ∀ i ∈ L.δ.aff, i ∈ L.U
  ut : ∀ i ∈ L.U, i ∈ L.T
  e0 : L.eff = false → L.δ.ks = [] ∧ L.δ.us = []
  k0 : L.kl = false → L.δ.ks = []
  nm : ∀ x ∈ L.δ.ks, Nm x.1 x.2
  vT : ∀ i ∈ idsV L.v, i ∈ L.T
  idT : ∀ t ∈ L.lk, ∀ u, F t = some u → ∀ i ∈ idsV u, i ∈ L.T
  loc : ∀ (fr : Tr (V D.S)) (hp : Tr (B D.S)), (∀ t ∈ L.lk, fr.get t = F t) → (∀ i ∈ L.U, hp.get i = h i) → ∃ fr' hp', (∀ k2 : Tr (V D.S) → Tr (B D.S) → Option R, op1K D H ops o fr hp k2 = k2 fr' hp') ∧ fr'.get = nF o.dst L.v L.δ.ks fr.get ∧ hp'.get = nH L.δ.ks L.δ.us hp.get
  lt : ∀ i ∈ L.T, i < 65535
  cl : L.an = false → ∀ i ∈ L.U, ∀ b, h i = some b → ∀ j ∈ idsB b, j ∈ L.T
  cA : L.an = false → ∀ i ∈ L.U, ∀ b, nH L.δ.ks L.δ.us h i = some b → ∀ j ∈ idsB b, j ∈ L.T
  tS : ∀ t, t ∉ L.tn → ∀ u, F t = some u → ∀ id ∈ L.δ.ks.map (·.1), id ∉ idsV u
  tB : ∀ i, i ∉ L.tb → ∀ b, h i = some b → ∀ id ∈ L.δ.ks.map (·.1), id ∉ idsB b
  oD : ∀ d, o.dst = some d → ∀ u, F d = some u → ∀ id ∈ idsV u, id ∈ L.od
theorem setF_out : ∀ {us : List (Nat × B D.S)} {h : HS D} {j : Nat}, j ∉ us.map (·.1) → setF us h j = h j
  | [], h, j, _ => rfl
  | (i, b) :: us, h, j, hj => by
    simp only [List.map_cons, List.mem_cons, not_or] at hj
    simp only [setF]
    rw [setF_out hj.2, if_neg hj.1]
theorem setF_congr : ∀ {us : List (Nat × B D.S)} {h h' : HS D} {j : Nat}, (j ∉ us.map (·.1) → h j = h' j) → setF us h j = setF us h' j
  | [], h, h', j, e => e (by simp)
  | (i, b) :: us, h, h', j, e => by
    simp only [setF]
    refine setF_congr fun hj => ?_
    by_cases hji : j = i
    · rw [if_pos hji, if_pos hji]
    · rw [if_neg hji, if_neg hji]
      exact e (by simp only [List.map_cons, List.mem_cons, not_or]; exact ⟨hji, hj⟩)
theorem nH_at {ks : KS D} {us : List (Nat × B D.S)} {h h' : HS D} {i : Nat} (e : h' i = h i) : nH ks us h' i = nH ks us h i := by
  unfold nH
  exact setF_congr fun _ => by rw [e]
theorem RelF.to {H : HH D R} {ops : List Oper} {o : Oper} {L : Lx D} {F F' : FS D} {h h' : HS D} (r : RelF H ops o L F h) (hF : ∀ t ∈ L.lk, F' t = F t) (hh : ∀ i ∈ L.U, h' i = h i)
    (tS : ∀ t, t ∉ L.tn → ∀ u, F' t = some u → ∀ id ∈ L.δ.ks.map (·.1), id ∉ idsV u) (tB : ∀ i, i ∉ L.tb → ∀ b, h' i = some b → ∀ id ∈ L.δ.ks.map (·.1), id ∉ idsB b) (oD : ∀ d, o.dst = some d → ∀ u, F' d = some u → ∀ id ∈ idsV u, id ∈ L.od) : RelF H ops o L F' h' :=
  ⟨r.aff, r.ut, r.e0, r.k0, r.nm, r.vT, fun t ht u hu => r.idT t ht u (by rw [← hF t ht]; exact hu), fun fr hp h1 h2 => r.loc fr hp (fun t ht => (h1 t ht).trans (hF t ht)) fun i hi => (h2 i hi).trans (hh i hi), r.lt, fun ha i hi b hb => r.cl ha i hi b ((hh i hi).symm.trans hb), fun ha i hi b hb => r.cA ha i hi b ((nH_at (hh i hi)).symm.trans hb), tS, tB, oD⟩
structure Com (o o' : Oper) (L L' : Lx D) : Prop where
  d1 : ∀ d, o.dst = some d → d ∉ L'.lk
  d2 : ∀ d, o'.dst = some d → d ∉ L.lk
  d3 : ∀ d, o.dst = some d → o'.dst ≠ some d
  t : (L.eff || L'.eff) = true → ∀ i ∈ L.U, i ∉ L'.U
  k1 : L.kl = true → (∀ i ∈ L.U, i ∉ L'.T) ∧ (∀ t ∈ L'.lk, t ∉ L.tn) ∧ (∀ i ∈ L'.U, i ∉ L.tb) ∧ (∀ d, o'.dst = some d → d ∉ L.tn) ∧ L'.kl = false ∧ L'.an = false
  k2 : L'.kl = true → (∀ i ∈ L'.U, i ∉ L.T) ∧ L.an = false ∧ (∀ i ∈ L'.U, i ∉ L.od) ∧ L.kl = false
theorem mapL_nm {id : Nat} {f : C D.S → C D.S} (n : Nm id f) : ∀ {cs : List (C D.S)}, (id ∉ idsL cs → cs.map f = cs) ∧ ∀ i ∈ idsL (cs.map f), i ∈ idsL cs
  | [] => ⟨fun _ => rfl, fun i h => h⟩
  | c :: cs => by
    obtain ⟨h1, h2⟩ := mapL_nm n (cs := cs)
    simp only [List.map_cons, idsL, appN_eq, List.mem_append, not_or]
    exact ⟨fun h => by rw [(n c).1 h.1, h1 h.2], fun i hi => hi.imp ((n c).2 i) (h2 i)⟩
theorem mapA_nm {id : Nat} {f : C D.S → C D.S} (n : Nm id f) (x : A D.S) : (id ∉ idsL x.cells → mapA f x = x) ∧ ∀ i ∈ idsL (mapA f x).cells, i ∈ idsL x.cells := by
  cases x with
  | c c =>
    simp only [A.cells, mapA, idsL, appN_eq, List.append_nil]
    exact ⟨fun h => by rw [(n c).1 h], (n c).2⟩
  | agg cs => exact ⟨fun h => by simp only [mapA]; rw [(mapL_nm n (cs := cs)).1 h], (mapL_nm n (cs := cs)).2⟩
theorem mapAs_nm {id : Nat} {f : C D.S → C D.S} (n : Nm id f) : ∀ (l : List (A D.S)), (id ∉ idsAs l → l.map (mapA f) = l) ∧ ∀ i ∈ idsAs (l.map (mapA f)), i ∈ idsAs l
  | [] => ⟨fun _ => rfl, fun i h => h⟩
  | x :: l => by
    obtain ⟨h1, h2⟩ := mapAs_nm n l
    obtain ⟨g1, g2⟩ := mapA_nm n x
    simp only [List.map_cons, idsAs, appN_eq, List.mem_append, not_or]
    exact ⟨fun h => by rw [g1 h.1, h1 h.2], fun i hi => hi.imp (g2 i) (h2 i)⟩
theorem mapV_nm {id : Nat} {f : C D.S → C D.S} (n : Nm id f) (v : V D.S) : (id ∉ idsV v → mapV f v = v) ∧ ∀ i ∈ idsV (mapV f v), i ∈ idsV v := by
  cases v with
  | a x => exact ⟨fun h => by simp only [mapV]; rw [(mapA_nm n x).1 h], (mapA_nm n x).2⟩
  | tup l => exact ⟨fun h => by simp only [mapV]; rw [(mapAs_nm n l).1 h], (mapAs_nm n l).2⟩
theorem mapB_nm {id : Nat} {f : C D.S → C D.S} (n : Nm id f) (b : B D.S) : (id ∉ idsB b → mapB f b = b) ∧ ∀ i ∈ idsB (mapB f b), i ∈ idsB b := by
  cases b with
  | box cs => exact ⟨fun h => by simp only [mapB]; rw [(mapL_nm n (cs := cs)).1 h], (mapL_nm n (cs := cs)).2⟩
  | arr t l => exact ⟨fun _ => rfl, fun i hi => hi⟩
theorem kV_nm : ∀ {ks : KS D}, (∀ x ∈ ks, Nm x.1 x.2) → ∀ (v : V D.S), ((∀ id ∈ ks.map (·.1), id ∉ idsV v) → kV ks v = v) ∧ ∀ i ∈ idsV (kV ks v), i ∈ idsV v
  | [], _, v => ⟨fun _ => rfl, fun i h => h⟩
  | (id, f) :: ks, hn, v => by
    have n := hn (id, f) List.mem_cons_self
    obtain ⟨g1, g2⟩ := mapV_nm n v
    have ih := kV_nm (ks := ks) (fun x hx => hn x (List.mem_cons_of_mem _ hx)) (mapV f v)
    simp only [kV]
    refine ⟨fun h => ?_, fun i hi => g2 i (ih.2 i hi)⟩
    have e := g1 (h id List.mem_cons_self)
    rw [ih.1 (fun j hj hm => h j (List.mem_cons_of_mem _ hj) (g2 j hm)), e]
theorem kB_nm : ∀ {ks : KS D}, (∀ x ∈ ks, Nm x.1 x.2) → ∀ (b : B D.S), (∀ id ∈ ks.map (·.1), id ∉ idsB b) → kB ks b = b
  | [], _, b, _ => rfl
  | (id, f) :: ks, hn, b, h => by
    have n := hn (id, f) List.mem_cons_self
    obtain ⟨g1, g2⟩ := mapB_nm n b
    simp only [kB]
    rw [kB_nm (ks := ks) (fun x hx => hn x (List.mem_cons_of_mem _ hx)) _ (fun j hj hm => h j (List.mem_cons_of_mem _ hj) (g2 j hm)), g1 (h id List.mem_cons_self)]
theorem mkB (z : Option (B D.S)) : z.map (kB []) = z := by cases z <;> rfl
theorem mkV (z : Option (V D.S)) : z.map (kV []) = z := by cases z <;> rfl
theorem nH_out {L : Lx D} {h : HS D} {i : Nat} (hk : L.δ.ks = []) (hi : i ∉ L.δ.aff) : nH L.δ.ks L.δ.us h i = h i := by
  unfold nH
  simp only [Dl.aff, hk, List.map_nil, List.nil_append] at hi
  rw [setF_out hi, hk]
  simp [mkB]
theorem nH_map {L : Lx D} {h : HS D} {i : Nat} (hi : i ∉ L.δ.aff) : nH L.δ.ks L.δ.us h i = (h i).map (kB L.δ.ks) := by
  unfold nH
  simp only [Dl.aff, List.mem_append, not_or] at hi
  rw [setF_out hi.2, if_neg hi.1]
theorem nH_triv {h : HS D} : nH [] [] h = h := by
  funext j; simp [nH, setF, mkB]
theorem nF_out {dst : Option Tmp} {v : V D.S} {F : FS D} {t : Nat} (h : dst ≠ some t) : nF dst v [] F t = F t := by
  simp [nF, h, mkV]
/-- The second may stand first, the first second; and the state is the same. -/
theorem swap {H : HH D R} {ops : List Oper} {o o' : Oper} {L L' : Lx D} {F : FS D} {h : HS D} (c : Com o o' L L') (r : RelF H ops o L F h) (r' : RelF H ops o' L' (nF o.dst L.v L.δ.ks F) (nH L.δ.ks L.δ.us h)) :
    RelF H ops o' L' F h ∧ RelF H ops o L (nF o'.dst L'.v L'.δ.ks F) (nH L'.δ.ks L'.δ.us h) ∧
      nF o'.dst L'.v L'.δ.ks (nF o.dst L.v L.δ.ks F) = nF o.dst L.v L.δ.ks (nF o'.dst L'.v L'.δ.ks F) ∧ nH L'.δ.ks L'.δ.us (nH L.δ.ks L.δ.us h) = nH L.δ.ks L.δ.us (nH L'.δ.ks L'.δ.us h) := by
  have kU : ∀ id ∈ L.δ.ks.map (·.1), id ∈ L.U := fun id h => r.aff id (by simp only [Dl.aff]; exact List.mem_append_left _ h)
  have kU' : ∀ id ∈ L'.δ.ks.map (·.1), id ∈ L'.U := fun id h => r'.aff id (by simp only [Dl.aff]; exact List.mem_append_left _ h)
  have kl_of : ∀ id ∈ L.δ.ks.map (·.1), L.kl = true := fun id hid => by
    cases hk : L.kl with
    | true => rfl
    | false => rw [r.k0 hk] at hid; cases hid
  have kl_of' : ∀ id ∈ L'.δ.ks.map (·.1), L'.kl = true := fun id hid => by
    cases hk : L'.kl with
    | true => rfl
    | false => rw [r'.k0 hk] at hid; cases hid
  -- slots that are not turned by the first
  have nt : ∀ t, o.dst ≠ some t → t ∉ L.tn → F t = nF o.dst L.v L.δ.ks F t := fun t hd ht => by
    simp only [nF, if_neg hd]
    cases hu : F t with
    | none => rfl
    | some u => rw [Option.map_some, (kV_nm r.nm u).1 (r.tS t ht u hu)]
  have a1 : ∀ t ∈ L'.lk, F t = nF o.dst L.v L.δ.ks F t := fun t ht => by
    have hd : o.dst ≠ some t := fun e => c.d1 t e ht
    by_cases hk : L.kl = true
    · exact nt t hd ((c.k1 hk).2.1 t ht)
    · rw [r.k0 (by simpa using hk), nF_out hd]
  have a2 : ∀ t ∈ L.lk, nF o'.dst L'.v L'.δ.ks F t = F t := fun t ht => by
    have hd : o'.dst ≠ some t := fun e => c.d2 t e ht
    simp only [nF, if_neg hd]
    cases hu : F t with
    | none => rfl
    | some u =>
      rw [Option.map_some, (kV_nm r'.nm u).1 fun id hid hm => ?_]
      exact (c.k2 (kl_of' id hid)).1 id (kU' id hid) (r.idT t ht u hu id hm)
  have b1 : ∀ i ∈ L'.U, h i = nH L.δ.ks L.δ.us h i := fun i hi => by
    by_cases hk : L.kl = true
    · obtain ⟨hT, _, hB, _, _, _⟩ := c.k1 hk
      rw [nH_map fun hm => hT i (r.aff i hm) (r'.ut i hi)]
      cases hb : h i with
      | none => rfl
      | some b => rw [Option.map_some, kB_nm r.nm b (r.tB i (hB i hi) b hb)]
    · have hk0 := r.k0 (by simpa using hk)
      by_cases he : L.eff = true
      · exact (nH_out hk0 fun ha => c.t (by rw [he]; rfl) i (r.aff i ha) hi).symm
      · obtain ⟨e1, e2⟩ := r.e0 (by simpa using he)
        rw [e1, e2, nH_triv]
  have b2 : ∀ i ∈ L.U, nH L'.δ.ks L'.δ.us h i = h i := fun i hi => by
    by_cases hk : L'.kl = true
    · obtain ⟨hT, ha, _⟩ := c.k2 hk
      rw [nH_map fun hm => hT i (r'.aff i hm) (r.ut i hi)]
      cases hb : h i with
      | none => rfl
      | some b =>
        rw [Option.map_some, kB_nm r'.nm b fun id hid hm => ?_]
        exact hT id (kU' id hid) (r.cl ha i hi b hb id hm)
    · have hk0 := r'.k0 (by simpa using hk)
      by_cases he : L'.eff = true
      · exact nH_out hk0 fun ha => c.t (by rw [he]; simp) i hi (r'.aff i ha)
      · obtain ⟨e1, e2⟩ := r'.e0 (by simpa using he)
        rw [e1, e2, nH_triv]
  have q1 : RelF H ops o' L' F h := r'.to a1 b1 (fun t ht u hu id hid => by
      obtain ⟨_, _, hod, he⟩ := c.k2 (kl_of' id hid)
      by_cases hd : o.dst = some t
      · exact fun hm => hod id (kU' id hid) (r.oD t hd u hu id hm)
      · exact r'.tS t ht u (by rw [r.k0 he, nF_out hd]; exact hu) id hid) (fun i hi b hb id hid => by
      obtain ⟨hT, ha, _, he⟩ := c.k2 (kl_of' id hid)
      by_cases hu : i ∈ L.δ.us.map (·.1)
      · exact fun hm => hT id (kU' id hid) (r.cl ha i (r.aff i (by simp only [Dl.aff]; exact List.mem_append_right _ hu)) b hb id hm)
      · exact r'.tB i hi b (by rw [r.k0 he]; unfold nH; rw [setF_out hu]; simp only [List.map_nil, List.not_mem_nil, if_false, mkB]; exact hb) id hid) (fun d hd u hu id hid => by
      have hne : o.dst ≠ some d := fun e => c.d3 d e hd
      refine r'.oD d hd u ?_ id hid
      by_cases hk : L.kl = true
      · rw [← nt d hne ((c.k1 hk).2.2.2.1 d hd)]; exact hu
      · rw [r.k0 (by simpa using hk), nF_out hne]; exact hu)
  have q2 : RelF H ops o L (nF o'.dst L'.v L'.δ.ks F) (nH L'.δ.ks L'.δ.us h) := r.to a2 b2 (fun t ht u hu id hid => by
      obtain ⟨hT, _, _, _, he, _⟩ := c.k1 (kl_of id hid)
      by_cases hd : o'.dst = some t
      · simp only [nF, if_pos hd] at hu
        obtain rfl := Option.some.inj hu
        exact fun hm => hT id (kU id hid) (r'.vT id hm)
      · rw [r'.k0 he, nF_out hd] at hu
        exact r.tS t ht u hu id hid) (fun i hi b hb id hid => by
      obtain ⟨hT, _, _, _, he, ha⟩ := c.k1 (kl_of id hid)
      by_cases hu : i ∈ L'.δ.us.map (·.1)
      · exact fun hm => hT id (kU id hid) (q1.cA ha i (r'.aff i (by simp only [Dl.aff]; exact List.mem_append_right _ hu)) b hb id hm)
      · rw [r'.k0 he] at hb
        unfold nH at hb
        rw [setF_out hu] at hb
        simp only [List.map_nil, List.not_mem_nil, if_false, mkB] at hb
        exact r.tB i hi b hb id hid) (fun d hd u hu id hid => by
      have hne : o'.dst ≠ some d := fun e => c.d3 d hd e
      simp only [nF, if_neg hne] at hu
      obtain ⟨u0, h0, h1⟩ := Option.map_eq_some_iff.mp hu
      rw [← h1] at hid
      exact r.oD d hd u0 h0 id ((kV_nm r'.nm u0).2 id hid))
  -- one takes blocks away, the other one sets blocks
  have one : ∀ {L1 L2 : Lx D} {o2 : Oper} (ks1 : L1.δ.ks = [] → False) (z : L2.δ.ks = []) (n1 : ∀ x ∈ L1.δ.ks, Nm x.1 x.2) (d1 : ∀ i ∈ L1.δ.aff, i ∉ L2.δ.us.map (·.1)) (cA : ∀ i ∈ L2.δ.us.map (·.1), ∀ b, nH L2.δ.ks L2.δ.us h i = some b → ∀ id ∈ L1.δ.ks.map (·.1), id ∉ idsB b),
      nH L2.δ.ks L2.δ.us (nH L1.δ.ks L1.δ.us h) = nH L1.δ.ks L1.δ.us (nH L2.δ.ks L2.δ.us h) := fun {L1 L2 o2} _ z n1 d1 cA => by
    funext j
    by_cases hj : j ∈ L2.δ.us.map (·.1)
    · have na : j ∉ L1.δ.aff := fun hm => d1 j hm hj
      rw [nH_map na, z]
      have e : nH [] L2.δ.us (nH L1.δ.ks L1.δ.us h) j = nH L2.δ.ks L2.δ.us h j := by
        rw [z]; unfold nH; exact setF_congr fun hn => absurd hj hn
      rw [e, ← z]
      cases hb : nH L2.δ.ks L2.δ.us h j with
      | none => rfl
      | some b => rw [Option.map_some, kB_nm n1 b (cA j hj b hb)]
    · have e : nH L2.δ.ks L2.δ.us h j = h j := by rw [z]; unfold nH; rw [setF_out hj]; simp [mkB]
      rw [nH_at e, z]
      unfold nH
      rw [setF_out hj]; simp [mkB]
  refine ⟨q1, q2, ?_, ?_⟩
  · funext t
    simp only [nF]
    have v1 : kV L.δ.ks L'.v = L'.v := (kV_nm r.nm _).1 fun id hid hm => (c.k1 (kl_of id hid)).1 id (kU id hid) (r'.vT id hm)
    have v2 : kV L'.δ.ks L.v = L.v := (kV_nm r'.nm _).1 fun id hid hm => (c.k2 (kl_of' id hid)).1 id (kU' id hid) (r.vT id hm)
    by_cases e1 : o.dst = some t
    · have e2 := c.d3 t e1
      simp [e1, e2, v2]
    · by_cases e2 : o'.dst = some t
      · simp [e1, e2, v1]
      · simp only [e1, e2, if_false]
        by_cases hk : L.kl = true
        · obtain ⟨_, _, _, _, he, _⟩ := c.k1 hk
          rw [r'.k0 he]
          simp only [mkV]
        · rw [r.k0 (by simpa using hk)]
          simp only [mkV]
  · by_cases hkl : L.δ.ks = []
    · by_cases hkl' : L'.δ.ks = []
      · -- none goes
        by_cases he : (L.eff || L'.eff) = true
        · have dj : ∀ i ∈ L.δ.us.map (·.1), i ∉ L'.δ.us.map (·.1) := fun i h1 h2 => c.t he i (r.aff i (by simp [Dl.aff, hkl] at h1 ⊢; exact h1)) (r'.aff i (by simp [Dl.aff, hkl'] at h2 ⊢; exact h2))
          funext j
          simp only [nH, hkl, hkl']
          by_cases hj : j ∈ L.δ.us.map (·.1)
          · rw [setF_out (dj j hj)]
            simp only [List.map_nil, List.not_mem_nil, if_false, mkB]
            exact setF_congr fun hn => absurd hj hn
          · rw [setF_out (us := L.δ.us) hj]
            simp only [List.map_nil, List.not_mem_nil, if_false, mkB]
            exact setF_congr fun _ => setF_out hj
        · simp only [Bool.or_eq_true, not_or, Bool.not_eq_true] at he
          obtain ⟨e1, e2⟩ := r.e0 he.1
          rw [e1, e2, nH_triv, nH_triv]
      · have hk : L'.kl = true := by
          cases hk : L'.kl with
          | true => rfl
          | false => exact absurd (r'.k0 hk) hkl'
        obtain ⟨hT, ha, _, _⟩ := c.k2 hk
        exact (one (L1 := L') (L2 := L) (o2 := o) hkl' hkl r'.nm (fun i hm hu => hT i (r'.aff i hm) (r.ut i (r.aff i (by simp only [Dl.aff]; exact List.mem_append_right _ hu)))) (fun i hu b hb id hid hm => hT id (kU' id hid) (r.cA ha i (r.aff i (by simp only [Dl.aff]; exact List.mem_append_right _ hu)) b hb id hm))).symm
    · have hk : L.kl = true := by
        cases hk : L.kl with
        | true => rfl
        | false => exact absurd (r.k0 hk) hkl
      obtain ⟨hT, _, _, _, he, ha⟩ := c.k1 hk
      exact one (L1 := L) (L2 := L') (o2 := o') hkl (r'.k0 he) r.nm (fun i hm hu => hT i (r.aff i hm) (r'.ut i (r'.aff i (by simp only [Dl.aff]; exact List.mem_append_right _ hu)))) (fun i hu b hb id hid hm => hT id (kU id hid) (q1.cA ha i (r'.aff i (by simp only [Dl.aff]; exact List.mem_append_right _ hu)) b hb id hm))
end
end Go.Proofs.Ytkpjeihgigmnkaa.Ev
/- Values without memory: a region whose order is left open: it is run in the order of its text, and what each operation looks at and turns is listed. -/
namespace Go.Proofs.Ytkpjeihgigmnkaa.Ev
open Go
set_option linter.unusedVariables false
set_option linter.unusedSimpArgs false
section
variable {D : Tys} {R : Type} {H : HH D R} {ops : List Oper} {o : Oper} {fr : Tr (V D.S)} {hp : Tr (B D.S)} {r : R}
theorem allLt_mem : ∀ {l : List Nat}, allLt l = true → ∀ i ∈ l, i < 65535
  | x :: l, h, i, hi => by
    simp only [allLt] at h
    split at h
    · rename_i hx
      rcases List.mem_cons.mp hi with e | hi
      · subst e; exact Nat.le_of_ble_eq_true hx
      · exact allLt_mem h i hi
    · cases h
theorem freeAll_at : ∀ {l : List Nat}, freeAll D hp l = true → ∀ i ∈ l, hp.get i = none
  | x :: l, h, i, hi => by
    simp only [freeAll] at h
    split at h
    · rename_i hx
      rcases List.mem_cons.mp hi with e | hi
      · subst e; exact hx
      · exact freeAll_at h i hi
    · cases h
theorem kF_get : ∀ (ks : KS D) (fr : Tr (V D.S)) (t : Nat), (kF ks fr).get t = (fr.get t).map (kV ks)
  | [], fr, t => (mkV _).symm
  | (_, f) :: l, fr, t => by
    simp only [kF]
    rw [kF_get l, Tr.get_map, Option.map_map]
    rfl
theorem kH_get : ∀ (ks : KS D) (hp : Tr (B D.S)) (t : Nat), (∀ i ∈ ks.map (·.1), i < 65535) → (kH ks hp).get t = if t ∈ ks.map (·.1) then none else (hp.get t).map (kB ks)
  | [], hp, t, _ => by simp only [kH, List.map_nil, List.not_mem_nil, if_false]; exact (mkB _).symm
  | (id, f) :: l, hp, t, h => by
    have hid : id < 65535 := h id List.mem_cons_self
    simp only [kH]
    rw [kH_get l _ _ fun i hi => h i (List.mem_cons_of_mem _ hi), Tr.get_map, Tr.get_set _ _ _ _ _ (by rw [depth_ok]; omega)]
    simp only [List.map_cons, List.mem_cons]
    by_cases e1 : t = id
    · rw [if_pos e1, if_pos (Or.inl e1)]; split <;> rfl
    · rw [if_neg e1]
      by_cases e2 : t ∈ l.map (·.1)
      · rw [if_pos e2, if_pos (Or.inr e2)]
      · rw [if_neg e2, if_neg (fun h => h.elim e1 e2), Option.map_map]; rfl
theorem get_put {dst : Option Tmp} (hd : ∀ d, dst = some d → d < 65535) (v : V D.S) (ks : KS D) (us : List (Nat × B D.S)) (fr : Tr (V D.S)) :
    (match dst with | some d => (Dl.F (⟨ks, us⟩ : Dl D) fr).set depth d (some v) | none => Dl.F (⟨ks, us⟩ : Dl D) fr).get = nF dst v ks fr.get := by
  have hF : ∀ t, (Dl.F (⟨ks, us⟩ : Dl D) fr).get t = (fr.get t).map (kV ks) := fun t => by
    exact kF_get ks fr t
  funext t
  cases dst with
  | none => simp [nF, hF]
  | some d =>
    simp only [nF]
    rw [Tr.get_set _ _ _ _ _ (by rw [depth_ok]; exact Nat.succ_lt_succ (hd d rfl)), hF]
    by_cases e : t = d
    · subst e; simp
    · rw [if_neg e, if_neg (fun h => e (Option.some.inj h).symm)]
theorem get_setAll : ∀ (us : List (Nat × B D.S)) (hp : Tr (B D.S)), (∀ i ∈ us.map (·.1), i < 65535) → (setAll us hp).get = setF us hp.get
  | [], hp, _ => rfl
  | (i, b) :: us, hp, h => by
    simp only [setAll, setF]
    rw [get_setAll us _ fun j hj => h j (by simp at hj ⊢; exact .inr hj)]
    congr 1
    funext j
    rw [Tr.get_set _ _ _ _ _ (by rw [depth_ok]; have := h i (by simp); omega)]
theorem get_H (δ : Dl D) (hp : Tr (B D.S)) (h : ∀ i ∈ δ.aff, i < 65535) : (δ.H hp).get = nH δ.ks δ.us hp.get := by
  unfold Dl.H nH
  rw [get_setAll _ _ fun i hi => h i (by unfold Dl.aff; exact List.mem_append_right _ hi)]
  congr 1
  funext j
  exact kH_get δ.ks hp j fun i hi => h i (by unfold Dl.aff; exact List.mem_append_left _ hi)
theorem idsV_slot {t : Nat} {u : V D.S} (hu : fr.get t = some u) {op : Op} (ht : t ∈ slotsL op.operands.toList) : ∀ i ∈ idsV u, i ∈ tch op fr hp := fun i hi => by
  have : ∀ l : List Operand, t ∈ slotsL l → Operand.tmp t ∈ l := fun l => by
    induction l with
    | nil => intro h; cases h
    | cons x l ih =>
      intro h
      cases x with
      | tmp t' =>
        simp only [slotsL] at h
        rcases List.mem_cons.mp h with e | h
        · subst e; exact List.mem_cons_self
        · exact List.mem_cons_of_mem _ (ih h)
      | _ => exact List.mem_cons_of_mem _ (ih h)
  exact tch_op (x := .tmp t) (this _ ht) hu i hi
theorem idsO_slot {t : Nat} {u : V D.S} (hu : fr.get t = some u) {op : Op} (ht : t ∈ slotsL op.operands.toList) : ∀ i ∈ idsV u, i ∈ tchO fr hp op.operands.toList := fun i hi => by
  have : ∀ l : List Operand, t ∈ slotsL l → Operand.tmp t ∈ l := fun l => by
    induction l with
    | nil => intro h; cases h
    | cons x l ih =>
      intro h
      cases x with
      | tmp t' =>
        simp only [slotsL] at h
        rcases List.mem_cons.mp h with e | h
        · subst e; exact List.mem_cons_self
        · exact List.mem_cons_of_mem _ (ih h)
      | _ => exact List.mem_cons_of_mem _ (ih h)
  exact tchO_mem (x := .tmp t) hu (this _ ht) i hi
theorem get_put0 {dst : Option Tmp} (hd : ∀ d, dst = some d → d < 65535) (v : V D.S) (fr : Tr (V D.S)) :
    (match dst with | some d => fr.set depth d (some v) | none => fr).get = nF dst v [] fr.get := get_put (D := D) hd v [] [] fr
theorem od_at {dst : Option Tmp} : ∀ d, dst = some d → ∀ u, fr.get d = some u → ∀ id ∈ idsV u, id ∈ odO D dst fr := fun d hd u hu id hid => by
  subst hd
  unfold odO
  simp only
  rw [hu]
  exact hid
theorem od_same {dst : Option Tmp} {fr2 : Tr (V D.S)} (h : fr2.get = fr.get) : odO D dst fr2 = odO D dst fr := by
  unfold odO
  cases dst with
  | none => rfl
  | some d => simp only; rw [h]
theorem mapN_mem {f : Nat → Nat} : ∀ {l : List Nat} {i : Nat}, i ∈ l → f i ∈ mapN f l
  | j :: l, i, h => by
    simp only [mapN]
    rcases List.mem_cons.mp h with rfl | h
    · exact List.mem_cons_self
    · exact List.mem_cons_of_mem _ (mapN_mem h)
theorem namT_at {α : Type} {p : α → Bool} : ∀ {t : Tr α} {n : Nat} {u : α}, t.get n = some u → p u = true → n ∈ namT p t
  | .lf, n, u, h, _ => by simp [Tr.get] at h
  | .nd v l r, n, u, h, hp => by
    rw [Tr.get_nd] at h
    simp only [namT, appN_eq, List.mem_append]
    split at h
    · rename_i e
      subst e; subst h
      left
      simp only [hp]
      exact List.mem_singleton.mpr rfl
    · split at h
      · rename_i e
        have := mapN_mem (f := fun n => 2 * n + 1) (namT_at h hp)
        rw [show 2 * (n / 2) + 1 = n by omega] at this
        exact .inr (.inl this)
      · rename_i e
        have := mapN_mem (f := fun n => 2 * n + 2) (namT_at h hp)
        rw [show 2 * (n / 2 - 1) + 2 = n by omega] at this
        exact .inr (.inr this)
theorem meets_of {l : List Nat} : ∀ {m : List Nat} {i : Nat}, i ∈ l → i ∈ m → meets l m = true
  | j :: m, i, h1, h2 => by
    simp only [meets]
    split
    · rfl
    · rename_i hn
      rcases List.mem_cons.mp h2 with rfl | h2
      · rw [List.elem_eq_contains, List.contains_iff_mem.mpr h1] at hn; cases hn
      · exact meets_of h1 h2
theorem tnO_at {kid : List Nat} {t : Nat} (ht : t ∉ tnO D kid fr) {u : V D.S} (hu : fr.get t = some u) : ∀ id ∈ kid, id ∉ idsV u := fun id hid hm => by
  cases kid with
  | nil => cases hid
  | cons i l => exact ht (namT_at hu (meets_of hid hm))
theorem tbO_at {kid : List Nat} {t : Nat} (ht : t ∉ tbO D kid hp) {b : B D.S} (hu : hp.get t = some b) : ∀ id ∈ kid, id ∉ idsB b := fun id hid hm => by
  cases kid with
  | nil => cases hid
  | cons i l => exact ht (namT_at hu (meets_of hid hm))
theorem allIn_at {T : List Nat} : ∀ {l : List Nat}, allIn T l = true → ∀ i ∈ l, i ∈ T
  | [], _, i, h => by cases h
  | j :: l, h, i, hi => by
    simp only [allIn] at h
    split at h
    · rename_i hj
      rcases List.mem_cons.mp hi with rfl | hi
      · rw [List.elem_eq_contains, List.contains_iff_mem] at hj; exact hj
      · exact allIn_at h i hi
    · cases h
theorem clU_at {T : List Nat} : ∀ {l : List Nat}, clU D hp T l = true → ∀ i ∈ l, ∀ b, hp.get i = some b → ∀ j ∈ idsB b, j ∈ T
  | [], _, i, h => by cases h
  | j :: l, h, i, hi => by
    intro b hb
    simp only [clU] at h
    split at h
    · rename_i hn
      rcases List.mem_cons.mp hi with rfl | hi
      · rw [hn] at hb; cases hb
      · exact clU_at h i hi b hb
    · rename_i b' hb'
      split at h
      · rename_i hc
        rcases List.mem_cons.mp hi with rfl | hi
        · rw [hb'] at hb
          obtain rfl := Option.some.inj hb
          exact allIn_at hc
        · exact clU_at h i hi b hb
      · cases h
/-- An operation that is done: what is found of it. 'gs': the guard's slot; op1K gives what opK gives. -/
theorem exK_rel (hH : HNat H) (hkey : ∀ i b, hp.get i = some b → i < 65535) (hd : ∀ d, o.dst = some d → d < 65535) {gs : List Nat} (hgs : ∀ t ∈ gs, ∃ b, fr.get t = some (cV (.bool b)))
    (hop : ∀ fr2 hp2, (∀ t ∈ gs, fr2.get t = fr.get t) → ∃ fr3 : Tr (V D.S), fr3.get = fr2.get ∧ ∀ k2 : Tr (V D.S) → Tr (B D.S) → Option R, op1K D H ops o fr2 hp2 k2 = opK D H o.op (o.dst.getD 999) fr3 hp2 fun v fr hp => putK D o.dst v fr fun fr => k2 fr hp) {k : KL D R}
    (h : exK D H o gs fr hp k = some r) : ∃ L fr' hp', k L.lk L.T L.U L.eff L.an L.kl L.tn L.tb L.od fr' hp' = some r ∧ RelF H ops o L fr.get hp.get ∧ fr'.get = nF o.dst L.v L.δ.ks fr.get ∧ hp'.get = nH L.δ.ks L.δ.us hp.get := by
  unfold exK at h
  split at h
  · cases h
  · rename_i hc
    rw [Bool.and_eq_true] at hc
    have hnew : ∀ i ∈ nwT D fr o.op (o.dst.getD 999), hp.get i = none := freeAll_at hc.2
    cases hmv : movOp o.op with
    | true =>
      obtain ⟨v, h1, h6⟩ := mov_loc hmv h
      simp only [putK_set] at h1
      split at h1
      · rename_i hlt
        have hU : tchU o.op fr hp (appN (nwT D fr o.op (o.dst.getD 999)) (appN (tchT o.op fr hp) (idsV v))) = [] := by unfold tchU; rw [hmv]
        rw [hU] at h1
        refine ⟨⟨_, _, [], _, _, _, v, δ0, _, _, _⟩, _, _, h1, ⟨fun i hi => by simp [δ0, Dl.aff] at hi, fun i hi => (by cases hi), fun _ => ⟨rfl, rfl⟩, fun _ => rfl, fun x hx => (by cases hx), fun i hi => ?_, fun t ht u hu i hi => ?_, fun fr2 hp2 g1 g2 => ?_, fun i hi => allLt_mem hlt i hi, fun _ i hi => (by cases hi), fun _ i hi => (by cases hi), fun t _ u _ id hid => (by cases hid), fun i _ b _ id hid => (by cases hid), od_at⟩, get_put0 hd v fr, nH_triv.symm⟩
        · simp only [appN_eq, List.mem_append]; exact .inr (.inr hi)
        · simp only [appN_eq, List.mem_append] at ht ⊢
          rcases ht with ht | ht
          · obtain ⟨b, hb⟩ := hgs t ht
            rw [hb] at hu
            obtain rfl := Option.some.inj hu
            simp [cV, idsV, A.cells, idsL, idsC, appN_eq] at hi
          · exact .inr (.inl (by unfold tchT; rw [hmv]; exact idsO_slot hu ht i hi))
        · simp only [appN_eq, List.mem_append] at g1
          obtain ⟨fr3, q1, q2⟩ := hop fr2 hp2 fun t ht => g1 t (.inl ht)
          have e := h6 fr3 hp2 (fun t ht => (congrFun q1 t).trans (g1 t (.inr ht)))
          refine ⟨_, _, fun k2 => by rw [q2, e, putK_set], ?_, nH_triv.symm⟩
          exact (get_put0 hd v fr3).trans (by rw [q1]; rfl)
      · cases h1
    | false =>
    cases hld : ldOp o.op with
    | true =>
      obtain ⟨t, p, ho⟩ : ∃ t p, o.op = .load t p := by
        generalize o.op = op at hld
        cases op <;> first | exact ⟨_, _, rfl⟩ | (simp [ldOp] at hld)
      have hTT : tchT o.op fr hp = tch o.op fr hp := by unfold tchT; rw [hmv]
      have hU : ∀ T, tchU o.op fr hp T = tchO fr hp o.op.operands.toList := fun T => by unfold tchU; rw [hmv]; simp only; rw [hld]
      have h0 : ∃ v, (putK D o.dst v fr fun fr' => match allLt (appN (nwT D fr o.op (o.dst.getD 999)) (appN (tchT o.op fr hp) (idsV v))) with
          | true => k (appN gs (slotsL o.op.operands.toList)) (appN (nwT D fr o.op (o.dst.getD 999)) (appN (tchT o.op fr hp) (idsV v))) (tchU o.op fr hp (appN (nwT D fr o.op (o.dst.getD 999)) (appN (tchT o.op fr hp) (idsV v)))) (effO D fr hp o.op) (!(clU D hp (appN (nwT D fr o.op (o.dst.getD 999)) (appN (tchT o.op fr hp) (idsV v))) (tchU o.op fr hp (appN (nwT D fr o.op (o.dst.getD 999)) (appN (tchT o.op fr hp) (idsV v)))) && clU D hp (appN (nwT D fr o.op (o.dst.getD 999)) (appN (tchT o.op fr hp) (idsV v))) (tchU o.op fr hp (appN (nwT D fr o.op (o.dst.getD 999)) (appN (tchT o.op fr hp) (idsV v)))))) (killO o.op || frzO D fr hp o.op) (tnO D (kidO D fr hp o.op) fr) (tbO D (kidO D fr hp o.op) hp) (odO D o.dst fr) fr' hp
          | false => none) = some r ∧ ∀ fr2 hp2, AgF (slotsL o.op.operands.toList) fr fr2 → AgH (tchO fr hp o.op.operands.toList) hp hp2 → ∀ k2, opK D H o.op (o.dst.getD 999) fr2 hp2 k2 = k2 v fr2 hp2 := by
        rw [ho] at h ⊢
        obtain ⟨v, q1, q2⟩ := ld_loc h
        exact ⟨v, q1, q2⟩
      obtain ⟨v, h1, h6⟩ := h0
      simp only [hU, hTT] at h1
      simp only [putK_set] at h1
      split at h1
      · rename_i hlt
        have hUT : ∀ i ∈ tchO fr hp o.op.operands.toList, i ∈ appN (nwT D fr o.op (o.dst.getD 999)) (appN (tch o.op fr hp) (idsV v)) := fun i hi => by
          simp only [appN_eq, List.mem_append]
          refine .inr (.inl ?_)
          unfold tch; rw [appN_eq]; exact List.mem_append_left _ hi
        refine ⟨⟨_, _, _, _, _, _, v, δ0, _, _, _⟩, _, _, h1, ⟨fun i hi => by simp [δ0, Dl.aff] at hi, hUT, fun _ => ⟨rfl, rfl⟩, fun _ => rfl, fun x hx => (by cases hx), fun i hi => ?_, fun t ht u hu i hi => ?_, fun fr2 hp2 g1 g2 => ?_, fun i hi => allLt_mem hlt i hi, fun ha i hi b hb => clU_at ((Bool.and_eq_true _ _).mp ((Bool.not_eq_false' _).mp ha)).1 i hi b hb, fun ha i hi b hb => clU_at ((Bool.and_eq_true _ _).mp ((Bool.not_eq_false' _).mp ha)).1 i hi b (by rw [← hb]; exact congrFun nH_triv.symm i), fun t _ u _ id hid => (by cases hid), fun i _ b _ id hid => (by cases hid), od_at⟩, get_put0 hd v fr, nH_triv.symm⟩
        · simp only [appN_eq, List.mem_append]; exact .inr (.inr hi)
        · simp only [appN_eq, List.mem_append] at ht ⊢
          rcases ht with ht | ht
          · obtain ⟨b, hb⟩ := hgs t ht
            rw [hb] at hu
            obtain rfl := Option.some.inj hu
            simp [cV, idsV, A.cells, idsL, idsC, appN_eq] at hi
          · exact .inr (.inl (idsV_slot hu ht i hi))
        · simp only [appN_eq, List.mem_append] at g1
          obtain ⟨fr3, q1, q2⟩ := hop fr2 hp2 fun t ht => g1 t (.inl ht)
          have e := h6 fr3 hp2 (fun t ht => (congrFun q1 t).trans (g1 t (.inr ht))) (fun i hi => g2 i hi)
          refine ⟨_, _, fun k2 => by rw [q2, e, putK_set], ?_, nH_triv.symm⟩
          exact (get_put0 hd v fr3).trans (by rw [q1]; rfl)
      · cases h1
    | false =>
    obtain ⟨v, δ, h1, h2, h3, h4, h4z, h5, h6⟩ := opK_loc hH hkey hc.1 hnew h
    have hU : ∀ T, tchU o.op fr hp T = T := fun T => by unfold tchU; rw [hmv]; simp only; rw [hld]
    have hTT : tchT o.op fr hp = tch o.op fr hp := by unfold tchT; rw [hmv]
    simp only [hU, hTT] at h1
    simp only [putK_set] at h1
    split at h1
    · rename_i hlt
      have hT : ∀ i ∈ δ.aff, i ∈ appN (nwT D fr o.op (o.dst.getD 999)) (appN (tch o.op fr hp) (idsV v)) := fun i hi => by
        rw [appN_eq, appN_eq]
        have heff : effO D fr hp o.op = true := by
          cases he : effO D fr hp o.op with
          | true => rfl
          | false => obtain ⟨e1, e2⟩ := h3 he; simp [Dl.aff, e1, e2] at hi
        rcases h2 i hi with e | e
        · exact List.mem_append_left _ e
        · exact List.mem_append_right _ (List.mem_append_left _ e)
      have hlt' : ∀ i ∈ δ.aff, i < 65535 := fun i hi => allLt_mem hlt i (hT i hi)
      have hks : ∀ id ∈ δ.ks.map (·.1), id ∈ kidO D fr hp o.op := fun id hid => by
        obtain ⟨x, hx, rfl⟩ := List.mem_map.mp hid
        exact (h4z x hx).1
      refine ⟨⟨_, _, _, _, _, _, v, δ, _, _, _⟩, _, _, h1, ⟨hT, fun i hi => hi, h3, h4, fun x hx => (h4z x hx).2, fun i hi => ?_, fun t ht u hu i hi => ?_, fun fr2 hp2 g1 g2 => ?_, fun i hi => allLt_mem hlt i hi, fun ha i hi b hb => clU_at ((Bool.and_eq_true _ _).mp ((Bool.not_eq_false' _).mp ha)).1 i hi b hb, fun ha i hi b hb => clU_at ((Bool.and_eq_true _ _).mp ((Bool.not_eq_false' _).mp ha)).2 i hi b (by rw [get_H δ hp hlt']; exact hb), fun t ht u hu id hid => tnO_at ht hu id (hks id hid), fun i hi b hb id hid => tbO_at hi hb id (hks id hid), od_at⟩, get_put hd v δ.ks δ.us fr, get_H δ hp hlt'⟩
      · simp only [appN_eq, List.mem_append]; exact .inr (.inr hi)
      · simp only [appN_eq, List.mem_append] at ht ⊢
        rcases ht with ht | ht
        · obtain ⟨b, hb⟩ := hgs t ht
          rw [hb] at hu
          obtain rfl := Option.some.inj hu
          simp [cV, idsV, idsAs, A.cells, idsL, idsC, appN_eq] at hi
        · exact .inr (.inl (idsV_slot hu ht i hi))
      · simp only [appN_eq, List.mem_append] at g1 g2
        obtain ⟨fr3, q1, q2⟩ := hop fr2 hp2 fun t ht => g1 t (.inl ht)
        have hnew2 : ∀ i ∈ nwT D fr o.op (o.dst.getD 999), hp2.get i = none := fun i hi => (g2 _ (.inl hi)).trans (hnew i hi)
        have e := h6 fr3 hp2 (fun t ht => (congrFun q1 t).trans (g1 t (.inr ht))) (fun i hi => g2 i (.inr (.inl hi))) hnew2
        refine ⟨_, _, fun k2 => by rw [q2, e, putK_set], ?_, get_H δ hp2 hlt'⟩
        exact (get_put hd v δ.ks δ.us fr3).trans (by rw [q1])
    · cases h1
theorem skB_bool {j d : Nat} {w b : Bool} {o' : Oper} {fr2 : Tr (V D.S)} (hg : o.guard = some (j, w)) (h1 : ops[j]? = some o') (h2 : o'.dst = some d) (h3 : fr2.get d = some (cV (.bool b))) : skB D ops o fr2 = none := by
  obtain ⟨dst, op, ty, pos, aft, gd⟩ := o'
  simp only at h2
  subst h2
  have h3' : fr2.get d = some (.a (.c (.bool b))) := h3
  unfold skB
  rw [hg]
  simp only
  rw [h1]
  simp only
  rw [h3']
theorem skB_free {fr2 : Tr (V D.S)} (hg : o.guard = none) : skB D ops o fr2 = none := by
  unfold skB; rw [hg]
theorem skB_tup {j d : Nat} {w : Bool} {o' : Oper} {fr2 : Tr (V D.S)} (hg : o.guard = some (j, w)) (h1 : ops[j]? = some o') (h2 : o'.dst = some d) (h3 : fr2.get d = some (.tup [])) : skB D ops o fr2 = some d := by
  obtain ⟨dst, op, ty, pos, aft, gd⟩ := o'
  simp only at h2
  subst h2
  unfold skB
  rw [hg]
  simp only
  rw [h1]
  simp only
  rw [h3]
theorem yieldK_at {j d : Nat} {o' : Oper} {b : Bool} {fr2 : Tr (V D.S)} (h1 : ops[j]? = some o') (h2 : o'.dst = some d) (h3 : fr2.get d = some (cV (.bool b))) (k2 : Nat → Bool → Option R) : yieldK D ops j fr2 k2 = k2 d b := by
  obtain ⟨dst, op, ty, pos, aft, gd⟩ := o'
  simp only at h2
  subst h2
  have h3' : fr2.get d = some (.a (.c (.bool b))) := h3
  unfold yieldK
  rw [h1]
  simp only
  rw [h3']
theorem get_same {d : Nat} {v : V D.S} (h : fr.get d = some v) (hd : d < 65535) : (fr.set depth d (some v)).get = fr.get := by
  funext t
  rw [Tr.get_set _ _ _ _ _ (by rw [depth_ok]; omega)]
  by_cases e : t = d
  · subst e; rw [if_pos rfl, h]
  · rw [if_neg e]
theorem skip_rel (hds : ∀ o ∈ ops, ∀ d, o.dst = some d → d < 65535) (hd : ∀ d, o.dst = some d → d < 65535) {j d : Nat} {w b : Bool} {o' : Oper} (hg : o.guard = some (j, w)) (h1 : ops[j]? = some o') (h2 : o'.dst = some d) (hb : fr.get d = some (cV (.bool b))) (hw : b ≠ w) :
    RelF H ops o (⟨[d], [], [], false, false, false, .tup [], δ0, [], [], odO D o.dst fr⟩ : Lx D) fr.get hp.get := by
  have hdd : d < 65535 := hds o' (List.mem_of_getElem? h1) d h2
  refine ⟨fun i hi => by simp [δ0, Dl.aff] at hi, fun i hi => (by cases hi), fun _ => ⟨rfl, rfl⟩, fun _ => rfl, fun x hx => (by cases hx), fun i hi => by simp [cV, idsV, idsAs, A.cells, idsL, idsC, appN_eq] at hi, fun t ht u hu i hi => ?_, fun fr2 hp2 g1 g2 => ?_, fun i hi => (by cases hi), fun _ i hi => (by cases hi), fun _ i hi => (by cases hi), fun t _ u _ id hid => (by cases hid), fun i _ b _ id hid => (by cases hid), od_at⟩
  · simp only [List.mem_singleton] at ht; subst ht
    rw [hb] at hu
    obtain rfl := Option.some.inj hu
    simp [cV, idsV, idsAs, A.cells, idsL, idsC, appN_eq] at hi
  · have hb2 : fr2.get d = some (cV (.bool b)) := (g1 d List.mem_cons_self).trans hb
    refine ⟨_, hp2, fun k2 => ?_, (get_put0 hd (.tup []) (fr2.set depth d (some (cV (.bool b))))).trans (by rw [get_same hb2 hdd]; rfl), nH_triv.symm⟩
    unfold op1K
    rw [skB_bool hg h1 h2 hb2]
    simp only
    unfold op1K0
    rw [hg]
    cases w with
    | true =>
      simp only
      rw [yieldK_at h1 h2 hb2]
      cases b with
      | true => exact absurd rfl hw
      | false => simp only [bKK, putK_set, Tr.setK_eq] <;> rfl
    | false =>
      simp only
      rw [yieldK_at h1 h2 hb2]
      cases b with
      | true => simp only [bKK, putK_set, Tr.setK_eq] <;> rfl
      | false => exact absurd rfl hw
theorem skip2_rel (hds : ∀ o ∈ ops, ∀ d, o.dst = some d → d < 65535) (hd : ∀ d, o.dst = some d → d < 65535) {j d : Nat} {w : Bool} {o' : Oper} (hg : o.guard = some (j, w)) (h1 : ops[j]? = some o') (h2 : o'.dst = some d) (hb : fr.get d = some (.tup [])) :
    RelF H ops o (⟨[d], [], [], false, false, false, .tup [], δ0, [], [], odO D o.dst fr⟩ : Lx D) fr.get hp.get := by
  have hdd : d < 65535 := hds o' (List.mem_of_getElem? h1) d h2
  refine ⟨fun i hi => by simp [δ0, Dl.aff] at hi, fun i hi => (by cases hi), fun _ => ⟨rfl, rfl⟩, fun _ => rfl, fun x hx => (by cases hx), fun i hi => by simp [cV, idsV, idsAs, A.cells, idsL, idsC, appN_eq] at hi, fun t ht u hu i hi => ?_, fun fr2 hp2 g1 g2 => ?_, fun i hi => (by cases hi), fun _ i hi => (by cases hi), fun _ i hi => (by cases hi), fun t _ u _ id hid => (by cases hid), fun i _ b _ id hid => (by cases hid), od_at⟩
  · simp only [List.mem_singleton] at ht; subst ht
    rw [hb] at hu
    obtain rfl := Option.some.inj hu
    simp [cV, idsV, idsAs, A.cells, idsL, idsC, appN_eq] at hi
  · have hb2 : fr2.get d = some (.tup []) := (g1 d List.mem_cons_self).trans hb
    refine ⟨_, hp2, fun k2 => ?_, (get_put0 hd (.tup []) fr2), nH_triv.symm⟩
    unfold op1K
    rw [skB_tup hg h1 h2 hb2]
    simp only [putK_set] <;> rfl
theorem dr1K0_rel (hH : HNat H) (hkey : ∀ i b, hp.get i = some b → i < 65535) (hds : ∀ o ∈ ops, ∀ d, o.dst = some d → d < 65535) (hd : ∀ d, o.dst = some d → d < 65535) {k : KL D R} (h : dr1K0 D H ops o fr hp k = some r) :
    ∃ L fr' hp', k L.lk L.T L.U L.eff L.an L.kl L.tn L.tb L.od fr' hp' = some r ∧ RelF H ops o L fr.get hp.get ∧ fr'.get = nF o.dst L.v L.δ.ks fr.get ∧ hp'.get = nH L.δ.ks L.δ.us hp.get := by
  unfold dr1K0 at h
  split at h
  · rename_i hg
    exact exK_rel hH hkey hd (fun t ht => by cases ht) (fun fr2 hp2 _ => ⟨fr2, rfl, fun k2 => by unfold op1K; rw [skB_free hg]; simp only; unfold op1K0; rw [hg]⟩) h
  · rename_i j hg
    obtain ⟨o', d, b, h1, h2, h3, h4⟩ := yieldK_some h
    have h3 : fr.get d = some (cV (.bool b)) := h3
    have hdd : d < 65535 := hds o' (List.mem_of_getElem? h1) d h2
    rcases bKK_nat h4 with ⟨rfl, h5⟩ | ⟨rfl, h5⟩
    · rw [Tr.setK_eq] at h5
      have hs := get_same h3 hdd
      obtain ⟨L, fr', hp', q1, q2, q3, q4⟩ := exK_rel (ops := ops) hH hkey hd (gs := [d]) (fun t ht => by
        simp only [List.mem_singleton] at ht; subst ht; exact ⟨true, by rw [hs]; exact h3⟩) (fun fr2 hp2 hag => by
          have hb2 : fr2.get d = some (cV (.bool true)) := (hag d List.mem_cons_self).trans (by rw [hs]; exact h3)
          exact ⟨_, get_same hb2 hdd, fun k2 => by unfold op1K; rw [skB_bool hg h1 h2 hb2]; simp only; unfold op1K0; rw [hg]; simp only; rw [yieldK_at h1 h2 hb2]; simp only [bKK, Tr.setK_eq]⟩) h5
      rw [hs] at q2 q3
      exact ⟨L, fr', hp', q1, q2, q3, q4⟩
    · simp only [Tr.setK_eq, putK_set] at h5
      exact ⟨⟨[d], [], [], false, false, false, .tup [], δ0, [], [], odO D o.dst fr⟩, _, hp, by rw [← od_same (get_same h3 hdd)]; exact h5, skip_rel hds hd hg h1 h2 h3 (by decide), (get_put0 hd _ _).trans (by rw [get_same h3 hdd]; rfl), nH_triv.symm⟩
  · rename_i j hg
    obtain ⟨o', d, b, h1, h2, h3, h4⟩ := yieldK_some h
    have h3 : fr.get d = some (cV (.bool b)) := h3
    have hdd : d < 65535 := hds o' (List.mem_of_getElem? h1) d h2
    rcases bKK_nat h4 with ⟨rfl, h5⟩ | ⟨rfl, h5⟩
    · simp only [Tr.setK_eq, putK_set] at h5
      exact ⟨⟨[d], [], [], false, false, false, .tup [], δ0, [], [], odO D o.dst fr⟩, _, hp, by rw [← od_same (get_same h3 hdd)]; exact h5, skip_rel hds hd hg h1 h2 h3 (by decide), (get_put0 hd _ _).trans (by rw [get_same h3 hdd]; rfl), nH_triv.symm⟩
    · rw [Tr.setK_eq] at h5
      have hs := get_same h3 hdd
      obtain ⟨L, fr', hp', q1, q2, q3, q4⟩ := exK_rel (ops := ops) hH hkey hd (gs := [d]) (fun t ht => by
        simp only [List.mem_singleton] at ht; subst ht; exact ⟨false, by rw [hs]; exact h3⟩) (fun fr2 hp2 hag => by
          have hb2 : fr2.get d = some (cV (.bool false)) := (hag d List.mem_cons_self).trans (by rw [hs]; exact h3)
          exact ⟨_, get_same hb2 hdd, fun k2 => by unfold op1K; rw [skB_bool hg h1 h2 hb2]; simp only; unfold op1K0; rw [hg]; simp only; rw [yieldK_at h1 h2 hb2]; simp only [bKK, Tr.setK_eq]⟩) h5
      rw [hs] at q2 q3
      exact ⟨L, fr', hp', q1, q2, q3, q4⟩
theorem dr1K_rel (hH : HNat H) (hkey : ∀ i b, hp.get i = some b → i < 65535) (hds : ∀ o ∈ ops, ∀ d, o.dst = some d → d < 65535) (hd : ∀ d, o.dst = some d → d < 65535) {k : KL D R} (h : dr1K D H ops o fr hp k = some r) :
    ∃ L fr' hp', k L.lk L.T L.U L.eff L.an L.kl L.tn L.tb L.od fr' hp' = some r ∧ RelF H ops o L fr.get hp.get ∧ fr'.get = nF o.dst L.v L.δ.ks fr.get ∧ hp'.get = nH L.δ.ks L.δ.us hp.get := by
  unfold dr1K at h
  split at h
  · rename_i d hsk
    obtain ⟨j, w, o', hg, h1, h2, h3⟩ := skB_some hsk
    rw [putK_set] at h
    exact ⟨⟨[d], [], [], false, false, false, .tup [], δ0, [], [], odO D o.dst fr⟩, _, hp, h, skip2_rel hds hd hg h1 h2 h3, get_put0 hd _ _, nH_triv.symm⟩
  · exact dr1K0_rel hH hkey hds hd h
end
end Go.Proofs.Ytkpjeihgigmnkaa.Ev
/- Values without memory: a region whose order is left open: every order gives what the order of the text gives. -/
namespace Go.Proofs.Ytkpjeihgigmnkaa.Ev
open Go
set_option linter.unusedVariables false
set_option linter.unusedSimpArgs false
section
variable {D : Tys} {R : Type} {H : HH D R} {ops : List Oper} {r : R}
inductive Reach (ops : List Oper) : Nat → Nat → Prop
  | one {i : Nat} {o : Oper} {e : Edge} (ho : ops[i]? = some o) (he : e ∈ o.after.toList) (hb : Region.binds .any e = true) : Reach ops i e.on
  | more {i j : Nat} {o : Oper} {e : Edge} (ho : ops[i]? = some o) (he : e ∈ o.after.toList) (hb : Region.binds .any e = true) (h : Reach ops e.on j) : Reach ops i j
abbrev En3 (D : Tys) := Nat × Oper × Lx D
def toLg (x : En3 D) : Lg := ⟨x.1, x.2.1.dst, x.2.2.lk, x.2.2.T, x.2.2.U, x.2.2.eff, x.2.2.an, x.2.2.kl, x.2.2.tn, x.2.2.tb, x.2.2.od⟩
def Com3 (x y : En3 D) : Prop := Com x.2.1 y.2.1 x.2.2 y.2.2
def Val (H : HH D R) (ops : List Oper) : List (En3 D) → FS D → HS D → Prop
  | [], _, _ => True
  | (i, o, L) :: l, F, h => RelF H ops o L F h ∧ Val H ops l (nF o.dst L.v L.δ.ks F) (nH L.δ.ks L.δ.us h)
def fin : List (En3 D) → FS D → HS D → FS D × HS D
  | [], F, h => (F, h)
  | (_, o, L) :: l, F, h => fin l (nF o.dst L.v L.δ.ks F) (nH L.δ.ks L.δ.us h)
theorem comB_ok {x y : En3 D} (h : comB (toLg x) (toLg y) = true) : Com3 x y := by
  have nI : ∀ (d : Option Tmp) (l : List Nat), notIn d l = true → ∀ e, d = some e → e ∉ l := fun d l hn e he hm => by
    subst he
    simp only [notIn] at hn
    rw [List.elem_eq_contains, List.contains_iff_mem.mpr hm] at hn
    cases hn
  have dj : ∀ (l m : List Nat), disj l m = true → ∀ i ∈ l, i ∉ m := fun l => by
    induction l with
    | nil => intro m _ i hi; cases hi
    | cons x l ih =>
      intro m hm i hi hc
      simp only [disj] at hm
      split at hm
      · cases hm
      · rename_i hx
        rcases List.mem_cons.mp hi with e | hi
        · subst e
          rw [List.elem_eq_contains, List.contains_iff_mem.mpr hc] at hx; cases hx
        · exact ih m hm i hi hc
  simp only [comB, Bool.and_eq_true] at h
  obtain ⟨h1, h2, h3, h4, h5, h6⟩ := h
  refine ⟨nI _ _ h1, nI _ _ h2, fun d hd hd' => ?_, fun he i hi => ?_, fun hk => ?_, fun hk => ?_⟩
  · have e1 : (toLg x).dst = some d := hd
    have e2 : (toLg y).dst = some d := hd'
    rw [e1, e2] at h3
    simp [neD] at h3
  · have he' : ((toLg x).eff || (toLg y).eff) = true := he
    rw [he'] at h4
    have h4' : disj (toLg x).U (toLg y).U = true := by simpa using h4
    exact dj _ _ h4' i hi
  · have hk' : (toLg x).kl = true := hk
    rw [hk'] at h5
    have h5 : k1B (toLg x) (toLg y) = true := by simpa using h5
    simp only [k1B, toLg, Bool.and_eq_true, Bool.not_eq_true'] at h5
    exact ⟨dj _ _ h5.1, dj _ _ h5.2.1, dj _ _ h5.2.2.1, nI _ _ h5.2.2.2.1, h5.2.2.2.2.1, h5.2.2.2.2.2⟩
  · have hk' : (toLg y).kl = true := hk
    rw [hk'] at h6
    have h6 : k2B (toLg x) (toLg y) = true := by simpa using h6
    simp only [k2B, toLg, Bool.and_eq_true, Bool.not_eq_true'] at h6
    exact ⟨dj _ _ h6.1, h6.2.1, dj _ _ h6.2.2.1, h6.2.2.2⟩
theorem chk_ok {m : Nat} {y : En3 D} {zs : List (En3 D)} (h : chk m (zs.map toLg) (toLg y) = true) : ∀ z ∈ zs, Nat.testBit m z.1 = true ∨ Com3 z y := by
  induction zs with
  | nil => intro z hz; cases hz
  | cons x l ih =>
    intro z hz
    rw [List.map_cons] at h
    unfold chk at h
    cases hx : (Nat.testBit m (toLg x).i || comB (toLg x) (toLg y)) with
    | false => rw [hx] at h; cases h
    | true =>
      rw [hx] at h
      rcases List.mem_cons.mp hz with e | hz
      · subst e
        rw [Bool.or_eq_true] at hx
        exact hx.imp id comB_ok
      · exact ih h z hz
theorem ancOf_ok {i : Nat} {o : Oper} (ho : ops[i]? = some o) {ms : List Nat} (hms : ∀ q m, ms[q]? = some m → ∀ j, Nat.testBit m j = true → Reach ops q j) : ∀ {l : List Edge} {m : Nat}, (∀ e ∈ l, e ∈ o.after.toList) → ancOf ms l = some m →
    (∀ j, Nat.testBit m j = true → Reach ops i j) ∧ ∀ e ∈ l, Region.binds .any e = true → e.on < ms.length
  | [], m, hl, h => by
    simp only [ancOf, Option.some.injEq] at h
    subst h
    exact ⟨fun j hj => by simp at hj, fun e he => by cases he⟩
  | e :: l, m, hl, h => by
    simp only [ancOf] at h
    split at h
    · rename_i hb
      obtain ⟨h1, h2⟩ := ancOf_ok ho hms (fun e he => hl e (List.mem_cons_of_mem _ he)) h
      refine ⟨h1, fun e' he' hb' => ?_⟩
      rcases List.mem_cons.mp he' with e1 | he'
      · subst e1; rw [hb] at hb'; cases hb'
      · exact h2 e' he' hb'
    · rename_i hb
      split at h
      · rename_i m1 n1 hm1 hn1
        obtain rfl := Option.some.inj h
        obtain ⟨h1, h2⟩ := ancOf_ok ho hms (fun e he => hl e (List.mem_cons_of_mem _ he)) hn1
        refine ⟨fun j hj => ?_, fun e' he' hb' => ?_⟩
        · rw [Nat.testBit_or, Nat.testBit_or, Bool.or_eq_true, Bool.or_eq_true, Nat.testBit_two_pow] at hj
          rcases hj with hj | hj | hj
          · exact .more ho (hl e List.mem_cons_self) hb (hms _ _ hm1 j hj)
          · have := of_decide_eq_true hj
            subst this
            exact .one ho (hl e List.mem_cons_self) hb
          · exact h1 j hj
        · rcases List.mem_cons.mp he' with e1 | he'
          · subst e1; exact (List.getElem?_eq_some_iff.mp hm1).1
          · exact h2 e' he' hb'
      · cases h
theorem nH_lt {L : Lx D} {h : HS D} (hl : ∀ i ∈ L.δ.aff, i < 65535) (hh : ∀ j b, h j = some b → j < 65535) : ∀ j b, nH L.δ.ks L.δ.us h j = some b → j < 65535 := by
  intro j b hj
  by_cases e : j ∈ L.δ.us.map (·.1)
  · exact hl j (by unfold Dl.aff; exact List.mem_append_right _ e)
  · unfold nH at hj
    rw [setF_out e] at hj
    split at hj
    · cases hj
    · obtain ⟨b0, h0, _⟩ := Option.map_eq_some_iff.mp hj
      exact hh j b0 h0
theorem drawK_rel (hH : HNat H) (hds : ∀ o ∈ ops, ∀ d, o.dst = some d → d < 65535) {k : Tr (V D.S) → Tr (B D.S) → Option R} :
    ∀ (n i : Nat) (ms : List Nat) (zs : List (En3 D)) (fr : Tr (V D.S)) (hp : Tr (B D.S)), i + n = ops.length → ms.length = i → (∀ q m, ms[q]? = some m → ∀ j, Nat.testBit m j = true → Reach ops q j) → (∀ j b, hp.get j = some b → j < 65535) →
      drawK D H ops (ops.drop i) i ms (zs.map toLg) fr hp k = some r →
      ∃ xs fr' hp', xs.map (·.1) = List.range' i n ∧ (∀ x ∈ xs, ops[x.1]? = some x.2.1 ∧ ∀ e ∈ x.2.1.after.toList, Region.binds .any e = true → e.on < x.1) ∧ Val H ops xs fr.get hp.get ∧ xs.Pairwise (fun x y => Reach ops y.1 x.1 ∨ Com3 x y) ∧
        (∀ x ∈ xs, ∀ z ∈ zs, Reach ops x.1 z.1 ∨ Com3 z x) ∧ k fr' hp' = some r ∧ (fr'.get, hp'.get) = fin xs fr.get hp.get
  | 0, i, ms, zs, fr, hp, hi, hm, hms, hk, h => by
    rw [List.drop_of_length_le (by omega)] at h
    exact ⟨[], fr, hp, rfl, fun x hx => (by cases hx), trivial, List.Pairwise.nil, fun x hx => (by cases hx), h, rfl⟩
  | n + 1, i, ms, zs, fr, hp, hi, hm, hms, hk, h => by
    have hlt : i < ops.length := by omega
    rw [List.drop_eq_getElem_cons hlt] at h
    have ho : ops[i]? = some ops[i] := List.getElem?_eq_getElem hlt
    unfold drawK at h
    split at h
    · cases h
    · rename_i m hanc
      obtain ⟨a1, a2⟩ := ancOf_ok ho hms (fun e he => he) hanc
      obtain ⟨L, fr1, hp1, h1, h2, h3, h4⟩ := dr1K_rel hH hk hds (hds _ (List.getElem_mem hlt)) h
      split at h1
      · rename_i hc
        have hc' : chk m (zs.map toLg) (toLg (i, ops[i], L)) = true := hc
        have hz := chk_ok hc'
        have hk1 : ∀ j b, hp1.get j = some b → j < 65535 := by
          rw [h4]; exact nH_lt (fun j hj => h2.lt j (h2.ut j (h2.aff j hj))) hk
        obtain ⟨xs, fr', hp', q1, q2, q3, q4, q5, q6, q7⟩ := drawK_rel hH hds n (i + 1) (ms ++ [m]) ((i, ops[i], L) :: zs) fr1 hp1 (by omega) (by simp [hm]) (fun q m' hq j hj => by
          rw [List.getElem?_append] at hq
          split at hq
          · exact hms q m' hq j hj
          · rename_i hq'
            rw [List.getElem?_singleton] at hq
            split at hq
            · rename_i hq0
              obtain rfl := Option.some.inj hq
              have : q = i := by omega
              subst this
              exact a1 j hj
            · cases hq) hk1 h1
        rw [h3, h4] at q3 q7
        refine ⟨(i, ops[i], L) :: xs, fr', hp', by rw [List.map_cons, q1, List.range'_succ], fun x hx => ?_, ⟨h2, q3⟩, .cons (fun x hx => q5 x hx _ List.mem_cons_self) q4, fun x hx z hz' => ?_, q6, q7⟩
        · rcases List.mem_cons.mp hx with e | hx
          · subst e; exact ⟨ho, fun e he hb => by have := a2 e he hb; simp only; omega⟩
          · exact q2 x hx
        · rcases List.mem_cons.mp hx with e | hx
          · subst e
            exact (hz z hz').imp (a1 _) id
          · exact q5 x hx z (List.mem_cons_of_mem _ hz')
      · cases h1
/-- One operation, put first. -/
theorem front {x : En3 D} {l2 : List (En3 D)} : ∀ {l1 : List (En3 D)} {F : FS D} {h : HS D}, Val H ops (l1 ++ x :: l2) F h → (∀ y ∈ l1, Com3 y x) → Val H ops (x :: (l1 ++ l2)) F h ∧ fin (x :: (l1 ++ l2)) F h = fin (l1 ++ x :: l2) F h
  | [], F, h, hv, _ => ⟨hv, rfl⟩
  | y :: l1, F, h, hv, hc => by
    obtain ⟨i, o, L⟩ := y
    obtain ⟨j, o', L'⟩ := x
    obtain ⟨r1, hv⟩ := hv
    obtain ⟨⟨r2, hv2⟩, hf⟩ := front (x := (j, o', L')) (l1 := l1) hv fun y hy => hc y (List.mem_cons_of_mem _ hy)
    obtain ⟨s1, s2, s3, s4⟩ := swap (hc (i, o, L) List.mem_cons_self) r1 r2
    rw [s3, s4] at hv2
    refine ⟨⟨s1, s2, hv2⟩, ?_⟩
    have hf' : fin (l1 ++ (j, o', L') :: l2) (nF o.dst L.v L.δ.ks F) (nH L.δ.ks L.δ.us h) = fin (l1 ++ l2) (nF o'.dst L'.v L'.δ.ks (nF o.dst L.v L.δ.ks F)) (nH L'.δ.ks L'.δ.us (nH L.δ.ks L.δ.us h)) := hf.symm
    show fin (l1 ++ l2) (nF o.dst L.v L.δ.ks (nF o'.dst L'.v L'.δ.ks F)) (nH L.δ.ks L.δ.us (nH L'.δ.ks L'.δ.us h)) = fin (l1 ++ (j, o', L') :: l2) (nF o.dst L.v L.δ.ks F) (nH L.δ.ks L.δ.us h)
    rw [hf', s3, s4]
end
section
variable {D : Tys} {P : Program} {R : Type} {H : HH D R} {K : Kx D}
theorem Sim.ext {β : Nat → Option Loc} {F : Nat → Prop} {fr fr2 : Tr (V D.S)} {hp hp2 : Tr (B D.S)} {a : Act} {w : World} (s : Sim K β F fr hp a w) (h1 : fr2.get = fr.get) (h2 : hp2.get = hp.get) : Sim K β F fr2 hp2 a w := by
  obtain ⟨q1, q2, q3, q4, q5, q6, q7, q8, q9, q10, q11, q12, q13⟩ := s
  rw [← h1, ← h2] at q3
  rw [← h2] at q4 q5 q6 q9 q12 q13
  exact ⟨q1, q2, q3, q4, q5, q6, q7, q8, q9, q10, q11, q12, q13⟩
theorem mem_ready {ops : Array Oper} {listed : Array Bool} {i : Nat} (h : i ∈ Region.ready .any ops listed) : i < ops.size ∧ listed[i]? = some false ∧ ∃ o, ops.toList[i]? = some o ∧ ∀ e ∈ o.after.toList, Region.binds .any e = true → listed[e.on]? = some true := by
  unfold Region.ready at h
  rw [List.mem_filter, List.mem_range, Bool.and_eq_true] at h
  obtain ⟨h1, h2, h3⟩ := h
  refine ⟨h1, ?_, ?_⟩
  · rw [Array.getD_eq_getD_getElem?] at h2
    cases hl : listed[i]? with
    | none => rw [hl] at h2; simp at h2
    | some b => rw [hl] at h2; simp at h2; rw [h2]
  · have ho : ops[i]? = some ops[i] := Array.getElem?_eq_getElem h1
    rw [ho] at h3
    simp only [Option.map_some, Option.getD_some] at h3
    refine ⟨ops[i], by rw [Array.getElem?_toList]; exact ho, fun e he hb => ?_⟩
    rw [← Array.all_toList, List.all_eq_true] at h3
    have := h3 e he
    rw [hb] at this
    simp only [Bool.not_true, Bool.false_or] at this
    rw [Array.getD_eq_getD_getElem?] at this
    cases hl : listed[e.on]? with
    | none => rw [hl] at this; simp at this
    | some b => rw [hl] at this; simp at this; rw [this]
theorem ready_of {ops : Array Oper} {listed : Array Bool} {i : Nat} {o : Oper} (h1 : i < ops.size) (h2 : listed[i]? = some false) (ho : ops.toList[i]? = some o) (h3 : ∀ e ∈ o.after.toList, Region.binds .any e = true → listed[e.on]? = some true) : i ∈ Region.ready .any ops listed := by
  unfold Region.ready
  rw [List.mem_filter, List.mem_range, Bool.and_eq_true]
  refine ⟨h1, ?_, ?_⟩
  · rw [Array.getD_eq_getD_getElem?, h2]; rfl
  · rw [Array.getElem?_toList] at ho
    rw [ho]
    simp only [Option.map_some, Option.getD_some]
    rw [← Array.all_toList, List.all_eq_true]
    intro e he
    cases hb : Region.binds .any e with
    | false => rfl
    | true =>
      have := h3 e he hb
      rw [Array.getD_eq_getD_getElem?, this]
      rfl
theorem reach_inv {ops : List Oper} {i j : Nat} (h : Reach ops i j) : ∃ (o : Oper) (e : Edge), ops[i]? = some o ∧ e ∈ o.after.toList ∧ Region.binds .any e = true ∧ (j = e.on ∨ Reach ops e.on j) := by
  cases h with
  | one ho he hb => exact ⟨_, _, ho, he, hb, .inl rfl⟩
  | more ho he hb h => exact ⟨_, _, ho, he, hb, .inr h⟩
theorem reach_listed {ops : List Oper} {listed : Array Bool} (hcl : ∀ (i : Nat) (o : Oper), listed[i]? = some true → ops[i]? = some o → ∀ e ∈ o.after.toList, Region.binds .any e = true → listed[e.on]? = some true) {i j : Nat} (h : Reach ops i j) :
    listed[i]? = some true → listed[j]? = some true := by
  induction h with
  | one ho he hb => intro hi; exact hcl _ _ hi ho _ he hb
  | more ho he hb h ih => intro hi; exact ih (hcl _ _ hi ho _ he hb)
theorem draw_wp (lw : Lawful D P) (hH : HOk D P H) {ops : Array Oper} (hds : ∀ o ∈ ops.toList, dstOk K.n o = true) {r : R} {Q : Exit → Act → World → Prop} {frN : FS D} {hpN : HS D}
    (hQ : ∀ fr' hp' β' F' a' w', (fr'.get, hp'.get) = (frN, hpN) → Sim K β' F' (D := D) fr' hp' a' w' → Q .normal a' w') :
    ∀ (fuel : Nat) (listed : Array Bool) (xs : List (En3 D)) (β : Nat → Option Loc) (F : Nat → Prop) (fr : Tr (V D.S)) (hp : Tr (B D.S)) (a : Act) (w : World), listed.size = ops.size →
      (∀ i, i < ops.size → (listed[i]? = some false ↔ i ∈ xs.map (·.1))) → (∀ x ∈ xs, x.1 < ops.size) → xs.length ≤ fuel → (xs.map (·.1)).Pairwise (· < ·) →
      (∀ x ∈ xs, ops.toList[x.1]? = some x.2.1 ∧ ∀ e ∈ x.2.1.after.toList, Region.binds .any e = true → e.on < x.1) →
      (∀ (i : Nat) (o : Oper), listed[i]? = some true → ops.toList[i]? = some o → ∀ e ∈ o.after.toList, Region.binds .any e = true → listed[e.on]? = some true) →
      Val H ops.toList xs fr.get hp.get → xs.Pairwise (fun x y => Reach ops.toList y.1 x.1 ∨ Com3 x y) → fin xs fr.get hp.get = (frN, hpN) → Sim K β F fr hp a w → wpAny P .any ops Q fuel listed a w := by
  intro fuel
  have none_ready : ∀ (listed : Array Bool) (xs : List (En3 D)), listed.size = ops.size → (∀ i, i < ops.size → (listed[i]? = some false ↔ i ∈ xs.map (·.1))) → xs = [] → Region.ready .any ops listed = [] := fun listed xs h1 h2 h3 => by
    rw [List.eq_nil_iff_forall_not_mem]
    intro i hi
    obtain ⟨g1, g2, _⟩ := mem_ready hi
    have := (h2 i g1).mp g2
    rw [h3] at this
    cases this
  have some_ready : ∀ (listed : Array Bool) (xs : List (En3 D)), listed.size = ops.size → (∀ i, i < ops.size → (listed[i]? = some false ↔ i ∈ xs.map (·.1))) → (∀ x ∈ xs, x.1 < ops.size) → (xs.map (·.1)).Pairwise (· < ·) →
      (∀ x ∈ xs, ops.toList[x.1]? = some x.2.1 ∧ ∀ e ∈ x.2.1.after.toList, Region.binds .any e = true → e.on < x.1) → Region.ready .any ops listed = [] → xs = [] := fun listed xs h1 h2 h3 h4 h5 h6 => by
    cases xs with
    | nil => rfl
    | cons x xs =>
      have hx := h3 x List.mem_cons_self
      obtain ⟨g1, g2⟩ := h5 x List.mem_cons_self
      have : x.1 ∈ Region.ready .any ops listed := ready_of hx ((h2 x.1 hx).mpr (by simp)) g1 fun e he hb => by
        have hlt := g2 e he hb
        have hes : e.on < ops.size := Nat.lt_trans hlt hx
        have hns : ¬ listed[e.on]? = some false := fun hf => by
          have := (h2 e.on hes).mp hf
          rw [List.map_cons] at this h4
          rcases List.mem_cons.mp this with e1 | e1
          · omega
          · have := List.rel_of_pairwise_cons h4 e1
            omega
        have hl : e.on < listed.size := by omega
        rw [Array.getElem?_eq_getElem hl] at hns ⊢
        cases hb' : listed[e.on] with
        | true => rfl
        | false => rw [hb'] at hns; exact absurd rfl hns
      rw [h6] at this
      cases this
  induction fuel with
  | zero =>
    intro listed xs β F fr hp a w h1 h2 h3 h4 h5 h6 h7 h8 h9 h10 s
    obtain rfl : xs = [] := List.length_eq_zero_iff.mp (Nat.le_zero.mp h4)
    exact ⟨none_ready listed [] h1 h2 rfl, hQ fr hp β F a w h10 s⟩
  | succ fuel ih =>
    intro listed xs β F fr hp a w h1 h2 h3 h4 h5 h6 h7 h8 h9 h10 s
    refine ⟨fun hr => ?_, fun i hi => ?_⟩
    · obtain rfl := some_ready listed xs h1 h2 h3 h5 h6 hr
      exact hQ fr hp β F a w h10 s
    · obtain ⟨g1, g2, o, g3, g4⟩ := mem_ready hi
      obtain ⟨x, hx, hxi⟩ := List.mem_map.mp ((h2 i g1).mp g2)
      obtain ⟨l1, l2, rfl⟩ := List.append_of_mem hx
      obtain ⟨j, o', L⟩ := x
      simp only at hxi
      subst hxi
      obtain ⟨k1, k2⟩ := h6 _ hx
      simp only at k1 k2
      rw [k1] at g3
      obtain rfl := Option.some.inj g3
      have hcom : ∀ y ∈ l1, Com3 y (j, o', L) := fun y hy => by
        have hp := (List.pairwise_append.mp h9).2.2 y hy (j, o', L) List.mem_cons_self
        rcases hp with hr | hc
        · have hyu : listed[y.1]? = some false := (h2 y.1 (h3 y (List.mem_append_left _ hy))).mpr (List.mem_map.mpr ⟨y, List.mem_append_left _ hy, rfl⟩)
          have hyt : listed[y.1]? = some true := by
            obtain ⟨o2, e, ho, he, hb, hr⟩ := reach_inv hr
            rw [k1] at ho
            obtain rfl := Option.some.inj ho
            rcases hr with hr | hr
            · rw [hr]; exact g4 _ he hb
            · exact reach_listed h7 hr (g4 _ he hb)
          rw [hyu] at hyt; cases hyt
        · exact hc
      obtain ⟨⟨q1, q2⟩, q3⟩ := front h8 hcom
      obtain ⟨fr', hp', q4, q5, q6⟩ := q1.loc fr hp (fun t _ => rfl) (fun t _ => rfl)
      have ho : ops[j]? = some o' := by rw [← Array.getElem?_toList]; exact k1
      have hmem : o' ∈ ops.toList := List.mem_of_getElem? k1
      classical
      obtain ⟨fr2, hp2, q7, q8⟩ := op1K_wp lw hH s (hds o' hmem) hds (k := fun x y => if x = fr' ∧ y = hp' then some r else none) (r := r) (by rw [q4]; simp)
      split at q7
      · rename_i hq
        obtain ⟨rfl, rfl⟩ := hq
        unfold wpOp
        rw [ho]
        simp only
        have hsz : (listed.setIfInBounds j true).size = ops.size := by rw [Array.size_setIfInBounds]; exact h1
        have hset : ∀ q, (listed.setIfInBounds j true)[q]? = if q = j then some true else listed[q]? := fun q => by
          rw [Array.getElem?_setIfInBounds]
          by_cases e : j = q
          · subst e; simp [h1, g1]
          · rw [if_neg e, if_neg (fun h => e h.symm)]
        have nodup : ∀ y ∈ l1 ++ l2, y.1 ≠ j := fun y hy e => by
          rw [List.map_append, List.map_cons] at h5
          obtain ⟨p1, p2, p3⟩ := List.pairwise_append.mp h5
          rcases List.mem_append.mp hy with hy | hy
          · have := p3 y.1 (List.mem_map_of_mem hy) j List.mem_cons_self
            omega
          · have := List.rel_of_pairwise_cons p2 (List.mem_map_of_mem (f := (·.1)) hy)
            omega
        have sub : (l1 ++ l2).Sublist (l1 ++ (j, o', L) :: l2) := (List.Sublist.refl l1).append (List.sublist_cons_self _ _)
        refine q8 _ _ fun β' F' a' w' s' => ih _ (l1 ++ l2) β' F' fr2 hp2 a' w' hsz (fun q hq => ?_) (fun y hy => h3 y (sub.subset hy)) (by simp at h4 ⊢; omega) (h5.sublist (sub.map _)) (fun y hy => h6 y (sub.subset hy)) (fun q oq hl hoq e he hb => ?_) (by rw [q5, q6]; exact q2) (h9.sublist sub) ?_ s'
        · rw [hset]
          by_cases e : q = j
          · subst e
            rw [if_pos rfl]
            refine ⟨fun h => (by cases h), fun h => ?_⟩
            obtain ⟨y, hy, hyq⟩ := List.mem_map.mp h
            exact absurd hyq (nodup y hy)
          · rw [if_neg e, h2 q hq]
            simp [e]
        · rw [hset]
          rw [hset] at hl
          by_cases e1 : e.on = j
          · rw [if_pos e1]
          · rw [if_neg e1]
            by_cases e2 : q = j
            · subst e2
              rw [k1] at hoq
              obtain rfl := Option.some.inj hoq
              exact g4 e he hb
            · rw [if_neg e2] at hl
              exact h7 q oq hl hoq e he hb
        · rw [q5, q6]
          exact q3.trans h10
      · cases q7
theorem draw_region (lw : Lawful D P) (hH : HOk D P H) (hN : HNat H) {ops : Array Oper} (hds : ∀ o ∈ ops.toList, dstOk K.n o = true) {r : R} {id : Nat} {Q : Exit → Act → World → Prop} {β : Nat → Option Loc} {F : Nat → Prop} {fr : Tr (V D.S)} {hp : Tr (B D.S)} {a : Act} {w : World}
    (s : Sim K β F fr hp a w) {k : Tr (V D.S) → Tr (B D.S) → Option R} (hQ : ∀ fr' hp' β' F' a' w', k fr' hp' = some r → Sim K β' F' fr' hp' a' w' → Q .normal a' w')
    (h : drawK D H ops.toList ops.toList 0 [] [] fr hp k = some r) : (Code.region id ops true).wp P Q a w := by
  have hlen : ops.toList.length = ops.size := Array.length_toList
  obtain ⟨xs, fr', hp', q1, q2, q3, q4, _, q6, q7⟩ := drawK_rel (ops := ops.toList) hN (fun o ho d hd => by
    have := hds o ho
    simp only [dstOk, hd, Bool.and_eq_true, decide_eq_true_eq] at this
    exact this.2) ops.size 0 [] [] fr hp (by omega) rfl (fun q m hm => by simp at hm) s.key h
  have s' : Sim K β F fr hp a { w with drawn := w.drawn + 1 } := s.grow (Nat.le_refl _) (fun _ _ => rfl) ⟨rfl, rfl, rfl⟩
  have hmem : ∀ i, i < ops.size → i ∈ xs.map (·.1) := fun i hi => by rw [q1, List.mem_range'_1]; omega
  refine wp_region_any lw.mixed (draw_wp (r := r) lw hH hds (frN := fr'.get) (hpN := hp'.get) (fun fr2 hp2 β' F' a' w' he s2 => ?_) ops.size _ xs β F fr hp a _ (by simp) (fun i hi => ?_) (fun x hx => ?_) ?_ ?_ q2 (fun i o hl => ?_) q3 q4 q7.symm s')
  · injection he with he1 he2
    exact hQ fr' hp' β' F' a' w' q6 (s2.ext he1.symm he2.symm)
  · exact ⟨fun _ => hmem i hi, fun _ => by simp [hi]⟩
  · have : x.1 ∈ xs.map (·.1) := List.mem_map_of_mem hx
    rw [q1, List.mem_range'_1] at this
    omega
  · have := congrArg List.length q1
    simp at this
    omega
  · rw [q1]; exact List.pairwise_lt_range'
  · rw [Array.getElem?_replicate] at hl
    split at hl <;> cases hl
end
end Go.Proofs.Ytkpjeihgigmnkaa.Ev
/- Values without memory: the code of a function, from one place that is named to the next. -/
namespace Go.Proofs.Ytkpjeihgigmnkaa.Ev
open Go
set_option linter.unusedVariables false
set_option linter.unusedSimpArgs false
section
variable {D : Tys} {P : Program}
variable {R : Type} {H : HH D R} {K : Kx D} {β : Nat → Option Loc} {F : Nat → Prop} {fr : Tr (V D.S)} {hp : Tr (B D.S)} {a : Act} {w : World} {r : R}
def er : It → Item
  | .code c _ => .code c
  | .inLoop c _ => .inLoop c
  | .inBlock id => .inBlock id
/-- The place p in a body: its code, and what follows. -/
inductive Place (body : Code) : Nat → Code → List It → Prop
  | root : Place body 1 body []
  | seqL {p a b t} (h : Place body p (.seq a b) t) : Place body (2 * p) a (.code b (2 * p + 1) :: t)
  | seqR {p a b t} (h : Place body p (.seq a b) t) : Place body (2 * p + 1) b t
  | condL {p c x y t} (h : Place body p (.cond c x y) t) : Place body (2 * p) x t
  | condR {p c x y t} (h : Place body p (.cond c x y) t) : Place body (2 * p + 1) y t
  | block {p id c t} (h : Place body p (.block id c) t) : Place body (2 * p) c (.inBlock id :: t)
  | loop {p c t} (h : Place body p (.loop c) t) : Place body (2 * p) c (.inLoop c p :: t)
theorem Place.pos {body : Code} {p : Nat} {c : Code} {t : List It} (h : Place body p c t) : 0 < p := by induction h <;> omega
inductive GoodT (body : Code) : List It → Prop
  | nil : GoodT body []
  | code {c p t} (h : Place body p c t) (g : GoodT body t) : GoodT body (.code c p :: t)
  | inLoop {c p t} (h : Place body (2 * p) c (.inLoop c p :: t)) (g : GoodT body t) : GoodT body (.inLoop c p :: t)
  | inBlock {id t} (g : GoodT body t) : GoodT body (.inBlock id :: t)
theorem Place.good {body : Code} {p : Nat} {c : Code} {t : List It} (h : Place body p c t) : GoodT body t := by
  induction h with
  | root => exact .nil
  | seqL h ih => exact .code (.seqR h) ih
  | seqR h ih => exact ih
  | condL h ih => exact ih
  | condR h ih => exact ih
  | block h ih => exact .inBlock ih
  | loop h ih => exact .inLoop (.loop h) ih
/-- Where a place lies. -/
def walk (body : Code) : Nat → Nat → Option (Code × List It)
  | 0, _ => none
  | f + 1, p => match Nat.beq p 1 with
    | true => some (body, [])
    | false => match walk body f (p / 2) with
      | some (.seq a b, t) => match Nat.beq (p % 2) 0 with | true => some (a, .code b (2 * (p / 2) + 1) :: t) | false => some (b, t)
      | some (.cond _ x y, t) => match Nat.beq (p % 2) 0 with | true => some (x, t) | false => some (y, t)
      | some (.block id c, t) => match Nat.beq (p % 2) 0 with | true => some (c, .inBlock id :: t) | false => none
      | some (.loop c, t) => match Nat.beq (p % 2) 0 with | true => some (c, .inLoop c (p / 2) :: t) | false => none
      | _ => none
theorem Place.walk {body : Code} {p : Nat} {c : Code} {t : List It} (h : Place body p c t) : ∀ f, p ≤ f → walk body f p = some (c, t) := by
  have ev : ∀ q : Nat, 0 < q → Nat.beq (2 * q) 1 = false ∧ 2 * q / 2 = q ∧ Nat.beq (2 * q % 2) 0 = true := fun q hq => by
    refine ⟨?_, by omega, by rw [show 2 * q % 2 = 0 by omega]; rfl⟩
    cases e : Nat.beq (2 * q) 1 with | false => rfl | true => have := Nat.eq_of_beq_eq_true e; omega
  have od : ∀ q : Nat, 0 < q → Nat.beq (2 * q + 1) 1 = false ∧ (2 * q + 1) / 2 = q ∧ Nat.beq ((2 * q + 1) % 2) 0 = false := fun q hq => by
    refine ⟨?_, by omega, by rw [show (2 * q + 1) % 2 = 1 by omega]; rfl⟩
    cases e : Nat.beq (2 * q + 1) 1 with | false => rfl | true => have := Nat.eq_of_beq_eq_true e; omega
  induction h with
  | root => intro f hf; obtain ⟨f, rfl⟩ : ∃ g, f = g + 1 := ⟨f - 1, by omega⟩; rfl
  | seqL h ih =>
    rename_i p _ _ _
    intro f hf
    have hp := h.pos
    obtain ⟨f, rfl⟩ : ∃ g, f = g + 1 := ⟨f - 1, by omega⟩
    obtain ⟨e1, e2, e3⟩ := ev p hp
    simp only [Ev.walk, e1, e2, e3, ih f (by omega)]
  | seqR h ih =>
    rename_i p _ _ _
    intro f hf
    have hp := h.pos
    obtain ⟨f, rfl⟩ : ∃ g, f = g + 1 := ⟨f - 1, by omega⟩
    obtain ⟨e1, e2, e3⟩ := od p hp
    simp only [Ev.walk, e1, e2, e3, ih f (by omega)]
  | condL h ih =>
    rename_i p _ _ _ _
    intro f hf
    have hp := h.pos
    obtain ⟨f, rfl⟩ : ∃ g, f = g + 1 := ⟨f - 1, by omega⟩
    obtain ⟨e1, e2, e3⟩ := ev p hp
    simp only [Ev.walk, e1, e2, e3, ih f (by omega)]
  | condR h ih =>
    rename_i p _ _ _ _
    intro f hf
    have hp := h.pos
    obtain ⟨f, rfl⟩ : ∃ g, f = g + 1 := ⟨f - 1, by omega⟩
    obtain ⟨e1, e2, e3⟩ := od p hp
    simp only [Ev.walk, e1, e2, e3, ih f (by omega)]
  | block h ih =>
    rename_i p _ _ _
    intro f hf
    have hp := h.pos
    obtain ⟨f, rfl⟩ : ∃ g, f = g + 1 := ⟨f - 1, by omega⟩
    obtain ⟨e1, e2, e3⟩ := ev p hp
    simp only [Ev.walk, e1, e2, e3, ih f (by omega)]
  | loop h ih =>
    rename_i p _ _
    intro f hf
    have hp := h.pos
    obtain ⟨f, rfl⟩ : ∃ g, f = g + 1 := ⟨f - 1, by omega⟩
    obtain ⟨e1, e2, e3⟩ := ev p hp
    simp only [Ev.walk, e1, e2, e3, ih f (by omega)]
theorem Place.uniq {body : Code} {p : Nat} {c c' : Code} {t t' : List It} (h : Place body p c t) (h' : Place body p c' t') : c = c' ∧ t = t' := by
  have e := (h.walk p (Nat.le_refl _)).symm.trans (h'.walk p (Nat.le_refl _))
  injection e with e
  injection e with e1 e2
  exact ⟨e1, e2⟩
def okC (n : Nat) : Code → Bool
  | .region _ ops _ => ops.toList.all (dstOk n)
  | .seq a b => okC n a && okC n b
  | .cond _ x y => okC n x && okC n y
  | .block _ c => okC n c
  | .loop c => okC n c
  | _ => true
theorem Place.ok {body : Code} {p : Nat} {c : Code} {t : List It} (h : Place body p c t) {n : Nat} (hb : okC n body = true) : okC n c = true := by
  induction h with
  | root => exact hb
  | seqL h ih => simp only [okC, Bool.and_eq_true] at ih; exact ih.1
  | seqR h ih => simp only [okC, Bool.and_eq_true] at ih; exact ih.2
  | condL h ih => simp only [okC, Bool.and_eq_true] at ih; exact ih.1
  | condR h ih => simp only [okC, Bool.and_eq_true] at ih; exact ih.2
  | block h ih => simpa [okC] using ih
  | loop h ih => simpa [okC] using ih
/-- From a state that is told, the code comes to its return, told as one that 'fin' takes. -/
def Comes' (P : Program) (K : Kx D) (todo : List It) (fr : Tr (V D.S)) (hp : Tr (B D.S)) (fin : Tr (V D.S) → Tr (B D.S) → Prop) : Prop :=
  ∀ (β : Nat → Option Loc) (F : Nat → Prop) (a : Act) (w : World), Sim K β F fr hp a w → ∀ (b : Frame) (cs : List Frame), ∃ fr' hp' β' F' a' w' todo', fin fr' hp' ∧ Sim K β' F' fr' hp' a' w' ∧
    Steps P (lone (b.at a (todo.map er)) cs w) (lone { b.at a' todo' with mode := .returning } cs w')
theorem exitTo_ok {body : Code} {id : Nat} : ∀ {t t' : List It}, exitTo id t = some t' → GoodT body t → GoodT body t' ∧ Go.exitTo id (t.map er) = some (t'.map er)
  | [], t', h, _ => by cases h
  | .inBlock i :: t, t', h, g => by
    cases g with
    | inBlock g =>
      simp only [exitTo] at h
      split at h
      · rename_i e
        obtain rfl := Option.some.inj h
        have := Nat.eq_of_beq_eq_true e
        subst this
        exact ⟨g, by simp [er, Go.exitTo]⟩
      · rename_i e
        obtain ⟨g', h'⟩ := exitTo_ok h g
        refine ⟨g', ?_⟩
        have hne : i ≠ id := ne_of_beq e
        have : (id == i) = false := by simp; exact fun h => hne h.symm
        have : (i == id) = false := by simp; exact hne
        simp [er, Go.exitTo, *]
  | .code c p :: t, t', h, g => by
    cases g with
    | code _ g =>
      obtain ⟨g', h'⟩ := exitTo_ok (t := t) h g
      exact ⟨g', by simpa [er, Go.exitTo] using h'⟩
  | .inLoop c p :: t, t', h, g => by
    cases g with
    | inLoop _ g =>
      obtain ⟨g', h'⟩ := exitTo_ok (t := t) h g
      exact ⟨g', by simpa [er, Go.exitTo] using h'⟩
theorem evalTmp (s : Sim K β F fr hp a w) {d : Nat} {b : Bool} (hb : fr.get d = some (.a (.c (.bool b)))) : a.eval (.tmp d) = .bool b := by
  have r : RP D w F (.bool b) (a.tmps.getD d undef) := s.frm d _ hb
  show a.tmps.getD d undef = _
  generalize a.tmps.getD d undef = v at r
  cases r; rfl
theorem runK_ok (lw : Lawful D P) (hH : HOk D P H) (hN : HNat H) {body : Code} (hok : okC K.n body = true) {cuts : List Nat} {κ : Nat → Tr (V D.S) → Tr (B D.S) → Option R} {ρ : Tr (V D.S) → Tr (B D.S) → Option R}
    (hκ : ∀ p c t fr hp, Place body p c t → κ p fr hp = some r → Comes' P K (.code c p :: t) fr hp fun fr hp => ρ fr hp = some r) :
    ∀ (n : Nat) (here : Bool) (todo : List It) (fr : Tr (V D.S)) (hp : Tr (B D.S)), GoodT body todo → runK D H cuts κ ρ n here todo fr hp = some r → Comes' P K todo fr hp fun fr hp => ρ fr hp = some r
  | 0, here, todo, fr, hp, g, h => by unfold runK at h; cases h
  | n + 1, here, [], fr, hp, g, h => by
    intro β F a w s b cs
    exact ⟨fr, hp, β, F, a, w, [], h, s, .one step_end⟩
  | n + 1, here, .inBlock id :: t, fr, hp, g, h => by
    intro β F a w s b cs
    cases g with
    | inBlock g =>
      obtain ⟨fr', hp', β', F', a', w', todo', h1, h2, h3⟩ := runK_ok lw hH hN hok hκ n true t fr hp g h β F a w s b cs
      exact ⟨fr', hp', β', F', a', w', todo', h1, h2, .head step_inBlock h3⟩
  | n + 1, here, .inLoop c p :: t, fr, hp, g, h => by
    intro β F a w s b cs
    cases g with
    | inLoop hat g =>
      obtain ⟨fr', hp', β', F', a', w', todo', h1, h2, h3⟩ := runK_ok lw hH hN hok hκ n true (.code c (2 * p) :: .inLoop c p :: t) fr hp (.code hat (.inLoop hat g)) h β F a w s b cs
      exact ⟨fr', hp', β', F', a', w', todo', h1, h2, .head step_inLoop h3⟩
  | n + 1, here, .code c p :: t, fr, hp, g, h => by
    cases g with
    | code hat g =>
      unfold runK at h
      split at h
      · exact hκ p c t fr hp hat h
      · have okc := hat.ok hok
        intro β F a w s b cs
        have go : ∀ {todo2 : List It} {fr2 : Tr (V D.S)}, GoodT body todo2 → Sim K β F fr2 hp a w → runK D H cuts κ ρ n true todo2 fr2 hp = some r → step P (lone (b.at a ((.code c :: t.map er : List Item))) cs w) = .next (lone (b.at a (todo2.map er)) cs w) →
            ∃ fr' hp' β' F' a' w' todo', ρ fr' hp' = some r ∧ Sim K β' F' fr' hp' a' w' ∧ Steps P (lone (b.at a ((.code c :: t.map er : List Item))) cs w) (lone { b.at a' todo' with mode := .returning } cs w') := fun {todo2 fr2} g2 s2 h2 hs => by
          obtain ⟨fr', hp', β', F', a', w', todo', h1, h2, h3⟩ := runK_ok lw hH hN hok hκ n true todo2 fr2 hp g2 h2 β F a w s2 b cs
          exact ⟨fr', hp', β', F', a', w', todo', h1, h2, .head hs h3⟩
        have same : ∀ {d : Nat} {v : Bool}, d < 65535 → fr.get d = some (.a (.c (.bool v))) → Sim K β F (fr.set depth d (some (cV (.bool v)))) hp a w := fun hd hb => s.same hb hd
        cases c with
        | skip => exact go g s h step_skip
        | region id ops draw =>
          cases draw with
          | true =>
            have hds : ∀ o ∈ ops.toList, dstOk K.n o = true := fun o ho => List.all_eq_true.mp okc o ho
            have hw : (Code.region id ops true).wp P (fun e a' w' => e = .normal ∧ ∃ fr' hp' β' F', runK D H cuts κ ρ n true t fr' hp' = some r ∧ Sim K β' F' fr' hp' a' w') a w :=
              draw_region lw hH hN hds s (fun fr' hp' β' F' a' w' h1 h2 => ⟨rfl, fr', hp', β', F', h1, h2⟩) h
            obtain ⟨e, a1, w1, ⟨rfl, fr1, hp1, β1, F1, h1, s1⟩, harr⟩ := hw b (t.map er) cs
            obtain ⟨fr', hp', β', F', a', w', todo', h1, h2, h3⟩ := runK_ok lw hH hN hok hκ n true t fr1 hp1 g h1 β1 F1 a1 w1 s1 b cs
            exact ⟨fr', hp', β', F', a', w', todo', h1, h2, Steps.trans harr h3⟩
          | false =>
            have hds : ∀ o ∈ ops.toList, dstOk K.n o = true := fun o ho => List.all_eq_true.mp okc o ho
            have hw : (Code.region id ops false).wp P (fun e a' w' => e = .normal ∧ ∃ fr' hp' β' F', runK D H cuts κ ρ n true t fr' hp' = some r ∧ Sim K β' F' fr' hp' a' w') a w := by
              refine wp_region ?_
              rw [List.range_eq_range']
              exact opsK_wp lw hH hds (fun fr' hp' β' F' a' w' h1 h2 => ⟨rfl, fr', hp', β', F', h1, h2⟩) ops.size 0 (by omega) s (by rw [List.drop_zero]; exact h)
            obtain ⟨e, a1, w1, ⟨rfl, fr1, hp1, β1, F1, h1, s1⟩, harr⟩ := hw b (t.map er) cs
            obtain ⟨fr', hp', β', F', a', w', todo', h1, h2, h3⟩ := runK_ok lw hH hN hok hκ n true t fr1 hp1 g h1 β1 F1 a1 w1 s1 b cs
            exact ⟨fr', hp', β', F', a', w', todo', h1, h2, Steps.trans harr h3⟩
        | seq x y => exact go (todo2 := .code x (2 * p) :: .code y (2 * p + 1) :: t) (.code (.seqL hat) (.code (.seqR hat) g)) s h step_seq
        | cond c x y =>
          simp only at h
          split at h
          · rename_i d
            split at h
            · rename_i v hv
              have he := evalTmp s hv
              have hd : d < 65535 ∨ True := .inr trivial
              rcases bKK_some h with ⟨eb, h'⟩ | ⟨eb, h'⟩
              · subst eb
                clear h
                have h := h'
                rw [Tr.setK_eq] at h
                split at h
                · rename_i hd
                  exact go (todo2 := .code x (2 * p) :: t) (.code (.condL hat) g) (same (Nat.le_of_ble_eq_true hd) hv) h (step_cond he)
                · cases h
              · subst eb
                clear h
                have h := h'
                rw [Tr.setK_eq] at h
                split at h
                · rename_i hd
                  exact go (todo2 := .code y (2 * p + 1) :: t) (.code (.condR hat) g) (same (Nat.le_of_ble_eq_true hd) hv) h (step_cond he)
                · cases h
            · cases h
          · rename_i v
            have he : a.eval (.const (.bool v)) = .bool v := rfl
            rcases bKK_some h with ⟨eb, h'⟩ | ⟨eb, h'⟩
            · subst eb; exact go (todo2 := .code x (2 * p) :: t) (.code (.condL hat) g) s h' (step_cond he)
            · subst eb; exact go (todo2 := .code y (2 * p + 1) :: t) (.code (.condR hat) g) s h' (step_cond he)
          · cases h
        | block id c => exact go (todo2 := .code c (2 * p) :: .inBlock id :: t) (.code (.block hat) (.inBlock g)) s h step_block
        | loop c => exact go (todo2 := .code c (2 * p) :: .inLoop c p :: t) (.code (.loop hat) (.inLoop (.loop hat) g)) s h step_loop
        | exit id =>
          simp only at h
          split at h
          · rename_i t' ht
            obtain ⟨g', h'⟩ := exitTo_ok ht g
            exact go g' s h (step_exit h')
          · cases h
        | label l => exact go g s h step_label
        | ret => exact ⟨fr, hp, β, F, a, w, _, h, s, .one step_ret⟩
        | rangeFunc f ps x y => cases h
        | scope c => cases h
        | goto l => cases h
        | refuse y => cases h
end
end Go.Proofs.Ytkpjeihgigmnkaa.Ev
/- Values without memory: states told by value; the states at which the code is cut, in one form. -/
namespace Go.Proofs.Ytkpjeihgigmnkaa.Ev
open Go
set_option linter.unusedVariables false
set_option linter.unusedSimpArgs false
/-- What a slot holds: a value; something of its own; a block that is pointed to. -/
inductive Im (S : Nat → Type) where | v (s : Nat) (a : A S) | own (s : Nat) (c : C S) | box (s id off : Nat) (ow : OwL) (cs : List (C S)) | bx (id : Nat) (ow : OwL) (cs : List (C S)) | fn (s : Nat) (f : FuncId) (caps : List Nat)
/-- The numbers of what the cells of slot s's block hold as their own. -/
def onum (s : Nat) : Nat := 10000 + 24 * s
/-- .. of what a block without a slot holds. -/
def onumB (id : Nat) : Nat := 30000 + 10 * id
section
variable (D : Tys)
def frI : List (Im D.S) → List (Nat × V D.S)
  | [] => []
  | .v s a :: l => (s, .a a) :: frI l
  | .own s c :: l => (s, cV (thC D (3000 + s) c)) :: frI l
  | .box s id off _ _ :: l => (s, cV (.ptr id off)) :: frI l
  | .bx _ _ _ :: l => frI l
  | .fn s f caps :: l => (s, cV (.fn f caps)) :: frI l
def hpI : List (Im D.S) → List (Nat × B D.S)
  | [] => []
  | .v _ _ :: l => hpI l
  | .own s c :: l => thB D (3000 + s) c ++ hpI l
  | .box s id _ ow cs :: l => (id, .box (thL D ow (onum s) 0 cs)) :: (thN D ow (onum s) 0 cs ++ hpI l)
  | .bx id ow cs :: l => (id, .box (thL D ow (onumB id) 0 cs)) :: (thN D ow (onumB id) 0 cs ++ hpI l)
  | .fn _ _ _ :: l => hpI l
end
def keysA {α : Type} : List (Nat × α) → List Nat
  | [] => []
  | (i, _) :: l => i :: keysA l
theorem keysA_eq {α : Type} : ∀ (l : List (Nat × α)), keysA l = l.map (·.1)
  | [] => rfl
  | (i, x) :: l => by simp [keysA, keysA_eq l]
def ltAll : List Nat → Bool
  | [] => true
  | i :: l => match Nat.blt i 65535 with | true => ltAll l | false => false
theorem ltAll_at : ∀ {l : List Nat}, ltAll l = true → ∀ i ∈ l, i < 65535
  | [], _, i, h => by cases h
  | j :: l, h, i, hi => by
    simp only [ltAll] at h
    split at h
    · rename_i hj
      rcases List.mem_cons.mp hi with rfl | hi
      · simpa using hj
      · exact ltAll_at h i hi
    · cases h
/-- No number twice, none too great. -/
def imOk (D : Tys) (l : List (Im D.S)) : Bool := distinct (keysA (hpI D l)) && (ltAll (keysA (hpI D l)) && ltAll (keysA (frI D l)))
def mkT {α : Type} : List (Nat × α) → Tr α
  | [] => .lf
  | (i, x) :: l => Tr.set depth (mkT l) i (some x)
def mkTK {α R : Type} : List (Nat × α) → (Tr α → R) → R
  | [], k => k .lf
  | (i, x) :: l, k => mkTK l fun t => Tr.setK depth t i (some x) k
theorem mkTK_eq {α R : Type} : ∀ (l : List (Nat × α)) (k : Tr α → R), mkTK l k = k (mkT l)
  | [], k => rfl
  | (i, x) :: l, k => by simp only [mkTK, mkT]; rw [mkTK_eq l, Tr.setK_eq]
theorem get_mkT {α : Type} : ∀ (l : List (Nat × α)) (i : Nat), (∀ x ∈ l, x.1 < 65535) → (mkT l).get i = lk l i
  | [], i, _ => rfl
  | (j, x) :: l, i, h => by
    have hj := h _ List.mem_cons_self
    simp only [mkT, lk]
    rw [Tr.get_set _ _ _ _ _ (by rw [depth_ok]; simp only at hj; omega), get_mkT l i fun y hy => h y (List.mem_cons_of_mem _ hy)]
    by_cases e : i = j
    · subst e; rw [if_pos rfl, Nat.beq_refl]
    · rw [if_neg e]
      have : Nat.beq i j = false := by cases h' : Nat.beq i j with | false => rfl | true => exact absurd (Nat.eq_of_beq_eq_true h') e
      rw [this]
theorem lk_of_mem {α : Type} : ∀ {l : List (Nat × α)} {i : Nat} {x : α}, (i, x) ∈ l → distinct (l.map (·.1)) = true → lk l i = some x
  | (j, y) :: l, i, x, h, hd => by
    simp only [List.map_cons, distinct] at hd
    split at hd
    · cases hd
    · rename_i hne
      simp only [lk]
      rcases List.mem_cons.mp h with e | h'
      · injection e with e1 e2
        subst e1; subst e2
        rw [Nat.beq_refl]
      · clear h
        have h := h'
        have hij : i ≠ j := fun e => by
          subst e
          rw [List.elem_eq_contains, List.contains_iff_mem.mpr (List.mem_map.mpr ⟨_, h, rfl⟩)] at hne; cases hne
        have : Nat.beq i j = false := by cases h' : Nat.beq i j with | false => rfl | true => exact absurd (Nat.eq_of_beq_eq_true h') hij
        rw [this]
        exact lk_of_mem h hd
theorem lk_nodup {α : Type} : ∀ {l : List (Nat × α)} {i : Nat} {x : α}, (i, x) ∈ l → (l.map (·.1)).Nodup → lk l i = some x
  | (j, y) :: l, i, x, h, hd => by
    obtain ⟨h1, h2⟩ := List.nodup_cons.mp hd
    simp only [lk]
    rcases List.mem_cons.mp h with e | h'
    · injection e with e1 e2; subst e1; subst e2; rw [Nat.beq_refl]
    · have hij : i ≠ j := fun e => by subst e; exact h1 (List.mem_map.mpr ⟨_, h', rfl⟩)
      have : Nat.beq i j = false := by cases h' : Nat.beq i j with | false => rfl | true => exact absurd (Nat.eq_of_beq_eq_true h') hij
      rw [this]
      exact lk_nodup h' h2
theorem lk_none {α : Type} : ∀ {l : List (Nat × α)} {i : Nat}, i ∉ l.map (·.1) → lk l i = none
  | [], i, _ => rfl
  | (j, y) :: l, i, h => by
    simp only [List.map_cons, List.mem_cons, not_or] at h
    have : Nat.beq i j = false := by cases h' : Nat.beq i j with | false => rfl | true => exact absurd (Nat.eq_of_beq_eq_true h') h.1
    simp only [lk, this]
    exact lk_none h.2
section
variable {D : Tys} {P : Program}
/-- Where the blocks lie that a function has caught. -/
inductive CapsAt (bx : List (Nat × Loc)) : List Nat → List Loc → Prop
  | nil : CapsAt bx [] []
  | cons {i L is Ls} (h : (i, L) ∈ bx) (t : CapsAt bx is Ls) : CapsAt bx (i :: is) (L :: Ls)
/-- A state by value: what the slots hold, where the blocks lie, which are somebody's own. -/
inductive VS (D : Tys) (w : World) (F : Nat → Prop) (g : Nat → Value) : List (Im D.S) → List (Nat × Loc) → List Loc → Prop
  | nil : VS D w F g [] [] []
  | v {s a l bx Os} (r : RPA D w F a (g s)) (h : VS D w F g l bx Os) : VS D w F g (.v s a :: l) bx Os
  | own {s c l bx Os B1} (r : RO D w F c (g s) B1) (h : VS D w F g l bx Os) : VS D w F g (.own s c :: l) bx (B1 ++ Os)
  | box {s id off ow cs l bx Os L Bs} (e : g s = .pointer (some ⟨L.b, off, none⟩)) (r : LentO D w F ow L cs Bs) (h : VS D w F g l bx Os) : VS D w F g (.box s id off ow cs :: l) ((id, L) :: bx) (Bs ++ Os)
  | bx {id ow cs l bx Os L Bs} (r : LentO D w F ow L cs Bs) (h : VS D w F g l bx Os) : VS D w F g (.bx id ow cs :: l) ((id, L) :: bx) (Bs ++ Os)
  | fn {s f caps l bx Os Ls} (e : g s = .func (.func f) #[] (ptrsL Ls)) (hc : CapsAt bx caps Ls) (h : VS D w F g l bx Os) : VS D w F g (.fn s f caps :: l) bx Os
theorem VS.box_mem {w : World} {F : Nat → Prop} {g : Nat → Value} {l : List (Im D.S)} {bx : List (Nat × Loc)} {Os : List Loc} (r : VS D w F g l bx Os) : ∀ p ∈ bx, ∃ cs, (p.1, B.box cs) ∈ hpI D l := by
  induction r with
  | nil => exact fun p h => by cases h
  | v r t ih => exact ih
  | own r t ih => exact fun p hp => by obtain ⟨cs, h⟩ := ih p hp; exact ⟨cs, List.mem_append_right _ h⟩
  | box e r t ih =>
    intro p hp
    rcases List.mem_cons.mp hp with rfl | hp
    · exact ⟨_, List.mem_cons_self⟩
    · obtain ⟨cs, h⟩ := ih p hp; exact ⟨cs, List.mem_cons_of_mem _ (List.mem_append_right _ h)⟩
  | bx r t ih =>
    intro p hp
    rcases List.mem_cons.mp hp with rfl | hp
    · exact ⟨_, List.mem_cons_self⟩
    · obtain ⟨cs, h⟩ := ih p hp; exact ⟨cs, List.mem_cons_of_mem _ (List.mem_append_right _ h)⟩
  | fn e hc t ih => exact ih
/-- What a cell that is by value is, as a block of its own. -/
structure Th (D : Tys) (w : World) (F : Nat → Prop) (n : Nat) (c : C D.S) (v : Value) (βl : List (Nat × Loc)) : Prop where
  keys : (βl.map (·.1)).Sublist ((thB D n c).map (·.1))
  ok : ∀ (h : Hp D) (β : Nat → Option Loc), (∀ p ∈ thB D n c, h p.1 = some p.2) → (∀ p ∈ βl, β p.1 = some p.2) → (∀ k ∈ (thB D n c).map (·.1), k ∉ βl.map (·.1) → β k = none) →
    RC D w F h β (thC D n c) v ∧ ∀ p ∈ thB D n c, RB D w F h β p.1 p.2
theorem RO.th (lw : Lawful D P) {w : World} {F : Nat → Prop} {c : C D.S} {v : Value} {Bs : List Loc} (ro : RO D w F c v Bs) (n : Nat) : ∃ βl, βl.map (·.2) = Bs ∧ Th D w F n c v βl := by
  rcases thaw_cases c with ⟨t, l, rfl⟩ | ⟨t, l, i, o, rfl⟩ | ⟨h1, h2⟩
  · rcases ro with ⟨rfl, rfl, A, hv⟩ | ⟨L, cap, vs, e, rfl, q1, q2, q3, q4, hv, q5⟩
    · refine ⟨[], rfl, List.nil_sublist _, fun h β hh _ hn => ?_⟩
      have g1 := hh (n, .arr t []) List.mem_cons_self
      have g2 := hn n (by simp [thB]) (by simp)
      refine ⟨⟨t, [], g1, .inl ⟨g2, rfl, A, hv⟩⟩, fun p hp => ?_⟩
      obtain rfl := List.mem_singleton.mp hp
      exact .inl ⟨g2, rfl⟩
    · refine ⟨[(n, L)], rfl, List.Sublist.refl _, fun h β hh hb _ => ?_⟩
      have g1 := hh (n, .arr t l) List.mem_cons_self
      have g2 := hb (n, L) List.mem_cons_self
      refine ⟨⟨t, l, g1, .inr ⟨L, cap, g2, q3, q4, hv⟩⟩, fun p hp => ?_⟩
      obtain rfl := List.mem_singleton.mp hp
      exact .inr ⟨L, vs, e, g2, q1, q2, by have := Nat.mul_le_mul_right (size D t) q3; omega, q5⟩
  · obtain ⟨x, L, us, e, rfl, rfl, q1, q2, q3, q4, hv⟩ := ro
    refine ⟨[(n, L)], rfl, List.Sublist.refl _, fun h β hh hb _ => ?_⟩
    have g1 := hh (n, .box (encL D t x)) List.mem_cons_self
    have g2 := hb (n, L) List.mem_cons_self
    refine ⟨⟨_, L, g1, g2, by rw [q1]; exact hv⟩, fun p hp => ?_⟩
    obtain rfl := List.mem_singleton.mp hp
    exact ⟨L, us, e, g2, q2, q1, q3, q4.1, fun j y u hy hu => (encL_pure lw t x y (List.mem_of_getElem? hy) _ _ _ _ _).mpr (q4.2 j y u hy hu)⟩
  · obtain ⟨rfl, rp⟩ := h2 w F v Bs ro
    refine ⟨[], rfl, by rw [(h1 n).1]; exact List.nil_sublist _, fun h β _ _ _ => ⟨by rw [(h1 n).2]; exact RP.rc rp, fun p hp => by rw [(h1 n).1] at hp; cases hp⟩⟩
theorem ROL.th (lw : Lawful D P) {w : World} {F : Nat → Prop} {own : OwL} {base : Nat} {j : Nat} {cs : List (C D.S)} {vs : List Value} {Bs : List Loc} (r : ROL D w F own j cs vs Bs) :
    ∃ βl : List (Nat × Loc), βl.map (·.2) = Bs ∧ (βl.map (·.1)).Sublist ((thN D own base j cs).map (·.1)) ∧ (((thN D own base j cs).map (·.1)).Nodup → ∀ (h : Hp D) (β : Nat → Option Loc), (∀ p ∈ thN D own base j cs, h p.1 = some p.2) → (∀ p ∈ βl, β p.1 = some p.2) →
      (∀ k ∈ (thN D own base j cs).map (·.1), k ∉ βl.map (·.1) → β k = none) → RL D w F h β (thL D own base j cs) vs ∧ ∀ p ∈ thN D own base j cs, RB D w F h β p.1 p.2) := by
  induction r with
  | nil j => exact ⟨[], rfl, List.nil_sublist _, fun _ h β _ _ _ => ⟨⟨rfl, fun i x u hx => by simp [thL] at hx⟩, fun p hp => by simp [thN] at hp⟩⟩
  | plain hj rp t ih =>
    obtain ⟨βl, g1, g2, g3⟩ := ih
    refine ⟨βl, g1, by simp only [thN, hj]; exact g2, fun nd h β h1 h2 h3 => ?_⟩
    simp only [thN, hj] at h1 h3 nd ⊢
    obtain ⟨k1, k2⟩ := g3 nd h β h1 h2 h3
    refine ⟨⟨by have := k1.1; simpa [thL] using this, fun i x u hx hu => ?_⟩, k2⟩
    simp only [thL, hj] at hx
    cases i with
    | zero => simp at hx hu; subst hx; subst hu; exact RP.rc rp
    | succ i => simp at hx hu; exact k1.2 i x u hx hu
  | own hj ro t ih =>
    rename_i j p c v cs vs B1 Bs
    obtain ⟨βl, g1, g2, g3⟩ := ih
    obtain ⟨β1, e1, th⟩ := ro.th lw (base + p)
    refine ⟨β1 ++ βl, by rw [List.map_append, e1, g1], by simp only [thN, hj]; rw [List.map_append, List.map_append]; exact th.keys.append g2, fun nd h β h1 h2 h3 => ?_⟩
    simp only [thN, hj] at h1 h3 nd ⊢
    rw [List.map_append] at nd h3
    obtain ⟨nd1, nd2, nd3⟩ := List.nodup_append.mp nd
    obtain ⟨k1, k2⟩ := g3 nd2 h β (fun p hp => h1 p (List.mem_append_right _ hp)) (fun p hp => h2 p (List.mem_append_right _ hp)) (fun k hk hn => h3 k (List.mem_append_right _ hk) (fun hm => by
      rw [List.map_append] at hm
      rcases List.mem_append.mp hm with hm | hm
      · exact nd3 k (th.keys.subset hm) k hk rfl
      · exact hn hm))
    obtain ⟨q1, q2⟩ := th.ok h β (fun p hp => h1 p (List.mem_append_left _ hp)) (fun p hp => h2 p (List.mem_append_left _ hp)) (fun k hk hn => h3 k (List.mem_append_left _ hk) (fun hm => by
      rw [List.map_append] at hm
      rcases List.mem_append.mp hm with hm | hm
      · exact hn hm
      · exact nd3 k hk k (g2.subset hm) rfl))
    refine ⟨⟨by have := k1.1; simpa [thL] using this, fun i x u hx hu => ?_⟩, fun p hp => (List.mem_append.mp hp).elim (q2 p) (k2 p)⟩
    simp only [thL, hj] at hx
    cases i with
    | zero => simp at hx hu; subst hx; subst hu; exact q1
    | succ i => simp at hx hu; exact k1.2 i x u hx hu
theorem VS.th (lw : Lawful D P) {w : World} {F : Nat → Prop} {g : Nat → Value} {l : List (Im D.S)} {bx : List (Nat × Loc)} {Os : List Loc} (r : VS D w F g l bx Os) :
    ∃ βl : List (Nat × Loc), (βl.map (·.2)).Perm (bx.map (·.2) ++ Os) ∧ (∀ p ∈ bx, p ∈ βl) ∧ (βl.map (·.1)).Sublist ((hpI D l).map (·.1)) ∧ (((hpI D l).map (·.1)).Nodup → ∀ (h : Hp D) (β : Nat → Option Loc), (∀ p ∈ hpI D l, h p.1 = some p.2) → (∀ p ∈ βl, β p.1 = some p.2) →
      (∀ k ∈ (hpI D l).map (·.1), k ∉ βl.map (·.1) → β k = none) → (∀ p ∈ frI D l, RV D w F h β p.2 (g p.1)) ∧ ∀ p ∈ hpI D l, RB D w F h β p.1 p.2) := by
  induction r with
  | nil => exact ⟨[], List.Perm.refl _, fun p h => (by cases h), List.nil_sublist _, fun _ h β _ _ _ => ⟨fun p hp => by simp [frI] at hp, fun p hp => by simp [hpI] at hp⟩⟩
  | v rp t ih =>
    obtain ⟨βl, g1, g1b, g2, g3⟩ := ih
    refine ⟨βl, g1, g1b, g2, fun nd h β h1 h2 h3 => ?_⟩
    obtain ⟨k1, k2⟩ := g3 nd h β h1 h2 h3
    refine ⟨fun p hp => ?_, k2⟩
    simp only [frI] at hp
    rcases List.mem_cons.mp hp with rfl | hp
    · exact RPA.ra rp
    · exact k1 p hp
  | own ro t ih =>
    rename_i s c l bx Os B1
    obtain ⟨βl, g1, g1b, g2, g3⟩ := ih
    obtain ⟨β1, e1, th⟩ := ro.th lw (3000 + s)
    refine ⟨β1 ++ βl, ?_, fun p hp => List.mem_append_right _ (g1b p hp), by simp only [hpI]; rw [List.map_append, List.map_append]; exact th.keys.append g2, fun nd h β h1 h2 h3 => ?_⟩
    · rw [List.map_append, e1]
      exact ((List.Perm.append_left B1 g1).trans (by rw [← List.append_assoc, ← List.append_assoc]; exact List.Perm.append_right _ List.perm_append_comm))
    simp only [hpI] at h1 h3 nd ⊢
    rw [List.map_append] at nd h3
    obtain ⟨nd1, nd2, nd3⟩ := List.nodup_append.mp nd
    obtain ⟨k1, k2⟩ := g3 nd2 h β (fun p hp => h1 p (List.mem_append_right _ hp)) (fun p hp => h2 p (List.mem_append_right _ hp)) (fun k hk hn => h3 k (List.mem_append_right _ hk) (fun hm => by
      rw [List.map_append] at hm
      rcases List.mem_append.mp hm with hm | hm
      · exact nd3 k (th.keys.subset hm) k hk rfl
      · exact hn hm))
    obtain ⟨q1, q2⟩ := th.ok h β (fun p hp => h1 p (List.mem_append_left _ hp)) (fun p hp => h2 p (List.mem_append_left _ hp)) (fun k hk hn => h3 k (List.mem_append_left _ hk) (fun hm => by
      rw [List.map_append] at hm
      rcases List.mem_append.mp hm with hm | hm
      · exact hn hm
      · exact nd3 k hk k (g2.subset hm) rfl))
    refine ⟨fun p hp => ?_, fun p hp => (List.mem_append.mp hp).elim (q2 p) (k2 p)⟩
    simp only [frI] at hp
    rcases List.mem_cons.mp hp with rfl | hp
    · exact q1
    · exact k1 p hp
  | box e lo t ih =>
    rename_i s id off ow cs l bx Os L Bs
    obtain ⟨βl, g1, g1b, g2, g3⟩ := ih
    obtain ⟨ho, vs, ty, p1, p2, rol⟩ := lo
    obtain ⟨β1, e1, e2, th⟩ := rol.th lw (base := onum s)
    refine ⟨(id, L) :: (β1 ++ βl), ?_, fun p hp => ?_, by simp only [hpI, List.map_cons]; rw [List.map_append, List.map_append]; exact (e2.append g2).cons_cons _, fun nd h β h1 h2 h3 => ?_⟩
    · simp only [List.map_cons, List.map_append, e1, List.cons_append]
      refine List.Perm.cons _ ((List.Perm.append_left Bs g1).trans (by rw [← List.append_assoc, ← List.append_assoc]; exact List.Perm.append_right _ List.perm_append_comm))
    · rcases List.mem_cons.mp hp with rfl | hp
      · exact List.mem_cons_self
      · exact List.mem_cons_of_mem _ (List.mem_append_right _ (g1b p hp))
    simp only [hpI, List.map_cons, List.map_append] at h1 h3 nd ⊢
    obtain ⟨nd0, nd⟩ := List.nodup_cons.mp nd
    obtain ⟨nd1, nd2, nd3⟩ := List.nodup_append.mp nd
    have hid : ∀ k, k ∈ (thN D ow (onum s) 0 cs).map (·.1) ++ (hpI D l).map (·.1) → k ≠ id := fun k hk e => nd0 (e ▸ hk)
    obtain ⟨k1, k2⟩ := g3 nd2 h β (fun p hp => h1 p (List.mem_cons_of_mem _ (List.mem_append_right _ hp))) (fun p hp => h2 p (List.mem_cons_of_mem _ (List.mem_append_right _ hp))) (fun k hk hn => h3 k (List.mem_cons_of_mem _ (List.mem_append_right _ hk)) (fun hm => by
      rcases List.mem_cons.mp hm with hm | hm
      · exact hid k (List.mem_append_right _ hk) hm
      · rcases List.mem_append.mp hm with hm | hm
        · exact nd3 k (e2.subset hm) k hk rfl
        · exact hn hm))
    obtain ⟨q1, q2⟩ := th nd1 h β (fun p hp => h1 p (List.mem_cons_of_mem _ (List.mem_append_left _ hp))) (fun p hp => h2 p (List.mem_cons_of_mem _ (List.mem_append_left _ hp))) (fun k hk hn => h3 k (List.mem_cons_of_mem _ (List.mem_append_left _ hk)) (fun hm => by
      rcases List.mem_cons.mp hm with hm | hm
      · exact hid k (List.mem_append_left _ hk) hm
      · rcases List.mem_append.mp hm with hm | hm
        · exact hn hm
        · exact nd3 k hk k (g2.subset hm) rfl))
    have b0 := h2 (id, L) List.mem_cons_self
    have h0 := h1 _ List.mem_cons_self
    refine ⟨fun p hp => ?_, fun p hp => ?_⟩
    · simp only [frI] at hp
      rcases List.mem_cons.mp hp with rfl | hp
      · exact ⟨_, L, h0, b0, by rw [ho, Nat.zero_add]; exact e⟩
      · exact k1 p hp
    · rcases List.mem_cons.mp hp with rfl | hp
      · exact ⟨L, vs, ty, b0, p1, ho, p2, q1⟩
      · exact (List.mem_append.mp hp).elim (q2 p) (k2 p)
  | bx lo t ih =>
    rename_i id ow cs l bx Os L Bs
    obtain ⟨βl, g1, g1b, g2, g3⟩ := ih
    obtain ⟨ho, vs, ty, p1, p2, rol⟩ := lo
    obtain ⟨β1, e1, e2, th⟩ := rol.th lw (base := onumB id)
    refine ⟨(id, L) :: (β1 ++ βl), ?_, fun p hp => ?_, by simp only [hpI, List.map_cons]; rw [List.map_append, List.map_append]; exact (e2.append g2).cons_cons _, fun nd h β h1 h2 h3 => ?_⟩
    · simp only [List.map_cons, List.map_append, e1, List.cons_append]
      refine List.Perm.cons _ ((List.Perm.append_left Bs g1).trans (by rw [← List.append_assoc, ← List.append_assoc]; exact List.Perm.append_right _ List.perm_append_comm))
    · rcases List.mem_cons.mp hp with rfl | hp
      · exact List.mem_cons_self
      · exact List.mem_cons_of_mem _ (List.mem_append_right _ (g1b p hp))
    simp only [hpI, List.map_cons, List.map_append] at h1 h3 nd ⊢
    obtain ⟨nd0, nd⟩ := List.nodup_cons.mp nd
    obtain ⟨nd1, nd2, nd3⟩ := List.nodup_append.mp nd
    have hid : ∀ k, k ∈ (thN D ow (onumB id) 0 cs).map (·.1) ++ (hpI D l).map (·.1) → k ≠ id := fun k hk e => nd0 (e ▸ hk)
    obtain ⟨k1, k2⟩ := g3 nd2 h β (fun p hp => h1 p (List.mem_cons_of_mem _ (List.mem_append_right _ hp))) (fun p hp => h2 p (List.mem_cons_of_mem _ (List.mem_append_right _ hp))) (fun k hk hn => h3 k (List.mem_cons_of_mem _ (List.mem_append_right _ hk)) (fun hm => by
      rcases List.mem_cons.mp hm with hm | hm
      · exact hid k (List.mem_append_right _ hk) hm
      · rcases List.mem_append.mp hm with hm | hm
        · exact nd3 k (e2.subset hm) k hk rfl
        · exact hn hm))
    obtain ⟨q1, q2⟩ := th nd1 h β (fun p hp => h1 p (List.mem_cons_of_mem _ (List.mem_append_left _ hp))) (fun p hp => h2 p (List.mem_cons_of_mem _ (List.mem_append_left _ hp))) (fun k hk hn => h3 k (List.mem_cons_of_mem _ (List.mem_append_left _ hk)) (fun hm => by
      rcases List.mem_cons.mp hm with hm | hm
      · exact hid k (List.mem_append_left _ hk) hm
      · rcases List.mem_append.mp hm with hm | hm
        · exact hn hm
        · exact nd3 k hk k (g2.subset hm) rfl))
    have b0 := h2 (id, L) List.mem_cons_self
    have h0 := h1 _ List.mem_cons_self
    refine ⟨fun p hp => ?_, fun p hp => ?_⟩
    · exact k1 p hp
    · rcases List.mem_cons.mp hp with rfl | hp
      · exact ⟨L, vs, ty, b0, p1, ho, p2, q1⟩
      · exact (List.mem_append.mp hp).elim (q2 p) (k2 p)
  | fn e hc t ih =>
    rename_i s f caps l bx Os Ls
    obtain ⟨βl, g1, g1b, g2, g3⟩ := ih
    refine ⟨βl, g1, g1b, g2, fun nd h β h1 h2 h3 => ?_⟩
    obtain ⟨k1, k2⟩ := g3 nd h β h1 h2 h3
    refine ⟨fun p hp => ?_, k2⟩
    simp only [frI] at hp
    rcases List.mem_cons.mp hp with rfl | hp
    · have key : ∀ {caps : List Nat} {Ls : List Loc}, CapsAt bx caps Ls → (caps.map fun i => Value.pointer ((β i).map fun L => ⟨L.b, L.o, none⟩)) = Ls.map (fun L => Value.pointer (some ⟨L.b, L.o, none⟩)) ∧ ∀ i ∈ caps, ∃ cs L, h i = some (.box cs) ∧ β i = some L := by
        intro caps Ls hc
        induction hc with
        | nil => exact ⟨rfl, fun i hi => by cases hi⟩
        | cons hm ht ih2 =>
          rename_i i L caps Ls
          have hb : β i = some L := h2 (i, L) (g1b _ hm)
          obtain ⟨cs, hcs⟩ := t.box_mem _ hm
          refine ⟨by rw [List.map_cons, List.map_cons, hb, ih2.1]; rfl, fun j hj => ?_⟩
          rcases List.mem_cons.mp hj with rfl | hj
          · exact ⟨cs, L, h1 _ hcs, hb⟩
          · exact ih2.2 j hj
      obtain ⟨q1, q2⟩ := key hc
      refine ⟨?_, q2⟩
      rw [q1]; exact e
    · exact k1 p hp
theorem VS.lt {w : World} {F : Nat → Prop} {g : Nat → Value} {l : List (Im D.S)} {bx : List (Nat × Loc)} {Os : List Loc} (r : VS D w F g l bx Os) : (∀ p ∈ bx, p.2.b < w.heap.size) ∧ ∀ L ∈ Os, L.b < w.heap.size := by
  induction r with
  | nil => exact ⟨fun p h => (by cases h), fun p h => (by cases h)⟩
  | v r t ih => exact ih
  | own r t ih => exact ⟨ih.1, fun L hL => (List.mem_append.mp hL).elim (r.lt L) (ih.2 L)⟩
  | box e r t ih =>
    obtain ⟨_, vs, ty, p1, p2, rol⟩ := r
    refine ⟨fun p hp => ?_, fun L hL => (List.mem_append.mp hL).elim (rol.lt L) (ih.2 L)⟩
    rcases List.mem_cons.mp hp with rfl | hp
    · exact (Array.getElem?_eq_some_iff.mp p1).1
    · exact ih.1 p hp
  | bx r t ih =>
    obtain ⟨_, vs, ty, p1, p2, rol⟩ := r
    refine ⟨fun p hp => ?_, fun L hL => (List.mem_append.mp hL).elim (rol.lt L) (ih.2 L)⟩
    rcases List.mem_cons.mp hp with rfl | hp
    · exact (Array.getElem?_eq_some_iff.mp p1).1
    · exact ih.1 p hp
  | fn e hc t ih => exact ih
/-- A state by value, in memory. -/
theorem build_ok (lw : Lawful D P) {K : Kx D} {F : Nat → Prop} {a : Act} {w : World} {l : List (Im D.S)} {bx : List (Nat × Loc)} {Os : List Loc} (vs : VS D w F (fun i => a.tmps.getD i undef) l bx Os) (hok : imOk D l = true)
    (hsz : a.tmps.size = K.n) (hdf : a.defers = []) (hap : ∀ L ∈ bx.map (·.2) ++ Os, ¬ F L.b ∧ ¬ K.G L.b) (hnd : (locs (bx.map (·.2) ++ Os)).Nodup) (hold : ∀ b, F b → b < w.heap.size) (hkeep : ∀ b, K.G b → w.heap[b]? = K.w0.heap[b]?)
    (hfs : ∀ b, F b → K.F0 b ∨ K.w0.heap.size ≤ b) (hw0 : K.w0.heap.size ≤ w.heap.size ∧ w.os = K.w0.os ∧ w.tape = K.w0.tape ∧ w.output = K.w0.output) (hrf : ∀ i L, (i, L) ∈ K.refs → (i, L) ∈ bx) :
    ∃ β, Sim K β F (mkT (frI D l)) (mkT (hpI D l)) a w := by
  simp only [imOk, Bool.and_eq_true] at hok
  obtain ⟨o1, o2, o3⟩ := hok
  rw [keysA_eq] at o1 o2 o3
  have nd := distinct_nodup o1
  have lt1 : ∀ x ∈ hpI D l, x.1 < 65535 := fun x hx => ltAll_at o2 _ (List.mem_map.mpr ⟨x, hx, rfl⟩)
  have lt2 : ∀ x ∈ frI D l, x.1 < 65535 := fun x hx => ltAll_at o3 _ (List.mem_map.mpr ⟨x, hx, rfl⟩)
  obtain ⟨βl, g1, g1b, g2, g3⟩ := vs.th lw
  have ndb : (βl.map (·.1)).Nodup := nd.sublist g2
  have gh : ∀ i b, (mkT (hpI D l)).get i = some b → (i, b) ∈ hpI D l := fun i b h => by rw [get_mkT _ _ lt1] at h; exact lk_mem h
  have gh' : ∀ p ∈ hpI D l, (mkT (hpI D l)).get p.1 = some p.2 := fun p hp => by rw [get_mkT _ _ lt1]; exact lk_nodup hp nd
  obtain ⟨k1, k2⟩ := g3 nd (mkT (hpI D l)).get (lk βl) gh' (fun p hp => lk_nodup hp ndb) (fun k _ hn => lk_none hn)
  have inL : ∀ i L, lk βl i = some L → L ∈ bx.map (·.2) ++ Os := fun i L h => g1.mem_iff.mp (List.mem_map.mpr ⟨(i, L), lk_mem h, rfl⟩)
  have ndl : (βl.map fun p => p.2.b).Nodup := by
    have e : (βl.map fun p => p.2.b) = locs (βl.map (·.2)) := by simp [locs]
    rw [e]
    exact (g1.map _).nodup_iff.mpr hnd
  have lt := vs.lt
  refine ⟨lk βl, hsz, hdf, fun i v hv => ?_, fun i b hb => k2 _ (gh i b hb), fun i j b b' L L' h1 h2 h3 h4 e => ?_, fun i b L h1 h2 => ⟨(hap L (inL i L h2)).1, ?_⟩, hold, hkeep, fun i b L h1 h2 => (hap L (inL i L h2)).2, hfs, hw0, fun i L hm => ?_, fun i b hb => lt1 _ (gh i b hb)⟩
  · rw [get_mkT _ _ lt2] at hv
    exact k1 _ (lk_mem hv)
  · have m1 := lk_mem h3
    have m2 := lk_mem h4
    have : ∀ {l : List (Nat × Loc)}, (l.map fun p => p.2.b).Nodup → (i, L) ∈ l → (j, L') ∈ l → i = j := fun {l} hd ha hb => by
      induction l with
      | nil => cases ha
      | cons x l ih =>
        obtain ⟨n1, n2⟩ := List.nodup_cons.mp hd
        rcases List.mem_cons.mp ha with ha | ha <;> rcases List.mem_cons.mp hb with hb | hb
        · rw [← ha] at hb; injection hb with hb _; exact hb.symm
        · exact absurd (List.mem_map.mpr ⟨_, hb, by rw [← ha]; exact e.symm⟩) n1
        · exact absurd (List.mem_map.mpr ⟨_, ha, by rw [← hb]; exact e⟩) n1
        · exact ih n2 ha hb
    exact this ndl m1 m2
  · have := inL i L h2
    rcases List.mem_append.mp this with h | h
    · obtain ⟨p, hp, rfl⟩ := List.mem_map.mp h
      exact lt.1 p hp
    · exact lt.2 L h
  · have h1 := hrf i L hm
    obtain ⟨cs, h2⟩ := vs.box_mem _ h1
    exact ⟨lk_nodup (g1b _ h1) ndb, cs, gh' _ h2⟩
end
end Go.Proofs.Ytkpjeihgigmnkaa.Ev
/- Values without memory: the states at which the code is cut. -/
namespace Go.Proofs.Ytkpjeihgigmnkaa.Ev
open Go
set_option linter.unusedVariables false
set_option linter.unusedSimpArgs false
/-- What a slot holds at a cut: a value; an own row; an own block; a block that is pointed to; a function. -/
inductive Se where | v (slot : Nat) (t : Ty) | own (slot : Nat) (t : Ty) | ob (slot : Nat) (t : Ty) | box (slot id : Nat) (t : Ty) (off : Nat) (ow : OwL) | bx (id : Nat) (t : Ty) (ow : OwL) | fn (slot : Nat) (f : FuncId) (caps : List Nat)
section
variable (D : Tys)
@[reducible] def X : List Se → Type
  | [] => Unit
  | .v _ t :: l => T D.S t × X l
  | .own _ t :: l => List (T D.S t) × X l
  | .ob _ t :: l => T D.S t × X l
  | .box _ _ t _ _ :: l => T D.S t × X l
  | .bx _ t _ :: l => T D.S t × X l
  | .fn _ _ _ :: l => X l
def imL : (l : List Se) → X D l → List (Im D.S)
  | [], _ => []
  | .v s t :: l, (x, y) => .v s (encA D t x) :: imL l y
  | .own s t :: l, (x, y) => .own s (.lst t x) :: imL l y
  | .ob s t :: l, (x, y) => .own s (.fptr t [x] 0 0) :: imL l y
  | .box s id t off ow :: l, (x, y) => .box s id off ow (encL D t x) :: imL l y
  | .bx id t ow :: l, (x, y) => .bx id ow (encL D t x) :: imL l y
  | .fn s f caps :: l, y => .fn s f caps :: imL l y
/-- The state, worked out. -/
def stK {R : Type} (l : List Se) (x : X D l) (k : Tr (V D.S) → Tr (B D.S) → R) : R := mkTK (frI D (imL D l x)) fun fr => mkTK (hpI D (imL D l x)) fun hp => k fr hp
def isAggA {S : Nat → Type} : A S → Bool | .c _ => false | .agg _ => true
def eqN : List Nat → List Nat → Bool
  | [], [] => true
  | i :: l, j :: m => match Nat.beq i j with | true => eqN l m | false => false
  | _, _ => false
def inN (bs : List Nat) : List Nat → Bool
  | [] => true
  | i :: l => match bs.elem i with | true => inN bs l | false => false
/-- What a state is at a cut; which numbers are somebody's own; which boxes there are; which rows are read. -/
def decSh : (l : List Se) → Tr (V D.S) → Tr (B D.S) → Option (X D l × List Nat × List Nat × List Nat)
  | [], _, _ => some ((), [], [], [])
  | .v s t :: l, fr, hp => match fr.get s with
    | some (.a a) => match resL hp a.cells, isAggA a == isAgg t with
      | some cs, true => match decL D t cs with
        | some x => match decSh l fr hp with
          | some (y, is, bs, os) => some ((x, y), is, bs, ownsL a.cells ++ os)
          | none => none
        | none => none
      | _, _ => none
    | _ => none
  | .own s t :: l, fr, hp => match fr.get s with
    | some (.a (.c c)) => match frozC D 3000 hp none c with
      | some (i1, c') => match decC D (.sl t) c' with
        | some x => match decSh l fr hp with
          | some (y, is, bs, os) => some ((x, y), i1 ++ is, bs, os)
          | none => none
        | none => none
      | none => none
    | _ => none
  | .ob s t :: l, fr, hp => match fr.get s with
    | some (.a (.c c)) => match frozC D 3000 hp (some t) c with
      | some (i1, c') => match decC D (.ptr t) c' with
        | some (some x) => match decSh l fr hp with
          | some (y, is, bs, os) => some ((x, y), i1 ++ is, bs, os)
          | none => none
        | _ => none
      | none => none
    | _ => none
  | .box s id t off ow :: l, fr, hp => match fr.get s with
    | some (.a (.c (.ptr id' off'))) => match Nat.beq id' id && Nat.beq off' off, hp.get id with
      | true, some (.box cs) => match frozL D 3000 hp ow 0 cs with
        | some (i1, o1, cs') => match decL D t cs' with
          | some x => match decSh l fr hp with
            | some (y, is, bs, os) => some ((x, y), i1 ++ is, id :: bs, o1 ++ os)
            | none => none
          | none => none
        | none => none
      | _, _ => none
    | _ => none
  | .bx id t ow :: l, fr, hp => match hp.get id with
    | some (.box cs) => match frozL D 3000 hp ow 0 cs with
      | some (i1, o1, cs') => match decL D t cs' with
        | some x => match decSh l fr hp with
          | some (y, is, bs, os) => some ((x, y), i1 ++ is, id :: bs, o1 ++ os)
          | none => none
        | none => none
      | none => none
    | _ => none
  | .fn s f caps :: l, fr, hp => match fr.get s with
    | some (.a (.c (.fn f' caps'))) => match Nat.beq f' f && eqN caps' caps, decSh l fr hp with
      | true, some (y, is, bs, os) => match inN bs caps with
        | true => some (y, is, bs, os)
        | false => none
      | _, _ => none
    | _ => none
/-- At a cut: the state in its form, handed on. -/
def cutK {R : Type} (l : List Se) (fr : Tr (V D.S)) (hp : Tr (B D.S)) (k : X D l → Option R) : Option R := match decSh D l fr hp with
  | some (x, is, bs, os) => match distinct (bs ++ is) && (apart is os && imOk D (imL D l x)) with | true => k x | false => none
  | none => none
end
section
variable {D : Tys} {P : Program}
variable {K : Kx D} {β : Nat → Option Loc} {F : Nat → Prop} {fr : Tr (V D.S)} {hp : Tr (B D.S)} {a : Act} {w : World}
theorem encA_rpa (lw : Lawful D P) {w F} {t : Ty} {x : T D.S t} {cs : List (C D.S)} (hd : decL D t cs = some x) {a : A D.S} {v : Value} (hagg : (∃ c, a = .c c ∧ ∃ c', cs = [c'] ∧ RP D w F c' v) ∨ ∃ cs0, a = .agg cs0 ∧ ∃ vs, v = .agg vs ∧ PL w F cs vs.toList)
    (hty : isAggA a = isAgg t) : RPA D w F (encA D t x) v := by
  obtain ⟨le1, le2⟩ := decL_le lw hd
  have one : ∀ c, encL D t x = [c] → encA D t x = .c c → isAgg t = false → RPA D w F (encA D t x) v := fun c e1 e2 e3 => by
    rcases hagg with ⟨c, rfl, c', rfl, rp⟩ | ⟨cs0, rfl, _⟩
    · rw [e2]; exact le2 0 c' _ rfl (by rw [e1]; rfl) _ _ _ rp
    · rw [e3] at hty; cases hty
  cases t with
  | st n =>
    rcases hagg with ⟨c, rfl, _⟩ | ⟨cs0, rfl, vs, rfl, pl1, pl2⟩
    · cases hty
    · refine ⟨vs, rfl, ?_, fun j y u hy hu => ?_⟩
      · rw [← pl1, le1]; exact lw.len n x
      · have hj : j < cs.length := by rw [pl1]; exact (List.getElem?_eq_some_iff.mp hu).1
        have hc := List.getElem?_eq_getElem hj
        exact le2 j _ y hc hy _ _ _ (pl2 j _ u hc hu)
  | int k => exact one _ rfl rfl rfl
  | bool => exact one _ rfl rfl rfl
  | str => exact one _ rfl rfl rfl
  | sl t => exact one _ rfl rfl rfl
  | ptr t => cases x <;> exact one _ rfl rfl rfl
theorem RO.ceq {w F} {c c' : C D.S} {v : Value} {Bs : List Loc} (h : RO D w F c v Bs) (q : Ceq c c') : RO D w F c' v Bs := by
  rcases q with rfl | ⟨rfl | rfl, t, rfl⟩
  · exact h
  · obtain ⟨rfl, rp⟩ := h
    cases rp
    exact .inl ⟨rfl, rfl, _, rfl⟩
  · exact h.elim
/-- The same cells, told a little less closely. -/
theorem ROL.ceq {w F} {own : OwL} {j : Nat} {cs : List (C D.S)} {vs : List Value} {Bs : List Loc} (r : ROL D w F own j cs vs Bs) : ∀ {cs' : List (C D.S)}, CQ cs cs' → ROL D w F own j cs' vs Bs := by
  induction r with
  | nil j =>
    intro cs' h
    obtain rfl : cs' = [] := List.length_eq_zero_iff.mp (by have := h.1; simpa using this.symm)
    exact .nil j
  | plain hj rp t ih =>
    intro cs' h
    match cs', h with
    | [], h => exact absurd h.1 (by simp)
    | c' :: cs', h =>
      refine .plain hj ((h.2 0 _ _ rfl rfl).le _ _ _ rp) (ih ⟨by simpa using h.1, fun i x y hx hy => h.2 (i + 1) x y (by simpa using hx) (by simpa using hy)⟩)
  | own hj ro t ih =>
    intro cs' h
    match cs', h with
    | [], h => exact absurd h.1 (by simp)
    | c' :: cs', h =>
      refine .own hj (ro.ceq (h.2 0 _ _ rfl rfl)) (ih ⟨by simpa using h.1, fun i x y hx hy => h.2 (i + 1) x y (by simpa using hx) (by simpa using hy)⟩)
/-- At a cut the state is told by value. -/
theorem eqN_eq : ∀ {l m : List Nat}, eqN l m = true → l = m
  | [], [], _ => rfl
  | [], _ :: _, h => by cases h
  | _ :: _, [], h => by cases h
  | i :: l, j :: m, h => by
    simp only [eqN] at h
    split at h
    · rename_i hb
      rw [Nat.eq_of_beq_eq_true hb, eqN_eq h]
    · cases h
theorem dec_ok (lw : Lawful D P) (s : Sim K β F fr hp a w) {F1 : Nat → Prop} (hF : ∀ b, F b → F1 b) : ∀ (l : List Se) (x : X D l) (is bs os : List Nat), decSh D l fr hp = some (x, is, bs, os) → (∀ id ∈ os, ∀ L, β id = some L → F1 L.b) →
    ∃ bx Os, VS D w F1 (fun i => a.tmps.getD i undef) (imL D l x) bx Os ∧ bx.map (·.1) = bs ∧ (∀ p ∈ bx, β p.1 = some p.2 ∧ ∃ cs, hp.get p.1 = some (.box cs)) ∧ (locs Os).Sublist (locs (is.filterMap β)) ∧ (∀ id ∈ is, OwnId 3000 hp id) ∧ (∀ id ∈ os, ∃ t l, hp.get id = some (.arr t l))
  | [], x, is, bs, os, h, ho => by
    simp only [decSh, Option.some.injEq, Prod.mk.injEq] at h
    obtain ⟨_, rfl, rfl, rfl⟩ := h
    exact ⟨[], [], .nil, rfl, fun p h => (by cases h), List.nil_sublist _, fun p h => (by cases h), fun p h => (by cases h)⟩
  | .v sl t :: l, (x, y), is, bs, os, h, ho => by
    simp only [decSh] at h
    split at h
    · rename_i q hq
      split at h
      · rename_i cs hcs hty
        split at h
        · rename_i x' hx'
          split at h
          · rename_i y' is' bs' os' hrec
            simp only [Option.some.injEq, Prod.mk.injEq] at h
            obtain ⟨⟨rfl, rfl⟩, rfl, rfl, rfl⟩ := h
            obtain ⟨bx, Os, g1, g2, g3, g4, g5, g6⟩ := dec_ok lw s hF l y' is' bs' os' hrec (fun id hi => ho id (List.mem_append_right _ hi))
            have r0 := s.frm sl _ hq
            have own : ∀ id ∈ ownsL q.cells, ∃ t l, hp.get id = some (.arr t l) := fun id hi => by
              cases q with
              | c c => exact ownsL_arr (w := w) (F := F) (β := β) (cs := [c]) (vs := [_]) ⟨rfl, fun j y u hy hu => by
                  cases j with
                  | zero => simp at hy hu; subst hy; subst hu; exact r0
                  | succ j => simp at hy⟩ id hi
              | agg cs => obtain ⟨us, _, rl⟩ := r0; exact ownsL_arr rl id hi
            refine ⟨bx, Os, .v (encA_rpa lw hx' (a := q) ?_ (by simpa using hty)) g1, g2, g3, g4, g5, fun id hi => (List.mem_append.mp hi).elim (own id) (g6 id)⟩
            · cases q with
              | c c =>
                left
                have hcs' := hcs
                simp only [A.cells, resL] at hcs'
                split at hcs'
                · rename_i c' hc'
                  obtain rfl := Option.some.inj hcs'
                  exact ⟨c, rfl, c', rfl, resC_ok lw hF s.blk r0 hc' (fun id hi => ho id (List.mem_append_left _ (by rw [ownsL_eq]; simpa [A.cells] using hi)))⟩
                · cases hcs'
              | agg cs0 =>
                right
                obtain ⟨us, e, rl⟩ := r0
                exact ⟨cs0, rfl, us, e, resL_ok lw hF s.blk rl hcs (fun id hi => ho id (List.mem_append_left _ hi))⟩
          · cases h
        · cases h
      · cases h
    · cases h
  | .own sl t :: l, (x, y), is, bs, os, h, ho => by
    simp only [decSh] at h
    split at h
    · rename_i c hq
      split at h
      · rename_i i1 c' hc
        split at h
        · rename_i x' hx'
          split at h
          · rename_i y' is' bs' os' hrec
            simp only [Option.some.injEq, Prod.mk.injEq] at h
            obtain ⟨⟨rfl, rfl⟩, rfl, rfl, rfl⟩ := h
            obtain ⟨bx, Os, g1, g2, g3, g4, g5, g6⟩ := dec_ok lw s hF l y' is' bs' os' hrec ho
            have r0 : RC D w F hp.get β c (a.tmps.getD sl undef) := s.frm sl _ hq
            obtain ⟨B1, k1, k2⟩ := frozC_ok lw hF s.blk r0 hc
            have q : Ceq c' (.lst t x') := decC_eq (t := .sl t) hx' (fun n e => by cases e) _ rfl
            refine ⟨bx, B1 ++ Os, .own (k1.ceq q) g1, g2, g3, ?_, fun id hi => (List.mem_append.mp hi).elim (frozC_own hc id) (g5 id), g6⟩
            · rw [locs_app, List.filterMap_append, locs_app]; exact k2.append g4
          · cases h
        · cases h
      · cases h
    · cases h
  | .ob sl t :: l, (x, y), is, bs, os, h, ho => by
    simp only [decSh] at h
    split at h
    · rename_i c hq
      split at h
      · rename_i i1 c' hc
        split at h
        · rename_i x' hx'
          split at h
          · rename_i y' is' bs' os' hrec
            simp only [Option.some.injEq, Prod.mk.injEq] at h
            obtain ⟨⟨rfl, rfl⟩, rfl, rfl, rfl⟩ := h
            obtain ⟨bx, Os, g1, g2, g3, g4, g5, g6⟩ := dec_ok lw s hF l y' is' bs' os' hrec ho
            have r0 : RC D w F hp.get β c (a.tmps.getD sl undef) := s.frm sl _ hq
            obtain ⟨B1, k1, k2⟩ := frozC_ok lw hF s.blk r0 hc
            have q : Ceq c' (.fptr t [x'] 0 0) := decC_eq (t := .ptr t) hx' (fun n e => by cases e) _ rfl
            refine ⟨bx, B1 ++ Os, .own (k1.ceq q) g1, g2, g3, ?_, fun id hi => (List.mem_append.mp hi).elim (frozC_own hc id) (g5 id), g6⟩
            · rw [locs_app, List.filterMap_append, locs_app]; exact k2.append g4
          · cases h
        · cases h
      · cases h
    · cases h
  | .box sl id t off ow :: l, (x, y), is, bs, os, h, ho => by
    simp only [decSh] at h
    split at h
    · rename_i id' off' hq
      split at h
      · rename_i cs hid hcs
        rw [Bool.and_eq_true] at hid
        obtain rfl := Nat.eq_of_beq_eq_true hid.1
        obtain rfl := Nat.eq_of_beq_eq_true hid.2
        split at h
        · rename_i i1 o1 cs' hf
          split at h
          · rename_i x' hx'
            split at h
            · rename_i y' is' bs' os' hrec
              simp only [Option.some.injEq, Prod.mk.injEq] at h
              obtain ⟨⟨rfl, rfl⟩, rfl, rfl, rfl⟩ := h
              obtain ⟨bx, Os, g1, g2, g3, g4, g5, g6⟩ := dec_ok lw s hF l y' is' bs' os' hrec (fun id hi => ho id (List.mem_append_right _ hi))
              have r0 : RC D w F hp.get β (.ptr id' off') (a.tmps.getD sl undef) := s.frm sl _ hq
              obtain ⟨cs0, L, q1, q2, q3⟩ := r0
              rw [hcs] at q1
              obtain rfl : cs = cs0 := by injection q1 with q1; injection q1
              obtain ⟨L', us, ty, b1, b2, b3, b4, b5⟩ := s.blk id' _ hcs
              rw [q2] at b1
              obtain rfl := Option.some.inj b1
              obtain ⟨⟨B1, k1, k2⟩, k3, k4⟩ := frozL_ok lw hF s.blk b5 hf (fun id hi => ho id (List.mem_append_left _ hi))
              refine ⟨(id', L) :: bx, B1 ++ Os, .box (by rw [q3, b3, Nat.zero_add]) ⟨b3, us, ty, b2, b4, k1.ceq (decL_cq lw hx')⟩ g1, by simp [g2], fun p hp => ?_, ?_, fun id hi => (List.mem_append.mp hi).elim (k3 id) (g5 id), fun id hi => (List.mem_append.mp hi).elim (k4 id) (g6 id)⟩
              · rcases List.mem_cons.mp hp with rfl | hp
                · exact ⟨q2, cs, hcs⟩
                · exact g3 p hp
              · rw [locs_app, List.filterMap_append, locs_app]; exact k2.append g4
            · cases h
          · cases h
        · cases h
      · cases h
    · cases h
  | .bx id t ow :: l, (x, y), is, bs, os, h, ho => by
    simp only [decSh] at h
    split at h
    · rename_i cs hcs
      split at h
      · rename_i i1 o1 cs' hf
        split at h
        · rename_i x' hx'
          split at h
          · rename_i y' is' bs' os' hrec
            simp only [Option.some.injEq, Prod.mk.injEq] at h
            obtain ⟨⟨rfl, rfl⟩, rfl, rfl, rfl⟩ := h
            obtain ⟨bx, Os, g1, g2, g3, g4, g5, g6⟩ := dec_ok lw s hF l y' is' bs' os' hrec (fun id hi => ho id (List.mem_append_right _ hi))
            obtain ⟨L, us, ty, b1, b2, b3, b4, b5⟩ := s.blk id _ hcs
            obtain ⟨⟨B1, k1, k2⟩, k3, k4⟩ := frozL_ok lw hF s.blk b5 hf (fun id hi => ho id (List.mem_append_left _ hi))
            refine ⟨(id, L) :: bx, B1 ++ Os, .bx ⟨b3, us, ty, b2, b4, k1.ceq (decL_cq lw hx')⟩ g1, by simp [g2], fun p hp => ?_, ?_, fun id hi => (List.mem_append.mp hi).elim (k3 id) (g5 id), fun id hi => (List.mem_append.mp hi).elim (k4 id) (g6 id)⟩
            · rcases List.mem_cons.mp hp with rfl | hp
              · exact ⟨b1, cs, hcs⟩
              · exact g3 p hp
            · rw [locs_app, List.filterMap_append, locs_app]; exact k2.append g4
          · cases h
        · cases h
      · cases h
    · cases h
  | .fn sl f caps :: l, y, is, bs, os, h, ho => by
    simp only [decSh] at h
    split at h
    · rename_i f' caps' hq
      split at h
      · rename_i y' is' bs' os' hf hrec
        rw [Bool.and_eq_true] at hf
        obtain rfl := Nat.eq_of_beq_eq_true hf.1
        obtain rfl := eqN_eq hf.2
        split at h
        · rename_i hin
          simp only [Option.some.injEq, Prod.mk.injEq] at h
          obtain ⟨rfl, rfl, rfl, rfl⟩ := h
          obtain ⟨bx, Os, g1, g2, g3, g4, g5, g6⟩ := dec_ok lw s hF l y' is' bs' os' hrec ho
          have r0 : RC D w F hp.get β (.fn f' caps') (a.tmps.getD sl undef) := s.frm sl _ hq
          obtain ⟨r1, r2⟩ := r0
          have key : ∀ {caps : List Nat}, inN bs' caps = true → ∃ Ls, CapsAt bx caps Ls ∧ (caps.map fun i => Value.pointer ((β i).map fun L => ⟨L.b, L.o, none⟩)) = Ls.map fun L => Value.pointer (some ⟨L.b, L.o, none⟩) := fun {caps} => by
            induction caps with
            | nil => exact fun _ => ⟨[], .nil, rfl⟩
            | cons i caps ih =>
              intro hin
              simp only [inN] at hin
              split at hin
              · rename_i he
                obtain ⟨Ls, q1, q2⟩ := ih hin
                rw [List.elem_eq_contains, List.contains_iff_mem, ← g2] at he
                obtain ⟨p, hp, e⟩ := List.mem_map.mp he
                have hb := (g3 p hp).1
                rw [e] at hb
                refine ⟨p.2 :: Ls, .cons (by rw [← e]; exact hp) q1, by rw [List.map_cons, List.map_cons, hb, q2]; rfl⟩
              · cases hin
          obtain ⟨Ls, q1, q2⟩ := key hin
          exact ⟨bx, Os, .fn (by rw [r1, q2]; rfl) q1 g1, g2, g3, g4, g5, g6⟩
        · cases h
      · cases h
    · cases h
/-- The blocks that a cut names. -/
def seIds : List Se → List Nat
  | [] => []
  | .box _ id _ _ _ :: l => id :: seIds l
  | .bx id _ _ :: l => id :: seIds l
  | _ :: l => seIds l
theorem dec_ids : ∀ (l : List Se) (x : X D l) (is bs os : List Nat), decSh D l fr hp = some (x, is, bs, os) → bs = seIds l
  | [], x, is, bs, os, h => by
    simp only [decSh, Option.some.injEq, Prod.mk.injEq] at h
    exact h.2.2.1.symm
  | .v sl t :: l, (x, y), is, bs, os, h => by
    simp only [decSh] at h
    split at h
    · split at h
      · split at h
        · split at h
          · rename_i hrec
            simp only [Option.some.injEq, Prod.mk.injEq] at h
            rw [← h.2.2.1]; exact dec_ids l _ _ _ _ hrec
          · cases h
        · cases h
      · cases h
    · cases h
  | .own sl t :: l, (x, y), is, bs, os, h => by
    simp only [decSh] at h
    split at h
    · split at h
      · split at h
        · split at h
          · rename_i hrec
            simp only [Option.some.injEq, Prod.mk.injEq] at h
            rw [← h.2.2.1]; exact dec_ids l _ _ _ _ hrec
          · cases h
        · cases h
      · cases h
    · cases h
  | .ob sl t :: l, (x, y), is, bs, os, h => by
    simp only [decSh] at h
    split at h
    · split at h
      · split at h
        · split at h
          · rename_i hrec
            simp only [Option.some.injEq, Prod.mk.injEq] at h
            rw [← h.2.2.1]; exact dec_ids l _ _ _ _ hrec
          · cases h
        · cases h
      · cases h
    · cases h
  | .box sl id t off ow :: l, (x, y), is, bs, os, h => by
    simp only [decSh] at h
    split at h
    · split at h
      · split at h
        · split at h
          · split at h
            · rename_i hrec
              simp only [Option.some.injEq, Prod.mk.injEq] at h
              rw [← h.2.2.1, dec_ids l _ _ _ _ hrec]; rfl
            · cases h
          · cases h
        · cases h
      · cases h
    · cases h
  | .bx id t ow :: l, (x, y), is, bs, os, h => by
    simp only [decSh] at h
    split at h
    · split at h
      · split at h
        · split at h
          · rename_i hrec
            simp only [Option.some.injEq, Prod.mk.injEq] at h
            rw [← h.2.2.1, dec_ids l _ _ _ _ hrec]; rfl
          · cases h
        · cases h
      · cases h
    · cases h
  | .fn sl f caps :: l, y, is, bs, os, h => by
    simp only [decSh] at h
    split at h
    · split at h
      · rename_i hrec
        split at h
        · simp only [Option.some.injEq, Prod.mk.injEq] at h
          rw [← h.2.2.1]; exact dec_ids l _ _ _ _ hrec
        · cases h
      · cases h
    · cases h
/-- A cut: the state in its form is as good. -/
theorem cut_ok (lw : Lawful D P) (s : Sim K β F fr hp a w) {R : Type} {r : R} {l : List Se} {k : X D l → Option R} (h : cutK D l fr hp k = some r)
    (hrf : ∀ i L, (i, L) ∈ K.refs → i ∈ seIds l) : ∃ x, k x = some r ∧ ∃ β2 F1, Sim K β2 F1 (mkT (frI D (imL D l x))) (mkT (hpI D (imL D l x))) a w := by
  unfold cutK at h
  split at h
  · rename_i x is bs os hx
    split at h
    · rename_i hc
      simp only [Bool.and_eq_true] at hc
      obtain ⟨hds, hap, hok⟩ := hc
      have hos : ∀ id ∈ os, ∃ t l, hp.get id = some (.arr t l) := by
        obtain ⟨_, _, _, _, _, _, _, g⟩ := dec_ok lw s (F1 := fun _ => True) (fun _ _ => trivial) l x is bs os hx (fun _ _ _ _ => trivial)
        exact g
      obtain ⟨bx, Os, g1, g2, g3, g4, g5, g6⟩ := dec_ok lw s (F1 := fun b => F b ∨ ∃ id ∈ os, ∃ L, β id = some L ∧ b = L.b) (fun b hb => .inl hb) l x is bs os hx (fun id hi L hL => .inr ⟨id, hi, L, hL, rfl⟩)
      have hnd := distinct_nodup hds
      have some_ : ∀ i ∈ bs ++ is, ∃ b, hp.get i = some b := fun i hi => by
        rcases List.mem_append.mp hi with hi | hi
        · rw [← g2] at hi
          obtain ⟨p, hp', rfl⟩ := List.mem_map.mp hi
          obtain ⟨_, cs, hc⟩ := g3 p hp'
          exact ⟨_, hc⟩
        · exact (g5 i hi).some
      have ebx : bs.filterMap β = bx.map (·.2) := by
        rw [← g2]
        clear g2 g1
        induction bx with
        | nil => rfl
        | cons p bx ih =>
          rw [List.map_cons, List.filterMap_cons, (g3 p List.mem_cons_self).1, List.map_cons, ih fun q hq => g3 q (List.mem_cons_of_mem _ hq)]
      have nd : (locs (bx.map (·.2) ++ Os)).Nodup := by
        have := s.nodupB hnd some_
        rw [List.filterMap_append, ebx, locs_app] at this
        rw [locs_app]
        exact this.sublist (List.Sublist.append (List.Sublist.refl _) g4)
      have nF1 : ∀ j b L, hp.get j = some b → β j = some L → j ∉ os → ¬ (F L.b ∨ ∃ id ∈ os, ∃ L', β id = some L' ∧ L.b = L'.b) := fun j b L h1 h2 h3 h4 => by
        rcases h4 with h4 | ⟨id, hi, L', hL', e⟩
        · exact (s.sep j b L h1 h2).1 h4
        · obtain ⟨t, q, hq⟩ := hos id hi
          exact h3 (s.inj j id _ _ L L' h1 hq h2 hL' e ▸ hi)
      have pick : ∀ L ∈ bx.map (·.2) ++ Os, ∃ j b L', hp.get j = some b ∧ β j = some L' ∧ L'.b = L.b ∧ j ∉ os := fun L hL => by
        rcases List.mem_append.mp hL with hL | hL
        · obtain ⟨p, hp', rfl⟩ := List.mem_map.mp hL
          obtain ⟨h1, cs, h2⟩ := g3 p hp'
          exact ⟨p.1, _, p.2, h2, h1, rfl, fun hm => by obtain ⟨t, q, hq⟩ := hos _ hm; rw [h2] at hq; cases hq⟩
        · obtain ⟨i, hi, L', hL', e⟩ := mem_locs (g4.subset (List.mem_map.mpr ⟨L, hL, rfl⟩))
          obtain ⟨b, hb⟩ := (g5 i hi).some
          exact ⟨i, b, L', hb, hL', e, apart_at hap i hi⟩
      obtain ⟨β2, s2⟩ := build_ok (K := K) lw g1 hok s.sz s.df (fun L hL => by
          obtain ⟨j, b, L', h1, h2, e, h3⟩ := pick L hL
          rw [← e]
          exact ⟨nF1 j b L' h1 h2 h3, s.gsep j b L' h1 h2⟩) nd (fun b hb => by
          rcases hb with hb | ⟨id, hi, L, hL, rfl⟩
          · exact s.old b hb
          · obtain ⟨t, q, hq⟩ := hos id hi
            exact (s.sep id _ L hq hL).2) s.keep (fun b hb => by
          rcases hb with hb | ⟨id, hi, L, hL, rfl⟩
          · exact s.fsub b hb
          · obtain ⟨t, q, hq⟩ := hos id hi
            exact s.freshF hq hL (OwnId.nref s (.inl ⟨t, q, hq⟩))) s.w0 (fun i L hm => by
          have hi := hrf i L hm
          rw [← dec_ids l x is bs os hx, ← g2] at hi
          obtain ⟨p, hp', e⟩ := List.mem_map.mp hi
          obtain ⟨h1, _⟩ := g3 p hp'
          have h2 := (s.refs i L hm).1
          rw [e, h2] at h1
          have ep : p = (i, L) := by
            obtain ⟨p1, p2⟩ := p
            simp only at e h1
            rw [e, Option.some.inj h1]
          rw [ep] at hp'
          exact hp')
      exact ⟨x, h, β2, _, s2⟩
    · cases h
  · cases h
end
end Go.Proofs.Ytkpjeihgigmnkaa.Ev
