/- Values without memory: what an operation looks at, what it turns. -/
import Derived.Test.YtalgppclaolonaaEv22
namespace Go.Proofs.Ytalgppclaolonaa.Ev
open Go
set_option linter.unusedVariables false
set_option linter.unusedSimpArgs false
section
variable {S : Nat → Type}
theorem appN_eq : ∀ (a b : List Nat), appN a b = a ++ b
  | [], b => rfl
  | i :: a, b => by simp [appN, appN_eq a b]
theorem idsL_mem {c : C S} {cs : List (C S)} (h : c ∈ cs) {i : Nat} (hi : i ∈ idsC c) : i ∈ idsL cs := by
  induction cs with
  | nil => cases h
  | cons d cs ih =>
    simp only [idsL, appN_eq, List.mem_append]
    rcases List.mem_cons.mp h with rfl | h
    · exact .inl hi
    · exact .inr (ih h)
end
theorem slotsL_mem {t : Tmp} {l : List Operand} (h : Operand.tmp t ∈ l) : t ∈ slotsL l := by
  induction l with
  | nil => cases h
  | cons x l ih =>
    rcases List.mem_cons.mp h with e | m
    · subst e; exact List.mem_cons_self
    · cases x <;> simp only [slotsL] <;> first | exact List.mem_cons_of_mem _ (ih m) | exact ih m
section
variable {D : Tys} {R : Type} {fr fr2 : Tr (V D.S)} {hp hp2 : Tr (B D.S)}
/-- Two states that agree in some slots, in some blocks. -/
def AgF (S : List Nat) (fr fr2 : Tr (V D.S)) : Prop := ∀ t ∈ S, fr2.get t = fr.get t
def AgH (S : List Nat) (hp hp2 : Tr (B D.S)) : Prop := ∀ t ∈ S, hp2.get t = hp.get t
theorem ev_ag {l : List Operand} (h : AgF (slotsL l) fr fr2) {x : Operand} (hx : x ∈ l) : ev fr2 x = ev fr x := by
  cases x with
  | tmp t => exact h t (slotsL_mem hx)
  | _ => rfl
theorem evA_ag {l : List Operand} (h : AgF (slotsL l) fr fr2) {x : Operand} (hx : x ∈ l) : evA fr2 x = evA fr x := by unfold evA; rw [ev_ag h hx]
theorem evC_ag {l : List Operand} (h : AgF (slotsL l) fr fr2) {x : Operand} (hx : x ∈ l) : evC fr2 x = evC fr x := by unfold evC; rw [ev_ag h hx]
theorem evAs_ag {l : List Operand} (h : AgF (slotsL l) fr fr2) : ∀ {m : List Operand}, (∀ x ∈ m, x ∈ l) → evAs D fr2 m = evAs D fr m
  | [], _ => rfl
  | x :: m, hm => by simp only [evAs]; rw [evA_ag h (hm x List.mem_cons_self), evAs_ag h fun y hy => hm y (List.mem_cons_of_mem _ hy)]
theorem evParts_ag {l : List Operand} (h : AgF (slotsL l) fr fr2) : ∀ {m : List (Nat × Operand)}, (∀ x ∈ m, x.2 ∈ l) → evParts D fr2 m = evParts D fr m
  | [], _ => rfl
  | (i, x) :: m, hm => by
    have hx : x ∈ l := hm (i, x) List.mem_cons_self
    simp only [evParts]; rw [evA_ag h hx, evParts_ag h fun y hy => hm y (List.mem_cons_of_mem _ hy)]
theorem capIds_ag {l : List Operand} (h : AgF (slotsL l) fr fr2) : ∀ {m : List Operand}, (∀ x ∈ m, x ∈ l) → capIds D fr2 m = capIds D fr m
  | [], _ => rfl
  | x :: m, hm => by simp only [capIds]; rw [evC_ag h (hm x List.mem_cons_self), capIds_ag h fun y hy => hm y (List.mem_cons_of_mem _ hy)]
theorem optI_ag {l : List Operand} (h : AgF (slotsL l) fr fr2) {o : Option Operand} (ho : ∀ x, o = some x → x ∈ l) : optI D fr2 o = optI D fr o := by
  cases o with
  | none => rfl
  | some x => simp only [optI]; rw [evC_ag h (ho x rfl)]
theorem resC_ag {c : C D.S} (h : AgH (idsC c) hp hp2) : resC hp2 c = resC hp c := by
  cases c <;> simp only [resC] <;> first
    | (rw [h _ List.mem_cons_self]; done)
    | rfl
    | skip
  rename_i f caps
  cases caps <;> rfl
theorem AgH.mono {S S' : List Nat} (h : AgH S hp hp2) (hs : ∀ i ∈ S', i ∈ S) : AgH S' hp hp2 := fun i hi => h i (hs i hi)
theorem resL_ag : ∀ {cs : List (C D.S)}, AgH (idsL cs) hp hp2 → resL hp2 cs = resL hp cs
  | [], _ => rfl
  | c :: cs, h => by
    simp only [idsL, appN_eq] at h
    simp only [resL]
    rw [resC_ag (h.mono fun i hi => List.mem_append_left _ hi), resL_ag (h.mono fun i hi => List.mem_append_right _ hi)]
theorem resA_ag {x : A D.S} (h : AgH (idsL x.cells) hp hp2) : resA hp2 x = resA hp x := by
  cases x with
  | c c => simp only [resA]; rw [resC_ag (h.mono fun i hi => by simpa [A.cells, idsL, appN_eq] using hi)]
  | agg cs => simp only [resA]; rw [resL_ag (cs := cs) h]
theorem lenC_ag {d : TD} {c : C D.S} (h : AgH (idsC c) hp hp2) : lenC D hp2 d c = lenC D hp d c := by
  cases d <;> cases c <;> simp only [lenC] <;> (rw [h _ List.mem_cons_self])
theorem loadA_ag {ti : TI D.S} {c : C D.S} (h : AgH (idsC c) hp hp2) : loadA D hp2 ti c = loadA D hp ti c := by
  cases c <;> simp only [loadA] <;> (rw [h _ List.mem_cons_self])
theorem storeB_ag {ti : TI D.S} {c : C D.S} {x : A D.S} (h : AgH (idsC c) hp hp2) : storeB D hp2 ti c x = storeB D hp ti c x := by
  unfold storeB
  split
  · rfl
  · cases c <;> simp only <;> (rw [h _ List.mem_cons_self])
theorem elems_ag {t : Ty} {c : C D.S} (h : AgH (idsC c) hp hp2) : elems D hp2 t c = elems D hp t c := by
  cases c <;> simp only [elems] <;> (rw [h _ List.mem_cons_self])
theorem srcL_ag {t : Ty} {c : C D.S} (h : AgH (idsC c) hp hp2) : srcL D hp2 t c = srcL D hp t c := by
  unfold srcL
  split
  · rfl
  · exact elems_ag h
theorem grow_ag {t : Ty} {c : C D.S} (h : AgH (idsC c) hp hp2) : grow D t hp2 c = grow D t hp c := by
  cases c <;> simp only [grow] <;> (rw [h _ List.mem_cons_self])
def idsP : List (Nat × A D.S) → List Nat
  | [] => []
  | (_, x) :: l => appN (idsL x.cells) (idsP l)
theorem decParts_ag {t : Ty} : ∀ {ps : List (Nat × A D.S)}, AgH (idsP ps) hp hp2 → decParts D hp2 t ps = decParts D hp t ps
  | [], _ => rfl
  | (i, x) :: ps, h => by
    simp only [idsP, appN_eq] at h
    simp only [decParts]
    rw [resL_ag (h.mono fun i hi => List.mem_append_left _ hi), decParts_ag (h.mono fun i hi => List.mem_append_right _ hi)]
theorem idsBs_mem {hp : Tr (B D.S)} {i : Nat} {b : B D.S} (hb : hp.get i = some b) : ∀ {l : List Nat}, i ∈ l → ∀ j ∈ idsB b, j ∈ idsBs hp l
  | x :: l, h, j, hj => by
    rcases List.mem_cons.mp h with rfl | h
    · simp only [idsBs, hb, appN_eq, List.mem_append]; exact .inl hj
    · have := idsBs_mem hb h j hj
      simp only [idsBs]
      split
      · rw [appN_eq]; exact List.mem_append_right _ this
      · exact this
theorem callArgs_ag : ∀ {ps : List PM} {xs : List (A D.S)}, AgH (idsAs xs) hp hp2 → AgH (idsBs hp (idsAs xs)) hp hp2 → callArgs D hp2 ps xs = callArgs D hp ps xs
  | [], [], _, _ => rfl
  | [], _ :: _, _, _ => rfl
  | .val :: ps, [], _, _ => rfl
  | .ref :: ps, [], _, _ => rfl
  | .val :: ps, x :: xs, h, h2 => by
    simp only [idsAs, appN_eq] at h
    simp only [callArgs]
    rw [resA_ag (h.mono fun i hi => List.mem_append_left _ hi), callArgs_ag (h.mono fun i hi => List.mem_append_right _ hi) (h2.mono fun i hi => by
      have key : ∀ l m : List Nat, i ∈ idsBs hp m → i ∈ idsBs hp (l ++ m) := fun l m hm => by
        induction l with
        | nil => exact hm
        | cons y l ih =>
          simp only [List.cons_append, idsBs]
          split
          · rw [appN_eq]; exact List.mem_append_right _ ih
          · exact ih
      simp only [idsAs, appN_eq]
      exact key _ _ hi)]
  | .ref :: ps, x :: xs, h, h2 => by
    have h' := h
    simp only [idsAs, appN_eq] at h'
    have hrec := callArgs_ag (ps := ps) (xs := xs) (h'.mono fun i hi => List.mem_append_right _ hi) (h2.mono fun i hi => by
      have key : ∀ l m : List Nat, i ∈ idsBs hp m → i ∈ idsBs hp (l ++ m) := fun l m hm => by
        induction l with
        | nil => exact hm
        | cons y l ih =>
          simp only [List.cons_append, idsBs]
          split
          · rw [appN_eq]; exact List.mem_append_right _ ih
          · exact ih
      simp only [idsAs, appN_eq]
      exact key _ _ hi)
    cases x with
    | agg cs => rfl
    | c c =>
      cases c with
      | ptr id off =>
        cases off with
        | succ n => rfl
        | zero =>
          have hid : id ∈ idsAs (A.c (.ptr id 0) :: xs) := by simp [idsAs, A.cells, idsL, idsC, appN_eq]
          simp only [callArgs]
          rw [h id hid]
          cases hg : hp.get id with
          | none => rfl
          | some b =>
            cases b with
            | arr t l => rfl
            | box cs =>
              simp only
              rw [resL_ag (h2.mono fun i hi => idsBs_mem hg hid i hi), hrec]
      | _ => rfl
end
end Go.Proofs.Ytalgppclaolonaa.Ev
