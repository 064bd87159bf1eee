/- Values without memory: what is own is told by value, or let go; rows that are made. -/
import Derived.Test.YtalgppclaolonaaEv5
namespace Go.Proofs.Ytalgppclaolonaa.Ev
open Go
set_option linter.unusedVariables false
set_option linter.unusedSimpArgs false
section
variable {D : Tys} {P : Program}
def frzF (id : Nat) (t : Ty) (l : List (T D.S t)) : C D.S → C D.S
  | .own i => if i = id then .lst t l else .own i
  | .part i off n => if i = id then .lst t ((l.drop off).take n) else .part i off n
  | .eptr i e off => if i = id then .fptr t l e off else .eptr i e off
  | .ptr i off => if i = id then .any else .ptr i off
  | c => c
def killF (id : Nat) : C D.S → C D.S
  | .own i => if i = id then .any else .own i
  | .part i off n => if i = id then .any else .part i off n
  | .eptr i e off => if i = id then .any else .eptr i e off
  | .ptr i off => if i = id then .any else .ptr i off
  | .fn f caps => if id ∈ caps then .any else .fn f caps
  | c => c
theorem ne_of_beq {i j : Nat} (h : Nat.beq i j = false) : i ≠ j := fun e => by subst e; rw [Nat.beq_refl] at h; cases h
theorem frzC_eq {R : Type} (id : Nat) (t : Ty) (l : List (T D.S t)) (c : C D.S) (k : C D.S → R) : frzC id t l c k = k (frzF id t l c) := by
  cases c <;> simp only [frzC, frzF] <;> (try rfl)
  all_goals
    split
    · rename_i hb; rw [if_pos (Nat.eq_of_beq_eq_true hb)]
    · rename_i hb; rw [if_neg (ne_of_beq hb)]
theorem killC_eq {R : Type} (id : Nat) (c : C D.S) (k : C D.S → R) : killC id c k = k (killF id c) := by
  cases c with
  | fn f caps =>
    simp only [killC, killF]
    by_cases h : id ∈ caps
    · rw [List.elem_eq_contains, List.contains_iff_mem.mpr h, if_pos h]
    · rw [List.elem_eq_contains, if_neg h, Bool.eq_false_iff.mpr (fun e => h (List.contains_iff_mem.mp e))]
  | own _ => simp only [killC, killF]; split <;> rename_i hb <;> first | rw [if_pos (Nat.eq_of_beq_eq_true hb)] | rw [if_neg (ne_of_beq hb)]
  | part _ _ _ => simp only [killC, killF]; split <;> rename_i hb <;> first | rw [if_pos (Nat.eq_of_beq_eq_true hb)] | rw [if_neg (ne_of_beq hb)]
  | eptr _ _ _ => simp only [killC, killF]; split <;> rename_i hb <;> first | rw [if_pos (Nat.eq_of_beq_eq_true hb)] | rw [if_neg (ne_of_beq hb)]
  | ptr _ _ => simp only [killC, killF]; split <;> rename_i hb <;> first | rw [if_pos (Nat.eq_of_beq_eq_true hb)] | rw [if_neg (ne_of_beq hb)]
  | _ => rfl
theorem mapLK_eq {R : Type} (f : C D.S → (C D.S → R) → R) (g : C D.S → C D.S) (h : ∀ c k, f c k = k (g c)) : ∀ (cs : List (C D.S)) (k : List (C D.S) → R), mapLK f cs k = k (cs.map g)
  | [], k => rfl
  | c :: cs, k => by simp only [mapLK]; rw [h, mapLK_eq f g h cs]; rfl
theorem mapAK_eq {R : Type} (f : C D.S → (C D.S → R) → R) (g : C D.S → C D.S) (h : ∀ c k, f c k = k (g c)) (x : A D.S) (k : A D.S → R) : mapAK f x k = k (mapA g x) := by
  cases x with
  | c c => simp only [mapAK]; rw [h]; rfl
  | agg cs => simp only [mapAK]; rw [mapLK_eq f g h]; rfl
theorem mapALK_eq {R : Type} (f : C D.S → (C D.S → R) → R) (g : C D.S → C D.S) (h : ∀ c k, f c k = k (g c)) : ∀ (l : List (A D.S)) (k : List (A D.S) → R), mapALK f l k = k (l.map (mapA g))
  | [], k => rfl
  | c :: cs, k => by simp only [mapALK]; rw [mapAK_eq f g h, mapALK_eq f g h cs]; rfl
theorem mapVK_eq {R : Type} (f : C D.S → (C D.S → R) → R) (g : C D.S → C D.S) (h : ∀ c k, f c k = k (g c)) (x : V D.S) (k : V D.S → R) : mapVK f x k = k (mapV g x) := by
  cases x with
  | a c => simp only [mapVK]; rw [mapAK_eq f g h]; rfl
  | tup cs => simp only [mapVK]; rw [mapALK_eq f g h]; rfl
theorem mapBK_eq {R : Type} (f : C D.S → (C D.S → R) → R) (g : C D.S → C D.S) (h : ∀ c k, f c k = k (g c)) (x : B D.S) (k : B D.S → R) : mapBK f x k = k (mapB g x) := by
  cases x with
  | box c => simp only [mapBK]; rw [mapLK_eq f g h]; rfl
  | arr t l => rfl
theorem frzK_eq {R : Type} {id : Nat} {fr : Tr (V D.S)} {hp : Tr (B D.S)} {k : Tr (V D.S) → Tr (B D.S) → Option R} {t : Ty} {l : List (T D.S t)} (h : hp.get id = some (.arr t l)) :
    frzK id fr hp k = k (fr.map (mapV (frzF id t l))) ((hp.set depth id none).map (mapB (frzF id t l))) := by
  unfold frzK
  rw [h]
  simp only []
  rw [Tr.mapK_eq _ _ (fun a k => mapVK_eq _ _ (frzC_eq id t l) a k), Tr.setK_eq, Tr.mapK_eq _ _ (fun a k => mapBK_eq _ _ (frzC_eq id t l) a k)]
theorem killK_eq {R : Type} {id : Nat} {fr : Tr (V D.S)} {hp : Tr (B D.S)} {k : Tr (V D.S) → Tr (B D.S) → Option R} :
    killK id fr hp k = k (fr.map (mapV (killF id))) ((hp.set depth id none).map (mapB (killF id))) := by
  unfold killK
  rw [Tr.mapK_eq _ _ (fun a k => mapVK_eq _ _ (killC_eq id) a k), Tr.setK_eq, Tr.mapK_eq _ _ (fun a k => mapBK_eq _ _ (killC_eq id) a k)]

/-! ### by value -/
def ownsC : C D.S → List Nat
  | .own id => [id]
  | .part id _ _ => [id]
  | .eptr id _ _ => [id]
  | _ => []
theorem ownsL_eq : ∀ (cs : List (C D.S)), ownsL cs = cs.flatMap ownsC
  | [] => rfl
  | c :: cs => by cases c <;> simp [ownsL, ownsC, ownsL_eq cs]
/-- The row's elements as they lie in memory. -/
theorem arr_f (lw : Lawful D P) {w F h β id} {t : Ty} {l : List (T D.S t)} (r : RB D w F h β id (.arr t l)) {L : Loc} (hL : β id = some L) :
    ∃ (vs : Array Value) (e : TypeId) (f : Nat → Nat → Value), w.heap[L.b]? = some (.cells vs e (0, 0)) ∧ vs.size = L.n ∧ L.o + l.length * size D t ≤ L.n ∧
      (∀ i j, i < l.length → j < size D t → w.cell? ⟨L.b, L.o + i * size D t + j, none⟩ = some (f i j)) ∧
      (∀ i (hi : i < l.length) (j : Nat) x, (encL D t (l[i]'hi))[j]? = some x → RP D w F x (f i j)) := by
  rcases r with ⟨h1, _⟩ | ⟨L', vs, e, h1, h2, h3, h4, h5⟩
  · rw [hL] at h1; cases h1
  rw [hL] at h1
  obtain rfl := Option.some.inj h1
  refine ⟨vs, e, fun i j => (vs[L.o + i * size D t + j]?).getD undef, h2, h3, h4, fun i j hi hj => ?_, fun i hi j x hx => ?_⟩
  · have hl : j < (encL D t (l[i]'hi)).length := by rw [encL_len lw]; exact hj
    obtain ⟨v, hv, _⟩ := h5 i hi j _ (List.getElem?_eq_getElem hl)
    simp only [cell_of h2, hv, Option.getD_some]
  · obtain ⟨v, hv, r⟩ := h5 i hi j x hx
    simp only [hv]; exact r
theorem arr_lst (lw : Lawful D P) {w F h β id} {F' : Nat → Prop} (hF : ∀ b, F b → F' b) {t : Ty} {l : List (T D.S t)} (r : RB D w F h β id (.arr t l)) {L : Loc} (hL : β id = some L) (hb : F' L.b) {off n cap : Nat}
    (hn : off + n ≤ l.length) (hc : n ≤ cap) : RP D w F' (.lst t ((l.drop off).take n)) (.slice (some ⟨L.b, L.o + off * size D t, none⟩) n cap) := by
  obtain ⟨vs, e, f, h2, h3, h4, h5, h6⟩ := arr_f lw r hL
  have hlen : ((l.drop off).take n).length = n := by rw [List.length_take, List.length_drop]; omega
  have key := RP.lst (D := D) (w := w) (F := F') t ((l.drop off).take n) L.b (L.o + off * size D t) cap (fun i j => f (off + i) j) hb (by rw [hlen]; exact hc)
    (fun i j hi hj => by
      rw [hlen] at hi
      have := h5 (off + i) j (by omega) hj
      rw [← this, show L.o + off * size D t + i * size D t + j = L.o + (off + i) * size D t + j by rw [Nat.add_mul]; omega])
    (fun i hi j x hx => by
      have hi' : i < n := by rw [hlen] at hi; exact hi
      have e : ((l.drop off).take n)[i]'hi = l[off + i]'(by omega) := by rw [List.getElem_take, List.getElem_drop]
      rw [e] at hx
      exact RP.mono D (fun b hb => ⟨hF b hb, rfl⟩) (h6 (off + i) (by omega) j x hx))
  rw [hlen] at key
  exact key
theorem resC_ok (lw : Lawful D P) {w F} {F' : Nat → Prop} {hp : Tr (B D.S)} {β} (hF : ∀ b, F b → F' b) (hb : ∀ i b, hp.get i = some b → RB D w F hp.get β i b) {c c' : C D.S} {v : Value} (r : RC D w F hp.get β c v) (e : resC hp c = some c')
    (hlive : ∀ id ∈ ownsC c, ∀ L, β id = some L → F' L.b) : RP D w F' c' v := by
  have up : ∀ {c : C D.S} {v : Value}, RP D w F c v → RP D w F' c v := fun r => RP.mono D (fun b hb => ⟨hF b hb, rfl⟩) r
  cases c with
  | own id =>
    simp only [resC] at e
    split at e
    · rename_i t l hl
      obtain rfl := Option.some.inj e
      obtain ⟨t2, l2, h1, r⟩ := r
      rw [hl] at h1
      injection h1 with h1
      injection h1 with h4 h5
      subst h4
      obtain rfl := eq_of_heq h5
      rcases r with ⟨_, rfl, a, rfl⟩ | ⟨L, cap, b1, r1, r2, rfl⟩
      · exact .lst0 _ _ _
      · have := arr_lst lw hF (hb id _ hl) b1 (hlive id (by simp [ownsC]) L b1) (off := 0) (n := l.length) (cap := cap) (by omega) r1
        rw [List.drop_zero, List.take_of_length_le (Nat.le_refl _), Nat.zero_mul, Nat.add_zero] at this
        exact this
    · cases e
  | part id off n =>
    simp only [resC] at e
    split at e
    · rename_i t l hl
      obtain rfl := Option.some.inj e
      obtain ⟨t2, l2, h1, h2, r⟩ := r
      rw [hl] at h1
      injection h1 with h1
      injection h1 with h4 h5
      subst h4
      obtain rfl := eq_of_heq h5
      have e0 : ∀ k : Nat, k = 0 → ∀ a, n ≤ k → RP D w F' (.lst t ((l.drop off).take n)) (.slice a 0 0) := fun k hk a hn => by
        obtain rfl : n = 0 := by omega
        rw [List.take_zero]; exact .lst0 _ _ _
      rcases r with ⟨b0, a, rfl⟩ | ⟨L, cap, b1, r1, r2, rfl | ⟨rfl, a, rfl⟩⟩
      · rcases hb id _ hl with ⟨_, rfl⟩ | ⟨L', _, _, h1, _⟩
        · exact e0 0 rfl a (by simp at h2; omega)
        · rw [b0] at h1; cases h1
      · exact arr_lst lw hF (hb id _ hl) b1 (hlive id (by simp [ownsC]) L b1) h2 r1
      · exact e0 0 rfl a r1
    · cases e
  | eptr id e' off =>
    simp only [resC] at e
    split at e
    · rename_i t l hl
      obtain rfl := Option.some.inj e
      obtain ⟨t2, l2, L, h1, b1, h2, rfl⟩ := r
      rw [hl] at h1
      injection h1 with h1
      injection h1 with h4 h5
      subst h4
      obtain rfl := eq_of_heq h5
      obtain ⟨vs, ee, f, g2, g3, g4, g5, g6⟩ := arr_f lw (hb id _ hl) b1
      exact .fptr t l e' off L.b L.o f (hlive id (by simp [ownsC]) L b1) h2 g5 (fun i hi j x hx => up (g6 i hi j x hx))
    · cases e
  | any => cases e
  | ptr id off => cases e
  | fn f caps =>
    match caps, e with
    | [], e =>
      obtain rfl := Option.some.inj e
      obtain ⟨rfl, _⟩ := r
      exact .fn f
  | int k n => obtain rfl := Option.some.inj e; exact up r
  | bool b => obtain rfl := Option.some.inj e; exact up r
  | str s => obtain rfl := Option.some.inj e; exact up r
  | nilp => obtain rfl := Option.some.inj e; exact up r
  | nils => obtain rfl := Option.some.inj e; exact up r
  | emp => obtain rfl := Option.some.inj e; exact up r
  | lst t l => obtain rfl := Option.some.inj e; exact up r
  | fptr t l i o => obtain rfl := Option.some.inj e; exact up r
  | nili => obtain rfl := Option.some.inj e; exact up r
  | err t k n => obtain rfl := Option.some.inj e; exact up r
  | nilf => obtain rfl := Option.some.inj e; exact up r
/-- Cells that are told by value. -/
def PL (w : World) (F : Nat → Prop) (cs : List (C D.S)) (vs : List Value) : Prop := cs.length = vs.length ∧ ∀ (j : Nat) x v, cs[j]? = some x → vs[j]? = some v → RP D w F x v
theorem resL_ok (lw : Lawful D P) {w F} {F' : Nat → Prop} {hp : Tr (B D.S)} {β} (hF : ∀ b, F b → F' b) (hb : ∀ i b, hp.get i = some b → RB D w F hp.get β i b) : ∀ {cs cs' : List (C D.S)} {vs : List Value}, RL D w F hp.get β cs vs → resL hp cs = some cs' →
    (∀ id ∈ ownsL cs, ∀ L, β id = some L → F' L.b) → PL w F' cs' vs
  | [], cs', vs, r, e, _ => by
    simp only [resL, Option.some.injEq] at e
    subst e
    exact ⟨r.1, fun j x v hx => by simp at hx⟩
  | c :: cs, cs', vs, r, e, hl => by
    simp only [resL] at e
    split at e
    · rename_i c1 hc1
      split at e
      · rename_i cs1 hcs1
        obtain rfl := Option.some.inj e
        match vs, r with
        | v :: vs, r =>
          have hl1 : ∀ id ∈ ownsC c, ∀ L, β id = some L → F' L.b := fun id hi => hl id (by rw [ownsL_eq]; simp; exact .inl hi)
          have hl2 : ∀ id ∈ ownsL cs, ∀ L, β id = some L → F' L.b := fun id hi => hl id (by rw [ownsL_eq] at hi ⊢; simp at hi ⊢; exact .inr hi)
          have r0 := resC_ok lw hF hb (r.2 0 c v rfl rfl) hc1 hl1
          have ih := resL_ok lw hF hb (cs := cs) (vs := vs) ⟨by have := r.1; simpa using this, fun j x v hx hv => r.2 (j + 1) x v (by simpa using hx) (by simpa using hv)⟩ hcs1 hl2
          refine ⟨by simp [ih.1], fun j x v' hx hv => ?_⟩
          cases j with
          | zero => simp at hx hv; subst hx; subst hv; exact r0
          | succ j => simp at hx hv; exact ih.2 j x v' hx hv
      · cases e
    · cases e

/-- A row is told by value from here on. -/
theorem Sim.frz (lw : Lawful D P) {K β F} {fr : Tr (V D.S)} {hp : Tr (B D.S)} {a : Act} {w : World} (s : Sim K β F fr hp a w) {id : Nat} (hid : id < 65535) {t : Ty} {l : List (T D.S t)} (h : hp.get id = some (.arr t l)) :
    ∃ F', (∀ b, F b → F' b) ∧ (∀ L, β id = some L → F' L.b) ∧ Sim K β F' (fr.map (mapV (frzF id t l))) ((hp.set depth id none).map (mapB (frzF id t l))) a w ∧
      (∀ c v, RC D w F hp.get β c v → RC D w F' ((hp.set depth id none).map (mapB (frzF id t l))).get β (frzF id t l c) v) := by
  have hF : ∀ b, F b → F b ∨ ∃ L, β id = some L ∧ b = L.b := fun b hb => .inl hb
  have hg : ∀ i, (hp.set depth id none).get i = if i = id then none else hp.get i := fun i => Tr.get_set _ _ _ _ _ (by rw [depth_ok]; omega)
  have H : ∀ c v, RC D w F hp.get β c v → RC D w (fun b => F b ∨ ∃ L, β id = some L ∧ b = L.b) (hp.set depth id none).get β (frzF id t l c) v := by
    intro c v r
    have keep : ∀ c, (∀ i ∈ ownsC c, i ≠ id) → (∀ i off, c = .ptr i off → i ≠ id) → RC D w F hp.get β c v → RC D w (fun b => F b ∨ ∃ L, β id = some L ∧ b = L.b) (hp.set depth id none).get β c v := fun c h1 h2 r => by
      -- the other blocks are as they were
      have e : ∀ i, i ≠ id → (hp.set depth id none).get i = hp.get i := fun i hi => by rw [hg, if_neg hi]
      cases c with
      | own i => obtain ⟨t2, l2, g, r⟩ := r; exact ⟨t2, l2, by rw [e i (h1 i (by simp [ownsC]))]; exact g, r⟩
      | part i off n => obtain ⟨t2, l2, g, r⟩ := r; exact ⟨t2, l2, by rw [e i (h1 i (by simp [ownsC]))]; exact g, r⟩
      | eptr i e' off => obtain ⟨t2, l2, L, g, r⟩ := r; exact ⟨t2, l2, L, by rw [e i (h1 i (by simp [ownsC]))]; exact g, r⟩
      | ptr i off => obtain ⟨cs, L, g, r⟩ := r; exact ⟨cs, L, by rw [e i (h2 i off rfl)]; exact g, r⟩
      | any => trivial
      | fn f caps =>
        obtain ⟨g, r⟩ := r
        refine ⟨g, fun i hi => ?_⟩
        obtain ⟨cs, L, g1, g2⟩ := r i hi
        have : i ≠ id := fun e => by subst e; rw [h] at g1; cases g1
        exact ⟨cs, L, by rw [e i this]; exact g1, g2⟩
      | int k n => exact RP.mono D (fun b hb => ⟨hF b hb, rfl⟩) r
      | bool b => exact RP.mono D (fun b hb => ⟨hF b hb, rfl⟩) r
      | str s => exact RP.mono D (fun b hb => ⟨hF b hb, rfl⟩) r
      | nilp => exact RP.mono D (fun b hb => ⟨hF b hb, rfl⟩) r
      | nils => exact RP.mono D (fun b hb => ⟨hF b hb, rfl⟩) r
      | emp => exact RP.mono D (fun b hb => ⟨hF b hb, rfl⟩) r
      | lst t l => exact RP.mono D (fun b hb => ⟨hF b hb, rfl⟩) r
      | fptr t l i o => exact RP.mono D (fun b hb => ⟨hF b hb, rfl⟩) r
      | nili => exact RP.mono D (fun b hb => ⟨hF b hb, rfl⟩) r
      | err t k n => exact RP.mono D (fun b hb => ⟨hF b hb, rfl⟩) r
      | nilf => exact RP.mono D (fun b hb => ⟨hF b hb, rfl⟩) r
    have res : ∀ c c' : C D.S, resC hp c = some c' → ownsC c = [id] → RC D w F hp.get β c v → RP D w (fun b => F b ∨ ∃ L, β id = some L ∧ b = L.b) c' v := fun c c' e1 e2 r =>
      resC_ok lw hF s.blk r e1 (fun i hi L hL => by rw [e2, List.mem_singleton] at hi; subst hi; exact .inr ⟨L, hL, rfl⟩)
    cases c with
    | own i =>
      simp only [frzF]
      by_cases e : i = id
      · subst e; rw [if_pos rfl]; exact res (.own i) _ (by simp [resC, h]) rfl r
      · rw [if_neg e]; exact keep _ (fun j hj => by simp only [ownsC, List.mem_singleton] at hj; subst hj; exact e) (fun j o e' => by cases e') r
    | part i off n =>
      simp only [frzF]
      by_cases e : i = id
      · subst e; rw [if_pos rfl]; exact res (.part i off n) _ (by simp [resC, h]) rfl r
      · rw [if_neg e]; exact keep _ (fun j hj => by simp only [ownsC, List.mem_singleton] at hj; subst hj; exact e) (fun j o e' => by cases e') r
    | eptr i e' off =>
      simp only [frzF]
      by_cases e : i = id
      · subst e; rw [if_pos rfl]; exact res (.eptr i e' off) _ (by simp [resC, h]) rfl r
      · rw [if_neg e]; exact keep _ (fun j hj => by simp only [ownsC, List.mem_singleton] at hj; subst hj; exact e) (fun j o e' => by cases e') r
    | ptr i off =>
      simp only [frzF]
      by_cases e : i = id
      · rw [if_pos e]; trivial
      · rw [if_neg e]; exact keep (.ptr i off) (fun j hj => by cases hj) (fun j o e' => by injection e' with e1; subst e1; exact e) r
    | any => trivial
    | fn f caps => exact keep (.fn f caps) (fun j hj => by cases hj) (fun j o e' => by cases e') r
    | int k n => exact keep (.int k n) (fun j hj => by cases hj) (fun j o e' => by cases e') r
    | bool b => exact keep (.bool b) (fun j hj => by cases hj) (fun j o e' => by cases e') r
    | str s => exact keep (.str s) (fun j hj => by cases hj) (fun j o e' => by cases e') r
    | nilp => exact keep (.nilp) (fun j hj => by cases hj) (fun j o e' => by cases e') r
    | nils => exact keep (.nils) (fun j hj => by cases hj) (fun j o e' => by cases e') r
    | emp => exact keep (.emp) (fun j hj => by cases hj) (fun j o e' => by cases e') r
    | lst t l => exact keep (.lst t l) (fun j hj => by cases hj) (fun j o e' => by cases e') r
    | fptr t l i o => exact keep (.fptr t l i o) (fun j hj => by cases hj) (fun j o e' => by cases e') r
    | nili => exact keep (.nili) (fun j hj => by cases hj) (fun j o e' => by cases e') r
    | err t k n => exact keep (.err t k n) (fun j hj => by cases hj) (fun j o e' => by cases e') r
    | nilf => exact keep (.nilf) (fun j hj => by cases hj) (fun j o e' => by cases e') r
  refine ⟨fun b => F b ∨ ∃ L, β id = some L ∧ b = L.b, hF, fun L hL => .inr ⟨L, hL, rfl⟩, ?_, ?_⟩
  · refine s.drop hid _ hF (fun b hb => ?_) (fun i b L hi hb hL hn => ?_) (fun L hL => ?_) (fun b hb => ?_) H
    · rcases hb with hb | ⟨L, hL, rfl⟩
      · exact s.old b hb
      · exact (s.sep id _ L h hL).2
    · rcases hn with hn | ⟨L', hL', e⟩
      · exact (s.sep i b L hb hL).1 hn
      · exact hi (s.inj i id b _ L L' hb h hL hL' e)
    · obtain ⟨_, cs, g⟩ := s.refs id L hL
      rw [h] at g; cases g
    · rcases hb with hb | ⟨L, hL, rfl⟩
      · exact s.fsub b hb
      · have hng := s.gsep id _ L h hL
        by_cases hlt : L.b < K.w0.heap.size
        · exfalso
          refine hng ⟨hlt, fun q hq e => ?_⟩
          obtain ⟨i, Lq⟩ := q
          obtain ⟨g1, cs, g2⟩ := s.refs i Lq hq
          have := s.inj id i _ _ L Lq h g2 hL g1 e
          subst this
          rw [h] at g2; cases g2
        · exact .inr (by omega)
  · intro c v r
    refine RC.trans (fun b hb => ⟨hb, rfl⟩) (fun i hi => ?_) (H c v r)
    refine ⟨rfl, fun cs hc => ⟨cs.map (frzF id t l), ?_⟩, fun t2 l2 hl => ⟨l2, ?_, rfl⟩⟩
    · rw [Tr.get_map, hc]; rfl
    · rw [Tr.get_map, hl]; rfl
end
end Go.Proofs.Ytalgppclaolonaa.Ev
