/- Values without memory: a region whose order is left open: every order gives what the order of the text gives. -/
import Derived.Test.YtalgppclaolonaaEv30
import Derived.Orders
namespace Go.Proofs.Ytalgppclaolonaa.Ev
open Go
set_option linter.unusedVariables false
set_option linter.unusedSimpArgs false
section
variable {D : Tys} {R : Type} {H : HH D R} {ops : List Oper} {r : R}
inductive Reach (ops : List Oper) : Nat → Nat → Prop
  | one {i : Nat} {o : Oper} {e : Edge} (ho : ops[i]? = some o) (he : e ∈ o.after.toList) (hb : Region.binds .any e = true) : Reach ops i e.on
  | more {i j : Nat} {o : Oper} {e : Edge} (ho : ops[i]? = some o) (he : e ∈ o.after.toList) (hb : Region.binds .any e = true) (h : Reach ops e.on j) : Reach ops i j
abbrev En3 (D : Tys) := Nat × Oper × Lx D
def toLg (x : En3 D) : Lg := ⟨x.1, x.2.1.dst, x.2.2.lk, x.2.2.T, x.2.2.U, x.2.2.eff, x.2.2.an, x.2.2.kl⟩
def Com3 (x y : En3 D) : Prop := Com x.2.1 y.2.1 x.2.2 y.2.2
def Val (H : HH D R) (ops : List Oper) : List (En3 D) → FS D → HS D → Prop
  | [], _, _ => True
  | (i, o, L) :: l, F, h => RelF H ops o L F h ∧ Val H ops l (nF o.dst L.v L.δ.ks F) (nH L.δ.ks L.δ.us h)
def fin : List (En3 D) → FS D → HS D → FS D × HS D
  | [], F, h => (F, h)
  | (_, o, L) :: l, F, h => fin l (nF o.dst L.v L.δ.ks F) (nH L.δ.ks L.δ.us h)
theorem comB_ok {x y : En3 D} (h : comB (toLg x) (toLg y) = true) : Com3 x y := by
  have tv : ∀ z : En3 D, trivB (toLg z) = true → triv z.2.2 := fun z hz => by
    simp only [trivB, toLg] at hz
    split at hz
    · rename_i hT
      simp only [Bool.and_eq_true, Bool.not_eq_true'] at hz
      exact ⟨hT, hz.1, hz.2⟩
    · cases hz
  have nI : ∀ (d : Option Tmp) (l : List Nat), notIn d l = true → ∀ e, d = some e → e ∉ l := fun d l hn e he hm => by
    subst he
    simp only [notIn] at hn
    rw [List.elem_eq_contains, List.contains_iff_mem.mpr hm] at hn
    cases hn
  have dj : ∀ (l m : List Nat), disj l m = true → ∀ i ∈ l, i ∉ m := fun l => by
    induction l with
    | nil => intro m _ i hi; cases hi
    | cons x l ih =>
      intro m hm i hi hc
      simp only [disj] at hm
      split at hm
      · cases hm
      · rename_i hx
        rcases List.mem_cons.mp hi with e | hi
        · subst e
          rw [List.elem_eq_contains, List.contains_iff_mem.mpr hc] at hx; cases hx
        · exact ih m hm i hi hc
  simp only [comB, Bool.and_eq_true] at h
  obtain ⟨h1, h2, h3, h4, h5, h6⟩ := h
  refine ⟨nI _ _ h1, nI _ _ h2, fun d hd hd' => ?_, fun he i hi => ?_, fun hk => ?_, fun hk => ?_⟩
  · have e1 : (toLg x).dst = some d := hd
    have e2 : (toLg y).dst = some d := hd'
    rw [e1, e2] at h3
    simp [neD] at h3
  · have he' : ((toLg x).eff || (toLg y).eff) = true := he
    rw [he'] at h4
    have h4' : disj (toLg x).U (toLg y).U = true := by simpa using h4
    exact dj _ _ h4' i hi
  · have hk' : (toLg x).kl = true := hk
    rw [hk'] at h5
    exact tv y (by simpa using h5)
  · have hk' : (toLg y).kl = true := hk
    rw [hk'] at h6
    exact tv x (by simpa using h6)
theorem chk_ok {m : Nat} {y : En3 D} {zs : List (En3 D)} (h : chk m (zs.map toLg) (toLg y) = true) : ∀ z ∈ zs, Nat.testBit m z.1 = true ∨ Com3 z y := by
  induction zs with
  | nil => intro z hz; cases hz
  | cons x l ih =>
    intro z hz
    rw [List.map_cons] at h
    unfold chk at h
    cases hx : (Nat.testBit m (toLg x).i || comB (toLg x) (toLg y)) with
    | false => rw [hx] at h; cases h
    | true =>
      rw [hx] at h
      rcases List.mem_cons.mp hz with e | hz
      · subst e
        rw [Bool.or_eq_true] at hx
        exact hx.imp id comB_ok
      · exact ih h z hz
theorem ancOf_ok {i : Nat} {o : Oper} (ho : ops[i]? = some o) {ms : List Nat} (hms : ∀ q m, ms[q]? = some m → ∀ j, Nat.testBit m j = true → Reach ops q j) : ∀ {l : List Edge} {m : Nat}, (∀ e ∈ l, e ∈ o.after.toList) → ancOf ms l = some m →
    (∀ j, Nat.testBit m j = true → Reach ops i j) ∧ ∀ e ∈ l, Region.binds .any e = true → e.on < ms.length
  | [], m, hl, h => by
    simp only [ancOf, Option.some.injEq] at h
    subst h
    exact ⟨fun j hj => by simp at hj, fun e he => by cases he⟩
  | e :: l, m, hl, h => by
    simp only [ancOf] at h
    split at h
    · rename_i hb
      obtain ⟨h1, h2⟩ := ancOf_ok ho hms (fun e he => hl e (List.mem_cons_of_mem _ he)) h
      refine ⟨h1, fun e' he' hb' => ?_⟩
      rcases List.mem_cons.mp he' with e1 | he'
      · subst e1; rw [hb] at hb'; cases hb'
      · exact h2 e' he' hb'
    · rename_i hb
      split at h
      · rename_i m1 n1 hm1 hn1
        obtain rfl := Option.some.inj h
        obtain ⟨h1, h2⟩ := ancOf_ok ho hms (fun e he => hl e (List.mem_cons_of_mem _ he)) hn1
        refine ⟨fun j hj => ?_, fun e' he' hb' => ?_⟩
        · rw [Nat.testBit_or, Nat.testBit_or, Bool.or_eq_true, Bool.or_eq_true, Nat.testBit_two_pow] at hj
          rcases hj with hj | hj | hj
          · exact .more ho (hl e List.mem_cons_self) hb (hms _ _ hm1 j hj)
          · have := of_decide_eq_true hj
            subst this
            exact .one ho (hl e List.mem_cons_self) hb
          · exact h1 j hj
        · rcases List.mem_cons.mp he' with e1 | he'
          · subst e1; exact (List.getElem?_eq_some_iff.mp hm1).1
          · exact h2 e' he' hb'
      · cases h
theorem nH_lt {L : Lx D} {h : HS D} (hl : ∀ i ∈ L.δ.aff, i < 65535) (hh : ∀ j b, h j = some b → j < 65535) : ∀ j b, nH L.δ.ks L.δ.us h j = some b → j < 65535 := by
  intro j b hj
  by_cases e : j ∈ L.δ.us.map (·.1)
  · exact hl j (by unfold Dl.aff; exact List.mem_append_right _ e)
  · unfold nH at hj
    rw [setF_out e] at hj
    split at hj
    · cases hj
    · obtain ⟨b0, h0, _⟩ := Option.map_eq_some_iff.mp hj
      exact hh j b0 h0
theorem drawK_rel (hH : HNat H) (hds : ∀ o ∈ ops, ∀ d, o.dst = some d → d < 65535) {k : Tr (V D.S) → Tr (B D.S) → Option R} :
    ∀ (n i : Nat) (ms : List Nat) (zs : List (En3 D)) (fr : Tr (V D.S)) (hp : Tr (B D.S)), i + n = ops.length → ms.length = i → (∀ q m, ms[q]? = some m → ∀ j, Nat.testBit m j = true → Reach ops q j) → (∀ j b, hp.get j = some b → j < 65535) →
      drawK D H ops (ops.drop i) i ms (zs.map toLg) fr hp k = some r →
      ∃ xs fr' hp', xs.map (·.1) = List.range' i n ∧ (∀ x ∈ xs, ops[x.1]? = some x.2.1 ∧ ∀ e ∈ x.2.1.after.toList, Region.binds .any e = true → e.on < x.1) ∧ Val H ops xs fr.get hp.get ∧ xs.Pairwise (fun x y => Reach ops y.1 x.1 ∨ Com3 x y) ∧
        (∀ x ∈ xs, ∀ z ∈ zs, Reach ops x.1 z.1 ∨ Com3 z x) ∧ k fr' hp' = some r ∧ (fr'.get, hp'.get) = fin xs fr.get hp.get
  | 0, i, ms, zs, fr, hp, hi, hm, hms, hk, h => by
    rw [List.drop_of_length_le (by omega)] at h
    exact ⟨[], fr, hp, rfl, fun x hx => (by cases hx), trivial, List.Pairwise.nil, fun x hx => (by cases hx), h, rfl⟩
  | n + 1, i, ms, zs, fr, hp, hi, hm, hms, hk, h => by
    have hlt : i < ops.length := by omega
    rw [List.drop_eq_getElem_cons hlt] at h
    have ho : ops[i]? = some ops[i] := List.getElem?_eq_getElem hlt
    unfold drawK at h
    split at h
    · cases h
    · rename_i m hanc
      obtain ⟨a1, a2⟩ := ancOf_ok ho hms (fun e he => he) hanc
      obtain ⟨L, fr1, hp1, h1, h2, h3, h4⟩ := dr1K_rel hH hk hds (hds _ (List.getElem_mem hlt)) h
      split at h1
      · rename_i hc
        have hc' : chk m (zs.map toLg) (toLg (i, ops[i], L)) = true := hc
        have hz := chk_ok hc'
        have hk1 : ∀ j b, hp1.get j = some b → j < 65535 := by
          rw [h4]; exact nH_lt (fun j hj => h2.lt j (h2.ut j (h2.aff j hj))) hk
        obtain ⟨xs, fr', hp', q1, q2, q3, q4, q5, q6, q7⟩ := drawK_rel hH hds n (i + 1) (ms ++ [m]) ((i, ops[i], L) :: zs) fr1 hp1 (by omega) (by simp [hm]) (fun q m' hq j hj => by
          rw [List.getElem?_append] at hq
          split at hq
          · exact hms q m' hq j hj
          · rename_i hq'
            rw [List.getElem?_singleton] at hq
            split at hq
            · rename_i hq0
              obtain rfl := Option.some.inj hq
              have : q = i := by omega
              subst this
              exact a1 j hj
            · cases hq) hk1 h1
        rw [h3, h4] at q3 q7
        refine ⟨(i, ops[i], L) :: xs, fr', hp', by rw [List.map_cons, q1, List.range'_succ], fun x hx => ?_, ⟨h2, q3⟩, .cons (fun x hx => q5 x hx _ List.mem_cons_self) q4, fun x hx z hz' => ?_, q6, q7⟩
        · rcases List.mem_cons.mp hx with e | hx
          · subst e; exact ⟨ho, fun e he hb => by have := a2 e he hb; simp only; omega⟩
          · exact q2 x hx
        · rcases List.mem_cons.mp hx with e | hx
          · subst e
            exact (hz z hz').imp (a1 _) id
          · exact q5 x hx z (List.mem_cons_of_mem _ hz')
      · cases h1
/-- One operation, put first. -/
theorem front {x : En3 D} {l2 : List (En3 D)} : ∀ {l1 : List (En3 D)} {F : FS D} {h : HS D}, Val H ops (l1 ++ x :: l2) F h → (∀ y ∈ l1, Com3 y x) → Val H ops (x :: (l1 ++ l2)) F h ∧ fin (x :: (l1 ++ l2)) F h = fin (l1 ++ x :: l2) F h
  | [], F, h, hv, _ => ⟨hv, rfl⟩
  | y :: l1, F, h, hv, hc => by
    obtain ⟨i, o, L⟩ := y
    obtain ⟨j, o', L'⟩ := x
    obtain ⟨r1, hv⟩ := hv
    obtain ⟨⟨r2, hv2⟩, hf⟩ := front (x := (j, o', L')) (l1 := l1) hv fun y hy => hc y (List.mem_cons_of_mem _ hy)
    obtain ⟨s1, s2, s3, s4⟩ := swap (hc (i, o, L) List.mem_cons_self) r1 r2
    rw [s3, s4] at hv2
    refine ⟨⟨s1, s2, hv2⟩, ?_⟩
    have hf' : fin (l1 ++ (j, o', L') :: l2) (nF o.dst L.v L.δ.ks F) (nH L.δ.ks L.δ.us h) = fin (l1 ++ l2) (nF o'.dst L'.v L'.δ.ks (nF o.dst L.v L.δ.ks F)) (nH L'.δ.ks L'.δ.us (nH L.δ.ks L.δ.us h)) := hf.symm
    show fin (l1 ++ l2) (nF o.dst L.v L.δ.ks (nF o'.dst L'.v L'.δ.ks F)) (nH L.δ.ks L.δ.us (nH L'.δ.ks L'.δ.us h)) = fin (l1 ++ (j, o', L') :: l2) (nF o.dst L.v L.δ.ks F) (nH L.δ.ks L.δ.us h)
    rw [hf', s3, s4]
end
section
variable {D : Tys} {P : Program} {R : Type} {H : HH D R} {K : Kx}
theorem Sim.ext {β : Nat → Option Loc} {F : Nat → Prop} {fr fr2 : Tr (V D.S)} {hp hp2 : Tr (B D.S)} {a : Act} {w : World} (s : Sim K β F fr hp a w) (h1 : fr2.get = fr.get) (h2 : hp2.get = hp.get) : Sim K β F fr2 hp2 a w := by
  obtain ⟨q1, q2, q3, q4, q5, q6, q7, q8, q9, q10, q11, q12, q13⟩ := s
  rw [← h1, ← h2] at q3
  rw [← h2] at q4 q5 q6 q9 q12 q13
  exact ⟨q1, q2, q3, q4, q5, q6, q7, q8, q9, q10, q11, q12, q13⟩
theorem mem_ready {ops : Array Oper} {listed : Array Bool} {i : Nat} (h : i ∈ Region.ready .any ops listed) : i < ops.size ∧ listed[i]? = some false ∧ ∃ o, ops.toList[i]? = some o ∧ ∀ e ∈ o.after.toList, Region.binds .any e = true → listed[e.on]? = some true := by
  unfold Region.ready at h
  rw [List.mem_filter, List.mem_range, Bool.and_eq_true] at h
  obtain ⟨h1, h2, h3⟩ := h
  refine ⟨h1, ?_, ?_⟩
  · rw [Array.getD_eq_getD_getElem?] at h2
    cases hl : listed[i]? with
    | none => rw [hl] at h2; simp at h2
    | some b => rw [hl] at h2; simp at h2; rw [h2]
  · have ho : ops[i]? = some ops[i] := Array.getElem?_eq_getElem h1
    rw [ho] at h3
    simp only [Option.map_some, Option.getD_some] at h3
    refine ⟨ops[i], by rw [Array.getElem?_toList]; exact ho, fun e he hb => ?_⟩
    rw [← Array.all_toList, List.all_eq_true] at h3
    have := h3 e he
    rw [hb] at this
    simp only [Bool.not_true, Bool.false_or] at this
    rw [Array.getD_eq_getD_getElem?] at this
    cases hl : listed[e.on]? with
    | none => rw [hl] at this; simp at this
    | some b => rw [hl] at this; simp at this; rw [this]
theorem ready_of {ops : Array Oper} {listed : Array Bool} {i : Nat} {o : Oper} (h1 : i < ops.size) (h2 : listed[i]? = some false) (ho : ops.toList[i]? = some o) (h3 : ∀ e ∈ o.after.toList, Region.binds .any e = true → listed[e.on]? = some true) : i ∈ Region.ready .any ops listed := by
  unfold Region.ready
  rw [List.mem_filter, List.mem_range, Bool.and_eq_true]
  refine ⟨h1, ?_, ?_⟩
  · rw [Array.getD_eq_getD_getElem?, h2]; rfl
  · rw [Array.getElem?_toList] at ho
    rw [ho]
    simp only [Option.map_some, Option.getD_some]
    rw [← Array.all_toList, List.all_eq_true]
    intro e he
    cases hb : Region.binds .any e with
    | false => rfl
    | true =>
      have := h3 e he hb
      rw [Array.getD_eq_getD_getElem?, this]
      rfl
theorem reach_inv {ops : List Oper} {i j : Nat} (h : Reach ops i j) : ∃ (o : Oper) (e : Edge), ops[i]? = some o ∧ e ∈ o.after.toList ∧ Region.binds .any e = true ∧ (j = e.on ∨ Reach ops e.on j) := by
  cases h with
  | one ho he hb => exact ⟨_, _, ho, he, hb, .inl rfl⟩
  | more ho he hb h => exact ⟨_, _, ho, he, hb, .inr h⟩
theorem reach_listed {ops : List Oper} {listed : Array Bool} (hcl : ∀ (i : Nat) (o : Oper), listed[i]? = some true → ops[i]? = some o → ∀ e ∈ o.after.toList, Region.binds .any e = true → listed[e.on]? = some true) {i j : Nat} (h : Reach ops i j) :
    listed[i]? = some true → listed[j]? = some true := by
  induction h with
  | one ho he hb => intro hi; exact hcl _ _ hi ho _ he hb
  | more ho he hb h ih => intro hi; exact ih (hcl _ _ hi ho _ he hb)
theorem draw_wp (lw : Lawful D P) (hH : HOk D P H) {ops : Array Oper} (hds : ∀ o ∈ ops.toList, dstOk K.n o = true) {r : R} {Q : Exit → Act → World → Prop} {frN : FS D} {hpN : HS D}
    (hQ : ∀ fr' hp' β' F' a' w', (fr'.get, hp'.get) = (frN, hpN) → Sim K β' F' (D := D) fr' hp' a' w' → Q .normal a' w') :
    ∀ (fuel : Nat) (listed : Array Bool) (xs : List (En3 D)) (β : Nat → Option Loc) (F : Nat → Prop) (fr : Tr (V D.S)) (hp : Tr (B D.S)) (a : Act) (w : World), listed.size = ops.size →
      (∀ i, i < ops.size → (listed[i]? = some false ↔ i ∈ xs.map (·.1))) → (∀ x ∈ xs, x.1 < ops.size) → xs.length ≤ fuel → (xs.map (·.1)).Pairwise (· < ·) →
      (∀ x ∈ xs, ops.toList[x.1]? = some x.2.1 ∧ ∀ e ∈ x.2.1.after.toList, Region.binds .any e = true → e.on < x.1) →
      (∀ (i : Nat) (o : Oper), listed[i]? = some true → ops.toList[i]? = some o → ∀ e ∈ o.after.toList, Region.binds .any e = true → listed[e.on]? = some true) →
      Val H ops.toList xs fr.get hp.get → xs.Pairwise (fun x y => Reach ops.toList y.1 x.1 ∨ Com3 x y) → fin xs fr.get hp.get = (frN, hpN) → Sim K β F fr hp a w → wpAny P .any ops Q fuel listed a w := by
  intro fuel
  have none_ready : ∀ (listed : Array Bool) (xs : List (En3 D)), listed.size = ops.size → (∀ i, i < ops.size → (listed[i]? = some false ↔ i ∈ xs.map (·.1))) → xs = [] → Region.ready .any ops listed = [] := fun listed xs h1 h2 h3 => by
    rw [List.eq_nil_iff_forall_not_mem]
    intro i hi
    obtain ⟨g1, g2, _⟩ := mem_ready hi
    have := (h2 i g1).mp g2
    rw [h3] at this
    cases this
  have some_ready : ∀ (listed : Array Bool) (xs : List (En3 D)), listed.size = ops.size → (∀ i, i < ops.size → (listed[i]? = some false ↔ i ∈ xs.map (·.1))) → (∀ x ∈ xs, x.1 < ops.size) → (xs.map (·.1)).Pairwise (· < ·) →
      (∀ x ∈ xs, ops.toList[x.1]? = some x.2.1 ∧ ∀ e ∈ x.2.1.after.toList, Region.binds .any e = true → e.on < x.1) → Region.ready .any ops listed = [] → xs = [] := fun listed xs h1 h2 h3 h4 h5 h6 => by
    cases xs with
    | nil => rfl
    | cons x xs =>
      have hx := h3 x List.mem_cons_self
      obtain ⟨g1, g2⟩ := h5 x List.mem_cons_self
      have : x.1 ∈ Region.ready .any ops listed := ready_of hx ((h2 x.1 hx).mpr (by simp)) g1 fun e he hb => by
        have hlt := g2 e he hb
        have hes : e.on < ops.size := Nat.lt_trans hlt hx
        have hns : ¬ listed[e.on]? = some false := fun hf => by
          have := (h2 e.on hes).mp hf
          rw [List.map_cons] at this h4
          rcases List.mem_cons.mp this with e1 | e1
          · omega
          · have := List.rel_of_pairwise_cons h4 e1
            omega
        have hl : e.on < listed.size := by omega
        rw [Array.getElem?_eq_getElem hl] at hns ⊢
        cases hb' : listed[e.on] with
        | true => rfl
        | false => rw [hb'] at hns; exact absurd rfl hns
      rw [h6] at this
      cases this
  induction fuel with
  | zero =>
    intro listed xs β F fr hp a w h1 h2 h3 h4 h5 h6 h7 h8 h9 h10 s
    obtain rfl : xs = [] := List.length_eq_zero_iff.mp (Nat.le_zero.mp h4)
    exact ⟨none_ready listed [] h1 h2 rfl, hQ fr hp β F a w h10 s⟩
  | succ fuel ih =>
    intro listed xs β F fr hp a w h1 h2 h3 h4 h5 h6 h7 h8 h9 h10 s
    refine ⟨fun hr => ?_, fun i hi => ?_⟩
    · obtain rfl := some_ready listed xs h1 h2 h3 h5 h6 hr
      exact hQ fr hp β F a w h10 s
    · obtain ⟨g1, g2, o, g3, g4⟩ := mem_ready hi
      obtain ⟨x, hx, hxi⟩ := List.mem_map.mp ((h2 i g1).mp g2)
      obtain ⟨l1, l2, rfl⟩ := List.append_of_mem hx
      obtain ⟨j, o', L⟩ := x
      simp only at hxi
      subst hxi
      obtain ⟨k1, k2⟩ := h6 _ hx
      simp only at k1 k2
      rw [k1] at g3
      obtain rfl := Option.some.inj g3
      have hcom : ∀ y ∈ l1, Com3 y (j, o', L) := fun y hy => by
        have hp := (List.pairwise_append.mp h9).2.2 y hy (j, o', L) List.mem_cons_self
        rcases hp with hr | hc
        · have hyu : listed[y.1]? = some false := (h2 y.1 (h3 y (List.mem_append_left _ hy))).mpr (List.mem_map.mpr ⟨y, List.mem_append_left _ hy, rfl⟩)
          have hyt : listed[y.1]? = some true := by
            obtain ⟨o2, e, ho, he, hb, hr⟩ := reach_inv hr
            rw [k1] at ho
            obtain rfl := Option.some.inj ho
            rcases hr with hr | hr
            · rw [hr]; exact g4 _ he hb
            · exact reach_listed h7 hr (g4 _ he hb)
          rw [hyu] at hyt; cases hyt
        · exact hc
      obtain ⟨⟨q1, q2⟩, q3⟩ := front h8 hcom
      obtain ⟨fr', hp', q4, q5, q6⟩ := q1.loc fr hp (fun t _ => rfl) (fun t _ => rfl)
      have ho : ops[j]? = some o' := by rw [← Array.getElem?_toList]; exact k1
      have hmem : o' ∈ ops.toList := List.mem_of_getElem? k1
      classical
      obtain ⟨fr2, hp2, q7, q8⟩ := op1K_wp lw hH s (hds o' hmem) hds (k := fun x y => if x = fr' ∧ y = hp' then some r else none) (r := r) (by rw [q4]; simp)
      split at q7
      · rename_i hq
        obtain ⟨rfl, rfl⟩ := hq
        unfold wpOp
        rw [ho]
        simp only
        have hsz : (listed.setIfInBounds j true).size = ops.size := by rw [Array.size_setIfInBounds]; exact h1
        have hset : ∀ q, (listed.setIfInBounds j true)[q]? = if q = j then some true else listed[q]? := fun q => by
          rw [Array.getElem?_setIfInBounds]
          by_cases e : j = q
          · subst e; simp [h1, g1]
          · rw [if_neg e, if_neg (fun h => e h.symm)]
        have nodup : ∀ y ∈ l1 ++ l2, y.1 ≠ j := fun y hy e => by
          rw [List.map_append, List.map_cons] at h5
          obtain ⟨p1, p2, p3⟩ := List.pairwise_append.mp h5
          rcases List.mem_append.mp hy with hy | hy
          · have := p3 y.1 (List.mem_map_of_mem hy) j List.mem_cons_self
            omega
          · have := List.rel_of_pairwise_cons p2 (List.mem_map_of_mem (f := (·.1)) hy)
            omega
        have sub : (l1 ++ l2).Sublist (l1 ++ (j, o', L) :: l2) := (List.Sublist.refl l1).append (List.sublist_cons_self _ _)
        refine q8 _ _ fun β' F' a' w' s' => ih _ (l1 ++ l2) β' F' fr2 hp2 a' w' hsz (fun q hq => ?_) (fun y hy => h3 y (sub.subset hy)) (by simp at h4 ⊢; omega) (h5.sublist (sub.map _)) (fun y hy => h6 y (sub.subset hy)) (fun q oq hl hoq e he hb => ?_) (by rw [q5, q6]; exact q2) (h9.sublist sub) ?_ s'
        · rw [hset]
          by_cases e : q = j
          · subst e
            rw [if_pos rfl]
            refine ⟨fun h => (by cases h), fun h => ?_⟩
            obtain ⟨y, hy, hyq⟩ := List.mem_map.mp h
            exact absurd hyq (nodup y hy)
          · rw [if_neg e, h2 q hq]
            simp [e]
        · rw [hset]
          rw [hset] at hl
          by_cases e1 : e.on = j
          · rw [if_pos e1]
          · rw [if_neg e1]
            by_cases e2 : q = j
            · subst e2
              rw [k1] at hoq
              obtain rfl := Option.some.inj hoq
              exact g4 e he hb
            · rw [if_neg e2] at hl
              exact h7 q oq hl hoq e he hb
        · rw [q5, q6]
          exact q3.trans h10
      · cases q7
theorem draw_region (lw : Lawful D P) (hH : HOk D P H) (hN : HNat H) {ops : Array Oper} (hds : ∀ o ∈ ops.toList, dstOk K.n o = true) {r : R} {id : Nat} {Q : Exit → Act → World → Prop} {β : Nat → Option Loc} {F : Nat → Prop} {fr : Tr (V D.S)} {hp : Tr (B D.S)} {a : Act} {w : World}
    (s : Sim K β F fr hp a w) {k : Tr (V D.S) → Tr (B D.S) → Option R} (hQ : ∀ fr' hp' β' F' a' w', k fr' hp' = some r → Sim K β' F' fr' hp' a' w' → Q .normal a' w')
    (h : drawK D H ops.toList ops.toList 0 [] [] fr hp k = some r) : (Code.region id ops true).wp P Q a w := by
  have hlen : ops.toList.length = ops.size := Array.length_toList
  obtain ⟨xs, fr', hp', q1, q2, q3, q4, _, q6, q7⟩ := drawK_rel (ops := ops.toList) hN (fun o ho d hd => by
    have := hds o ho
    simp only [dstOk, hd, Bool.and_eq_true, decide_eq_true_eq] at this
    exact this.2) ops.size 0 [] [] fr hp (by omega) rfl (fun q m hm => by simp at hm) s.key h
  have s' : Sim K β F fr hp a { w with drawn := w.drawn + 1 } := s.grow (Nat.le_refl _) (fun _ _ => rfl) ⟨rfl, rfl, rfl⟩
  have hmem : ∀ i, i < ops.size → i ∈ xs.map (·.1) := fun i hi => by rw [q1, List.mem_range'_1]; omega
  refine wp_region_any lw.mixed (draw_wp (r := r) lw hH hds (frN := fr'.get) (hpN := hp'.get) (fun fr2 hp2 β' F' a' w' he s2 => ?_) ops.size _ xs β F fr hp a _ (by simp) (fun i hi => ?_) (fun x hx => ?_) ?_ ?_ q2 (fun i o hl => ?_) q3 q4 q7.symm s')
  · injection he with he1 he2
    exact hQ fr' hp' β' F' a' w' q6 (s2.ext he1.symm he2.symm)
  · exact ⟨fun _ => hmem i hi, fun _ => by simp [hi]⟩
  · have : x.1 ∈ xs.map (·.1) := List.mem_map_of_mem hx
    rw [q1, List.mem_range'_1] at this
    omega
  · have := congrArg List.length q1
    simp at this
    omega
  · rw [q1]; exact List.pairwise_lt_range'
  · rw [Array.getElem?_replicate] at hl
    split at hl <;> cases hl
end
end Go.Proofs.Ytalgppclaolonaa.Ev
