/- Values without memory: two operations that do not touch each other may change places. -/
import Derived.Test.YtalgppclaolonaaEv28
namespace Go.Proofs.Ytalgppclaolonaa.Ev
open Go
set_option linter.unusedVariables false
set_option linter.unusedSimpArgs false
section
variable {D : Tys} {R : Type}
def kV (ks : Option Nat) (v : V D.S) : V D.S := match ks with | none => v | some id => mapV (killF id) v
def kB (ks : Option Nat) (b : B D.S) : B D.S := match ks with | none => b | some id => mapB (killF id) b
abbrev FS (D : Tys) := Nat → Option (V D.S)
abbrev HS (D : Tys) := Nat → Option (B D.S)
def nF (dst : Option Tmp) (v : V D.S) (ks : Option Nat) (F : FS D) : FS D := fun t => if dst = some t then some v else (F t).map (kV ks)
def setF : List (Nat × B D.S) → HS D → HS D
  | [], h => h
  | (i, b) :: l, h => setF l fun j => if j = i then some b else h j
def nH (ks : Option Nat) (us : List (Nat × B D.S)) (h : HS D) : HS D := setF us fun j => if ks = some j then none else (h j).map (kB ks)
/-- What is found of one operation. -/
structure Lx (D : Tys) where
  lk : List Nat
  T : List Nat
  U : List Nat
  eff : Bool
  an : Bool
  kl : Bool
  v : V D.S
  δ : Dl D
structure RelF (H : HH D R) (ops : List Oper) (o : Oper) (L : Lx D) (F : FS D) (h : HS D) : Prop where
  aff : ∀ i ∈ L.δ.aff, i ∈ L.U
  ut : ∀ i ∈ L.U, i ∈ L.T
  e0 : L.eff = false → L.δ.ks = none ∧ L.δ.us = []
  k0 : L.kl = false → L.δ.ks = none
  vT : ∀ i ∈ idsV L.v, i ∈ L.T
  any : L.an = false → ∀ t ∈ L.lk, ∃ u, F t = some u ∧ noAnyV u = true
  idT : ∀ t ∈ L.lk, ∀ u, F t = some u → ∀ i ∈ idsV u, i ∈ L.T
  loc : ∀ (fr : Tr (V D.S)) (hp : Tr (B D.S)), (∀ t ∈ L.lk, fr.get t = F t) → (∀ i ∈ L.U, hp.get i = h i) → ∃ fr' hp', (∀ k2 : Tr (V D.S) → Tr (B D.S) → Option R, op1K D H ops o fr hp k2 = k2 fr' hp') ∧ fr'.get = nF o.dst L.v L.δ.ks fr.get ∧ hp'.get = nH L.δ.ks L.δ.us hp.get
  lt : ∀ i ∈ L.T, i < 65535
theorem RelF.mono {H : HH D R} {ops : List Oper} {o : Oper} {L : Lx D} {F F' : FS D} {h h' : HS D} (r : RelF H ops o L F h) (hF : ∀ t ∈ L.lk, F' t = F t) (hh : ∀ i ∈ L.U, h' i = h i) : RelF H ops o L F' h' :=
  ⟨r.aff, r.ut, r.e0, r.k0, r.vT, fun ha t ht => by rw [hF t ht]; exact r.any ha t ht, fun t ht u hu => r.idT t ht u (by rw [← hF t ht]; exact hu), fun fr hp h1 h2 => r.loc fr hp (fun t ht => (h1 t ht).trans (hF t ht)) fun i hi => (h2 i hi).trans (hh i hi), r.lt⟩
/-- Nothing that is named, nothing unknown. -/
def triv (L : Lx D) : Prop := L.T = [] ∧ L.an = false ∧ L.eff = false
structure Com (o o' : Oper) (L L' : Lx D) : Prop where
  d1 : ∀ d, o.dst = some d → d ∉ L'.lk
  d2 : ∀ d, o'.dst = some d → d ∉ L.lk
  d3 : ∀ d, o.dst = some d → o'.dst ≠ some d
  t : (L.eff || L'.eff) = true → ∀ i ∈ L.U, i ∉ L'.U
  k1 : L.kl = true → triv L'
  k2 : L'.kl = true → triv L
theorem killC_ids {id : Nat} {c : C D.S} (h : id ∉ idsC c) : killF id c = c := by
  cases c <;> simp only [idsC, List.mem_singleton] at h <;> simp only [killF] <;> first
    | rfl
    | (rw [if_neg (fun e => h e.symm)]; done)
    | (rw [if_neg h])
theorem killL_ids {id : Nat} : ∀ {cs : List (C D.S)}, id ∉ idsL cs → cs.map (killF id) = cs
  | [], _ => rfl
  | c :: cs, h => by
    simp only [idsL, appN_eq, List.mem_append, not_or] at h
    rw [List.map_cons, killC_ids h.1, killL_ids h.2]
theorem killA_ids {id : Nat} {x : A D.S} (h : id ∉ idsL x.cells) : mapA (killF id) x = x := by
  cases x with
  | c c => simp only [A.cells, idsL, appN_eq, List.append_nil] at h; simp only [mapA, killC_ids h]
  | agg cs => simp only [mapA]; rw [killL_ids (cs := cs) h]
theorem killAs_ids {id : Nat} : ∀ {l : List (A D.S)}, id ∉ idsAs l → l.map (mapA (killF id)) = l
  | [], _ => rfl
  | x :: l, h => by
    simp only [idsAs, appN_eq, List.mem_append, not_or] at h
    rw [List.map_cons, killA_ids h.1, killAs_ids h.2]
theorem kV_ids {ks : Option Nat} {v : V D.S} (h : ∀ id, ks = some id → id ∉ idsV v) : kV ks v = v := by
  cases ks with
  | none => rfl
  | some id =>
    have h := h id rfl
    cases v with
    | a x => simp only [kV, mapV]; rw [killA_ids (x := x) h]
    | tup l => simp only [kV, mapV]; rw [killAs_ids (l := l) h]
theorem killC_any {id : Nat} {c : C D.S} (h : killF id c ≠ .any) : killF id c = c := by
  cases c <;> simp only [killF] at h ⊢ <;> first
    | rfl
    | (split at h <;> first | exact absurd rfl h | (rename_i hn; rw [if_neg hn]))
theorem noAny_mem : ∀ {cs : List (C D.S)}, noAny cs = true → ∀ c ∈ cs, c ≠ .any
  | c :: cs, h, x, hx => by
    cases c with
    | any => simp [noAny] at h
    | _ =>
      rcases List.mem_cons.mp hx with e | m
      · subst e; intro h; cases h
      · exact noAny_mem (cs := cs) h x m
theorem killL_any {id : Nat} {cs : List (C D.S)} (h : noAny (cs.map (killF id)) = true) : cs.map (killF id) = cs := by
  have : ∀ c ∈ cs, killF id c = c := fun c hc => killC_any (noAny_mem h _ (List.mem_map_of_mem hc))
  exact (List.map_congr_left this).trans (List.map_id _)
theorem killA_any {id : Nat} {x : A D.S} (h : noAny (mapA (killF id) x).cells = true) : mapA (killF id) x = x := by
  cases x with
  | c c => simp only [mapA, A.cells] at h ⊢; rw [killC_any (noAny_mem h _ List.mem_cons_self)]
  | agg cs => simp only [mapA, A.cells] at h ⊢; rw [killL_any h]
theorem killAs_any {id : Nat} : ∀ {l : List (A D.S)}, noAnyAs (l.map (mapA (killF id))) = true → l.map (mapA (killF id)) = l
  | [], _ => rfl
  | x :: l, h => by
    simp only [List.map_cons, noAnyAs] at h
    split at h
    · rename_i hx; rw [List.map_cons, killA_any hx, killAs_any h]
    · cases h
theorem kV_any {ks : Option Nat} {v : V D.S} (h : noAnyV (kV ks v) = true) : kV ks v = v := by
  cases ks with
  | none => rfl
  | some id =>
    cases v with
    | a x => simp only [kV, mapV, noAnyV] at h ⊢; rw [killA_any h]
    | tup l => simp only [kV, mapV, noAnyV] at h ⊢; rw [killAs_any h]
theorem setF_out : ∀ {us : List (Nat × B D.S)} {h : HS D} {j : Nat}, j ∉ us.map (·.1) → setF us h j = h j
  | [], h, j, _ => rfl
  | (i, b) :: us, h, j, hj => by
    simp only [List.map_cons, List.mem_cons, not_or] at hj
    simp only [setF]
    rw [setF_out hj.2, if_neg hj.1]
theorem setF_congr : ∀ {us : List (Nat × B D.S)} {h h' : HS D} {j : Nat}, (j ∉ us.map (·.1) → h j = h' j) → setF us h j = setF us h' j
  | [], h, h', j, e => e (by simp)
  | (i, b) :: us, h, h', j, e => by
    simp only [setF]
    refine setF_congr fun hj => ?_
    by_cases hji : j = i
    · rw [if_pos hji, if_pos hji]
    · rw [if_neg hji, if_neg hji]
      exact e (by simp only [List.map_cons, List.mem_cons, not_or]; exact ⟨hji, hj⟩)
theorem mkB (z : Option (B D.S)) : z.map (kB none) = z := by cases z <;> rfl
theorem mkV (z : Option (V D.S)) : z.map (kV none) = z := by cases z <;> rfl
theorem nH_out {L : Lx D} {h : HS D} {i : Nat} (hk : L.δ.ks = none) (hi : i ∉ L.δ.aff) : nH L.δ.ks L.δ.us h i = h i := by
  unfold nH
  simp only [Dl.aff, hk, Option.toList, List.nil_append] at hi
  rw [setF_out hi, hk]
  simp [mkB]
theorem nH_triv {h : HS D} : nH none [] h = h := by
  funext j; simp [nH, setF, mkB]
theorem nF_out {dst : Option Tmp} {v : V D.S} {F : FS D} {t : Nat} (h : dst ≠ some t) : nF dst v none F t = F t := by
  simp [nF, h, mkV]
/-- The second may stand first, the first second; and the state is the same. -/
theorem swap {H : HH D R} {ops : List Oper} {o o' : Oper} {L L' : Lx D} {F : FS D} {h : HS D} (c : Com o o' L L') (r : RelF H ops o L F h) (r' : RelF H ops o' L' (nF o.dst L.v L.δ.ks F) (nH L.δ.ks L.δ.us h)) :
    RelF H ops o' L' F h ∧ RelF H ops o L (nF o'.dst L'.v L'.δ.ks F) (nH L'.δ.ks L'.δ.us h) ∧
      nF o'.dst L'.v L'.δ.ks (nF o.dst L.v L.δ.ks F) = nF o.dst L.v L.δ.ks (nF o'.dst L'.v L'.δ.ks F) ∧ nH L'.δ.ks L'.δ.us (nH L.δ.ks L.δ.us h) = nH L.δ.ks L.δ.us (nH L'.δ.ks L'.δ.us h) := by
  -- slots that the second looks at: the first has not turned them
  have a1 : ∀ t ∈ L'.lk, F t = nF o.dst L.v L.δ.ks F t := fun t ht => by
    have hd : o.dst ≠ some t := fun e => c.d1 t e ht
    by_cases hk : L.kl = true
    · obtain ⟨_, ha, _⟩ := c.k1 hk
      obtain ⟨u, hu, hn⟩ := r'.any ha t ht
      have hu' := hu
      simp only [nF, if_neg hd] at hu' ⊢
      obtain ⟨u0, h0, h1⟩ := Option.map_eq_some_iff.mp hu'
      rw [h0, Option.map_some]
      rw [kV_any (by rw [h1]; exact hn)]
    · rw [r.k0 (by simpa using hk), nF_out hd]
  have a2 : ∀ t ∈ L.lk, nF o'.dst L'.v L'.δ.ks F t = F t := fun t ht => by
    have hd : o'.dst ≠ some t := fun e => c.d2 t e ht
    by_cases hk : L'.kl = true
    · obtain ⟨hT, _, _⟩ := c.k2 hk
      simp only [nF, if_neg hd]
      cases hu : F t with
      | none => rfl
      | some u =>
        rw [Option.map_some, kV_ids fun id hid hm => ?_]
        have := r.idT t ht u hu id hm
        rw [hT] at this; cases this
    · rw [r'.k0 (by simpa using hk), nF_out hd]
  have b1 : ∀ i ∈ L'.U, h i = nH L.δ.ks L.δ.us h i := fun i hi => by
    by_cases hk : L.kl = true
    · obtain ⟨hT, _, _⟩ := c.k1 hk; have hi := r'.ut i hi; rw [hT] at hi; cases hi
    · have hk0 := r.k0 (by simpa using hk)
      by_cases he : L.eff = true
      · exact (nH_out hk0 fun ha => c.t (by rw [he]; rfl) i (r.aff i ha) hi).symm
      · obtain ⟨e1, e2⟩ := r.e0 (by simpa using he)
        rw [e1, e2, nH_triv]
  have b2 : ∀ i ∈ L.U, nH L'.δ.ks L'.δ.us h i = h i := fun i hi => by
    by_cases hk : L'.kl = true
    · obtain ⟨hT, _, _⟩ := c.k2 hk; have hi := r.ut i hi; rw [hT] at hi; cases hi
    · have hk0 := r'.k0 (by simpa using hk)
      by_cases he : L'.eff = true
      · exact nH_out hk0 fun ha => c.t (by rw [he]; simp) i hi (r'.aff i ha)
      · obtain ⟨e1, e2⟩ := r'.e0 (by simpa using he)
        rw [e1, e2, nH_triv]
  have q1 := r'.mono (F' := F) (h' := h) a1 b1
  refine ⟨q1, r.mono a2 b2, ?_, ?_⟩
  · funext t
    simp only [nF]
    have v1 : kV L.δ.ks L'.v = L'.v := kV_ids fun id hid hm => by
      have hk : L.kl = true := by
        cases hk : L.kl with
        | true => rfl
        | false => rw [r.k0 hk] at hid; cases hid
      have := r'.vT id hm
      rw [(c.k1 hk).1] at this; cases this
    have v2 : kV L'.δ.ks L.v = L.v := kV_ids fun id hid hm => by
      have hk : L'.kl = true := by
        cases hk : L'.kl with
        | true => rfl
        | false => rw [r'.k0 hk] at hid; cases hid
      have := r.vT id hm
      rw [(c.k2 hk).1] at this; cases this
    by_cases e1 : o.dst = some t
    · have e2 := c.d3 t e1
      simp [e1, e2, v2]
    · by_cases e2 : o'.dst = some t
      · simp [e1, e2, v1]
      · simp only [e1, e2, if_false]
        by_cases hk : L.kl = true
        · obtain ⟨_, _, he⟩ := c.k1 hk
          rw [(r'.e0 he).1]
          simp only [mkV]
        · rw [r.k0 (by simpa using hk)]
          simp only [mkV]
  · by_cases he : L.eff = true
    · by_cases he' : L'.eff = true
      · -- both turn blocks: none goes
        have hk : L.δ.ks = none := r.k0 (by
          cases hk : L.kl with
          | false => rfl
          | true => have := (c.k1 hk).2.2; rw [he'] at this; cases this)
        have hk' : L'.δ.ks = none := r'.k0 (by
          cases hk : L'.kl with
          | false => rfl
          | true => have := (c.k2 hk).2.2; rw [he] at this; cases this)
        have dj : ∀ i ∈ L.δ.us.map (·.1), i ∉ L'.δ.us.map (·.1) := fun i h1 h2 => c.t (by rw [he]; rfl) i (r.aff i (by simp [Dl.aff, hk] at h1 ⊢; exact h1)) (r'.aff i (by simp [Dl.aff, hk'] at h2 ⊢; exact h2))
        funext j
        simp only [nH, hk, hk']
        by_cases hj : j ∈ L.δ.us.map (·.1)
        · rw [setF_out (dj j hj)]
          simp only [reduceCtorEq, if_false, mkB]
          exact setF_congr fun hn => absurd hj hn
        · rw [setF_out (us := L.δ.us) hj]
          simp only [reduceCtorEq, if_false, mkB]
          exact setF_congr fun _ => setF_out hj
      · obtain ⟨e1, e2⟩ := r'.e0 (by simpa using he')
        rw [e1, e2, nH_triv, nH_triv]
    · obtain ⟨e1, e2⟩ := r.e0 (by simpa using he)
      rw [e1, e2, nH_triv, nH_triv]
end
end Go.Proofs.Ytalgppclaolonaa.Ev
