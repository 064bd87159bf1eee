/- Values without memory: a region whose order is left open: it is run in the order of its text, and what each operation looks at and turns is listed. -/
import Derived.Test.YtalgppclaolonaaEv29
namespace Go.Proofs.Ytalgppclaolonaa.Ev
open Go
set_option linter.unusedVariables false
set_option linter.unusedSimpArgs false
section
variable {D : Tys} {R : Type} {H : HH D R} {ops : List Oper} {o : Oper} {fr : Tr (V D.S)} {hp : Tr (B D.S)} {r : R}
theorem allLt_mem : ∀ {l : List Nat}, allLt l = true → ∀ i ∈ l, i < 65535
  | x :: l, h, i, hi => by
    simp only [allLt] at h
    split at h
    · rename_i hx
      rcases List.mem_cons.mp hi with e | hi
      · subst e; exact Nat.le_of_ble_eq_true hx
      · exact allLt_mem h i hi
    · cases h
theorem anyIn_at : ∀ {l : List Nat}, anyIn D fr l = false → ∀ t ∈ l, ∃ u, fr.get t = some u ∧ noAnyV u = true
  | x :: l, h, t, ht => by
    simp only [anyIn] at h
    split at h
    · rename_i v hv
      split at h
      · rename_i hn
        rcases List.mem_cons.mp ht with e | ht
        · subst e; exact ⟨v, hv, hn⟩
        · exact anyIn_at h t ht
      · cases h
    · cases h
theorem get_put {dst : Option Tmp} (hd : ∀ d, dst = some d → d < 65535) (v : V D.S) (ks : Option Nat) (us : List (Nat × B D.S)) (fr : Tr (V D.S)) :
    (match dst with | some d => (Dl.F (⟨ks, us⟩ : Dl D) fr).set depth d (some v) | none => Dl.F (⟨ks, us⟩ : Dl D) fr).get = nF dst v ks fr.get := by
  have hF : ∀ t, (Dl.F (⟨ks, us⟩ : Dl D) fr).get t = (fr.get t).map (kV ks) := fun t => by
    cases ks with
    | none => exact (mkV _).symm
    | some id => exact Tr.get_map _ _ _
  funext t
  cases dst with
  | none => simp [nF, hF]
  | some d =>
    simp only [nF]
    rw [Tr.get_set _ _ _ _ _ (by rw [depth_ok]; exact Nat.succ_lt_succ (hd d rfl)), hF]
    by_cases e : t = d
    · subst e; simp
    · rw [if_neg e, if_neg (fun h => e (Option.some.inj h).symm)]
theorem get_setAll : ∀ (us : List (Nat × B D.S)) (hp : Tr (B D.S)), (∀ i ∈ us.map (·.1), i < 65535) → (setAll us hp).get = setF us hp.get
  | [], hp, _ => rfl
  | (i, b) :: us, hp, h => by
    simp only [setAll, setF]
    rw [get_setAll us _ fun j hj => h j (by simp at hj ⊢; exact .inr hj)]
    congr 1
    funext j
    rw [Tr.get_set _ _ _ _ _ (by rw [depth_ok]; have := h i (by simp); omega)]
theorem get_H (δ : Dl D) (hp : Tr (B D.S)) (h : ∀ i ∈ δ.aff, i < 65535) : (δ.H hp).get = nH δ.ks δ.us hp.get := by
  unfold Dl.H nH
  rw [get_setAll _ _ fun i hi => h i (by unfold Dl.aff; exact List.mem_append_right _ hi)]
  congr 1
  funext j
  cases hk : δ.ks with
  | none => simp [mkB]
  | some id =>
    simp only
    have hid : id < 65535 := h id (by simp [Dl.aff, hk])
    rw [Tr.get_map, Tr.get_set _ _ _ _ _ (by rw [depth_ok]; omega)]
    by_cases e : j = id
    · subst e; simp
    · rw [if_neg e, if_neg (fun h => e (Option.some.inj h).symm)]; rfl
theorem idsV_slot {t : Nat} {u : V D.S} (hu : fr.get t = some u) {op : Op} (ht : t ∈ slotsL op.operands.toList) : ∀ i ∈ idsV u, i ∈ tch op fr hp := fun i hi => by
  have : ∀ l : List Operand, t ∈ slotsL l → Operand.tmp t ∈ l := fun l => by
    induction l with
    | nil => intro h; cases h
    | cons x l ih =>
      intro h
      cases x with
      | tmp t' =>
        simp only [slotsL] at h
        rcases List.mem_cons.mp h with e | h
        · subst e; exact List.mem_cons_self
        · exact List.mem_cons_of_mem _ (ih h)
      | _ => exact List.mem_cons_of_mem _ (ih h)
  exact tch_op (x := .tmp t) (this _ ht) hu i hi
theorem get_put0 {dst : Option Tmp} (hd : ∀ d, dst = some d → d < 65535) (v : V D.S) (fr : Tr (V D.S)) :
    (match dst with | some d => fr.set depth d (some v) | none => fr).get = nF dst v none fr.get := get_put (D := D) hd v none [] fr
/-- An operation that is done: what is found of it. 'gs': the guard's slot; op1K gives what opK gives. -/
theorem exK_rel (hH : HNat H) (hkey : ∀ i b, hp.get i = some b → i < 65535) (hd : ∀ d, o.dst = some d → d < 65535) {gs : List Nat} (hgs : ∀ t ∈ gs, ∃ b, fr.get t = some (cV (.bool b)))
    (hop : ∀ fr2 hp2, (∀ t ∈ gs, fr2.get t = fr.get t) → ∃ fr3 : Tr (V D.S), fr3.get = fr2.get ∧ ∀ k2 : Tr (V D.S) → Tr (B D.S) → Option R, op1K D H ops o fr2 hp2 k2 = opK D H o.op (o.dst.getD 999) fr3 hp2 fun v fr hp => putK D o.dst v fr fun fr => k2 fr hp) {k : KL D R}
    (h : exK D H o gs fr hp k = some r) : ∃ L fr' hp', k L.lk L.T L.U L.eff L.an L.kl fr' hp' = some r ∧ RelF H ops o L fr.get hp.get ∧ fr'.get = nF o.dst L.v L.δ.ks fr.get ∧ hp'.get = nH L.δ.ks L.δ.us hp.get := by
  unfold exK at h
  split at h
  · cases h
  · rename_i hc
    rw [Bool.and_eq_true] at hc
    have hnew : newOp o.op = true → hp.get (o.dst.getD 999) = none := fun hn => by
      have := hc.2
      simp only [newFree, hn] at this
      split at this
      · assumption
      · cases this
    cases hmv : movOp o.op with
    | true =>
      obtain ⟨v, h1, h6⟩ := mov_loc hmv h
      simp only [putK_set] at h1
      split at h1
      · rename_i hlt
        have hU : tchU o.op (appN (nwT o.op (o.dst.getD 999)) (appN (tch o.op fr hp) (idsV v))) = [] := by unfold tchU; rw [hmv]
        rw [hU] at h1
        refine ⟨⟨_, _, [], _, _, _, v, δ0⟩, _, _, h1, ⟨fun i hi => by simp [δ0, Dl.aff] at hi, fun i hi => (by cases hi), fun _ => ⟨rfl, rfl⟩, fun _ => rfl, fun i hi => ?_, fun ha t ht => anyIn_at ha t ht, fun t ht u hu i hi => ?_, fun fr2 hp2 g1 g2 => ?_, fun i hi => allLt_mem hlt i hi⟩, get_put0 hd v fr, nH_triv.symm⟩
        · simp only [appN_eq, List.mem_append]; exact .inr (.inr hi)
        · simp only [appN_eq, List.mem_append] at ht ⊢
          rcases ht with ht | ht
          · obtain ⟨b, hb⟩ := hgs t ht
            rw [hb] at hu
            obtain rfl := Option.some.inj hu
            simp [cV, idsV, A.cells, idsL, idsC, appN_eq] at hi
          · exact .inr (.inl (idsV_slot hu ht i hi))
        · simp only [appN_eq, List.mem_append] at g1
          obtain ⟨fr3, q1, q2⟩ := hop fr2 hp2 fun t ht => g1 t (.inl ht)
          have e := h6 fr3 hp2 (fun t ht => (congrFun q1 t).trans (g1 t (.inr ht)))
          refine ⟨_, _, fun k2 => by rw [q2, e, putK_set], ?_, nH_triv.symm⟩
          exact (get_put0 hd v fr3).trans (by rw [q1]; rfl)
      · cases h1
    | false =>
    obtain ⟨v, δ, h1, h2, h3, h4, h5, h6⟩ := opK_loc hH hkey hc.1 hnew h
    have hU : ∀ T, tchU o.op T = T := fun T => by unfold tchU; rw [hmv]
    simp only [hU] at h1
    simp only [putK_set] at h1
    split at h1
    · rename_i hlt
      have hT : ∀ i ∈ δ.aff, i ∈ appN (nwT o.op (o.dst.getD 999)) (appN (tch o.op fr hp) (idsV v)) := fun i hi => by
        rw [appN_eq, appN_eq]
        have heff : effO D fr hp o.op = true := by
          cases he : effO D fr hp o.op with
          | true => rfl
          | false => obtain ⟨e1, e2⟩ := h3 he; simp [Dl.aff, e1, e2] at hi
        rcases h2 i hi with e | e
        · exact List.mem_append_left _ (by rw [nwT, e.1]; simp [e.2])
        · exact List.mem_append_right _ (List.mem_append_left _ e)
      have hlt' : ∀ i ∈ δ.aff, i < 65535 := fun i hi => allLt_mem hlt i (hT i hi)
      refine ⟨⟨_, _, _, _, _, _, v, δ⟩, _, _, h1, ⟨hT, fun i hi => hi, h3, h4, fun i hi => ?_, fun ha t ht => anyIn_at ha t ht, fun t ht u hu i hi => ?_, fun fr2 hp2 g1 g2 => ?_, fun i hi => allLt_mem hlt i hi⟩, get_put hd v δ.ks δ.us fr, get_H δ hp hlt'⟩
      · simp only [appN_eq, List.mem_append]; exact .inr (.inr hi)
      · simp only [appN_eq, List.mem_append] at ht ⊢
        rcases ht with ht | ht
        · obtain ⟨b, hb⟩ := hgs t ht
          rw [hb] at hu
          obtain rfl := Option.some.inj hu
          simp [cV, idsV, idsAs, A.cells, idsL, idsC, appN_eq] at hi
        · exact .inr (.inl (idsV_slot hu ht i hi))
      · simp only [appN_eq, List.mem_append] at g1 g2
        obtain ⟨fr3, q1, q2⟩ := hop fr2 hp2 fun t ht => g1 t (.inl ht)
        have hnew2 : newOp o.op = true → hp2.get (o.dst.getD 999) = none := fun hn => (g2 _ (.inl (by simp [nwT, hn]))).trans (hnew hn)
        have e := h6 fr3 hp2 (fun t ht => (congrFun q1 t).trans (g1 t (.inr ht))) (fun i hi => g2 i (.inr (.inl hi))) hnew2
        refine ⟨_, _, fun k2 => by rw [q2, e, putK_set], ?_, get_H δ hp2 hlt'⟩
        exact (get_put hd v δ.ks δ.us fr3).trans (by rw [q1])
    · cases h1
theorem skB_bool {j d : Nat} {w b : Bool} {o' : Oper} {fr2 : Tr (V D.S)} (hg : o.guard = some (j, w)) (h1 : ops[j]? = some o') (h2 : o'.dst = some d) (h3 : fr2.get d = some (cV (.bool b))) : skB D ops o fr2 = none := by
  obtain ⟨dst, op, ty, pos, aft, gd⟩ := o'
  simp only at h2
  subst h2
  have h3' : fr2.get d = some (.a (.c (.bool b))) := h3
  unfold skB
  rw [hg]
  simp only
  rw [h1]
  simp only
  rw [h3']
theorem skB_free {fr2 : Tr (V D.S)} (hg : o.guard = none) : skB D ops o fr2 = none := by
  unfold skB; rw [hg]
theorem skB_tup {j d : Nat} {w : Bool} {o' : Oper} {fr2 : Tr (V D.S)} (hg : o.guard = some (j, w)) (h1 : ops[j]? = some o') (h2 : o'.dst = some d) (h3 : fr2.get d = some (.tup [])) : skB D ops o fr2 = some d := by
  obtain ⟨dst, op, ty, pos, aft, gd⟩ := o'
  simp only at h2
  subst h2
  unfold skB
  rw [hg]
  simp only
  rw [h1]
  simp only
  rw [h3]
theorem yieldK_at {j d : Nat} {o' : Oper} {b : Bool} {fr2 : Tr (V D.S)} (h1 : ops[j]? = some o') (h2 : o'.dst = some d) (h3 : fr2.get d = some (cV (.bool b))) (k2 : Nat → Bool → Option R) : yieldK D ops j fr2 k2 = k2 d b := by
  obtain ⟨dst, op, ty, pos, aft, gd⟩ := o'
  simp only at h2
  subst h2
  have h3' : fr2.get d = some (.a (.c (.bool b))) := h3
  unfold yieldK
  rw [h1]
  simp only
  rw [h3']
theorem get_same {d : Nat} {v : V D.S} (h : fr.get d = some v) (hd : d < 65535) : (fr.set depth d (some v)).get = fr.get := by
  funext t
  rw [Tr.get_set _ _ _ _ _ (by rw [depth_ok]; omega)]
  by_cases e : t = d
  · subst e; rw [if_pos rfl, h]
  · rw [if_neg e]
theorem skip_rel (hds : ∀ o ∈ ops, ∀ d, o.dst = some d → d < 65535) (hd : ∀ d, o.dst = some d → d < 65535) {j d : Nat} {w b : Bool} {o' : Oper} (hg : o.guard = some (j, w)) (h1 : ops[j]? = some o') (h2 : o'.dst = some d) (hb : fr.get d = some (cV (.bool b))) (hw : b ≠ w) :
    RelF H ops o (⟨[d], [], [], false, false, false, .tup [], δ0⟩ : Lx D) fr.get hp.get := by
  have hdd : d < 65535 := hds o' (List.mem_of_getElem? h1) d h2
  refine ⟨fun i hi => by simp [δ0, Dl.aff] at hi, fun i hi => (by cases hi), fun _ => ⟨rfl, rfl⟩, fun _ => rfl, fun i hi => by simp [cV, idsV, idsAs, A.cells, idsL, idsC, appN_eq] at hi, fun _ t ht => ?_, fun t ht u hu i hi => ?_, fun fr2 hp2 g1 g2 => ?_, fun i hi => by cases hi⟩
  · simp only [List.mem_singleton] at ht; subst ht; exact ⟨_, hb, rfl⟩
  · simp only [List.mem_singleton] at ht; subst ht
    rw [hb] at hu
    obtain rfl := Option.some.inj hu
    simp [cV, idsV, idsAs, A.cells, idsL, idsC, appN_eq] at hi
  · have hb2 : fr2.get d = some (cV (.bool b)) := (g1 d List.mem_cons_self).trans hb
    refine ⟨_, hp2, fun k2 => ?_, (get_put0 hd (.tup []) (fr2.set depth d (some (cV (.bool b))))).trans (by rw [get_same hb2 hdd]; rfl), nH_triv.symm⟩
    unfold op1K
    rw [skB_bool hg h1 h2 hb2]
    simp only
    unfold op1K0
    rw [hg]
    cases w with
    | true =>
      simp only
      rw [yieldK_at h1 h2 hb2]
      cases b with
      | true => exact absurd rfl hw
      | false => simp only [bKK, putK_set, Tr.setK_eq]; rfl
    | false =>
      simp only
      rw [yieldK_at h1 h2 hb2]
      cases b with
      | true => simp only [bKK, putK_set, Tr.setK_eq]; rfl
      | false => exact absurd rfl hw
theorem skip2_rel (hds : ∀ o ∈ ops, ∀ d, o.dst = some d → d < 65535) (hd : ∀ d, o.dst = some d → d < 65535) {j d : Nat} {w : Bool} {o' : Oper} (hg : o.guard = some (j, w)) (h1 : ops[j]? = some o') (h2 : o'.dst = some d) (hb : fr.get d = some (.tup [])) :
    RelF H ops o (⟨[d], [], [], false, false, false, .tup [], δ0⟩ : Lx D) fr.get hp.get := by
  have hdd : d < 65535 := hds o' (List.mem_of_getElem? h1) d h2
  refine ⟨fun i hi => by simp [δ0, Dl.aff] at hi, fun i hi => (by cases hi), fun _ => ⟨rfl, rfl⟩, fun _ => rfl, fun i hi => by simp [cV, idsV, idsAs, A.cells, idsL, idsC, appN_eq] at hi, fun _ t ht => ?_, fun t ht u hu i hi => ?_, fun fr2 hp2 g1 g2 => ?_, fun i hi => by cases hi⟩
  · simp only [List.mem_singleton] at ht; subst ht; exact ⟨_, hb, rfl⟩
  · simp only [List.mem_singleton] at ht; subst ht
    rw [hb] at hu
    obtain rfl := Option.some.inj hu
    simp [cV, idsV, idsAs, A.cells, idsL, idsC, appN_eq] at hi
  · have hb2 : fr2.get d = some (.tup []) := (g1 d List.mem_cons_self).trans hb
    refine ⟨_, hp2, fun k2 => ?_, (get_put0 hd (.tup []) fr2), nH_triv.symm⟩
    unfold op1K
    rw [skB_tup hg h1 h2 hb2]
    simp only [putK_set]
    rfl
theorem dr1K0_rel (hH : HNat H) (hkey : ∀ i b, hp.get i = some b → i < 65535) (hds : ∀ o ∈ ops, ∀ d, o.dst = some d → d < 65535) (hd : ∀ d, o.dst = some d → d < 65535) {k : KL D R} (h : dr1K0 D H ops o fr hp k = some r) :
    ∃ L fr' hp', k L.lk L.T L.U L.eff L.an L.kl fr' hp' = some r ∧ RelF H ops o L fr.get hp.get ∧ fr'.get = nF o.dst L.v L.δ.ks fr.get ∧ hp'.get = nH L.δ.ks L.δ.us hp.get := by
  unfold dr1K0 at h
  split at h
  · rename_i hg
    exact exK_rel hH hkey hd (fun t ht => by cases ht) (fun fr2 hp2 _ => ⟨fr2, rfl, fun k2 => by unfold op1K; rw [skB_free hg]; simp only; unfold op1K0; rw [hg]⟩) h
  · rename_i j hg
    obtain ⟨o', d, b, h1, h2, h3, h4⟩ := yieldK_some h
    have h3 : fr.get d = some (cV (.bool b)) := h3
    have hdd : d < 65535 := hds o' (List.mem_of_getElem? h1) d h2
    rcases bKK_nat h4 with ⟨rfl, h5⟩ | ⟨rfl, h5⟩
    · rw [Tr.setK_eq] at h5
      have hs := get_same h3 hdd
      obtain ⟨L, fr', hp', q1, q2, q3, q4⟩ := exK_rel (ops := ops) hH hkey hd (gs := [d]) (fun t ht => by
        simp only [List.mem_singleton] at ht; subst ht; exact ⟨true, by rw [hs]; exact h3⟩) (fun fr2 hp2 hag => by
          have hb2 : fr2.get d = some (cV (.bool true)) := (hag d List.mem_cons_self).trans (by rw [hs]; exact h3)
          exact ⟨_, get_same hb2 hdd, fun k2 => by unfold op1K; rw [skB_bool hg h1 h2 hb2]; simp only; unfold op1K0; rw [hg]; simp only; rw [yieldK_at h1 h2 hb2]; simp only [bKK, Tr.setK_eq]⟩) h5
      rw [hs] at q2 q3
      exact ⟨L, fr', hp', q1, q2, q3, q4⟩
    · simp only [Tr.setK_eq, putK_set] at h5
      exact ⟨⟨[d], [], [], false, false, false, .tup [], δ0⟩, _, hp, h5, skip_rel hds hd hg h1 h2 h3 (by decide), (get_put0 hd _ _).trans (by rw [get_same h3 hdd]; rfl), nH_triv.symm⟩
  · rename_i j hg
    obtain ⟨o', d, b, h1, h2, h3, h4⟩ := yieldK_some h
    have h3 : fr.get d = some (cV (.bool b)) := h3
    have hdd : d < 65535 := hds o' (List.mem_of_getElem? h1) d h2
    rcases bKK_nat h4 with ⟨rfl, h5⟩ | ⟨rfl, h5⟩
    · simp only [Tr.setK_eq, putK_set] at h5
      exact ⟨⟨[d], [], [], false, false, false, .tup [], δ0⟩, _, hp, h5, skip_rel hds hd hg h1 h2 h3 (by decide), (get_put0 hd _ _).trans (by rw [get_same h3 hdd]; rfl), nH_triv.symm⟩
    · rw [Tr.setK_eq] at h5
      have hs := get_same h3 hdd
      obtain ⟨L, fr', hp', q1, q2, q3, q4⟩ := exK_rel (ops := ops) hH hkey hd (gs := [d]) (fun t ht => by
        simp only [List.mem_singleton] at ht; subst ht; exact ⟨false, by rw [hs]; exact h3⟩) (fun fr2 hp2 hag => by
          have hb2 : fr2.get d = some (cV (.bool false)) := (hag d List.mem_cons_self).trans (by rw [hs]; exact h3)
          exact ⟨_, get_same hb2 hdd, fun k2 => by unfold op1K; rw [skB_bool hg h1 h2 hb2]; simp only; unfold op1K0; rw [hg]; simp only; rw [yieldK_at h1 h2 hb2]; simp only [bKK, Tr.setK_eq]⟩) h5
      rw [hs] at q2 q3
      exact ⟨L, fr', hp', q1, q2, q3, q4⟩
theorem dr1K_rel (hH : HNat H) (hkey : ∀ i b, hp.get i = some b → i < 65535) (hds : ∀ o ∈ ops, ∀ d, o.dst = some d → d < 65535) (hd : ∀ d, o.dst = some d → d < 65535) {k : KL D R} (h : dr1K D H ops o fr hp k = some r) :
    ∃ L fr' hp', k L.lk L.T L.U L.eff L.an L.kl fr' hp' = some r ∧ RelF H ops o L fr.get hp.get ∧ fr'.get = nF o.dst L.v L.δ.ks fr.get ∧ hp'.get = nH L.δ.ks L.δ.us hp.get := by
  unfold dr1K at h
  split at h
  · rename_i d hsk
    obtain ⟨j, w, o', hg, h1, h2, h3⟩ := skB_some hsk
    rw [putK_set] at h
    exact ⟨⟨[d], [], [], false, false, false, .tup [], δ0⟩, _, hp, h, skip2_rel hds hd hg h1 h2 h3, get_put0 hd _ _, nH_triv.symm⟩
  · exact dr1K0_rel hH hkey hds hd h
end
end Go.Proofs.Ytalgppclaolonaa.Ev
