/- Values without memory: what an operation looks at: stores, built-in calls, calls; all together. -/
import Derived.Test.YtalgppclaolonaaEv27
namespace Go.Proofs.Ytalgppclaolonaa.Ev
open Go
set_option linter.unusedVariables false
set_option linter.unusedSimpArgs false
section
variable {D : Tys} {R : Type}
variable {H : HH D R} {op : Op} {d : Nat} {fr : Tr (V D.S)} {hp : Tr (B D.S)} {k : KK D R} {r : R}
theorem storeB_id {ti : TI D.S} {c : C D.S} {x : A D.S} {id : Nat} {b : B D.S} (h : storeB D hp ti c x = some (id, b)) : id ∈ idsC c := by
  unfold storeB at h
  split at h
  · cases h
  · split at h
    · split at h
      · split at h
        · injection h with h; injection h with h1 _; subst h1; exact List.mem_cons_self
        · cases h
      · cases h
    · split at h
      · split at h
        · split at h
          · injection h with h; injection h with h1 _; subst h1; exact List.mem_cons_self
          · cases h
        · cases h
      · cases h
    · cases h
theorem idC_tch {x : Operand} {c : C D.S} (hx : x ∈ op.operands.toList) (hc : evC fr x = some c) : ∀ i ∈ idsC c, i ∈ tch op fr hp := fun i hi => tch_op hx (evC_ev hc) i (by simpa [idsV, A.cells, idsL, appN_eq] using hi)
theorem loc_store {t : TypeId} {p x : Operand} (hok : drawOk D fr hp (.store t p x) = true) (h : opK D H (.store t p x) d fr hp k = some r) : Loc3 D H (.store t p x) d fr hp k r := by
  have e : ∀ fr2, AgF (slotsL (Op.store t p x).operands.toList) fr fr2 → evC fr2 p = evC fr p ∧ evA fr2 x = evA fr x := fun fr2 h1 => ⟨evC_ag h1 (by simp [Op.operands]), evA_ag h1 (by simp [Op.operands])⟩
  simp only [opK, Tr.setK_eq] at h
  split at h
  · rename_i ti hti
    split at h
    · rename_i c hc
      split at h
      · rename_i a ha
        split at h
        · rename_i id0 off0
          split at h
          · rename_i id b hb
            refine ⟨cV .any, ⟨none, [(id, b)]⟩, h, fun i hi => ?_, fun h => (by cases h), fun _ => rfl, fun h => (by cases h), fun fr2 hp2 h1 h2 _ k2 => ?_⟩
            · simp [Dl.aff] at hi
              subst hi
              exact .inr (idC_tch (by simp [Op.operands]) hc _ (storeB_id hb))
            · simp only [opK, Tr.setK_eq]
              rw [(e fr2 h1).1, (e fr2 h1).2, hti, hc]
              simp only
              rw [ha]
              simp only
              rw [storeB_ag (agC h2 (by simp [Op.operands]) hc), hb]
              rfl
          · cases h
        · rename_i hne
          split at h
          · cases h
          · rename_i cs hcs
            have hown : ownsL a.cells = [] := by
              simp only [drawOk, hc, ha] at hok
              cases c <;> first
                | exact absurd rfl (hne _ _)
                | exact List.isEmpty_iff.mp hok
            rw [hown] at h
            simp only [frzsK] at h
            split at h
            · rename_i id b hb
              refine ⟨cV .any, ⟨none, [(id, b)]⟩, h, fun i hi => ?_, fun h => (by cases h), fun _ => rfl, fun h => (by cases h), fun fr2 hp2 h1 h2 _ k2 => ?_⟩
              · simp [Dl.aff] at hi
                subst hi
                exact .inr (idC_tch (by simp [Op.operands]) hc _ (storeB_id hb))
              · simp only [opK, Tr.setK_eq]
                rw [(e fr2 h1).1, (e fr2 h1).2, hti, hc]
                simp only
                rw [ha]
                simp only
                have e3 : resL hp2 a.cells = some cs := (resL_ag (agA h2 (by simp [Op.operands]) ha)).trans hcs
                have e4 : storeB D hp2 ti c (.agg cs) = some (id, b) := (storeB_ag (agC h2 (by simp [Op.operands]) hc)).trans hb
                clear hc h h2 hb
                cases c <;> first
                  | exact absurd rfl (hne _ _)
                  | (simp only [e3, hown, frzsK, e4]; rfl)
            · cases h
      · cases h
    · cases h
  · cases h
theorem call_op {f : Callee} {args : Array Operand} {ts : Array TypeId} {x : Operand} (h : x ∈ args.toList) : x ∈ (Op.call ⟨f, args, ts⟩).operands.toList := by
  simp only [Op.operands, Call.operands, Array.toList_append]
  exact List.mem_append_right _ h
theorem evAs_mem {l : List Operand} : ∀ {as : List (A D.S)}, evAs D fr l = some as → ∀ a ∈ as, ∃ x ∈ l, evA fr x = some a := by
  induction l with
  | nil => intro as h a ha; simp only [evAs, Option.some.injEq] at h; subst h; cases ha
  | cons x l ih =>
    intro as h a ha
    simp only [evAs] at h
    split at h
    · rename_i a' ha'
      split at h
      · rename_i r' hr'
        obtain rfl := Option.some.inj h
        rcases List.mem_cons.mp ha with rfl | ha
        · exact ⟨x, List.mem_cons_self, ha'⟩
        · obtain ⟨y, hy, hy'⟩ := ih hr' a ha
          exact ⟨y, List.mem_cons_of_mem _ hy, hy'⟩
      · cases h
    · cases h
theorem loc_len {args : Array Operand} {ts : Array TypeId} (h : opK D H (.call ⟨.builtin .len, args, ts⟩) d fr hp k = some r) : Loc3 D H (.call ⟨.builtin .len, args, ts⟩) d fr hp k r := by
  have e : ∀ fr2, AgF (slotsL (Op.call ⟨.builtin .len, args, ts⟩).operands.toList) fr fr2 → evAs D fr2 args.toList = evAs D fr args.toList := fun fr2 h1 => evAs_ag h1 fun x hx => call_op hx
  simp only [opK] at h
  split at h
  · rename_i c t hc ht
    split at h
    · rename_i ti hti
      split at h
      · rename_i n hn
        exact .quiet h rfl fun fr2 hp2 h1 h2 k2 => by
          obtain ⟨x, hx, hx'⟩ := evAs_mem hc (.c c) List.mem_cons_self
          have h3 : AgH (idsC c) hp hp2 := h2.mono fun i hi => tch_op (call_op hx) (evA_ev hx') i (by simpa [idsV, A.cells, idsL, appN_eq] using hi)
          simp only [opK]
          rw [e fr2 h1, hc, ht]
          simp only
          rw [hti]
          simp only
          rw [lenC_ag h3, hn]
      · cases h
    · cases h
  · cases h
theorem loc_max {args : Array Operand} {ts : Array TypeId} (h : opK D H (.call ⟨.builtin .max, args, ts⟩) d fr hp k = some r) : Loc3 D H (.call ⟨.builtin .max, args, ts⟩) d fr hp k r := by
  have e : ∀ fr2, AgF (slotsL (Op.call ⟨.builtin .max, args, ts⟩).operands.toList) fr fr2 → evAs D fr2 args.toList = evAs D fr args.toList := fun fr2 h1 => evAs_ag h1 fun x hx => call_op hx
  simp only [opK] at h
  repeat' split at h
  all_goals first
    | (cases h; done)
    | exact .quiet h rfl fun fr2 hp2 h1 h2 k2 => by simp only [opK]; rw [e fr2 h1]; simp only [*]
theorem loc_min {args : Array Operand} {ts : Array TypeId} (h : opK D H (.call ⟨.builtin .min, args, ts⟩) d fr hp k = some r) : Loc3 D H (.call ⟨.builtin .min, args, ts⟩) d fr hp k r := by
  have e : ∀ fr2, AgF (slotsL (Op.call ⟨.builtin .min, args, ts⟩).operands.toList) fr fr2 → evAs D fr2 args.toList = evAs D fr args.toList := fun fr2 h1 => evAs_ag h1 fun x hx => call_op hx
  simp only [opK] at h
  repeat' split at h
  all_goals first
    | (cases h; done)
    | exact .quiet h rfl fun fr2 hp2 h1 h2 k2 => by simp only [opK]; rw [e fr2 h1]; simp only [*]
theorem grow_id {t : Ty} {c : C D.S} {id : Nat} {l : List (T D.S t)} (h : grow D t hp c = some (some id, l)) : id ∈ idsC c ∧ (hp.get id).isSome := by
  cases c <;> simp only [grow] at h <;> first | (cases h; done) | skip
  · split at h
    · rename_i hg
      split at h
      · injection h with h; injection h with h1 _; injection h1 with h1; subst h1
        exact ⟨List.mem_cons_self, by rw [hg]; rfl⟩
      · cases h
    · cases h
  · split at h
    · rename_i hg
      split at h
      · injection h with h; injection h with h1 _; injection h1 with h1; subst h1
        exact ⟨List.mem_cons_self, by rw [hg]; rfl⟩
      · cases h
    · cases h
theorem kill_none {id : Nat} {hp2 : Tr (B D.S)} (hg : hp2.get d = none) (hid : id < 65535) : ((hp2.set depth id none).map (mapB (killF id))).get d = none := by
  rw [Tr.get_map, Tr.get_set _ _ _ _ _ (by rw [depth_ok]; omega)]
  split
  · rfl
  · rw [hg]; rfl
theorem loc_append {args : Array Operand} {ts : Array TypeId} (hkey : ∀ i b, hp.get i = some b → i < 65535) (h : opK D H (.call ⟨.builtin .append, args, ts⟩) d fr hp k = some r) (hdn : hp.get d = none) : Loc3 D H (.call ⟨.builtin .append, args, ts⟩) d fr hp k r := by
  have e : ∀ fr2, AgF (slotsL (Op.call ⟨.builtin .append, args, ts⟩).operands.toList) fr fr2 → evAs D fr2 args.toList = evAs D fr args.toList := fun fr2 h1 => evAs_ag h1 fun x hx => call_op hx
  simp only [opK] at h
  split at h
  · rename_i s x t tx hs ht
    split at h
    · rename_i ee q1 q2 q3 q4 q5 q6 tix hti htix
      split at h
      · rename_i by_ _ τ _ hte hsrc
        obtain ⟨y, hy, hy'⟩ := evAs_mem hs (.c s) List.mem_cons_self
        obtain ⟨y2, hy2, hy2'⟩ := evAs_mem hs (.c x) (List.mem_cons_of_mem _ List.mem_cons_self)
        have is : ∀ i ∈ idsC s, i ∈ tch (.call ⟨.builtin .append, args, ts⟩) fr hp := fun i hi => tch_op (call_op hy) (evA_ev hy') i (by simpa [idsV, A.cells, idsL, appN_eq] using hi)
        have ix : ∀ i ∈ idsC x, i ∈ tch (.call ⟨.builtin .append, args, ts⟩) fr hp := fun i hi => tch_op (call_op hy2) (evA_ev hy2') i (by simpa [idsV, A.cells, idsL, appN_eq] using hi)
        unfold appendK at h
        split at h
        · cases h
        · rename_i id l hg
          split at h
          · cases h
          · rename_i xs hxs
            obtain ⟨hb, h⟩ := bK_nat h
            have common : ∀ fr2 hp2, AgF (slotsL (Op.call ⟨.builtin .append, args, ts⟩).operands.toList) fr fr2 → AgH (tch (.call ⟨.builtin .append, args, ts⟩) fr hp) hp hp2 → ∀ k2, opK D H (.call ⟨.builtin .append, args, ts⟩) d fr2 hp2 k2 = match (generalizing := false) id with
                | none => newK D d (.arr τ (l ++ xs)) (.own d) fr2 hp2 k2
                | some id => killK id fr2 hp2 fun fr hp => newK D d (.arr τ (l ++ xs)) (.own d) fr hp k2 := fun fr2 hp2 h1 h2 k2 => by
              simp only [opK]
              rw [e fr2 h1, hs, ht]
              simp only
              rw [hti, htix]
              simp only
              rw [hte, hsrc]
              simp only
              unfold appendK
              rw [grow_ag (h2.mono is), hg]
              simp only
              rw [srcL_ag (h2.mono ix), hxs]
              simp only
              rw [hb]
              rfl
            cases id with
            | none =>
              simp only at h
              exact .new rfl h fun fr2 hp2 h1 h2 k2 => common fr2 hp2 h1 h2 k2
            | some id =>
              simp only at h
              obtain ⟨hid, hsome⟩ := grow_id hg
              obtain ⟨b0, hb0⟩ := Option.isSome_iff_exists.mp hsome
              have hlt := hkey id b0 hb0
              rw [killK_eq] at h
              obtain ⟨_, h⟩ := newK_loc h
              refine ⟨cV (.own d), ⟨some id, [(d, .arr τ (l ++ xs))]⟩, h, fun i hi => ?_, fun h => (by cases h), fun h => (by cases h), fun _ => hdn, fun fr2 hp2 h1 h2 h3 k2 => ?_⟩
              · simp [Dl.aff] at hi
                rcases hi with rfl | rfl
                · exact .inr (is _ hid)
                · exact .inl ⟨rfl, rfl⟩
              · rw [common fr2 hp2 h1 h2 k2]
                simp only
                rw [killK_eq, newK_at (kill_none (h3 rfl) hlt)]
                rfl
      · cases h
    · cases h
  · cases h
theorem idsBs_sub {l l' : List Nat} (h : ∀ i ∈ l, i ∈ l') : ∀ i ∈ idsBs hp l, i ∈ idsBs hp l' := by
  induction l with
  | nil => intro i hi; cases hi
  | cons x l ih =>
    intro i hi
    simp only [idsBs] at hi
    split at hi
    · rename_i b hb
      rw [appN_eq] at hi
      rcases List.mem_append.mp hi with hi | hi
      · exact idsBs_mem hb (h x List.mem_cons_self) i hi
      · exact ih (fun j hj => h j (List.mem_cons_of_mem _ hj)) i hi
    · exact ih (fun j hj => h j (List.mem_cons_of_mem _ hj)) i hi
theorem idsAs_app : ∀ (a b : List (A D.S)), idsAs (a ++ b) = idsAs a ++ idsAs b
  | [], b => rfl
  | x :: a, b => by simp [idsAs, appN_eq, idsAs_app a b]
theorem idsAs_caps : ∀ (l : List Nat), idsAs (capPtrs D l) = l
  | [] => rfl
  | i :: l => by simp [capPtrs, idsAs, A.cells, idsL, idsC, appN_eq, idsAs_caps l]
theorem idsAs_mem {a : A D.S} {as : List (A D.S)} (h : a ∈ as) : ∀ i ∈ idsL a.cells, i ∈ idsAs as := by
  induction as with
  | nil => cases h
  | cons x as ih =>
    intro i hi
    simp only [idsAs, appN_eq, List.mem_append]
    rcases List.mem_cons.mp h with e | m
    · subst e; exact .inl hi
    · exact .inr (ih m i hi)
theorem mem_idsAs {as : List (A D.S)} {i : Nat} (h : i ∈ idsAs as) : ∃ a ∈ as, i ∈ idsL a.cells := by
  induction as with
  | nil => cases h
  | cons x as ih =>
    simp only [idsAs, appN_eq, List.mem_append] at h
    rcases h with h | h
    · exact ⟨x, List.mem_cons_self, h⟩
    · obtain ⟨a, h1, h2⟩ := ih h; exact ⟨a, List.mem_cons_of_mem _ h1, h2⟩
theorem callArgs_rs_ids : ∀ {ps : List PM} {as ws : List (A D.S)} {rs os : List Nat}, callArgs D hp ps as = some (ws, rs, os) → ∀ i ∈ rs, i ∈ idsAs as
  | [], [], ws, rs, os, h => by
    simp only [callArgs, Option.some.injEq, Prod.mk.injEq] at h
    obtain ⟨rfl, rfl, rfl⟩ := h
    exact fun i hi => by cases hi
  | [], _ :: _, ws, rs, os, h => by simp [callArgs] at h
  | .val :: ps, [], ws, rs, os, h => by simp [callArgs] at h
  | .ref :: ps, [], ws, rs, os, h => by simp [callArgs] at h
  | .val :: ps, x :: as, ws, rs, os, h => by
    simp only [callArgs] at h
    split at h
    · cases h
    · split at h
      · rename_i hrec
        simp only [Option.some.injEq, Prod.mk.injEq] at h
        obtain ⟨rfl, rfl, rfl⟩ := h
        intro i hi
        simp only [idsAs, appN_eq, List.mem_append]
        exact .inr (callArgs_rs_ids hrec i hi)
      · cases h
  | .ref :: ps, x :: as, ws, rs, os, h => by
    unfold callArgs at h
    split at h
    · rename_i heq _; cases heq
    · rename_i heq _; injection heq with heq; cases heq
    · rename_i ps' id as' heq1 heq2
      injection heq1 with _ e1
      injection heq2 with e2 e3
      subst e1; subst e2; subst e3
      split at h
      · split at h
        · cases h
        · split at h
          · rename_i hrec
            simp only [Option.some.injEq, Prod.mk.injEq] at h
            obtain ⟨rfl, rfl, rfl⟩ := h
            intro i hi
            simp only [idsAs, appN_eq, List.mem_append]
            rcases List.mem_cons.mp hi with e | hi
            · subst e; exact .inl (by simp [A.cells, idsL, idsC, appN_eq])
            · exact .inr (callArgs_rs_ids hrec i hi)
          · cases h
      · cases h
    · cases h
def boxes : List Nat → List (List (C D.S)) → List (Nat × B D.S)
  | i :: rs, cs :: css => (i, .box cs) :: boxes rs css
  | _, _ => []
theorem boxes_keys : ∀ (rs : List Nat) (css : List (List (C D.S))), ∀ i ∈ (boxes (D := D) rs css).map (·.1), i ∈ rs
  | [], _, i, h => by simp [boxes] at h
  | _ :: _, [], i, h => by simp [boxes] at h
  | j :: rs, cs :: css, i, h => by
    simp only [boxes, List.map_cons] at h
    rcases List.mem_cons.mp h with e | h
    · subst e; exact List.mem_cons_self
    · exact List.mem_cons_of_mem _ (boxes_keys rs css i h)
theorem setRefsK_loc : ∀ {rs : List Nat} {css : List (List (C D.S))} {hp : Tr (B D.S)} {k : Tr (B D.S) → Option R} {r : R}, setRefsK D rs css hp k = some r → k (setAll (boxes rs css) hp) = some r ∧ ∀ hp2 (k2 : Tr (B D.S) → Option R), setRefsK D rs css hp2 k2 = k2 (setAll (boxes rs css) hp2)
  | [], [], hp, k, r, h => ⟨h, fun _ _ => rfl⟩
  | [], _ :: _, hp, k, r, h => by simp [setRefsK] at h
  | _ :: _, [], hp, k, r, h => by simp [setRefsK] at h
  | i :: rs, cs :: css, hp, k, r, h => by
    simp only [setRefsK, Tr.setK_eq] at h
    obtain ⟨h1, h2⟩ := setRefsK_loc h
    exact ⟨h1, fun hp2 k2 => by simp only [setRefsK, Tr.setK_eq]; rw [h2]; rfl⟩
theorem loc_call (hH : HNat H) {f : Operand} {args : Array Operand} {ts : Array TypeId} (hok : drawOk D fr hp (.call ⟨.value f, args, ts⟩) = true) (h : opK D H (.call ⟨.value f, args, ts⟩) d fr hp k = some r) :
    Loc3 D H (.call ⟨.value f, args, ts⟩) d fr hp k r := by
  have hf : f ∈ (Op.call ⟨.value f, args, ts⟩).operands.toList := by simp [Op.operands, Call.operands]
  have e : ∀ fr2, AgF (slotsL (Op.call ⟨.value f, args, ts⟩).operands.toList) fr fr2 → evC fr2 f = evC fr f ∧ evAs D fr2 args.toList = evAs D fr args.toList := fun fr2 h1 => ⟨evC_ag h1 hf, evAs_ag h1 fun x hx => call_op hx⟩
  simp only [opK] at h
  split at h
  · rename_i g caps xs hg hxs
    simp only [drawOk, hg, hxs] at hok
    have hids : ∀ i ∈ idsAs (xs ++ capPtrs D caps), i ∈ tchO fr hp (Op.call ⟨.value f, args, ts⟩).operands.toList := fun i hi => by
      rw [idsAs_app, idsAs_caps] at hi
      rcases List.mem_append.mp hi with hi | hi
      · obtain ⟨a, ha, hia⟩ := mem_idsAs hi
        obtain ⟨x, hx, hx'⟩ := evAs_mem hxs a ha
        exact tchO_mem (evA_ev hx') (call_op hx) i hia
      · exact tchO_mem (evC_ev hg) hf i (by simpa [idsV, A.cells, idsL, idsC, appN_eq] using hi)
    have hids2 : ∀ i ∈ idsAs (xs ++ capPtrs D caps), i ∈ tch (.call ⟨.value f, args, ts⟩) fr hp := fun i hi => by
      unfold tch; rw [appN_eq]; exact List.mem_append_left _ (hids i hi)
    have hids3 : ∀ i ∈ idsBs hp (idsAs (xs ++ capPtrs D caps)), i ∈ tch (.call ⟨.value f, args, ts⟩) fr hp := fun i hi => by
      unfold tch; rw [appN_eq]; exact List.mem_append_right _ (idsBs_sub hids i hi)
    unfold callK at h
    split at h
    · cases h
    rename_i md hmd
    simp only [hmd] at hok
    split at h
    · cases h
    rename_i ws rs os hargs
    simp only [hargs] at hok
    have hcommon : ∀ hp2, AgH (tch (.call ⟨.value f, args, ts⟩) fr hp) hp hp2 → callArgs D hp2 md.ps (xs ++ capPtrs D caps) = some (ws, rs, os) := fun hp2 h2 => (callArgs_ag (h2.mono hids2) (h2.mono hids3)).trans hargs
    have haff : ∀ css : List (List (C D.S)), ∀ i ∈ Dl.aff (⟨none, boxes rs css⟩ : Dl D), (newOp (.call ⟨.value f, args, ts⟩) = true ∧ i = d) ∨ i ∈ tch (.call ⟨.value f, args, ts⟩) fr hp := fun css i hi => by
      simp only [Dl.aff, Option.toList, List.nil_append] at hi
      exact .inr (hids2 i (callArgs_rs_ids hargs i (boxes_keys _ _ i hi)))
    have heff : ∀ css : List (List (C D.S)), effO D fr hp (.call ⟨.value f, args, ts⟩) = false → (⟨none, boxes rs css⟩ : Dl D).ks = none ∧ (⟨none, boxes rs css⟩ : Dl D).us = [] := fun css he => by
      simp only [effO, newOp, Bool.false_or, hg, hxs, hmd, hargs, Bool.not_eq_false', List.isEmpty_iff] at he
      subst he
      exact ⟨rfl, by cases css <;> rfl⟩
    split at h
    · cases h
    · rename_i hd hfz
      rw [hfz] at hok
      have hos : os = [] := List.isEmpty_iff.mp (by simpa using hok)
      subst hos
      simp only [frzsK] at h
      obtain ⟨res, css, h2, e2⟩ := hH _ _ _ _ h
      obtain ⟨h3, e3⟩ := setRefsK_loc h2
      refine ⟨packV D res, ⟨none, boxes rs css⟩, h3, haff css, heff css, fun _ => rfl, fun h => (by cases h), fun fr2 hp2 g1 g2 _ k2 => ?_⟩
      simp only [opK]
      rw [(e fr2 g1).1, (e fr2 g1).2, hg, hxs]
      simp only
      unfold callK
      rw [hmd]
      simp only
      rw [hcommon hp2 g2]
      simp only
      rw [hd, hfz]
      simp only [frzsK]
      rw [e2, e3]
      rfl
    · rename_i hd hfz
      obtain ⟨res, css, h2, e2⟩ := hH _ _ _ _ h
      split at h2
      · cases h2
      · rename_i hn
        obtain ⟨h3, e3⟩ := setRefsK_loc h2
        refine ⟨packV D res, ⟨none, boxes rs css⟩, h3, haff css, heff css, fun _ => rfl, fun h => (by cases h), fun fr2 hp2 g1 g2 _ k2 => ?_⟩
        simp only [opK]
        rw [(e fr2 g1).1, (e fr2 g1).2, hg, hxs]
        simp only
        unfold callK
        rw [hmd]
        simp only
        rw [hcommon hp2 g2]
        simp only
        rw [hd, hfz]
        simp only
        rw [e2, hn]
        simp only
        rw [e3]
        rfl
  · cases h
/-- Every operation: it gives the same wherever what it looks at is the same. -/
theorem opK_loc (hH : HNat H) (hkey : ∀ i b, hp.get i = some b → i < 65535) (hok : drawOk D fr hp op = true) (hnew : newOp op = true → hp.get d = none) (h : opK D H op d fr hp k = some r) : Loc3 D H op d fr hp k r := by
  cases op with
  | move x => exact loc_move h
  | assign x => exact loc_assign h
  | pick c x y => exact loc_pick h
  | alloc t => exact loc_alloc h
  | box t x => exact loc_box h
  | build t ps => exact loc_build h
  | buildSlice t n ps => exact loc_buildSlice hok h
  | load t p => exact loc_load h
  | store t p x => exact loc_store hok h
  | nilCheck x => exact loc_nilCheck h
  | binOp op t x y q => exact loc_binOp h
  | unOp u t x => exact loc_unOp h
  | convert q t x => exact loc_convert h
  | makeFunc f first caps => exact loc_makeFunc h
  | makeSlice t x y => exact loc_makeSlice h
  | slice t x lo hi mx => exact loc_slice h
  | fieldAddr t x f => exact loc_fieldAddr h
  | field t x f => exact loc_field h
  | indexAddr t x y => exact loc_indexAddr h
  | index t x y => exact loc_index h
  | extract x i => exact loc_extract h
  | call c =>
    obtain ⟨f, args, ts⟩ := c
    cases f with
    | value f => exact loc_call hH hok h
    | invoke x m => simp [opK] at h
    | builtin b =>
      cases b <;> first | exact loc_len h | exact loc_append hkey h (hnew rfl) | exact loc_max h | exact loc_min h | (simp [opK] at h)
  | _ => simp [opK] at h
/-- An operation that looks at no block. -/
def Mv3 (D : Tys) {R : Type} (H : HH D R) (op : Op) (d : Nat) (fr : Tr (V D.S)) (hp : Tr (B D.S)) (k : KK D R) (r : R) : Prop :=
  ∃ v, k v fr hp = some r ∧ ∀ fr2 hp2, AgF (slotsL op.operands.toList) fr fr2 → ∀ k2, opK D H op d fr2 hp2 k2 = k2 v fr2 hp2
theorem mov_loc (hm : movOp op = true) (h : opK D H op d fr hp k = some r) : Mv3 D H op d fr hp k r := by
  cases op with
  | move x =>
    simp only [opK] at h
    split at h
    · rename_i v hv
      exact ⟨v, h, fun fr2 hp2 h1 k2 => by simp only [opK]; rw [ev_ag h1 (by simp [Op.operands]), hv]⟩
    · cases h
  | assign x =>
    simp only [opK] at h
    split at h
    · rename_i v hv
      exact ⟨v, h, fun fr2 hp2 h1 k2 => by simp only [opK]; rw [ev_ag h1 (by simp [Op.operands]), hv]⟩
    · cases h
  | pick c x y =>
    simp only [opK] at h
    split at h
    · rename_i b hb
      rcases bKK_nat h with ⟨rfl, h'⟩ | ⟨rfl, h'⟩
      · clear h
        split at h'
        · rename_i v hv
          exact ⟨v, h', fun fr2 hp2 h1 k2 => by simp only [opK]; rw [evC_ag h1 (by simp [Op.operands]), hb, ev_ag (x := x) h1 (by simp [Op.operands]), hv]; rfl⟩
        · cases h'
      · clear h
        split at h'
        · rename_i v hv
          exact ⟨v, h', fun fr2 hp2 h1 k2 => by simp only [opK]; rw [evC_ag h1 (by simp [Op.operands]), hb, ev_ag (x := y) h1 (by simp [Op.operands]), hv]; rfl⟩
        · cases h'
    · cases h
  | fieldAddr t x f =>
    have e : ∀ fr2, AgF (slotsL (Op.fieldAddr t x f).operands.toList) fr fr2 → evC fr2 x = evC fr x := fun fr2 h1 => evC_ag h1 (by simp [Op.operands])
    simp only [opK] at h
    repeat' split at h
    all_goals first
      | (cases h; done)
      | exact ⟨_, h, fun fr2 hp2 h1 k2 => by simp only [opK]; rw [e fr2 h1]; simp only [*]⟩
  | nilCheck x =>
    have e : ∀ fr2, AgF (slotsL (Op.nilCheck x).operands.toList) fr fr2 → evC fr2 x = evC fr x := fun fr2 h1 => evC_ag h1 (by simp [Op.operands])
    simp only [opK] at h
    repeat' split at h
    all_goals first
      | (cases h; done)
      | exact ⟨_, h, fun fr2 hp2 h1 k2 => by simp only [opK]; rw [e fr2 h1]; simp only [*]⟩
  | extract x i =>
    have e : ∀ fr2, AgF (slotsL (Op.extract x i).operands.toList) fr fr2 → ev fr2 x = ev fr x := fun fr2 h1 => ev_ag h1 (by simp [Op.operands])
    simp only [opK] at h
    repeat' split at h
    all_goals first
      | (cases h; done)
      | exact ⟨_, h, fun fr2 hp2 h1 k2 => by simp only [opK]; rw [e fr2 h1]; simp only [*]⟩
  | makeFunc f first caps =>
    cases f with
    | func f =>
      have e : ∀ fr2, AgF (slotsL (Op.makeFunc (.func f) first caps).operands.toList) fr fr2 → capIds D fr2 caps.toList = capIds D fr caps.toList := fun fr2 h1 => capIds_ag h1 fun x hx => by
        simp only [Op.operands, Array.toList_append]; exact List.mem_append_right _ hx
      simp only [opK] at h
      repeat' split at h
      all_goals first
        | (cases h; done)
        | exact ⟨_, h, fun fr2 hp2 h1 k2 => by simp only [opK]; rw [e fr2 h1]; simp only [*]⟩
    | _ => simp [opK] at h
  | _ => simp [movOp] at hm
end
end Go.Proofs.Ytalgppclaolonaa.Ev
