/- Values without memory: whether two structs are the same; every operation that calls no function. -/
import Derived.Test.YtalgppclaolonaaEv14
namespace Go.Proofs.Ytalgppclaolonaa.Ev
open Go
set_option linter.unusedVariables false
set_option linter.unusedSimpArgs false
section
variable {D : Tys} {P : Program}
variable {R : Type} {H : HH D R} {K : Kx} {β : Nat → Option Loc} {F : Nat → Prop} {fr : Tr (V D.S)} {hp : Tr (B D.S)} {a : Act} {w : World} {o : Oper} {d : Nat} {k : KK D R} {r : R}
def eqPl : List (C D.S) → List (C D.S) → Option Bool
  | [], [] => some true
  | x :: xs, y :: ys => match eqC x y with | some b => (match eqPl xs ys with | some b' => some (b && b') | none => none) | none => none
  | _, _ => none
theorem eqCs_pl : ∀ {xs ys : List (C D.S)} {r : Bool}, eqCs xs ys = some r → eqPl xs ys = some r
  | [], [], r, h => h
  | [], _ :: _, r, h => by simp [eqCs] at h
  | _ :: _, [], r, h => by simp [eqCs] at h
  | [x], [y], r, h => by
    simp only [eqCs] at h
    simp [eqPl, h]
  | [x], y :: y' :: ys, r, h => by
    simp only [eqCs] at h
    split at h <;> cases h
  | x :: x' :: xs, [y], r, h => by
    simp only [eqCs] at h
    split at h <;> cases h
  | x :: x' :: xs, y :: y' :: ys, r, h => by
    rw [eqCs] at h
    · split at h
      · rename_i b hb
        split at h
        · rename_i b' hb'
          rw [eqPl]
          rw [hb, eqCs_pl hb']
          exact h
        · cases h
      · cases h
    all_goals simp
theorem eqPl_split : ∀ {n : Nat} {xs ys : List (C D.S)} {r : Bool}, eqPl xs ys = some r → ∃ r1 r2, eqPl (xs.take n) (ys.take n) = some r1 ∧ eqPl (xs.drop n) (ys.drop n) = some r2 ∧ r = (r1 && r2)
  | 0, xs, ys, r, h => ⟨true, r, rfl, h, rfl⟩
  | n + 1, [], [], r, h => ⟨true, r, rfl, h, rfl⟩
  | n + 1, [], _ :: _, r, h => by simp [eqPl] at h
  | n + 1, _ :: _, [], r, h => by simp [eqPl] at h
  | n + 1, x :: xs, y :: ys, r, h => by
    simp only [eqPl] at h
    split at h
    · rename_i b hb
      split at h
      · rename_i b' hb'
        obtain rfl := Option.some.inj h
        obtain ⟨r1, r2, h1, h2, rfl⟩ := eqPl_split (n := n) hb'
        exact ⟨b && r1, r2, by simp [eqPl, hb, h1], by simpa using h2, by cases b <;> rfl⟩
      · cases h
    · cases h
theorem kindsC_at : ∀ {ks : List TD} {cs : List (C D.S)}, kindsC ks cs = true → ks.length = cs.length
  | [], [], _ => rfl
  | k :: ks, c :: cs, h => by
    simp only [kindsC] at h
    split at h
    · simp [kindsC_at h]
    · cases h
  | [], _ :: _, h => by cases h
  | _ :: _, [], h => by cases h
theorem kindsC_app : ∀ {k1 k2 : List TD} {cs : List (C D.S)}, kindsC (k1 ++ k2) cs = true → kindsC k1 (cs.take k1.length) = true ∧ kindsC k2 (cs.drop k1.length) = true
  | [], k2, cs, h => ⟨rfl, h⟩
  | k :: k1, k2, [], h => by cases h
  | k :: k1, k2, c :: cs, h => by
    simp only [List.cons_append, kindsC] at h
    split at h
    · rename_i hk
      obtain ⟨h1, h2⟩ := kindsC_app h
      refine ⟨?_, by simpa using h2⟩
      simp only [List.length_cons, List.take_succ_cons, kindsC, hk]
      exact h1
    · cases h
/-- A value of a type, told and in memory. -/
def ValOf (P : Program) (t : TypeId) (w : World) (F : Nat → Prop) (h : Hp D) (β : Nat → Option Loc) (cs : List (C D.S)) (v : Value) : Prop :=
  (aggOf P t = true → ∃ vs, v = .agg vs ∧ RL D w F h β cs vs.toList) ∧ (aggOf P t = false → ∃ c, cs = [c] ∧ RC D w F h β c v)
theorem eq_one {c c' : C D.S} {b : Bool} (e : eqPl [c] [c'] = some b) : eqC c c' = some b := by
  simp only [eqPl] at e
  split at e
  · rename_i b' hb'
    simp at e
    rw [hb', e]
  · cases e
theorem part_val {f : Field} (hu : (P.underlying f.type).isSome) (hpos : 0 < P.cellsOf f.type) {F h β} {cs : List (C D.S)} {vs : Array Value} (rl : RL D w F h β cs vs.toList) {off : Nat} (hl : off + P.cellsOf f.type ≤ cs.length)
    (hone : aggOf P f.type = false → P.cellsOf f.type = 1) : ∃ v, (part f.type vs off).run P w = .ok v w ∧ ValOf P f.type w F h β ((cs.drop off).take (P.cellsOf f.type)) v := by
  obtain ⟨j, hj, hs⟩ := cellsOf_info hpos
  have hsub : ∀ n (l : List (C D.S)), n ≤ l.length → takeS n l = some (l.take n) := by
    intro n
    induction n with
    | zero => intro l _; rfl
    | succ n ih =>
      intro l hl
      match l, hl with
      | x :: l, hl => simp only [takeS]; rw [ih l (by simpa using hl)]; rfl
  have hdrop : ∀ n (l : List (C D.S)), n ≤ l.length → dropS n l = some (l.drop n) := by
    intro n
    induction n with
    | zero => intro l _; rfl
    | succ n ih =>
      intro l hl
      match l, hl with
      | x :: l, hl => simp only [dropS]; rw [ih l (by simpa using hl)]; rfl
  have e : subS off j.size cs = some ((cs.drop off).take (P.cellsOf f.type)) := by
    unfold subS
    rw [hdrop off cs (by omega)]
    simp only
    rw [hs, hsub _ _ (by rw [List.length_drop]; omega)]
  cases hg : aggOf P f.type
  · have h1 := hone hg
    have hlen : ((cs.drop off).take (P.cellsOf f.type)).length = 1 := by rw [List.length_take, List.length_drop]; omega
    match hq : (cs.drop off).take (P.cellsOf f.type), hlen with
    | [c], _ =>
      rw [hq] at e
      obtain ⟨v, hv, ra⟩ := run_part hj hu (by omega) hg rl e (x := .c c) rfl
      exact ⟨v, hv, fun h => (by rw [hg] at h; cases h), fun _ => ⟨c, rfl, ra⟩⟩
  · obtain ⟨v, hv, ra⟩ := run_part hj hu (by omega) hg rl e (x := .agg _) rfl
    exact ⟨v, hv, fun _ => ra, fun h => (by rw [hg] at h; cases h)⟩
theorem kindsT_one {m : Nat} {t : TypeId} {ks : List TD} (h : kindsT P m t = some ks) (hg : aggOf P t = false) : ks.length = 1 := by
  cases m with
  | zero => cases h
  | succ m =>
    unfold kindsT at h
    unfold aggOf at hg
    split at h
    · obtain rfl := Option.some.inj h; rfl
    · obtain rfl := Option.some.inj h; rfl
    · obtain rfl := Option.some.inj h; rfl
    · rename_i e; rw [e] at hg; cases hg
    · cases h
/-- What two values of a type come to when they are compared. -/
def EqRun (D : Tys) (P : Program) (w : World) (F : Nat → Prop) (h : Hp D) (β : Nat → Option Loc) (m : Nat) (t : TypeId) (ks : List TD) : Prop :=
  ∀ (d : Nat) (cs ds : List (C D.S)) (v u : Value) (r : Bool), kindsC ks cs = true → kindsC ks ds = true → ValOf P t w F h β cs v → ValOf P t w F h β ds u → eqPl cs ds = some r → (Op.equalIn (d + m) t v u).run P w = .ok r w
theorem eqFields_run {h β} (m : Nat) (ih : ∀ t ks, kindsT P m t = some ks → EqRun D P w F h β m t ks) {cs ds : List (C D.S)} {xs ys : Array Value} (r1 : RL D w F h β cs xs.toList) (r2 : RL D w F h β ds ys.toList) (d : Nat) :
    ∀ (fs : List Field) (off : Nat) (ks : List TD) (r : Bool), kindsF P (kindsT P m) fs off = some ks → kindsC ks (cs.drop off) = true → kindsC ks (ds.drop off) = true → off ≤ cs.length → off ≤ ds.length → eqPl (cs.drop off) (ds.drop off) = some r → (Op.eqFields (d + m) xs ys fs).run P w = .ok r w
  | [], off, ks, r, hk, k1, k2, o1, o2, he => by
    simp only [kindsF, Option.some.injEq] at hk
    subst hk
    have e1 := kindsC_at k1
    have e2 := kindsC_at k2
    rw [List.length_eq_zero_iff.mp e1.symm, List.length_eq_zero_iff.mp e2.symm] at he
    simp only [eqPl, Option.some.injEq] at he
    subst he
    simp [Op.eqFields]
  | f :: fs, off, ks, r, hk, k1, k2, o1, o2, he => by
    simp only [kindsF] at hk
    split at hk
    · rename_i hc
      simp only [Bool.and_eq_true, bne_iff_ne, beq_iff_eq, decide_eq_true_eq] at hc
      obtain ⟨⟨⟨hn, ho⟩, hpos⟩, hu⟩ := hc
      split at hk
      · rename_i ka kb hka hkb
        split at hk
        · rename_i hkl
          obtain rfl := Option.some.inj hk
          obtain ⟨k1a, k1b⟩ := kindsC_app k1
          obtain ⟨k2a, k2b⟩ := kindsC_app k2
          have l1 := kindsC_at k1
          have l2 := kindsC_at k2
          rw [List.length_append, List.length_drop] at l1 l2
          rw [hkl] at k1a k1b k2a k2b
          rw [List.drop_drop] at k1b k2b
          obtain ⟨q1, q2, e1, e2, rfl⟩ := eqPl_split (n := P.cellsOf f.type) he
          rw [List.drop_drop, List.drop_drop] at e2
          have hone : aggOf P f.type = false → P.cellsOf f.type = 1 := fun hg => by rw [← hkl]; exact kindsT_one hka hg
          obtain ⟨v, hv, va⟩ := part_val (w := w) hu hpos r1 (off := off) (by omega) hone
          obtain ⟨u, hu', vu⟩ := part_val (w := w) hu hpos r2 (off := off) (by omega) hone
          have hrun := ih f.type ka hka d _ _ v u q1 k1a k2a va vu e1
          have hrest := eqFields_run m ih r1 r2 d fs (off + P.cellsOf f.type) kb q2 hkb k1b k2b (by omega) (by omega) e2
          simp only [Op.eqFields, if_pos hn, Sem.run_bind, ho, hv, hu', hrun, Result.andThen_ok]
          cases q1
          · simp
          · simp [hrest]
        · cases hk
      · cases hk
    · cases hk
theorem equal_run {h β} : ∀ (m : Nat) (t : TypeId) (ks : List TD), kindsT P m t = some ks → EqRun D P w F h β m t ks
  | 0, t, ks, hk => by cases hk
  | m + 1, t, ks, hk => by
    intro d cs ds v u r k1 k2 hv hu he
    unfold kindsT at hk
    have one : ∀ (kd : TD), ks = [kd] → aggOf P t = false → ∃ c c', kindC kd c = true ∧ kindC kd c' = true ∧ RC D w F h β c v ∧ RC D w F h β c' u ∧ eqC c c' = some r := by
      intro kd e hg
      subst e
      obtain ⟨c, rfl, rc⟩ := hv.2 hg
      obtain ⟨c', rfl, rc'⟩ := hu.2 hg
      simp only [kindsC] at k1 k2
      refine ⟨c, c', ?_, ?_, rc, rc', eq_one he⟩
      · split at k1 <;> first | assumption | cases k1
      · split at k2 <;> first | assumption | cases k2
    split at hk
    · rename_i hx
      obtain ⟨c, c', q1, q2, rc, rc', e⟩ := one .bool (Option.some.inj hk).symm (by unfold aggOf; rw [hx])
      cases c <;> simp [kindC] at q1
      cases c' <;> simp [kindC] at q2
      obtain rfl := RC.bool_inv rc
      obtain rfl := RC.bool_inv rc'
      simp only [eqC, Option.some.injEq] at e
      subst e
      show (Op.equalIn ((d + m) + 1) t _ _).run P w = _
      simp [Op.equalIn, run_underlying hx]
    · rename_i kk hx
      obtain ⟨c, c', q1, q2, rc, rc', e⟩ := one (.int kk) (Option.some.inj hk).symm (by unfold aggOf; rw [hx])
      cases c <;> simp [kindC] at q1
      cases c' <;> simp [kindC] at q2
      subst q1; subst q2
      obtain rfl := RC.int_inv rc
      obtain rfl := RC.int_inv rc'
      simp only [eqC, if_pos, Option.some.injEq] at e
      subst e
      show (Op.equalIn ((d + m) + 1) t _ _).run P w = _
      simp [Op.equalIn, run_underlying hx]
    · rename_i hx
      obtain ⟨c, c', q1, q2, rc, rc', e⟩ := one .str (Option.some.inj hk).symm (by unfold aggOf; rw [hx])
      cases c <;> simp [kindC] at q1
      cases c' <;> simp [kindC] at q2
      obtain rfl := RC.str_inv rc
      obtain rfl := RC.str_inv rc'
      simp only [eqC, Option.some.injEq] at e
      subst e
      show (Op.equalIn ((d + m) + 1) t _ _).run P w = _
      simp [Op.equalIn, run_underlying hx]
    · rename_i fs hx
      have hg : aggOf P t = true := by unfold aggOf; rw [hx]
      obtain ⟨vs, rfl, rl⟩ := hv.1 hg
      obtain ⟨us, rfl, ru⟩ := hu.1 hg
      split at hk
      · cases hk
      · rename_i hst
        have hfo : P.fieldsOf t = fs := by unfold Program.fieldsOf; rw [hx]
        show (Op.equalIn ((d + m) + 1) t _ _).run P w = _
        rw [run_equalIn_struct w (d + m) t vs us (by rw [hfo]; exact hx) (by simpa using hst), hfo]
        exact eqFields_run m (equal_run m) rl ru d fs.toList 0 ks r hk (by simpa using k1) (by simpa using k2) (Nat.zero_le _) (Nat.zero_le _) (by simpa using he)
    · cases hk
theorem op_binOp_agg (lw : Lawful D P) (s : Sim K β F fr hp a w) {op : BinOp} {t q : TypeId} {x y : Operand} (ho : o.op = .binOp op t x y q) {c1 c2 : List (C D.S)} (hx : evA fr x = some (.agg c1)) (hy : evA fr y = some (.agg c2))
    (h : opK D H (.binOp op t x y q) d fr hp k = some r) : Post D P K o a w k r := by
  simp only [opK, hx, hy] at h
  split at h
  · rename_i ti hti
    split at h
    · cases h
    · rename_i hkk
      rw [Bool.and_eq_true, Bool.and_eq_true] at hkk
      obtain ⟨hne, hkk⟩ := hkk
      split at h
      · cases h
      · rename_i b hb
        have ok := lk_ti lw hti
        obtain ⟨vs, ex, rx⟩ := evA_ok s hx
        obtain ⟨us, ey, ry⟩ := evA_ok s hy
        rcases ok.eqk with e0 | ⟨m, hm, hks, hgt, hg⟩
        · rw [e0] at hne; cases hne
        · have key := equal_run (w := w) (F := F) (h := hp.get) (β := β) m t ti.eqk hks
          have hval : ∀ cs vv, (∃ vs, vv = .agg vs ∧ RL D w F hp.get β cs vs.toList) → ValOf P t w F hp.get β cs vv := fun cs vv h => ⟨fun _ => h, fun e => by rw [hg] at e; cases e⟩
          have hrun : (Op.equal t (a.eval x) (a.eval y)).run P w = .ok b w := by
            have := key (10000 - m) c1 c2 _ _ b hkk.1 hkk.2 (hval _ _ ⟨vs, ex, rx⟩) (hval _ _ ⟨us, ey, ry⟩) (eqCs_pl hb)
            rw [Nat.sub_add_cancel hm] at this
            exact this
          have hgd : ∀ op, (eqGuard op t x y (a.eval x) (a.eval y)).run P w = .ok () w := fun op => by
            rw [ex, ey]
            unfold eqGuard
            cases op <;> first | rfl | simp [hgt]
          have := fun hop => opEq_run (P := P) (o := o) (a := a) (w := w) (op := op) (t := t) (q := q) (x := x) (y := y) ho rfl rfl hop (by rw [ex]; simp) (by rw [ex]; simp) (by rw [ex]; simp) (by rw [ex]; simp) (hgd op) hrun
          split at h
          · exact Post.pure s h ((this (.inl rfl)).1 rfl) (.bool _)
          · exact Post.pure s h ((this (.inr rfl)).2 rfl) (.bool _)
          · cases h
  · cases h
end
end Go.Proofs.Ytalgppclaolonaa.Ev
