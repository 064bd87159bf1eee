/- Values without memory: binary operations; places in what is told. -/
import Derived.Test.YtalgppclaolonaaEv7
import Derived.Laws.StructEq
namespace Go.Proofs.Ytalgppclaolonaa.Ev
open Go
set_option linter.unusedVariables false
set_option linter.unusedSimpArgs false
section
variable {D : Tys} {P : Program}
variable {R : Type} {H : HH D R} {K : Kx} {β : Nat → Option Loc} {F : Nat → Prop} {fr : Tr (V D.S)} {hp : Tr (B D.S)} {a : Act} {w : World} {o : Oper} {d : Nat} {k : KK D R} {r : R}
theorem intOp_ok {op : BinOp} {k1 : IntKind} {x y : Int} {c : C D.S} (e : intOp op k1 x y = some c) (w F h β) (t : TypeId) :
    ∃ v, (binOp op t (.int k1 x) (.int k1 y)).run P w = .ok v w ∧ RC D w F h β c v := by
  cases op <;> simp only [intOp, Option.some.injEq, reduceCtorEq] at e <;> subst e
  · exact ⟨_, by simp [binOp, Op.intArith], .int _ _⟩
  · exact ⟨_, by simp [binOp, Op.intArith], .int _ _⟩
  · exact ⟨_, by simp [binOp, Op.intArith], .int _ _⟩
  · exact ⟨_, by simp only [binOp, ne_eq, not_true_eq_false, ite_false, Op.intBits]; rfl, .int _ _⟩
  · exact ⟨_, by simp only [binOp, ne_eq, not_true_eq_false, ite_false, Op.intBits]; rfl, .int _ _⟩
  · exact ⟨_, by simp only [binOp, ne_eq, not_true_eq_false, ite_false, Op.intBits]; rfl, .int _ _⟩
  · exact ⟨_, by simp only [binOp, ne_eq, not_true_eq_false, ite_false, Op.intBits]; rfl, .int _ _⟩
  · exact ⟨_, by simp [binOp, Op.intCmp], .bool _⟩
  · exact ⟨_, by simp [binOp, Op.intCmp], .bool _⟩
  · exact ⟨_, by simp [binOp, Op.intCmp], .bool _⟩
  · exact ⟨_, by simp [binOp, Op.intCmp], .bool _⟩
  · exact ⟨_, by simp [binOp, Op.intCmp], .bool _⟩
  · exact ⟨_, by simp [binOp, Op.intCmp], .bool _⟩
theorem strOp_ok {op : BinOp} {x y : ByteArray} {c : C D.S} (e : strOp op x y = some c) (w F h β) (t : TypeId) :
    ∃ v, (binOp op t (.string x) (.string y)).run P w = .ok v w ∧ RC D w F h β c v := by
  cases op <;> simp only [strOp, Option.some.injEq, reduceCtorEq] at e <;> subst e
  all_goals exact ⟨_, by simp [binOp, Op.stringOp], .bool _⟩
theorem guard_none {op : BinOp} {t : TypeId} {x y : Operand} {v u : Value} (hv : ∀ n, v ≠ .nilIface ∨ u ≠ n) (hg : ∀ cs, v ≠ .agg cs) (w : World) : (eqGuard op t x y v u).run P w = .ok () w := by
  cases v with
  | nilIface => rcases hv u with h | h <;> exact absurd rfl h
  | agg cs => exact absurd rfl (hg cs)
  | _ => cases op <;> rfl
theorem boolEq {op : BinOp} {t : TypeId} {d : TypeDesc} (hu : P.underlying t = some d) : True := trivial
theorem evA_int (s : Sim K β F fr hp a w) {x : Operand} {k1 : IntKind} {n : Int} (h : evA fr x = some (.c (.int k1 n))) : a.eval x = .int k1 n := by
  have r : RP D w F (.int k1 n) (a.eval x) := evA_ok s h
  generalize a.eval x = z at r
  cases r; rfl
theorem evA_str (s : Sim K β F fr hp a w) {x : Operand} {n : ByteArray} (h : evA fr x = some (.c (.str n))) : a.eval x = .string n := by
  have r : RP D w F (.str n) (a.eval x) := evA_ok s h
  generalize a.eval x = z at r
  cases r; rfl
theorem evA_bool (s : Sim K β F fr hp a w) {x : Operand} {n : Bool} (h : evA fr x = some (.c (.bool n))) : a.eval x = .bool n := by
  have r : RP D w F (.bool n) (a.eval x) := evA_ok s h
  generalize a.eval x = z at r
  cases r; rfl
theorem op_binOp_int (s : Sim K β F fr hp a w) {op : BinOp} {t q : TypeId} {x y : Operand} (ho : o.op = .binOp op t x y q) {k1 k2 : IntKind} {m n : Int} (hx : evA fr x = some (.c (.int k1 m))) (hy : evA fr y = some (.c (.int k2 n)))
    (h : opK D H (.binOp op t x y q) d fr hp k = some r) : Post D P K o a w k r := by
  have ex : a.eval x = .int k1 m := evA_int s hx
  have ey : a.eval y = .int k2 n := evA_int s hy
  have g : ∀ op, (eqGuard op t x y (.int k1 m) (.int k2 n)).run P w = .ok () w := fun op => guard_none (fun _ => .inl (fun e => by cases e)) (fun _ e => by cases e) w
  simp only [opK, hx, hy] at h
  split at h
  · obtain ⟨hb, h⟩ := bK_some h
    have hb : 0 ≤ n := of_decide_eq_true hb
    have hn : ¬ n < 0 := by omega
    exact Post.pure s h (cv := .int k1 (shlE k1 m n)) (by simp [execOp, ho, ex, ey, g, binOp, Op.shift, hn, shlE]) (.int _ _)
  · obtain ⟨hb, h⟩ := bK_some h
    have hb : 0 ≤ n := of_decide_eq_true hb
    have hn : ¬ n < 0 := by omega
    exact Post.pure s h (cv := .int k1 (shrE k1 m n)) (by simp [execOp, ho, ex, ey, g, binOp, Op.shift, hn, shrE]) (.int _ _)
  · split at h
    · rename_i e
      subst e
      rcases bKK_some h with ⟨_, h2⟩ | ⟨e0, h2⟩
      · cases h2
      · have hn : n ≠ 0 := of_decide_eq_false e0
        exact Post.pure s h2 (cv := .int k1 (k1.wrap (m.tdiv n))) (by simp [execOp, ho, ex, ey, g, binOp, Op.intDiv, hn]) (.int _ _)
    · cases h
  · split at h
    · rename_i e
      subst e
      rcases bKK_some h with ⟨_, h2⟩ | ⟨e0, h2⟩
      · cases h2
      · have hn : n ≠ 0 := of_decide_eq_false e0
        exact Post.pure s h2 (cv := .int k1 (m.tmod n)) (by simp [execOp, ho, ex, ey, g, binOp, Op.intDiv, hn]) (.int _ _)
    · cases h
  · split at h
    · rename_i e
      subst e
      split at h
      · rename_i c hc
        obtain ⟨v, hv, rv⟩ := intOp_ok (P := P) hc w F hp.get β t
        exact Post.pure s h (cv := v) (by simp [execOp, ho, ex, ey, g, hv]) rv
      · cases h
    · cases h
theorem op_binOp_str (s : Sim K β F fr hp a w) {op : BinOp} {t q : TypeId} {x y : Operand} (ho : o.op = .binOp op t x y q) {m n : ByteArray} (hx : evA fr x = some (.c (.str m))) (hy : evA fr y = some (.c (.str n)))
    (h : opK D H (.binOp op t x y q) d fr hp k = some r) : Post D P K o a w k r := by
  have ex : a.eval x = .string m := evA_str s hx
  have ey : a.eval y = .string n := evA_str s hy
  have g : ∀ op, (eqGuard op t x y (.string m) (.string n)).run P w = .ok () w := fun op => guard_none (fun _ => .inl (fun e => by cases e)) (fun _ e => by cases e) w
  simp only [opK, hx, hy] at h
  split at h
  · obtain ⟨hb, h⟩ := bK_some h
    have hb : (m.size : Int) + (n.size : Int) ≤ 9223372036854775807 := by
      have : m.size + n.size ≤ 9223372036854775807 := Nat.le_of_ble_eq_true hb
      omega
    have hn : ¬ (IntKind.i64.max < (m.size : Int) + (n.size : Int)) := by
      have e1 : IntKind.i64.max = 9223372036854775807 := rfl
      rw [e1]; omega
    have hr : (binOp .add t (.string m) (.string n)).run P w = .ok (.string (m ++ n)) w := by
      simp only [binOp, Op.stringOp]
      rw [if_neg (by push_cast; exact hn)]
      rfl
    exact Post.pure s h (cv := .string (m ++ n)) (by simp [execOp, ho, ex, ey, g, hr]) (.str _)
  · split at h
    · rename_i c hc
      obtain ⟨v, hv, rv⟩ := strOp_ok (P := P) hc w F hp.get β t
      exact Post.pure s h (cv := v) (by simp [execOp, ho, ex, ey, g, hv]) rv
    · cases h
theorem opEq_run {w : World} {op : BinOp} {t q : TypeId} {x y : Operand} (ho : o.op = .binOp op t x y q) {v u : Value} (ex : a.eval x = v) (ey : a.eval y = u) {b : Bool} (hop : op = .eql ∨ op = .neq)
    (hn : ∀ k m k' m', v = .int k m → u = .int k' m' → False) (hs : ∀ m m', v = .string m → u = .string m' → False) (hk : (∃ b, v = .bool b) ∨ v = .nilIface ∨ (∃ p, v = .pointer p) ∨ (∃ a n c, v = .slice a n c) ∨ v = .nilFunc ∨ (∃ f a b, v = .func f a b) ∨ (∃ t u, v = .iface t u) ∨ ∃ cs, v = .agg cs)
    (hu : ∀ p, v = .pointer p → ∃ p', u = .pointer p')
    (g : (eqGuard op t x y v u).run P w = .ok () w) (he : (Op.equal t v u).run P w = .ok b w) :
    (op = .eql → (execOp a.eval o).run P w = .ok (.value (.bool b)) w) ∧ (op = .neq → (execOp a.eval o).run P w = .ok (.value (.bool (!b))) w) := by
  have hb : ∀ op, op = .eql ∨ op = .neq → (binOp op t v u).run P w = .ok (.bool (if op = .eql then b else !b)) w := by
    intro op hop
    rcases hk with ⟨z, rfl⟩ | rfl | ⟨p, rfl⟩ | ⟨a, n, c, rfl⟩ | rfl | ⟨f, a, b, rfl⟩ | ⟨f, a, rfl⟩ | ⟨cs, rfl⟩
    all_goals
      first
      | (obtain ⟨p', rfl⟩ := hu _ rfl
         rcases hop with rfl | rfl <;> simp [binOp, he])
      | (rcases hop with rfl | rfl <;> simp [binOp, he])
  refine ⟨fun e => ?_, fun e => ?_⟩
  · subst e; simp [execOp, ho, ex, ey, g, hb .eql (.inl rfl)]
  · subst e; simp [execOp, ho, ex, ey, g, hb .neq (.inr rfl)]
theorem RC.nils_inv {w F h β v} (r : RC D w F h β .nils v) : v = .slice none 0 0 := by cases r; rfl
theorem RC.nilp_inv {w F h β v} (r : RC D w F h β .nilp v) : v = .pointer none := by cases r; rfl
theorem RC.nili_inv {w F h β v} (r : RC D w F h β .nili v) : v = .nilIface := by cases r; rfl
theorem RC.nilf_inv {w F h β v} (r : RC D w F h β .nilf v) : v = .nilFunc := by cases r; rfl
theorem RC.fptr_inv {w F h β t l i off v} (r : RC D w F h β (.fptr t l i off) v) : ∃ A, v = .pointer (some A) := by cases r; exact ⟨_, rfl⟩
theorem RC.err_inv {w F h β t k n v} (r : RC D w F h β (.err t k n) v) : v = .iface t (.int k n) := by cases r; rfl
theorem equal_of {w : World} {t : TypeId} {v u : Value} {b : Bool} (h : ∀ d, (Op.equalIn (d + 1) t v u).run P w = .ok b w) : (Op.equal t v u).run P w = .ok b w := h 9999
theorem eq_run {d : TD} {kk : Bool} {c1 c2 : C D.S} {b : Bool} {t : TypeId} (hd : descOk P t d) {x y : Operand} {op : BinOp} (hkk : kk = (isK x || isK y))
    (e : eqv d kk c1 c2 = some b) {w F h β} {v u : Value} (r1 : RC D w F h β c1 v) (r2 : RC D w F h β c2 u) :
    (eqGuard op t x y v u).run P w = .ok () w ∧ (Op.equal t v u).run P w = .ok b w ∧ (∀ k m k' m', v = .int k m → u = .int k' m' → False) ∧ (∀ m m', v = .string m → u = .string m' → False) ∧
      ((∃ b, v = .bool b) ∨ v = .nilIface ∨ (∃ p, v = .pointer p) ∨ (∃ a n c, v = .slice a n c) ∨ v = .nilFunc ∨ (∃ f a b, v = .func f a b) ∨ (∃ t u, v = .iface t u) ∨ ∃ cs, v = .agg cs) ∧
      (∀ p, v = .pointer p → ∃ p', u = .pointer p') := by
  have G : ∀ {v u : Value}, (∀ n, v ≠ .nilIface ∨ u ≠ n) → (∀ cs, v ≠ .agg cs) → (eqGuard op t x y v u).run P w = .ok () w := fun h1 h2 => guard_none h1 h2 w
  unfold eqv at e
  split at e
  · obtain rfl := RC.bool_inv r1
    obtain rfl := RC.bool_inv r2
    cases d with
    | bool =>
      obtain rfl := Option.some.inj e
      have hu : P.underlying t = some .bool := hd
      exact ⟨G (fun _ => .inl (fun e => by cases e)) (fun _ e => by cases e), equal_of fun d => by simp [Op.equalIn, run_underlying hu], by simp, by simp, by simp, by simp⟩
    | _ => cases e
  · unfold nilEq at e
    split at e
    · obtain rfl := RC.nils_inv r1
      obtain rfl := RC.nils_inv r2
      cases d with
      | slice e' =>
        obtain rfl := Option.some.inj e
        have hu : P.underlying t = some (.slice e') := hd
        exact ⟨G (fun _ => .inl (fun e => by cases e)) (fun _ e => by cases e), equal_of fun d => by simp [Op.equalIn, run_underlying hu], by simp, by simp, by simp, by simp⟩
      | _ => cases e
    · obtain rfl := RC.nilp_inv r1
      obtain rfl := RC.nilp_inv r2
      cases d with
      | ptr e' =>
        obtain rfl := Option.some.inj e
        have hu : P.underlying t = some (.pointer e') := hd
        exact ⟨G (fun _ => .inl (fun e => by cases e)) (fun _ e => by cases e), equal_of fun d => by simp [Op.equalIn, run_underlying hu], by simp, by simp, by simp, by simp⟩
      | _ => cases e
    · obtain rfl := RC.nili_inv r1
      obtain rfl := RC.nili_inv r2
      cases d with
      | iface =>
        cases kk with
        | false => cases e
        | true =>
          obtain rfl := Option.some.inj e
          obtain ⟨ms, hu⟩ := hd
          refine ⟨?_, equal_of fun d => by simp [Op.equalIn, run_underlying hu], by simp, by simp, by simp, by simp⟩
          have hk := hkk.symm
          cases op <;> (try rfl)
          all_goals
            cases x <;> cases y <;> first | rfl | (simp [isK] at hk)
      | _ => cases e
    · obtain rfl := RC.nilf_inv r1
      obtain rfl := RC.nilf_inv r2
      cases d with
      | func =>
        obtain rfl := Option.some.inj e
        obtain ⟨ps, rs, vv, hu⟩ := hd
        exact ⟨G (fun _ => .inl (fun e => by cases e)) (fun _ e => by cases e), equal_of fun d => by simp [Op.equalIn, run_underlying hu], by simp, by simp, by simp, by simp⟩
      | _ => cases e
    · obtain ⟨cs, L, _, _, rfl⟩ := r1
      obtain rfl := RC.nilp_inv r2
      cases d with
      | ptr e' =>
        obtain rfl := Option.some.inj e
        have hu : P.underlying t = some (.pointer e') := hd
        exact ⟨G (fun _ => .inl (fun e => by cases e)) (fun _ e => by cases e), equal_of fun d => by simp [Op.equalIn, run_underlying hu], by simp, by simp, by simp, by simp⟩
      | _ => cases e
    · obtain rfl := RC.nilp_inv r1
      obtain ⟨cs, L, _, _, rfl⟩ := r2
      cases d with
      | ptr e' =>
        obtain rfl := Option.some.inj e
        have hu : P.underlying t = some (.pointer e') := hd
        exact ⟨G (fun _ => .inl (fun e => by cases e)) (fun _ e => by cases e), equal_of fun d => by simp [Op.equalIn, run_underlying hu], by simp, by simp, by simp, by simp⟩
      | _ => cases e
    · obtain ⟨A, rfl⟩ := RC.fptr_inv r1
      obtain rfl := RC.nilp_inv r2
      cases d with
      | ptr e' =>
        obtain rfl := Option.some.inj e
        have hu : P.underlying t = some (.pointer e') := hd
        exact ⟨G (fun _ => .inl (fun e => by cases e)) (fun _ e => by cases e), equal_of fun d => by simp [Op.equalIn, run_underlying hu], by simp, by simp, by simp, by simp⟩
      | _ => cases e
    · obtain rfl := RC.nilp_inv r1
      obtain ⟨A, rfl⟩ := RC.fptr_inv r2
      cases d with
      | ptr e' =>
        obtain rfl := Option.some.inj e
        have hu : P.underlying t = some (.pointer e') := hd
        exact ⟨G (fun _ => .inl (fun e => by cases e)) (fun _ e => by cases e), equal_of fun d => by simp [Op.equalIn, run_underlying hu], by simp, by simp, by simp, by simp⟩
      | _ => cases e
    · obtain rfl := RC.err_inv r1
      obtain rfl := RC.nili_inv r2
      cases d with
      | iface =>
        obtain rfl := Option.some.inj e
        obtain ⟨ms, hu⟩ := hd
        exact ⟨G (fun _ => .inl (fun e => by cases e)) (fun _ e => by cases e), equal_of fun d => by simp [Op.equalIn, run_underlying hu], by simp, by simp, by simp, by simp⟩
      | _ => cases e
    · obtain rfl := RC.nili_inv r1
      obtain rfl := RC.err_inv r2
      cases d with
      | iface =>
        obtain rfl := Option.some.inj e
        obtain ⟨ms, hu⟩ := hd
        exact ⟨by cases op <;> rfl, equal_of fun d => by simp [Op.equalIn, run_underlying hu], by simp, by simp, by simp, by simp⟩
      | _ => cases e
    · obtain ⟨rfl, _⟩ := r1
      obtain rfl := RC.nilf_inv r2
      cases d with
      | func =>
        obtain rfl := Option.some.inj e
        obtain ⟨ps, rs, vv, hu⟩ := hd
        exact ⟨G (fun _ => .inl (fun e => by cases e)) (fun _ e => by cases e), equal_of fun d => by simp [Op.equalIn, run_underlying hu], by simp, by simp, by simp, by simp⟩
      | _ => cases e
    · obtain rfl := RC.nilf_inv r1
      obtain ⟨rfl, _⟩ := r2
      cases d with
      | func =>
        obtain rfl := Option.some.inj e
        obtain ⟨ps, rs, vv, hu⟩ := hd
        exact ⟨G (fun _ => .inl (fun e => by cases e)) (fun _ e => by cases e), equal_of fun d => by simp [Op.equalIn, run_underlying hu], by simp, by simp, by simp, by simp⟩
      | _ => cases e
    · cases e
theorem op_binOp_nil (lw : Lawful D P) (s : Sim K β F fr hp a w) {op : BinOp} {t q : TypeId} {x y : Operand} (ho : o.op = .binOp op t x y q) {c1 c2 : C D.S} (hx : evA fr x = some (.c c1)) (hy : evA fr y = some (.c c2))
    (n1 : ∀ k1 m k2 n, c1 = .int k1 m → c2 = .int k2 n → False) (n2 : ∀ m n, c1 = .str m → c2 = .str n → False)
    (h : opK D H (.binOp op t x y q) d fr hp k = some r) : Post D P K o a w k r := by
  simp only [opK, hx, hy] at h
  split at h
  · cases h
  · rename_i ti hti
    split at h
    · cases h
    · rename_i b hb
      obtain ⟨g1, g2, g3, g4, g5, g6⟩ := eq_run (P := P) (op := op) (lk_ti lw hti).desc rfl hb (evA_ok s hx) (evA_ok s hy)
      split at h
      · exact Post.pure s h ((opEq_run ho rfl rfl (.inl rfl) g3 g4 g5 g6 g1 g2).1 rfl) (.bool _)
      · exact Post.pure s h ((opEq_run ho rfl rfl (.inr rfl) g3 g4 g5 g6 g1 g2).2 rfl) (.bool _)
      · cases h
end
end Go.Proofs.Ytalgppclaolonaa.Ev
