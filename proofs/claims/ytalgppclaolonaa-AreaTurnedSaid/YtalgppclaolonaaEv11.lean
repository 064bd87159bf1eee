/- Values without memory: elements of texts, lengths, structs that are put together; blocks that are made. -/
import Derived.Test.YtalgppclaolonaaEv10
namespace Go.Proofs.Ytalgppclaolonaa.Ev
open Go
set_option linter.unusedVariables false
set_option linter.unusedSimpArgs false
section
variable {D : Tys} {P : Program}
variable {R : Type} {H : HH D R} {K : Kx} {β : Nat → Option Loc} {F : Nat → Prop} {fr : Tr (V D.S)} {hp : Tr (B D.S)} {a : Act} {w : World} {o : Oper} {d : Nat} {k : KK D R} {r : R}
theorem bt_eq (z : ByteArray) (i : Nat) (h : i < z.size) : btE z i = ((z[i]'h).toNat : Int) := by
  unfold btE
  have h' : i < z.data.toList.length := by rw [Array.length_toList]; exact h
  rw [List.getD_eq_getElem?_getD, List.getElem?_eq_getElem h']
  rfl
theorem op_index (lw : Lawful D P) (s : Sim K β F fr hp a w) {t : TypeId} {x y : Operand} (ho : o.op = .index t x y) (h : opK D H (.index t x y) d fr hp k = some r)
    : Post D P K o a w k r := by
  simp only [opK, arrK_eq] at h
  split at h
  · rename_i q1 q2 q3 q4 q5 q50 z k1 i hti hx hi
    have hu : P.underlying t = some .string := (lk_ti lw hti).desc
    have ex := evA_str s hx
    have ey := evC_int s hi
    obtain ⟨h0, h1, h⟩ := idxK_some h
    have hlt : i.toNat < z.size := by omega
    refine Post.pure s h (cv := .int .u8 (btE z i.toNat)) ?_ (.int _ _)
    rw [bt_eq z _ hlt]
    have h3 : (if 0 ≤ i then z[i.toNat]? else none) = some z[i.toNat] := by rw [if_pos h0, ByteArray.getElem?_lt' z _ hlt]
    simp only [execOp, ho, ex, ey, Instr.index, asIntOf, Sem.run_bind, run_underlying hu, Result.andThen_ok, Sem.run_pure, h3]
  · rename_i len esz g q1 q2 q3 q4 q5 q50 cs k1 i hti hx hi
    obtain ⟨e, hu, he, hsz, hg, hpos⟩ := (lk_ti lw hti).desc
    have ey := evC_int s hi
    obtain ⟨h0, h1, h⟩ := idxK_some h
    split at h
    · rename_i l hl
      split at h
      · rename_i x' hm
        obtain ⟨j, hj, hs⟩ := cellsOf_info (P := P) (t := e) (by rw [hsz]; exact hpos)
        obtain ⟨vs, ex, rl⟩ := evA_ok s hx
        have hue : (P.underlying e).isSome := (lk_ti lw hti).aund len e hu
        rw [← hsz, ← hs] at hl
        obtain ⟨v, hv, ra⟩ := run_part hj hue (by rw [hs, hsz]; exact hpos) hg rl hl hm
        rw [hs, hsz] at hv
        refine Post.pure s h (cv := v) ?_ ra
        simp [execOp, ho, ex, ey, Instr.index, asIntOf, run_underlying hu, h0, h1, run_sizeOf' hj, hs, hsz, hv]
      · cases h
    · cases h
  · cases h
theorem evAs_ok (s : Sim K β F fr hp a w) : ∀ {xs : List Operand} {as : List (A D.S)}, evAs D fr xs = some as → as.length = xs.length ∧ ∀ (j : Nat) x y, as[j]? = some x → xs[j]? = some y → RA D w F hp.get β x (a.eval y)
  | [], as, h => by simp only [evAs, Option.some.injEq] at h; subst h; exact ⟨rfl, fun j x y hx => by simp at hx⟩
  | x :: xs, as, h => by
    simp only [evAs] at h
    split at h
    · rename_i x' hx
      split at h
      · rename_i rs hr
        obtain rfl := Option.some.inj h
        obtain ⟨i1, i2⟩ := evAs_ok s hr
        refine ⟨by simp [i1], fun j y z hy hz => ?_⟩
        cases j with
        | zero => simp at hy hz; subst hy; subst hz; exact evA_ok s hx
        | succ j => simp at hy hz; exact i2 j y z hy hz
      · cases h
    · cases h
theorem evAs_one (s : Sim K β F fr hp a w) {xs : Array Operand} {x : A D.S} (h : evAs D fr xs.toList = some [x]) : ∃ y, xs = #[y] ∧ RA D w F hp.get β x (a.eval y) := by
  obtain ⟨h1, h2⟩ := evAs_ok s h
  match e : xs.toList, h1 with
  | [y], _ =>
    refine ⟨y, by apply Array.toList_inj.mp; rw [e], h2 0 x y rfl (by rw [e]; rfl)⟩
theorem evAs_two (s : Sim K β F fr hp a w) {xs : Array Operand} {x x' : A D.S} (h : evAs D fr xs.toList = some [x, x']) : ∃ y y', xs = #[y, y'] ∧ RA D w F hp.get β x (a.eval y) ∧ RA D w F hp.get β x' (a.eval y') := by
  obtain ⟨h1, h2⟩ := evAs_ok s h
  match e : xs.toList, h1 with
  | [y, y'], _ =>
    refine ⟨y, y', by apply Array.toList_inj.mp; rw [e], h2 0 x y rfl (by rw [e]; rfl), h2 1 x' y' rfl (by rw [e]; rfl)⟩
theorem exec_builtin (b : Builtin) (args : Array Operand) (ts : Array TypeId) (ho : o.op = .call ⟨.builtin b, args, ts⟩) (w : World) :
    ∃ cs, (execOp a.eval o).run P w = (builtin b ts o.type cs (args.map a.eval)).run P w := by
  simp only [execOp, ho, resolve, Sem.run_bind, Sem.run_pure, Result.andThen_ok, invoke]
  exact ⟨_, rfl⟩
theorem op_len (lw : Lawful D P) (s : Sim K β F fr hp a w) {args : Array Operand} {ts : Array TypeId} (ho : o.op = .call ⟨.builtin .len, args, ts⟩) (h : opK D H (.call ⟨.builtin .len, args, ts⟩) d fr hp k = some r) : Post D P K o a w k r := by
  simp only [opK, arrK_eq] at h
  split at h
  · rename_i c t ha ht
    split at h
    · rename_i ti hti
      split at h
      · rename_i n hn
        obtain ⟨y, rfl, ra⟩ := evAs_one s ha
        obtain rfl : ts = #[t] := by apply Array.toList_inj.mp; rw [ht]
        have hd := (lk_ti lw hti).desc
        have key : ∀ v, a.eval y = v → (Builtin.len_ #[t] o.type #[v]).run P w = .ok (.int .i64 n) w → Post D P K o a w k r := fun v ev hr => by
          refine Post.pure s h (cv := .int .i64 n) ?_ (.int _ _)
          obtain ⟨cs, hx⟩ := exec_builtin (P := P) (a := a) _ _ _ ho w
          rw [hx]
          simp [builtin, ev, hr]
        generalize ti.d = dd at hd hn
        unfold lenC at hn
        split at hn
        · obtain rfl := Option.some.inj hn
          have hu : P.underlying t = some .string := hd
          have r0 : RP D w F (.str _) (a.eval y) := ra
          generalize e : a.eval y = v at r0
          cases r0
          exact key _ e (by simp [Builtin.len_, run_underlying hu, goInt])
        · have hd : P.underlying t = some (.slice _) := hd
          obtain rfl := Option.some.inj hn
          have r0 : RP D w F (.lst _ _) (a.eval y) := ra
          generalize e : a.eval y = v at r0
          cases r0
          · exact key _ e (by simp [Builtin.len_, run_underlying hd, goInt])
          · exact key _ e (by simp [Builtin.len_, run_underlying hd, goInt])
        · have hd : P.underlying t = some (.slice _) := hd
          split at hn
          · rename_i t2 l2 hl2
            obtain rfl := Option.some.inj hn
            obtain ⟨t3, l3, q1, g⟩ := ra
            rw [hl2] at q1
            injection q1 with q1
            injection q1 with q2 q3
            subst q2
            obtain rfl := eq_of_heq q3
            rcases g with ⟨_, rfl, A, e⟩ | ⟨L, cap, _, _, _, e⟩
            · exact key _ e (by simp [Builtin.len_, run_underlying hd, goInt])
            · exact key _ e (by simp [Builtin.len_, run_underlying hd, goInt])
          · cases hn
        · rename_i id off n'
          have hd : P.underlying t = some (.slice _) := hd
          obtain rfl := Option.some.inj hn
          obtain ⟨t3, l3, q1, q2, g⟩ := ra
          rcases g with ⟨b0, A, e⟩ | ⟨L, cap, _, q3, _, e | ⟨q4, A, e⟩⟩
          · rcases s.blk id _ q1 with ⟨_, e0⟩ | ⟨L', _, _, q, _⟩
            · subst e0
              simp at q2
              obtain rfl : n' = 0 := by omega
              exact key _ e (by simp [Builtin.len_, run_underlying hd, goInt])
            · rw [b0] at q; cases q
          · exact key _ e (by simp [Builtin.len_, run_underlying hd, goInt])
          · obtain rfl : n' = 0 := by omega
            exact key _ e (by simp [Builtin.len_, run_underlying hd, goInt])
        · have hd : P.underlying t = some (.slice _) := hd
          obtain rfl := Option.some.inj hn
          have r0 : RP D w F .nils (a.eval y) := ra
          generalize e : a.eval y = v at r0
          cases r0
          exact key _ e (by simp [Builtin.len_, run_underlying hd, goInt])
        · have hd : P.underlying t = some (.slice _) := hd
          obtain rfl := Option.some.inj hn
          have r0 : RP D w F .emp (a.eval y) := ra
          generalize e : a.eval y = v at r0
          cases r0
          exact key _ e (by simp [Builtin.len_, run_underlying hd, goInt])
        · cases hn
      · cases h
    · cases h
  · cases h
theorem fold_ok {f : Int → Int → Int} {g : Value → Value → Sem Value} (hg : ∀ k1 x y (w : World), (g (.int k1 x) (.int k1 y)).run P w = .ok (.int k1 (f x y)) w) {w F h β} {k1 : IntKind} : ∀ {as : List (A D.S)} {x n : Int} {vs : List Value}, opK.foldM D f k1 x as = some n →
    as.length = vs.length → (∀ (j : Nat) y v, as[j]? = some y → vs[j]? = some v → RA D w F h β y v) → (vs.foldlM g (.int k1 x)).run P w = .ok (.int k1 n) w
  | [], x, n, vs, e, hl, _ => by
    simp only [opK.foldM, Option.some.injEq] at e
    subst e
    obtain rfl : vs = [] := List.length_eq_zero_iff.mp hl.symm
    simp
  | y :: as, x, n, vs, e, hl, hr => by
    unfold opK.foldM at e
    split at e
    · cases ‹_ :: _ = []›
    · rename_i k2 b l heq
      injection heq with h1 h2
      subst h1; subst h2
      split at e
      · rename_i hk
        subst hk
        match vs, hl, hr with
        | v :: vs, hl, hr =>
          have r0 : RP D w F (.int k1 b) v := hr 0 _ v rfl rfl
          cases r0
          simp only [List.foldlM_cons, Sem.run_bind, hg, Result.andThen_ok]
          exact fold_ok hg e (by simpa using hl) (fun j y v h1 h2 => hr (j + 1) y v (by simpa using h1) (by simpa using h2))
      · cases e
    · cases e
theorem op_max (s : Sim K β F fr hp a w) {args : Array Operand} {ts : Array TypeId} (ho : o.op = .call ⟨.builtin .max, args, ts⟩) (h : opK D H (.call ⟨.builtin .max, args, ts⟩) d fr hp k = some r) : Post D P K o a w k r := by
  simp only [opK, arrK_eq] at h
  split at h
  · rename_i k1 m as ha
    split at h
    · rename_i n hn
      obtain ⟨h1, h2⟩ := evAs_ok s ha
      match e : args.toList, h1 with
      | y :: ys, h1 =>
        have r0 : RP D w F (.int k1 m) (a.eval y) := h2 0 _ y rfl (by rw [e]; rfl)
        have e0 : a.eval y = .int k1 m := by generalize a.eval y = v at r0; cases r0; rfl
        refine Post.pure s h (cv := .int k1 n) ?_ (.int _ _)
        obtain ⟨cs, hx⟩ := exec_builtin (P := P) (a := a) _ _ _ ho w
        rw [hx]
        have hf := fold_ok (P := P) (D := D) (f := mxE) (g := Builtin.max2) (fun k1 x y w => by simp [Builtin.max2, mxE]) (w := w) (F := F) (h := hp.get) (β := β) (vs := ys.map a.eval) hn (by simpa using h1) (fun j z v hz hv => by
          rw [List.getElem?_map] at hv
          obtain ⟨u, hu, rfl⟩ := Option.map_eq_some_iff.mp hv
          exact h2 (j + 1) z u (by simpa using hz) (by rw [e]; simpa using hu))
        simp [builtin, Builtin.max_, e, e0, hf]
    · cases h
  · cases h
theorem op_min (s : Sim K β F fr hp a w) {args : Array Operand} {ts : Array TypeId} (ho : o.op = .call ⟨.builtin .min, args, ts⟩) (h : opK D H (.call ⟨.builtin .min, args, ts⟩) d fr hp k = some r) : Post D P K o a w k r := by
  simp only [opK, arrK_eq] at h
  split at h
  · rename_i k1 m as ha
    split at h
    · rename_i n hn
      obtain ⟨h1, h2⟩ := evAs_ok s ha
      match e : args.toList, h1 with
      | y :: ys, h1 =>
        have r0 : RP D w F (.int k1 m) (a.eval y) := h2 0 _ y rfl (by rw [e]; rfl)
        have e0 : a.eval y = .int k1 m := by generalize a.eval y = v at r0; cases r0; rfl
        refine Post.pure s h (cv := .int k1 n) ?_ (.int _ _)
        obtain ⟨cs, hx⟩ := exec_builtin (P := P) (a := a) _ _ _ ho w
        rw [hx]
        have hf := fold_ok (P := P) (D := D) (f := mnE) (g := Builtin.min2) (fun k1 x y w => by simp [Builtin.min2, mnE]) (w := w) (F := F) (h := hp.get) (β := β) (vs := ys.map a.eval) hn (by simpa using h1) (fun j z v hz hv => by
          rw [List.getElem?_map] at hv
          obtain ⟨u, hu, rfl⟩ := Option.map_eq_some_iff.mp hv
          exact h2 (j + 1) z u (by simpa using hz) (by rw [e]; simpa using hu))
        simp [builtin, Builtin.min_, e, e0, hf]
    · cases h
  · cases h
end
end Go.Proofs.Ytalgppclaolonaa.Ev
