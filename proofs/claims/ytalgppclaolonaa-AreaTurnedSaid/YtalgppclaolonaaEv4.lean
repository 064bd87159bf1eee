/- Values without memory: each operation that is told does in memory what is told of it (reading and reckoning). -/
import Derived.Test.YtalgppclaolonaaEv3
namespace Go.Proofs.Ytalgppclaolonaa.Ev
open Go
set_option linter.unusedVariables false
set_option linter.unusedSimpArgs false

/-! ### what is known of a type is so -/
def valOf {S : Nat → Type} : C S → Option Value
  | .int k n => some (.int k n)
  | .bool b => some (.bool b)
  | .str s => some (.string s)
  | .nilp => some (.pointer none)
  | .nils => some (.slice none 0 0)
  | .nili => some .nilIface
  | .nilf => some .nilFunc
  | _ => none
def aggOf (P : Program) (t : TypeId) : Bool := match P.underlying t with | some (.struct _) => true | some (.array _ _) => true | _ => false
def descOk (P : Program) (t : TypeId) : TD → Prop
  | .int k => P.underlying t = some (.int k)
  | .bool => P.underlying t = some .bool
  | .str => P.underlying t = some .string
  | .struct fs => ∃ fl, P.underlying t = some (.struct fl) ∧ fs = fl.toList.map fun f => (f.offset, P.cellsOf f.type, aggOf P f.type)
  | .array len esz g => ∃ e, P.underlying t = some (.array len e) ∧ (P.info? e).isSome ∧ P.cellsOf e = esz ∧ aggOf P e = g ∧ 0 < esz
  | .slice e => P.underlying t = some (.slice e)
  | .ptr e => P.underlying t = some (.pointer e)
  | .iface => ∃ ms, P.underlying t = some (.interface ms)
  | .func => ∃ ps rs v, P.underlying t = some (.func ps rs v)
  | .other => True
/-- The kinds of a type's cells, where two of its values may be compared cell by cell. -/
def kindsF (P : Program) (rec : TypeId → Option (List TD)) : List Field → Nat → Option (List TD)
  | [], _ => some []
  | f :: fs, off => if f.name != "_" && f.offset == off && decide (0 < P.cellsOf f.type) && (P.underlying f.type).isSome then
      match rec f.type, kindsF P rec fs (off + P.cellsOf f.type) with
      | some k1, some k2 => if k1.length = P.cellsOf f.type then some (k1 ++ k2) else none
      | _, _ => none
    else none
def kindsT (P : Program) : Nat → TypeId → Option (List TD)
  | 0, _ => none
  | m + 1, t => match P.underlying t with
    | some .bool => some [.bool]
    | some (.int k) => some [.int k]
    | some .string => some [.str]
    | some (.struct fs) => if P.stoodInHeld t then none else kindsF P (kindsT P m) fs.toList 0
    | _ => none
structure TiOk (D : Tys) (P : Program) (t : TypeId) (i : TI D.S) : Prop where
  info : ∃ j, P.info? t = some j ∧ j.size = i.size ∧ j.bytes = i.bytes ∧ ∃ z, j.zero = some z ∧ z.cells.toList.map some = i.zero.map valOf ∧ (i.agg = true → z = .agg z.cells)
  desc : descOk P t i.d
  agg : aggOf P t = i.agg
  pos : 0 < i.size
  und : (P.underlying t).isSome
  byt : 0 < i.bytes
  zlen : i.zero.length = i.size
  eqk : i.eqk = [] ∨ ∃ m, m ≤ 10000 ∧ kindsT P m t = some i.eqk ∧ P.eqGuardType P.depth t = false ∧ aggOf P t = true
  ty : ∀ τ, i.ty = some τ → size D τ = i.size ∧ isAgg τ = i.agg
  fld : ∀ fs, i.d = .struct fs → ∀ x ∈ fs, 0 < x.2.1 ∧ x.1 + x.2.1 ≤ i.size
  fund : ∀ fl (fd : Field) (f : Nat), P.underlying t = some (.struct fl) → fl[f]? = some fd → (P.underlying fd.type).isSome
  aund : ∀ n e, P.underlying t = some (.array n e) → (P.underlying e).isSome
/-- One cell's word says at least what another's says. -/
def Cle {D : Tys} (c c' : C D.S) : Prop := ∀ w F v, RP D w F c v → RP D w F c' v
structure Lawful (D : Tys) (P : Program) : Prop where
  len : ∀ n x, (D.enc n x).length = D.siz n
  dec : ∀ n cs x, D.dec n cs = some x → cs.length = D.siz n ∧ ∀ (j : Nat) c c', cs[j]? = some c → (D.enc n x)[j]? = some c' → Cle c c'
  pure : ∀ n x c, c ∈ D.enc n x → ∀ w F h β v, RC D w F h β c v ↔ RP D w F c v
  ti : ∀ t i, (t, i) ∈ D.ti → TiOk D P t i
  mixed : P.follows .mixedOrders = true

section
variable {D : Tys} {P : Program}
theorem encL_len (lw : Lawful D P) (t : Ty) (x : T D.S t) : (encL D t x).length = size D t := by
  cases t with
  | st n => exact lw.len n x
  | _ => rfl
theorem encL_pure (lw : Lawful D P) (t : Ty) (x : T D.S t) (c : C D.S) (h : c ∈ encL D t x) (w F h' β v) : RC D w F h' β c v ↔ RP D w F c v := by
  cases t with
  | st n => exact lw.pure n x c h w F h' β v
  | int k => simp only [encL, List.mem_singleton] at h; subst h; exact Iff.rfl
  | bool => simp only [encL, List.mem_singleton] at h; subst h; exact Iff.rfl
  | str => simp only [encL, List.mem_singleton] at h; subst h; exact Iff.rfl
  | sl t => simp only [encL, List.mem_singleton] at h; subst h; exact Iff.rfl
theorem encA_cells (t : Ty) (x : T D.S t) : (encA D t x).cells = encL D t x := by cases t <;> rfl

theorem valOf_RC {w F h β} {c : C D.S} {v : Value} (e : valOf c = some v) : RC D w F h β c v := by
  cases c <;> simp only [valOf, Option.some.injEq, reduceCtorEq] at e <;> subst e
  · exact .int _ _
  · exact .bool _
  · exact .str _
  · exact .nilp
  · exact .nils
  · exact .nili
  · exact .nilf
theorem ofVal_RC {w F h β} {v : Value} {c : C D.S} (e : ofVal v = some c) : RC D w F h β c v := by
  unfold ofVal at e
  split at e
  case h_8 f first captured =>
    split at e
    · rename_i h1 h2
      obtain rfl := Option.some.inj e
      obtain rfl : first = #[] := Array.toList_inj.mp h1
      obtain rfl : captured = #[] := Array.toList_inj.mp h2
      exact ⟨rfl, fun i hi => by cases hi⟩
    · cases e
  all_goals (simp only [Option.some.injEq, reduceCtorEq] at e; try subst e)
  · exact .int _ _
  · exact .bool _
  · exact .str _
  · exact .nilp
  · exact .nils
  · exact .nili
  · exact .nilf
theorem ofVals_RL {w F h β} : ∀ {vs : List Value} {cs : List (C D.S)}, ofVals vs = some cs → RL D w F h β cs vs
  | [], cs, e => by simp only [ofVals, Option.some.injEq] at e; subst e; exact ⟨rfl, fun j x v hx => by simp at hx⟩
  | v :: vs, cs, e => by
    simp only [ofVals] at e
    split at e
    · rename_i c hc
      split at e
      · rename_i r hr
        obtain rfl := Option.some.inj e
        have ih := ofVals_RL (w := w) (F := F) (h := h) (β := β) hr
        refine ⟨by simp [ih.1], fun j x v' hx hv => ?_⟩
        cases j with
        | zero => simp at hx hv; subst hx; subst hv; exact ofVal_RC hc
        | succ j => simp at hx hv; exact ih.2 j x v' hx hv
      · cases e
    · cases e
theorem ofValue_RA {w F h β} {v : Value} {x : A D.S} (e : ofValue v = some x) : RA D w F h β x v := by
  unfold ofValue at e
  split at e
  · rename_i cs
    split at e
    · rename_i l hl
      obtain rfl := Option.some.inj e
      exact ⟨cs, rfl, ofVals_RL hl⟩
    · cases e
  · split at e
    · rename_i c hc
      obtain rfl := Option.some.inj e
      exact ofVal_RC hc
    · cases e
theorem ev_ok {K β F} {fr : Tr (V D.S)} {hp : Tr (B D.S)} {a : Act} {w : World} (s : Sim K β F fr hp a w) {x : Operand} {v : V D.S} (e : ev fr x = some v) : RV D w F hp.get β v (a.eval x) := by
  cases x with
  | tmp t => exact s.frm t v e
  | const c =>
    simp only [ev] at e
    split at e
    · rename_i y hy
      obtain rfl := Option.some.inj e
      exact ofValue_RA hy
    · cases e
  | func f =>
    simp only [ev, Option.some.injEq] at e
    subst e
    exact ⟨rfl, fun i hi => by cases hi⟩
  | global g => cases e
theorem evA_ok {K β F} {fr : Tr (V D.S)} {hp : Tr (B D.S)} {a : Act} {w : World} (s : Sim K β F fr hp a w) {x : Operand} {v : A D.S} (e : evA fr x = some v) : RA D w F hp.get β v (a.eval x) := by
  unfold evA at e
  split at e
  · rename_i y hy
    obtain rfl := Option.some.inj e
    exact ev_ok s hy
  · cases e
theorem evC_ok {K β F} {fr : Tr (V D.S)} {hp : Tr (B D.S)} {a : Act} {w : World} (s : Sim K β F fr hp a w) {x : Operand} {v : C D.S} (e : evC fr x = some v) : RC D w F hp.get β v (a.eval x) := by
  unfold evC at e
  split at e
  · rename_i y hy
    obtain rfl := Option.some.inj e
    exact ev_ok s hy
  · cases e
theorem RA.cells_len {w F h β} {x : A D.S} {v : Value} (r : RA D w F h β x v) (hv : ∀ c, x = .c c → v.cells = #[v]) : RL D w F h β x.cells v.cells.toList := by
  cases x with
  | c x =>
    rw [hv x rfl]
    refine ⟨rfl, fun j y u hy hu => ?_⟩
    cases j with
    | zero => simp [A.cells] at hy hu; subst hy; subst hu; exact r
    | succ j => simp [A.cells] at hy
  | agg cs => obtain ⟨vs, rfl, r⟩ := r; exact r
/-- What a cell holds is no row of cells. -/
theorem RP.one {w F} {c : C D.S} {v : Value} (r : RP D w F c v) : v.oneCell' = true ∧ v.cells = #[v] := by cases r <;> exact ⟨rfl, rfl⟩
theorem RC.one {w F h β} {c : C D.S} {v : Value} (r : RC D w F h β c v) (hc : c ≠ .any) : v.oneCell' = true ∧ v.cells = #[v] := by
  cases c with
  | any => exact absurd rfl hc
  | own id => obtain ⟨t, l, _, ⟨_, _, a, rfl⟩ | ⟨L, cap, _, _, _, rfl⟩⟩ := r <;> exact ⟨rfl, rfl⟩
  | part id off n => obtain ⟨t, l, _, _, ⟨_, a, rfl⟩ | ⟨L, cap, _, _, _, rfl | ⟨_, a, rfl⟩⟩⟩ := r <;> exact ⟨rfl, rfl⟩
  | ptr id off => obtain ⟨_, L, _, _, rfl⟩ := r; exact ⟨rfl, rfl⟩
  | eptr id e off => obtain ⟨_, _, L, _, _, _, rfl⟩ := r; exact ⟨rfl, rfl⟩
  | fn f caps => obtain ⟨rfl, _⟩ := r; exact ⟨rfl, rfl⟩
  | int k n => exact RP.one r
  | bool b => exact RP.one r
  | str s => exact RP.one r
  | nilp => exact RP.one r
  | nils => exact RP.one r
  | emp => exact RP.one r
  | lst t l => exact RP.one r
  | fptr t l i o => exact RP.one r
  | nili => exact RP.one r
  | err t k n => exact RP.one r
  | nilf => exact RP.one r

/-! ### lists of cells -/
theorem dropS_eq {S : Nat → Type} : ∀ {n : Nat} {l r : List (C S)}, dropS n l = some r → r = l.drop n ∧ n ≤ l.length
  | 0, l, r, h => by simp only [dropS, Option.some.injEq] at h; subst h; simp
  | n + 1, [], r, h => by cases h
  | n + 1, x :: l, r, h => by
    have := dropS_eq (n := n) h
    exact ⟨this.1, by simp only [List.length_cons]; omega⟩
theorem takeS_eq {S : Nat → Type} : ∀ {n : Nat} {l r : List (C S)}, takeS n l = some r → r = l.take n ∧ n ≤ l.length
  | 0, l, r, h => by simp only [takeS, Option.some.injEq] at h; subst h; simp
  | n + 1, [], r, h => by cases h
  | n + 1, x :: l, r, h => by
    simp only [takeS] at h
    split at h
    · rename_i r' hr
      obtain rfl := Option.some.inj h
      have := takeS_eq (n := n) hr
      exact ⟨by rw [this.1]; rfl, by simp only [List.length_cons]; omega⟩
    · cases h
theorem subS_eq {S : Nat → Type} {off n : Nat} {l r : List (C S)} (h : subS off n l = some r) : r = (l.drop off).take n ∧ off + n ≤ l.length := by
  unfold subS at h
  split at h
  · rename_i l' hl
    have h1 := dropS_eq hl
    have h2 := takeS_eq h
    obtain ⟨rfl, h1⟩ := h1
    refine ⟨h2.1, ?_⟩
    have := h2.2
    rw [List.length_drop] at this
    omega
  · cases h
theorem subS_at {S : Nat → Type} {off n : Nat} {l r : List (C S)} (h : subS off n l = some r) (j : Nat) (hj : j < n) : r[j]? = l[off + j]? := by
  rw [(subS_eq h).1, List.getElem?_take_of_lt hj, List.getElem?_drop]
theorem overS_eq {S : Nat → Type} : ∀ {xs l r : List (C S)}, overS xs l = some r → r = xs ++ l.drop xs.length ∧ xs.length ≤ l.length
  | [], l, r, h => by simp only [overS, Option.some.injEq] at h; subst h; simp
  | x :: xs, [], r, h => by cases h
  | x :: xs, y :: l, r, h => by
    simp only [overS] at h
    split at h
    · rename_i r' hr
      obtain rfl := Option.some.inj h
      have := overS_eq hr
      exact ⟨by rw [this.1]; rfl, by simp only [List.length_cons]; omega⟩
    · cases h
theorem putS_eq {S : Nat → Type} : ∀ {n : Nat} {xs l r : List (C S)}, putS n xs l = some r → r = l.take n ++ xs ++ l.drop (n + xs.length) ∧ n + xs.length ≤ l.length
  | 0, xs, l, r, h => by have := overS_eq h; exact ⟨by rw [this.1]; simp, by omega⟩
  | n + 1, xs, [], r, h => by cases h
  | n + 1, xs, y :: l, r, h => by
    simp only [putS] at h
    split at h
    · rename_i r' hr
      obtain rfl := Option.some.inj h
      have := putS_eq hr
      refine ⟨?_, by simp only [List.length_cons]; omega⟩
      rw [this.1, show n + 1 + xs.length = (n + xs.length) + 1 by omega]
      rfl
    · cases h
theorem putS_len {S : Nat → Type} {n : Nat} {xs l r : List (C S)} (h : putS n xs l = some r) : r.length = l.length := by
  have := putS_eq h
  rw [this.1]; simp; omega
theorem putS_in {S : Nat → Type} {n : Nat} {xs l r : List (C S)} (h : putS n xs l = some r) (j : Nat) (hj : j < xs.length) : r[n + j]? = xs[j]? := by
  obtain ⟨rfl, hl⟩ := putS_eq h
  rw [List.append_assoc, List.getElem?_append_right (by simp; omega), List.getElem?_append_left (by simp; omega)]
  congr 1
  simp; omega
theorem putS_out {S : Nat → Type} {n : Nat} {xs l r : List (C S)} (h : putS n xs l = some r) (j : Nat) (hj : j < n ∨ n + xs.length ≤ j) : r[j]? = l[j]? := by
  obtain ⟨rfl, hl⟩ := putS_eq h
  rcases hj with hj | hj
  · rw [List.append_assoc, List.getElem?_append_left (by simp; omega), List.getElem?_take_of_lt hj]
  · rw [List.getElem?_append_right (by simp; omega), List.getElem?_drop]
    congr 1
    simp; omega
theorem mkA_eq {S : Nat → Type} {g : Bool} {cs : List (C S)} {x : A S} (h : mkA g cs = some x) : x.cells = cs ∧ (g = true → x = .agg cs) ∧ (g = false → ∃ c, cs = [c] ∧ x = .c c) := by
  unfold mkA at h
  split at h
  · obtain rfl := Option.some.inj h; exact ⟨rfl, fun _ => rfl, fun h => by cases h⟩
  · obtain rfl := Option.some.inj h; exact ⟨rfl, fun h => (by cases h), fun _ => ⟨_, rfl, rfl⟩⟩
  · cases h
theorem noAny_ne {S : Nat → Type} : ∀ {cs : List (C S)}, noAny cs = true → ∀ c ∈ cs, c ≠ .any
  | [], _, c, hc => by cases hc
  | x :: l, h, c, hc => by
    cases x
    case any => simp [noAny] at h
    all_goals
      rcases List.mem_cons.mp hc with rfl | hc
      · exact fun e => by cases e
      · exact noAny_ne (cs := l) h c hc

/-! ### reading memory -/
theorem run_isAgg {t : TypeId} (hu : (P.underlying t).isSome) (w : World) : (Go.isAgg t).run P w = .ok (aggOf P t) w := by
  obtain ⟨d, hd⟩ := Option.isSome_iff_exists.mp hu
  unfold aggOf
  rw [hd]
  cases d <;> simp [Go.isAgg, run_underlying hd]
theorem run_sizeOf' {t : TypeId} {j : TypeInfo} (h : P.info? t = some j) (w : World) : (sizeOf t).run P w = .ok j.size w := by simp [sizeOf, typeInfo, h]
/-- What stands in the cells from an address on. -/
def At (w : World) (b o : Nat) (vs : List Value) : Prop := ∀ j v, vs[j]? = some v → w.cell? ⟨b, o + j, none⟩ = some v
theorem At.add {w : World} {b o : Nat} {vs : List Value} (h : At w b o vs) : ∀ j v, vs[j]? = some v → w.cell? ((⟨b, o, none⟩ : Addr).add j) = some v := fun j v hv => by
  rw [Addr.add_lit]; exact h j v hv
theorem run_loadVar {t : TypeId} {j : TypeInfo} (h : P.info? t = some j) (hu : (P.underlying t).isSome) {w : World} {b o : Nat} {vs : List Value} (hl : vs.length = j.size) (hp : 0 < j.size) (ha : At w b o vs) :
    ∃ v, (loadVar t ⟨b, o, none⟩).run P w = .ok v w ∧ (aggOf P t = true → v = .agg vs.toArray) ∧ (aggOf P t = false → vs[0]? = some v) := by
  have h1 := run_isAgg (P := P) hu w
  have h2 := run_loadCells_list (P := P) w ⟨b, o, none⟩ vs ha.add
  rw [hl] at h2
  cases hg : aggOf P t
  · have h0 : 0 < vs.length := by omega
    have h3 := ha 0 _ (List.getElem?_eq_getElem h0)
    refine ⟨vs[0], ?_, (fun e => by cases e), fun _ => List.getElem?_eq_getElem h0⟩
    rw [hg] at h1
    simp only [Nat.add_zero] at h3
    simp [loadVar, h1, load, Sem.run, h3]
  · refine ⟨.agg vs.toArray, ?_, (fun _ => rfl), fun e => by cases e⟩
    rw [hg] at h1
    simp [loadVar, h1, run_sizeOf' h, h2]
end
end Go.Proofs.Ytalgppclaolonaa.Ev
