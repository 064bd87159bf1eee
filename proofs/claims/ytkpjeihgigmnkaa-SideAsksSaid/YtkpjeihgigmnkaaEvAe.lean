/- The interpreter of a claim: texts EvX EvO in one. -/
import Derived.Test.YtkpjeihgigmnkaaEvAd
import Derived.Laws.Externs
import Derived.Shelf.Spec.BitsCarry
import Derived.KernelRfl
import Derived.SizedLaws
import Derived.ChangeSlices
import Derived.OpenShut
import Derived.WideShapes
import Derived.RowKit
import Derived.Below
/- Values without memory: functions that the model answers for by itself. -/
namespace Go.Proofs.Ytkpjeihgigmnkaa.Ev
open Go
set_option linter.unusedVariables false
theorem Behind.refl (w : World) (Ls : List Loc) : Behind w w Ls := ⟨Nat.le_refl _, ⟨rfl, rfl, rfl⟩, fun _ _ _ => rfl⟩
theorem rpa_int {D : Tys} {w : World} {F : Nat → Prop} {k : IntKind} {n : Int} {v : Value} (h : RPA D w F (.c (.int k n)) v) : v = .int k n := by
  cases h; rfl
def bits_Add64 (a0 a1 a2 : Int) : Option (Int × Int) :=
  if 0 ≤ a0 ∧ 0 ≤ a1 ∧ 0 ≤ a2 ∧ a2 ≤ 1 then some ((a0 + a1 + a2) % 18446744073709551616, (a0 + a1 + a2) / 18446744073709551616) else none
theorem bits_Add64_ok {D : Tys} {P : Program} {g : FuncId} {fn : Func} (hf : P.funcs[g]? = some fn) (hname : (fn.name == "runtime.NumGoroutine") = false) (hb : fn.body.isNone = true) (hn : Extern.findNext fn = none) (he : Extern.find fn = some add64Entry) (hw : xmOf D g = none) :
    FnOk D P ⟨g, [.val, .val, .val], [.v (.int .u64), .v (.int .u64), .v (.int .u64)], [.v (.int .u64), .v (.int .u64)], 2, sealF fun x => bits_Add64 x.1 x.2.1 x.2.2⟩ := by
  refine (FnV.sld ?_).ok hw
  rintro ⟨a0, a1, a2⟩ y hy w F vs Ls hF hG hR hA
  have hy : bits_Add64 a0 a1 a2 = some y := hy
  unfold bits_Add64 at hy
  split at hy
  · rename_i hc
    obtain rfl := Option.some.inj hy
    have hA : Args D w F [.val, .val, .val] [.c (.int .u64 a0), .c (.int .u64 a1), .c (.int .u64 a2)] vs Ls := hA
    cases hA with
    | val _ v0 r0 t0 =>
      cases t0 with
      | val _ v1 r1 t1 =>
        cases t1 with
        | val _ v2 r2 t2 =>
          cases t2
          obtain rfl := rpa_int r0
          obtain rfl := rpa_int r1
          obtain rfl := rpa_int r2
          refine .inr ⟨.tuple #[.int .u64 ((a0 + a1 + a2) % 18446744073709551616), .int .u64 ((a0 + a1 + a2) / 18446744073709551616)], ?_, [.int .u64 ((a0 + a1 + a2) % 18446744073709551616), .int .u64 ((a0 + a1 + a2) / 18446744073709551616)], F, rfl, .refl _ _, fun b h => h, fun b h => ⟨.inl h, hF b h⟩, ⟨rfl, fun j x v hx hv => ?_⟩, ⟨rfl, fun j L cs hL => by simp at hL⟩⟩
          · have := run_add64 (P := P) a0 a1 a2 hc.1 hc.2.1 hc.2.2.1 hc.2.2.2 w
            rw [run_callFunc_extern hf hname hb hn he]
            simp only [this, Result.andThen]
          · have hx : ([.c (.int .u64 ((a0 + a1 + a2) % 18446744073709551616)), .c (.int .u64 ((a0 + a1 + a2) / 18446744073709551616))] : List (A D.S))[j]? = some x := hx
            match j with
            | 0 => simp at hx hv; subst hx; subst hv; exact .int _ _
            | 1 => simp at hx hv; subst hx; subst hv; exact .int _ _
            | j + 2 => simp at hx
  · cases hy
def bits_Sub64 (a0 a1 a2 : Int) : Option (Int × Int) :=
  if 0 ≤ a0 ∧ 0 ≤ a1 ∧ a1 < 18446744073709551616 ∧ 0 ≤ a2 ∧ a2 ≤ 1 then some ((a0 - a1 - a2) % 18446744073709551616, if a0 < a1 + a2 then 1 else 0) else none
theorem bits_Sub64_ok {D : Tys} {P : Program} {g : FuncId} {fn : Func} (hf : P.funcs[g]? = some fn) (hname : (fn.name == "runtime.NumGoroutine") = false) (hb : fn.body.isNone = true) (hn : Extern.findNext fn = none) (he : Extern.find fn = some sub64Entry) (hw : xmOf D g = none) :
    FnOk D P ⟨g, [.val, .val, .val], [.v (.int .u64), .v (.int .u64), .v (.int .u64)], [.v (.int .u64), .v (.int .u64)], 2, sealF fun x => bits_Sub64 x.1 x.2.1 x.2.2⟩ := by
  refine (FnV.sld ?_).ok hw
  rintro ⟨a0, a1, a2⟩ y hy w F vs Ls hF hG hR hA
  have hy : bits_Sub64 a0 a1 a2 = some y := hy
  unfold bits_Sub64 at hy
  split at hy
  · rename_i hc
    obtain rfl := Option.some.inj hy
    have hA : Args D w F [.val, .val, .val] [.c (.int .u64 a0), .c (.int .u64 a1), .c (.int .u64 a2)] vs Ls := hA
    cases hA with
    | val _ v0 r0 t0 =>
      cases t0 with
      | val _ v1 r1 t1 =>
        cases t1 with
        | val _ v2 r2 t2 =>
          cases t2
          obtain rfl := rpa_int r0
          obtain rfl := rpa_int r1
          obtain rfl := rpa_int r2
          refine .inr ⟨.tuple #[.int .u64 ((a0 - a1 - a2) % 18446744073709551616), .int .u64 (if a0 < a1 + a2 then 1 else 0)], ?_, [.int .u64 ((a0 - a1 - a2) % 18446744073709551616), .int .u64 (if a0 < a1 + a2 then 1 else 0)], F, rfl, .refl _ _, fun b h => h, fun b h => ⟨.inl h, hF b h⟩, ⟨rfl, fun j x v hx hv => ?_⟩, ⟨rfl, fun j L cs hL => by simp at hL⟩⟩
          · obtain ⟨X, rfl⟩ := Int.eq_ofNat_of_zero_le hc.1
            obtain ⟨Y, rfl⟩ := Int.eq_ofNat_of_zero_le hc.2.1
            obtain ⟨Z, rfl⟩ := Int.eq_ofNat_of_zero_le hc.2.2.2.1
            have := run_sub64 (P := P) X Y Z (by omega) w
            have e1 : (((X + 18446744073709551616 - Y - Z) % 18446744073709551616 : Nat) : Int) = ((X : Int) - Y - Z) % 18446744073709551616 := by omega
            have e2 : ((if X < Y + Z then 1 else 0 : Nat) : Int) = if (X : Int) < (Y : Int) + (Z : Int) then 1 else 0 := by split <;> split <;> omega
            rw [e1, e2] at this
            rw [run_callFunc_extern hf hname hb hn he]
            simp only [this, Result.andThen]
          · have hx : ([.c (.int .u64 ((a0 - a1 - a2) % 18446744073709551616)), .c (.int .u64 (if a0 < a1 + a2 then 1 else 0))] : List (A D.S))[j]? = some x := hx
            match j with
            | 0 => simp at hx hv; subst hx; subst hv; exact .int _ _
            | 1 => simp at hx hv; subst hx; subst hv; exact .int _ _
            | j + 2 => simp at hx
  · cases hy
/-- A function of one row, that asks whether it is nil: shown for nil, for nothing that is not nil, and for something. -/
theorem FnV.rows {D : Tys} {P : Program} {g : FuncId} {t : Ty} {ts : List RT} {nr : Nat} {G : List (T D.S t) → Option (YR D ts)}
    (h0 : ∀ y, G [] = some y → CallOk D P g [.val] [.c .nils] (encRes D ts nr y) (encRef D ts nr y))
    (h1 : ∀ y, G [] = some y → CallOk D P g [.val] [.c .emp] (encRes D ts nr y) (encRef D ts nr y))
    (h2 : ∀ a l y, G (a :: l) = some y → CallOk D P g [.val] [.c (.lst t (a :: l))] (encRes D ts nr y) (encRef D ts nr y)) : FnV D P ⟨g, [.val], [.v (.sl t)], ts, nr, G⟩ := by
  intro x y hy w F vs Ls hF hG hR hA
  have hA : Args D w F [.val] [.c (.lst t x)] vs Ls := hA
  have hy : G x = some y := hy
  cases x with
  | cons a l => exact h2 a l y hy w F vs Ls hF hG hR hA
  | nil =>
    cases hA with
    | val _ v r hA =>
      cases hA
      have r : RP D w F (.lst t []) v := r
      cases r with
      | lst0 _ A cap hn =>
        cases A with
        | none =>
          obtain rfl := hn rfl
          exact h0 y hy w F _ _ hF hG hR (.val _ _ .nils .nil)
        | some A => exact h1 y hy w F _ _ hF hG hR (.val _ _ (.emp A cap) .nil)
      | lst _ _ b o cap f hb hc hf hr => exact h1 y hy w F _ _ hF hG hR (.val _ _ (.emp _ cap) .nil)
theorem FnX.rows {D : Tys} {P : Program} {g : FuncId} {t : Ty} {ts : List RT} {nr : Nat} {ro : OwL} {G : List (T D.S t) → Option (YR D ts)}
    (h0 : ∀ y, G [] = some y → CallX D P g ⟨[.val], ro⟩ [.c .nils] (encRes D ts nr y) (encRef D ts nr y))
    (h1 : ∀ y, G [] = some y → CallX D P g ⟨[.val], ro⟩ [.c .emp] (encRes D ts nr y) (encRef D ts nr y))
    (h2 : ∀ a l y, G (a :: l) = some y → CallX D P g ⟨[.val], ro⟩ [.c (.lst t (a :: l))] (encRes D ts nr y) (encRef D ts nr y)) : FnX D P ⟨g, [.val], [.v (.sl t)], ts, nr, sealF G⟩ ⟨[.val], ro⟩ := by
  refine ⟨rfl, fun x y hy w F vs Ls Os hF hG hR hn hd hA => ?_⟩
  have hA : ArgsX D w F [.val] [.c (.lst t x)] vs Ls Os := hA
  have hy : G x = some y := by rw [sealF_eq] at hy; exact hy
  cases x with
  | cons a l => exact h2 a l y hy w F vs Ls Os hF hG hR hn hd hA
  | nil =>
    cases hA with
    | val _ v r hA =>
      cases hA
      have r : RP D w F (.lst t []) v := r
      cases r with
      | lst0 _ A cap hn' =>
        cases A with
        | none =>
          obtain rfl := hn' rfl
          exact h0 y hy w F _ _ _ hF hG hR hn hd (.val _ _ .nils .nil)
        | some A => exact h1 y hy w F _ _ _ hF hG hR hn hd (.val _ _ (.emp A cap) .nil)
      | lst _ _ b o cap f hb hc hf hr => exact h1 y hy w F _ _ _ hF hG hR hn hd (.val _ _ (.emp _ cap) .nil)
end Go.Proofs.Ytkpjeihgigmnkaa.Ev
/- What a law's argument is, once it can be read: a Lean value, in bounds, that memory tells. -/
namespace Go.Proofs.Ytkpjeihgigmnkaa.Ev
open Go
set_option linter.unusedVariables false
set_option linter.unusedSimpArgs false
/-- All that was there. -/
def old (w : World) (b : Nat) : Prop := b < w.heap.size
/-- What can be read at type t is a value that 'en' tells, and that satisfies wf. -/
def OpG {α : Type} (D : Tys) (P : Program) (t : TypeId) (sz : Nat) (en : α → List (C D.S)) (wf : α → Prop) : Prop :=
  ∀ (H : Type) (enc : TypeId × Value → H) (w : World) (base : Nat) (spare : Nat → Bool) (held : Bool) (fuel : Nat) (cs : List Value) (x : DataW H × List MemPlace),
    DataW.trod enc P w base spare held fuel t cs = some x → (∀ n ∈ x.1.weights P t, n ≤ reachBytes) → ∃ y, (PL w (old w) (en y) cs ∧ cs.length = sz) ∧ wf y
variable {D : Tys} {P : Program}
theorem PL.one {w : World} {F : Nat → Prop} {c : C D.S} {v : Value} (h : RP D w F c v) : PL w F [c] [v] := ⟨rfl, fun j x u hx hu => by
  cases j with
  | zero => simp at hx hu; subst hx; subst hu; exact h
  | succ j => simp at hx⟩
theorem PL.of_one {w : World} {F : Nat → Prop} {c : C D.S} {v : Value} (h : PL w F [c] [v]) : RP D w F c v := h.2 0 c v rfl rfl
theorem PL.app {w : World} {F : Nat → Prop} {a b : List (C D.S)} {us vs : List Value} (h : PL w F a us) (h' : PL w F b vs) : PL w F (a ++ b) (us ++ vs) := ⟨by rw [List.length_append, List.length_append, h.1, h'.1], fun j x u hx hu => by
  have e := h.1
  rcases Nat.lt_or_ge j a.length with hj | hj
  · rw [List.getElem?_append_left hj] at hx
    rw [List.getElem?_append_left (by omega)] at hu
    exact h.2 j x u hx hu
  · rw [List.getElem?_append_right hj] at hx
    rw [List.getElem?_append_right (by omega)] at hu
    exact h'.2 (j - a.length) x u hx (by rw [e]; exact hu)⟩
theorem OpG.bool {t : TypeId} (hu : P.underlying t = some .bool) : OpG D P t 1 (fun b : Bool => [.bool b]) (fun _ => True) := by
  intro H enc w base spare held fuel cs x h _
  obtain ⟨b, rfl, _⟩ := DataW.trod_bool hu h
  exact ⟨b, ⟨.one (.bool b), rfl⟩, trivial⟩
theorem OpG.int {t : TypeId} {k : IntKind} (hu : P.underlying t = some (.int k)) : OpG D P t 1 (fun n : Int => [.int k n]) (fun n => (Lit.int k n).wf = true) := by
  intro H enc w base spare held fuel cs x h _
  obtain ⟨n, rfl, _, hw⟩ := DataW.trod_int hu h
  exact ⟨n, ⟨.one (.int k n), rfl⟩, hw⟩
theorem OpG.string {t : TypeId} (hu : P.underlying t = some .string) : OpG D P t 1 (fun s : ByteArray => [.str s]) (fun s => s.size ≤ 140737488351232) := by
  intro H enc w base spare held fuel cs x h hw
  obtain ⟨s, rfl, rfl, _⟩ := DataW.trod_string hu h
  refine ⟨s, ⟨.one (.str s), rfl⟩, ?_⟩
  have := hw s.data.toList.length (by simp [DataW.weights])
  simpa [reachBytes] using this
theorem weightsAll_mem {H : Type} {e : TypeId} : ∀ {ds : List (DataW H)} {d : DataW H}, d ∈ ds → ∀ n ∈ d.weights P e, n ∈ DataW.weightsAll P e ds
  | [], _, h, _, _ => by simp at h
  | d0 :: ds, d, h, n, hn => by
    rw [DataW.weightsAll, List.mem_append]
    rcases List.mem_cons.1 h with rfl | h
    · exact .inl hn
    · exact .inr (weightsAll_mem h n hn)
theorem add_off {a : Addr} (h : a.spot = none) (m n : Nat) : (a.add m).add n = ⟨a.block, a.off + m + n, none⟩ := by
  obtain ⟨b, o, s⟩ := a
  simp only at h; subst h
  simp only [Addr.add]
  by_cases hm : m = 0 <;> by_cases hn : n = 0 <;> simp [hm, hn, Nat.add_assoc]
theorem OpG.slice {t e : TypeId} {τ : Ty} {wf : T D.S τ → Prop} {B : Nat} (hu : P.underlying t = some (.slice e)) (he : OpG D P e (size D τ) (encL D τ) wf) (hc : P.cellsOf e = size D τ) (hp : 0 < size D τ) (hB : P.bytesOf e = B) :
    OpG D P t 1 (fun l : List (T D.S τ) => [.lst τ l]) (fun l => l.length * B ≤ 140737488351232 ∧ l.length ≤ 9223372036854775807 ∧ ∀ x ∈ l, wf x) := by
  intro H enc w base spare held fuel cs x h hw
  rcases DataW.trod_slice hu h with ⟨rfl, rfl⟩ | ⟨a, len, cap, elems, rest, n, _, rfl, rfl, hb, hl, hm, hlen, hel, hsp, hns⟩
  · exact ⟨[], ⟨.one (.lst0 τ none 0 fun _ => rfl), rfl⟩, by simp, by simp, by simp⟩
  · have hw0 : (elems.length + rest.length) * B ≤ 140737488351232 := by
      have := hw ((elems.length + rest.length) * P.bytesOf e) (by simp [DataW.weights, hu])
      rw [hB] at this
      simpa [reachBytes] using this
    have each : ∀ i, i < len → ∃ (y : T D.S τ) (c : List Value), ((PL w (old w) (encL D τ y) c ∧ c.length = size D τ) ∧ wf y) ∧ w.cells? base (a.add (i * size D τ)) (size D τ) = some c := by
      intro i hi
      have h1 := hel i hi
      have hi' : i < elems.length := by omega
      rw [List.getElem?_eq_getElem hi', hc, Option.bind_eq_some_iff] at h1
      obtain ⟨c, h2, h3⟩ := h1
      obtain ⟨y, hy⟩ := he H enc w base spare held n c _ h3 (fun m hm => hw m (by
        simp only [DataW.weights, hu]
        exact List.mem_cons_of_mem _ (List.mem_append_left _ (weightsAll_mem (List.mem_map.2 ⟨elems[i], List.getElem_mem _, rfl⟩) m hm))))
      exact ⟨y, c, hy, h2⟩
    have build : ∀ m, m ≤ len → ∃ l : List (T D.S τ), l.length = m ∧ ∀ j p, l[j]? = some p → ∃ c, ((PL w (old w) (encL D τ p) c ∧ c.length = size D τ) ∧ wf p) ∧ w.cells? base (a.add (j * size D τ)) (size D τ) = some c := by
      intro m
      induction m with
      | zero => exact fun _ => ⟨[], rfl, by simp⟩
      | succ m ih =>
        intro hm
        obtain ⟨l, hl, hp⟩ := ih (by omega)
        obtain ⟨y, c, hy, hcc⟩ := each m (by omega)
        refine ⟨l ++ [y], by simp [hl], fun j p hj => ?_⟩
        rcases Nat.lt_or_ge j l.length with hjl | hjl
        · rw [List.getElem?_append_left hjl] at hj
          exact hp j p hj
        · rw [List.getElem?_append_right hjl] at hj
          have hj0 : j - l.length = 0 := by
            rcases Nat.eq_zero_or_pos (j - l.length) with h0 | h0
            · exact h0
            · rw [List.getElem?_eq_none (by simp; omega)] at hj
              simp at hj
          rw [hj0] at hj
          simp at hj
          subst hj
          have : j = m := by omega
          subst this
          exact ⟨c, hy, hcc⟩
    obtain ⟨l, hll, hp'⟩ := build len (Nat.le_refl _)
    have hwf : l.length * B ≤ 140737488351232 ∧ l.length ≤ 9223372036854775807 ∧ ∀ x ∈ l, wf x := by
      refine ⟨?_, ?_, ?_⟩
      · rw [hll]
        exact Nat.le_trans (Nat.mul_le_mul_right _ (by omega)) hw0
      · simp only [maxLen] at hm; omega
      · intro p hpm
        obtain ⟨j, hj⟩ := List.getElem?_of_mem hpm
        obtain ⟨c, hk, _⟩ := hp' j p hj
        exact hk.2
    refine ⟨l, ⟨.one ?_, rfl⟩, hwf⟩
    subst hll
    rcases Nat.eq_zero_or_pos l.length with h0 | h0
    · rw [h0, List.length_eq_zero_iff.mp h0]
      exact .lst0 τ (some a) cap fun h => by cases h
    · -- where the first element stands
      obtain ⟨c, hk, hcc⟩ := hp' 0 _ (List.getElem?_eq_getElem h0)
      have h3 := World.cells?_some hcc
      have h4 := h3.2.2 0 hp
      have hsp : a.spot = none := by
        rw [List.getElem?_eq_getElem (by rw [hk.1.2]; exact hp)] at h4
        have := World.cell?_spot h4
        simpa [Addr.add] using this
      have cell : ∀ i (hi : i < l.length) j, j < size D τ → ∃ c v, ((PL w (old w) (encL D τ l[i]) c ∧ c.length = size D τ) ∧ wf l[i]) ∧ c[j]? = some v ∧ w.cell? ⟨a.block, a.off + i * size D τ + j, none⟩ = some v := fun i hi j hj => by
        obtain ⟨c, hk, hcc⟩ := hp' i _ (List.getElem?_eq_getElem hi)
        have h5 := (World.cells?_some hcc).2.2 j hj
        rw [add_off hsp] at h5
        rw [List.getElem?_eq_getElem (by rw [hk.1.2]; exact hj)] at h5
        exact ⟨c, _, hk, List.getElem?_eq_getElem (by rw [hk.1.2]; exact hj), h5⟩
      have ha : a = ⟨a.block, a.off, none⟩ := by obtain ⟨b, o, s⟩ := a; simp only at hsp; subst hsp; rfl
      rw [ha]
      refine .lst τ l a.block a.off cap (fun i j => (w.cell? ⟨a.block, a.off + i * size D τ + j, none⟩).getD undef) ?_ hl (fun i j hi hj => ?_) (fun i hi j x hx => ?_)
      · obtain ⟨c, v, _, _, hv⟩ := cell 0 h0 0 hp
        exact World.block_lt_of_cell? w ⟨a.block, a.off + 0 * size D τ + 0, none⟩ hv
      · obtain ⟨c, v, _, _, hv⟩ := cell i hi j hj
        rw [hv]; rfl
      · have hlen : (encL D τ l[i]).length = size D τ := by
          obtain ⟨c, v, hk, _, _⟩ := cell i hi 0 hp
          rw [hk.1.1.1, hk.1.2]
        have hj : j < size D τ := by rw [← hlen]; exact (List.getElem?_eq_some_iff.mp hx).1
        obtain ⟨c, v, hk, hcv, hv⟩ := cell i hi j hj
        rw [hv]
        exact hk.1.1.2 j x v hx hcv
/-- Several values in line, each at its place. -/
def OpF {α : Type} (D : Tys) (P : Program) (fs : List (TypeId × Nat)) (sz : Nat) (en : α → List (C D.S)) (wf : α → Prop) (o : Nat) : Prop :=
  ∀ (H : Type) (enc : TypeId × Value → H) (w : World) (base : Nat) (spare : Nat → Bool) (held : Bool) (fuel : Nat) (cs : List Value) (xs : List (DataW H × List MemPlace)),
    xs.length = fs.length → (∀ (i : Nat) (f : TypeId × Nat), fs[i]? = some f → DataW.trod enc P w base spare held fuel f.1 ((cs.drop f.2).take (P.cellsOf f.1)) = xs[i]?) →
    (∀ n ∈ DataW.weightsEach P (fs.map (·.1)) (xs.map (·.1)), n ≤ reachBytes) → ∃ y, (PL w (old w) (en y) ((cs.drop o).take sz) ∧ ((cs.drop o).take sz).length = sz) ∧ wf y
theorem OpF.one {α : Type} {t : TypeId} {o sz : Nat} {en : α → List (C D.S)} {wf : α → Prop} (h : OpG D P t sz en wf) (hc : P.cellsOf t = sz) : OpF D P [(t, o)] sz en wf o := by
  intro H enc w base spare held fuel cs xs hl hx hw
  match xs, hl with
  | [x], _ =>
    have h0 := hx 0 (t, o) rfl
    simp only [List.getElem?_cons_zero] at h0
    rw [hc] at h0
    exact h H enc w base spare held fuel _ x h0 (fun n hn => hw n (by simp [DataW.weightsEach, hn]))
theorem OpF.cons {α β : Type} {t : TypeId} {o o' sz sz' : Nat} {en : α → List (C D.S)} {en' : β → List (C D.S)} {wf : α → Prop} {wf' : β → Prop} {fs : List (TypeId × Nat)} (h : OpG D P t sz en wf) (hc : P.cellsOf t = sz) (hr : OpF D P fs sz' en' wf' o') (ho : o + sz = o') :
    OpF D P ((t, o) :: fs) (sz + sz') (fun y : α × β => en y.1 ++ en' y.2) (fun y => wf y.1 ∧ wf' y.2) o := by
  intro H enc w base spare held fuel cs xs hl hx hw
  match xs, hl with
  | x :: xs, hl =>
    have h0 := hx 0 (t, o) rfl
    simp only [List.getElem?_cons_zero] at h0
    rw [hc] at h0
    obtain ⟨y, hy, hwy⟩ := h H enc w base spare held fuel _ x h0 (fun n hn => hw n (by simp [DataW.weightsEach, hn]))
    obtain ⟨z, hz, hwz⟩ := hr H enc w base spare held fuel cs xs (by simpa using hl) (fun i f hf => by
      have := hx (i + 1) f (by simpa using hf)
      simpa using this) (fun n hn => hw n (by simp [DataW.weightsEach, hn]))
    have e : (cs.drop o).take (sz + sz') = (cs.drop o).take sz ++ (cs.drop o').take sz' := by rw [List.take_add, List.drop_drop, ho]
    refine ⟨(y, z), ⟨?_, ?_⟩, hwy, hwz⟩
    · rw [e]; exact hy.1.app hz.1
    · rw [e, List.length_append, hy.2, hz.2]
theorem OpG.struct {α : Type} {t : TypeId} {fs : Array Field} {l : List (TypeId × Nat)} {sz : Nat} {en : α → List (C D.S)} {wf : α → Prop} (hu : P.underlying t = some (.struct fs)) (hf : fs.toList.map (fun f => (f.type, f.offset)) = l) (h : OpF D P l sz en wf 0) (hc : P.cellsOf t = sz) : OpG D P t sz en wf := by
  intro H enc w base spare held fuel cs x hx hw
  obtain ⟨xs, n, _, rfl, hl, hxl, hget⟩ := DataW.trod_struct hu hx
  subst hf
  obtain ⟨y, hy, hwy⟩ := h H enc w base spare held n cs xs (by simp [hxl]) (fun i f hf => by
    rw [List.getElem?_map, Option.map_eq_some_iff] at hf
    obtain ⟨g, hg, rfl⟩ := hf
    exact hget i g (by simpa using hg)) (fun m hm => hw m (by
      simp only [DataW.weights, hu]
      rw [List.map_map] at hm
      exact hm))
  refine ⟨y, ?_, hwy⟩
  rw [List.drop_zero, List.take_of_length_le (by omega)] at hy
  exact hy
theorem weightsEach_all {H : Type} {e : TypeId} : ∀ (l : List (TypeId × Nat)) (xs : List (DataW H)), (∀ f ∈ l, f.1 = e) → ∀ n ∈ DataW.weightsEach P (l.map (·.1)) xs, n ∈ DataW.weightsAll P e xs
  | [], _, _, n, hn => by simp [DataW.weightsEach] at hn
  | f :: l, [], _, n, hn => by simp [DataW.weightsEach] at hn
  | f :: l, x :: xs, hl, n, hn => by
    simp only [List.map_cons, DataW.weightsEach, List.mem_append] at hn
    rw [DataW.weightsAll, List.mem_append]
    rcases hn with hn | hn
    · rw [hl f (by simp)] at hn
      exact .inl hn
    · exact .inr (weightsEach_all l xs (fun g hg => hl g (by simp [hg])) n hn)
theorem OpG.array {α : Type} {t e : TypeId} {n : Nat} {l : List (TypeId × Nat)} {sz : Nat} {en : α → List (C D.S)} {wf : α → Prop} (hu : P.underlying t = some (.array n e)) (hf : (List.range n).map (fun i => (e, i * P.cellsOf e)) = l) (h : OpF D P l sz en wf 0) (hc : P.cellsOf t = sz) : OpG D P t sz en wf := by
  intro H enc w base spare held fuel cs x hx hw
  obtain ⟨xs, m, _, rfl, hl, hxl, hget⟩ := DataW.trod_array hu hx
  obtain ⟨y, hy, hwy⟩ := h H enc w base spare held m cs xs (by rw [← hf]; simp [hxl]) (fun i f hi => by
    rw [← hf, List.getElem?_map, Option.map_eq_some_iff] at hi
    obtain ⟨j, hj, rfl⟩ := hi
    have hlt := (List.getElem?_eq_some_iff.1 hj).1
    have hji : j = i := by
      rw [List.getElem?_range (by simpa using hlt)] at hj
      exact (Option.some.inj hj).symm
    subst hji
    exact hget j (by simpa using hlt)) (fun k hk => hw k (by
      simp only [DataW.weights, hu]
      refine weightsEach_all l _ (fun f hfm => ?_) k hk
      rw [← hf, List.mem_map] at hfm
      obtain ⟨i, _, rfl⟩ := hfm
      rfl))
  refine ⟨y, ?_, hwy⟩
  rw [List.drop_zero, List.take_of_length_le (by omega)] at hy
  exact hy
theorem OpG.iso {α β : Type} {t : TypeId} {sz : Nat} {en : α → List (C D.S)} {en' : β → List (C D.S)} {wf : α → Prop} (h : OpG D P t sz en wf) (f : β → α) (g : α → β) (hg : ∀ a, f (g a) = a) (he : ∀ b, en (f b) = en' b) : OpG D P t sz en' (fun b => wf (f b)) := by
  intro H enc w base spare held fuel cs x hx hw
  obtain ⟨y, hy, hwy⟩ := h H enc w base spare held fuel cs x hx hw
  refine ⟨g y, ?_, ?_⟩
  · rw [← he, hg]; exact hy
  · show wf (f (g y))
    rw [hg]; exact hwy
/-- At a law's argument. -/
theorem OpG.at {α : Type} {t : TypeId} {sz : Nat} {en : α → List (C D.S)} {wf : α → Prop} (h : OpG D P t sz en wf) {H : Type} {enc : TypeId × Value → H} {w : World} {base : Nat} {spare : Nat → Bool} {held : Bool} {v : Value} {dd : DataW H} {ps : List MemPlace} {ts : List TypeId} {ds : List (DataW H)} {j : Nat}
    (hsz : (DataW.weightsEach P ts ds).all (· ≤ reachBytes) = true) (ht : ts[j]? = some t) (hd : ds[j]? = some dd) (hx : DataW.Trod enc P w base spare held t v dd ps) : ∃ y, PL w (old w) (en y) v.cells.toList ∧ wf y := by
  obtain ⟨fuel, hf⟩ := hx
  obtain ⟨y, h1, h2⟩ := h H enc w base spare held fuel _ _ hf (fun n hn => by
    have := List.all_eq_true.1 hsz n (DataW.weights_mem_each ht hd n hn)
    simpa using this)
  exact ⟨y, h1.1, h2⟩
theorem ok_agg {t : TypeId} {w : World} {r : Go.Reach} {base : Nat} {v : Value} (h : Value.okWide P w r base t v) (hs : (∃ fs, P.underlying t = some (.struct fs)) ∨ ∃ n e, P.underlying t = some (.array n e)) : ∃ cs : Array Value, v = .agg cs := by
  rcases hs with ⟨fs, hs⟩ | ⟨n, e, hs⟩ <;>
  · unfold Value.okWide at h
    rw [hs] at h
    obtain ⟨cs, rfl, _⟩ := h
    exact ⟨cs, rfl⟩
/-- A law's argument, told: a struct; one cell. -/
theorem rpa_agg {w : World} {F : Nat → Prop} {cs : List (C D.S)} {us : Array Value} (h : PL w F cs (Value.agg us).cells.toList) : RPA D w F (.agg cs) (.agg us) := ⟨us, rfl, h⟩
theorem rpa_one {w : World} {F : Nat → Prop} {c : C D.S} {v : Value} (hv : v.cells = #[v]) (h : PL w F [c] v.cells.toList) : RPA D w F (.c c) v := by
  rw [hv] at h; exact h.of_one
theorem law_res {w : World} {F : Nat → Prop} {rvs : List Value} (h : ResAll D w F (encRes D [.v .bool] 1 true) rvs) : tupV rvs = .bool true := by
  have h : ResAll D w F [.c (.bool true)] rvs := h
  obtain ⟨h1, h2⟩ := h
  match rvs, h1, h2 with
  | [v], _, h2 =>
    have r : RP D w F (.bool true) v := h2 0 _ _ rfl rfl
    cases r
    rfl
theorem Behind.below {w w' : World} (h : Behind w w' []) : Go.RowKit.Below w.heap.size w w' :=
  ⟨h.rest.1, h.rest.2.1, h.rest.2.2, h.size, fun k hk => h.same k hk fun L hL => by cases hL⟩
end Go.Proofs.Ytkpjeihgigmnkaa.Ev
