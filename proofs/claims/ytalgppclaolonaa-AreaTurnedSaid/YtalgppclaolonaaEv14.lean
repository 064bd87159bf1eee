/- Values without memory: append. -/
import Derived.Test.YtalgppclaolonaaEv13
namespace Go.Proofs.Ytalgppclaolonaa.Ev
open Go
set_option linter.unusedVariables false
set_option linter.unusedSimpArgs false
section
variable {D : Tys} {P : Program}
variable {R : Type} {H : HH D R} {K : Kx} {β : Nat → Option Loc} {F : Nat → Prop} {fr : Tr (V D.S)} {hp : Tr (B D.S)} {a : Act} {w : World} {o : Oper} {d : Nat} {k : KK D R} {r : R}
theorem RP.one' {w F} {c : C D.S} {v : Value} (r : RP D w F c v) : v.oneCell' = true := (RP.one r).1
/-- What is appended, told and in memory. -/
def News (D : Tys) (w : World) (F : Nat → Prop) (t : Ty) (xs : List (T D.S t)) (news : List Value) : Prop :=
  ∀ i (hi : i < xs.length) (j : Nat) y, (encL D t (xs[i]'hi))[j]? = some y → ∃ u, news[i * size D t + j]? = some u ∧ RP D w F y u
theorem src_f (lw : Lawful D P) {t : Ty} {xs : List (T D.S t)} {b o' cap : Nat} {f : Nat → Nat → Value} {tx e' : TypeId} (hk : P.underlying tx = some (.slice e')) (hpos : 0 < size D t)
    (hf : ∀ i j, i < xs.length → j < size D t → w.cell? ⟨b, o' + i * size D t + j, none⟩ = some (f i j)) (hr : ∀ i (hi : i < xs.length) (j : Nat) x, (encL D t (xs[i]'hi))[j]? = some x → RP D w F x (f i j)) :
    ∃ news, Src P (size D t) tx (.slice (some ⟨b, o', none⟩) xs.length cap) xs.length news w ∧ News D w F t xs news := by
  have hm : ∀ q, q < xs.length * size D t → q / size D t < xs.length ∧ q % size D t < size D t ∧ q / size D t * size D t + q % size D t = q := fun q hq =>
    ⟨Nat.div_lt_of_lt_mul (by rw [Nat.mul_comm]; exact hq), Nat.mod_lt _ hpos, Nat.div_add_mod' _ _⟩
  refine ⟨(List.range (xs.length * size D t)).map fun q => f (q / size D t) (q % size D t), Src.ofSlice (w := w) hk ⟨b, o', none⟩ xs.length cap _ (by simp) (fun j u hu => ?_) (fun u hu => ?_), fun i hi j y hy => ?_⟩
  · rw [List.getElem?_map] at hu
    obtain ⟨q, hq, rfl⟩ := Option.map_eq_some_iff.mp hu
    have hj : j < xs.length * size D t := by have := (List.getElem?_eq_some_iff.mp hq).1; simpa using this
    rw [List.getElem?_range hj, Option.some.injEq] at hq
    subst hq
    obtain ⟨h1, h2, h3⟩ := hm j hj
    rw [Addr.add_lit, ← hf _ _ h1 h2, Nat.add_assoc, h3]
  · obtain ⟨q, hq, rfl⟩ := List.mem_map.mp hu
    obtain ⟨h1, h2, h3⟩ := hm q (List.mem_range.mp hq)
    have hl : q % size D t < (encL D t (xs[q / size D t]'h1)).length := by rw [encL_len lw]; exact h2
    exact RP.one' (hr _ h1 _ _ (List.getElem?_eq_getElem hl))
  · have hj : j < size D t := by rw [← encL_len lw t xs[i]]; exact (List.getElem?_eq_some_iff.mp hy).1
    have hlt : i * size D t + j < xs.length * size D t := by
      have h1 : (i + 1) * size D t ≤ xs.length * size D t := Nat.mul_le_mul_right _ (by omega)
      rw [Nat.add_mul, Nat.one_mul] at h1
      omega
    refine ⟨f i j, ?_, hr i hi j y hy⟩
    rw [List.getElem?_map, List.getElem?_range hlt]
    simp only [Option.map_some]
    rw [Nat.add_comm (i * size D t) j, Nat.add_mul_div_right _ _ hpos, Nat.div_eq_of_lt hj, Nat.add_mul_mod_self_right, Nat.mod_eq_of_lt hj, Nat.zero_add]
theorem src_empty {t : Ty} {A : Option Addr} {cap : Nat} {tx e' : TypeId} (hk : P.underlying tx = some (.slice e')) :
    Src P (size D t) tx (.slice A 0 cap) 0 [] w ∧ News D w F t [] [] := by
  refine ⟨?_, fun i hi => by simp at hi⟩
  cases A with
  | none => exact Src.ofNil w hk cap
  | some A => exact Src.ofSlice w hk A 0 cap [] (by simp) (fun j u hu => by simp at hu) (fun u hu => by cases hu)
theorem eq?_some {t' t : Ty} {h : t' = t} (e : Ty.eq? t' t = some ⟨h⟩) : t' = t := h
theorem src_slice (lw : Lawful D P) (s : Sim K β F fr hp a w) {t : Ty} {xs : List (T D.S t)} {x : C D.S} {v : Value} {tx : TypeId} {dd : TD} (hpos : 0 < size D t) (hd : descOk P tx dd) (hs : srcOk D dd x = true) (rx : RC D w F hp.get β x v)
    (hns : ∀ z, x ≠ .str z) (he : elems D hp t x = some xs) : ∃ news, Src P (size D t) tx v xs.length news w ∧ News D w F t xs news := by
    have hk : ∃ e', P.underlying tx = some (.slice e') := by
      unfold srcOk at hs
      split at hs
      · exact absurd rfl (hns _)
      · cases hs
      · exact ⟨_, hd⟩
      · cases hs
    obtain ⟨e', hk⟩ := hk
    unfold elems at he
    split at he
    · rename_i id
      split at he
      · rename_i t' l hl
        split at he
        · rename_i h _
          subst h
          obtain rfl := Option.some.inj he
          obtain ⟨t2, l2, q1, g⟩ := rx
          rw [hl] at q1
          injection q1 with q1
          injection q1 with q2 q3
          subst q2
          obtain rfl := eq_of_heq q3
          rcases g with ⟨_, rfl, A, rfl⟩ | ⟨L, cap, b1, r1, r2, rfl⟩
          · exact ⟨[], src_empty hk⟩
          · obtain ⟨vs, ee, f, f1, f2, f3, f4, f5⟩ := arr_f lw (s.blk id _ hl) b1
            exact src_f lw hk hpos f4 f5
        · cases he
      · cases he
    · rename_i id off n
      split at he
      · rename_i t' l hl
        split at he
        · rename_i h _
          subst h
          obtain rfl := Option.some.inj he
          obtain ⟨t2, l2, q1, q0, g⟩ := rx
          rw [hl] at q1
          injection q1 with q1
          injection q1 with q2 q3
          subst q2
          obtain rfl := eq_of_heq q3
          have hlen : ((l.drop off).take n).length = n := by rw [List.length_take, List.length_drop]; omega
          have zero : ∀ A, n = 0 → ∃ news, Src P (size D t') tx (.slice A 0 0) ((l.drop off).take n).length news w ∧ News D w F t' ((l.drop off).take n) news := fun A hn => by
            subst hn
            rw [List.take_zero]
            exact ⟨[], src_empty hk⟩
          rcases g with ⟨b0, A, rfl⟩ | ⟨L, cap, b1, r1, r2, rfl | ⟨rfl, A, rfl⟩⟩
          · rcases s.blk id _ hl with ⟨_, rfl⟩ | ⟨L', _, _, q, _⟩
            · simp at q0; exact zero A (by omega)
            · rw [b0] at q; cases q
          · obtain ⟨vs, ee, f, f1, f2, f3, f4, f5⟩ := arr_f lw (s.blk id _ hl) b1
            have key := src_f (P := P) (w := w) (F := F) lw (xs := (l.drop off).take n) (b := L.b) (o' := L.o + off * size D t') (cap := cap) (f := fun i j => f (off + i) j) hk hpos
              (fun i j hi hj => by
                rw [hlen] at hi
                rw [← f4 (off + i) j (by omega) hj, show L.o + off * size D t' + i * size D t' + j = L.o + (off + i) * size D t' + j by rw [Nat.add_mul]; omega])
              (fun i hi j x hx => by
                have hi' : i < n := by rw [hlen] at hi; exact hi
                have e : ((l.drop off).take n)[i]'hi = l[off + i]'(by omega) := by rw [List.getElem_take, List.getElem_drop]
                rw [e] at hx
                exact f5 (off + i) (by omega) j x hx)
            rw [hlen] at key ⊢
            exact key
          · exact zero A (by omega)
        · cases he
      · cases he
    · rename_i t' l
      split at he
      · rename_i h _
        subst h
        obtain rfl := Option.some.inj he
        have rx' : RP D w F (.lst t' l) v := rx
        cases rx' with
        | lst0 => exact ⟨[], src_empty hk⟩
        | lst _ _ b o' cap f hb hc hf hr => exact src_f lw hk hpos hf hr
      · cases he
    · obtain rfl := Option.some.inj he
      obtain rfl := RC.nils_inv rx
      exact ⟨[], src_empty hk⟩
    · obtain rfl := Option.some.inj he
      have rx' : RP D w F .emp v := rx
      cases rx'
      exact ⟨[], src_empty hk⟩
    · cases he
theorem src_ok (lw : Lawful D P) (s : Sim K β F fr hp a w) {t : Ty} {xs : List (T D.S t)} {x : C D.S} {v : Value} {tx : TypeId} {dd : TD} (hpos : 0 < size D t) (hd : descOk P tx dd) (hs : srcOk D dd x = true) (rx : RC D w F hp.get β x v)
    (he : srcL D hp t x = some xs) : ∃ news, Src P (size D t) tx v xs.length news w ∧ News D w F t xs news := by
  by_cases hz : ∃ z, x = .str z
  · obtain ⟨z, rfl⟩ := hz
    obtain rfl := RC.str_inv rx
    have hk : P.underlying tx = some .string := by
      cases dd <;> first | exact hd | (simp [srcOk] at hs)
    have hu : t = .int .u8 := by
      cases t with
      | int k => cases k <;> first | rfl | (simp [srcL, elems] at he)
      | bool => simp [srcL, elems] at he
      | str => simp [srcL, elems] at he
      | st n => simp [srcL, elems] at he
      | sl t => simp [srcL, elems] at he
    subst hu
    obtain rfl := Option.some.inj he
    refine ⟨byteCells z, ?_, fun i hi j y hy => ?_⟩
    · have hl : (strBytes z).length = z.size := by unfold strBytes; rw [List.length_map, Array.length_toList]; rfl
      rw [hl]
      exact Src.ofString w hk z
    · have hj : j = 0 := by
        cases j with
        | zero => rfl
        | succ j => simp [encL] at hy
      subst hj
      simp only [encL, List.getElem?_cons_zero, Option.some.injEq] at hy
      subst hy
      have hi' : i < z.data.toList.length := by unfold strBytes at hi; simpa using hi
      refine ⟨.int .u8 ((z.data.toList[i]).toNat : Int), ?_, ?_⟩
      · show (byteCells z)[i * 1 + 0]? = _
        unfold byteCells
        rw [Nat.mul_one, Nat.add_zero, List.getElem?_map, List.getElem?_eq_getElem hi']
        rfl
      · have e : (strBytes z)[i] = ((z.data.toList[i]).toNat : Int) := List.getElem_map ..
        rw [e]
        exact .int _ _
  · have hns : ∀ z, x ≠ .str z := fun z e => hz ⟨z, e⟩
    refine src_slice lw s hpos hd hs rx hns ?_
    unfold srcL at he
    split at he
    · exact absurd rfl (hns _)
    · exact he
/-- A block that nothing names is turned. -/
theorem Sim.free (s : Sim K β F fr hp a w) {b : Nat} {x : Obj} (hb : b < w.heap.size) (hF : ¬ F b) (hG : ¬ K.G b) (hlive : ∀ i b' L, hp.get i = some b' → β i = some L → L.b ≠ b) : Sim K β F fr hp a (World.setBlock w b x) := by
  have hF' : ∀ b', F b' → F b' ∧ (World.setBlock w b x).heap[b']? = w.heap[b']? := fun b' hb' => ⟨hb', setBlock_ne fun e => hF (e ▸ hb')⟩
  have hR : ∀ c v, RC D w F hp.get β c v → RC D (World.setBlock w b x) F hp.get β c v := fun c v => RC.trans hF' fun id _ => Keep.rfl' rfl rfl
  have hz : (World.setBlock w b x).heap.size = w.heap.size := by simp [World.setBlock]
  refine ⟨s.sz, s.df, fun i v h => RV.trans hR (s.frm i v h), fun i b' h => ?_, s.inj, fun i b' L h1 h2 => by rw [hz]; exact s.sep i b' L h1 h2, fun b' h => by rw [hz]; exact s.old b' h,
    fun b' h => (setBlock_ne (show b' ≠ b from fun e => hG (e ▸ h))).trans (s.keep b' h), s.gsep, s.fsub, ⟨by rw [hz]; exact s.w0.1, s.w0.2⟩, s.refs, s.key⟩
  have r := s.blk i b' h
  cases b' with
  | box cs =>
    obtain ⟨L, vs, t, r1, r2, r3, r4, r5⟩ := r
    exact ⟨L, vs, t, r1, (setBlock_ne (hlive i _ L h r1)).trans r2, r3, r4, RL.trans hR r5⟩
  | arr t l =>
    rcases r with r | ⟨L, vs, e, r1, r2, r3, r4, r5⟩
    · exact .inl r
    · refine .inr ⟨L, vs, e, r1, (setBlock_ne (hlive i _ L h r1)).trans r2, r3, r4, fun i hi j y hy => ?_⟩
      obtain ⟨v, hv, rv⟩ := r5 i hi j y hy
      exact ⟨v, hv, RP.mono D hF' rv⟩
/-- What is appended to. -/
inductive Base (D : Tys) (w : World) (F : Nat → Prop) (hp : Tr (B D.S)) (β : Nat → Option Loc) (t : Ty) : Option Nat → List (T D.S t) → Value → Prop
  | zero (id : Option Nat) (A : Option Addr) (h : ∀ i, id = some i → ∃ (t' : Ty) (l : List (T D.S t')), hp.get i = some (.arr t' l)) : Base D w F hp β t id [] (.slice A 0 0)
  | at_ (id : Nat) (l0 l : List (T D.S t)) (L : Loc) (o' cap : Nat) (vs : Array Value) (e : TypeId) (h : hp.get id = some (.arr t l0)) (hL : β id = some L) (hv : w.heap[L.b]? = some (.cells vs e (0, 0))) (hn : vs.size = L.n)
      (hc : l.length ≤ cap) (ho : o' + cap * size D t ≤ L.n)
      (hr : ∀ i (hi : i < l.length) (j : Nat) x, (encL D t (l[i]'hi))[j]? = some x → ∃ u, vs[o' + i * size D t + j]? = some u ∧ RP D w F x u) : Base D w F hp β t (some id) l (.slice (some ⟨L.b, o', none⟩) l.length cap)
theorem base_ok (s : Sim K β F fr hp a w) {t : Ty} {c : C D.S} {v : Value} {id : Option Nat} {l : List (T D.S t)} (r : RC D w F hp.get β c v) (e : grow D t hp c = some (id, l)) : Base D w F hp β t id l v := by
  unfold grow at e
  split at e
  · simp only [Option.some.injEq, Prod.mk.injEq] at e
    obtain ⟨rfl, rfl⟩ := e
    obtain rfl := RC.nils_inv r
    exact .zero _ _ (fun i h => by cases h)
  · simp only [Option.some.injEq, Prod.mk.injEq] at e
    obtain ⟨rfl, rfl⟩ := e
    have r' : RP D w F .emp v := r
    cases r'
    exact .zero _ _ (fun i h => by cases h)
  · rename_i i
    split at e
    · rename_i t' l' hl
      split at e
      · rename_i h _
        subst h
        simp only [Option.some.injEq, Prod.mk.injEq] at e
        obtain ⟨rfl, rfl⟩ := e
        obtain ⟨t2, l2, q1, g⟩ := r
        rw [hl] at q1
        injection q1 with q1
        injection q1 with q2 q3
        subst q2
        obtain rfl := eq_of_heq q3
        rcases g with ⟨_, rfl, A, rfl⟩ | ⟨L, cap, b1, r1, r2, rfl⟩
        · exact .zero _ _ (fun j h => by obtain rfl := Option.some.inj h; exact ⟨_, _, hl⟩)
        · rcases s.blk i _ hl with ⟨q, _⟩ | ⟨L', vs, ee, q, f1, f2, f3, f4⟩
          · rw [b1] at q; cases q
          rw [b1] at q
          obtain rfl := Option.some.inj q
          exact .at_ i l' l' L L.o cap vs ee hl b1 f1 f2 r1 r2 f4
      · cases e
    · cases e
  · rename_i i off n
    split at e
    · rename_i t' l' hl
      split at e
      · rename_i h _
        subst h
        simp only [Option.some.injEq, Prod.mk.injEq] at e
        obtain ⟨rfl, rfl⟩ := e
        obtain ⟨t2, l2, q1, q0, g⟩ := r
        rw [hl] at q1
        injection q1 with q1
        injection q1 with q2 q3
        subst q2
        obtain rfl := eq_of_heq q3
        have hlen : ((l'.drop off).take n).length = n := by rw [List.length_take, List.length_drop]; omega
        have zero : ∀ A, n = 0 → Base D w F hp β t' (some i) ((l'.drop off).take n) (.slice A 0 0) := fun A hn => by
          subst hn
          rw [List.take_zero]
          exact .zero _ _ (fun j h => by obtain rfl := Option.some.inj h; exact ⟨_, _, hl⟩)
        rcases g with ⟨b0, A, rfl⟩ | ⟨L, cap, b1, r1, r2, rfl | ⟨rfl, A, rfl⟩⟩
        · rcases s.blk i _ hl with ⟨_, rfl⟩ | ⟨L', _, _, q, _⟩
          · simp at q0; exact zero A (by omega)
          · rw [b0] at q; cases q
        · rcases s.blk i _ hl with ⟨q, _⟩ | ⟨L', vs, ee, q, f1, f2, f3, f4⟩
          · rw [b1] at q; cases q
          rw [b1] at q
          obtain rfl := Option.some.inj q
          have key := Base.at_ (D := D) (w := w) (F := F) (hp := hp) (β := β) i l' ((l'.drop off).take n) L (L.o + off * size D t') cap vs ee hl b1 f1 f2 (by rw [hlen]; exact r1) (by rw [Nat.add_assoc, ← Nat.add_mul]; exact r2)
            (fun i hi j x hx => by
              have hi' : i < n := by rw [hlen] at hi; exact hi
              have e : ((l'.drop off).take n)[i]'hi = l'[off + i]'(by omega) := by rw [List.getElem_take, List.getElem_drop]
              rw [e] at hx
              obtain ⟨u, hu, ru⟩ := f4 (off + i) (by omega) j x hx
              exact ⟨u, by rw [← hu, show L.o + off * size D t' + i * size D t' + j = L.o + (off + i) * size D t' + j by rw [Nat.add_mul]; omega], ru⟩)
          rw [hlen] at key
          exact key
        · exact zero A (by omega)
      · cases e
    · cases e
  · cases e
theorem Base.arr {t : Ty} {i : Nat} {l : List (T D.S t)} {v : Value} (b : Base D w F hp β t (some i) l v) : ∃ (t' : Ty) (l' : List (T D.S t')), hp.get i = some (.arr t' l') := by
  cases b with
  | zero _ A h0 => exact h0 i rfl
  | at_ _ l0 _ L o' cap vs e' h0 => exact ⟨_, _, h0⟩
theorem enc_app (lw : Lawful D P) {t : Ty} {l xs : List (T D.S t)} {cells news : List Value} (hpos : 0 < size D t) (hc : cells.length = l.length * size D t)
    (h1 : ∀ i (hi : i < l.length) (j : Nat) x, (encL D t (l[i]'hi))[j]? = some x → ∃ u, cells[i * size D t + j]? = some u ∧ RP D w F x u) (h2 : News D w F t xs news) {tail : List Value} :
    ∀ i (hi : i < (l ++ xs).length) (j : Nat) x, (encL D t ((l ++ xs)[i]'hi))[j]? = some x → ∃ u, (cells ++ news ++ tail)[i * size D t + j]? = some u ∧ RP D w F x u := by
  intro i hi j x hx
  by_cases h : i < l.length
  · rw [List.getElem_append_left h] at hx
    obtain ⟨u, hu, ru⟩ := h1 i h j x hx
    refine ⟨u, ?_, ru⟩
    rw [List.append_assoc, List.getElem?_append_left (List.getElem?_eq_some_iff.mp hu).1]
    exact hu
  · rw [List.getElem_append_right (by omega)] at hx
    rw [List.length_append] at hi
    obtain ⟨u, hu, ru⟩ := h2 (i - l.length) (by omega) j x hx
    refine ⟨u, ?_, ru⟩
    have e : i * size D t + j = cells.length + ((i - l.length) * size D t + j) := by
      rw [hc, ← Nat.add_assoc, ← Nat.add_mul, show l.length + (i - l.length) = i by omega]
    rw [e, List.append_assoc, List.getElem?_append_right (by omega), show cells.length + ((i - l.length) * size D t + j) - cells.length = (i - l.length) * size D t + j by omega, List.getElem?_append_left (List.getElem?_eq_some_iff.mp hu).1]
    exact hu
theorem op_append (lw : Lawful D P) (s : Sim K β F fr hp a w) (hd : d < 65535) {args : Array Operand} {ts : Array TypeId} (ho : o.op = .call ⟨.builtin .append, args, ts⟩) (h : opK D H (.call ⟨.builtin .append, args, ts⟩) d fr hp k = some r) : Post D P K o a w k r := by
  simp only [opK] at h
  split at h
  case h_2 => cases h
  rename_i c x t tx ha ht
  split at h
  case h_2 => cases h
  rename_i e q1 q2 q3 q4 q5 q50 tix hti htix
  split at h
  case h_2 => cases h
  rename_i q6 q7 q8 by_ q9 τ q51 htie hsrc
  obtain ⟨y, y', rfl, rc, rx⟩ := evAs_two s ha
  obtain rfl : ts = #[t, tx] := by apply Array.toList_inj.mp; rw [ht]
  have hu : P.underlying t = some (.slice e) := (lk_ti lw hti).desc
  have hdx := (lk_ti lw htix).desc
  have oke := lk_ti lw htie
  obtain ⟨j, hj, hjs, hjb, z, hz, hzc, _⟩ := oke.info
  obtain ⟨hτ, _⟩ := oke.ty τ rfl
  have hpos := oke.pos
  have hbyt := oke.byt
  simp only at hjs hτ hjb hzc hpos hbyt
  have hsz : j.size = size D τ := by rw [hjs, hτ]
  have hp0 : 0 < size D τ := by omega
  unfold appendK at h
  split at h
  · cases h
  rename_i id l hg
  split at h
  · cases h
  rename_i xs hxs
  obtain ⟨hb, h⟩ := bK_some h
  have hb' : (l.length + xs.length) * j.bytes ≤ 140737488355328 := by
    rw [hjb]
    exact Nat.le_of_ble_eq_true hb
  have h63 : ((l.length + xs.length : Nat) : Int) ≤ 9223372036854775807 := by
    have : (l.length + xs.length) * 1 ≤ (l.length + xs.length) * j.bytes := Nat.mul_le_mul_left _ (by omega)
    omega
  obtain ⟨news, hsr, hnw⟩ := src_ok (P := P) lw s hp0 hdx hsrc rx hxs
  have hbase := base_ok s rc hg
  -- the run, from what append itself does
  have hexec : ∀ {v' w'}, (Builtin.append_ #[t, tx] o.type #[a.eval y, a.eval y']).run P w = .ok v' w' → (execOp a.eval o).run P w = .ok (.value v') w' := fun {v' w'} hr => by
    obtain ⟨cs, hx⟩ := exec_builtin (P := P) (a := a) _ _ _ ho w
    rw [hx]
    simp [builtin, hr]
  -- behind what is appended to: nothing names it any more
  have hkill : ∃ fr1 hp1, Sim K β F fr1 hp1 a w ∧ newK D d (.arr τ (l ++ xs)) (.own d) fr1 hp1 k = some r ∧ (∀ i b, hp1.get i = some b → ∃ b', hp.get i = some b') ∧ (∀ i, id = some i → hp1.get i = none) := by
    cases id with
    | none => exact ⟨fr, hp, s, h, fun i b h => ⟨b, h⟩, fun i h => by cases h⟩
    | some i =>
      simp only [killK_eq] at h
      obtain ⟨t', l', hi⟩ := hbase.arr
      have hid := s.key i _ hi
      have hg' : ∀ q, (hp.set depth i none).get q = if q = i then none else hp.get q := fun q => Tr.get_set _ _ _ _ _ (by rw [depth_ok]; omega)
      refine ⟨_, _, (s.kill hid hi).1, h, fun q b hq => ?_, fun q hq => ?_⟩
      · rw [Tr.get_map, hg'] at hq
        by_cases eq : q = i
        · rw [if_pos eq] at hq; cases hq
        · rw [if_neg eq] at hq
          obtain ⟨b', hb', _⟩ := Option.map_eq_some_iff.mp hq
          exact ⟨b', hb'⟩
      · obtain rfl := Option.some.inj hq
        rw [Tr.get_map, hg', if_pos rfl]; rfl
  obtain ⟨fr1, hp1, s1, h1, hback, hgone⟩ := hkill
  clear h
  have hlen : (l ++ xs).length = l.length + xs.length := List.length_append
  -- a new row
  have grow : ∀ (A : Option Addr) (cap : Nat) (olds : List Value), a.eval y = .slice A l.length cap → (Builtin.firstCells j.size l.length (.slice A l.length cap)).run P w.drew = .ok olds.toArray w.drew → olds.length = l.length * size D τ →
      (∀ i (hi : i < l.length) (jj : Nat) x, (encL D τ (l[i]'hi))[jj]? = some x → ∃ u, olds[i * size D τ + jj]? = some u ∧ RP D w F x u) → cap < l.length + xs.length → Post D P K o a w k r := by
    intro A cap olds ey hold hol hr hlt
    have hrun := run_append_grow_src (P := P) w t tx o.type e j z hu hj hz A l.length cap olds hold (a.eval y') xs.length news (by rw [hsz]; exact hsr) hlt h63 (growslice_fits hlt hb')
    rw [← ey] at hrun
    have hge := grownCap_ge w (l.length + xs.length) cap e
    have hnl := hsr.newsLen
    have hzl : z.cells.size = size D τ := by
      have := congrArg List.length hzc
      have h2 : q9.length = q8 := oke.zlen
      simp only [List.length_map, Array.length_toList] at this
      omega
    refine newArr lw s1 hd (One.drew w _) (cap := grownCap w (l.length + xs.length) cap e) (by rw [hlen]; exact hge) ?_ ?_ (by rw [hlen]; exact hexec hrun) h1
    · rw [Array.size_append, List.size_toArray, size_zeroCells, hzl, List.length_append, hol, hnl, ← Nat.add_mul, ← Nat.add_mul]
      exact Nat.mul_le_mul_right _ (by omega)
    · intro i hi jj x hx
      have := enc_app (w := w) (F := F) lw hp0 hol hr hnw (tail := (Builtin.zeroCells z.cells (grownCap w (l.length + xs.length) cap e - (l.length + xs.length))).toList) i hi jj x hx
      obtain ⟨u, hu', ru⟩ := this
      refine ⟨u, ?_, ru⟩
      rw [← hu', ← Array.getElem?_toList, Array.toList_append]
  generalize ey : a.eval y = v0 at hbase
  cases hbase with
  | zero _ A h0 =>
    by_cases hn0 : xs.length = 0
    · -- nothing is appended
      obtain rfl : xs = [] := List.length_eq_zero_iff.mp hn0
      have hrun : (Builtin.append_ #[t, tx] o.type #[a.eval y, a.eval y']).run P w = .ok (.slice A 0 0) w := by
        rw [ey]
        have hnews : news = [] := List.length_eq_zero_iff.mp (by rw [hsr.newsLen]; simp)
        have hc := hsr.cells
        rw [hnews] at hc
        simp only [List.length_nil] at hc
        have hl0 := hsr.len
        simp only [List.length_nil] at hl0
        rw [← hsz] at hc
        rcases hsr.kind with ⟨e', hk⟩ | hk <;> cases A <;> simp [Builtin.append_, run_underlying hu, run_underlying hk, sizeOf, typeInfo, hj, hl0, hc, storeCells]
      unfold newK at h1
      split at h1
      · cases h1
      · rename_i hdn
        rw [Tr.setK_eq] at h1
        have hg' : ∀ q, (hp1.set depth d (some (.arr τ ([] ++ [])))).get q = if q = d then some (.arr τ ([] ++ [])) else hp1.get q := fun q => Tr.get_set _ _ _ _ _ (by rw [depth_ok]; omega)
        obtain ⟨s2, g2⟩ := s1.new hdn hd (.arr τ ([] ++ [])) none (fun L' e => by cases e) (.inl ⟨upd_at _ _ _, rfl⟩)
        exact ⟨_, _, _, h1, _, F, _, w, .inl (hexec hrun), s2, ⟨τ, [] ++ [], by rw [hg', if_pos rfl], .inl ⟨upd_at _ _ _, rfl, A, rfl⟩⟩⟩
    · refine grow A 0 [] ey ?_ (by simp) (fun i hi => by simp at hi) (by simp; omega)
      cases A with
      | none => exact run_firstCells_none w.drew j.size 0 0 0
      | some A => exact run_firstCells_some w.drew j.size 0 A 0 0 [] (by simp) (fun j v hv => by simp at hv)
  | at_ i l0 _ L o' cap vs e' h0 hL hv hn hc ho' hr =>
    by_cases hroom : l.length + xs.length ≤ cap
    · have hnl := hsr.newsLen
      have hm1 : (l.length + xs.length) * size D τ ≤ cap * size D τ := Nat.mul_le_mul_right _ hroom
      have hm2 : l.length * size D τ + news.length = (l.length + xs.length) * size D τ := by rw [hnl, Nat.add_mul]
      have hin : o' + l.length * size D τ + news.length ≤ vs.size := by omega
      have hrun := run_append_room_src (P := P) w t tx o.type e j hu hj L.b o' l.length cap (a.eval y') xs.length news (by rw [hsz]; exact hsr) hroom
        (fun q hq => by rw [hsz, cell_of hv, Array.getElem?_eq_getElem (by omega)]; rfl) (fun q hq => by simp [World.frozen?, hv])
      rw [hsz, setCells_block hv _ _ (by omega), ← ey] at hrun
      have hLb := s.sep i _ L h0 hL
      have hlive : ∀ q b' L2, hp1.get q = some b' → β q = some L2 → L2.b ≠ L.b := fun q b' L2 hq hL2 e => by
        obtain ⟨b2, hb2⟩ := hback q b' hq
        have := s.inj q i b2 _ L2 L hb2 h0 hL2 hL e
        subst this
        rw [hgone q rfl] at hq; cases hq
      have s2 := s1.free (x := .cells (putV vs (o' + l.length * size D τ) news) e' (0, 0)) hLb.2 hLb.1 (s.gsep i _ L h0 hL) hlive
      unfold newK at h1
      split at h1
      · cases h1
      · rename_i hdn
        rw [Tr.setK_eq] at h1
        have hg' : ∀ q, (hp1.set depth d (some (.arr τ (l ++ xs)))).get q = if q = d then some (.arr τ (l ++ xs)) else hp1.get q := fun q => Tr.get_set _ _ _ _ _ (by rw [depth_ok]; omega)
        have upF : ∀ {c : C D.S} {v : Value}, RP D w F c v → RP D (World.setBlock w L.b (.cells (putV vs (o' + l.length * size D τ) news) e' (0, 0))) F c v :=
          fun r => RP.mono D (fun b hb => ⟨hb, setBlock_ne (show b ≠ L.b from fun e => by rw [e] at hb; exact hLb.1 hb)⟩) r
        have hzs : (putV vs (o' + l.length * size D τ) news).size = vs.size := putV_size hin
        obtain ⟨s3, g3⟩ := s2.new hdn hd (.arr τ (l ++ xs)) (some ⟨L.b, o', L.n⟩) (fun L' e => by
            obtain rfl := Option.some.inj e
            exact ⟨by simp [World.setBlock]; exact hLb.2, hLb.1, hlive, s.gsep i _ L h0 hL⟩)
          (.inr ⟨_, _, e', upd_at _ _ _, setBlock_at hLb.2, by rw [hzs, hn], by rw [hlen]; simp only; omega, fun q hq jj x hx => by
            have hjj : jj < size D τ := by rw [← encL_len lw τ ((l ++ xs)[q]'hq)]; exact (List.getElem?_eq_some_iff.mp hx).1
            by_cases hql : q < l.length
            · rw [List.getElem_append_left hql] at hx
              obtain ⟨u, hu', ru⟩ := hr q hql jj x hx
              have h2 : (q + 1) * size D τ ≤ l.length * size D τ := Nat.mul_le_mul_right _ (by omega)
              rw [Nat.add_mul, Nat.one_mul] at h2
              exact ⟨u, by simp only; rw [putV_out hin _ (.inl (by omega))]; exact hu', upF ru⟩
            · rw [List.getElem_append_right (by omega)] at hx
              rw [hlen] at hq
              obtain ⟨u, hu', ru⟩ := hnw (q - l.length) (by omega) jj x hx
              refine ⟨u, ?_, upF ru⟩
              have e1 : o' + q * size D τ + jj = o' + l.length * size D τ + ((q - l.length) * size D τ + jj) := by
                have : q * size D τ = l.length * size D τ + (q - l.length) * size D τ := by rw [← Nat.add_mul, show l.length + (q - l.length) = q by omega]
                omega
              simp only
              rw [e1, putV_in hin _ (List.getElem?_eq_some_iff.mp hu').1]
              exact hu'⟩)
        exact ⟨_, _, _, h1, _, F, _, _, .inl (hexec hrun), s3, ⟨τ, l ++ xs, by rw [hg', if_pos rfl], .inr ⟨_, cap, upd_at _ _ _, by rw [hlen]; exact hroom, by simp only; exact ho', by rw [hlen]⟩⟩⟩
    · have hml : l.length * size D τ ≤ cap * size D τ := Nat.mul_le_mul_right _ hc
      have hol : ((vs.toList.drop o').take (l.length * size D τ)).length = l.length * size D τ := by
        have hz : vs.toList.length = vs.size := Array.length_toList
        rw [List.length_take, List.length_drop]; omega
      refine grow (some ⟨L.b, o', none⟩) cap ((vs.toList.drop o').take (l.length * size D τ)) ey ?_ hol (fun q hq jj x hx => ?_) (by omega)
      · refine run_firstCells_some w.drew j.size l.length ⟨L.b, o', none⟩ l.length cap _ (by rw [hol, hsz]) (fun q u hq => ?_)
        have hql : q < l.length * size D τ := by rw [← hol]; exact (List.getElem?_eq_some_iff.mp hq).1
        rw [List.getElem?_take_of_lt hql, List.getElem?_drop, Array.getElem?_toList] at hq
        rw [Addr.add_lit]
        show w.cell? ⟨L.b, o' + q, none⟩ = some u
        rw [cell_of hv]; exact hq
      · obtain ⟨u, hu', ru⟩ := hr q hq jj x hx
        have hjj : jj < size D τ := by rw [← encL_len lw τ l[q]]; exact (List.getElem?_eq_some_iff.mp hx).1
        have h2 : (q + 1) * size D τ ≤ l.length * size D τ := Nat.mul_le_mul_right _ (by omega)
        rw [Nat.add_mul, Nat.one_mul] at h2
        refine ⟨u, ?_, ru⟩
        rw [List.getElem?_take_of_lt (by omega), List.getElem?_drop, Array.getElem?_toList, ← Nat.add_assoc]
        exact hu'
end
end Go.Proofs.Ytalgppclaolonaa.Ev
