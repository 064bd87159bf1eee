/- Values without memory: rows that are made, written and grown. -/
import Derived.Test.YtalgppclaolonaaEv12
namespace Go.Proofs.Ytalgppclaolonaa.Ev
open Go
set_option linter.unusedVariables false
set_option linter.unusedSimpArgs false
section
variable {D : Tys} {P : Program}
variable {R : Type} {H : HH D R} {K : Kx} {β : Nat → Option Loc} {F : Nat → Prop} {fr : Tr (V D.S)} {hp : Tr (B D.S)} {a : Act} {w : World} {o : Oper} {d : Nat} {k : KK D R} {r : R}
/-- What is the same behind rows that are told by value from here on. -/
structure Frz (β : Nat → Option Loc) (F F' : Nat → Prop) (hp hp' : Tr (B D.S)) (ids : List Nat) : Prop where
  up : ∀ b, F b → F' b
  own : ∀ id ∈ ids, ∀ t (l : List (T D.S t)) L, hp.get id = some (.arr t l) → β id = some L → F' L.b
  arr : ∀ id t (l : List (T D.S t)), hp'.get id = some (.arr t l) → hp.get id = some (.arr t l)
  some_ : ∀ id b, hp'.get id = some b → ∃ b', hp.get id = some b'
  box : ∀ id cs, hp'.get id = some (.box cs) → ∃ cs', hp.get id = some (.box cs')
  box' : ∀ id cs, hp.get id = some (.box cs) → ∃ cs', hp'.get id = some (.box cs')
theorem frzs_ok (lw : Lawful D P) {k : Tr (V D.S) → Tr (B D.S) → Option R} : ∀ {ids : List Nat} {fr : Tr (V D.S)} {hp : Tr (B D.S)} {F : Nat → Prop}, Sim K β F fr hp a w → frzsK ids fr hp k = some r →
    ∃ F' fr' hp', k fr' hp' = some r ∧ Sim K β F' fr' hp' a w ∧ Frz β F F' hp hp' ids
  | [], fr, hp, F, s, h => ⟨F, fr, hp, h, s, ⟨fun _ h => h, fun id hi => (by cases hi), fun _ _ _ h => h, fun _ b h => ⟨b, h⟩, fun _ cs h => ⟨cs, h⟩, fun _ cs h => ⟨cs, h⟩⟩⟩
  | id :: ids, fr, hp, F, s, h => by
    simp only [frzsK] at h
    split at h
    · rename_i hn
      obtain ⟨F', fr', hp', h1, h2, h3⟩ := frzs_ok lw s h
      refine ⟨F', fr', hp', h1, h2, ⟨h3.up, fun i hi t l L g1 g2 => ?_, h3.arr, h3.some_, h3.box, h3.box'⟩⟩
      rcases List.mem_cons.mp hi with rfl | hi
      · rw [hn] at g1; cases g1
      · exact h3.own i hi t l L g1 g2
    · rename_i b hb
      cases b with
      | box cs => simp only [frzK, hb] at h; cases h
      | arr t l =>
        rw [frzK_eq hb] at h
        have hid := s.key id _ hb
        obtain ⟨F1, g1, g2, g3, _⟩ := s.frz lw hid hb
        have hg : ∀ i, (hp.set depth id none).get i = if i = id then none else hp.get i := fun i => Tr.get_set _ _ _ _ _ (by rw [depth_ok]; omega)
        have hg' : ∀ i, ((hp.set depth id none).map (mapB (frzF id t l))).get i = if i = id then none else (hp.get i).map (mapB (frzF id t l)) := fun i => by
          rw [Tr.get_map, hg]; split <;> rfl
        obtain ⟨F', fr', hp', h1, h2, h3⟩ := frzs_ok lw g3 h
        have back : ∀ i b, ((hp.set depth id none).map (mapB (frzF id t l))).get i = some b → i ≠ id ∧ ∃ b', hp.get i = some b' ∧ mapB (frzF id t l) b' = b := fun i b e => by
          rw [hg'] at e
          by_cases ei : i = id
          · rw [if_pos ei] at e; cases e
          · rw [if_neg ei] at e
            obtain ⟨b', e1, e2⟩ := Option.map_eq_some_iff.mp e
            exact ⟨ei, b', e1, e2⟩
        refine ⟨F', fr', hp', h1, h2, ⟨fun b hb => h3.up b (g1 b hb), fun i hi t' l' L e1 e2 => ?_, fun i t' l' e => ?_, fun i b e => ?_, fun i cs e => ?_, fun i cs e => ?_⟩⟩
        · rcases List.mem_cons.mp hi with rfl | hi
          · exact h3.up _ (g2 L e2)
          · by_cases ei : i = id
            · subst ei; exact h3.up _ (g2 L e2)
            · exact h3.own i hi t' l' L (by rw [hg', if_neg ei, e1]; rfl) e2
        · obtain ⟨_, b', e1, e2⟩ := back i _ (h3.arr i t' l' e)
          cases b' with
          | box cs => cases e2
          | arr t2 l2 => rw [e1]; exact congrArg some e2
        · obtain ⟨b1, e1⟩ := h3.some_ i b e
          obtain ⟨_, b', e2, _⟩ := back i b1 e1
          exact ⟨b', e2⟩
        · obtain ⟨cs1, e1⟩ := h3.box i cs e
          obtain ⟨_, b', e2, e3⟩ := back i _ e1
          cases b' with
          | box cs' => exact ⟨cs', e2⟩
          | arr t2 l2 => cases e3
        · have ei : i ≠ id := fun ei => by rw [ei, hb] at e; cases e
          exact h3.box' i (cs.map (frzF id t l)) (by rw [hg', if_neg ei, e]; rfl)
/-- A place in an own row, behind such rows: it is where it was. -/
theorem Frz.live {F F' : Nat → Prop} {hp hp' : Tr (B D.S)} {ids : List Nat} (f : Frz β F F' hp hp' ids) {id : Nat} {t : Ty} {l : List (T D.S t)} (h : hp'.get id = some (.arr t l)) : hp.get id = some (.arr t l) := f.arr id t l h

/-! ### rows that are written out -/
theorem fill_row {sz : Nat} : ∀ (n : Nat) (us : List (Nat × Value)) (cells : Array Value), (∀ (j : Nat) u, us[j]? = some u → u.1 = n + j ∧ u.2.cells.size = sz) → (n + us.length) * sz ≤ cells.size →
    ∃ cells', Instr.fill (fun i => some (i * sz, sz)) cells us = some cells' ∧ cells'.size = cells.size ∧ (∀ i, i < n * sz → cells'[i]? = cells[i]?) ∧ (∀ (j i : Nat) u, us[j]? = some u → i < sz → cells'[(n + j) * sz + i]? = u.2.cells[i]?)
  | n, [], cells, h1, h2 => ⟨cells, rfl, rfl, fun _ _ => rfl, fun j i u hu => by simp at hu⟩
  | n, (i0, v) :: us, cells, h1, h2 => by
    obtain ⟨e1, e2⟩ := h1 0 _ rfl
    simp only [Nat.add_zero] at e1 e2
    subst e1
    simp only [List.length_cons] at h2
    have hb : (i0 + 1) * sz ≤ cells.size := Nat.le_trans (Nat.mul_le_mul_right sz (by omega)) h2
    have hb' : i0 * sz + sz ≤ cells.size := by rw [Nat.add_mul, Nat.one_mul] at hb; exact hb
    have hlv : v.cells.toList.length = v.cells.size := Array.length_toList
    have hf : (v.cells.zipIdx.foldl (fun cs (c, j) => cs.setIfInBounds (i0 * sz + j) c) cells) = putV cells (i0 * sz) v.cells.toList := by
      have := fold_put (i0 * sz) v.cells.toList 0 cells (by omega)
      rw [Nat.add_zero] at this
      rw [← this, ← Array.foldl_toList, Array.toList_zipIdx]
    have hz1 : (putV cells (i0 * sz) v.cells.toList).size = cells.size := putV_size (by omega)
    obtain ⟨c', g1, g2, g3, g4⟩ := fill_row (i0 + 1) us (putV cells (i0 * sz) v.cells.toList) (fun j u hu => by
      obtain ⟨q1, q2⟩ := h1 (j + 1) u (by simpa using hu)
      exact ⟨by omega, q2⟩) (by rw [hz1, show i0 + 1 + us.length = i0 + (us.length + 1) by omega]; exact h2)
    refine ⟨c', ?_, g2.trans hz1, fun i hi => ?_, fun j i u hu hi => ?_⟩
    · unfold Instr.fill
      simp only
      have hn1 : ¬ ((v.cells.size ≠ sz || decide (i0 * sz + v.cells.size > cells.size)) = true) := by
        simp [e2]; omega
      rw [if_neg (by simpa using hn1), hf, g1]
    · have hi' : i < (i0 + 1) * sz := by rw [Nat.add_mul]; omega
      rw [g3 i hi', putV_out (by omega) i (.inl hi)]
    · cases j with
      | zero =>
        simp at hu
        subst hu
        rw [Nat.add_zero, g3 _ (by rw [Nat.add_mul]; omega), putV_in (by omega) i (by omega), Array.getElem?_toList]
      | succ j =>
        have := g4 j i u (by simpa using hu) hi
        rw [show i0 + (j + 1) = i0 + 1 + j by omega]
        exact this
theorem inOrder_at : ∀ {n : Nat} {ps : List (Nat × A D.S)}, inOrder D n ps = true → ∀ (j : Nat) p, ps[j]? = some p → p.1 = n + j
  | n, [], h, j, p, hp => by simp at hp
  | n, (i, x) :: ps, h, j, p, hp => by
    simp only [inOrder] at h
    split at h
    · rename_i e
      have e := Nat.eq_of_beq_eq_true e
      cases j with
      | zero => simp at hp; subst hp; exact e
      | succ j => have := inOrder_at h j p (by simpa using hp); omega
    · cases h
theorem decParts_at {hp : Tr (B D.S)} {t : Ty} : ∀ {ps : List (Nat × A D.S)} {l : List (T D.S t)}, decParts D hp t ps = some l → l.length = ps.length ∧ ∀ (j : Nat) p x, ps[j]? = some p → l[j]? = some x → ∃ cs, resL hp p.2.cells = some cs ∧ decL D t cs = some x
  | [], l, h => by simp only [decParts, Option.some.injEq] at h; subst h; exact ⟨rfl, fun j p x hp => by simp at hp⟩
  | (i, y) :: ps, l, h => by
    simp only [decParts] at h
    split at h
    · cases h
    · rename_i cs hcs
      split at h
      · rename_i x hx
        split at h
        · rename_i rs hr
          obtain rfl := Option.some.inj h
          obtain ⟨i1, i2⟩ := decParts_at hr
          refine ⟨by simp [i1], fun j p z hp hz => ?_⟩
          cases j with
          | zero => simp at hp hz; subst hp; subst hz; exact ⟨cs, hcs, hx⟩
          | succ j => simp at hp hz; exact i2 j p z hp hz
        · cases h
      · cases h
theorem ownsP_mem : ∀ {ps : List (Nat × A D.S)} {p : Nat × A D.S}, p ∈ ps → ∀ id ∈ ownsL p.2.cells, id ∈ ownsP D ps
  | (i, y) :: ps, p, h, id, hi => by
    simp only [ownsP, List.mem_append]
    rcases List.mem_cons.mp h with rfl | h
    · exact .inl hi
    · exact .inr (ownsP_mem h id hi)
theorem ownsL_arr {w F} {hp : Tr (B D.S)} {β} {cs : List (C D.S)} {vs : List Value} (r : RL D w F hp.get β cs vs) : ∀ id ∈ ownsL cs, ∃ t l, hp.get id = some (.arr t l) := fun id hi => by
  rw [ownsL_eq, List.mem_flatMap] at hi
  obtain ⟨c, hc, hi⟩ := hi
  obtain ⟨j, hj⟩ := List.getElem?_of_mem hc
  have hlt : j < vs.length := by rw [← r.1]; exact (List.getElem?_eq_some_iff.mp hj).1
  have rc := r.2 j c _ hj (List.getElem?_eq_getElem hlt)
  cases c <;> simp [ownsC] at hi <;> subst hi
  · obtain ⟨t, l, L, g, _⟩ := rc; exact ⟨t, l, g⟩
  · obtain ⟨t, l, g, _⟩ := rc; exact ⟨t, l, g⟩
  · obtain ⟨t, l, g, _⟩ := rc; exact ⟨t, l, g⟩
theorem op_buildSlice (lw : Lawful D P) (s : Sim K β F fr hp a w) (hd : d < 65535) {t : TypeId} {len : Nat} {parts : Array (Nat × Operand)} (ho : o.op = .buildSlice t len parts) (h : opK D H (.buildSlice t len parts) d fr hp k = some r) : Post D P K o a w k r := by
  simp only [opK] at h
  split at h
  · rename_i e q1 q2 q3 q4 q5 q50 hti
    split at h
    · rename_i q6 q7 q8 q9 q10 τ q51 htie
      have hu : P.underlying t = some (.slice e) := (lk_ti lw hti).desc
      have oke := lk_ti lw htie
      obtain ⟨j, hj, hjs, hjb, z, hz, hzc, _⟩ := oke.info
      obtain ⟨hτ, _⟩ := oke.ty τ rfl
      simp only at hjs hτ
      split at h
      · cases h
      · rename_i ps hps
        split at h
        · cases h
        · rename_i hord
          split at h
          · cases h
          · rename_i hlen
            rw [Bool.and_eq_true, Bool.and_eq_true] at hlen
            obtain ⟨⟨hl1, hl2⟩, hl3⟩ := hlen
            have hl1 := Nat.eq_of_beq_eq_true hl1
            have hl2 := Nat.le_of_ble_eq_true hl2
            have hl3 := Nat.le_of_ble_eq_true hl3
            split at h
            · cases h
            · rename_i l hl
              obtain ⟨dl, dp⟩ := decParts_at hl
              have hq := evParts_ok s hps
              have htl : (parts.map fun (i, x) => (i, a.eval x)).toList = parts.toList.map fun (i, x) => (i, a.eval x) := Array.toList_map
              generalize (parts.toList.map fun (i, x) => (i, a.eval x)) = us at hq htl
              obtain ⟨F', fr', hp', h1, s', fz⟩ := frzs_ok lw s h
              have hpos := oke.pos
              simp only at hpos
              have hsz : j.size = size D τ := by rw [hjs, hτ]
              -- the parts' cells
              have hpart : ∀ (i : Nat) u, us[i]? = some u → u.1 = 0 + i ∧ u.2.cells.size = size D τ := fun i u hu => by
                have hi : i < ps.length := by rw [hq.1]; exact (List.getElem?_eq_some_iff.mp hu).1
                have hp_ := List.getElem?_eq_getElem hi
                obtain ⟨g1, g2, g3⟩ := hq.2 i _ u hp_ hu
                have := inOrder_at hord i _ hp_
                refine ⟨by omega, ?_⟩
                have hil : i < l.length := by omega
                obtain ⟨cs, c1, c2⟩ := dp i _ _ hp_ (List.getElem?_eq_getElem hil)
                have rc := g2.cells g3
                have rp := resL_ok lw fz.up s.blk rc c1 (fun id hi L hL => by
                  obtain ⟨t', l', hg⟩ := ownsL_arr rc id hi
                  exact fz.own id (ownsP_mem (List.getElem_mem _) id hi) t' l' L hg hL)
                have := (decL_le lw c2).1
                have hlv : u.2.cells.toList.length = u.2.cells.size := Array.length_toList
                have := rp.1
                omega
              have hlens : us.length = len := by rw [← hq.1]; exact hl1
              obtain ⟨cells, f1, f2, _, f4⟩ := fill_row 0 us ((Array.range (len * j.size)).map (z.cells[· % z.cells.size]!)) (sz := size D τ) hpart (by rw [hlens]; simp [hsz])
              have hrun := run_buildSlice (P := P) w t e len (parts.map fun (i, x) => (i, a.eval x)) cells j z hu hj hz (by rw [hsz]; omega) (by
                rw [hsz]
                have : 0 < len * size D τ := Nat.mul_pos (by omega) (by omega)
                omega) (by rw [htl]; rw [hsz] at f1 ⊢; exact f1)
              have hll : l.length = len := by omega
              refine newArr lw s' hd (One.alloc w (.cells cells e)) (cap := l.length) (Nat.le_refl _) (by rw [f2, hll]; simp [hsz]) ?_ (by rw [hll]; simp [execOp, ho, hrun]) h1
              intro i hi jj x hx
              have hip : i < ps.length := by omega
              have hp_ := List.getElem?_eq_getElem hip
              have hui : i < us.length := by omega
              have hu_ := List.getElem?_eq_getElem hui
              obtain ⟨g1, g2, g3⟩ := hq.2 i _ _ hp_ hu_
              obtain ⟨cs, c1, c2⟩ := dp i _ _ hp_ (List.getElem?_eq_getElem hi)
              have rc := g2.cells g3
              have rp := resL_ok lw fz.up s.blk rc c1 (fun id hi L hL => by
                obtain ⟨t', l', hg⟩ := ownsL_arr rc id hi
                exact fz.own id (ownsP_mem (List.getElem_mem _) id hi) t' l' L hg hL)
              obtain ⟨le1, le2⟩ := decL_le lw c2
              have hjj : jj < size D τ := by rw [← encL_len lw τ l[i]]; exact (List.getElem?_eq_some_iff.mp hx).1
              have hcj := List.getElem?_eq_getElem (l := cs) (i := jj) (by omega)
              have hvj := List.getElem?_eq_getElem (l := (us[i]).2.cells.toList) (i := jj) (by have := rp.1; omega)
              refine ⟨_, ?_, le2 jj _ x hcj hx _ _ _ (rp.2 jj _ _ hcj hvj)⟩
              have := f4 i jj _ hu_ hjj
              rw [Nat.zero_add] at this
              rw [this, ← Array.getElem?_toList]
              exact hvj
    · cases h
  · cases h
theorem op_makeSlice (lw : Lawful D P) (s : Sim K β F fr hp a w) (hd : d < 65535) {t : TypeId} {x y : Operand} (ho : o.op = .makeSlice t x y) (h : opK D H (.makeSlice t x y) d fr hp k = some r) : Post D P K o a w k r := by
  simp only [opK] at h
  split at h
  · rename_i e q1 q2 q3 q4 q5 q50 hti
    split at h
    · rename_i q6 q7 q8 by_ zc τ q51 htie
      have hu : P.underlying t = some (.slice e) := (lk_ti lw hti).desc
      have oke := lk_ti lw htie
      obtain ⟨j, hj, hjs, hjb, z, hz, hzc, _⟩ := oke.info
      obtain ⟨hτ, _⟩ := oke.ty τ rfl
      have hpos := oke.pos
      simp only at hjs hτ hjb hzc hpos
      split at h
      · rename_i k1 n k2 c zv hn hc hzv
        obtain ⟨b1, h⟩ := bK_some h
        obtain ⟨b2, h⟩ := bK_some h
        obtain ⟨b3, h⟩ := bK_some h
        have b1 := of_decide_eq_true b1
        have b2 := of_decide_eq_true b2
        have b3 : (by_ : Int) * c ≤ 281474976710656 := by
          have h3 : by_ * c.toNat ≤ 281474976710656 := Nat.le_of_ble_eq_true b3
          have h4 : ((by_ * c.toNat : Nat) : Int) ≤ 281474976710656 := by omega
          rw [Int.natCast_mul, Int.toNat_of_nonneg (by omega)] at h4
          exact h4
        have en := evC_int s hn
        have ec := evC_int s hc
        have hcb : c ≤ 9223372036854775807 ∧ (j.bytes : Int) * c ≤ 281474976710656 := by
          refine ⟨?_, by rw [hjb]; exact b3⟩
          have := oke.byt
          simp only at this
          have h1 : (1 : Int) * c ≤ (by_ : Int) * c := Int.mul_le_mul_of_nonneg_right (by omega) (by omega)
          omega
        have hrun := run_make (P := P) w t e j z hu hj hz k1 k2 n c b1 b2 hcb.2 hcb.1
        have hsz : j.size = size D τ := by rw [hjs, hτ]
        have hzl : z.cells.size = size D τ := by
          have := congrArg List.length hzc
          simp only [List.length_map, Array.length_toList] at this
          have h2 := (decL_le lw hzv).1
          omega
        refine newArr lw s hd (One.alloc w (.cells (madeCells z.cells (c.toNat * j.size)) e)) (cap := c.toNat) (by rw [List.length_replicate]; omega) (by rw [size_madeCells, hsz]; omega) ?_ (by rw [List.length_replicate]; simp [execOp, ho, en, ec, hrun]) h
        intro i hi jj x hx
        rw [List.length_replicate] at hi
        rw [List.getElem_replicate] at hx
        have hjj : jj < size D τ := by rw [← encL_len lw τ zv]; exact (List.getElem?_eq_some_iff.mp hx).1
        obtain ⟨le1, le2⟩ := decL_le lw hzv
        have hcj := List.getElem?_eq_getElem (l := zc) (i := jj) (by omega)
        have hlt : i * size D τ + jj < c.toNat * size D τ := by
          have h1 : (i + 1) * size D τ ≤ c.toNat * size D τ := Nat.mul_le_mul_right _ (by omega)
          rw [Nat.add_mul, Nat.one_mul] at h1
          omega
        have hv : valOf zc[jj] = some z.cells[jj]! := by
          have e := congrArg (·[jj]?) hzc
          simp only [List.getElem?_map, hcj, Option.map_some] at e
          have hzz : z.cells.toList[jj]? = some z.cells[jj]! := by
            rw [Array.getElem?_toList, Array.getElem?_eq_getElem (by omega), getElem!_pos z.cells jj (by omega)]
          rw [hzz] at e
          simpa using e.symm
        refine ⟨z.cells[jj]!, ?_, le2 jj _ x hcj hx _ _ _ ?_⟩
        · unfold madeCells
          rw [Array.getElem?_map, Array.getElem?_range, if_pos (by rw [hsz]; exact hlt)]
          simp only [Option.map_some, hzl]
          rw [Nat.add_comm, Nat.add_mul_mod_self_right, Nat.mod_eq_of_lt hjj]
        · have rv := valOf_RC (w := w) (F := F) (h := hp.get) (β := β) hv
          generalize zc[jj] = c0 at rv hv
          cases c0 <;> first | exact rv | (simp [valOf] at hv)
      · cases h
    · cases h
  · cases h
theorem resL_noAny {hp : Tr (B D.S)} : ∀ {cs cs' : List (C D.S)}, resL hp cs = some cs' → noAny cs = true
  | [], cs', h => rfl
  | c :: cs, cs', h => by
    simp only [resL] at h
    split at h
    · rename_i c1 hc1
      split at h
      · rename_i cs1 hcs1
        have ih := resL_noAny hcs1
        cases c <;> first | exact ih | (simp [resC] at hc1)
      · cases h
    · cases h
theorem op_store (lw : Lawful D P) (s : Sim K β F fr hp a w) {t : TypeId} {p x : Operand} (ho : o.op = .store t p x) (h : opK D H (.store t p x) d fr hp k = some r) : Post D P K o a w k r := by
  simp only [opK] at h
  split at h
  · rename_i ti hti
    have ok := lk_ti lw hti
    obtain ⟨j, hj, hjs, _⟩ := ok.info
    split at h
    · rename_i c hc
      split at h
      · rename_i y hy
        split at h
        · rename_i id0 off
          split at h
          · rename_i id b hb
            rw [Tr.setK_eq] at h
            unfold storeB at hb
            split at hb
            · cases hb
            · rename_i hchk
              rw [Bool.and_eq_true] at hchk
              have hlen := Nat.eq_of_beq_eq_true hchk.1
              dsimp only at hb
              split at hb
              · rename_i cs hcs
                split at hb
                · rename_i cs' hcs'
                  simp only [Option.some.injEq, Prod.mk.injEq] at hb
                  obtain ⟨rfl, rfl⟩ := hb
                  obtain ⟨cs0, L, g1, g2, g3⟩ := evC_ok s hc
                  rw [hcs] at g1
                  obtain rfl : cs = cs0 := by injection g1 with g1; injection g1
                  obtain ⟨L', vs, e, r1, r2, r3, r4, r5⟩ := s.blk id0 _ hcs
                  rw [g2] at r1
                  obtain rfl := Option.some.inj r1
                  have ra := evA_ok s hy
                  have rl := ra.cells hchk.2
                  have hlv : (a.eval x).cells.toList.length = (a.eval x).cells.size := Array.length_toList
                  have hvl : vs.toList.length = vs.size := Array.length_toList
                  have hput := (putS_eq hcs').2
                  have hvc : (a.eval x).cells.size = j.size := by have := rl.1; omega
                  have hin : off + j.size ≤ vs.size := by have := r5.1; omega
                  have e0 : L.o + off = off := by rw [r3, Nat.zero_add]
                  have hrun := run_storeVar (P := P) hj (b := L.b) (o := off) r2 hvc hin (rl.one hchk.2)
                  obtain ⟨s2, g⟩ := s.setblk (s.key _ _ hcs) (b1 := .box cs') hcs g2 r2 (vs' := putV vs off (a.eval x).cells.toList) (putV_size (by omega)) ⟨fun cs e => ⟨cs', rfl⟩, fun t l e => (by cases e)⟩ (fun hR =>
                    ⟨L, putV vs off (a.eval x).cells.toList, e, g2, setBlock_at (Array.getElem?_eq_some_iff.mp r2).1, r3, (putV_size (by omega)).trans r4, RL.putV (RL.trans hR r5) (RL.trans hR rl) hcs'⟩)
                  exact ⟨_, _, _, h, β, F, undef, _, .inr ⟨by simp [execOp, ho, g3, e0, Instr.storeAt, Instr.sureAddr, hrun], rfl⟩, s2, trivial⟩
                · cases hb
              · cases hb
          · cases h
        · rename_i c hnp
          split at h
          · cases h
          · rename_i cs hcs
            have hna := resL_noAny hcs
            have ra := evA_ok s hy
            have rl := ra.cells hna
            obtain ⟨F', fr', hp', h1, s', fz⟩ := frzs_ok lw s h
            have rp := resL_ok lw fz.up s.blk rl hcs (fun id hi L hL => by
              obtain ⟨t', l', hg⟩ := ownsL_arr rl id hi
              exact fz.own id hi t' l' L hg hL)
            split at h1
            · rename_i id b hb
              rw [Tr.setK_eq] at h1
              unfold storeB at hb
              split at hb
              · cases hb
              · rename_i hchk
                rw [Bool.and_eq_true] at hchk
                have hlen := Nat.eq_of_beq_eq_true hchk.1
                simp only [A.cells] at hlen hchk hb
                split at hb
                · rename_i id1 off1; exact (hnp id1 off1 rfl).elim
                · rename_i id1 e off1
                  split at hb
                  · rename_i t2 l2 hl2
                    split at hb
                    · rename_i cs' hcs'
                      split at hb
                      · rename_i x' hx'
                        simp only [Option.some.injEq, Prod.mk.injEq] at hb
                        obtain ⟨rfl, rfl⟩ := hb
                        have hl0 := fz.arr _ _ _ hl2
                        obtain ⟨t3, l3, L, g1, g2, ge, g3⟩ := evC_ok s hc
                        rw [hl0] at g1
                        injection g1 with g1
                        injection g1 with g4 g5
                        subst g4
                        obtain rfl := eq_of_heq g5
                        rcases s'.blk id1 _ hl2 with ⟨r1, _⟩ | ⟨L', vs, e', r1, r2, r4, r3, r5⟩
                        · rw [g2] at r1; cases r1
                        rw [g2] at r1
                        obtain rfl := Option.some.inj r1
                        have eg : getT D t2 l2 e = l2[e] := by unfold getT; rw [List.getD_eq_getElem?_getD, List.getElem?_eq_getElem ge]; rfl
                        rw [eg] at hcs'
                        have hlv : (a.eval x).cells.toList.length = (a.eval x).cells.size := Array.length_toList
                        have hput := (putS_eq hcs').2
                        rw [encL_len lw] at hput
                        have hvc : (a.eval x).cells.size = j.size := by have := rp.1; omega
                        have hmul : (e + 1) * size D t2 ≤ l2.length * size D t2 := Nat.mul_le_mul_right _ (by omega)
                        rw [Nat.add_mul, Nat.one_mul] at hmul
                        have hin : L.o + e * size D t2 + off1 + j.size ≤ vs.size := by have := rp.1; omega
                        have hrun := run_storeVar (P := P) hj (b := L.b) (o := L.o + e * size D t2 + off1) r2 hvc hin (rl.one hna)
                        obtain ⟨s2, g⟩ := s'.setblk (s'.key _ _ hl2) (b1 := .arr t2 (l2.set e x')) hl2 g2 r2 (vs' := putV vs (L.o + e * size D t2 + off1) (a.eval x).cells.toList) (putV_size (by omega))
                          ⟨fun cs e => (by cases e), fun t l e' => by
                            injection e' with e1 e2
                            subst e1
                            obtain rfl := eq_of_heq e2
                            exact ⟨_, rfl, by simp⟩⟩ (fun hR => .inr
                          ⟨L, putV vs (L.o + e * size D t2 + off1) (a.eval x).cells.toList, e', g2, setBlock_at (Array.getElem?_eq_some_iff.mp r2).1, (putV_size (by omega)).trans r4, by rw [List.length_set]; exact r3, fun i hi jj y hy => by
                            have hnF : ¬ F' L.b := (s'.sep id1 _ L hl2 g2).1
                            have upF : ∀ {c : C D.S} {v : Value}, RP D w F' c v → RP D (World.setBlock w L.b (.cells (putV vs (L.o + e * size D t2 + off1) (a.eval x).cells.toList) e' (0, 0))) F' c v :=
                              fun r => RP.mono D (fun b hb => ⟨hb, setBlock_ne (show b ≠ L.b from fun e => by rw [e] at hb; exact hnF hb)⟩) r
                            rw [List.length_set] at hi
                            have hjj : jj < size D t2 := by rw [← encL_len lw t2 ((l2.set e x')[i]'(by rw [List.length_set]; exact hi))]; exact (List.getElem?_eq_some_iff.mp hy).1
                            by_cases ei : i = e
                            · subst ei
                              rw [List.getElem_set_self] at hy
                              obtain ⟨le1, le2⟩ := decL_le lw hx'
                              have hcj := List.getElem?_eq_getElem (l := cs') (i := jj) (by omega)
                              by_cases hr : off1 ≤ jj ∧ jj < off1 + cs.length
                              · obtain ⟨q, rfl⟩ : ∃ q, jj = off1 + q := ⟨jj - off1, by omega⟩
                                have hq : q < (a.eval x).cells.toList.length := by have := rp.1; omega
                                refine ⟨(a.eval x).cells.toList[q], ?_, upF (le2 _ _ y hcj hy _ _ _ (rp.2 q _ _ ?_ (List.getElem?_eq_getElem hq)))⟩
                                · rw [show L.o + i * size D t2 + (off1 + q) = L.o + i * size D t2 + off1 + q by omega, putV_in (by omega) q hq]
                                  exact List.getElem?_eq_getElem hq
                                · rw [← putS_in hcs' q (by omega)]; exact hcj
                              · obtain ⟨v, hv, rv⟩ := r5 i ge jj _ (by rw [← putS_out hcs' jj (by omega)]; exact hcj)
                                refine ⟨v, ?_, upF (le2 _ _ y hcj hy _ _ _ rv)⟩
                                rw [putV_out (by omega) _ (by have := rp.1; omega)]
                                exact hv
                            · rw [List.getElem_set_ne (Ne.symm ei)] at hy
                              obtain ⟨v, hv, rv⟩ := r5 i hi jj y hy
                              refine ⟨v, ?_, upF rv⟩
                              rw [putV_out (by omega) _ ?_]
                              · exact hv
                              · rcases Nat.lt_or_ge i e with hlt | hge
                                · have : (i + 1) * size D t2 ≤ e * size D t2 := Nat.mul_le_mul_right _ (by omega)
                                  rw [Nat.add_mul, Nat.one_mul] at this
                                  left; omega
                                · have : (e + 1) * size D t2 ≤ i * size D t2 := Nat.mul_le_mul_right _ (by omega)
                                  rw [Nat.add_mul, Nat.one_mul] at this
                                  right; have := rp.1; omega⟩)
                        exact ⟨_, _, _, h1, β, F', undef, _, .inr ⟨by simp [execOp, ho, g3, Instr.storeAt, Instr.sureAddr, hrun], rfl⟩, s2, trivial⟩
                      · cases hb
                    · cases hb
                  · cases hb
                · cases hb
            · cases h1
      · cases h
    · cases h
  · cases h
end
end Go.Proofs.Ytalgppclaolonaa.Ev
