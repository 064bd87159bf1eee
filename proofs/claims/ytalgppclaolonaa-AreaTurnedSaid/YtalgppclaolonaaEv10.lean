/- Values without memory: parts of rows and texts; lengths; the greatest and the least; structs that are put together. -/
import Derived.Test.YtalgppclaolonaaEv9
namespace Go.Proofs.Ytalgppclaolonaa.Ev
open Go
set_option linter.unusedVariables false
set_option linter.unusedSimpArgs false
section
variable {D : Tys} {P : Program}
variable {R : Type} {H : HH D R} {K : Kx} {β : Nat → Option Loc} {F : Nat → Prop} {fr : Tr (V D.S)} {hp : Tr (B D.S)} {a : Act} {w : World} {o : Oper} {d : Nat} {k : KK D R} {r : R}
theorem evC_str (s : Sim K β F fr hp a w) {x : Operand} {z : ByteArray} (h : evC fr x = some (.str z)) : a.eval x = .string z := by
  have r : RP D w F (.str z) (a.eval x) := evC_ok s h
  generalize a.eval x = y at r
  cases r; rfl
/-- A bound, as it is told, and as it is in memory. -/
def BoundOk (a : Act) (x : Option Operand) (i : Option Int) : Prop := match x, i with
  | none, none => True
  | some x, some i => ∃ k1, a.eval x = .int k1 i
  | _, _ => False
theorem optI_ok (s : Sim K β F fr hp a w) {x : Option Operand} {i : Option Int} (h : optI D fr x = some i) : BoundOk a x i := by
  cases x with
  | none => simp only [optI, Option.some.injEq] at h; subst h; trivial
  | some x =>
    simp only [optI] at h
    split at h
    · rename_i k1 n hn
      obtain rfl := Option.some.inj h
      exact ⟨k1, evC_int s hn⟩
    · cases h
theorem run_bounds {b : Bool} {len cap : Nat} {lo hi : Option Operand} {l h : Option Int} (hl : BoundOk a lo l) (hh : BoundOk a hi h) (w : World) (h0 : 0 ≤ l.getD 0) (h1 : l.getD 0 ≤ h.getD (len : Int)) (h2 : h.getD (len : Int) ≤ (cap : Int)) :
    (Instr.sliceBounds b len cap (lo.map a.eval) (hi.map a.eval) none).run P w = .ok ((l.getD 0).toNat, (h.getD (len : Int)).toNat, cap) w := by
  cases lo with
  | none =>
    cases l with
    | some l => exact hl.elim
    | none =>
      cases hi with
      | none =>
        cases h with
        | some h => exact hh.elim
        | none => simp [Instr.sliceBounds]
      | some hi =>
        cases h with
        | none => exact hh.elim
        | some h =>
          obtain ⟨k2, e2⟩ := hh
          simp only [Option.getD_some, Option.getD_none] at h0 h1 h2
          have g1 : 0 ≤ h := by omega
          simp [Instr.sliceBounds, Instr.sliceBound, asIntOf, e2, g1, h2]
  | some lo =>
    cases l with
    | none => exact hl.elim
    | some l =>
      obtain ⟨k1, e1⟩ := hl
      cases hi with
      | none =>
        cases h with
        | some h => exact hh.elim
        | none =>
          simp only [Option.getD_some, Option.getD_none] at h0 h1 h2
          simp [Instr.sliceBounds, Instr.sliceBound, asIntOf, e1, h0, h1]
      | some hi =>
        cases h with
        | none => exact hh.elim
        | some h =>
          obtain ⟨k2, e2⟩ := hh
          simp only [Option.getD_some] at h0 h1 h2
          have g1 : 0 ≤ h := by omega
          have g2 : l ≤ ((h.toNat : Nat) : Int) := by omega
          simp [Instr.sliceBounds, Instr.sliceBound, asIntOf, e1, e2, g1, h2, h0, g2]
          omega
theorem sliceAt_slice {t e : TypeId} {j : TypeInfo} (hu : P.underlying t = some (.slice e)) (hj : P.info? e = some j) {A : Option Addr} {len cap : Nat} {lo hi : Option Operand} {l h : Option Int} (hl : BoundOk a lo l) (hh : BoundOk a hi h) (w : World)
    (h0 : 0 ≤ l.getD 0) (h1 : l.getD 0 ≤ h.getD (len : Int)) (h2 : h.getD (len : Int) ≤ (cap : Int)) :
    (Instr.sliceAt t (.slice A len cap) (lo.map a.eval) (hi.map a.eval) none).run P w =
      .ok (.slice (if cap = (l.getD 0).toNat then A else A.map (·.add ((l.getD 0).toNat * j.size))) ((h.getD (len : Int)).toNat - (l.getD 0).toNat) (cap - (l.getD 0).toNat)) w := by
  have hb := run_bounds (P := P) (b := true) hl hh w h0 h1 h2
  simp only [Instr.sliceAt, Sem.run_bind, run_underlying hu, Result.andThen_ok, Instr.slice, hb, run_sizeOf' hj]
  rfl
theorem sliceAt_str {t : TypeId} (hu : P.underlying t = some .string) {z : ByteArray} {lo hi : Option Operand} {l h : Option Int} (hl : BoundOk a lo l) (hh : BoundOk a hi h) (w : World)
    (h0 : 0 ≤ l.getD 0) (h1 : l.getD 0 ≤ h.getD (z.size : Int)) (h2 : h.getD (z.size : Int) ≤ (z.size : Int)) :
    (Instr.sliceAt t (.string z) (lo.map a.eval) (hi.map a.eval) none).run P w = .ok (.string (z.extract (l.getD 0).toNat (h.getD (z.size : Int)).toNat)) w := by
  have hb := run_bounds (P := P) (b := false) hl hh w h0 h1 h2
  simp [Instr.sliceAt, run_underlying hu, Instr.slice, hb]
/-- What the four ways of a part come to. -/
theorem ways {R : Type} {len : Int} {lo hi : Option Int} {k0 : Option R} {k1 k2 : Int → Option R} {k3 : Int → Int → Option R} {r : R} (hlen : 0 ≤ len)
    (h : (match lo, hi with
      | none, none => k0
      | none, some h => bK (decide (0 ≤ h)) (bK (decide (h ≤ len)) (k1 h))
      | some l, none => bK (decide (0 ≤ l)) (bK (decide (l ≤ len)) (k2 l))
      | some l, some h => bK (decide (0 ≤ h)) (bK (decide (h ≤ len)) (bK (decide (0 ≤ l)) (bK (decide (l ≤ h)) (k3 l h))))) = some r) :
    0 ≤ lo.getD 0 ∧ lo.getD 0 ≤ hi.getD len ∧ hi.getD len ≤ len ∧ (match lo, hi with | none, none => k0 | none, some h => k1 h | some l, none => k2 l | some l, some h => k3 l h) = some r := by
  cases lo with
  | none =>
    cases hi with
    | none => exact ⟨Int.le_refl _, hlen, Int.le_refl _, h⟩
    | some x =>
      obtain ⟨h1, h⟩ := bK_some h
      obtain ⟨h2, h⟩ := bK_some h
      exact ⟨Int.le_refl _, of_decide_eq_true h1, of_decide_eq_true h2, h⟩
  | some l =>
    cases hi with
    | none =>
      obtain ⟨h1, h⟩ := bK_some h
      obtain ⟨h2, h⟩ := bK_some h
      exact ⟨of_decide_eq_true h1, of_decide_eq_true h2, Int.le_refl _, h⟩
    | some x =>
      obtain ⟨h1, h⟩ := bK_some h
      obtain ⟨h2, h⟩ := bK_some h
      obtain ⟨h3, h⟩ := bK_some h
      obtain ⟨h4, h⟩ := bK_some h
      exact ⟨of_decide_eq_true h3, of_decide_eq_true h4, of_decide_eq_true h2, h⟩
/-- A part of a row that is told by value. -/
theorem lst_part {w F} {t : Ty} {l : List (T D.S t)} {b o cap : Nat} {f : Nat → Nat → Value} (hb : F b) (hc : l.length ≤ cap) (hf : ∀ i j, i < l.length → j < size D t → w.cell? ⟨b, o + i * size D t + j, none⟩ = some (f i j))
    (hr : ∀ i (hi : i < l.length) j x, (encL D t (l[i]'hi))[j]? = some x → RP D w F x (f i j)) {lo n : Nat} (hn : lo + n ≤ l.length) {l' : List (T D.S t)} (hl' : l' = (l.drop lo).take n) :
    RP D w F (.lst t l') (.slice (if cap = lo then some ⟨b, o, none⟩ else some ⟨b, o + lo * size D t, none⟩) n (cap - lo)) := by
  subst hl'
  have hlen : ((l.drop lo).take n).length = n := by rw [List.length_take, List.length_drop]; omega
  by_cases e : cap = lo
  · rw [if_pos e]
    obtain rfl : n = 0 := by omega
    rw [List.take_zero]
    exact .lst0 _ _ _
  · rw [if_neg e]
    have key := RP.lst (D := D) (w := w) (F := F) t ((l.drop lo).take n) b (o + lo * size D t) (cap - lo) (fun i j => f (lo + i) j) hb (by rw [hlen]; omega)
      (fun i j hi hj => by
        rw [hlen] at hi
        have := hf (lo + i) j (by omega) hj
        rw [← this, show o + lo * size D t + i * size D t + j = o + (lo + i) * size D t + j by rw [Nat.add_mul]; omega])
      (fun i hi j x hx => by
        have hi' : i < n := by rw [hlen] at hi; exact hi
        have e : ((l.drop lo).take n)[i]'hi = l[lo + i]'(by omega) := by rw [List.getElem_take, List.getElem_drop]
        rw [e] at hx
        exact hr (lo + i) (by omega) j x hx)
    rw [hlen] at key
    exact key
theorem op_slice (lw : Lawful D P) (s : Sim K β F fr hp a w) {t : TypeId} {x : Operand} {lo hi : Option Operand} (ho : o.op = .slice t x lo hi none) (h : opK D H (.slice t x lo hi none) d fr hp k = some r) : Post D P K o a w k r := by
  simp only [opK] at h
  split at h
  case h_2 => cases h
  rename_i dd q1 q2 q3 q4 q5 q50 c l1 h1 hti hc hl hh
  have bl := optI_ok s hl
  have bh := optI_ok s hh
  have hd := (lk_ti lw hti).desc
  clear hl hh
  unfold sliceK at h
  split at h
  · rename_i z
    have hu : P.underlying t = some .string := hd
    have ex := evC_str s hc
    obtain ⟨g0, g1, g2, h⟩ := ways (by omega) h
    have hr := sliceAt_str (P := P) hu bl bh w g0 g1 g2
    refine Post.pure s (v := cV (.str (z.extract (l1.getD 0).toNat (h1.getD (z.size : Int)).toNat))) (cv := .string (z.extract (l1.getD 0).toNat (h1.getD (z.size : Int)).toNat)) ?_ (by simp [execOp, ho, ex, hr]) (.str _)
    cases l1 <;> cases h1 <;> simp only [Option.getD_some, Option.getD_none, Int.toNat_natCast, Int.toNat_zero] <;> first | exact h | skip
    rw [show z.extract 0 z.size = z from ByteArray.extract_zero_size]
    exact h
  · rename_i e t2 l2
    split at h
    · cases h
    rename_i hsz
    obtain ⟨j, hj, hs⟩ := szOk_eq lw hsz
    have hu : P.underlying t = some (.slice e) := hd
    obtain ⟨g0, g1, g2, h⟩ := ways (by omega) h
    have rc : RP D w F (.lst t2 l2) (a.eval x) := evC_ok s hc
    have key : ∀ l' : List (T D.S t2), l' = (l2.drop (l1.getD 0).toNat).take ((h1.getD (l2.length : Int)).toNat - (l1.getD 0).toNat) → k (cV (.lst t2 l')) fr hp = some r → Post D P K o a w k r := by
      intro l' hl' hk
      generalize hz : a.eval x = z at rc
      cases rc with
      | lst0 _ A cap =>
        have hr := sliceAt_slice (P := P) (A := A) (len := 0) (cap := cap) hu hj bl bh w g0 g1 (by simp at g2 ⊢; omega)
        refine Post.pure s hk (by simp only [execOp, ho, hz]; simp [hr] <;> rfl) ?_
        have e0 : l' = [] := by rw [hl']; simp
        have g1' : l1.getD 0 ≤ h1.getD 0 := g1
        have g2' : h1.getD 0 ≤ 0 := g2
        rw [e0, show ((h1.getD 0).toNat - (l1.getD 0).toNat) = 0 by omega]
        exact .lst0 _ _ _
      | lst _ _ b o2 cap f2 hb hcap hf2 hr2 =>
        have hr := sliceAt_slice (P := P) (A := some ⟨b, o2, none⟩) (len := l2.length) (cap := cap) hu hj bl bh w g0 g1 (by omega)
        refine Post.pure s hk (by simp only [execOp, ho, hz]; simp [hr] <;> rfl) ?_
        have := lst_part (lo := (l1.getD 0).toNat) (n := (h1.getD (l2.length : Int)).toNat - (l1.getD 0).toNat) hb hcap hf2 hr2 (by omega) hl'
        rw [hs]
        simp only [Option.map_some, Addr.add_lit]
        exact this
    cases l1 <;> cases h1 <;> simp only [Option.getD_some, Option.getD_none, Int.toNat_natCast, Int.toNat_zero, Nat.sub_zero, List.drop_zero, List.take_length] at key
    · exact key _ rfl h
    · exact key _ rfl h
    · refine key _ ?_ h
      rw [List.take_of_length_le (by rw [List.length_drop]; omega)]
    · exact key _ rfl h
  · rename_i e id
    split at h
    · rename_i t2 l2 hl2
      split at h
      · cases h
      rename_i hsz
      obtain ⟨j, hj, hs⟩ := szOk_eq lw hsz
      have hu : P.underlying t = some (.slice e) := hd
      obtain ⟨g0, g1, g2, h⟩ := ways (by omega) h
      obtain ⟨t3, l3, q6, g⟩ := evC_ok s hc
      rw [hl2] at q6
      injection q6 with q6
      injection q6 with q7 q8
      subst q7
      obtain rfl := eq_of_heq q8
      rcases g with ⟨b0, rfl, A, ex⟩ | ⟨L, cap, b1, r1, r2, ex⟩
      · have hr := sliceAt_slice (P := P) (A := A) (len := 0) (cap := 0) hu hj bl bh w g0 g1 g2
        simp only [List.length_nil] at g0 g1 g2
        have e1 : (l1.getD 0).toNat = 0 := by omega
        have e2 : (h1.getD ((0 : Nat) : Int)).toNat = 0 := by omega
        rw [e1, e2, if_pos rfl] at hr
        have ro : ∀ l' n, l' + n = 0 → RV D w F hp.get β (cV (.part id l' n)) (.slice A 0 0) := fun l' n e => ⟨t2, [], hl2, by simp; omega, .inl ⟨b0, A, rfl⟩⟩
        cases l1 <;> cases h1
        · exact Post.pure s h (by simp only [execOp, ho, ex]; simp [hr] <;> rfl) ⟨t2, [], hl2, .inl ⟨b0, rfl, A, rfl⟩⟩
        · exact Post.pure s h (by simp only [execOp, ho, ex]; simp [hr] <;> rfl) (ro _ _ (by simp at e2 ⊢; omega))
        · exact Post.pure s h (by simp only [execOp, ho, ex]; simp [hr] <;> rfl) (ro _ _ (by simp at e1 ⊢; omega))
        · exact Post.pure s h (by simp only [execOp, ho, ex]; simp [hr] <;> rfl) (ro _ _ (by simp at e1 e2 ⊢; omega))
      · have hr := sliceAt_slice (P := P) (A := some ⟨L.b, L.o, none⟩) (len := l2.length) (cap := cap) hu hj bl bh w g0 g1 (by omega)
        have ro : ∀ l' n, l' + n ≤ l2.length → RV D w F hp.get β (cV (.part id l' n)) (.slice (if cap = l' then some ⟨L.b, L.o, none⟩ else Option.map (fun q : Addr => q.add (l' * j.size)) (some ⟨L.b, L.o, none⟩)) n (cap - l')) := fun l' n hn => by
          refine ⟨t2, l2, hl2, hn, .inr ⟨L, cap - l', b1, by omega, ?_, ?_⟩⟩
          · rw [show l' + (cap - l') = cap by omega]; exact r2
          · by_cases e : cap = l'
            · rw [if_pos e]
              exact .inr ⟨by omega, some ⟨L.b, L.o, none⟩, by rw [show n = 0 by omega, show cap - l' = 0 by omega]⟩
            · rw [if_neg e, hs]
              exact .inl (by simp only [Option.map_some, Addr.add_lit])
        cases l1 <;> cases h1
        · refine Post.pure s h (cv := .slice (some ⟨L.b, L.o, none⟩) l2.length cap) ?_ ⟨t2, l2, hl2, .inr ⟨L, cap, b1, r1, r2, rfl⟩⟩
          simp only [execOp, ho, ex]
          simp [hr, Addr.add_lit]
        · exact Post.pure s h (by simp only [execOp, ho, ex]; simp [hr] <;> rfl) (by simpa using ro 0 _ (by simp at g2 ⊢; omega))
        · exact Post.pure s h (by simp only [execOp, ho, ex]; simp [hr] <;> rfl) (by simpa using ro _ _ (by simp at g1 ⊢; omega))
        · exact Post.pure s h (by simp only [execOp, ho, ex]; simp [hr] <;> rfl) (by simpa using ro _ _ (by simp at g1 g2 ⊢; omega))
    · cases h
  · rename_i e id off n
    split at h
    · rename_i t2 l2 hl2
      split at h
      · cases h
      rename_i hsz
      obtain ⟨j, hj, hs⟩ := szOk_eq lw hsz
      have hu : P.underlying t = some (.slice e) := hd
      obtain ⟨g0, g1, g2, h⟩ := ways (by omega) h
      obtain ⟨t3, l3, q6, g3, g⟩ := evC_ok s hc
      rw [hl2] at q6
      injection q6 with q6
      injection q6 with q7 q8
      subst q7
      obtain rfl := eq_of_heq q8
      -- an empty part without a place of its own
      have zero : ∀ A, a.eval x = .slice A 0 0 → n = 0 → (∀ l' n', l' + n' = 0 → RV D w F hp.get β (cV (.part id (off + l') n')) (.slice A 0 0)) → Post D P K o a w k r := by
        intro A ex hn ro
        subst hn
        have hr := sliceAt_slice (P := P) (A := A) (len := 0) (cap := 0) hu hj bl bh w g0 g1 g2
        have e1 : (l1.getD 0).toNat = 0 := by omega
        have e2 : (h1.getD ((0 : Nat) : Int)).toNat = 0 := by omega
        rw [e1, e2, if_pos rfl] at hr
        cases l1 <;> cases h1
        · exact Post.pure s h (by simp only [execOp, ho, ex]; simp [hr] <;> rfl) (by simpa using ro 0 0 rfl)
        · exact Post.pure s h (by simp only [execOp, ho, ex]; simp [hr] <;> rfl) (by simpa using ro 0 _ (by simp at e2 ⊢; omega))
        · exact Post.pure s h (by simp only [execOp, ho, ex]; simp [hr] <;> rfl) (by simpa using ro _ _ (by simp at e1 ⊢; omega))
        · exact Post.pure s h (by simp only [execOp, ho, ex]; simp [hr] <;> rfl) (by simpa using ro _ _ (by simp at e1 e2 ⊢; omega))
      rcases g with ⟨b0, A, ex⟩ | ⟨L, cap, b1, r1, r2, ex | ⟨rfl, A, ex⟩⟩
      · have hl0 : l2 = [] := by
          rcases s.blk id _ hl2 with ⟨_, e0⟩ | ⟨L', _, _, q, _⟩
          · exact e0
          · rw [b0] at q; cases q
        subst hl0
        simp at g3
        exact zero A ex (by omega) fun l' n' e => ⟨t2, [], hl2, by simp; omega, .inl ⟨b0, A, rfl⟩⟩
      · have hr := sliceAt_slice (P := P) (A := some ⟨L.b, L.o + off * size D t2, none⟩) (len := n) (cap := cap) hu hj bl bh w g0 g1 (by omega)
        have ro : ∀ l' n', l' + n' ≤ n → RV D w F hp.get β (cV (.part id (off + l') n')) (.slice (if cap = l' then some ⟨L.b, L.o + off * size D t2, none⟩ else Option.map (fun q : Addr => q.add (l' * j.size)) (some ⟨L.b, L.o + off * size D t2, none⟩)) n' (cap - l')) := fun l' n' hn => by
          refine ⟨t2, l2, hl2, by omega, .inr ⟨L, cap - l', b1, by omega, ?_, ?_⟩⟩
          · rw [show off + l' + (cap - l') = off + cap by omega]; exact r2
          · by_cases e : cap = l'
            · rw [if_pos e]
              exact .inr ⟨by omega, _, by rw [show n' = 0 by omega, show cap - l' = 0 by omega]⟩
            · rw [if_neg e, hs]
              exact .inl (by simp only [Option.map_some, Addr.add_lit]; rw [Nat.add_mul, Nat.add_assoc])
        cases l1 <;> cases h1
        · refine Post.pure s h (cv := .slice (some ⟨L.b, L.o + off * size D t2, none⟩) n cap) ?_ ⟨t2, l2, hl2, g3, .inr ⟨L, cap, b1, r1, r2, .inl rfl⟩⟩
          simp only [execOp, ho, ex]
          simp [hr, Addr.add_lit]
        · exact Post.pure s h (by simp only [execOp, ho, ex]; simp [hr] <;> rfl) (by simpa using ro 0 _ (by simp at g2 ⊢; omega))
        · exact Post.pure s h (by simp only [execOp, ho, ex]; simp [hr] <;> rfl) (by simpa using ro _ _ (by simp at g1 ⊢; omega))
        · exact Post.pure s h (by simp only [execOp, ho, ex]; simp [hr] <;> rfl) (by simpa using ro _ _ (by simp at g1 g2 ⊢; omega))
      · obtain rfl : n = 0 := by omega
        exact zero A ex rfl fun l' n' e => by
          obtain rfl : l' = 0 := by omega
          obtain rfl : n' = 0 := by omega
          exact ⟨t2, l2, hl2, g3, .inr ⟨L, 0, b1, Nat.le_refl _, r2, .inr ⟨rfl, A, rfl⟩⟩⟩
    · cases h
  · cases h
end
end Go.Proofs.Ytalgppclaolonaa.Ev
