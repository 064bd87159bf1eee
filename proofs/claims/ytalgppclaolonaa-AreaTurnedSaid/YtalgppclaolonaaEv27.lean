/- Values without memory: what an operation looks at: slices, rows that are made, stores, calls. -/
import Derived.Test.YtalgppclaolonaaEv26
namespace Go.Proofs.Ytalgppclaolonaa.Ev
open Go
set_option linter.unusedVariables false
set_option linter.unusedSimpArgs false
section
variable {D : Tys} {R : Type}
variable {H : HH D R} {op : Op} {d : Nat} {fr : Tr (V D.S)} {hp : Tr (B D.S)} {k : KK D R} {r : R}
theorem sliceK_loc {dd : TD} {c : C D.S} {lo hi : Option Int} (h : sliceK D dd c lo hi fr hp k = some r) :
    ∃ v, k v fr hp = some r ∧ ∀ fr2 hp2, AgH (idsC c) hp hp2 → ∀ k2 : KK D R, sliceK D dd c lo hi fr2 hp2 k2 = k2 v fr2 hp2 := by
  have ea : ∀ {hp2 : Tr (B D.S)}, AgH (idsC c) hp hp2 → ∀ i ∈ idsC c, hp2.get i = hp.get i := fun h2 => h2
  unfold sliceK at h
  split at h
  · repeat' split at h
    all_goals first
      | (cases h; done)
      | exact ⟨_, h, fun fr2 hp2 h2 k2 => by simp only [sliceK, *]⟩
      | (obtain ⟨a1, a2, h⟩ := bK2_nat h; exact ⟨_, h, fun fr2 hp2 h2 k2 => by simp only [sliceK, bK, *]⟩)
      | (obtain ⟨a1, a2, a3, a4, h⟩ := bK4_nat h; exact ⟨_, h, fun fr2 hp2 h2 k2 => by simp only [sliceK, bK, *]⟩)
  · repeat' split at h
    all_goals first
      | (cases h; done)
      | exact ⟨_, h, fun fr2 hp2 h2 k2 => by simp only [sliceK, *]⟩
      | (obtain ⟨a1, a2, h⟩ := bK2_nat h; exact ⟨_, h, fun fr2 hp2 h2 k2 => by simp only [sliceK, bK, *]⟩)
      | (obtain ⟨a1, a2, a3, a4, h⟩ := bK4_nat h; exact ⟨_, h, fun fr2 hp2 h2 k2 => by simp only [sliceK, bK, *]⟩)
  · split at h
    · rename_i hg
      repeat' split at h
      all_goals first
        | (cases h; done)
        | exact ⟨_, h, fun fr2 hp2 h2 k2 => by have e := ea h2 _ List.mem_cons_self; simp only [sliceK]; rw [e]; simp only [*]⟩
        | (obtain ⟨a1, a2, h⟩ := bK2_nat h; exact ⟨_, h, fun fr2 hp2 h2 k2 => by have e := ea h2 _ List.mem_cons_self; simp only [sliceK]; rw [e]; simp only [bK, *]⟩)
        | (obtain ⟨a1, a2, a3, a4, h⟩ := bK4_nat h; exact ⟨_, h, fun fr2 hp2 h2 k2 => by have e := ea h2 _ List.mem_cons_self; simp only [sliceK]; rw [e]; simp only [bK, *]⟩)
    · cases h
  · split at h
    · rename_i hg
      repeat' split at h
      all_goals first
        | (cases h; done)
        | exact ⟨_, h, fun fr2 hp2 h2 k2 => by have e := ea h2 _ List.mem_cons_self; simp only [sliceK]; rw [e]; simp only [*]⟩
        | (obtain ⟨a1, a2, h⟩ := bK2_nat h; exact ⟨_, h, fun fr2 hp2 h2 k2 => by have e := ea h2 _ List.mem_cons_self; simp only [sliceK]; rw [e]; simp only [bK, *]⟩)
        | (obtain ⟨a1, a2, a3, a4, h⟩ := bK4_nat h; exact ⟨_, h, fun fr2 hp2 h2 k2 => by have e := ea h2 _ List.mem_cons_self; simp only [sliceK]; rw [e]; simp only [bK, *]⟩)
    · cases h
  · cases h
theorem loc_slice {t : TypeId} {x : Operand} {lo hi mx : Option Operand} (h : opK D H (.slice t x lo hi mx) d fr hp k = some r) : Loc3 D H (.slice t x lo hi mx) d fr hp k r := by
  cases mx with
  | some m => simp [opK] at h
  | none =>
    have hm : ∀ y, lo = some y ∨ hi = some y → y ∈ (Op.slice t x lo hi none).operands.toList := fun y hy => by
      simp only [Op.operands]
      rcases hy with rfl | rfl <;> simp
    have e : ∀ fr2, AgF (slotsL (Op.slice t x lo hi none).operands.toList) fr fr2 → evC fr2 x = evC fr x ∧ optI D fr2 lo = optI D fr lo ∧ optI D fr2 hi = optI D fr hi := fun fr2 h1 =>
      ⟨evC_ag h1 (by simp [Op.operands]), optI_ag h1 fun y hy => hm y (.inl hy), optI_ag h1 fun y hy => hm y (.inr hy)⟩
    simp only [opK] at h
    split at h
    · rename_i hti hx hlo hhi
      obtain ⟨v, h3, h4⟩ := sliceK_loc h
      exact .quiet h3 rfl fun fr2 hp2 h1 h2 k2 => by
        simp only [opK]
        rw [(e fr2 h1).1, (e fr2 h1).2.1, (e fr2 h1).2.2, hti, hx, hlo, hhi]
        exact h4 fr2 hp2 (agC h2 (by simp [Op.operands]) hx) k2
    · cases h
/-- A block is made. -/
theorem newK_loc {b : B D.S} {c : C D.S} (h : newK D d b c fr hp k = some r) : hp.get d = none ∧ k (cV c) fr (hp.set depth d (some b)) = some r := by
  unfold newK at h
  split at h
  · cases h
  · rename_i hg
    rw [Tr.setK_eq] at h
    exact ⟨hg, h⟩
theorem newK_at {b : B D.S} {c : C D.S} {fr2 : Tr (V D.S)} {hp2 : Tr (B D.S)} (hg : hp2.get d = none) (k2 : KK D R) : newK D d b c fr2 hp2 k2 = k2 (cV c) fr2 (hp2.set depth d (some b)) := by
  unfold newK; rw [hg]; simp only; rw [Tr.setK_eq]
theorem Loc3.new {b : B D.S} {c : C D.S} (hn : newOp op = true) (h : newK D d b c fr hp k = some r) (he : ∀ fr2 hp2, AgF (slotsL op.operands.toList) fr fr2 → AgH (tch op fr hp) hp hp2 → ∀ k2, opK D H op d fr2 hp2 k2 = newK D d b c fr2 hp2 k2) : Loc3 D H op d fr hp k r := by
  obtain ⟨hg, h⟩ := newK_loc h
  exact ⟨cV c, ⟨none, [(d, b)]⟩, h, fun i hi => by simp [Dl.aff] at hi; exact .inl ⟨hn, hi⟩, fun h => by simp [effO, hn] at h, fun _ => rfl, fun _ => hg, fun fr2 hp2 h1 h2 h3 k2 => (he fr2 hp2 h1 h2 k2).trans (newK_at (h3 hn) k2)⟩
theorem loc_alloc {t : TypeId} (h : opK D H (.alloc t) d fr hp k = some r) : Loc3 D H (.alloc t) d fr hp k r := by
  simp only [opK] at h
  split at h
  · rename_i ti hti
    exact .new rfl h fun fr2 hp2 h1 h2 k2 => by simp only [opK]; rw [hti]
  · cases h
theorem loc_box {t : TypeId} {x : Operand} (h : opK D H (.box t x) d fr hp k = some r) : Loc3 D H (.box t x) d fr hp k r := by
  have e : ∀ fr2, AgF (slotsL (Op.box t x).operands.toList) fr fr2 → evA fr2 x = evA fr x := fun fr2 h1 => evA_ag h1 (by simp [Op.operands])
  simp only [opK] at h
  repeat' split at h
  all_goals first
    | (cases h; done)
    | exact .new rfl h fun fr2 hp2 h1 h2 k2 => by simp only [opK]; rw [e fr2 h1]; simp only [*]
theorem loc_makeSlice {t : TypeId} {x y : Operand} (h : opK D H (.makeSlice t x y) d fr hp k = some r) : Loc3 D H (.makeSlice t x y) d fr hp k r := by
  have e : ∀ fr2, AgF (slotsL (Op.makeSlice t x y).operands.toList) fr fr2 → evC fr2 x = evC fr x ∧ evC fr2 y = evC fr y := fun fr2 h1 => ⟨evC_ag h1 (by simp [Op.operands]), evC_ag h1 (by simp [Op.operands])⟩
  simp only [opK] at h
  repeat' split at h
  all_goals first
    | (cases h; done)
    | (obtain ⟨a1, a2, h⟩ := bK2_nat h; obtain ⟨a3, h⟩ := bK_nat h; exact .new rfl h fun fr2 hp2 h1 h2 k2 => by simp only [opK]; rw [(e fr2 h1).1, (e fr2 h1).2]; simp only [bK, *])
theorem idsP_tch {ps : List (Nat × Operand)} : ∀ {l : List (Nat × A D.S)}, evParts D fr ps = some l → (∀ x ∈ ps, x.2 ∈ op.operands.toList) → ∀ i ∈ idsP l, i ∈ tch op fr hp := by
  induction ps with
  | nil => intro l h _ i hi; simp only [evParts, Option.some.injEq] at h; subst h; simp [idsP] at hi
  | cons p ps ih =>
    obtain ⟨j, x⟩ := p
    intro l h hm i hi
    simp only [evParts] at h
    split at h
    · rename_i a ha
      split at h
      · rename_i l' _ hl
        obtain rfl := Option.some.inj h
        simp only [idsP, appN_eq, List.mem_append] at hi
        rcases hi with hi | hi
        · exact tch_op (hm (j, x) List.mem_cons_self) (evA_ev ha) i hi
        · exact ih hl (fun y hy => hm y (List.mem_cons_of_mem _ hy)) i hi
      · cases h
    · cases h
theorem loc_buildSlice {t : TypeId} {n : Nat} {ps : Array (Nat × Operand)} (hok : drawOk D fr hp (.buildSlice t n ps) = true) (h : opK D H (.buildSlice t n ps) d fr hp k = some r) : Loc3 D H (.buildSlice t n ps) d fr hp k r := by
  have hm : ∀ x ∈ ps.toList, x.2 ∈ (Op.buildSlice t n ps).operands.toList := fun x hx => by
    simp only [Op.operands]; exact List.mem_map.mpr ⟨x, hx, rfl⟩
  have e : ∀ fr2, AgF (slotsL (Op.buildSlice t n ps).operands.toList) fr fr2 → evParts D fr2 ps.toList = evParts D fr ps.toList := fun fr2 h1 => evParts_ag h1 hm
  simp only [opK] at h
  split at h
  · rename_i hti
    split at h
    · rename_i hte
      split at h
      · cases h
      · rename_i l hl
        simp only [drawOk, hl, List.isEmpty_iff] at hok
        split at h
        · cases h
        · rename_i ho
          split at h
          · cases h
          · rename_i hb
            split at h
            · cases h
            · rename_i q hq
              rw [hok] at h
              simp only [frzsK] at h
              exact .new rfl h fun fr2 hp2 h1 h2 k2 => by
                simp only [opK]
                rw [e fr2 h1, hti]
                simp only
                rw [hte]
                simp only
                rw [hl]
                simp only
                rw [ho]
                simp only
                rw [hb]
                simp only
                rw [decParts_ag (h2.mono fun i hi => idsP_tch hl hm i hi), hq]
                simp only
                rw [hok]
                rfl
    · cases h
  · cases h
end
end Go.Proofs.Ytalgppclaolonaa.Ev
