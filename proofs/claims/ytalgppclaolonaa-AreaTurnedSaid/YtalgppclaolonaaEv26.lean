/- Values without memory: an operation gives the same wherever what it looks at is the same. -/
import Derived.Test.YtalgppclaolonaaEv25
namespace Go.Proofs.Ytalgppclaolonaa.Ev
open Go
set_option linter.unusedVariables false
set_option linter.unusedSimpArgs false
section
variable {D : Tys} {R : Type}
/-- What an operation does to a state but for its result: a block is gone; blocks are set. -/
structure Dl (D : Tys) where
  ks : Option Nat
  us : List (Nat × B D.S)
def Dl.F (δ : Dl D) (fr : Tr (V D.S)) : Tr (V D.S) := match δ.ks with
  | none => fr
  | some id => fr.map (mapV (killF id))
def setAll : List (Nat × B D.S) → Tr (B D.S) → Tr (B D.S)
  | [], hp => hp
  | (i, b) :: l, hp => setAll l (hp.set depth i (some b))
def Dl.H (δ : Dl D) (hp : Tr (B D.S)) : Tr (B D.S) := setAll δ.us (match δ.ks with
  | none => hp
  | some id => (hp.set depth id none).map (mapB (killF id)))
/-- The blocks that are turned. -/
def Dl.aff (δ : Dl D) : List Nat := δ.ks.toList ++ δ.us.map (·.1)
theorem tchO_mem {fr : Tr (V D.S)} {hp : Tr (B D.S)} {x : Operand} {v : V D.S} (hv : ev fr x = some v) : ∀ {l : List Operand}, x ∈ l → ∀ i ∈ idsV v, i ∈ tchO fr hp l
  | y :: l, h, i, hi => by
    simp only [tchO]
    rcases List.mem_cons.mp h with rfl | h
    · rw [hv]; simp only [appN_eq, List.mem_append]; exact .inl hi
    · have := tchO_mem (hp := hp) hv h i hi
      split
      · rw [appN_eq]; exact List.mem_append_right _ this
      · exact this
def Loc3 (D : Tys) {R : Type} (H : HH D R) (op : Op) (d : Nat) (fr : Tr (V D.S)) (hp : Tr (B D.S)) (k : KK D R) (r : R) : Prop :=
  ∃ v δ, k v (Dl.F δ fr) (Dl.H δ hp) = some r ∧ (∀ i ∈ Dl.aff δ, (newOp op = true ∧ i = d) ∨ i ∈ tch op fr hp) ∧ (effO D fr hp op = false → δ.ks = none ∧ δ.us = []) ∧ (killO op = false → δ.ks = none) ∧ (newOp op = true → hp.get d = none) ∧
    ∀ fr2 hp2, AgF (slotsL op.operands.toList) fr fr2 → AgH (tch op fr hp) hp hp2 → (newOp op = true → hp2.get d = none) → ∀ k2, opK D H op d fr2 hp2 k2 = k2 v (Dl.F δ fr2) (Dl.H δ hp2)
def δ0 : Dl D := ⟨none, []⟩
variable {H : HH D R} {op : Op} {d : Nat} {fr : Tr (V D.S)} {hp : Tr (B D.S)} {k : KK D R} {r : R}
theorem tch_op {x : Operand} {v : V D.S} (hx : x ∈ op.operands.toList) (hv : ev fr x = some v) : ∀ i ∈ idsV v, i ∈ tch op fr hp := fun i hi => by
  unfold tch; rw [appN_eq]; exact List.mem_append_left _ (tchO_mem hv hx i hi)
theorem evA_ev {fr : Tr (V D.S)} {x : Operand} {a : A D.S} (h : evA fr x = some a) : ev fr x = some (.a a) := by
  unfold evA at h
  split at h
  · rename_i h'; rw [h', Option.some.inj h]
  · cases h
theorem evC_ev {fr : Tr (V D.S)} {x : Operand} {c : C D.S} (h : evC fr x = some c) : ev fr x = some (.a (.c c)) := by
  unfold evC at h
  split at h
  · rename_i h'; rw [h', Option.some.inj h]
  · cases h
theorem agC {hp2 : Tr (B D.S)} {x : Operand} {c : C D.S} (h : AgH (tch op fr hp) hp hp2) (hx : x ∈ op.operands.toList) (hc : evC fr x = some c) : AgH (idsC c) hp hp2 :=
  h.mono fun i hi => tch_op hx (evC_ev hc) i (by simpa [idsV, A.cells, idsL, appN_eq] using hi)
theorem agA {hp2 : Tr (B D.S)} {x : Operand} {a : A D.S} (h : AgH (tch op fr hp) hp hp2) (hx : x ∈ op.operands.toList) (hc : evA fr x = some a) : AgH (idsL a.cells) hp hp2 :=
  h.mono fun i hi => tch_op hx (evA_ev hc) i hi
/-- Nothing is turned. -/
theorem Loc3.quiet {v : V D.S} (h : k v fr hp = some r) (hn : newOp op = false) (he : ∀ fr2 hp2, AgF (slotsL op.operands.toList) fr fr2 → AgH (tch op fr hp) hp hp2 → ∀ k2, opK D H op d fr2 hp2 k2 = k2 v fr2 hp2) : Loc3 D H op d fr hp k r :=
  ⟨v, δ0, h, fun i hi => by simp [Dl.aff, δ0] at hi, fun _ => ⟨rfl, rfl⟩, fun _ => rfl, fun h => by simp [hn] at h, fun fr2 hp2 h1 h2 _ k2 => he fr2 hp2 h1 h2 k2⟩
theorem loc_move {x : Operand} (h : opK D H (.move x) d fr hp k = some r) : Loc3 D H (.move x) d fr hp k r := by
  simp only [opK, arrK_eq] at h
  split at h
  · rename_i v hv
    exact .quiet h rfl fun fr2 hp2 h1 h2 k2 => by simp only [opK, arrK_eq]; rw [ev_ag h1 (by simp [Op.operands]), hv]
  · cases h
theorem loc_assign {x : Operand} (h : opK D H (.assign x) d fr hp k = some r) : Loc3 D H (.assign x) d fr hp k r := by
  simp only [opK, arrK_eq] at h
  split at h
  · rename_i v hv
    exact .quiet h rfl fun fr2 hp2 h1 h2 k2 => by simp only [opK, arrK_eq]; rw [ev_ag h1 (by simp [Op.operands]), hv]
  · cases h
theorem loc_pick {c x y : Operand} (h : opK D H (.pick c x y) d fr hp k = some r) : Loc3 D H (.pick c x y) d fr hp k r := by
  simp only [opK, arrK_eq] at h
  split at h
  · rename_i b hb
    rcases bKK_nat h with ⟨rfl, h'⟩ | ⟨rfl, h'⟩
    · clear h
      split at h'
      · rename_i v hv
        exact .quiet h' rfl fun fr2 hp2 h1 h2 k2 => by simp only [opK, arrK_eq]; rw [evC_ag h1 (by simp [Op.operands]), hb, ev_ag (x := x) h1 (by simp [Op.operands]), hv]; rfl
      · cases h'
    · clear h
      split at h'
      · rename_i v hv
        exact .quiet h' rfl fun fr2 hp2 h1 h2 k2 => by simp only [opK, arrK_eq]; rw [evC_ag h1 (by simp [Op.operands]), hb, ev_ag (x := y) h1 (by simp [Op.operands]), hv]; rfl
      · cases h'
  · cases h
theorem loc_load {t : TypeId} {p : Operand} (h : opK D H (.load t p) d fr hp k = some r) : Loc3 D H (.load t p) d fr hp k r := by
  simp only [opK, arrK_eq] at h
  split at h
  · rename_i ti hti
    split at h
    · rename_i c hc
      split at h
      · rename_i x hx
        exact .quiet h rfl fun fr2 hp2 h1 h2 k2 => by
          simp only [opK, arrK_eq]
          rw [hti, evC_ag h1 (by simp [Op.operands]), hc]
          simp only
          rw [loadA_ag (agC h2 (by simp [Op.operands]) hc), hx]
      · cases h
    · cases h
  · cases h
theorem loc_unOp {u : UnOp} {t : TypeId} {x : Operand} (h : opK D H (.unOp u t x) d fr hp k = some r) : Loc3 D H (.unOp u t x) d fr hp k r := by
  have e : ∀ fr2, AgF (slotsL (Op.unOp u t x).operands.toList) fr fr2 → evC fr2 x = evC fr x := fun fr2 h1 => evC_ag h1 (by simp [Op.operands])
  simp only [opK, arrK_eq] at h
  repeat' split at h
  all_goals first
    | (cases h; done)
    | exact .quiet h rfl fun fr2 hp2 h1 h2 k2 => by simp only [opK, arrK_eq]; rw [e fr2 h1]; simp only [if_true, Bool.false_eq_true, if_false, *]
theorem loc_nilCheck {x : Operand} (h : opK D H (.nilCheck x) d fr hp k = some r) : Loc3 D H (.nilCheck x) d fr hp k r := by
  have e : ∀ fr2, AgF (slotsL (Op.nilCheck x).operands.toList) fr fr2 → evC fr2 x = evC fr x := fun fr2 h1 => evC_ag h1 (by simp [Op.operands])
  simp only [opK, arrK_eq] at h
  repeat' split at h
  all_goals first
    | (cases h; done)
    | exact .quiet h rfl fun fr2 hp2 h1 h2 k2 => by simp only [opK, arrK_eq]; rw [e fr2 h1]; simp only [*]
theorem loc_convert {q t : TypeId} {x : Operand} (h : opK D H (.convert q t x) d fr hp k = some r) : Loc3 D H (.convert q t x) d fr hp k r := by
  have e : ∀ fr2, AgF (slotsL (Op.convert q t x).operands.toList) fr fr2 → evC fr2 x = evC fr x := fun fr2 h1 => evC_ag h1 (by simp [Op.operands])
  simp only [opK, arrK_eq] at h
  repeat' split at h
  all_goals first
    | (cases h; done)
    | exact .quiet h rfl fun fr2 hp2 h1 h2 k2 => by simp only [opK, arrK_eq]; rw [e fr2 h1]; simp only [*]
theorem loc_fieldAddr {t : TypeId} {x : Operand} {f : Nat} (h : opK D H (.fieldAddr t x f) d fr hp k = some r) : Loc3 D H (.fieldAddr t x f) d fr hp k r := by
  have e : ∀ fr2, AgF (slotsL (Op.fieldAddr t x f).operands.toList) fr fr2 → evC fr2 x = evC fr x := fun fr2 h1 => evC_ag h1 (by simp [Op.operands])
  simp only [opK, arrK_eq] at h
  repeat' split at h
  all_goals first
    | (cases h; done)
    | exact .quiet h rfl fun fr2 hp2 h1 h2 k2 => by simp only [opK, arrK_eq]; rw [e fr2 h1]; simp only [*]
theorem loc_field {t : TypeId} {x : Operand} {f : Nat} (h : opK D H (.field t x f) d fr hp k = some r) : Loc3 D H (.field t x f) d fr hp k r := by
  have e : ∀ fr2, AgF (slotsL (Op.field t x f).operands.toList) fr fr2 → evA fr2 x = evA fr x := fun fr2 h1 => evA_ag h1 (by simp [Op.operands])
  simp only [opK, arrK_eq] at h
  repeat' split at h
  all_goals first
    | (cases h; done)
    | exact .quiet h rfl fun fr2 hp2 h1 h2 k2 => by simp only [opK, arrK_eq]; rw [e fr2 h1]; simp only [*]
theorem loc_extract {x : Operand} {i : Nat} (h : opK D H (.extract x i) d fr hp k = some r) : Loc3 D H (.extract x i) d fr hp k r := by
  have e : ∀ fr2, AgF (slotsL (Op.extract x i).operands.toList) fr fr2 → ev fr2 x = ev fr x := fun fr2 h1 => ev_ag h1 (by simp [Op.operands])
  simp only [opK, arrK_eq] at h
  repeat' split at h
  all_goals first
    | (cases h; done)
    | exact .quiet h rfl fun fr2 hp2 h1 h2 k2 => by simp only [opK, arrK_eq]; rw [e fr2 h1]; simp only [*]
theorem loc_build {t : TypeId} {ps : Array (Nat × Operand)} (h : opK D H (.build t ps) d fr hp k = some r) : Loc3 D H (.build t ps) d fr hp k r := by
  have e : ∀ fr2, AgF (slotsL (Op.build t ps).operands.toList) fr fr2 → evParts D fr2 ps.toList = evParts D fr ps.toList := fun fr2 h1 => evParts_ag h1 fun x hx => by
    simp only [Op.operands]; exact List.mem_map.mpr ⟨x, hx, rfl⟩
  simp only [opK, arrK_eq] at h
  repeat' split at h
  all_goals first
    | (cases h; done)
    | exact .quiet h rfl fun fr2 hp2 h1 h2 k2 => by simp only [opK, arrK_eq]; rw [e fr2 h1]; simp only [*]
theorem loc_makeFunc {f : Fn} {first caps : Array Operand} (h : opK D H (.makeFunc f first caps) d fr hp k = some r) : Loc3 D H (.makeFunc f first caps) d fr hp k r := by
  cases f with
  | func f =>
    have e : ∀ fr2, AgF (slotsL (Op.makeFunc (.func f) first caps).operands.toList) fr fr2 → capIds D fr2 caps.toList = capIds D fr caps.toList := fun fr2 h1 => capIds_ag h1 fun x hx => by
      simp only [Op.operands, Array.toList_append]; exact List.mem_append_right _ hx
    simp only [opK, arrK_eq] at h
    repeat' split at h
    all_goals first
      | (cases h; done)
      | exact .quiet h rfl fun fr2 hp2 h1 h2 k2 => by simp only [opK, arrK_eq]; rw [e fr2 h1]; simp only [*]
  | _ => simp [opK, arrK_eq] at h
theorem loc_index {t : TypeId} {x y : Operand} (h : opK D H (.index t x y) d fr hp k = some r) : Loc3 D H (.index t x y) d fr hp k r := by
  have e : ∀ fr2, AgF (slotsL (Op.index t x y).operands.toList) fr fr2 → evA fr2 x = evA fr x ∧ evC fr2 y = evC fr y := fun fr2 h1 => ⟨evA_ag h1 (by simp [Op.operands]), evC_ag h1 (by simp [Op.operands])⟩
  simp only [opK, arrK_eq] at h
  split at h
  · obtain ⟨h, h2⟩ := idxK_nat h
    exact .quiet h rfl fun fr2 hp2 h1 h2 k2 => by simp only [opK, arrK_eq]; rw [(e fr2 h1).1, (e fr2 h1).2]; simp only [*]
  · obtain ⟨h, h2⟩ := idxK_nat h
    repeat' split at h
    all_goals first
      | (cases h; done)
      | exact .quiet h rfl fun fr2 hp2 h1 h2 k2 => by simp only [opK, arrK_eq]; rw [(e fr2 h1).1, (e fr2 h1).2]; simp only [*]
  · cases h
theorem loc_indexAddr {t : TypeId} {x y : Operand} (h : opK D H (.indexAddr t x y) d fr hp k = some r) : Loc3 D H (.indexAddr t x y) d fr hp k r := by
  have e : ∀ fr2, AgF (slotsL (Op.indexAddr t x y).operands.toList) fr fr2 → evC fr2 x = evC fr x ∧ evC fr2 y = evC fr y := fun fr2 h1 => ⟨evC_ag h1 (by simp [Op.operands]), evC_ag h1 (by simp [Op.operands])⟩
  have ea : ∀ {hp2 : Tr (B D.S)} {c : C D.S}, AgH (tch (.indexAddr t x y) fr hp) hp hp2 → evC fr x = some c → ∀ i ∈ idsC c, hp2.get i = hp.get i := fun h2 hc => agC h2 (by simp [Op.operands]) hc
  simp only [opK, arrK_eq] at h
  split at h
  · rename_i hti hx hy
    split at h
    · split at h
      · obtain ⟨h, h2⟩ := idxK_nat h
        exact .quiet h rfl fun fr2 hp2 h1 h2 k2 => by simp only [opK, arrK_eq]; rw [(e fr2 h1).1, (e fr2 h1).2]; simp only [*]
      · cases h
    · have e2 := fun {hp2 : Tr (B D.S)} (g : AgH (tch (.indexAddr t x y) fr hp) hp hp2) => ea g hx _ List.mem_cons_self
      split at h
      · split at h
        · obtain ⟨h, h2⟩ := idxK_nat h
          exact .quiet h rfl fun fr2 hp2 h1 h2 k2 => by simp only [opK, arrK_eq]; rw [(e fr2 h1).1, (e fr2 h1).2, hti, hx, hy]; simp only; rw [e2 h2]; simp only [*]
        · cases h
      · cases h
    · have e2 := fun {hp2 : Tr (B D.S)} (g : AgH (tch (.indexAddr t x y) fr hp) hp hp2) => ea g hx _ List.mem_cons_self
      split at h
      · split at h
        · obtain ⟨h, h2⟩ := idxK_nat h
          exact .quiet h rfl fun fr2 hp2 h1 h2 k2 => by simp only [opK, arrK_eq]; rw [(e fr2 h1).1, (e fr2 h1).2, hti, hx, hy]; simp only; rw [e2 h2]; simp only [*]
        · cases h
      · cases h
    · cases h
  all_goals first
    | (obtain ⟨h, h2⟩ := idxK_nat h; exact .quiet h rfl fun fr2 hp2 h1 h2 k2 => by simp only [opK, arrK_eq]; rw [(e fr2 h1).1, (e fr2 h1).2]; simp only [*])
    | (cases h; done)
theorem loc_binOp {op : BinOp} {t q : TypeId} {x y : Operand} (h : opK D H (.binOp op t x y q) d fr hp k = some r) : Loc3 D H (.binOp op t x y q) d fr hp k r := by
  have e : ∀ fr2, AgF (slotsL (Op.binOp op t x y q).operands.toList) fr fr2 → evA fr2 x = evA fr x ∧ evA fr2 y = evA fr y := fun fr2 h1 => ⟨evA_ag h1 (by simp [Op.operands]), evA_ag h1 (by simp [Op.operands])⟩
  simp only [opK, arrK_eq] at h
  split at h
  · rename_i k1 a k2 b hx hy
    split at h
    all_goals first
      | (obtain ⟨a1, h⟩ := bK_nat h; exact .quiet h rfl fun fr2 hp2 h1 h2 k2 => by simp only [opK, arrK_eq]; rw [(e fr2 h1).1, (e fr2 h1).2]; simp only [bK, *])
      | (split at h
         · rcases bKK_nat h with ⟨e', h'⟩ | ⟨e', h'⟩
           · cases h'
           · exact .quiet h' rfl fun fr2 hp2 h1 h2 k2 => by simp only [opK, arrK_eq]; rw [(e fr2 h1).1, (e fr2 h1).2]; simp only [bKK, if_true, *]
         · cases h)
      | (split at h
         · rename_i hk
           subst hk
           split at h
           · exact .quiet h rfl fun fr2 hp2 h1 h2 k2 => by simp only [opK, arrK_eq]; rw [(e fr2 h1).1, (e fr2 h1).2]; simp only [if_true, *]
           · cases h
         · cases h)
  · split at h
    · obtain ⟨a1, h⟩ := bK_nat h; exact .quiet h rfl fun fr2 hp2 h1 h2 k2 => by simp only [opK, arrK_eq]; rw [(e fr2 h1).1, (e fr2 h1).2]; simp only [bK, *]
    · split at h
      · exact .quiet h rfl fun fr2 hp2 h1 h2 k2 => by simp only [opK, arrK_eq]; rw [(e fr2 h1).1, (e fr2 h1).2]; simp only [*]
      · cases h
  · repeat' split at h
    all_goals first
      | (cases h; done)
      | exact .quiet h rfl fun fr2 hp2 h1 h2 k2 => by simp only [opK, arrK_eq]; rw [(e fr2 h1).1, (e fr2 h1).2]; simp only [*]
  · repeat' split at h
    all_goals first
      | (cases h; done)
      | exact .quiet h rfl fun fr2 hp2 h1 h2 k2 => by simp only [opK, arrK_eq]; rw [(e fr2 h1).1, (e fr2 h1).2]; simp only [*]
  · cases h
end
end Go.Proofs.Ytalgppclaolonaa.Ev
