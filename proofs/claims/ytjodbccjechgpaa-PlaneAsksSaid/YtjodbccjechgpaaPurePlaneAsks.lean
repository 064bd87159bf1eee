/- The pure law PlaneAsks: what layer 18 tells of points is the document's. -/
import Derived.Test.YtjodbccjechgpaaEvG
import Derived.Test.YtjodbccjechgpaaEvM
import Derived.Test.YtjodbccjechgpaaEvV
import Derived.Test.YtjodbccjechgpaaEvW
namespace Go.Proofs.Ytjodbccjechgpaa.Ev
open Go
set_option linter.unusedVariables false
set_option linter.unusedSimpArgs false
/-- May a point be? -/
def May (p : S23) : Prop := -33554432 ≤ p.f0 ∧ p.f0 ≤ 33554432 ∧ -33554432 ≤ p.f1 ∧ p.f1 ≤ 33554432
instance (p : S23) : Decidable (May p) := by unfold May; infer_instance
def allMay (l : List S23) : Bool := l.all fun p => decide (May p)
theorem may_f (p : S23) : F12 p = some (decide (May p)) := by
  rw [F12_eq]; unfold May
  by_cases h0 : p.f0 ≥ -33554432 <;> by_cases h1 : p.f0 ≤ 33554432 <;> by_cases h2 : p.f1 ≥ -33554432 <;> by_cases h3 : p.f1 ≤ 33554432 <;> simp [*] <;> omega
theorem rmay_f (p : S23) : F13 p = some (decide (May p)) := by
  rw [F13_eq]; unfold May
  by_cases h0 : p.f0 ≥ -33554432 <;> by_cases h1 : p.f0 ≤ 33554432 <;> by_cases h2 : p.f1 ≥ -33554432 <;> by_cases h3 : p.f1 ≤ 33554432 <;> simp [*] <;> omega
theorem asked_l (l : List S23) (hl : l.length ≤ 1000000) : ∀ d (i : Nat), i + d = l.length → L19_0 l (l.length : Int) (i : Int) = some (if allMay (l.drop i) = true then 0 else 1)
  | 0, i, h => by rw [L19_0_eq, cF (by omega), List.drop_eq_nil_of_le (by omega)]; rfl
  | d + 1, i, h => by
    have ih := asked_l l hl d (i + 1) (by omega)
    rw [L19_0_eq, cT (by omega), grd_p (by omega), grd_p (by omega), Int.toNat_natCast, bnd (may_f _), show wr .i64 ((i : Int) + 1) = ((i + 1 : Nat) : Int) from w64 (by omega) (by omega), ih, drop_rd l z0 i (by omega)]
    generalize l.getD i z0 = p
    by_cases hm : May p <;> simp [allMay, hm]
theorem asked_f (l : List S23) (hl : l.length ≤ 1000000) : F19 l = some (if allMay l = true then 0 else 1) := by
  have h := asked_l l hl l.length 0 (by omega)
  rw [F19_eq]
  simpa using h
theorem rall_l (l : List S23) (hl : l.length ≤ 1000000) : ∀ d (i : Nat), i + d = l.length → L24_0 l (i : Int) = some (allMay (l.drop i))
  | 0, i, h => by rw [L24_0_eq, cF (by omega), List.drop_eq_nil_of_le (by omega)]; rfl
  | d + 1, i, h => by
    have ih := rall_l l hl d (i + 1) (by omega)
    rw [L24_0_eq, cT (by omega), grd_p (by omega), grd_p (by omega), Int.toNat_natCast, bnd (rmay_f _), show wr .i64 ((i : Int) + 1) = ((i + 1 : Nat) : Int) from w64 (by omega) (by omega), ih, drop_rd l z0 i (by omega)]
    generalize l.getD i z0 = p
    by_cases hm : May p <;> simp [allMay, hm]
theorem rasked_f (l : List S23) (hl : l.length ≤ 1000000) : F11 l = some (if allMay l = true then 0 else 1) := by
  have h := rall_l l hl l.length 0 (by omega)
  have h' : F24 l = some (allMay l) := by rw [F24_eq]; simpa using h
  rw [F11_eq, bnd h']
  cases allMay l <;> rfl
def cr (a b c : S23) : Int := (b.f0 - a.f0) * (c.f1 - a.f1) - (b.f1 - a.f1) * (c.f0 - a.f0)
def dt (a b c : S23) : Int := (b.f0 - a.f0) * (c.f0 - a.f0) + (b.f1 - a.f1) * (c.f1 - a.f1)
theorem df {a b : S23} (ha : May a) (hb : May b) : (-67108864 ≤ b.f0 - a.f0 ∧ b.f0 - a.f0 ≤ 67108864) ∧ (-67108864 ≤ b.f1 - a.f1 ∧ b.f1 - a.f1 ≤ 67108864) := by
  unfold May at ha hb; omega
theorem cr_bd {a b c : S23} (ha : May a) (hb : May b) (hc : May c) : -9007199254740992 ≤ cr a b c ∧ cr a b c ≤ 9007199254740992 := by
  obtain ⟨⟨x0, x1⟩, ⟨y0, y1⟩⟩ := df ha hb
  obtain ⟨⟨u0, u1⟩, ⟨v0, v1⟩⟩ := df ha hc
  have h1 := mul_bd x0 x1 v0 v1
  have h2 := mul_bd y0 y1 u0 u1
  unfold cr; omega
theorem dt_bd {a b c : S23} (ha : May a) (hb : May b) (hc : May c) : -9007199254740992 ≤ dt a b c ∧ dt a b c ≤ 9007199254740992 := by
  obtain ⟨⟨x0, x1⟩, ⟨y0, y1⟩⟩ := df ha hb
  obtain ⟨⟨u0, u1⟩, ⟨v0, v1⟩⟩ := df ha hc
  have h1 := mul_bd x0 x1 u0 u1
  have h2 := mul_bd y0 y1 v0 v1
  unfold dt; omega
theorem cross_w {a b c : S23} (ha : May a) (hb : May b) (hc : May c) : wr .i64 ((wr .i64 ((wr .i64 (b.f0 - a.f0)) * (wr .i64 (c.f1 - a.f1)))) - (wr .i64 ((wr .i64 (b.f1 - a.f1)) * (wr .i64 (c.f0 - a.f0))))) = cr a b c := by
  obtain ⟨⟨x0, x1⟩, ⟨y0, y1⟩⟩ := df ha hb
  obtain ⟨⟨u0, u1⟩, ⟨v0, v1⟩⟩ := df ha hc
  have h1 := mul_bd x0 x1 v0 v1
  have h2 := mul_bd y0 y1 u0 u1
  have h3 := cr_bd ha hb hc
  unfold wr
  rw [w64 (n := b.f0 - a.f0) (by omega) (by omega), w64 (n := b.f1 - a.f1) (by omega) (by omega), w64 (n := c.f0 - a.f0) (by omega) (by omega), w64 (n := c.f1 - a.f1) (by omega) (by omega),
    w64 (n := (b.f0 - a.f0) * (c.f1 - a.f1)) (by omega) (by omega), w64 (n := (b.f1 - a.f1) * (c.f0 - a.f0)) (by omega) (by omega)]
  unfold cr at h3 ⊢
  rw [w64 (by omega) (by omega)]
theorem dot_w {a b c : S23} (ha : May a) (hb : May b) (hc : May c) : wr .i64 ((wr .i64 ((wr .i64 (b.f0 - a.f0)) * (wr .i64 (c.f0 - a.f0)))) + (wr .i64 ((wr .i64 (b.f1 - a.f1)) * (wr .i64 (c.f1 - a.f1))))) = dt a b c := by
  obtain ⟨⟨x0, x1⟩, ⟨y0, y1⟩⟩ := df ha hb
  obtain ⟨⟨u0, u1⟩, ⟨v0, v1⟩⟩ := df ha hc
  have h1 := mul_bd x0 x1 u0 u1
  have h2 := mul_bd y0 y1 v0 v1
  have h3 := dt_bd ha hb hc
  unfold wr
  rw [w64 (n := b.f0 - a.f0) (by omega) (by omega), w64 (n := b.f1 - a.f1) (by omega) (by omega), w64 (n := c.f0 - a.f0) (by omega) (by omega), w64 (n := c.f1 - a.f1) (by omega) (by omega),
    w64 (n := (b.f0 - a.f0) * (c.f0 - a.f0)) (by omega) (by omega), w64 (n := (b.f1 - a.f1) * (c.f1 - a.f1)) (by omega) (by omega)]
  unfold dt at h3 ⊢
  rw [w64 (by omega) (by omega)]
theorem cross_f {a b c : S23} (ha : May a) (hb : May b) (hc : May c) : F20 a b c = some (cr a b c) := by rw [F20_eq]; exact congrArg some (cross_w ha hb hc)
theorem dot_f {a b c : S23} (ha : May a) (hb : May b) (hc : May c) : F21 a b c = some (dt a b c) := by rw [F21_eq]; exact congrArg some (dot_w ha hb hc)
theorem rcross_f {a b c : S23} (ha : May a) (hb : May b) (hc : May c) : F15 a b c = some (cr a b c) := by rw [F15_eq]; exact congrArg some (cross_w ha hb hc)
theorem rdot_f {a b c : S23} (ha : May a) (hb : May b) (hc : May c) : F14 a b c = some (dt a b c) := by rw [F14_eq]; exact congrArg some (dot_w ha hb hc)
def sg (n : Int) : Int := if n < 0 then -1 else if n > 0 then 1 else 0
theorem cmp_f (n : Int) : F25 n 0 = some (sg n) := by
  rw [F25_eq, F26_eq, F26_eq]
  simp only [bne_self_eq_false, Option.bind_some, cond_false]
  unfold sg; by_cases h : n < 0 <;> by_cases h' : n > 0 <;> simp [*]
theorem rsign_f (n : Int) : F16 n = some (sg n) := by
  rw [F16_eq]; unfold sg; by_cases h : n < 0 <;> by_cases h' : n > 0 <;> simp [*]
theorem turn_f {a b c : S23} (ha : May a) (hb : May b) (hc : May c) : F22 a b c = some (sg (cr a b c)) := by
  rw [F22_eq, bnd (cross_f ha hb hc), bnd (cmp_f _)]
def btw (a b p : S23) : Bool := decide (cr a b p = 0 ∧ dt p a b ≤ 0)
theorem between_f {a b p : S23} (ha : May a) (hb : May b) (hp : May p) : F23 a b p = some (btw a b p) := by
  rw [F23_eq, bnd (cross_f ha hb hp), bnd (dot_f hp ha hb)]
  unfold btw; by_cases h : cr a b p = 0
  · simp [h]
  · rw [show (cr a b p == 0) = false by simpa using h]; simp [h]
theorem box (a b p : Int) : (p ≥ mnE a b ∧ p ≤ mxE a b) ↔ (a - p) * (b - p) ≤ 0 := by
  have e : (p ≥ mnE a b ∧ p ≤ mxE a b) ↔ ((a - p ≤ 0 ∧ 0 ≤ b - p) ∨ (0 ≤ a - p ∧ b - p ≤ 0)) := by
    unfold mnE mxE; split <;> split <;> omega
  rw [e]
  generalize a - p = u
  generalize b - p = v
  constructor
  · rintro (⟨h1, h2⟩ | ⟨h1, h2⟩)
    · exact Int.mul_nonpos_of_nonpos_of_nonneg h1 h2
    · exact Int.mul_nonpos_of_nonneg_of_nonpos h1 h2
  · intro h
    rcases Int.lt_trichotomy u 0 with hu | hu | hu
    · rcases Int.lt_trichotomy v 0 with hv | hv | hv
      · have := Int.mul_pos_of_neg_of_neg hu hv; omega
      · omega
      · omega
    · omega
    · rcases Int.lt_trichotomy v 0 with hv | hv | hv
      · omega
      · omega
      · have := Int.mul_pos hu hv; omega
theorem same_sign {u0 u1 v0 v1 : Int} (hc : u0 * v1 = u1 * v0) : (u0 * v0 ≤ 0 ∧ u1 * v1 ≤ 0) ↔ u0 * v0 + u1 * v1 ≤ 0 := by
  have h2 : (u0 * v0) * (u1 * v1) = (u0 * v1) * (u0 * v1) := by
    rw [show (u0 * v0) * (u1 * v1) = (u0 * v1) * (u1 * v0) by grind, ← hc]
  have h3 := sq_nn (u0 * v1)
  rw [← h2] at h3
  clear h2 hc
  generalize u0 * v0 = s at *
  generalize u1 * v1 = t at *
  constructor
  · omega
  · intro h
    rcases Int.lt_trichotomy s 0 with hs | hs | hs
    · rcases Int.lt_trichotomy t 0 with ht | ht | ht
      · omega
      · omega
      · have := Int.mul_neg_of_neg_of_pos hs ht; omega
    · omega
    · have ht : t < 0 := by omega
      have := Int.mul_neg_of_pos_of_neg hs ht; omega
theorem rbetween_f {a b p : S23} (ha : May a) (hb : May b) (hp : May p) : F17 a b p = some (btw a b p) := by
  rw [F17_eq, bnd (rcross_f ha hb hp)]
  unfold btw
  by_cases h : cr a b p = 0
  · have hc : (a.f0 - p.f0) * (b.f1 - p.f1) = (a.f1 - p.f1) * (b.f0 - p.f0) := by unfold cr at h; grind
    have hs := same_sign hc
    have e : dt p a b = (a.f0 - p.f0) * (b.f0 - p.f0) + (a.f1 - p.f1) * (b.f1 - p.f1) := by unfold dt; grind
    rw [← e, ← box, ← box] at hs
    simp only [h, beq_self_eq_true, cond_true, true_and]
    by_cases h1 : p.f0 ≥ mnE a.f0 b.f0 <;> by_cases h2 : p.f0 ≤ mxE a.f0 b.f0 <;> by_cases h3 : p.f1 ≥ mnE a.f1 b.f1 <;> by_cases h4 : p.f1 ≤ mxE a.f1 b.f1 <;> simp only [h1, h2, h3, h4, decide_true, decide_false, cond_true, cond_false, and_true, true_and, and_false, false_and, true_iff, false_iff] at hs ⊢ <;> simp [hs]
  · rw [show (cr a b p == 0) = false by simpa using h]; simp [h]
def meets (a b c d : S23) : Bool := btw a b c || btw a b d || btw c d a || btw c d b || (decide (sg (cr a b c) * sg (cr a b d) < 0) && decide (sg (cr c d a) * sg (cr c d b) < 0))
theorem sg_bd (n : Int) : -1 ≤ sg n ∧ sg n ≤ 1 := by
  unfold sg
  split
  · omega
  · split <;> omega
theorem sg_mul (m n : Int) : wr .i64 (sg m * sg n) = sg m * sg n := by
  have h := mul_bd (x := sg m) (y := sg n) (M := 1) (N := 1) (sg_bd m).1 (sg_bd m).2 (sg_bd n).1 (sg_bd n).2
  exact w64 (by omega) (by omega)
theorem mays {l : List S23} (h : allMay l = true) : ∀ p ∈ l, May p := fun p hp => of_decide_eq_true (List.all_eq_true.mp h p hp)
theorem meet_f (a b c d : S23) : F10 a b c d = some (if allMay [a, b, c, d] = true then meets a b c d else false, if allMay [a, b, c, d] = true then 0 else 1) := by
  rw [F10_eq, bnd (asked_f [a, b, c, d] (by simp))]
  cases hall : allMay [a, b, c, d]
  · rfl
  have ha := mays hall a (by simp)
  have hb := mays hall b (by simp)
  have hc := mays hall c (by simp)
  have hd := mays hall d (by simp)
  rw [bnd (between_f ha hb hc), bnd (between_f ha hb hd), bnd (between_f hc hd ha), bnd (between_f hc hd hb), L10_0_eq, bnd (turn_f ha hb hc), bnd (turn_f ha hb hd), bnd (turn_f hc hd ha), bnd (turn_f hc hd hb), sg_mul, sg_mul]
  unfold meets
  cases btw a b c <;> cases btw a b d <;> cases btw c d a <;> cases btw c d b <;> by_cases h : sg (cr a b c) * sg (cr a b d) < 0 <;> simp [h]
theorem rmeet_f {a b c d : S23} (ha : May a) (hb : May b) (hc : May c) (hd : May d) : F18 a b c d = some (meets a b c d) := by
  rw [F18_eq, bnd (rbetween_f ha hb hc), bnd (rbetween_f ha hb hd), bnd (rbetween_f hc hd ha), bnd (rbetween_f hc hd hb), L18_0_eq, bnd (rcross_f ha hb hc), bnd (rsign_f _), bnd (rcross_f ha hb hd), bnd (rsign_f _), bnd (rcross_f hc hd ha), bnd (rsign_f _), bnd (rcross_f hc hd hb), bnd (rsign_f _), sg_mul, sg_mul]
  unfold meets
  cases btw a b c <;> cases btw a b d <;> cases btw c d a <;> cases btw c d b <;> by_cases h : sg (cr a b c) * sg (cr a b d) < 0 <;> simp [h]
theorem cross_any (a b c : S23) : F5 a b c = some (if allMay [a, b, c] = true then cr a b c else 0, if allMay [a, b, c] = true then 0 else 1) := by
  rw [F5_eq, bnd (asked_f [a, b, c] (by simp))]
  cases hall : allMay [a, b, c]
  · rfl
  · rw [bnd (cross_f (mays hall a (by simp)) (mays hall b (by simp)) (mays hall c (by simp)))]; rfl
theorem dot_any (a b c : S23) : F6 a b c = some (if allMay [a, b, c] = true then dt a b c else 0, if allMay [a, b, c] = true then 0 else 1) := by
  rw [F6_eq, bnd (asked_f [a, b, c] (by simp))]
  cases hall : allMay [a, b, c]
  · rfl
  · rw [bnd (dot_f (mays hall a (by simp)) (mays hall b (by simp)) (mays hall c (by simp)))]; rfl
theorem turn_any (a b c : S23) : F7 a b c = some (if allMay [a, b, c] = true then sg (cr a b c) else 0, if allMay [a, b, c] = true then 0 else 1) := by
  rw [F7_eq, bnd (asked_f [a, b, c] (by simp))]
  cases hall : allMay [a, b, c]
  · rfl
  · rw [bnd (turn_f (mays hall a (by simp)) (mays hall b (by simp)) (mays hall c (by simp)))]; rfl
theorem between_any (a b c : S23) : F8 a b c = some (if allMay [a, b, c] = true then btw a b c else false, if allMay [a, b, c] = true then 0 else 1) := by
  rw [F8_eq, bnd (asked_f [a, b, c] (by simp))]
  cases hall : allMay [a, b, c]
  · rfl
  · rw [bnd (between_f (mays hall a (by simp)) (mays hall b (by simp)) (mays hall c (by simp)))]; rfl
theorem far_any (a b : S23) : F9 a b = some (if allMay [a, b] = true then dt a b b else 0, if allMay [a, b] = true then 0 else 1) := by
  rw [F9_eq, bnd (dot_any a b b), show allMay [a, b, b] = allMay [a, b] by simp [allMay]]
theorem Pure.PlaneAsks (x0 : S23) (x1 : S23) (x2 : S24) : wf23 x0 → wf23 x1 → wf24 x2 → F3 x0 x1 x2 = some true := by
  intro _ _ _
  obtain ⟨c, d⟩ := x2
  generalize x0 = a
  generalize x1 = b
  rw [F3_eq, bnd F4_true, bnd (cross_any a b c), bnd (dot_any a b c), bnd (turn_any a b c), bnd (between_any a b c), bnd (far_any a b), bnd (meet_f a b c d), bnd (rasked_f [a, b, c] (by simp)), bnd (rasked_f [a, b] (by simp)), bnd (rasked_f [a, b, c, d] (by simp)), bnd (may_f a), bnd (rmay_f a)]
  have e3 : allMay [a, b, c] = true → May a ∧ May b ∧ May c := fun h => ⟨mays h a (by simp), mays h b (by simp), mays h c (by simp)⟩
  have e2 : allMay [a, b] = true → May a ∧ May b := fun h => ⟨mays h a (by simp), mays h b (by simp)⟩
  have e4 : allMay [a, b, c, d] = true → May a ∧ May b ∧ May c ∧ May d := fun h => ⟨mays h a (by simp), mays h b (by simp), mays h c (by simp), mays h d (by simp)⟩
  simp only [Bool.not_true, cond_false, bne_self_eq_false, beq_self_eq_true]
  have s3 : L3_3 a b c d (if allMay [a, b, c, d] = true then meets a b c d else false) (if allMay [a, b, c, d] = true then 0 else 1) = some true := by
    rw [L3_3_eq]
    cases h4 : allMay [a, b, c, d]
    · rfl
    · obtain ⟨ha, hb, hc, hd⟩ := e4 h4
      rw [bnd (rmeet_f ha hb hc hd)]; simp
  have s2 : L3_2 a b c d (if allMay [a, b, c] = true then cr a b c else 0) (if allMay [a, b, c] = true then dt a b c else 0) (if allMay [a, b, c] = true then sg (cr a b c) else 0) (if allMay [a, b, c] = true then btw a b c else false) (if allMay [a, b, c, d] = true then meets a b c d else false) (if allMay [a, b, c] = true then 0 else 1) (if allMay [a, b, c, d] = true then 0 else 1) = some true := by
    rw [L3_2_eq, s3]
    cases h3 : allMay [a, b, c]
    · rfl
    · obtain ⟨ha, hb, hc⟩ := e3 h3
      rw [bnd (rcross_f ha hb hc), bnd (rdot_f ha hb hc)]
      simp only [if_true]
      rw [bnd (rsign_f _), bnd (rbetween_f ha hb hc)]
      simp
  have s1 : L3_1 a b c d (if allMay [a, b, c] = true then cr a b c else 0) (if allMay [a, b, c] = true then dt a b c else 0) (if allMay [a, b, c] = true then sg (cr a b c) else 0) (if allMay [a, b, c] = true then btw a b c else false) (if allMay [a, b] = true then dt a b b else 0) (if allMay [a, b, c, d] = true then meets a b c d else false) (if allMay [a, b, c] = true then 0 else 1) (if allMay [a, b] = true then 0 else 1) (if allMay [a, b, c, d] = true then 0 else 1) = some true := by
    rw [L3_1_eq, s2]
    cases h2 : allMay [a, b]
    · rfl
    · obtain ⟨ha, hb⟩ := e2 h2
      rw [bnd (rdot_f ha hb hb)]
      simp
  rw [L3_0_eq, s1]
  cases h2 : allMay [a, b] <;> cases h3 : allMay [a, b, c] <;> cases h4 : allMay [a, b, c, d] <;> simp
end Go.Proofs.Ytjodbccjechgpaa.Ev
