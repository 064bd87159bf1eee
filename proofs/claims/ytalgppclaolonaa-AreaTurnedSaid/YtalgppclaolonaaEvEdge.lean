/- Edges: what layer 16 (edge) and its reference answer. -/
import Derived.Test.YtalgppclaolonaaEvG
import Derived.Test.YtalgppclaolonaaEvM
namespace Go.Proofs.Ytalgppclaolonaa.Ev
open Go
set_option linter.unusedVariables false
set_option linter.unusedSimpArgs false
def Fine (p : S36) : Prop := -33554432 ≤ p.f0 ∧ p.f0 ≤ 33554432 ∧ -33554432 ≤ p.f1 ∧ p.f1 ≤ 33554432
instance (p : S36) : Decidable (Fine p) := by unfold Fine; exact inferInstance
def pe (p q : S36) : Bool := p.f0 == q.f0 && (p.f1 == q.f1)
def same (e : S38) : Bool := pe e.f2 e.f4 && (!e.f1 || pe e.f2 e.f3)
def OneE (e : S38) : Bool := decide (Fine e.f2) && decide (Fine e.f3) && decide (Fine e.f4) && !same e && (e.f1 || pe e.f3 ⟨0, 0⟩)
def cl (f p : S38) : List S38 → Bool
  | [] => pe p.f4 f.f2
  | e :: l => if e.f0 = f.f0 then pe e.f2 p.f4 && cl f e l else pe p.f4 f.f2 && cl e e l
def Closed : List S38 → Bool
  | [] => true
  | e :: l => cl e e l
def mayE (l : List S38) : Bool := decide (l.length ≤ 8192) && Closed l && l.all OneE
theorem pe_comm (p q : S36) : pe p q = pe q p := by unfold pe; rw [Bool.beq_comm, @Bool.beq_comm _ _ _ p.f1] <;> rfl
theorem pe_rfl (p : S36) : pe p p = true := by simp [pe]
theorem pe_def (p q : S36) : (p.f0 == q.f0 && (p.f1 == q.f1)) = pe p q := rfl
theorem pe_z (p : S36) : (p.f0 == 0 && (p.f1 == 0)) = pe p ⟨0, 0⟩ := rfl
theorem efine_l (l : List S36) (hl : l.length ≤ 1000000) : ∀ d (i : Nat), i + d = l.length → L87_0 l (l.length : Int) (i : Int) = some ((l.drop i).all fun p => decide (Fine p))
  | 0, i, h => by
    rw [L87_0_eq, cF (by omega), List.drop_eq_nil_of_le (by omega)]; rfl
  | d + 1, i, h => by
    have ih := efine_l l hl d (i + 1) (by omega)
    rw [L87_0_eq, cT (by omega), grd_p (by omega), grd_p (by omega), drop_rd l z0 i (by omega), List.all_cons, show wr .i64 ((i : Int) + 1) = ((i + 1 : Nat) : Int) from w64 (by omega) (by omega), ih, Int.toNat_natCast]
    generalize l.getD i z0 = p
    by_cases c0 : p.f0 < -33554432
    · rw [cT c0, decide_eq_false (p := Fine p) (by unfold Fine; omega)]; rfl
    by_cases c1 : p.f0 > 33554432
    · rw [cF c0, cT c1, decide_eq_false (p := Fine p) (by unfold Fine; omega)]; rfl
    by_cases c2 : p.f1 < -33554432
    · rw [cF c0, cF c1, cT c2, decide_eq_false (p := Fine p) (by unfold Fine; omega)]; rfl
    by_cases c3 : p.f1 > 33554432
    · rw [cF c0, cF c1, cF c2, cT c3, decide_eq_false (p := Fine p) (by unfold Fine; omega)]; rfl
    rw [cF c0, cF c1, cF c2, cF c3, decide_eq_true (p := Fine p) (by unfold Fine; omega), Bool.true_and]
theorem efine_f (l : List S36) (hl : l.length ≤ 1000000) : F87 l = some (l.all fun p => decide (Fine p)) := by
  have := efine_l l hl l.length 0 (by omega)
  rw [F87_eq]
  simpa using this
theorem enone_f (e : S38) : F88 e = some (same e) := by
  rw [F88_eq, pe_def, pe_def, pe_comm e.f3]
  unfold same
  cases pe e.f2 e.f4 <;> cases e.f1 <;> simp
theorem eclosed : ∀ (m : Nat) (l : List S38), l.length ≤ 1000000 → l.length ≤ m →
    L86_0 l = some (Closed l) ∧ ∀ d (n : Nat), n + d = l.length → 1 ≤ n → L86_2 l (n : Int) = some (cl (l.getD 0 z1) (l.getD (n - 1) z1) (l.drop n)) := by
  intro m
  induction m with
  | zero =>
    intro l hl hm
    refine ⟨?_, fun d n h1 h2 => by omega⟩
    obtain rfl : l = [] := List.eq_nil_of_length_eq_zero (by omega)
    rw [L86_0_eq, cF (by simp)]; rfl
  | succ m ih =>
    intro l hl hm
    -- a contour ends
    have E : ∀ n : Nat, 1 ≤ n → n ≤ l.length → L86_1 l (n : Int) = some (pe (l.getD (n - 1) z1).f4 (l.getD 0 z1).f2 && Closed (l.drop n)) := fun n h1 h2 => by
      rw [L86_1_eq, show wr .i64 ((n : Int) - 1) = ((n - 1 : Nat) : Int) from (w64 (by omega) (by omega)).trans (by omega), grd_p (by omega), grd_p (by omega), grd_p (by omega), grd_p (by omega), grd_p (by omega), pe_def, Int.toNat_natCast, Int.toNat_natCast, (ih (l.drop n) (by simp; omega) (by simp; omega)).1]
      cases pe (l.getD (n - 1) z1).f4 (l.getD 0 z1).f2 <;> rfl
    have L1 : ∀ d (n : Nat), n + d = l.length → 1 ≤ n → L86_2 l (n : Int) = some (cl (l.getD 0 z1) (l.getD (n - 1) z1) (l.drop n)) := by
      intro d
      induction d with
      | zero =>
        intro n h1 h2
        rw [L86_2_eq, cF (by omega), E n h2 (by omega), List.drop_eq_nil_of_le (by omega)]
        simp [cl, Closed]
      | succ d ihd =>
        intro n h1 h2
        have g := ihd (n + 1) (by omega) (by omega)
        rw [L86_2_eq, cT (by omega), grd_p (by omega), grd_p (by omega), grd_p (by omega), Int.toNat_natCast, E n h2 (by omega), drop_rd l z1 n (by omega), L86_3_eq, grd_p (by omega), grd_p (by omega), show wr .i64 ((n : Int) - 1) = ((n - 1 : Nat) : Int) from (w64 (by omega) (by omega)).trans (by omega), grd_p (by omega), grd_p (by omega), pe_def, Int.toNat_natCast, Int.toNat_natCast,
          show wr .i64 ((n : Int) + 1) = ((n + 1 : Nat) : Int) from w64 (by omega) (by omega), g, Nat.add_sub_cancel]
        simp only [cl, Closed]
        by_cases c : (l.getD n z1).f0 = (l.getD 0 z1).f0
        · rw [if_pos c, show ((l.getD n z1).f0 == (l.getD 0 z1).f0) = true by simpa using c]
          cases pe (l.getD n z1).f2 (l.getD (n - 1) z1).f4 <;> rfl
        · rw [if_neg c, show ((l.getD n z1).f0 == (l.getD 0 z1).f0) = false by simpa using c]
          rfl
    refine ⟨?_, L1⟩
    cases hlc : l with
    | nil => rw [L86_0_eq, cF (by simp)]; rfl
    | cons e r =>
      rw [← hlc]
      have hlen : l.length = r.length + 1 := by rw [hlc]; rfl
      have g := L1 r.length 1 (by omega) (by omega)
      rw [L86_0_eq, cT (by omega)]
      have : L86_2 l 1 = L86_2 l ((1 : Nat) : Int) := rfl
      rw [this, g, hlc]
      rfl
theorem eclosed_f (l : List S38) (hl : l.length ≤ 1000000) : F86 l = some (Closed l) := by
  rw [F86_eq]; exact (eclosed l.length l hl (Nat.le_refl _)).1
theorem one_all (e : S38) : OneE e = (([e.f2, e.f3, e.f4] : List S36).all (fun p => decide (Fine p)) && (!same e) && (e.f1 || pe e.f3 ⟨0, 0⟩)) := by
  simp [OneE, Bool.and_assoc]
theorem emay_l (l : List S38) (hl : l.length ≤ 1000000) : ∀ d (i : Nat), i + d = l.length → L52_0 l (l.length : Int) (i : Int) = some ((l.drop i).all OneE)
  | 0, i, h => by
    rw [L52_0_eq, cF (by omega), List.drop_eq_nil_of_le (by omega)]; rfl
  | d + 1, i, h => by
    have ih := emay_l l hl d (i + 1) (by omega)
    rw [L52_0_eq, cT (by omega), grd_p (by omega), grd_p (by omega), drop_rd l z1 i (by omega), List.all_cons, show wr .i64 ((i : Int) + 1) = ((i + 1 : Nat) : Int) from w64 (by omega) (by omega), ih, Int.toNat_natCast]
    generalize l.getD i z1 = e
    rw [bnd (efine_f _ (by simp)), bnd (enone_f e), pe_z, one_all]
    cases ([e.f2, e.f3, e.f4] : List S36).all (fun p => decide (Fine p)) <;> cases same e <;> cases e.f1 <;> cases pe e.f3 ⟨0, 0⟩ <;> simp
theorem emay_f (l : List S38) (hl : l.length ≤ 1000000) : F52 l = some (mayE l) := by
  rw [F52_eq]
  unfold mayE
  by_cases c : (l.length : Int) > 8192
  · rw [cT c, decide_eq_false (show ¬ (l.length ≤ 8192) by omega)]; rfl
  · have := emay_l l hl l.length 0 (by omega)
    rw [cF c, decide_eq_true (show l.length ≤ 8192 by omega), bnd (eclosed_f l hl), show L52_0 l (l.length : Int) 0 = _ from this, List.drop_zero]
    cases Closed l <;> simp
theorem rfine_f (p : S36) : F54 p = some (decide (Fine p)) := by
  rw [F54_eq]
  unfold Fine
  by_cases h0 : p.f0 ≥ -33554432 <;> by_cases h1 : p.f0 ≤ 33554432 <;> by_cases h2 : p.f1 ≥ -33554432 <;> by_cases h3 : p.f1 ≤ 33554432 <;> simp [*] <;> omega
theorem rsame_f (e : S38) : F55 e = some (same e) := by
  rw [F55_eq, pe_def, pe_def]
  unfold same
  cases pe e.f2 e.f4 <;> cases e.f1 <;> simp
theorem rone_f (e : S38) : F17 e = some (OneE e) := by
  rw [F17_eq, rfine_f, rfine_f, rfine_f, rsame_f, pe_z]
  unfold OneE
  simp only [Option.bind_some]
  cases decide (Fine e.f2) <;> cases decide (Fine e.f3) <;> cases decide (Fine e.f4) <;> cases same e <;> cases e.f1 <;> simp
end Go.Proofs.Ytalgppclaolonaa.Ev
