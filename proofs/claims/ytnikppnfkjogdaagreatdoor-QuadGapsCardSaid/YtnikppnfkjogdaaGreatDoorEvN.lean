/- Printed by a program of this claim: the functions once more, as plain functions with fuel, which the kernel runs. -/
import Derived.Test.YtnikppnfkjogdaaGreatDoorEvG
namespace Go.Proofs.YtnikppnfkjogdaaGreatDoor.Ev
open Go
set_option linter.unusedVariables false
def Le {α : Type} (a b : Option α) : Prop := ∀ y, a = some y → b = some y
theorem le_r {α : Type} (a : Option α) : Le a a := fun _ h => h
theorem le_n {α : Type} (a : Option α) : Le none a := fun _ h => by cases h
theorem le_b {α β : Type} {a a' : Option α} {f f' : α → Option β} (h : Le a a') (k : ∀ x, Le (f x) (f' x)) : Le (a.bind f) (a'.bind f') := fun y q => by
 cases ha : a with
 | none => rw [ha] at q; cases q
 | some x => rw [h x ha]; rw [ha] at q; exact k x y q
theorem le_c {α : Type} {c : Bool} {a a' b b' : Option α} (h : Le a a') (k : Le b b') : Le (cond c a b) (cond c a' b') := by cases c; exact k; exact h
theorem le_g {α : Type} {c : Bool} {a a' : Option α} (h : Le a a') : Le (grd c a) (grd c a') := by cases c; exact le_n _; exact h
theorem le_e {α : Type} {a b b' : Option α} (e : b = b') (h : Le a b') : Le a b := e ▸ h
noncomputable def N59 (x0 : S24) : Option Bool :=
 bif (decide (x0.f0 ≥ (-33554432))) then
  bif (decide (x0.f0 ≤ 33554432)) then
   bif (decide (x0.f1 ≥ (-33554432))) then
    some (decide (x0.f1 ≤ 33554432))
   else
   some false
  else
  some false
 else
 some false
theorem N59_le (x0 : S24) : Le (N59 x0) (F59 x0) := by rw [F59_eq]; unfold N59; exact le_r _
structure Q37 where
 l0 : S34 → Option Bool
noncomputable def T37_0 (q : Q37) (x0 : S34) : Option Bool :=
 bif x0.f1 then
  bif (!((x0.f2.f0 == x0.f3.f0) && (x0.f2.f1 == x0.f3.f1))) then
   some true
  else
  some (!((x0.f2.f0 == x0.f4.f0) && (x0.f2.f1 == x0.f4.f1)))
 else
 bif (!((x0.f2.f0 == x0.f4.f0) && (x0.f2.f1 == x0.f4.f1))) then
  some ((x0.f3.f0 == 0) && (x0.f3.f1 == 0))
 else
 some false
noncomputable def P37 (n : Nat) : Q37 := Nat.rec ⟨fun _ => none⟩ (fun _ q => ⟨T37_0 q⟩) n
theorem P37_le : ∀ n, (∀ x0, Le ((P37 n).l0 x0) (L37_0 x0)) := fun n => by
 induction n with
 | zero => exact fun x0 => le_n _
 | succ n ih => exact fun x0 => by show Le (T37_0 (P37 n) x0) _; rw [L37_0_eq]; unfold T37_0; exact le_r _
noncomputable def N37 (x0 : S34) : Option Bool :=
 (N59 x0.f2).bind fun y1 =>
 bif (!y1) then
  some false
 else
 (N59 x0.f3).bind fun y2 =>
 bif (!y2) then
  some false
 else
 (N59 x0.f4).bind fun y3 =>
 bif (!y3) then
  some false
 else
 (P37 100000).l0 x0
theorem N37_le (x0 : S34) : Le (N37 x0) (F37 x0) := by rw [F37_eq]; unfold N37; exact le_b (N59_le _) fun _ => le_c (le_r _) (le_b (N59_le _) fun _ => le_c (le_r _) (le_b (N59_le _) fun _ => le_c (le_r _) ((P37_le 100000) _)))
def N188 (x0 : Int) : Option Int := bits_TrailingZeros64 x0
theorem N188_le (x0 : Int) : Le (N188 x0) (F188 x0) := le_e (F188_eq x0) (le_r _)
noncomputable def N129 (x0 : S102) : Option Int :=
 bif (x0.f1 != 0) then
  (N188 x0.f1).bind fun y1 =>
  some y1
 else
 (N188 x0.f0).bind fun y2 =>
 some (wr .i64 (64 + y2))
theorem N129_le (x0 : S102) : Le (N129 x0) (F129 x0) := by rw [F129_eq]; unfold N129; exact le_c (le_b (N188_le _) fun _ => le_r _) (le_b (N188_le _) fun _ => le_r _)
noncomputable def N189 (x0 : S102) (x1 : Int) : Option (S102) :=
 bif (decide (x1 ≥ 64)) then
  grd (decide (0 ≤ (wr .u64 (x1 - 64)))) <|
  some (S102.mk 0 (shrE .u64 x0.f0 (wr .u64 (x1 - 64))))
 else
 grd (decide (0 ≤ x1)) <|
 grd (decide (0 ≤ x1)) <|
 grd (decide (0 ≤ (wr .u64 (64 - x1)))) <|
 some (S102.mk (shrE .u64 x0.f0 x1) (orE .u64 (shrE .u64 x0.f1 x1) (shlE .u64 x0.f0 (wr .u64 (64 - x1)))))
theorem N189_le (x0 : S102) (x1 : Int) : Le (N189 x0 x1) (F189 x0 x1) := by rw [F189_eq]; unfold N189; exact le_r _
structure Q229 where
 l0 : Int → Int → Option Int
 l1 : Int → Int → Option Int
 l2 : Int → Int → Option Int
noncomputable def T229_0 (q : Q229) (x0 x1 : Int) : Option Int :=
 bif (decide (x0 ≥ 65536)) then
  q.l1 (shrE .u64 x0 (16 : Int)) (wr .i64 (x1 + 16))
 else
 q.l1 x0 x1
noncomputable def T229_1 (q : Q229) (x0 x1 : Int) : Option Int :=
 bif (decide (x0 ≥ 256)) then
  q.l2 (shrE .u64 x0 (8 : Int)) (wr .i64 (x1 + 8))
 else
 q.l2 x0 x1
noncomputable def T229_2 (q : Q229) (x0 x1 : Int) : Option Int :=
 grd (decide (0 ≤ (wr .u8 x0))) <|
 grd (decide ((wr .u8 x0) < 256)) <|
 some (wr .i64 (x1 + (wr .i64 (btE (ofBytes [0, 1, 2, 2, 3, 3, 3, 3, 4, 4, 4, 4, 4, 4, 4, 4, 5, 5, 5, 5, 5, 5, 5, 5, 5, 5, 5, 5, 5, 5, 5, 5, 6, 6, 6, 6, 6, 6, 6, 6, 6, 6, 6, 6, 6, 6, 6, 6, 6, 6, 6, 6, 6, 6, 6, 6, 6, 6, 6, 6, 6, 6, 6, 6, 7, 7, 7, 7, 7, 7, 7, 7, 7, 7, 7, 7, 7, 7, 7, 7, 7, 7, 7, 7, 7, 7, 7, 7, 7, 7, 7, 7, 7, 7, 7, 7, 7, 7, 7, 7, 7, 7, 7, 7, 7, 7, 7, 7, 7, 7, 7, 7, 7, 7, 7, 7, 7, 7, 7, 7, 7, 7, 7, 7, 7, 7, 7, 7, 8, 8, 8, 8, 8, 8, 8, 8, 8, 8, 8, 8, 8, 8, 8, 8, 8, 8, 8, 8, 8, 8, 8, 8, 8, 8, 8, 8, 8, 8, 8, 8, 8, 8, 8, 8, 8, 8, 8, 8, 8, 8, 8, 8, 8, 8, 8, 8, 8, 8, 8, 8, 8, 8, 8, 8, 8, 8, 8, 8, 8, 8, 8, 8, 8, 8, 8, 8, 8, 8, 8, 8, 8, 8, 8, 8, 8, 8, 8, 8, 8, 8, 8, 8, 8, 8, 8, 8, 8, 8, 8, 8, 8, 8, 8, 8, 8, 8, 8, 8, 8, 8, 8, 8, 8, 8, 8, 8, 8, 8, 8, 8, 8, 8, 8, 8, 8, 8, 8, 8, 8, 8, 8, 8, 8, 8, 8, 8]) (Int.toNat (wr .u8 x0))))))
noncomputable def P229 (n : Nat) : Q229 := Nat.rec ⟨fun _ _ => none, fun _ _ => none, fun _ _ => none⟩ (fun _ q => ⟨T229_0 q, T229_1 q, T229_2 q⟩) n
theorem P229_le : ∀ n, (∀ x0 x1, Le ((P229 n).l0 x0 x1) (L229_0 x0 x1)) ∧ (∀ x0 x1, Le ((P229 n).l1 x0 x1) (L229_1 x0 x1)) ∧ (∀ x0 x1, Le ((P229 n).l2 x0 x1) (L229_2 x0 x1)) := fun n => by
 induction n with
 | zero => exact ⟨fun x0 x1 => le_n _, fun x0 x1 => le_n _, fun x0 x1 => le_n _⟩
 | succ n ih => exact ⟨fun x0 x1 => by show Le (T229_0 (P229 n) x0 x1) _; rw [L229_0_eq]; unfold T229_0; exact le_c (ih.2.1 _ _) (ih.2.1 _ _),
  fun x0 x1 => by show Le (T229_1 (P229 n) x0 x1) _; rw [L229_1_eq]; unfold T229_1; exact le_c (ih.2.2 _ _) (ih.2.2 _ _),
  fun x0 x1 => by show Le (T229_2 (P229 n) x0 x1) _; rw [L229_2_eq]; unfold T229_2; exact le_r _⟩
noncomputable def N229 (x0 : Int) : Option Int :=
 bif (decide (x0 ≥ 4294967296)) then
  (P229 100000).l0 (shrE .u64 x0 (32 : Int)) 32
 else
 (P229 100000).l0 x0 0
theorem N229_le (x0 : Int) : Le (N229 x0) (F229 x0) := by rw [F229_eq]; unfold N229; exact le_c ((P229_le 100000).1 _ _) ((P229_le 100000).1 _ _)
noncomputable def N190 (x0 : S102) : Option Int :=
 bif (x0.f0 != 0) then
  (N229 x0.f0).bind fun y1 =>
  some (wr .i64 (64 + y1))
 else
 (N229 x0.f1).bind fun y2 =>
 some y2
theorem N190_le (x0 : S102) : Le (N190 x0) (F190 x0) := by rw [F190_eq]; unfold N190; exact le_c (le_b (N229_le _) fun _ => le_r _) (le_b (N229_le _) fun _ => le_r _)
noncomputable def N191 (x0 : S102) (x1 : Int) : Option (S102) :=
 bif (decide (x1 ≥ 64)) then
  grd (decide (0 ≤ (wr .u64 (x1 - 64)))) <|
  some (S102.mk (shlE .u64 x0.f1 (wr .u64 (x1 - 64))) 0)
 else
 grd (decide (0 ≤ x1)) <|
 grd (decide (0 ≤ (wr .u64 (64 - x1)))) <|
 grd (decide (0 ≤ x1)) <|
 some (S102.mk (orE .u64 (shlE .u64 x0.f0 x1) (shrE .u64 x0.f1 (wr .u64 (64 - x1)))) (shlE .u64 x0.f1 x1))
theorem N191_le (x0 : S102) (x1 : Int) : Le (N191 x0 x1) (F191 x0 x1) := by rw [F191_eq]; unfold N191; exact le_r _
structure Q130 where
 l0 : Int → S102 → S102 → Option (S102 × Int)
noncomputable def T130_0 (q : Q130) (x0 : Int) (x1 x2 : S102) : Option (S102 × Int) :=
 bif (decide (x0 < 0)) then
  (N189 x1 (wr .u64 (wr .i64 (0 - x0)))).bind fun y1 =>
  some (y1, 0)
 else
 (N190 x1).bind fun y2 =>
 bif (decide (x0 > (wr .i64 (128 - y2)))) then
  some ((S102.mk 0 0), 2)
 else
 (N191 x1 (wr .u64 x0)).bind fun y3 =>
 some (y3, 0)
noncomputable def P130 (n : Nat) : Q130 := Nat.rec ⟨fun _ _ _ => none⟩ (fun _ q => ⟨T130_0 q⟩) n
theorem P130_le : ∀ n, (∀ x0 x1 x2, Le ((P130 n).l0 x0 x1 x2) (L130_0 x0 x1 x2)) := fun n => by
 induction n with
 | zero => exact fun x0 x1 x2 => le_n _
 | succ n ih => exact fun x0 x1 x2 => by show Le (T130_0 (P130 n) x0 x1 x2) _; rw [L130_0_eq]; unfold T130_0; exact le_c (le_b (N189_le _ _) fun _ => le_r _) (le_b (N190_le _) fun _ => le_c (le_r _) (le_b (N191_le _ _) fun _ => le_r _))
noncomputable def N130 (x0 : S102) (x1 : Int) : Option (S102 × Int) :=
 bif ((x0.f0 == 0) && (x0.f1 == 0)) then
  some ((S102.mk 0 0), 0)
 else
 bif (decide (x1 ≤ (-128))) then
  some ((S102.mk 0 0), 0)
 else
 (P130 100000).l0 x1 x0 (S102.mk 0 0)
theorem N130_le (x0 : S102) (x1 : Int) : Le (N130 x0 x1) (F130 x0 x1) := by rw [F130_eq]; unfold N130; exact le_c (le_r _) (le_c (le_r _) ((P130_le 100000) _ _ _))
structure Q192 where
 l0 : Int → List Int → Int → Int → Option Int
noncomputable def T192_0 (q : Q192) (x0 : Int) (x1 : List Int) (x2 x3 : Int) : Option Int :=
 bif (decide (x3 < x2)) then
  grd (decide (0 ≤ x3)) <|
  grd (decide (x3 < (x1.length : Int))) <|
  bif ((x1.getD (Int.toNat x3) 0) != x0) then
   some (x1.getD (Int.toNat x3) 0)
  else
  q.l0 x0 x1 x2 (wr .i64 (x3 + 1))
 else
 some x0
noncomputable def P192 (n : Nat) : Q192 := Nat.rec ⟨fun _ _ _ _ => none⟩ (fun _ q => ⟨T192_0 q⟩) n
theorem P192_le : ∀ n, (∀ x0 x1 x2 x3, Le ((P192 n).l0 x0 x1 x2 x3) (L192_0 x0 x1 x2 x3)) := fun n => by
 induction n with
 | zero => exact fun x0 x1 x2 x3 => le_n _
 | succ n ih => exact fun x0 x1 x2 x3 => by show Le (T192_0 (P192 n) x0 x1 x2 x3) _; rw [L192_0_eq]; unfold T192_0; exact le_c (le_g (le_g (le_c (le_r _) (ih _ _ _ _)))) (le_r _)
noncomputable def N192 (x0 : List Int) : Option Int :=
 (P192 100000).l0 0 x0 (x0.length : Int) 0
theorem N192_le (x0 : List Int) : Le (N192 x0) (F192 x0) := by rw [F192_eq]; unfold N192; exact (P192_le 100000) _ _ _ _
noncomputable def N230 (x0 : Int) : Option Bool :=
 some (x0 != x0)
theorem N230_le (x0 : Int) : Le (N230 x0) (F230 x0) := by rw [F230_eq]; unfold N230; exact le_r _
noncomputable def N193 (x0 x1 : Int) : Option Int :=
 (N230 x0).bind fun y1 =>
 (N230 x1).bind fun y2 =>
 bif y1 then
  bif y2 then
   some 0
  else
  some (-1)
 else
 bif y2 then
  some 1
 else
 bif (decide (x0 < x1)) then
  some (-1)
 else
 bif (decide (x0 > x1)) then
  some 1
 else
 some 0
theorem N193_le (x0 x1 : Int) : Le (N193 x0 x1) (F193 x0 x1) := by rw [F193_eq]; unfold N193; exact le_b (N230_le _) fun _ => le_b (N230_le _) fun _ => le_r _
noncomputable def N131 (x0 x1 : S102) : Option Int :=
 (N193 x0.f0 x1.f0).bind fun y1 =>
 (N193 x0.f1 x1.f1).bind fun y2 =>
 (N192 [y1, y2]).bind fun y3 =>
 some y3
theorem N131_le (x0 x1 : S102) : Le (N131 x0 x1) (F131 x0 x1) := by rw [F131_eq]; unfold N131; exact le_b (N193_le _ _) fun _ => le_b (N193_le _ _) fun _ => le_b (N192_le _) fun _ => le_r _
def N194 (x0 x1 x2 : Int) : Option (Int × Int) := bits_Sub64 x0 x1 x2
theorem N194_le (x0 x1 x2 : Int) : Le (N194 x0 x1 x2) (F194 x0 x1 x2) := le_e (F194_eq x0 x1 x2) (le_r _)
noncomputable def N132 (x0 x1 : S102) : Option (S102 × Int) :=
 (N194 x0.f1 x1.f1 0).bind fun y1 =>
 (N194 x0.f0 x1.f0 y1.2).bind fun y2 =>
 bif (y2.2 != 0) then
  some ((S102.mk 0 0), 2)
 else
 some ((S102.mk y2.1 y1.1), 0)
theorem N132_le (x0 x1 : S102) : Le (N132 x0 x1) (F132 x0 x1) := by rw [F132_eq]; unfold N132; exact le_b (N194_le _ _ _) fun _ => le_b (N194_le _ _ _) fun _ => le_r _
structure Q77 where
 l0 : S102 → S102 → S102 → Int → Option (S102)
 l1 : S102 → S102 → S102 → Int → Option (S102)
noncomputable def T77_0 (q : Q77) (x0 x1 x2 : S102) (x3 : Int) : Option (S102) :=
 bif (!((x1.f0 == 0) && (x1.f1 == 0))) then
  (N129 x1).bind fun y1 =>
  (N130 x1 (wr .i64 (0 - y1))).bind fun y2 =>
  (N131 x0 y2.1).bind fun y3 =>
  bif (decide (y3 > 0)) then
   q.l1 y2.1 x0 x2 x3
  else
  q.l1 x0 y2.1 x2 x3
 else
 (N130 x0 x3).bind fun y4 =>
 some y4.1
noncomputable def T77_1 (q : Q77) (x0 x1 x2 : S102) (x3 : Int) : Option (S102) :=
 (N132 x1 x0).bind fun y1 =>
 q.l0 x0 y1.1 x2 x3
noncomputable def P77 (n : Nat) : Q77 := Nat.rec ⟨fun _ _ _ _ => none, fun _ _ _ _ => none⟩ (fun _ q => ⟨T77_0 q, T77_1 q⟩) n
theorem P77_le : ∀ n, (∀ x0 x1 x2 x3, Le ((P77 n).l0 x0 x1 x2 x3) (L77_0 x0 x1 x2 x3)) ∧ (∀ x0 x1 x2 x3, Le ((P77 n).l1 x0 x1 x2 x3) (L77_1 x0 x1 x2 x3)) := fun n => by
 induction n with
 | zero => exact ⟨fun x0 x1 x2 x3 => le_n _, fun x0 x1 x2 x3 => le_n _⟩
 | succ n ih => exact ⟨fun x0 x1 x2 x3 => by show Le (T77_0 (P77 n) x0 x1 x2 x3) _; rw [L77_0_eq]; unfold T77_0; exact le_c (le_b (N129_le _) fun _ => le_b (N130_le _ _) fun _ => le_b (N131_le _ _) fun _ => le_c (ih.2 _ _ _ _) (ih.2 _ _ _ _)) (le_b (N130_le _ _) fun _ => le_r _),
  fun x0 x1 x2 x3 => by show Le (T77_1 (P77 n) x0 x1 x2 x3) _; rw [L77_1_eq]; unfold T77_1; exact le_b (N132_le _ _) fun _ => ih.1 _ _ _ _⟩
noncomputable def N77 (x0 x1 : S102) : Option (S102) :=
 bif ((x0.f0 == 0) && (x0.f1 == 0)) then
  some x1
 else
 bif ((x1.f0 == 0) && (x1.f1 == 0)) then
  some x0
 else
 (N129 x0).bind fun y1 =>
 (N129 x1).bind fun y2 =>
 (N129 x0).bind fun y3 =>
 (N130 x0 (wr .i64 (0 - y3))).bind fun y4 =>
 (P77 100000).l0 y4.1 x1 (S102.mk 0 0) (mnE y1 y2)
theorem N77_le (x0 x1 : S102) : Le (N77 x0 x1) (F77 x0 x1) := by rw [F77_eq]; unfold N77; exact le_c (le_r _) (le_c (le_r _) (le_b (N129_le _) fun _ => le_b (N129_le _) fun _ => le_b (N129_le _) fun _ => le_b (N130_le _ _) fun _ => (P77_le 100000).1 _ _ _ _))
noncomputable def N78 (x0 : Int) : Option (S102) :=
 some (S102.mk 0 x0)
theorem N78_le (x0 : Int) : Le (N78 x0) (F78 x0) := by rw [F78_eq]; unfold N78; exact le_r _
noncomputable def N79 (x0 : Int) : Option Int :=
 bif (decide (x0 < 0)) then
  some (wr .u64 (0 - (wr .u64 x0)))
 else
 some (wr .u64 x0)
theorem N79_le (x0 : Int) : Le (N79 x0) (F79 x0) := by rw [F79_eq]; unfold N79; exact le_r _
noncomputable def N38 (x0 : S37) : Option Bool :=
 bif (decide (x0.f1 > 0)) then
  (N79 x0.f0).bind fun y1 =>
  (N78 y1).bind fun y2 =>
  (N79 x0.f1).bind fun y3 =>
  (N78 y3).bind fun y4 =>
  (N77 y2 y4).bind fun y5 =>
  some ((y5.f0 == 0) && (y5.f1 == 1))
 else
 some false
theorem N38_le (x0 : S37) : Le (N38 x0) (F38 x0) := by rw [F38_eq]; unfold N38; exact le_c (le_b (N79_le _) fun _ => le_b (N78_le _) fun _ => le_b (N79_le _) fun _ => le_b (N78_le _) fun _ => le_b (N77_le _ _) fun _ => le_r _) (le_r _)
noncomputable def N250 (x0 : Int) : Option Int :=
 (N229 x0).bind fun y1 =>
 some (wr .i64 (64 - y1))
theorem N250_le (x0 : Int) : Le (N250 x0) (F250 x0) := by rw [F250_eq]; unfold N250; exact le_b (N229_le _) fun _ => le_r _
structure Q244 where
 l0 : Int → Int → Int → Option (Int × Int)
 l1 : Int → Int → Int → Option (Int × Int)
 l2 : Int → Int → Int → Int → Int → Int → Int → Int → Option (Int × Int)
 l3 : Int → Int → Int → Int → Int → Int → Int → Int → Int → Option (Int × Int)
 l4 : Int → Int → Int → Int → Int → Int → Int → Int → Int → Option (Int × Int)
 l5 : Int → Int → Int → Int → Int → Int → Option (Int × Int)
 l6 : Int → Int → Int → Int → Int → Int → Int → Int → Int → Option (Int × Int)
 l7 : Int → Int → Int → Int → Int → Int → Int → Int → Int → Option (Int × Int)
noncomputable def T244_0 (q : Q244) (x0 x1 x2 : Int) : Option (Int × Int) :=
 bif (decide (x2 ≤ x0)) then
  none
 else
 q.l1 x0 x1 x2
noncomputable def T244_1 (q : Q244) (x0 x1 x2 : Int) : Option (Int × Int) :=
 bif (x0 == 0) then
  bif (decide (x2 = 0)) then
   none
  else
  bif (decide (x2 = 0)) then
   none
  else
  some ((wr .u64 (Int.tdiv x1 x2)), (Int.tmod x1 x2))
 else
 (N250 x2).bind fun y1 =>
 grd (decide (0 ≤ (wr .u64 y1))) <|
 grd (decide (0 ≤ (wr .u64 y1))) <|
 grd (decide (0 ≤ (wr .u64 (64 - (wr .u64 y1))))) <|
 grd (decide (0 ≤ (wr .u64 y1))) <|
 bif (decide ((shrE .u64 (shlE .u64 x2 (wr .u64 y1)) (32 : Int)) = 0)) then
  none
 else
 q.l3 (shlE .u64 x2 (wr .u64 y1)) (wr .u64 y1) (shrE .u64 (shlE .u64 x2 (wr .u64 y1)) (32 : Int)) (andE .u64 (shlE .u64 x2 (wr .u64 y1)) (4294967295 : Int)) (orE .u64 (shlE .u64 x0 (wr .u64 y1)) (shrE .u64 x1 (wr .u64 (64 - (wr .u64 y1))))) (shrE .u64 (shlE .u64 x1 (wr .u64 y1)) (32 : Int)) (andE .u64 (shlE .u64 x1 (wr .u64 y1)) (4294967295 : Int)) (wr .u64 (Int.tdiv (orE .u64 (shlE .u64 x0 (wr .u64 y1)) (shrE .u64 x1 (wr .u64 (64 - (wr .u64 y1))))) (shrE .u64 (shlE .u64 x2 (wr .u64 y1)) (32 : Int)))) (wr .u64 ((orE .u64 (shlE .u64 x0 (wr .u64 y1)) (shrE .u64 x1 (wr .u64 (64 - (wr .u64 y1))))) - (wr .u64 ((wr .u64 (Int.tdiv (orE .u64 (shlE .u64 x0 (wr .u64 y1)) (shrE .u64 x1 (wr .u64 (64 - (wr .u64 y1))))) (shrE .u64 (shlE .u64 x2 (wr .u64 y1)) (32 : Int)))) * (shrE .u64 (shlE .u64 x2 (wr .u64 y1)) (32 : Int))))))
noncomputable def T244_2 (q : Q244) (x0 x1 x2 x3 x4 x5 x6 x7 : Int) : Option (Int × Int) :=
 bif (decide (x2 = 0)) then
  none
 else
 q.l6 x0 x1 x2 x3 x6 x7 (wr .u64 ((wr .u64 ((wr .u64 ((wr .u64 (x4 * 4294967296)) + x5)) - (wr .u64 (x7 * x0)))) - (wr .u64 ((wr .u64 (Int.tdiv (wr .u64 ((wr .u64 ((wr .u64 (x4 * 4294967296)) + x5)) - (wr .u64 (x7 * x0)))) x2)) * x2)))) (wr .u64 ((wr .u64 ((wr .u64 (x4 * 4294967296)) + x5)) - (wr .u64 (x7 * x0)))) (wr .u64 (Int.tdiv (wr .u64 ((wr .u64 ((wr .u64 (x4 * 4294967296)) + x5)) - (wr .u64 (x7 * x0)))) x2))
noncomputable def T244_3 (q : Q244) (x0 x1 x2 x3 x4 x5 x6 x7 x8 : Int) : Option (Int × Int) :=
 bif (decide (x7 ≥ 4294967296)) then
  q.l4 x0 x1 x2 x3 x4 x5 x6 x7 x8
 else
 bif (decide ((wr .u64 (x7 * x3)) > (wr .u64 ((wr .u64 (4294967296 * x8)) + x5)))) then
  q.l4 x0 x1 x2 x3 x4 x5 x6 x7 x8
 else
 q.l2 x0 x1 x2 x3 x4 x5 x6 x7
noncomputable def T244_4 (q : Q244) (x0 x1 x2 x3 x4 x5 x6 x7 x8 : Int) : Option (Int × Int) :=
 bif (decide ((wr .u64 (x8 + x2)) ≥ 4294967296)) then
  q.l2 x0 x1 x2 x3 x4 x5 x6 (wr .u64 (x7 - 1))
 else
 q.l3 x0 x1 x2 x3 x4 x5 x6 (wr .u64 (x7 - 1)) (wr .u64 (x8 + x2))
noncomputable def T244_5 (q : Q244) (x0 x1 x2 x3 x4 x5 : Int) : Option (Int × Int) :=
 grd (decide (0 ≤ x1)) <|
 some ((wr .u64 ((wr .u64 (x3 * 4294967296)) + x5)), (shrE .u64 (wr .u64 ((wr .u64 ((wr .u64 (x4 * 4294967296)) + x2)) - (wr .u64 (x5 * x0)))) x1))
noncomputable def T244_6 (q : Q244) (x0 x1 x2 x3 x4 x5 x6 x7 x8 : Int) : Option (Int × Int) :=
 bif (decide (x8 ≥ 4294967296)) then
  q.l7 x0 x1 x2 x3 x4 x5 x6 x7 x8
 else
 bif (decide ((wr .u64 (x8 * x3)) > (wr .u64 ((wr .u64 (4294967296 * x6)) + x4)))) then
  q.l7 x0 x1 x2 x3 x4 x5 x6 x7 x8
 else
 q.l5 x0 x1 x4 x5 x7 x8
noncomputable def T244_7 (q : Q244) (x0 x1 x2 x3 x4 x5 x6 x7 x8 : Int) : Option (Int × Int) :=
 bif (decide ((wr .u64 (x6 + x2)) ≥ 4294967296)) then
  q.l5 x0 x1 x4 x5 x7 (wr .u64 (x8 - 1))
 else
 q.l6 x0 x1 x2 x3 x4 x5 (wr .u64 (x6 + x2)) x7 (wr .u64 (x8 - 1))
noncomputable def P244 (n : Nat) : Q244 := Nat.rec ⟨fun _ _ _ => none, fun _ _ _ => none, fun _ _ _ _ _ _ _ _ => none, fun _ _ _ _ _ _ _ _ _ => none, fun _ _ _ _ _ _ _ _ _ => none, fun _ _ _ _ _ _ => none, fun _ _ _ _ _ _ _ _ _ => none, fun _ _ _ _ _ _ _ _ _ => none⟩ (fun _ q => ⟨T244_0 q, T244_1 q, T244_2 q, T244_3 q, T244_4 q, T244_5 q, T244_6 q, T244_7 q⟩) n
theorem P244_le : ∀ n, (∀ x0 x1 x2, Le ((P244 n).l0 x0 x1 x2) (L244_0 x0 x1 x2)) ∧ (∀ x0 x1 x2, Le ((P244 n).l1 x0 x1 x2) (L244_1 x0 x1 x2)) ∧ (∀ x0 x1 x2 x3 x4 x5 x6 x7, Le ((P244 n).l2 x0 x1 x2 x3 x4 x5 x6 x7) (L244_2 x0 x1 x2 x3 x4 x5 x6 x7)) ∧ (∀ x0 x1 x2 x3 x4 x5 x6 x7 x8, Le ((P244 n).l3 x0 x1 x2 x3 x4 x5 x6 x7 x8) (L244_3 x0 x1 x2 x3 x4 x5 x6 x7 x8)) ∧ (∀ x0 x1 x2 x3 x4 x5 x6 x7 x8, Le ((P244 n).l4 x0 x1 x2 x3 x4 x5 x6 x7 x8) (L244_4 x0 x1 x2 x3 x4 x5 x6 x7 x8)) ∧ (∀ x0 x1 x2 x3 x4 x5, Le ((P244 n).l5 x0 x1 x2 x3 x4 x5) (L244_5 x0 x1 x2 x3 x4 x5)) ∧ (∀ x0 x1 x2 x3 x4 x5 x6 x7 x8, Le ((P244 n).l6 x0 x1 x2 x3 x4 x5 x6 x7 x8) (L244_6 x0 x1 x2 x3 x4 x5 x6 x7 x8)) ∧ (∀ x0 x1 x2 x3 x4 x5 x6 x7 x8, Le ((P244 n).l7 x0 x1 x2 x3 x4 x5 x6 x7 x8) (L244_7 x0 x1 x2 x3 x4 x5 x6 x7 x8)) := fun n => by
 induction n with
 | zero => exact ⟨fun x0 x1 x2 => le_n _, fun x0 x1 x2 => le_n _, fun x0 x1 x2 x3 x4 x5 x6 x7 => le_n _, fun x0 x1 x2 x3 x4 x5 x6 x7 x8 => le_n _, fun x0 x1 x2 x3 x4 x5 x6 x7 x8 => le_n _, fun x0 x1 x2 x3 x4 x5 => le_n _, fun x0 x1 x2 x3 x4 x5 x6 x7 x8 => le_n _, fun x0 x1 x2 x3 x4 x5 x6 x7 x8 => le_n _⟩
 | succ n ih => exact ⟨fun x0 x1 x2 => by show Le (T244_0 (P244 n) x0 x1 x2) _; rw [L244_0_eq]; unfold T244_0; exact le_c (le_r _) (ih.2.1 _ _ _),
  fun x0 x1 x2 => by show Le (T244_1 (P244 n) x0 x1 x2) _; rw [L244_1_eq]; unfold T244_1; exact le_c (le_r _) (le_b (N250_le _) fun _ => le_g (le_g (le_g (le_g (le_c (le_r _) (ih.2.2.2.1 _ _ _ _ _ _ _ _ _)))))),
  fun x0 x1 x2 x3 x4 x5 x6 x7 => by show Le (T244_2 (P244 n) x0 x1 x2 x3 x4 x5 x6 x7) _; rw [L244_2_eq]; unfold T244_2; exact le_c (le_r _) (ih.2.2.2.2.2.2.1 _ _ _ _ _ _ _ _ _),
  fun x0 x1 x2 x3 x4 x5 x6 x7 x8 => by show Le (T244_3 (P244 n) x0 x1 x2 x3 x4 x5 x6 x7 x8) _; rw [L244_3_eq]; unfold T244_3; exact le_c (ih.2.2.2.2.1 _ _ _ _ _ _ _ _ _) (le_c (ih.2.2.2.2.1 _ _ _ _ _ _ _ _ _) (ih.2.2.1 _ _ _ _ _ _ _ _)),
  fun x0 x1 x2 x3 x4 x5 x6 x7 x8 => by show Le (T244_4 (P244 n) x0 x1 x2 x3 x4 x5 x6 x7 x8) _; rw [L244_4_eq]; unfold T244_4; exact le_c (ih.2.2.1 _ _ _ _ _ _ _ _) (ih.2.2.2.1 _ _ _ _ _ _ _ _ _),
  fun x0 x1 x2 x3 x4 x5 => by show Le (T244_5 (P244 n) x0 x1 x2 x3 x4 x5) _; rw [L244_5_eq]; unfold T244_5; exact le_r _,
  fun x0 x1 x2 x3 x4 x5 x6 x7 x8 => by show Le (T244_6 (P244 n) x0 x1 x2 x3 x4 x5 x6 x7 x8) _; rw [L244_6_eq]; unfold T244_6; exact le_c (ih.2.2.2.2.2.2.2 _ _ _ _ _ _ _ _ _) (le_c (ih.2.2.2.2.2.2.2 _ _ _ _ _ _ _ _ _) (ih.2.2.2.2.2.1 _ _ _ _ _ _)),
  fun x0 x1 x2 x3 x4 x5 x6 x7 x8 => by show Le (T244_7 (P244 n) x0 x1 x2 x3 x4 x5 x6 x7 x8) _; rw [L244_7_eq]; unfold T244_7; exact le_c (ih.2.2.2.2.2.1 _ _ _ _ _ _) (ih.2.2.2.2.2.2.1 _ _ _ _ _ _ _ _ _)⟩
noncomputable def N244 (x0 x1 x2 : Int) : Option (Int × Int) :=
 bif (x2 == 0) then
  none
 else
 (P244 100000).l0 x0 x1 x2
theorem N244_le (x0 x1 x2 : Int) : Le (N244 x0 x1 x2) (F244 x0 x1 x2) := by rw [F244_eq]; unfold N244; exact le_c (le_r _) ((P244_le 100000).1 _ _ _)
noncomputable def N231 (x0 : S102) (x1 : Int) : Option (S102 × Int × Int) :=
 bif (x1 == 0) then
  some ((S102.mk 0 0), (0, 13))
 else
 bif (decide (x1 = 0)) then
  none
 else
 bif (decide (x1 = 0)) then
  none
 else
 (N244 (Int.tmod x0.f0 x1) x0.f1 x1).bind fun y1 =>
 some ((S102.mk (wr .u64 (Int.tdiv x0.f0 x1)) y1.1), (y1.2, 0))
theorem N231_le (x0 : S102) (x1 : Int) : Le (N231 x0 x1) (F231 x0 x1) := by rw [F231_eq]; unfold N231; exact le_c (le_r _) (le_c (le_r _) (le_c (le_r _) (le_b (N244_le _ _ _) fun _ => le_r _)))
structure Q195 where
 l0 : S102 → S102 → S102 → S102 → Int → Option (S102)
 l1 : S102 → S102 → S102 → S102 → Int → S102 → Option (S102)
noncomputable def T195_0 (q : Q195) (x0 x1 x2 x3 : S102) (x4 : Int) : Option (S102) :=
 bif (decide (x4 ≥ 0)) then
  (N130 x1 x4).bind fun y1 =>
  bif (y1.2 == 0) then
   (N131 x0 y1.1).bind fun y2 =>
   bif (decide (y2 ≥ 0)) then
    q.l1 x0 x1 x2 x3 x4 y1.1
   else
   q.l0 x0 x1 x2 x3 (wr .i64 (x4 - 1))
  else
  q.l0 x0 x1 x2 x3 (wr .i64 (x4 - 1))
 else
 some x3
noncomputable def T195_1 (q : Q195) (x0 x1 x2 x3 : S102) (x4 : Int) (x5 : S102) : Option (S102) :=
 (N132 x0 x5).bind fun y1 =>
 grd (decide (0 ≤ x4)) <|
 q.l0 y1.1 x1 x2 (S102.mk x3.f0 (orE .u64 x3.f1 (shlE .u64 (1 : Int) x4))) (wr .i64 (x4 - 1))
noncomputable def P195 (n : Nat) : Q195 := Nat.rec ⟨fun _ _ _ _ _ => none, fun _ _ _ _ _ _ => none⟩ (fun _ q => ⟨T195_0 q, T195_1 q⟩) n
theorem P195_le : ∀ n, (∀ x0 x1 x2 x3 x4, Le ((P195 n).l0 x0 x1 x2 x3 x4) (L195_0 x0 x1 x2 x3 x4)) ∧ (∀ x0 x1 x2 x3 x4 x5, Le ((P195 n).l1 x0 x1 x2 x3 x4 x5) (L195_1 x0 x1 x2 x3 x4 x5)) := fun n => by
 induction n with
 | zero => exact ⟨fun x0 x1 x2 x3 x4 => le_n _, fun x0 x1 x2 x3 x4 x5 => le_n _⟩
 | succ n ih => exact ⟨fun x0 x1 x2 x3 x4 => by show Le (T195_0 (P195 n) x0 x1 x2 x3 x4) _; rw [L195_0_eq]; unfold T195_0; exact le_c (le_b (N130_le _ _) fun _ => le_c (le_b (N131_le _ _) fun _ => le_c (ih.2 _ _ _ _ _ _) (ih.1 _ _ _ _ _)) (ih.1 _ _ _ _ _)) (le_r _),
  fun x0 x1 x2 x3 x4 x5 => by show Le (T195_1 (P195 n) x0 x1 x2 x3 x4 x5) _; rw [L195_1_eq]; unfold T195_1; exact le_b (N132_le _ _) fun _ => le_g (ih.1 _ _ _ _ _)⟩
noncomputable def N195 (x0 x1 : S102) : Option (S102) :=
 bif (x1.f0 == 0) then
  (N231 x0 x1.f1).bind fun y1 =>
  some y1.1
 else
 (P195 100000).l0 x0 x1 (S102.mk 0 0) (S102.mk 0 0) 63
theorem N195_le (x0 x1 : S102) : Le (N195 x0 x1) (F195 x0 x1) := by rw [F195_eq]; unfold N195; exact le_c (le_b (N231_le _ _) fun _ => le_r _) ((P195_le 100000).1 _ _ _ _ _)
structure Q196 where
 l0 : Bool → S102 → Option (Int × Bool)
noncomputable def T196_0 (q : Q196) (x0 : Bool) (x1 : S102) : Option (Int × Bool) :=
 bif x0 then
  some ((wr .i64 (wr .u64 (0 - x1.f1))), true)
 else
 some ((wr .i64 x1.f1), true)
noncomputable def P196 (n : Nat) : Q196 := Nat.rec ⟨fun _ _ => none⟩ (fun _ q => ⟨T196_0 q⟩) n
theorem P196_le : ∀ n, (∀ x0 x1, Le ((P196 n).l0 x0 x1) (L196_0 x0 x1)) := fun n => by
 induction n with
 | zero => exact fun x0 x1 => le_n _
 | succ n ih => exact fun x0 x1 => by show Le (T196_0 (P196 n) x0 x1) _; rw [L196_0_eq]; unfold T196_0; exact le_r _
noncomputable def N196 (x0 : Bool) (x1 : S102) : Option (Int × Bool) :=
 bif (x1.f0 != 0) then
  some (0, false)
 else
 bif (decide (x1.f1 > 9223372036854775808)) then
  some (0, false)
 else
 bif (x1.f1 == 9223372036854775808) then
  bif (!x0) then
   some (0, false)
  else
  (P196 100000).l0 x0 x1
 else
 (P196 100000).l0 x0 x1
theorem N196_le (x0 : Bool) (x1 : S102) : Le (N196 x0 x1) (F196 x0 x1) := by rw [F196_eq]; unfold N196; exact le_c (le_r _) (le_c (le_r _) (le_c (le_c (le_r _) ((P196_le 100000) _ _)) ((P196_le 100000) _ _)))
structure Q133 where
 l0 : S37 → S102 → Int → Bool → Option (S37 × Int)
noncomputable def T133_0 (q : Q133) (x0 : S37) (x1 : S102) (x2 : Int) (x3 : Bool) : Option (S37 × Int) :=
 (N196 false x1).bind fun y1 =>
 bif (!x3) then
  some ((S37.mk 0 0), 2)
 else
 bif (!y1.2) then
  some ((S37.mk 0 0), 2)
 else
 some ((S37.mk x2 y1.1), 0)
noncomputable def P133 (n : Nat) : Q133 := Nat.rec ⟨fun _ _ _ _ => none⟩ (fun _ q => ⟨T133_0 q⟩) n
theorem P133_le : ∀ n, (∀ x0 x1 x2 x3, Le ((P133 n).l0 x0 x1 x2 x3) (L133_0 x0 x1 x2 x3)) := fun n => by
 induction n with
 | zero => exact fun x0 x1 x2 x3 => le_n _
 | succ n ih => exact fun x0 x1 x2 x3 => by show Le (T133_0 (P133 n) x0 x1 x2 x3) _; rw [L133_0_eq]; unfold T133_0; exact le_b (N196_le _ _) fun _ => le_r _
noncomputable def N133 (x0 x1 : S160) : Option (S37 × Int) :=
 (N77 x0.f1 x1.f1).bind fun y1 =>
 (N195 x0.f1 y1).bind fun y2 =>
 (N195 x1.f1 y1).bind fun y3 =>
 bif (!(x0.f0 == x1.f0)) then
  (N196 (!((y2.f0 == 0) && (y2.f1 == 0))) y2).bind fun y4 =>
  (P133 100000).l0 (S37.mk 0 0) y3 y4.1 y4.2
 else
 (N196 false y2).bind fun y5 =>
 (P133 100000).l0 (S37.mk 0 0) y3 y5.1 y5.2
theorem N133_le (x0 x1 : S160) : Le (N133 x0 x1) (F133 x0 x1) := by rw [F133_eq]; unfold N133; exact le_b (N77_le _ _) fun _ => le_b (N195_le _ _) fun _ => le_b (N195_le _ _) fun _ => le_c (le_b (N196_le _ _) fun _ => (P133_le 100000) _ _ _ _) (le_b (N196_le _ _) fun _ => (P133_le 100000) _ _ _ _)
noncomputable def N153 (x0 x1 : Int) : Option (Int × Int) :=
 some ((wr .u64 ((wr .u64 ((wr .u64 ((shrE .u64 x0 (32 : Int)) * (shrE .u64 x1 (32 : Int)))) + (shrE .u64 (wr .u64 ((wr .u64 ((shrE .u64 x0 (32 : Int)) * (andE .u64 x1 (4294967295 : Int)))) + (shrE .u64 (wr .u64 ((andE .u64 x0 (4294967295 : Int)) * (andE .u64 x1 (4294967295 : Int)))) (32 : Int)))) (32 : Int)))) + (shrE .u64 (wr .u64 ((andE .u64 (wr .u64 ((wr .u64 ((shrE .u64 x0 (32 : Int)) * (andE .u64 x1 (4294967295 : Int)))) + (shrE .u64 (wr .u64 ((andE .u64 x0 (4294967295 : Int)) * (andE .u64 x1 (4294967295 : Int)))) (32 : Int)))) (4294967295 : Int)) + (wr .u64 ((andE .u64 x0 (4294967295 : Int)) * (shrE .u64 x1 (32 : Int)))))) (32 : Int)))), (wr .u64 (x0 * x1)))
theorem N153_le (x0 x1 : Int) : Le (N153 x0 x1) (F153 x0 x1) := by rw [F153_eq]; unfold N153; exact le_r _
noncomputable def N93 (x0 x1 : Int) : Option (S102) :=
 (N153 x0 x1).bind fun y1 =>
 some (S102.mk y1.1 y1.2)
theorem N93_le (x0 x1 : Int) : Le (N93 x0 x1) (F93 x0 x1) := by rw [F93_eq]; unfold N93; exact le_b (N153_le _ _) fun _ => le_r _
noncomputable def N134 (x0 x1 : Int) : Option (S160) :=
 (N79 x0).bind fun y1 =>
 (N79 x1).bind fun y2 =>
 (N93 y1 y2).bind fun y3 =>
 some (S160.mk (!((decide (x0 < 0)) == (decide (x1 < 0)))) y3)
theorem N134_le (x0 x1 : Int) : Le (N134 x0 x1) (F134 x0 x1) := by rw [F134_eq]; unfold N134; exact le_b (N79_le _) fun _ => le_b (N79_le _) fun _ => le_b (N93_le _ _) fun _ => le_r _
noncomputable def N80 (x0 x1 : Int) : Option (S37 × Int) :=
 bif (x1 == 0) then
  some ((S37.mk 0 0), 13)
 else
 (N134 x0 1).bind fun y1 =>
 (N134 x1 1).bind fun y2 =>
 (N133 y1 y2).bind fun y3 =>
 some y3
theorem N80_le (x0 x1 : Int) : Le (N80 x0 x1) (F80 x0 x1) := by rw [F80_eq]; unfold N80; exact le_c (le_r _) (le_b (N134_le _ _) fun _ => le_b (N134_le _ _) fun _ => le_b (N133_le _ _) fun _ => le_r _)
structure Q39 where
 l0 : S37 → Int → Int → Option (S37)
noncomputable def T39_0 (q : Q39) (x0 : S37) (x1 x2 : Int) : Option (S37) :=
 (N80 x2 x1).bind fun y1 =>
 some y1.1
noncomputable def P39 (n : Nat) : Q39 := Nat.rec ⟨fun _ _ _ => none⟩ (fun _ q => ⟨T39_0 q⟩) n
theorem P39_le : ∀ n, (∀ x0 x1 x2, Le ((P39 n).l0 x0 x1 x2) (L39_0 x0 x1 x2)) := fun n => by
 induction n with
 | zero => exact fun x0 x1 x2 => le_n _
 | succ n ih => exact fun x0 x1 x2 => by show Le (T39_0 (P39 n) x0 x1 x2) _; rw [L39_0_eq]; unfold T39_0; exact le_b (N80_le _ _) fun _ => le_r _
noncomputable def N39 (x0 : Bool) (x1 x2 x3 : Int) (x4 : S37) : Option (S37) :=
 bif x0 then
  (P39 100000).l0 (S37.mk 0 0) (wr .i64 (x4.f1 * x4.f1)) (wr .i64 ((wr .i64 ((wr .i64 (x1 * (wr .i64 (x4.f1 * x4.f1)))) + (wr .i64 ((wr .i64 ((wr .i64 (2 * (wr .i64 (x2 - x1)))) * x4.f0)) * x4.f1)))) + (wr .i64 ((wr .i64 ((wr .i64 ((wr .i64 (x1 - (wr .i64 (2 * x2)))) + x3)) * x4.f0)) * x4.f0))))
 else
 (P39 100000).l0 (S37.mk 0 0) x4.f1 (wr .i64 ((wr .i64 (x1 * x4.f1)) + (wr .i64 ((wr .i64 (x3 - x1)) * x4.f0))))
theorem N39_le (x0 : Bool) (x1 x2 x3 : Int) (x4 : S37) : Le (N39 x0 x1 x2 x3 x4) (F39 x0 x1 x2 x3 x4) := by rw [F39_eq]; unfold N39; exact le_c ((P39_le 100000) _ _ _) ((P39_le 100000) _ _ _)
structure Q19 where
 l0 : S34 → S37 → S37 → S37 → Option (S37 × S37 × Int)
noncomputable def T19_0 (q : Q19) (x0 : S34) (x1 x2 x3 : S37) : Option (S37 × S37 × Int) :=
 (N39 x0.f1 x0.f2.f0 x0.f3.f0 x0.f4.f0 x1).bind fun y1 =>
 (N39 x0.f1 x0.f2.f1 x0.f3.f1 x0.f4.f1 x1).bind fun y2 =>
 some (y1, (y2, 0))
noncomputable def P19 (n : Nat) : Q19 := Nat.rec ⟨fun _ _ _ _ => none⟩ (fun _ q => ⟨T19_0 q⟩) n
theorem P19_le : ∀ n, (∀ x0 x1 x2 x3, Le ((P19 n).l0 x0 x1 x2 x3) (L19_0 x0 x1 x2 x3)) := fun n => by
 induction n with
 | zero => exact fun x0 x1 x2 x3 => le_n _
 | succ n ih => exact fun x0 x1 x2 x3 => by show Le (T19_0 (P19 n) x0 x1 x2 x3) _; rw [L19_0_eq]; unfold T19_0; exact le_b (N39_le _ _ _ _ _) fun _ => le_b (N39_le _ _ _ _ _) fun _ => le_r _
noncomputable def N19 (x0 : S34) (x1 : S37) : Option (S37 × S37 × Int) :=
 (N37 x0).bind fun y1 =>
 bif (!y1) then
  some ((S37.mk 0 0), ((S37.mk 0 0), 1))
 else
 (N38 x1).bind fun y2 =>
 bif (!y2) then
  some ((S37.mk 0 0), ((S37.mk 0 0), 1))
 else
 bif (decide (x1.f0 < 0)) then
  some ((S37.mk 0 0), ((S37.mk 0 0), 1))
 else
 bif (decide (x1.f0 > x1.f1)) then
  some ((S37.mk 0 0), ((S37.mk 0 0), 1))
 else
 bif (decide (x1.f1 > 1024)) then
  some ((S37.mk 0 0), ((S37.mk 0 0), 1))
 else
 (P19 100000).l0 x0 x1 (S37.mk 0 0) (S37.mk 0 0)
theorem N19_le (x0 : S34) (x1 : S37) : Le (N19 x0 x1) (F19 x0 x1) := by rw [F19_eq]; unfold N19; exact le_b (N37_le _) fun _ => le_c (le_r _) (le_b (N38_le _) fun _ => le_c (le_r _) (le_c (le_r _) (le_c (le_r _) (le_c (le_r _) ((P19_le 100000) _ _ _ _)))))
noncomputable def N42 (x0 : S24) (x1 : S34) (x2 x3 : Int) : Option Int :=
 (N37 x1).bind fun y1 =>
 bif (!y1) then
  some 1
 else
 (N59 x0).bind fun y2 =>
 bif (!y2) then
  some 1
 else
 bif (decide (x2 < 1)) then
  some 1
 else
 bif (decide (x2 > 1048576)) then
  some 1
 else
 bif (decide (x3 < 1)) then
  some 1
 else
 bif (decide (x3 > 255)) then
  some 1
 else
 some 0
theorem N42_le (x0 : S24) (x1 : S34) (x2 x3 : Int) : Le (N42 x0 x1 x2 x3) (F42 x0 x1 x2 x3) := by rw [F42_eq]; unfold N42; exact le_b (N37_le _) fun _ => le_c (le_r _) (le_b (N59_le _) fun _ => le_r _)
structure Q205 where
 l0 : List Int → Int → Option (List Int)
noncomputable def T205_0 (q : Q205) (x0 : List Int) (x1 : Int) : Option (List Int) :=
 bif (decide (x1 > 0)) then
  grd (decide (0 ≤ (wr .i64 (x1 - 1)))) <|
  grd (decide ((wr .i64 (x1 - 1)) < (x0.length : Int))) <|
  bif ((x0.getD (Int.toNat (wr .i64 (x1 - 1))) 0) == 0) then
   q.l0 x0 (wr .i64 (x1 - 1))
  else
  grd (decide (0 ≤ x1)) <|
  grd (decide (x1 ≤ (x0.length : Int))) <|
  some (List.take (Int.toNat x1) x0)
 else
 grd (decide (0 ≤ x1)) <|
 grd (decide (x1 ≤ (x0.length : Int))) <|
 some (List.take (Int.toNat x1) x0)
noncomputable def P205 (n : Nat) : Q205 := Nat.rec ⟨fun _ _ => none⟩ (fun _ q => ⟨T205_0 q⟩) n
theorem P205_le : ∀ n, (∀ x0 x1, Le ((P205 n).l0 x0 x1) (L205_0 x0 x1)) := fun n => by
 induction n with
 | zero => exact fun x0 x1 => le_n _
 | succ n ih => exact fun x0 x1 => by show Le (T205_0 (P205 n) x0 x1) _; rw [L205_0_eq]; unfold T205_0; exact le_c (le_g (le_g (le_c (ih _ _) (le_r _)))) (le_r _)
noncomputable def N205 (x0 : List Int) : Option (List Int) :=
 (P205 100000).l0 x0 (x0.length : Int)
theorem N205_le (x0 : List Int) : Le (N205 x0) (F205 x0) := by rw [F205_eq]; unfold N205; exact (P205_le 100000) _ _
noncomputable def N156 (x0 : Bool) (x1 : List Int) : Option (S77) :=
 (N205 x1).bind fun y1 =>
 bif ((y1.length : Int) == 0) then
  some (S77.mk false [])
 else
 some (S77.mk x0 y1)
theorem N156_le (x0 : Bool) (x1 : List Int) : Le (N156 x0 x1) (F156 x0 x1) := by rw [F156_eq]; unfold N156; exact le_b (N205_le _) fun _ => le_r _
structure Q154 where
 l0 : S77 → S77 → S77 → List Int → List Int → Int → Int → Option (S77)
 l1 : S77 → S77 → S77 → List Int → Int → Int → Int → List Int → Int → Int → List Int → Int → Int → Option (S77)
noncomputable def T154_0 (q : Q154) (x0 x1 x2 : S77) (x3 x4 : List Int) (x5 x6 : Int) : Option (S77) :=
 bif (decide (x6 < x5)) then
  grd (decide (0 ≤ x6)) <|
  grd (decide (x6 < (x4.length : Int))) <|
  q.l1 x0 x1 x2 x3 x6 (x4.getD (Int.toNat x6) 0) 0 x4 x5 x6 x1.f1 (x1.f1.length : Int) 0
 else
 (N156 (!(x0.f0 == x1.f0)) x3).bind fun y1 =>
 some y1
noncomputable def T154_1 (q : Q154) (x0 x1 x2 : S77) (x3 : List Int) (x4 x5 x6 : Int) (x7 : List Int) (x8 x9 : Int) (x10 : List Int) (x11 x12 : Int) : Option (S77) :=
 bif (decide (x12 < x11)) then
  grd (decide (0 ≤ x12)) <|
  grd (decide (x12 < (x10.length : Int))) <|
  grd (decide (0 ≤ (wr .i64 (x4 + x12)))) <|
  grd (decide ((wr .i64 (x4 + x12)) < (x3.length : Int))) <|
  grd (decide (0 ≤ (wr .i64 (x4 + x12)))) <|
  grd (decide ((wr .i64 (x4 + x12)) < (x3.length : Int))) <|
  q.l1 x0 x1 x2 (List.set x3 (Int.toNat (wr .i64 (x4 + x12))) (wr .u32 (wr .u64 ((wr .u64 ((wr .u64 ((wr .u64 x5) * (wr .u64 (x10.getD (Int.toNat x12) 0)))) + (wr .u64 (x3.getD (Int.toNat (wr .i64 (x4 + x12))) 0)))) + x6)))) x4 x5 (shrE .u64 (wr .u64 ((wr .u64 ((wr .u64 ((wr .u64 x5) * (wr .u64 (x10.getD (Int.toNat x12) 0)))) + (wr .u64 (x3.getD (Int.toNat (wr .i64 (x4 + x12))) 0)))) + x6)) (32 : Int)) x7 x8 x9 x10 x11 (wr .i64 (x12 + 1))
 else
 grd (decide (0 ≤ (wr .i64 (x4 + (x1.f1.length : Int))))) <|
 grd (decide ((wr .i64 (x4 + (x1.f1.length : Int))) < (x3.length : Int))) <|
 q.l0 x0 x1 x2 (List.set x3 (Int.toNat (wr .i64 (x4 + (x1.f1.length : Int)))) (wr .u32 x6)) x7 x8 (wr .i64 (x9 + 1))
noncomputable def P154 (n : Nat) : Q154 := Nat.rec ⟨fun _ _ _ _ _ _ _ => none, fun _ _ _ _ _ _ _ _ _ _ _ _ _ => none⟩ (fun _ q => ⟨T154_0 q, T154_1 q⟩) n
theorem P154_le : ∀ n, (∀ x0 x1 x2 x3 x4 x5 x6, Le ((P154 n).l0 x0 x1 x2 x3 x4 x5 x6) (L154_0 x0 x1 x2 x3 x4 x5 x6)) ∧ (∀ x0 x1 x2 x3 x4 x5 x6 x7 x8 x9 x10 x11 x12, Le ((P154 n).l1 x0 x1 x2 x3 x4 x5 x6 x7 x8 x9 x10 x11 x12) (L154_1 x0 x1 x2 x3 x4 x5 x6 x7 x8 x9 x10 x11 x12)) := fun n => by
 induction n with
 | zero => exact ⟨fun x0 x1 x2 x3 x4 x5 x6 => le_n _, fun x0 x1 x2 x3 x4 x5 x6 x7 x8 x9 x10 x11 x12 => le_n _⟩
 | succ n ih => exact ⟨fun x0 x1 x2 x3 x4 x5 x6 => by show Le (T154_0 (P154 n) x0 x1 x2 x3 x4 x5 x6) _; rw [L154_0_eq]; unfold T154_0; exact le_c (le_g (le_g (ih.2 _ _ _ _ _ _ _ _ _ _ _ _ _))) (le_b (N156_le _ _) fun _ => le_r _),
  fun x0 x1 x2 x3 x4 x5 x6 x7 x8 x9 x10 x11 x12 => by show Le (T154_1 (P154 n) x0 x1 x2 x3 x4 x5 x6 x7 x8 x9 x10 x11 x12) _; rw [L154_1_eq]; unfold T154_1; exact le_c (le_g (le_g (le_g (le_g (le_g (le_g (ih.2 _ _ _ _ _ _ _ _ _ _ _ _ _))))))) (le_g (le_g (ih.1 _ _ _ _ _ _ _)))⟩
noncomputable def N154 (x0 x1 : S77) : Option (S77) :=
 grd (decide (0 ≤ (wr .i64 ((x0.f1.length : Int) + (x1.f1.length : Int))))) <|
 grd (decide ((wr .i64 ((x0.f1.length : Int) + (x1.f1.length : Int))) ≤ (wr .i64 ((x0.f1.length : Int) + (x1.f1.length : Int))))) <|
 grd (fitM (Int.toNat (wr .i64 ((x0.f1.length : Int) + (x1.f1.length : Int)))) 4) <|
 (P154 100000).l0 x0 x1 (S77.mk false []) (List.replicate (Int.toNat (wr .i64 ((x0.f1.length : Int) + (x1.f1.length : Int)))) (0 : Int)) x0.f1 (x0.f1.length : Int) 0
theorem N154_le (x0 x1 : S77) : Le (N154 x0 x1) (F154 x0 x1) := by rw [F154_eq]; unfold N154; exact le_g (le_g (le_g ((P154_le 100000).1 _ _ _ _ _ _ _)))
noncomputable def N237 (x0 : List Int) (x1 : Int) : Option Int :=
 bif (decide (x1 < (x0.length : Int))) then
  grd (decide (0 ≤ x1)) <|
  grd (decide (x1 < (x0.length : Int))) <|
  some (wr .u64 (x0.getD (Int.toNat x1) 0))
 else
 some 0
theorem N237_le (x0 : List Int) (x1 : Int) : Le (N237 x0 x1) (F237 x0 x1) := by rw [F237_eq]; unfold N237; exact le_r _
structure Q208 where
 l0 : List Int → List Int → List Int → Int → Int → Int → Option (List Int)
noncomputable def T208_0 (q : Q208) (x0 x1 x2 : List Int) (x3 x4 x5 : Int) : Option (List Int) :=
 bif (decide (x5 < x4)) then
  (N237 x0 x5).bind fun y1 =>
  (N237 x1 x5).bind fun y2 =>
  grd (decide (0 ≤ x5)) <|
  grd (decide (x5 < (x2.length : Int))) <|
  q.l0 x0 x1 (List.set x2 (Int.toNat x5) (wr .u32 (wr .u64 ((wr .u64 (y1 + y2)) + x3)))) (shrE .u64 (wr .u64 ((wr .u64 (y1 + y2)) + x3)) (32 : Int)) x4 (wr .i64 (x5 + 1))
 else
 grd (fit (x2.length + [(wr .u32 x3)].length) 4) <|
 some (x2 ++ [(wr .u32 x3)])
noncomputable def P208 (n : Nat) : Q208 := Nat.rec ⟨fun _ _ _ _ _ _ => none⟩ (fun _ q => ⟨T208_0 q⟩) n
theorem P208_le : ∀ n, (∀ x0 x1 x2 x3 x4 x5, Le ((P208 n).l0 x0 x1 x2 x3 x4 x5) (L208_0 x0 x1 x2 x3 x4 x5)) := fun n => by
 induction n with
 | zero => exact fun x0 x1 x2 x3 x4 x5 => le_n _
 | succ n ih => exact fun x0 x1 x2 x3 x4 x5 => by show Le (T208_0 (P208 n) x0 x1 x2 x3 x4 x5) _; rw [L208_0_eq]; unfold T208_0; exact le_c (le_b (N237_le _ _) fun _ => le_b (N237_le _ _) fun _ => le_g (le_g (ih _ _ _ _ _ _))) (le_r _)
noncomputable def N208 (x0 x1 : List Int) : Option (List Int) :=
 grd (decide (0 ≤ (mxE (x0.length : Int) (x1.length : Int)))) <|
 grd (decide ((mxE (x0.length : Int) (x1.length : Int)) ≤ (wr .i64 ((mxE (x0.length : Int) (x1.length : Int)) + 1)))) <|
 grd (fitM (Int.toNat (wr .i64 ((mxE (x0.length : Int) (x1.length : Int)) + 1))) 4) <|
 (P208 100000).l0 x0 x1 (List.replicate (Int.toNat (mxE (x0.length : Int) (x1.length : Int))) (0 : Int)) 0 ((List.replicate (Int.toNat (mxE (x0.length : Int) (x1.length : Int))) (0 : Int)).length : Int) 0
theorem N208_le (x0 x1 : List Int) : Le (N208 x0 x1) (F208 x0 x1) := by rw [F208_eq]; unfold N208; exact le_g (le_g (le_g ((P208_le 100000) _ _ _ _ _ _)))
noncomputable def N247 (x0 : Int) : Option Bool :=
 some (x0 != x0)
theorem N247_le (x0 : Int) : Le (N247 x0) (F247 x0) := by rw [F247_eq]; unfold N247; exact le_r _
noncomputable def N238 (x0 x1 : Int) : Option Int :=
 (N247 x0).bind fun y1 =>
 (N247 x1).bind fun y2 =>
 bif y1 then
  bif y2 then
   some 0
  else
  some (-1)
 else
 bif y2 then
  some 1
 else
 bif (decide (x0 < x1)) then
  some (-1)
 else
 bif (decide (x0 > x1)) then
  some 1
 else
 some 0
theorem N238_le (x0 x1 : Int) : Le (N238 x0 x1) (F238 x0 x1) := by rw [F238_eq]; unfold N238; exact le_b (N247_le _) fun _ => le_b (N247_le _) fun _ => le_r _
noncomputable def N248 (x0 : Int) : Option Bool :=
 some (x0 != x0)
theorem N248_le (x0 : Int) : Le (N248 x0) (F248 x0) := by rw [F248_eq]; unfold N248; exact le_r _
noncomputable def N239 (x0 x1 : Int) : Option Int :=
 (N248 x0).bind fun y1 =>
 (N248 x1).bind fun y2 =>
 bif y1 then
  bif y2 then
   some 0
  else
  some (-1)
 else
 bif y2 then
  some 1
 else
 bif (decide (x0 < x1)) then
  some (-1)
 else
 bif (decide (x0 > x1)) then
  some 1
 else
 some 0
theorem N239_le (x0 x1 : Int) : Le (N239 x0 x1) (F239 x0 x1) := by rw [F239_eq]; unfold N239; exact le_b (N248_le _) fun _ => le_b (N248_le _) fun _ => le_r _
structure Q209 where
 l0 : List Int → List Int → Int → Option Int
noncomputable def T209_0 (q : Q209) (x0 x1 : List Int) (x2 : Int) : Option Int :=
 bif (decide (x2 ≥ 0)) then
  grd (decide (0 ≤ x2)) <|
  grd (decide (x2 < (x0.length : Int))) <|
  grd (decide (0 ≤ x2)) <|
  grd (decide (x2 < (x1.length : Int))) <|
  (N239 (x0.getD (Int.toNat x2) 0) (x1.getD (Int.toNat x2) 0)).bind fun y1 =>
  bif (y1 != 0) then
   some y1
  else
  q.l0 x0 x1 (wr .i64 (x2 - 1))
 else
 some 0
noncomputable def P209 (n : Nat) : Q209 := Nat.rec ⟨fun _ _ _ => none⟩ (fun _ q => ⟨T209_0 q⟩) n
theorem P209_le : ∀ n, (∀ x0 x1 x2, Le ((P209 n).l0 x0 x1 x2) (L209_0 x0 x1 x2)) := fun n => by
 induction n with
 | zero => exact fun x0 x1 x2 => le_n _
 | succ n ih => exact fun x0 x1 x2 => by show Le (T209_0 (P209 n) x0 x1 x2) _; rw [L209_0_eq]; unfold T209_0; exact le_c (le_g (le_g (le_g (le_g (le_b (N239_le _ _) fun _ => le_c (le_r _) (ih _ _ _)))))) (le_r _)
noncomputable def N209 (x0 x1 : List Int) : Option Int :=
 (N238 (x0.length : Int) (x1.length : Int)).bind fun y1 =>
 bif (y1 != 0) then
  some y1
 else
 (P209 100000).l0 x0 x1 (wr .i64 ((x0.length : Int) - 1))
theorem N209_le (x0 x1 : List Int) : Le (N209 x0 x1) (F209 x0 x1) := by rw [F209_eq]; unfold N209; exact le_b (N238_le _ _) fun _ => le_c (le_r _) ((P209_le 100000) _ _ _)
structure Q210 where
 l0 : List Int → List Int → List Int → Int → Int → Int → Option (List Int)
noncomputable def T210_0 (q : Q210) (x0 x1 x2 : List Int) (x3 x4 x5 : Int) : Option (List Int) :=
 bif (decide (x5 < x4)) then
  grd (decide (0 ≤ x5)) <|
  grd (decide (x5 < (x0.length : Int))) <|
  (N237 x1 x5).bind fun y1 =>
  grd (decide (0 ≤ x5)) <|
  grd (decide (x5 < (x2.length : Int))) <|
  q.l0 x0 x1 (List.set x2 (Int.toNat x5) (wr .u32 (wr .u64 ((wr .u64 ((wr .u64 (x0.getD (Int.toNat x5) 0)) - y1)) - x3)))) (shrE .u64 (wr .u64 ((wr .u64 ((wr .u64 (x0.getD (Int.toNat x5) 0)) - y1)) - x3)) (63 : Int)) x4 (wr .i64 (x5 + 1))
 else
 some x2
noncomputable def P210 (n : Nat) : Q210 := Nat.rec ⟨fun _ _ _ _ _ _ => none⟩ (fun _ q => ⟨T210_0 q⟩) n
theorem P210_le : ∀ n, (∀ x0 x1 x2 x3 x4 x5, Le ((P210 n).l0 x0 x1 x2 x3 x4 x5) (L210_0 x0 x1 x2 x3 x4 x5)) := fun n => by
 induction n with
 | zero => exact fun x0 x1 x2 x3 x4 x5 => le_n _
 | succ n ih => exact fun x0 x1 x2 x3 x4 x5 => by show Le (T210_0 (P210 n) x0 x1 x2 x3 x4 x5) _; rw [L210_0_eq]; unfold T210_0; exact le_c (le_g (le_g (le_b (N237_le _ _) fun _ => le_g (le_g (ih _ _ _ _ _ _))))) (le_r _)
noncomputable def N210 (x0 x1 : List Int) : Option (List Int) :=
 grd (decide ((x0.length : Int) ≤ (x0.length : Int))) <|
 grd (fitM (Int.toNat (x0.length : Int)) 4) <|
 (P210 100000).l0 x0 x1 (List.replicate (Int.toNat (x0.length : Int)) (0 : Int)) 0 (x0.length : Int) 0
theorem N210_le (x0 x1 : List Int) : Le (N210 x0 x1) (F210 x0 x1) := by rw [F210_eq]; unfold N210; exact le_g (le_g ((P210_le 100000) _ _ _ _ _ _))
noncomputable def N159 (x0 x1 : S77) : Option (S77) :=
 (N205 x0.f1).bind fun y1 =>
 (N205 x1.f1).bind fun y2 =>
 bif (x0.f0 == x1.f0) then
  (N208 y1 y2).bind fun y3 =>
  (N156 x0.f0 y3).bind fun y4 =>
  some y4
 else
 (N209 y1 y2).bind fun y5 =>
 bif (decide (y5 ≥ 0)) then
  (N210 y1 y2).bind fun y6 =>
  (N156 x0.f0 y6).bind fun y7 =>
  some y7
 else
 (N210 y2 y1).bind fun y8 =>
 (N156 x1.f0 y8).bind fun y9 =>
 some y9
theorem N159_le (x0 x1 : S77) : Le (N159 x0 x1) (F159 x0 x1) := by rw [F159_eq]; unfold N159; exact le_b (N205_le _) fun _ => le_b (N205_le _) fun _ => le_c (le_b (N208_le _ _) fun _ => le_b (N156_le _ _) fun _ => le_r _) (le_b (N209_le _ _) fun _ => le_c (le_b (N210_le _ _) fun _ => le_b (N156_le _ _) fun _ => le_r _) (le_b (N210_le _ _) fun _ => le_b (N156_le _ _) fun _ => le_r _))
noncomputable def N211 (x0 : S77) : Option Int :=
 (N205 x0.f1).bind fun y1 =>
 bif ((y1.length : Int) == 0) then
  some 0
 else
 bif x0.f0 then
  some (-1)
 else
 some 1
theorem N211_le (x0 : S77) : Le (N211 x0) (F211 x0) := by rw [F211_eq]; unfold N211; exact le_b (N205_le _) fun _ => le_r _
structure Q160 where
 l0 : List S77 → Int → Option (List S77)
noncomputable def T160_0 (q : Q160) (x0 : List S77) (x1 : Int) : Option (List S77) :=
 bif (decide (x1 > 0)) then
  grd (decide (0 ≤ (wr .i64 (x1 - 1)))) <|
  grd (decide ((wr .i64 (x1 - 1)) < (x0.length : Int))) <|
  (N211 (x0.getD (Int.toNat (wr .i64 (x1 - 1))) z7)).bind fun y1 =>
  bif (y1 == 0) then
   q.l0 x0 (wr .i64 (x1 - 1))
  else
  grd (decide (0 ≤ x1)) <|
  grd (decide (x1 ≤ (x0.length : Int))) <|
  some (List.take (Int.toNat x1) x0)
 else
 grd (decide (0 ≤ x1)) <|
 grd (decide (x1 ≤ (x0.length : Int))) <|
 some (List.take (Int.toNat x1) x0)
noncomputable def P160 (n : Nat) : Q160 := Nat.rec ⟨fun _ _ => none⟩ (fun _ q => ⟨T160_0 q⟩) n
theorem P160_le : ∀ n, (∀ x0 x1, Le ((P160 n).l0 x0 x1) (L160_0 x0 x1)) := fun n => by
 induction n with
 | zero => exact fun x0 x1 => le_n _
 | succ n ih => exact fun x0 x1 => by show Le (T160_0 (P160 n) x0 x1) _; rw [L160_0_eq]; unfold T160_0; exact le_c (le_g (le_g (le_b (N211_le _) fun _ => le_c (ih _ _) (le_r _)))) (le_r _)
noncomputable def N160 (x0 : List S77) : Option (List S77) :=
 (P160 100000).l0 x0 (x0.length : Int)
theorem N160_le (x0 : List S77) : Le (N160 x0) (F160 x0) := by rw [F160_eq]; unfold N160; exact (P160_le 100000) _ _
structure Q98 where
 l0 : List S77 → List S77 → List S77 → Int → Int → Option (List S77)
 l1 : List S77 → List S77 → Int → S77 → List S77 → Int → Int → List S77 → Int → Int → Option (List S77)
noncomputable def T98_0 (q : Q98) (x0 x1 x2 : List S77) (x3 x4 : Int) : Option (List S77) :=
 bif (decide (x4 < x3)) then
  grd (decide (0 ≤ x4)) <|
  grd (decide (x4 < (x2.length : Int))) <|
  q.l1 x0 x1 x4 (x2.getD (Int.toNat x4) z7) x2 x3 x4 x0 (x0.length : Int) 0
 else
 (N160 x1).bind fun y1 =>
 some y1
noncomputable def T98_1 (q : Q98) (x0 x1 : List S77) (x2 : Int) (x3 : S77) (x4 : List S77) (x5 x6 : Int) (x7 : List S77) (x8 x9 : Int) : Option (List S77) :=
 bif (decide (x9 < x8)) then
  grd (decide (0 ≤ x9)) <|
  grd (decide (x9 < (x7.length : Int))) <|
  grd (decide (0 ≤ (wr .i64 (x2 + x9)))) <|
  grd (decide ((wr .i64 (x2 + x9)) < (x1.length : Int))) <|
  (N154 x3 (x7.getD (Int.toNat x9) z7)).bind fun y1 =>
  (N159 (x1.getD (Int.toNat (wr .i64 (x2 + x9))) z7) y1).bind fun y2 =>
  grd (decide (0 ≤ (wr .i64 (x2 + x9)))) <|
  grd (decide ((wr .i64 (x2 + x9)) < (x1.length : Int))) <|
  q.l1 x0 (List.set x1 (Int.toNat (wr .i64 (x2 + x9))) y2) x2 x3 x4 x5 x6 x7 x8 (wr .i64 (x9 + 1))
 else
 q.l0 x0 x1 x4 x5 (wr .i64 (x6 + 1))
noncomputable def P98 (n : Nat) : Q98 := Nat.rec ⟨fun _ _ _ _ _ => none, fun _ _ _ _ _ _ _ _ _ _ => none⟩ (fun _ q => ⟨T98_0 q, T98_1 q⟩) n
theorem P98_le : ∀ n, (∀ x0 x1 x2 x3 x4, Le ((P98 n).l0 x0 x1 x2 x3 x4) (L98_0 x0 x1 x2 x3 x4)) ∧ (∀ x0 x1 x2 x3 x4 x5 x6 x7 x8 x9, Le ((P98 n).l1 x0 x1 x2 x3 x4 x5 x6 x7 x8 x9) (L98_1 x0 x1 x2 x3 x4 x5 x6 x7 x8 x9)) := fun n => by
 induction n with
 | zero => exact ⟨fun x0 x1 x2 x3 x4 => le_n _, fun x0 x1 x2 x3 x4 x5 x6 x7 x8 x9 => le_n _⟩
 | succ n ih => exact ⟨fun x0 x1 x2 x3 x4 => by show Le (T98_0 (P98 n) x0 x1 x2 x3 x4) _; rw [L98_0_eq]; unfold T98_0; exact le_c (le_g (le_g (ih.2 _ _ _ _ _ _ _ _ _ _))) (le_b (N160_le _) fun _ => le_r _),
  fun x0 x1 x2 x3 x4 x5 x6 x7 x8 x9 => by show Le (T98_1 (P98 n) x0 x1 x2 x3 x4 x5 x6 x7 x8 x9) _; rw [L98_1_eq]; unfold T98_1; exact le_c (le_g (le_g (le_g (le_g (le_b (N154_le _ _) fun _ => le_b (N159_le _ _) fun _ => le_g (le_g (ih.2 _ _ _ _ _ _ _ _ _ _))))))) (ih.1 _ _ _ _ _)⟩
noncomputable def N98 (x0 x1 : List S77) : Option (List S77) :=
 grd (decide (0 ≤ (wr .i64 ((x0.length : Int) + (x1.length : Int))))) <|
 grd (decide ((wr .i64 ((x0.length : Int) + (x1.length : Int))) ≤ (wr .i64 ((x0.length : Int) + (x1.length : Int))))) <|
 grd (fitM (Int.toNat (wr .i64 ((x0.length : Int) + (x1.length : Int)))) 32) <|
 (P98 100000).l0 x1 (List.replicate (Int.toNat (wr .i64 ((x0.length : Int) + (x1.length : Int)))) (S77.mk false [])) x0 (x0.length : Int) 0
theorem N98_le (x0 x1 : List S77) : Le (N98 x0 x1) (F98 x0 x1) := by rw [F98_eq]; unfold N98; exact le_g (le_g (le_g ((P98_le 100000).1 _ _ _ _ _)))
structure Q155 where
 l0 : Int → S77 → Int → Option (S77)
noncomputable def T155_0 (q : Q155) (x0 : Int) (x1 : S77) (x2 : Int) : Option (S77) :=
 (N156 (decide (x0 < 0)) [(wr .u32 x2), (wr .u32 (shrE .u64 x2 (32 : Int)))]).bind fun y1 =>
 some y1
noncomputable def P155 (n : Nat) : Q155 := Nat.rec ⟨fun _ _ _ => none⟩ (fun _ q => ⟨T155_0 q⟩) n
theorem P155_le : ∀ n, (∀ x0 x1 x2, Le ((P155 n).l0 x0 x1 x2) (L155_0 x0 x1 x2)) := fun n => by
 induction n with
 | zero => exact fun x0 x1 x2 => le_n _
 | succ n ih => exact fun x0 x1 x2 => by show Le (T155_0 (P155 n) x0 x1 x2) _; rw [L155_0_eq]; unfold T155_0; exact le_b (N156_le _ _) fun _ => le_r _
noncomputable def N155 (x0 : Int) : Option (S77) :=
 bif (decide (x0 < 0)) then
  (P155 100000).l0 x0 (S77.mk false []) (wr .u64 (0 - (wr .u64 x0)))
 else
 (P155 100000).l0 x0 (S77.mk false []) (wr .u64 x0)
theorem N155_le (x0 : Int) : Le (N155 x0) (F155 x0) := by rw [F155_eq]; unfold N155; exact le_c ((P155_le 100000) _ _ _) ((P155_le 100000) _ _ _)
structure Q161 where
 l0 : List S77 → List Int → Int → Int → Option (List S77)
noncomputable def T161_0 (q : Q161) (x0 : List S77) (x1 : List Int) (x2 x3 : Int) : Option (List S77) :=
 bif (decide (x3 < x2)) then
  grd (decide (0 ≤ x3)) <|
  grd (decide (x3 < (x1.length : Int))) <|
  (N155 (x1.getD (Int.toNat x3) 0)).bind fun y1 =>
  grd (fit (x0.length + [y1].length) 32) <|
  q.l0 (x0 ++ [y1]) x1 x2 (wr .i64 (x3 + 1))
 else
 (N160 x0).bind fun y2 =>
 some y2
noncomputable def P161 (n : Nat) : Q161 := Nat.rec ⟨fun _ _ _ _ => none⟩ (fun _ q => ⟨T161_0 q⟩) n
theorem P161_le : ∀ n, (∀ x0 x1 x2 x3, Le ((P161 n).l0 x0 x1 x2 x3) (L161_0 x0 x1 x2 x3)) := fun n => by
 induction n with
 | zero => exact fun x0 x1 x2 x3 => le_n _
 | succ n ih => exact fun x0 x1 x2 x3 => by show Le (T161_0 (P161 n) x0 x1 x2 x3) _; rw [L161_0_eq]; unfold T161_0; exact le_c (le_g (le_g (le_b (N155_le _) fun _ => le_g (ih _ _ _ _)))) (le_b (N160_le _) fun _ => le_r _)
noncomputable def N161 (x0 : List Int) : Option (List S77) :=
 (P161 100000).l0 [] x0 (x0.length : Int) 0
theorem N161_le (x0 : List Int) : Le (N161 x0) (F161 x0) := by rw [F161_eq]; unfold N161; exact (P161_le 100000) _ _ _ _
noncomputable def N99 (x0 : Bool) (x1 x2 x3 x4 : Int) : Option (List S77) :=
 bif x0 then
  (N161 [(wr .i64 (x1 - x4)), (wr .i64 (2 * (wr .i64 (x2 - x1)))), (wr .i64 ((wr .i64 (x1 - (wr .i64 (2 * x2)))) + x3))]).bind fun y1 =>
  some y1
 else
 (N161 [(wr .i64 (2 * (wr .i64 (x1 - x4)))), (wr .i64 (2 * (wr .i64 (x3 - x1))))]).bind fun y2 =>
 some y2
theorem N99_le (x0 : Bool) (x1 x2 x3 x4 : Int) : Le (N99 x0 x1 x2 x3 x4) (F99 x0 x1 x2 x3 x4) := by rw [F99_eq]; unfold N99; exact le_c (le_b (N161_le _) fun _ => le_r _) (le_b (N161_le _) fun _ => le_r _)
noncomputable def N206 (x0 : List S77) (x1 : Int) : Option (S77) :=
 bif (decide (x1 < 0)) then
  some (S77.mk false [])
 else
 bif (decide (x1 ≥ (x0.length : Int))) then
  some (S77.mk false [])
 else
 grd (decide (0 ≤ x1)) <|
 grd (decide (x1 < (x0.length : Int))) <|
 some (x0.getD (Int.toNat x1) z7)
theorem N206_le (x0 : List S77) (x1 : Int) : Le (N206 x0 x1) (F206 x0 x1) := by rw [F206_eq]; unfold N206; exact le_r _
structure Q157159 where
 l0 : List S77 → List S77 → List S77 → Int → Int → Option (List S77)
noncomputable def T157159_0 (q : Q157159) (x0 x1 x2 : List S77) (x3 x4 : Int) : Option (List S77) :=
 bif (decide (x4 < x3)) then
  (N206 x0 x4).bind fun y1 =>
  (N206 x1 x4).bind fun y2 =>
  (N159 y1 y2).bind fun y3 =>
  grd (fit (x2.length + [y3].length) 32) <|
  q.l0 x0 x1 (x2 ++ [y3]) x3 (wr .i64 (x4 + 1))
 else
 (N160 x2).bind fun y4 =>
 some y4
noncomputable def P157159 (n : Nat) : Q157159 := Nat.rec ⟨fun _ _ _ _ _ => none⟩ (fun _ q => ⟨T157159_0 q⟩) n
theorem P157159_le : ∀ n, (∀ x0 x1 x2 x3 x4, Le ((P157159 n).l0 x0 x1 x2 x3 x4) (L157159_0 x0 x1 x2 x3 x4)) := fun n => by
 induction n with
 | zero => exact fun x0 x1 x2 x3 x4 => le_n _
 | succ n ih => exact fun x0 x1 x2 x3 x4 => by show Le (T157159_0 (P157159 n) x0 x1 x2 x3 x4) _; rw [L157159_0_eq]; unfold T157159_0; exact le_c (le_b (N206_le _ _) fun _ => le_b (N206_le _ _) fun _ => le_b (N159_le _ _) fun _ => le_g (ih _ _ _ _ _)) (le_b (N160_le _) fun _ => le_r _)
noncomputable def N157159 (x0 x1 : List S77) (x2 : Unit) : Option (List S77) :=
 (P157159 100000).l0 x0 x1 [] (mxE (x0.length : Int) (x1.length : Int)) 0
theorem N157159_le (x0 x1 : List S77) (x2 : Unit) : Le (N157159 x0 x1 x2) (F157159 x0 x1 x2) := by rw [F157159_eq]; unfold N157159; exact (P157159_le 100000) _ _ _ _ _
noncomputable def N100 (x0 x1 : List S77) : Option (List S77) :=
 (N157159 x0 x1 ()).bind fun y1 =>
 some y1
theorem N100_le (x0 x1 : List S77) : Le (N100 x0 x1) (F100 x0 x1) := by rw [F100_eq]; unfold N100; exact le_b (N157159_le _ _ _) fun _ => le_r _
noncomputable def N47 (x0 : S24) (x1 : S34) : Option (List S77) :=
 (N99 x1.f1 x1.f2.f0 x1.f3.f0 x1.f4.f0 x0.f0).bind fun y1 =>
 (N99 x1.f1 x1.f2.f1 x1.f3.f1 x1.f4.f1 x0.f1).bind fun y2 =>
 (N98 y1 y1).bind fun y3 =>
 (N98 y2 y2).bind fun y4 =>
 (N100 y3 y4).bind fun y5 =>
 some y5
theorem N47_le (x0 : S24) (x1 : S34) : Le (N47 x0 x1) (F47 x0 x1) := by rw [F47_eq]; unfold N47; exact le_b (N99_le _ _ _ _ _) fun _ => le_b (N99_le _ _ _ _ _) fun _ => le_b (N98_le _ _) fun _ => le_b (N98_le _ _) fun _ => le_b (N100_le _ _) fun _ => le_r _
noncomputable def N151 (x0 : S168) : Option Bool :=
 bif (decide (x0.f0 ≥ 1)) then
  bif (decide (x0.f0 ≤ 1048576)) then
   bif (decide (x0.f1 ≥ 1)) then
    some (decide (x0.f1 ≤ 255))
   else
   some false
  else
  some false
 else
 some false
theorem N151_le (x0 : S168) : Le (N151 x0) (F151 x0) := by rw [F151_eq]; unfold N151; exact le_r _
structure Q140 where
 l0 : List S24 → Int → Int → Option Int
noncomputable def T140_0 (q : Q140) (x0 : List S24) (x1 x2 : Int) : Option Int :=
 bif (decide (x2 < x1)) then
  grd (decide (0 ≤ x2)) <|
  grd (decide (x2 < (x0.length : Int))) <|
  (N59 (x0.getD (Int.toNat x2) z0)).bind fun y1 =>
  bif (!y1) then
   some 1
  else
  q.l0 x0 x1 (wr .i64 (x2 + 1))
 else
 some 0
noncomputable def P140 (n : Nat) : Q140 := Nat.rec ⟨fun _ _ _ => none⟩ (fun _ q => ⟨T140_0 q⟩) n
theorem P140_le : ∀ n, (∀ x0 x1 x2, Le ((P140 n).l0 x0 x1 x2) (L140_0 x0 x1 x2)) := fun n => by
 induction n with
 | zero => exact fun x0 x1 x2 => le_n _
 | succ n ih => exact fun x0 x1 x2 => by show Le (T140_0 (P140 n) x0 x1 x2) _; rw [L140_0_eq]; unfold T140_0; exact le_c (le_g (le_g (le_b (N59_le _) fun _ => le_c (le_r _) (ih _ _ _)))) (le_r _)
noncomputable def N140 (x0 : S168) (x1 : List S24) : Option Int :=
 (N151 x0).bind fun y1 =>
 bif (!y1) then
  some 1
 else
 (P140 100000).l0 x1 (x1.length : Int) 0
theorem N140_le (x0 : S168) (x1 : List S24) : Le (N140 x0 x1) (F140 x0 x1) := by rw [F140_eq]; unfold N140; exact le_b (N151_le _) fun _ => le_c (le_r _) ((P140_le 100000) _ _ _)
structure Q148 where
 l0 : List S24 → Int → Int → Option Int
noncomputable def T148_0 (q : Q148) (x0 : List S24) (x1 x2 : Int) : Option Int :=
 bif (decide (x2 < x1)) then
  grd (decide (0 ≤ x2)) <|
  grd (decide (x2 < (x0.length : Int))) <|
  (N59 (x0.getD (Int.toNat x2) z0)).bind fun y1 =>
  bif (!y1) then
   some 1
  else
  q.l0 x0 x1 (wr .i64 (x2 + 1))
 else
 some 0
noncomputable def P148 (n : Nat) : Q148 := Nat.rec ⟨fun _ _ _ => none⟩ (fun _ q => ⟨T148_0 q⟩) n
theorem P148_le : ∀ n, (∀ x0 x1 x2, Le ((P148 n).l0 x0 x1 x2) (L148_0 x0 x1 x2)) := fun n => by
 induction n with
 | zero => exact fun x0 x1 x2 => le_n _
 | succ n ih => exact fun x0 x1 x2 => by show Le (T148_0 (P148 n) x0 x1 x2) _; rw [L148_0_eq]; unfold T148_0; exact le_c (le_g (le_g (le_b (N59_le _) fun _ => le_c (le_r _) (ih _ _ _)))) (le_r _)
noncomputable def N148 (x0 : List S24) : Option Int :=
 (P148 100000).l0 x0 (x0.length : Int) 0
theorem N148_le (x0 : List S24) : Le (N148 x0) (F148 x0) := by rw [F148_eq]; unfold N148; exact (P148_le 100000) _ _ _
noncomputable def N149 (x0 x1 x2 : S24) : Option Int :=
 some (wr .i64 ((wr .i64 ((wr .i64 (x1.f0 - x0.f0)) * (wr .i64 (x2.f0 - x0.f0)))) + (wr .i64 ((wr .i64 (x1.f1 - x0.f1)) * (wr .i64 (x2.f1 - x0.f1))))))
theorem N149_le (x0 x1 x2 : S24) : Le (N149 x0 x1 x2) (F149 x0 x1 x2) := by rw [F149_eq]; unfold N149; exact le_r _
noncomputable def N88 (x0 x1 x2 : S24) : Option (Int × Int) :=
 (N148 [x0, x1, x2]).bind fun y1 =>
 bif (y1 != 0) then
  some (0, y1)
 else
 (N149 x0 x1 x2).bind fun y2 =>
 some (y2, 0)
theorem N88_le (x0 x1 x2 : S24) : Le (N88 x0 x1 x2) (F88 x0 x1 x2) := by rw [F88_eq]; unfold N88; exact le_b (N148_le _) fun _ => le_c (le_r _) (le_b (N149_le _ _ _) fun _ => le_r _)
noncomputable def N141 (x0 x1 x2 : S24) : Option Bool :=
 (N88 x0 x1 x2).bind fun y1 =>
 some (decide (y1.1 ≤ 0))
theorem N141_le (x0 x1 x2 : S24) : Le (N141 x0 x1 x2) (F141 x0 x1 x2) := by rw [F141_eq]; unfold N141; exact le_b (N88_le _ _ _) fun _ => le_r _
noncomputable def N91 (x0 x1 : S24) : Option (Int × Int) :=
 (N88 x0 x1 x1).bind fun y1 =>
 some y1
theorem N91_le (x0 x1 : S24) : Le (N91 x0 x1) (F91 x0 x1) := by rw [F91_eq]; unfold N91; exact le_b (N88_le _ _ _) fun _ => le_r _
def N246 (x0 x1 x2 : Int) : Option (Int × Int) := bits_Add64 x0 x1 x2
theorem N246_le (x0 x1 x2 : Int) : Le (N246 x0 x1 x2) (F246 x0 x1 x2) := le_e (F246_eq x0 x1 x2) (le_r _)
noncomputable def N235 (x0 x1 : S102) : Option (S102 × Int) :=
 (N246 x0.f1 x1.f1 0).bind fun y1 =>
 (N246 x0.f0 x1.f0 y1.2).bind fun y2 =>
 bif (y2.2 != 0) then
  some ((S102.mk 0 0), 2)
 else
 some ((S102.mk y2.1 y1.1), 0)
theorem N235_le (x0 x1 : S102) : Le (N235 x0 x1) (F235 x0 x1) := by rw [F235_eq]; unfold N235; exact le_b (N246_le _ _ _) fun _ => le_b (N246_le _ _ _) fun _ => le_r _
noncomputable def N203 (x0 : S102) (x1 : Int) : Option (S224) :=
 (N93 x0.f1 x1).bind fun y1 =>
 (N93 x0.f0 x1).bind fun y2 =>
 (N78 y1.f0).bind fun y3 =>
 (N235 y3 y2).bind fun y4 =>
 some (S224.mk y1.f1 y4.1.f1 y4.1.f0)
theorem N203_le (x0 : S102) (x1 : Int) : Le (N203 x0 x1) (F203 x0 x1) := by rw [F203_eq]; unfold N203; exact le_b (N93_le _ _) fun _ => le_b (N93_le _ _) fun _ => le_b (N78_le _) fun _ => le_b (N235_le _ _) fun _ => le_r _
structure Q204 where
 l0 : S224 → S224 → Int → Option Bool
noncomputable def T204_0 (q : Q204) (x0 x1 : S224) (x2 : Int) : Option Bool :=
 bif (decide (x2 ≥ 0)) then
  bif (decide (x2 = 0)) then
   bif (decide (x2 = 0)) then
    bif (x0.f0 != x1.f0) then
     bif (decide (x2 = 0)) then
      bif (decide (x2 = 0)) then
       some (decide (x0.f0 < x1.f0))
      else
      bif (decide (x2 = 1)) then
       some (decide (x0.f0 < x1.f1))
      else
      grd (decide (x2 = 2)) <|
      some (decide (x0.f0 < x1.f2))
     else
     bif (decide (x2 = 1)) then
      bif (decide (x2 = 0)) then
       some (decide (x0.f1 < x1.f0))
      else
      bif (decide (x2 = 1)) then
       some (decide (x0.f1 < x1.f1))
      else
      grd (decide (x2 = 2)) <|
      some (decide (x0.f1 < x1.f2))
     else
     grd (decide (x2 = 2)) <|
     bif (decide (x2 = 0)) then
      some (decide (x0.f2 < x1.f0))
     else
     bif (decide (x2 = 1)) then
      some (decide (x0.f2 < x1.f1))
     else
     grd (decide (x2 = 2)) <|
     some (decide (x0.f2 < x1.f2))
    else
    q.l0 x0 x1 (wr .i64 (x2 - 1))
   else
   bif (decide (x2 = 1)) then
    bif (x0.f0 != x1.f1) then
     bif (decide (x2 = 0)) then
      bif (decide (x2 = 0)) then
       some (decide (x0.f0 < x1.f0))
      else
      bif (decide (x2 = 1)) then
       some (decide (x0.f0 < x1.f1))
      else
      grd (decide (x2 = 2)) <|
      some (decide (x0.f0 < x1.f2))
     else
     bif (decide (x2 = 1)) then
      bif (decide (x2 = 0)) then
       some (decide (x0.f1 < x1.f0))
      else
      bif (decide (x2 = 1)) then
       some (decide (x0.f1 < x1.f1))
      else
      grd (decide (x2 = 2)) <|
      some (decide (x0.f1 < x1.f2))
     else
     grd (decide (x2 = 2)) <|
     bif (decide (x2 = 0)) then
      some (decide (x0.f2 < x1.f0))
     else
     bif (decide (x2 = 1)) then
      some (decide (x0.f2 < x1.f1))
     else
     grd (decide (x2 = 2)) <|
     some (decide (x0.f2 < x1.f2))
    else
    q.l0 x0 x1 (wr .i64 (x2 - 1))
   else
   grd (decide (x2 = 2)) <|
   bif (x0.f0 != x1.f2) then
    bif (decide (x2 = 0)) then
     bif (decide (x2 = 0)) then
      some (decide (x0.f0 < x1.f0))
     else
     bif (decide (x2 = 1)) then
      some (decide (x0.f0 < x1.f1))
     else
     grd (decide (x2 = 2)) <|
     some (decide (x0.f0 < x1.f2))
    else
    bif (decide (x2 = 1)) then
     bif (decide (x2 = 0)) then
      some (decide (x0.f1 < x1.f0))
     else
     bif (decide (x2 = 1)) then
      some (decide (x0.f1 < x1.f1))
     else
     grd (decide (x2 = 2)) <|
     some (decide (x0.f1 < x1.f2))
    else
    grd (decide (x2 = 2)) <|
    bif (decide (x2 = 0)) then
     some (decide (x0.f2 < x1.f0))
    else
    bif (decide (x2 = 1)) then
     some (decide (x0.f2 < x1.f1))
    else
    grd (decide (x2 = 2)) <|
    some (decide (x0.f2 < x1.f2))
   else
   q.l0 x0 x1 (wr .i64 (x2 - 1))
  else
  bif (decide (x2 = 1)) then
   bif (decide (x2 = 0)) then
    bif (x0.f1 != x1.f0) then
     bif (decide (x2 = 0)) then
      bif (decide (x2 = 0)) then
       some (decide (x0.f0 < x1.f0))
      else
      bif (decide (x2 = 1)) then
       some (decide (x0.f0 < x1.f1))
      else
      grd (decide (x2 = 2)) <|
      some (decide (x0.f0 < x1.f2))
     else
     bif (decide (x2 = 1)) then
      bif (decide (x2 = 0)) then
       some (decide (x0.f1 < x1.f0))
      else
      bif (decide (x2 = 1)) then
       some (decide (x0.f1 < x1.f1))
      else
      grd (decide (x2 = 2)) <|
      some (decide (x0.f1 < x1.f2))
     else
     grd (decide (x2 = 2)) <|
     bif (decide (x2 = 0)) then
      some (decide (x0.f2 < x1.f0))
     else
     bif (decide (x2 = 1)) then
      some (decide (x0.f2 < x1.f1))
     else
     grd (decide (x2 = 2)) <|
     some (decide (x0.f2 < x1.f2))
    else
    q.l0 x0 x1 (wr .i64 (x2 - 1))
   else
   bif (decide (x2 = 1)) then
    bif (x0.f1 != x1.f1) then
     bif (decide (x2 = 0)) then
      bif (decide (x2 = 0)) then
       some (decide (x0.f0 < x1.f0))
      else
      bif (decide (x2 = 1)) then
       some (decide (x0.f0 < x1.f1))
      else
      grd (decide (x2 = 2)) <|
      some (decide (x0.f0 < x1.f2))
     else
     bif (decide (x2 = 1)) then
      bif (decide (x2 = 0)) then
       some (decide (x0.f1 < x1.f0))
      else
      bif (decide (x2 = 1)) then
       some (decide (x0.f1 < x1.f1))
      else
      grd (decide (x2 = 2)) <|
      some (decide (x0.f1 < x1.f2))
     else
     grd (decide (x2 = 2)) <|
     bif (decide (x2 = 0)) then
      some (decide (x0.f2 < x1.f0))
     else
     bif (decide (x2 = 1)) then
      some (decide (x0.f2 < x1.f1))
     else
     grd (decide (x2 = 2)) <|
     some (decide (x0.f2 < x1.f2))
    else
    q.l0 x0 x1 (wr .i64 (x2 - 1))
   else
   grd (decide (x2 = 2)) <|
   bif (x0.f1 != x1.f2) then
    bif (decide (x2 = 0)) then
     bif (decide (x2 = 0)) then
      some (decide (x0.f0 < x1.f0))
     else
     bif (decide (x2 = 1)) then
      some (decide (x0.f0 < x1.f1))
     else
     grd (decide (x2 = 2)) <|
     some (decide (x0.f0 < x1.f2))
    else
    bif (decide (x2 = 1)) then
     bif (decide (x2 = 0)) then
      some (decide (x0.f1 < x1.f0))
     else
     bif (decide (x2 = 1)) then
      some (decide (x0.f1 < x1.f1))
     else
     grd (decide (x2 = 2)) <|
     some (decide (x0.f1 < x1.f2))
    else
    grd (decide (x2 = 2)) <|
    bif (decide (x2 = 0)) then
     some (decide (x0.f2 < x1.f0))
    else
    bif (decide (x2 = 1)) then
     some (decide (x0.f2 < x1.f1))
    else
    grd (decide (x2 = 2)) <|
    some (decide (x0.f2 < x1.f2))
   else
   q.l0 x0 x1 (wr .i64 (x2 - 1))
  else
  grd (decide (x2 = 2)) <|
  bif (decide (x2 = 0)) then
   bif (x0.f2 != x1.f0) then
    bif (decide (x2 = 0)) then
     bif (decide (x2 = 0)) then
      some (decide (x0.f0 < x1.f0))
     else
     bif (decide (x2 = 1)) then
      some (decide (x0.f0 < x1.f1))
     else
     grd (decide (x2 = 2)) <|
     some (decide (x0.f0 < x1.f2))
    else
    bif (decide (x2 = 1)) then
     bif (decide (x2 = 0)) then
      some (decide (x0.f1 < x1.f0))
     else
     bif (decide (x2 = 1)) then
      some (decide (x0.f1 < x1.f1))
     else
     grd (decide (x2 = 2)) <|
     some (decide (x0.f1 < x1.f2))
    else
    grd (decide (x2 = 2)) <|
    bif (decide (x2 = 0)) then
     some (decide (x0.f2 < x1.f0))
    else
    bif (decide (x2 = 1)) then
     some (decide (x0.f2 < x1.f1))
    else
    grd (decide (x2 = 2)) <|
    some (decide (x0.f2 < x1.f2))
   else
   q.l0 x0 x1 (wr .i64 (x2 - 1))
  else
  bif (decide (x2 = 1)) then
   bif (x0.f2 != x1.f1) then
    bif (decide (x2 = 0)) then
     bif (decide (x2 = 0)) then
      some (decide (x0.f0 < x1.f0))
     else
     bif (decide (x2 = 1)) then
      some (decide (x0.f0 < x1.f1))
     else
     grd (decide (x2 = 2)) <|
     some (decide (x0.f0 < x1.f2))
    else
    bif (decide (x2 = 1)) then
     bif (decide (x2 = 0)) then
      some (decide (x0.f1 < x1.f0))
     else
     bif (decide (x2 = 1)) then
      some (decide (x0.f1 < x1.f1))
     else
     grd (decide (x2 = 2)) <|
     some (decide (x0.f1 < x1.f2))
    else
    grd (decide (x2 = 2)) <|
    bif (decide (x2 = 0)) then
     some (decide (x0.f2 < x1.f0))
    else
    bif (decide (x2 = 1)) then
     some (decide (x0.f2 < x1.f1))
    else
    grd (decide (x2 = 2)) <|
    some (decide (x0.f2 < x1.f2))
   else
   q.l0 x0 x1 (wr .i64 (x2 - 1))
  else
  grd (decide (x2 = 2)) <|
  bif (x0.f2 != x1.f2) then
   bif (decide (x2 = 0)) then
    bif (decide (x2 = 0)) then
     some (decide (x0.f0 < x1.f0))
    else
    bif (decide (x2 = 1)) then
     some (decide (x0.f0 < x1.f1))
    else
    grd (decide (x2 = 2)) <|
    some (decide (x0.f0 < x1.f2))
   else
   bif (decide (x2 = 1)) then
    bif (decide (x2 = 0)) then
     some (decide (x0.f1 < x1.f0))
    else
    bif (decide (x2 = 1)) then
     some (decide (x0.f1 < x1.f1))
    else
    grd (decide (x2 = 2)) <|
    some (decide (x0.f1 < x1.f2))
   else
   grd (decide (x2 = 2)) <|
   bif (decide (x2 = 0)) then
    some (decide (x0.f2 < x1.f0))
   else
   bif (decide (x2 = 1)) then
    some (decide (x0.f2 < x1.f1))
   else
   grd (decide (x2 = 2)) <|
   some (decide (x0.f2 < x1.f2))
  else
  q.l0 x0 x1 (wr .i64 (x2 - 1))
 else
 some true
noncomputable def P204 (n : Nat) : Q204 := Nat.rec ⟨fun _ _ _ => none⟩ (fun _ q => ⟨T204_0 q⟩) n
theorem P204_le : ∀ n, (∀ x0 x1 x2, Le ((P204 n).l0 x0 x1 x2) (L204_0 x0 x1 x2)) := fun n => by
 induction n with
 | zero => exact fun x0 x1 x2 => le_n _
 | succ n ih => exact fun x0 x1 x2 => by show Le (T204_0 (P204 n) x0 x1 x2) _; rw [L204_0_eq]; unfold T204_0; exact le_c (le_c (le_c (le_c (le_r _) (ih _ _ _)) (le_c (le_c (le_r _) (ih _ _ _)) (le_g (le_c (le_r _) (ih _ _ _))))) (le_c (le_c (le_c (le_r _) (ih _ _ _)) (le_c (le_c (le_r _) (ih _ _ _)) (le_g (le_c (le_r _) (ih _ _ _))))) (le_g (le_c (le_c (le_r _) (ih _ _ _)) (le_c (le_c (le_r _) (ih _ _ _)) (le_g (le_c (le_r _) (ih _ _ _)))))))) (le_r _)
noncomputable def N204 (x0 x1 : S224) : Option Bool :=
 (P204 100000).l0 x0 x1 2
theorem N204_le (x0 x1 : S224) : Le (N204 x0 x1) (F204 x0 x1) := by rw [F204_eq]; unfold N204; exact (P204_le 100000) _ _ _
structure Q152 where
 l0 : S168 → S102 → S224 → Int → Int → Option Int
noncomputable def T152_0 (q : Q152) (x0 : S168) (x1 : S102) (x2 : S224) (x3 x4 : Int) : Option Int :=
 bif (decide ((wr .i64 (x4 - x3)) > 1)) then
  (N203 x1 (wr .u64 ((wr .u64 ((wr .u64 (wr .i64 (Int.tdiv (wr .i64 (x3 + x4)) (2 : Int)))) * (wr .u64 x0.f0))) * (wr .u64 ((wr .u64 (wr .i64 (Int.tdiv (wr .i64 (x3 + x4)) (2 : Int)))) * (wr .u64 x0.f0)))))).bind fun y1 =>
  (N204 y1 x2).bind fun y2 =>
  bif y2 then
   q.l0 x0 x1 x2 (wr .i64 (Int.tdiv (wr .i64 (x3 + x4)) (2 : Int))) x4
  else
  q.l0 x0 x1 x2 x3 (wr .i64 (Int.tdiv (wr .i64 (x3 + x4)) (2 : Int)))
 else
 some x3
noncomputable def P152 (n : Nat) : Q152 := Nat.rec ⟨fun _ _ _ _ _ => none⟩ (fun _ q => ⟨T152_0 q⟩) n
theorem P152_le : ∀ n, (∀ x0 x1 x2 x3 x4, Le ((P152 n).l0 x0 x1 x2 x3 x4) (L152_0 x0 x1 x2 x3 x4)) := fun n => by
 induction n with
 | zero => exact fun x0 x1 x2 x3 x4 => le_n _
 | succ n ih => exact fun x0 x1 x2 x3 x4 => by show Le (T152_0 (P152 n) x0 x1 x2 x3 x4) _; rw [L152_0_eq]; unfold T152_0; exact le_c (le_b (N203_le _ _) fun _ => le_b (N204_le _ _) fun _ => le_c (ih _ _ _ _ _) (ih _ _ _ _ _)) (le_r _)
noncomputable def N152 (x0 : S168) (x1 x2 : S102) : Option Int :=
 (N203 x1 (wr .u64 ((wr .u64 x0.f1) * (wr .u64 x0.f1)))).bind fun y1 =>
 (P152 100000).l0 x0 x2 y1 0 (wr .i64 (x0.f1 + 1))
theorem N152_le (x0 : S168) (x1 x2 : S102) : Le (N152 x0 x1 x2) (F152 x0 x1 x2) := by rw [F152_eq]; unfold N152; exact le_b (N203_le _ _) fun _ => (P152_le 100000) _ _ _ _ _
noncomputable def N142 (x0 : S168) (x1 x2 : S24) : Option Int :=
 (N91 x1 x2).bind fun y1 =>
 (N78 (wr .u64 y1.1)).bind fun y2 =>
 (N78 1).bind fun y3 =>
 (N152 x0 y2 y3).bind fun y4 =>
 some y4
theorem N142_le (x0 : S168) (x1 x2 : S24) : Le (N142 x0 x1 x2) (F142 x0 x1 x2) := by rw [F142_eq]; unfold N142; exact le_b (N91_le _ _) fun _ => le_b (N78_le _) fun _ => le_b (N78_le _) fun _ => le_b (N152_le _ _ _) fun _ => le_r _
noncomputable def N150 (x0 x1 x2 : S24) : Option Int :=
 some (wr .i64 ((wr .i64 ((wr .i64 (x1.f0 - x0.f0)) * (wr .i64 (x2.f1 - x0.f1)))) - (wr .i64 ((wr .i64 (x1.f1 - x0.f1)) * (wr .i64 (x2.f0 - x0.f0))))))
theorem N150_le (x0 x1 x2 : S24) : Le (N150 x0 x1 x2) (F150 x0 x1 x2) := by rw [F150_eq]; unfold N150; exact le_r _
noncomputable def N90 (x0 x1 x2 : S24) : Option (Int × Int) :=
 (N148 [x0, x1, x2]).bind fun y1 =>
 bif (y1 != 0) then
  some (0, y1)
 else
 (N150 x0 x1 x2).bind fun y2 =>
 some (y2, 0)
theorem N90_le (x0 x1 x2 : S24) : Le (N90 x0 x1 x2) (F90 x0 x1 x2) := by rw [F90_eq]; unfold N90; exact le_b (N148_le _) fun _ => le_c (le_r _) (le_b (N150_le _ _ _) fun _ => le_r _)
noncomputable def N198 (x0 : Int) : Option Int :=
 some (wr .u64 (mxE x0 (wr .i64 (0 - x0))))
theorem N198_le (x0 : Int) : Le (N198 x0) (F198 x0) := by rw [F198_eq]; unfold N198; exact le_r _
noncomputable def N143 (x0 : S168) (x1 x2 x3 : S24) : Option Int :=
 (N90 x2 x3 x1).bind fun y1 =>
 (N91 x2 x3).bind fun y2 =>
 (N198 y1.1).bind fun y3 =>
 (N198 y1.1).bind fun y4 =>
 (N93 y3 y4).bind fun y5 =>
 (N78 (wr .u64 y2.1)).bind fun y6 =>
 (N152 x0 y5 y6).bind fun y7 =>
 some y7
theorem N143_le (x0 : S168) (x1 x2 x3 : S24) : Le (N143 x0 x1 x2 x3) (F143 x0 x1 x2 x3) := by rw [F143_eq]; unfold N143; exact le_b (N90_le _ _ _) fun _ => le_b (N91_le _ _) fun _ => le_b (N198_le _) fun _ => le_b (N198_le _) fun _ => le_b (N93_le _ _) fun _ => le_b (N78_le _) fun _ => le_b (N152_le _ _ _) fun _ => le_r _
noncomputable def N85 (x0 x1 x2 : S24) (x3 x4 : Int) : Option (Int × Int) :=
 (N140 (S168.mk x3 x4) [x0, x1, x2]).bind fun y1 =>
 bif (y1 != 0) then
  some (0, y1)
 else
 (N141 x1 x2 x0).bind fun y2 =>
 bif y2 then
  (N142 (S168.mk x3 x4) x0 x1).bind fun y3 =>
  some (y3, 0)
 else
 (N141 x2 x1 x0).bind fun y4 =>
 bif y4 then
  (N142 (S168.mk x3 x4) x0 x2).bind fun y5 =>
  some (y5, 0)
 else
 (N143 (S168.mk x3 x4) x0 x1 x2).bind fun y6 =>
 some (y6, 0)
theorem N85_le (x0 x1 x2 : S24) (x3 x4 : Int) : Le (N85 x0 x1 x2 x3 x4) (F85 x0 x1 x2 x3 x4) := by rw [F85_eq]; unfold N85; exact le_b (N140_le _ _) fun _ => le_c (le_r _) (le_b (N141_le _ _ _) fun _ => le_c (le_b (N142_le _ _ _) fun _ => le_r _) (le_b (N141_le _ _ _) fun _ => le_c (le_b (N142_le _ _ _) fun _ => le_r _) (le_b (N143_le _ _ _ _) fun _ => le_r _)))
structure Q144 where
 l0 : Int → List Int → Int → Int → Option Bool
noncomputable def T144_0 (q : Q144) (x0 : Int) (x1 : List Int) (x2 x3 : Int) : Option Bool :=
 bif (decide (x3 < x2)) then
  grd (decide (0 ≤ x3)) <|
  grd (decide (x3 < (x1.length : Int))) <|
  bif (decide ((mxE (x1.getD (Int.toNat x3) 0) (wr .i64 (0 - (x1.getD (Int.toNat x3) 0)))) > 131072)) then
   some false
  else
  q.l0 x0 x1 x2 (wr .i64 (x3 + 1))
 else
 some (decide (x0 ≤ 4096))
noncomputable def P144 (n : Nat) : Q144 := Nat.rec ⟨fun _ _ _ _ => none⟩ (fun _ q => ⟨T144_0 q⟩) n
theorem P144_le : ∀ n, (∀ x0 x1 x2 x3, Le ((P144 n).l0 x0 x1 x2 x3) (L144_0 x0 x1 x2 x3)) := fun n => by
 induction n with
 | zero => exact fun x0 x1 x2 x3 => le_n _
 | succ n ih => exact fun x0 x1 x2 x3 => by show Le (T144_0 (P144 n) x0 x1 x2 x3) _; rw [L144_0_eq]; unfold T144_0; exact le_c (le_g (le_g (le_c (le_r _) (ih _ _ _ _)))) (le_r _)
noncomputable def N144 (x0 : S24) (x1 : S34) (x2 : Int) : Option Bool :=
 (P144 100000).l0 x2 [x0.f0, x0.f1, x1.f2.f0, x1.f2.f1, x1.f3.f0, x1.f3.f1, x1.f4.f0, x1.f4.f1] (8 : Int) 0
theorem N144_le (x0 : S24) (x1 : S34) (x2 : Int) : Le (N144 x0 x1 x2) (F144 x0 x1 x2) := by rw [F144_eq]; unfold N144; exact (P144_le 100000) _ _ _ _
noncomputable def N199 (x0 : S174) (x1 x2 x3 x4 : S24) : Option (S174) :=
 (N85 x1 x2 x4 x0.f0 x0.f1).bind fun y1 =>
 bif (decide (x0.f0 = 0)) then
  none
 else
 some (S174.mk x0.f0 x0.f1 (mnE x0.f2 (wr .i64 (y1.1 - (wr .i64 ((wr .i64 (Int.tdiv (wr .i64 ((wr .i64 ((wr .i64 (Int.tdiv (mxE (mxE (mxE (wr .i64 ((wr .i64 (x2.f0 - (wr .i64 (2 * x3.f0)))) + x4.f0)) (wr .i64 (0 - (wr .i64 ((wr .i64 (x2.f0 - (wr .i64 (2 * x3.f0)))) + x4.f0))))) (wr .i64 ((wr .i64 (x2.f1 - (wr .i64 (2 * x3.f1)))) + x4.f1))) (wr .i64 (0 - (wr .i64 ((wr .i64 (x2.f1 - (wr .i64 (2 * x3.f1)))) + x4.f1))))) (2 : Int))) + 1)) * x0.f1)) x0.f0)) + 2))))) (mnE x0.f3 (wr .i64 (y1.1 + (wr .i64 ((wr .i64 (Int.tdiv (wr .i64 ((wr .i64 ((wr .i64 (Int.tdiv (mxE (mxE (mxE (wr .i64 ((wr .i64 (x2.f0 - (wr .i64 (2 * x3.f0)))) + x4.f0)) (wr .i64 (0 - (wr .i64 ((wr .i64 (x2.f0 - (wr .i64 (2 * x3.f0)))) + x4.f0))))) (wr .i64 ((wr .i64 (x2.f1 - (wr .i64 (2 * x3.f1)))) + x4.f1))) (wr .i64 (0 - (wr .i64 ((wr .i64 (x2.f1 - (wr .i64 (2 * x3.f1)))) + x4.f1))))) (2 : Int))) + 1)) * x0.f1)) x0.f0)) + 2))))))
theorem N199_le (x0 : S174) (x1 x2 x3 x4 : S24) : Le (N199 x0 x1 x2 x3 x4) (F199 x0 x1 x2 x3 x4) := by rw [F199_eq]; unfold N199; exact le_b (N85_le _ _ _ _ _) fun _ => le_r _
noncomputable def N200 (x0 x1 : S24) : Option (S24) :=
 some (S24.mk (wr .i64 (Int.tdiv (wr .i64 (x0.f0 + x1.f0)) (2 : Int))) (wr .i64 (Int.tdiv (wr .i64 (x0.f1 + x1.f1)) (2 : Int))))
theorem N200_le (x0 x1 : S24) : Le (N200 x0 x1) (F200 x0 x1) := by rw [F200_eq]; unfold N200; exact le_r _
noncomputable def U145 (g : S174 → S24 → S24 → S24 → S24 → Int → Option (S174)) (x0 : S174) (x1 x2 x3 x4 : S24) (x5 : Int) : Option (S174) :=
 bif (x5 == 0) then
  (N199 x0 x1 x2 x3 x4).bind fun y1 =>
  some y1
 else
 (N200 x2 x3).bind fun y2 =>
 (N200 x3 x4).bind fun y3 =>
 (N200 y2 y3).bind fun y4 =>
 (g x0 x1 x2 y2 y4 (wr .i64 (x5 - 1))).bind fun y5 =>
 (g y5 x1 y4 y3 x4 (wr .i64 (x5 - 1))).bind fun y6 =>
 some y6
noncomputable def M145 (n : Nat) : S174 → S24 → S24 → S24 → S24 → Int → Option (S174) := Nat.rec (fun _ _ _ _ _ _ => none) (fun _ g => U145 g) n
theorem U145_le (n : Nat) (g : S174 → S24 → S24 → S24 → S24 → Int → Option (S174)) (hg : ∀ x0 x1 x2 x3 x4 x5, Le (g x0 x1 x2 x3 x4 x5) (F145r (Gn D fd145 h145 n) x0 x1 x2 x3 x4 x5)) (x0 : S174) (x1 x2 x3 x4 : S24) (x5 : Int) : Le (U145 g x0 x1 x2 x3 x4 x5) (F145g (Gn D fd145 h145 n) x0 x1 x2 x3 x4 x5) := le_e (F145_eq (Gn D fd145 h145 n) x0 x1 x2 x3 x4 x5) (by unfold U145; exact le_c (le_b (N199_le _ _ _ _ _) fun _ => le_r _) (le_b (N200_le _ _) fun _ => le_b (N200_le _ _) fun _ => le_b (N200_le _ _) fun _ => le_b (hg _ _ _ _ _ _) fun _ => le_b (hg _ _ _ _ _ _) fun _ => le_r _))
theorem M145_le : ∀ (n : Nat) (x0 : S174) (x1 x2 x3 x4 : S24) (x5 : Int), Le (M145 n x0 x1 x2 x3 x4 x5) (F145r (Gn D fd145 h145 n) x0 x1 x2 x3 x4 x5) := fun n => by
 induction n with
 | zero => intro x0 x1 x2 x3 x4 x5; exact le_n _
 | succ n ih => intro x0 x1 x2 x3 x4 x5; exact le_e (F145_n n x0 x1 x2 x3 x4 x5) (U145_le n (M145 n) ih x0 x1 x2 x3 x4 x5)
noncomputable def N145 : S174 → S24 → S24 → S24 → S24 → Int → Option (S174) := M145 1000
theorem N145_le (x0 : S174) (x1 x2 x3 x4 : S24) (x5 : Int) : Le (N145 x0 x1 x2 x3 x4 x5) (F145 x0 x1 x2 x3 x4 x5) := fun y h => F145_of 1000 x0 x1 x2 x3 x4 x5 y (M145_le 1000 x0 x1 x2 x3 x4 x5 y h)
noncomputable def N146 (x0 : S24) : Option (S24) :=
 some (S24.mk (wr .i64 (256 * x0.f0)) (wr .i64 (256 * x0.f1)))
theorem N146_le (x0 : S24) : Le (N146 x0) (F146 x0) := by rw [F146_eq]; unfold N146; exact le_r _
noncomputable def N86 (x0 : S24) (x1 : S34) (x2 x3 : Int) : Option (Int × Int) :=
 (N144 x0 x1 x2).bind fun y1 =>
 bif (!y1) then
  some (0, x3)
 else
 (N146 x0).bind fun y2 =>
 (N146 x1.f2).bind fun y3 =>
 (N146 x1.f3).bind fun y4 =>
 (N146 x1.f4).bind fun y5 =>
 (N145 (S174.mk (wr .i64 (256 * x2)) x3 x3 x3) y2 y3 y4 y5 4).bind fun y6 =>
 some ((mxE y6.f2 (0 : Int)), y6.f3)
theorem N86_le (x0 : S24) (x1 : S34) (x2 x3 : Int) : Le (N86 x0 x1 x2 x3) (F86 x0 x1 x2 x3) := by rw [F86_eq]; unfold N86; exact le_b (N144_le _ _ _) fun _ => le_c (le_r _) (le_b (N146_le _) fun _ => le_b (N146_le _) fun _ => le_b (N146_le _) fun _ => le_b (N146_le _) fun _ => le_b (N145_le _ _ _ _ _ _) fun _ => le_r _)
noncomputable def N95 (x0 : Int) : Option (S77) :=
 (N155 x0).bind fun y1 =>
 (N155 x0).bind fun y2 =>
 (N154 y1 y2).bind fun y3 =>
 some y3
theorem N95_le (x0 : Int) : Le (N95 x0) (F95 x0) := by rw [F95_eq]; unfold N95; exact le_b (N155_le _) fun _ => le_b (N155_le _) fun _ => le_b (N154_le _ _) fun _ => le_r _
structure Q96 where
 l0 : Int → S77 → S77 → List Int → Int → List Int → Int → Int → Option (S77)
noncomputable def T96_0 (q : Q96) (x0 : Int) (x1 x2 : S77) (x3 : List Int) (x4 : Int) (x5 : List Int) (x6 x7 : Int) : Option (S77) :=
 bif (decide (x7 < x6)) then
  grd (decide (0 ≤ x7)) <|
  grd (decide (x7 < (x5.length : Int))) <|
  grd (decide (0 ≤ (Int.tmod x0 (32 : Int)))) <|
  grd (fit (x3.length + [(wr .u32 (orE .u64 (shlE .u64 (wr .u64 (x5.getD (Int.toNat x7) 0)) (Int.tmod x0 (32 : Int))) x4))].length) 4) <|
  q.l0 x0 x1 x2 (x3 ++ [(wr .u32 (orE .u64 (shlE .u64 (wr .u64 (x5.getD (Int.toNat x7) 0)) (Int.tmod x0 (32 : Int))) x4))]) (shrE .u64 (orE .u64 (shlE .u64 (wr .u64 (x5.getD (Int.toNat x7) 0)) (Int.tmod x0 (32 : Int))) x4) (32 : Int)) x5 x6 (wr .i64 (x7 + 1))
 else
 grd (fit (x3.length + [(wr .u32 x4)].length) 4) <|
 (N156 x1.f0 (x3 ++ [(wr .u32 x4)])).bind fun y1 =>
 some y1
noncomputable def P96 (n : Nat) : Q96 := Nat.rec ⟨fun _ _ _ _ _ _ _ _ => none⟩ (fun _ q => ⟨T96_0 q⟩) n
theorem P96_le : ∀ n, (∀ x0 x1 x2 x3 x4 x5 x6 x7, Le ((P96 n).l0 x0 x1 x2 x3 x4 x5 x6 x7) (L96_0 x0 x1 x2 x3 x4 x5 x6 x7)) := fun n => by
 induction n with
 | zero => exact fun x0 x1 x2 x3 x4 x5 x6 x7 => le_n _
 | succ n ih => exact fun x0 x1 x2 x3 x4 x5 x6 x7 => by show Le (T96_0 (P96 n) x0 x1 x2 x3 x4 x5 x6 x7) _; rw [L96_0_eq]; unfold T96_0; exact le_c (le_g (le_g (le_g (le_g (ih _ _ _ _ _ _ _ _))))) (le_g (le_b (N156_le _ _) fun _ => le_r _))
noncomputable def N96 (x0 : S77) (x1 : Int) : Option (S77) :=
 grd (decide (0 ≤ (wr .i64 (Int.tdiv (mnE (mxE x1 (0 : Int)) (4096 : Int)) (32 : Int))))) <|
 grd (decide ((wr .i64 (Int.tdiv (mnE (mxE x1 (0 : Int)) (4096 : Int)) (32 : Int))) ≤ (wr .i64 ((wr .i64 ((wr .i64 (Int.tdiv (mnE (mxE x1 (0 : Int)) (4096 : Int)) (32 : Int))) + (x0.f1.length : Int))) + 1)))) <|
 grd (fitM (Int.toNat (wr .i64 ((wr .i64 ((wr .i64 (Int.tdiv (mnE (mxE x1 (0 : Int)) (4096 : Int)) (32 : Int))) + (x0.f1.length : Int))) + 1))) 4) <|
 (P96 100000).l0 (mnE (mxE x1 (0 : Int)) (4096 : Int)) x0 (S77.mk false []) (List.replicate (Int.toNat (wr .i64 (Int.tdiv (mnE (mxE x1 (0 : Int)) (4096 : Int)) (32 : Int)))) (0 : Int)) 0 x0.f1 (x0.f1.length : Int) 0
theorem N96_le (x0 : S77) (x1 : Int) : Le (N96 x0 x1) (F96 x0 x1) := by rw [F96_eq]; unfold N96; exact le_g (le_g (le_g ((P96_le 100000) _ _ _ _ _ _ _ _)))
def N236 (x0 : List Int) : Option (List Int) := grd (fit (0 + x0.length) 4) (some x0)
theorem N236_le (x0 : List Int) : Le (N236 x0) (F236 x0) := le_e (F236_eq x0) (le_r _)
noncomputable def N207 (x0 : S77) : Option (S77) :=
 (N236 x0.f1).bind fun y1 =>
 (N156 (!x0.f0) y1).bind fun y2 =>
 some y2
theorem N207_le (x0 : S77) : Le (N207 x0) (F207 x0) := by rw [F207_eq]; unfold N207; exact le_b (N236_le _) fun _ => le_b (N156_le _ _) fun _ => le_r _
noncomputable def N158 (x0 x1 : S77) : Option (S77) :=
 (N207 x1).bind fun y1 =>
 (N159 x0 y1).bind fun y2 =>
 some y2
theorem N158_le (x0 x1 : S77) : Le (N158 x0 x1) (F158 x0 x1) := by rw [F158_eq]; unfold N158; exact le_b (N207_le _) fun _ => le_b (N159_le _ _) fun _ => le_r _
structure Q157158 where
 l0 : List S77 → List S77 → List S77 → Int → Int → Option (List S77)
noncomputable def T157158_0 (q : Q157158) (x0 x1 x2 : List S77) (x3 x4 : Int) : Option (List S77) :=
 bif (decide (x4 < x3)) then
  (N206 x0 x4).bind fun y1 =>
  (N206 x1 x4).bind fun y2 =>
  (N158 y1 y2).bind fun y3 =>
  grd (fit (x2.length + [y3].length) 32) <|
  q.l0 x0 x1 (x2 ++ [y3]) x3 (wr .i64 (x4 + 1))
 else
 (N160 x2).bind fun y4 =>
 some y4
noncomputable def P157158 (n : Nat) : Q157158 := Nat.rec ⟨fun _ _ _ _ _ => none⟩ (fun _ q => ⟨T157158_0 q⟩) n
theorem P157158_le : ∀ n, (∀ x0 x1 x2 x3 x4, Le ((P157158 n).l0 x0 x1 x2 x3 x4) (L157158_0 x0 x1 x2 x3 x4)) := fun n => by
 induction n with
 | zero => exact fun x0 x1 x2 x3 x4 => le_n _
 | succ n ih => exact fun x0 x1 x2 x3 x4 => by show Le (T157158_0 (P157158 n) x0 x1 x2 x3 x4) _; rw [L157158_0_eq]; unfold T157158_0; exact le_c (le_b (N206_le _ _) fun _ => le_b (N206_le _ _) fun _ => le_b (N158_le _ _) fun _ => le_g (ih _ _ _ _ _)) (le_b (N160_le _) fun _ => le_r _)
noncomputable def N157158 (x0 x1 : List S77) (x2 : Unit) : Option (List S77) :=
 (P157158 100000).l0 x0 x1 [] (mxE (x0.length : Int) (x1.length : Int)) 0
theorem N157158_le (x0 x1 : List S77) (x2 : Unit) : Le (N157158 x0 x1 x2) (F157158 x0 x1 x2) := by rw [F157158_eq]; unfold N157158; exact (P157158_le 100000) _ _ _ _ _
noncomputable def N97 (x0 x1 : List S77) : Option (List S77) :=
 (N157158 x0 x1 ()).bind fun y1 =>
 some y1
theorem N97_le (x0 x1 : List S77) : Le (N97 x0 x1) (F97 x0 x1) := by rw [F97_eq]; unfold N97; exact le_b (N157158_le _ _ _) fun _ => le_r _
structure Q46 where
 l0 : List S77 → Int → S77 → Option (List S77)
noncomputable def T46_0 (q : Q46) (x0 : List S77) (x1 : Int) (x2 : S77) : Option (List S77) :=
 (N95 x1).bind fun y1 =>
 (N98 x0 [y1]).bind fun y2 =>
 (N97 y2 [x2]).bind fun y3 =>
 some y3
noncomputable def P46 (n : Nat) : Q46 := Nat.rec ⟨fun _ _ _ => none⟩ (fun _ q => ⟨T46_0 q⟩) n
theorem P46_le : ∀ n, (∀ x0 x1 x2, Le ((P46 n).l0 x0 x1 x2) (L46_0 x0 x1 x2)) := fun n => by
 induction n with
 | zero => exact fun x0 x1 x2 => le_n _
 | succ n ih => exact fun x0 x1 x2 => by show Le (T46_0 (P46 n) x0 x1 x2) _; rw [L46_0_eq]; unfold T46_0; exact le_b (N95_le _) fun _ => le_b (N98_le _ _) fun _ => le_b (N97_le _ _) fun _ => le_r _
noncomputable def N46 (x0 : List S77) (x1 : Bool) (x2 x3 x4 : Int) : Option (List S77) :=
 (N95 (wr .i64 (x4 * x2))).bind fun y1 =>
 bif (!x1) then
  (N96 y1 2).bind fun y2 =>
  (P46 100000).l0 x0 x3 y2
 else
 (P46 100000).l0 x0 x3 y1
theorem N46_le (x0 : List S77) (x1 : Bool) (x2 x3 x4 : Int) : Le (N46 x0 x1 x2 x3 x4) (F46 x0 x1 x2 x3 x4) := by rw [F46_eq]; unfold N46; exact le_b (N95_le _) fun _ => le_c (le_b (N96_le _ _) fun _ => (P46_le 100000) _ _ _) ((P46_le 100000) _ _ _)
structure Q172 where
 l0 : S37 → S37 → Option (Int × Int)
 l1 : S37 → S37 → S160 → S160 → Option (Int × Int)
 l2 : S37 → S37 → S160 → S160 → Option (Int × Int)
 l3 : S37 → S160 → S160 → Option (Int × Int)
noncomputable def T172_0 (q : Q172) (x0 x1 : S37) : Option (Int × Int) :=
 (N134 x0.f0 x1.f1).bind fun y1 =>
 (N134 x1.f0 x0.f1).bind fun y2 =>
 bif ((y1.f1.f0 == 0) && (y1.f1.f1 == 0)) then
  bif ((y2.f1.f0 == 0) && (y2.f1.f1 == 0)) then
   some (0, 0)
  else
  q.l1 x0 x1 y1 y2
 else
 q.l1 x0 x1 y1 y2
noncomputable def T172_1 (q : Q172) (x0 x1 : S37) (x2 x3 : S160) : Option (Int × Int) :=
 bif (decide (x0.f0 < 0)) then
  bif (decide (x1.f0 ≥ 0)) then
   some ((-1), 0)
  else
  q.l2 x0 x1 x2 x3
 else
 q.l2 x0 x1 x2 x3
noncomputable def T172_2 (q : Q172) (x0 x1 : S37) (x2 x3 : S160) : Option (Int × Int) :=
 bif (decide (x0.f0 ≥ 0)) then
  bif (decide (x1.f0 < 0)) then
   some (1, 0)
  else
  q.l3 x0 x2 x3
 else
 q.l3 x0 x2 x3
noncomputable def T172_3 (q : Q172) (x0 : S37) (x1 x2 : S160) : Option (Int × Int) :=
 bif (decide (x0.f0 < 0)) then
  (N131 x2.f1 x1.f1).bind fun y1 =>
  some (y1, 0)
 else
 (N131 x1.f1 x2.f1).bind fun y2 =>
 some (y2, 0)
noncomputable def P172 (n : Nat) : Q172 := Nat.rec ⟨fun _ _ => none, fun _ _ _ _ => none, fun _ _ _ _ => none, fun _ _ _ => none⟩ (fun _ q => ⟨T172_0 q, T172_1 q, T172_2 q, T172_3 q⟩) n
theorem P172_le : ∀ n, (∀ x0 x1, Le ((P172 n).l0 x0 x1) (L172_0 x0 x1)) ∧ (∀ x0 x1 x2 x3, Le ((P172 n).l1 x0 x1 x2 x3) (L172_1 x0 x1 x2 x3)) ∧ (∀ x0 x1 x2 x3, Le ((P172 n).l2 x0 x1 x2 x3) (L172_2 x0 x1 x2 x3)) ∧ (∀ x0 x1 x2, Le ((P172 n).l3 x0 x1 x2) (L172_3 x0 x1 x2)) := fun n => by
 induction n with
 | zero => exact ⟨fun x0 x1 => le_n _, fun x0 x1 x2 x3 => le_n _, fun x0 x1 x2 x3 => le_n _, fun x0 x1 x2 => le_n _⟩
 | succ n ih => exact ⟨fun x0 x1 => by show Le (T172_0 (P172 n) x0 x1) _; rw [L172_0_eq]; unfold T172_0; exact le_b (N134_le _ _) fun _ => le_b (N134_le _ _) fun _ => le_c (le_c (le_r _) (ih.2.1 _ _ _ _)) (ih.2.1 _ _ _ _),
  fun x0 x1 x2 x3 => by show Le (T172_1 (P172 n) x0 x1 x2 x3) _; rw [L172_1_eq]; unfold T172_1; exact le_c (le_c (le_r _) (ih.2.2.1 _ _ _ _)) (ih.2.2.1 _ _ _ _),
  fun x0 x1 x2 x3 => by show Le (T172_2 (P172 n) x0 x1 x2 x3) _; rw [L172_2_eq]; unfold T172_2; exact le_c (le_c (le_r _) (ih.2.2.2 _ _ _)) (ih.2.2.2 _ _ _),
  fun x0 x1 x2 => by show Le (T172_3 (P172 n) x0 x1 x2) _; rw [L172_3_eq]; unfold T172_3; exact le_c (le_b (N131_le _ _) fun _ => le_r _) (le_b (N131_le _ _) fun _ => le_r _)⟩
noncomputable def N172 (x0 x1 : S37) : Option (Int × Int) :=
 (N38 x0).bind fun y1 =>
 bif (!y1) then
  some (0, 1)
 else
 (N38 x1).bind fun y2 =>
 bif (!y2) then
  some (0, 1)
 else
 (P172 100000).l0 x0 x1
theorem N172_le (x0 x1 : S37) : Le (N172 x0 x1) (F172 x0 x1) := by rw [F172_eq]; unfold N172; exact le_b (N38_le _) fun _ => le_c (le_r _) (le_b (N38_le _) fun _ => le_c (le_r _) ((P172_le 100000).1 _ _))
noncomputable def N212 (x0 : List S77) : Option Int :=
 (N160 x0).bind fun y1 =>
 some (wr .i64 ((y1.length : Int) - 1))
theorem N212_le (x0 : List S77) : Le (N212 x0) (F212 x0) := by rw [F212_eq]; unfold N212; exact le_b (N160_le _) fun _ => le_r _
structure Q168 where
 l0 : List S77 → Option Int
noncomputable def T168_0 (q : Q168) (x0 : List S77) : Option Int :=
 (N212 x0).bind fun y1 =>
 bif (decide (y1 < 0)) then
  some 13
 else
 bif (decide (y1 > 12)) then
  some 6
 else
 some 0
noncomputable def P168 (n : Nat) : Q168 := Nat.rec ⟨fun _ => none⟩ (fun _ q => ⟨T168_0 q⟩) n
theorem P168_le : ∀ n, (∀ x0, Le ((P168 n).l0 x0) (L168_0 x0)) := fun n => by
 induction n with
 | zero => exact fun x0 => le_n _
 | succ n ih => exact fun x0 => by show Le (T168_0 (P168 n) x0) _; rw [L168_0_eq]; unfold T168_0; exact le_b (N212_le _) fun _ => le_r _
noncomputable def N168 (x0 : List S77) (x1 x2 : S37) : Option Int :=
 (N172 x1 x2).bind fun y1 =>
 bif (y1.2 != 0) then
  some 1
 else
 bif (decide (y1.1 ≥ 0)) then
  some 1
 else
 (P168 100000).l0 x0
theorem N168_le (x0 : List S77) (x1 x2 : S37) : Le (N168 x0 x1 x2) (F168 x0 x1 x2) := by rw [F168_eq]; unfold N168; exact le_b (N172_le _ _) fun _ => le_c (le_r _) (le_c (le_r _) ((P168_le 100000) _))
structure Q213 where
 l0 : List S77 → List S77 → Int → Option (List S77)
noncomputable def T213_0 (q : Q213) (x0 x1 : List S77) (x2 : Int) : Option (List S77) :=
 bif (decide (x2 < (x0.length : Int))) then
  grd (decide (0 ≤ x2)) <|
  grd (decide (x2 < (x0.length : Int))) <|
  (N155 x2).bind fun y1 =>
  (N154 (x0.getD (Int.toNat x2) z7) y1).bind fun y2 =>
  grd (fit (x1.length + [y2].length) 32) <|
  q.l0 x0 (x1 ++ [y2]) (wr .i64 (x2 + 1))
 else
 (N160 x1).bind fun y3 =>
 some y3
noncomputable def P213 (n : Nat) : Q213 := Nat.rec ⟨fun _ _ _ => none⟩ (fun _ q => ⟨T213_0 q⟩) n
theorem P213_le : ∀ n, (∀ x0 x1 x2, Le ((P213 n).l0 x0 x1 x2) (L213_0 x0 x1 x2)) := fun n => by
 induction n with
 | zero => exact fun x0 x1 x2 => le_n _
 | succ n ih => exact fun x0 x1 x2 => by show Le (T213_0 (P213 n) x0 x1 x2) _; rw [L213_0_eq]; unfold T213_0; exact le_c (le_g (le_g (le_b (N155_le _) fun _ => le_b (N154_le _ _) fun _ => le_g (ih _ _ _)))) (le_b (N160_le _) fun _ => le_r _)
noncomputable def N213 (x0 : List S77) : Option (List S77) :=
 (P213 100000).l0 x0 [] 1
theorem N213_le (x0 : List S77) : Le (N213 x0) (F213 x0) := by rw [F213_eq]; unfold N213; exact (P213_le 100000) _ _ _
noncomputable def N240 (x0 : S77) : Option (S77) :=
 (N211 x0).bind fun y1 =>
 bif (decide (y1 < 0)) then
  (N207 x0).bind fun y2 =>
  some y2
 else
 some x0
theorem N240_le (x0 : S77) : Le (N240 x0) (F240 x0) := by rw [F240_eq]; unfold N240; exact le_b (N211_le _) fun _ => le_c (le_b (N207_le _) fun _ => le_r _) (le_r _)
structure Q214 where
 l0 : List S77 → List S77 → S77 → Option (List S77 × Int)
 l1 : List S77 → List S77 → S77 → S77 → Option (List S77 × Int)
 l2 : List S77 → S77 → S77 → Int → List S77 → List S77 → Int → Int → Option (List S77 × Int)
noncomputable def T214_0 (q : Q214) (x0 x1 : List S77) (x2 : S77) : Option (List S77 × Int) :=
 bif (decide ((x0.length : Int) ≥ (x1.length : Int))) then
  grd (decide (0 ≤ (wr .i64 ((x0.length : Int) - 1)))) <|
  grd (decide ((wr .i64 ((x0.length : Int) - 1)) < (x0.length : Int))) <|
  (N211 x2).bind fun y1 =>
  bif (decide (y1 < 0)) then
   (N207 (x0.getD (Int.toNat (wr .i64 ((x0.length : Int) - 1))) z7)).bind fun y2 =>
   q.l1 x0 x1 x2 y2
  else
  q.l1 x0 x1 x2 (x0.getD (Int.toNat (wr .i64 ((x0.length : Int) - 1))) z7)
 else
 some (x0, 0)
noncomputable def T214_1 (q : Q214) (x0 x1 : List S77) (x2 x3 : S77) : Option (List S77 × Int) :=
 q.l2 x1 x2 x3 (wr .i64 ((x0.length : Int) - (x1.length : Int))) [] x0 (x0.length : Int) 0
noncomputable def T214_2 (q : Q214) (x0 : List S77) (x1 x2 : S77) (x3 : Int) (x4 x5 : List S77) (x6 x7 : Int) : Option (List S77 × Int) :=
 bif (decide (x7 < x6)) then
  grd (decide (0 ≤ x7)) <|
  grd (decide (x7 < (x5.length : Int))) <|
  (N240 x1).bind fun y1 =>
  (N154 (x5.getD (Int.toNat x7) z7) y1).bind fun y2 =>
  (N206 x0 (wr .i64 (x7 - x3))).bind fun y3 =>
  (N154 y3 x2).bind fun y4 =>
  (N158 y2 y4).bind fun y5 =>
  grd (fit (x4.length + [y5].length) 32) <|
  q.l2 x0 x1 x2 x3 (x4 ++ [y5]) x5 x6 (wr .i64 (x7 + 1))
 else
 (N160 x4).bind fun y6 =>
 q.l0 y6 x0 x1
noncomputable def P214 (n : Nat) : Q214 := Nat.rec ⟨fun _ _ _ => none, fun _ _ _ _ => none, fun _ _ _ _ _ _ _ _ => none⟩ (fun _ q => ⟨T214_0 q, T214_1 q, T214_2 q⟩) n
theorem P214_le : ∀ n, (∀ x0 x1 x2, Le ((P214 n).l0 x0 x1 x2) (L214_0 x0 x1 x2)) ∧ (∀ x0 x1 x2 x3, Le ((P214 n).l1 x0 x1 x2 x3) (L214_1 x0 x1 x2 x3)) ∧ (∀ x0 x1 x2 x3 x4 x5 x6 x7, Le ((P214 n).l2 x0 x1 x2 x3 x4 x5 x6 x7) (L214_2 x0 x1 x2 x3 x4 x5 x6 x7)) := fun n => by
 induction n with
 | zero => exact ⟨fun x0 x1 x2 => le_n _, fun x0 x1 x2 x3 => le_n _, fun x0 x1 x2 x3 x4 x5 x6 x7 => le_n _⟩
 | succ n ih => exact ⟨fun x0 x1 x2 => by show Le (T214_0 (P214 n) x0 x1 x2) _; rw [L214_0_eq]; unfold T214_0; exact le_c (le_g (le_g (le_b (N211_le _) fun _ => le_c (le_b (N207_le _) fun _ => ih.2.1 _ _ _ _) (ih.2.1 _ _ _ _)))) (le_r _),
  fun x0 x1 x2 x3 => by show Le (T214_1 (P214 n) x0 x1 x2 x3) _; rw [L214_1_eq]; unfold T214_1; exact ih.2.2 _ _ _ _ _ _ _ _,
  fun x0 x1 x2 x3 x4 x5 x6 x7 => by show Le (T214_2 (P214 n) x0 x1 x2 x3 x4 x5 x6 x7) _; rw [L214_2_eq]; unfold T214_2; exact le_c (le_g (le_g (le_b (N240_le _) fun _ => le_b (N154_le _ _) fun _ => le_b (N206_le _ _) fun _ => le_b (N154_le _ _) fun _ => le_b (N158_le _ _) fun _ => le_g (ih.2.2 _ _ _ _ _ _ _ _)))) (le_b (N160_le _) fun _ => ih.1 _ _ _)⟩
noncomputable def N214 (x0 x1 : List S77) : Option (List S77 × Int) :=
 (N160 x1).bind fun y1 =>
 bif ((y1.length : Int) == 0) then
  some ([], 13)
 else
 grd (decide (0 ≤ (wr .i64 ((y1.length : Int) - 1)))) <|
 grd (decide ((wr .i64 ((y1.length : Int) - 1)) < (y1.length : Int))) <|
 (N100 x0 []).bind fun y2 =>
 (P214 100000).l0 y2 y1 (y1.getD (Int.toNat (wr .i64 ((y1.length : Int) - 1))) z7)
theorem N214_le (x0 x1 : List S77) : Le (N214 x0 x1) (F214 x0 x1) := by rw [F214_eq]; unfold N214; exact le_b (N160_le _) fun _ => le_c (le_r _) (le_g (le_g (le_b (N100_le _ _) fun _ => (P214_le 100000).1 _ _ _)))
noncomputable def N215 (x0 : List S77) : Option (List S77) :=
 (N97 [] x0).bind fun y1 =>
 some y1
theorem N215_le (x0 : List S77) : Le (N215 x0) (F215 x0) := by rw [F215_eq]; unfold N215; exact le_b (N97_le _ _) fun _ => le_r _
structure Q169 where
 l0 : List S77 → List (List S77) → List S77 → Option (List (List S77) × Int)
noncomputable def T169_0 (q : Q169) (x0 : List S77) (x1 : List (List S77)) (x2 : List S77) : Option (List (List S77) × Int) :=
 bif (decide ((x2.length : Int) > 0)) then
  grd (fit (x1.length + [x2].length) 24) <|
  (N214 x0 x2).bind fun y1 =>
  (N215 y1.1).bind fun y2 =>
  q.l0 x2 (x1 ++ [x2]) y2
 else
 some (x1, 0)
noncomputable def P169 (n : Nat) : Q169 := Nat.rec ⟨fun _ _ _ => none⟩ (fun _ q => ⟨T169_0 q⟩) n
theorem P169_le : ∀ n, (∀ x0 x1 x2, Le ((P169 n).l0 x0 x1 x2) (L169_0 x0 x1 x2)) := fun n => by
 induction n with
 | zero => exact fun x0 x1 x2 => le_n _
 | succ n ih => exact fun x0 x1 x2 => by show Le (T169_0 (P169 n) x0 x1 x2) _; rw [L169_0_eq]; unfold T169_0; exact le_c (le_g (le_b (N214_le _ _) fun _ => le_b (N215_le _) fun _ => ih _ _ _)) (le_r _)
noncomputable def N169 (x0 : List S77) : Option (List (List S77) × Int) :=
 (N100 x0 []).bind fun y1 =>
 bif ((y1.length : Int) == 0) then
  some ([], 13)
 else
 bif (decide ((y1.length : Int) > 13)) then
  some ([], 6)
 else
 (N213 y1).bind fun y2 =>
 (P169 100000).l0 y1 [y1] y2
theorem N169_le (x0 : List S77) : Le (N169 x0) (F169 x0) := by rw [F169_eq]; unfold N169; exact le_b (N100_le _ _) fun _ => le_c (le_r _) (le_c (le_r _) (le_b (N213_le _) fun _ => (P169_le 100000) _ _ _))
structure Q241 where
 l0 : List S77 → S77 → S77 → S77 → S77 → S77 → Int → Option (S77)
noncomputable def T241_0 (q : Q241) (x0 : List S77) (x1 x2 x3 x4 x5 : S77) (x6 : Int) : Option (S77) :=
 bif (decide (x6 ≥ 0)) then
  (N154 x2 x4).bind fun y1 =>
  grd (decide (0 ≤ x6)) <|
  grd (decide (x6 < (x0.length : Int))) <|
  (N154 (x0.getD (Int.toNat x6) z7) x3).bind fun y2 =>
  (N159 y1 y2).bind fun y3 =>
  (N154 x3 x5).bind fun y4 =>
  q.l0 x0 x1 y3 y4 x4 x5 (wr .i64 (x6 - 1))
 else
 some x2
noncomputable def P241 (n : Nat) : Q241 := Nat.rec ⟨fun _ _ _ _ _ _ _ => none⟩ (fun _ q => ⟨T241_0 q⟩) n
theorem P241_le : ∀ n, (∀ x0 x1 x2 x3 x4 x5 x6, Le ((P241 n).l0 x0 x1 x2 x3 x4 x5 x6) (L241_0 x0 x1 x2 x3 x4 x5 x6)) := fun n => by
 induction n with
 | zero => exact fun x0 x1 x2 x3 x4 x5 x6 => le_n _
 | succ n ih => exact fun x0 x1 x2 x3 x4 x5 x6 => by show Le (T241_0 (P241 n) x0 x1 x2 x3 x4 x5 x6) _; rw [L241_0_eq]; unfold T241_0; exact le_c (le_b (N154_le _ _) fun _ => le_g (le_g (le_b (N154_le _ _) fun _ => le_b (N159_le _ _) fun _ => le_b (N154_le _ _) fun _ => ih _ _ _ _ _ _ _))) (le_r _)
noncomputable def N241 (x0 : List S77) (x1 : S37) : Option (S77) :=
 (N160 x0).bind fun y1 =>
 (N155 1).bind fun y2 =>
 (N155 x1.f0).bind fun y3 =>
 (N155 x1.f1).bind fun y4 =>
 (P241 100000).l0 y1 (S77.mk false []) (S77.mk false []) y2 y3 y4 (wr .i64 ((y1.length : Int) - 1))
theorem N241_le (x0 : List S77) (x1 : S37) : Le (N241 x0 x1) (F241 x0 x1) := by rw [F241_eq]; unfold N241; exact le_b (N160_le _) fun _ => le_b (N155_le _) fun _ => le_b (N155_le _) fun _ => le_b (N155_le _) fun _ => (P241_le 100000) _ _ _ _ _ _ _
noncomputable def N251 (x0 : Int) : Option Int :=
 bif (decide (x0 < 0)) then
  some (wr .u64 (0 - (wr .u64 x0)))
 else
 some (wr .u64 x0)
theorem N251_le (x0 : Int) : Le (N251 x0) (F251 x0) := by rw [F251_eq]; unfold N251; exact le_r _
structure Q249 where
 l0 : Int → S77 → S77 → List Int → Int → Option (S77 × Int × Int)
 l1 : Int → S77 → S77 → List Int → Int → Int → Option (S77 × Int × Int)
noncomputable def T249_0 (q : Q249) (x0 : Int) (x1 x2 : S77) (x3 : List Int) (x4 : Int) : Option (S77 × Int × Int) :=
 (N156 (!(x1.f0 == (decide (x0 < 0)))) x3).bind fun y1 =>
 some (y1, ((wr .i64 x4), 0))
noncomputable def T249_1 (q : Q249) (x0 : Int) (x1 x2 : S77) (x3 : List Int) (x4 x5 : Int) : Option (S77 × Int × Int) :=
 bif (decide (x5 ≥ 0)) then
  grd (decide (0 ≤ x5)) <|
  grd (decide (x5 < (x3.length : Int))) <|
  (N251 x0).bind fun y1 =>
  (N244 (shrE .u64 x4 (32 : Int)) (orE .u64 (shlE .u64 x4 (32 : Int)) (wr .u64 (x3.getD (Int.toNat x5) 0))) y1).bind fun y2 =>
  grd (decide (0 ≤ x5)) <|
  grd (decide (x5 < (x3.length : Int))) <|
  q.l1 x0 x1 x2 (List.set x3 (Int.toNat x5) (wr .u32 y2.1)) y2.2 (wr .i64 (x5 - 1))
 else
 bif x1.f0 then
  q.l0 x0 x1 x2 x3 (wr .u64 (0 - x4))
 else
 q.l0 x0 x1 x2 x3 x4
noncomputable def P249 (n : Nat) : Q249 := Nat.rec ⟨fun _ _ _ _ _ => none, fun _ _ _ _ _ _ => none⟩ (fun _ q => ⟨T249_0 q, T249_1 q⟩) n
theorem P249_le : ∀ n, (∀ x0 x1 x2 x3 x4, Le ((P249 n).l0 x0 x1 x2 x3 x4) (L249_0 x0 x1 x2 x3 x4)) ∧ (∀ x0 x1 x2 x3 x4 x5, Le ((P249 n).l1 x0 x1 x2 x3 x4 x5) (L249_1 x0 x1 x2 x3 x4 x5)) := fun n => by
 induction n with
 | zero => exact ⟨fun x0 x1 x2 x3 x4 => le_n _, fun x0 x1 x2 x3 x4 x5 => le_n _⟩
 | succ n ih => exact ⟨fun x0 x1 x2 x3 x4 => by show Le (T249_0 (P249 n) x0 x1 x2 x3 x4) _; rw [L249_0_eq]; unfold T249_0; exact le_b (N156_le _ _) fun _ => le_r _,
  fun x0 x1 x2 x3 x4 x5 => by show Le (T249_1 (P249 n) x0 x1 x2 x3 x4 x5) _; rw [L249_1_eq]; unfold T249_1; exact le_c (le_g (le_g (le_b (N251_le _) fun _ => le_b (N244_le _ _ _) fun _ => le_g (le_g (ih.2 _ _ _ _ _ _))))) (le_c (ih.1 _ _ _ _ _) (ih.1 _ _ _ _ _))⟩
noncomputable def N249 (x0 : S77) (x1 : Int) : Option (S77 × Int × Int) :=
 bif (x1 == 0) then
  some ((S77.mk false []), (0, 13))
 else
 (N236 x0.f1).bind fun y1 =>
 (P249 100000).l1 x1 x0 (S77.mk false []) y1 0 (wr .i64 ((y1.length : Int) - 1))
theorem N249_le (x0 : S77) (x1 : Int) : Le (N249 x0 x1) (F249 x0 x1) := by rw [F249_eq]; unfold N249; exact le_c (le_r _) (le_b (N236_le _) fun _ => (P249_le 100000).2 _ _ _ _ _ _)
structure Q242 where
 l0 : List S77 → S37 → List S77 → S77 → Int → Option (List S77)
noncomputable def T242_0 (q : Q242) (x0 : List S77) (x1 : S37) (x2 : List S77) (x3 : S77) (x4 : Int) : Option (List S77) :=
 bif (decide (x4 ≥ 1)) then
  grd (decide (0 ≤ x4)) <|
  grd (decide (x4 < (x0.length : Int))) <|
  (N155 x1.f0).bind fun y1 =>
  (N154 x3 y1).bind fun y2 =>
  (N159 (x0.getD (Int.toNat x4) z7) y2).bind fun y3 =>
  (N249 y3 x1.f1).bind fun y4 =>
  grd (decide (0 ≤ (wr .i64 (x4 - 1)))) <|
  grd (decide ((wr .i64 (x4 - 1)) < (x2.length : Int))) <|
  q.l0 x0 x1 (List.set x2 (Int.toNat (wr .i64 (x4 - 1))) y4.1) y4.1 (wr .i64 (x4 - 1))
 else
 (N160 x2).bind fun y5 =>
 some y5
noncomputable def P242 (n : Nat) : Q242 := Nat.rec ⟨fun _ _ _ _ _ => none⟩ (fun _ q => ⟨T242_0 q⟩) n
theorem P242_le : ∀ n, (∀ x0 x1 x2 x3 x4, Le ((P242 n).l0 x0 x1 x2 x3 x4) (L242_0 x0 x1 x2 x3 x4)) := fun n => by
 induction n with
 | zero => exact fun x0 x1 x2 x3 x4 => le_n _
 | succ n ih => exact fun x0 x1 x2 x3 x4 => by show Le (T242_0 (P242 n) x0 x1 x2 x3 x4) _; rw [L242_0_eq]; unfold T242_0; exact le_c (le_g (le_g (le_b (N155_le _) fun _ => le_b (N154_le _ _) fun _ => le_b (N159_le _ _) fun _ => le_b (N249_le _ _) fun _ => le_g (le_g (ih _ _ _ _ _))))) (le_b (N160_le _) fun _ => le_r _)
noncomputable def N242 (x0 : List S77) (x1 : S37) : Option (List S77) :=
 grd (decide (0 ≤ (wr .i64 ((x0.length : Int) - 1)))) <|
 grd (decide ((wr .i64 ((x0.length : Int) - 1)) ≤ (wr .i64 ((x0.length : Int) - 1)))) <|
 grd (fitM (Int.toNat (wr .i64 ((x0.length : Int) - 1))) 32) <|
 (P242 100000).l0 x0 x1 (List.replicate (Int.toNat (wr .i64 ((x0.length : Int) - 1))) (S77.mk false [])) (S77.mk false []) (wr .i64 ((x0.length : Int) - 1))
theorem N242_le (x0 : List S77) (x1 : S37) : Le (N242 x0 x1) (F242 x0 x1) := by rw [F242_eq]; unfold N242; exact le_g (le_g (le_g ((P242_le 100000) _ _ _ _ _)))
structure Q216 where
 l0 : List S77 → S37 → Int → Option (List S77 × Int × Int)
 l1 : List S77 → S37 → Int → Option (List S77 × Int × Int)
noncomputable def T216_0 (q : Q216) (x0 : List S77) (x1 : S37) (x2 : Int) : Option (List S77 × Int × Int) :=
 bif (decide ((x0.length : Int) > 1)) then
  (N241 x0 x1).bind fun y1 =>
  (N211 y1).bind fun y2 =>
  bif (y2 == 0) then
   q.l1 x0 x1 x2
  else
  some (x0, (x2, 0))
 else
 some (x0, (x2, 0))
noncomputable def T216_1 (q : Q216) (x0 : List S77) (x1 : S37) (x2 : Int) : Option (List S77 × Int × Int) :=
 (N242 x0 x1).bind fun y1 =>
 q.l0 y1 x1 (wr .i64 (x2 + 1))
noncomputable def P216 (n : Nat) : Q216 := Nat.rec ⟨fun _ _ _ => none, fun _ _ _ => none⟩ (fun _ q => ⟨T216_0 q, T216_1 q⟩) n
theorem P216_le : ∀ n, (∀ x0 x1 x2, Le ((P216 n).l0 x0 x1 x2) (L216_0 x0 x1 x2)) ∧ (∀ x0 x1 x2, Le ((P216 n).l1 x0 x1 x2) (L216_1 x0 x1 x2)) := fun n => by
 induction n with
 | zero => exact ⟨fun x0 x1 x2 => le_n _, fun x0 x1 x2 => le_n _⟩
 | succ n ih => exact ⟨fun x0 x1 x2 => by show Le (T216_0 (P216 n) x0 x1 x2) _; rw [L216_0_eq]; unfold T216_0; exact le_c (le_b (N241_le _ _) fun _ => le_b (N211_le _) fun _ => le_c (ih.2 _ _ _) (le_r _)) (le_r _),
  fun x0 x1 x2 => by show Le (T216_1 (P216 n) x0 x1 x2) _; rw [L216_1_eq]; unfold T216_1; exact le_b (N242_le _ _) fun _ => ih.1 _ _ _⟩
noncomputable def N216 (x0 : List S77) (x1 : S37) : Option (List S77 × Int × Int) :=
 (N100 x0 []).bind fun y1 =>
 (N38 x1).bind fun y2 =>
 bif (!y2) then
  some ([], (0, 1))
 else
 bif ((y1.length : Int) == 0) then
  some ([], (0, 13))
 else
 (P216 100000).l0 y1 x1 0
theorem N216_le (x0 : List S77) (x1 : S37) : Le (N216 x0 x1) (F216 x0 x1) := by rw [F216_eq]; unfold N216; exact le_b (N100_le _ _) fun _ => le_b (N38_le _) fun _ => le_c (le_r _) (le_c (le_r _) ((P216_le 100000).1 _ _ _))
noncomputable def N170 (x0 : List S77) (x1 x2 : S37) : Option (List S77) :=
 (N216 x0 x1).bind fun y1 =>
 (N216 y1.1 x2).bind fun y2 =>
 bif ((Int.tmod y2.2.1 (2 : Int)) == 1) then
  (N215 y2.1).bind fun y3 =>
  some y3
 else
 some y2.1
theorem N170_le (x0 : List S77) (x1 x2 : S37) : Le (N170 x0 x1 x2) (F170 x0 x1 x2) := by rw [F170_eq]; unfold N170; exact le_b (N216_le _ _) fun _ => le_b (N216_le _ _) fun _ => le_c (le_b (N215_le _) fun _ => le_r _) (le_r _)
noncomputable def N218 (x0 : List S77) (x1 : S37) : Option (S77 × Int) :=
 (N38 x1).bind fun y1 =>
 bif (!y1) then
  some ((S77.mk false []), 1)
 else
 (N241 x0 x1).bind fun y2 =>
 some (y2, 0)
theorem N218_le (x0 : List S77) (x1 : S37) : Le (N218 x0 x1) (F218 x0 x1) := by rw [F218_eq]; unfold N218; exact le_b (N38_le _) fun _ => le_c (le_r _) (le_b (N241_le _ _) fun _ => le_r _)
noncomputable def N232 (x0 : List S77) (x1 : S37) : Option Int :=
 (N218 x0 x1).bind fun y1 =>
 (N211 y1.1).bind fun y2 =>
 some y2
theorem N232_le (x0 : List S77) (x1 : S37) : Le (N232 x0 x1) (F232 x0 x1) := by rw [F232_eq]; unfold N232; exact le_b (N218_le _ _) fun _ => le_b (N211_le _) fun _ => le_r _
structure Q217 where
 l0 : S37 → Int → Int → List (List S77) → Int → Int → Option (Int × Int)
noncomputable def T217_0 (q : Q217) (x0 : S37) (x1 x2 : Int) (x3 : List (List S77)) (x4 x5 : Int) : Option (Int × Int) :=
 bif (decide (x5 < x4)) then
  grd (decide (0 ≤ x5)) <|
  grd (decide (x5 < (x3.length : Int))) <|
  (N232 (x3.getD (Int.toNat x5) []) x0).bind fun y1 =>
  bif (decide ((wr .i64 (y1 * x2)) < 0)) then
   bif (y1 != 0) then
    q.l0 x0 (wr .i64 (x1 + 1)) y1 x3 x4 (wr .i64 (x5 + 1))
   else
   q.l0 x0 (wr .i64 (x1 + 1)) x2 x3 x4 (wr .i64 (x5 + 1))
  else
  bif (y1 != 0) then
   q.l0 x0 x1 y1 x3 x4 (wr .i64 (x5 + 1))
  else
  q.l0 x0 x1 x2 x3 x4 (wr .i64 (x5 + 1))
 else
 some (x1, 0)
noncomputable def P217 (n : Nat) : Q217 := Nat.rec ⟨fun _ _ _ _ _ _ => none⟩ (fun _ q => ⟨T217_0 q⟩) n
theorem P217_le : ∀ n, (∀ x0 x1 x2 x3 x4 x5, Le ((P217 n).l0 x0 x1 x2 x3 x4 x5) (L217_0 x0 x1 x2 x3 x4 x5)) := fun n => by
 induction n with
 | zero => exact fun x0 x1 x2 x3 x4 x5 => le_n _
 | succ n ih => exact fun x0 x1 x2 x3 x4 x5 => by show Le (T217_0 (P217 n) x0 x1 x2 x3 x4 x5) _; rw [L217_0_eq]; unfold T217_0; exact le_c (le_g (le_g (le_b (N232_le _ _) fun _ => le_c (le_c (ih _ _ _ _ _ _) (ih _ _ _ _ _ _)) (le_c (ih _ _ _ _ _ _) (ih _ _ _ _ _ _))))) (le_r _)
noncomputable def N217 (x0 : List (List S77)) (x1 : S37) : Option (Int × Int) :=
 (N38 x1).bind fun y1 =>
 bif (!y1) then
  some (0, 1)
 else
 (P217 100000).l0 x1 0 0 x0 (x0.length : Int) 0
theorem N217_le (x0 : List (List S77)) (x1 : S37) : Le (N217 x0 x1) (F217 x0 x1) := by rw [F217_eq]; unfold N217; exact le_b (N38_le _) fun _ => le_c (le_r _) ((P217_le 100000) _ _ _ _ _ _)
noncomputable def N171 (x0 : List (List S77)) (x1 x2 : S37) : Option Int :=
 (N217 x0 x1).bind fun y1 =>
 (N217 x0 x2).bind fun y2 =>
 some (wr .i64 (y1.1 - y2.1))
theorem N171_le (x0 : List (List S77)) (x1 x2 : S37) : Le (N171 x0 x1 x2) (F171 x0 x1 x2) := by rw [F171_eq]; unfold N171; exact le_b (N217_le _ _) fun _ => le_b (N217_le _ _) fun _ => le_r _
def N245 (x0 : List S77) : Option (List S77) := grd (fit (0 + x0.length) 32) (some x0)
theorem N245_le (x0 : List S77) : Le (N245 x0) (F245 x0) := le_e (F245_eq x0) (le_r _)
structure Q233 where
 l0 : Bool → S77 → List S77 → S77 → Int → Int → Option (List S77)
 l1 : Bool → S77 → List S77 → S77 → Int → Int → Int → Option (List S77)
noncomputable def T233_0 (q : Q233) (x0 : Bool) (x1 : S77) (x2 : List S77) (x3 : S77) (x4 x5 : Int) : Option (List S77) :=
 bif (decide (x5 < x4)) then
  bif x0 then
   q.l1 x0 x1 x2 x3 (wr .i64 ((wr .i64 ((x2.length : Int) - 1)) - x5)) x4 x5
  else
  q.l1 x0 x1 x2 x3 x5 x4 x5
 else
 some x2
noncomputable def T233_1 (q : Q233) (x0 : Bool) (x1 : S77) (x2 : List S77) (x3 : S77) (x4 x5 x6 : Int) : Option (List S77) :=
 grd (decide (0 ≤ x4)) <|
 grd (decide (x4 < (x2.length : Int))) <|
 (N154 (x2.getD (Int.toNat x4) z7) x3).bind fun y1 =>
 grd (decide (0 ≤ x4)) <|
 grd (decide (x4 < (x2.length : Int))) <|
 (N154 x3 x1).bind fun y2 =>
 q.l0 x0 x1 (List.set x2 (Int.toNat x4) y1) y2 x5 (wr .i64 (x6 + 1))
noncomputable def P233 (n : Nat) : Q233 := Nat.rec ⟨fun _ _ _ _ _ _ => none, fun _ _ _ _ _ _ _ => none⟩ (fun _ q => ⟨T233_0 q, T233_1 q⟩) n
theorem P233_le : ∀ n, (∀ x0 x1 x2 x3 x4 x5, Le ((P233 n).l0 x0 x1 x2 x3 x4 x5) (L233_0 x0 x1 x2 x3 x4 x5)) ∧ (∀ x0 x1 x2 x3 x4 x5 x6, Le ((P233 n).l1 x0 x1 x2 x3 x4 x5 x6) (L233_1 x0 x1 x2 x3 x4 x5 x6)) := fun n => by
 induction n with
 | zero => exact ⟨fun x0 x1 x2 x3 x4 x5 => le_n _, fun x0 x1 x2 x3 x4 x5 x6 => le_n _⟩
 | succ n ih => exact ⟨fun x0 x1 x2 x3 x4 x5 => by show Le (T233_0 (P233 n) x0 x1 x2 x3 x4 x5) _; rw [L233_0_eq]; unfold T233_0; exact le_c (le_c (ih.2 _ _ _ _ _ _ _) (ih.2 _ _ _ _ _ _ _)) (le_r _),
  fun x0 x1 x2 x3 x4 x5 x6 => by show Le (T233_1 (P233 n) x0 x1 x2 x3 x4 x5 x6) _; rw [L233_1_eq]; unfold T233_1; exact le_g (le_g (le_b (N154_le _ _) fun _ => le_g (le_g (le_b (N154_le _ _) fun _ => ih.1 _ _ _ _ _ _))))⟩
noncomputable def N233 (x0 : List S77) (x1 : S77) (x2 : Bool) : Option (List S77) :=
 (N245 x0).bind fun y1 =>
 (N155 1).bind fun y2 =>
 (P233 100000).l0 x2 x1 y1 y2 (y1.length : Int) 0
theorem N233_le (x0 : List S77) (x1 : S77) (x2 : Bool) : Le (N233 x0 x1 x2) (F233 x0 x1 x2) := by rw [F233_eq]; unfold N233; exact le_b (N245_le _) fun _ => le_b (N155_le _) fun _ => (P233_le 100000).1 _ _ _ _ _ _
structure Q234 where
 l0 : S77 → List S77 → Int → Int → Option (List S77)
 l1 : S77 → List S77 → Int → Int → Int → Int → Option (List S77)
noncomputable def T234_0 (q : Q234) (x0 : S77) (x1 : List S77) (x2 x3 : Int) : Option (List S77) :=
 bif (decide (x3 < x2)) then
  q.l1 x0 x1 x3 (wr .i64 ((x1.length : Int) - 2)) x2 x3
 else
 some x1
noncomputable def T234_1 (q : Q234) (x0 : S77) (x1 : List S77) (x2 x3 x4 x5 : Int) : Option (List S77) :=
 bif (decide (x3 ≥ x2)) then
  grd (decide (0 ≤ x3)) <|
  grd (decide (x3 < (x1.length : Int))) <|
  grd (decide (0 ≤ (wr .i64 (x3 + 1)))) <|
  grd (decide ((wr .i64 (x3 + 1)) < (x1.length : Int))) <|
  (N154 x0 (x1.getD (Int.toNat (wr .i64 (x3 + 1))) z7)).bind fun y1 =>
  (N159 (x1.getD (Int.toNat x3) z7) y1).bind fun y2 =>
  grd (decide (0 ≤ x3)) <|
  grd (decide (x3 < (x1.length : Int))) <|
  q.l1 x0 (List.set x1 (Int.toNat x3) y2) x2 (wr .i64 (x3 - 1)) x4 x5
 else
 q.l0 x0 x1 x4 (wr .i64 (x5 + 1))
noncomputable def P234 (n : Nat) : Q234 := Nat.rec ⟨fun _ _ _ _ => none, fun _ _ _ _ _ _ => none⟩ (fun _ q => ⟨T234_0 q, T234_1 q⟩) n
theorem P234_le : ∀ n, (∀ x0 x1 x2 x3, Le ((P234 n).l0 x0 x1 x2 x3) (L234_0 x0 x1 x2 x3)) ∧ (∀ x0 x1 x2 x3 x4 x5, Le ((P234 n).l1 x0 x1 x2 x3 x4 x5) (L234_1 x0 x1 x2 x3 x4 x5)) := fun n => by
 induction n with
 | zero => exact ⟨fun x0 x1 x2 x3 => le_n _, fun x0 x1 x2 x3 x4 x5 => le_n _⟩
 | succ n ih => exact ⟨fun x0 x1 x2 x3 => by show Le (T234_0 (P234 n) x0 x1 x2 x3) _; rw [L234_0_eq]; unfold T234_0; exact le_c (ih.2 _ _ _ _ _ _) (le_r _),
  fun x0 x1 x2 x3 x4 x5 => by show Le (T234_1 (P234 n) x0 x1 x2 x3 x4 x5) _; rw [L234_1_eq]; unfold T234_1; exact le_c (le_g (le_g (le_g (le_g (le_b (N154_le _ _) fun _ => le_b (N159_le _ _) fun _ => le_g (le_g (ih.2 _ _ _ _ _ _))))))) (ih.1 _ _ _ _)⟩
noncomputable def N234 (x0 : List S77) (x1 : S77) : Option (List S77) :=
 (N245 x0).bind fun y1 =>
 (P234 100000).l0 x1 y1 (y1.length : Int) 0
theorem N234_le (x0 : List S77) (x1 : S77) : Le (N234 x0 x1) (F234 x0 x1) := by rw [F234_eq]; unfold N234; exact le_b (N245_le _) fun _ => (P234_le 100000).1 _ _ _ _
noncomputable def N202 (x0 : List S77) (x1 x2 : S37) : Option (List S77) :=
 (N155 x1.f1).bind fun y1 =>
 (N155 x2.f1).bind fun y2 =>
 (N154 y1 y2).bind fun y3 =>
 (N155 x1.f0).bind fun y4 =>
 (N155 x2.f1).bind fun y5 =>
 (N154 y4 y5).bind fun y6 =>
 (N155 x2.f0).bind fun y7 =>
 (N155 x1.f1).bind fun y8 =>
 (N154 y7 y8).bind fun y9 =>
 (N158 y9 y6).bind fun y10 =>
 (N100 x0 []).bind fun y11 =>
 (N233 y11 y3 true).bind fun y12 =>
 (N234 y12 y6).bind fun y13 =>
 (N233 y13 y10 false).bind fun y14 =>
 some y14
theorem N202_le (x0 : List S77) (x1 x2 : S37) : Le (N202 x0 x1 x2) (F202 x0 x1 x2) := by rw [F202_eq]; unfold N202; exact le_b (N155_le _) fun _ => le_b (N155_le _) fun _ => le_b (N154_le _ _) fun _ => le_b (N155_le _) fun _ => le_b (N155_le _) fun _ => le_b (N154_le _ _) fun _ => le_b (N155_le _) fun _ => le_b (N155_le _) fun _ => le_b (N154_le _ _) fun _ => le_b (N158_le _ _) fun _ => le_b (N100_le _ _) fun _ => le_b (N233_le _ _ _) fun _ => le_b (N234_le _ _) fun _ => le_b (N233_le _ _ _) fun _ => le_r _
structure Q201 where
 l0 : List S77 → S37 → S37 → S37 → Option Bool
noncomputable def T201_0 (g : List S77 → Option Bool) (q : Q201) (x0 : List S77) (x1 x2 x3 : S37) : Option Bool :=
 (N169 x0).bind fun y1 =>
 (N171 y1.1 x1 x3).bind fun y2 =>
 bif (decide (y2 < 2)) then
  some false
 else
 (N202 x0 x1 x2).bind fun y3 =>
 (g y3).bind fun y4 =>
 bif y4 then
  some true
 else
 (N202 x0 x2 x3).bind fun y5 =>
 (g y5).bind fun y6 =>
 some y6
noncomputable def P201 (g : List S77 → Option Bool) (n : Nat) : Q201 := Nat.rec ⟨fun _ _ _ _ => none⟩ (fun _ q => ⟨T201_0 g q⟩) n
noncomputable def U201 (g : List S77 → Option Bool) (x0 : List S77) : Option Bool :=
 (N170 x0 (S37.mk 0 1) (S37.mk 1 1)).bind fun y1 =>
 (N232 y1 (S37.mk 0 1)).bind fun y2 =>
 bif (decide (y2 < 0)) then
  some true
 else
 (N232 y1 (S37.mk 1 1)).bind fun y3 =>
 bif (decide (y3 < 0)) then
  some true
 else
 (P201 g 100000).l0 y1 (S37.mk 0 1) (S37.mk 1 2) (S37.mk 1 1)
noncomputable def M201 (n : Nat) : List S77 → Option Bool := Nat.rec (fun _ => none) (fun _ g => U201 g) n
theorem P201_le (n : Nat) (g : List S77 → Option Bool) (hg : ∀ x0, Le (g x0) (F201r (Gn D fd201 h201 n) x0)) : ∀ m, (∀ x0 x1 x2 x3, Le ((P201 g m).l0 x0 x1 x2 x3) (L201_0 (Gn D fd201 h201 n) x0 x1 x2 x3)) := fun m => by
 induction m with
 | zero => exact fun x0 x1 x2 x3 => le_n _
 | succ m ih => exact fun x0 x1 x2 x3 => by show Le (T201_0 g (P201 g m) x0 x1 x2 x3) _; exact le_e (L201_0_eq (Gn D fd201 h201 n) x0 x1 x2 x3) (by unfold T201_0; exact le_b (N169_le _) fun _ => le_b (N171_le _ _ _) fun _ => le_c (le_r _) (le_b (N202_le _ _ _) fun _ => le_b (hg _) fun _ => le_c (le_r _) (le_b (N202_le _ _ _) fun _ => le_b (hg _) fun _ => le_r _)))
theorem U201_le (n : Nat) (g : List S77 → Option Bool) (hg : ∀ x0, Le (g x0) (F201r (Gn D fd201 h201 n) x0)) (x0 : List S77) : Le (U201 g x0) (F201g (Gn D fd201 h201 n) x0) := le_e (F201_eq (Gn D fd201 h201 n) x0) (by unfold U201; exact le_b (N170_le _ _ _) fun _ => le_b (N232_le _ _) fun _ => le_c (le_r _) (le_b (N232_le _ _) fun _ => le_c (le_r _) ((P201_le n g hg 100000) _ _ _ _)))
theorem M201_le : ∀ (n : Nat) (x0 : List S77), Le (M201 n x0) (F201r (Gn D fd201 h201 n) x0) := fun n => by
 induction n with
 | zero => intro x0; exact le_n _
 | succ n ih => intro x0; exact le_e (F201_n n x0) (U201_le n (M201 n) ih x0)
noncomputable def N201 : List S77 → Option Bool := M201 1000
theorem N201_le (x0 : List S77) : Le (N201 x0) (F201 x0) := fun y h => F201_of 1000 x0 y (M201_le 1000 x0 y h)
noncomputable def N147 (x0 : List S77) (x1 x2 : S37) : Option (Bool × Int) :=
 (N168 x0 x1 x2).bind fun y1 =>
 bif (y1 != 0) then
  some (false, y1)
 else
 (N202 x0 x1 x2).bind fun y2 =>
 (N201 y2).bind fun y3 =>
 some (y3, 0)
theorem N147_le (x0 : List S77) (x1 x2 : S37) : Le (N147 x0 x1 x2) (F147 x0 x1 x2) := by rw [F147_eq]; unfold N147; exact le_b (N168_le _ _ _) fun _ => le_c (le_r _) (le_b (N202_le _ _ _) fun _ => le_b (N201_le _) fun _ => le_r _)
noncomputable def N87 (x0 : List S77) (x1 x2 x3 : Int) : Option Bool :=
 (N46 x0 true x1 x2 x3).bind fun y1 =>
 (N147 y1 (S37.mk 0 1) (S37.mk 1 1)).bind fun y2 =>
 bif (y2.2 == 0) then
  some y2.1
 else
 some false
theorem N87_le (x0 : List S77) (x1 x2 x3 : Int) : Le (N87 x0 x1 x2 x3) (F87 x0 x1 x2 x3) := by rw [F87_eq]; unfold N87; exact le_b (N46_le _ _ _ _ _) fun _ => le_b (N147_le _ _ _) fun _ => le_r _
structure Q43 where
 l0 : Int → Int → List S77 → Int → Int → Option Int
noncomputable def T43_0 (q : Q43) (x0 x1 : Int) (x2 : List S77) (x3 x4 : Int) : Option Int :=
 bif (decide (x3 < x4)) then
  (N87 x2 x0 x1 (wr .i64 (Int.tdiv (wr .i64 ((wr .i64 (x3 + x4)) + 1)) (2 : Int)))).bind fun y1 =>
  bif y1 then
   q.l0 x0 x1 x2 x3 (wr .i64 ((wr .i64 (Int.tdiv (wr .i64 ((wr .i64 (x3 + x4)) + 1)) (2 : Int))) - 1))
  else
  q.l0 x0 x1 x2 (wr .i64 (Int.tdiv (wr .i64 ((wr .i64 (x3 + x4)) + 1)) (2 : Int))) x4
 else
 some x3
noncomputable def P43 (n : Nat) : Q43 := Nat.rec ⟨fun _ _ _ _ _ => none⟩ (fun _ q => ⟨T43_0 q⟩) n
theorem P43_le : ∀ n, (∀ x0 x1 x2 x3 x4, Le ((P43 n).l0 x0 x1 x2 x3 x4) (L43_0 x0 x1 x2 x3 x4)) := fun n => by
 induction n with
 | zero => exact fun x0 x1 x2 x3 x4 => le_n _
 | succ n ih => exact fun x0 x1 x2 x3 x4 => by show Le (T43_0 (P43 n) x0 x1 x2 x3 x4) _; rw [L43_0_eq]; unfold T43_0; exact le_c (le_b (N87_le _ _ _ _) fun _ => le_c (ih _ _ _ _ _) (ih _ _ _ _ _)) (le_r _)
noncomputable def N43 (x0 : S24) (x1 : S34) (x2 x3 : Int) : Option Int :=
 bif (!x1.f1) then
  (N85 x0 x1.f2 x1.f4 x2 x3).bind fun y1 =>
  some y1.1
 else
 (N47 x0 x1).bind fun y2 =>
 (N86 x0 x1 x2 x3).bind fun y3 =>
 (P43 100000).l0 x2 x3 y2 y3.1 y3.2
theorem N43_le (x0 : S24) (x1 : S34) (x2 x3 : Int) : Le (N43 x0 x1 x2 x3) (F43 x0 x1 x2 x3) := by rw [F43_eq]; unfold N43; exact le_c (le_b (N85_le _ _ _ _ _) fun _ => le_r _) (le_b (N47_le _ _) fun _ => le_b (N86_le _ _ _ _) fun _ => (P43_le 100000) _ _ _ _ _)
noncomputable def N22 (x0 : S24) (x1 : S34) (x2 x3 : Int) : Option (Int × Int) :=
 (N42 x0 x1 x2 x3).bind fun y1 =>
 bif (y1 != 0) then
  some (0, y1)
 else
 (N43 x0 x1 x2 x3).bind fun y2 =>
 some (y2, 0)
theorem N22_le (x0 : S24) (x1 : S34) (x2 x3 : Int) : Le (N22 x0 x1 x2 x3) (F22 x0 x1 x2 x3) := by rw [F22_eq]; unfold N22; exact le_b (N42_le _ _ _ _) fun _ => le_c (le_r _) (le_b (N43_le _ _ _ _) fun _ => le_r _)
noncomputable def N44 (x0 x1 x2 : S24) (x3 : Bool) : Option (S24) :=
 bif x3 then
  bif (!((x1.f0 == x0.f0) && (x1.f1 == x0.f1))) then
   some x1
  else
  some x2
 else
 some x2
theorem N44_le (x0 x1 x2 : S24) (x3 : Bool) : Le (N44 x0 x1 x2 x3) (F44 x0 x1 x2 x3) := by rw [F44_eq]; unfold N44; exact le_r _
noncomputable def N89 (x0 x1 : S24) (x2 x3 : Int) : Option (Int × Int) :=
 (N140 (S168.mk x2 x3) [x0, x1]).bind fun y1 =>
 bif (y1 != 0) then
  some (0, y1)
 else
 (N142 (S168.mk x2 x3) x0 x1).bind fun y2 =>
 some (y2, 0)
theorem N89_le (x0 x1 : S24) (x2 x3 : Int) : Le (N89 x0 x1 x2 x3) (F89 x0 x1 x2 x3) := by rw [F89_eq]; unfold N89; exact le_b (N140_le _ _) fun _ => le_c (le_r _) (le_b (N142_le _ _ _) fun _ => le_r _)
noncomputable def N92 (x0 x1 : S102) (x2 x3 : Int) : Option (Int × Int) :=
 (N151 (S168.mk x2 x3)).bind fun y1 =>
 bif (!y1) then
  some (0, 1)
 else
 bif ((x1.f0 == 0) && (x1.f1 == 0)) then
  some (0, 13)
 else
 (N152 (S168.mk x2 x3) x0 x1).bind fun y2 =>
 some (y2, 0)
theorem N92_le (x0 x1 : S102) (x2 x3 : Int) : Le (N92 x0 x1 x2 x3) (F92 x0 x1 x2 x3) := by rw [F92_eq]; unfold N92; exact le_b (N151_le _) fun _ => le_c (le_r _) (le_c (le_r _) (le_b (N152_le _ _ _) fun _ => le_r _))
noncomputable def N94 (x0 : Int) : Option Int :=
 some (wr .u64 (mxE x0 (wr .i64 (0 - x0))))
theorem N94_le (x0 : Int) : Le (N94 x0) (F94 x0) := by rw [F94_eq]; unfold N94; exact le_r _
noncomputable def N45 (x0 x1 x2 : S24) (x3 x4 : Int) : Option Int :=
 (N88 x1 x2 x0).bind fun y1 =>
 bif (decide (y1.1 ≥ 0)) then
  (N89 x0 x1 x3 x4).bind fun y2 =>
  some y2.1
 else
 (N90 x1 x2 x0).bind fun y3 =>
 (N91 x1 x2).bind fun y4 =>
 (N94 y3.1).bind fun y5 =>
 (N94 y3.1).bind fun y6 =>
 (N93 y5 y6).bind fun y7 =>
 (N78 (wr .u64 y4.1)).bind fun y8 =>
 (N92 y7 y8 x3 x4).bind fun y9 =>
 some y9.1
theorem N45_le (x0 x1 x2 : S24) (x3 x4 : Int) : Le (N45 x0 x1 x2 x3 x4) (F45 x0 x1 x2 x3 x4) := by rw [F45_eq]; unfold N45; exact le_b (N88_le _ _ _) fun _ => le_c (le_b (N89_le _ _ _ _) fun _ => le_r _) (le_b (N90_le _ _ _) fun _ => le_b (N91_le _ _) fun _ => le_b (N94_le _) fun _ => le_b (N94_le _) fun _ => le_b (N93_le _ _) fun _ => le_b (N78_le _) fun _ => le_b (N92_le _ _ _ _) fun _ => le_r _)
noncomputable def N23 (x0 : S24) (x1 : S34) (x2 x3 : Int) : Option (Int × Int) :=
 (N42 x0 x1 x2 x3).bind fun y1 =>
 bif (y1 != 0) then
  some (0, y1)
 else
 (N44 x1.f2 x1.f3 x1.f4 x1.f1).bind fun y2 =>
 (N44 x1.f4 x1.f3 x1.f2 x1.f1).bind fun y3 =>
 (N43 x0 x1 x2 x3).bind fun y4 =>
 (N45 x0 x1.f2 y2 x2 x3).bind fun y5 =>
 (N45 x0 x1.f4 y3 x2 x3).bind fun y6 =>
 some ((mnE (mnE y4 y5) y6), 0)
theorem N23_le (x0 : S24) (x1 : S34) (x2 x3 : Int) : Le (N23 x0 x1 x2 x3) (F23 x0 x1 x2 x3) := by rw [F23_eq]; unfold N23; exact le_b (N42_le _ _ _ _) fun _ => le_c (le_r _) (le_b (N44_le _ _ _ _) fun _ => le_b (N44_le _ _ _ _) fun _ => le_b (N43_le _ _ _ _) fun _ => le_b (N45_le _ _ _ _ _) fun _ => le_b (N45_le _ _ _ _ _) fun _ => le_r _)
noncomputable def N18 : Option Bool :=
 (N22 (S24.mk 10 13) (S34.mk 0 true (S24.mk 0 0) (S24.mk 10 20) (S24.mk 20 0)) 10 10).bind fun y1 =>
 (N19 (S34.mk 0 true (S24.mk 0 0) (S24.mk 10 20) (S24.mk 20 0)) (S37.mk 1 2)).bind fun y2 =>
 (N23 (S24.mk (-10) (-20)) (S34.mk 0 true (S24.mk 0 0) (S24.mk 10 20) (S24.mk 20 0)) 10 10).bind fun y3 =>
 bif (y1.1 == 3) then
  bif (y1.2 == 0) then
   bif ((y2.1.f0 == 10) && (y2.1.f1 == 1)) then
    bif ((y2.2.1.f0 == 10) && (y2.2.1.f1 == 1)) then
     bif (y2.2.2 == 0) then
      bif (y3.1 == 0) then
       some (y3.2 == 0)
      else
      some false
     else
     some false
    else
    some false
   else
   some false
  else
  some false
 else
 some false
theorem N18_le : Le (N18) (F18) := by rw [F18_eq]; unfold N18; exact le_b (N22_le _ _ _ _) fun _ => le_b (N19_le _ _) fun _ => le_b (N23_le _ _ _ _) fun _ => le_r _
end Go.Proofs.YtnikppnfkjogdaaGreatDoor.Ev
