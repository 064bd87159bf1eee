/- Printed by a program of this claim: the functions once more, as plain functions with fuel, which the kernel runs. -/
import Derived.Test.YtkpjeihgigmnkaaEvG
namespace Go.Proofs.Ytkpjeihgigmnkaa.Ev
open Go
set_option linter.unusedVariables false
def Le {α : Type} (a b : Option α) : Prop := ∀ y, a = some y → b = some y
theorem le_r {α : Type} (a : Option α) : Le a a := fun _ h => h
theorem le_n {α : Type} (a : Option α) : Le none a := fun _ h => by cases h
theorem le_b {α β : Type} {a a' : Option α} {f f' : α → Option β} (h : Le a a') (k : ∀ x, Le (f x) (f' x)) : Le (a.bind f) (a'.bind f') := fun y q => by
  cases ha : a with
  | none => rw [ha] at q; cases q
  | some x => rw [h x ha]; rw [ha] at q; exact k x y q
theorem le_c {α : Type} {c : Bool} {a a' b b' : Option α} (h : Le a a') (k : Le b b') : Le (cond c a b) (cond c a' b') := by cases c; exact k; exact h
theorem le_g {α : Type} {c : Bool} {a a' : Option α} (h : Le a a') : Le (grd c a) (grd c a') := by cases c; exact le_n _; exact h
theorem le_e {α : Type} {a b b' : Option α} (e : b = b') (h : Le a b') : Le a b := e ▸ h
noncomputable def Nn19 (x0 : S23) : Option (Bool) :=
  bif (decide (x0.f0 ≥ (-33554432))) then
    bif (decide (x0.f0 ≤ 33554432)) then
      bif (decide (x0.f1 ≥ (-33554432))) then
        some (decide (x0.f1 ≤ 33554432))
      else
      some false
    else
    some false
  else
  some false
theorem Nn19_le (x0 : S23) : Le (Nn19 x0) (F19 x0) := by rw [F19_eq]; unfold Nn19; exact le_r _
structure Q10 where
  l0 : S25 → Option (Bool)
noncomputable def T10_0 (q : Q10) (x0 : S25) : Option (Bool) :=
  bif x0.f1 then
    bif (!((x0.f2.f0 == x0.f3.f0) && (x0.f2.f1 == x0.f3.f1))) then
      some true
    else
    some (!((x0.f2.f0 == x0.f4.f0) && (x0.f2.f1 == x0.f4.f1)))
  else
  bif (!((x0.f2.f0 == x0.f4.f0) && (x0.f2.f1 == x0.f4.f1))) then
    some ((x0.f3.f0 == 0) && (x0.f3.f1 == 0))
  else
  some false
noncomputable def P10 (n : Nat) : Q10 := Nat.rec ⟨fun _ => none⟩ (fun _ q => ⟨T10_0 q⟩) n
theorem P10_le : ∀ n, (∀ x0, Le ((P10 n).l0 x0) (L10_0 x0)) := fun n => by
  induction n with
  | zero => exact fun x0 => le_n _
  | succ n ih => exact fun x0 => by show Le (T10_0 (P10 n) x0) _; rw [L10_0_eq]; unfold T10_0; exact le_r _
noncomputable def Nn10 (x0 : S23) (x1 : S25) : Option (Bool) :=
  (Nn19 x0).bind fun y1 =>
  bif (!y1) then
    some false
  else
  (Nn19 x1.f2).bind fun y2 =>
  bif (!y2) then
    some false
  else
  (Nn19 x1.f3).bind fun y3 =>
  bif (!y3) then
    some false
  else
  (Nn19 x1.f4).bind fun y4 =>
  bif (!y4) then
    some false
  else
  (P10 100000).l0 x1
theorem Nn10_le (x0 : S23) (x1 : S25) : Le (Nn10 x0 x1) (F10 x0 x1) := by rw [F10_eq]; unfold Nn10; exact le_b (Nn19_le _) fun _ => le_c (le_r _) (le_b (Nn19_le _) fun _ => le_c (le_r _) (le_b (Nn19_le _) fun _ => le_c (le_r _) (le_b (Nn19_le _) fun _ => le_c (le_r _) ((P10_le 100000) _))))
structure Q32 where
  l0 : List S23 → Int → Int → Option (Int)
noncomputable def T32_0 (q : Q32) (x0 : List S23) (x1 : Int) (x2 : Int) : Option (Int) :=
  bif (decide (x2 < x1)) then
    grd (decide (0 ≤ x2)) <|
    grd (decide (x2 < (x0.length : Int))) <|
    (Nn19 (x0.getD (Int.toNat x2) z0)).bind fun y1 =>
    bif (!y1) then
      some 1
    else
    q.l0 x0 x1 (wr .i64 (x2 + 1))
  else
  some 0
noncomputable def P32 (n : Nat) : Q32 := Nat.rec ⟨fun _ _ _ => none⟩ (fun _ q => ⟨T32_0 q⟩) n
theorem P32_le : ∀ n, (∀ x0 x1 x2, Le ((P32 n).l0 x0 x1 x2) (L32_0 x0 x1 x2)) := fun n => by
  induction n with
  | zero => exact fun x0 x1 x2 => le_n _
  | succ n ih => exact fun x0 x1 x2 => by show Le (T32_0 (P32 n) x0 x1 x2) _; rw [L32_0_eq]; unfold T32_0; exact le_c (le_g (le_g (le_b (Nn19_le _) fun _ => le_c (le_r _) (ih _ _ _)))) (le_r _)
noncomputable def Nn32 (x0 : List S23) : Option (Int) :=
  (P32 100000).l0 x0 (x0.length : Int) 0
theorem Nn32_le (x0 : List S23) : Le (Nn32 x0) (F32 x0) := by rw [F32_eq]; unfold Nn32; exact (P32_le 100000) _ _ _
noncomputable def Nn33 (x0 : S23) (x1 : S23) (x2 : S23) : Option (Int) :=
  some (wr .i64 ((wr .i64 ((wr .i64 (x1.f0 - x0.f0)) * (wr .i64 (x2.f1 - x0.f1)))) - (wr .i64 ((wr .i64 (x1.f1 - x0.f1)) * (wr .i64 (x2.f0 - x0.f0))))))
theorem Nn33_le (x0 : S23) (x1 : S23) (x2 : S23) : Le (Nn33 x0 x1 x2) (F33 x0 x1 x2) := by rw [F33_eq]; unfold Nn33; exact le_r _
noncomputable def Nn20 (x0 : S23) (x1 : S23) (x2 : S23) : Option (Int × Int) :=
  (Nn32 [x0, x1, x2]).bind fun y1 =>
  bif (y1 != 0) then
    some (0, y1)
  else
  (Nn33 x0 x1 x2).bind fun y2 =>
  some (y2, 0)
theorem Nn20_le (x0 : S23) (x1 : S23) (x2 : S23) : Le (Nn20 x0 x1 x2) (F20 x0 x1 x2) := by rw [F20_eq]; unfold Nn20; exact le_b (Nn32_le _) fun _ => le_c (le_r _) (le_b (Nn33_le _ _ _) fun _ => le_r _)
noncomputable def Nn11 (x0 : S23) (x1 : S23) (x2 : S23) : Option (Int) :=
  (Nn20 x0 x1 x2).bind fun y1 =>
  some y1.1
theorem Nn11_le (x0 : S23) (x1 : S23) (x2 : S23) : Le (Nn11 x0 x1 x2) (F11 x0 x1 x2) := by rw [F11_eq]; unfold Nn11; exact le_b (Nn20_le _ _ _) fun _ => le_r _
noncomputable def Nn12 (x0 : S23) (x1 : S25) : Option (S37) :=
  some (S37.mk (wr .i64 ((wr .i64 ((wr .i64 (2 * (wr .i64 (x1.f3.f1 - x1.f2.f1)))) * (wr .i64 (x1.f2.f0 - x0.f0)))) - (wr .i64 ((wr .i64 (2 * (wr .i64 (x1.f3.f0 - x1.f2.f0)))) * (wr .i64 (x1.f2.f1 - x0.f1)))))) (wr .i64 (2 * (wr .i64 ((wr .i64 ((wr .i64 ((wr .i64 (x1.f2.f1 - (wr .i64 (2 * x1.f3.f1)))) + x1.f4.f1)) * (wr .i64 (x1.f2.f0 - x0.f0)))) - (wr .i64 ((wr .i64 ((wr .i64 (x1.f2.f0 - (wr .i64 (2 * x1.f3.f0)))) + x1.f4.f0)) * (wr .i64 (x1.f2.f1 - x0.f1)))))))) (wr .i64 ((wr .i64 ((wr .i64 ((wr .i64 (x1.f2.f1 - (wr .i64 (2 * x1.f3.f1)))) + x1.f4.f1)) * (wr .i64 (2 * (wr .i64 (x1.f3.f0 - x1.f2.f0)))))) - (wr .i64 ((wr .i64 ((wr .i64 (x1.f2.f0 - (wr .i64 (2 * x1.f3.f0)))) + x1.f4.f0)) * (wr .i64 (2 * (wr .i64 (x1.f3.f1 - x1.f2.f1)))))))))
theorem Nn12_le (x0 : S23) (x1 : S25) : Le (Nn12 x0 x1) (F12 x0 x1) := by rw [F12_eq]; unfold Nn12; exact le_r _
noncomputable def Nn21 (x0 : Int) (x1 : Bool) : Option (Bool × Bool) :=
  bif (decide (x0 > 0)) then
    some (true, x1)
  else
  bif x1 then
    some ((x0 == 0), x1)
  else
  some (false, x1)
theorem Nn21_le (x0 : Int) (x1 : Bool) : Le (Nn21 x0 x1) (F21 x0 x1) := by rw [F21_eq]; unfold Nn21; exact le_r _
noncomputable def Nn34 (x0 : S50) (x1 : Int) : Option (S50) :=
  bif (decide (x1 ≥ 64)) then
    grd (decide (0 ≤ (wr .u64 (x1 - 64)))) <|
    some (S50.mk 0 (shrE Go.IntKind.u64 x0.f0 (wr .u64 (x1 - 64))))
  else
  grd (decide (0 ≤ x1)) <|
  grd (decide (0 ≤ x1)) <|
  grd (decide (0 ≤ (wr .u64 (64 - x1)))) <|
  some (S50.mk (shrE Go.IntKind.u64 x0.f0 x1) (orE Go.IntKind.u64 (shrE Go.IntKind.u64 x0.f1 x1) (shlE Go.IntKind.u64 x0.f0 (wr .u64 (64 - x1)))))
theorem Nn34_le (x0 : S50) (x1 : Int) : Le (Nn34 x0 x1) (F34 x0 x1) := by rw [F34_eq]; unfold Nn34; exact le_r _
structure Q49 where
  l0 : Int → Int → Option (Int)
  l1 : Int → Int → Option (Int)
  l2 : Int → Int → Option (Int)
noncomputable def T49_0 (q : Q49) (x0 : Int) (x1 : Int) : Option (Int) :=
  bif (decide (x0 ≥ 65536)) then
    q.l1 (shrE Go.IntKind.u64 x0 (16 : Int)) (wr .i64 (x1 + 16))
  else
  q.l1 x0 x1
noncomputable def T49_1 (q : Q49) (x0 : Int) (x1 : Int) : Option (Int) :=
  bif (decide (x0 ≥ 256)) then
    q.l2 (shrE Go.IntKind.u64 x0 (8 : Int)) (wr .i64 (x1 + 8))
  else
  q.l2 x0 x1
noncomputable def T49_2 (q : Q49) (x0 : Int) (x1 : Int) : Option (Int) :=
  grd (decide (0 ≤ (wr .u8 x0))) <|
  grd (decide ((wr .u8 x0) < 256)) <|
  some (wr .i64 (x1 + (wr .i64 (btE (ofBytes [0, 1, 2, 2, 3, 3, 3, 3, 4, 4, 4, 4, 4, 4, 4, 4, 5, 5, 5, 5, 5, 5, 5, 5, 5, 5, 5, 5, 5, 5, 5, 5, 6, 6, 6, 6, 6, 6, 6, 6, 6, 6, 6, 6, 6, 6, 6, 6, 6, 6, 6, 6, 6, 6, 6, 6, 6, 6, 6, 6, 6, 6, 6, 6, 7, 7, 7, 7, 7, 7, 7, 7, 7, 7, 7, 7, 7, 7, 7, 7, 7, 7, 7, 7, 7, 7, 7, 7, 7, 7, 7, 7, 7, 7, 7, 7, 7, 7, 7, 7, 7, 7, 7, 7, 7, 7, 7, 7, 7, 7, 7, 7, 7, 7, 7, 7, 7, 7, 7, 7, 7, 7, 7, 7, 7, 7, 7, 7, 8, 8, 8, 8, 8, 8, 8, 8, 8, 8, 8, 8, 8, 8, 8, 8, 8, 8, 8, 8, 8, 8, 8, 8, 8, 8, 8, 8, 8, 8, 8, 8, 8, 8, 8, 8, 8, 8, 8, 8, 8, 8, 8, 8, 8, 8, 8, 8, 8, 8, 8, 8, 8, 8, 8, 8, 8, 8, 8, 8, 8, 8, 8, 8, 8, 8, 8, 8, 8, 8, 8, 8, 8, 8, 8, 8, 8, 8, 8, 8, 8, 8, 8, 8, 8, 8, 8, 8, 8, 8, 8, 8, 8, 8, 8, 8, 8, 8, 8, 8, 8, 8, 8, 8, 8, 8, 8, 8, 8, 8, 8, 8, 8, 8, 8, 8, 8, 8, 8, 8, 8, 8, 8, 8, 8, 8, 8, 8]) (Int.toNat (wr .u8 x0))))))
noncomputable def P49 (n : Nat) : Q49 := Nat.rec ⟨fun _ _ => none, fun _ _ => none, fun _ _ => none⟩ (fun _ q => ⟨T49_0 q, T49_1 q, T49_2 q⟩) n
theorem P49_le : ∀ n, (∀ x0 x1, Le ((P49 n).l0 x0 x1) (L49_0 x0 x1)) ∧ (∀ x0 x1, Le ((P49 n).l1 x0 x1) (L49_1 x0 x1)) ∧ (∀ x0 x1, Le ((P49 n).l2 x0 x1) (L49_2 x0 x1)) := fun n => by
  induction n with
  | zero => exact ⟨fun x0 x1 => le_n _, fun x0 x1 => le_n _, fun x0 x1 => le_n _⟩
  | succ n ih => exact ⟨fun x0 x1 => by show Le (T49_0 (P49 n) x0 x1) _; rw [L49_0_eq]; unfold T49_0; exact le_c (ih.2.1 _ _) (ih.2.1 _ _),
    fun x0 x1 => by show Le (T49_1 (P49 n) x0 x1) _; rw [L49_1_eq]; unfold T49_1; exact le_c (ih.2.2 _ _) (ih.2.2 _ _),
    fun x0 x1 => by show Le (T49_2 (P49 n) x0 x1) _; rw [L49_2_eq]; unfold T49_2; exact le_r _⟩
noncomputable def Nn49 (x0 : Int) : Option (Int) :=
  bif (decide (x0 ≥ 4294967296)) then
    (P49 100000).l0 (shrE Go.IntKind.u64 x0 (32 : Int)) 32
  else
  (P49 100000).l0 x0 0
theorem Nn49_le (x0 : Int) : Le (Nn49 x0) (F49 x0) := by rw [F49_eq]; unfold Nn49; exact le_c ((P49_le 100000).1 _ _) ((P49_le 100000).1 _ _)
noncomputable def Nn35 (x0 : S50) : Option (Int) :=
  bif (x0.f0 != 0) then
    (Nn49 x0.f0).bind fun y1 =>
    some (wr .i64 (64 + y1))
  else
  (Nn49 x0.f1).bind fun y2 =>
  some y2
theorem Nn35_le (x0 : S50) : Le (Nn35 x0) (F35 x0) := by rw [F35_eq]; unfold Nn35; exact le_c (le_b (Nn49_le _) fun _ => le_r _) (le_b (Nn49_le _) fun _ => le_r _)
noncomputable def Nn36 (x0 : S50) (x1 : Int) : Option (S50) :=
  bif (decide (x1 ≥ 64)) then
    grd (decide (0 ≤ (wr .u64 (x1 - 64)))) <|
    some (S50.mk (shlE Go.IntKind.u64 x0.f1 (wr .u64 (x1 - 64))) 0)
  else
  grd (decide (0 ≤ x1)) <|
  grd (decide (0 ≤ (wr .u64 (64 - x1)))) <|
  grd (decide (0 ≤ x1)) <|
  some (S50.mk (orE Go.IntKind.u64 (shlE Go.IntKind.u64 x0.f0 x1) (shrE Go.IntKind.u64 x0.f1 (wr .u64 (64 - x1)))) (shlE Go.IntKind.u64 x0.f1 x1))
theorem Nn36_le (x0 : S50) (x1 : Int) : Le (Nn36 x0 x1) (F36 x0 x1) := by rw [F36_eq]; unfold Nn36; exact le_r _
structure Q22 where
  l0 : Int → S50 → S50 → Option (S50 × Int)
noncomputable def T22_0 (q : Q22) (x0 : Int) (x1 : S50) (x2 : S50) : Option (S50 × Int) :=
  bif (decide (x0 < 0)) then
    (Nn34 x1 (wr .u64 (wr .i64 (0 - x0)))).bind fun y1 =>
    some (y1, 0)
  else
  (Nn35 x1).bind fun y2 =>
  bif (decide (x0 > (wr .i64 (128 - y2)))) then
    some ((S50.mk 0 0), 2)
  else
  (Nn36 x1 (wr .u64 x0)).bind fun y3 =>
  some (y3, 0)
noncomputable def P22 (n : Nat) : Q22 := Nat.rec ⟨fun _ _ _ => none⟩ (fun _ q => ⟨T22_0 q⟩) n
theorem P22_le : ∀ n, (∀ x0 x1 x2, Le ((P22 n).l0 x0 x1 x2) (L22_0 x0 x1 x2)) := fun n => by
  induction n with
  | zero => exact fun x0 x1 x2 => le_n _
  | succ n ih => exact fun x0 x1 x2 => by show Le (T22_0 (P22 n) x0 x1 x2) _; rw [L22_0_eq]; unfold T22_0; exact le_c (le_b (Nn34_le _ _) fun _ => le_r _) (le_b (Nn35_le _) fun _ => le_c (le_r _) (le_b (Nn36_le _ _) fun _ => le_r _))
noncomputable def Nn22 (x0 : S50) (x1 : Int) : Option (S50 × Int) :=
  bif ((x0.f0 == 0) && (x0.f1 == 0)) then
    some ((S50.mk 0 0), 0)
  else
  bif (decide (x1 ≤ (-128))) then
    some ((S50.mk 0 0), 0)
  else
  (P22 100000).l0 x1 x0 (S50.mk 0 0)
theorem Nn22_le (x0 : S50) (x1 : Int) : Le (Nn22 x0 x1) (F22 x0 x1) := by rw [F22_eq]; unfold Nn22; exact le_c (le_r _) (le_c (le_r _) ((P22_le 100000) _ _ _))
noncomputable def Nn37 (x0 : Int) (x1 : Int) : Option (Int × Int) :=
  some ((wr .u64 ((wr .u64 ((wr .u64 ((shrE Go.IntKind.u64 x0 (32 : Int)) * (shrE Go.IntKind.u64 x1 (32 : Int)))) + (shrE Go.IntKind.u64 (wr .u64 ((wr .u64 ((shrE Go.IntKind.u64 x0 (32 : Int)) * (andE Go.IntKind.u64 x1 (4294967295 : Int)))) + (shrE Go.IntKind.u64 (wr .u64 ((andE Go.IntKind.u64 x0 (4294967295 : Int)) * (andE Go.IntKind.u64 x1 (4294967295 : Int)))) (32 : Int)))) (32 : Int)))) + (shrE Go.IntKind.u64 (wr .u64 ((andE Go.IntKind.u64 (wr .u64 ((wr .u64 ((shrE Go.IntKind.u64 x0 (32 : Int)) * (andE Go.IntKind.u64 x1 (4294967295 : Int)))) + (shrE Go.IntKind.u64 (wr .u64 ((andE Go.IntKind.u64 x0 (4294967295 : Int)) * (andE Go.IntKind.u64 x1 (4294967295 : Int)))) (32 : Int)))) (4294967295 : Int)) + (wr .u64 ((andE Go.IntKind.u64 x0 (4294967295 : Int)) * (shrE Go.IntKind.u64 x1 (32 : Int)))))) (32 : Int)))), (wr .u64 (x0 * x1)))
theorem Nn37_le (x0 : Int) (x1 : Int) : Le (Nn37 x0 x1) (F37 x0 x1) := by rw [F37_eq]; unfold Nn37; exact le_r _
noncomputable def Nn23 (x0 : Int) (x1 : Int) : Option (S50) :=
  (Nn37 x0 x1).bind fun y1 =>
  some (S50.mk y1.1 y1.2)
theorem Nn23_le (x0 : Int) (x1 : Int) : Le (Nn23 x0 x1) (F23 x0 x1) := by rw [F23_eq]; unfold Nn23; exact le_b (Nn37_le _ _) fun _ => le_r _
noncomputable def Nn24 (x0 : Int) : Option (Int) :=
  some (wr .u64 (mxE x0 (wr .i64 (0 - x0))))
theorem Nn24_le (x0 : Int) : Le (Nn24 x0) (F24 x0) := by rw [F24_eq]; unfold Nn24; exact le_r _
structure Q38 where
  l0 : Int → List Int → Int → Int → Option (Int)
noncomputable def T38_0 (q : Q38) (x0 : Int) (x1 : List Int) (x2 : Int) (x3 : Int) : Option (Int) :=
  bif (decide (x3 < x2)) then
    grd (decide (0 ≤ x3)) <|
    grd (decide (x3 < (x1.length : Int))) <|
    bif ((x1.getD (Int.toNat x3) 0) != x0) then
      some (x1.getD (Int.toNat x3) 0)
    else
    q.l0 x0 x1 x2 (wr .i64 (x3 + 1))
  else
  some x0
noncomputable def P38 (n : Nat) : Q38 := Nat.rec ⟨fun _ _ _ _ => none⟩ (fun _ q => ⟨T38_0 q⟩) n
theorem P38_le : ∀ n, (∀ x0 x1 x2 x3, Le ((P38 n).l0 x0 x1 x2 x3) (L38_0 x0 x1 x2 x3)) := fun n => by
  induction n with
  | zero => exact fun x0 x1 x2 x3 => le_n _
  | succ n ih => exact fun x0 x1 x2 x3 => by show Le (T38_0 (P38 n) x0 x1 x2 x3) _; rw [L38_0_eq]; unfold T38_0; exact le_c (le_g (le_g (le_c (le_r _) (ih _ _ _ _)))) (le_r _)
noncomputable def Nn38 (x0 : List Int) : Option (Int) :=
  (P38 100000).l0 0 x0 (x0.length : Int) 0
theorem Nn38_le (x0 : List Int) : Le (Nn38 x0) (F38 x0) := by rw [F38_eq]; unfold Nn38; exact (P38_le 100000) _ _ _ _
noncomputable def Nn50 (x0 : Int) : Option (Bool) :=
  some (x0 != x0)
theorem Nn50_le (x0 : Int) : Le (Nn50 x0) (F50 x0) := by rw [F50_eq]; unfold Nn50; exact le_r _
noncomputable def Nn39 (x0 : Int) (x1 : Int) : Option (Int) :=
  (Nn50 x0).bind fun y1 =>
  (Nn50 x1).bind fun y2 =>
  bif y1 then
    bif y2 then
      some 0
    else
    some (-1)
  else
  bif y2 then
    some 1
  else
  bif (decide (x0 < x1)) then
    some (-1)
  else
  bif (decide (x0 > x1)) then
    some 1
  else
  some 0
theorem Nn39_le (x0 : Int) (x1 : Int) : Le (Nn39 x0 x1) (F39 x0 x1) := by rw [F39_eq]; unfold Nn39; exact le_b (Nn50_le _) fun _ => le_b (Nn50_le _) fun _ => le_r _
noncomputable def Nn25 (x0 : S50) (x1 : S50) : Option (Int) :=
  (Nn39 x0.f0 x1.f0).bind fun y1 =>
  (Nn39 x0.f1 x1.f1).bind fun y2 =>
  (Nn38 [y1, y2]).bind fun y3 =>
  some y3
theorem Nn25_le (x0 : S50) (x1 : S50) : Le (Nn25 x0 x1) (F25 x0 x1) := by rw [F25_eq]; unfold Nn25; exact le_b (Nn39_le _ _) fun _ => le_b (Nn39_le _ _) fun _ => le_b (Nn38_le _) fun _ => le_r _
structure Q13 where
  l0 : S37 → Bool → Option (Bool)
  l1 : S37 → Bool → Option (Bool)
noncomputable def T13_0 (q : Q13) (x0 : S37) (x1 : Bool) : Option (Bool) :=
  bif (decide (x0.f2 ≤ 0)) then
    some true
  else
  bif (decide (x0.f1 ≥ 0)) then
    some true
  else
  bif (decide ((wr .i64 (x0.f1 + (wr .i64 (2 * x0.f2)))) ≤ 0)) then
    some true
  else
  q.l1 x0 x1
noncomputable def T13_1 (q : Q13) (x0 : S37) (x1 : Bool) : Option (Bool) :=
  (Nn24 x0.f0).bind fun y1 =>
  (Nn24 x0.f2).bind fun y2 =>
  (Nn23 y1 y2).bind fun y3 =>
  (Nn22 y3 2).bind fun y4 =>
  (Nn24 x0.f1).bind fun y5 =>
  (Nn24 x0.f1).bind fun y6 =>
  (Nn23 y5 y6).bind fun y7 =>
  (Nn25 y4.1 y7).bind fun y8 =>
  bif (decide (y8 > 0)) then
    some true
  else
  bif x1 then
    some (y8 == 0)
  else
  some false
noncomputable def P13 (n : Nat) : Q13 := Nat.rec ⟨fun _ _ => none, fun _ _ => none⟩ (fun _ q => ⟨T13_0 q, T13_1 q⟩) n
theorem P13_le : ∀ n, (∀ x0 x1, Le ((P13 n).l0 x0 x1) (L13_0 x0 x1)) ∧ (∀ x0 x1, Le ((P13 n).l1 x0 x1) (L13_1 x0 x1)) := fun n => by
  induction n with
  | zero => exact ⟨fun x0 x1 => le_n _, fun x0 x1 => le_n _⟩
  | succ n ih => exact ⟨fun x0 x1 => by show Le (T13_0 (P13 n) x0 x1) _; rw [L13_0_eq]; unfold T13_0; exact le_c (le_r _) (le_c (le_r _) (le_c (le_r _) (ih.2 _ _))),
    fun x0 x1 => by show Le (T13_1 (P13 n) x0 x1) _; rw [L13_1_eq]; unfold T13_1; exact le_b (Nn24_le _) fun _ => le_b (Nn24_le _) fun _ => le_b (Nn23_le _ _) fun _ => le_b (Nn22_le _ _) fun _ => le_b (Nn24_le _) fun _ => le_b (Nn24_le _) fun _ => le_b (Nn23_le _ _) fun _ => le_b (Nn25_le _ _) fun _ => le_r _⟩
noncomputable def Nn13 (x0 : S37) (x1 : Bool) : Option (Bool) :=
  (Nn21 x0.f0 x1).bind fun y1 =>
  bif (!y1.1) then
    some false
  else
  (Nn21 (wr .i64 ((wr .i64 (x0.f0 + x0.f1)) + x0.f2)) y1.2).bind fun y2 =>
  bif (!y2.1) then
    some false
  else
  (P13 100000).l0 x0 y2.2
theorem Nn13_le (x0 : S37) (x1 : Bool) : Le (Nn13 x0 x1) (F13 x0 x1) := by rw [F13_eq]; unfold Nn13; exact le_b (Nn21_le _ _) fun _ => le_c (le_r _) (le_b (Nn21_le _ _) fun _ => le_c (le_r _) ((P13_le 100000).1 _ _))
structure Q5 where
  l0 : S23 → S25 → Int → Option (Bool × Int)
noncomputable def T5_0 (q : Q5) (x0 : S23) (x1 : S25) (x2 : Int) : Option (Bool × Int) :=
  (Nn12 x0 x1).bind fun y1 =>
  bif (decide (x2 > 0)) then
    (Nn13 y1 false).bind fun y2 =>
    some ((!y2), 0)
  else
  bif (decide (x2 < 0)) then
    (Nn13 (S37.mk (wr .i64 (0 - y1.f0)) (wr .i64 (0 - y1.f1)) (wr .i64 (0 - y1.f2))) true).bind fun y3 =>
    some (y3, 0)
  else
  bif ((x1.f2.f0 == x1.f4.f0) && (x1.f2.f1 == x1.f4.f1)) then
    (Nn11 x1.f2 x1.f3 x0).bind fun y4 =>
    some ((decide (y4 ≤ 0)), 0)
  else
  (Nn11 x1.f2 x1.f4 x0).bind fun y5 =>
  some ((decide (y5 ≤ 0)), 0)
noncomputable def P5 (n : Nat) : Q5 := Nat.rec ⟨fun _ _ _ => none⟩ (fun _ q => ⟨T5_0 q⟩) n
theorem P5_le : ∀ n, (∀ x0 x1 x2, Le ((P5 n).l0 x0 x1 x2) (L5_0 x0 x1 x2)) := fun n => by
  induction n with
  | zero => exact fun x0 x1 x2 => le_n _
  | succ n ih => exact fun x0 x1 x2 => by show Le (T5_0 (P5 n) x0 x1 x2) _; rw [L5_0_eq]; unfold T5_0; exact le_b (Nn12_le _ _) fun _ => le_c (le_b (Nn13_le _ _) fun _ => le_r _) (le_c (le_b (Nn13_le _ _) fun _ => le_r _) (le_c (le_b (Nn11_le _ _ _) fun _ => le_r _) (le_b (Nn11_le _ _ _) fun _ => le_r _)))
noncomputable def Nn5 (x0 : S23) (x1 : S25) : Option (Bool × Int) :=
  (Nn10 x0 x1).bind fun y1 =>
  bif (!y1) then
    some (false, 1)
  else
  bif x1.f1 then
    (Nn11 x1.f2 x1.f3 x1.f4).bind fun y2 =>
    (P5 100000).l0 x0 x1 y2
  else
  (P5 100000).l0 x0 x1 0
theorem Nn5_le (x0 : S23) (x1 : S25) : Le (Nn5 x0 x1) (F5 x0 x1) := by rw [F5_eq]; unfold Nn5; exact le_b (Nn10_le _ _) fun _ => le_c (le_r _) (le_c (le_b (Nn11_le _ _ _) fun _ => (P5_le 100000) _ _ _) ((P5_le 100000) _ _ _))
noncomputable def Nn6 (x0 : S23) (x1 : S25) : Option (S30 × Int) :=
  (Nn10 x0 x1).bind fun y1 =>
  bif (!y1) then
    some (((List.set [(S30.mk 0 0 0)] 0 (S30.mk 0 0 0)).getD 0 z2), 1)
  else
  bif (!x1.f1) then
    (Nn11 x1.f2 x1.f4 x0).bind fun y2 =>
    some (((List.set [(S30.mk 0 0 0)] 0 (S30.mk y2 0 0)).getD 0 z2), 0)
  else
  (Nn12 x0 x1).bind fun y3 =>
  some (((List.set [(S30.mk 0 0 0)] 0 (S30.mk y3.f0 y3.f1 y3.f2)).getD 0 z2), 0)
theorem Nn6_le (x0 : S23) (x1 : S25) : Le (Nn6 x0 x1) (F6 x0 x1) := by rw [F6_eq]; unfold Nn6; exact le_b (Nn10_le _ _) fun _ => le_c (le_r _) (le_c (le_b (Nn11_le _ _ _) fun _ => le_r _) (le_b (Nn12_le _ _) fun _ => le_r _))
noncomputable def Nn4 : Option (Bool) :=
  (Nn5 (S23.mk 5 (-1)) (S25.mk 0 false (S23.mk 0 0) (S23.mk 0 0) (S23.mk 10 0))).bind fun y1 =>
  (Nn5 (S23.mk 5 1) (S25.mk 0 false (S23.mk 0 0) (S23.mk 0 0) (S23.mk 10 0))).bind fun y2 =>
  (Nn6 (S23.mk 5 1) (S25.mk 0 false (S23.mk 0 0) (S23.mk 0 0) (S23.mk 10 0))).bind fun y3 =>
  bif y1.1 then
    bif (y1.2 == 0) then
      bif (!y2.1) then
        bif (y2.2 == 0) then
          bif ((y3.1.f0 == 10) && ((y3.1.f1 == 0) && (y3.1.f2 == 0))) then
            some (y3.2 == 0)
          else
          some false
        else
        some false
      else
      some false
    else
    some false
  else
  some false
theorem Nn4_le : Le (Nn4) (F4) := by rw [F4_eq]; unfold Nn4; exact le_b (Nn5_le _ _) fun _ => le_b (Nn5_le _ _) fun _ => le_b (Nn6_le _ _) fun _ => le_r _
end Go.Proofs.Ytkpjeihgigmnkaa.Ev
