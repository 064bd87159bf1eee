/- Printed by a program of this claim: the functions once more, as plain functions with fuel, which the kernel runs. -/
import Derived.Test.YtalghbndblgndaaEvG
namespace Go.Proofs.Ytalghbndblgndaa.Ev
open Go
set_option linter.unusedVariables false
def Le {α : Type} (a b : Option α) : Prop := ∀ y, a = some y → b = some y
theorem le_r {α : Type} (a : Option α) : Le a a := fun _ h => h
theorem le_n {α : Type} (a : Option α) : Le none a := fun _ h => by cases h
theorem le_b {α β : Type} {a a' : Option α} {f f' : α → Option β} (h : Le a a') (k : ∀ x, Le (f x) (f' x)) : Le (a.bind f) (a'.bind f') := fun y q => by
  cases ha : a with
  | none => rw [ha] at q; cases q
  | some x => rw [h x ha]; rw [ha] at q; exact k x y q
theorem le_c {α : Type} {c : Bool} {a a' b b' : Option α} (h : Le a a') (k : Le b b') : Le (cond c a b) (cond c a' b') := by cases c; exact k; exact h
theorem le_g {α : Type} {c : Bool} {a a' : Option α} (h : Le a a') : Le (grd c a) (grd c a') := by cases c; exact le_n _; exact h
theorem le_e {α : Type} {a b b' : Option α} (e : b = b') (h : Le a b') : Le a b := e ▸ h
noncomputable def N69 (x0 : Int) : Option (Bool) :=
  bif (decide (x0 > 32767)) then
    some true
  else
  some (decide (x0 < (-32767)))
theorem N69_le (x0 : Int) : Le (N69 x0) (F69 x0) := by rw [F69_eq]; unfold N69; exact le_r _
structure Q28 where
  l0 : Int → List (List S39) → Int → Int → Option (Bool)
  l1 : Int → List (List S39) → Int → Int → List S39 → Int → Int → Option (Bool)
noncomputable def T28_0 (q : Q28) (x0 : Int) (x1 : List (List S39)) (x2 : Int) (x3 : Int) : Option (Bool) :=
  bif (decide (x3 < x2)) then
    grd (decide (0 ≤ x3)) <|
    grd (decide (x3 < (x1.length : Int))) <|
    bif (((x1.getD (Int.toNat x3) []).length : Int) == 0) then
      some false
    else
    bif (decide ((wr .i64 (x0 + ((x1.getD (Int.toNat x3) []).length : Int))) > 4096)) then
      some false
    else
    q.l1 (wr .i64 (x0 + ((x1.getD (Int.toNat x3) []).length : Int))) x1 x2 x3 (x1.getD (Int.toNat x3) []) ((x1.getD (Int.toNat x3) []).length : Int) 0
  else
  some true
noncomputable def T28_1 (q : Q28) (x0 : Int) (x1 : List (List S39)) (x2 : Int) (x3 : Int) (x4 : List S39) (x5 : Int) (x6 : Int) : Option (Bool) :=
  bif (decide (x6 < x5)) then
    grd (decide (0 ≤ x6)) <|
    grd (decide (x6 < (x4.length : Int))) <|
    (N69 (x4.getD (Int.toNat x6) z0).f0).bind fun y1 =>
    bif y1 then
      some false
    else
    (N69 (x4.getD (Int.toNat x6) z0).f1).bind fun y2 =>
    bif y2 then
      some false
    else
    q.l1 x0 x1 x2 x3 x4 x5 (wr .i64 (x6 + 1))
  else
  q.l0 x0 x1 x2 (wr .i64 (x3 + 1))
noncomputable def P28 (n : Nat) : Q28 := Nat.rec ⟨fun _ _ _ _ => none, fun _ _ _ _ _ _ _ => none⟩ (fun _ q => ⟨T28_0 q, T28_1 q⟩) n
theorem P28_le : ∀ n, (∀ x0 x1 x2 x3, Le ((P28 n).l0 x0 x1 x2 x3) (L28_0 x0 x1 x2 x3)) ∧ (∀ x0 x1 x2 x3 x4 x5 x6, Le ((P28 n).l1 x0 x1 x2 x3 x4 x5 x6) (L28_1 x0 x1 x2 x3 x4 x5 x6)) := fun n => by
  induction n with
  | zero => exact ⟨fun x0 x1 x2 x3 => le_n _, fun x0 x1 x2 x3 x4 x5 x6 => le_n _⟩
  | succ n ih => exact ⟨fun x0 x1 x2 x3 => by show Le (T28_0 (P28 n) x0 x1 x2 x3) _; rw [L28_0_eq]; unfold T28_0; exact le_c (le_g (le_g (le_c (le_r _) (le_c (le_r _) (ih.2 _ _ _ _ _ _ _))))) (le_r _),
    fun x0 x1 x2 x3 x4 x5 x6 => by show Le (T28_1 (P28 n) x0 x1 x2 x3 x4 x5 x6) _; rw [L28_1_eq]; unfold T28_1; exact le_c (le_g (le_g (le_b (N69_le _) fun _ => le_c (le_r _) (le_b (N69_le _) fun _ => le_c (le_r _) (ih.2 _ _ _ _ _ _ _))))) (ih.1 _ _ _ _)⟩
noncomputable def N28 (x0 : List (List S39)) : Option (Bool) :=
  bif (decide ((x0.length : Int) > 256)) then
    some false
  else
  (P28 100000).l0 0 x0 (x0.length : Int) 0
theorem N28_le (x0 : List (List S39)) : Le (N28 x0) (F28 x0) := by rw [F28_eq]; unfold N28; exact le_c (le_r _) ((P28_le 100000).1 _ _ _ _)
structure Q133 where
  l0 : List Int → Int → Int → Option (Bool)
noncomputable def T133_0 (q : Q133) (x0 : List Int) (x1 : Int) (x2 : Int) : Option (Bool) :=
  bif (decide (x2 < x1)) then
    grd (decide (0 ≤ x2)) <|
    grd (decide (x2 < (x0.length : Int))) <|
    bif (decide ((x0.getD (Int.toNat x2) 0) < (-32768))) then
      some false
    else
    bif (decide ((x0.getD (Int.toNat x2) 0) > 32767)) then
      some false
    else
    q.l0 x0 x1 (wr .i64 (x2 + 1))
  else
  some true
noncomputable def P133 (n : Nat) : Q133 := Nat.rec ⟨fun _ _ _ => none⟩ (fun _ q => ⟨T133_0 q⟩) n
theorem P133_le : ∀ n, (∀ x0 x1 x2, Le ((P133 n).l0 x0 x1 x2) (L133_0 x0 x1 x2)) := fun n => by
  induction n with
  | zero => exact fun x0 x1 x2 => le_n _
  | succ n ih => exact fun x0 x1 x2 => by show Le (T133_0 (P133 n) x0 x1 x2) _; rw [L133_0_eq]; unfold T133_0; exact le_c (le_g (le_g (le_c (le_r _) (le_c (le_r _) (ih _ _ _))))) (le_r _)
noncomputable def N133 (x0 : List Int) : Option (Bool) :=
  (P133 100000).l0 x0 (x0.length : Int) 0
theorem N133_le (x0 : List Int) : Le (N133 x0) (F133 x0) := by rw [F133_eq]; unfold N133; exact (P133_le 100000) _ _ _
noncomputable def N85 (x0 : S47) (x1 : Int) : Option (Bool) :=
  bif (decide (x0.f0 ≥ 0)) then
    bif (decide (x0.f0 < x1)) then
      (N133 [x0.f1, x0.f2, x0.f3, x0.f4, x0.f5, x0.f6]).bind fun y1 =>
      some y1
    else
    some false
  else
  some false
theorem N85_le (x0 : S47) (x1 : Int) : Le (N85 x0 x1) (F85 x0 x1) := by rw [F85_eq]; unfold N85; exact le_c (le_c (le_b (N133_le _) fun _ => le_r _) (le_r _)) (le_r _)
structure Q35 where
  l0 : Int → List S47 → Int → Int → Option (Bool)
noncomputable def T35_0 (q : Q35) (x0 : Int) (x1 : List S47) (x2 : Int) (x3 : Int) : Option (Bool) :=
  bif (decide (x3 < x2)) then
    grd (decide (0 ≤ x3)) <|
    grd (decide (x3 < (x1.length : Int))) <|
    (N85 (x1.getD (Int.toNat x3) z1) x0).bind fun y1 =>
    bif (!y1) then
      some false
    else
    q.l0 x0 x1 x2 (wr .i64 (x3 + 1))
  else
  some true
noncomputable def P35 (n : Nat) : Q35 := Nat.rec ⟨fun _ _ _ _ => none⟩ (fun _ q => ⟨T35_0 q⟩) n
theorem P35_le : ∀ n, (∀ x0 x1 x2 x3, Le ((P35 n).l0 x0 x1 x2 x3) (L35_0 x0 x1 x2 x3)) := fun n => by
  induction n with
  | zero => exact fun x0 x1 x2 x3 => le_n _
  | succ n ih => exact fun x0 x1 x2 x3 => by show Le (T35_0 (P35 n) x0 x1 x2 x3) _; rw [L35_0_eq]; unfold T35_0; exact le_c (le_g (le_g (le_b (N85_le _ _) fun _ => le_c (le_r _) (ih _ _ _ _)))) (le_r _)
noncomputable def N35 (x0 : List S47) (x1 : Int) : Option (Bool) :=
  bif (decide (x1 < 1)) then
    some false
  else
  bif (decide (x1 > 1024)) then
    some false
  else
  bif ((x0.length : Int) == 0) then
    some false
  else
  bif (decide ((x0.length : Int) > 64)) then
    some false
  else
  (P35 100000).l0 x1 x0 (x0.length : Int) 0
theorem N35_le (x0 : List S47) (x1 : Int) : Le (N35 x0 x1) (F35 x0 x1) := by rw [F35_eq]; unfold N35; exact le_c (le_r _) (le_c (le_r _) (le_c (le_r _) (le_c (le_r _) ((P35_le 100000) _ _ _ _))))
noncomputable def N61 (x0 : S43) (x1 : Int) : Option (Bool) :=
  bif (decide ((x0.f1.length : Int) > 0)) then
    bif ((x0.f0.length : Int) == 0) then
      (N35 x0.f1 x1).bind fun y1 =>
      some y1
    else
    some false
  else
  (N28 x0.f0).bind fun y2 =>
  some y2
theorem N61_le (x0 : S43) (x1 : Int) : Le (N61 x0 x1) (F61 x0 x1) := by rw [F61_eq]; unfold N61; exact le_c (le_c (le_b (N35_le _ _) fun _ => le_r _) (le_r _)) (le_b (N28_le _) fun _ => le_r _)
noncomputable def N60 (x0 : S43) (x1 : List S43) : Option (Bool × List S43) :=
  (N61 x0 (x1.length : Int)).bind fun y1 =>
  some ((!y1), x1)
theorem N60_le (x0 : S43) (x1 : List S43) : Le (N60 x0 x1) (F60 x0 x1) := by rw [F60_eq]; unfold N60; exact le_b (N61_le _ _) fun _ => le_r _
structure Q115060 where
  l0 : List S43 → Int → Int → List S43 → Option (Int × List S43)
noncomputable def T115060_0 (q : Q115060) (x0 : List S43) (x1 : Int) (x2 : Int) (x3 : List S43) : Option (Int × List S43) :=
  bif (decide (x2 < x1)) then
    grd (decide (0 ≤ x2)) <|
    grd (decide (x2 < (x0.length : Int))) <|
    (N60 (x0.getD (Int.toNat x2) z2) x3).bind fun y1 =>
    bif y1.1 then
      some (x2, y1.2)
    else
    q.l0 x0 x1 (wr .i64 (x2 + 1)) y1.2
  else
  some ((-1), x3)
noncomputable def P115060 (n : Nat) : Q115060 := Nat.rec ⟨fun _ _ _ _ => none⟩ (fun _ q => ⟨T115060_0 q⟩) n
theorem P115060_le : ∀ n, (∀ x0 x1 x2 x3, Le ((P115060 n).l0 x0 x1 x2 x3) (L115060_0 x0 x1 x2 x3)) := fun n => by
  induction n with
  | zero => exact fun x0 x1 x2 x3 => le_n _
  | succ n ih => exact fun x0 x1 x2 x3 => by show Le (T115060_0 (P115060 n) x0 x1 x2 x3) _; rw [L115060_0_eq]; unfold T115060_0; exact le_c (le_g (le_g (le_b (N60_le _ _) fun _ => le_c (le_r _) (ih _ _ _ _)))) (le_r _)
noncomputable def N115060 (x0 : List S43) (x1 : Unit) (x2 : List S43) : Option (Int × List S43) :=
  (P115060 100000).l0 x0 (x0.length : Int) 0 x2
theorem N115060_le (x0 : List S43) (x1 : Unit) (x2 : List S43) : Le (N115060 x0 x1 x2) (F115060 x0 x1 x2) := by rw [F115060_eq]; unfold N115060; exact (P115060_le 100000) _ _ _ _
noncomputable def N59060 (x0 : List S43) (x1 : Unit) (x2 : List S43) : Option (Bool × List S43) :=
  (N115060 x0 () x2).bind fun y1 =>
  some ((decide (y1.1 ≥ 0)), y1.2)
theorem N59060_le (x0 : List S43) (x1 : Unit) (x2 : List S43) : Le (N59060 x0 x1 x2) (F59060 x0 x1 x2) := by rw [F59060_eq]; unfold N59060; exact le_b (N115060_le _ _ _) fun _ => le_r _
noncomputable def N22 (x0 : List S43) : Option (Bool) :=
  bif (decide ((x0.length : Int) > 0)) then
    bif (decide ((x0.length : Int) ≤ 1024)) then
      (N59060 x0 () x0).bind fun y1 =>
      some (!y1.1)
    else
    some false
  else
  some false
theorem N22_le (x0 : List S43) : Le (N22 x0) (F22 x0) := by rw [F22_eq]; unfold N22; exact le_c (le_c (le_b (N59060_le _ _ _) fun _ => le_r _) (le_r _)) (le_r _)
noncomputable def N55 (x0 : List S43) (x1 : Int) : Option (Bool) :=
  (N22 x0).bind fun y1 =>
  bif y1 then
    bif (decide (x1 ≥ 0)) then
      some (decide (x1 < (x0.length : Int)))
    else
    some false
  else
  some false
theorem N55_le (x0 : List S43) (x1 : Int) : Le (N55 x0 x1) (F55 x0 x1) := by rw [F55_eq]; unfold N55; exact le_b (N22_le _) fun _ => le_r _
structure Q162 where
  l0 : List Int → Int → Int → Int → Option (Int)
noncomputable def T162_0 (q : Q162) (x0 : List Int) (x1 : Int) (x2 : Int) (x3 : Int) : Option (Int) :=
  bif (decide (x3 < x2)) then
    grd (decide (0 ≤ x3)) <|
    grd (decide (x3 < (x0.length : Int))) <|
    bif (x1 == (x0.getD (Int.toNat x3) 0)) then
      some x3
    else
    q.l0 x0 x1 x2 (wr .i64 (x3 + 1))
  else
  some (-1)
noncomputable def P162 (n : Nat) : Q162 := Nat.rec ⟨fun _ _ _ _ => none⟩ (fun _ q => ⟨T162_0 q⟩) n
theorem P162_le : ∀ n, (∀ x0 x1 x2 x3, Le ((P162 n).l0 x0 x1 x2 x3) (L162_0 x0 x1 x2 x3)) := fun n => by
  induction n with
  | zero => exact fun x0 x1 x2 x3 => le_n _
  | succ n ih => exact fun x0 x1 x2 x3 => by show Le (T162_0 (P162 n) x0 x1 x2 x3) _; rw [L162_0_eq]; unfold T162_0; exact le_c (le_g (le_g (le_c (le_r _) (ih _ _ _ _)))) (le_r _)
noncomputable def N162 (x0 : List Int) (x1 : Int) : Option (Int) :=
  (P162 100000).l0 x0 x1 (x0.length : Int) 0
theorem N162_le (x0 : List Int) (x1 : Int) : Le (N162 x0 x1) (F162 x0 x1) := by rw [F162_eq]; unfold N162; exact (P162_le 100000) _ _ _ _
noncomputable def N149 (x0 : List Int) (x1 : Int) : Option (Bool) :=
  (N162 x0 x1).bind fun y1 =>
  some (decide (y1 ≥ 0))
theorem N149_le (x0 : List Int) (x1 : Int) : Le (N149 x0 x1) (F149 x0 x1) := by rw [F149_eq]; unfold N149; exact le_b (N162_le _ _) fun _ => le_r _
noncomputable def N110 (x0 : S99) (x1 : S47) : Option (Int × S99) :=
  (N149 x0.f1 x1.f0).bind fun y1 =>
  bif y1 then
    some (9, x0)
  else
  bif (decide ((x0.f1.length : Int) > 8)) then
    some (8, x0)
  else
  bif (x0.f2 == 4096) then
    some (6, x0)
  else
  some (0, (S99.mk x0.f0 x0.f1 (wr .i64 (x0.f2 + 1)) (mxE x0.f3 (x0.f1.length : Int)) x0.f4))
theorem N110_le (x0 : S99) (x1 : S47) : Le (N110 x0 x1) (F110 x0 x1) := by rw [F110_eq]; unfold N110; exact le_b (N149_le _ _) fun _ => le_r _
noncomputable def N90 (x0 : Int) : Option (Bool) :=
  bif (decide (x0 > 32767)) then
    some true
  else
  some (decide (x0 < (-32767)))
theorem N90_le (x0 : Int) : Le (N90 x0) (F90 x0) := by rw [F90_eq]; unfold N90; exact le_r _
noncomputable def N91 (x0 : Int) : Option (Int) :=
  some (shrE Go.IntKind.i64 (wr .i64 (x0 + 8192)) (14 : Int))
theorem N91_le (x0 : Int) : Le (N91 x0) (F91 x0) := by rw [F91_eq]; unfold N91; exact le_r _
noncomputable def N92 (x0 : Int) : Option (Bool) :=
  some (decide ((mxE x0 (wr .i64 (0 - x0))) ≤ 32767))
theorem N92_le (x0 : Int) : Le (N92 x0) (F92 x0) := by rw [F92_eq]; unfold N92; exact le_r _
structure Q42 where
  l0 : Int → Int → S47 → Option (Int × Int × Int)
noncomputable def T42_0 (q : Q42) (x0 : Int) (x1 : Int) (x2 : S47) : Option (Int × Int × Int) :=
  (N91 (wr .i64 ((wr .i64 (x2.f3 * x0)) + (wr .i64 (x2.f5 * x1))))).bind fun y1 =>
  (N91 (wr .i64 ((wr .i64 (x2.f4 * x0)) + (wr .i64 (x2.f6 * x1))))).bind fun y2 =>
  (N92 (wr .i64 (y1 + x2.f1))).bind fun y3 =>
  bif (!y3) then
    some (0, (0, 2))
  else
  (N92 (wr .i64 (y2 + x2.f2))).bind fun y4 =>
  bif (!y4) then
    some (0, (0, 2))
  else
  some ((wr .i64 (y1 + x2.f1)), ((wr .i64 (y2 + x2.f2)), 0))
noncomputable def P42 (n : Nat) : Q42 := Nat.rec ⟨fun _ _ _ => none⟩ (fun _ q => ⟨T42_0 q⟩) n
theorem P42_le : ∀ n, (∀ x0 x1 x2, Le ((P42 n).l0 x0 x1 x2) (L42_0 x0 x1 x2)) := fun n => by
  induction n with
  | zero => exact fun x0 x1 x2 => le_n _
  | succ n ih => exact fun x0 x1 x2 => by show Le (T42_0 (P42 n) x0 x1 x2) _; rw [L42_0_eq]; unfold T42_0; exact le_b (N91_le _) fun _ => le_b (N91_le _) fun _ => le_b (N92_le _) fun _ => le_c (le_r _) (le_b (N92_le _) fun _ => le_r _)
noncomputable def N42 (x0 : S47) (x1 : Int) (x2 : Int) : Option (Int × Int × Int) :=
  (N85 x0 1024).bind fun y1 =>
  bif (!y1) then
    some (0, (0, 1))
  else
  (N90 x1).bind fun y2 =>
  bif y2 then
    some (0, (0, 1))
  else
  (N90 x2).bind fun y3 =>
  bif y3 then
    some (0, (0, 1))
  else
  (P42 100000).l0 x1 x2 x0
theorem N42_le (x0 : S47) (x1 : Int) (x2 : Int) : Le (N42 x0 x1 x2) (F42 x0 x1 x2) := by rw [F42_eq]; unfold N42; exact le_b (N85_le _ _) fun _ => le_c (le_r _) (le_b (N90_le _) fun _ => le_c (le_r _) (le_b (N90_le _) fun _ => le_c (le_r _) ((P42_le 100000) _ _ _)))
structure Q111 where
  l0 : S180 → S47 → List (List S39) → Int → Int → Option (Int × S180)
  l1 : S180 → S47 → List S39 → List (List S39) → Int → Int → List S39 → Int → Int → Option (Int × S180)
noncomputable def T111_0 (q : Q111) (x0 : S180) (x1 : S47) (x2 : List (List S39)) (x3 : Int) (x4 : Int) : Option (Int × S180) :=
  bif (decide (x4 < x3)) then
    grd (decide (0 ≤ x4)) <|
    grd (decide (x4 < (x2.length : Int))) <|
    grd (decide (((x2.getD (Int.toNat x4) []).length : Int) ≤ ((x2.getD (Int.toNat x4) []).length : Int))) <|
    grd (fitM (Int.toNat ((x2.getD (Int.toNat x4) []).length : Int)) 24) <|
    q.l1 x0 x1 (List.replicate (Int.toNat ((x2.getD (Int.toNat x4) []).length : Int)) (S39.mk 0 0 false)) x2 x3 x4 (x2.getD (Int.toNat x4) []) ((x2.getD (Int.toNat x4) []).length : Int) 0
  else
  bif (decide ((x0.f0.length : Int) > 256)) then
    some (6, x0)
  else
  bif (decide (x0.f1 > 4096)) then
    some (6, x0)
  else
  some (0, x0)
noncomputable def T111_1 (q : Q111) (x0 : S180) (x1 : S47) (x2 : List S39) (x3 : List (List S39)) (x4 : Int) (x5 : Int) (x6 : List S39) (x7 : Int) (x8 : Int) : Option (Int × S180) :=
  bif (decide (x8 < x7)) then
    grd (decide (0 ≤ x8)) <|
    grd (decide (x8 < (x6.length : Int))) <|
    (N42 x1 (x6.getD (Int.toNat x8) z0).f0 (x6.getD (Int.toNat x8) z0).f1).bind fun y1 =>
    bif (y1.2.2 != 0) then
      some (2, x0)
    else
    grd (decide (0 ≤ x8)) <|
    grd (decide (x8 < (x2.length : Int))) <|
    q.l1 x0 x1 (List.set x2 (Int.toNat x8) (S39.mk y1.1 y1.2.1 (x6.getD (Int.toNat x8) z0).f2)) x3 x4 x5 x6 x7 (wr .i64 (x8 + 1))
  else
  grd (fit (x0.f0.length + [x2].length) 24) <|
  q.l0 (S180.mk (x0.f0 ++ [x2]) (wr .i64 (x0.f1 + (x2.length : Int)))) x1 x3 x4 (wr .i64 (x5 + 1))
noncomputable def P111 (n : Nat) : Q111 := Nat.rec ⟨fun _ _ _ _ _ => none, fun _ _ _ _ _ _ _ _ _ => none⟩ (fun _ q => ⟨T111_0 q, T111_1 q⟩) n
theorem P111_le : ∀ n, (∀ x0 x1 x2 x3 x4, Le ((P111 n).l0 x0 x1 x2 x3 x4) (L111_0 x0 x1 x2 x3 x4)) ∧ (∀ x0 x1 x2 x3 x4 x5 x6 x7 x8, Le ((P111 n).l1 x0 x1 x2 x3 x4 x5 x6 x7 x8) (L111_1 x0 x1 x2 x3 x4 x5 x6 x7 x8)) := fun n => by
  induction n with
  | zero => exact ⟨fun x0 x1 x2 x3 x4 => le_n _, fun x0 x1 x2 x3 x4 x5 x6 x7 x8 => le_n _⟩
  | succ n ih => exact ⟨fun x0 x1 x2 x3 x4 => by show Le (T111_0 (P111 n) x0 x1 x2 x3 x4) _; rw [L111_0_eq]; unfold T111_0; exact le_c (le_g (le_g (le_g (le_g (ih.2 _ _ _ _ _ _ _ _ _))))) (le_r _),
    fun x0 x1 x2 x3 x4 x5 x6 x7 x8 => by show Le (T111_1 (P111 n) x0 x1 x2 x3 x4 x5 x6 x7 x8) _; rw [L111_1_eq]; unfold T111_1; exact le_c (le_g (le_g (le_b (N42_le _ _ _) fun _ => le_c (le_r _) (le_g (le_g (ih.2 _ _ _ _ _ _ _ _ _)))))) (le_g (ih.1 _ _ _ _ _))⟩
noncomputable def N111 (x0 : S180) (x1 : S47) (x2 : List (List S39)) : Option (Int × S180) :=
  (P111 100000).l0 x0 x1 x2 (x2.length : Int) 0
theorem N111_le (x0 : S180) (x1 : S47) (x2 : List (List S39)) : Le (N111 x0 x1 x2) (F111 x0 x1 x2) := by rw [F111_eq]; unfold N111; exact (P111_le 100000).1 _ _ _ _ _
structure Q56 where
  l0 : S99 → S180 → List S47 → Int → Int → Option (List (List S39) × Int × S99)
  l1 : S99 → S180 → Int → List S47 → Int → Int → Option (List (List S39) × Int × S99)
  l2 : S99 → S180 → S47 → List (List S39) → List S47 → Int → Int → Option (List (List S39) × Int × S99)
noncomputable def T56_0 (g : S99 → Int → Option (List (List S39) × Int × S99)) (q : Q56) (x0 : S99) (x1 : S180) (x2 : List S47) (x3 : Int) (x4 : Int) : Option (List (List S39) × Int × S99) :=
  bif (decide (x4 < x3)) then
    grd (decide (0 ≤ x4)) <|
    grd (decide (x4 < (x2.length : Int))) <|
    (N110 x0 (x2.getD (Int.toNat x4) z1)).bind fun y1 =>
    bif (y1.1 != 0) then
      some ([], (Prod.mk y1.1 y1.2))
    else
    (g y1.2 (x2.getD (Int.toNat x4) z1).f0).bind fun y2 =>
    bif (y2.2.1 == 0) then
      bif y2.2.2.f4 then
        q.l2 y2.2.2 x1 (x2.getD (Int.toNat x4) z1) y2.1 x2 x3 x4
      else
      q.l1 y2.2.2 x1 y2.2.1 x2 x3 x4
    else
    q.l1 y2.2.2 x1 y2.2.1 x2 x3 x4
  else
  grd (decide (0 ≤ (wr .i64 ((x0.f1.length : Int) - 1)))) <|
  grd (decide ((wr .i64 ((x0.f1.length : Int) - 1)) ≤ (x0.f1.length : Int))) <|
  some (x1.f0, (0, (S99.mk x0.f0 (List.take (Int.toNat (wr .i64 ((x0.f1.length : Int) - 1))) (List.drop 0 x0.f1)) x0.f2 x0.f3 x0.f4)))
noncomputable def T56_1 (g : S99 → Int → Option (List (List S39) × Int × S99)) (q : Q56) (x0 : S99) (x1 : S180) (x2 : Int) (x3 : List S47) (x4 : Int) (x5 : Int) : Option (List (List S39) × Int × S99) :=
  bif (x2 != 0) then
    some ([], (x2, x0))
  else
  q.l0 x0 x1 x3 x4 (wr .i64 (x5 + 1))
noncomputable def T56_2 (g : S99 → Int → Option (List (List S39) × Int × S99)) (q : Q56) (x0 : S99) (x1 : S180) (x2 : S47) (x3 : List (List S39)) (x4 : List S47) (x5 : Int) (x6 : Int) : Option (List (List S39) × Int × S99) :=
  (N111 x1 x2 x3).bind fun y1 =>
  q.l1 x0 y1.2 y1.1 x4 x5 x6
noncomputable def P56 (g : S99 → Int → Option (List (List S39) × Int × S99)) (n : Nat) : Q56 := Nat.rec ⟨fun _ _ _ _ _ => none, fun _ _ _ _ _ _ => none, fun _ _ _ _ _ _ _ => none⟩ (fun _ q => ⟨T56_0 g q, T56_1 g q, T56_2 g q⟩) n
noncomputable def U56 (g : S99 → Int → Option (List (List S39) × Int × S99)) (x0 : S99) (x1 : Int) : Option (List (List S39) × Int × S99) :=
  grd (decide (0 ≤ x1)) <|
  grd (decide (x1 < (x0.f0.length : Int))) <|
  bif (((x0.f0.getD (Int.toNat x1) z2).f1.length : Int) == 0) then
    some ((x0.f0.getD (Int.toNat x1) z2).f0, (0, x0))
  else
  grd (fit (x0.f1.length + [x1].length) 8) <|
  (P56 g 100000).l0 (S99.mk x0.f0 (x0.f1 ++ [x1]) x0.f2 x0.f3 x0.f4) (S180.mk [] 0) (x0.f0.getD (Int.toNat x1) z2).f1 ((x0.f0.getD (Int.toNat x1) z2).f1.length : Int) 0
noncomputable def M56 (n : Nat) : S99 → Int → Option (List (List S39) × Int × S99) := Nat.rec (fun _ _ => none) (fun _ g => U56 g) n
theorem P56_le (n : Nat) (g : S99 → Int → Option (List (List S39) × Int × S99)) (hg : ∀ x0 x1, Le (g x0 x1) (F56r (Gn D fd56 h56 n) x0 x1)) : ∀ m, (∀ x0 x1 x2 x3 x4, Le ((P56 g m).l0 x0 x1 x2 x3 x4) (L56_0 (Gn D fd56 h56 n) x0 x1 x2 x3 x4)) ∧ (∀ x0 x1 x2 x3 x4 x5, Le ((P56 g m).l1 x0 x1 x2 x3 x4 x5) (L56_1 (Gn D fd56 h56 n) x0 x1 x2 x3 x4 x5)) ∧ (∀ x0 x1 x2 x3 x4 x5 x6, Le ((P56 g m).l2 x0 x1 x2 x3 x4 x5 x6) (L56_2 (Gn D fd56 h56 n) x0 x1 x2 x3 x4 x5 x6)) := fun m => by
  induction m with
  | zero => exact ⟨fun x0 x1 x2 x3 x4 => le_n _, fun x0 x1 x2 x3 x4 x5 => le_n _, fun x0 x1 x2 x3 x4 x5 x6 => le_n _⟩
  | succ m ih => exact ⟨fun x0 x1 x2 x3 x4 => by show Le (T56_0 g (P56 g m) x0 x1 x2 x3 x4) _; exact le_e (L56_0_eq (Gn D fd56 h56 n) x0 x1 x2 x3 x4) (by unfold T56_0; exact le_c (le_g (le_g (le_b (N110_le _ _) fun _ => le_c (le_r _) (le_b (hg _ _) fun _ => le_c (le_c (ih.2.2 _ _ _ _ _ _ _) (ih.2.1 _ _ _ _ _ _)) (ih.2.1 _ _ _ _ _ _))))) (le_r _)),
    fun x0 x1 x2 x3 x4 x5 => by show Le (T56_1 g (P56 g m) x0 x1 x2 x3 x4 x5) _; exact le_e (L56_1_eq (Gn D fd56 h56 n) x0 x1 x2 x3 x4 x5) (by unfold T56_1; exact le_c (le_r _) (ih.1 _ _ _ _ _)),
    fun x0 x1 x2 x3 x4 x5 x6 => by show Le (T56_2 g (P56 g m) x0 x1 x2 x3 x4 x5 x6) _; exact le_e (L56_2_eq (Gn D fd56 h56 n) x0 x1 x2 x3 x4 x5 x6) (by unfold T56_2; exact le_b (N111_le _ _ _) fun _ => ih.2.1 _ _ _ _ _ _)⟩
theorem U56_le (n : Nat) (g : S99 → Int → Option (List (List S39) × Int × S99)) (hg : ∀ x0 x1, Le (g x0 x1) (F56r (Gn D fd56 h56 n) x0 x1)) (x0 : S99) (x1 : Int) : Le (U56 g x0 x1) (F56g (Gn D fd56 h56 n) x0 x1) := le_e (F56_eq (Gn D fd56 h56 n) x0 x1) (by unfold U56; exact le_g (le_g (le_c (le_r _) (le_g ((P56_le n g hg 100000).1 _ _ _ _ _)))))
theorem M56_le : ∀ (n : Nat) (x0 : S99) (x1 : Int), Le (M56 n x0 x1) (F56r (Gn D fd56 h56 n) x0 x1) := fun n => by
  induction n with
  | zero => intro x0 x1; exact le_n _
  | succ n ih => intro x0 x1; exact le_e (F56_n n x0 x1) (U56_le n (M56 n) ih x0 x1)
noncomputable def N56 : S99 → Int → Option (List (List S39) × Int × S99) := M56 1000
theorem N56_le (x0 : S99) (x1 : Int) : Le (N56 x0 x1) (F56 x0 x1) := fun y h => F56_of 1000 x0 x1 y (M56_le 1000 x0 x1 y h)
def N112 (x0 : List S39) : Option (List S39) := grd (fit (0 + x0.length) 24) (some x0)
theorem N112_le (x0 : List S39) : Le (N112 x0) (F112 x0) := le_e (F112_eq x0) (le_r _)
structure Q57 where
  l0 : List (List S39) → List (List S39) → Int → Int → Option (List (List S39))
noncomputable def T57_0 (q : Q57) (x0 : List (List S39)) (x1 : List (List S39)) (x2 : Int) (x3 : Int) : Option (List (List S39)) :=
  bif (decide (x3 < x2)) then
    grd (decide (0 ≤ x3)) <|
    grd (decide (x3 < (x1.length : Int))) <|
    (N112 (x1.getD (Int.toNat x3) [])).bind fun y1 =>
    grd (fit (x0.length + [y1].length) 24) <|
    q.l0 (x0 ++ [y1]) x1 x2 (wr .i64 (x3 + 1))
  else
  some x0
noncomputable def P57 (n : Nat) : Q57 := Nat.rec ⟨fun _ _ _ _ => none⟩ (fun _ q => ⟨T57_0 q⟩) n
theorem P57_le : ∀ n, (∀ x0 x1 x2 x3, Le ((P57 n).l0 x0 x1 x2 x3) (L57_0 x0 x1 x2 x3)) := fun n => by
  induction n with
  | zero => exact fun x0 x1 x2 x3 => le_n _
  | succ n ih => exact fun x0 x1 x2 x3 => by show Le (T57_0 (P57 n) x0 x1 x2 x3) _; rw [L57_0_eq]; unfold T57_0; exact le_c (le_g (le_g (le_b (N112_le _) fun _ => le_g (ih _ _ _ _)))) (le_r _)
noncomputable def N57 (x0 : List (List S39)) : Option (List (List S39)) :=
  (P57 100000).l0 [] x0 (x0.length : Int) 0
theorem N57_le (x0 : List (List S39)) : Le (N57 x0) (F57 x0) := by rw [F57_eq]; unfold N57; exact (P57_le 100000) _ _ _ _
noncomputable def N17 (x0 : List S43) (x1 : Int) : Option (List (List S39) × Int) :=
  (N55 x0 x1).bind fun y1 =>
  bif (!y1) then
    some ([], 1)
  else
  (N56 (S99.mk x0 [] 0 0 true) x1).bind fun y2 =>
  bif (y2.2.1 != 0) then
    some ([], y2.2.1)
  else
  (N57 y2.1).bind fun y3 =>
  some (y3, 0)
theorem N17_le (x0 : List S43) (x1 : Int) : Le (N17 x0 x1) (F17 x0 x1) := by rw [F17_eq]; unfold N17; exact le_b (N55_le _ _) fun _ => le_c (le_r _) (le_b (N56_le _ _) fun _ => le_c (le_r _) (le_b (N57_le _) fun _ => le_r _))
noncomputable def N19 (x0 : List S43) (x1 : Int) : Option (Int × Int) :=
  (N55 x0 x1).bind fun y1 =>
  bif (!y1) then
    some (0, 1)
  else
  (N56 (S99.mk x0 [] 0 0 false) x1).bind fun y2 =>
  bif (y2.2.1 != 0) then
    some (0, y2.2.1)
  else
  some (y2.2.2.f3, 0)
theorem N19_le (x0 : List S43) (x1 : Int) : Le (N19 x0 x1) (F19 x0 x1) := by rw [F19_eq]; unfold N19; exact le_b (N55_le _ _) fun _ => le_c (le_r _) (le_b (N56_le _ _) fun _ => le_r _)
noncomputable def N15 : Option (Bool) :=
  (N17 [(S43.mk [[(S39.mk 1 2 true)]] []), (S43.mk [] [(S47.mk 0 5 0 16384 0 0 16384)])] 1).bind fun y1 =>
  (N19 [(S43.mk [[(S39.mk 1 2 true)]] []), (S43.mk [] [(S47.mk 0 5 0 16384 0 0 16384)])] 1).bind fun y2 =>
  (N17 [(S43.mk [[(S39.mk 1 2 true)]] []), (S43.mk [] [(S47.mk 0 5 0 16384 0 0 16384)])] 2).bind fun y3 =>
  bif (y1.2 == 0) then
    bif ((y1.1.length : Int) == 1) then
      grd (decide (0 < (y1.1.length : Int))) <|
      bif (((y1.1.getD 0 []).length : Int) == 1) then
        grd (decide (0 < (y1.1.length : Int))) <|
        grd (decide (0 < ((y1.1.getD 0 []).length : Int))) <|
        bif ((((y1.1.getD 0 []).getD 0 z0).f0 == 6) && ((((y1.1.getD 0 []).getD 0 z0).f1 == 2) && (((y1.1.getD 0 []).getD 0 z0).f2 == true))) then
          bif (y2.1 == 1) then
            bif (y2.2 == 0) then
              bif (y3.2 == 1) then
                (N22 [(S43.mk [[(S39.mk 1 2 true)]] []), (S43.mk [] [(S47.mk 0 5 0 16384 0 0 16384)])]).bind fun y4 =>
                some y4
              else
              some false
            else
            some false
          else
          some false
        else
        some false
      else
      some false
    else
    some false
  else
  some false
theorem N15_le : Le (N15) (F15) := by rw [F15_eq]; unfold N15; exact le_b (N17_le _ _) fun _ => le_b (N19_le _ _) fun _ => le_b (N17_le _ _) fun _ => le_c (le_c (le_g (le_c (le_g (le_g (le_c (le_c (le_c (le_c (le_b (N22_le _) fun _ => le_r _) (le_r _)) (le_r _)) (le_r _)) (le_r _)))) (le_r _))) (le_r _)) (le_r _)
end Go.Proofs.Ytalghbndblgndaa.Ev
