/- Printed by a program of this claim: the functions once more, as plain functions with fuel, which the kernel runs. -/
import Derived.Test.YtidiifdiilahdaaGreatDoorEvG
namespace Go.Proofs.YtidiifdiilahdaaGreatDoor.Ev
open Go
set_option linter.unusedVariables false
def Le {α : Type} (a b : Option α) : Prop := ∀ y, a = some y → b = some y
theorem le_r {α : Type} (a : Option α) : Le a a := fun _ h => h
theorem le_n {α : Type} (a : Option α) : Le none a := fun _ h => by cases h
theorem le_b {α β : Type} {a a' : Option α} {f f' : α → Option β} (h : Le a a') (k : ∀ x, Le (f x) (f' x)) : Le (a.bind f) (a'.bind f') := fun y q => by
  cases ha : a with
  | none => rw [ha] at q; cases q
  | some x => rw [h x ha]; rw [ha] at q; exact k x y q
theorem le_c {α : Type} {c : Bool} {a a' b b' : Option α} (h : Le a a') (k : Le b b') : Le (cond c a b) (cond c a' b') := by cases c; exact k; exact h
theorem le_g {α : Type} {c : Bool} {a a' : Option α} (h : Le a a') : Le (grd c a) (grd c a') := by cases c; exact le_n _; exact h
theorem le_e {α : Type} {a b b' : Option α} (e : b = b') (h : Le a b') : Le a b := e ▸ h
structure Q96 where
  l0 : List Int → Int → Option (List Int)
noncomputable def T96 (q : Q96) : Q96 := ⟨fun x0 x1 =>
    bif (decide (x1 > 0)) then
      grd (decide (0 ≤ (wr .i64 (x1 - 1)))) <|
      grd (decide ((wr .i64 (x1 - 1)) < (x0.length : Int))) <|
      bif ((x0.getD (Int.toNat (wr .i64 (x1 - 1))) 0) == 0) then
        q.l0 x0 (wr .i64 (x1 - 1))
      else
      grd (decide (0 ≤ x1)) <|
      grd (decide (x1 ≤ (x0.length : Int))) <|
      some (List.take (Int.toNat x1) x0)
    else
    grd (decide (0 ≤ x1)) <|
    grd (decide (x1 ≤ (x0.length : Int))) <|
    some (List.take (Int.toNat x1) x0)⟩
noncomputable def P96 (n : Nat) : Q96 := Nat.rec ⟨fun _ _ => none⟩ (fun _ q => T96 q) n
theorem P96_le : ∀ n, (∀ x0 x1, Le ((P96 n).l0 x0 x1) (L96_0 x0 x1)) := fun n => by
  induction n with
  | zero => exact fun x0 x1 => le_n _
  | succ n ih => exact fun x0 x1 => le_e (L96_0_eq x0 x1) (le_c (le_g (le_g (le_c (ih _ _) (le_r _)))) (le_r _))
noncomputable def N96 (x0 : List Int) : Option (List Int) :=
  (P96 100000).l0 x0 (x0.length : Int)
theorem N96_le (x0 : List Int) : Le (N96 x0) (F96 x0) := le_e (F96_eq x0) ((P96_le 100000) _ _)
noncomputable def N66 (x0 : S60) : Option (Int) :=
  (N96 x0.f1).bind fun y1 =>
  bif ((y1.length : Int) == 0) then
    some 0
  else
  bif x0.f0 then
    some (-1)
  else
  some 1
theorem N66_le (x0 : S60) : Le (N66 x0) (F66 x0) := le_e (F66_eq x0) (le_b (N96_le _) fun _ => le_r _)
structure Q52 where
  l0 : List S60 → Int → Option (List S60)
noncomputable def T52 (q : Q52) : Q52 := ⟨fun x0 x1 =>
    bif (decide (x1 > 0)) then
      grd (decide (0 ≤ (wr .i64 (x1 - 1)))) <|
      grd (decide ((wr .i64 (x1 - 1)) < (x0.length : Int))) <|
      (N66 (x0.getD (Int.toNat (wr .i64 (x1 - 1))) z0)).bind fun y1 =>
      bif (y1 == 0) then
        q.l0 x0 (wr .i64 (x1 - 1))
      else
      grd (decide (0 ≤ x1)) <|
      grd (decide (x1 ≤ (x0.length : Int))) <|
      some (List.take (Int.toNat x1) x0)
    else
    grd (decide (0 ≤ x1)) <|
    grd (decide (x1 ≤ (x0.length : Int))) <|
    some (List.take (Int.toNat x1) x0)⟩
noncomputable def P52 (n : Nat) : Q52 := Nat.rec ⟨fun _ _ => none⟩ (fun _ q => T52 q) n
theorem P52_le : ∀ n, (∀ x0 x1, Le ((P52 n).l0 x0 x1) (L52_0 x0 x1)) := fun n => by
  induction n with
  | zero => exact fun x0 x1 => le_n _
  | succ n ih => exact fun x0 x1 => le_e (L52_0_eq x0 x1) (le_c (le_g (le_g (le_b (N66_le _) fun _ => le_c (ih _ _) (le_r _)))) (le_r _))
noncomputable def N52 (x0 : List S60) : Option (List S60) :=
  (P52 100000).l0 x0 (x0.length : Int)
theorem N52_le (x0 : List S60) : Le (N52 x0) (F52 x0) := le_e (F52_eq x0) ((P52_le 100000) _ _)
noncomputable def N95 (x0 : Bool) (x1 : List Int) : Option (S60) :=
  (N96 x1).bind fun y1 =>
  bif ((y1.length : Int) == 0) then
    some (S60.mk false [])
  else
  some (S60.mk x0 y1)
theorem N95_le (x0 : Bool) (x1 : List Int) : Le (N95 x0 x1) (F95 x0 x1) := le_e (F95_eq x0 x1) (le_b (N96_le _) fun _ => le_r _)
noncomputable def N116 (x0 : List Int) (x1 : Int) : Option (Int) :=
  bif (decide (x1 < (x0.length : Int))) then
    grd (decide (0 ≤ x1)) <|
    grd (decide (x1 < (x0.length : Int))) <|
    some (wr .u64 (x0.getD (Int.toNat x1) 0))
  else
  some 0
theorem N116_le (x0 : List Int) (x1 : Int) : Le (N116 x0 x1) (F116 x0 x1) := le_e (F116_eq x0 x1) (le_r _)
structure Q97 where
  l0 : List Int → List Int → List Int → Int → Int → Int → Option (List Int)
noncomputable def T97 (q : Q97) : Q97 := ⟨fun x0 x1 x2 x3 x4 x5 =>
    bif (decide (x5 < x4)) then
      (N116 x0 x5).bind fun y1 =>
      (N116 x1 x5).bind fun y2 =>
      grd (decide (0 ≤ x5)) <|
      grd (decide (x5 < (x2.length : Int))) <|
      q.l0 x0 x1 (List.set x2 (Int.toNat x5) (wr .u32 (wr .u64 ((wr .u64 (y1 + y2)) + x3)))) (shrE Go.IntKind.u64 (wr .u64 ((wr .u64 (y1 + y2)) + x3)) (32 : Int)) x4 (wr .i64 (x5 + 1))
    else
    grd (fit (x2.length + [(wr .u32 x3)].length) 4) <|
    some (x2 ++ [(wr .u32 x3)])⟩
noncomputable def P97 (n : Nat) : Q97 := Nat.rec ⟨fun _ _ _ _ _ _ => none⟩ (fun _ q => T97 q) n
theorem P97_le : ∀ n, (∀ x0 x1 x2 x3 x4 x5, Le ((P97 n).l0 x0 x1 x2 x3 x4 x5) (L97_0 x0 x1 x2 x3 x4 x5)) := fun n => by
  induction n with
  | zero => exact fun x0 x1 x2 x3 x4 x5 => le_n _
  | succ n ih => exact fun x0 x1 x2 x3 x4 x5 => le_e (L97_0_eq x0 x1 x2 x3 x4 x5) (le_c (le_b (N116_le _ _) fun _ => le_b (N116_le _ _) fun _ => le_g (le_g (ih _ _ _ _ _ _))) (le_r _))
noncomputable def N97 (x0 : List Int) (x1 : List Int) : Option (List Int) :=
  grd (decide (0 ≤ (mxE (x0.length : Int) (x1.length : Int)))) <|
  grd (decide ((mxE (x0.length : Int) (x1.length : Int)) ≤ (wr .i64 ((mxE (x0.length : Int) (x1.length : Int)) + 1)))) <|
  grd (fitM (Int.toNat (wr .i64 ((mxE (x0.length : Int) (x1.length : Int)) + 1))) 4) <|
  (P97 100000).l0 x0 x1 (List.replicate (Int.toNat (mxE (x0.length : Int) (x1.length : Int))) (0 : Int)) 0 ((List.replicate (Int.toNat (mxE (x0.length : Int) (x1.length : Int))) (0 : Int)).length : Int) 0
theorem N97_le (x0 : List Int) (x1 : List Int) : Le (N97 x0 x1) (F97 x0 x1) := le_e (F97_eq x0 x1) (le_g (le_g (le_g ((P97_le 100000) _ _ _ _ _ _))))
noncomputable def N131 (x0 : Int) : Option (Bool) :=
  some (x0 != x0)
theorem N131_le (x0 : Int) : Le (N131 x0) (F131 x0) := le_e (F131_eq x0) (le_r _)
noncomputable def N117 (x0 : Int) (x1 : Int) : Option (Int) :=
  (N131 x0).bind fun y1 =>
  (N131 x1).bind fun y2 =>
  bif y1 then
    bif y2 then
      some 0
    else
    some (-1)
  else
  bif y2 then
    some 1
  else
  bif (decide (x0 < x1)) then
    some (-1)
  else
  bif (decide (x0 > x1)) then
    some 1
  else
  some 0
theorem N117_le (x0 : Int) (x1 : Int) : Le (N117 x0 x1) (F117 x0 x1) := le_e (F117_eq x0 x1) (le_b (N131_le _) fun _ => le_b (N131_le _) fun _ => le_r _)
noncomputable def N132 (x0 : Int) : Option (Bool) :=
  some (x0 != x0)
theorem N132_le (x0 : Int) : Le (N132 x0) (F132 x0) := le_e (F132_eq x0) (le_r _)
noncomputable def N118 (x0 : Int) (x1 : Int) : Option (Int) :=
  (N132 x0).bind fun y1 =>
  (N132 x1).bind fun y2 =>
  bif y1 then
    bif y2 then
      some 0
    else
    some (-1)
  else
  bif y2 then
    some 1
  else
  bif (decide (x0 < x1)) then
    some (-1)
  else
  bif (decide (x0 > x1)) then
    some 1
  else
  some 0
theorem N118_le (x0 : Int) (x1 : Int) : Le (N118 x0 x1) (F118 x0 x1) := le_e (F118_eq x0 x1) (le_b (N132_le _) fun _ => le_b (N132_le _) fun _ => le_r _)
structure Q98 where
  l0 : List Int → List Int → Int → Option (Int)
noncomputable def T98 (q : Q98) : Q98 := ⟨fun x0 x1 x2 =>
    bif (decide (x2 ≥ 0)) then
      grd (decide (0 ≤ x2)) <|
      grd (decide (x2 < (x0.length : Int))) <|
      grd (decide (0 ≤ x2)) <|
      grd (decide (x2 < (x1.length : Int))) <|
      (N118 (x0.getD (Int.toNat x2) 0) (x1.getD (Int.toNat x2) 0)).bind fun y1 =>
      bif (y1 != 0) then
        some y1
      else
      q.l0 x0 x1 (wr .i64 (x2 - 1))
    else
    some 0⟩
noncomputable def P98 (n : Nat) : Q98 := Nat.rec ⟨fun _ _ _ => none⟩ (fun _ q => T98 q) n
theorem P98_le : ∀ n, (∀ x0 x1 x2, Le ((P98 n).l0 x0 x1 x2) (L98_0 x0 x1 x2)) := fun n => by
  induction n with
  | zero => exact fun x0 x1 x2 => le_n _
  | succ n ih => exact fun x0 x1 x2 => le_e (L98_0_eq x0 x1 x2) (le_c (le_g (le_g (le_g (le_g (le_b (N118_le _ _) fun _ => le_c (le_r _) (ih _ _ _)))))) (le_r _))
noncomputable def N98 (x0 : List Int) (x1 : List Int) : Option (Int) :=
  (N117 (x0.length : Int) (x1.length : Int)).bind fun y1 =>
  bif (y1 != 0) then
    some y1
  else
  (P98 100000).l0 x0 x1 (wr .i64 ((x0.length : Int) - 1))
theorem N98_le (x0 : List Int) (x1 : List Int) : Le (N98 x0 x1) (F98 x0 x1) := le_e (F98_eq x0 x1) (le_b (N117_le _ _) fun _ => le_c (le_r _) ((P98_le 100000) _ _ _))
structure Q99 where
  l0 : List Int → List Int → List Int → Int → Int → Int → Option (List Int)
noncomputable def T99 (q : Q99) : Q99 := ⟨fun x0 x1 x2 x3 x4 x5 =>
    bif (decide (x5 < x4)) then
      grd (decide (0 ≤ x5)) <|
      grd (decide (x5 < (x0.length : Int))) <|
      (N116 x1 x5).bind fun y1 =>
      grd (decide (0 ≤ x5)) <|
      grd (decide (x5 < (x2.length : Int))) <|
      q.l0 x0 x1 (List.set x2 (Int.toNat x5) (wr .u32 (wr .u64 ((wr .u64 ((wr .u64 (x0.getD (Int.toNat x5) 0)) - y1)) - x3)))) (shrE Go.IntKind.u64 (wr .u64 ((wr .u64 ((wr .u64 (x0.getD (Int.toNat x5) 0)) - y1)) - x3)) (63 : Int)) x4 (wr .i64 (x5 + 1))
    else
    some x2⟩
noncomputable def P99 (n : Nat) : Q99 := Nat.rec ⟨fun _ _ _ _ _ _ => none⟩ (fun _ q => T99 q) n
theorem P99_le : ∀ n, (∀ x0 x1 x2 x3 x4 x5, Le ((P99 n).l0 x0 x1 x2 x3 x4 x5) (L99_0 x0 x1 x2 x3 x4 x5)) := fun n => by
  induction n with
  | zero => exact fun x0 x1 x2 x3 x4 x5 => le_n _
  | succ n ih => exact fun x0 x1 x2 x3 x4 x5 => le_e (L99_0_eq x0 x1 x2 x3 x4 x5) (le_c (le_g (le_g (le_b (N116_le _ _) fun _ => le_g (le_g (ih _ _ _ _ _ _))))) (le_r _))
noncomputable def N99 (x0 : List Int) (x1 : List Int) : Option (List Int) :=
  grd (decide ((x0.length : Int) ≤ (x0.length : Int))) <|
  grd (fitM (Int.toNat (x0.length : Int)) 4) <|
  (P99 100000).l0 x0 x1 (List.replicate (Int.toNat (x0.length : Int)) (0 : Int)) 0 (x0.length : Int) 0
theorem N99_le (x0 : List Int) (x1 : List Int) : Le (N99 x0 x1) (F99 x0 x1) := le_e (F99_eq x0 x1) (le_g (le_g ((P99_le 100000) _ _ _ _ _ _)))
noncomputable def N56 (x0 : S60) (x1 : S60) : Option (S60) :=
  (N96 x0.f1).bind fun y1 =>
  (N96 x1.f1).bind fun y2 =>
  bif (x0.f0 == x1.f0) then
    (N97 y1 y2).bind fun y3 =>
    (N95 x0.f0 y3).bind fun y4 =>
    some y4
  else
  (N98 y1 y2).bind fun y5 =>
  bif (decide (y5 ≥ 0)) then
    (N99 y1 y2).bind fun y6 =>
    (N95 x0.f0 y6).bind fun y7 =>
    some y7
  else
  (N99 y2 y1).bind fun y8 =>
  (N95 x1.f0 y8).bind fun y9 =>
  some y9
theorem N56_le (x0 : S60) (x1 : S60) : Le (N56 x0 x1) (F56 x0 x1) := le_e (F56_eq x0 x1) (le_b (N96_le _) fun _ => le_b (N96_le _) fun _ => le_c (le_b (N97_le _ _) fun _ => le_b (N95_le _ _) fun _ => le_r _) (le_b (N98_le _ _) fun _ => le_c (le_b (N99_le _ _) fun _ => le_b (N95_le _ _) fun _ => le_r _) (le_b (N99_le _ _) fun _ => le_b (N95_le _ _) fun _ => le_r _)))
noncomputable def N70 (x0 : List S60) (x1 : Int) : Option (S60) :=
  bif (decide (x1 < 0)) then
    some (S60.mk false [])
  else
  bif (decide (x1 ≥ (x0.length : Int))) then
    some (S60.mk false [])
  else
  grd (decide (0 ≤ x1)) <|
  grd (decide (x1 < (x0.length : Int))) <|
  some (x0.getD (Int.toNat x1) z0)
theorem N70_le (x0 : List S60) (x1 : Int) : Le (N70 x0 x1) (F70 x0 x1) := le_e (F70_eq x0 x1) (le_r _)
structure Q65056 where
  l0 : List S60 → List S60 → List S60 → Int → Int → Option (List S60)
noncomputable def T65056 (q : Q65056) : Q65056 := ⟨fun x0 x1 x2 x3 x4 =>
    bif (decide (x4 < x3)) then
      (N70 x0 x4).bind fun y1 =>
      (N70 x1 x4).bind fun y2 =>
      (N56 y1 y2).bind fun y3 =>
      grd (fit (x2.length + [y3].length) 32) <|
      q.l0 x0 x1 (x2 ++ [y3]) x3 (wr .i64 (x4 + 1))
    else
    (N52 x2).bind fun y4 =>
    some y4⟩
noncomputable def P65056 (n : Nat) : Q65056 := Nat.rec ⟨fun _ _ _ _ _ => none⟩ (fun _ q => T65056 q) n
theorem P65056_le : ∀ n, (∀ x0 x1 x2 x3 x4, Le ((P65056 n).l0 x0 x1 x2 x3 x4) (L65056_0 x0 x1 x2 x3 x4)) := fun n => by
  induction n with
  | zero => exact fun x0 x1 x2 x3 x4 => le_n _
  | succ n ih => exact fun x0 x1 x2 x3 x4 => le_e (L65056_0_eq x0 x1 x2 x3 x4) (le_c (le_b (N70_le _ _) fun _ => le_b (N70_le _ _) fun _ => le_b (N56_le _ _) fun _ => le_g (ih _ _ _ _ _)) (le_b (N52_le _) fun _ => le_r _))
noncomputable def N65056 (x0 : List S60) (x1 : List S60) (x2 : Unit) : Option (List S60) :=
  (P65056 100000).l0 x0 x1 [] (mxE (x0.length : Int) (x1.length : Int)) 0
theorem N65056_le (x0 : List S60) (x1 : List S60) (x2 : Unit) : Le (N65056 x0 x1 x2) (F65056 x0 x1 x2) := le_e (F65056_eq x0 x1 x2) ((P65056_le 100000) _ _ _ _ _)
noncomputable def N29 (x0 : List S60) (x1 : List S60) : Option (List S60) :=
  (N65056 x0 x1 ()).bind fun y1 =>
  some y1
theorem N29_le (x0 : List S60) (x1 : List S60) : Le (N29 x0 x1) (F29 x0 x1) := le_e (F29_eq x0 x1) (le_b (N65056_le _ _ _) fun _ => le_r _)
structure Q51 where
  l0 : Int → S60 → Int → Option (S60)
noncomputable def T51 (q : Q51) : Q51 := ⟨fun x0 x1 x2 =>
    (N95 (decide (x0 < 0)) [(wr .u32 x2), (wr .u32 (shrE Go.IntKind.u64 x2 (32 : Int)))]).bind fun y1 =>
    some y1⟩
noncomputable def P51 (n : Nat) : Q51 := Nat.rec ⟨fun _ _ _ => none⟩ (fun _ q => T51 q) n
theorem P51_le : ∀ n, (∀ x0 x1 x2, Le ((P51 n).l0 x0 x1 x2) (L51_0 x0 x1 x2)) := fun n => by
  induction n with
  | zero => exact fun x0 x1 x2 => le_n _
  | succ n ih => exact fun x0 x1 x2 => le_e (L51_0_eq x0 x1 x2) (le_b (N95_le _ _) fun _ => le_r _)
noncomputable def N51 (x0 : Int) : Option (S60) :=
  bif (decide (x0 < 0)) then
    (P51 100000).l0 x0 (S60.mk false []) (wr .u64 (0 - (wr .u64 x0)))
  else
  (P51 100000).l0 x0 (S60.mk false []) (wr .u64 x0)
theorem N51_le (x0 : Int) : Le (N51 x0) (F51 x0) := le_e (F51_eq x0) (le_c ((P51_le 100000) _ _ _) ((P51_le 100000) _ _ _))
structure Q57 where
  l0 : S60 → S60 → S60 → List Int → List Int → Int → Int → Option (S60)
  l1 : S60 → S60 → S60 → List Int → Int → Int → Int → List Int → Int → Int → List Int → Int → Int → Option (S60)
noncomputable def T57 (q : Q57) : Q57 := ⟨fun x0 x1 x2 x3 x4 x5 x6 =>
    bif (decide (x6 < x5)) then
      grd (decide (0 ≤ x6)) <|
      grd (decide (x6 < (x4.length : Int))) <|
      q.l1 x0 x1 x2 x3 x6 (x4.getD (Int.toNat x6) 0) 0 x4 x5 x6 x1.f1 (x1.f1.length : Int) 0
    else
    (N95 (!(x0.f0 == x1.f0)) x3).bind fun y1 =>
    some y1,
  fun x0 x1 x2 x3 x4 x5 x6 x7 x8 x9 x10 x11 x12 =>
    bif (decide (x12 < x11)) then
      grd (decide (0 ≤ x12)) <|
      grd (decide (x12 < (x10.length : Int))) <|
      grd (decide (0 ≤ (wr .i64 (x4 + x12)))) <|
      grd (decide ((wr .i64 (x4 + x12)) < (x3.length : Int))) <|
      grd (decide (0 ≤ (wr .i64 (x4 + x12)))) <|
      grd (decide ((wr .i64 (x4 + x12)) < (x3.length : Int))) <|
      q.l1 x0 x1 x2 (List.set x3 (Int.toNat (wr .i64 (x4 + x12))) (wr .u32 (wr .u64 ((wr .u64 ((wr .u64 ((wr .u64 x5) * (wr .u64 (x10.getD (Int.toNat x12) 0)))) + (wr .u64 (x3.getD (Int.toNat (wr .i64 (x4 + x12))) 0)))) + x6)))) x4 x5 (shrE Go.IntKind.u64 (wr .u64 ((wr .u64 ((wr .u64 ((wr .u64 x5) * (wr .u64 (x10.getD (Int.toNat x12) 0)))) + (wr .u64 (x3.getD (Int.toNat (wr .i64 (x4 + x12))) 0)))) + x6)) (32 : Int)) x7 x8 x9 x10 x11 (wr .i64 (x12 + 1))
    else
    grd (decide (0 ≤ (wr .i64 (x4 + (x1.f1.length : Int))))) <|
    grd (decide ((wr .i64 (x4 + (x1.f1.length : Int))) < (x3.length : Int))) <|
    q.l0 x0 x1 x2 (List.set x3 (Int.toNat (wr .i64 (x4 + (x1.f1.length : Int)))) (wr .u32 x6)) x7 x8 (wr .i64 (x9 + 1))⟩
noncomputable def P57 (n : Nat) : Q57 := Nat.rec ⟨fun _ _ _ _ _ _ _ => none, fun _ _ _ _ _ _ _ _ _ _ _ _ _ => none⟩ (fun _ q => T57 q) n
theorem P57_le : ∀ n, (∀ x0 x1 x2 x3 x4 x5 x6, Le ((P57 n).l0 x0 x1 x2 x3 x4 x5 x6) (L57_0 x0 x1 x2 x3 x4 x5 x6)) ∧ (∀ x0 x1 x2 x3 x4 x5 x6 x7 x8 x9 x10 x11 x12, Le ((P57 n).l1 x0 x1 x2 x3 x4 x5 x6 x7 x8 x9 x10 x11 x12) (L57_1 x0 x1 x2 x3 x4 x5 x6 x7 x8 x9 x10 x11 x12)) := fun n => by
  induction n with
  | zero => exact ⟨fun x0 x1 x2 x3 x4 x5 x6 => le_n _, fun x0 x1 x2 x3 x4 x5 x6 x7 x8 x9 x10 x11 x12 => le_n _⟩
  | succ n ih => exact ⟨fun x0 x1 x2 x3 x4 x5 x6 => le_e (L57_0_eq x0 x1 x2 x3 x4 x5 x6) (le_c (le_g (le_g (ih.2 _ _ _ _ _ _ _ _ _ _ _ _ _))) (le_b (N95_le _ _) fun _ => le_r _)),
    fun x0 x1 x2 x3 x4 x5 x6 x7 x8 x9 x10 x11 x12 => le_e (L57_1_eq x0 x1 x2 x3 x4 x5 x6 x7 x8 x9 x10 x11 x12) (le_c (le_g (le_g (le_g (le_g (le_g (le_g (ih.2 _ _ _ _ _ _ _ _ _ _ _ _ _))))))) (le_g (le_g (ih.1 _ _ _ _ _ _ _))))⟩
noncomputable def N57 (x0 : S60) (x1 : S60) : Option (S60) :=
  grd (decide (0 ≤ (wr .i64 ((x0.f1.length : Int) + (x1.f1.length : Int))))) <|
  grd (decide ((wr .i64 ((x0.f1.length : Int) + (x1.f1.length : Int))) ≤ (wr .i64 ((x0.f1.length : Int) + (x1.f1.length : Int))))) <|
  grd (fitM (Int.toNat (wr .i64 ((x0.f1.length : Int) + (x1.f1.length : Int)))) 4) <|
  (P57 100000).l0 x0 x1 (S60.mk false []) (List.replicate (Int.toNat (wr .i64 ((x0.f1.length : Int) + (x1.f1.length : Int)))) (0 : Int)) x0.f1 (x0.f1.length : Int) 0
theorem N57_le (x0 : S60) (x1 : S60) : Le (N57 x0 x1) (F57 x0 x1) := le_e (F57_eq x0 x1) (le_g (le_g (le_g ((P57_le 100000).1 _ _ _ _ _ _ _))))
structure Q30 where
  l0 : List S60 → List S60 → Int → Option (List S60)
noncomputable def T30 (q : Q30) : Q30 := ⟨fun x0 x1 x2 =>
    bif (decide (x2 < (x0.length : Int))) then
      grd (decide (0 ≤ x2)) <|
      grd (decide (x2 < (x0.length : Int))) <|
      (N51 x2).bind fun y1 =>
      (N57 (x0.getD (Int.toNat x2) z0) y1).bind fun y2 =>
      grd (fit (x1.length + [y2].length) 32) <|
      q.l0 x0 (x1 ++ [y2]) (wr .i64 (x2 + 1))
    else
    (N52 x1).bind fun y3 =>
    some y3⟩
noncomputable def P30 (n : Nat) : Q30 := Nat.rec ⟨fun _ _ _ => none⟩ (fun _ q => T30 q) n
theorem P30_le : ∀ n, (∀ x0 x1 x2, Le ((P30 n).l0 x0 x1 x2) (L30_0 x0 x1 x2)) := fun n => by
  induction n with
  | zero => exact fun x0 x1 x2 => le_n _
  | succ n ih => exact fun x0 x1 x2 => le_e (L30_0_eq x0 x1 x2) (le_c (le_g (le_g (le_b (N51_le _) fun _ => le_b (N57_le _ _) fun _ => le_g (ih _ _ _)))) (le_b (N52_le _) fun _ => le_r _))
noncomputable def N30 (x0 : List S60) : Option (List S60) :=
  (P30 100000).l0 x0 [] 1
theorem N30_le (x0 : List S60) : Le (N30 x0) (F30 x0) := le_e (F30_eq x0) ((P30_le 100000) _ _ _)
def N103 (x0 : List Int) : Option (List Int) := grd (fit (0 + x0.length) 4) (some x0)
theorem N103_le (x0 : List Int) : Le (N103 x0) (F103 x0) := le_e (F103_eq x0) (le_r _)
noncomputable def N67 (x0 : S60) : Option (S60) :=
  (N103 x0.f1).bind fun y1 =>
  (N95 (!x0.f0) y1).bind fun y2 =>
  some y2
theorem N67_le (x0 : S60) : Le (N67 x0) (F67 x0) := le_e (F67_eq x0) (le_b (N103_le _) fun _ => le_b (N95_le _ _) fun _ => le_r _)
noncomputable def N68 (x0 : S60) (x1 : S60) : Option (S60) :=
  (N67 x1).bind fun y1 =>
  (N56 x0 y1).bind fun y2 =>
  some y2
theorem N68_le (x0 : S60) (x1 : S60) : Le (N68 x0 x1) (F68 x0 x1) := le_e (F68_eq x0 x1) (le_b (N67_le _) fun _ => le_b (N56_le _ _) fun _ => le_r _)
noncomputable def N69 (x0 : S60) : Option (S60) :=
  (N66 x0).bind fun y1 =>
  bif (decide (y1 < 0)) then
    (N67 x0).bind fun y2 =>
    some y2
  else
  some x0
theorem N69_le (x0 : S60) : Le (N69 x0) (F69 x0) := le_e (F69_eq x0) (le_b (N66_le _) fun _ => le_c (le_b (N67_le _) fun _ => le_r _) (le_r _))
structure Q31 where
  l0 : List S60 → List S60 → S60 → Option (List S60 × Int)
  l1 : List S60 → List S60 → S60 → S60 → Option (List S60 × Int)
  l2 : List S60 → S60 → S60 → Int → List S60 → List S60 → Int → Int → Option (List S60 × Int)
noncomputable def T31 (q : Q31) : Q31 := ⟨fun x0 x1 x2 =>
    bif (decide ((x0.length : Int) ≥ (x1.length : Int))) then
      grd (decide (0 ≤ (wr .i64 ((x0.length : Int) - 1)))) <|
      grd (decide ((wr .i64 ((x0.length : Int) - 1)) < (x0.length : Int))) <|
      (N66 x2).bind fun y1 =>
      bif (decide (y1 < 0)) then
        (N67 (x0.getD (Int.toNat (wr .i64 ((x0.length : Int) - 1))) z0)).bind fun y2 =>
        q.l1 x0 x1 x2 y2
      else
      q.l1 x0 x1 x2 (x0.getD (Int.toNat (wr .i64 ((x0.length : Int) - 1))) z0)
    else
    some (x0, 0),
  fun x0 x1 x2 x3 =>
    q.l2 x1 x2 x3 (wr .i64 ((x0.length : Int) - (x1.length : Int))) [] x0 (x0.length : Int) 0,
  fun x0 x1 x2 x3 x4 x5 x6 x7 =>
    bif (decide (x7 < x6)) then
      grd (decide (0 ≤ x7)) <|
      grd (decide (x7 < (x5.length : Int))) <|
      (N69 x1).bind fun y1 =>
      (N57 (x5.getD (Int.toNat x7) z0) y1).bind fun y2 =>
      (N70 x0 (wr .i64 (x7 - x3))).bind fun y3 =>
      (N57 y3 x2).bind fun y4 =>
      (N68 y2 y4).bind fun y5 =>
      grd (fit (x4.length + [y5].length) 32) <|
      q.l2 x0 x1 x2 x3 (x4 ++ [y5]) x5 x6 (wr .i64 (x7 + 1))
    else
    (N52 x4).bind fun y6 =>
    q.l0 y6 x0 x1⟩
noncomputable def P31 (n : Nat) : Q31 := Nat.rec ⟨fun _ _ _ => none, fun _ _ _ _ => none, fun _ _ _ _ _ _ _ _ => none⟩ (fun _ q => T31 q) n
theorem P31_le : ∀ n, (∀ x0 x1 x2, Le ((P31 n).l0 x0 x1 x2) (L31_0 x0 x1 x2)) ∧ (∀ x0 x1 x2 x3, Le ((P31 n).l1 x0 x1 x2 x3) (L31_1 x0 x1 x2 x3)) ∧ (∀ x0 x1 x2 x3 x4 x5 x6 x7, Le ((P31 n).l2 x0 x1 x2 x3 x4 x5 x6 x7) (L31_2 x0 x1 x2 x3 x4 x5 x6 x7)) := fun n => by
  induction n with
  | zero => exact ⟨fun x0 x1 x2 => le_n _, fun x0 x1 x2 x3 => le_n _, fun x0 x1 x2 x3 x4 x5 x6 x7 => le_n _⟩
  | succ n ih => exact ⟨fun x0 x1 x2 => le_e (L31_0_eq x0 x1 x2) (le_c (le_g (le_g (le_b (N66_le _) fun _ => le_c (le_b (N67_le _) fun _ => ih.2.1 _ _ _ _) (ih.2.1 _ _ _ _)))) (le_r _)),
    fun x0 x1 x2 x3 => le_e (L31_1_eq x0 x1 x2 x3) (ih.2.2 _ _ _ _ _ _ _ _),
    fun x0 x1 x2 x3 x4 x5 x6 x7 => le_e (L31_2_eq x0 x1 x2 x3 x4 x5 x6 x7) (le_c (le_g (le_g (le_b (N69_le _) fun _ => le_b (N57_le _ _) fun _ => le_b (N70_le _ _) fun _ => le_b (N57_le _ _) fun _ => le_b (N68_le _ _) fun _ => le_g (ih.2.2 _ _ _ _ _ _ _ _)))) (le_b (N52_le _) fun _ => ih.1 _ _ _))⟩
noncomputable def N31 (x0 : List S60) (x1 : List S60) : Option (List S60 × Int) :=
  (N52 x1).bind fun y1 =>
  bif ((y1.length : Int) == 0) then
    some ([], 13)
  else
  grd (decide (0 ≤ (wr .i64 ((y1.length : Int) - 1)))) <|
  grd (decide ((wr .i64 ((y1.length : Int) - 1)) < (y1.length : Int))) <|
  (N29 x0 []).bind fun y2 =>
  (P31 100000).l0 y2 y1 (y1.getD (Int.toNat (wr .i64 ((y1.length : Int) - 1))) z0)
theorem N31_le (x0 : List S60) (x1 : List S60) : Le (N31 x0 x1) (F31 x0 x1) := le_e (F31_eq x0 x1) (le_b (N52_le _) fun _ => le_c (le_r _) (le_g (le_g (le_b (N29_le _ _) fun _ => (P31_le 100000).1 _ _ _))))
structure Q65068 where
  l0 : List S60 → List S60 → List S60 → Int → Int → Option (List S60)
noncomputable def T65068 (q : Q65068) : Q65068 := ⟨fun x0 x1 x2 x3 x4 =>
    bif (decide (x4 < x3)) then
      (N70 x0 x4).bind fun y1 =>
      (N70 x1 x4).bind fun y2 =>
      (N68 y1 y2).bind fun y3 =>
      grd (fit (x2.length + [y3].length) 32) <|
      q.l0 x0 x1 (x2 ++ [y3]) x3 (wr .i64 (x4 + 1))
    else
    (N52 x2).bind fun y4 =>
    some y4⟩
noncomputable def P65068 (n : Nat) : Q65068 := Nat.rec ⟨fun _ _ _ _ _ => none⟩ (fun _ q => T65068 q) n
theorem P65068_le : ∀ n, (∀ x0 x1 x2 x3 x4, Le ((P65068 n).l0 x0 x1 x2 x3 x4) (L65068_0 x0 x1 x2 x3 x4)) := fun n => by
  induction n with
  | zero => exact fun x0 x1 x2 x3 x4 => le_n _
  | succ n ih => exact fun x0 x1 x2 x3 x4 => le_e (L65068_0_eq x0 x1 x2 x3 x4) (le_c (le_b (N70_le _ _) fun _ => le_b (N70_le _ _) fun _ => le_b (N68_le _ _) fun _ => le_g (ih _ _ _ _ _)) (le_b (N52_le _) fun _ => le_r _))
noncomputable def N65068 (x0 : List S60) (x1 : List S60) (x2 : Unit) : Option (List S60) :=
  (P65068 100000).l0 x0 x1 [] (mxE (x0.length : Int) (x1.length : Int)) 0
theorem N65068_le (x0 : List S60) (x1 : List S60) (x2 : Unit) : Le (N65068 x0 x1 x2) (F65068 x0 x1 x2) := le_e (F65068_eq x0 x1 x2) ((P65068_le 100000) _ _ _ _ _)
noncomputable def N71 (x0 : List S60) (x1 : List S60) : Option (List S60) :=
  (N65068 x0 x1 ()).bind fun y1 =>
  some y1
theorem N71_le (x0 : List S60) (x1 : List S60) : Le (N71 x0 x1) (F71 x0 x1) := le_e (F71_eq x0 x1) (le_b (N65068_le _ _ _) fun _ => le_r _)
noncomputable def N32 (x0 : List S60) : Option (List S60) :=
  (N71 [] x0).bind fun y1 =>
  some y1
theorem N32_le (x0 : List S60) : Le (N32 x0) (F32 x0) := le_e (F32_eq x0) (le_b (N71_le _ _) fun _ => le_r _)
structure Q9 where
  l0 : List S60 → List (List S60) → List S60 → Option (List (List S60) × Int)
noncomputable def T9 (q : Q9) : Q9 := ⟨fun x0 x1 x2 =>
    bif (decide ((x2.length : Int) > 0)) then
      grd (fit (x1.length + [x2].length) 24) <|
      (N31 x0 x2).bind fun y1 =>
      (N32 y1.1).bind fun y2 =>
      q.l0 x2 (x1 ++ [x2]) y2
    else
    some (x1, 0)⟩
noncomputable def P9 (n : Nat) : Q9 := Nat.rec ⟨fun _ _ _ => none⟩ (fun _ q => T9 q) n
theorem P9_le : ∀ n, (∀ x0 x1 x2, Le ((P9 n).l0 x0 x1 x2) (L9_0 x0 x1 x2)) := fun n => by
  induction n with
  | zero => exact fun x0 x1 x2 => le_n _
  | succ n ih => exact fun x0 x1 x2 => le_e (L9_0_eq x0 x1 x2) (le_c (le_g (le_b (N31_le _ _) fun _ => le_b (N32_le _) fun _ => ih _ _ _)) (le_r _))
noncomputable def N9 (x0 : List S60) : Option (List (List S60) × Int) :=
  (N29 x0 []).bind fun y1 =>
  bif ((y1.length : Int) == 0) then
    some ([], 13)
  else
  bif (decide ((y1.length : Int) > 13)) then
    some ([], 6)
  else
  (N30 y1).bind fun y2 =>
  (P9 100000).l0 y1 [y1] y2
theorem N9_le (x0 : List S60) : Le (N9 x0) (F9 x0) := le_e (F9_eq x0) (le_b (N29_le _ _) fun _ => le_c (le_r _) (le_c (le_r _) (le_b (N30_le _) fun _ => (P9_le 100000) _ _ _)))
def N122 (x0 : Int) : Option (Int) := bits_TrailingZeros64 x0
theorem N122_le (x0 : Int) : Le (N122 x0) (F122 x0) := le_e (F122_eq x0) (le_r _)
noncomputable def N104 (x0 : S117) : Option (Int) :=
  bif (x0.f1 != 0) then
    (N122 x0.f1).bind fun y1 =>
    some y1
  else
  (N122 x0.f0).bind fun y2 =>
  some (wr .i64 (64 + y2))
theorem N104_le (x0 : S117) : Le (N104 x0) (F104 x0) := le_e (F104_eq x0) (le_c (le_b (N122_le _) fun _ => le_r _) (le_b (N122_le _) fun _ => le_r _))
noncomputable def N123 (x0 : S117) (x1 : Int) : Option (S117) :=
  bif (decide (x1 ≥ 64)) then
    grd (decide (0 ≤ (wr .u64 (x1 - 64)))) <|
    some (S117.mk 0 (shrE Go.IntKind.u64 x0.f0 (wr .u64 (x1 - 64))))
  else
  grd (decide (0 ≤ x1)) <|
  grd (decide (0 ≤ x1)) <|
  grd (decide (0 ≤ (wr .u64 (64 - x1)))) <|
  some (S117.mk (shrE Go.IntKind.u64 x0.f0 x1) (orE Go.IntKind.u64 (shrE Go.IntKind.u64 x0.f1 x1) (shlE Go.IntKind.u64 x0.f0 (wr .u64 (64 - x1)))))
theorem N123_le (x0 : S117) (x1 : Int) : Le (N123 x0 x1) (F123 x0 x1) := le_e (F123_eq x0 x1) (le_r _)
structure Q135 where
  l0 : Int → Int → Option (Int)
  l1 : Int → Int → Option (Int)
  l2 : Int → Int → Option (Int)
noncomputable def T135 (q : Q135) : Q135 := ⟨fun x0 x1 =>
    bif (decide (x0 ≥ 65536)) then
      q.l1 (shrE Go.IntKind.u64 x0 (16 : Int)) (wr .i64 (x1 + 16))
    else
    q.l1 x0 x1,
  fun x0 x1 =>
    bif (decide (x0 ≥ 256)) then
      q.l2 (shrE Go.IntKind.u64 x0 (8 : Int)) (wr .i64 (x1 + 8))
    else
    q.l2 x0 x1,
  fun x0 x1 =>
    grd (decide (0 ≤ (wr .u8 x0))) <|
    grd (decide ((wr .u8 x0) < 256)) <|
    some (wr .i64 (x1 + (wr .i64 (btE (ofBytes [0, 1, 2, 2, 3, 3, 3, 3, 4, 4, 4, 4, 4, 4, 4, 4, 5, 5, 5, 5, 5, 5, 5, 5, 5, 5, 5, 5, 5, 5, 5, 5, 6, 6, 6, 6, 6, 6, 6, 6, 6, 6, 6, 6, 6, 6, 6, 6, 6, 6, 6, 6, 6, 6, 6, 6, 6, 6, 6, 6, 6, 6, 6, 6, 7, 7, 7, 7, 7, 7, 7, 7, 7, 7, 7, 7, 7, 7, 7, 7, 7, 7, 7, 7, 7, 7, 7, 7, 7, 7, 7, 7, 7, 7, 7, 7, 7, 7, 7, 7, 7, 7, 7, 7, 7, 7, 7, 7, 7, 7, 7, 7, 7, 7, 7, 7, 7, 7, 7, 7, 7, 7, 7, 7, 7, 7, 7, 7, 8, 8, 8, 8, 8, 8, 8, 8, 8, 8, 8, 8, 8, 8, 8, 8, 8, 8, 8, 8, 8, 8, 8, 8, 8, 8, 8, 8, 8, 8, 8, 8, 8, 8, 8, 8, 8, 8, 8, 8, 8, 8, 8, 8, 8, 8, 8, 8, 8, 8, 8, 8, 8, 8, 8, 8, 8, 8, 8, 8, 8, 8, 8, 8, 8, 8, 8, 8, 8, 8, 8, 8, 8, 8, 8, 8, 8, 8, 8, 8, 8, 8, 8, 8, 8, 8, 8, 8, 8, 8, 8, 8, 8, 8, 8, 8, 8, 8, 8, 8, 8, 8, 8, 8, 8, 8, 8, 8, 8, 8, 8, 8, 8, 8, 8, 8, 8, 8, 8, 8, 8, 8, 8, 8, 8, 8, 8, 8]) (Int.toNat (wr .u8 x0))))))⟩
noncomputable def P135 (n : Nat) : Q135 := Nat.rec ⟨fun _ _ => none, fun _ _ => none, fun _ _ => none⟩ (fun _ q => T135 q) n
theorem P135_le : ∀ n, (∀ x0 x1, Le ((P135 n).l0 x0 x1) (L135_0 x0 x1)) ∧ (∀ x0 x1, Le ((P135 n).l1 x0 x1) (L135_1 x0 x1)) ∧ (∀ x0 x1, Le ((P135 n).l2 x0 x1) (L135_2 x0 x1)) := fun n => by
  induction n with
  | zero => exact ⟨fun x0 x1 => le_n _, fun x0 x1 => le_n _, fun x0 x1 => le_n _⟩
  | succ n ih => exact ⟨fun x0 x1 => le_e (L135_0_eq x0 x1) (le_c (ih.2.1 _ _) (ih.2.1 _ _)),
    fun x0 x1 => le_e (L135_1_eq x0 x1) (le_c (ih.2.2 _ _) (ih.2.2 _ _)),
    fun x0 x1 => le_e (L135_2_eq x0 x1) (le_r _)⟩
noncomputable def N135 (x0 : Int) : Option (Int) :=
  bif (decide (x0 ≥ 4294967296)) then
    (P135 100000).l0 (shrE Go.IntKind.u64 x0 (32 : Int)) 32
  else
  (P135 100000).l0 x0 0
theorem N135_le (x0 : Int) : Le (N135 x0) (F135 x0) := le_e (F135_eq x0) (le_c ((P135_le 100000).1 _ _) ((P135_le 100000).1 _ _))
noncomputable def N124 (x0 : S117) : Option (Int) :=
  bif (x0.f0 != 0) then
    (N135 x0.f0).bind fun y1 =>
    some (wr .i64 (64 + y1))
  else
  (N135 x0.f1).bind fun y2 =>
  some y2
theorem N124_le (x0 : S117) : Le (N124 x0) (F124 x0) := le_e (F124_eq x0) (le_c (le_b (N135_le _) fun _ => le_r _) (le_b (N135_le _) fun _ => le_r _))
noncomputable def N125 (x0 : S117) (x1 : Int) : Option (S117) :=
  bif (decide (x1 ≥ 64)) then
    grd (decide (0 ≤ (wr .u64 (x1 - 64)))) <|
    some (S117.mk (shlE Go.IntKind.u64 x0.f1 (wr .u64 (x1 - 64))) 0)
  else
  grd (decide (0 ≤ x1)) <|
  grd (decide (0 ≤ (wr .u64 (64 - x1)))) <|
  grd (decide (0 ≤ x1)) <|
  some (S117.mk (orE Go.IntKind.u64 (shlE Go.IntKind.u64 x0.f0 x1) (shrE Go.IntKind.u64 x0.f1 (wr .u64 (64 - x1)))) (shlE Go.IntKind.u64 x0.f1 x1))
theorem N125_le (x0 : S117) (x1 : Int) : Le (N125 x0 x1) (F125 x0 x1) := le_e (F125_eq x0 x1) (le_r _)
structure Q105 where
  l0 : Int → S117 → S117 → Option (S117 × Int)
noncomputable def T105 (q : Q105) : Q105 := ⟨fun x0 x1 x2 =>
    bif (decide (x0 < 0)) then
      (N123 x1 (wr .u64 (wr .i64 (0 - x0)))).bind fun y1 =>
      some (y1, 0)
    else
    (N124 x1).bind fun y2 =>
    bif (decide (x0 > (wr .i64 (128 - y2)))) then
      some ((S117.mk 0 0), 2)
    else
    (N125 x1 (wr .u64 x0)).bind fun y3 =>
    some (y3, 0)⟩
noncomputable def P105 (n : Nat) : Q105 := Nat.rec ⟨fun _ _ _ => none⟩ (fun _ q => T105 q) n
theorem P105_le : ∀ n, (∀ x0 x1 x2, Le ((P105 n).l0 x0 x1 x2) (L105_0 x0 x1 x2)) := fun n => by
  induction n with
  | zero => exact fun x0 x1 x2 => le_n _
  | succ n ih => exact fun x0 x1 x2 => le_e (L105_0_eq x0 x1 x2) (le_c (le_b (N123_le _ _) fun _ => le_r _) (le_b (N124_le _) fun _ => le_c (le_r _) (le_b (N125_le _ _) fun _ => le_r _)))
noncomputable def N105 (x0 : S117) (x1 : Int) : Option (S117 × Int) :=
  bif ((x0.f0 == 0) && (x0.f1 == 0)) then
    some ((S117.mk 0 0), 0)
  else
  bif (decide (x1 ≤ (-128))) then
    some ((S117.mk 0 0), 0)
  else
  (P105 100000).l0 x1 x0 (S117.mk 0 0)
theorem N105_le (x0 : S117) (x1 : Int) : Le (N105 x0 x1) (F105 x0 x1) := le_e (F105_eq x0 x1) (le_c (le_r _) (le_c (le_r _) ((P105_le 100000) _ _ _)))
structure Q126 where
  l0 : Int → List Int → Int → Int → Option (Int)
noncomputable def T126 (q : Q126) : Q126 := ⟨fun x0 x1 x2 x3 =>
    bif (decide (x3 < x2)) then
      grd (decide (0 ≤ x3)) <|
      grd (decide (x3 < (x1.length : Int))) <|
      bif ((x1.getD (Int.toNat x3) 0) != x0) then
        some (x1.getD (Int.toNat x3) 0)
      else
      q.l0 x0 x1 x2 (wr .i64 (x3 + 1))
    else
    some x0⟩
noncomputable def P126 (n : Nat) : Q126 := Nat.rec ⟨fun _ _ _ _ => none⟩ (fun _ q => T126 q) n
theorem P126_le : ∀ n, (∀ x0 x1 x2 x3, Le ((P126 n).l0 x0 x1 x2 x3) (L126_0 x0 x1 x2 x3)) := fun n => by
  induction n with
  | zero => exact fun x0 x1 x2 x3 => le_n _
  | succ n ih => exact fun x0 x1 x2 x3 => le_e (L126_0_eq x0 x1 x2 x3) (le_c (le_g (le_g (le_c (le_r _) (ih _ _ _ _)))) (le_r _))
noncomputable def N126 (x0 : List Int) : Option (Int) :=
  (P126 100000).l0 0 x0 (x0.length : Int) 0
theorem N126_le (x0 : List Int) : Le (N126 x0) (F126 x0) := le_e (F126_eq x0) ((P126_le 100000) _ _ _ _)
noncomputable def N136 (x0 : Int) : Option (Bool) :=
  some (x0 != x0)
theorem N136_le (x0 : Int) : Le (N136 x0) (F136 x0) := le_e (F136_eq x0) (le_r _)
noncomputable def N127 (x0 : Int) (x1 : Int) : Option (Int) :=
  (N136 x0).bind fun y1 =>
  (N136 x1).bind fun y2 =>
  bif y1 then
    bif y2 then
      some 0
    else
    some (-1)
  else
  bif y2 then
    some 1
  else
  bif (decide (x0 < x1)) then
    some (-1)
  else
  bif (decide (x0 > x1)) then
    some 1
  else
  some 0
theorem N127_le (x0 : Int) (x1 : Int) : Le (N127 x0 x1) (F127 x0 x1) := le_e (F127_eq x0 x1) (le_b (N136_le _) fun _ => le_b (N136_le _) fun _ => le_r _)
noncomputable def N106 (x0 : S117) (x1 : S117) : Option (Int) :=
  (N127 x0.f0 x1.f0).bind fun y1 =>
  (N127 x0.f1 x1.f1).bind fun y2 =>
  (N126 [y1, y2]).bind fun y3 =>
  some y3
theorem N106_le (x0 : S117) (x1 : S117) : Le (N106 x0 x1) (F106 x0 x1) := le_e (F106_eq x0 x1) (le_b (N127_le _ _) fun _ => le_b (N127_le _ _) fun _ => le_b (N126_le _) fun _ => le_r _)
def N128 (x0 : Int) (x1 : Int) (x2 : Int) : Option (Int × Int) := bits_Sub64 x0 x1 x2
theorem N128_le (x0 : Int) (x1 : Int) (x2 : Int) : Le (N128 x0 x1 x2) (F128 x0 x1 x2) := le_e (F128_eq x0 x1 x2) (le_r _)
noncomputable def N107 (x0 : S117) (x1 : S117) : Option (S117 × Int) :=
  (N128 x0.f1 x1.f1 0).bind fun y1 =>
  (N128 x0.f0 x1.f0 y1.2).bind fun y2 =>
  bif (y2.2 != 0) then
    some ((S117.mk 0 0), 2)
  else
  some ((S117.mk y2.1 y1.1), 0)
theorem N107_le (x0 : S117) (x1 : S117) : Le (N107 x0 x1) (F107 x0 x1) := le_e (F107_eq x0 x1) (le_b (N128_le _ _ _) fun _ => le_b (N128_le _ _ _) fun _ => le_r _)
structure Q78 where
  l0 : S117 → S117 → S117 → Int → Option (S117)
  l1 : S117 → S117 → S117 → Int → Option (S117)
noncomputable def T78 (q : Q78) : Q78 := ⟨fun x0 x1 x2 x3 =>
    bif (!((x1.f0 == 0) && (x1.f1 == 0))) then
      (N104 x1).bind fun y1 =>
      (N105 x1 (wr .i64 (0 - y1))).bind fun y2 =>
      (N106 x0 y2.1).bind fun y3 =>
      bif (decide (y3 > 0)) then
        q.l1 y2.1 x0 x2 x3
      else
      q.l1 x0 y2.1 x2 x3
    else
    (N105 x0 x3).bind fun y4 =>
    some y4.1,
  fun x0 x1 x2 x3 =>
    (N107 x1 x0).bind fun y1 =>
    q.l0 x0 y1.1 x2 x3⟩
noncomputable def P78 (n : Nat) : Q78 := Nat.rec ⟨fun _ _ _ _ => none, fun _ _ _ _ => none⟩ (fun _ q => T78 q) n
theorem P78_le : ∀ n, (∀ x0 x1 x2 x3, Le ((P78 n).l0 x0 x1 x2 x3) (L78_0 x0 x1 x2 x3)) ∧ (∀ x0 x1 x2 x3, Le ((P78 n).l1 x0 x1 x2 x3) (L78_1 x0 x1 x2 x3)) := fun n => by
  induction n with
  | zero => exact ⟨fun x0 x1 x2 x3 => le_n _, fun x0 x1 x2 x3 => le_n _⟩
  | succ n ih => exact ⟨fun x0 x1 x2 x3 => le_e (L78_0_eq x0 x1 x2 x3) (le_c (le_b (N104_le _) fun _ => le_b (N105_le _ _) fun _ => le_b (N106_le _ _) fun _ => le_c (ih.2 _ _ _ _) (ih.2 _ _ _ _)) (le_b (N105_le _ _) fun _ => le_r _)),
    fun x0 x1 x2 x3 => le_e (L78_1_eq x0 x1 x2 x3) (le_b (N107_le _ _) fun _ => ih.1 _ _ _ _)⟩
noncomputable def N78 (x0 : S117) (x1 : S117) : Option (S117) :=
  bif ((x0.f0 == 0) && (x0.f1 == 0)) then
    some x1
  else
  bif ((x1.f0 == 0) && (x1.f1 == 0)) then
    some x0
  else
  (N104 x0).bind fun y1 =>
  (N104 x1).bind fun y2 =>
  (N104 x0).bind fun y3 =>
  (N105 x0 (wr .i64 (0 - y3))).bind fun y4 =>
  (P78 100000).l0 y4.1 x1 (S117.mk 0 0) (mnE y1 y2)
theorem N78_le (x0 : S117) (x1 : S117) : Le (N78 x0 x1) (F78 x0 x1) := le_e (F78_eq x0 x1) (le_c (le_r _) (le_c (le_r _) (le_b (N104_le _) fun _ => le_b (N104_le _) fun _ => le_b (N104_le _) fun _ => le_b (N105_le _ _) fun _ => (P78_le 100000).1 _ _ _ _)))
noncomputable def N79 (x0 : Int) : Option (S117) :=
  some (S117.mk 0 x0)
theorem N79_le (x0 : Int) : Le (N79 x0) (F79 x0) := le_e (F79_eq x0) (le_r _)
noncomputable def N80 (x0 : Int) : Option (Int) :=
  bif (decide (x0 < 0)) then
    some (wr .u64 (0 - (wr .u64 x0)))
  else
  some (wr .u64 x0)
theorem N80_le (x0 : Int) : Le (N80 x0) (F80 x0) := le_e (F80_eq x0) (le_r _)
noncomputable def N38 (x0 : S24) : Option (Bool) :=
  bif (decide (x0.f1 > 0)) then
    (N80 x0.f0).bind fun y1 =>
    (N79 y1).bind fun y2 =>
    (N80 x0.f1).bind fun y3 =>
    (N79 y3).bind fun y4 =>
    (N78 y2 y4).bind fun y5 =>
    some ((y5.f0 == 0) && (y5.f1 == 1))
  else
  some false
theorem N38_le (x0 : S24) : Le (N38 x0) (F38 x0) := le_e (F38_eq x0) (le_c (le_b (N80_le _) fun _ => le_b (N79_le _) fun _ => le_b (N80_le _) fun _ => le_b (N79_le _) fun _ => le_b (N78_le _ _) fun _ => le_r _) (le_r _))
noncomputable def N137 (x0 : Int) (x1 : Int) : Option (Int × Int) :=
  some ((wr .u64 ((wr .u64 ((wr .u64 ((shrE Go.IntKind.u64 x0 (32 : Int)) * (shrE Go.IntKind.u64 x1 (32 : Int)))) + (shrE Go.IntKind.u64 (wr .u64 ((wr .u64 ((shrE Go.IntKind.u64 x0 (32 : Int)) * (andE Go.IntKind.u64 x1 (4294967295 : Int)))) + (shrE Go.IntKind.u64 (wr .u64 ((andE Go.IntKind.u64 x0 (4294967295 : Int)) * (andE Go.IntKind.u64 x1 (4294967295 : Int)))) (32 : Int)))) (32 : Int)))) + (shrE Go.IntKind.u64 (wr .u64 ((andE Go.IntKind.u64 (wr .u64 ((wr .u64 ((shrE Go.IntKind.u64 x0 (32 : Int)) * (andE Go.IntKind.u64 x1 (4294967295 : Int)))) + (shrE Go.IntKind.u64 (wr .u64 ((andE Go.IntKind.u64 x0 (4294967295 : Int)) * (andE Go.IntKind.u64 x1 (4294967295 : Int)))) (32 : Int)))) (4294967295 : Int)) + (wr .u64 ((andE Go.IntKind.u64 x0 (4294967295 : Int)) * (shrE Go.IntKind.u64 x1 (32 : Int)))))) (32 : Int)))), (wr .u64 (x0 * x1)))
theorem N137_le (x0 : Int) (x1 : Int) : Le (N137 x0 x1) (F137 x0 x1) := le_e (F137_eq x0 x1) (le_r _)
noncomputable def N129 (x0 : Int) (x1 : Int) : Option (S117) :=
  (N137 x0 x1).bind fun y1 =>
  some (S117.mk y1.1 y1.2)
theorem N129_le (x0 : Int) (x1 : Int) : Le (N129 x0 x1) (F129 x0 x1) := le_e (F129_eq x0 x1) (le_b (N137_le _ _) fun _ => le_r _)
noncomputable def N111 (x0 : Int) (x1 : Int) : Option (S147) :=
  (N80 x0).bind fun y1 =>
  (N80 x1).bind fun y2 =>
  (N129 y1 y2).bind fun y3 =>
  some (S147.mk (!((decide (x0 < 0)) == (decide (x1 < 0)))) y3)
theorem N111_le (x0 : Int) (x1 : Int) : Le (N111 x0 x1) (F111 x0 x1) := le_e (F111_eq x0 x1) (le_b (N80_le _) fun _ => le_b (N80_le _) fun _ => le_b (N129_le _ _) fun _ => le_r _)
structure Q82 where
  l0 : S24 → S24 → Option (Int × Int)
  l1 : S24 → S24 → S147 → S147 → Option (Int × Int)
  l2 : S24 → S24 → S147 → S147 → Option (Int × Int)
  l3 : S24 → S147 → S147 → Option (Int × Int)
noncomputable def T82 (q : Q82) : Q82 := ⟨fun x0 x1 =>
    (N111 x0.f0 x1.f1).bind fun y1 =>
    (N111 x1.f0 x0.f1).bind fun y2 =>
    bif ((y1.f1.f0 == 0) && (y1.f1.f1 == 0)) then
      bif ((y2.f1.f0 == 0) && (y2.f1.f1 == 0)) then
        some (0, 0)
      else
      q.l1 x0 x1 y1 y2
    else
    q.l1 x0 x1 y1 y2,
  fun x0 x1 x2 x3 =>
    bif (decide (x0.f0 < 0)) then
      bif (decide (x1.f0 ≥ 0)) then
        some ((-1), 0)
      else
      q.l2 x0 x1 x2 x3
    else
    q.l2 x0 x1 x2 x3,
  fun x0 x1 x2 x3 =>
    bif (decide (x0.f0 ≥ 0)) then
      bif (decide (x1.f0 < 0)) then
        some (1, 0)
      else
      q.l3 x0 x2 x3
    else
    q.l3 x0 x2 x3,
  fun x0 x1 x2 =>
    bif (decide (x0.f0 < 0)) then
      (N106 x2.f1 x1.f1).bind fun y1 =>
      some (y1, 0)
    else
    (N106 x1.f1 x2.f1).bind fun y2 =>
    some (y2, 0)⟩
noncomputable def P82 (n : Nat) : Q82 := Nat.rec ⟨fun _ _ => none, fun _ _ _ _ => none, fun _ _ _ _ => none, fun _ _ _ => none⟩ (fun _ q => T82 q) n
theorem P82_le : ∀ n, (∀ x0 x1, Le ((P82 n).l0 x0 x1) (L82_0 x0 x1)) ∧ (∀ x0 x1 x2 x3, Le ((P82 n).l1 x0 x1 x2 x3) (L82_1 x0 x1 x2 x3)) ∧ (∀ x0 x1 x2 x3, Le ((P82 n).l2 x0 x1 x2 x3) (L82_2 x0 x1 x2 x3)) ∧ (∀ x0 x1 x2, Le ((P82 n).l3 x0 x1 x2) (L82_3 x0 x1 x2)) := fun n => by
  induction n with
  | zero => exact ⟨fun x0 x1 => le_n _, fun x0 x1 x2 x3 => le_n _, fun x0 x1 x2 x3 => le_n _, fun x0 x1 x2 => le_n _⟩
  | succ n ih => exact ⟨fun x0 x1 => le_e (L82_0_eq x0 x1) (le_b (N111_le _ _) fun _ => le_b (N111_le _ _) fun _ => le_c (le_c (le_r _) (ih.2.1 _ _ _ _)) (ih.2.1 _ _ _ _)),
    fun x0 x1 x2 x3 => le_e (L82_1_eq x0 x1 x2 x3) (le_c (le_c (le_r _) (ih.2.2.1 _ _ _ _)) (ih.2.2.1 _ _ _ _)),
    fun x0 x1 x2 x3 => le_e (L82_2_eq x0 x1 x2 x3) (le_c (le_c (le_r _) (ih.2.2.2 _ _ _)) (ih.2.2.2 _ _ _)),
    fun x0 x1 x2 => le_e (L82_3_eq x0 x1 x2) (le_c (le_b (N106_le _ _) fun _ => le_r _) (le_b (N106_le _ _) fun _ => le_r _))⟩
noncomputable def N82 (x0 : S24) (x1 : S24) : Option (Int × Int) :=
  (N38 x0).bind fun y1 =>
  bif (!y1) then
    some (0, 1)
  else
  (N38 x1).bind fun y2 =>
  bif (!y2) then
    some (0, 1)
  else
  (P82 100000).l0 x0 x1
theorem N82_le (x0 : S24) (x1 : S24) : Le (N82 x0 x1) (F82 x0 x1) := le_e (F82_eq x0 x1) (le_b (N38_le _) fun _ => le_c (le_r _) (le_b (N38_le _) fun _ => le_c (le_r _) ((P82_le 100000).1 _ _)))
noncomputable def N83 (x0 : List S60) : Option (Int) :=
  (N52 x0).bind fun y1 =>
  some (wr .i64 ((y1.length : Int) - 1))
theorem N83_le (x0 : List S60) : Le (N83 x0) (F83 x0) := le_e (F83_eq x0) (le_b (N52_le _) fun _ => le_r _)
structure Q43 where
  l0 : List S60 → Option (Int)
noncomputable def T43 (q : Q43) : Q43 := ⟨fun x0 =>
    (N83 x0).bind fun y1 =>
    bif (decide (y1 < 0)) then
      some 13
    else
    bif (decide (y1 > 12)) then
      some 6
    else
    some 0⟩
noncomputable def P43 (n : Nat) : Q43 := Nat.rec ⟨fun _ => none⟩ (fun _ q => T43 q) n
theorem P43_le : ∀ n, (∀ x0, Le ((P43 n).l0 x0) (L43_0 x0)) := fun n => by
  induction n with
  | zero => exact fun x0 => le_n _
  | succ n ih => exact fun x0 => le_e (L43_0_eq x0) (le_b (N83_le _) fun _ => le_r _)
noncomputable def N43 (x0 : List S60) (x1 : S24) (x2 : S24) : Option (Int) :=
  (N82 x1 x2).bind fun y1 =>
  bif (y1.2 != 0) then
    some 1
  else
  bif (decide (y1.1 ≥ 0)) then
    some 1
  else
  (P43 100000).l0 x0
theorem N43_le (x0 : List S60) (x1 : S24) (x2 : S24) : Le (N43 x0 x1 x2) (F43 x0 x1 x2) := le_e (F43_eq x0 x1 x2) (le_b (N82_le _ _) fun _ => le_c (le_r _) (le_c (le_r _) ((P43_le 100000) _)))
structure Q61 where
  l0 : List S60 → S60 → S60 → S60 → S60 → S60 → Int → Option (S60)
noncomputable def T61 (q : Q61) : Q61 := ⟨fun x0 x1 x2 x3 x4 x5 x6 =>
    bif (decide (x6 ≥ 0)) then
      (N57 x2 x4).bind fun y1 =>
      grd (decide (0 ≤ x6)) <|
      grd (decide (x6 < (x0.length : Int))) <|
      (N57 (x0.getD (Int.toNat x6) z0) x3).bind fun y2 =>
      (N56 y1 y2).bind fun y3 =>
      (N57 x3 x5).bind fun y4 =>
      q.l0 x0 x1 y3 y4 x4 x5 (wr .i64 (x6 - 1))
    else
    some x2⟩
noncomputable def P61 (n : Nat) : Q61 := Nat.rec ⟨fun _ _ _ _ _ _ _ => none⟩ (fun _ q => T61 q) n
theorem P61_le : ∀ n, (∀ x0 x1 x2 x3 x4 x5 x6, Le ((P61 n).l0 x0 x1 x2 x3 x4 x5 x6) (L61_0 x0 x1 x2 x3 x4 x5 x6)) := fun n => by
  induction n with
  | zero => exact fun x0 x1 x2 x3 x4 x5 x6 => le_n _
  | succ n ih => exact fun x0 x1 x2 x3 x4 x5 x6 => le_e (L61_0_eq x0 x1 x2 x3 x4 x5 x6) (le_c (le_b (N57_le _ _) fun _ => le_g (le_g (le_b (N57_le _ _) fun _ => le_b (N56_le _ _) fun _ => le_b (N57_le _ _) fun _ => ih _ _ _ _ _ _ _))) (le_r _))
noncomputable def N61 (x0 : List S60) (x1 : S24) : Option (S60) :=
  (N52 x0).bind fun y1 =>
  (N51 1).bind fun y2 =>
  (N51 x1.f0).bind fun y3 =>
  (N51 x1.f1).bind fun y4 =>
  (P61 100000).l0 y1 (S60.mk false []) (S60.mk false []) y2 y3 y4 (wr .i64 ((y1.length : Int) - 1))
theorem N61_le (x0 : List S60) (x1 : S24) : Le (N61 x0 x1) (F61 x0 x1) := le_e (F61_eq x0 x1) (le_b (N52_le _) fun _ => le_b (N51_le _) fun _ => le_b (N51_le _) fun _ => le_b (N51_le _) fun _ => (P61_le 100000) _ _ _ _ _ _ _)
noncomputable def N143 (x0 : Int) : Option (Int) :=
  (N135 x0).bind fun y1 =>
  some (wr .i64 (64 - y1))
theorem N143_le (x0 : Int) : Le (N143 x0) (F143 x0) := le_e (F143_eq x0) (le_b (N135_le _) fun _ => le_r _)
structure Q138 where
  l0 : Int → Int → Int → Option (Int × Int)
  l1 : Int → Int → Int → Option (Int × Int)
  l2 : Int → Int → Int → Int → Int → Int → Int → Int → Option (Int × Int)
  l3 : Int → Int → Int → Int → Int → Int → Int → Int → Int → Option (Int × Int)
  l4 : Int → Int → Int → Int → Int → Int → Int → Int → Int → Option (Int × Int)
  l5 : Int → Int → Int → Int → Int → Int → Option (Int × Int)
  l6 : Int → Int → Int → Int → Int → Int → Int → Int → Int → Option (Int × Int)
  l7 : Int → Int → Int → Int → Int → Int → Int → Int → Int → Option (Int × Int)
noncomputable def T138 (q : Q138) : Q138 := ⟨fun x0 x1 x2 =>
    bif (decide (x2 ≤ x0)) then
      none
    else
    q.l1 x0 x1 x2,
  fun x0 x1 x2 =>
    bif (x0 == 0) then
      bif (decide (x2 = 0)) then
        none
      else
      bif (decide (x2 = 0)) then
        none
      else
      some ((wr .u64 (Int.tdiv x1 x2)), (Int.tmod x1 x2))
    else
    (N143 x2).bind fun y1 =>
    grd (decide (0 ≤ (wr .u64 y1))) <|
    grd (decide (0 ≤ (wr .u64 y1))) <|
    grd (decide (0 ≤ (wr .u64 (64 - (wr .u64 y1))))) <|
    grd (decide (0 ≤ (wr .u64 y1))) <|
    bif (decide ((shrE Go.IntKind.u64 (shlE Go.IntKind.u64 x2 (wr .u64 y1)) (32 : Int)) = 0)) then
      none
    else
    q.l3 (shlE Go.IntKind.u64 x2 (wr .u64 y1)) (wr .u64 y1) (shrE Go.IntKind.u64 (shlE Go.IntKind.u64 x2 (wr .u64 y1)) (32 : Int)) (andE Go.IntKind.u64 (shlE Go.IntKind.u64 x2 (wr .u64 y1)) (4294967295 : Int)) (orE Go.IntKind.u64 (shlE Go.IntKind.u64 x0 (wr .u64 y1)) (shrE Go.IntKind.u64 x1 (wr .u64 (64 - (wr .u64 y1))))) (shrE Go.IntKind.u64 (shlE Go.IntKind.u64 x1 (wr .u64 y1)) (32 : Int)) (andE Go.IntKind.u64 (shlE Go.IntKind.u64 x1 (wr .u64 y1)) (4294967295 : Int)) (wr .u64 (Int.tdiv (orE Go.IntKind.u64 (shlE Go.IntKind.u64 x0 (wr .u64 y1)) (shrE Go.IntKind.u64 x1 (wr .u64 (64 - (wr .u64 y1))))) (shrE Go.IntKind.u64 (shlE Go.IntKind.u64 x2 (wr .u64 y1)) (32 : Int)))) (wr .u64 ((orE Go.IntKind.u64 (shlE Go.IntKind.u64 x0 (wr .u64 y1)) (shrE Go.IntKind.u64 x1 (wr .u64 (64 - (wr .u64 y1))))) - (wr .u64 ((wr .u64 (Int.tdiv (orE Go.IntKind.u64 (shlE Go.IntKind.u64 x0 (wr .u64 y1)) (shrE Go.IntKind.u64 x1 (wr .u64 (64 - (wr .u64 y1))))) (shrE Go.IntKind.u64 (shlE Go.IntKind.u64 x2 (wr .u64 y1)) (32 : Int)))) * (shrE Go.IntKind.u64 (shlE Go.IntKind.u64 x2 (wr .u64 y1)) (32 : Int)))))),
  fun x0 x1 x2 x3 x4 x5 x6 x7 =>
    bif (decide (x2 = 0)) then
      none
    else
    q.l6 x0 x1 x2 x3 x6 x7 (wr .u64 ((wr .u64 ((wr .u64 ((wr .u64 (x4 * 4294967296)) + x5)) - (wr .u64 (x7 * x0)))) - (wr .u64 ((wr .u64 (Int.tdiv (wr .u64 ((wr .u64 ((wr .u64 (x4 * 4294967296)) + x5)) - (wr .u64 (x7 * x0)))) x2)) * x2)))) (wr .u64 ((wr .u64 ((wr .u64 (x4 * 4294967296)) + x5)) - (wr .u64 (x7 * x0)))) (wr .u64 (Int.tdiv (wr .u64 ((wr .u64 ((wr .u64 (x4 * 4294967296)) + x5)) - (wr .u64 (x7 * x0)))) x2)),
  fun x0 x1 x2 x3 x4 x5 x6 x7 x8 =>
    bif (decide (x7 ≥ 4294967296)) then
      q.l4 x0 x1 x2 x3 x4 x5 x6 x7 x8
    else
    bif (decide ((wr .u64 (x7 * x3)) > (wr .u64 ((wr .u64 (4294967296 * x8)) + x5)))) then
      q.l4 x0 x1 x2 x3 x4 x5 x6 x7 x8
    else
    q.l2 x0 x1 x2 x3 x4 x5 x6 x7,
  fun x0 x1 x2 x3 x4 x5 x6 x7 x8 =>
    bif (decide ((wr .u64 (x8 + x2)) ≥ 4294967296)) then
      q.l2 x0 x1 x2 x3 x4 x5 x6 (wr .u64 (x7 - 1))
    else
    q.l3 x0 x1 x2 x3 x4 x5 x6 (wr .u64 (x7 - 1)) (wr .u64 (x8 + x2)),
  fun x0 x1 x2 x3 x4 x5 =>
    grd (decide (0 ≤ x1)) <|
    some ((wr .u64 ((wr .u64 (x3 * 4294967296)) + x5)), (shrE Go.IntKind.u64 (wr .u64 ((wr .u64 ((wr .u64 (x4 * 4294967296)) + x2)) - (wr .u64 (x5 * x0)))) x1)),
  fun x0 x1 x2 x3 x4 x5 x6 x7 x8 =>
    bif (decide (x8 ≥ 4294967296)) then
      q.l7 x0 x1 x2 x3 x4 x5 x6 x7 x8
    else
    bif (decide ((wr .u64 (x8 * x3)) > (wr .u64 ((wr .u64 (4294967296 * x6)) + x4)))) then
      q.l7 x0 x1 x2 x3 x4 x5 x6 x7 x8
    else
    q.l5 x0 x1 x4 x5 x7 x8,
  fun x0 x1 x2 x3 x4 x5 x6 x7 x8 =>
    bif (decide ((wr .u64 (x6 + x2)) ≥ 4294967296)) then
      q.l5 x0 x1 x4 x5 x7 (wr .u64 (x8 - 1))
    else
    q.l6 x0 x1 x2 x3 x4 x5 (wr .u64 (x6 + x2)) x7 (wr .u64 (x8 - 1))⟩
noncomputable def P138 (n : Nat) : Q138 := Nat.rec ⟨fun _ _ _ => none, fun _ _ _ => none, fun _ _ _ _ _ _ _ _ => none, fun _ _ _ _ _ _ _ _ _ => none, fun _ _ _ _ _ _ _ _ _ => none, fun _ _ _ _ _ _ => none, fun _ _ _ _ _ _ _ _ _ => none, fun _ _ _ _ _ _ _ _ _ => none⟩ (fun _ q => T138 q) n
theorem P138_le : ∀ n, (∀ x0 x1 x2, Le ((P138 n).l0 x0 x1 x2) (L138_0 x0 x1 x2)) ∧ (∀ x0 x1 x2, Le ((P138 n).l1 x0 x1 x2) (L138_1 x0 x1 x2)) ∧ (∀ x0 x1 x2 x3 x4 x5 x6 x7, Le ((P138 n).l2 x0 x1 x2 x3 x4 x5 x6 x7) (L138_2 x0 x1 x2 x3 x4 x5 x6 x7)) ∧ (∀ x0 x1 x2 x3 x4 x5 x6 x7 x8, Le ((P138 n).l3 x0 x1 x2 x3 x4 x5 x6 x7 x8) (L138_3 x0 x1 x2 x3 x4 x5 x6 x7 x8)) ∧ (∀ x0 x1 x2 x3 x4 x5 x6 x7 x8, Le ((P138 n).l4 x0 x1 x2 x3 x4 x5 x6 x7 x8) (L138_4 x0 x1 x2 x3 x4 x5 x6 x7 x8)) ∧ (∀ x0 x1 x2 x3 x4 x5, Le ((P138 n).l5 x0 x1 x2 x3 x4 x5) (L138_5 x0 x1 x2 x3 x4 x5)) ∧ (∀ x0 x1 x2 x3 x4 x5 x6 x7 x8, Le ((P138 n).l6 x0 x1 x2 x3 x4 x5 x6 x7 x8) (L138_6 x0 x1 x2 x3 x4 x5 x6 x7 x8)) ∧ (∀ x0 x1 x2 x3 x4 x5 x6 x7 x8, Le ((P138 n).l7 x0 x1 x2 x3 x4 x5 x6 x7 x8) (L138_7 x0 x1 x2 x3 x4 x5 x6 x7 x8)) := fun n => by
  induction n with
  | zero => exact ⟨fun x0 x1 x2 => le_n _, fun x0 x1 x2 => le_n _, fun x0 x1 x2 x3 x4 x5 x6 x7 => le_n _, fun x0 x1 x2 x3 x4 x5 x6 x7 x8 => le_n _, fun x0 x1 x2 x3 x4 x5 x6 x7 x8 => le_n _, fun x0 x1 x2 x3 x4 x5 => le_n _, fun x0 x1 x2 x3 x4 x5 x6 x7 x8 => le_n _, fun x0 x1 x2 x3 x4 x5 x6 x7 x8 => le_n _⟩
  | succ n ih => exact ⟨fun x0 x1 x2 => le_e (L138_0_eq x0 x1 x2) (le_c (le_r _) (ih.2.1 _ _ _)),
    fun x0 x1 x2 => le_e (L138_1_eq x0 x1 x2) (le_c (le_r _) (le_b (N143_le _) fun _ => le_g (le_g (le_g (le_g (le_c (le_r _) (ih.2.2.2.1 _ _ _ _ _ _ _ _ _))))))),
    fun x0 x1 x2 x3 x4 x5 x6 x7 => le_e (L138_2_eq x0 x1 x2 x3 x4 x5 x6 x7) (le_c (le_r _) (ih.2.2.2.2.2.2.1 _ _ _ _ _ _ _ _ _)),
    fun x0 x1 x2 x3 x4 x5 x6 x7 x8 => le_e (L138_3_eq x0 x1 x2 x3 x4 x5 x6 x7 x8) (le_c (ih.2.2.2.2.1 _ _ _ _ _ _ _ _ _) (le_c (ih.2.2.2.2.1 _ _ _ _ _ _ _ _ _) (ih.2.2.1 _ _ _ _ _ _ _ _))),
    fun x0 x1 x2 x3 x4 x5 x6 x7 x8 => le_e (L138_4_eq x0 x1 x2 x3 x4 x5 x6 x7 x8) (le_c (ih.2.2.1 _ _ _ _ _ _ _ _) (ih.2.2.2.1 _ _ _ _ _ _ _ _ _)),
    fun x0 x1 x2 x3 x4 x5 => le_e (L138_5_eq x0 x1 x2 x3 x4 x5) (le_r _),
    fun x0 x1 x2 x3 x4 x5 x6 x7 x8 => le_e (L138_6_eq x0 x1 x2 x3 x4 x5 x6 x7 x8) (le_c (ih.2.2.2.2.2.2.2 _ _ _ _ _ _ _ _ _) (le_c (ih.2.2.2.2.2.2.2 _ _ _ _ _ _ _ _ _) (ih.2.2.2.2.2.1 _ _ _ _ _ _))),
    fun x0 x1 x2 x3 x4 x5 x6 x7 x8 => le_e (L138_7_eq x0 x1 x2 x3 x4 x5 x6 x7 x8) (le_c (ih.2.2.2.2.2.1 _ _ _ _ _ _) (ih.2.2.2.2.2.2.1 _ _ _ _ _ _ _ _ _))⟩
noncomputable def N138 (x0 : Int) (x1 : Int) (x2 : Int) : Option (Int × Int) :=
  bif (x2 == 0) then
    none
  else
  (P138 100000).l0 x0 x1 x2
theorem N138_le (x0 : Int) (x1 : Int) (x2 : Int) : Le (N138 x0 x1 x2) (F138 x0 x1 x2) := le_e (F138_eq x0 x1 x2) (le_c (le_r _) ((P138_le 100000).1 _ _ _))
noncomputable def N139 (x0 : Int) : Option (Int) :=
  bif (decide (x0 < 0)) then
    some (wr .u64 (0 - (wr .u64 x0)))
  else
  some (wr .u64 x0)
theorem N139_le (x0 : Int) : Le (N139 x0) (F139 x0) := le_e (F139_eq x0) (le_r _)
structure Q130 where
  l0 : Int → S60 → S60 → List Int → Int → Option (S60 × Int × Int)
  l1 : Int → S60 → S60 → List Int → Int → Int → Option (S60 × Int × Int)
noncomputable def T130 (q : Q130) : Q130 := ⟨fun x0 x1 x2 x3 x4 =>
    (N95 (!(x1.f0 == (decide (x0 < 0)))) x3).bind fun y1 =>
    some (y1, ((wr .i64 x4), 0)),
  fun x0 x1 x2 x3 x4 x5 =>
    bif (decide (x5 ≥ 0)) then
      grd (decide (0 ≤ x5)) <|
      grd (decide (x5 < (x3.length : Int))) <|
      (N139 x0).bind fun y1 =>
      (N138 (shrE Go.IntKind.u64 x4 (32 : Int)) (orE Go.IntKind.u64 (shlE Go.IntKind.u64 x4 (32 : Int)) (wr .u64 (x3.getD (Int.toNat x5) 0))) y1).bind fun y2 =>
      grd (decide (0 ≤ x5)) <|
      grd (decide (x5 < (x3.length : Int))) <|
      q.l1 x0 x1 x2 (List.set x3 (Int.toNat x5) (wr .u32 y2.1)) y2.2 (wr .i64 (x5 - 1))
    else
    bif x1.f0 then
      q.l0 x0 x1 x2 x3 (wr .u64 (0 - x4))
    else
    q.l0 x0 x1 x2 x3 x4⟩
noncomputable def P130 (n : Nat) : Q130 := Nat.rec ⟨fun _ _ _ _ _ => none, fun _ _ _ _ _ _ => none⟩ (fun _ q => T130 q) n
theorem P130_le : ∀ n, (∀ x0 x1 x2 x3 x4, Le ((P130 n).l0 x0 x1 x2 x3 x4) (L130_0 x0 x1 x2 x3 x4)) ∧ (∀ x0 x1 x2 x3 x4 x5, Le ((P130 n).l1 x0 x1 x2 x3 x4 x5) (L130_1 x0 x1 x2 x3 x4 x5)) := fun n => by
  induction n with
  | zero => exact ⟨fun x0 x1 x2 x3 x4 => le_n _, fun x0 x1 x2 x3 x4 x5 => le_n _⟩
  | succ n ih => exact ⟨fun x0 x1 x2 x3 x4 => le_e (L130_0_eq x0 x1 x2 x3 x4) (le_b (N95_le _ _) fun _ => le_r _),
    fun x0 x1 x2 x3 x4 x5 => le_e (L130_1_eq x0 x1 x2 x3 x4 x5) (le_c (le_g (le_g (le_b (N139_le _) fun _ => le_b (N138_le _ _ _) fun _ => le_g (le_g (ih.2 _ _ _ _ _ _))))) (le_c (ih.1 _ _ _ _ _) (ih.1 _ _ _ _ _)))⟩
noncomputable def N130 (x0 : S60) (x1 : Int) : Option (S60 × Int × Int) :=
  bif (x1 == 0) then
    some ((S60.mk false []), (0, 13))
  else
  (N103 x0.f1).bind fun y1 =>
  (P130 100000).l1 x1 x0 (S60.mk false []) y1 0 (wr .i64 ((y1.length : Int) - 1))
theorem N130_le (x0 : S60) (x1 : Int) : Le (N130 x0 x1) (F130 x0 x1) := le_e (F130_eq x0 x1) (le_c (le_r _) (le_b (N103_le _) fun _ => (P130_le 100000).2 _ _ _ _ _ _))
structure Q112 where
  l0 : List S60 → S24 → List S60 → S60 → Int → Option (List S60)
noncomputable def T112 (q : Q112) : Q112 := ⟨fun x0 x1 x2 x3 x4 =>
    bif (decide (x4 ≥ 1)) then
      grd (decide (0 ≤ x4)) <|
      grd (decide (x4 < (x0.length : Int))) <|
      (N51 x1.f0).bind fun y1 =>
      (N57 x3 y1).bind fun y2 =>
      (N56 (x0.getD (Int.toNat x4) z0) y2).bind fun y3 =>
      (N130 y3 x1.f1).bind fun y4 =>
      grd (decide (0 ≤ (wr .i64 (x4 - 1)))) <|
      grd (decide ((wr .i64 (x4 - 1)) < (x2.length : Int))) <|
      q.l0 x0 x1 (List.set x2 (Int.toNat (wr .i64 (x4 - 1))) y4.1) y4.1 (wr .i64 (x4 - 1))
    else
    (N52 x2).bind fun y5 =>
    some y5⟩
noncomputable def P112 (n : Nat) : Q112 := Nat.rec ⟨fun _ _ _ _ _ => none⟩ (fun _ q => T112 q) n
theorem P112_le : ∀ n, (∀ x0 x1 x2 x3 x4, Le ((P112 n).l0 x0 x1 x2 x3 x4) (L112_0 x0 x1 x2 x3 x4)) := fun n => by
  induction n with
  | zero => exact fun x0 x1 x2 x3 x4 => le_n _
  | succ n ih => exact fun x0 x1 x2 x3 x4 => le_e (L112_0_eq x0 x1 x2 x3 x4) (le_c (le_g (le_g (le_b (N51_le _) fun _ => le_b (N57_le _ _) fun _ => le_b (N56_le _ _) fun _ => le_b (N130_le _ _) fun _ => le_g (le_g (ih _ _ _ _ _))))) (le_b (N52_le _) fun _ => le_r _))
noncomputable def N112 (x0 : List S60) (x1 : S24) : Option (List S60) :=
  grd (decide (0 ≤ (wr .i64 ((x0.length : Int) - 1)))) <|
  grd (decide ((wr .i64 ((x0.length : Int) - 1)) ≤ (wr .i64 ((x0.length : Int) - 1)))) <|
  grd (fitM (Int.toNat (wr .i64 ((x0.length : Int) - 1))) 32) <|
  (P112 100000).l0 x0 x1 (List.replicate (Int.toNat (wr .i64 ((x0.length : Int) - 1))) (S60.mk false [])) (S60.mk false []) (wr .i64 ((x0.length : Int) - 1))
theorem N112_le (x0 : List S60) (x1 : S24) : Le (N112 x0 x1) (F112 x0 x1) := le_e (F112_eq x0 x1) (le_g (le_g (le_g ((P112_le 100000) _ _ _ _ _))))
structure Q84 where
  l0 : List S60 → S24 → Int → Option (List S60 × Int × Int)
  l1 : List S60 → S24 → Int → Option (List S60 × Int × Int)
noncomputable def T84 (q : Q84) : Q84 := ⟨fun x0 x1 x2 =>
    bif (decide ((x0.length : Int) > 1)) then
      (N61 x0 x1).bind fun y1 =>
      (N66 y1).bind fun y2 =>
      bif (y2 == 0) then
        q.l1 x0 x1 x2
      else
      some (x0, (x2, 0))
    else
    some (x0, (x2, 0)),
  fun x0 x1 x2 =>
    (N112 x0 x1).bind fun y1 =>
    q.l0 y1 x1 (wr .i64 (x2 + 1))⟩
noncomputable def P84 (n : Nat) : Q84 := Nat.rec ⟨fun _ _ _ => none, fun _ _ _ => none⟩ (fun _ q => T84 q) n
theorem P84_le : ∀ n, (∀ x0 x1 x2, Le ((P84 n).l0 x0 x1 x2) (L84_0 x0 x1 x2)) ∧ (∀ x0 x1 x2, Le ((P84 n).l1 x0 x1 x2) (L84_1 x0 x1 x2)) := fun n => by
  induction n with
  | zero => exact ⟨fun x0 x1 x2 => le_n _, fun x0 x1 x2 => le_n _⟩
  | succ n ih => exact ⟨fun x0 x1 x2 => le_e (L84_0_eq x0 x1 x2) (le_c (le_b (N61_le _ _) fun _ => le_b (N66_le _) fun _ => le_c (ih.2 _ _ _) (le_r _)) (le_r _)),
    fun x0 x1 x2 => le_e (L84_1_eq x0 x1 x2) (le_b (N112_le _ _) fun _ => ih.1 _ _ _)⟩
noncomputable def N84 (x0 : List S60) (x1 : S24) : Option (List S60 × Int × Int) :=
  (N29 x0 []).bind fun y1 =>
  (N38 x1).bind fun y2 =>
  bif (!y2) then
    some ([], (0, 1))
  else
  bif ((y1.length : Int) == 0) then
    some ([], (0, 13))
  else
  (P84 100000).l0 y1 x1 0
theorem N84_le (x0 : List S60) (x1 : S24) : Le (N84 x0 x1) (F84 x0 x1) := le_e (F84_eq x0 x1) (le_b (N29_le _ _) fun _ => le_b (N38_le _) fun _ => le_c (le_r _) (le_c (le_r _) ((P84_le 100000).1 _ _ _)))
noncomputable def N44 (x0 : List S60) (x1 : S24) (x2 : S24) : Option (List S60) :=
  (N84 x0 x1).bind fun y1 =>
  (N84 y1.1 x2).bind fun y2 =>
  bif ((Int.tmod y2.2.1 (2 : Int)) == 1) then
    (N32 y2.1).bind fun y3 =>
    some y3
  else
  some y2.1
theorem N44_le (x0 : List S60) (x1 : S24) (x2 : S24) : Le (N44 x0 x1 x2) (F44 x0 x1 x2) := le_e (F44_eq x0 x1 x2) (le_b (N84_le _ _) fun _ => le_b (N84_le _ _) fun _ => le_c (le_b (N32_le _) fun _ => le_r _) (le_r _))
noncomputable def N25 (x0 : List S60) (x1 : S24) : Option (S60 × Int) :=
  (N38 x1).bind fun y1 =>
  bif (!y1) then
    some ((S60.mk false []), 1)
  else
  (N61 x0 x1).bind fun y2 =>
  some (y2, 0)
theorem N25_le (x0 : List S60) (x1 : S24) : Le (N25 x0 x1) (F25 x0 x1) := le_e (F25_eq x0 x1) (le_b (N38_le _) fun _ => le_c (le_r _) (le_b (N61_le _ _) fun _ => le_r _))
noncomputable def N39 (x0 : List S60) (x1 : S24) : Option (Int) :=
  (N25 x0 x1).bind fun y1 =>
  (N66 y1.1).bind fun y2 =>
  some y2
theorem N39_le (x0 : List S60) (x1 : S24) : Le (N39 x0 x1) (F39 x0 x1) := le_e (F39_eq x0 x1) (le_b (N25_le _ _) fun _ => le_b (N66_le _) fun _ => le_r _)
structure Q12 where
  l0 : S24 → Int → Int → List (List S60) → Int → Int → Option (Int × Int)
noncomputable def T12 (q : Q12) : Q12 := ⟨fun x0 x1 x2 x3 x4 x5 =>
    bif (decide (x5 < x4)) then
      grd (decide (0 ≤ x5)) <|
      grd (decide (x5 < (x3.length : Int))) <|
      (N39 (x3.getD (Int.toNat x5) []) x0).bind fun y1 =>
      bif (decide ((wr .i64 (y1 * x2)) < 0)) then
        bif (y1 != 0) then
          q.l0 x0 (wr .i64 (x1 + 1)) y1 x3 x4 (wr .i64 (x5 + 1))
        else
        q.l0 x0 (wr .i64 (x1 + 1)) x2 x3 x4 (wr .i64 (x5 + 1))
      else
      bif (y1 != 0) then
        q.l0 x0 x1 y1 x3 x4 (wr .i64 (x5 + 1))
      else
      q.l0 x0 x1 x2 x3 x4 (wr .i64 (x5 + 1))
    else
    some (x1, 0)⟩
noncomputable def P12 (n : Nat) : Q12 := Nat.rec ⟨fun _ _ _ _ _ _ => none⟩ (fun _ q => T12 q) n
theorem P12_le : ∀ n, (∀ x0 x1 x2 x3 x4 x5, Le ((P12 n).l0 x0 x1 x2 x3 x4 x5) (L12_0 x0 x1 x2 x3 x4 x5)) := fun n => by
  induction n with
  | zero => exact fun x0 x1 x2 x3 x4 x5 => le_n _
  | succ n ih => exact fun x0 x1 x2 x3 x4 x5 => le_e (L12_0_eq x0 x1 x2 x3 x4 x5) (le_c (le_g (le_g (le_b (N39_le _ _) fun _ => le_c (le_c (ih _ _ _ _ _ _) (ih _ _ _ _ _ _)) (le_c (ih _ _ _ _ _ _) (ih _ _ _ _ _ _))))) (le_r _))
noncomputable def N12 (x0 : List (List S60)) (x1 : S24) : Option (Int × Int) :=
  (N38 x1).bind fun y1 =>
  bif (!y1) then
    some (0, 1)
  else
  (P12 100000).l0 x1 0 0 x0 (x0.length : Int) 0
theorem N12_le (x0 : List (List S60)) (x1 : S24) : Le (N12 x0 x1) (F12 x0 x1) := le_e (F12_eq x0 x1) (le_b (N38_le _) fun _ => le_c (le_r _) ((P12_le 100000) _ _ _ _ _ _))
noncomputable def N45 (x0 : List (List S60)) (x1 : S24) (x2 : S24) : Option (Int) :=
  (N12 x0 x1).bind fun y1 =>
  (N12 x0 x2).bind fun y2 =>
  some (wr .i64 (y1.1 - y2.1))
theorem N45_le (x0 : List (List S60)) (x1 : S24) (x2 : S24) : Le (N45 x0 x1 x2) (F45 x0 x1 x2) := le_e (F45_eq x0 x1 x2) (le_b (N12_le _ _) fun _ => le_b (N12_le _ _) fun _ => le_r _)
noncomputable def N16 (x0 : List S60) (x1 : S24) (x2 : S24) : Option (Int × Int) :=
  (N43 x0 x1 x2).bind fun y1 =>
  bif (y1 != 0) then
    some (0, y1)
  else
  (N44 x0 x1 x2).bind fun y2 =>
  (N9 y2).bind fun y3 =>
  (N45 y3.1 x1 x2).bind fun y4 =>
  some (y4, 0)
theorem N16_le (x0 : List S60) (x1 : S24) (x2 : S24) : Le (N16 x0 x1 x2) (F16 x0 x1 x2) := le_e (F16_eq x0 x1 x2) (le_b (N43_le _ _ _) fun _ => le_c (le_r _) (le_b (N44_le _ _ _) fun _ => le_b (N9_le _) fun _ => le_b (N45_le _ _ _) fun _ => le_r _))
def N113 (x0 : List S60) : Option (List S60) := grd (fit (0 + x0.length) 32) (some x0)
theorem N113_le (x0 : List S60) : Le (N113 x0) (F113 x0) := le_e (F113_eq x0) (le_r _)
structure Q85 where
  l0 : Bool → S60 → List S60 → S60 → Int → Int → Option (List S60)
  l1 : Bool → S60 → List S60 → S60 → Int → Int → Int → Option (List S60)
noncomputable def T85 (q : Q85) : Q85 := ⟨fun x0 x1 x2 x3 x4 x5 =>
    bif (decide (x5 < x4)) then
      bif x0 then
        q.l1 x0 x1 x2 x3 (wr .i64 ((wr .i64 ((x2.length : Int) - 1)) - x5)) x4 x5
      else
      q.l1 x0 x1 x2 x3 x5 x4 x5
    else
    some x2,
  fun x0 x1 x2 x3 x4 x5 x6 =>
    grd (decide (0 ≤ x4)) <|
    grd (decide (x4 < (x2.length : Int))) <|
    (N57 (x2.getD (Int.toNat x4) z0) x3).bind fun y1 =>
    grd (decide (0 ≤ x4)) <|
    grd (decide (x4 < (x2.length : Int))) <|
    (N57 x3 x1).bind fun y2 =>
    q.l0 x0 x1 (List.set x2 (Int.toNat x4) y1) y2 x5 (wr .i64 (x6 + 1))⟩
noncomputable def P85 (n : Nat) : Q85 := Nat.rec ⟨fun _ _ _ _ _ _ => none, fun _ _ _ _ _ _ _ => none⟩ (fun _ q => T85 q) n
theorem P85_le : ∀ n, (∀ x0 x1 x2 x3 x4 x5, Le ((P85 n).l0 x0 x1 x2 x3 x4 x5) (L85_0 x0 x1 x2 x3 x4 x5)) ∧ (∀ x0 x1 x2 x3 x4 x5 x6, Le ((P85 n).l1 x0 x1 x2 x3 x4 x5 x6) (L85_1 x0 x1 x2 x3 x4 x5 x6)) := fun n => by
  induction n with
  | zero => exact ⟨fun x0 x1 x2 x3 x4 x5 => le_n _, fun x0 x1 x2 x3 x4 x5 x6 => le_n _⟩
  | succ n ih => exact ⟨fun x0 x1 x2 x3 x4 x5 => le_e (L85_0_eq x0 x1 x2 x3 x4 x5) (le_c (le_c (ih.2 _ _ _ _ _ _ _) (ih.2 _ _ _ _ _ _ _)) (le_r _)),
    fun x0 x1 x2 x3 x4 x5 x6 => le_e (L85_1_eq x0 x1 x2 x3 x4 x5 x6) (le_g (le_g (le_b (N57_le _ _) fun _ => le_g (le_g (le_b (N57_le _ _) fun _ => ih.1 _ _ _ _ _ _)))))⟩
noncomputable def N85 (x0 : List S60) (x1 : S60) (x2 : Bool) : Option (List S60) :=
  (N113 x0).bind fun y1 =>
  (N51 1).bind fun y2 =>
  (P85 100000).l0 x2 x1 y1 y2 (y1.length : Int) 0
theorem N85_le (x0 : List S60) (x1 : S60) (x2 : Bool) : Le (N85 x0 x1 x2) (F85 x0 x1 x2) := le_e (F85_eq x0 x1 x2) (le_b (N113_le _) fun _ => le_b (N51_le _) fun _ => (P85_le 100000).1 _ _ _ _ _ _)
structure Q86 where
  l0 : S60 → List S60 → Int → Int → Option (List S60)
  l1 : S60 → List S60 → Int → Int → Int → Int → Option (List S60)
noncomputable def T86 (q : Q86) : Q86 := ⟨fun x0 x1 x2 x3 =>
    bif (decide (x3 < x2)) then
      q.l1 x0 x1 x3 (wr .i64 ((x1.length : Int) - 2)) x2 x3
    else
    some x1,
  fun x0 x1 x2 x3 x4 x5 =>
    bif (decide (x3 ≥ x2)) then
      grd (decide (0 ≤ x3)) <|
      grd (decide (x3 < (x1.length : Int))) <|
      grd (decide (0 ≤ (wr .i64 (x3 + 1)))) <|
      grd (decide ((wr .i64 (x3 + 1)) < (x1.length : Int))) <|
      (N57 x0 (x1.getD (Int.toNat (wr .i64 (x3 + 1))) z0)).bind fun y1 =>
      (N56 (x1.getD (Int.toNat x3) z0) y1).bind fun y2 =>
      grd (decide (0 ≤ x3)) <|
      grd (decide (x3 < (x1.length : Int))) <|
      q.l1 x0 (List.set x1 (Int.toNat x3) y2) x2 (wr .i64 (x3 - 1)) x4 x5
    else
    q.l0 x0 x1 x4 (wr .i64 (x5 + 1))⟩
noncomputable def P86 (n : Nat) : Q86 := Nat.rec ⟨fun _ _ _ _ => none, fun _ _ _ _ _ _ => none⟩ (fun _ q => T86 q) n
theorem P86_le : ∀ n, (∀ x0 x1 x2 x3, Le ((P86 n).l0 x0 x1 x2 x3) (L86_0 x0 x1 x2 x3)) ∧ (∀ x0 x1 x2 x3 x4 x5, Le ((P86 n).l1 x0 x1 x2 x3 x4 x5) (L86_1 x0 x1 x2 x3 x4 x5)) := fun n => by
  induction n with
  | zero => exact ⟨fun x0 x1 x2 x3 => le_n _, fun x0 x1 x2 x3 x4 x5 => le_n _⟩
  | succ n ih => exact ⟨fun x0 x1 x2 x3 => le_e (L86_0_eq x0 x1 x2 x3) (le_c (ih.2 _ _ _ _ _ _) (le_r _)),
    fun x0 x1 x2 x3 x4 x5 => le_e (L86_1_eq x0 x1 x2 x3 x4 x5) (le_c (le_g (le_g (le_g (le_g (le_b (N57_le _ _) fun _ => le_b (N56_le _ _) fun _ => le_g (le_g (ih.2 _ _ _ _ _ _))))))) (ih.1 _ _ _ _))⟩
noncomputable def N86 (x0 : List S60) (x1 : S60) : Option (List S60) :=
  (N113 x0).bind fun y1 =>
  (P86 100000).l0 x1 y1 (y1.length : Int) 0
theorem N86_le (x0 : List S60) (x1 : S60) : Le (N86 x0 x1) (F86 x0 x1) := le_e (F86_eq x0 x1) (le_b (N113_le _) fun _ => (P86_le 100000).1 _ _ _ _)
noncomputable def N47 (x0 : List S60) (x1 : S24) (x2 : S24) : Option (List S60) :=
  (N51 x1.f1).bind fun y1 =>
  (N51 x2.f1).bind fun y2 =>
  (N57 y1 y2).bind fun y3 =>
  (N51 x1.f0).bind fun y4 =>
  (N51 x2.f1).bind fun y5 =>
  (N57 y4 y5).bind fun y6 =>
  (N51 x2.f0).bind fun y7 =>
  (N51 x1.f1).bind fun y8 =>
  (N57 y7 y8).bind fun y9 =>
  (N68 y9 y6).bind fun y10 =>
  (N29 x0 []).bind fun y11 =>
  (N85 y11 y3 true).bind fun y12 =>
  (N86 y12 y6).bind fun y13 =>
  (N85 y13 y10 false).bind fun y14 =>
  some y14
theorem N47_le (x0 : List S60) (x1 : S24) (x2 : S24) : Le (N47 x0 x1 x2) (F47 x0 x1 x2) := le_e (F47_eq x0 x1 x2) (le_b (N51_le _) fun _ => le_b (N51_le _) fun _ => le_b (N57_le _ _) fun _ => le_b (N51_le _) fun _ => le_b (N51_le _) fun _ => le_b (N57_le _ _) fun _ => le_b (N51_le _) fun _ => le_b (N51_le _) fun _ => le_b (N57_le _ _) fun _ => le_b (N68_le _ _) fun _ => le_b (N29_le _ _) fun _ => le_b (N85_le _ _ _) fun _ => le_b (N86_le _ _) fun _ => le_b (N85_le _ _ _) fun _ => le_r _)
structure Q46 where
  l0 : List S60 → S24 → S24 → S24 → Option (Bool)
noncomputable def T46 (g : List S60 → Option (Bool)) (q : Q46) : Q46 := ⟨fun x0 x1 x2 x3 =>
    (N9 x0).bind fun y1 =>
    (N45 y1.1 x1 x3).bind fun y2 =>
    bif (decide (y2 < 2)) then
      some false
    else
    (N47 x0 x1 x2).bind fun y3 =>
    (g y3).bind fun y4 =>
    bif y4 then
      some true
    else
    (N47 x0 x2 x3).bind fun y5 =>
    (g y5).bind fun y6 =>
    some y6⟩
noncomputable def P46 (g : List S60 → Option (Bool)) (n : Nat) : Q46 := Nat.rec ⟨fun _ _ _ _ => none⟩ (fun _ q => T46 g q) n
noncomputable def U46 (g : List S60 → Option (Bool)) (x0 : List S60) : Option (Bool) :=
  (N44 x0 (S24.mk 0 1) (S24.mk 1 1)).bind fun y1 =>
  (N39 y1 (S24.mk 0 1)).bind fun y2 =>
  bif (decide (y2 < 0)) then
    some true
  else
  (N39 y1 (S24.mk 1 1)).bind fun y3 =>
  bif (decide (y3 < 0)) then
    some true
  else
  (P46 g 100000).l0 y1 (S24.mk 0 1) (S24.mk 1 2) (S24.mk 1 1)
noncomputable def M46 (n : Nat) : List S60 → Option (Bool) := Nat.rec (fun _ => none) (fun _ g => U46 g) n
theorem P46_le (n : Nat) (g : List S60 → Option (Bool)) (hg : ∀ x0, Le (g x0) (F46r (Gn D fd46 h46 n) x0)) : ∀ m, (∀ x0 x1 x2 x3, Le ((P46 g m).l0 x0 x1 x2 x3) (L46_0 (Gn D fd46 h46 n) x0 x1 x2 x3)) := fun m => by
  induction m with
  | zero => exact fun x0 x1 x2 x3 => le_n _
  | succ m ih => exact fun x0 x1 x2 x3 => le_e (L46_0_eq (Gn D fd46 h46 n) x0 x1 x2 x3) (le_b (N9_le _) fun _ => le_b (N45_le _ _ _) fun _ => le_c (le_r _) (le_b (N47_le _ _ _) fun _ => le_b (hg _) fun _ => le_c (le_r _) (le_b (N47_le _ _ _) fun _ => le_b (hg _) fun _ => le_r _)))
theorem U46_le (n : Nat) (g : List S60 → Option (Bool)) (hg : ∀ x0, Le (g x0) (F46r (Gn D fd46 h46 n) x0)) (x0 : List S60) : Le (U46 g x0) (F46g (Gn D fd46 h46 n) x0) := le_e (F46_eq (Gn D fd46 h46 n) x0) (le_b (N44_le _ _ _) fun _ => le_b (N39_le _ _) fun _ => le_c (le_r _) (le_b (N39_le _ _) fun _ => le_c (le_r _) ((P46_le n g hg 100000) _ _ _ _)))
theorem M46_le : ∀ (n : Nat) (x0 : List S60), Le (M46 n x0) (F46r (Gn D fd46 h46 n) x0) := fun n => by
  induction n with
  | zero => intro x0; exact le_n _
  | succ n ih => intro x0; exact le_e (F46_n n x0) (U46_le n (M46 n) ih x0)
noncomputable def N46 : List S60 → Option (Bool) := M46 1000
theorem N46_le (x0 : List S60) : Le (N46 x0) (F46 x0) := fun y h => F46_of 1000 x0 y (M46_le 1000 x0 y h)
noncomputable def N17 (x0 : List S60) (x1 : S24) (x2 : S24) : Option (Bool × Int) :=
  (N43 x0 x1 x2).bind fun y1 =>
  bif (y1 != 0) then
    some (false, y1)
  else
  (N47 x0 x1 x2).bind fun y2 =>
  (N46 y2).bind fun y3 =>
  some (y3, 0)
theorem N17_le (x0 : List S60) (x1 : S24) (x2 : S24) : Le (N17 x0 x1 x2) (F17 x0 x1 x2) := le_e (F17_eq x0 x1 x2) (le_b (N43_le _ _ _) fun _ => le_c (le_r _) (le_b (N47_le _ _ _) fun _ => le_b (N46_le _) fun _ => le_r _))
structure Q21 where
  l0 : List S60 → List Int → Int → Int → Option (List S60)
noncomputable def T21 (q : Q21) : Q21 := ⟨fun x0 x1 x2 x3 =>
    bif (decide (x3 < x2)) then
      grd (decide (0 ≤ x3)) <|
      grd (decide (x3 < (x1.length : Int))) <|
      (N51 (x1.getD (Int.toNat x3) 0)).bind fun y1 =>
      grd (fit (x0.length + [y1].length) 32) <|
      q.l0 (x0 ++ [y1]) x1 x2 (wr .i64 (x3 + 1))
    else
    (N52 x0).bind fun y2 =>
    some y2⟩
noncomputable def P21 (n : Nat) : Q21 := Nat.rec ⟨fun _ _ _ _ => none⟩ (fun _ q => T21 q) n
theorem P21_le : ∀ n, (∀ x0 x1 x2 x3, Le ((P21 n).l0 x0 x1 x2 x3) (L21_0 x0 x1 x2 x3)) := fun n => by
  induction n with
  | zero => exact fun x0 x1 x2 x3 => le_n _
  | succ n ih => exact fun x0 x1 x2 x3 => le_e (L21_0_eq x0 x1 x2 x3) (le_c (le_g (le_g (le_b (N51_le _) fun _ => le_g (ih _ _ _ _)))) (le_b (N52_le _) fun _ => le_r _))
noncomputable def N21 (x0 : List Int) : Option (List S60) :=
  (P21 100000).l0 [] x0 (x0.length : Int) 0
theorem N21_le (x0 : List Int) : Le (N21 x0) (F21 x0) := le_e (F21_eq x0) ((P21_le 100000) _ _ _ _)
noncomputable def N144 (x0 : S117) (x1 : Int) : Option (S117 × Int × Int) :=
  bif (x1 == 0) then
    some ((S117.mk 0 0), (0, 13))
  else
  bif (decide (x1 = 0)) then
    none
  else
  bif (decide (x1 = 0)) then
    none
  else
  (N138 (Int.tmod x0.f0 x1) x0.f1 x1).bind fun y1 =>
  some ((S117.mk (wr .u64 (Int.tdiv x0.f0 x1)) y1.1), (y1.2, 0))
theorem N144_le (x0 : S117) (x1 : Int) : Le (N144 x0 x1) (F144 x0 x1) := le_e (F144_eq x0 x1) (le_c (le_r _) (le_c (le_r _) (le_c (le_r _) (le_b (N138_le _ _ _) fun _ => le_r _))))
structure Q140 where
  l0 : S117 → S117 → S117 → S117 → Int → Option (S117)
  l1 : S117 → S117 → S117 → S117 → Int → S117 → Option (S117)
noncomputable def T140 (q : Q140) : Q140 := ⟨fun x0 x1 x2 x3 x4 =>
    bif (decide (x4 ≥ 0)) then
      (N105 x1 x4).bind fun y1 =>
      bif (y1.2 == 0) then
        (N106 x0 y1.1).bind fun y2 =>
        bif (decide (y2 ≥ 0)) then
          q.l1 x0 x1 x2 x3 x4 y1.1
        else
        q.l0 x0 x1 x2 x3 (wr .i64 (x4 - 1))
      else
      q.l0 x0 x1 x2 x3 (wr .i64 (x4 - 1))
    else
    some x3,
  fun x0 x1 x2 x3 x4 x5 =>
    (N107 x0 x5).bind fun y1 =>
    grd (decide (0 ≤ x4)) <|
    q.l0 y1.1 x1 x2 (S117.mk x3.f0 (orE Go.IntKind.u64 x3.f1 (shlE Go.IntKind.u64 (1 : Int) x4))) (wr .i64 (x4 - 1))⟩
noncomputable def P140 (n : Nat) : Q140 := Nat.rec ⟨fun _ _ _ _ _ => none, fun _ _ _ _ _ _ => none⟩ (fun _ q => T140 q) n
theorem P140_le : ∀ n, (∀ x0 x1 x2 x3 x4, Le ((P140 n).l0 x0 x1 x2 x3 x4) (L140_0 x0 x1 x2 x3 x4)) ∧ (∀ x0 x1 x2 x3 x4 x5, Le ((P140 n).l1 x0 x1 x2 x3 x4 x5) (L140_1 x0 x1 x2 x3 x4 x5)) := fun n => by
  induction n with
  | zero => exact ⟨fun x0 x1 x2 x3 x4 => le_n _, fun x0 x1 x2 x3 x4 x5 => le_n _⟩
  | succ n ih => exact ⟨fun x0 x1 x2 x3 x4 => le_e (L140_0_eq x0 x1 x2 x3 x4) (le_c (le_b (N105_le _ _) fun _ => le_c (le_b (N106_le _ _) fun _ => le_c (ih.2 _ _ _ _ _ _) (ih.1 _ _ _ _ _)) (ih.1 _ _ _ _ _)) (le_r _)),
    fun x0 x1 x2 x3 x4 x5 => le_e (L140_1_eq x0 x1 x2 x3 x4 x5) (le_b (N107_le _ _) fun _ => le_g (ih.1 _ _ _ _ _))⟩
noncomputable def N140 (x0 : S117) (x1 : S117) : Option (S117) :=
  bif (x1.f0 == 0) then
    (N144 x0 x1.f1).bind fun y1 =>
    some y1.1
  else
  (P140 100000).l0 x0 x1 (S117.mk 0 0) (S117.mk 0 0) 63
theorem N140_le (x0 : S117) (x1 : S117) : Le (N140 x0 x1) (F140 x0 x1) := le_e (F140_eq x0 x1) (le_c (le_b (N144_le _ _) fun _ => le_r _) ((P140_le 100000).1 _ _ _ _ _))
structure Q141 where
  l0 : Bool → S117 → Option (Int × Bool)
noncomputable def T141 (q : Q141) : Q141 := ⟨fun x0 x1 =>
    bif x0 then
      some ((wr .i64 (wr .u64 (0 - x1.f1))), true)
    else
    some ((wr .i64 x1.f1), true)⟩
noncomputable def P141 (n : Nat) : Q141 := Nat.rec ⟨fun _ _ => none⟩ (fun _ q => T141 q) n
theorem P141_le : ∀ n, (∀ x0 x1, Le ((P141 n).l0 x0 x1) (L141_0 x0 x1)) := fun n => by
  induction n with
  | zero => exact fun x0 x1 => le_n _
  | succ n ih => exact fun x0 x1 => le_e (L141_0_eq x0 x1) (le_r _)
noncomputable def N141 (x0 : Bool) (x1 : S117) : Option (Int × Bool) :=
  bif (x1.f0 != 0) then
    some (0, false)
  else
  bif (decide (x1.f1 > 9223372036854775808)) then
    some (0, false)
  else
  bif (x1.f1 == 9223372036854775808) then
    bif (!x0) then
      some (0, false)
    else
    (P141 100000).l0 x0 x1
  else
  (P141 100000).l0 x0 x1
theorem N141_le (x0 : Bool) (x1 : S117) : Le (N141 x0 x1) (F141 x0 x1) := le_e (F141_eq x0 x1) (le_c (le_r _) (le_c (le_r _) (le_c (le_c (le_r _) ((P141_le 100000) _ _)) ((P141_le 100000) _ _))))
structure Q133 where
  l0 : S24 → S117 → Int → Bool → Option (S24 × Int)
noncomputable def T133 (q : Q133) : Q133 := ⟨fun x0 x1 x2 x3 =>
    (N141 false x1).bind fun y1 =>
    bif (!x3) then
      some ((S24.mk 0 0), 2)
    else
    bif (!y1.2) then
      some ((S24.mk 0 0), 2)
    else
    some ((S24.mk x2 y1.1), 0)⟩
noncomputable def P133 (n : Nat) : Q133 := Nat.rec ⟨fun _ _ _ _ => none⟩ (fun _ q => T133 q) n
theorem P133_le : ∀ n, (∀ x0 x1 x2 x3, Le ((P133 n).l0 x0 x1 x2 x3) (L133_0 x0 x1 x2 x3)) := fun n => by
  induction n with
  | zero => exact fun x0 x1 x2 x3 => le_n _
  | succ n ih => exact fun x0 x1 x2 x3 => le_e (L133_0_eq x0 x1 x2 x3) (le_b (N141_le _ _) fun _ => le_r _)
noncomputable def N133 (x0 : S147) (x1 : S147) : Option (S24 × Int) :=
  (N78 x0.f1 x1.f1).bind fun y1 =>
  (N140 x0.f1 y1).bind fun y2 =>
  (N140 x1.f1 y1).bind fun y3 =>
  bif (!(x0.f0 == x1.f0)) then
    (N141 (!((y2.f0 == 0) && (y2.f1 == 0))) y2).bind fun y4 =>
    (P133 100000).l0 (S24.mk 0 0) y3 y4.1 y4.2
  else
  (N141 false y2).bind fun y5 =>
  (P133 100000).l0 (S24.mk 0 0) y3 y5.1 y5.2
theorem N133_le (x0 : S147) (x1 : S147) : Le (N133 x0 x1) (F133 x0 x1) := le_e (F133_eq x0 x1) (le_b (N78_le _ _) fun _ => le_b (N140_le _ _) fun _ => le_b (N140_le _ _) fun _ => le_c (le_b (N141_le _ _) fun _ => (P133_le 100000) _ _ _ _) (le_b (N141_le _ _) fun _ => (P133_le 100000) _ _ _ _))
def N145 (x0 : Int) (x1 : Int) (x2 : Int) : Option (Int × Int) := bits_Add64 x0 x1 x2
theorem N145_le (x0 : Int) (x1 : Int) (x2 : Int) : Le (N145 x0 x1 x2) (F145 x0 x1 x2) := le_e (F145_eq x0 x1 x2) (le_r _)
noncomputable def N142 (x0 : S117) (x1 : S117) : Option (S117 × Int) :=
  (N145 x0.f1 x1.f1 0).bind fun y1 =>
  (N145 x0.f0 x1.f0 y1.2).bind fun y2 =>
  bif (y2.2 != 0) then
    some ((S117.mk 0 0), 2)
  else
  some ((S117.mk y2.1 y1.1), 0)
theorem N142_le (x0 : S117) (x1 : S117) : Le (N142 x0 x1) (F142 x0 x1) := le_e (F142_eq x0 x1) (le_b (N145_le _ _ _) fun _ => le_b (N145_le _ _ _) fun _ => le_r _)
structure Q134 where
  l0 : S147 → S147 → S147 → Option (S147)
noncomputable def T134 (q : Q134) : Q134 := ⟨fun x0 x1 x2 =>
    (N107 x0.f1 x1.f1).bind fun y1 =>
    some (S147.mk x0.f0 y1.1)⟩
noncomputable def P134 (n : Nat) : Q134 := Nat.rec ⟨fun _ _ _ => none⟩ (fun _ q => T134 q) n
theorem P134_le : ∀ n, (∀ x0 x1 x2, Le ((P134 n).l0 x0 x1 x2) (L134_0 x0 x1 x2)) := fun n => by
  induction n with
  | zero => exact fun x0 x1 x2 => le_n _
  | succ n ih => exact fun x0 x1 x2 => le_e (L134_0_eq x0 x1 x2) (le_b (N107_le _ _) fun _ => le_r _)
noncomputable def N134 (x0 : S147) (x1 : S147) : Option (S147) :=
  bif (x0.f0 == x1.f0) then
    (N142 x0.f1 x1.f1).bind fun y1 =>
    some (S147.mk x0.f0 y1.1)
  else
  (N106 x0.f1 x1.f1).bind fun y2 =>
  bif (decide (y2 < 0)) then
    (P134 100000).l0 x1 x0 (S147.mk false (S117.mk 0 0))
  else
  (P134 100000).l0 x0 x1 (S147.mk false (S117.mk 0 0))
theorem N134_le (x0 : S147) (x1 : S147) : Le (N134 x0 x1) (F134 x0 x1) := le_e (F134_eq x0 x1) (le_c (le_b (N142_le _ _) fun _ => le_r _) (le_b (N106_le _ _) fun _ => le_c ((P134_le 100000) _ _ _) ((P134_le 100000) _ _ _)))
structure Q119 where
  l0 : S24 → S24 → S24 → Option (S24 × Int)
noncomputable def T119 (q : Q119) : Q119 := ⟨fun x0 x1 x2 =>
    (N111 x1.f0 x0.f1).bind fun y1 =>
    (N111 x0.f0 x1.f1).bind fun y2 =>
    (N134 y2 (S147.mk (!y1.f0) y1.f1)).bind fun y3 =>
    (N111 x0.f1 x1.f1).bind fun y4 =>
    (N133 y3 y4).bind fun y5 =>
    some y5⟩
noncomputable def P119 (n : Nat) : Q119 := Nat.rec ⟨fun _ _ _ => none⟩ (fun _ q => T119 q) n
theorem P119_le : ∀ n, (∀ x0 x1 x2, Le ((P119 n).l0 x0 x1 x2) (L119_0 x0 x1 x2)) := fun n => by
  induction n with
  | zero => exact fun x0 x1 x2 => le_n _
  | succ n ih => exact fun x0 x1 x2 => le_e (L119_0_eq x0 x1 x2) (le_b (N111_le _ _) fun _ => le_b (N111_le _ _) fun _ => le_b (N134_le _ _) fun _ => le_b (N111_le _ _) fun _ => le_b (N133_le _ _) fun _ => le_r _)
noncomputable def N119 (x0 : S24) (x1 : S24) : Option (S24 × Int) :=
  (N38 x0).bind fun y1 =>
  bif (!y1) then
    some ((S24.mk 0 0), 1)
  else
  (N38 x1).bind fun y2 =>
  bif (!y2) then
    some ((S24.mk 0 0), 1)
  else
  (P119 100000).l0 x0 x1 (S24.mk 0 0)
theorem N119_le (x0 : S24) (x1 : S24) : Le (N119 x0 x1) (F119 x0 x1) := le_e (F119_eq x0 x1) (le_b (N38_le _) fun _ => le_c (le_r _) (le_b (N38_le _) fun _ => le_c (le_r _) ((P119_le 100000) _ _ _)))
noncomputable def N100 (x0 : S100) (x1 : S24) (x2 : S24) : Option (Bool × S100) :=
  (N119 x2 x1).bind fun y1 =>
  bif (y1.2 != 0) then
    some (false, x0)
  else
  (N82 y1.1 x0.f0).bind fun y2 =>
  some ((decide (y2.1 ≤ 0)), x0)
theorem N100_le (x0 : S100) (x1 : S24) (x2 : S24) : Le (N100 x0 x1 x2) (F100 x0 x1 x2) := le_e (F100_eq x0 x1 x2) (le_b (N119_le _ _) fun _ => le_c (le_r _) (le_b (N82_le _ _) fun _ => le_r _))
structure Q120 where
  l0 : S24 → S24 → S24 → Option (S24 × Int)
noncomputable def T120 (q : Q120) : Q120 := ⟨fun x0 x1 x2 =>
    (N111 x0.f0 x1.f1).bind fun y1 =>
    (N111 x1.f0 x0.f1).bind fun y2 =>
    (N134 y1 y2).bind fun y3 =>
    (N111 x0.f1 x1.f1).bind fun y4 =>
    (N133 y3 y4).bind fun y5 =>
    some y5⟩
noncomputable def P120 (n : Nat) : Q120 := Nat.rec ⟨fun _ _ _ => none⟩ (fun _ q => T120 q) n
theorem P120_le : ∀ n, (∀ x0 x1 x2, Le ((P120 n).l0 x0 x1 x2) (L120_0 x0 x1 x2)) := fun n => by
  induction n with
  | zero => exact fun x0 x1 x2 => le_n _
  | succ n ih => exact fun x0 x1 x2 => le_e (L120_0_eq x0 x1 x2) (le_b (N111_le _ _) fun _ => le_b (N111_le _ _) fun _ => le_b (N134_le _ _) fun _ => le_b (N111_le _ _) fun _ => le_b (N133_le _ _) fun _ => le_r _)
noncomputable def N120 (x0 : S24) (x1 : S24) : Option (S24 × Int) :=
  (N38 x0).bind fun y1 =>
  bif (!y1) then
    some ((S24.mk 0 0), 1)
  else
  (N38 x1).bind fun y2 =>
  bif (!y2) then
    some ((S24.mk 0 0), 1)
  else
  (P120 100000).l0 x0 x1 (S24.mk 0 0)
theorem N120_le (x0 : S24) (x1 : S24) : Le (N120 x0 x1) (F120 x0 x1) := le_e (F120_eq x0 x1) (le_b (N38_le _) fun _ => le_c (le_r _) (le_b (N38_le _) fun _ => le_c (le_r _) ((P120_le 100000) _ _ _)))
structure Q121 where
  l0 : S24 → S24 → S24 → Option (S24 × Int)
noncomputable def T121 (q : Q121) : Q121 := ⟨fun x0 x1 x2 =>
    (N111 x0.f0 x1.f0).bind fun y1 =>
    (N111 x0.f1 x1.f1).bind fun y2 =>
    (N133 y1 y2).bind fun y3 =>
    some y3⟩
noncomputable def P121 (n : Nat) : Q121 := Nat.rec ⟨fun _ _ _ => none⟩ (fun _ q => T121 q) n
theorem P121_le : ∀ n, (∀ x0 x1 x2, Le ((P121 n).l0 x0 x1 x2) (L121_0 x0 x1 x2)) := fun n => by
  induction n with
  | zero => exact fun x0 x1 x2 => le_n _
  | succ n ih => exact fun x0 x1 x2 => le_e (L121_0_eq x0 x1 x2) (le_b (N111_le _ _) fun _ => le_b (N111_le _ _) fun _ => le_b (N133_le _ _) fun _ => le_r _)
noncomputable def N121 (x0 : S24) (x1 : S24) : Option (S24 × Int) :=
  (N38 x0).bind fun y1 =>
  bif (!y1) then
    some ((S24.mk 0 0), 1)
  else
  (N38 x1).bind fun y2 =>
  bif (!y2) then
    some ((S24.mk 0 0), 1)
  else
  (P121 100000).l0 x0 x1 (S24.mk 0 0)
theorem N121_le (x0 : S24) (x1 : S24) : Le (N121 x0 x1) (F121 x0 x1) := le_e (F121_eq x0 x1) (le_b (N38_le _) fun _ => le_c (le_r _) (le_b (N38_le _) fun _ => le_c (le_r _) ((P121_le 100000) _ _ _)))
noncomputable def N101 (x0 : S24) (x1 : S24) : Option (S24 × Bool) :=
  (N120 x0 x1).bind fun y1 =>
  bif (y1.2 != 0) then
    some ((S24.mk 0 0), false)
  else
  (N121 y1.1 (S24.mk 1 2)).bind fun y2 =>
  some (y2.1, (y2.2 == 0))
theorem N101_le (x0 : S24) (x1 : S24) : Le (N101 x0 x1) (F101 x0 x1) := le_e (F101_eq x0 x1) (le_b (N120_le _ _) fun _ => le_c (le_r _) (le_b (N121_le _ _) fun _ => le_r _))
structure Q62 where
  l0 : S100 → List S60 → List S60 → S24 → S24 → Option (S100)
  l1 : S100 → List S60 → List S60 → S24 → S24 → Int → Option (S100)
  l2 : S100 → S24 → S24 → Option (S100)
  l3 : S100 → List S60 → S24 → S24 → List S60 → Option (S100)
noncomputable def T62 (g : S100 → List S60 → List S60 → S24 → S24 → Option (S100)) (q : Q62) : Q62 := ⟨fun x0 x1 x2 x3 x4 =>
    (N101 x3 x4).bind fun y1 =>
    bif (!y1.2) then
      some (S100.mk x0.f0 x0.f1 true)
    else
    (N84 x2 y1.1).bind fun y2 =>
    (g x0 x1 y2.1 x3 y1.1).bind fun y3 =>
    bif (decide (y2.2.1 > 0)) then
      grd (fit (y3.f1.length + [(S104.mk y1.1 y1.1)].length) 32) <|
      q.l3 (S100.mk y3.f0 (y3.f1 ++ [(S104.mk y1.1 y1.1)]) y3.f2) x1 x4 y1.1 y2.1
    else
    q.l3 y3 x1 x4 y1.1 y2.1,
  fun x0 x1 x2 x3 x4 x5 =>
    bif (x5 == 1) then
      (N100 x0 x3 x4).bind fun y1 =>
      bif y1.1 then
        (N39 x1 x3).bind fun y2 =>
        bif (y2 != 0) then
          (N39 x1 x4).bind fun y3 =>
          bif (y3 != 0) then
            q.l2 y1.2 x3 x4
          else
          q.l0 y1.2 x1 x2 x3 x4
        else
        q.l0 y1.2 x1 x2 x3 x4
      else
      q.l0 y1.2 x1 x2 x3 x4
    else
    q.l0 x0 x1 x2 x3 x4,
  fun x0 x1 x2 =>
    grd (fit (x0.f1.length + [(S104.mk x1 x2)].length) 32) <|
    some (S100.mk x0.f0 (x0.f1 ++ [(S104.mk x1 x2)]) x0.f2),
  fun x0 x1 x2 x3 x4 =>
    (g x0 x1 x4 x3 x2).bind fun y1 =>
    some y1⟩
noncomputable def P62 (g : S100 → List S60 → List S60 → S24 → S24 → Option (S100)) (n : Nat) : Q62 := Nat.rec ⟨fun _ _ _ _ _ => none, fun _ _ _ _ _ _ => none, fun _ _ _ => none, fun _ _ _ _ _ => none⟩ (fun _ q => T62 g q) n
noncomputable def U62 (g : S100 → List S60 → List S60 → S24 → S24 → Option (S100)) (x0 : S100) (x1 : List S60) (x2 : List S60) (x3 : S24) (x4 : S24) : Option (S100) :=
  (N9 x2).bind fun y1 =>
  (N45 y1.1 x3 x4).bind fun y2 =>
  bif (y2 == 0) then
    some x0
  else
  bif x0.f2 then
    some x0
  else
  (P62 g 100000).l1 x0 x1 x2 x3 x4 y2
noncomputable def M62 (n : Nat) : S100 → List S60 → List S60 → S24 → S24 → Option (S100) := Nat.rec (fun _ _ _ _ _ => none) (fun _ g => U62 g) n
theorem P62_le (n : Nat) (g : S100 → List S60 → List S60 → S24 → S24 → Option (S100)) (hg : ∀ x0 x1 x2 x3 x4, Le (g x0 x1 x2 x3 x4) (F62r (Gn D fd62 h62 n) x0 x1 x2 x3 x4)) : ∀ m, (∀ x0 x1 x2 x3 x4, Le ((P62 g m).l0 x0 x1 x2 x3 x4) (L62_0 (Gn D fd62 h62 n) x0 x1 x2 x3 x4)) ∧ (∀ x0 x1 x2 x3 x4 x5, Le ((P62 g m).l1 x0 x1 x2 x3 x4 x5) (L62_1 (Gn D fd62 h62 n) x0 x1 x2 x3 x4 x5)) ∧ (∀ x0 x1 x2, Le ((P62 g m).l2 x0 x1 x2) (L62_2 (Gn D fd62 h62 n) x0 x1 x2)) ∧ (∀ x0 x1 x2 x3 x4, Le ((P62 g m).l3 x0 x1 x2 x3 x4) (L62_3 (Gn D fd62 h62 n) x0 x1 x2 x3 x4)) := fun m => by
  induction m with
  | zero => exact ⟨fun x0 x1 x2 x3 x4 => le_n _, fun x0 x1 x2 x3 x4 x5 => le_n _, fun x0 x1 x2 => le_n _, fun x0 x1 x2 x3 x4 => le_n _⟩
  | succ m ih => exact ⟨fun x0 x1 x2 x3 x4 => le_e (L62_0_eq (Gn D fd62 h62 n) x0 x1 x2 x3 x4) (le_b (N101_le _ _) fun _ => le_c (le_r _) (le_b (N84_le _ _) fun _ => le_b (hg _ _ _ _ _) fun _ => le_c (le_g (ih.2.2.2 _ _ _ _ _)) (ih.2.2.2 _ _ _ _ _))),
    fun x0 x1 x2 x3 x4 x5 => le_e (L62_1_eq (Gn D fd62 h62 n) x0 x1 x2 x3 x4 x5) (le_c (le_b (N100_le _ _ _) fun _ => le_c (le_b (N39_le _ _) fun _ => le_c (le_b (N39_le _ _) fun _ => le_c (ih.2.2.1 _ _ _) (ih.1 _ _ _ _ _)) (ih.1 _ _ _ _ _)) (ih.1 _ _ _ _ _)) (ih.1 _ _ _ _ _)),
    fun x0 x1 x2 => le_e (L62_2_eq (Gn D fd62 h62 n) x0 x1 x2) (le_r _),
    fun x0 x1 x2 x3 x4 => le_e (L62_3_eq (Gn D fd62 h62 n) x0 x1 x2 x3 x4) (le_b (hg _ _ _ _ _) fun _ => le_r _)⟩
theorem U62_le (n : Nat) (g : S100 → List S60 → List S60 → S24 → S24 → Option (S100)) (hg : ∀ x0 x1 x2 x3 x4, Le (g x0 x1 x2 x3 x4) (F62r (Gn D fd62 h62 n) x0 x1 x2 x3 x4)) (x0 : S100) (x1 : List S60) (x2 : List S60) (x3 : S24) (x4 : S24) : Le (U62 g x0 x1 x2 x3 x4) (F62g (Gn D fd62 h62 n) x0 x1 x2 x3 x4) := le_e (F62_eq (Gn D fd62 h62 n) x0 x1 x2 x3 x4) (le_b (N9_le _) fun _ => le_b (N45_le _ _ _) fun _ => le_c (le_r _) (le_c (le_r _) ((P62_le n g hg 100000).2.1 _ _ _ _ _ _)))
theorem M62_le : ∀ (n : Nat) (x0 : S100) (x1 : List S60) (x2 : List S60) (x3 : S24) (x4 : S24), Le (M62 n x0 x1 x2 x3 x4) (F62r (Gn D fd62 h62 n) x0 x1 x2 x3 x4) := fun n => by
  induction n with
  | zero => intro x0 x1 x2 x3 x4; exact le_n _
  | succ n ih => intro x0 x1 x2 x3 x4; exact le_e (F62_n n x0 x1 x2 x3 x4) (U62_le n (M62 n) ih x0 x1 x2 x3 x4)
noncomputable def N62 : S100 → List S60 → List S60 → S24 → S24 → Option (S100) := M62 1000
theorem N62_le (x0 : S100) (x1 : List S60) (x2 : List S60) (x3 : S24) (x4 : S24) : Le (N62 x0 x1 x2 x3 x4) (F62 x0 x1 x2 x3 x4) := fun y h => F62_of 1000 x0 x1 x2 x3 x4 y (M62_le 1000 x0 x1 x2 x3 x4 y h)
def N63 (x0 : List S104) : Option (List S104) := grd (fit (0 + x0.length) 32) (some x0)
theorem N63_le (x0 : List S104) : Le (N63 x0) (F63 x0) := le_e (F63_eq x0) (le_r _)
structure Q26 where
  l0 : List S60 → S24 → S24 → S24 → Option (List S104 × Int)
noncomputable def T26 (q : Q26) : Q26 := ⟨fun x0 x1 x2 x3 =>
    (N43 x0 x1 x2).bind fun y1 =>
    bif (y1 != 0) then
      some ([], y1)
    else
    (N29 x0 []).bind fun y2 =>
    (N44 x0 x1 x2).bind fun y3 =>
    (N62 (S100.mk x3 [] false) y2 y3 x1 x2).bind fun y4 =>
    bif y4.f2 then
      some ([], 2)
    else
    (N63 y4.f1).bind fun y5 =>
    some (y5, 0)⟩
noncomputable def P26 (n : Nat) : Q26 := Nat.rec ⟨fun _ _ _ _ => none⟩ (fun _ q => T26 q) n
theorem P26_le : ∀ n, (∀ x0 x1 x2 x3, Le ((P26 n).l0 x0 x1 x2 x3) (L26_0 x0 x1 x2 x3)) := fun n => by
  induction n with
  | zero => exact fun x0 x1 x2 x3 => le_n _
  | succ n ih => exact fun x0 x1 x2 x3 => le_e (L26_0_eq x0 x1 x2 x3) (le_b (N43_le _ _ _) fun _ => le_c (le_r _) (le_b (N29_le _ _) fun _ => le_b (N44_le _ _ _) fun _ => le_b (N62_le _ _ _ _ _) fun _ => le_c (le_r _) (le_b (N63_le _) fun _ => le_r _)))
noncomputable def N26 (x0 : List S60) (x1 : S24) (x2 : S24) (x3 : S24) : Option (List S104 × Int) :=
  (N38 x3).bind fun y1 =>
  bif (!y1) then
    some ([], 1)
  else
  bif (decide (x3.f0 ≤ 0)) then
    some ([], 1)
  else
  (P26 100000).l0 x0 x1 x2 x3
theorem N26_le (x0 : List S60) (x1 : S24) (x2 : S24) (x3 : S24) : Le (N26 x0 x1 x2 x3) (F26 x0 x1 x2 x3) := le_e (F26_eq x0 x1 x2 x3) (le_b (N38_le _) fun _ => le_c (le_r _) (le_c (le_r _) ((P26_le 100000) _ _ _ _)))
noncomputable def N6 : Option (Bool) :=
  (N21 [(-2), (0 : Int), (1 : Int)]).bind fun y1 =>
  (N16 y1 (S24.mk 0 1) (S24.mk 2 1)).bind fun y2 =>
  (N17 y1 (S24.mk 0 1) (S24.mk 2 1)).bind fun y3 =>
  (N26 y1 (S24.mk 0 1) (S24.mk 2 1) (S24.mk 1 100)).bind fun y4 =>
  (N9 y1).bind fun y5 =>
  bif (y2.1 == 1) then
    bif (y2.2 == 0) then
      bif y3.1 then
        bif (y3.2 == 0) then
          bif ((y4.1.length : Int) == 1) then
            bif (y4.2 == 0) then
              bif ((y5.1.length : Int) == 3) then
                some (y5.2 == 0)
              else
              some false
            else
            some false
          else
          some false
        else
        some false
      else
      some false
    else
    some false
  else
  some false
theorem N6_le : Le (N6) (F6) := le_e (F6_eq) (le_b (N21_le _) fun _ => le_b (N16_le _ _ _) fun _ => le_b (N17_le _ _ _) fun _ => le_b (N26_le _ _ _ _) fun _ => le_b (N9_le _) fun _ => le_r _)
end Go.Proofs.YtidiifdiilahdaaGreatDoor.Ev
