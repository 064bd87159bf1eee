/- Printed by a program of this claim: the functions once more, as plain functions with fuel, which the kernel runs. -/
import Derived.Test.YtalghbndblgndaaEvG
namespace Go.Proofs.Ytalghbndblgndaa.Ev
open Go
set_option linter.unusedVariables false
def Le {α : Type} (a b : Option α) : Prop := ∀ y, a = some y → b = some y
theorem le_r {α : Type} (a : Option α) : Le a a := fun _ h => h
theorem le_n {α : Type} (a : Option α) : Le none a := fun _ h => by cases h
theorem le_b {α β : Type} {a a' : Option α} {f f' : α → Option β} (h : Le a a') (k : ∀ x, Le (f x) (f' x)) : Le (a.bind f) (a'.bind f') := fun y q => by
  cases ha : a with
  | none => rw [ha] at q; cases q
  | some x => rw [h x ha]; rw [ha] at q; exact k x y q
theorem le_c {α : Type} {c : Bool} {a a' b b' : Option α} (h : Le a a') (k : Le b b') : Le (cond c a b) (cond c a' b') := by cases c; exact k; exact h
theorem le_g {α : Type} {c : Bool} {a a' : Option α} (h : Le a a') : Le (grd c a) (grd c a') := by cases c; exact le_n _; exact h
theorem le_e {α : Type} {a b b' : Option α} (e : b = b') (h : Le a b') : Le a b := e ▸ h
structure Q133 where
  l0 : List Int → Int → Int → Option (Bool)
noncomputable def T133_0 (q : Q133) (x0 : List Int) (x1 : Int) (x2 : Int) : Option (Bool) :=
  bif (decide (x2 < x1)) then
    grd (decide (0 ≤ x2)) <|
    grd (decide (x2 < (x0.length : Int))) <|
    bif (decide ((x0.getD (Int.toNat x2) 0) < (-32768))) then
      some false
    else
    bif (decide ((x0.getD (Int.toNat x2) 0) > 32767)) then
      some false
    else
    q.l0 x0 x1 (wr .i64 (x2 + 1))
  else
  some true
noncomputable def P133 (n : Nat) : Q133 := Nat.rec ⟨fun _ _ _ => none⟩ (fun _ q => ⟨T133_0 q⟩) n
theorem P133_le : ∀ n, (∀ x0 x1 x2, Le ((P133 n).l0 x0 x1 x2) (L133_0 x0 x1 x2)) := fun n => by
  induction n with
  | zero => exact fun x0 x1 x2 => le_n _
  | succ n ih => exact fun x0 x1 x2 => by show Le (T133_0 (P133 n) x0 x1 x2) _; rw [L133_0_eq]; unfold T133_0; exact le_c (le_g (le_g (le_c (le_r _) (le_c (le_r _) (ih _ _ _))))) (le_r _)
noncomputable def N133 (x0 : List Int) : Option (Bool) :=
  (P133 100000).l0 x0 (x0.length : Int) 0
theorem N133_le (x0 : List Int) : Le (N133 x0) (F133 x0) := by rw [F133_eq]; unfold N133; exact (P133_le 100000) _ _ _
noncomputable def N85 (x0 : S47) (x1 : Int) : Option (Bool) :=
  bif (decide (x0.f0 ≥ 0)) then
    bif (decide (x0.f0 < x1)) then
      (N133 [x0.f1, x0.f2, x0.f3, x0.f4, x0.f5, x0.f6]).bind fun y1 =>
      some y1
    else
    some false
  else
  some false
theorem N85_le (x0 : S47) (x1 : Int) : Le (N85 x0 x1) (F85 x0 x1) := by rw [F85_eq]; unfold N85; exact le_c (le_c (le_b (N133_le _) fun _ => le_r _) (le_r _)) (le_r _)
structure Q35 where
  l0 : Int → List S47 → Int → Int → Option (Bool)
noncomputable def T35_0 (q : Q35) (x0 : Int) (x1 : List S47) (x2 : Int) (x3 : Int) : Option (Bool) :=
  bif (decide (x3 < x2)) then
    grd (decide (0 ≤ x3)) <|
    grd (decide (x3 < (x1.length : Int))) <|
    (N85 (x1.getD (Int.toNat x3) z0) x0).bind fun y1 =>
    bif (!y1) then
      some false
    else
    q.l0 x0 x1 x2 (wr .i64 (x3 + 1))
  else
  some true
noncomputable def P35 (n : Nat) : Q35 := Nat.rec ⟨fun _ _ _ _ => none⟩ (fun _ q => ⟨T35_0 q⟩) n
theorem P35_le : ∀ n, (∀ x0 x1 x2 x3, Le ((P35 n).l0 x0 x1 x2 x3) (L35_0 x0 x1 x2 x3)) := fun n => by
  induction n with
  | zero => exact fun x0 x1 x2 x3 => le_n _
  | succ n ih => exact fun x0 x1 x2 x3 => by show Le (T35_0 (P35 n) x0 x1 x2 x3) _; rw [L35_0_eq]; unfold T35_0; exact le_c (le_g (le_g (le_b (N85_le _ _) fun _ => le_c (le_r _) (ih _ _ _ _)))) (le_r _)
noncomputable def N35 (x0 : List S47) (x1 : Int) : Option (Bool) :=
  bif (decide (x1 < 1)) then
    some false
  else
  bif (decide (x1 > 1024)) then
    some false
  else
  bif ((x0.length : Int) == 0) then
    some false
  else
  bif (decide ((x0.length : Int) > 64)) then
    some false
  else
  (P35 100000).l0 x1 x0 (x0.length : Int) 0
theorem N35_le (x0 : List S47) (x1 : Int) : Le (N35 x0 x1) (F35 x0 x1) := by rw [F35_eq]; unfold N35; exact le_c (le_r _) (le_c (le_r _) (le_c (le_r _) (le_c (le_r _) ((P35_le 100000) _ _ _ _))))
noncomputable def N96 (x0 : Int) : Option (ByteArray) :=
  some (ofBytes [(wr .u8 (shrE Go.IntKind.u16 x0 (8 : Int))), (wr .u8 x0)])
theorem N96_le (x0 : Int) : Le (N96 x0) (F96 x0) := by rw [F96_eq]; unfold N96; exact le_r _
structure Q80 where
  l0 : ByteArray → List Int → Int → Int → Option (ByteArray)
noncomputable def T80_0 (q : Q80) (x0 : ByteArray) (x1 : List Int) (x2 : Int) (x3 : Int) : Option (ByteArray) :=
  bif (decide (x3 < x2)) then
    grd (decide (0 ≤ x3)) <|
    grd (decide (x3 < (x1.length : Int))) <|
    (N96 (wr .u16 (x1.getD (Int.toNat x3) 0))).bind fun y1 =>
    grd (fitS ((ByteArray.size x0) + (ByteArray.size y1))) <|
    q.l0 (x0 ++ y1) x1 x2 (wr .i64 (x3 + 1))
  else
  some x0
noncomputable def P80 (n : Nat) : Q80 := Nat.rec ⟨fun _ _ _ _ => none⟩ (fun _ q => ⟨T80_0 q⟩) n
theorem P80_le : ∀ n, (∀ x0 x1 x2 x3, Le ((P80 n).l0 x0 x1 x2 x3) (L80_0 x0 x1 x2 x3)) := fun n => by
  induction n with
  | zero => exact fun x0 x1 x2 x3 => le_n _
  | succ n ih => exact fun x0 x1 x2 x3 => by show Le (T80_0 (P80 n) x0 x1 x2 x3) _; rw [L80_0_eq]; unfold T80_0; exact le_c (le_g (le_g (le_b (N96_le _) fun _ => le_g (ih _ _ _ _)))) (le_r _)
noncomputable def N80 (x0 : List Int) : Option (ByteArray) :=
  (P80 100000).l0 ByteArray.empty x0 (x0.length : Int) 0
theorem N80_le (x0 : List Int) : Le (N80 x0) (F80 x0) := by rw [F80_eq]; unfold N80; exact (P80_le 100000) _ _ _ _
def N81 (x0 : ByteArray) (x1 : Int) : Option (ByteArray) := strings_Repeat x0 x1
theorem N81_le (x0 : ByteArray) (x1 : Int) : Le (N81 x0 x1) (F81 x0 x1) := le_e (F81_eq x0 x1) (le_r _)
structure Q131 where
  l0 : S47 → Option (Int × ByteArray)
  l1 : S47 → Option (Int × ByteArray)
noncomputable def T131_0 (q : Q131) (x0 : S47) : Option (Int × ByteArray) :=
  (N80 [x0.f3, x0.f4, x0.f5, x0.f6]).bind fun y1 =>
  some (128, y1)
noncomputable def T131_1 (q : Q131) (x0 : S47) : Option (Int × ByteArray) :=
  bif (x0.f3 != x0.f6) then
    (N80 [x0.f3, x0.f6]).bind fun y1 =>
    some (64, y1)
  else
  bif (x0.f3 != 16384) then
    (N80 [x0.f3]).bind fun y2 =>
    some (8, y2)
  else
  some (0, ByteArray.empty)
noncomputable def P131 (n : Nat) : Q131 := Nat.rec ⟨fun _ => none, fun _ => none⟩ (fun _ q => ⟨T131_0 q, T131_1 q⟩) n
theorem P131_le : ∀ n, (∀ x0, Le ((P131 n).l0 x0) (L131_0 x0)) ∧ (∀ x0, Le ((P131 n).l1 x0) (L131_1 x0)) := fun n => by
  induction n with
  | zero => exact ⟨fun x0 => le_n _, fun x0 => le_n _⟩
  | succ n ih => exact ⟨fun x0 => by show Le (T131_0 (P131 n) x0) _; rw [L131_0_eq]; unfold T131_0; exact le_b (N80_le _) fun _ => le_r _,
    fun x0 => by show Le (T131_1 (P131 n) x0) _; rw [L131_1_eq]; unfold T131_1; exact le_c (le_b (N80_le _) fun _ => le_r _) (le_c (le_b (N80_le _) fun _ => le_r _) (le_r _))⟩
noncomputable def N131 (x0 : S47) : Option (Int × ByteArray) :=
  bif (x0.f4 != 0) then
    (P131 100000).l0 x0
  else
  bif (x0.f5 != 0) then
    (P131 100000).l0 x0
  else
  (P131 100000).l1 x0
theorem N131_le (x0 : S47) : Le (N131 x0) (F131 x0) := by rw [F131_eq]; unfold N131; exact le_c ((P131_le 100000).1 _) (le_c ((P131_le 100000).1 _) ((P131_le 100000).2 _))
noncomputable def N132 (x0 : Int) : Option (Bool) :=
  some (x0 == (wr .i64 (wr .i8 x0)))
theorem N132_le (x0 : Int) : Le (N132 x0) (F132 x0) := by rw [F132_eq]; unfold N132; exact le_r _
structure Q82 where
  l0 : S47 → Int → ByteArray → Option (ByteArray)
  l1 : S47 → Int → ByteArray → ByteArray → Option (ByteArray)
  l2 : S47 → Int → ByteArray → Option (ByteArray)
noncomputable def T82_0 (q : Q82) (x0 : S47) (x1 : Int) (x2 : ByteArray) : Option (ByteArray) :=
  (N132 x0.f1).bind fun y1 =>
  bif (!y1) then
    q.l2 x0 x1 x2
  else
  (N132 x0.f2).bind fun y2 =>
  bif (!y2) then
    q.l2 x0 x1 x2
  else
  q.l1 x0 x1 x2 (ofBytes [(wr .u8 x0.f1), (wr .u8 x0.f2)])
noncomputable def T82_1 (q : Q82) (x0 : S47) (x1 : Int) (x2 : ByteArray) (x3 : ByteArray) : Option (ByteArray) :=
  (N80 [x1, x0.f0]).bind fun y1 =>
  grd (fitS ((ByteArray.size y1) + (ByteArray.size x3))) <|
  grd (fitS ((ByteArray.size (y1 ++ x3)) + (ByteArray.size x2))) <|
  some ((y1 ++ x3) ++ x2)
noncomputable def T82_2 (q : Q82) (x0 : S47) (x1 : Int) (x2 : ByteArray) : Option (ByteArray) :=
  (N80 [x0.f1, x0.f2]).bind fun y1 =>
  q.l1 x0 (orE Go.IntKind.i64 x1 (1 : Int)) x2 y1
noncomputable def P82 (n : Nat) : Q82 := Nat.rec ⟨fun _ _ _ => none, fun _ _ _ _ => none, fun _ _ _ => none⟩ (fun _ q => ⟨T82_0 q, T82_1 q, T82_2 q⟩) n
theorem P82_le : ∀ n, (∀ x0 x1 x2, Le ((P82 n).l0 x0 x1 x2) (L82_0 x0 x1 x2)) ∧ (∀ x0 x1 x2 x3, Le ((P82 n).l1 x0 x1 x2 x3) (L82_1 x0 x1 x2 x3)) ∧ (∀ x0 x1 x2, Le ((P82 n).l2 x0 x1 x2) (L82_2 x0 x1 x2)) := fun n => by
  induction n with
  | zero => exact ⟨fun x0 x1 x2 => le_n _, fun x0 x1 x2 x3 => le_n _, fun x0 x1 x2 => le_n _⟩
  | succ n ih => exact ⟨fun x0 x1 x2 => by show Le (T82_0 (P82 n) x0 x1 x2) _; rw [L82_0_eq]; unfold T82_0; exact le_b (N132_le _) fun _ => le_c (ih.2.2 _ _ _) (le_b (N132_le _) fun _ => le_c (ih.2.2 _ _ _) (ih.2.1 _ _ _ _)),
    fun x0 x1 x2 x3 => by show Le (T82_1 (P82 n) x0 x1 x2 x3) _; rw [L82_1_eq]; unfold T82_1; exact le_b (N80_le _) fun _ => le_r _,
    fun x0 x1 x2 => by show Le (T82_2 (P82 n) x0 x1 x2) _; rw [L82_2_eq]; unfold T82_2; exact le_b (N80_le _) fun _ => ih.2.1 _ _ _ _⟩
noncomputable def N82 (x0 : S47) (x1 : Bool) : Option (ByteArray) :=
  (N131 x0).bind fun y1 =>
  bif x1 then
    (P82 100000).l0 x0 (orE Go.IntKind.i64 (orE Go.IntKind.i64 y1.1 (2 : Int)) (32 : Int)) y1.2
  else
  (P82 100000).l0 x0 (orE Go.IntKind.i64 y1.1 (2 : Int)) y1.2
theorem N82_le (x0 : S47) (x1 : Bool) : Le (N82 x0 x1) (F82 x0 x1) := by rw [F82_eq]; unfold N82; exact le_b (N131_le _) fun _ => le_c ((P82_le 100000).1 _ _ _) ((P82_le 100000).1 _ _ _)
structure Q33 where
  l0 : List S47 → ByteArray → List S47 → Int → Int → Option (ByteArray × Int)
noncomputable def T33_0 (q : Q33) (x0 : List S47) (x1 : ByteArray) (x2 : List S47) (x3 : Int) (x4 : Int) : Option (ByteArray × Int) :=
  bif (decide (x4 < x3)) then
    grd (decide (0 ≤ x4)) <|
    grd (decide (x4 < (x2.length : Int))) <|
    (N82 (x2.getD (Int.toNat x4) z0) (decide (x4 < (wr .i64 ((x0.length : Int) - 1))))).bind fun y1 =>
    grd (fitS ((ByteArray.size x1) + (ByteArray.size y1))) <|
    q.l0 x0 (x1 ++ y1) x2 x3 (wr .i64 (x4 + 1))
  else
  some (x1, 0)
noncomputable def P33 (n : Nat) : Q33 := Nat.rec ⟨fun _ _ _ _ _ => none⟩ (fun _ q => ⟨T33_0 q⟩) n
theorem P33_le : ∀ n, (∀ x0 x1 x2 x3 x4, Le ((P33 n).l0 x0 x1 x2 x3 x4) (L33_0 x0 x1 x2 x3 x4)) := fun n => by
  induction n with
  | zero => exact fun x0 x1 x2 x3 x4 => le_n _
  | succ n ih => exact fun x0 x1 x2 x3 x4 => by show Le (T33_0 (P33 n) x0 x1 x2 x3 x4) _; rw [L33_0_eq]; unfold T33_0; exact le_c (le_g (le_g (le_b (N82_le _ _) fun _ => le_g (ih _ _ _ _ _)))) (le_r _)
noncomputable def N33 (x0 : List S47) : Option (ByteArray × Int) :=
  (N35 x0 1024).bind fun y1 =>
  bif (!y1) then
    some (ByteArray.empty, 1)
  else
  (N80 [(-1)]).bind fun y2 =>
  (N81 (ofBytes [0]) 8).bind fun y3 =>
  grd (fitS ((ByteArray.size y2) + (ByteArray.size y3))) <|
  (P33 100000).l0 x0 (y2 ++ y3) x0 (x0.length : Int) 0
theorem N33_le (x0 : List S47) : Le (N33 x0) (F33 x0) := by rw [F33_eq]; unfold N33; exact le_b (N35_le _ _) fun _ => le_c (le_r _) (le_b (N80_le _) fun _ => le_b (N81_le _ _) fun _ => le_g ((P33_le 100000) _ _ _ _ _))
structure Q138 where
  l0 : ByteArray → Int → Int → Option (ByteArray × Int)
noncomputable def T138_0 (q : Q138) (x0 : ByteArray) (x1 : Int) (x2 : Int) : Option (ByteArray × Int) :=
  grd (decide (0 ≤ (wr .i64 (x1 + x2)))) <|
  grd (decide ((wr .i64 (x1 + x2)) ≤ ((ByteArray.size x0) : Int))) <|
  grd (decide (0 ≤ x1)) <|
  grd (decide (x1 ≤ (wr .i64 (x1 + x2)))) <|
  some ((ByteArray.extract x0 (Int.toNat x1) (Int.toNat (wr .i64 (x1 + x2)))), 0)
noncomputable def P138 (n : Nat) : Q138 := Nat.rec ⟨fun _ _ _ => none⟩ (fun _ q => ⟨T138_0 q⟩) n
theorem P138_le : ∀ n, (∀ x0 x1 x2, Le ((P138 n).l0 x0 x1 x2) (L138_0 x0 x1 x2)) := fun n => by
  induction n with
  | zero => exact fun x0 x1 x2 => le_n _
  | succ n ih => exact fun x0 x1 x2 => by show Le (T138_0 (P138 n) x0 x1 x2) _; rw [L138_0_eq]; unfold T138_0; exact le_r _
noncomputable def N138 (x0 : ByteArray) (x1 : Int) (x2 : Int) : Option (ByteArray × Int) :=
  bif (decide (x1 < 0)) then
    some (ByteArray.empty, 3)
  else
  bif (decide (x2 < 0)) then
    some (ByteArray.empty, 3)
  else
  bif (decide (x1 > ((ByteArray.size x0) : Int))) then
    some (ByteArray.empty, 3)
  else
  bif (decide (x2 > (wr .i64 (((ByteArray.size x0) : Int) - x1)))) then
    some (ByteArray.empty, 3)
  else
  (P138 100000).l0 x0 x1 x2
theorem N138_le (x0 : ByteArray) (x1 : Int) (x2 : Int) : Le (N138 x0 x1 x2) (F138 x0 x1 x2) := by rw [F138_eq]; unfold N138; exact le_c (le_r _) (le_c (le_r _) (le_c (le_r _) (le_c (le_r _) ((P138_le 100000) _ _ _))))
structure Q139 where
  l0 : ByteArray → Int → Int → Int → Option (Int)
noncomputable def T139_0 (q : Q139) (x0 : ByteArray) (x1 : Int) (x2 : Int) (x3 : Int) : Option (Int) :=
  bif (decide (x3 < x2)) then
    grd (decide (0 ≤ x3)) <|
    grd (decide (x3 < ((ByteArray.size x0) : Int))) <|
    q.l0 x0 (orE Go.IntKind.u32 (shlE Go.IntKind.u32 x1 (8 : Int)) (wr .u32 (btE x0 (Int.toNat x3)))) x2 (wr .i64 (x3 + 1))
  else
  some x1
noncomputable def P139 (n : Nat) : Q139 := Nat.rec ⟨fun _ _ _ _ => none⟩ (fun _ q => ⟨T139_0 q⟩) n
theorem P139_le : ∀ n, (∀ x0 x1 x2 x3, Le ((P139 n).l0 x0 x1 x2 x3) (L139_0 x0 x1 x2 x3)) := fun n => by
  induction n with
  | zero => exact fun x0 x1 x2 x3 => le_n _
  | succ n ih => exact fun x0 x1 x2 x3 => by show Le (T139_0 (P139 n) x0 x1 x2 x3) _; rw [L139_0_eq]; unfold T139_0; exact le_c (le_g (le_g (ih _ _ _ _))) (le_r _)
noncomputable def N139 (x0 : ByteArray) : Option (Int) :=
  (P139 100000).l0 x0 0 ((ByteArray.size x0) : Int) 0
theorem N139_le (x0 : ByteArray) : Le (N139 x0) (F139 x0) := by rw [F139_eq]; unfold N139; exact (P139_le 100000) _ _ _ _
noncomputable def N88 (x0 : ByteArray) (x1 : Int) : Option (Int × Int) :=
  (N138 x0 x1 2).bind fun y1 =>
  (N139 y1.1).bind fun y2 =>
  some ((wr .u16 y2), y1.2)
theorem N88_le (x0 : ByteArray) (x1 : Int) : Le (N88 x0 x1) (F88 x0 x1) := by rw [F88_eq]; unfold N88; exact le_b (N138_le _ _ _) fun _ => le_b (N139_le _) fun _ => le_r _
noncomputable def N39 (x0 : ByteArray) : Option (Bool) :=
  (N88 x0 0).bind fun y1 =>
  bif (y1.2 == 0) then
    some (decide ((wr .i16 y1.1) < 0))
  else
  some false
theorem N39_le (x0 : ByteArray) : Le (N39 x0) (F39 x0) := by rw [F39_eq]; unfold N39; exact le_b (N88_le _ _) fun _ => le_r _
noncomputable def N70 (x0 : ByteArray) : Option (Option S192) :=
  some (Option.some (S192.mk x0 0 false))
theorem N70_le (x0 : ByteArray) : Le (N70 x0) (F70 x0) := by rw [F70_eq]; unfold N70; exact le_r _
noncomputable def N73 (x0 : S192) : Option (Int × S192) :=
  bif x0.f2 then
    some (3, x0)
  else
  some (0, x0)
theorem N73_le (x0 : S192) : Le (N73 x0) (F73 x0) := by rw [F73_eq]; unfold N73; exact le_r _
structure Q120 where
  l0 : S192 → Int → Option (ByteArray × S192)
noncomputable def T120_0 (q : Q120) (x0 : S192) (x1 : Int) : Option (ByteArray × S192) :=
  (N138 x0.f0 x0.f1 x1).bind fun y1 =>
  bif (y1.2 != 0) then
    some (ByteArray.empty, (S192.mk x0.f0 x0.f1 true))
  else
  some (y1.1, (S192.mk x0.f0 (wr .i64 (x0.f1 + x1)) x0.f2))
noncomputable def P120 (n : Nat) : Q120 := Nat.rec ⟨fun _ _ => none⟩ (fun _ q => ⟨T120_0 q⟩) n
theorem P120_le : ∀ n, (∀ x0 x1, Le ((P120 n).l0 x0 x1) (L120_0 x0 x1)) := fun n => by
  induction n with
  | zero => exact fun x0 x1 => le_n _
  | succ n ih => exact fun x0 x1 => by show Le (T120_0 (P120 n) x0 x1) _; rw [L120_0_eq]; unfold T120_0; exact le_b (N138_le _ _ _) fun _ => le_r _
noncomputable def N120 (x0 : S192) (x1 : Int) : Option (ByteArray × S192) :=
  bif x0.f2 then
    some (ByteArray.empty, x0)
  else
  (P120 100000).l0 x0 x1
theorem N120_le (x0 : S192) (x1 : Int) : Le (N120 x0 x1) (F120 x0 x1) := by rw [F120_eq]; unfold N120; exact le_c (le_r _) ((P120_le 100000) _ _)
noncomputable def N119 (x0 : S192) : Option (Int × S192) :=
  (N120 x0 2).bind fun y1 =>
  (N139 y1.1).bind fun y2 =>
  some ((wr .u16 y2), y1.2)
theorem N119_le (x0 : S192) : Le (N119 x0) (F119 x0) := by rw [F119_eq]; unfold N119; exact le_b (N120_le _ _) fun _ => le_b (N139_le _) fun _ => le_r _
noncomputable def N135 (x0 : Int) : Option (Bool) :=
  bif ((andE Go.IntKind.u16 x0 (2 : Int)) != 0) then
    bif ((andE Go.IntKind.u16 x0 (59408 : Int)) == 0) then
      some ((andE Go.IntKind.u16 (andE Go.IntKind.u16 x0 (200 : Int)) (wr .u16 ((andE Go.IntKind.u16 x0 (200 : Int)) - 1))) == 0)
    else
    some false
  else
  some false
theorem N135_le (x0 : Int) : Le (N135 x0) (F135 x0) := by rw [F135_eq]; unfold N135; exact le_r _
noncomputable def N71 (x0 : S192) : Option (Int × S192) :=
  (N119 x0).bind fun y1 =>
  some ((wr .i16 y1.1), y1.2)
theorem N71_le (x0 : S192) : Le (N71 x0) (F71 x0) := by rw [F71_eq]; unfold N71; exact le_b (N119_le _) fun _ => le_r _
noncomputable def N158 (x0 : S192) : Option (Int × S192) :=
  (N120 x0 1).bind fun y1 =>
  (N139 y1.1).bind fun y2 =>
  some ((wr .u8 y2), y1.2)
theorem N158_le (x0 : S192) : Le (N158 x0) (F158 x0) := by rw [F158_eq]; unfold N158; exact le_b (N120_le _ _) fun _ => le_b (N139_le _) fun _ => le_r _
noncomputable def N136 (x0 : S192) (x1 : Int) : Option (Int × Int × S192) :=
  bif ((andE Go.IntKind.u16 x1 (1 : Int)) != 0) then
    (N71 x0).bind fun y1 =>
    (N71 y1.2).bind fun y2 =>
    some ((wr .i64 y1.1), ((wr .i64 y2.1), y2.2))
  else
  (N158 x0).bind fun y3 =>
  (N158 y3.2).bind fun y4 =>
  some ((wr .i64 (wr .i8 y3.1)), ((wr .i64 (wr .i8 y4.1)), y4.2))
theorem N136_le (x0 : S192) (x1 : Int) : Le (N136 x0 x1) (F136 x0 x1) := by rw [F136_eq]; unfold N136; exact le_c (le_b (N71_le _) fun _ => le_b (N71_le _) fun _ => le_r _) (le_b (N158_le _) fun _ => le_b (N158_le _) fun _ => le_r _)
noncomputable def N137 (x0 : S192) (x1 : Int) (x2 : S47) : Option (S192 × S47) :=
  bif ((andE Go.IntKind.u16 x1 (8 : Int)) != 0) then
    (N71 x0).bind fun y1 =>
    some (y1.2, (S47.mk x2.f0 x2.f1 x2.f2 (wr .i64 y1.1) x2.f4 x2.f5 (wr .i64 y1.1)))
  else
  bif ((andE Go.IntKind.u16 x1 (64 : Int)) != 0) then
    (N71 x0).bind fun y2 =>
    (N71 y2.2).bind fun y3 =>
    some (y3.2, (S47.mk x2.f0 x2.f1 x2.f2 (wr .i64 y2.1) x2.f4 x2.f5 (wr .i64 y3.1)))
  else
  bif ((andE Go.IntKind.u16 x1 (128 : Int)) != 0) then
    (N71 x0).bind fun y4 =>
    (N71 y4.2).bind fun y5 =>
    (N71 y5.2).bind fun y6 =>
    (N71 y6.2).bind fun y7 =>
    some (y7.2, (S47.mk x2.f0 x2.f1 x2.f2 (wr .i64 y4.1) (wr .i64 y5.1) (wr .i64 y6.1) (wr .i64 y7.1)))
  else
  some (x0, (S47.mk x2.f0 x2.f1 x2.f2 16384 x2.f4 x2.f5 16384))
theorem N137_le (x0 : S192) (x1 : Int) (x2 : S47) : Le (N137 x0 x1 x2) (F137 x0 x1 x2) := by rw [F137_eq]; unfold N137; exact le_c (le_b (N71_le _) fun _ => le_r _) (le_c (le_b (N71_le _) fun _ => le_b (N71_le _) fun _ => le_r _) (le_c (le_b (N71_le _) fun _ => le_b (N71_le _) fun _ => le_b (N71_le _) fun _ => le_b (N71_le _) fun _ => le_r _) (le_r _)))
structure Q87 where
  l0 : S192 → S47 → Int → Int → Option (S47 × Bool × Int × S192)
noncomputable def T87_0 (q : Q87) (x0 : S192) (x1 : S47) (x2 : Int) (x3 : Int) : Option (S47 × Bool × Int × S192) :=
  (N136 x0 x2).bind fun y1 =>
  (N137 y1.2.2 x2 (S47.mk x3 y1.1 y1.2.1 0 0 0 0)).bind fun y2 =>
  (N73 y2.1).bind fun y3 =>
  some (y2.2, (((andE Go.IntKind.u16 x2 (32 : Int)) != 0), (Prod.mk y3.1 y3.2)))
noncomputable def P87 (n : Nat) : Q87 := Nat.rec ⟨fun _ _ _ _ => none⟩ (fun _ q => ⟨T87_0 q⟩) n
theorem P87_le : ∀ n, (∀ x0 x1 x2 x3, Le ((P87 n).l0 x0 x1 x2 x3) (L87_0 x0 x1 x2 x3)) := fun n => by
  induction n with
  | zero => exact fun x0 x1 x2 x3 => le_n _
  | succ n ih => exact fun x0 x1 x2 x3 => by show Le (T87_0 (P87 n) x0 x1 x2 x3) _; rw [L87_0_eq]; unfold T87_0; exact le_b (N136_le _ _) fun _ => le_b (N137_le _ _ _) fun _ => le_b (N73_le _) fun _ => le_r _
noncomputable def N87 (x0 : S192) (x1 : Int) : Option (S47 × Bool × Int × S192) :=
  (N119 x0).bind fun y1 =>
  (N119 y1.2).bind fun y2 =>
  (N73 y2.2).bind fun y3 =>
  bif (y3.1 != 0) then
    some ((S47.mk 0 0 0 0 0 0 0), (false, (3, y3.2)))
  else
  (N135 y1.1).bind fun y4 =>
  bif (!y4) then
    some ((S47.mk 0 0 0 0 0 0 0), (false, (4, y3.2)))
  else
  bif (decide ((wr .i64 y2.1) ≥ x1)) then
    some ((S47.mk 0 0 0 0 0 0 0), (false, (4, y3.2)))
  else
  (P87 100000).l0 y3.2 (S47.mk 0 0 0 0 0 0 0) y1.1 (wr .i64 y2.1)
theorem N87_le (x0 : S192) (x1 : Int) : Le (N87 x0 x1) (F87 x0 x1) := by rw [F87_eq]; unfold N87; exact le_b (N119_le _) fun _ => le_b (N119_le _) fun _ => le_b (N73_le _) fun _ => le_c (le_r _) (le_b (N135_le _) fun _ => le_c (le_r _) (le_c (le_r _) ((P87_le 100000) _ _ _ _)))
structure Q37 where
  l0 : ByteArray → Int → Option (List S47 × Int)
  l1 : Int → S192 → List S47 → Option (List S47 × Int)
noncomputable def T37_0 (q : Q37) (x0 : ByteArray) (x1 : Int) : Option (List S47 × Int) :=
  bif (decide (((ByteArray.size x0) : Int) < 10)) then
    some ([], 3)
  else
  (N39 x0).bind fun y1 =>
  bif (!y1) then
    some ([], 4)
  else
  grd (decide (10 ≤ ((ByteArray.size x0) : Int))) <|
  (N70 (ByteArray.extract x0 10 (ByteArray.size x0))).bind fun y2 =>
  y2.bind fun y3 =>
  q.l1 x1 y3 []
noncomputable def T37_1 (q : Q37) (x0 : Int) (x1 : S192) (x2 : List S47) : Option (List S47 × Int) :=
  bif ((x2.length : Int) == 64) then
    some ([], 6)
  else
  (N87 x1 x0).bind fun y1 =>
  bif (y1.2.2.1 != 0) then
    some ([], y1.2.2.1)
  else
  grd (fit (x2.length + [y1.1].length) 56) <|
  bif (!y1.2.1) then
    some ((x2 ++ [y1.1]), 0)
  else
  q.l1 x0 y1.2.2.2 (x2 ++ [y1.1])
noncomputable def P37 (n : Nat) : Q37 := Nat.rec ⟨fun _ _ => none, fun _ _ _ => none⟩ (fun _ q => ⟨T37_0 q, T37_1 q⟩) n
theorem P37_le : ∀ n, (∀ x0 x1, Le ((P37 n).l0 x0 x1) (L37_0 x0 x1)) ∧ (∀ x0 x1 x2, Le ((P37 n).l1 x0 x1 x2) (L37_1 x0 x1 x2)) := fun n => by
  induction n with
  | zero => exact ⟨fun x0 x1 => le_n _, fun x0 x1 x2 => le_n _⟩
  | succ n ih => exact ⟨fun x0 x1 => by show Le (T37_0 (P37 n) x0 x1) _; rw [L37_0_eq]; unfold T37_0; exact le_c (le_r _) (le_b (N39_le _) fun _ => le_c (le_r _) (le_g (le_b (N70_le _) fun _ => le_b (le_r _) fun _ => ih.2 _ _ _))),
    fun x0 x1 x2 => by show Le (T37_1 (P37 n) x0 x1 x2) _; rw [L37_1_eq]; unfold T37_1; exact le_c (le_r _) (le_b (N87_le _ _) fun _ => le_c (le_r _) (le_g (le_c (le_r _) (ih.2 _ _ _))))⟩
noncomputable def N37 (x0 : ByteArray) (x1 : Int) : Option (List S47 × Int) :=
  bif (decide (x1 < 1)) then
    some ([], 1)
  else
  bif (decide (x1 > 1024)) then
    some ([], 1)
  else
  (P37 100000).l0 x0 x1
theorem N37_le (x0 : ByteArray) (x1 : Int) : Le (N37 x0 x1) (F37 x0 x1) := by rw [F37_eq]; unfold N37; exact le_c (le_r _) (le_c (le_r _) ((P37_le 100000).1 _ _))
noncomputable def N90 (x0 : Int) : Option (Bool) :=
  bif (decide (x0 > 32767)) then
    some true
  else
  some (decide (x0 < (-32767)))
theorem N90_le (x0 : Int) : Le (N90 x0) (F90 x0) := by rw [F90_eq]; unfold N90; exact le_r _
noncomputable def N91 (x0 : Int) : Option (Int) :=
  some (shrE Go.IntKind.i64 (wr .i64 (x0 + 8192)) (14 : Int))
theorem N91_le (x0 : Int) : Le (N91 x0) (F91 x0) := by rw [F91_eq]; unfold N91; exact le_r _
noncomputable def N92 (x0 : Int) : Option (Bool) :=
  some (decide ((mxE x0 (wr .i64 (0 - x0))) ≤ 32767))
theorem N92_le (x0 : Int) : Le (N92 x0) (F92 x0) := by rw [F92_eq]; unfold N92; exact le_r _
structure Q42 where
  l0 : Int → Int → S47 → Option (Int × Int × Int)
noncomputable def T42_0 (q : Q42) (x0 : Int) (x1 : Int) (x2 : S47) : Option (Int × Int × Int) :=
  (N91 (wr .i64 ((wr .i64 (x2.f3 * x0)) + (wr .i64 (x2.f5 * x1))))).bind fun y1 =>
  (N91 (wr .i64 ((wr .i64 (x2.f4 * x0)) + (wr .i64 (x2.f6 * x1))))).bind fun y2 =>
  (N92 (wr .i64 (y1 + x2.f1))).bind fun y3 =>
  bif (!y3) then
    some (0, (0, 2))
  else
  (N92 (wr .i64 (y2 + x2.f2))).bind fun y4 =>
  bif (!y4) then
    some (0, (0, 2))
  else
  some ((wr .i64 (y1 + x2.f1)), ((wr .i64 (y2 + x2.f2)), 0))
noncomputable def P42 (n : Nat) : Q42 := Nat.rec ⟨fun _ _ _ => none⟩ (fun _ q => ⟨T42_0 q⟩) n
theorem P42_le : ∀ n, (∀ x0 x1 x2, Le ((P42 n).l0 x0 x1 x2) (L42_0 x0 x1 x2)) := fun n => by
  induction n with
  | zero => exact fun x0 x1 x2 => le_n _
  | succ n ih => exact fun x0 x1 x2 => by show Le (T42_0 (P42 n) x0 x1 x2) _; rw [L42_0_eq]; unfold T42_0; exact le_b (N91_le _) fun _ => le_b (N91_le _) fun _ => le_b (N92_le _) fun _ => le_c (le_r _) (le_b (N92_le _) fun _ => le_r _)
noncomputable def N42 (x0 : S47) (x1 : Int) (x2 : Int) : Option (Int × Int × Int) :=
  (N85 x0 1024).bind fun y1 =>
  bif (!y1) then
    some (0, (0, 1))
  else
  (N90 x1).bind fun y2 =>
  bif y2 then
    some (0, (0, 1))
  else
  (N90 x2).bind fun y3 =>
  bif y3 then
    some (0, (0, 1))
  else
  (P42 100000).l0 x1 x2 x0
theorem N42_le (x0 : S47) (x1 : Int) (x2 : Int) : Le (N42 x0 x1 x2) (F42 x0 x1 x2) := by rw [F42_eq]; unfold N42; exact le_b (N85_le _ _) fun _ => le_c (le_r _) (le_b (N90_le _) fun _ => le_c (le_r _) (le_b (N90_le _) fun _ => le_c (le_r _) ((P42_le 100000) _ _ _)))
noncomputable def N32 : Option (Bool) :=
  (N33 [(S47.mk 2 1 0 8192 0 0 16384)]).bind fun y1 =>
  (N37 y1.1 3).bind fun y2 =>
  (N42 (S47.mk 2 1 0 8192 0 0 16384) 3 5).bind fun y3 =>
  bif (y1.2 == 0) then
    bif (((ByteArray.size y1.1) : Int) == 20) then
      bif (y2.2 == 0) then
        bif ((y2.1.length : Int) == 1) then
          grd (decide (0 < (y2.1.length : Int))) <|
          bif (((y2.1.getD 0 z0).f0 == 2) && (((y2.1.getD 0 z0).f1 == 1) && (((y2.1.getD 0 z0).f2 == 0) && (((y2.1.getD 0 z0).f3 == 8192) && (((y2.1.getD 0 z0).f4 == 0) && (((y2.1.getD 0 z0).f5 == 0) && ((y2.1.getD 0 z0).f6 == 16384))))))) then
            bif (y3.1 == 3) then
              bif (y3.2.1 == 5) then
                bif (y3.2.2 == 0) then
                  (N39 y1.1).bind fun y4 =>
                  bif y4 then
                    (N39 ByteArray.empty).bind fun y5 =>
                    some (!y5)
                  else
                  some false
                else
                some false
              else
              some false
            else
            some false
          else
          some false
        else
        some false
      else
      some false
    else
    some false
  else
  some false
theorem N32_le : Le (N32) (F32) := by rw [F32_eq]; unfold N32; exact le_b (N33_le _) fun _ => le_b (N37_le _ _) fun _ => le_b (N42_le _ _ _) fun _ => le_c (le_c (le_c (le_c (le_g (le_c (le_c (le_c (le_c (le_b (N39_le _) fun _ => le_c (le_b (N39_le _) fun _ => le_r _) (le_r _)) (le_r _)) (le_r _)) (le_r _)) (le_r _))) (le_r _)) (le_r _)) (le_r _)) (le_r _)
end Go.Proofs.Ytalghbndblgndaa.Ev
