/- Printed by a program of this claim: the seat's types, as they are told by value; that the table says what the program says. -/
import Derived.Test.YtnikppnfkjogdaaGreatDoorProg
import Derived.Test.YtnikppnfkjogdaaGreatDoorEvAd
import Derived.KernelRfl
import Derived.Lib.TrailingZeros
namespace Go.Proofs.YtnikppnfkjogdaaGreatDoor.Ev
open Go
set_option linter.unusedVariables false
structure S24 where
  mk ::
  f0 : Int
  f1 : Int
structure S34 where
  mk ::
  f0 : Int
  f1 : Bool
  f2 : S24
  f3 : S24
  f4 : S24
structure S37 where
  mk ::
  f0 : Int
  f1 : Int
structure S46 where
  mk ::
  f0 : Int
  f1 : Int
structure S47 where
  mk ::
  f0 : S46
  f1 : S46
  f2 : S46
  f3 : S46
structure S49 where
  mk ::
  f0 : S24
  f1 : S24
  f2 : S24
  f3 : S24
structure S51 where
  mk ::
  f0 : Int
  f1 : Int
  f2 : Int
structure S77 where
  mk ::
  f0 : Bool
  f1 : List (Int)
structure S81 where
  mk ::
  f0 : Bool
  f1 : List (Int)
structure S102 where
  mk ::
  f0 : Int
  f1 : Int
structure S133 where
  mk ::
  f0 : Int
  f1 : Int
  f2 : Int
structure S139 where
  mk ::
  f0 : S133
  f1 : S133
  f2 : S37
  f3 : S37
structure S160 where
  mk ::
  f0 : Bool
  f1 : S102
structure S168 where
  mk ::
  f0 : Int
  f1 : Int
structure S174 where
  mk ::
  f0 : Int
  f1 : Int
  f2 : Int
  f3 : Int
structure S201 where
  mk ::
  f0 : Int
  f1 : Int
  f2 : Int
  f3 : Int
  f4 : Int
structure S224 where
  mk ::
  f0 : Int
  f1 : Int
  f2 : Int
structure Ih where
  T : Type
  d : T
def tabT (n : Nat) : Ih := match n with
  | 0 => ⟨S24, ⟨0, 0⟩⟩
  | 1 => ⟨S34, ⟨0, false, ⟨0, 0⟩, ⟨0, 0⟩, ⟨0, 0⟩⟩⟩
  | 2 => ⟨S37, ⟨0, 0⟩⟩
  | 3 => ⟨S46, ⟨0, 0⟩⟩
  | 4 => ⟨S47, ⟨⟨0, 0⟩, ⟨0, 0⟩, ⟨0, 0⟩, ⟨0, 0⟩⟩⟩
  | 5 => ⟨S49, ⟨⟨0, 0⟩, ⟨0, 0⟩, ⟨0, 0⟩, ⟨0, 0⟩⟩⟩
  | 6 => ⟨S51, ⟨0, 0, 0⟩⟩
  | 7 => ⟨S77, ⟨false, []⟩⟩
  | 8 => ⟨S81, ⟨false, []⟩⟩
  | 9 => ⟨S102, ⟨0, 0⟩⟩
  | 10 => ⟨S133, ⟨0, 0, 0⟩⟩
  | 11 => ⟨S139, ⟨⟨0, 0, 0⟩, ⟨0, 0, 0⟩, ⟨0, 0⟩, ⟨0, 0⟩⟩⟩
  | 12 => ⟨S160, ⟨false, ⟨0, 0⟩⟩⟩
  | 13 => ⟨S168, ⟨0, 0⟩⟩
  | 14 => ⟨S174, ⟨0, 0, 0, 0⟩⟩
  | 15 => ⟨S201, ⟨0, 0, 0, 0, 0⟩⟩
  | 16 => ⟨S224, ⟨0, 0, 0⟩⟩
  | _ => ⟨Unit, ()⟩
def SS (n : Nat) : Type := (tabT n).T
def decS (t : Ty) (c : C SS) : Option (List (T SS t)) := match c with
  | .lst t' l => match Ty.eq? t' t with | some ⟨h⟩ => some (h ▸ l) | none => none
  | .nils => some []
  | .emp => some []
  | _ => none
def dec0 (l : List (C SS)) : Option S24 := match l with | [.int .i64 a0, .int .i64 a1] => some (⟨a0, a1⟩ : S24) | _ => none
def dec1 (l : List (C SS)) : Option S34 := match l with | [.int .i64 a0, .bool a1, .int .i64 a2, .int .i64 a3, .int .i64 a4, .int .i64 a5, .int .i64 a6, .int .i64 a7] => some (⟨a0, a1, ⟨a2, a3⟩, ⟨a4, a5⟩, ⟨a6, a7⟩⟩ : S34) | _ => none
def dec2 (l : List (C SS)) : Option S37 := match l with | [.int .i64 a0, .int .i64 a1] => some (⟨a0, a1⟩ : S37) | _ => none
def dec3 (l : List (C SS)) : Option S46 := match l with | [.int .i16 a0, .int .i16 a1] => some (⟨a0, a1⟩ : S46) | _ => none
def dec4 (l : List (C SS)) : Option S47 := match l with | [.int .i16 a0, .int .i16 a1, .int .i16 a2, .int .i16 a3, .int .i16 a4, .int .i16 a5, .int .i16 a6, .int .i16 a7] => some (⟨⟨a0, a1⟩, ⟨a2, a3⟩, ⟨a4, a5⟩, ⟨a6, a7⟩⟩ : S47) | _ => none
def dec5 (l : List (C SS)) : Option S49 := match l with | [.int .i64 a0, .int .i64 a1, .int .i64 a2, .int .i64 a3, .int .i64 a4, .int .i64 a5, .int .i64 a6, .int .i64 a7] => some (⟨⟨a0, a1⟩, ⟨a2, a3⟩, ⟨a4, a5⟩, ⟨a6, a7⟩⟩ : S49) | _ => none
def dec6 (l : List (C SS)) : Option S51 := match l with | [.int .i64 a0, .int .i64 a1, .int .i64 a2] => some (⟨a0, a1, a2⟩ : S51) | _ => none
def dec7 (l : List (C SS)) : Option S77 := match l with | [.bool a0, a1] => ((match decS (.int .u32) a1 with | some ba1 => some (⟨a0, ba1⟩ : S77) | none => none)) | _ => none
def dec8 (l : List (C SS)) : Option S81 := match l with | [.bool a0, a1] => ((match decS (.int .u64) a1 with | some ba1 => some (⟨a0, ba1⟩ : S81) | none => none)) | _ => none
def dec9 (l : List (C SS)) : Option S102 := match l with | [.int .u64 a0, .int .u64 a1] => some (⟨a0, a1⟩ : S102) | _ => none
def dec10 (l : List (C SS)) : Option S133 := match l with | [.int .i64 a0, .int .i64 a1, .int .i64 a2] => some (⟨a0, a1, a2⟩ : S133) | _ => none
def dec11 (l : List (C SS)) : Option S139 := match l with | [.int .i64 a0, .int .i64 a1, .int .i64 a2, .int .i64 a3, .int .i64 a4, .int .i64 a5, .int .i64 a6, .int .i64 a7, .int .i64 a8, .int .i64 a9] => some (⟨⟨a0, a1, a2⟩, ⟨a3, a4, a5⟩, ⟨a6, a7⟩, ⟨a8, a9⟩⟩ : S139) | _ => none
def dec12 (l : List (C SS)) : Option S160 := match l with | [.bool a0, .int .u64 a1, .int .u64 a2] => some (⟨a0, ⟨a1, a2⟩⟩ : S160) | _ => none
def dec13 (l : List (C SS)) : Option S168 := match l with | [.int .i64 a0, .int .i64 a1] => some (⟨a0, a1⟩ : S168) | _ => none
def dec14 (l : List (C SS)) : Option S174 := match l with | [.int .i64 a0, .int .i64 a1, .int .i64 a2, .int .i64 a3] => some (⟨a0, a1, a2, a3⟩ : S174) | _ => none
def dec15 (l : List (C SS)) : Option S201 := match l with | [.int .i64 a0, .int .i64 a1, .int .i64 a2, .int .i64 a3, .int .i64 a4] => some (⟨a0, a1, a2, a3, a4⟩ : S201) | _ => none
def dec16 (l : List (C SS)) : Option S224 := match l with | [.int .u64 a0, .int .u64 a1, .int .u64 a2] => some (⟨a0, a1, a2⟩ : S224) | _ => none
def D : Tys where
  S := SS
  enc := fun n => match n with
    | 0 => fun (x : S24) => [.int .i64 x.f0, .int .i64 x.f1]
    | 1 => fun (x : S34) => [.int .i64 x.f0, .bool x.f1, .int .i64 x.f2.f0, .int .i64 x.f2.f1, .int .i64 x.f3.f0, .int .i64 x.f3.f1, .int .i64 x.f4.f0, .int .i64 x.f4.f1]
    | 2 => fun (x : S37) => [.int .i64 x.f0, .int .i64 x.f1]
    | 3 => fun (x : S46) => [.int .i16 x.f0, .int .i16 x.f1]
    | 4 => fun (x : S47) => [.int .i16 x.f0.f0, .int .i16 x.f0.f1, .int .i16 x.f1.f0, .int .i16 x.f1.f1, .int .i16 x.f2.f0, .int .i16 x.f2.f1, .int .i16 x.f3.f0, .int .i16 x.f3.f1]
    | 5 => fun (x : S49) => [.int .i64 x.f0.f0, .int .i64 x.f0.f1, .int .i64 x.f1.f0, .int .i64 x.f1.f1, .int .i64 x.f2.f0, .int .i64 x.f2.f1, .int .i64 x.f3.f0, .int .i64 x.f3.f1]
    | 6 => fun (x : S51) => [.int .i64 x.f0, .int .i64 x.f1, .int .i64 x.f2]
    | 7 => fun (x : S77) => [.bool x.f0, .lst (.int .u32) x.f1]
    | 8 => fun (x : S81) => [.bool x.f0, .lst (.int .u64) x.f1]
    | 9 => fun (x : S102) => [.int .u64 x.f0, .int .u64 x.f1]
    | 10 => fun (x : S133) => [.int .i64 x.f0, .int .i64 x.f1, .int .i64 x.f2]
    | 11 => fun (x : S139) => [.int .i64 x.f0.f0, .int .i64 x.f0.f1, .int .i64 x.f0.f2, .int .i64 x.f1.f0, .int .i64 x.f1.f1, .int .i64 x.f1.f2, .int .i64 x.f2.f0, .int .i64 x.f2.f1, .int .i64 x.f3.f0, .int .i64 x.f3.f1]
    | 12 => fun (x : S160) => [.bool x.f0, .int .u64 x.f1.f0, .int .u64 x.f1.f1]
    | 13 => fun (x : S168) => [.int .i64 x.f0, .int .i64 x.f1]
    | 14 => fun (x : S174) => [.int .i64 x.f0, .int .i64 x.f1, .int .i64 x.f2, .int .i64 x.f3]
    | 15 => fun (x : S201) => [.int .i64 x.f0, .int .i64 x.f1, .int .i64 x.f2, .int .i64 x.f3, .int .i64 x.f4]
    | 16 => fun (x : S224) => [.int .u64 x.f0, .int .u64 x.f1, .int .u64 x.f2]
    | _ => fun _ => []
  dec := fun n => match n with
    | 0 => dec0
    | 1 => dec1
    | 2 => dec2
    | 3 => dec3
    | 4 => dec4
    | 5 => dec5
    | 6 => dec6
    | 7 => dec7
    | 8 => dec8
    | 9 => dec9
    | 10 => dec10
    | 11 => dec11
    | 12 => dec12
    | 13 => dec13
    | 14 => dec14
    | 15 => dec15
    | 16 => dec16
    | _ => fun _ => none
  dfl := fun n => (tabT n).d
  siz := fun n => match n with | 0 => 2 | 1 => 8 | 2 => 2 | 3 => 2 | 4 => 8 | 5 => 8 | 6 => 3 | 7 => 2 | 8 => 2 | 9 => 2 | 10 => 3 | 11 => 10 | 12 => 3 | 13 => 2 | 14 => 4 | 15 => 5 | 16 => 3 | _ => 0
  ti := [(2, ⟨.int .i64, false, 1, 8, [.int .i64 0], some (.int .i64), []⟩),
    (3, ⟨.int .i64, false, 1, 8, [.int .i64 0], some (.int .i64), []⟩),
    (4, ⟨.bool, false, 1, 1, [.bool false], some (.bool), []⟩),
    (5, ⟨.int .u8, false, 1, 1, [.int .u8 0], some (.int .u8), []⟩),
    (9, ⟨.str, false, 1, 16, [.str ByteArray.empty], some (.str), []⟩),
    (22, ⟨.slice 34, false, 1, 24, [.nils], some (.sl (.st 1)), []⟩),
    (24, ⟨.struct [(0, 1, false), (1, 1, false)], true, 2, 16, [.int .i64 0, .int .i64 0], some (.st 0), [.int .i64, .int .i64]⟩),
    (26, ⟨.int .i64, false, 1, 8, [.int .i64 0], some (.int .i64), []⟩),
    (34, ⟨.struct [(0, 1, false), (1, 1, false), (2, 2, true), (4, 2, true), (6, 2, true)], true, 8, 64, [.int .i64 0, .bool false, .int .i64 0, .int .i64 0, .int .i64 0, .int .i64 0, .int .i64 0, .int .i64 0], some (.st 1), [.int .i64, .bool, .int .i64, .int .i64, .int .i64, .int .i64, .int .i64, .int .i64]⟩),
    (37, ⟨.struct [(0, 1, false), (1, 1, false)], true, 2, 16, [.int .i64 0, .int .i64 0], some (.st 2), [.int .i64, .int .i64]⟩),
    (45, ⟨.int .i16, false, 1, 2, [.int .i16 0], some (.int .i16), []⟩),
    (46, ⟨.array 2 1 false, true, 2, 4, [.int .i16 0, .int .i16 0], some (.st 3), []⟩),
    (47, ⟨.array 4 2 true, true, 8, 16, [.int .i16 0, .int .i16 0, .int .i16 0, .int .i16 0, .int .i16 0, .int .i16 0, .int .i16 0, .int .i16 0], some (.st 4), []⟩),
    (48, ⟨.int .u16, false, 1, 2, [.int .u16 0], some (.int .u16), []⟩),
    (49, ⟨.array 4 2 true, true, 8, 64, [.int .i64 0, .int .i64 0, .int .i64 0, .int .i64 0, .int .i64 0, .int .i64 0, .int .i64 0, .int .i64 0], some (.st 5), []⟩),
    (51, ⟨.array 3 1 false, true, 3, 24, [.int .i64 0, .int .i64 0, .int .i64 0], some (.st 6), []⟩),
    (52, ⟨.slice 77, false, 1, 24, [.nils], some (.sl (.st 7)), []⟩),
    (57, ⟨.slice 81, false, 1, 24, [.nils], some (.sl (.st 8)), []⟩),
    (75, ⟨.slice 125, false, 1, 24, [.nils], some (.sl (.int .u32)), []⟩),
    (77, ⟨.struct [(0, 1, false), (1, 1, false)], true, 2, 32, [.bool false, .nils], some (.st 7), []⟩),
    (79, ⟨.slice 100, false, 1, 24, [.nils], some (.sl (.int .u64)), []⟩),
    (81, ⟨.struct [(0, 1, false), (1, 1, false)], true, 2, 32, [.bool false, .nils], some (.st 8), []⟩),
    (90, ⟨.slice 2, false, 1, 24, [.nils], some (.sl (.int .i64)), []⟩),
    (100, ⟨.int .u64, false, 1, 8, [.int .u64 0], some (.int .u64), []⟩),
    (102, ⟨.struct [(0, 1, false), (1, 1, false)], true, 2, 16, [.int .u64 0, .int .u64 0], some (.st 9), [.int .u64, .int .u64]⟩),
    (125, ⟨.int .u32, false, 1, 4, [.int .u32 0], some (.int .u32), []⟩),
    (133, ⟨.struct [(0, 1, false), (1, 1, false), (2, 1, false)], true, 3, 24, [.int .i64 0, .int .i64 0, .int .i64 0], some (.st 10), [.int .i64, .int .i64, .int .i64]⟩),
    (139, ⟨.struct [(0, 3, true), (3, 3, true), (6, 2, true), (8, 2, true)], true, 10, 80, [.int .i64 0, .int .i64 0, .int .i64 0, .int .i64 0, .int .i64 0, .int .i64 0, .int .i64 0, .int .i64 0, .int .i64 0, .int .i64 0], some (.st 11), [.int .i64, .int .i64, .int .i64, .int .i64, .int .i64, .int .i64, .int .i64, .int .i64, .int .i64, .int .i64]⟩),
    (144, ⟨.slice 57, false, 1, 24, [.nils], some (.sl (.sl (.st 8))), []⟩),
    (160, ⟨.struct [(0, 1, false), (1, 2, true)], true, 3, 24, [.bool false, .int .u64 0, .int .u64 0], some (.st 12), [.bool, .int .u64, .int .u64]⟩),
    (168, ⟨.struct [(0, 1, false), (1, 1, false)], true, 2, 16, [.int .i64 0, .int .i64 0], some (.st 13), [.int .i64, .int .i64]⟩),
    (172, ⟨.ptr 174, false, 1, 8, [.nilp], none, []⟩),
    (174, ⟨.struct [(0, 1, false), (1, 1, false), (2, 1, false), (3, 1, false)], true, 4, 32, [.int .i64 0, .int .i64 0, .int .i64 0, .int .i64 0], some (.st 14), [.int .i64, .int .i64, .int .i64, .int .i64]⟩),
    (180, ⟨.func, false, 1, 8, [.nilf], none, []⟩),
    (182, ⟨.int .u64, false, 1, 8, [.int .u64 0], some (.int .u64), []⟩),
    (190, ⟨.slice 24, false, 1, 24, [.nils], some (.sl (.st 0)), []⟩),
    (191, ⟨.func, false, 1, 8, [.nilf], none, []⟩),
    (193, ⟨.slice 52, false, 1, 24, [.nils], some (.sl (.sl (.st 7))), []⟩),
    (201, ⟨.array 5 1 false, true, 5, 40, [.int .i64 0, .int .i64 0, .int .i64 0, .int .i64 0, .int .i64 0], some (.st 15), []⟩),
    (206, ⟨.slice 90, false, 1, 24, [.nils], some (.sl (.sl (.int .i64))), []⟩),
    (219, ⟨.slice 3, false, 1, 24, [.nils], some (.sl (.int .i64)), []⟩),
    (224, ⟨.array 3 1 false, true, 3, 24, [.int .u64 0, .int .u64 0, .int .u64 0], some (.st 16), []⟩),
    (247, ⟨.array 64 1 false, true, 64, 64, [.int .u8 0, .int .u8 0, .int .u8 0, .int .u8 0, .int .u8 0, .int .u8 0, .int .u8 0, .int .u8 0, .int .u8 0, .int .u8 0, .int .u8 0, .int .u8 0, .int .u8 0, .int .u8 0, .int .u8 0, .int .u8 0, .int .u8 0, .int .u8 0, .int .u8 0, .int .u8 0, .int .u8 0, .int .u8 0, .int .u8 0, .int .u8 0, .int .u8 0, .int .u8 0, .int .u8 0, .int .u8 0, .int .u8 0, .int .u8 0, .int .u8 0, .int .u8 0, .int .u8 0, .int .u8 0, .int .u8 0, .int .u8 0, .int .u8 0, .int .u8 0, .int .u8 0, .int .u8 0, .int .u8 0, .int .u8 0, .int .u8 0, .int .u8 0, .int .u8 0, .int .u8 0, .int .u8 0, .int .u8 0, .int .u8 0, .int .u8 0, .int .u8 0, .int .u8 0, .int .u8 0, .int .u8 0, .int .u8 0, .int .u8 0, .int .u8 0, .int .u8 0, .int .u8 0, .int .u8 0, .int .u8 0, .int .u8 0, .int .u8 0, .int .u8 0], none, []⟩)]
  mode := [(107, ⟨[.val], false, none⟩), (108, ⟨[.val], false, none⟩), (109, ⟨[.val], false, none⟩), (58, ⟨[.val], false, none⟩), (59, ⟨[.val], false, none⟩), (28, ⟨[.val, .val], false, none⟩), (148, ⟨[.val], false, none⟩), (150, ⟨[.val, .val, .val], false, none⟩), (149, ⟨[.val, .val, .val], false, none⟩), (166, ⟨[.val, .val, .val], false, none⟩), (110, ⟨[.val, .val, .val], false, none⟩), (111, ⟨[.val, .val], false, none⟩), (167, ⟨[.val, .val, .val, .val], false, none⟩), (112, ⟨[.val, .val], false, none⟩), (205, ⟨[.val], true, none⟩), (156, ⟨[.val, .val], true, none⟩), (155, ⟨[.val], true, none⟩), (211, ⟨[.val], false, none⟩), (160, ⟨[.val], true, none⟩), (161, ⟨[.val], true, none⟩), (113, ⟨[.val], true, none⟩), (154, ⟨[.val, .val], true, none⟩), (237, ⟨[.val, .val], false, none⟩), (208, ⟨[.val, .val], true, none⟩), (247, ⟨[.val], false, none⟩), (238, ⟨[.val, .val], false, none⟩), (248, ⟨[.val], false, none⟩), (239, ⟨[.val, .val], false, none⟩), (209, ⟨[.val, .val], false, none⟩), (210, ⟨[.val, .val], true, none⟩), (159, ⟨[.val, .val], true, none⟩), (98, ⟨[.val, .val], true, none⟩), (206, ⟨[.val, .val], true, none⟩), (157, ⟨[.val, .val, .val], true, none⟩), (100, ⟨[.val, .val], true, none⟩), (79, ⟨[.val], false, none⟩), (78, ⟨[.val], false, none⟩), (188, ⟨[.val], false, none⟩), (129, ⟨[.val], false, none⟩), (189, ⟨[.val, .val], false, none⟩), (229, ⟨[.val], false, none⟩), (190, ⟨[.val], false, none⟩), (191, ⟨[.val, .val], false, none⟩), (130, ⟨[.val, .val], false, none⟩), (230, ⟨[.val], false, none⟩), (193, ⟨[.val, .val], false, none⟩), (192, ⟨[.val], false, none⟩), (131, ⟨[.val, .val], false, none⟩), (194, ⟨[.val, .val, .val], false, none⟩), (132, ⟨[.val, .val], false, none⟩), (77, ⟨[.val, .val], false, none⟩), (38, ⟨[.val], false, none⟩), (153, ⟨[.val, .val], false, none⟩), (93, ⟨[.val, .val], false, none⟩), (134, ⟨[.val, .val], false, none⟩), (172, ⟨[.val, .val], false, none⟩), (212, ⟨[.val], false, none⟩), (168, ⟨[.val, .val, .val], false, none⟩), (241, ⟨[.val, .val], true, none⟩), (236, ⟨[.val], true, some ⟨[.val], [(0, none)]⟩⟩), (251, ⟨[.val], false, none⟩), (250, ⟨[.val], false, none⟩), (244, ⟨[.val, .val, .val], false, none⟩), (249, ⟨[.val, .val], true, none⟩), (242, ⟨[.val, .val], true, none⟩), (216, ⟨[.val, .val], true, none⟩), (207, ⟨[.val], true, none⟩), (158, ⟨[.val, .val], true, none⟩), (97, ⟨[.val, .val], true, none⟩), (215, ⟨[.val], true, none⟩), (170, ⟨[.val, .val, .val], true, none⟩), (213, ⟨[.val], true, none⟩), (240, ⟨[.val], true, none⟩), (214, ⟨[.val, .val], true, none⟩), (169, ⟨[.val], true, none⟩), (218, ⟨[.val, .val], true, none⟩), (232, ⟨[.val, .val], false, none⟩), (217, ⟨[.val, .val], false, none⟩), (171, ⟨[.val, .val, .val], false, none⟩), (114, ⟨[.val, .val, .val], false, none⟩), (60, ⟨[.val, .val], false, none⟩), (29, ⟨[.val, .val], false, none⟩), (115, ⟨[.val, .val, .val], false, none⟩), (231, ⟨[.val, .val], false, none⟩), (195, ⟨[.val, .val], false, none⟩), (196, ⟨[.val, .val], false, none⟩), (133, ⟨[.val, .val], false, none⟩), (80, ⟨[.val, .val], false, none⟩), (116, ⟨[.val, .val], false, none⟩), (173, ⟨[.val, .val], false, none⟩), (243, ⟨[.val], false, none⟩), (220, ⟨[.val, .val], false, none⟩), (219, ⟨[.val], false, none⟩), (174, ⟨[.val, .val], false, none⟩), (117, ⟨[.val], false, none⟩), (61, ⟨[.val, .val], false, none⟩), (175, ⟨[.val, .val, .val], false, none⟩), (118, ⟨[.val, .val, .val], false, none⟩), (62, ⟨[.val, .val], false, none⟩), (30, ⟨[.val, .val], false, none⟩), (11, ⟨[.val, .val], false, none⟩), (12, ⟨[.val, .val], false, none⟩), (13, ⟨[.val, .val], false, none⟩), (10, ⟨[], false, none⟩), (75, ⟨[.val], false, none⟩), (76, ⟨[.val], false, none⟩), (35, ⟨[.val], false, none⟩), (36, ⟨[.val], false, none⟩), (17, ⟨[.val], false, none⟩), (31, ⟨[.val], false, none⟩), (14, ⟨[.val, .val], false, none⟩), (74, ⟨[.val, .val, .val], false, none⟩), (63, ⟨[.val, .val, .val], false, none⟩), (165, ⟨[.val], true, none⟩), (105, ⟨[.val, .val], true, none⟩), (55, ⟨[.val], true, none⟩), (136, ⟨[.val], false, none⟩), (104, ⟨[.val], true, none⟩), (65, ⟨[.val], true, none⟩), (50, ⟨[.val, .val, .val, .val, .val], true, none⟩), (103, ⟨[.val, .val], true, none⟩), (101, ⟨[.val, .val], false, none⟩), (53, ⟨[.val, .val], true, none⟩), (162, ⟨[.val, .val], true, none⟩), (163, ⟨[.val, .val], false, none⟩), (164, ⟨[.val, .val], true, none⟩), (102, ⟨[.val, .val], true, none⟩), (52, ⟨[.val, .val], true, none⟩), (51, ⟨[.val, .val], true, none⟩), (54, ⟨[.val], true, none⟩), (57, ⟨[.val], true, none⟩), (138, ⟨[.val], true, none⟩), (106, ⟨[.val], true, none⟩), (56, ⟨[.val, .val], true, none⟩), (27, ⟨[.val, .val, .val, .val, .val], true, none⟩), (120, ⟨[.val], true, none⟩), (221, ⟨[.val], false, none⟩), (176, ⟨[.val], false, none⟩), (222, ⟨[.val], true, none⟩), (177, ⟨[.val, .val], false, none⟩), (223, ⟨[.val], false, none⟩), (178, ⟨[.val, .val], false, none⟩), (119, ⟨[.val], false, none⟩), (197, ⟨[.val, .val], true, none⟩), (227, ⟨[.val, .val], true, none⟩), (180, ⟨[.val, .val, .val], true, none⟩), (225, ⟨[], false, none⟩), (83, ⟨[.val, .val], true, none⟩), (185, ⟨[.val, .val], false, none⟩), (228, ⟨[.val, .val], true, none⟩), (183, ⟨[.val, .val], true, none⟩), (226, ⟨[], false, none⟩), (224, ⟨[.val], true, none⟩), (187, ⟨[.val, .val], false, none⟩), (181, ⟨[.val], true, none⟩), (182, ⟨[.val, .val], true, none⟩), (122, ⟨[.val], true, none⟩), (124, ⟨[.val, .val], false, none⟩), (179, ⟨[.val], false, none⟩), (121, ⟨[.val, .val, .val], false, none⟩), (64, ⟨[.val, .val, .val, .val, .val], false, none⟩), (66, ⟨[.val, .val, .val, .val], true, none⟩), (68, ⟨[], false, none⟩), (69, ⟨[], false, none⟩), (123, ⟨[.val, .val, .val], true, none⟩), (67, ⟨[.val, .val, .val], false, none⟩), (32, ⟨[.val, .val], false, none⟩), (15, ⟨[.val, .val], false, none⟩), (82, ⟨[.val], false, none⟩), (81, ⟨[.val, .val], false, none⟩), (125, ⟨[.val, .val], false, none⟩), (70, ⟨[.val, .val], false, none⟩), (40, ⟨[.val], false, none⟩), (184, ⟨[.val, .val], false, none⟩), (186, ⟨[.val, .val], true, none⟩), (126, ⟨[.val, .val], false, none⟩), (71, ⟨[.val, .val], false, none⟩), (127, ⟨[.val, .val], false, none⟩), (73, ⟨[.val], false, none⟩), (128, ⟨[.val, .val, .val, .val, .val], false, none⟩), (72, ⟨[.val, .val, .val, .val], false, none⟩), (33, ⟨[.val, .val], false, none⟩), (34, ⟨[.val, .val, .val], false, none⟩), (16, ⟨[.val, .val], false, none⟩), (3, ⟨[.val, .val], false, none⟩), (4, ⟨[.val, .val], false, none⟩), (5, ⟨[.val, .val], false, none⟩), (6, ⟨[.val, .val], false, none⟩), (37, ⟨[.val], false, none⟩), (42, ⟨[.val, .val, .val, .val], false, none⟩), (151, ⟨[.val], false, none⟩), (140, ⟨[.val, .val], false, none⟩), (88, ⟨[.val, .val, .val], false, none⟩), (141, ⟨[.val, .val, .val], false, none⟩), (91, ⟨[.val, .val], false, none⟩), (246, ⟨[.val, .val, .val], false, none⟩), (235, ⟨[.val, .val], false, none⟩), (203, ⟨[.val, .val], false, none⟩), (204, ⟨[.val, .val], false, none⟩), (152, ⟨[.val, .val, .val], false, none⟩), (142, ⟨[.val, .val, .val], false, none⟩), (90, ⟨[.val, .val, .val], false, none⟩), (198, ⟨[.val], false, none⟩), (143, ⟨[.val, .val, .val, .val], false, none⟩), (85, ⟨[.val, .val, .val, .val, .val], false, none⟩), (99, ⟨[.val, .val, .val, .val, .val], true, none⟩), (47, ⟨[.val, .val], true, none⟩), (144, ⟨[.val, .val, .val], false, none⟩), (146, ⟨[.val], false, none⟩), (199, ⟨[.ref, .val, .val, .val, .val], false, none⟩), (200, ⟨[.val, .val], false, none⟩), (145, ⟨[.ref, .val, .val, .val, .val, .val], false, none⟩), (86, ⟨[.val, .val, .val, .val], false, none⟩), (95, ⟨[.val], true, none⟩), (96, ⟨[.val, .val], true, none⟩), (46, ⟨[.val, .val, .val, .val, .val], true, none⟩), (245, ⟨[.val], true, some ⟨[.val], [(0, none)]⟩⟩), (233, ⟨[.val, .val, .val], true, none⟩), (234, ⟨[.val, .val], true, none⟩), (202, ⟨[.val, .val, .val], true, none⟩), (201, ⟨[.val], false, none⟩), (147, ⟨[.val, .val, .val], false, none⟩), (87, ⟨[.val, .val, .val, .val], false, none⟩), (43, ⟨[.val, .val, .val, .val], false, none⟩), (22, ⟨[.val, .val, .val, .val], false, none⟩), (39, ⟨[.val, .val, .val, .val, .val], false, none⟩), (19, ⟨[.val, .val], false, none⟩), (44, ⟨[.val, .val, .val, .val], false, none⟩), (89, ⟨[.val, .val, .val, .val], false, none⟩), (94, ⟨[.val], false, none⟩), (92, ⟨[.val, .val, .val, .val], false, none⟩), (45, ⟨[.val, .val, .val, .val, .val], false, none⟩), (23, ⟨[.val, .val, .val, .val], false, none⟩), (18, ⟨[], false, none⟩), (135, ⟨[.val], true, none⟩), (137, ⟨[.val, .val], true, none⟩), (139, ⟨[.val], false, none⟩), (84, ⟨[.val, .val], false, none⟩), (41, ⟨[.val, .val, .val, .val, .val], false, none⟩), (20, ⟨[.val, .val], false, none⟩), (21, ⟨[.val, .val], false, none⟩), (7, ⟨[.val, .val, .val], false, none⟩), (8, ⟨[.val, .val], false, none⟩), (24, ⟨[.val, .val, .val, .val, .val], true, none⟩), (25, ⟨[.val, .val, .val, .val], false, none⟩), (49, ⟨[.val], true, none⟩), (48, ⟨[.val, .val], false, none⟩), (26, ⟨[.val, .val], false, none⟩), (9, ⟨[.val, .val, .val], false, none⟩)]
  gl := [(0, Lib.deBruijn64tab.map fun (n : Nat) => Value.int .u8 (n : Int))]
def grd {R : Type} (b : Bool) (k : Option R) : Option R := cond b k none
abbrev wr (k : IntKind) (n : Int) : Int := k.wrap n
def z0 : S24 := ⟨0, 0⟩
def z1 : S34 := ⟨0, false, ⟨0, 0⟩, ⟨0, 0⟩, ⟨0, 0⟩⟩
def z2 : S37 := ⟨0, 0⟩
def z3 : S46 := ⟨0, 0⟩
def z4 : S47 := ⟨⟨0, 0⟩, ⟨0, 0⟩, ⟨0, 0⟩, ⟨0, 0⟩⟩
def z5 : S49 := ⟨⟨0, 0⟩, ⟨0, 0⟩, ⟨0, 0⟩, ⟨0, 0⟩⟩
def z6 : S51 := ⟨0, 0, 0⟩
def z7 : S77 := ⟨false, []⟩
def z8 : S81 := ⟨false, []⟩
def z9 : S102 := ⟨0, 0⟩
def z10 : S133 := ⟨0, 0, 0⟩
def z11 : S139 := ⟨⟨0, 0, 0⟩, ⟨0, 0, 0⟩, ⟨0, 0⟩, ⟨0, 0⟩⟩
def z12 : S160 := ⟨false, ⟨0, 0⟩⟩
def z13 : S168 := ⟨0, 0⟩
def z14 : S174 := ⟨0, 0, 0, 0⟩
def z15 : S201 := ⟨0, 0, 0, 0, 0⟩
def z16 : S224 := ⟨0, 0, 0⟩
noncomputable abbrev PP : Program := Tryz.prog
theorem D_len : ∀ n x, (D.enc n x).length = D.siz n
  | 0, x => rfl
  | 1, x => rfl
  | 2, x => rfl
  | 3, x => rfl
  | 4, x => rfl
  | 5, x => rfl
  | 6, x => rfl
  | 7, x => rfl
  | 8, x => rfl
  | 9, x => rfl
  | 10, x => rfl
  | 11, x => rfl
  | 12, x => rfl
  | 13, x => rfl
  | 14, x => rfl
  | 15, x => rfl
  | 16, x => rfl
  | n + 17, x => rfl
def plainC : C SS → Bool | .int _ _ | .bool _ | .str _ | .lst _ _ => true | _ => false
theorem plain_ok {c : C SS} (h : plainC c = true) (w : World) (F : Nat → Prop) (hh : Hp D) (β : Nat → Option Loc) (v : Value) : RC D w F hh β c v ↔ RP D w F c v := by
  cases c <;> first | exact Iff.rfl | (simp [plainC] at h)
theorem D_plain : ∀ n x, (D.enc n x).all plainC = true
  | 0, x => rfl
  | 1, x => rfl
  | 2, x => rfl
  | 3, x => rfl
  | 4, x => rfl
  | 5, x => rfl
  | 6, x => rfl
  | 7, x => rfl
  | 8, x => rfl
  | 9, x => rfl
  | 10, x => rfl
  | 11, x => rfl
  | 12, x => rfl
  | 13, x => rfl
  | 14, x => rfl
  | 15, x => rfl
  | 16, x => rfl
  | n + 17, x => rfl
theorem D_pure : ∀ n x c, c ∈ D.enc n x → ∀ w F h β v, RC D w F h β c v ↔ RP D w F c v := fun n x c hc w F h β v => plain_ok (List.all_eq_true.mp (D_plain n x) c hc) w F h β v
theorem decS_eq (t : Ty) (c : C D.S) : decS t c = decC D (.sl t) c := by cases c <;> rfl
theorem decS_le {t : Ty} {c : C D.S} {l : List (T D.S t)} (h : decS t c = some l) : Ceq c (.lst t l) := decC_eq (D := D) (t := .sl t) (by rw [← decS_eq]; exact h) (fun n e => by cases e) _ rfl
theorem CL0 : CQ (D := D) [] [] := CQ.rfl' _
theorem CL1 {c c' : C D.S} {l l' : List (C D.S)} (h : Ceq c c') (t : CQ l l') : CQ (c :: l) (c' :: l') := ⟨by simp [t.1], fun i x x' h1 h2 => by
  cases i with
  | zero => simp at h1 h2; subst h1; subst h2; exact h
  | succ i => simp at h1 h2; exact t.2 i x x' h1 h2⟩
theorem D_dec0 (cs : List (C SS)) (x : S24) (h : dec0 cs = some x) : CQ (D := D) cs (D.enc 0 x) := by
  unfold dec0 at h
  split at h
  · obtain rfl := Option.some.inj h; exact CQ.rfl' _
  · cases h
theorem D_dec1 (cs : List (C SS)) (x : S34) (h : dec1 cs = some x) : CQ (D := D) cs (D.enc 1 x) := by
  unfold dec1 at h
  split at h
  · obtain rfl := Option.some.inj h; exact CQ.rfl' _
  · cases h
theorem D_dec2 (cs : List (C SS)) (x : S37) (h : dec2 cs = some x) : CQ (D := D) cs (D.enc 2 x) := by
  unfold dec2 at h
  split at h
  · obtain rfl := Option.some.inj h; exact CQ.rfl' _
  · cases h
theorem D_dec3 (cs : List (C SS)) (x : S46) (h : dec3 cs = some x) : CQ (D := D) cs (D.enc 3 x) := by
  unfold dec3 at h
  split at h
  · obtain rfl := Option.some.inj h; exact CQ.rfl' _
  · cases h
theorem D_dec4 (cs : List (C SS)) (x : S47) (h : dec4 cs = some x) : CQ (D := D) cs (D.enc 4 x) := by
  unfold dec4 at h
  split at h
  · obtain rfl := Option.some.inj h; exact CQ.rfl' _
  · cases h
theorem D_dec5 (cs : List (C SS)) (x : S49) (h : dec5 cs = some x) : CQ (D := D) cs (D.enc 5 x) := by
  unfold dec5 at h
  split at h
  · obtain rfl := Option.some.inj h; exact CQ.rfl' _
  · cases h
theorem D_dec6 (cs : List (C SS)) (x : S51) (h : dec6 cs = some x) : CQ (D := D) cs (D.enc 6 x) := by
  unfold dec6 at h
  split at h
  · obtain rfl := Option.some.inj h; exact CQ.rfl' _
  · cases h
theorem D_dec7 (cs : List (C SS)) (x : S77) (h : dec7 cs = some x) : CQ (D := D) cs (D.enc 7 x) := by
  unfold dec7 at h
  split at h
  · split at h
    · obtain rfl := Option.some.inj h; exact CL1 (Ceq.rfl' _) (CL1 (decS_le (by assumption)) (CL0))
    · cases h
  · cases h
theorem D_dec8 (cs : List (C SS)) (x : S81) (h : dec8 cs = some x) : CQ (D := D) cs (D.enc 8 x) := by
  unfold dec8 at h
  split at h
  · split at h
    · obtain rfl := Option.some.inj h; exact CL1 (Ceq.rfl' _) (CL1 (decS_le (by assumption)) (CL0))
    · cases h
  · cases h
theorem D_dec9 (cs : List (C SS)) (x : S102) (h : dec9 cs = some x) : CQ (D := D) cs (D.enc 9 x) := by
  unfold dec9 at h
  split at h
  · obtain rfl := Option.some.inj h; exact CQ.rfl' _
  · cases h
theorem D_dec10 (cs : List (C SS)) (x : S133) (h : dec10 cs = some x) : CQ (D := D) cs (D.enc 10 x) := by
  unfold dec10 at h
  split at h
  · obtain rfl := Option.some.inj h; exact CQ.rfl' _
  · cases h
theorem D_dec11 (cs : List (C SS)) (x : S139) (h : dec11 cs = some x) : CQ (D := D) cs (D.enc 11 x) := by
  unfold dec11 at h
  split at h
  · obtain rfl := Option.some.inj h; exact CQ.rfl' _
  · cases h
theorem D_dec12 (cs : List (C SS)) (x : S160) (h : dec12 cs = some x) : CQ (D := D) cs (D.enc 12 x) := by
  unfold dec12 at h
  split at h
  · obtain rfl := Option.some.inj h; exact CQ.rfl' _
  · cases h
theorem D_dec13 (cs : List (C SS)) (x : S168) (h : dec13 cs = some x) : CQ (D := D) cs (D.enc 13 x) := by
  unfold dec13 at h
  split at h
  · obtain rfl := Option.some.inj h; exact CQ.rfl' _
  · cases h
theorem D_dec14 (cs : List (C SS)) (x : S174) (h : dec14 cs = some x) : CQ (D := D) cs (D.enc 14 x) := by
  unfold dec14 at h
  split at h
  · obtain rfl := Option.some.inj h; exact CQ.rfl' _
  · cases h
theorem D_dec15 (cs : List (C SS)) (x : S201) (h : dec15 cs = some x) : CQ (D := D) cs (D.enc 15 x) := by
  unfold dec15 at h
  split at h
  · obtain rfl := Option.some.inj h; exact CQ.rfl' _
  · cases h
theorem D_dec16 (cs : List (C SS)) (x : S224) (h : dec16 cs = some x) : CQ (D := D) cs (D.enc 16 x) := by
  unfold dec16 at h
  split at h
  · obtain rfl := Option.some.inj h; exact CQ.rfl' _
  · cases h
theorem D_dec : ∀ n cs x, D.dec n cs = some x → cs.length = D.siz n ∧ ∀ (j : Nat) c c', cs[j]? = some c → (D.enc n x)[j]? = some c' → Ceq c c'
  | 0, cs, x, h => ⟨(D_dec0 cs x h).1.trans (D_len 0 x), (D_dec0 cs x h).2⟩
  | 1, cs, x, h => ⟨(D_dec1 cs x h).1.trans (D_len 1 x), (D_dec1 cs x h).2⟩
  | 2, cs, x, h => ⟨(D_dec2 cs x h).1.trans (D_len 2 x), (D_dec2 cs x h).2⟩
  | 3, cs, x, h => ⟨(D_dec3 cs x h).1.trans (D_len 3 x), (D_dec3 cs x h).2⟩
  | 4, cs, x, h => ⟨(D_dec4 cs x h).1.trans (D_len 4 x), (D_dec4 cs x h).2⟩
  | 5, cs, x, h => ⟨(D_dec5 cs x h).1.trans (D_len 5 x), (D_dec5 cs x h).2⟩
  | 6, cs, x, h => ⟨(D_dec6 cs x h).1.trans (D_len 6 x), (D_dec6 cs x h).2⟩
  | 7, cs, x, h => ⟨(D_dec7 cs x h).1.trans (D_len 7 x), (D_dec7 cs x h).2⟩
  | 8, cs, x, h => ⟨(D_dec8 cs x h).1.trans (D_len 8 x), (D_dec8 cs x h).2⟩
  | 9, cs, x, h => ⟨(D_dec9 cs x h).1.trans (D_len 9 x), (D_dec9 cs x h).2⟩
  | 10, cs, x, h => ⟨(D_dec10 cs x h).1.trans (D_len 10 x), (D_dec10 cs x h).2⟩
  | 11, cs, x, h => ⟨(D_dec11 cs x h).1.trans (D_len 11 x), (D_dec11 cs x h).2⟩
  | 12, cs, x, h => ⟨(D_dec12 cs x h).1.trans (D_len 12 x), (D_dec12 cs x h).2⟩
  | 13, cs, x, h => ⟨(D_dec13 cs x h).1.trans (D_len 13 x), (D_dec13 cs x h).2⟩
  | 14, cs, x, h => ⟨(D_dec14 cs x h).1.trans (D_len 14 x), (D_dec14 cs x h).2⟩
  | 15, cs, x, h => ⟨(D_dec15 cs x h).1.trans (D_len 15 x), (D_dec15 cs x h).2⟩
  | 16, cs, x, h => ⟨(D_dec16 cs x h).1.trans (D_len 16 x), (D_dec16 cs x h).2⟩
  | n + 17, cs, x, h => by cases h
theorem ti_of {t : TypeId} {i : TI D.S} (hs : (PP.info? t).isSome = true) (h1 : ((PP.info? t).get hs).size = i.size) (h2 : ((PP.info? t).get hs).bytes = i.bytes) (hz : ((PP.info? t).get hs).zero.isSome = true)
    (h3 : (((PP.info? t).get hs).zero.get hz).cells.toList.map some = i.zero.map valOf) (h4 : i.agg = true → ((PP.info? t).get hs).zero.get hz = .agg (((PP.info? t).get hs).zero.get hz).cells) :
    ∃ j, PP.info? t = some j ∧ j.size = i.size ∧ j.bytes = i.bytes ∧ ∃ z, j.zero = some z ∧ z.cells.toList.map some = i.zero.map valOf ∧ (i.agg = true → z = .agg z.cells) :=
  ⟨_, (Option.some_get hs).symm, h1, h2, _, (Option.some_get hz).symm, h3, h4⟩
theorem fund_of {u : Option TypeDesc} {fl0 : Array Field} (h0 : u = some (.struct fl0)) (ha : (fl0.toList.all fun fd => (PP.underlying fd.type).isSome) = true) :
    ∀ fl (fd : Field) (f : Nat), u = some (.struct fl) → fl[f]? = some fd → (PP.underlying fd.type).isSome := fun fl fd f h hf => by
  obtain rfl := TypeDesc.struct.inj (Option.some.inj (h0.symm.trans h))
  exact List.all_eq_true.mp ha fd (by rw [Array.mem_toList_iff]; exact Array.mem_of_getElem? hf)
theorem aund_of {u : Option TypeDesc} {n0 : Nat} {e0 : TypeId} (h0 : u = some (.array n0 e0)) (ha : (PP.underlying e0).isSome = true) :
    ∀ n e, u = some (.array n e) → (PP.underlying e).isSome := fun n e h => by
  obtain ⟨h1, rfl⟩ := TypeDesc.array.inj (Option.some.inj (h0.symm.trans h))
  exact ha
theorem fund_no {u : Option TypeDesc} {d : TypeDesc} (h0 : u = some d) (hd : ∀ fl, d ≠ .struct fl) :
    ∀ fl (fd : Field) (f : Nat), u = some (.struct fl) → fl[f]? = some fd → (PP.underlying fd.type).isSome := fun fl fd f h hf => by
  exact absurd (Option.some.inj (h0.symm.trans h)) (hd fl)
theorem aund_no {u : Option TypeDesc} {d : TypeDesc} (h0 : u = some d) (hd : ∀ n e, d ≠ .array n e) :
    ∀ n e, u = some (.array n e) → (PP.underlying e).isSome := fun n e h => by
  exact absurd (Option.some.inj (h0.symm.trans h)) (hd n e)
def i2 : TI D.S := ⟨.int .i64, false, 1, 8, [.int .i64 0], some (.int .i64), []⟩
theorem t2 : TiOk D PP 2 i2 where
  info := ti_of (by kernel_rfl) (by kernel_rfl) (by kernel_rfl) (by kernel_rfl) (by kernel_rfl) (fun h => by cases h)
  desc := Tryz.underlying2
  agg := by kernel_rfl
  pos := by decide
  und := by kernel_rfl
  byt := by decide
  zlen := rfl
  eqk := .inl rfl
  ty := fun τ h => by cases h; exact ⟨rfl, rfl⟩
  fld := fun fs h => by cases h
  fund := fund_no Tryz.underlying2 (fun _ h => by cases h)
  aund := aund_no Tryz.underlying2 (fun _ _ h => by cases h)
def i3 : TI D.S := ⟨.int .i64, false, 1, 8, [.int .i64 0], some (.int .i64), []⟩
theorem t3 : TiOk D PP 3 i3 where
  info := ti_of (by kernel_rfl) (by kernel_rfl) (by kernel_rfl) (by kernel_rfl) (by kernel_rfl) (fun h => by cases h)
  desc := Tryz.underlying3
  agg := by kernel_rfl
  pos := by decide
  und := by kernel_rfl
  byt := by decide
  zlen := rfl
  eqk := .inl rfl
  ty := fun τ h => by cases h; exact ⟨rfl, rfl⟩
  fld := fun fs h => by cases h
  fund := fund_no Tryz.underlying3 (fun _ h => by cases h)
  aund := aund_no Tryz.underlying3 (fun _ _ h => by cases h)
def i4 : TI D.S := ⟨.bool, false, 1, 1, [.bool false], some (.bool), []⟩
theorem t4 : TiOk D PP 4 i4 where
  info := ti_of (by kernel_rfl) (by kernel_rfl) (by kernel_rfl) (by kernel_rfl) (by kernel_rfl) (fun h => by cases h)
  desc := Tryz.underlying4
  agg := by kernel_rfl
  pos := by decide
  und := by kernel_rfl
  byt := by decide
  zlen := rfl
  eqk := .inl rfl
  ty := fun τ h => by cases h; exact ⟨rfl, rfl⟩
  fld := fun fs h => by cases h
  fund := fund_no Tryz.underlying4 (fun _ h => by cases h)
  aund := aund_no Tryz.underlying4 (fun _ _ h => by cases h)
def i5 : TI D.S := ⟨.int .u8, false, 1, 1, [.int .u8 0], some (.int .u8), []⟩
theorem t5 : TiOk D PP 5 i5 where
  info := ti_of (by kernel_rfl) (by kernel_rfl) (by kernel_rfl) (by kernel_rfl) (by kernel_rfl) (fun h => by cases h)
  desc := Tryz.underlying5
  agg := by kernel_rfl
  pos := by decide
  und := by kernel_rfl
  byt := by decide
  zlen := rfl
  eqk := .inl rfl
  ty := fun τ h => by cases h; exact ⟨rfl, rfl⟩
  fld := fun fs h => by cases h
  fund := fund_no Tryz.underlying5 (fun _ h => by cases h)
  aund := aund_no Tryz.underlying5 (fun _ _ h => by cases h)
def i9 : TI D.S := ⟨.str, false, 1, 16, [.str ByteArray.empty], some (.str), []⟩
theorem t9 : TiOk D PP 9 i9 where
  info := ti_of (by kernel_rfl) (by kernel_rfl) (by kernel_rfl) (by kernel_rfl) (by kernel_rfl) (fun h => by cases h)
  desc := Tryz.underlying9
  agg := by kernel_rfl
  pos := by decide
  und := by kernel_rfl
  byt := by decide
  zlen := rfl
  eqk := .inl rfl
  ty := fun τ h => by cases h; exact ⟨rfl, rfl⟩
  fld := fun fs h => by cases h
  fund := fund_no Tryz.underlying9 (fun _ h => by cases h)
  aund := aund_no Tryz.underlying9 (fun _ _ h => by cases h)
def i22 : TI D.S := ⟨.slice 34, false, 1, 24, [.nils], some (.sl (.st 1)), []⟩
theorem t22 : TiOk D PP 22 i22 where
  info := ti_of (by kernel_rfl) (by kernel_rfl) (by kernel_rfl) (by kernel_rfl) (by kernel_rfl) (fun h => by cases h)
  desc := Tryz.underlying22
  agg := by kernel_rfl
  pos := by decide
  und := by kernel_rfl
  byt := by decide
  zlen := rfl
  eqk := .inl rfl
  ty := fun τ h => by cases h; exact ⟨rfl, rfl⟩
  fld := fun fs h => by cases h
  fund := fund_no Tryz.underlying22 (fun _ h => by cases h)
  aund := aund_no Tryz.underlying22 (fun _ _ h => by cases h)
def i24 : TI D.S := ⟨.struct [(0, 1, false), (1, 1, false)], true, 2, 16, [.int .i64 0, .int .i64 0], some (.st 0), [.int .i64, .int .i64]⟩
theorem t24 : TiOk D PP 24 i24 where
  info := ti_of (by kernel_rfl) (by kernel_rfl) (by kernel_rfl) (by kernel_rfl) (by kernel_rfl) (fun _ => by kernel_rfl)
  desc := ⟨_, Tryz.underlying24, by kernel_rfl⟩
  agg := by kernel_rfl
  pos := by decide
  und := by kernel_rfl
  byt := by decide
  zlen := rfl
  eqk := .inr ⟨20, by decide, by kernel_rfl, by kernel_rfl, by kernel_rfl⟩
  ty := fun τ h => by cases h; exact ⟨rfl, rfl⟩
  fld := fun fs h => by cases h; decide
  fund := fund_of Tryz.underlying24 (by kernel_rfl)
  aund := aund_no Tryz.underlying24 (fun _ _ h => by cases h)
def i26 : TI D.S := ⟨.int .i64, false, 1, 8, [.int .i64 0], some (.int .i64), []⟩
theorem t26 : TiOk D PP 26 i26 where
  info := ti_of (by kernel_rfl) (by kernel_rfl) (by kernel_rfl) (by kernel_rfl) (by kernel_rfl) (fun h => by cases h)
  desc := Tryz.underlying26
  agg := by kernel_rfl
  pos := by decide
  und := by kernel_rfl
  byt := by decide
  zlen := rfl
  eqk := .inl rfl
  ty := fun τ h => by cases h; exact ⟨rfl, rfl⟩
  fld := fun fs h => by cases h
  fund := fund_no Tryz.underlying26 (fun _ h => by cases h)
  aund := aund_no Tryz.underlying26 (fun _ _ h => by cases h)
def i34 : TI D.S := ⟨.struct [(0, 1, false), (1, 1, false), (2, 2, true), (4, 2, true), (6, 2, true)], true, 8, 64, [.int .i64 0, .bool false, .int .i64 0, .int .i64 0, .int .i64 0, .int .i64 0, .int .i64 0, .int .i64 0], some (.st 1), [.int .i64, .bool, .int .i64, .int .i64, .int .i64, .int .i64, .int .i64, .int .i64]⟩
theorem t34 : TiOk D PP 34 i34 where
  info := ti_of (by kernel_rfl) (by kernel_rfl) (by kernel_rfl) (by kernel_rfl) (by kernel_rfl) (fun _ => by kernel_rfl)
  desc := ⟨_, Tryz.underlying34, by kernel_rfl⟩
  agg := by kernel_rfl
  pos := by decide
  und := by kernel_rfl
  byt := by decide
  zlen := rfl
  eqk := .inr ⟨20, by decide, by kernel_rfl, by kernel_rfl, by kernel_rfl⟩
  ty := fun τ h => by cases h; exact ⟨rfl, rfl⟩
  fld := fun fs h => by cases h; decide
  fund := fund_of Tryz.underlying34 (by kernel_rfl)
  aund := aund_no Tryz.underlying34 (fun _ _ h => by cases h)
def i37 : TI D.S := ⟨.struct [(0, 1, false), (1, 1, false)], true, 2, 16, [.int .i64 0, .int .i64 0], some (.st 2), [.int .i64, .int .i64]⟩
theorem t37 : TiOk D PP 37 i37 where
  info := ti_of (by kernel_rfl) (by kernel_rfl) (by kernel_rfl) (by kernel_rfl) (by kernel_rfl) (fun _ => by kernel_rfl)
  desc := ⟨_, Tryz.underlying37, by kernel_rfl⟩
  agg := by kernel_rfl
  pos := by decide
  und := by kernel_rfl
  byt := by decide
  zlen := rfl
  eqk := .inr ⟨20, by decide, by kernel_rfl, by kernel_rfl, by kernel_rfl⟩
  ty := fun τ h => by cases h; exact ⟨rfl, rfl⟩
  fld := fun fs h => by cases h; decide
  fund := fund_of Tryz.underlying37 (by kernel_rfl)
  aund := aund_no Tryz.underlying37 (fun _ _ h => by cases h)
def i45 : TI D.S := ⟨.int .i16, false, 1, 2, [.int .i16 0], some (.int .i16), []⟩
theorem t45 : TiOk D PP 45 i45 where
  info := ti_of (by kernel_rfl) (by kernel_rfl) (by kernel_rfl) (by kernel_rfl) (by kernel_rfl) (fun h => by cases h)
  desc := Tryz.underlying45
  agg := by kernel_rfl
  pos := by decide
  und := by kernel_rfl
  byt := by decide
  zlen := rfl
  eqk := .inl rfl
  ty := fun τ h => by cases h; exact ⟨rfl, rfl⟩
  fld := fun fs h => by cases h
  fund := fund_no Tryz.underlying45 (fun _ h => by cases h)
  aund := aund_no Tryz.underlying45 (fun _ _ h => by cases h)
def i46 : TI D.S := ⟨.array 2 1 false, true, 2, 4, [.int .i16 0, .int .i16 0], some (.st 3), []⟩
theorem t46 : TiOk D PP 46 i46 where
  info := ti_of (by kernel_rfl) (by kernel_rfl) (by kernel_rfl) (by kernel_rfl) (by kernel_rfl) (fun _ => by kernel_rfl)
  desc := ⟨_, Tryz.underlying46, by kernel_rfl, by kernel_rfl, by kernel_rfl, by decide⟩
  agg := by kernel_rfl
  pos := by decide
  und := by kernel_rfl
  byt := by decide
  zlen := rfl
  eqk := .inl rfl
  ty := fun τ h => by cases h; exact ⟨rfl, rfl⟩
  fld := fun fs h => by cases h
  fund := fund_no Tryz.underlying46 (fun _ h => by cases h)
  aund := aund_of Tryz.underlying46 (by kernel_rfl)
def i47 : TI D.S := ⟨.array 4 2 true, true, 8, 16, [.int .i16 0, .int .i16 0, .int .i16 0, .int .i16 0, .int .i16 0, .int .i16 0, .int .i16 0, .int .i16 0], some (.st 4), []⟩
theorem t47 : TiOk D PP 47 i47 where
  info := ti_of (by kernel_rfl) (by kernel_rfl) (by kernel_rfl) (by kernel_rfl) (by kernel_rfl) (fun _ => by kernel_rfl)
  desc := ⟨_, Tryz.underlying47, by kernel_rfl, by kernel_rfl, by kernel_rfl, by decide⟩
  agg := by kernel_rfl
  pos := by decide
  und := by kernel_rfl
  byt := by decide
  zlen := rfl
  eqk := .inl rfl
  ty := fun τ h => by cases h; exact ⟨rfl, rfl⟩
  fld := fun fs h => by cases h
  fund := fund_no Tryz.underlying47 (fun _ h => by cases h)
  aund := aund_of Tryz.underlying47 (by kernel_rfl)
def i48 : TI D.S := ⟨.int .u16, false, 1, 2, [.int .u16 0], some (.int .u16), []⟩
theorem t48 : TiOk D PP 48 i48 where
  info := ti_of (by kernel_rfl) (by kernel_rfl) (by kernel_rfl) (by kernel_rfl) (by kernel_rfl) (fun h => by cases h)
  desc := Tryz.underlying48
  agg := by kernel_rfl
  pos := by decide
  und := by kernel_rfl
  byt := by decide
  zlen := rfl
  eqk := .inl rfl
  ty := fun τ h => by cases h; exact ⟨rfl, rfl⟩
  fld := fun fs h => by cases h
  fund := fund_no Tryz.underlying48 (fun _ h => by cases h)
  aund := aund_no Tryz.underlying48 (fun _ _ h => by cases h)
def i49 : TI D.S := ⟨.array 4 2 true, true, 8, 64, [.int .i64 0, .int .i64 0, .int .i64 0, .int .i64 0, .int .i64 0, .int .i64 0, .int .i64 0, .int .i64 0], some (.st 5), []⟩
theorem t49 : TiOk D PP 49 i49 where
  info := ti_of (by kernel_rfl) (by kernel_rfl) (by kernel_rfl) (by kernel_rfl) (by kernel_rfl) (fun _ => by kernel_rfl)
  desc := ⟨_, Tryz.underlying49, by kernel_rfl, by kernel_rfl, by kernel_rfl, by decide⟩
  agg := by kernel_rfl
  pos := by decide
  und := by kernel_rfl
  byt := by decide
  zlen := rfl
  eqk := .inl rfl
  ty := fun τ h => by cases h; exact ⟨rfl, rfl⟩
  fld := fun fs h => by cases h
  fund := fund_no Tryz.underlying49 (fun _ h => by cases h)
  aund := aund_of Tryz.underlying49 (by kernel_rfl)
def i51 : TI D.S := ⟨.array 3 1 false, true, 3, 24, [.int .i64 0, .int .i64 0, .int .i64 0], some (.st 6), []⟩
theorem t51 : TiOk D PP 51 i51 where
  info := ti_of (by kernel_rfl) (by kernel_rfl) (by kernel_rfl) (by kernel_rfl) (by kernel_rfl) (fun _ => by kernel_rfl)
  desc := ⟨_, Tryz.underlying51, by kernel_rfl, by kernel_rfl, by kernel_rfl, by decide⟩
  agg := by kernel_rfl
  pos := by decide
  und := by kernel_rfl
  byt := by decide
  zlen := rfl
  eqk := .inl rfl
  ty := fun τ h => by cases h; exact ⟨rfl, rfl⟩
  fld := fun fs h => by cases h
  fund := fund_no Tryz.underlying51 (fun _ h => by cases h)
  aund := aund_of Tryz.underlying51 (by kernel_rfl)
def i52 : TI D.S := ⟨.slice 77, false, 1, 24, [.nils], some (.sl (.st 7)), []⟩
theorem t52 : TiOk D PP 52 i52 where
  info := ti_of (by kernel_rfl) (by kernel_rfl) (by kernel_rfl) (by kernel_rfl) (by kernel_rfl) (fun h => by cases h)
  desc := Tryz.underlying52
  agg := by kernel_rfl
  pos := by decide
  und := by kernel_rfl
  byt := by decide
  zlen := rfl
  eqk := .inl rfl
  ty := fun τ h => by cases h; exact ⟨rfl, rfl⟩
  fld := fun fs h => by cases h
  fund := fund_no Tryz.underlying52 (fun _ h => by cases h)
  aund := aund_no Tryz.underlying52 (fun _ _ h => by cases h)
def i57 : TI D.S := ⟨.slice 81, false, 1, 24, [.nils], some (.sl (.st 8)), []⟩
theorem t57 : TiOk D PP 57 i57 where
  info := ti_of (by kernel_rfl) (by kernel_rfl) (by kernel_rfl) (by kernel_rfl) (by kernel_rfl) (fun h => by cases h)
  desc := Tryz.underlying57
  agg := by kernel_rfl
  pos := by decide
  und := by kernel_rfl
  byt := by decide
  zlen := rfl
  eqk := .inl rfl
  ty := fun τ h => by cases h; exact ⟨rfl, rfl⟩
  fld := fun fs h => by cases h
  fund := fund_no Tryz.underlying57 (fun _ h => by cases h)
  aund := aund_no Tryz.underlying57 (fun _ _ h => by cases h)
def i75 : TI D.S := ⟨.slice 125, false, 1, 24, [.nils], some (.sl (.int .u32)), []⟩
theorem t75 : TiOk D PP 75 i75 where
  info := ti_of (by kernel_rfl) (by kernel_rfl) (by kernel_rfl) (by kernel_rfl) (by kernel_rfl) (fun h => by cases h)
  desc := Tryz.underlying75
  agg := by kernel_rfl
  pos := by decide
  und := by kernel_rfl
  byt := by decide
  zlen := rfl
  eqk := .inl rfl
  ty := fun τ h => by cases h; exact ⟨rfl, rfl⟩
  fld := fun fs h => by cases h
  fund := fund_no Tryz.underlying75 (fun _ h => by cases h)
  aund := aund_no Tryz.underlying75 (fun _ _ h => by cases h)
def i77 : TI D.S := ⟨.struct [(0, 1, false), (1, 1, false)], true, 2, 32, [.bool false, .nils], some (.st 7), []⟩
theorem t77 : TiOk D PP 77 i77 where
  info := ti_of (by kernel_rfl) (by kernel_rfl) (by kernel_rfl) (by kernel_rfl) (by kernel_rfl) (fun _ => by kernel_rfl)
  desc := ⟨_, Tryz.underlying77, by kernel_rfl⟩
  agg := by kernel_rfl
  pos := by decide
  und := by kernel_rfl
  byt := by decide
  zlen := rfl
  eqk := .inl rfl
  ty := fun τ h => by cases h; exact ⟨rfl, rfl⟩
  fld := fun fs h => by cases h; decide
  fund := fund_of Tryz.underlying77 (by kernel_rfl)
  aund := aund_no Tryz.underlying77 (fun _ _ h => by cases h)
def i79 : TI D.S := ⟨.slice 100, false, 1, 24, [.nils], some (.sl (.int .u64)), []⟩
theorem t79 : TiOk D PP 79 i79 where
  info := ti_of (by kernel_rfl) (by kernel_rfl) (by kernel_rfl) (by kernel_rfl) (by kernel_rfl) (fun h => by cases h)
  desc := Tryz.underlying79
  agg := by kernel_rfl
  pos := by decide
  und := by kernel_rfl
  byt := by decide
  zlen := rfl
  eqk := .inl rfl
  ty := fun τ h => by cases h; exact ⟨rfl, rfl⟩
  fld := fun fs h => by cases h
  fund := fund_no Tryz.underlying79 (fun _ h => by cases h)
  aund := aund_no Tryz.underlying79 (fun _ _ h => by cases h)
def i81 : TI D.S := ⟨.struct [(0, 1, false), (1, 1, false)], true, 2, 32, [.bool false, .nils], some (.st 8), []⟩
theorem t81 : TiOk D PP 81 i81 where
  info := ti_of (by kernel_rfl) (by kernel_rfl) (by kernel_rfl) (by kernel_rfl) (by kernel_rfl) (fun _ => by kernel_rfl)
  desc := ⟨_, Tryz.underlying81, by kernel_rfl⟩
  agg := by kernel_rfl
  pos := by decide
  und := by kernel_rfl
  byt := by decide
  zlen := rfl
  eqk := .inl rfl
  ty := fun τ h => by cases h; exact ⟨rfl, rfl⟩
  fld := fun fs h => by cases h; decide
  fund := fund_of Tryz.underlying81 (by kernel_rfl)
  aund := aund_no Tryz.underlying81 (fun _ _ h => by cases h)
def i90 : TI D.S := ⟨.slice 2, false, 1, 24, [.nils], some (.sl (.int .i64)), []⟩
theorem t90 : TiOk D PP 90 i90 where
  info := ti_of (by kernel_rfl) (by kernel_rfl) (by kernel_rfl) (by kernel_rfl) (by kernel_rfl) (fun h => by cases h)
  desc := Tryz.underlying90
  agg := by kernel_rfl
  pos := by decide
  und := by kernel_rfl
  byt := by decide
  zlen := rfl
  eqk := .inl rfl
  ty := fun τ h => by cases h; exact ⟨rfl, rfl⟩
  fld := fun fs h => by cases h
  fund := fund_no Tryz.underlying90 (fun _ h => by cases h)
  aund := aund_no Tryz.underlying90 (fun _ _ h => by cases h)
def i100 : TI D.S := ⟨.int .u64, false, 1, 8, [.int .u64 0], some (.int .u64), []⟩
theorem t100 : TiOk D PP 100 i100 where
  info := ti_of (by kernel_rfl) (by kernel_rfl) (by kernel_rfl) (by kernel_rfl) (by kernel_rfl) (fun h => by cases h)
  desc := Tryz.underlying100
  agg := by kernel_rfl
  pos := by decide
  und := by kernel_rfl
  byt := by decide
  zlen := rfl
  eqk := .inl rfl
  ty := fun τ h => by cases h; exact ⟨rfl, rfl⟩
  fld := fun fs h => by cases h
  fund := fund_no Tryz.underlying100 (fun _ h => by cases h)
  aund := aund_no Tryz.underlying100 (fun _ _ h => by cases h)
def i102 : TI D.S := ⟨.struct [(0, 1, false), (1, 1, false)], true, 2, 16, [.int .u64 0, .int .u64 0], some (.st 9), [.int .u64, .int .u64]⟩
theorem t102 : TiOk D PP 102 i102 where
  info := ti_of (by kernel_rfl) (by kernel_rfl) (by kernel_rfl) (by kernel_rfl) (by kernel_rfl) (fun _ => by kernel_rfl)
  desc := ⟨_, Tryz.underlying102, by kernel_rfl⟩
  agg := by kernel_rfl
  pos := by decide
  und := by kernel_rfl
  byt := by decide
  zlen := rfl
  eqk := .inr ⟨20, by decide, by kernel_rfl, by kernel_rfl, by kernel_rfl⟩
  ty := fun τ h => by cases h; exact ⟨rfl, rfl⟩
  fld := fun fs h => by cases h; decide
  fund := fund_of Tryz.underlying102 (by kernel_rfl)
  aund := aund_no Tryz.underlying102 (fun _ _ h => by cases h)
def i125 : TI D.S := ⟨.int .u32, false, 1, 4, [.int .u32 0], some (.int .u32), []⟩
theorem t125 : TiOk D PP 125 i125 where
  info := ti_of (by kernel_rfl) (by kernel_rfl) (by kernel_rfl) (by kernel_rfl) (by kernel_rfl) (fun h => by cases h)
  desc := Tryz.underlying125
  agg := by kernel_rfl
  pos := by decide
  und := by kernel_rfl
  byt := by decide
  zlen := rfl
  eqk := .inl rfl
  ty := fun τ h => by cases h; exact ⟨rfl, rfl⟩
  fld := fun fs h => by cases h
  fund := fund_no Tryz.underlying125 (fun _ h => by cases h)
  aund := aund_no Tryz.underlying125 (fun _ _ h => by cases h)
def i133 : TI D.S := ⟨.struct [(0, 1, false), (1, 1, false), (2, 1, false)], true, 3, 24, [.int .i64 0, .int .i64 0, .int .i64 0], some (.st 10), [.int .i64, .int .i64, .int .i64]⟩
theorem t133 : TiOk D PP 133 i133 where
  info := ti_of (by kernel_rfl) (by kernel_rfl) (by kernel_rfl) (by kernel_rfl) (by kernel_rfl) (fun _ => by kernel_rfl)
  desc := ⟨_, Tryz.underlying133, by kernel_rfl⟩
  agg := by kernel_rfl
  pos := by decide
  und := by kernel_rfl
  byt := by decide
  zlen := rfl
  eqk := .inr ⟨20, by decide, by kernel_rfl, by kernel_rfl, by kernel_rfl⟩
  ty := fun τ h => by cases h; exact ⟨rfl, rfl⟩
  fld := fun fs h => by cases h; decide
  fund := fund_of Tryz.underlying133 (by kernel_rfl)
  aund := aund_no Tryz.underlying133 (fun _ _ h => by cases h)
def i139 : TI D.S := ⟨.struct [(0, 3, true), (3, 3, true), (6, 2, true), (8, 2, true)], true, 10, 80, [.int .i64 0, .int .i64 0, .int .i64 0, .int .i64 0, .int .i64 0, .int .i64 0, .int .i64 0, .int .i64 0, .int .i64 0, .int .i64 0], some (.st 11), [.int .i64, .int .i64, .int .i64, .int .i64, .int .i64, .int .i64, .int .i64, .int .i64, .int .i64, .int .i64]⟩
theorem t139 : TiOk D PP 139 i139 where
  info := ti_of (by kernel_rfl) (by kernel_rfl) (by kernel_rfl) (by kernel_rfl) (by kernel_rfl) (fun _ => by kernel_rfl)
  desc := ⟨_, Tryz.underlying139, by kernel_rfl⟩
  agg := by kernel_rfl
  pos := by decide
  und := by kernel_rfl
  byt := by decide
  zlen := rfl
  eqk := .inr ⟨20, by decide, by kernel_rfl, by kernel_rfl, by kernel_rfl⟩
  ty := fun τ h => by cases h; exact ⟨rfl, rfl⟩
  fld := fun fs h => by cases h; decide
  fund := fund_of Tryz.underlying139 (by kernel_rfl)
  aund := aund_no Tryz.underlying139 (fun _ _ h => by cases h)
def i144 : TI D.S := ⟨.slice 57, false, 1, 24, [.nils], some (.sl (.sl (.st 8))), []⟩
theorem t144 : TiOk D PP 144 i144 where
  info := ti_of (by kernel_rfl) (by kernel_rfl) (by kernel_rfl) (by kernel_rfl) (by kernel_rfl) (fun h => by cases h)
  desc := Tryz.underlying144
  agg := by kernel_rfl
  pos := by decide
  und := by kernel_rfl
  byt := by decide
  zlen := rfl
  eqk := .inl rfl
  ty := fun τ h => by cases h; exact ⟨rfl, rfl⟩
  fld := fun fs h => by cases h
  fund := fund_no Tryz.underlying144 (fun _ h => by cases h)
  aund := aund_no Tryz.underlying144 (fun _ _ h => by cases h)
def i160 : TI D.S := ⟨.struct [(0, 1, false), (1, 2, true)], true, 3, 24, [.bool false, .int .u64 0, .int .u64 0], some (.st 12), [.bool, .int .u64, .int .u64]⟩
theorem t160 : TiOk D PP 160 i160 where
  info := ti_of (by kernel_rfl) (by kernel_rfl) (by kernel_rfl) (by kernel_rfl) (by kernel_rfl) (fun _ => by kernel_rfl)
  desc := ⟨_, Tryz.underlying160, by kernel_rfl⟩
  agg := by kernel_rfl
  pos := by decide
  und := by kernel_rfl
  byt := by decide
  zlen := rfl
  eqk := .inr ⟨20, by decide, by kernel_rfl, by kernel_rfl, by kernel_rfl⟩
  ty := fun τ h => by cases h; exact ⟨rfl, rfl⟩
  fld := fun fs h => by cases h; decide
  fund := fund_of Tryz.underlying160 (by kernel_rfl)
  aund := aund_no Tryz.underlying160 (fun _ _ h => by cases h)
def i168 : TI D.S := ⟨.struct [(0, 1, false), (1, 1, false)], true, 2, 16, [.int .i64 0, .int .i64 0], some (.st 13), [.int .i64, .int .i64]⟩
theorem t168 : TiOk D PP 168 i168 where
  info := ti_of (by kernel_rfl) (by kernel_rfl) (by kernel_rfl) (by kernel_rfl) (by kernel_rfl) (fun _ => by kernel_rfl)
  desc := ⟨_, Tryz.underlying168, by kernel_rfl⟩
  agg := by kernel_rfl
  pos := by decide
  und := by kernel_rfl
  byt := by decide
  zlen := rfl
  eqk := .inr ⟨20, by decide, by kernel_rfl, by kernel_rfl, by kernel_rfl⟩
  ty := fun τ h => by cases h; exact ⟨rfl, rfl⟩
  fld := fun fs h => by cases h; decide
  fund := fund_of Tryz.underlying168 (by kernel_rfl)
  aund := aund_no Tryz.underlying168 (fun _ _ h => by cases h)
def i172 : TI D.S := ⟨.ptr 174, false, 1, 8, [.nilp], none, []⟩
theorem t172 : TiOk D PP 172 i172 where
  info := ti_of (by kernel_rfl) (by kernel_rfl) (by kernel_rfl) (by kernel_rfl) (by kernel_rfl) (fun h => by cases h)
  desc := Tryz.underlying172
  agg := by kernel_rfl
  pos := by decide
  und := by kernel_rfl
  byt := by decide
  zlen := rfl
  eqk := .inl rfl
  ty := fun τ h => by cases h
  fld := fun fs h => by cases h
  fund := fund_no Tryz.underlying172 (fun _ h => by cases h)
  aund := aund_no Tryz.underlying172 (fun _ _ h => by cases h)
def i174 : TI D.S := ⟨.struct [(0, 1, false), (1, 1, false), (2, 1, false), (3, 1, false)], true, 4, 32, [.int .i64 0, .int .i64 0, .int .i64 0, .int .i64 0], some (.st 14), [.int .i64, .int .i64, .int .i64, .int .i64]⟩
theorem t174 : TiOk D PP 174 i174 where
  info := ti_of (by kernel_rfl) (by kernel_rfl) (by kernel_rfl) (by kernel_rfl) (by kernel_rfl) (fun _ => by kernel_rfl)
  desc := ⟨_, Tryz.underlying174, by kernel_rfl⟩
  agg := by kernel_rfl
  pos := by decide
  und := by kernel_rfl
  byt := by decide
  zlen := rfl
  eqk := .inr ⟨20, by decide, by kernel_rfl, by kernel_rfl, by kernel_rfl⟩
  ty := fun τ h => by cases h; exact ⟨rfl, rfl⟩
  fld := fun fs h => by cases h; decide
  fund := fund_of Tryz.underlying174 (by kernel_rfl)
  aund := aund_no Tryz.underlying174 (fun _ _ h => by cases h)
def i180 : TI D.S := ⟨.func, false, 1, 8, [.nilf], none, []⟩
theorem t180 : TiOk D PP 180 i180 where
  info := ti_of (by kernel_rfl) (by kernel_rfl) (by kernel_rfl) (by kernel_rfl) (by kernel_rfl) (fun h => by cases h)
  desc := ⟨_, _, _, Tryz.underlying180⟩
  agg := by kernel_rfl
  pos := by decide
  und := by kernel_rfl
  byt := by decide
  zlen := rfl
  eqk := .inl rfl
  ty := fun τ h => by cases h
  fld := fun fs h => by cases h
  fund := fund_no Tryz.underlying180 (fun _ h => by cases h)
  aund := aund_no Tryz.underlying180 (fun _ _ h => by cases h)
def i182 : TI D.S := ⟨.int .u64, false, 1, 8, [.int .u64 0], some (.int .u64), []⟩
theorem t182 : TiOk D PP 182 i182 where
  info := ti_of (by kernel_rfl) (by kernel_rfl) (by kernel_rfl) (by kernel_rfl) (by kernel_rfl) (fun h => by cases h)
  desc := Tryz.underlying182
  agg := by kernel_rfl
  pos := by decide
  und := by kernel_rfl
  byt := by decide
  zlen := rfl
  eqk := .inl rfl
  ty := fun τ h => by cases h; exact ⟨rfl, rfl⟩
  fld := fun fs h => by cases h
  fund := fund_no Tryz.underlying182 (fun _ h => by cases h)
  aund := aund_no Tryz.underlying182 (fun _ _ h => by cases h)
def i190 : TI D.S := ⟨.slice 24, false, 1, 24, [.nils], some (.sl (.st 0)), []⟩
theorem t190 : TiOk D PP 190 i190 where
  info := ti_of (by kernel_rfl) (by kernel_rfl) (by kernel_rfl) (by kernel_rfl) (by kernel_rfl) (fun h => by cases h)
  desc := Tryz.underlying190
  agg := by kernel_rfl
  pos := by decide
  und := by kernel_rfl
  byt := by decide
  zlen := rfl
  eqk := .inl rfl
  ty := fun τ h => by cases h; exact ⟨rfl, rfl⟩
  fld := fun fs h => by cases h
  fund := fund_no Tryz.underlying190 (fun _ h => by cases h)
  aund := aund_no Tryz.underlying190 (fun _ _ h => by cases h)
def i191 : TI D.S := ⟨.func, false, 1, 8, [.nilf], none, []⟩
theorem t191 : TiOk D PP 191 i191 where
  info := ti_of (by kernel_rfl) (by kernel_rfl) (by kernel_rfl) (by kernel_rfl) (by kernel_rfl) (fun h => by cases h)
  desc := ⟨_, _, _, Tryz.underlying191⟩
  agg := by kernel_rfl
  pos := by decide
  und := by kernel_rfl
  byt := by decide
  zlen := rfl
  eqk := .inl rfl
  ty := fun τ h => by cases h
  fld := fun fs h => by cases h
  fund := fund_no Tryz.underlying191 (fun _ h => by cases h)
  aund := aund_no Tryz.underlying191 (fun _ _ h => by cases h)
def i193 : TI D.S := ⟨.slice 52, false, 1, 24, [.nils], some (.sl (.sl (.st 7))), []⟩
theorem t193 : TiOk D PP 193 i193 where
  info := ti_of (by kernel_rfl) (by kernel_rfl) (by kernel_rfl) (by kernel_rfl) (by kernel_rfl) (fun h => by cases h)
  desc := Tryz.underlying193
  agg := by kernel_rfl
  pos := by decide
  und := by kernel_rfl
  byt := by decide
  zlen := rfl
  eqk := .inl rfl
  ty := fun τ h => by cases h; exact ⟨rfl, rfl⟩
  fld := fun fs h => by cases h
  fund := fund_no Tryz.underlying193 (fun _ h => by cases h)
  aund := aund_no Tryz.underlying193 (fun _ _ h => by cases h)
def i201 : TI D.S := ⟨.array 5 1 false, true, 5, 40, [.int .i64 0, .int .i64 0, .int .i64 0, .int .i64 0, .int .i64 0], some (.st 15), []⟩
theorem t201 : TiOk D PP 201 i201 where
  info := ti_of (by kernel_rfl) (by kernel_rfl) (by kernel_rfl) (by kernel_rfl) (by kernel_rfl) (fun _ => by kernel_rfl)
  desc := ⟨_, Tryz.underlying201, by kernel_rfl, by kernel_rfl, by kernel_rfl, by decide⟩
  agg := by kernel_rfl
  pos := by decide
  und := by kernel_rfl
  byt := by decide
  zlen := rfl
  eqk := .inl rfl
  ty := fun τ h => by cases h; exact ⟨rfl, rfl⟩
  fld := fun fs h => by cases h
  fund := fund_no Tryz.underlying201 (fun _ h => by cases h)
  aund := aund_of Tryz.underlying201 (by kernel_rfl)
def i206 : TI D.S := ⟨.slice 90, false, 1, 24, [.nils], some (.sl (.sl (.int .i64))), []⟩
theorem t206 : TiOk D PP 206 i206 where
  info := ti_of (by kernel_rfl) (by kernel_rfl) (by kernel_rfl) (by kernel_rfl) (by kernel_rfl) (fun h => by cases h)
  desc := Tryz.underlying206
  agg := by kernel_rfl
  pos := by decide
  und := by kernel_rfl
  byt := by decide
  zlen := rfl
  eqk := .inl rfl
  ty := fun τ h => by cases h; exact ⟨rfl, rfl⟩
  fld := fun fs h => by cases h
  fund := fund_no Tryz.underlying206 (fun _ h => by cases h)
  aund := aund_no Tryz.underlying206 (fun _ _ h => by cases h)
def i219 : TI D.S := ⟨.slice 3, false, 1, 24, [.nils], some (.sl (.int .i64)), []⟩
theorem t219 : TiOk D PP 219 i219 where
  info := ti_of (by kernel_rfl) (by kernel_rfl) (by kernel_rfl) (by kernel_rfl) (by kernel_rfl) (fun h => by cases h)
  desc := Tryz.underlying219
  agg := by kernel_rfl
  pos := by decide
  und := by kernel_rfl
  byt := by decide
  zlen := rfl
  eqk := .inl rfl
  ty := fun τ h => by cases h; exact ⟨rfl, rfl⟩
  fld := fun fs h => by cases h
  fund := fund_no Tryz.underlying219 (fun _ h => by cases h)
  aund := aund_no Tryz.underlying219 (fun _ _ h => by cases h)
def i224 : TI D.S := ⟨.array 3 1 false, true, 3, 24, [.int .u64 0, .int .u64 0, .int .u64 0], some (.st 16), []⟩
theorem t224 : TiOk D PP 224 i224 where
  info := ti_of (by kernel_rfl) (by kernel_rfl) (by kernel_rfl) (by kernel_rfl) (by kernel_rfl) (fun _ => by kernel_rfl)
  desc := ⟨_, Tryz.underlying224, by kernel_rfl, by kernel_rfl, by kernel_rfl, by decide⟩
  agg := by kernel_rfl
  pos := by decide
  und := by kernel_rfl
  byt := by decide
  zlen := rfl
  eqk := .inl rfl
  ty := fun τ h => by cases h; exact ⟨rfl, rfl⟩
  fld := fun fs h => by cases h
  fund := fund_no Tryz.underlying224 (fun _ h => by cases h)
  aund := aund_of Tryz.underlying224 (by kernel_rfl)
def i247 : TI D.S := ⟨.array 64 1 false, true, 64, 64, [.int .u8 0, .int .u8 0, .int .u8 0, .int .u8 0, .int .u8 0, .int .u8 0, .int .u8 0, .int .u8 0, .int .u8 0, .int .u8 0, .int .u8 0, .int .u8 0, .int .u8 0, .int .u8 0, .int .u8 0, .int .u8 0, .int .u8 0, .int .u8 0, .int .u8 0, .int .u8 0, .int .u8 0, .int .u8 0, .int .u8 0, .int .u8 0, .int .u8 0, .int .u8 0, .int .u8 0, .int .u8 0, .int .u8 0, .int .u8 0, .int .u8 0, .int .u8 0, .int .u8 0, .int .u8 0, .int .u8 0, .int .u8 0, .int .u8 0, .int .u8 0, .int .u8 0, .int .u8 0, .int .u8 0, .int .u8 0, .int .u8 0, .int .u8 0, .int .u8 0, .int .u8 0, .int .u8 0, .int .u8 0, .int .u8 0, .int .u8 0, .int .u8 0, .int .u8 0, .int .u8 0, .int .u8 0, .int .u8 0, .int .u8 0, .int .u8 0, .int .u8 0, .int .u8 0, .int .u8 0, .int .u8 0, .int .u8 0, .int .u8 0, .int .u8 0], none, []⟩
theorem t247 : TiOk D PP 247 i247 where
  info := ti_of (by kernel_rfl) (by kernel_rfl) (by kernel_rfl) (by kernel_rfl) (by kernel_rfl) (fun _ => by kernel_rfl)
  desc := ⟨_, Tryz.underlying247, by kernel_rfl, by kernel_rfl, by kernel_rfl, by decide⟩
  agg := by kernel_rfl
  pos := by decide
  und := by kernel_rfl
  byt := by decide
  zlen := rfl
  eqk := .inl rfl
  ty := fun τ h => by cases h
  fld := fun fs h => by cases h
  fund := fund_no Tryz.underlying247 (fun _ h => by cases h)
  aund := aund_of Tryz.underlying247 (by kernel_rfl)
theorem D_ti : ∀ t i, (t, i) ∈ D.ti → TiOk D PP t i := fun t i h => by
  have h : (t, i) ∈ [(2, i2), (3, i3), (4, i4), (5, i5), (9, i9), (22, i22), (24, i24), (26, i26), (34, i34), (37, i37), (45, i45), (46, i46), (47, i47), (48, i48), (49, i49), (51, i51), (52, i52), (57, i57), (75, i75), (77, i77), (79, i79), (81, i81), (90, i90), (100, i100), (102, i102), (125, i125), (133, i133), (139, i139), (144, i144), (160, i160), (168, i168), (172, i172), (174, i174), (180, i180), (182, i182), (190, i190), (191, i191), (193, i193), (201, i201), (206, i206), (219, i219), (224, i224), (247, i247)] := h
  simp only [List.mem_cons, List.not_mem_nil, or_false, Prod.mk.injEq] at h
  rcases h with ⟨rfl, rfl⟩ | ⟨rfl, rfl⟩ | ⟨rfl, rfl⟩ | ⟨rfl, rfl⟩ | ⟨rfl, rfl⟩ | ⟨rfl, rfl⟩ | ⟨rfl, rfl⟩ | ⟨rfl, rfl⟩ | ⟨rfl, rfl⟩ | ⟨rfl, rfl⟩ | ⟨rfl, rfl⟩ | ⟨rfl, rfl⟩ | ⟨rfl, rfl⟩ | ⟨rfl, rfl⟩ | ⟨rfl, rfl⟩ | ⟨rfl, rfl⟩ | ⟨rfl, rfl⟩ | ⟨rfl, rfl⟩ | ⟨rfl, rfl⟩ | ⟨rfl, rfl⟩ | ⟨rfl, rfl⟩ | ⟨rfl, rfl⟩ | ⟨rfl, rfl⟩ | ⟨rfl, rfl⟩ | ⟨rfl, rfl⟩ | ⟨rfl, rfl⟩ | ⟨rfl, rfl⟩ | ⟨rfl, rfl⟩ | ⟨rfl, rfl⟩ | ⟨rfl, rfl⟩ | ⟨rfl, rfl⟩ | ⟨rfl, rfl⟩ | ⟨rfl, rfl⟩ | ⟨rfl, rfl⟩ | ⟨rfl, rfl⟩ | ⟨rfl, rfl⟩ | ⟨rfl, rfl⟩ | ⟨rfl, rfl⟩ | ⟨rfl, rfl⟩ | ⟨rfl, rfl⟩ | ⟨rfl, rfl⟩ | ⟨rfl, rfl⟩ | ⟨rfl, rfl⟩
  · exact t2
  · exact t3
  · exact t4
  · exact t5
  · exact t9
  · exact t22
  · exact t24
  · exact t26
  · exact t34
  · exact t37
  · exact t45
  · exact t46
  · exact t47
  · exact t48
  · exact t49
  · exact t51
  · exact t52
  · exact t57
  · exact t75
  · exact t77
  · exact t79
  · exact t81
  · exact t90
  · exact t100
  · exact t102
  · exact t125
  · exact t133
  · exact t139
  · exact t144
  · exact t160
  · exact t168
  · exact t172
  · exact t174
  · exact t180
  · exact t182
  · exact t190
  · exact t191
  · exact t193
  · exact t201
  · exact t206
  · exact t219
  · exact t224
  · exact t247
theorem lw : Lawful D PP where
  len := D_len
  dec := D_dec
  pure := D_pure
  ti := D_ti
  mixed := by kernel_rfl
end Go.Proofs.YtnikppnfkjogdaaGreatDoor.Ev
