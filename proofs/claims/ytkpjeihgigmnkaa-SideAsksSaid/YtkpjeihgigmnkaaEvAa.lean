/- The interpreter of a claim: texts Ev0 Ev1 Ev1b Ev2 Ev3 Ev4 Ev5 Ev6 Ev7 Ev8 Ev9 Ev10 Ev11 in one. -/
import Derived.Calls
import Derived.Deep.AppendSrc
import Derived.Laws.MakeOwn
import Derived.Below
import Derived.Laws.BytesArg
import Derived.Laws.StructEq
import Derived.Laws.Tables
/- Values without memory: what a Go function computes, told by a function that runs the translated code over lists and numbers. Definitions. -/
namespace Go.Proofs.Ytkpjeihgigmnkaa.Ev
open Go

/-- The kinds of data that are told by value. -/
inductive Ty where
  | int (k : IntKind) | bool | str | st (n : Nat) | sl (t : Ty) | ptr (t : Ty)

@[reducible] def T (S : Nat → Type) : Ty → Type
  | .int _ => Int
  | .bool => Bool
  | .str => ByteArray
  | .st n => S n
  | .sl t => List (T S t)
  | .ptr t => Option (T S t)

def Ty.eq? : (a b : Ty) → Option (PLift (a = b))
  | .int k, .int k' => if h : k = k' then some ⟨h ▸ rfl⟩ else none
  | .bool, .bool => some ⟨rfl⟩
  | .str, .str => some ⟨rfl⟩
  | .st n, .st m => match h : Nat.beq n m with | true => some ⟨Nat.eq_of_beq_eq_true h ▸ rfl⟩ | false => none
  | .sl a, .sl b => match Ty.eq? a b with | some ⟨h⟩ => some ⟨h ▸ rfl⟩ | none => none
  | .ptr a, .ptr b => match Ty.eq? a b with | some ⟨h⟩ => some ⟨h ▸ rfl⟩ | none => none
  | _, _ => none

/-- What one cell holds. -/
inductive C (S : Nat → Type) where
  | any | int (k : IntKind) (n : Int) | bool (b : Bool) | str (s : ByteArray) | nilp
  | ptr (id off : Nat) | eptr (id e off : Nat) | nils | emp | own (id : Nat) | part (id off len : Nat)
  | lst (t : Ty) (l : List (T S t)) | fptr (t : Ty) (l : List (T S t)) (i off : Nat)
  | nili | err (t : TypeId) (k : IntKind) (n : Int) | nilf | fn (f : FuncId) (caps : List Nat)
inductive A (S : Nat → Type) where | c (x : C S) | agg (cs : List (C S))
inductive V (S : Nat → Type) where | a (x : A S) | tup (l : List (A S))
inductive B (S : Nat → Type) where | box (cs : List (C S)) | arr (t : Ty) (l : List (T S t))

def A.cells {S} : A S → List (C S) | .c x => [x] | .agg cs => cs

/-- Slots: a tree over numbers. -/
inductive Tr (α : Type) where | lf | nd (v : Option α) (l r : Tr α)
def Tr.get {α} : Tr α → Nat → Option α
  | .lf, _ => none
  | .nd v l r, n => match Nat.beq n 0 with | true => v | false => match Nat.beq (n % 2) 1 with | true => l.get (n / 2) | false => r.get (n / 2 - 1)
/-- The tree with another value at n, handed on (the whole tree is worked out first). -/
def Tr.setK {α R} : Nat → Tr α → Nat → Option α → (Tr α → R) → R
  | 0, t, _, _, k => k t
  | d + 1, .lf, n, v, k => match Nat.beq n 0 with
    | true => k (.nd v .lf .lf)
    | false => match Nat.beq (n % 2) 1 with
      | true => Tr.setK d .lf (n / 2) v fun l => k (.nd none l .lf)
      | false => Tr.setK d .lf (n / 2 - 1) v fun r => k (.nd none .lf r)
  | d + 1, .nd v0 l r, n, v, k => match Nat.beq n 0 with
    | true => k (.nd v l r)
    | false => match Nat.beq (n % 2) 1 with
      | true => Tr.setK d l (n / 2) v fun l => k (.nd v0 l r)
      | false => Tr.setK d r (n / 2 - 1) v fun r => k (.nd v0 l r)
def Tr.vl {α} : Tr α → Option α | .lf => none | .nd v _ _ => v
def Tr.lt {α} : Tr α → Tr α | .lf => .lf | .nd _ l _ => l
def Tr.rt {α} : Tr α → Tr α | .lf => .lf | .nd _ _ r => r
def Tr.set {α} : Nat → Tr α → Nat → Option α → Tr α
  | 0, t, _, _ => t
  | d + 1, t, n, v => match Nat.beq n 0 with
    | true => .nd v t.lt t.rt
    | false => match Nat.beq (n % 2) 1 with
      | true => .nd t.vl (Tr.set d t.lt (n / 2) v) t.rt
      | false => .nd t.vl t.lt (Tr.set d t.rt (n / 2 - 1) v)
/-- Every value turned, handed on. -/
def Tr.mapK {α R} (f : α → (α → R) → R) : Tr α → (Tr α → R) → R
  | .lf, k => k .lf
  | .nd v l r, k => Tr.mapK f l fun l => Tr.mapK f r fun r => match v with
    | none => k (.nd none l r)
    | some v => f v fun v => k (.nd (some v) l r)
def depth : Nat := 16

/-- What is known of a type. -/
inductive TD where
  | int (k : IntKind) | bool | str | struct (fs : List (Nat × Nat × Bool)) | array (len esz : Nat) (eagg : Bool) | slice (e : TypeId) | ptr (e : TypeId) | iface | func | other
structure TI (S : Nat → Type) where
  d : TD
  agg : Bool
  size : Nat
  bytes : Nat
  zero : List (C S)
  ty : Option Ty
  eqk : List TD := []

/-- How an argument is handed over: by value; a block that is pointed to; a function, with the blocks that it has caught (how many cells each). -/
inductive PM where | val | ref | clo (ns : List Nat)
/-- Which cells hold what is nobody else's: a row; a block of a type. -/
abbrev OwL := List (Nat × Option Ty)
/-- How an argument is handed over, of which cells are handed over too. -/
inductive XP where | val | ref (off : Nat) (own out : OwL) | clo (l : List (Nat × OwL))
structure XMd where
  ps : List XP
  ro : OwL
structure Md where
  ps : List PM
  fz : Bool
  xm : Option XMd := none

/-- A value, parted by what stands behind its pointers. -/
structure Spl (α : Type) where
  f : {R : Type} → α → (α → Option R) → Option R
  h : ∀ {R : Type} (x : α) (k : α → Option R), f x k = k x
/-- The structs of a program, and its types. -/
structure Tys where
  S : Nat → Type
  enc : (n : Nat) → S n → List (C S)
  dec : (n : Nat) → List (C S) → Option (S n)
  dfl : (n : Nat) → S n
  siz : Nat → Nat
  ti : List (Nat × TI S)
  mode : List (Nat × Md)
  gl : List (Nat × List Value) := []
  spl : (n : Nat) → Spl (S n) := fun _ => ⟨fun x k => k x, fun _ _ => rfl⟩
  /-- The array types that are made as rows of one element, as they are cut later. -/
  rowt : Nat → Bool := fun _ => false

def lk {α : Type} : List (Nat × α) → Nat → Option α
  | [], _ => none
  | (m, x) :: l, n => match Nat.beq n m with | true => some x | false => lk l n

section
variable (D : Tys)
abbrev Cc := C D.S
def size : Ty → Nat | .st n => D.siz n | _ => 1
def isAgg : Ty → Bool | .st _ => true | _ => false
def encL : (t : Ty) → T D.S t → List (C D.S)
  | .int k, n => [.int k n]
  | .bool, b => [.bool b]
  | .str, s => [.str s]
  | .st n, x => D.enc n x
  | .sl t, l => [.lst t l]
  | .ptr t, x => match x with | none => [.nilp] | some x => [.fptr t [x] 0 0]
def encA (t : Ty) (x : T D.S t) : A D.S := match t, x with
  | .int k, n => .c (.int k n)
  | .bool, b => .c (.bool b)
  | .str, s => .c (.str s)
  | .st n, x => .agg (D.enc n x)
  | .sl t, l => .c (.lst t l)
  | .ptr t, x => match x with | none => .c .nilp | some x => .c (.fptr t [x] 0 0)
def dflT : (t : Ty) → T D.S t
  | .int _ => (0 : Int)
  | .bool => false
  | .str => ByteArray.empty
  | .st n => D.dfl n
  | .sl _ => []
  | .ptr _ => none
def decC : (t : Ty) → C D.S → Option (T D.S t)
  | .int k, .int k' n => if k = k' then some n else none
  | .bool, .bool b => some b
  | .str, .str s => some s
  | .sl t, .lst t' l => match Ty.eq? t' t with | some ⟨h⟩ => some (h ▸ l) | none => none
  | .sl _, .nils => some []
  | .sl _, .emp => some []
  | .ptr _, .nilp => some none
  | .ptr t, .fptr t' l i off => match l, i, off with
    | [x], 0, 0 => match Ty.eq? t' t with | some ⟨h⟩ => some (some (h ▸ x)) | none => none
    | _, _, _ => none
  | _, _ => none
def decL (t : Ty) (cs : List (C D.S)) : Option (T D.S t) := match t, cs with
  | .st n, cs => D.dec n cs
  | .int k, [c] => decC D (.int k) c
  | .bool, [c] => decC D .bool c
  | .str, [c] => decC D .str c
  | .sl t, [c] => decC D (.sl t) c
  | .ptr t, [c] => decC D (.ptr t) c
  | _, _ => none
def getT (t : Ty) (l : List (T D.S t)) (i : Nat) : T D.S t := l.getD i (dflT D t)

end

/-! ### lists of cells, all worked out -/
section
variable {S : Nat → Type}
def dropS : Nat → List (C S) → Option (List (C S))
  | 0, l => some l
  | _ + 1, [] => none
  | n + 1, _ :: l => dropS n l
def takeS : Nat → List (C S) → Option (List (C S))
  | 0, _ => some []
  | _ + 1, [] => none
  | n + 1, x :: l => match takeS n l with | some r => some (x :: r) | none => none
def subS (off n : Nat) (l : List (C S)) : Option (List (C S)) := match dropS off l with | some l => takeS n l | none => none
/-- The first cells are replaced. -/
def overS : List (C S) → List (C S) → Option (List (C S))
  | [], l => some l
  | _ :: _, [] => none
  | x :: xs, _ :: l => match overS xs l with | some r => some (x :: r) | none => none
def putS : Nat → List (C S) → List (C S) → Option (List (C S))
  | 0, xs, l => overS xs l
  | _ + 1, _, [] => none
  | n + 1, xs, y :: l => match putS n xs l with | some r => some (y :: r) | none => none
def mkA (agg : Bool) (cs : List (C S)) : Option (A S) := match agg, cs with
  | true, cs => some (.agg cs)
  | false, [x] => some (.c x)
  | false, _ => none
def ofVal : Value → Option (C S)
  | .int k n => some (.int k n)
  | .bool b => some (.bool b)
  | .string s => some (.str s)
  | .pointer none => some .nilp
  | .slice none 0 0 => some .nils
  | .nilIface => some .nili
  | .nilFunc => some .nilf
  | .func (.func f) first captured => match first.toList, captured.toList with | [], [] => some (.fn f []) | _, _ => none
  | _ => none
def ofVals : List Value → Option (List (C S))
  | [] => some []
  | v :: l => match ofVal v with | some c => (match ofVals l with | some r => some (c :: r) | none => none) | none => none
def ofValue (v : Value) : Option (A S) := match v with
  | .agg cs => match ofVals cs.toList with | some l => some (.agg l) | none => none
  | v => match ofVal v with | some c => some (.c c) | none => none
def noAny : List (C S) → Bool
  | [] => true
  | .any :: _ => false
  | _ :: l => noAny l
/-- An operand's value. -/
def ev (fr : Tr (V S)) : Operand → Option (V S)
  | .tmp t => fr.get t
  | .const v => match ofValue v with | some a => some (.a a) | none => none
  | .func f => some (.a (.c (.fn f [])))
  | .global _ => none
def evA (fr : Tr (V S)) (x : Operand) : Option (A S) := match ev fr x with | some (.a a) => some a | _ => none
def evC (fr : Tr (V S)) (x : Operand) : Option (C S) := match ev fr x with | some (.a (.c c)) => some c | _ => none

/-! ### whole numbers -/
def shlE (k : IntKind) (x y : Int) : Int := k.wrap (x * 2 ^ (min y.toNat k.bits))
def shrE (k : IntKind) (x y : Int) : Int := x.fdiv (2 ^ (min y.toNat k.bits))
def andE (k : IntKind) (x y : Int) : Int := k.wrap (BitVec.ofInt k.bits x &&& BitVec.ofInt k.bits y).toNat
def orE (k : IntKind) (x y : Int) : Int := k.wrap (BitVec.ofInt k.bits x ||| BitVec.ofInt k.bits y).toNat
def xorE (k : IntKind) (x y : Int) : Int := k.wrap (BitVec.ofInt k.bits x ^^^ BitVec.ofInt k.bits y).toNat
def clrE (k : IntKind) (x y : Int) : Int := k.wrap (BitVec.ofInt k.bits x &&& ~~~ BitVec.ofInt k.bits y).toNat
def mxE (x y : Int) : Int := if y > x then y else x
def mnE (x y : Int) : Int := if y < x then y else x
def btE (s : ByteArray) (i : Nat) : Int := ((s.data.toList.getD i 0).toNat : Int)
def intOp (op : BinOp) (k : IntKind) (x y : Int) : Option (C S) := match op with
  | .add => some (.int k (k.wrap (x + y)))
  | .sub => some (.int k (k.wrap (x - y)))
  | .mul => some (.int k (k.wrap (x * y)))
  | .and => some (.int k (andE k x y))
  | .or => some (.int k (orE k x y))
  | .xor => some (.int k (xorE k x y))
  | .andNot => some (.int k (clrE k x y))
  | .eql => some (.bool (x == y))
  | .neq => some (.bool (x != y))
  | .lss => some (.bool (decide (x < y)))
  | .leq => some (.bool (decide (x ≤ y)))
  | .gtr => some (.bool (decide (x > y)))
  | .geq => some (.bool (decide (x ≥ y)))
  | _ => none
def strOp (op : BinOp) (x y : ByteArray) : Option (C S) := match op with
  | .eql => some (.bool (x.toList == y.toList))
  | .neq => some (.bool (!(x.toList == y.toList)))
  | .lss => some (.bool (Op.bytesLess x.toList y.toList))
  | .leq => some (.bool (Op.bytesLess x.toList y.toList || x.toList == y.toList))
  | .gtr => some (.bool (!(Op.bytesLess x.toList y.toList || x.toList == y.toList)))
  | .geq => some (.bool (!(Op.bytesLess x.toList y.toList)))
  | _ => none
def eqC : C S → C S → Option Bool
  | .int k x, .int k' y => if k = k' then some (x == y) else none
  | .bool x, .bool y => some (x == y)
  | .str x, .str y => some (x == y)
  | _, _ => none
def eqCs : List (C S) → List (C S) → Option Bool
  | [], [] => some true
  | [x], [y] => eqC x y
  | x :: xs, y :: ys => match eqC x y with | some b => (match eqCs xs ys with | some b' => some (b && b') | none => none) | none => none
  | _, _ => none
end
end Go.Proofs.Ytkpjeihgigmnkaa.Ev
/- Values without memory: the function that runs the translated code. -/
namespace Go.Proofs.Ytkpjeihgigmnkaa.Ev
open Go

/-- What is appended to fits into memory; what is made; what is joined. -/
def fit (n by_ : Nat) : Bool := Nat.ble (n * by_) 140737488355328
def fitM (n by_ : Nat) : Bool := Nat.ble (by_ * n) 281474976710656
def fitS (n : Nat) : Bool := Nat.ble n 9223372036854775807
/-- A test's two ways. -/
def bK {R : Type} (b : Bool) (k : Option R) : Option R := match b with | true => k | false => none
def bKK {R : Type} (b : Bool) (k k' : Option R) : Option R := match b with | true => k | false => k'

section
variable {S : Nat → Type}
/-! ### what is known of an own row is turned: it is frozen (told by value from here on), or gone -/
def frzC {R : Type} (id : Nat) (t : Ty) (l : List (T S t)) (c : C S) (k : C S → R) : R := match c with
  | .own i => match Nat.beq i id with | true => k (.lst t l) | false => k (.own i)
  | .part i off n => match Nat.beq i id with | true => k (.lst t ((l.drop off).take n)) | false => k (.part i off n)
  | .eptr i e off => match Nat.beq i id with | true => k (.fptr t l e off) | false => k (.eptr i e off)
  | .ptr i off => match Nat.beq i id with | true => k .any | false => k (.ptr i off)
  | c => k c
def killC {R : Type} (id : Nat) (c : C S) (k : C S → R) : R := match c with
  | .own i => match Nat.beq i id with | true => k .any | false => k (.own i)
  | .part i off n => match Nat.beq i id with | true => k .any | false => k (.part i off n)
  | .eptr i e off => match Nat.beq i id with | true => k .any | false => k (.eptr i e off)
  | .ptr i off => match Nat.beq i id with | true => k .any | false => k (.ptr i off)
  | .fn f caps => match caps.elem id with | true => k .any | false => k (.fn f caps)
  | c => k c
def mapLK {R : Type} (f : C S → (C S → R) → R) : List (C S) → (List (C S) → R) → R
  | [], k => k []
  | c :: cs, k => f c fun c => mapLK f cs fun cs => k (c :: cs)
def mapAK {R : Type} (f : C S → (C S → R) → R) (a : A S) (k : A S → R) : R := match a with
  | .c c => f c fun c => k (.c c)
  | .agg cs => mapLK f cs fun cs => k (.agg cs)
def mapALK {R : Type} (f : C S → (C S → R) → R) : List (A S) → (List (A S) → R) → R
  | [], k => k []
  | a :: as, k => mapAK f a fun a => mapALK f as fun as => k (a :: as)
def mapVK {R : Type} (f : C S → (C S → R) → R) (v : V S) (k : V S → R) : R := match v with
  | .a a => mapAK f a fun a => k (.a a)
  | .tup l => mapALK f l fun l => k (.tup l)
def mapBK {R : Type} (f : C S → (C S → R) → R) (b : B S) (k : B S → R) : R := match b with
  | .box cs => mapLK f cs fun cs => k (.box cs)
  | .arr t l => k (.arr t l)
/-- Row 'id' is told by value from here on. -/
def frzK {R : Type} (id : Nat) (fr : Tr (V S)) (hp : Tr (B S)) (k : Tr (V S) → Tr (B S) → Option R) : Option R := match hp.get id with
  | some (.arr t l) => Tr.mapK (mapVK (frzC id t l)) fr fun fr => Tr.setK depth hp id none fun hp => Tr.mapK (mapBK (frzC id t l)) hp fun hp => k fr hp
  | _ => none
def frzsK {R : Type} : List Nat → Tr (V S) → Tr (B S) → (Tr (V S) → Tr (B S) → Option R) → Option R
  | [], fr, hp, k => k fr hp
  | id :: ids, fr, hp, k => match hp.get id with
    | none => frzsK ids fr hp k
    | some _ => frzK id fr hp fun fr hp => frzsK ids fr hp k
/-- Block 'id' is gone. -/
def killK {R : Type} (id : Nat) (fr : Tr (V S)) (hp : Tr (B S)) (k : Tr (V S) → Tr (B S) → Option R) : Option R :=
  Tr.mapK (mapVK (killC id)) fr fun fr => Tr.setK depth hp id none fun hp => Tr.mapK (mapBK (killC id)) hp fun hp => k fr hp

/-! ### reading -/
def resC (hp : Tr (B S)) : C S → Option (C S)
  | .own id => match hp.get id with | some (.arr t l) => some (.lst t l) | _ => none
  | .part id off n => match hp.get id with | some (.arr t l) => some (.lst t ((l.drop off).take n)) | _ => none
  | .eptr id e off => match hp.get id with | some (.arr t l) => some (.fptr t l e off) | _ => none
  | .any => none
  | .ptr _ _ => none
  | .fn f [] => some (.fn f [])
  | .fn _ _ => none
  | c => some c
def resL (hp : Tr (B S)) : List (C S) → Option (List (C S))
  | [] => some []
  | c :: cs => match resC hp c with | some c => (match resL hp cs with | some cs => some (c :: cs) | none => none) | none => none
def resA (hp : Tr (B S)) : A S → Option (A S)
  | .c c => match resC hp c with | some c => some (.c c) | none => none
  | .agg cs => match resL hp cs with | some cs => some (.agg cs) | none => none
def ownsL : List (C S) → List Nat
  | [] => []
  | .own id :: cs => id :: ownsL cs
  | .part id _ _ :: cs => id :: ownsL cs
  | .eptr id _ _ :: cs => id :: ownsL cs
  | _ :: cs => ownsL cs
def noRefC : C S → Bool
  | .int _ _ | .bool _ | .str _ | .nilp | .nils | .nili | .nilf | .err _ _ _ => true
  | _ => false
def noRefL : List (C S) → Bool
  | [] => true
  | c :: cs => match noRefC c with | true => noRefL cs | false => false
def noRefAs : List (A S) → Bool
  | [] => true
  | a :: as => match noRefL a.cells with | true => noRefAs as | false => false
end

section
variable {S : Nat → Type}
def isK : Operand → Bool | .const _ => true | _ => false
def nilEq (d : TD) (k : Bool) : C S → C S → Option Bool
  | .nils, .nils => match d with | .slice _ => some true | _ => none
  | .emp, .nils => match d with | .slice _ => some false | _ => none
  | .lst _ (_ :: _), .nils => match d with | .slice _ => some false | _ => none
  | .nilp, .nilp => match d with | .ptr _ => some true | _ => none
  | .nili, .nili => match d, k with | .iface, true => some true | _, _ => none
  | .nilf, .nilf => match d with | .func => some true | _ => none
  | .ptr _ _, .nilp => match d with | .ptr _ => some false | _ => none
  | .nilp, .ptr _ _ => match d with | .ptr _ => some false | _ => none
  | .fptr _ _ _ _, .nilp => match d with | .ptr _ => some false | _ => none
  | .nilp, .fptr _ _ _ _ => match d with | .ptr _ => some false | _ => none
  | .err _ _ _, .nili => match d with | .iface => some false | _ => none
  | .nili, .err _ _ _ => match d with | .iface => some false | _ => none
  | .fn _ _, .nilf => match d with | .func => some false | _ => none
  | .nilf, .fn _ _ => match d with | .func => some false | _ => none
  | _, _ => none
def kindC : TD → C S → Bool
  | .bool, .bool _ => true
  | .int k, .int k' _ => decide (k = k')
  | .str, .str _ => true
  | _, _ => false
def kindsC : List TD → List (C S) → Bool
  | [], [] => true
  | k :: ks, c :: cs => match kindC k c with | true => kindsC ks cs | false => false
  | _, _ => false
def eqv (d : TD) (k : Bool) (x y : C S) : Option Bool := match x, y with
  | .bool a, .bool b => match d with | .bool => some (a == b) | _ => none
  | x, y => nilEq d k x y
end

section
variable (D : Tys)
def lenC (hp : Tr (B D.S)) (d : TD) (c : C D.S) : Option Int := match d, c with
  | .str, .str s => some (s.size : Int)
  | .slice _, .lst _ l => some (l.length : Int)
  | .slice _, .own id => match hp.get id with | some (.arr _ l) => some (l.length : Int) | _ => none
  | .slice _, .part _ _ n => some (n : Int)
  | .slice _, .nils => some 0
  | .slice _, .emp => some 0
  | _, _ => none
/-- A row's elements have the size that the type says. -/
def szOk (e : TypeId) (t : Ty) : Bool := match lk D.ti e with | some ti => Nat.beq ti.size (size D t) | none => false
def loadA (hp : Tr (B D.S)) (ti : TI D.S) : C D.S → Option (A D.S)
  | .ptr id off => match hp.get id with | some (.box cs) => (match subS off ti.size cs with | some l => mkA ti.agg l | none => none) | _ => none
  | .eptr id e off => match hp.get id with | some (.arr t l) => (match subS off ti.size (encL D t (getT D t l e)) with | some l => mkA ti.agg l | none => none) | _ => none
  | .fptr t l e off => match subS off ti.size (encL D t (getT D t l e)) with | some l => mkA ti.agg l | none => none
  | _ => none
def storeB (hp : Tr (B D.S)) (ti : TI D.S) (p : C D.S) (a : A D.S) : Option (Nat × B D.S) := match Nat.beq a.cells.length ti.size && noAny a.cells with
  | false => none
  | true => match p with
    | .ptr id off => match hp.get id with | some (.box cs) => (match putS off a.cells cs with | some cs => some (id, .box cs) | none => none) | _ => none
    | .eptr id e off => match hp.get id with
      | some (.arr t l) => (match putS off a.cells (encL D t (getT D t l e)) with | some cs => (match decL D t cs with | some x => some (id, .arr t (l.set e x)) | none => none) | none => none)
      | _ => none
    | _ => none
def fillS (place : Nat → Option (Nat × Nat)) (cells : List (C D.S)) : List (Nat × A D.S) → Option (List (C D.S))
  | [] => some cells
  | (i, v) :: rest => match place i with
    | none => none
    | some (off, sz) => match Nat.beq v.cells.length sz with
      | false => none
      | true => match putS off v.cells cells with | some cs => fillS place cs rest | none => none
def nthP : List (Nat × Nat × Bool) → Nat → Option (Nat × Nat)
  | [], _ => none
  | (o, s, _) :: _, 0 => some (o, s)
  | _ :: l, n + 1 => nthP l n
def nthF : List (Nat × Nat × Bool) → Nat → Option (Nat × Nat × Bool)
  | [], _ => none
  | x :: _, 0 => some x
  | _ :: l, n + 1 => nthF l n
def nthA : List (A D.S) → Nat → Option (A D.S)
  | [], _ => none
  | x :: _, 0 => some x
  | _ :: l, n + 1 => nthA l n
def evParts (fr : Tr (V D.S)) : List (Nat × Operand) → Option (List (Nat × A D.S))
  | [] => some []
  | (i, x) :: l => match evA fr x with
    | some a => (match noAny a.cells, evParts fr l with | true, some r => some ((i, a) :: r) | _, _ => none)
    | none => none
def evAs (fr : Tr (V D.S)) : List Operand → Option (List (A D.S))
  | [] => some []
  | x :: l => match evA fr x with | some a => (match evAs fr l with | some r => some (a :: r) | none => none) | none => none
/-- A written-out row's elements: those that are named, the others zero. -/
def litRow (t : Ty) (z : T D.S t) : Nat → List (Nat × T D.S t) → List (T D.S t)
  | 0, _ => []
  | n + 1, ps => match ps with
    | [] => z :: litRow t z n []
    | _ => litRow t z n (ps.filter fun p => !Nat.beq p.1 n) ++ [((ps.find? fun p => Nat.beq p.1 n).map (·.2)).getD z]
def decParts (hp : Tr (B D.S)) (t : Ty) : List (Nat × A D.S) → Option (List (T D.S t))
  | [] => some []
  | (_, a) :: l => match resL hp a.cells with
    | none => none
    | some cs => match decL D t cs with | some x => (match decParts hp t l with | some r => some (x :: r) | none => none) | none => none
def inOrder : Nat → List (Nat × A D.S) → Bool
  | _, [] => true
  | n, (i, _) :: l => match Nat.beq i n with | true => inOrder (n + 1) l | false => false
def ownsP : List (Nat × A D.S) → List Nat
  | [] => []
  | (_, a) :: l => ownsL a.cells ++ ownsP l
/-- The elements of a row that is read. -/
def elems (hp : Tr (B D.S)) (t : Ty) (c : C D.S) : Option (List (T D.S t)) := match c with
  | .own id => match hp.get id with | some (.arr t' l) => (match Ty.eq? t' t with | some ⟨h⟩ => some (h ▸ l) | none => none) | _ => none
  | .part id off n => match hp.get id with | some (.arr t' l) => (match Ty.eq? t' t with | some ⟨h⟩ => some (((h ▸ l : List (T D.S t)).drop off).take n) | none => none) | _ => none
  | .lst t' l => match Ty.eq? t' t with | some ⟨h⟩ => some (h ▸ l) | none => none
  | .nils => some []
  | .emp => some []
  | _ => none
def strBytes (s : ByteArray) : List Int := s.data.toList.map fun b => (b.toNat : Int)
def ofBytes (l : List Int) : ByteArray := ⟨(l.map fun n => UInt8.ofNat n.toNat).toArray⟩

def byteSl (d : TD) : Bool := match d with
  | .slice e => match lk D.ti e with | some ti => (match ti.d with | .int .u8 => true | _ => false) | none => false
  | _ => false
/-- A row of bytes that is told by value. -/
def bytesC (c : C D.S) : Option (List Int) := match c with
  | .lst t l => match t, l with | .int .u8, l => some l | _, _ => none
  | .nils => some []
  | .emp => some []
  | _ => none

/-! ### operations -/
variable {R : Type}
abbrev KK (D : Tys) (R : Type) := V D.S → Tr (V D.S) → Tr (B D.S) → Option R
abbrev HH (D : Tys) (R : Type) := FuncId → List (A D.S) → (List (A D.S) → List (List (C D.S)) → Option R) → Option R
def cV {S} (c : C S) : V S := .a (.c c)
def newK (d : Nat) (b : B D.S) (c : C D.S) (fr : Tr (V D.S)) (hp : Tr (B D.S)) (k : KK D R) : Option R := match hp.get d with
  | some _ => none
  | none => Tr.setK depth hp d (some b) fun hp => k (cV c) fr hp
def idxK (len : Int) (i : Int) (k : Option R) : Option R := bK (decide (0 ≤ i)) (bK (decide (i < len)) k)
def arrGo : Nat → Nat → Int → (Nat → Option R) → Option R
  | 0, _, _, _ => none
  | n + 1, j, i, k => bKK (decide (i = (j : Int))) (k j) (arrGo n (j + 1) i k)
/-- A place of an array, one by one where it is short. -/
def arrK (len : Nat) (i : Int) (k : Nat → Option R) : Option R := match Nat.ble len 8 with
  | true => arrGo len 0 i k
  | false => idxK (len : Int) i (k i.toNat)
theorem arrGo_eq (i : Int) (k : Nat → Option R) : ∀ (n j : Nat), arrGo n j i k = bK (decide ((j : Int) ≤ i)) (bK (decide (i < (j : Int) + (n : Int))) (k i.toNat))
  | 0, j => by
    by_cases h1 : (j : Int) ≤ i
    · rw [decide_eq_true h1, decide_eq_false (by omega : ¬ i < (j : Int) + ((0 : Nat) : Int))]; rfl
    · rw [decide_eq_false h1]; rfl
  | n + 1, j => by
    unfold arrGo
    rw [arrGo_eq i k n (j + 1)]
    by_cases h : i = (j : Int)
    · subst h
      rw [decide_eq_true (rfl : (j : Int) = (j : Int)), decide_eq_true (by omega : (j : Int) ≤ (j : Int)), decide_eq_true (by omega : (j : Int) < (j : Int) + ((n + 1 : Nat) : Int))]
      rfl
    · rw [decide_eq_false h]
      by_cases h1 : (j : Int) ≤ i
      · rw [decide_eq_true h1, decide_eq_true (by omega : ((j + 1 : Nat) : Int) ≤ i)]
        by_cases h2 : i < (j : Int) + ((n + 1 : Nat) : Int)
        · rw [decide_eq_true h2, decide_eq_true (by omega : i < ((j + 1 : Nat) : Int) + (n : Int))]; rfl
        · rw [decide_eq_false h2, decide_eq_false (by omega : ¬ i < ((j + 1 : Nat) : Int) + (n : Int))]; rfl
      · rw [decide_eq_false h1, decide_eq_false (by omega : ¬ ((j + 1 : Nat) : Int) ≤ i)]; rfl
theorem arrK_eq (len : Nat) (i : Int) (k : Nat → Option R) : arrK len i k = idxK (len : Int) i (k i.toNat) := by
  unfold arrK
  split
  · rw [arrGo_eq]
    unfold idxK
    simp
  · rfl
def sliceK (d : TD) (c : C D.S) (lo hi : Option Int) (fr : Tr (V D.S)) (hp : Tr (B D.S)) (k : KK D R) : Option R :=
  match d, c with
  | .str, .str s => match lo, hi with
    | none, none => k (cV (.str s)) fr hp
    | none, some h => bK (decide (0 ≤ h)) (bK (decide (h ≤ (s.size : Int))) (k (cV (.str (s.extract 0 h.toNat))) fr hp))
    | some l, none => bK (decide (0 ≤ l)) (bK (decide (l ≤ (s.size : Int))) (k (cV (.str (s.extract l.toNat s.size))) fr hp))
    | some l, some h => bK (decide (0 ≤ h)) (bK (decide (h ≤ (s.size : Int))) (bK (decide (0 ≤ l)) (bK (decide (l ≤ h)) (k (cV (.str (s.extract l.toNat h.toNat))) fr hp))))
  | .slice e, .lst t s => match szOk D e t with | false => none | true => match lo, hi with
    | none, none => k (cV (.lst t s)) fr hp
    | none, some h => bK (decide (0 ≤ h)) (bK (decide (h ≤ (s.length : Int))) (k (cV (.lst t (s.take h.toNat))) fr hp))
    | some l, none => bK (decide (0 ≤ l)) (bK (decide (l ≤ (s.length : Int))) (k (cV (.lst t (s.drop l.toNat))) fr hp))
    | some l, some h => bK (decide (0 ≤ h)) (bK (decide (h ≤ (s.length : Int))) (bK (decide (0 ≤ l)) (bK (decide (l ≤ h)) (k (cV (.lst t ((s.drop l.toNat).take (h.toNat - l.toNat)))) fr hp))))
  | .slice e, .own id => match hp.get id with
    | some (.arr t s) => match szOk D e t with | false => none | true => match lo, hi with
      | none, none => k (cV (.own id)) fr hp
      | none, some h => bK (decide (0 ≤ h)) (bK (decide (h ≤ (s.length : Int))) (k (cV (.part id 0 h.toNat)) fr hp))
      | some l, none => bK (decide (0 ≤ l)) (bK (decide (l ≤ (s.length : Int))) (k (cV (.part id l.toNat (s.length - l.toNat))) fr hp))
      | some l, some h => bK (decide (0 ≤ h)) (bK (decide (h ≤ (s.length : Int))) (bK (decide (0 ≤ l)) (bK (decide (l ≤ h)) (k (cV (.part id l.toNat (h.toNat - l.toNat))) fr hp))))
    | _ => none
  | .slice e, .part id off n => match hp.get id with
    | some (.arr t s) => match szOk D e t with | false => none | true => match lo, hi with
      | none, none => k (cV (.part id off n)) fr hp
      | none, some h => bK (decide (0 ≤ h)) (bK (decide (h ≤ (n : Int))) (k (cV (.part id off h.toNat)) fr hp))
      | some l, none => bK (decide (0 ≤ l)) (bK (decide (l ≤ (n : Int))) (k (cV (.part id (off + l.toNat) (n - l.toNat))) fr hp))
      | some l, some h => bK (decide (0 ≤ h)) (bK (decide (h ≤ (n : Int))) (bK (decide (0 ≤ l)) (bK (decide (l ≤ h)) (k (cV (.part id (off + l.toNat) (h.toNat - l.toNat))) fr hp))))
    | _ => none
  | _, _ => none
/-- An array's numbers. -/
def i64s {S : Nat → Type} : List (C S) → Option (List Int)
  | [] => some []
  | .int .i64 n :: cs => match i64s cs with | some l => some (n :: l) | none => none
  | _ => none
/-- An array that is told as a row of one element is cut: it is a row of its numbers. -/
def rowK (ad : TD) (c : C D.S) (d : Nat) (fr : Tr (V D.S)) (hp : Tr (B D.S)) (k : KK D R) : Option R := match ad, c with
  | .array len esz _, .eptr id e off => match Nat.beq esz 1 && (Nat.beq e 0 && Nat.beq off 0), hp.get id with
    | true, some (.arr t1 [v]) => match i64s (encL D t1 v) with
      | some l => match Nat.beq l.length len with
        | true => killK id fr hp fun fr hp => newK D d (.arr (.int .i64) l) (.own d) fr hp k
        | false => none
      | none => none
    | _, _ => none
  | _, _ => none
def optI (fr : Tr (V D.S)) : Option Operand → Option (Option Int)
  | none => some none
  | some x => match evC fr x with | some (.int _ i) => some (some i) | _ => none
def grow (t : Ty) (hp : Tr (B D.S)) (s : C D.S) : Option (Option Nat × List (T D.S t)) := match s with
  | .nils => some (none, [])
  | .own id => match hp.get id with | some (.arr t' l) => (match Ty.eq? t' t with | some ⟨h⟩ => some (some id, h ▸ l) | none => none) | _ => none
  | .part id off n => match hp.get id with | some (.arr t' l) => (match Ty.eq? t' t with | some ⟨h⟩ => some (some id, ((h ▸ l : List (T D.S t)).drop off).take n) | none => none) | _ => none
  | _ => none
def srcL (hp : Tr (B D.S)) (t : Ty) (x : C D.S) : Option (List (T D.S t)) := match t, x with
  | .int .u8, .str z => some (strBytes z)
  | t, x => elems D hp t x
def srcOk (d : TD) (x : C D.S) : Bool := match d, x with
  | .str, .str _ => true
  | .slice _, .str _ => false
  | .slice _, _ => true
  | _, _ => false
def appendK (d : Nat) (by_ : Nat) (t : Ty) (s x : C D.S) (fr : Tr (V D.S)) (hp : Tr (B D.S)) (k : KK D R) : Option R := match grow D t hp s with
  | none => none
  | some (id, l) => match srcL D hp t x with
    | none => none
    | some xs => bK (fit (l.length + xs.length) by_) (match id with
      | none => newK D d (.arr t (l ++ xs)) (.own d) fr hp k
      | some id => killK id fr hp fun fr hp => newK D d (.arr t (l ++ xs)) (.own d) fr hp k)
def callArgs (hp : Tr (B D.S)) : List PM → List (A D.S) → Option (List (A D.S) × List Nat × List Nat)
  | [], [] => some ([], [], [])
  | .val :: ps, a :: as => match resA hp a with
    | none => none
    | some a' => match callArgs hp ps as with | some (ws, rs, os) => some (a' :: ws, rs, ownsL a.cells ++ os) | none => none
  | .ref :: ps, .c (.ptr id 0) :: as => match hp.get id with
    | some (.box cs) => match resL hp cs with
      | none => none
      | some cs' => match callArgs hp ps as with | some (ws, rs, os) => some (.agg cs' :: ws, id :: rs, ownsL cs ++ os) | none => none
    | _ => none
  | _, _ => none
def setRefsK : List Nat → List (List (C D.S)) → Tr (B D.S) → (Tr (B D.S) → Option R) → Option R
  | [], [], hp, k => k hp
  | id :: ids, cs :: css, hp, k => Tr.setK depth hp id (some (.box cs)) fun hp => setRefsK ids css hp k
  | _, _, _, _ => none
def distinct : List Nat → Bool
  | [] => true
  | i :: l => match l.elem i with | true => false | false => distinct l
def noRefLs : List (List (C D.S)) → Bool
  | [] => true
  | l :: ls => match noRefL l with | true => noRefLs ls | false => false
def packV : List (A D.S) → V D.S
  | [a] => .a a
  | l => .tup l
def callK0 (H : HH D R) (g : FuncId) (d : Nat) (as : List (A D.S)) (fr : Tr (V D.S)) (hp : Tr (B D.S)) (k : KK D R) : Option R := match lk D.mode g with
  | none => none
  | some md => match callArgs D hp md.ps as with
    | none => none
    | some (ws, rs, os) => match distinct rs, md.fz with
      | false, _ => none
      | true, true => frzsK os fr hp fun fr hp => H g ws fun res css => setRefsK D rs css hp fun hp => k (packV D res) fr hp
      | true, false => H g ws fun res css => match noRefAs res && noRefLs D css with
        | false => none
        | true => setRefsK D rs css hp fun hp => k (packV D res) fr hp
/-! ### what is handed over with all that is nobody else's -/
def xmOf (g : FuncId) : Option XMd := match lk D.mode g with | some md => md.xm | none => none
def apart : List Nat → List Nat → Bool
  | [], _ => true
  | i :: os, vs => match vs.elem i with | true => false | false => apart os vs
/-- A cell that holds something of its own, by value. -/
def frozC (n0 : Nat) (hp : Tr (B D.S)) (o : Option Ty) (c : C D.S) : Option (List Nat × C D.S) := match o, c with
  | none, .nils => some ([], .nils)
  | none, .own id => match hp.get id with | some (.arr t l) => some ([id], .lst t l) | _ => none
  | none, .part id off n => match hp.get id with | some (.arr t l) => some ([id], .lst t ((l.drop off).take n)) | _ => none
  | some _, .nilp => some ([], .nilp)
  | some t, .ptr id off => match off, Nat.ble n0 id, hp.get id with
    | 0, true, some (.box cs) => match noRefL cs, decL D t cs with
      | true, some x => some ([id], .fptr t [x] 0 0)
      | _, _ => none
    | _, _, _ => none
  | _, _ => none
/-- Cells by value: what is its own is taken along; the others are read. -/
def frozL (n0 : Nat) (hp : Tr (B D.S)) (own : OwL) : Nat → List (C D.S) → Option (List Nat × List Nat × List (C D.S))
  | _, [] => some ([], [], [])
  | j, c :: cs => match lk own j with
    | some o => match frozC D n0 hp o c with
      | none => none
      | some (i1, c') => match frozL n0 hp own (j + 1) cs with | some (is, os, cs') => some (i1 ++ is, os, c' :: cs') | none => none
    | none => match resC hp c with
      | none => none
      | some c' => match frozL n0 hp own (j + 1) cs with | some (is, os, cs') => some (is, ownsL [c] ++ os, c' :: cs') | none => none
/-- The blocks that are handed over, by value. -/
def frozB (n0 : Nat) (hp : Tr (B D.S)) : List (Nat × OwL) → Option (List Nat × List Nat × List (List (C D.S)))
  | [] => some ([], [], [])
  | (i, own) :: l => match hp.get i with
    | some (.box cs) => match frozL D n0 hp own 0 cs with
      | some (i1, o1, cs') => match frozB n0 hp l with | some (is, os, css) => some (i1 ++ is, o1 ++ os, cs' :: css) | none => none
      | none => none
    | _ => none
/-- The blocks that a function has caught, with what is their own. -/
def zipO : List (Nat × OwL) → List Nat → Option (List (Nat × OwL))
  | [], [] => some []
  | (_, own) :: l, i :: ids => match zipO l ids with | some r => some ((i, own) :: r) | none => none
  | _, _ => none
def lensOk : List (Nat × OwL) → List (List (C D.S)) → Bool
  | [], [] => true
  | (n, _) :: l, cs :: css => match Nat.beq cs.length n with | true => lensOk l css | false => false
  | _, _ => false
def catS : List (List (C D.S)) → List (C D.S)
  | [] => []
  | cs :: css => cs ++ catS css
def argsX (hp : Tr (B D.S)) : List XP → List (A D.S) → Option (List (A D.S) × List (Nat × OwL) × List Nat × List Nat)
  | [], [] => some ([], [], [], [])
  | .val :: ps, a :: as => match resA hp a with
    | none => none
    | some a' => match argsX hp ps as with | some (ws, rs, is, os) => some (a' :: ws, rs, is, ownsL a.cells ++ os) | none => none
  | .ref off own out :: ps, .c (.ptr id off') :: as => match Nat.beq off' off, hp.get id with
    | true, some (.box cs) => match frozL D 3000 hp own 0 cs with
      | none => none
      | some (i1, o1, cs') => match argsX hp ps as with | some (ws, rs, is, os) => some (.agg cs' :: ws, (id, out) :: rs, i1 ++ is, o1 ++ os) | none => none
    | _, _ => none
  | .clo l :: ps, .c (.fn f ids) :: as => match zipO l ids with
    | none => none
    | some rf => match frozB D 3000 hp rf with
      | none => none
      | some (i1, o1, css) => match lensOk D l css with
        | false => none
        | true => match argsX hp ps as with | some (ws, rs, is, os) => some (.agg (.fn f [] :: catS D css) :: ws, rf ++ rs, i1 ++ is, o1 ++ os) | none => none
  | _, _ => none
def killsK : List Nat → Tr (V D.S) → Tr (B D.S) → (Tr (V D.S) → Tr (B D.S) → Option R) → Option R
  | [], fr, hp, k => k fr hp
  | id :: ids, fr, hp, k => killK id fr hp fun fr hp => killsK ids fr hp k
def anyL : List (C D.S) → List (C D.S)
  | [] => []
  | _ :: l => .any :: anyL l
def blurK : List (Nat × OwL) → Tr (B D.S) → (Tr (B D.S) → Option R) → Option R
  | [], hp, k => k hp
  | (id, _) :: rs, hp, k => match hp.get id with
    | some (.box cs) => Tr.setK depth hp id (some (.box (anyL D cs))) fun hp => blurK rs hp k
    | _ => none
def posO : OwL → Nat → Option Nat
  | [], _ => none
  | (m, _) :: l, j => match Nat.beq m j with
    | true => some 0
    | false => match posO l j with | some p => some (p + 1) | none => none
/-- What is by value, as a block of its own, number s. -/
def thC (s : Nat) (c : C D.S) : C D.S := match c with
  | .lst _ _ => .own s
  | .fptr t l i o => match l with | [_] => .ptr s 0 | l => .fptr t l i o
  | c => c
def thB (s : Nat) (c : C D.S) : List (Nat × B D.S) := match c with
  | .lst t l => [(s, .arr t l)]
  | .fptr t l _ _ => match l with | [x] => [(s, .box (encL D t x))] | _ => []
  | _ => []
def thL (own : OwL) (base : Nat) : Nat → List (C D.S) → List (C D.S)
  | _, [] => []
  | j, c :: cs => (match posO own j with | some p => thC D (base + p) c | none => c) :: thL own base (j + 1) cs
def thN (own : OwL) (base : Nat) : Nat → List (C D.S) → List (Nat × B D.S)
  | _, [] => []
  | j, c :: cs => match posO own j with | some p => thB D (base + p) c ++ thN own base (j + 1) cs | none => thN own base (j + 1) cs
def thCK (s : Nat) (c : C D.S) (k : C D.S → List (Nat × B D.S) → Option R) : Option R := match c with
  | .lst t l => k (.own s) [(s, .arr t l)]
  | .fptr t l i o => match l with | [x] => k (.ptr s 0) [(s, .box (encL D t x))] | l => k (.fptr t l i o) []
  | c => k c []
def thLK (own : OwL) (base : Nat) : Nat → List (C D.S) → (List (C D.S) → List (Nat × B D.S) → Option R) → Option R
  | _, [], k => k [] []
  | j, c :: cs, k => match posO own j with
    | some p => thCK D (base + p) c fun c n => thLK own base (j + 1) cs fun cs ns => k (c :: cs) (n ++ ns)
    | none => thLK own base (j + 1) cs fun cs ns => k (c :: cs) ns
def addBK : List (Nat × B D.S) → Tr (B D.S) → (Tr (B D.S) → Option R) → Option R
  | [], hp, k => k hp
  | (i, b) :: l, hp, k => match hp.get i, Nat.blt i 65535 with
    | none, true => Tr.setK depth hp i (some b) fun hp => addBK l hp k
    | _, _ => none
/-- The numbers of what a call answers, or leaves, as its own. -/
def newC (d p : Nat) : Nat := 36000 + (32 * d + 10 * p)
def putRefsK (d : Nat) : Nat → List (Nat × OwL) → List (List (C D.S)) → Tr (B D.S) → (Tr (B D.S) → Option R) → Option R
  | _, [], [], hp, k => k hp
  | p, (id, own) :: rs, cs :: css, hp, k => thLK D own (newC d p) 0 cs fun cs ns => addBK D ns hp fun hp => Tr.setK depth hp id (some (.box cs)) fun hp => putRefsK d (p + 1) rs css hp k
  | _, _, _, _, _ => none
def putResK (d : Nat) (ro : OwL) : Nat → List (A D.S) → Tr (B D.S) → (List (A D.S) → Tr (B D.S) → Option R) → Option R
  | _, [], hp, k => k [] hp
  | j, a :: as, hp, k => match posO ro j with
    | none => putResK d ro (j + 1) as hp fun as hp => k (a :: as) hp
    | some p => match a with
      | .c c => thCK D (newC d 2 + p) c fun c n => addBK D n hp fun hp => putResK d ro (j + 1) as hp fun as hp => k (.c c :: as) hp
      | .agg _ => none
def keysN : List (Nat × OwL) → List Nat
  | [] => []
  | (i, _) :: l => i :: keysN l
def callXK (H : HH D R) (g : FuncId) (xm : XMd) (d : Nat) (as : List (A D.S)) (fr : Tr (V D.S)) (hp : Tr (B D.S)) (k : KK D R) : Option R := match argsX D hp xm.ps as with
  | none => none
  | some (ws, rs, is, os) => match distinct (keysN rs ++ is) && apart is os with
    | false => none
    | true => frzsK os fr hp fun fr hp => killsK D is fr hp fun fr hp => blurK D rs hp fun hp => H g ws fun res css => putRefsK D d 0 rs css hp fun hp => putResK D d xm.ro 0 res hp fun res hp => k (packV D res) fr hp
def callK (H : HH D R) (g : FuncId) (d : Nat) (as : List (A D.S)) (fr : Tr (V D.S)) (hp : Tr (B D.S)) (k : KK D R) : Option R := match xmOf D g with
  | some xm => callXK D H g xm d as fr hp k
  | none => callK0 D H g d as fr hp k
def capPtrs : List Nat → List (A D.S)
  | [] => []
  | i :: l => .c (.ptr i 0) :: capPtrs l
def capIds (fr : Tr (V D.S)) : List Operand → Option (List Nat)
  | [] => some []
  | x :: l => match evC fr x with | some (.ptr i 0) => (match capIds fr l with | some r => some (i :: r) | none => none) | _ => none
def opK (H : HH D R) (op : Op) (d : Nat) (fr : Tr (V D.S)) (hp : Tr (B D.S)) (k : KK D R) : Option R :=
  match op with
  | .move x => match ev fr x with | some v => k v fr hp | none => none
  | .assign x => match ev fr x with | some v => k v fr hp | none => none
  | .pick c a b => match evC fr c with
    | some (.bool c) => bKK c (match ev fr a with | some v => k v fr hp | none => none) (match ev fr b with | some v => k v fr hp | none => none)
    | _ => none
  | .alloc t => match D.rowt t with
    | false => match lk D.ti t with | some ti => newK D d (.box ti.zero) (.ptr d 0) fr hp k | none => none
    | true => match lk D.ti t with
      | some ti => match ti.ty with
        | some τ => match decL D τ ti.zero with | some z => newK D d (.arr τ [z]) (.eptr d 0 0) fr hp k | none => none
        | none => none
      | none => none
  | .box t x => match lk D.ti t with
    | some ti => match evA fr x with | some a => (match Nat.beq a.cells.length ti.size && noAny a.cells with | true => newK D d (.box a.cells) (.ptr d 0) fr hp k | false => none) | none => none
    | none => none
  | .build t parts => match lk D.ti t with
    | some ti => match evParts D fr parts.toList with
      | none => none
      | some ps => match ti.d with
        | .struct fs => (match fillS D (nthP fs) ti.zero ps with | some cs => k (.a (.agg cs)) fr hp | none => none)
        | .array _ esz _ => (match fillS D (fun i => some (i * esz, esz)) ti.zero ps with | some cs => k (.a (.agg cs)) fr hp | none => none)
        | _ => none
    | none => none
  | .buildSlice t len parts => match lk D.ti t with
    | some ⟨.slice e, _, _, _, _, _, _⟩ => match lk D.ti e with
      | some ⟨_, _, _, _, _, some τ, _⟩ => match evParts D fr parts.toList with
        | none => none
        | some ps => match inOrder D 0 ps with
          | false => none
          | true => match Nat.beq ps.length len && true && Nat.ble (len * size D τ) 16777216 with
            | false => none
            | true => match decParts D hp τ ps with
              | none => none
              | some l => frzsK (ownsP D ps) fr hp fun fr hp => newK D d (.arr τ l) (.own d) fr hp k
      | _ => none
    | _ => none
  | .load t p => match lk D.ti t with
    | some ti => match evC fr p with | some c => (match loadA D hp ti c with | some a => k (.a a) fr hp | none => none) | none => none
    | none => none
  | .store t p x => match lk D.ti t with
    | some ti => match evC fr p with
      | some c => match evA fr x with
        | some a => match c with
          | .ptr _ _ => (match storeB D hp ti c a with | some (id, b) => Tr.setK depth hp id (some b) fun hp => k (cV .any) fr hp | none => none)
          | c => match resL hp a.cells with
            | none => none
            | some cs => frzsK (ownsL a.cells) fr hp fun fr hp => match storeB D hp ti c (.agg cs) with
              | some (id, b) => Tr.setK depth hp id (some b) fun hp => k (cV .any) fr hp
              | none => none
        | none => none
      | none => none
    | none => none
  | .nilCheck x => match evC fr x with
    | some (.ptr i o) => k (cV (.ptr i o)) fr hp
    | some (.eptr i e o) => k (cV (.eptr i e o)) fr hp
    | some (.fptr t l i o) => k (cV (.fptr t l i o)) fr hp
    | some (.fn f caps) => k (cV (.fn f caps)) fr hp
    | _ => none
  | .binOp op t x y _ => match evA fr x, evA fr y with
    | some (.c (.int k1 a)), some (.c (.int k2 b)) => match op with
      | .shl => bK (decide (0 ≤ b)) (k (cV (.int k1 (shlE k1 a b))) fr hp)
      | .shr => bK (decide (0 ≤ b)) (k (cV (.int k1 (shrE k1 a b))) fr hp)
      | .quo => if k1 = k2 then bKK (decide (b = 0)) none (k (cV (.int k1 (k1.wrap (a.tdiv b)))) fr hp) else none
      | .rem => if k1 = k2 then bKK (decide (b = 0)) none (k (cV (.int k1 (a.tmod b))) fr hp) else none
      | op => if k1 = k2 then (match intOp op k1 a b with | some c => k (cV c) fr hp | none => none) else none
    | some (.c (.str a)), some (.c (.str b)) => match op with
      | .add => bK (fitS (a.size + b.size)) (k (cV (.str (a ++ b))) fr hp)
      | op => match strOp op a b with | some c => k (cV c) fr hp | none => none
    | some (.c a), some (.c b) => match lk D.ti t with
      | none => none
      | some ti => match eqv ti.d (isK x || isK y) a b with
        | none => none
        | some r => match op with
          | .eql => k (cV (.bool r)) fr hp
          | .neq => k (cV (.bool (!r))) fr hp
          | _ => none
    | some (.agg a), some (.agg b) => match lk D.ti t with
      | some ti => match !ti.eqk.isEmpty && (kindsC ti.eqk a && kindsC ti.eqk b) with
        | false => none
        | true => match eqCs a b with
          | none => none
          | some r => match op with
            | .eql => k (cV (.bool r)) fr hp
            | .neq => k (cV (.bool (!r))) fr hp
            | _ => none
      | _ => none
    | _, _ => none
  | .unOp op _ x => match evC fr x with
    | some (.int k1 n) => match op with
      | .neg => k (cV (.int k1 (k1.wrap (0 - n)))) fr hp
      | .xor => k (cV (.int k1 (xorE k1 (if k1.signed then -1 else k1.max) n))) fr hp
      | _ => none
    | some (.bool b) => match op with | .not => k (cV (.bool (!b))) fr hp | _ => none
    | _ => none
  | .convert s t x => match lk D.ti s with
    | none => none
    | some si => match lk D.ti t with
    | none => none
    | some ti => match ti.d, evC fr x with
      | .int k1, some (.int _ n) => k (cV (.int k1 (k1.wrap n))) fr hp
      | .str, some (.str z) => k (cV (.str z)) fr hp
      | .str, some c => match byteSl D si.d, resC hp c with
        | true, some c' => match bytesC D c' with
          | some l => k (cV (.str (ofBytes l))) fr hp
          | none => none
        | _, _ => none
      | _, _ => none
  | .slice t x lo hi none => match D.rowt t with
    | false => match lk D.ti t, evC fr x, optI D fr lo, optI D fr hi with
      | some ⟨d, _, _, _, _, _, _⟩, some c, some lo, some hi => sliceK D d c lo hi fr hp k
      | _, _, _, _ => none
    | true => match lo, hi, lk D.ti t, evC fr x with
      | none, none, some ti, some c => rowK D ti.d c d fr hp k
      | _, _, _, _ => none
  | .fieldAddr t x f => match lk D.ti t with
    | some ⟨.struct fs, _, _, _, _, _, _⟩ => match nthF fs f, evC fr x with
      | some (o, _, _), some (.ptr i off) => k (cV (.ptr i (off + o))) fr hp
      | some (o, _, _), some (.eptr i e off) => k (cV (.eptr i e (off + o))) fr hp
      | some (o, _, _), some (.fptr t l e off) => k (cV (.fptr t l e (off + o))) fr hp
      | _, _ => none
    | _ => none
  | .field t x f => match lk D.ti t with
    | some ⟨.struct fs, _, _, _, _, _, _⟩ => match nthF fs f, evA fr x with
      | some (o, s, g), some (.agg cs) => (match subS o s cs with | some l => (match mkA g l with | some a => k (.a a) fr hp | none => none) | none => none)
      | _, _ => none
    | _ => none
  | .indexAddr t x i => match lk D.ti t, evC fr x, evC fr i with
    | some ⟨.slice e, _, _, _, _, _, _⟩, some c, some (.int _ i) => match c with
      | .lst t l => match szOk D e t with | true => idxK (l.length : Int) i (k (cV (.fptr t l i.toNat 0)) fr hp) | false => none
      | .own id => match hp.get id with | some (.arr t l) => (match szOk D e t with | true => idxK (l.length : Int) i (k (cV (.eptr id i.toNat 0)) fr hp) | false => none) | _ => none
      | .part id off n => match hp.get id with | some (.arr t l) => (match szOk D e t with | true => idxK (n : Int) i (k (cV (.eptr id (off + i.toNat) 0)) fr hp) | false => none) | _ => none
      | _ => none
    | some ⟨.array len esz _, _, _, _, _, _, _⟩, some (.ptr id off), some (.int _ i) => arrK len i fun j => k (cV (.ptr id (off + j * esz))) fr hp
    | some ⟨.array len esz _, _, _, _, _, _, _⟩, some (.eptr id e off), some (.int _ i) => arrK len i fun j => k (cV (.eptr id e (off + j * esz))) fr hp
    | some ⟨.array len esz _, _, _, _, _, _, _⟩, some (.fptr t l e off), some (.int _ i) => arrK len i fun j => k (cV (.fptr t l e (off + j * esz))) fr hp
    | _, _, _ => none
  | .index t x i => match lk D.ti t, evA fr x, evC fr i with
    | some ⟨.str, _, _, _, _, _, _⟩, some (.c (.str s)), some (.int _ i) => idxK (s.size : Int) i (k (cV (.int .u8 (btE s i.toNat))) fr hp)
    | some ⟨.array len esz g, _, _, _, _, _, _⟩, some (.agg cs), some (.int _ i) => arrK len i fun j => (match subS (j * esz) esz cs with | some l => (match mkA g l with | some a => k (.a a) fr hp | none => none) | none => none)
    | _, _, _ => none
  | .makeSlice t n c => match lk D.ti t with
    | some ⟨.slice e, _, _, _, _, _, _⟩ => match lk D.ti e with
      | some ⟨_, _, _, by_, z, some τ, _⟩ => match evC fr n, evC fr c, decL D τ z with
        | some (.int _ n), some (.int _ c), some z => bK (decide (0 ≤ n)) (bK (decide (n ≤ c)) (bK (fitM c.toNat by_) (newK D d (.arr τ (List.replicate n.toNat z)) (.own d) fr hp k)))
        | _, _, _ => none
      | _ => none
    | _ => none
  | .extract x i => match ev fr x with
    | some (.tup l) => match nthA D l i with | some a => k (.a a) fr hp | none => none
    | _ => none
  | .makeFunc (.func f) first caps => match first.toList, capIds D fr caps.toList with | [], some ids => k (cV (.fn f ids)) fr hp | _, _ => none
  | .call ⟨.value f, args, _⟩ => match evC fr f, evAs D fr args.toList with
    | some (.fn g caps), some as => callK D H g d (as ++ capPtrs D caps) fr hp k
    | _, _ => none
  | .call ⟨.builtin .len, args, ts⟩ => match evAs D fr args.toList, ts.toList with
    | some [.c c], [t] => (match lk D.ti t with
      | some ti => (match lenC D hp ti.d c with | some n => k (cV (.int .i64 n)) fr hp | none => none)
      | none => none)
    | _, _ => none
  | .call ⟨.builtin .append, args, ts⟩ => match evAs D fr args.toList, ts.toList with
    | some [.c s, .c x], [t, tx] => match lk D.ti t, lk D.ti tx with
      | some ⟨.slice e, _, _, _, _, _, _⟩, some tix => match lk D.ti e, srcOk D tix.d x with
        | some ⟨_, _, _, by_, _, some τ, _⟩, true => appendK D d by_ τ s x fr hp k
        | _, _ => none
      | _, _ => none
    | _, _ => none
  | .call ⟨.builtin .max, args, _⟩ => match evAs D fr args.toList with
    | some (.c (.int k1 a) :: as) => (match foldM mxE k1 a as with | some n => k (cV (.int k1 n)) fr hp | none => none)
    | _ => none
  | .call ⟨.builtin .min, args, _⟩ => match evAs D fr args.toList with
    | some (.c (.int k1 a) :: as) => (match foldM mnE k1 a as with | some n => k (cV (.int k1 n)) fr hp | none => none)
    | _ => none
  | _ => none
where
  foldM (f : Int → Int → Int) (k1 : IntKind) (a : Int) : List (A D.S) → Option Int
    | [] => some a
    | .c (.int k2 b) :: l => if k1 = k2 then foldM f k1 (f a b) l else none
    | _ => none

/-! ### regions and code -/
/-- What a region's order may turn: what an operation looks at, what it turns. -/
structure Eff where
  rd : List Nat
  wr : List Nat
  all : Bool

def putK {R : Type} (dst : Option Tmp) (v : V D.S) (fr : Tr (V D.S)) (k : Tr (V D.S) → Option R) : Option R := match dst with
  | some d => Tr.setK depth fr d (some v) k
  | none => k fr
/-- What a guard says. -/
def yieldK (ops : List Oper) (j : Nat) (fr : Tr (V D.S)) (k : Nat → Bool → Option R) : Option R := match ops[j]? with
  | some ⟨some d, _, _, _, _, _⟩ => match fr.get d with | some (.a (.c (.bool b))) => k d b | _ => none
  | _ => none
/-- One operation, with its guard. -/
def op1K0 (H : HH D R) (ops : List Oper) (o : Oper) (fr : Tr (V D.S)) (hp : Tr (B D.S)) (k : Tr (V D.S) → Tr (B D.S) → Option R) : Option R := match o.guard with
    | none => opK D H o.op (o.dst.getD 999) fr hp fun v fr hp => putK D o.dst v fr fun fr => k fr hp
    | some (j, true) => yieldK D ops j fr fun d b => bKK b
        (Tr.setK depth fr d (some (cV (.bool true))) fun fr => opK D H o.op (o.dst.getD 999) fr hp fun v fr hp => putK D o.dst v fr fun fr => k fr hp)
        (Tr.setK depth fr d (some (cV (.bool false))) fun fr => putK D o.dst (.tup []) fr fun fr => k fr hp)
    | some (j, false) => yieldK D ops j fr fun d b => bKK b
        (Tr.setK depth fr d (some (cV (.bool true))) fun fr => putK D o.dst (.tup []) fr fun fr => k fr hp)
        (Tr.setK depth fr d (some (cV (.bool false))) fun fr => opK D H o.op (o.dst.getD 999) fr hp fun v fr hp => putK D o.dst v fr fun fr => k fr hp)
/-- The slot of a guard whose operation was passed over itself. -/
def skB (ops : List Oper) (o : Oper) (fr : Tr (V D.S)) : Option Nat := match o.guard with
  | none => none
  | some (j, _) => match ops[j]? with
    | some ⟨some d, _, _, _, _, _⟩ => match fr.get d with | some (.tup []) => some d | _ => none
    | _ => none
/-- One operation, with its guard: it is passed over where its guard was passed over. -/
def op1K (H : HH D R) (ops : List Oper) (o : Oper) (fr : Tr (V D.S)) (hp : Tr (B D.S)) (k : Tr (V D.S) → Tr (B D.S) → Option R) : Option R := match skB D ops o fr with
  | some _ => putK D o.dst (.tup []) fr fun fr => k fr hp
  | none => op1K0 D H ops o fr hp k
def opsK (H : HH D R) (ops : List Oper) : List Oper → Tr (V D.S) → Tr (B D.S) → (Tr (V D.S) → Tr (B D.S) → Option R) → Option R
  | [], fr, hp, k => k fr hp
  | o :: rest, fr, hp, k => op1K D H ops o fr hp fun fr hp => opsK H ops rest fr hp k

end
end Go.Proofs.Ytkpjeihgigmnkaa.Ev
/- Values without memory: a region whose order is left open: run in the order of its text, with a list of what each operation looks at and turns; the code. -/
namespace Go.Proofs.Ytkpjeihgigmnkaa.Ev
open Go
section
variable {S : Nat → Type}
/-- The blocks that a cell names. -/
def idsC : C S → List Nat
  | .own id => [id]
  | .part id _ _ => [id]
  | .eptr id _ _ => [id]
  | .ptr id _ => [id]
  | .fn _ caps => caps
  | _ => []
def appN : List Nat → List Nat → List Nat
  | [], l => l
  | i :: m, l => i :: appN m l
def idsL : List (C S) → List Nat
  | [] => []
  | c :: cs => appN (idsC c) (idsL cs)
def idsAs : List (A S) → List Nat
  | [] => []
  | x :: l => appN (idsL x.cells) (idsAs l)
def idsV : V S → List Nat
  | .a x => idsL x.cells
  | .tup l => idsAs l
def idsB : B S → List Nat
  | .box cs => idsL cs
  | .arr _ _ => []
end
/-- The slots that operands name. -/
def slotsL : List Operand → List Nat
  | [] => []
  | .tmp t :: l => t :: slotsL l
  | _ :: l => slotsL l
section
variable {D : Tys} {R : Type}
/-- What the boxes that are named hold names. -/
def idsBs (hp : Tr (B D.S)) : List Nat → List Nat
  | [] => []
  | i :: l => match hp.get i with
    | some b => appN (idsB b) (idsBs hp l)
    | none => idsBs hp l
/-- What an operation looks at in memory. -/
def tchO (fr : Tr (V D.S)) (hp : Tr (B D.S)) : List Operand → List Nat
  | [] => []
  | x :: l => match ev fr x with
    | some v => appN (idsV v) (tchO fr hp l)
    | none => tchO fr hp l
def tch (op : Op) (fr : Tr (V D.S)) (hp : Tr (B D.S)) : List Nat := appN (tchO fr hp op.operands.toList) (idsBs hp (tchO fr hp op.operands.toList))
/-- Which operations may stand in a region whose order is left open: of a call: nothing is frozen, nothing of its own is handed over. -/
def drawCall (D : Tys) (hp : Tr (B D.S)) (md : Md) (xs : List (A D.S)) : Bool := match md.xm with
  | some xm => match argsX D hp xm.ps xs with
    | some _ => true
    | none => false
  | none => match callArgs D hp md.ps xs with
    | some _ => true
    | none => false
/-- Rows are told by value from there on. -/
def frzO (D : Tys) (fr : Tr (V D.S)) (hp : Tr (B D.S)) : Op → Bool
  | .call ⟨.value f, args, _⟩ => match evC fr f, evAs D fr args.toList with
    | some (.fn g caps), some xs => match lk D.mode g with
      | some md => match md.xm with
        | some xm => match argsX D hp xm.ps (xs ++ capPtrs D caps) with
          | some (_, rs, is, os) => !(rs.isEmpty && (is.isEmpty && os.isEmpty))
          | none => false
        | none => match callArgs D hp md.ps (xs ++ capPtrs D caps) with
          | some (_, _, os) => md.fz && !os.isEmpty
          | none => false
      | none => false
    | _, _ => false
  | _ => false
def isPtrC {S : Nat → Type} : C S → Bool
  | .ptr _ _ => true
  | _ => false
def drawOk (D : Tys) (fr : Tr (V D.S)) (hp : Tr (B D.S)) : Op → Bool
  | .call ⟨.value f, args, _⟩ => match evC fr f, evAs D fr args.toList with
    | some (.fn g caps), some xs => match lk D.mode g with
      | some md => drawCall D hp md (xs ++ capPtrs D caps)
      | none => false
    | _, _ => false
  | .buildSlice _ _ ps => match evParts D fr ps.toList with | some l => (ownsP D l).isEmpty | none => false
  | .store _ p x => match evC fr p with
    | some c => match isPtrC c, evA fr x with
      | true, _ => true
      | false, some a => (ownsL a.cells).isEmpty
      | false, none => false
    | none => false
  | .slice t _ _ _ _ => !D.rowt t
  | _ => true
def newOp : Op → Bool
  | .alloc _ | .box _ _ | .makeSlice _ _ _ | .buildSlice _ _ _ | .call ⟨.builtin .append, _, _⟩ => true
  | _ => false
/-- The numbers of what a call answers as its own. -/
def roIds (d : Nat) : OwL → Nat → List Nat
  | [], _ => []
  | _ :: l, p => (newC d 2 + p) :: roIds d l (p + 1)
/-- The numbers of a box's own. -/
def ownIds (b : Nat) : OwL → Nat → List Nat
  | [], _ => []
  | _ :: l, q => (b + q) :: ownIds b l (q + 1)
def cloIds (d : Nat) : Nat → List (Nat × OwL) → List Nat
  | _, [] => []
  | p, (_, own) :: l => appN (ownIds (newC d p) own 0) (cloIds d (p + 1) l)
def refIds (d : Nat) : Nat → List XP → List Nat
  | _, [] => []
  | p, .val :: l => refIds d p l
  | p, .ref _ _ own :: l => appN (ownIds (newC d p) own 0) (refIds d (p + 1) l)
  | p, .clo m :: l => appN (cloIds d p m) (refIds d (p + m.length) l)
def xNew (D : Tys) (fr : Tr (V D.S)) (op : Op) (d : Nat) : List Nat := match op with
  | .call ⟨.value f, _, _⟩ => match evC fr f with
    | some (.fn g _) => match xmOf D g with
      | some xm => appN (refIds d 0 xm.ps) (roIds d xm.ro 0)
      | none => []
    | _ => []
  | _ => []
/-- Blocks may be turned. -/
def effO (D : Tys) (fr : Tr (V D.S)) (hp : Tr (B D.S)) (op : Op) : Bool := newOp op || !(xNew D fr op 0).isEmpty || match op with
  | .store _ _ _ => true
  | .call ⟨.value f, args, _⟩ => match evC fr f, evAs D fr args.toList with
    | some (.fn g caps), some xs => match lk D.mode g with
      | some md => match md.xm with
        | some xm => match argsX D hp xm.ps (xs ++ capPtrs D caps) with
          | some (_, rs, is, os) => !(rs.isEmpty && (is.isEmpty && os.isEmpty))
          | none => true
        | none => match callArgs D hp md.ps (xs ++ capPtrs D caps) with
          | some (_, rs, os) => !rs.isEmpty || (md.fz && !os.isEmpty)
          | none => true
      | none => true
    | _, _ => true
  | _ => false
/-- A block may go. -/
def killO : Op → Bool
  | .call ⟨.builtin .append, _, _⟩ => true
  | _ => false
def noAnyAs : List (A D.S) → Bool
  | [] => true
  | x :: l => match noAny x.cells with | true => noAnyAs l | false => false
def noAnyV : V D.S → Bool
  | .a x => noAny x.cells
  | .tup l => noAnyAs l
end
section
variable (D : Tys) {R : Type}
def anyIn (fr : Tr (V D.S)) : List Nat → Bool
  | [] => false
  | t :: l => match fr.get t with
    | some v => match noAnyV v with | true => anyIn fr l | false => true
    | none => true
def allLt : List Nat → Bool
  | [] => true
  | i :: l => match Nat.blt i 65535 with | true => allLt l | false => false
/-- Operations that look at no block. -/
def movOp : Op → Bool
  | .move _ | .assign _ | .pick _ _ _ | .fieldAddr _ _ _ | .makeFunc _ _ _ | .nilCheck _ | .extract _ _ => true
  | _ => false
/-- The blocks that are looked at, of those that are named. -/
def ldOp : Op → Bool
  | .load _ _ => true
  | _ => false
def tchU {D : Tys} (op : Op) (fr : Tr (V D.S)) (hp : Tr (B D.S)) (T : List Nat) : List Nat := match movOp op with | true => [] | false => match ldOp op with | true => tchO fr hp op.operands.toList | false => T
/-- What is told of an operation: of one that looks at no block, what its operands name. -/
def tchT {D : Tys} (op : Op) (fr : Tr (V D.S)) (hp : Tr (B D.S)) : List Nat := match movOp op with | true => tchO fr hp op.operands.toList | false => tch op fr hp
abbrev KL (D : Tys) (R : Type) := List Nat → List Nat → List Nat → Bool → Bool → Bool → List Nat → List Nat → List Nat → Tr (V D.S) → Tr (B D.S) → Option R
def nwT (fr : Tr (V D.S)) (op : Op) (d : Nat) : List Nat := match newOp op with | true => [d] | false => xNew D fr op d
def freeAll (hp : Tr (B D.S)) : List Nat → Bool
  | [] => true
  | i :: l => match hp.get i with | none => freeAll hp l | some _ => false
def newFree (fr : Tr (V D.S)) (op : Op) (d : Nat) (hp : Tr (B D.S)) : Bool := freeAll D hp (nwT D fr op d)
def allIn (T : List Nat) : List Nat → Bool
  | [] => true
  | i :: l => match T.elem i with | true => allIn T l | false => false
/-- What the blocks that are looked at hold is known, and told. -/
def clU (hp : Tr (B D.S)) (T : List Nat) : List Nat → Bool
  | [] => true
  | i :: l => match hp.get i with
    | none => clU hp T l
    | some b => match allIn T (idsB b) with | true => clU hp T l | false => false
/-- The blocks that go, or are told by value from there on. -/
def kidO (fr : Tr (V D.S)) (hp : Tr (B D.S)) : Op → List Nat
  | .call ⟨.builtin .append, args, _⟩ => match evAs D fr args.toList with | some (.c s :: _) => idsC s | _ => []
  | .call ⟨.value f, args, _⟩ => match evC fr f, evAs D fr args.toList with
    | some (.fn g caps), some xs => match lk D.mode g with
      | some md => match md.xm with
        | some xm => match argsX D hp xm.ps (xs ++ capPtrs D caps) with | some (_, _, is, os) => appN is os | none => []
        | none => match callArgs D hp md.ps (xs ++ capPtrs D caps) with | some (_, _, os) => os | none => []
      | none => []
    | _, _ => []
  | _ => []
def meets (l : List Nat) : List Nat → Bool
  | [] => false
  | i :: m => match l.elem i with | true => true | false => meets l m
def mapN (f : Nat → Nat) : List Nat → List Nat
  | [] => []
  | i :: l => f i :: mapN f l
/-- Where a tree's values are such. -/
def namT {α : Type} (p : α → Bool) : Tr α → List Nat
  | .lf => []
  | .nd v l r => appN (match v with | some u => (match p u with | true => [0] | false => []) | none => []) (appN (mapN (fun n => 2 * n + 1) (namT p l)) (mapN (fun n => 2 * n + 2) (namT p r)))
def tnO (kid : List Nat) (fr : Tr (V D.S)) : List Nat := match kid with | [] => [] | i :: l => namT (fun v => meets (i :: l) (idsV v)) fr
def tbO (kid : List Nat) (hp : Tr (B D.S)) : List Nat := match kid with | [] => [] | i :: l => namT (fun b => meets (i :: l) (idsB b)) hp
def odO (dst : Option Tmp) (fr : Tr (V D.S)) : List Nat := match dst with | some d => (match fr.get d with | some u => idsV u | none => []) | none => []
def exK (H : HH D R) (o : Oper) (gs : List Nat) (fr : Tr (V D.S)) (hp : Tr (B D.S)) (k : KL D R) : Option R := match drawOk D fr hp o.op && newFree D fr o.op (o.dst.getD 999) hp with
  | false => none
  | true => opK D H o.op (o.dst.getD 999) fr hp fun v fr' hp' => putK D o.dst v fr' fun fr' => match allLt (appN (nwT D fr o.op (o.dst.getD 999)) (appN (tchT o.op fr hp) (idsV v))) with
    | true => k (appN gs (slotsL o.op.operands.toList)) (appN (nwT D fr o.op (o.dst.getD 999)) (appN (tchT o.op fr hp) (idsV v))) (tchU o.op fr hp (appN (nwT D fr o.op (o.dst.getD 999)) (appN (tchT o.op fr hp) (idsV v)))) (effO D fr hp o.op) (!(clU D hp (appN (nwT D fr o.op (o.dst.getD 999)) (appN (tchT o.op fr hp) (idsV v))) (tchU o.op fr hp (appN (nwT D fr o.op (o.dst.getD 999)) (appN (tchT o.op fr hp) (idsV v)))) && clU D hp' (appN (nwT D fr o.op (o.dst.getD 999)) (appN (tchT o.op fr hp) (idsV v))) (tchU o.op fr hp (appN (nwT D fr o.op (o.dst.getD 999)) (appN (tchT o.op fr hp) (idsV v)))))) (killO o.op || frzO D fr hp o.op) (tnO D (kidO D fr hp o.op) fr) (tbO D (kidO D fr hp o.op) hp) (odO D o.dst fr) fr' hp'
    | false => none
def dr1K0 (H : HH D R) (ops : List Oper) (o : Oper) (fr : Tr (V D.S)) (hp : Tr (B D.S)) (k : KL D R) : Option R := match o.guard with
  | none => exK D H o [] fr hp k
  | some (j, true) => yieldK D ops j fr fun d b => bKK b
      (Tr.setK depth fr d (some (cV (.bool true))) fun fr => exK D H o [d] fr hp k)
      (Tr.setK depth fr d (some (cV (.bool false))) fun fr => putK D o.dst (.tup []) fr fun fr1 => k [d] [] [] false false false [] [] (odO D o.dst fr) fr1 hp)
  | some (j, false) => yieldK D ops j fr fun d b => bKK b
      (Tr.setK depth fr d (some (cV (.bool true))) fun fr => putK D o.dst (.tup []) fr fun fr1 => k [d] [] [] false false false [] [] (odO D o.dst fr) fr1 hp)
      (Tr.setK depth fr d (some (cV (.bool false))) fun fr => exK D H o [d] fr hp k)
def dr1K (H : HH D R) (ops : List Oper) (o : Oper) (fr : Tr (V D.S)) (hp : Tr (B D.S)) (k : KL D R) : Option R := match skB D ops o fr with
  | some d => putK D o.dst (.tup []) fr fun fr1 => k [d] [] [] false false false [] [] (odO D o.dst fr) fr1 hp
  | none => dr1K0 D H ops o fr hp k
end
structure Lg where
  i : Nat
  dst : Option Tmp
  lk : List Nat
  T : List Nat
  U : List Nat
  eff : Bool
  an : Bool
  kl : Bool
  tn : List Nat
  tb : List Nat
  od : List Nat
def notIn (d : Option Tmp) (l : List Nat) : Bool := match d with
  | none => true
  | some d => match l.elem d with | true => false | false => true
def disj : List Nat → List Nat → Bool
  | [], _ => true
  | i :: l, m => match m.elem i with | true => false | false => disj l m
def neD (x y : Option Tmp) : Bool := match x, y with | some a, some b => !Nat.beq a b | _, _ => true
/-- Of two, of which the first (the second) takes blocks away. -/
def k1B (x y : Lg) : Bool := disj x.U y.T && (disj y.lk x.tn && (disj y.U x.tb && (notIn y.dst x.tn && (!y.kl && !y.an))))
def k2B (x y : Lg) : Bool := disj y.U x.T && (!x.an && (disj y.U x.od && !x.kl))
def comB (x y : Lg) : Bool := notIn x.dst y.lk && (notIn y.dst x.lk && (neD x.dst y.dst && ((!(x.eff || y.eff) || disj x.U y.U) && ((!x.kl || k1B x y) && (!y.kl || k2B x y)))))
def chk (m : Nat) : List Lg → Lg → Bool
  | [], _ => true
  | x :: l, y => match Nat.testBit m x.i || comB x y with | true => chk m l y | false => false
def ancOf (ms : List Nat) : List Edge → Option Nat
  | [] => some 0
  | e :: l => match Region.binds .any e with
    | false => ancOf ms l
    | true => match ms[e.on]?, ancOf ms l with
      | some m, some n => some (m ||| (2 ^ e.on ||| n))
      | _, _ => none
section
variable (D : Tys) {R : Type}
def drawK (H : HH D R) (ops : List Oper) : List Oper → Nat → List Nat → List Lg → Tr (V D.S) → Tr (B D.S) → (Tr (V D.S) → Tr (B D.S) → Option R) → Option R
  | [], _, _, _, fr, hp, k => k fr hp
  | o :: rest, i, ms, lgs, fr, hp, k => match ancOf ms o.after.toList with
    | none => none
    | some m => dr1K D H ops o fr hp fun lk T U eff an kl tn tb od fr hp => match chk m lgs ⟨i, o.dst, lk, T, U, eff, an, kl, tn, tb, od⟩ with
      | true => drawK H ops rest (i + 1) (ms ++ [m]) (⟨i, o.dst, lk, T, U, eff, an, kl, tn, tb, od⟩ :: lgs) fr hp k
      | false => none
end
section
variable (D : Tys) {R : Type}
inductive It where
  | code (c : Code) (p : Nat) | inLoop (c : Code) (p : Nat) | inBlock (id : Nat)
def exitTo (id : Nat) : List It → Option (List It)
  | [] => none
  | .inBlock i :: t => match Nat.beq i id with | true => some t | false => exitTo id t
  | _ :: t => exitTo id t
def mem (p : Nat) : List Nat → Bool
  | [] => false
  | q :: l => match Nat.beq p q with | true => true | false => mem p l
/-- Runs the code till it returns, or comes to a place of 'cuts' (where the continuation κ goes on). The first place is no cut. -/
def runK (H : HH D R) (cuts : List Nat) (κ : Nat → Tr (V D.S) → Tr (B D.S) → Option R) (ρ : Tr (V D.S) → Tr (B D.S) → Option R) : Nat → Bool → List It → Tr (V D.S) → Tr (B D.S) → Option R
  | 0, _, _, _, _ => none
  | _ + 1, _, [], fr, hp => ρ fr hp
  | n + 1, _, .inBlock _ :: t, fr, hp => runK H cuts κ ρ n true t fr hp
  | n + 1, _, .inLoop c p :: t, fr, hp => runK H cuts κ ρ n true (.code c (2 * p) :: .inLoop c p :: t) fr hp
  | n + 1, here, .code c p :: t, fr, hp => match here && mem p cuts with
    | true => κ p fr hp
    | false => match c with
      | .skip => runK H cuts κ ρ n true t fr hp
      | .region _ ops false => opsK D H ops.toList ops.toList fr hp fun fr hp => runK H cuts κ ρ n true t fr hp
      | .region _ ops true => drawK D H ops.toList ops.toList 0 [] [] fr hp fun fr hp => runK H cuts κ ρ n true t fr hp
      | .seq a b => runK H cuts κ ρ n true (.code a (2 * p) :: .code b (2 * p + 1) :: t) fr hp
      | .cond c x y => match c with
        | .tmp d => match fr.get d with
          | some (.a (.c (.bool b))) => bKK b
            (Tr.setK depth fr d (some (cV (.bool true))) fun fr => match Nat.blt d 65535 with | true => runK H cuts κ ρ n true (.code x (2 * p) :: t) fr hp | false => none)
            (Tr.setK depth fr d (some (cV (.bool false))) fun fr => match Nat.blt d 65535 with | true => runK H cuts κ ρ n true (.code y (2 * p + 1) :: t) fr hp | false => none)
          | _ => none
        | .const (.bool b) => bKK b (runK H cuts κ ρ n true (.code x (2 * p) :: t) fr hp) (runK H cuts κ ρ n true (.code y (2 * p + 1) :: t) fr hp)
        | _ => none
      | .block id c => runK H cuts κ ρ n true (.code c (2 * p) :: .inBlock id :: t) fr hp
      | .loop c => runK H cuts κ ρ n true (.code c (2 * p) :: .inLoop c p :: t) fr hp
      | .exit id => match exitTo id t with | some t => runK H cuts κ ρ n true t fr hp | none => none
      | .label _ => runK H cuts κ ρ n true t fr hp
      | .ret => ρ fr hp
      | _ => none
end
end Go.Proofs.Ytkpjeihgigmnkaa.Ev
/- Values without memory: what a value that is told says of memory; laws of the trees and of the lists of cells. -/
namespace Go.Proofs.Ytkpjeihgigmnkaa.Ev
open Go
set_option linter.unusedVariables false
set_option linter.unusedSimpArgs false

/-! ### trees -/
namespace Tr
variable {α : Type} {R : Type}
theorem setK_eq : ∀ (d : Nat) (t : Tr α) (n : Nat) (v : Option α) (k : Tr α → R), setK d t n v k = k (set d t n v)
  | 0, t, n, v, k => rfl
  | d + 1, .lf, n, v, k => by
    simp only [setK, set]
    split
    · rfl
    · split
      · rw [setK_eq d]; rfl
      · rw [setK_eq d]; rfl
  | d + 1, .nd v0 l r, n, v, k => by
    simp only [setK, set]
    split
    · rfl
    · split
      · rw [setK_eq d]; rfl
      · rw [setK_eq d]; rfl
theorem get_eq (t : Tr α) (m : Nat) : t.get m = if m = 0 then t.vl else if m % 2 = 1 then t.lt.get (m / 2) else t.rt.get (m / 2 - 1) := by
  cases t with
  | lf => simp [get, vl, lt, rt]
  | nd v l r =>
    simp only [get, vl, lt, rt]
    by_cases h0 : m = 0
    · subst h0; rfl
    · have e0 : Nat.beq m 0 = false := by cases h : Nat.beq m 0 with | false => rfl | true => exact absurd (Nat.eq_of_beq_eq_true h) h0
      rw [e0, if_neg h0]
      by_cases h1 : m % 2 = 1
      · rw [if_pos h1, h1]
      · have e1 : Nat.beq (m % 2) 1 = false := by cases h : Nat.beq (m % 2) 1 with | false => rfl | true => exact absurd (Nat.eq_of_beq_eq_true h) h1
        rw [e1, if_neg h1]
theorem get_nd (v : Option α) (l r : Tr α) (m : Nat) : (Tr.nd v l r).get m = if m = 0 then v else if m % 2 = 1 then l.get (m / 2) else r.get (m / 2 - 1) := get_eq _ m
theorem get_set : ∀ (d : Nat) (t : Tr α) (n m : Nat) (v : Option α), n + 1 < 2 ^ d → (set d t n v).get m = if m = n then v else t.get m
  | 0, t, n, m, v, h => by simp at h
  | d + 1, t, n, m, v, h => by
    have hp : 2 ^ (d + 1) = 2 * 2 ^ d := by rw [Nat.pow_succ]; omega
    have ge := get_eq t m
    unfold set
    cases h0 : Nat.beq n 0
    · have hn : n ≠ 0 := fun e => by subst e; simp at h0
      cases h1 : Nat.beq (n % 2) 1
      · have h1' : n % 2 ≠ 1 := fun e => by rw [e] at h1; simp at h1
        simp only [get_nd]
        rw [get_set d _ _ _ _ (by omega), ge]
        by_cases a : m = 0
        · rw [if_pos a, if_neg (by omega), if_pos a]
        · rw [if_neg a, if_neg a]
          by_cases b : m % 2 = 1
          · rw [if_pos b, if_pos b, if_neg (by omega)]
          · rw [if_neg b, if_neg b]
            by_cases c : m = n
            · rw [if_pos c, if_pos (by omega)]
            · rw [if_neg c, if_neg (by omega)]
      · have h1' : n % 2 = 1 := Nat.eq_of_beq_eq_true h1
        simp only [get_nd]
        rw [get_set d _ _ _ _ (by omega), ge]
        by_cases a : m = 0
        · rw [if_pos a, if_neg (by omega), if_pos a]
        · rw [if_neg a, if_neg a]
          by_cases b : m % 2 = 1
          · rw [if_pos b, if_pos b]
            by_cases c : m = n
            · rw [if_pos c, if_pos (by omega)]
            · rw [if_neg c, if_neg (by omega)]
          · rw [if_neg b, if_neg b, if_neg (by omega)]
    · have hn : n = 0 := Nat.eq_of_beq_eq_true h0
      simp only [get_nd]
      rw [ge]
      by_cases a : m = 0
      · rw [if_pos a, if_pos (by omega)]
      · rw [if_neg a, if_neg a, if_neg (show ¬ m = n by omega)]
/-- A turning of values that hands on: it hands on one value. -/
def map (f : α → α) : Tr α → Tr α
  | .lf => .lf
  | .nd v l r => .nd (v.map f) (map f l) (map f r)
theorem get_map (f : α → α) : ∀ (t : Tr α) (n : Nat), (map f t).get n = (t.get n).map f
  | .lf, n => rfl
  | .nd v l r, n => by
    simp only [map, get]
    split
    · rfl
    · split
      · exact get_map f l _
      · exact get_map f r _
theorem mapK_eq (f : α → (α → R) → R) (g : α → α) (hf : ∀ a k, f a k = k (g a)) : ∀ (t : Tr α) (k : Tr α → R), mapK f t k = k (map g t)
  | .lf, k => rfl
  | .nd v l r, k => by
    simp only [mapK, map]
    rw [mapK_eq f g hf l]
    rw [mapK_eq f g hf r]
    cases v with
    | none => rfl
    | some v => simp only [hf, Option.map]
end Tr

/-! ### kinds -/
theorem lk_mem {α : Type} : ∀ {l : List (Nat × α)} {n : Nat} {x : α}, lk l n = some x → (n, x) ∈ l
  | (m, y) :: l, n, x, h => by
    unfold lk at h
    split at h
    · rename_i e
      rw [Nat.eq_of_beq_eq_true e]
      simp only [Option.some.injEq] at h
      subst h
      exact List.mem_cons_self
    · exact List.mem_cons_of_mem _ (lk_mem h)

/-! ### what is said of memory -/
section
variable (D : Tys)
inductive RP (w : World) (F : Nat → Prop) : C D.S → Value → Prop
  | int (k : IntKind) (n : Int) : RP w F (.int k n) (.int k n)
  | bool (b : Bool) : RP w F (.bool b) (.bool b)
  | str (s : ByteArray) : RP w F (.str s) (.string s)
  | nilp : RP w F .nilp (.pointer none)
  | nils : RP w F .nils (.slice none 0 0)
  | nili : RP w F .nili .nilIface
  | nilf : RP w F .nilf .nilFunc
  | emp (a : Addr) (cap : Nat) : RP w F .emp (.slice (some a) 0 cap)
  | err (t : TypeId) (k : IntKind) (n : Int) : RP w F (.err t k n) (.iface t (.int k n))
  | fn (f : FuncId) : RP w F (.fn f []) (.func (.func f) #[] #[])
  | lst0 (t : Ty) (a : Option Addr) (cap : Nat) (hn : a = none → cap = 0) : RP w F (.lst t []) (.slice a 0 cap)
  | lst (t : Ty) (l : List (T D.S t)) (b o cap : Nat) (f : Nat → Nat → Value) (hb : F b) (hc : l.length ≤ cap)
      (hf : ∀ i j, i < l.length → j < size D t → w.cell? ⟨b, o + i * size D t + j, none⟩ = some (f i j))
      (hr : ∀ i (hi : i < l.length) j x, (encL D t (l[i]'hi))[j]? = some x → RP w F x (f i j)) : RP w F (.lst t l) (.slice (some ⟨b, o, none⟩) l.length cap)
  | fptr (t : Ty) (l : List (T D.S t)) (e off : Nat) (b o : Nat) (f : Nat → Nat → Value) (hb : F b) (he : e < l.length)
      (hf : ∀ i j, i < l.length → j < size D t → w.cell? ⟨b, o + i * size D t + j, none⟩ = some (f i j))
      (hr : ∀ i (hi : i < l.length) j x, (encL D t (l[i]'hi))[j]? = some x → RP w F x (f i j)) : RP w F (.fptr t l e off) (.pointer (some ⟨b, o + e * size D t + off, none⟩))
theorem cell_heap {w w' : World} {b : Nat} (h : w'.heap[b]? = w.heap[b]?) (o : Nat) : w'.cell? ⟨b, o, none⟩ = w.cell? ⟨b, o, none⟩ := by
  simp only [World.cell?, h]
theorem RP.mono {w w' : World} {F F' : Nat → Prop} (h : ∀ b, F b → F' b ∧ w'.heap[b]? = w.heap[b]?) : ∀ {c : C D.S} {v : Value}, RP D w F c v → RP D w' F' c v := by
  intro c v r
  induction r with
  | int k n => exact .int k n
  | bool b => exact .bool b
  | str s => exact .str s
  | nilp => exact .nilp
  | nils => exact .nils
  | nili => exact .nili
  | nilf => exact .nilf
  | emp a cap => exact .emp a cap
  | err t k n => exact .err t k n
  | fn f => exact .fn f
  | lst0 t a cap hn => exact .lst0 t a cap hn
  | lst t l b o cap f hb hc hf hr ih => exact .lst t l b o cap f (h b hb).1 hc (fun i j hi hj => (cell_heap (h b hb).2 _).trans (hf i j hi hj)) (fun i hi j x hx => ih i hi j x hx)
  | fptr t l e off b o f hb he hf hr ih => exact .fptr t l e off b o f (h b hb).1 he (fun i j hi hj => (cell_heap (h b hb).2 _).trans (hf i j hi hj)) (fun i hi j x hx => ih i hi j x hx)

/-- Where a block lies: its number, the place of its first cell, how many cells the number has. -/
structure Loc where
  b : Nat
  o : Nat
  n : Nat
abbrev Hp := Nat → Option (B D.S)
def RC (w : World) (F : Nat → Prop) (h : Hp D) (β : Nat → Option Loc) (c : C D.S) (v : Value) : Prop := match c with
  | .any => True
  | .own id => ∃ t l, h id = some (.arr t l) ∧ ((β id = none ∧ l = [] ∧ ∃ a, v = .slice a 0 0) ∨ ∃ L cap, β id = some L ∧ l.length ≤ cap ∧ L.o + cap * size D t ≤ L.n ∧ v = .slice (some ⟨L.b, L.o, none⟩) l.length cap)
  | .part id off n => ∃ t l, h id = some (.arr t l) ∧ off + n ≤ l.length ∧ ((β id = none ∧ ∃ a, v = .slice a 0 0) ∨ ∃ L cap, β id = some L ∧ n ≤ cap ∧ L.o + (off + cap) * size D t ≤ L.n ∧ (v = .slice (some ⟨L.b, L.o + off * size D t, none⟩) n cap ∨ (cap = 0 ∧ ∃ a, v = .slice a 0 0)))
  | .ptr id off => ∃ cs L, h id = some (.box cs) ∧ β id = some L ∧ v = .pointer (some ⟨L.b, L.o + off, none⟩)
  | .eptr id e off => ∃ t l L, h id = some (.arr t l) ∧ β id = some L ∧ e < l.length ∧ v = .pointer (some ⟨L.b, L.o + e * size D t + off, none⟩)
  | .fn f caps => v = .func (.func f) #[] (caps.map fun i => Value.pointer ((β i).map fun L => ⟨L.b, L.o, none⟩)).toArray ∧ ∀ i ∈ caps, ∃ cs L, h i = some (.box cs) ∧ β i = some L
  | c => RP D w F c v
def RL (w : World) (F : Nat → Prop) (h : Hp D) (β : Nat → Option Loc) (cs : List (C D.S)) (vs : List Value) : Prop :=
  cs.length = vs.length ∧ ∀ (j : Nat) x v, cs[j]? = some x → vs[j]? = some v → RC D w F h β x v
def RA (w : World) (F : Nat → Prop) (h : Hp D) (β : Nat → Option Loc) (a : A D.S) (v : Value) : Prop := match a with
  | .c x => RC D w F h β x v
  | .agg cs => ∃ vs, v = .agg vs ∧ RL D w F h β cs vs.toList
def RV (w : World) (F : Nat → Prop) (h : Hp D) (β : Nat → Option Loc) (a : V D.S) (v : Value) : Prop := match a with
  | .a a => RA D w F h β a v
  | .tup l => ∃ vs : Array Value, v = .tuple vs ∧ l.length = vs.size ∧ ∀ (j : Nat) x v, l[j]? = some x → vs[j]? = some v → RA D w F h β x v
def RB (w : World) (F : Nat → Prop) (h : Hp D) (β : Nat → Option Loc) (id : Nat) (b : B D.S) : Prop := match b with
  | .box cs => ∃ L vs t, β id = some L ∧ w.heap[L.b]? = some (.cells vs t (0, 0)) ∧ L.o = 0 ∧ vs.size = L.n ∧ RL D w F h β cs vs.toList
  | .arr t l => (β id = none ∧ l = []) ∨ ∃ L vs e, β id = some L ∧ w.heap[L.b]? = some (.cells vs e (0, 0)) ∧ vs.size = L.n ∧ L.o + l.length * size D t ≤ L.n ∧
      ∀ i (hi : i < l.length) (j : Nat) x, (encL D t (l[i]'hi))[j]? = some x → ∃ v, vs[L.o + i * size D t + j]? = some v ∧ RP D w F x v
end
end Go.Proofs.Ytkpjeihgigmnkaa.Ev
/- Values without memory: what is told and what is in memory, side by side. -/
namespace Go.Proofs.Ytkpjeihgigmnkaa.Ev
open Go
set_option linter.unusedVariables false
set_option linter.unusedSimpArgs false

/-- Where a call began: its world, which blocks stay as they were, which blocks were lent to it; how many slots it has. -/
def GlAt (gl : List (Nat × List Value)) (w : World) : Prop := ∀ x ∈ gl, x.1 < w.heap.size ∧ ∀ (j : Nat) v, x.2[j]? = some v → w.cell? ⟨x.1, j, none⟩ = some v
structure Kx (D : Tys) where
  w0 : World
  F0 : Nat → Prop
  refs : List (Nat × Loc)
  n : Nat
  lent : List Nat := []
  gl : GlAt D.gl w0
  gr : ∀ x ∈ D.gl, ∀ r ∈ refs, x.1 ≠ r.2.b
  lg : ∀ x ∈ D.gl, x.1 ∉ lent
  lf : ∀ b ∈ lent, F0 b
  rlt : ∀ r ∈ refs, r.1 < 3000
/-- The blocks that stay as they were. -/
def Kx.G {D : Tys} (K : Kx D) (b : Nat) : Prop := b < K.w0.heap.size ∧ (∀ r ∈ K.refs, b ≠ r.2.b) ∧ b ∉ K.lent

section
variable {D : Tys}
def Keep (h : Hp D) (β : Nat → Option Loc) (h' : Hp D) (β' : Nat → Option Loc) (id : Nat) : Prop :=
  β' id = β id ∧ (∀ cs, h id = some (.box cs) → ∃ cs', h' id = some (.box cs')) ∧ (∀ t l, h id = some (.arr t l) → ∃ l', h' id = some (.arr t l') ∧ l'.length = l.length)
theorem Keep.rfl' {h h' : Hp D} {β β' : Nat → Option Loc} {id : Nat} (e : h' id = h id) (b : β' id = β id) : Keep h β h' β' id :=
  ⟨b, fun cs hc => ⟨cs, e.trans hc⟩, fun t l hl => ⟨l, e.trans hl, rfl⟩⟩
theorem RC.trans {w w' : World} {F F' : Nat → Prop} {h h' : Hp D} {β β' : Nat → Option Loc} (hF : ∀ b, F b → F' b ∧ w'.heap[b]? = w.heap[b]?)
    (hk : ∀ id, (h id).isSome → Keep h β h' β' id) {c : C D.S} {v : Value} (r : RC D w F h β c v) : RC D w' F' h' β' c v := by
  cases c with
  | any => trivial
  | own id =>
    obtain ⟨t, l, hl, r⟩ := r
    obtain ⟨kb, _, ka⟩ := hk id (by rw [hl]; rfl)
    obtain ⟨l', hl', e⟩ := ka t l hl
    refine ⟨t, l', hl', ?_⟩
    rcases r with ⟨b0, rfl, r⟩ | ⟨L, cap, b1, r1, r2, r3⟩
    · exact .inl ⟨kb.trans b0, List.length_eq_zero_iff.mp e, r⟩
    · exact .inr ⟨L, cap, kb.trans b1, by omega, r2, by rw [e]; exact r3⟩
  | part id off n =>
    obtain ⟨t, l, hl, r0, r⟩ := r
    obtain ⟨kb, _, ka⟩ := hk id (by rw [hl]; rfl)
    obtain ⟨l', hl', e⟩ := ka t l hl
    refine ⟨t, l', hl', by omega, ?_⟩
    rcases r with ⟨b0, r⟩ | ⟨L, cap, b1, r⟩
    · exact .inl ⟨kb.trans b0, r⟩
    · exact .inr ⟨L, cap, kb.trans b1, r⟩
  | ptr id off =>
    obtain ⟨cs, L, hc, b1, r⟩ := r
    obtain ⟨kb, kx, _⟩ := hk id (by rw [hc]; rfl)
    obtain ⟨cs', hc'⟩ := kx cs hc
    exact ⟨cs', L, hc', kb.trans b1, r⟩
  | eptr id e off =>
    obtain ⟨t, l, L, hl, b1, r1, r2⟩ := r
    obtain ⟨kb, _, ka⟩ := hk id (by rw [hl]; rfl)
    obtain ⟨l', hl', e⟩ := ka t l hl
    exact ⟨t, l', L, hl', kb.trans b1, by omega, r2⟩
  | fn f caps =>
    obtain ⟨rv, rc⟩ := r
    have hb : ∀ i ∈ caps, β' i = β i := fun i hi => by
      obtain ⟨cs, L, hc, _⟩ := rc i hi
      exact (hk i (by rw [hc]; rfl)).1
    refine ⟨?_, fun i hi => ?_⟩
    · rw [rv]
      congr 2
      exact List.map_congr_left fun i hi => by rw [hb i hi]
    · obtain ⟨cs, L, hc, b1⟩ := rc i hi
      obtain ⟨cs', hc'⟩ := (hk i (by rw [hc]; rfl)).2.1 cs hc
      exact ⟨cs', L, hc', (hb i hi).trans b1⟩
  | int k n => exact RP.mono D hF r
  | bool b => exact RP.mono D hF r
  | str s => exact RP.mono D hF r
  | nilp => exact RP.mono D hF r
  | nils => exact RP.mono D hF r
  | emp => exact RP.mono D hF r
  | lst t l => exact RP.mono D hF r
  | fptr t l i o => exact RP.mono D hF r
  | nili => exact RP.mono D hF r
  | err t k n => exact RP.mono D hF r
  | nilf => exact RP.mono D hF r
theorem RL.map {w w' : World} {F F' : Nat → Prop} {h h' : Hp D} {β β' : Nat → Option Loc} (f : C D.S → C D.S) (H : ∀ c v, RC D w F h β c v → RC D w' F' h' β' (f c) v)
    {cs : List (C D.S)} {vs : List Value} (r : RL D w F h β cs vs) : RL D w' F' h' β' (cs.map f) vs := by
  refine ⟨by rw [List.length_map]; exact r.1, fun j x v hx hv => ?_⟩
  rw [List.getElem?_map] at hx
  obtain ⟨y, hy, rfl⟩ := Option.map_eq_some_iff.mp hx
  exact H _ _ (r.2 j y v hy hv)
def mapA (f : C D.S → C D.S) : A D.S → A D.S | .c x => .c (f x) | .agg cs => .agg (cs.map f)
def mapV (f : C D.S → C D.S) : V D.S → V D.S | .a a => .a (mapA f a) | .tup l => .tup (l.map (mapA f))
def mapB (f : C D.S → C D.S) : B D.S → B D.S | .box cs => .box (cs.map f) | .arr t l => .arr t l
theorem RA.map {w w' : World} {F F' : Nat → Prop} {h h' : Hp D} {β β' : Nat → Option Loc} (f : C D.S → C D.S) (H : ∀ c v, RC D w F h β c v → RC D w' F' h' β' (f c) v)
    {x : A D.S} {v : Value} (r : RA D w F h β x v) : RA D w' F' h' β' (mapA f x) v := by
  cases x with
  | c x => exact H _ _ r
  | agg cs => obtain ⟨vs, rfl, r⟩ := r; exact ⟨vs, rfl, RL.map f H r⟩
theorem RV.map {w w' : World} {F F' : Nat → Prop} {h h' : Hp D} {β β' : Nat → Option Loc} (f : C D.S → C D.S) (H : ∀ c v, RC D w F h β c v → RC D w' F' h' β' (f c) v)
    {x : V D.S} {v : Value} (r : RV D w F h β x v) : RV D w' F' h' β' (mapV f x) v := by
  cases x with
  | a x => exact RA.map f H r
  | tup l =>
    obtain ⟨vs, rfl, r1, r2⟩ := r
    refine ⟨vs, rfl, by rw [List.length_map]; exact r1, fun j x v hx hv => ?_⟩
    rw [List.getElem?_map] at hx
    obtain ⟨y, hy, rfl⟩ := Option.map_eq_some_iff.mp hx
    exact RA.map f H (r2 j y v hy hv)
theorem RL.trans {w w' : World} {F F' : Nat → Prop} {h h' : Hp D} {β β' : Nat → Option Loc} (H : ∀ c v, RC D w F h β c v → RC D w' F' h' β' c v)
    {cs : List (C D.S)} {vs : List Value} (r : RL D w F h β cs vs) : RL D w' F' h' β' cs vs := ⟨r.1, fun j x v hx hv => H _ _ (r.2 j x v hx hv)⟩
theorem RA.trans {w w' : World} {F F' : Nat → Prop} {h h' : Hp D} {β β' : Nat → Option Loc} (H : ∀ c v, RC D w F h β c v → RC D w' F' h' β' c v)
    {x : A D.S} {v : Value} (r : RA D w F h β x v) : RA D w' F' h' β' x v := by
  cases x with
  | c x => exact H _ _ r
  | agg cs => obtain ⟨vs, rfl, r⟩ := r; exact ⟨vs, rfl, RL.trans H r⟩
theorem RV.trans {w w' : World} {F F' : Nat → Prop} {h h' : Hp D} {β β' : Nat → Option Loc} (H : ∀ c v, RC D w F h β c v → RC D w' F' h' β' c v)
    {x : V D.S} {v : Value} (r : RV D w F h β x v) : RV D w' F' h' β' x v := by
  cases x with
  | a x => exact RA.trans H r
  | tup l =>
    obtain ⟨vs, rfl, r1, r2⟩ := r
    exact ⟨vs, rfl, r1, fun j x v hx hv => RA.trans H (r2 j x v hx hv)⟩

structure Sim (K : Kx D) (β : Nat → Option Loc) (F : Nat → Prop) (fr : Tr (V D.S)) (hp : Tr (B D.S)) (a : Act) (w : World) : Prop where
  sz : a.tmps.size = K.n
  df : a.defers = []
  frm : ∀ i v, fr.get i = some v → RV D w F hp.get β v (a.tmps.getD i undef)
  blk : ∀ i b, hp.get i = some b → RB D w F hp.get β i b
  inj : ∀ i j b b' L L', hp.get i = some b → hp.get j = some b' → β i = some L → β j = some L' → L.b = L'.b → i = j
  sep : ∀ i b L, hp.get i = some b → β i = some L → ¬ F L.b ∧ L.b < w.heap.size
  old : ∀ b, F b → b < w.heap.size
  keep : ∀ b, K.G b → w.heap[b]? = K.w0.heap[b]?
  gsep : ∀ i b L, hp.get i = some b → β i = some L → ¬ K.G L.b
  fsub : ∀ b, F b → K.F0 b ∨ K.w0.heap.size ≤ b
  w0 : K.w0.heap.size ≤ w.heap.size ∧ w.os = K.w0.os ∧ w.tape = K.w0.tape ∧ w.output = K.w0.output
  refs : ∀ i L, (i, L) ∈ K.refs → β i = some L ∧ ∃ cs, hp.get i = some (.box cs)
  key : ∀ i b, hp.get i = some b → i < 65535

theorem depth_ok : 2 ^ depth = 65536 := rfl
theorem Sim.put {K : Kx D} {β F} {fr : Tr (V D.S)} {hp : Tr (B D.S)} {a : Act} {w : World} (s : Sim K β F fr hp a w) {d : Nat} {v : V D.S} {cv : Value}
    (h : RV D w F hp.get β v cv) (hd : d < K.n) (hs : d < 65535) : Sim K β F (fr.set depth d (some v)) hp (a.put (some d) cv) w := by
  refine ⟨by simp only [Act.put, Array.size_setIfInBounds]; exact s.sz, s.df, fun i x hx => ?_, s.blk, s.inj, s.sep, s.old, s.keep, s.gsep, s.fsub, s.w0, s.refs, s.key⟩
  rw [Tr.get_set _ _ _ _ _ (by rw [depth_ok]; omega)] at hx
  simp only [Act.put]
  by_cases e : i = d
  · subst e
    rw [if_pos rfl] at hx
    obtain rfl := Option.some.inj hx
    rw [show (a.tmps.setIfInBounds i cv).getD i undef = cv by simp [Array.getD, Array.getElem?_setIfInBounds, s.sz, hd]]
    exact h
  · rw [if_neg e] at hx
    rw [show (a.tmps.setIfInBounds d cv).getD i undef = a.tmps.getD i undef by simp [Array.getD_eq_getD_getElem?, Array.getElem?_setIfInBounds, Ne.symm e]]
    exact s.frm i x hx
theorem Sim.putO {K : Kx D} {β F} {fr : Tr (V D.S)} {hp : Tr (B D.S)} {a : Act} {w : World} (s : Sim K β F fr hp a w) {cv : Value} : Sim K β F fr hp (a.put none cv) w := s

/-- The world has grown: what was there is there; what is told stays as it was. -/
theorem Sim.grow {K : Kx D} {β F} {fr : Tr (V D.S)} {hp : Tr (B D.S)} {a : Act} {w w' : World} (s : Sim K β F fr hp a w) (hz : w.heap.size ≤ w'.heap.size)
    (hh : ∀ b, b < w.heap.size → w'.heap[b]? = w.heap[b]?) (ho : w'.os = w.os ∧ w'.tape = w.tape ∧ w'.output = w.output) : Sim K β F fr hp a w' := by
  have hF : ∀ b, F b → F b ∧ w'.heap[b]? = w.heap[b]? := fun b hb => ⟨hb, hh b (s.old b hb)⟩
  have hR : ∀ c v, RC D w F hp.get β c v → RC D w' F hp.get β c v := fun c v => RC.trans hF fun id _ => Keep.rfl' rfl rfl
  refine ⟨s.sz, s.df, fun i v h => RV.trans hR (s.frm i v h), fun i b h => ?_, s.inj, fun i b L h1 h2 => ⟨(s.sep i b L h1 h2).1, Nat.lt_of_lt_of_le (s.sep i b L h1 h2).2 hz⟩, fun b hb => Nat.lt_of_lt_of_le (s.old b hb) hz,
    fun b hb => (hh b (Nat.lt_of_lt_of_le hb.1 s.w0.1)).trans (s.keep b hb), s.gsep, s.fsub, ⟨Nat.le_trans s.w0.1 hz, ho.1.trans s.w0.2.1, ho.2.1.trans s.w0.2.2.1, ho.2.2.trans s.w0.2.2.2⟩, s.refs, s.key⟩
  have r := s.blk i b h
  cases b with
  | box cs =>
    obtain ⟨L, vs, t, r1, r2, r3, r4, r5⟩ := r
    exact ⟨L, vs, t, r1, (hh _ (s.sep i _ L h r1).2).trans r2, r3, r4, RL.trans hR r5⟩
  | arr t l =>
    rcases r with r | ⟨L, vs, e, r1, r2, r3, r4, r5⟩
    · exact .inl r
    · refine .inr ⟨L, vs, e, r1, (hh _ (s.sep i _ L h r1).2).trans r2, r3, r4, fun i hi j x hx => ?_⟩
      obtain ⟨v, hv, rv⟩ := r5 i hi j x hx
      exact ⟨v, hv, RP.mono D hF rv⟩
def upd {α : Type} (β : Nat → Option α) (d : Nat) (L : Option α) : Nat → Option α := fun i => if i = d then L else β i
theorem upd_at {α : Type} (β : Nat → Option α) (d : Nat) (L : Option α) : upd β d L d = L := by simp [upd]
theorem upd_ne {α : Type} (β : Nat → Option α) {d i : Nat} (L : Option α) (h : i ≠ d) : upd β d L i = β i := by simp [upd, h]
/-- Another block is told. -/
theorem Sim.new {K : Kx D} {β F} {fr : Tr (V D.S)} {hp : Tr (B D.S)} {a : Act} {w : World} (s : Sim K β F fr hp a w) {d : Nat} (hn : hp.get d = none) (hs : d < 65535) (b : B D.S) (L : Option Loc)
    (hL : ∀ L', L = some L' → L'.b < w.heap.size ∧ ¬ F L'.b ∧ (∀ i b L'', hp.get i = some b → β i = some L'' → L''.b ≠ L'.b) ∧ ¬ K.G L'.b)
    (hb : RB D w F (hp.set depth d (some b)).get (upd β d L) d b) :
    Sim K (upd β d L) F fr (hp.set depth d (some b)) a w ∧ (∀ c v, RC D w F hp.get β c v → RC D w F (hp.set depth d (some b)).get (upd β d L) c v) := by
  have hg : ∀ i, (hp.set depth d (some b)).get i = if i = d then some b else hp.get i := fun i => Tr.get_set _ _ _ _ _ (by rw [depth_ok]; omega)
  have hF : ∀ b, F b → F b ∧ w.heap[b]? = w.heap[b]? := fun b hb => ⟨hb, rfl⟩
  have hne : ∀ id b', hp.get id = some b' → id ≠ d := fun id b' h e => by rw [e, hn] at h; cases h
  have hR : ∀ c v, RC D w F hp.get β c v → RC D w F (hp.set depth d (some b)).get (upd β d L) c v := fun c v => RC.trans hF fun id h => by
    obtain ⟨b', hb'⟩ := Option.isSome_iff_exists.mp h
    exact Keep.rfl' (by rw [hg, if_neg (hne id b' hb')]) (upd_ne _ _ (hne id b' hb'))
  refine ⟨⟨s.sz, s.df, fun i v h => RV.trans hR (s.frm i v h), fun i b' h => ?_, fun i j b1 b2 L1 L2 h1 h2 h3 h4 e => ?_, fun i b' L1 h1 h2 => ?_, s.old, s.keep, fun i b' L1 h1 h2 => ?_, s.fsub, s.w0, fun i L1 h => ?_, fun i b' h => ?_⟩, hR⟩
  · rw [hg] at h
    by_cases e : i = d
    · subst e
      rw [if_pos rfl] at h
      obtain rfl := Option.some.inj h
      exact hb
    · rw [if_neg e] at h
      have r := s.blk i b' h
      cases b' with
      | box cs =>
        obtain ⟨L1, vs, t, r1, r2, r3, r4, r5⟩ := r
        exact ⟨L1, vs, t, (upd_ne _ _ e).trans r1, r2, r3, r4, RL.trans hR r5⟩
      | arr t l =>
        rcases r with ⟨r1, r2⟩ | ⟨L1, vs, e', r1, r⟩
        · exact .inl ⟨(upd_ne _ _ e).trans r1, r2⟩
        · exact .inr ⟨L1, vs, e', (upd_ne _ _ e).trans r1, r⟩
  · rw [hg] at h1 h2
    by_cases e1 : i = d
    · by_cases e2 : j = d
      · rw [e1, e2]
      · subst e1
        rw [if_neg e2] at h2
        rw [upd_at] at h3
        rw [upd_ne _ _ e2] at h4
        exact absurd e.symm ((hL L1 h3).2.2.1 j b2 L2 h2 h4)
    · rw [if_neg e1] at h1
      rw [upd_ne _ _ e1] at h3
      by_cases e2 : j = d
      · subst e2
        rw [upd_at] at h4
        exact absurd e ((hL L2 h4).2.2.1 i b1 L1 h1 h3)
      · rw [if_neg e2] at h2
        rw [upd_ne _ _ e2] at h4
        exact s.inj i j b1 b2 L1 L2 h1 h2 h3 h4 e
  · rw [hg] at h1
    by_cases e1 : i = d
    · subst e1
      rw [upd_at] at h2
      exact ⟨(hL L1 h2).2.1, (hL L1 h2).1⟩
    · rw [if_neg e1] at h1
      rw [upd_ne _ _ e1] at h2
      exact s.sep i b' L1 h1 h2
  · rw [hg] at h1
    by_cases e1 : i = d
    · subst e1
      rw [upd_at] at h2
      exact (hL L1 h2).2.2.2
    · rw [if_neg e1] at h1
      rw [upd_ne _ _ e1] at h2
      exact s.gsep i b' L1 h1 h2
  · obtain ⟨h1, cs, h2⟩ := s.refs i L1 h
    have e1 := hne i _ h2
    exact ⟨(upd_ne _ _ e1).trans h1, cs, by rw [hg, if_neg e1]; exact h2⟩
  · rw [hg] at h
    by_cases e : i = d
    · rw [e]; exact hs
    · rw [if_neg e] at h; exact s.key i b' h
/-- A block's number is let go: nothing that is told names it any more. -/
theorem Sim.drop {K : Kx D} {β F} {F' : Nat → Prop} {fr : Tr (V D.S)} {hp : Tr (B D.S)} {a : Act} {w : World} (s : Sim K β F fr hp a w) {d : Nat} (hs : d < 65535) (f : C D.S → C D.S)
    (hF : ∀ b, F b → F' b) (hF' : ∀ b, F' b → b < w.heap.size) (hsep : ∀ i b L, i ≠ d → hp.get i = some b → β i = some L → ¬ F' L.b)
    (hr : ∀ L, (d, L) ∉ K.refs) (hfs : ∀ b, F' b → K.F0 b ∨ K.w0.heap.size ≤ b)
    (H : ∀ c v, RC D w F hp.get β c v → RC D w F' (hp.set depth d none).get β (f c) v) :
    Sim K β F' (fr.map (mapV f)) ((hp.set depth d none).map (mapB f)) a w := by
  have hg : ∀ i, (hp.set depth d none).get i = if i = d then none else hp.get i := fun i => Tr.get_set _ _ _ _ _ (by rw [depth_ok]; omega)
  have hg' : ∀ i, ((hp.set depth d none).map (mapB f)).get i = ((hp.set depth d none).get i).map (mapB f) := fun i => Tr.get_map _ _ _
  have hk : ∀ c v, RC D w F' (hp.set depth d none).get β c v → RC D w F' ((hp.set depth d none).map (mapB f)).get β c v := fun c v => RC.trans (fun b hb => ⟨hb, rfl⟩) fun id h => by
    refine ⟨rfl, fun cs hc => ⟨cs.map f, by rw [hg', hc]; rfl⟩, fun t l hl => ⟨l, by rw [hg', hl]; rfl, rfl⟩⟩
  have H' : ∀ c v, RC D w F hp.get β c v → RC D w F' ((hp.set depth d none).map (mapB f)).get β (f c) v := fun c v r => hk _ _ (H c v r)
  have un : ∀ i b, ((hp.set depth d none).map (mapB f)).get i = some b → i ≠ d ∧ ∃ b0, hp.get i = some b0 ∧ mapB f b0 = b := fun i b h => by
    rw [hg', hg] at h
    by_cases e : i = d
    · rw [if_pos e] at h; cases h
    · rw [if_neg e] at h
      obtain ⟨b0, h0, rfl⟩ := Option.map_eq_some_iff.mp h
      exact ⟨e, b0, h0, rfl⟩
  refine ⟨s.sz, s.df, fun i v h => ?_, fun i b h => ?_, fun i j b1 b2 L1 L2 h1 h2 h3 h4 e => ?_, fun i b L1 h1 h2 => ?_, hF', s.keep, fun i b L1 h1 h2 => ?_, hfs, s.w0, fun i L1 h => ?_, fun i b h => ?_⟩
  · rw [Tr.get_map] at h
    obtain ⟨v0, h0, rfl⟩ := Option.map_eq_some_iff.mp h
    exact RV.map f H' (s.frm i v0 h0)
  · obtain ⟨e, b0, h0, rfl⟩ := un i b h
    have r := s.blk i b0 h0
    cases b0 with
    | box cs =>
      obtain ⟨L1, vs, t, r1, r2, r3, r4, r5⟩ := r
      exact ⟨L1, vs, t, r1, r2, r3, r4, RL.map f H' r5⟩
    | arr t l =>
      rcases r with r | ⟨L1, vs, e', r1, r2, r3, r4, r5⟩
      · exact .inl r
      · refine .inr ⟨L1, vs, e', r1, r2, r3, r4, fun i hi j x hx => ?_⟩
        obtain ⟨v, hv, rv⟩ := r5 i hi j x hx
        exact ⟨v, hv, RP.mono D (fun b hb => ⟨hF b hb, rfl⟩) rv⟩
  · obtain ⟨_, c1, g1, _⟩ := un i b1 h1
    obtain ⟨_, c2, g2, _⟩ := un j b2 h2
    exact s.inj i j c1 c2 L1 L2 g1 g2 h3 h4 e
  · obtain ⟨e, c1, g1, _⟩ := un i b h1
    exact ⟨hsep i c1 L1 e g1 h2, (s.sep i c1 L1 g1 h2).2⟩
  · obtain ⟨e, c1, g1, _⟩ := un i b h1
    exact s.gsep i c1 L1 g1 h2
  · obtain ⟨h1, cs, h2⟩ := s.refs i L1 h
    have e : i ≠ d := fun e => hr L1 (e ▸ h)
    exact ⟨h1, cs.map f, by rw [hg', hg, if_neg e, h2]; rfl⟩
  · obtain ⟨_, c1, g1, _⟩ := un i b h
    exact s.key i c1 g1
end
end Go.Proofs.Ytkpjeihgigmnkaa.Ev
/- Values without memory: each operation that is told does in memory what is told of it (reading and reckoning). -/
namespace Go.Proofs.Ytkpjeihgigmnkaa.Ev
open Go
set_option linter.unusedVariables false
set_option linter.unusedSimpArgs false

/-! ### what is known of a type is so -/
def valOf {S : Nat → Type} : C S → Option Value
  | .int k n => some (.int k n)
  | .bool b => some (.bool b)
  | .str s => some (.string s)
  | .nilp => some (.pointer none)
  | .nils => some (.slice none 0 0)
  | .nili => some .nilIface
  | .nilf => some .nilFunc
  | _ => none
def aggOf (P : Program) (t : TypeId) : Bool := match P.underlying t with | some (.struct _) => true | some (.array _ _) => true | _ => false
def descOk (P : Program) (t : TypeId) : TD → Prop
  | .int k => P.underlying t = some (.int k)
  | .bool => P.underlying t = some .bool
  | .str => P.underlying t = some .string
  | .struct fs => ∃ fl, P.underlying t = some (.struct fl) ∧ fs = fl.toList.map fun f => (f.offset, P.cellsOf f.type, aggOf P f.type)
  | .array len esz g => ∃ e, P.underlying t = some (.array len e) ∧ (P.info? e).isSome ∧ P.cellsOf e = esz ∧ aggOf P e = g ∧ 0 < esz
  | .slice e => P.underlying t = some (.slice e)
  | .ptr e => P.underlying t = some (.pointer e)
  | .iface => ∃ ms, P.underlying t = some (.interface ms)
  | .func => ∃ ps rs v, P.underlying t = some (.func ps rs v)
  | .other => True
/-- The kinds of a type's cells, where two of its values may be compared cell by cell. -/
def kindsF (P : Program) (rec : TypeId → Option (List TD)) : List Field → Nat → Option (List TD)
  | [], _ => some []
  | f :: fs, off => if f.name != "_" && f.offset == off && decide (0 < P.cellsOf f.type) && (P.underlying f.type).isSome then
      match rec f.type, kindsF P rec fs (off + P.cellsOf f.type) with
      | some k1, some k2 => if k1.length = P.cellsOf f.type then some (k1 ++ k2) else none
      | _, _ => none
    else none
def kindsT (P : Program) : Nat → TypeId → Option (List TD)
  | 0, _ => none
  | m + 1, t => match P.underlying t with
    | some .bool => some [.bool]
    | some (.int k) => some [.int k]
    | some .string => some [.str]
    | some (.struct fs) => if P.stoodInHeld t then none else kindsF P (kindsT P m) fs.toList 0
    | some (.array len e) => match kindsT P m e with
      | some ks => if ks.length = P.cellsOf e ∧ 0 < P.cellsOf e ∧ (P.underlying e).isSome = true then some (List.replicate len ks).flatten else none
      | none => none
    | _ => none
structure TiOk (D : Tys) (P : Program) (t : TypeId) (i : TI D.S) : Prop where
  info : ∃ j, P.info? t = some j ∧ j.size = i.size ∧ j.bytes = i.bytes ∧ ∃ z, j.zero = some z ∧ z.cells.toList.map some = i.zero.map valOf ∧ (i.agg = true → z = .agg z.cells)
  desc : descOk P t i.d
  agg : aggOf P t = i.agg
  pos : 0 < i.size
  und : (P.underlying t).isSome
  byt : 0 < i.bytes
  zlen : i.zero.length = i.size
  eqk : i.eqk = [] ∨ ∃ m, m ≤ 10000 ∧ kindsT P m t = some i.eqk ∧ P.eqGuardType P.depth t = false ∧ aggOf P t = true
  ty : ∀ τ, i.ty = some τ → size D τ = i.size ∧ isAgg τ = i.agg
  fld : ∀ fs, i.d = .struct fs → ∀ x ∈ fs, 0 < x.2.1 ∧ x.1 + x.2.1 ≤ i.size
  fund : ∀ fl (fd : Field) (f : Nat), P.underlying t = some (.struct fl) → fl[f]? = some fd → (P.underlying fd.type).isSome
  aund : ∀ n e, P.underlying t = some (.array n e) → (P.underlying e).isSome
/-- One cell's word says at least what another's says. -/
def Cle {D : Tys} (c c' : C D.S) : Prop := ∀ w F v, RP D w F c v → RP D w F c' v
/-- One cell's word is another's, but that a row of nothing is told as such. -/
def Ceq {D : Tys} (c c' : C D.S) : Prop := c' = c ∨ ((c = .nils ∨ c = .emp) ∧ ∃ t, c' = .lst t [])
theorem Ceq.rfl' {D : Tys} (c : C D.S) : Ceq c c := .inl rfl
theorem Ceq.le {D : Tys} {c c' : C D.S} (h : Ceq c c') : Cle c c' := fun w F v r => by
  rcases h with rfl | ⟨rfl | rfl, t, rfl⟩
  · exact r
  · cases r; exact .lst0 _ _ _ (fun _ => rfl)
  · cases r; exact .lst0 _ _ _ (fun h => by cases h)
def CQ {D : Tys} (cs cs' : List (C D.S)) : Prop := cs.length = cs'.length ∧ ∀ (i : Nat) c c', cs[i]? = some c → cs'[i]? = some c' → Ceq c c'
theorem CQ.rfl' {D : Tys} (cs : List (C D.S)) : CQ cs cs := ⟨rfl, fun i c c' h h' => by rw [h] at h'; obtain rfl := Option.some.inj h'; exact Ceq.rfl' c⟩
structure Lawful (D : Tys) (P : Program) : Prop where
  len : ∀ n x, (D.enc n x).length = D.siz n
  dec : ∀ n cs x, D.dec n cs = some x → cs.length = D.siz n ∧ ∀ (j : Nat) c c', cs[j]? = some c → (D.enc n x)[j]? = some c' → Ceq c c'
  pure : ∀ n x c, c ∈ D.enc n x → ∀ w F h β v, RC D w F h β c v ↔ RP D w F c v
  ti : ∀ t i, (t, i) ∈ D.ti → TiOk D P t i
  mixed : P.follows .mixedOrders = true

section
variable {D : Tys} {P : Program}
theorem encL_len (lw : Lawful D P) (t : Ty) (x : T D.S t) : (encL D t x).length = size D t := by
  cases t with
  | st n => exact lw.len n x
  | ptr t => cases x <;> rfl
  | _ => rfl
theorem encL_pure (lw : Lawful D P) (t : Ty) (x : T D.S t) (c : C D.S) (h : c ∈ encL D t x) (w F h' β v) : RC D w F h' β c v ↔ RP D w F c v := by
  cases t with
  | st n => exact lw.pure n x c h w F h' β v
  | int k => simp only [encL, List.mem_singleton] at h; subst h; exact Iff.rfl
  | bool => simp only [encL, List.mem_singleton] at h; subst h; exact Iff.rfl
  | str => simp only [encL, List.mem_singleton] at h; subst h; exact Iff.rfl
  | sl t => simp only [encL, List.mem_singleton] at h; subst h; exact Iff.rfl
  | ptr t => cases x <;> (simp only [encL, List.mem_singleton] at h; subst h; exact Iff.rfl)
theorem encA_cells (t : Ty) (x : T D.S t) : (encA D t x).cells = encL D t x := by cases t <;> first | rfl | (cases x <;> rfl)

theorem valOf_RP {w F} {c : C D.S} {v : Value} (e : valOf c = some v) : RP D w F c v := by
  cases c <;> simp only [valOf, Option.some.injEq, reduceCtorEq] at e <;> subst e
  · exact .int _ _
  · exact .bool _
  · exact .str _
  · exact .nilp
  · exact .nils
  · exact .nili
  · exact .nilf
theorem valOf_RC {w F h β} {c : C D.S} {v : Value} (e : valOf c = some v) : RC D w F h β c v := by
  cases c <;> simp only [valOf, Option.some.injEq, reduceCtorEq] at e <;> subst e
  · exact .int _ _
  · exact .bool _
  · exact .str _
  · exact .nilp
  · exact .nils
  · exact .nili
  · exact .nilf
theorem ofVal_RC {w F h β} {v : Value} {c : C D.S} (e : ofVal v = some c) : RC D w F h β c v := by
  unfold ofVal at e
  split at e
  case h_8 f first captured =>
    split at e
    · rename_i h1 h2
      obtain rfl := Option.some.inj e
      obtain rfl : first = #[] := Array.toList_inj.mp h1
      obtain rfl : captured = #[] := Array.toList_inj.mp h2
      exact ⟨rfl, fun i hi => by cases hi⟩
    · cases e
  all_goals (simp only [Option.some.injEq, reduceCtorEq] at e; try subst e)
  · exact .int _ _
  · exact .bool _
  · exact .str _
  · exact .nilp
  · exact .nils
  · exact .nili
  · exact .nilf
theorem ofVals_RL {w F h β} : ∀ {vs : List Value} {cs : List (C D.S)}, ofVals vs = some cs → RL D w F h β cs vs
  | [], cs, e => by simp only [ofVals, Option.some.injEq] at e; subst e; exact ⟨rfl, fun j x v hx => by simp at hx⟩
  | v :: vs, cs, e => by
    simp only [ofVals] at e
    split at e
    · rename_i c hc
      split at e
      · rename_i r hr
        obtain rfl := Option.some.inj e
        have ih := ofVals_RL (w := w) (F := F) (h := h) (β := β) hr
        refine ⟨by simp [ih.1], fun j x v' hx hv => ?_⟩
        cases j with
        | zero => simp at hx hv; subst hx; subst hv; exact ofVal_RC hc
        | succ j => simp at hx hv; exact ih.2 j x v' hx hv
      · cases e
    · cases e
theorem ofValue_RA {w F h β} {v : Value} {x : A D.S} (e : ofValue v = some x) : RA D w F h β x v := by
  unfold ofValue at e
  split at e
  · rename_i cs
    split at e
    · rename_i l hl
      obtain rfl := Option.some.inj e
      exact ⟨cs, rfl, ofVals_RL hl⟩
    · cases e
  · split at e
    · rename_i c hc
      obtain rfl := Option.some.inj e
      exact ofVal_RC hc
    · cases e
theorem ev_ok {K β F} {fr : Tr (V D.S)} {hp : Tr (B D.S)} {a : Act} {w : World} (s : Sim K β F fr hp a w) {x : Operand} {v : V D.S} (e : ev fr x = some v) : RV D w F hp.get β v (a.eval x) := by
  cases x with
  | tmp t => exact s.frm t v e
  | const c =>
    simp only [ev] at e
    split at e
    · rename_i y hy
      obtain rfl := Option.some.inj e
      exact ofValue_RA hy
    · cases e
  | func f =>
    simp only [ev, Option.some.injEq] at e
    subst e
    exact ⟨rfl, fun i hi => by cases hi⟩
  | global g => cases e
theorem evA_ok {K β F} {fr : Tr (V D.S)} {hp : Tr (B D.S)} {a : Act} {w : World} (s : Sim K β F fr hp a w) {x : Operand} {v : A D.S} (e : evA fr x = some v) : RA D w F hp.get β v (a.eval x) := by
  unfold evA at e
  split at e
  · rename_i y hy
    obtain rfl := Option.some.inj e
    exact ev_ok s hy
  · cases e
theorem evC_ok {K β F} {fr : Tr (V D.S)} {hp : Tr (B D.S)} {a : Act} {w : World} (s : Sim K β F fr hp a w) {x : Operand} {v : C D.S} (e : evC fr x = some v) : RC D w F hp.get β v (a.eval x) := by
  unfold evC at e
  split at e
  · rename_i y hy
    obtain rfl := Option.some.inj e
    exact ev_ok s hy
  · cases e
theorem RA.cells_len {w F h β} {x : A D.S} {v : Value} (r : RA D w F h β x v) (hv : ∀ c, x = .c c → v.cells = #[v]) : RL D w F h β x.cells v.cells.toList := by
  cases x with
  | c x =>
    rw [hv x rfl]
    refine ⟨rfl, fun j y u hy hu => ?_⟩
    cases j with
    | zero => simp [A.cells] at hy hu; subst hy; subst hu; exact r
    | succ j => simp [A.cells] at hy
  | agg cs => obtain ⟨vs, rfl, r⟩ := r; exact r
/-- What a cell holds is no row of cells. -/
theorem RP.one {w F} {c : C D.S} {v : Value} (r : RP D w F c v) : v.oneCell' = true ∧ v.cells = #[v] := by cases r <;> exact ⟨rfl, rfl⟩
theorem RC.one {w F h β} {c : C D.S} {v : Value} (r : RC D w F h β c v) (hc : c ≠ .any) : v.oneCell' = true ∧ v.cells = #[v] := by
  cases c with
  | any => exact absurd rfl hc
  | own id => obtain ⟨t, l, _, ⟨_, _, a, rfl⟩ | ⟨L, cap, _, _, _, rfl⟩⟩ := r <;> exact ⟨rfl, rfl⟩
  | part id off n => obtain ⟨t, l, _, _, ⟨_, a, rfl⟩ | ⟨L, cap, _, _, _, rfl | ⟨_, a, rfl⟩⟩⟩ := r <;> exact ⟨rfl, rfl⟩
  | ptr id off => obtain ⟨_, L, _, _, rfl⟩ := r; exact ⟨rfl, rfl⟩
  | eptr id e off => obtain ⟨_, _, L, _, _, _, rfl⟩ := r; exact ⟨rfl, rfl⟩
  | fn f caps => obtain ⟨rfl, _⟩ := r; exact ⟨rfl, rfl⟩
  | int k n => exact RP.one r
  | bool b => exact RP.one r
  | str s => exact RP.one r
  | nilp => exact RP.one r
  | nils => exact RP.one r
  | emp => exact RP.one r
  | lst t l => exact RP.one r
  | fptr t l i o => exact RP.one r
  | nili => exact RP.one r
  | err t k n => exact RP.one r
  | nilf => exact RP.one r

/-! ### lists of cells -/
theorem dropS_eq {S : Nat → Type} : ∀ {n : Nat} {l r : List (C S)}, dropS n l = some r → r = l.drop n ∧ n ≤ l.length
  | 0, l, r, h => by simp only [dropS, Option.some.injEq] at h; subst h; simp
  | n + 1, [], r, h => by cases h
  | n + 1, x :: l, r, h => by
    have := dropS_eq (n := n) h
    exact ⟨this.1, by simp only [List.length_cons]; omega⟩
theorem takeS_eq {S : Nat → Type} : ∀ {n : Nat} {l r : List (C S)}, takeS n l = some r → r = l.take n ∧ n ≤ l.length
  | 0, l, r, h => by simp only [takeS, Option.some.injEq] at h; subst h; simp
  | n + 1, [], r, h => by cases h
  | n + 1, x :: l, r, h => by
    simp only [takeS] at h
    split at h
    · rename_i r' hr
      obtain rfl := Option.some.inj h
      have := takeS_eq (n := n) hr
      exact ⟨by rw [this.1]; rfl, by simp only [List.length_cons]; omega⟩
    · cases h
theorem subS_eq {S : Nat → Type} {off n : Nat} {l r : List (C S)} (h : subS off n l = some r) : r = (l.drop off).take n ∧ off + n ≤ l.length := by
  unfold subS at h
  split at h
  · rename_i l' hl
    have h1 := dropS_eq hl
    have h2 := takeS_eq h
    obtain ⟨rfl, h1⟩ := h1
    refine ⟨h2.1, ?_⟩
    have := h2.2
    rw [List.length_drop] at this
    omega
  · cases h
theorem subS_at {S : Nat → Type} {off n : Nat} {l r : List (C S)} (h : subS off n l = some r) (j : Nat) (hj : j < n) : r[j]? = l[off + j]? := by
  rw [(subS_eq h).1, List.getElem?_take_of_lt hj, List.getElem?_drop]
theorem overS_eq {S : Nat → Type} : ∀ {xs l r : List (C S)}, overS xs l = some r → r = xs ++ l.drop xs.length ∧ xs.length ≤ l.length
  | [], l, r, h => by simp only [overS, Option.some.injEq] at h; subst h; simp
  | x :: xs, [], r, h => by cases h
  | x :: xs, y :: l, r, h => by
    simp only [overS] at h
    split at h
    · rename_i r' hr
      obtain rfl := Option.some.inj h
      have := overS_eq hr
      exact ⟨by rw [this.1]; rfl, by simp only [List.length_cons]; omega⟩
    · cases h
theorem putS_eq {S : Nat → Type} : ∀ {n : Nat} {xs l r : List (C S)}, putS n xs l = some r → r = l.take n ++ xs ++ l.drop (n + xs.length) ∧ n + xs.length ≤ l.length
  | 0, xs, l, r, h => by have := overS_eq h; exact ⟨by rw [this.1]; simp, by omega⟩
  | n + 1, xs, [], r, h => by cases h
  | n + 1, xs, y :: l, r, h => by
    simp only [putS] at h
    split at h
    · rename_i r' hr
      obtain rfl := Option.some.inj h
      have := putS_eq hr
      refine ⟨?_, by simp only [List.length_cons]; omega⟩
      rw [this.1, show n + 1 + xs.length = (n + xs.length) + 1 by omega]
      rfl
    · cases h
theorem putS_len {S : Nat → Type} {n : Nat} {xs l r : List (C S)} (h : putS n xs l = some r) : r.length = l.length := by
  have := putS_eq h
  rw [this.1]; simp; omega
theorem putS_in {S : Nat → Type} {n : Nat} {xs l r : List (C S)} (h : putS n xs l = some r) (j : Nat) (hj : j < xs.length) : r[n + j]? = xs[j]? := by
  obtain ⟨rfl, hl⟩ := putS_eq h
  rw [List.append_assoc, List.getElem?_append_right (by simp; omega), List.getElem?_append_left (by simp; omega)]
  congr 1
  simp; omega
theorem putS_out {S : Nat → Type} {n : Nat} {xs l r : List (C S)} (h : putS n xs l = some r) (j : Nat) (hj : j < n ∨ n + xs.length ≤ j) : r[j]? = l[j]? := by
  obtain ⟨rfl, hl⟩ := putS_eq h
  rcases hj with hj | hj
  · rw [List.append_assoc, List.getElem?_append_left (by simp; omega), List.getElem?_take_of_lt hj]
  · rw [List.getElem?_append_right (by simp; omega), List.getElem?_drop]
    congr 1
    simp; omega
theorem mkA_eq {S : Nat → Type} {g : Bool} {cs : List (C S)} {x : A S} (h : mkA g cs = some x) : x.cells = cs ∧ (g = true → x = .agg cs) ∧ (g = false → ∃ c, cs = [c] ∧ x = .c c) := by
  unfold mkA at h
  split at h
  · obtain rfl := Option.some.inj h; exact ⟨rfl, fun _ => rfl, fun h => by cases h⟩
  · obtain rfl := Option.some.inj h; exact ⟨rfl, fun h => (by cases h), fun _ => ⟨_, rfl, rfl⟩⟩
  · cases h
theorem noAny_ne {S : Nat → Type} : ∀ {cs : List (C S)}, noAny cs = true → ∀ c ∈ cs, c ≠ .any
  | [], _, c, hc => by cases hc
  | x :: l, h, c, hc => by
    cases x
    case any => simp [noAny] at h
    all_goals
      rcases List.mem_cons.mp hc with rfl | hc
      · exact fun e => by cases e
      · exact noAny_ne (cs := l) h c hc

/-! ### reading memory -/
theorem run_isAgg {t : TypeId} (hu : (P.underlying t).isSome) (w : World) : (Go.isAgg t).run P w = .ok (aggOf P t) w := by
  obtain ⟨d, hd⟩ := Option.isSome_iff_exists.mp hu
  unfold aggOf
  rw [hd]
  cases d <;> simp [Go.isAgg, run_underlying hd]
theorem run_sizeOf' {t : TypeId} {j : TypeInfo} (h : P.info? t = some j) (w : World) : (sizeOf t).run P w = .ok j.size w := by simp [sizeOf, typeInfo, h]
/-- What stands in the cells from an address on. -/
def At (w : World) (b o : Nat) (vs : List Value) : Prop := ∀ j v, vs[j]? = some v → w.cell? ⟨b, o + j, none⟩ = some v
theorem At.add {w : World} {b o : Nat} {vs : List Value} (h : At w b o vs) : ∀ j v, vs[j]? = some v → w.cell? ((⟨b, o, none⟩ : Addr).add j) = some v := fun j v hv => by
  rw [Addr.add_lit]; exact h j v hv
theorem run_loadVar {t : TypeId} {j : TypeInfo} (h : P.info? t = some j) (hu : (P.underlying t).isSome) {w : World} {b o : Nat} {vs : List Value} (hl : vs.length = j.size) (hp : 0 < j.size) (ha : At w b o vs) :
    ∃ v, (loadVar t ⟨b, o, none⟩).run P w = .ok v w ∧ (aggOf P t = true → v = .agg vs.toArray) ∧ (aggOf P t = false → vs[0]? = some v) := by
  have h1 := run_isAgg (P := P) hu w
  have h2 := run_loadCells_list (P := P) w ⟨b, o, none⟩ vs ha.add
  rw [hl] at h2
  cases hg : aggOf P t
  · have h0 : 0 < vs.length := by omega
    have h3 := ha 0 _ (List.getElem?_eq_getElem h0)
    refine ⟨vs[0], ?_, (fun e => by cases e), fun _ => List.getElem?_eq_getElem h0⟩
    rw [hg] at h1
    simp only [Nat.add_zero] at h3
    simp [loadVar, h1, load, Sem.run, h3]
  · refine ⟨.agg vs.toArray, ?_, (fun _ => rfl), fun e => by cases e⟩
    rw [hg] at h1
    simp [loadVar, h1, run_sizeOf' h, h2]
end
end Go.Proofs.Ytkpjeihgigmnkaa.Ev
/- Values without memory: loads and stores. -/
namespace Go.Proofs.Ytkpjeihgigmnkaa.Ev
open Go
set_option linter.unusedVariables false
set_option linter.unusedSimpArgs false
section
variable {D : Tys} {P : Program}
theorem cell_of {w : World} {b : Nat} {vs : Array Value} {t : TypeId} {z : Nat × Nat} (h : w.heap[b]? = some (.cells vs t z)) (o : Nat) : w.cell? ⟨b, o, none⟩ = vs[o]? := by
  simp [World.cell?, h]
/-- Cells, side by side: n of them, from an address on. -/
def Side (w : World) (F : Nat → Prop) (h : Hp D) (β : Nat → Option Loc) (b o : Nat) (cs : List (C D.S)) : Prop :=
  ∀ (j : Nat) x, cs[j]? = some x → ∃ v, w.cell? ⟨b, o + j, none⟩ = some v ∧ RC D w F h β x v
theorem Side.sub {w F h β b o} {cs l : List (C D.S)} {off n : Nat} (hs : Side w F h β b o cs) (e : subS off n cs = some l) :
    ∃ vs, vs.length = n ∧ At w b (o + off) vs ∧ RL D w F h β l vs := by
  have e1 := subS_eq e
  have hl : l.length = n := by rw [e1.1, List.length_take, List.length_drop]; omega
  refine ⟨(List.range n).map fun j => (w.cell? ⟨b, o + off + j, none⟩).getD undef, by simp, fun j v hv => ?_, by simp [hl], fun j x v hx hv => ?_⟩
  · rw [List.getElem?_map] at hv
    obtain ⟨k, hk, rfl⟩ := Option.map_eq_some_iff.mp hv
    have hj : j < n := by
      have := (List.getElem?_eq_some_iff.mp hk).1
      simpa using this
    rw [List.getElem?_range hj, Option.some.injEq] at hk
    subst hk
    obtain ⟨v, hv, _⟩ := hs (off + j) _ (List.getElem?_eq_getElem (by omega))
    rw [← Nat.add_assoc] at hv
    rw [hv]
    rfl
  · have hj : j < n := by
      have := (List.getElem?_eq_some_iff.mp hx).1
      omega
    rw [subS_at e j hj] at hx
    obtain ⟨v', hv', r⟩ := hs (off + j) x hx
    rw [← Nat.add_assoc] at hv'
    rw [List.getElem?_map, List.getElem?_range hj] at hv
    simp only [Option.map_some, Option.some.injEq] at hv
    rw [hv'] at hv
    simp only [Option.getD_some] at hv
    subst hv
    exact r
theorem Side.load {w F h β b o} {cs l : List (C D.S)} {t : TypeId} {ti : TI D.S} {off : Nat} {x : A D.S} (hs : Side w F h β b o cs) (e : subS off ti.size cs = some l) (hm : mkA ti.agg l = some x)
    (ok : TiOk D P t ti) : ∃ cv, (loadVar t ⟨b, o + off, none⟩).run P w = .ok cv w ∧ RA D w F h β x cv := by
  obtain ⟨vs, hl, ha, hr⟩ := hs.sub e
  obtain ⟨j, hj, hz, _⟩ := ok.info
  obtain ⟨v, hv, g1, g2⟩ := run_loadVar (P := P) hj ok.und (by rw [hz]; exact hl) (by rw [hz]; exact ok.pos) ha
  refine ⟨v, hv, ?_⟩
  obtain ⟨_, m1, m2⟩ := mkA_eq hm
  rw [ok.agg] at g1 g2
  cases hg : ti.agg
  · obtain ⟨c, rfl, rfl⟩ := m2 hg
    exact hr.2 0 c v rfl (g2 hg)
  · obtain rfl := m1 hg
    exact ⟨vs.toArray, g1 hg, hr⟩
theorem side_box {K β F} {fr : Tr (V D.S)} {hp : Tr (B D.S)} {a : Act} {w : World} (s : Sim K β F fr hp a w) {id : Nat} {cs : List (C D.S)} {L : Loc} (h : hp.get id = some (.box cs)) (hL : β id = some L) :
    Side w F hp.get β L.b L.o cs := by
  obtain ⟨L', vs, t, h1, h2, h3, h4, h5⟩ := s.blk id _ h
  rw [hL] at h1
  obtain rfl := Option.some.inj h1
  intro j x hx
  have hj : j < vs.toList.length := by rw [← h5.1]; exact (List.getElem?_eq_some_iff.mp hx).1
  refine ⟨vs.toList[j], ?_, h5.2 j x _ hx (List.getElem?_eq_getElem hj)⟩
  rw [cell_of h2, h3, Nat.zero_add, ← Array.getElem?_toList]
  exact List.getElem?_eq_getElem hj
theorem side_arr (lw : Lawful D P) {K β F} {fr : Tr (V D.S)} {hp : Tr (B D.S)} {a : Act} {w : World} (s : Sim K β F fr hp a w) {id : Nat} {t : Ty} {l : List (T D.S t)} {L : Loc} (h : hp.get id = some (.arr t l)) (hL : β id = some L)
    {e : Nat} (he : e < l.length) : Side w F hp.get β L.b (L.o + e * size D t) (encL D t (getT D t l e)) := by
  rcases s.blk id _ h with ⟨h1, _⟩ | ⟨L', vs, t', h1, h2, h3, h4, h5⟩
  · rw [hL] at h1; cases h1
  rw [hL] at h1
  obtain rfl := Option.some.inj h1
  intro j x hx
  have eg : getT D t l e = l[e] := by unfold getT; rw [List.getD_eq_getElem?_getD, List.getElem?_eq_getElem he]; rfl
  rw [eg] at hx
  obtain ⟨v, hv, r⟩ := h5 e he j x hx
  exact ⟨v, by rw [cell_of h2]; exact hv, (encL_pure lw t _ x (List.mem_of_getElem? hx) _ _ _ _ _).mpr r⟩
theorem loadA_ok (lw : Lawful D P) {K β F} {fr : Tr (V D.S)} {hp : Tr (B D.S)} {a : Act} {w : World} (s : Sim K β F fr hp a w) {t : TypeId} {ti : TI D.S} {c : C D.S} {v : Value} {x : A D.S}
    (ok : TiOk D P t ti) (r : RC D w F hp.get β c v) (e : loadA D hp ti c = some x) : ∃ cv, (Instr.loadAt t v).run P w = .ok cv w ∧ RA D w F hp.get β x cv := by
  unfold loadA at e
  split at e
  · rename_i id off
    split at e
    · rename_i cs hcs
      split at e
      · rename_i l hl
        obtain ⟨cs', L, h1, h2, rfl⟩ := r
        rw [hcs] at h1
        obtain rfl : cs = cs' := by injection h1 with h1; injection h1
        obtain ⟨cv, g1, g2⟩ := (side_box s hcs h2).load hl e ok
        exact ⟨cv, by simp only [Instr.loadAt, Instr.sureAddr]; exact g1, g2⟩
      · cases e
    · cases e
  · rename_i id e' off
    split at e
    · rename_i t' l' hl'
      split at e
      · rename_i l hl
        obtain ⟨t2, l2, L, h1, h2, h3, rfl⟩ := r
        rw [hl'] at h1
        injection h1 with h1
        injection h1 with h4 h5
        subst h4
        obtain rfl := eq_of_heq h5
        obtain ⟨cv, g1, g2⟩ := (side_arr lw s hl' h2 h3).load hl e ok
        exact ⟨cv, by simp only [Instr.loadAt, Instr.sureAddr]; exact g1, g2⟩
      · cases e
    · cases e
  · rename_i t' l' e' off
    split at e
    · rename_i l hl
      cases r with
      | fptr _ _ _ _ b o f hb he hf hr =>
        have hs : Side w F hp.get β b (o + e' * size D t') (encL D t' (getT D t' l' e')) := fun j x hx => by
          have eg : getT D t' l' e' = l'[e'] := by unfold getT; rw [List.getD_eq_getElem?_getD, List.getElem?_eq_getElem he]; rfl
          rw [eg] at hx
          have hj : j < size D t' := by rw [← encL_len lw t' l'[e']]; exact (List.getElem?_eq_some_iff.mp hx).1
          exact ⟨f e' j, hf e' j he hj, (encL_pure lw t' _ x (List.mem_of_getElem? hx) _ _ _ _ _).mpr (hr e' he j x hx)⟩
        obtain ⟨cv, g1, g2⟩ := hs.load hl e ok
        exact ⟨cv, by simp only [Instr.loadAt, Instr.sureAddr]; exact g1, g2⟩
    · cases e
  · cases e

/-! ### stores -/
/-- The cells of a block are written from o on. -/
def putV (vs : Array Value) (o : Nat) (xs : List Value) : Array Value := (vs.toList.take o ++ xs ++ vs.toList.drop (o + xs.length)).toArray
theorem putV_size {vs : Array Value} {o : Nat} {xs : List Value} (h : o + xs.length ≤ vs.size) : (putV vs o xs).size = vs.size := by
  simp [putV]; omega
theorem putV_in {vs : Array Value} {o : Nat} {xs : List Value} (h : o + xs.length ≤ vs.size) (j : Nat) (hj : j < xs.length) : (putV vs o xs)[o + j]? = xs[j]? := by
  have hz : vs.toList.length = vs.size := Array.length_toList
  unfold putV
  rw [List.getElem?_toArray, List.append_assoc, List.getElem?_append_right (by rw [List.length_take]; omega), List.getElem?_append_left (by rw [List.length_take]; omega)]
  congr 1
  rw [List.length_take]; omega
theorem putV_out {vs : Array Value} {o : Nat} {xs : List Value} (h : o + xs.length ≤ vs.size) (j : Nat) (hj : j < o ∨ o + xs.length ≤ j) : (putV vs o xs)[j]? = vs[j]? := by
  have hz : vs.toList.length = vs.size := Array.length_toList
  unfold putV
  rw [List.getElem?_toArray, ← Array.getElem?_toList]
  rcases hj with hj | hj
  · rw [List.append_assoc, List.getElem?_append_left (by rw [List.length_take]; omega), List.getElem?_take_of_lt hj]
  · rw [List.getElem?_append_right (by rw [List.length_append, List.length_take]; omega), List.getElem?_drop]
    congr 1
    rw [List.length_append, List.length_take]; omega
def World.setBlock (w : World) (b : Nat) (o : Obj) : World := { w with heap := w.heap.setIfInBounds b o }
theorem setBlock_at {w : World} {b : Nat} {o : Obj} (h : b < w.heap.size) : (World.setBlock w b o).heap[b]? = some o := by
  simp [World.setBlock, Array.getElem?_setIfInBounds, h]
theorem setBlock_ne {w : World} {b b' : Nat} {o : Obj} (h : b' ≠ b) : (World.setBlock w b o).heap[b']? = w.heap[b']? := by
  simp [World.setBlock, Array.getElem?_setIfInBounds, Ne.symm h]
theorem setCells_block {w : World} {b : Nat} {vs : Array Value} {t : TypeId} {z : Nat × Nat} (h : w.heap[b]? = some (.cells vs t z)) : ∀ (xs : List Value) (o : Nat), o + xs.length ≤ vs.size →
    w.setCells b o xs = World.setBlock w b (.cells (putV vs o xs) t z)
  | [], o, hl => by
    have e : putV vs o [] = vs := by unfold putV; simp
    rw [e]
    have hb : b < w.heap.size := (Array.getElem?_eq_some_iff.mp h).1
    unfold World.setCells World.setBlock
    cases w
    simp only [World.mk.injEq, and_true, true_and]
    simp only [] at h hb
    apply Array.ext_getElem?
    intro i
    rw [Array.getElem?_setIfInBounds]
    split
    · rename_i e; subst e; exact h
    · rfl
  | x :: xs, o, hl => by
    have hb : b < w.heap.size := (Array.getElem?_eq_some_iff.mp h).1
    simp only [List.length_cons] at hl
    have e1 : w.setCell ⟨b, o, none⟩ x = World.setBlock w b (.cells (vs.setIfInBounds o x) t z) := by
      unfold World.setCell World.setBlock
      cases w
      simp only [World.mk.injEq, and_true, true_and]
      simp only [] at h hb
      apply Array.ext_getElem?
      intro i
      rw [Array.getElem?_modify, Array.getElem?_setIfInBounds]
      by_cases e : b = i
      · subst e; rw [if_pos rfl, if_pos rfl, if_pos hb, h]; rfl
      · rw [if_neg e, if_neg e]
    have ih := setCells_block (w := World.setBlock w b (.cells (vs.setIfInBounds o x) t z)) (setBlock_at hb) xs (o + 1) (by simp only [Array.size_setIfInBounds]; omega)
    show (w.setCell ⟨b, o, none⟩ x).setCells b (o + 1) xs = _
    rw [e1, ih]
    have e2 : putV (vs.setIfInBounds o x) (o + 1) xs = putV vs o (x :: xs) := by
      unfold putV
      congr 1
      have ht : (vs.setIfInBounds o x).toList = vs.toList.set o x := Array.toList_setIfInBounds
      have hlt : o < vs.toList.length := by rw [Array.length_toList]; omega
      rw [ht, List.take_succ_eq_append_getElem (by simpa using hlt), List.getElem_set_self, List.take_set_of_le (Nat.le_refl _), List.drop_set_of_lt (by omega)]
      simp only [List.append_assoc, List.singleton_append, List.cons_append, List.nil_append, List.length_cons]
      rw [show o + 1 + xs.length = o + (xs.length + 1) by omega]
    rw [e2]
    unfold World.setBlock
    simp only [World.mk.injEq, and_true, true_and]
    apply Array.ext_getElem?
    intro i
    simp only [Array.getElem?_setIfInBounds, Array.size_setIfInBounds]
    split <;> rfl
/-- A told block's cells are turned, and what is told of it. -/
theorem Sim.setblk {K β F} {fr : Tr (V D.S)} {hp : Tr (B D.S)} {a : Act} {w : World} (s : Sim K β F fr hp a w) {id : Nat} (hid : id < 65535) {b0 b1 : B D.S} {L : Loc} (h : hp.get id = some b0) (hL : β id = some L)
    {vs vs' : Array Value} {t : TypeId} (hv : w.heap[L.b]? = some (.cells vs t (0, 0))) (hz : vs'.size = vs.size)
    (hk : (∀ cs, b0 = .box cs → ∃ cs', b1 = .box cs') ∧ (∀ t l, b0 = .arr t l → ∃ l', b1 = .arr t l' ∧ l'.length = l.length))
    (hb : (∀ c v, RC D w F hp.get β c v → RC D (World.setBlock w L.b (.cells vs' t (0, 0))) F (hp.set depth id (some b1)).get β c v) →
      RB D (World.setBlock w L.b (.cells vs' t (0, 0))) F (hp.set depth id (some b1)).get β id b1) :
    Sim K β F fr (hp.set depth id (some b1)) a (World.setBlock w L.b (.cells vs' t (0, 0))) ∧
      ∀ c v, RC D w F hp.get β c v → RC D (World.setBlock w L.b (.cells vs' t (0, 0))) F (hp.set depth id (some b1)).get β c v := by
  have hlt : L.b < w.heap.size := (Array.getElem?_eq_some_iff.mp hv).1
  have hnF : ¬ F L.b := (s.sep id b0 L h hL).1
  have hg : ∀ i, (hp.set depth id (some b1)).get i = if i = id then some b1 else hp.get i := fun i => Tr.get_set _ _ _ _ _ (by rw [depth_ok]; omega)
  have hF : ∀ b, F b → F b ∧ (World.setBlock w L.b (.cells vs' t (0, 0))).heap[b]? = w.heap[b]? := fun b hb => ⟨hb, setBlock_ne fun e => hnF (e ▸ hb)⟩
  have hR : ∀ c v, RC D w F hp.get β c v → RC D (World.setBlock w L.b (.cells vs' t (0, 0))) F (hp.set depth id (some b1)).get β c v := fun c v => RC.trans hF fun i hi => by
    by_cases e : i = id
    · subst e
      refine ⟨rfl, fun cs hc => ?_, fun t l hl => ?_⟩
      · rw [h] at hc
        obtain ⟨cs', e'⟩ := hk.1 cs (Option.some.inj hc)
        exact ⟨cs', by rw [hg, if_pos rfl, e']⟩
      · rw [h] at hl
        obtain ⟨l', e', g⟩ := hk.2 t l (Option.some.inj hl)
        exact ⟨l', by rw [hg, if_pos rfl, e'], g⟩
    · exact Keep.rfl' (by rw [hg, if_neg e]) rfl
  have hz' : (World.setBlock w L.b (.cells vs' t (0, 0))).heap.size = w.heap.size := by simp [World.setBlock]
  have ex : ∀ i b, (hp.set depth id (some b1)).get i = some b → ∃ b', hp.get i = some b' := fun i b hi => by
    rw [hg] at hi
    by_cases e : i = id
    · exact ⟨b0, e ▸ h⟩
    · rw [if_neg e] at hi; exact ⟨b, hi⟩
  refine ⟨⟨s.sz, s.df, fun i v h => RV.trans hR (s.frm i v h), fun i b hi => ?_, fun i j b b' L1 L2 h1 h2 h3 h4 e => ?_, fun i b L1 h1 h2 => ?_, fun b hb => by rw [hz']; exact s.old b hb,
    fun b hb => (setBlock_ne (show b ≠ L.b from fun e => by rw [e] at hb; exact s.gsep id b0 L h hL hb)).trans (s.keep b hb), fun i b L1 h1 h2 => (by obtain ⟨c1, g1⟩ := ex i b h1; exact s.gsep i c1 L1 g1 h2), s.fsub, ⟨by rw [hz']; exact s.w0.1, s.w0.2⟩, fun i L1 h1 => ?_, fun i b h1 => ?_⟩, hR⟩
  · rw [hg] at hi
    by_cases e : i = id
    · subst e
      rw [if_pos rfl] at hi
      obtain rfl := Option.some.inj hi
      exact hb hR
    · rw [if_neg e] at hi
      have hne : ∀ L1, β i = some L1 → L1.b ≠ L.b := fun L1 h1 e' => e (s.inj i id b b0 L1 L hi h h1 hL e')
      have r := s.blk i b hi
      cases b with
      | box cs =>
        obtain ⟨L1, us, t', r1, r2, r3, r4, r5⟩ := r
        exact ⟨L1, us, t', r1, (setBlock_ne (hne L1 r1)).trans r2, r3, r4, RL.trans hR r5⟩
      | arr t' l =>
        rcases r with r | ⟨L1, us, e', r1, r2, r3, r4, r5⟩
        · exact .inl r
        · refine .inr ⟨L1, us, e', r1, (setBlock_ne (hne L1 r1)).trans r2, r3, r4, fun i hi j x hx => ?_⟩
          obtain ⟨v, hv, rv⟩ := r5 i hi j x hx
          exact ⟨v, hv, RP.mono D hF rv⟩
  · obtain ⟨c1, g1⟩ := ex i b h1
    obtain ⟨c2, g2⟩ := ex j b' h2
    exact s.inj i j c1 c2 L1 L2 g1 g2 h3 h4 e
  · obtain ⟨c1, g1⟩ := ex i b h1
    rw [hz']
    exact s.sep i c1 L1 g1 h2
  · obtain ⟨g1, cs, g2⟩ := s.refs i L1 h1
    refine ⟨g1, ?_⟩
    by_cases e : i = id
    · subst e
      rw [h] at g2
      obtain ⟨cs', e'⟩ := hk.1 cs (Option.some.inj g2)
      exact ⟨cs', by rw [hg, if_pos rfl, e']⟩
    · exact ⟨cs, by rw [hg, if_neg e]; exact g2⟩
  · obtain ⟨c1, g1⟩ := ex i b h1
    exact s.key i c1 g1
theorem RL.one {w F h β} {cs : List (C D.S)} {vs : List Value} (r : RL D w F h β cs vs) (hn : noAny cs = true) : ∀ v ∈ vs, v.oneCell' = true := fun v hv => by
  obtain ⟨j, hj⟩ := List.getElem?_of_mem hv
  have hlt : j < cs.length := by rw [r.1]; exact (List.getElem?_eq_some_iff.mp hj).1
  have hx := List.getElem?_eq_getElem hlt
  exact (RC.one (r.2 j _ v hx hj) (noAny_ne hn _ (List.getElem_mem hlt))).1
theorem RA.cells {w F h β} {x : A D.S} {v : Value} (r : RA D w F h β x v) (hn : noAny x.cells = true) : RL D w F h β x.cells v.cells.toList :=
  r.cells_len fun c e => by subst e; exact (RC.one r (noAny_ne hn c (by simp [A.cells]))).2
theorem run_storeVar {t : TypeId} {j : TypeInfo} (h : P.info? t = some j) {w : World} {b o : Nat} {v : Value} {vs : Array Value} {e : TypeId} (hb : w.heap[b]? = some (.cells vs e (0, 0)))
    (hl : v.cells.size = j.size) (hr : o + j.size ≤ vs.size) (h1 : ∀ u ∈ v.cells.toList, u.oneCell' = true) :
    (storeVar t ⟨b, o, none⟩ v).run P w = .ok () (World.setBlock w b (.cells (putV vs o v.cells.toList) e (0, 0))) := by
  have hs := run_storeCells_cells (P := P) b o v.cells.toList 0 w (fun i hi => by
    rw [cell_of hb, Array.getElem?_eq_getElem (by rw [Array.length_toList] at hi; omega)]; rfl) (fun i hi => by
    simp [World.frozen?, hb]) h1
  rw [setCells_block hb _ _ (by rw [Array.length_toList]; omega)] at hs
  simp only [Nat.add_zero] at hs
  simp [storeVar, run_sizeOf' h, hl, hs]
theorem decC_eq {t : Ty} {c : C D.S} {x : T D.S t} (h : decC D t c = some x) (ht : ∀ n, t ≠ .st n) : ∀ c', (encL D t x)[0]? = some c' → Ceq c c' := by
  intro c' hc'
  unfold decC at h
  split at h
  · split at h
    · rename_i k k' n e
      subst e
      obtain rfl := Option.some.inj h
      obtain rfl := Option.some.inj hc'
      exact .inl rfl
    · cases h
  · obtain rfl := Option.some.inj h
    obtain rfl := Option.some.inj hc'
    exact .inl rfl
  · obtain rfl := Option.some.inj h
    obtain rfl := Option.some.inj hc'
    exact .inl rfl
  · split at h
    · rename_i t' l e' e _
      subst e
      obtain rfl := Option.some.inj h
      obtain rfl := Option.some.inj hc'
      exact .inl rfl
    · cases h
  · obtain rfl := Option.some.inj h
    obtain rfl := Option.some.inj hc'
    exact .inr ⟨by first | exact .inl rfl | exact .inr rfl, _, rfl⟩
  · obtain rfl := Option.some.inj h
    obtain rfl := Option.some.inj hc'
    exact .inr ⟨by first | exact .inl rfl | exact .inr rfl, _, rfl⟩
  · obtain rfl := Option.some.inj h
    obtain rfl := Option.some.inj hc'
    exact .inl rfl
  · split at h
    · split at h
      · rename_i e' e _
        subst e
        obtain rfl := Option.some.inj h
        obtain rfl := Option.some.inj hc'
        exact .inl rfl
      · cases h
    · cases h
  · cases h
theorem decL_eq (lw : Lawful D P) {t : Ty} {cs : List (C D.S)} {x : T D.S t} (h : decL D t cs = some x) : cs.length = size D t ∧ ∀ (j : Nat) c c', cs[j]? = some c → (encL D t x)[j]? = some c' → Ceq c c' := by
  cases t with
  | st n => exact lw.dec n cs x h
  | int k =>
    unfold decL at h
    match cs, h with
    | [c], h =>
      refine ⟨rfl, fun j c1 c2 h1 h2 => ?_⟩
      cases j with
      | zero => obtain rfl := Option.some.inj h1; exact decC_eq h (fun n e => by cases e) c2 h2
      | succ j => simp at h1
  | bool =>
    unfold decL at h
    match cs, h with
    | [c], h =>
      refine ⟨rfl, fun j c1 c2 h1 h2 => ?_⟩
      cases j with
      | zero => obtain rfl := Option.some.inj h1; exact decC_eq h (fun n e => by cases e) c2 h2
      | succ j => simp at h1
  | str =>
    unfold decL at h
    match cs, h with
    | [c], h =>
      refine ⟨rfl, fun j c1 c2 h1 h2 => ?_⟩
      cases j with
      | zero => obtain rfl := Option.some.inj h1; exact decC_eq h (fun n e => by cases e) c2 h2
      | succ j => simp at h1
  | sl t =>
    unfold decL at h
    match cs, h with
    | [c], h =>
      refine ⟨rfl, fun j c1 c2 h1 h2 => ?_⟩
      cases j with
      | zero => obtain rfl := Option.some.inj h1; exact decC_eq h (fun n e => by cases e) c2 h2
      | succ j => simp at h1
  | ptr t =>
    unfold decL at h
    match cs, h with
    | [c], h =>
      refine ⟨rfl, fun j c1 c2 h1 h2 => ?_⟩
      cases j with
      | zero => obtain rfl := Option.some.inj h1; exact decC_eq h (fun n e => by cases e) c2 h2
      | succ j => simp at h1
theorem decC_le {t : Ty} {c : C D.S} {x : T D.S t} (h : decC D t c = some x) (ht : ∀ n, t ≠ .st n) : ∀ c', (encL D t x)[0]? = some c' → Cle c c' := fun c' hc => (decC_eq h ht c' hc).le
theorem decL_le (lw : Lawful D P) {t : Ty} {cs : List (C D.S)} {x : T D.S t} (h : decL D t cs = some x) : cs.length = size D t ∧ ∀ (j : Nat) c c', cs[j]? = some c → (encL D t x)[j]? = some c' → Cle c c' :=
  ⟨(decL_eq lw h).1, fun j c c' h1 h2 => ((decL_eq lw h).2 j c c' h1 h2).le⟩
theorem decL_cq (lw : Lawful D P) {t : Ty} {cs : List (C D.S)} {x : T D.S t} (h : decL D t cs = some x) : CQ cs (encL D t x) := ⟨(decL_eq lw h).1.trans (encL_len lw t x).symm, (decL_eq lw h).2⟩
end
end Go.Proofs.Ytkpjeihgigmnkaa.Ev
/- Values without memory: what is own is told by value, or let go; rows that are made. -/
namespace Go.Proofs.Ytkpjeihgigmnkaa.Ev
open Go
set_option linter.unusedVariables false
set_option linter.unusedSimpArgs false
section
variable {D : Tys} {P : Program}
def frzF (id : Nat) (t : Ty) (l : List (T D.S t)) : C D.S → C D.S
  | .own i => if i = id then .lst t l else .own i
  | .part i off n => if i = id then .lst t ((l.drop off).take n) else .part i off n
  | .eptr i e off => if i = id then .fptr t l e off else .eptr i e off
  | .ptr i off => if i = id then .any else .ptr i off
  | c => c
def killF (id : Nat) : C D.S → C D.S
  | .own i => if i = id then .any else .own i
  | .part i off n => if i = id then .any else .part i off n
  | .eptr i e off => if i = id then .any else .eptr i e off
  | .ptr i off => if i = id then .any else .ptr i off
  | .fn f caps => if id ∈ caps then .any else .fn f caps
  | c => c
theorem ne_of_beq {i j : Nat} (h : Nat.beq i j = false) : i ≠ j := fun e => by subst e; rw [Nat.beq_refl] at h; cases h
theorem frzC_eq {R : Type} (id : Nat) (t : Ty) (l : List (T D.S t)) (c : C D.S) (k : C D.S → R) : frzC id t l c k = k (frzF id t l c) := by
  cases c <;> simp only [frzC, frzF] <;> (try rfl)
  all_goals
    split
    · rename_i hb; rw [if_pos (Nat.eq_of_beq_eq_true hb)]
    · rename_i hb; rw [if_neg (ne_of_beq hb)]
theorem killC_eq {R : Type} (id : Nat) (c : C D.S) (k : C D.S → R) : killC id c k = k (killF id c) := by
  cases c with
  | fn f caps =>
    simp only [killC, killF]
    by_cases h : id ∈ caps
    · rw [List.elem_eq_contains, List.contains_iff_mem.mpr h, if_pos h]
    · rw [List.elem_eq_contains, if_neg h, Bool.eq_false_iff.mpr (fun e => h (List.contains_iff_mem.mp e))]
  | own _ => simp only [killC, killF]; split <;> rename_i hb <;> first | rw [if_pos (Nat.eq_of_beq_eq_true hb)] | rw [if_neg (ne_of_beq hb)]
  | part _ _ _ => simp only [killC, killF]; split <;> rename_i hb <;> first | rw [if_pos (Nat.eq_of_beq_eq_true hb)] | rw [if_neg (ne_of_beq hb)]
  | eptr _ _ _ => simp only [killC, killF]; split <;> rename_i hb <;> first | rw [if_pos (Nat.eq_of_beq_eq_true hb)] | rw [if_neg (ne_of_beq hb)]
  | ptr _ _ => simp only [killC, killF]; split <;> rename_i hb <;> first | rw [if_pos (Nat.eq_of_beq_eq_true hb)] | rw [if_neg (ne_of_beq hb)]
  | _ => rfl
theorem mapLK_eq {R : Type} (f : C D.S → (C D.S → R) → R) (g : C D.S → C D.S) (h : ∀ c k, f c k = k (g c)) : ∀ (cs : List (C D.S)) (k : List (C D.S) → R), mapLK f cs k = k (cs.map g)
  | [], k => rfl
  | c :: cs, k => by simp only [mapLK]; rw [h, mapLK_eq f g h cs]; rfl
theorem mapAK_eq {R : Type} (f : C D.S → (C D.S → R) → R) (g : C D.S → C D.S) (h : ∀ c k, f c k = k (g c)) (x : A D.S) (k : A D.S → R) : mapAK f x k = k (mapA g x) := by
  cases x with
  | c c => simp only [mapAK]; rw [h]; rfl
  | agg cs => simp only [mapAK]; rw [mapLK_eq f g h]; rfl
theorem mapALK_eq {R : Type} (f : C D.S → (C D.S → R) → R) (g : C D.S → C D.S) (h : ∀ c k, f c k = k (g c)) : ∀ (l : List (A D.S)) (k : List (A D.S) → R), mapALK f l k = k (l.map (mapA g))
  | [], k => rfl
  | c :: cs, k => by simp only [mapALK]; rw [mapAK_eq f g h, mapALK_eq f g h cs]; rfl
theorem mapVK_eq {R : Type} (f : C D.S → (C D.S → R) → R) (g : C D.S → C D.S) (h : ∀ c k, f c k = k (g c)) (x : V D.S) (k : V D.S → R) : mapVK f x k = k (mapV g x) := by
  cases x with
  | a c => simp only [mapVK]; rw [mapAK_eq f g h]; rfl
  | tup cs => simp only [mapVK]; rw [mapALK_eq f g h]; rfl
theorem mapBK_eq {R : Type} (f : C D.S → (C D.S → R) → R) (g : C D.S → C D.S) (h : ∀ c k, f c k = k (g c)) (x : B D.S) (k : B D.S → R) : mapBK f x k = k (mapB g x) := by
  cases x with
  | box c => simp only [mapBK]; rw [mapLK_eq f g h]; rfl
  | arr t l => rfl
theorem frzK_eq {R : Type} {id : Nat} {fr : Tr (V D.S)} {hp : Tr (B D.S)} {k : Tr (V D.S) → Tr (B D.S) → Option R} {t : Ty} {l : List (T D.S t)} (h : hp.get id = some (.arr t l)) :
    frzK id fr hp k = k (fr.map (mapV (frzF id t l))) ((hp.set depth id none).map (mapB (frzF id t l))) := by
  unfold frzK
  rw [h]
  simp only []
  rw [Tr.mapK_eq _ _ (fun a k => mapVK_eq _ _ (frzC_eq id t l) a k), Tr.setK_eq, Tr.mapK_eq _ _ (fun a k => mapBK_eq _ _ (frzC_eq id t l) a k)]
theorem killK_eq {R : Type} {id : Nat} {fr : Tr (V D.S)} {hp : Tr (B D.S)} {k : Tr (V D.S) → Tr (B D.S) → Option R} :
    killK id fr hp k = k (fr.map (mapV (killF id))) ((hp.set depth id none).map (mapB (killF id))) := by
  unfold killK
  rw [Tr.mapK_eq _ _ (fun a k => mapVK_eq _ _ (killC_eq id) a k), Tr.setK_eq, Tr.mapK_eq _ _ (fun a k => mapBK_eq _ _ (killC_eq id) a k)]

/-! ### by value -/
def ownsC : C D.S → List Nat
  | .own id => [id]
  | .part id _ _ => [id]
  | .eptr id _ _ => [id]
  | _ => []
theorem ownsL_eq : ∀ (cs : List (C D.S)), ownsL cs = cs.flatMap ownsC
  | [] => rfl
  | c :: cs => by cases c <;> simp [ownsL, ownsC, ownsL_eq cs]
/-- The row's elements as they lie in memory. -/
theorem arr_f (lw : Lawful D P) {w F h β id} {t : Ty} {l : List (T D.S t)} (r : RB D w F h β id (.arr t l)) {L : Loc} (hL : β id = some L) :
    ∃ (vs : Array Value) (e : TypeId) (f : Nat → Nat → Value), w.heap[L.b]? = some (.cells vs e (0, 0)) ∧ vs.size = L.n ∧ L.o + l.length * size D t ≤ L.n ∧
      (∀ i j, i < l.length → j < size D t → w.cell? ⟨L.b, L.o + i * size D t + j, none⟩ = some (f i j)) ∧
      (∀ i (hi : i < l.length) (j : Nat) x, (encL D t (l[i]'hi))[j]? = some x → RP D w F x (f i j)) := by
  rcases r with ⟨h1, _⟩ | ⟨L', vs, e, h1, h2, h3, h4, h5⟩
  · rw [hL] at h1; cases h1
  rw [hL] at h1
  obtain rfl := Option.some.inj h1
  refine ⟨vs, e, fun i j => (vs[L.o + i * size D t + j]?).getD undef, h2, h3, h4, fun i j hi hj => ?_, fun i hi j x hx => ?_⟩
  · have hl : j < (encL D t (l[i]'hi)).length := by rw [encL_len lw]; exact hj
    obtain ⟨v, hv, _⟩ := h5 i hi j _ (List.getElem?_eq_getElem hl)
    simp only [cell_of h2, hv, Option.getD_some]
  · obtain ⟨v, hv, r⟩ := h5 i hi j x hx
    simp only [hv]; exact r
theorem arr_lst (lw : Lawful D P) {w F h β id} {F' : Nat → Prop} (hF : ∀ b, F b → F' b) {t : Ty} {l : List (T D.S t)} (r : RB D w F h β id (.arr t l)) {L : Loc} (hL : β id = some L) (hb : F' L.b) {off n cap : Nat}
    (hn : off + n ≤ l.length) (hc : n ≤ cap) : RP D w F' (.lst t ((l.drop off).take n)) (.slice (some ⟨L.b, L.o + off * size D t, none⟩) n cap) := by
  obtain ⟨vs, e, f, h2, h3, h4, h5, h6⟩ := arr_f lw r hL
  have hlen : ((l.drop off).take n).length = n := by rw [List.length_take, List.length_drop]; omega
  have key := RP.lst (D := D) (w := w) (F := F') t ((l.drop off).take n) L.b (L.o + off * size D t) cap (fun i j => f (off + i) j) hb (by rw [hlen]; exact hc)
    (fun i j hi hj => by
      rw [hlen] at hi
      have := h5 (off + i) j (by omega) hj
      rw [← this, show L.o + off * size D t + i * size D t + j = L.o + (off + i) * size D t + j by rw [Nat.add_mul]; omega])
    (fun i hi j x hx => by
      have hi' : i < n := by rw [hlen] at hi; exact hi
      have e : ((l.drop off).take n)[i]'hi = l[off + i]'(by omega) := by rw [List.getElem_take, List.getElem_drop]
      rw [e] at hx
      exact RP.mono D (fun b hb => ⟨hF b hb, rfl⟩) (h6 (off + i) (by omega) j x hx))
  rw [hlen] at key
  exact key
theorem resC_ok (lw : Lawful D P) {w F} {F' : Nat → Prop} {hp : Tr (B D.S)} {β} (hF : ∀ b, F b → F' b) (hb : ∀ i b, hp.get i = some b → RB D w F hp.get β i b) {c c' : C D.S} {v : Value} (r : RC D w F hp.get β c v) (e : resC hp c = some c')
    (hlive : ∀ id ∈ ownsC c, ∀ L, β id = some L → F' L.b) : RP D w F' c' v := by
  have up : ∀ {c : C D.S} {v : Value}, RP D w F c v → RP D w F' c v := fun r => RP.mono D (fun b hb => ⟨hF b hb, rfl⟩) r
  cases c with
  | own id =>
    simp only [resC] at e
    split at e
    · rename_i t l hl
      obtain rfl := Option.some.inj e
      obtain ⟨t2, l2, h1, r⟩ := r
      rw [hl] at h1
      injection h1 with h1
      injection h1 with h4 h5
      subst h4
      obtain rfl := eq_of_heq h5
      rcases r with ⟨_, rfl, a, rfl⟩ | ⟨L, cap, b1, r1, r2, rfl⟩
      · exact .lst0 _ _ _ (fun _ => rfl)
      · have := arr_lst lw hF (hb id _ hl) b1 (hlive id (by simp [ownsC]) L b1) (off := 0) (n := l.length) (cap := cap) (by omega) r1
        rw [List.drop_zero, List.take_of_length_le (Nat.le_refl _), Nat.zero_mul, Nat.add_zero] at this
        exact this
    · cases e
  | part id off n =>
    simp only [resC] at e
    split at e
    · rename_i t l hl
      obtain rfl := Option.some.inj e
      obtain ⟨t2, l2, h1, h2, r⟩ := r
      rw [hl] at h1
      injection h1 with h1
      injection h1 with h4 h5
      subst h4
      obtain rfl := eq_of_heq h5
      have e0 : ∀ k : Nat, k = 0 → ∀ a, n ≤ k → RP D w F' (.lst t ((l.drop off).take n)) (.slice a 0 0) := fun k hk a hn => by
        obtain rfl : n = 0 := by omega
        rw [List.take_zero]; exact .lst0 _ _ _ (fun _ => rfl)
      rcases r with ⟨b0, a, rfl⟩ | ⟨L, cap, b1, r1, r2, rfl | ⟨rfl, a, rfl⟩⟩
      · rcases hb id _ hl with ⟨_, rfl⟩ | ⟨L', _, _, h1, _⟩
        · exact e0 0 rfl a (by simp at h2; omega)
        · rw [b0] at h1; cases h1
      · exact arr_lst lw hF (hb id _ hl) b1 (hlive id (by simp [ownsC]) L b1) h2 r1
      · exact e0 0 rfl a r1
    · cases e
  | eptr id e' off =>
    simp only [resC] at e
    split at e
    · rename_i t l hl
      obtain rfl := Option.some.inj e
      obtain ⟨t2, l2, L, h1, b1, h2, rfl⟩ := r
      rw [hl] at h1
      injection h1 with h1
      injection h1 with h4 h5
      subst h4
      obtain rfl := eq_of_heq h5
      obtain ⟨vs, ee, f, g2, g3, g4, g5, g6⟩ := arr_f lw (hb id _ hl) b1
      exact .fptr t l e' off L.b L.o f (hlive id (by simp [ownsC]) L b1) h2 g5 (fun i hi j x hx => up (g6 i hi j x hx))
    · cases e
  | any => cases e
  | ptr id off => cases e
  | fn f caps =>
    match caps, e with
    | [], e =>
      obtain rfl := Option.some.inj e
      obtain ⟨rfl, _⟩ := r
      exact .fn f
  | int k n => obtain rfl := Option.some.inj e; exact up r
  | bool b => obtain rfl := Option.some.inj e; exact up r
  | str s => obtain rfl := Option.some.inj e; exact up r
  | nilp => obtain rfl := Option.some.inj e; exact up r
  | nils => obtain rfl := Option.some.inj e; exact up r
  | emp => obtain rfl := Option.some.inj e; exact up r
  | lst t l => obtain rfl := Option.some.inj e; exact up r
  | fptr t l i o => obtain rfl := Option.some.inj e; exact up r
  | nili => obtain rfl := Option.some.inj e; exact up r
  | err t k n => obtain rfl := Option.some.inj e; exact up r
  | nilf => obtain rfl := Option.some.inj e; exact up r
/-- Cells that are told by value. -/
def PL (w : World) (F : Nat → Prop) (cs : List (C D.S)) (vs : List Value) : Prop := cs.length = vs.length ∧ ∀ (j : Nat) x v, cs[j]? = some x → vs[j]? = some v → RP D w F x v
theorem resL_ok (lw : Lawful D P) {w F} {F' : Nat → Prop} {hp : Tr (B D.S)} {β} (hF : ∀ b, F b → F' b) (hb : ∀ i b, hp.get i = some b → RB D w F hp.get β i b) : ∀ {cs cs' : List (C D.S)} {vs : List Value}, RL D w F hp.get β cs vs → resL hp cs = some cs' →
    (∀ id ∈ ownsL cs, ∀ L, β id = some L → F' L.b) → PL w F' cs' vs
  | [], cs', vs, r, e, _ => by
    simp only [resL, Option.some.injEq] at e
    subst e
    exact ⟨r.1, fun j x v hx => by simp at hx⟩
  | c :: cs, cs', vs, r, e, hl => by
    simp only [resL] at e
    split at e
    · rename_i c1 hc1
      split at e
      · rename_i cs1 hcs1
        obtain rfl := Option.some.inj e
        match vs, r with
        | v :: vs, r =>
          have hl1 : ∀ id ∈ ownsC c, ∀ L, β id = some L → F' L.b := fun id hi => hl id (by rw [ownsL_eq]; simp; exact .inl hi)
          have hl2 : ∀ id ∈ ownsL cs, ∀ L, β id = some L → F' L.b := fun id hi => hl id (by rw [ownsL_eq] at hi ⊢; simp at hi ⊢; exact .inr hi)
          have r0 := resC_ok lw hF hb (r.2 0 c v rfl rfl) hc1 hl1
          have ih := resL_ok lw hF hb (cs := cs) (vs := vs) ⟨by have := r.1; simpa using this, fun j x v hx hv => r.2 (j + 1) x v (by simpa using hx) (by simpa using hv)⟩ hcs1 hl2
          refine ⟨by simp [ih.1], fun j x v' hx hv => ?_⟩
          cases j with
          | zero => simp at hx hv; subst hx; subst hv; exact r0
          | succ j => simp at hx hv; exact ih.2 j x v' hx hv
      · cases e
    · cases e

/-- A block that is told, and is not lent as it is, is new, or was handed over. -/
theorem Sim.freshL {K β F} {fr : Tr (V D.S)} {hp : Tr (B D.S)} {a : Act} {w : World} (s : Sim K β F fr hp a w) {id : Nat} {b0 : B D.S} {L : Loc} (h : hp.get id = some b0) (hL : β id = some L) (hn : ∀ L', (id, L') ∉ K.refs) :
    L.b ∈ K.lent ∨ K.w0.heap.size ≤ L.b := by
  have hng := s.gsep id _ L h hL
  by_cases hlt : L.b < K.w0.heap.size
  · by_cases hm : L.b ∈ K.lent
    · exact .inl hm
    · exfalso
      refine hng ⟨hlt, fun q hq e => ?_, hm⟩
      obtain ⟨i, Lq⟩ := q
      obtain ⟨g1, cs, g2⟩ := s.refs i Lq hq
      have := s.inj id i _ _ L Lq h g2 hL g1 e
      subst this
      exact hn _ hq
  · exact .inr (by omega)
theorem Sim.freshF {K β F} {fr : Tr (V D.S)} {hp : Tr (B D.S)} {a : Act} {w : World} (s : Sim K β F fr hp a w) {id : Nat} {b0 : B D.S} {L : Loc} (h : hp.get id = some b0) (hL : β id = some L) (hn : ∀ L', (id, L') ∉ K.refs) :
    K.F0 L.b ∨ K.w0.heap.size ≤ L.b := by
  rcases s.freshL h hL hn with h | h
  · exact .inl (K.lf _ h)
  · exact .inr h
/-- A row is told by value from here on. -/
theorem Sim.frz (lw : Lawful D P) {K β F} {fr : Tr (V D.S)} {hp : Tr (B D.S)} {a : Act} {w : World} (s : Sim K β F fr hp a w) {id : Nat} (hid : id < 65535) {t : Ty} {l : List (T D.S t)} (h : hp.get id = some (.arr t l)) :
    ∃ F', (∀ b, F b → F' b) ∧ (∀ L, β id = some L → F' L.b) ∧ Sim K β F' (fr.map (mapV (frzF id t l))) ((hp.set depth id none).map (mapB (frzF id t l))) a w ∧
      (∀ c v, RC D w F hp.get β c v → RC D w F' ((hp.set depth id none).map (mapB (frzF id t l))).get β (frzF id t l c) v) := by
  have hF : ∀ b, F b → F b ∨ ∃ L, β id = some L ∧ b = L.b := fun b hb => .inl hb
  have hg : ∀ i, (hp.set depth id none).get i = if i = id then none else hp.get i := fun i => Tr.get_set _ _ _ _ _ (by rw [depth_ok]; omega)
  have H : ∀ c v, RC D w F hp.get β c v → RC D w (fun b => F b ∨ ∃ L, β id = some L ∧ b = L.b) (hp.set depth id none).get β (frzF id t l c) v := by
    intro c v r
    have keep : ∀ c, (∀ i ∈ ownsC c, i ≠ id) → (∀ i off, c = .ptr i off → i ≠ id) → RC D w F hp.get β c v → RC D w (fun b => F b ∨ ∃ L, β id = some L ∧ b = L.b) (hp.set depth id none).get β c v := fun c h1 h2 r => by
      -- the other blocks are as they were
      have e : ∀ i, i ≠ id → (hp.set depth id none).get i = hp.get i := fun i hi => by rw [hg, if_neg hi]
      cases c with
      | own i => obtain ⟨t2, l2, g, r⟩ := r; exact ⟨t2, l2, by rw [e i (h1 i (by simp [ownsC]))]; exact g, r⟩
      | part i off n => obtain ⟨t2, l2, g, r⟩ := r; exact ⟨t2, l2, by rw [e i (h1 i (by simp [ownsC]))]; exact g, r⟩
      | eptr i e' off => obtain ⟨t2, l2, L, g, r⟩ := r; exact ⟨t2, l2, L, by rw [e i (h1 i (by simp [ownsC]))]; exact g, r⟩
      | ptr i off => obtain ⟨cs, L, g, r⟩ := r; exact ⟨cs, L, by rw [e i (h2 i off rfl)]; exact g, r⟩
      | any => trivial
      | fn f caps =>
        obtain ⟨g, r⟩ := r
        refine ⟨g, fun i hi => ?_⟩
        obtain ⟨cs, L, g1, g2⟩ := r i hi
        have : i ≠ id := fun e => by subst e; rw [h] at g1; cases g1
        exact ⟨cs, L, by rw [e i this]; exact g1, g2⟩
      | int k n => exact RP.mono D (fun b hb => ⟨hF b hb, rfl⟩) r
      | bool b => exact RP.mono D (fun b hb => ⟨hF b hb, rfl⟩) r
      | str s => exact RP.mono D (fun b hb => ⟨hF b hb, rfl⟩) r
      | nilp => exact RP.mono D (fun b hb => ⟨hF b hb, rfl⟩) r
      | nils => exact RP.mono D (fun b hb => ⟨hF b hb, rfl⟩) r
      | emp => exact RP.mono D (fun b hb => ⟨hF b hb, rfl⟩) r
      | lst t l => exact RP.mono D (fun b hb => ⟨hF b hb, rfl⟩) r
      | fptr t l i o => exact RP.mono D (fun b hb => ⟨hF b hb, rfl⟩) r
      | nili => exact RP.mono D (fun b hb => ⟨hF b hb, rfl⟩) r
      | err t k n => exact RP.mono D (fun b hb => ⟨hF b hb, rfl⟩) r
      | nilf => exact RP.mono D (fun b hb => ⟨hF b hb, rfl⟩) r
    have res : ∀ c c' : C D.S, resC hp c = some c' → ownsC c = [id] → RC D w F hp.get β c v → RP D w (fun b => F b ∨ ∃ L, β id = some L ∧ b = L.b) c' v := fun c c' e1 e2 r =>
      resC_ok lw hF s.blk r e1 (fun i hi L hL => by rw [e2, List.mem_singleton] at hi; subst hi; exact .inr ⟨L, hL, rfl⟩)
    cases c with
    | own i =>
      simp only [frzF]
      by_cases e : i = id
      · subst e; rw [if_pos rfl]; exact res (.own i) _ (by simp [resC, h]) rfl r
      · rw [if_neg e]; exact keep _ (fun j hj => by simp only [ownsC, List.mem_singleton] at hj; subst hj; exact e) (fun j o e' => by cases e') r
    | part i off n =>
      simp only [frzF]
      by_cases e : i = id
      · subst e; rw [if_pos rfl]; exact res (.part i off n) _ (by simp [resC, h]) rfl r
      · rw [if_neg e]; exact keep _ (fun j hj => by simp only [ownsC, List.mem_singleton] at hj; subst hj; exact e) (fun j o e' => by cases e') r
    | eptr i e' off =>
      simp only [frzF]
      by_cases e : i = id
      · subst e; rw [if_pos rfl]; exact res (.eptr i e' off) _ (by simp [resC, h]) rfl r
      · rw [if_neg e]; exact keep _ (fun j hj => by simp only [ownsC, List.mem_singleton] at hj; subst hj; exact e) (fun j o e' => by cases e') r
    | ptr i off =>
      simp only [frzF]
      by_cases e : i = id
      · rw [if_pos e]; trivial
      · rw [if_neg e]; exact keep (.ptr i off) (fun j hj => by cases hj) (fun j o e' => by injection e' with e1; subst e1; exact e) r
    | any => trivial
    | fn f caps => exact keep (.fn f caps) (fun j hj => by cases hj) (fun j o e' => by cases e') r
    | int k n => exact keep (.int k n) (fun j hj => by cases hj) (fun j o e' => by cases e') r
    | bool b => exact keep (.bool b) (fun j hj => by cases hj) (fun j o e' => by cases e') r
    | str s => exact keep (.str s) (fun j hj => by cases hj) (fun j o e' => by cases e') r
    | nilp => exact keep (.nilp) (fun j hj => by cases hj) (fun j o e' => by cases e') r
    | nils => exact keep (.nils) (fun j hj => by cases hj) (fun j o e' => by cases e') r
    | emp => exact keep (.emp) (fun j hj => by cases hj) (fun j o e' => by cases e') r
    | lst t l => exact keep (.lst t l) (fun j hj => by cases hj) (fun j o e' => by cases e') r
    | fptr t l i o => exact keep (.fptr t l i o) (fun j hj => by cases hj) (fun j o e' => by cases e') r
    | nili => exact keep (.nili) (fun j hj => by cases hj) (fun j o e' => by cases e') r
    | err t k n => exact keep (.err t k n) (fun j hj => by cases hj) (fun j o e' => by cases e') r
    | nilf => exact keep (.nilf) (fun j hj => by cases hj) (fun j o e' => by cases e') r
  refine ⟨fun b => F b ∨ ∃ L, β id = some L ∧ b = L.b, hF, fun L hL => .inr ⟨L, hL, rfl⟩, ?_, ?_⟩
  · refine s.drop hid _ hF (fun b hb => ?_) (fun i b L hi hb hL hn => ?_) (fun L hL => ?_) (fun b hb => ?_) H
    · rcases hb with hb | ⟨L, hL, rfl⟩
      · exact s.old b hb
      · exact (s.sep id _ L h hL).2
    · rcases hn with hn | ⟨L', hL', e⟩
      · exact (s.sep i b L hb hL).1 hn
      · exact hi (s.inj i id b _ L L' hb h hL hL' e)
    · obtain ⟨_, cs, g⟩ := s.refs id L hL
      rw [h] at g; cases g
    · rcases hb with hb | ⟨L, hL, rfl⟩
      · exact s.fsub b hb
      · exact s.freshF h hL fun L' hm => by
          obtain ⟨g1, cs, g2⟩ := s.refs id L' hm
          rw [h] at g2; cases g2
  · intro c v r
    refine RC.trans (fun b hb => ⟨hb, rfl⟩) (fun i hi => ?_) (H c v r)
    refine ⟨rfl, fun cs hc => ⟨cs.map (frzF id t l), ?_⟩, fun t2 l2 hl => ⟨l2, ?_, rfl⟩⟩
    · rw [Tr.get_map, hc]; rfl
    · rw [Tr.get_map, hl]; rfl
end
end Go.Proofs.Ytkpjeihgigmnkaa.Ev
/- Values without memory: each operation that only reckons. -/
namespace Go.Proofs.Ytkpjeihgigmnkaa.Ev
open Go
set_option linter.unusedVariables false
set_option linter.unusedSimpArgs false
section
variable {D : Tys} {P : Program}
theorem Sim.killB {K β F} {fr : Tr (V D.S)} {hp : Tr (B D.S)} {a : Act} {w : World} (s : Sim K β F fr hp a w) {id : Nat} (hid : id < 65535) (hn : ∀ L, (id, L) ∉ K.refs) :
    Sim K β F (fr.map (mapV (killF id))) ((hp.set depth id none).map (mapB (killF id))) a w ∧
      (∀ c v, RC D w F hp.get β c v → RC D w F ((hp.set depth id none).map (mapB (killF id))).get β (killF id c) v) := by
  have hg : ∀ i, (hp.set depth id none).get i = if i = id then none else hp.get i := fun i => Tr.get_set _ _ _ _ _ (by rw [depth_ok]; omega)
  have e : ∀ i, i ≠ id → (hp.set depth id none).get i = hp.get i := fun i hi => by rw [hg, if_neg hi]
  have H : ∀ c v, RC D w F hp.get β c v → RC D w F (hp.set depth id none).get β (killF id c) v := by
    intro c v r
    cases c with
    | own i =>
      simp only [killF]
      by_cases e' : i = id
      · rw [if_pos e']; trivial
      · rw [if_neg e']; obtain ⟨t2, l2, g, r⟩ := r; exact ⟨t2, l2, by rw [e i e']; exact g, r⟩
    | part i off n =>
      simp only [killF]
      by_cases e' : i = id
      · rw [if_pos e']; trivial
      · rw [if_neg e']; obtain ⟨t2, l2, g, r⟩ := r; exact ⟨t2, l2, by rw [e i e']; exact g, r⟩
    | eptr i e0 off =>
      simp only [killF]
      by_cases e' : i = id
      · rw [if_pos e']; trivial
      · rw [if_neg e']; obtain ⟨t2, l2, L, g, r⟩ := r; exact ⟨t2, l2, L, by rw [e i e']; exact g, r⟩
    | ptr i off =>
      simp only [killF]
      by_cases e' : i = id
      · rw [if_pos e']; trivial
      · rw [if_neg e']; obtain ⟨cs, L, g, r⟩ := r; exact ⟨cs, L, by rw [e i e']; exact g, r⟩
    | any => trivial
    | fn f caps =>
      simp only [killF]
      by_cases e' : id ∈ caps
      · rw [if_pos e']; trivial
      · rw [if_neg e']
        obtain ⟨g, r⟩ := r
        refine ⟨g, fun i hi => ?_⟩
        obtain ⟨cs, L, g1, g2⟩ := r i hi
        exact ⟨cs, L, by rw [e i (fun e0 => e' (e0 ▸ hi))]; exact g1, g2⟩
    | int k n => exact r
    | bool b => exact r
    | str s => exact r
    | nilp => exact r
    | nils => exact r
    | emp => exact r
    | lst t l => exact r
    | fptr t l i o => exact r
    | nili => exact r
    | err t k n => exact r
    | nilf => exact r
  refine ⟨s.drop hid _ (fun _ h => h) s.old (fun i b L hi hb hL => (s.sep i b L hb hL).1) hn s.fsub H, fun c v r => ?_⟩
  · refine RC.trans (fun b hb => ⟨hb, rfl⟩) (fun i hi => ?_) (H c v r)
    refine ⟨rfl, fun cs hc => ⟨cs.map (killF id), ?_⟩, fun t2 l2 hl => ⟨l2, ?_, rfl⟩⟩
    · rw [Tr.get_map, hc]; rfl
    · rw [Tr.get_map, hl]; rfl

theorem Sim.kill {K β F} {fr : Tr (V D.S)} {hp : Tr (B D.S)} {a : Act} {w : World} (s : Sim K β F fr hp a w) {id : Nat} (hid : id < 65535) {t : Ty} {l : List (T D.S t)} (h : hp.get id = some (.arr t l)) :
    Sim K β F (fr.map (mapV (killF id))) ((hp.set depth id none).map (mapB (killF id))) a w ∧
      (∀ c v, RC D w F hp.get β c v → RC D w F ((hp.set depth id none).map (mapB (killF id))).get β (killF id c) v) :=
  s.killB hid fun L hL => by
    obtain ⟨_, cs, g⟩ := s.refs id L hL
    rw [h] at g; cases g
/-- The operation does, in memory, what is told. -/
def Done (D : Tys) (P : Program) (K : Kx D) (o : Oper) (a : Act) (w : World) (v : V D.S) (fr : Tr (V D.S)) (hp : Tr (B D.S)) : Prop :=
  ∃ β F cv w', ((execOp a.eval o).run P w = .ok (.value cv) w' ∨ ((execOp a.eval o).run P w = .ok .skip w' ∧ cv = undef)) ∧ Sim K β F fr hp a w' ∧ RV D w' F hp.get β v cv
def Post (D : Tys) (P : Program) (K : Kx D) (o : Oper) (a : Act) (w : World) {R : Type} (k : KK D R) (r : R) : Prop :=
  ∃ v fr hp, k v fr hp = some r ∧ Done D P K o a w v fr hp
theorem Post.pure {K β F} {fr : Tr (V D.S)} {hp : Tr (B D.S)} {a : Act} {w : World} (s : Sim K β F fr hp a w) {o : Oper} {R : Type} {k : KK D R} {r : R} {v : V D.S} {cv : Value} (hk : k v fr hp = some r)
    (hr : (execOp a.eval o).run P w = .ok (.value cv) w) (hv : RV D w F hp.get β v cv) : Post D P K o a w k r := ⟨v, fr, hp, hk, β, F, cv, w, .inl hr, s, hv⟩
theorem bK_some {R : Type} {b : Bool} {k : Option R} {r : R} (h : bK b k = some r) : b = true ∧ k = some r := by cases b with | true => exact ⟨rfl, h⟩ | false => cases h
theorem bKK_some {R : Type} {b : Bool} {k k' : Option R} {r : R} (h : bKK b k k' = some r) : (b = true ∧ k = some r) ∨ (b = false ∧ k' = some r) := by
  cases b with | true => exact .inl ⟨rfl, h⟩ | false => exact .inr ⟨rfl, h⟩
theorem lk_ti (lw : Lawful D P) {t : TypeId} {ti : TI D.S} (h : lk D.ti t = some ti) : TiOk D P t ti := lw.ti t ti (lk_mem h)

variable {R : Type} {H : HH D R} {K : Kx D} {β : Nat → Option Loc} {F : Nat → Prop} {fr : Tr (V D.S)} {hp : Tr (B D.S)} {a : Act} {w : World} {o : Oper} {d : Nat} {k : KK D R} {r : R}
theorem op_move (s : Sim K β F fr hp a w) {x : Operand} (ho : o.op = .move x) (h : opK D H (.move x) d fr hp k = some r) : Post D P K o a w k r := by
  simp only [opK] at h
  split at h
  · rename_i v hv
    exact Post.pure s h (by simp [execOp, ho]) (ev_ok s hv)
  · cases h
theorem op_assign (s : Sim K β F fr hp a w) {x : Operand} (ho : o.op = .assign x) (h : opK D H (.assign x) d fr hp k = some r) : Post D P K o a w k r := by
  simp only [opK] at h
  split at h
  · rename_i v hv
    exact Post.pure s h (by simp [execOp, ho]) (ev_ok s hv)
  · cases h
theorem RC.int_inv {w F h β k n v} (r : RC D w F h β (.int k n) v) : v = .int k n := by cases r; rfl
theorem RC.bool_inv {w F h β b v} (r : RC D w F h β (.bool b) v) : v = .bool b := by cases r; rfl
theorem RC.str_inv {w F h β b v} (r : RC D w F h β (.str b) v) : v = .string b := by cases r; rfl
theorem op_pick (s : Sim K β F fr hp a w) {c x y : Operand} (ho : o.op = .pick c x y) (h : opK D H (.pick c x y) d fr hp k = some r) : Post D P K o a w k r := by
  simp only [opK] at h
  split at h
  · rename_i b hc
    have e := RC.bool_inv (evC_ok s hc)
    rcases bKK_some h with ⟨eb, h2⟩ | ⟨eb, h2⟩
    · subst eb
      split at h2
      · rename_i v hv
        exact Post.pure s h2 (by simp [execOp, ho, e, asBool]) (ev_ok s hv)
      · cases h2
    · subst eb
      split at h2
      · rename_i v hv
        exact Post.pure s h2 (by simp [execOp, ho, e, asBool]) (ev_ok s hv)
      · cases h2
  · cases h
theorem op_load (lw : Lawful D P) (s : Sim K β F fr hp a w) {t : TypeId} {p : Operand} (ho : o.op = .load t p) (h : opK D H (.load t p) d fr hp k = some r) : Post D P K o a w k r := by
  simp only [opK] at h
  split at h
  · rename_i ti hti
    split at h
    · rename_i c hc
      split at h
      · rename_i x hx
        obtain ⟨cv, g1, g2⟩ := loadA_ok lw s (lk_ti lw hti) (evC_ok s hc) hx
        exact Post.pure s h (by simp [execOp, ho, g1]) g2
      · cases h
    · cases h
  · cases h
theorem op_extract (s : Sim K β F fr hp a w) {x : Operand} {i : Nat} (ho : o.op = .extract x i) (h : opK D H (.extract x i) d fr hp k = some r) : Post D P K o a w k r := by
  have nth : ∀ (l : List (A D.S)) (i : Nat) x, nthA D l i = some x → l[i]? = some x := by
    intro l
    induction l with
    | nil => intro i x h; cases h
    | cons y l ih => intro i x h; cases i with | zero => exact h | succ i => exact ih i x h
  simp only [opK] at h
  split at h
  · rename_i l hl
    split at h
    · rename_i x' hx
      obtain ⟨vs, e, g1, g2⟩ := ev_ok s hl
      have hx := nth l i x' hx
      have hi : i < vs.size := by rw [← g1]; exact (List.getElem?_eq_some_iff.mp hx).1
      exact Post.pure s h (cv := vs[i]) (by simp [execOp, ho, e, Instr.extract, hi]) (g2 i x' _ hx (Array.getElem?_eq_getElem hi))
    · cases h
  · cases h
theorem op_nilCheck (s : Sim K β F fr hp a w) {x : Operand} (ho : o.op = .nilCheck x) (h : opK D H (.nilCheck x) d fr hp k = some r) : Post D P K o a w k r := by
  simp only [opK] at h
  split at h
  · rename_i i off hc
    have rc := evC_ok s hc
    obtain ⟨cs, L, _, _, e⟩ := rc
    exact Post.pure s h (by simp [execOp, ho, e]) (e ▸ evC_ok s hc)
  · rename_i i e' off hc
    have rc := evC_ok s hc
    obtain ⟨t, l, L, _, _, _, e⟩ := rc
    exact Post.pure s h (by simp [execOp, ho, e]) (e ▸ evC_ok s hc)
  · rename_i t l i off hc
    have rc := evC_ok s hc
    have hr : ∃ A, a.eval x = .pointer (some A) := by
      generalize a.eval x = z at rc
      cases rc
      exact ⟨_, rfl⟩
    obtain ⟨A, e⟩ := hr
    exact Post.pure s h (by simp [execOp, ho, e]) (e ▸ evC_ok s hc)
  · rename_i f caps hc
    have rc := evC_ok s hc
    obtain ⟨e, _⟩ := rc
    exact Post.pure s h (by simp [execOp, ho, e]) (e ▸ evC_ok s hc)
  · cases h
theorem op_unOp (s : Sim K β F fr hp a w) {u : UnOp} {t : TypeId} {x : Operand} (ho : o.op = .unOp u t x) (h : opK D H (.unOp u t x) d fr hp k = some r) : Post D P K o a w k r := by
  simp only [opK] at h
  split at h
  · rename_i k1 n hc
    have e := RC.int_inv (evC_ok s hc)
    split at h
    · exact Post.pure s h (by simp [execOp, ho, e, Op.unary, Op.intArith]) (.int _ _)
    · exact Post.pure s h (by simp [execOp, ho, e, Op.unary, Op.intBits]; rfl) (.int _ _)
    · cases h
  · rename_i b hc
    have e := RC.bool_inv (evC_ok s hc)
    split at h
    · exact Post.pure s h (by simp [execOp, ho, e, Op.unary]) (.bool _)
    · cases h
  · cases h
theorem ofBytes_eq (l : List Int) : ofBytes l = strOfNums l := rfl
theorem convert_bytes_ok (lw : Lawful D P) (s : Sim K β F fr hp a w) {q t : TypeId} {ti : TI D.S} {c c' : C D.S} {v : Value} {l : List Int} (rc : RC D w F hp.get β c v) (hq : lk D.ti q = some ti) (hb : byteSl D ti.d = true) (hr : resC hp c = some c') (hl : bytesC D c' = some l)
    (hu : P.underlying t = some .string) : (convert q t v).run P w = .ok (.string (ofBytes l)) w := by
  have rp := resC_ok lw (F' := fun _ => True) (fun _ _ => trivial) s.blk rc hr (fun _ _ _ _ => trivial)
  have okq := (lk_ti lw hq).desc
  unfold byteSl at hb
  split at hb
  case h_2 => cases hb
  rename_i e hd
  rw [hd] at okq
  have okq : P.underlying q = some (.slice e) := okq
  split at hb
  case h_2 => cases hb
  rename_i te hte
  have oke := (lk_ti lw hte).desc
  split at hb
  case h_2 => cases hb
  rename_i hde
  rw [hde] at oke
  have oke : P.underlying e = some (.int .u8) := oke
  have hnil : ∀ (A : Option Addr) (cap : Nat), (convert q t (.slice A 0 cap)).run P w = .ok (.string (ofBytes [])) w := fun A cap => by
    cases A with
    | none => exact run_convert_bytes_nil w q e okq oke 0 cap t hu
    | some A =>
      rw [run_convert_bytes_string w q t e _ 0 cap okq oke hu]
      have h0 : (loadCells A 0).run P w = .ok #[] w := by simp [loadCells, loadCellsFrom]
      have := run_bytesToString (P := P) w A 0 cap [] (by simpa using h0)
      exact this
  unfold bytesC at hl
  split at hl
  · split at hl
    · rename_i l0
      obtain rfl := Option.some.inj hl
      cases rp with
      | lst0 _ A cap hn => exact hnil A cap
      | lst _ _ b o cap f hB hcap hf hr =>
        have := run_convert_bytes_arg (P := P) w q e okq oke b o _ cap _ rfl (fun i hi => by
          have h1 := hf i 0 hi (by simp [size])
          have h2 := hr i hi 0 _ (by simp [encL]; rfl)
          generalize f i 0 = u at h1 h2
          cases h2
          have e1 : o + i * size D (.int .u8) + 0 = o + i := by simp [size]
          rw [e1] at h1
          rw [h1, List.getD_eq_getElem?_getD, List.getElem?_eq_getElem hi]; rfl) t hu
        exact this
    · cases hl
  · obtain rfl := Option.some.inj hl
    cases rp
    exact hnil _ _
  · obtain rfl := Option.some.inj hl
    cases rp
    exact hnil _ _
  · cases hl
theorem op_convert (lw : Lawful D P) (s : Sim K β F fr hp a w) {q t : TypeId} {x : Operand} (ho : o.op = .convert q t x) (h : opK D H (.convert q t x) d fr hp k = some r) : Post D P K o a w k r := by
  simp only [opK] at h
  split at h
  · cases h
  · rename_i tq htq
    obtain ⟨dq, hdq⟩ := Option.isSome_iff_exists.mp (lk_ti lw htq).und
    split at h
    · cases h
    rename_i ti hti
    have ok := lk_ti lw hti
    split at h
    · rename_i k1 kk n hd hc
      have e := RC.int_inv (evC_ok s hc)
      have hu := ok.desc
      rw [hd] at hu
      exact Post.pure s h (by simp [execOp, ho, e, convert, run_underlying hdq, run_underlying hu, Conv.intToInt]) (.int _ _)
    · rename_i z hd hc
      have e := RC.str_inv (evC_ok s hc)
      have hu := ok.desc
      rw [hd] at hu
      exact Post.pure s h (cv := .string z) (by simp [execOp, ho, e, convert, run_underlying hdq, run_underlying hu]) (.str _)
    · rename_i c hne hd hc
      split at h
      · rename_i c' hb hr
        split at h
        · rename_i l hl
          have hu : P.underlying t = some .string := by have hu := ok.desc; rw [hd] at hu; exact hu
          have hrun := convert_bytes_ok lw s (evC_ok s hc) htq hb hr hl hu
          exact Post.pure s h (cv := .string (ofBytes l)) (by simp [execOp, ho, hrun]) (.str _)
        · cases h
      · cases h
    · cases h
end
end Go.Proofs.Ytkpjeihgigmnkaa.Ev
/- Values without memory: binary operations; places in what is told. -/
namespace Go.Proofs.Ytkpjeihgigmnkaa.Ev
open Go
set_option linter.unusedVariables false
set_option linter.unusedSimpArgs false
section
variable {D : Tys} {P : Program}
variable {R : Type} {H : HH D R} {K : Kx D} {β : Nat → Option Loc} {F : Nat → Prop} {fr : Tr (V D.S)} {hp : Tr (B D.S)} {a : Act} {w : World} {o : Oper} {d : Nat} {k : KK D R} {r : R}
theorem intOp_ok {op : BinOp} {k1 : IntKind} {x y : Int} {c : C D.S} (e : intOp op k1 x y = some c) (w F h β) (t : TypeId) :
    ∃ v, (binOp op t (.int k1 x) (.int k1 y)).run P w = .ok v w ∧ RC D w F h β c v := by
  cases op <;> simp only [intOp, Option.some.injEq, reduceCtorEq] at e <;> subst e
  · exact ⟨_, by simp [binOp, Op.intArith], .int _ _⟩
  · exact ⟨_, by simp [binOp, Op.intArith], .int _ _⟩
  · exact ⟨_, by simp [binOp, Op.intArith], .int _ _⟩
  · exact ⟨_, by simp only [binOp, ne_eq, not_true_eq_false, ite_false, Op.intBits]; rfl, .int _ _⟩
  · exact ⟨_, by simp only [binOp, ne_eq, not_true_eq_false, ite_false, Op.intBits]; rfl, .int _ _⟩
  · exact ⟨_, by simp only [binOp, ne_eq, not_true_eq_false, ite_false, Op.intBits]; rfl, .int _ _⟩
  · exact ⟨_, by simp only [binOp, ne_eq, not_true_eq_false, ite_false, Op.intBits]; rfl, .int _ _⟩
  · exact ⟨_, by simp [binOp, Op.intCmp], .bool _⟩
  · exact ⟨_, by simp [binOp, Op.intCmp], .bool _⟩
  · exact ⟨_, by simp [binOp, Op.intCmp], .bool _⟩
  · exact ⟨_, by simp [binOp, Op.intCmp], .bool _⟩
  · exact ⟨_, by simp [binOp, Op.intCmp], .bool _⟩
  · exact ⟨_, by simp [binOp, Op.intCmp], .bool _⟩
theorem strOp_ok {op : BinOp} {x y : ByteArray} {c : C D.S} (e : strOp op x y = some c) (w F h β) (t : TypeId) :
    ∃ v, (binOp op t (.string x) (.string y)).run P w = .ok v w ∧ RC D w F h β c v := by
  cases op <;> simp only [strOp, Option.some.injEq, reduceCtorEq] at e <;> subst e
  all_goals exact ⟨_, by simp [binOp, Op.stringOp], .bool _⟩
theorem guard_none {op : BinOp} {t : TypeId} {x y : Operand} {v u : Value} (hv : ∀ n, v ≠ .nilIface ∨ u ≠ n) (hg : ∀ cs, v ≠ .agg cs) (w : World) : (eqGuard op t x y v u).run P w = .ok () w := by
  cases v with
  | nilIface => rcases hv u with h | h <;> exact absurd rfl h
  | agg cs => exact absurd rfl (hg cs)
  | _ => cases op <;> rfl
theorem boolEq {op : BinOp} {t : TypeId} {d : TypeDesc} (hu : P.underlying t = some d) : True := trivial
theorem evA_int (s : Sim K β F fr hp a w) {x : Operand} {k1 : IntKind} {n : Int} (h : evA fr x = some (.c (.int k1 n))) : a.eval x = .int k1 n := by
  have r : RP D w F (.int k1 n) (a.eval x) := evA_ok s h
  generalize a.eval x = z at r
  cases r; rfl
theorem evA_str (s : Sim K β F fr hp a w) {x : Operand} {n : ByteArray} (h : evA fr x = some (.c (.str n))) : a.eval x = .string n := by
  have r : RP D w F (.str n) (a.eval x) := evA_ok s h
  generalize a.eval x = z at r
  cases r; rfl
theorem evA_bool (s : Sim K β F fr hp a w) {x : Operand} {n : Bool} (h : evA fr x = some (.c (.bool n))) : a.eval x = .bool n := by
  have r : RP D w F (.bool n) (a.eval x) := evA_ok s h
  generalize a.eval x = z at r
  cases r; rfl
theorem op_binOp_int (s : Sim K β F fr hp a w) {op : BinOp} {t q : TypeId} {x y : Operand} (ho : o.op = .binOp op t x y q) {k1 k2 : IntKind} {m n : Int} (hx : evA fr x = some (.c (.int k1 m))) (hy : evA fr y = some (.c (.int k2 n)))
    (h : opK D H (.binOp op t x y q) d fr hp k = some r) : Post D P K o a w k r := by
  have ex : a.eval x = .int k1 m := evA_int s hx
  have ey : a.eval y = .int k2 n := evA_int s hy
  have g : ∀ op, (eqGuard op t x y (.int k1 m) (.int k2 n)).run P w = .ok () w := fun op => guard_none (fun _ => .inl (fun e => by cases e)) (fun _ e => by cases e) w
  simp only [opK, hx, hy] at h
  split at h
  · obtain ⟨hb, h⟩ := bK_some h
    have hb : 0 ≤ n := of_decide_eq_true hb
    have hn : ¬ n < 0 := by omega
    exact Post.pure s h (cv := .int k1 (shlE k1 m n)) (by simp [execOp, ho, ex, ey, g, binOp, Op.shift, hn, shlE]) (.int _ _)
  · obtain ⟨hb, h⟩ := bK_some h
    have hb : 0 ≤ n := of_decide_eq_true hb
    have hn : ¬ n < 0 := by omega
    exact Post.pure s h (cv := .int k1 (shrE k1 m n)) (by simp [execOp, ho, ex, ey, g, binOp, Op.shift, hn, shrE]) (.int _ _)
  · split at h
    · rename_i e
      subst e
      rcases bKK_some h with ⟨_, h2⟩ | ⟨e0, h2⟩
      · cases h2
      · have hn : n ≠ 0 := of_decide_eq_false e0
        exact Post.pure s h2 (cv := .int k1 (k1.wrap (m.tdiv n))) (by simp [execOp, ho, ex, ey, g, binOp, Op.intDiv, hn]) (.int _ _)
    · cases h
  · split at h
    · rename_i e
      subst e
      rcases bKK_some h with ⟨_, h2⟩ | ⟨e0, h2⟩
      · cases h2
      · have hn : n ≠ 0 := of_decide_eq_false e0
        exact Post.pure s h2 (cv := .int k1 (m.tmod n)) (by simp [execOp, ho, ex, ey, g, binOp, Op.intDiv, hn]) (.int _ _)
    · cases h
  · split at h
    · rename_i e
      subst e
      split at h
      · rename_i c hc
        obtain ⟨v, hv, rv⟩ := intOp_ok (P := P) hc w F hp.get β t
        exact Post.pure s h (cv := v) (by simp [execOp, ho, ex, ey, g, hv]) rv
      · cases h
    · cases h
theorem op_binOp_str (s : Sim K β F fr hp a w) {op : BinOp} {t q : TypeId} {x y : Operand} (ho : o.op = .binOp op t x y q) {m n : ByteArray} (hx : evA fr x = some (.c (.str m))) (hy : evA fr y = some (.c (.str n)))
    (h : opK D H (.binOp op t x y q) d fr hp k = some r) : Post D P K o a w k r := by
  have ex : a.eval x = .string m := evA_str s hx
  have ey : a.eval y = .string n := evA_str s hy
  have g : ∀ op, (eqGuard op t x y (.string m) (.string n)).run P w = .ok () w := fun op => guard_none (fun _ => .inl (fun e => by cases e)) (fun _ e => by cases e) w
  simp only [opK, hx, hy] at h
  split at h
  · obtain ⟨hb, h⟩ := bK_some h
    have hb : (m.size : Int) + (n.size : Int) ≤ 9223372036854775807 := by
      have : m.size + n.size ≤ 9223372036854775807 := Nat.le_of_ble_eq_true hb
      omega
    have hn : ¬ (IntKind.i64.max < (m.size : Int) + (n.size : Int)) := by
      have e1 : IntKind.i64.max = 9223372036854775807 := rfl
      rw [e1]; omega
    have hr : (binOp .add t (.string m) (.string n)).run P w = .ok (.string (m ++ n)) w := by
      simp only [binOp, Op.stringOp]
      rw [if_neg (by push_cast; exact hn)]
      rfl
    exact Post.pure s h (cv := .string (m ++ n)) (by simp [execOp, ho, ex, ey, g, hr]) (.str _)
  · split at h
    · rename_i c hc
      obtain ⟨v, hv, rv⟩ := strOp_ok (P := P) hc w F hp.get β t
      exact Post.pure s h (cv := v) (by simp [execOp, ho, ex, ey, g, hv]) rv
    · cases h
theorem opEq_run {w : World} {op : BinOp} {t q : TypeId} {x y : Operand} (ho : o.op = .binOp op t x y q) {v u : Value} (ex : a.eval x = v) (ey : a.eval y = u) {b : Bool} (hop : op = .eql ∨ op = .neq)
    (hn : ∀ k m k' m', v = .int k m → u = .int k' m' → False) (hs : ∀ m m', v = .string m → u = .string m' → False) (hk : (∃ b, v = .bool b) ∨ v = .nilIface ∨ (∃ p, v = .pointer p) ∨ (∃ a n c, v = .slice a n c) ∨ v = .nilFunc ∨ (∃ f a b, v = .func f a b) ∨ (∃ t u, v = .iface t u) ∨ ∃ cs, v = .agg cs)
    (hu : ∀ p, v = .pointer p → ∃ p', u = .pointer p')
    (g : (eqGuard op t x y v u).run P w = .ok () w) (he : (Op.equal t v u).run P w = .ok b w) :
    (op = .eql → (execOp a.eval o).run P w = .ok (.value (.bool b)) w) ∧ (op = .neq → (execOp a.eval o).run P w = .ok (.value (.bool (!b))) w) := by
  have hb : ∀ op, op = .eql ∨ op = .neq → (binOp op t v u).run P w = .ok (.bool (if op = .eql then b else !b)) w := by
    intro op hop
    rcases hk with ⟨z, rfl⟩ | rfl | ⟨p, rfl⟩ | ⟨a, n, c, rfl⟩ | rfl | ⟨f, a, b, rfl⟩ | ⟨f, a, rfl⟩ | ⟨cs, rfl⟩
    all_goals
      first
      | (obtain ⟨p', rfl⟩ := hu _ rfl
         rcases hop with rfl | rfl <;> simp [binOp, he])
      | (rcases hop with rfl | rfl <;> simp [binOp, he])
  refine ⟨fun e => ?_, fun e => ?_⟩
  · subst e; simp [execOp, ho, ex, ey, g, hb .eql (.inl rfl)]
  · subst e; simp [execOp, ho, ex, ey, g, hb .neq (.inr rfl)]
theorem RC.nils_inv {w F h β v} (r : RC D w F h β .nils v) : v = .slice none 0 0 := by cases r; rfl
theorem RC.nilp_inv {w F h β v} (r : RC D w F h β .nilp v) : v = .pointer none := by cases r; rfl
theorem RC.nili_inv {w F h β v} (r : RC D w F h β .nili v) : v = .nilIface := by cases r; rfl
theorem RC.nilf_inv {w F h β v} (r : RC D w F h β .nilf v) : v = .nilFunc := by cases r; rfl
theorem RC.fptr_inv {w F h β t l i off v} (r : RC D w F h β (.fptr t l i off) v) : ∃ A, v = .pointer (some A) := by cases r; exact ⟨_, rfl⟩
theorem RC.err_inv {w F h β t k n v} (r : RC D w F h β (.err t k n) v) : v = .iface t (.int k n) := by cases r; rfl
theorem equal_of {w : World} {t : TypeId} {v u : Value} {b : Bool} (h : ∀ d, (Op.equalIn (d + 1) t v u).run P w = .ok b w) : (Op.equal t v u).run P w = .ok b w := h 9999
theorem eq_run {d : TD} {kk : Bool} {c1 c2 : C D.S} {b : Bool} {t : TypeId} (hd : descOk P t d) {x y : Operand} {op : BinOp} (hkk : kk = (isK x || isK y))
    (e : eqv d kk c1 c2 = some b) {w F h β} {v u : Value} (r1 : RC D w F h β c1 v) (r2 : RC D w F h β c2 u) :
    (eqGuard op t x y v u).run P w = .ok () w ∧ (Op.equal t v u).run P w = .ok b w ∧ (∀ k m k' m', v = .int k m → u = .int k' m' → False) ∧ (∀ m m', v = .string m → u = .string m' → False) ∧
      ((∃ b, v = .bool b) ∨ v = .nilIface ∨ (∃ p, v = .pointer p) ∨ (∃ a n c, v = .slice a n c) ∨ v = .nilFunc ∨ (∃ f a b, v = .func f a b) ∨ (∃ t u, v = .iface t u) ∨ ∃ cs, v = .agg cs) ∧
      (∀ p, v = .pointer p → ∃ p', u = .pointer p') := by
  have G : ∀ {v u : Value}, (∀ n, v ≠ .nilIface ∨ u ≠ n) → (∀ cs, v ≠ .agg cs) → (eqGuard op t x y v u).run P w = .ok () w := fun h1 h2 => guard_none h1 h2 w
  unfold eqv at e
  split at e
  · obtain rfl := RC.bool_inv r1
    obtain rfl := RC.bool_inv r2
    cases d with
    | bool =>
      obtain rfl := Option.some.inj e
      have hu : P.underlying t = some .bool := hd
      exact ⟨G (fun _ => .inl (fun e => by cases e)) (fun _ e => by cases e), equal_of fun d => by simp [Op.equalIn, run_underlying hu], by simp, by simp, by simp, by simp⟩
    | _ => cases e
  · unfold nilEq at e
    split at e
    · obtain rfl := RC.nils_inv r1
      obtain rfl := RC.nils_inv r2
      cases d with
      | slice e' =>
        obtain rfl := Option.some.inj e
        have hu : P.underlying t = some (.slice e') := hd
        exact ⟨G (fun _ => .inl (fun e => by cases e)) (fun _ e => by cases e), equal_of fun d => by simp [Op.equalIn, run_underlying hu], by simp, by simp, by simp, by simp⟩
      | _ => cases e
    · have q1 : RP D w F .emp v := r1
      obtain rfl := RC.nils_inv r2
      cases q1
      cases d with
      | slice e' =>
        obtain rfl := Option.some.inj e
        have hu : P.underlying t = some (.slice e') := hd
        exact ⟨G (fun _ => .inl (fun e => by cases e)) (fun _ e => by cases e), equal_of fun d => by simp [Op.equalIn, run_underlying hu], by simp, by simp, by simp, by simp⟩
      | _ => cases e
    · have q1 : RP D w F (.lst _ (_ :: _)) v := r1
      obtain rfl := RC.nils_inv r2
      cases q1
      cases d with
      | slice e' =>
        obtain rfl := Option.some.inj e
        have hu : P.underlying t = some (.slice e') := hd
        exact ⟨G (fun _ => .inl (fun e => by cases e)) (fun _ e => by cases e), equal_of fun d => by simp [Op.equalIn, run_underlying hu], by simp, by simp, by simp, by simp⟩
      | _ => cases e
    · obtain rfl := RC.nilp_inv r1
      obtain rfl := RC.nilp_inv r2
      cases d with
      | ptr e' =>
        obtain rfl := Option.some.inj e
        have hu : P.underlying t = some (.pointer e') := hd
        exact ⟨G (fun _ => .inl (fun e => by cases e)) (fun _ e => by cases e), equal_of fun d => by simp [Op.equalIn, run_underlying hu], by simp, by simp, by simp, by simp⟩
      | _ => cases e
    · obtain rfl := RC.nili_inv r1
      obtain rfl := RC.nili_inv r2
      cases d with
      | iface =>
        cases kk with
        | false => cases e
        | true =>
          obtain rfl := Option.some.inj e
          obtain ⟨ms, hu⟩ := hd
          refine ⟨?_, equal_of fun d => by simp [Op.equalIn, run_underlying hu], by simp, by simp, by simp, by simp⟩
          have hk := hkk.symm
          cases op <;> (try rfl)
          all_goals
            cases x <;> cases y <;> first | rfl | (simp [isK] at hk)
      | _ => cases e
    · obtain rfl := RC.nilf_inv r1
      obtain rfl := RC.nilf_inv r2
      cases d with
      | func =>
        obtain rfl := Option.some.inj e
        obtain ⟨ps, rs, vv, hu⟩ := hd
        exact ⟨G (fun _ => .inl (fun e => by cases e)) (fun _ e => by cases e), equal_of fun d => by simp [Op.equalIn, run_underlying hu], by simp, by simp, by simp, by simp⟩
      | _ => cases e
    · obtain ⟨cs, L, _, _, rfl⟩ := r1
      obtain rfl := RC.nilp_inv r2
      cases d with
      | ptr e' =>
        obtain rfl := Option.some.inj e
        have hu : P.underlying t = some (.pointer e') := hd
        exact ⟨G (fun _ => .inl (fun e => by cases e)) (fun _ e => by cases e), equal_of fun d => by simp [Op.equalIn, run_underlying hu], by simp, by simp, by simp, by simp⟩
      | _ => cases e
    · obtain rfl := RC.nilp_inv r1
      obtain ⟨cs, L, _, _, rfl⟩ := r2
      cases d with
      | ptr e' =>
        obtain rfl := Option.some.inj e
        have hu : P.underlying t = some (.pointer e') := hd
        exact ⟨G (fun _ => .inl (fun e => by cases e)) (fun _ e => by cases e), equal_of fun d => by simp [Op.equalIn, run_underlying hu], by simp, by simp, by simp, by simp⟩
      | _ => cases e
    · obtain ⟨A, rfl⟩ := RC.fptr_inv r1
      obtain rfl := RC.nilp_inv r2
      cases d with
      | ptr e' =>
        obtain rfl := Option.some.inj e
        have hu : P.underlying t = some (.pointer e') := hd
        exact ⟨G (fun _ => .inl (fun e => by cases e)) (fun _ e => by cases e), equal_of fun d => by simp [Op.equalIn, run_underlying hu], by simp, by simp, by simp, by simp⟩
      | _ => cases e
    · obtain rfl := RC.nilp_inv r1
      obtain ⟨A, rfl⟩ := RC.fptr_inv r2
      cases d with
      | ptr e' =>
        obtain rfl := Option.some.inj e
        have hu : P.underlying t = some (.pointer e') := hd
        exact ⟨G (fun _ => .inl (fun e => by cases e)) (fun _ e => by cases e), equal_of fun d => by simp [Op.equalIn, run_underlying hu], by simp, by simp, by simp, by simp⟩
      | _ => cases e
    · obtain rfl := RC.err_inv r1
      obtain rfl := RC.nili_inv r2
      cases d with
      | iface =>
        obtain rfl := Option.some.inj e
        obtain ⟨ms, hu⟩ := hd
        exact ⟨G (fun _ => .inl (fun e => by cases e)) (fun _ e => by cases e), equal_of fun d => by simp [Op.equalIn, run_underlying hu], by simp, by simp, by simp, by simp⟩
      | _ => cases e
    · obtain rfl := RC.nili_inv r1
      obtain rfl := RC.err_inv r2
      cases d with
      | iface =>
        obtain rfl := Option.some.inj e
        obtain ⟨ms, hu⟩ := hd
        exact ⟨by cases op <;> rfl, equal_of fun d => by simp [Op.equalIn, run_underlying hu], by simp, by simp, by simp, by simp⟩
      | _ => cases e
    · obtain ⟨rfl, _⟩ := r1
      obtain rfl := RC.nilf_inv r2
      cases d with
      | func =>
        obtain rfl := Option.some.inj e
        obtain ⟨ps, rs, vv, hu⟩ := hd
        exact ⟨G (fun _ => .inl (fun e => by cases e)) (fun _ e => by cases e), equal_of fun d => by simp [Op.equalIn, run_underlying hu], by simp, by simp, by simp, by simp⟩
      | _ => cases e
    · obtain rfl := RC.nilf_inv r1
      obtain ⟨rfl, _⟩ := r2
      cases d with
      | func =>
        obtain rfl := Option.some.inj e
        obtain ⟨ps, rs, vv, hu⟩ := hd
        exact ⟨G (fun _ => .inl (fun e => by cases e)) (fun _ e => by cases e), equal_of fun d => by simp [Op.equalIn, run_underlying hu], by simp, by simp, by simp, by simp⟩
      | _ => cases e
    · cases e
theorem op_binOp_nil (lw : Lawful D P) (s : Sim K β F fr hp a w) {op : BinOp} {t q : TypeId} {x y : Operand} (ho : o.op = .binOp op t x y q) {c1 c2 : C D.S} (hx : evA fr x = some (.c c1)) (hy : evA fr y = some (.c c2))
    (n1 : ∀ k1 m k2 n, c1 = .int k1 m → c2 = .int k2 n → False) (n2 : ∀ m n, c1 = .str m → c2 = .str n → False)
    (h : opK D H (.binOp op t x y q) d fr hp k = some r) : Post D P K o a w k r := by
  simp only [opK, hx, hy] at h
  split at h
  · cases h
  · rename_i ti hti
    split at h
    · cases h
    · rename_i b hb
      obtain ⟨g1, g2, g3, g4, g5, g6⟩ := eq_run (P := P) (op := op) (lk_ti lw hti).desc rfl hb (evA_ok s hx) (evA_ok s hy)
      split at h
      · exact Post.pure s h ((opEq_run ho rfl rfl (.inl rfl) g3 g4 g5 g6 g1 g2).1 rfl) (.bool _)
      · exact Post.pure s h ((opEq_run ho rfl rfl (.inr rfl) g3 g4 g5 g6 g1 g2).2 rfl) (.bool _)
      · cases h
end
end Go.Proofs.Ytkpjeihgigmnkaa.Ev
/- Values without memory: places in what is told; parts of rows; lengths. -/
namespace Go.Proofs.Ytkpjeihgigmnkaa.Ev
open Go
set_option linter.unusedVariables false
set_option linter.unusedSimpArgs false
section
variable {D : Tys} {P : Program}
variable {R : Type} {H : HH D R} {K : Kx D} {β : Nat → Option Loc} {F : Nat → Prop} {fr : Tr (V D.S)} {hp : Tr (B D.S)} {a : Act} {w : World} {o : Oper} {d : Nat} {k : KK D R} {r : R}
theorem nthF_eq : ∀ {l : List (Nat × Nat × Bool)} {n : Nat} {x}, nthF l n = some x → l[n]? = some x
  | [], _, _, h => by cases h
  | y :: l, 0, x, h => h
  | y :: l, n + 1, x, h => nthF_eq (l := l) (n := n) h
theorem cellsOf_info {t : TypeId} (h : 0 < P.cellsOf t) : ∃ j, P.info? t = some j ∧ j.size = P.cellsOf t := by
  unfold Program.cellsOf at h ⊢
  cases e : P.info? t with
  | none => rw [e] at h; simp at h
  | some j => exact ⟨j, rfl, by simp⟩
/-- A field, as the type's table says. -/
theorem field_at {t : TypeId} {ti : TI D.S} (ok : TiOk D P t ti) {fs : List (Nat × Nat × Bool)} (hd : ti.d = .struct fs) {f o s : Nat} {g : Bool} (h : nthF fs f = some (o, s, g)) :
    ∃ fl fd j, P.underlying t = some (.struct fl) ∧ fl[f]? = some fd ∧ fd.offset = o ∧ P.info? fd.type = some j ∧ j.size = s ∧ aggOf P fd.type = g ∧ 0 < s ∧ o + s ≤ ti.size := by
  have hu := ok.desc
  rw [hd] at hu
  obtain ⟨fl, h1, h2⟩ := hu
  have hm := nthF_eq h
  have hpos := ok.fld fs hd _ (List.mem_of_getElem? hm)
  rw [h2, List.getElem?_map] at hm
  obtain ⟨fd, hfd, he⟩ := Option.map_eq_some_iff.mp hm
  simp only [Prod.mk.injEq] at he
  obtain ⟨rfl, rfl, rfl⟩ := he
  obtain ⟨j, hj, hs⟩ := cellsOf_info hpos.1
  exact ⟨fl, fd, j, h1, by rw [← Array.getElem?_toList]; exact hfd, rfl, hj, hs, rfl, hpos.1, hpos.2⟩
theorem run_fieldAt {t : TypeId} {fl : Array Field} {fd : Field} {f : Nat} {j : TypeInfo} (hu : P.underlying t = some (.struct fl)) (hf : fl[f]? = some fd) (hj : P.info? fd.type = some j) (hp : 0 < j.size) (w : World) (b o : Nat) :
    (Instr.fieldAt t (.pointer (some ⟨b, o, none⟩)) f).run P w = .ok (.pointer (some ⟨b, o + fd.offset, none⟩)) w := by
  have hn : ¬ j.size = 0 := by omega
  simp [Instr.fieldAt, run_underlying hu, hf, Instr.sureAddr, fieldPlace, run_sizeOf' hj, hn, Addr.add_lit]
theorem ti_struct {t : TypeId} {fs} {q1 : Bool} {q2 q3 : Nat} {q4 : List (C D.S)} {q5 : Option Ty} : (⟨.struct fs, q1, q2, q3, q4, q5, []⟩ : TI D.S).d = .struct fs := rfl
theorem op_fieldAddr (lw : Lawful D P) (s : Sim K β F fr hp a w) {t : TypeId} {x : Operand} {f : Nat} (ho : o.op = .fieldAddr t x f) (h : opK D H (.fieldAddr t x f) d fr hp k = some r) : Post D P K o a w k r := by
  simp only [opK, arrK_eq] at h
  split at h
  · rename_i fs q1 q2 q3 q4 q5 q50 hti
    have ok := lk_ti lw hti
    split at h
    · rename_i o' s' g' i off hf hc
      obtain ⟨fl, fd, j, h1, h2, h3, h4, h5, _, h6, _⟩ := field_at ok rfl hf
      obtain ⟨cs, L, g1, g2, g3⟩ := evC_ok s hc
      exact Post.pure s h (by simp [execOp, ho, g3, run_fieldAt h1 h2 h4 (by omega)]; rfl) ⟨cs, L, g1, g2, by rw [h3, Nat.add_assoc]⟩
    · rename_i o' s' g' i e off hf hc
      obtain ⟨fl, fd, j, h1, h2, h3, h4, h5, _, h6, _⟩ := field_at ok rfl hf
      obtain ⟨t2, l2, L, g1, g2, g4, g3⟩ := evC_ok s hc
      exact Post.pure s h (by simp [execOp, ho, g3, run_fieldAt h1 h2 h4 (by omega)]; rfl) ⟨t2, l2, L, g1, g2, g4, by rw [h3, Nat.add_assoc]⟩
    · rename_i o' s' g' t2 l2 e off hf hc
      obtain ⟨fl, fd, j, h1, h2, h3, h4, h5, _, h6, _⟩ := field_at ok rfl hf
      have rc : RP D w F (.fptr t2 l2 e off) (a.eval x) := evC_ok s hc
      generalize hz : a.eval x = z at rc
      cases rc with
      | fptr _ _ _ _ b o2 f2 hb he hf2 hr2 =>
        refine Post.pure s h (cv := .pointer (some ⟨b, o2 + e * size D t2 + (off + o'), none⟩)) (by simp [execOp, ho, hz, run_fieldAt h1 h2 h4 (by omega), h3, Nat.add_assoc]) (.fptr t2 l2 e (off + o') b o2 f2 hb he hf2 hr2)
    · cases h
  · cases h
theorem RL.sub {w F h β} {cs l : List (C D.S)} {vs : List Value} (r : RL D w F h β cs vs) {off n : Nat} (e : subS off n cs = some l) : RL D w F h β l ((vs.drop off).take n) := by
  have e1 := subS_eq e
  refine ⟨by rw [e1.1, List.length_take, List.length_drop, List.length_take, List.length_drop, r.1], fun j x v hx hv => ?_⟩
  have hj : j < n := by
    have := (List.getElem?_eq_some_iff.mp hv).1
    rw [List.length_take] at this; omega
  rw [subS_at e j hj] at hx
  rw [List.getElem?_take_of_lt hj, List.getElem?_drop] at hv
  exact r.2 (off + j) x v hx hv
theorem run_part {t : TypeId} {j : TypeInfo} (hj : P.info? t = some j) (hu : (P.underlying t).isSome) (hp : 0 < j.size) {g : Bool} (hg : aggOf P t = g) {w F h β} {cs l : List (C D.S)} {vs : Array Value} {x : A D.S} (r : RL D w F h β cs vs.toList) {off : Nat} (e : subS off j.size cs = some l) (hm : mkA g l = some x) :
    ∃ v, (part t vs off).run P w = .ok v w ∧ RA D w F h β x v := by
  have rl := r.sub e
  have e1 := subS_eq e
  have hlen : off + j.size ≤ vs.size := by
    have hz : vs.toList.length = vs.size := Array.length_toList
    have := r.1
    omega
  obtain ⟨_, m1, m2⟩ := mkA_eq hm
  have hi := run_isAgg (P := P) hu w
  rw [hg] at hi
  cases g
  · obtain ⟨c, rfl, rfl⟩ := m2 rfl
    have ho : off < vs.size := by omega
    refine ⟨vs[off], by simp [part, hi, ho], ?_⟩
    refine rl.2 0 c _ rfl ?_
    rw [List.getElem?_take_of_lt hp, List.getElem?_drop, Nat.add_zero, Array.getElem?_toList, Array.getElem?_eq_getElem ho]
  · obtain rfl := m1 rfl
    refine ⟨.agg (vs.extract off (off + j.size)), by simp [part, hi, run_sizeOf' hj], _, rfl, ?_⟩
    rw [Array.toList_extract]
    simpa [List.extract] using rl
theorem und_of_info {t : TypeId} {j : TypeInfo} (hj : P.info? t = some j) (h : aggOf P t = true ∨ (P.underlying t).isSome) : (P.underlying t).isSome := by
  rcases h with h | h
  · unfold aggOf at h
    cases e : P.underlying t with
    | none => rw [e] at h; cases h
    | some x => rfl
  · exact h
theorem op_field (lw : Lawful D P) (s : Sim K β F fr hp a w) {t : TypeId} {x : Operand} {f : Nat} (ho : o.op = .field t x f) (h : opK D H (.field t x f) d fr hp k = some r) : Post D P K o a w k r := by
  simp only [opK, arrK_eq] at h
  split at h
  · rename_i fs q1 q2 q3 q4 q5 q50 hti
    have ok := lk_ti lw hti
    split at h
    · rename_i o' s' g' cs hf hx
      split at h
      · rename_i l hl
        split at h
        · rename_i x' hm
          obtain ⟨fl, fd, j, h1, h2, h3, h4, h5, h7, h6, _⟩ := field_at ok rfl hf
          obtain ⟨vs, e, rl⟩ := evA_ok s hx
          subst h5
          obtain ⟨v, hv, ra⟩ := run_part h4 (ok.fund fl fd f h1 h2) h6 h7 rl hl hm
          exact Post.pure s h (cv := v) (by simp [execOp, ho, e, Instr.field, run_underlying h1, h2, asAgg, h3, hv]) ra
        · cases h
      · cases h
    · cases h
  · cases h
theorem szOk_eq (lw : Lawful D P) {e : TypeId} {t : Ty} (h : szOk D e t = true) : ∃ j, P.info? e = some j ∧ j.size = size D t := by
  unfold szOk at h
  split at h
  · rename_i ti hti
    obtain ⟨j, hj, hs, _⟩ := (lk_ti lw hti).info
    exact ⟨j, hj, by rw [hs]; exact Nat.eq_of_beq_eq_true h⟩
  · cases h
theorem idxK_some {R : Type} {len i : Int} {k : Option R} {r : R} (h : idxK len i k = some r) : 0 ≤ i ∧ i < len ∧ k = some r := by
  unfold idxK at h
  obtain ⟨h1, h⟩ := bK_some h
  obtain ⟨h2, h⟩ := bK_some h
  exact ⟨of_decide_eq_true h1, of_decide_eq_true h2, h⟩
theorem run_indexAt_slice {t e : TypeId} {j : TypeInfo} (hu : P.underlying t = some (.slice e)) (hj : P.info? e = some j) (w : World) {b o len cap : Nat} {k1 : IntKind} {i : Int} (h0 : 0 ≤ i) (h1 : i < (len : Int)) :
    (Instr.indexAt t (.slice (some ⟨b, o, none⟩) len cap) (.int k1 i)).run P w = .ok (.pointer (some ⟨b, o + i.toNat * j.size, none⟩)) w := by
  simp [Instr.indexAt, asIntOf, run_underlying hu, run_sizeOf' hj, h0, h1, Addr.add_lit]
theorem run_indexAt_array {t e : TypeId} {n : Nat} {j : TypeInfo} (hu : P.underlying t = some (.array n e)) (hj : P.info? e = some j) (w : World) {b o : Nat} {k1 : IntKind} {i : Int} (h0 : 0 ≤ i) (h1 : i < (n : Int)) :
    (Instr.indexAt t (.pointer (some ⟨b, o, none⟩)) (.int k1 i)).run P w = .ok (.pointer (some ⟨b, o + i.toNat * j.size, none⟩)) w := by
  simp [Instr.indexAt, asIntOf, run_underlying hu, run_sizeOf' hj, h0, h1, Addr.add_lit, Instr.sureAddr]
theorem evC_int (s : Sim K β F fr hp a w) {x : Operand} {k1 : IntKind} {n : Int} (h : evC fr x = some (.int k1 n)) : a.eval x = .int k1 n := by
  have r : RP D w F (.int k1 n) (a.eval x) := evC_ok s h
  generalize a.eval x = z at r
  cases r; rfl
theorem lt_toNat {i : Int} {n : Nat} (h0 : 0 ≤ i) (h : i < (n : Int)) : i.toNat < n := by omega
theorem op_indexAddr (lw : Lawful D P) (s : Sim K β F fr hp a w) {t : TypeId} {x y : Operand} (ho : o.op = .indexAddr t x y) (h : opK D H (.indexAddr t x y) d fr hp k = some r) : Post D P K o a w k r := by
  simp only [opK, arrK_eq] at h
  split at h
  · rename_i e q1 q2 q3 q4 q5 q50 c k1 i hti hc hi
    have hu : P.underlying t = some (.slice e) := (lk_ti lw hti).desc
    have ey := evC_int s hi
    split at h
    · rename_i t2 l2
      split at h
      · rename_i hsz
        obtain ⟨j, hj, hs⟩ := szOk_eq lw hsz
        obtain ⟨h0, h1, h⟩ := idxK_some h
        have rc : RP D w F (.lst t2 l2) (a.eval x) := evC_ok s hc
        generalize hz : a.eval x = z at rc
        cases rc with
        | lst0 => simp at h1; omega
        | lst _ _ b o2 cap f2 hb hcap hf2 hr2 =>
          have hlt := lt_toNat h0 h1
          refine Post.pure s h (cv := .pointer (some ⟨b, o2 + i.toNat * size D t2 + 0, none⟩)) (by simp [execOp, ho, hz, ey, run_indexAt_slice hu hj w h0 h1, hs]) (.fptr t2 l2 i.toNat 0 b o2 f2 hb hlt hf2 hr2)
      · cases h
    · rename_i id
      split at h
      · rename_i t2 l2 hl
        split at h
        · rename_i hsz
          obtain ⟨j, hj, hs⟩ := szOk_eq lw hsz
          obtain ⟨h0, h1, h⟩ := idxK_some h
          obtain ⟨t3, l3, g1, g⟩ := evC_ok s hc
          rw [hl] at g1
          injection g1 with g1
          injection g1 with g4 g5
          subst g4
          obtain rfl := eq_of_heq g5
          rcases g with ⟨_, rfl, _⟩ | ⟨L, cap, b1, r1, r2, r3⟩
          · simp at h1; omega
          · refine Post.pure s h (cv := .pointer (some ⟨L.b, L.o + i.toNat * size D t2 + 0, none⟩)) (by simp [execOp, ho, r3, ey, run_indexAt_slice hu hj w h0 h1, hs]) ⟨t2, l2, L, hl, b1, lt_toNat h0 h1, rfl⟩
        · cases h
      · cases h
    · rename_i id off n
      split at h
      · rename_i t2 l2 hl
        split at h
        · rename_i hsz
          obtain ⟨j, hj, hs⟩ := szOk_eq lw hsz
          obtain ⟨h0, h1, h⟩ := idxK_some h
          obtain ⟨t3, l3, g1, g0, g⟩ := evC_ok s hc
          rw [hl] at g1
          injection g1 with g1
          injection g1 with g4 g5
          subst g4
          obtain rfl := eq_of_heq g5
          have hlt := lt_toNat h0 h1
          rcases g with ⟨b0, aa, r3⟩ | ⟨L, cap, b1, r1, r2, r3 | ⟨rfl, _⟩⟩
          · rcases s.blk id _ hl with ⟨_, rfl⟩ | ⟨L', _, _, q, _⟩
            · simp at g0; omega
            · rw [b0] at q; cases q
          · refine Post.pure s h (cv := .pointer (some ⟨L.b, L.o + (off + i.toNat) * size D t2 + 0, none⟩)) (by simp [execOp, ho, r3, ey, run_indexAt_slice hu hj w h0 h1, hs, Nat.add_mul, Nat.add_assoc]) ⟨t2, l2, L, hl, b1, by omega, rfl⟩
          · omega
        · cases h
      · cases h
    · cases h
  · rename_i len esz g' q1 q2 q3 q4 q5 q50 id off k1 i hti hc hi
    obtain ⟨e, hu, he, hsz, _, hpos⟩ := (lk_ti lw hti).desc
    obtain ⟨j, hj, hs⟩ := cellsOf_info (P := P) (t := e) (by rw [hsz]; exact hpos)
    have ey := evC_int s hi
    obtain ⟨h0, h1, h⟩ := idxK_some h
    obtain ⟨cs, L, g1, g2, g3⟩ := evC_ok s hc
    refine Post.pure s h (cv := .pointer (some ⟨L.b, L.o + (off + i.toNat * esz), none⟩)) (by simp [execOp, ho, g3, ey, run_indexAt_array hu hj w h0 h1, hs, hsz, Nat.add_assoc]) ⟨cs, L, g1, g2, rfl⟩
  · rename_i len esz g' q1 q2 q3 q4 q5 q50 id e0 off k1 i hti hc hi
    obtain ⟨e, hu, he, hsz, _, hpos⟩ := (lk_ti lw hti).desc
    obtain ⟨j, hj, hs⟩ := cellsOf_info (P := P) (t := e) (by rw [hsz]; exact hpos)
    have ey := evC_int s hi
    obtain ⟨h0, h1, h⟩ := idxK_some h
    obtain ⟨t2, l2, L, g1, g2, g4, g3⟩ := evC_ok s hc
    refine Post.pure s h (cv := .pointer (some ⟨L.b, L.o + e0 * size D t2 + (off + i.toNat * esz), none⟩)) (by simp [execOp, ho, g3, ey, run_indexAt_array hu hj w h0 h1, hs, hsz, Nat.add_assoc]) ⟨t2, l2, L, g1, g2, g4, rfl⟩
  · rename_i len esz g' q1 q2 q3 q4 q5 q50 t2 l2 e0 off k1 i hti hc hi
    obtain ⟨e, hu, he, hsz, _, hpos⟩ := (lk_ti lw hti).desc
    obtain ⟨j, hj, hs⟩ := cellsOf_info (P := P) (t := e) (by rw [hsz]; exact hpos)
    have ey := evC_int s hi
    obtain ⟨h0, h1, h⟩ := idxK_some h
    have rc : RP D w F (.fptr t2 l2 e0 off) (a.eval x) := evC_ok s hc
    generalize hz : a.eval x = z at rc
    cases rc with
    | fptr _ _ _ _ b o2 f2 hb hlt hf2 hr2 =>
      refine Post.pure s h (cv := .pointer (some ⟨b, o2 + e0 * size D t2 + (off + i.toNat * esz), none⟩)) (by simp [execOp, ho, hz, ey, run_indexAt_array hu hj w h0 h1, hs, hsz, Nat.add_assoc]) (.fptr t2 l2 e0 _ b o2 f2 hb hlt hf2 hr2)
  · cases h
end
end Go.Proofs.Ytkpjeihgigmnkaa.Ev
/- Values without memory: parts of rows and texts; lengths; the greatest and the least; structs that are put together. -/
namespace Go.Proofs.Ytkpjeihgigmnkaa.Ev
open Go
set_option linter.unusedVariables false
set_option linter.unusedSimpArgs false
section
variable {D : Tys} {P : Program}
variable {R : Type} {H : HH D R} {K : Kx D} {β : Nat → Option Loc} {F : Nat → Prop} {fr : Tr (V D.S)} {hp : Tr (B D.S)} {a : Act} {w : World} {o : Oper} {d : Nat} {k : KK D R} {r : R}
theorem evC_str (s : Sim K β F fr hp a w) {x : Operand} {z : ByteArray} (h : evC fr x = some (.str z)) : a.eval x = .string z := by
  have r : RP D w F (.str z) (a.eval x) := evC_ok s h
  generalize a.eval x = y at r
  cases r; rfl
/-- A bound, as it is told, and as it is in memory. -/
def BoundOk (a : Act) (x : Option Operand) (i : Option Int) : Prop := match x, i with
  | none, none => True
  | some x, some i => ∃ k1, a.eval x = .int k1 i
  | _, _ => False
theorem optI_ok (s : Sim K β F fr hp a w) {x : Option Operand} {i : Option Int} (h : optI D fr x = some i) : BoundOk a x i := by
  cases x with
  | none => simp only [optI, Option.some.injEq] at h; subst h; trivial
  | some x =>
    simp only [optI] at h
    split at h
    · rename_i k1 n hn
      obtain rfl := Option.some.inj h
      exact ⟨k1, evC_int s hn⟩
    · cases h
theorem run_bounds {b : Bool} {len cap : Nat} {lo hi : Option Operand} {l h : Option Int} (hl : BoundOk a lo l) (hh : BoundOk a hi h) (w : World) (h0 : 0 ≤ l.getD 0) (h1 : l.getD 0 ≤ h.getD (len : Int)) (h2 : h.getD (len : Int) ≤ (cap : Int)) :
    (Instr.sliceBounds b len cap (lo.map a.eval) (hi.map a.eval) none).run P w = .ok ((l.getD 0).toNat, (h.getD (len : Int)).toNat, cap) w := by
  cases lo with
  | none =>
    cases l with
    | some l => exact hl.elim
    | none =>
      cases hi with
      | none =>
        cases h with
        | some h => exact hh.elim
        | none => simp [Instr.sliceBounds]
      | some hi =>
        cases h with
        | none => exact hh.elim
        | some h =>
          obtain ⟨k2, e2⟩ := hh
          simp only [Option.getD_some, Option.getD_none] at h0 h1 h2
          have g1 : 0 ≤ h := by omega
          simp [Instr.sliceBounds, Instr.sliceBound, asIntOf, e2, g1, h2]
  | some lo =>
    cases l with
    | none => exact hl.elim
    | some l =>
      obtain ⟨k1, e1⟩ := hl
      cases hi with
      | none =>
        cases h with
        | some h => exact hh.elim
        | none =>
          simp only [Option.getD_some, Option.getD_none] at h0 h1 h2
          simp [Instr.sliceBounds, Instr.sliceBound, asIntOf, e1, h0, h1]
      | some hi =>
        cases h with
        | none => exact hh.elim
        | some h =>
          obtain ⟨k2, e2⟩ := hh
          simp only [Option.getD_some] at h0 h1 h2
          have g1 : 0 ≤ h := by omega
          have g2 : l ≤ ((h.toNat : Nat) : Int) := by omega
          simp [Instr.sliceBounds, Instr.sliceBound, asIntOf, e1, e2, g1, h2, h0, g2]
          omega
theorem sliceAt_slice {t e : TypeId} {j : TypeInfo} (hu : P.underlying t = some (.slice e)) (hj : P.info? e = some j) {A : Option Addr} {len cap : Nat} {lo hi : Option Operand} {l h : Option Int} (hl : BoundOk a lo l) (hh : BoundOk a hi h) (w : World)
    (h0 : 0 ≤ l.getD 0) (h1 : l.getD 0 ≤ h.getD (len : Int)) (h2 : h.getD (len : Int) ≤ (cap : Int)) :
    (Instr.sliceAt t (.slice A len cap) (lo.map a.eval) (hi.map a.eval) none).run P w =
      .ok (.slice (if cap = (l.getD 0).toNat then A else A.map (·.add ((l.getD 0).toNat * j.size))) ((h.getD (len : Int)).toNat - (l.getD 0).toNat) (cap - (l.getD 0).toNat)) w := by
  have hb := run_bounds (P := P) (b := true) hl hh w h0 h1 h2
  simp only [Instr.sliceAt, Sem.run_bind, run_underlying hu, Result.andThen_ok, Instr.slice, hb, run_sizeOf' hj]
  rfl
theorem sliceAt_str {t : TypeId} (hu : P.underlying t = some .string) {z : ByteArray} {lo hi : Option Operand} {l h : Option Int} (hl : BoundOk a lo l) (hh : BoundOk a hi h) (w : World)
    (h0 : 0 ≤ l.getD 0) (h1 : l.getD 0 ≤ h.getD (z.size : Int)) (h2 : h.getD (z.size : Int) ≤ (z.size : Int)) :
    (Instr.sliceAt t (.string z) (lo.map a.eval) (hi.map a.eval) none).run P w = .ok (.string (z.extract (l.getD 0).toNat (h.getD (z.size : Int)).toNat)) w := by
  have hb := run_bounds (P := P) (b := false) hl hh w h0 h1 h2
  simp [Instr.sliceAt, run_underlying hu, Instr.slice, hb]
/-- What the four ways of a part come to. -/
theorem ways {R : Type} {len : Int} {lo hi : Option Int} {k0 : Option R} {k1 k2 : Int → Option R} {k3 : Int → Int → Option R} {r : R} (hlen : 0 ≤ len)
    (h : (match lo, hi with
      | none, none => k0
      | none, some h => bK (decide (0 ≤ h)) (bK (decide (h ≤ len)) (k1 h))
      | some l, none => bK (decide (0 ≤ l)) (bK (decide (l ≤ len)) (k2 l))
      | some l, some h => bK (decide (0 ≤ h)) (bK (decide (h ≤ len)) (bK (decide (0 ≤ l)) (bK (decide (l ≤ h)) (k3 l h))))) = some r) :
    0 ≤ lo.getD 0 ∧ lo.getD 0 ≤ hi.getD len ∧ hi.getD len ≤ len ∧ (match lo, hi with | none, none => k0 | none, some h => k1 h | some l, none => k2 l | some l, some h => k3 l h) = some r := by
  cases lo with
  | none =>
    cases hi with
    | none => exact ⟨Int.le_refl _, hlen, Int.le_refl _, h⟩
    | some x =>
      obtain ⟨h1, h⟩ := bK_some h
      obtain ⟨h2, h⟩ := bK_some h
      exact ⟨Int.le_refl _, of_decide_eq_true h1, of_decide_eq_true h2, h⟩
  | some l =>
    cases hi with
    | none =>
      obtain ⟨h1, h⟩ := bK_some h
      obtain ⟨h2, h⟩ := bK_some h
      exact ⟨of_decide_eq_true h1, of_decide_eq_true h2, Int.le_refl _, h⟩
    | some x =>
      obtain ⟨h1, h⟩ := bK_some h
      obtain ⟨h2, h⟩ := bK_some h
      obtain ⟨h3, h⟩ := bK_some h
      obtain ⟨h4, h⟩ := bK_some h
      exact ⟨of_decide_eq_true h3, of_decide_eq_true h4, of_decide_eq_true h2, h⟩
/-- A part of a row that is told by value. -/
theorem lst_part {w F} {t : Ty} {l : List (T D.S t)} {b o cap : Nat} {f : Nat → Nat → Value} (hb : F b) (hc : l.length ≤ cap) (hf : ∀ i j, i < l.length → j < size D t → w.cell? ⟨b, o + i * size D t + j, none⟩ = some (f i j))
    (hr : ∀ i (hi : i < l.length) j x, (encL D t (l[i]'hi))[j]? = some x → RP D w F x (f i j)) {lo n : Nat} (hn : lo + n ≤ l.length) {l' : List (T D.S t)} (hl' : l' = (l.drop lo).take n) :
    RP D w F (.lst t l') (.slice (if cap = lo then some ⟨b, o, none⟩ else some ⟨b, o + lo * size D t, none⟩) n (cap - lo)) := by
  subst hl'
  have hlen : ((l.drop lo).take n).length = n := by rw [List.length_take, List.length_drop]; omega
  by_cases e : cap = lo
  · rw [if_pos e]
    obtain rfl : n = 0 := by omega
    rw [List.take_zero]
    exact .lst0 _ _ _ (fun h => by cases h)
  · rw [if_neg e]
    have key := RP.lst (D := D) (w := w) (F := F) t ((l.drop lo).take n) b (o + lo * size D t) (cap - lo) (fun i j => f (lo + i) j) hb (by rw [hlen]; omega)
      (fun i j hi hj => by
        rw [hlen] at hi
        have := hf (lo + i) j (by omega) hj
        rw [← this, show o + lo * size D t + i * size D t + j = o + (lo + i) * size D t + j by rw [Nat.add_mul]; omega])
      (fun i hi j x hx => by
        have hi' : i < n := by rw [hlen] at hi; exact hi
        have e : ((l.drop lo).take n)[i]'hi = l[lo + i]'(by omega) := by rw [List.getElem_take, List.getElem_drop]
        rw [e] at hx
        exact hr (lo + i) (by omega) j x hx)
    rw [hlen] at key
    exact key
theorem i64s_at : ∀ {cs : List (C D.S)} {l : List Int}, i64s cs = some l → l.length = cs.length ∧ ∀ (j : Nat) n, l[j]? = some n → cs[j]? = some (.int .i64 n)
  | [], l, h => by obtain rfl := Option.some.inj h; exact ⟨rfl, fun j n hn => by simp at hn⟩
  | c :: cs, l, h => by
    unfold i64s at h
    split at h
    · rename_i e; cases e
    · rename_i n cs' e
      injection e with e1 e2
      subst e1; subst e2
      split at h
      · rename_i l' hl'
        obtain rfl := Option.some.inj h
        obtain ⟨i1, i2⟩ := i64s_at hl'
        refine ⟨by simp [i1], fun j m hm => ?_⟩
        cases j with
        | zero => simp at hm; subst hm; rfl
        | succ j => simpa using i2 j m (by simpa using hm)
      · cases h
    · cases h
/-- An array is cut. -/
theorem op_row (lw : Lawful D P) (s : Sim K β F fr hp a w) (hd : d < 65535) {t : TypeId} {x : Operand} {ti : TI D.S} {c : C D.S} (hti : lk D.ti t = some ti) (hc : evC fr x = some c) (ho : o.op = .slice t x none none none) (h : rowK D ti.d c d fr hp k = some r) : Post D P K o a w k r := by
  have hdesc := (lk_ti lw hti).desc
  have rc := evC_ok s hc
  unfold rowK at h
  split at h
  case h_2 => cases h
  rename_i q0 q1 len esz g id e off hd0
  rw [hd0] at hdesc
  split at h
  case h_2 => cases h
  rename_i q2 q3 t1 v hb hi
  rw [Bool.and_eq_true, Bool.and_eq_true] at hb
  have h1 := Nat.eq_of_beq_eq_true hb.1
  have h2 := Nat.eq_of_beq_eq_true hb.2.1
  have h3 := Nat.eq_of_beq_eq_true hb.2.2
  subst h1; subst h2; subst h3
  split at h
  case h_2 => cases h
  rename_i l hl
  split at h
  case h_2 => cases h
  rename_i hlen
  have hlen := Nat.eq_of_beq_eq_true hlen
  subst hlen
  obtain ⟨el, ea⟩ := i64s_at hl
  obtain ⟨e, hu, hsome, hcells, _, _⟩ := hdesc
  obtain ⟨t2, l2, L, g1, g2, _, ev⟩ := rc
  rw [hi] at g1
  simp only [Option.some.injEq, B.arr.injEq] at g1
  obtain ⟨rfl, g1⟩ := g1
  obtain rfl := eq_of_heq g1
  have hsl : size D t1 = l.length := by rw [el, encL_len lw]
  rcases s.blk id _ hi with ⟨b0, b1⟩ | ⟨L', vs, e', r1, r2, r3, r4, r5⟩
  · rw [b0] at g2; cases g2
  rw [g2] at r1
  obtain rfl := Option.some.inj r1
  have hLb := s.sep id _ L hi g2
  have hid := s.key id _ hi
  have hG := s.gsep id _ L hi g2
  have hg' : ∀ q, (hp.set depth id none).get q = if q = id then none else hp.get q := fun q => Tr.get_set _ _ _ _ _ (by rw [depth_ok]; omega)
  rw [killK_eq] at h
  obtain ⟨s1, _⟩ := s.kill hid hi
  have hback : ∀ q b, ((hp.set depth id none).map (mapB (killF id))).get q = some b → q ≠ id ∧ ∃ b', hp.get q = some b' := fun q b hq => by
    rw [Tr.get_map, hg'] at hq
    by_cases eq : q = id
    · rw [if_pos eq] at hq; cases hq
    · rw [if_neg eq] at hq
      obtain ⟨b', hb', _⟩ := Option.map_eq_some_iff.mp hq
      exact ⟨eq, b', hb'⟩
  generalize (hp.set depth id none).map (mapB (killF id)) = hp1 at h s1 hback
  generalize fr.map (mapV (killF id)) = fr1 at h s1
  have hlive : ∀ q b' L2, hp1.get q = some b' → β q = some L2 → L2.b ≠ L.b := fun q b' L2 hq hL2 e => by
    obtain ⟨h1, b2, hb2⟩ := hback q b' hq
    exact h1 (s.inj q id b2 _ L2 L hb2 hi hL2 g2 e)
  unfold newK at h
  split at h
  · cases h
  rename_i hdn
  rw [Tr.setK_eq] at h
  have hg2 : ∀ q, (hp1.set depth d (some (.arr (.int .i64) l))).get q = if q = d then some (.arr (.int .i64) l) else hp1.get q := fun q => Tr.get_set _ _ _ _ _ (by rw [depth_ok]; omega)
  have hs1 : size D (.int .i64) = 1 := rfl
  obtain ⟨s3, g3⟩ := s1.new hdn hd (.arr (.int .i64) l) (some L) (fun L' e => by
      obtain rfl := Option.some.inj e
      exact ⟨hLb.2, hLb.1, hlive, hG⟩)
    (.inr ⟨L, vs, e', upd_at _ _ _, r2, r3, by simp only [List.length_singleton] at r4; rw [hs1]; omega, fun q hq jj y hy => by
      obtain ⟨rfl, rfl⟩ : jj = 0 ∧ y = .int .i64 l[q] := by
        have : (encL D (.int .i64) (l[q]'hq))[jj]? = ([.int .i64 l[q]] : List (C D.S))[jj]? := rfl
        rw [this] at hy
        cases jj with
        | zero => simp at hy; exact ⟨rfl, hy.symm⟩
        | succ jj => simp at hy
      obtain ⟨u, hu', ru⟩ := r5 0 (by simp) q _ (ea q _ (List.getElem?_eq_getElem hq))
      exact ⟨u, by rw [hs1]; simpa using hu', ru⟩⟩)
  have hrun : (Instr.sliceAt t (.pointer (some ⟨L.b, L.o, none⟩)) none none none).run P w = .ok (.slice (some ⟨L.b, L.o, none⟩) l.length l.length) w := by
    obtain ⟨j, hj⟩ := Option.isSome_iff_exists.mp hsome
    by_cases h0 : l.length = 0
    · simp [Instr.sliceAt, Instr.sureAddr, run_underlying hu, Instr.sliceBounds, Instr.sliceBound, sizeOf, typeInfo, hj, h0, Addr.add]
    · simp [Instr.sliceAt, Instr.sureAddr, run_underlying hu, Instr.sliceBounds, Instr.sliceBound, sizeOf, typeInfo, hj, h0, Ne.symm h0, Addr.add]
  have ev' : a.eval x = .pointer (some ⟨L.b, L.o, none⟩) := by rw [ev]; simp
  refine ⟨_, _, _, h, _, F, _, w, .inl (by simp [execOp, ho, ev', hrun]), s3, ⟨.int .i64, l, by rw [hg2, if_pos rfl], .inr ⟨L, l.length, upd_at _ _ _, Nat.le_refl _, by simp only [List.length_singleton] at r4; rw [hs1]; omega, rfl⟩⟩⟩
theorem op_slice (lw : Lawful D P) (s : Sim K β F fr hp a w) (hd' : d < 65535) {t : TypeId} {x : Operand} {lo hi : Option Operand} (ho : o.op = .slice t x lo hi none) (h : opK D H (.slice t x lo hi none) d fr hp k = some r) : Post D P K o a w k r := by
  simp only [opK] at h
  split at h
  case h_2 =>
    split at h
    · rename_i ti c hti hc
      exact op_row lw s hd' hti hc ho h
    · cases h
  split at h
  case h_2 => cases h
  rename_i dd q1 q2 q3 q4 q5 q50 c l1 h1 hti hc hl hh
  have bl := optI_ok s hl
  have bh := optI_ok s hh
  have hd := (lk_ti lw hti).desc
  clear hl hh
  unfold sliceK at h
  split at h
  · rename_i z
    have hu : P.underlying t = some .string := hd
    have ex := evC_str s hc
    obtain ⟨g0, g1, g2, h⟩ := ways (by omega) h
    have hr := sliceAt_str (P := P) hu bl bh w g0 g1 g2
    refine Post.pure s (v := cV (.str (z.extract (l1.getD 0).toNat (h1.getD (z.size : Int)).toNat))) (cv := .string (z.extract (l1.getD 0).toNat (h1.getD (z.size : Int)).toNat)) ?_ (by simp [execOp, ho, ex, hr]) (.str _)
    cases l1 <;> cases h1 <;> simp only [Option.getD_some, Option.getD_none, Int.toNat_natCast, Int.toNat_zero] <;> first | exact h | skip
    rw [show z.extract 0 z.size = z from ByteArray.extract_zero_size]
    exact h
  · rename_i e t2 l2
    split at h
    · cases h
    rename_i hsz
    obtain ⟨j, hj, hs⟩ := szOk_eq lw hsz
    have hu : P.underlying t = some (.slice e) := hd
    obtain ⟨g0, g1, g2, h⟩ := ways (by omega) h
    have rc : RP D w F (.lst t2 l2) (a.eval x) := evC_ok s hc
    have key : ∀ l' : List (T D.S t2), l' = (l2.drop (l1.getD 0).toNat).take ((h1.getD (l2.length : Int)).toNat - (l1.getD 0).toNat) → k (cV (.lst t2 l')) fr hp = some r → Post D P K o a w k r := by
      intro l' hl' hk
      generalize hz : a.eval x = z at rc
      cases rc with
      | lst0 _ A cap hn =>
        have hr := sliceAt_slice (P := P) (A := A) (len := 0) (cap := cap) hu hj bl bh w g0 g1 (by simp at g2 ⊢; omega)
        refine Post.pure s hk (by simp only [execOp, ho, hz]; simp [hr] <;> rfl) ?_
        have e0 : l' = [] := by rw [hl']; simp
        have g1' : l1.getD 0 ≤ h1.getD 0 := g1
        have g2' : h1.getD 0 ≤ 0 := g2
        rw [e0, show ((h1.getD 0).toNat - (l1.getD 0).toNat) = 0 by omega]
        refine .lst0 _ _ _ (fun h => ?_)
        split at h
        · rename_i e2; have := hn h; omega
        · cases A with
          | none => have := hn rfl; omega
          | some A => simp at h
      | lst _ _ b o2 cap f2 hb hcap hf2 hr2 =>
        have hr := sliceAt_slice (P := P) (A := some ⟨b, o2, none⟩) (len := l2.length) (cap := cap) hu hj bl bh w g0 g1 (by omega)
        refine Post.pure s hk (by simp only [execOp, ho, hz]; simp [hr] <;> rfl) ?_
        have := lst_part (lo := (l1.getD 0).toNat) (n := (h1.getD (l2.length : Int)).toNat - (l1.getD 0).toNat) hb hcap hf2 hr2 (by omega) hl'
        rw [hs]
        simp only [Option.map_some, Addr.add_lit]
        exact this
    cases l1 <;> cases h1 <;> simp only [Option.getD_some, Option.getD_none, Int.toNat_natCast, Int.toNat_zero, Nat.sub_zero, List.drop_zero, List.take_length] at key
    · exact key _ rfl h
    · exact key _ rfl h
    · refine key _ ?_ h
      rw [List.take_of_length_le (by rw [List.length_drop]; omega)]
    · exact key _ rfl h
  · rename_i e id
    split at h
    · rename_i t2 l2 hl2
      split at h
      · cases h
      rename_i hsz
      obtain ⟨j, hj, hs⟩ := szOk_eq lw hsz
      have hu : P.underlying t = some (.slice e) := hd
      obtain ⟨g0, g1, g2, h⟩ := ways (by omega) h
      obtain ⟨t3, l3, q6, g⟩ := evC_ok s hc
      rw [hl2] at q6
      injection q6 with q6
      injection q6 with q7 q8
      subst q7
      obtain rfl := eq_of_heq q8
      rcases g with ⟨b0, rfl, A, ex⟩ | ⟨L, cap, b1, r1, r2, ex⟩
      · have hr := sliceAt_slice (P := P) (A := A) (len := 0) (cap := 0) hu hj bl bh w g0 g1 g2
        simp only [List.length_nil] at g0 g1 g2
        have e1 : (l1.getD 0).toNat = 0 := by omega
        have e2 : (h1.getD ((0 : Nat) : Int)).toNat = 0 := by omega
        rw [e1, e2, if_pos rfl] at hr
        have ro : ∀ l' n, l' + n = 0 → RV D w F hp.get β (cV (.part id l' n)) (.slice A 0 0) := fun l' n e => ⟨t2, [], hl2, by simp; omega, .inl ⟨b0, A, rfl⟩⟩
        cases l1 <;> cases h1
        · exact Post.pure s h (by simp only [execOp, ho, ex]; simp [hr] <;> rfl) ⟨t2, [], hl2, .inl ⟨b0, rfl, A, rfl⟩⟩
        · exact Post.pure s h (by simp only [execOp, ho, ex]; simp [hr] <;> rfl) (ro _ _ (by simp at e2 ⊢; omega))
        · exact Post.pure s h (by simp only [execOp, ho, ex]; simp [hr] <;> rfl) (ro _ _ (by simp at e1 ⊢; omega))
        · exact Post.pure s h (by simp only [execOp, ho, ex]; simp [hr] <;> rfl) (ro _ _ (by simp at e1 e2 ⊢; omega))
      · have hr := sliceAt_slice (P := P) (A := some ⟨L.b, L.o, none⟩) (len := l2.length) (cap := cap) hu hj bl bh w g0 g1 (by omega)
        have ro : ∀ l' n, l' + n ≤ l2.length → RV D w F hp.get β (cV (.part id l' n)) (.slice (if cap = l' then some ⟨L.b, L.o, none⟩ else Option.map (fun q : Addr => q.add (l' * j.size)) (some ⟨L.b, L.o, none⟩)) n (cap - l')) := fun l' n hn => by
          refine ⟨t2, l2, hl2, hn, .inr ⟨L, cap - l', b1, by omega, ?_, ?_⟩⟩
          · rw [show l' + (cap - l') = cap by omega]; exact r2
          · by_cases e : cap = l'
            · rw [if_pos e]
              exact .inr ⟨by omega, some ⟨L.b, L.o, none⟩, by rw [show n = 0 by omega, show cap - l' = 0 by omega]⟩
            · rw [if_neg e, hs]
              exact .inl (by simp only [Option.map_some, Addr.add_lit])
        cases l1 <;> cases h1
        · refine Post.pure s h (cv := .slice (some ⟨L.b, L.o, none⟩) l2.length cap) ?_ ⟨t2, l2, hl2, .inr ⟨L, cap, b1, r1, r2, rfl⟩⟩
          simp only [execOp, ho, ex]
          simp [hr, Addr.add_lit]
        · exact Post.pure s h (by simp only [execOp, ho, ex]; simp [hr] <;> rfl) (by simpa using ro 0 _ (by simp at g2 ⊢; omega))
        · exact Post.pure s h (by simp only [execOp, ho, ex]; simp [hr] <;> rfl) (by simpa using ro _ _ (by simp at g1 ⊢; omega))
        · exact Post.pure s h (by simp only [execOp, ho, ex]; simp [hr] <;> rfl) (by simpa using ro _ _ (by simp at g1 g2 ⊢; omega))
    · cases h
  · rename_i e id off n
    split at h
    · rename_i t2 l2 hl2
      split at h
      · cases h
      rename_i hsz
      obtain ⟨j, hj, hs⟩ := szOk_eq lw hsz
      have hu : P.underlying t = some (.slice e) := hd
      obtain ⟨g0, g1, g2, h⟩ := ways (by omega) h
      obtain ⟨t3, l3, q6, g3, g⟩ := evC_ok s hc
      rw [hl2] at q6
      injection q6 with q6
      injection q6 with q7 q8
      subst q7
      obtain rfl := eq_of_heq q8
      -- an empty part without a place of its own
      have zero : ∀ A, a.eval x = .slice A 0 0 → n = 0 → (∀ l' n', l' + n' = 0 → RV D w F hp.get β (cV (.part id (off + l') n')) (.slice A 0 0)) → Post D P K o a w k r := by
        intro A ex hn ro
        subst hn
        have hr := sliceAt_slice (P := P) (A := A) (len := 0) (cap := 0) hu hj bl bh w g0 g1 g2
        have e1 : (l1.getD 0).toNat = 0 := by omega
        have e2 : (h1.getD ((0 : Nat) : Int)).toNat = 0 := by omega
        rw [e1, e2, if_pos rfl] at hr
        cases l1 <;> cases h1
        · exact Post.pure s h (by simp only [execOp, ho, ex]; simp [hr] <;> rfl) (by simpa using ro 0 0 rfl)
        · exact Post.pure s h (by simp only [execOp, ho, ex]; simp [hr] <;> rfl) (by simpa using ro 0 _ (by simp at e2 ⊢; omega))
        · exact Post.pure s h (by simp only [execOp, ho, ex]; simp [hr] <;> rfl) (by simpa using ro _ _ (by simp at e1 ⊢; omega))
        · exact Post.pure s h (by simp only [execOp, ho, ex]; simp [hr] <;> rfl) (by simpa using ro _ _ (by simp at e1 e2 ⊢; omega))
      rcases g with ⟨b0, A, ex⟩ | ⟨L, cap, b1, r1, r2, ex | ⟨rfl, A, ex⟩⟩
      · have hl0 : l2 = [] := by
          rcases s.blk id _ hl2 with ⟨_, e0⟩ | ⟨L', _, _, q, _⟩
          · exact e0
          · rw [b0] at q; cases q
        subst hl0
        simp at g3
        exact zero A ex (by omega) fun l' n' e => ⟨t2, [], hl2, by simp; omega, .inl ⟨b0, A, rfl⟩⟩
      · have hr := sliceAt_slice (P := P) (A := some ⟨L.b, L.o + off * size D t2, none⟩) (len := n) (cap := cap) hu hj bl bh w g0 g1 (by omega)
        have ro : ∀ l' n', l' + n' ≤ n → RV D w F hp.get β (cV (.part id (off + l') n')) (.slice (if cap = l' then some ⟨L.b, L.o + off * size D t2, none⟩ else Option.map (fun q : Addr => q.add (l' * j.size)) (some ⟨L.b, L.o + off * size D t2, none⟩)) n' (cap - l')) := fun l' n' hn => by
          refine ⟨t2, l2, hl2, by omega, .inr ⟨L, cap - l', b1, by omega, ?_, ?_⟩⟩
          · rw [show off + l' + (cap - l') = off + cap by omega]; exact r2
          · by_cases e : cap = l'
            · rw [if_pos e]
              exact .inr ⟨by omega, _, by rw [show n' = 0 by omega, show cap - l' = 0 by omega]⟩
            · rw [if_neg e, hs]
              exact .inl (by simp only [Option.map_some, Addr.add_lit]; rw [Nat.add_mul, Nat.add_assoc])
        cases l1 <;> cases h1
        · refine Post.pure s h (cv := .slice (some ⟨L.b, L.o + off * size D t2, none⟩) n cap) ?_ ⟨t2, l2, hl2, g3, .inr ⟨L, cap, b1, r1, r2, .inl rfl⟩⟩
          simp only [execOp, ho, ex]
          simp [hr, Addr.add_lit]
        · exact Post.pure s h (by simp only [execOp, ho, ex]; simp [hr] <;> rfl) (by simpa using ro 0 _ (by simp at g2 ⊢; omega))
        · exact Post.pure s h (by simp only [execOp, ho, ex]; simp [hr] <;> rfl) (by simpa using ro _ _ (by simp at g1 ⊢; omega))
        · exact Post.pure s h (by simp only [execOp, ho, ex]; simp [hr] <;> rfl) (by simpa using ro _ _ (by simp at g1 g2 ⊢; omega))
      · obtain rfl : n = 0 := by omega
        exact zero A ex rfl fun l' n' e => by
          obtain rfl : l' = 0 := by omega
          obtain rfl : n' = 0 := by omega
          exact ⟨t2, l2, hl2, g3, .inr ⟨L, 0, b1, Nat.le_refl _, r2, .inr ⟨rfl, A, rfl⟩⟩⟩
    · cases h
  · cases h
end
end Go.Proofs.Ytkpjeihgigmnkaa.Ev
/- Values without memory: elements of texts, lengths, structs that are put together; blocks that are made. -/
namespace Go.Proofs.Ytkpjeihgigmnkaa.Ev
open Go
set_option linter.unusedVariables false
set_option linter.unusedSimpArgs false
section
variable {D : Tys} {P : Program}
variable {R : Type} {H : HH D R} {K : Kx D} {β : Nat → Option Loc} {F : Nat → Prop} {fr : Tr (V D.S)} {hp : Tr (B D.S)} {a : Act} {w : World} {o : Oper} {d : Nat} {k : KK D R} {r : R}
theorem bt_eq (z : ByteArray) (i : Nat) (h : i < z.size) : btE z i = ((z[i]'h).toNat : Int) := by
  unfold btE
  have h' : i < z.data.toList.length := by rw [Array.length_toList]; exact h
  rw [List.getD_eq_getElem?_getD, List.getElem?_eq_getElem h']
  rfl
theorem op_index (lw : Lawful D P) (s : Sim K β F fr hp a w) {t : TypeId} {x y : Operand} (ho : o.op = .index t x y) (h : opK D H (.index t x y) d fr hp k = some r)
    : Post D P K o a w k r := by
  simp only [opK, arrK_eq] at h
  split at h
  · rename_i q1 q2 q3 q4 q5 q50 z k1 i hti hx hi
    have hu : P.underlying t = some .string := (lk_ti lw hti).desc
    have ex := evA_str s hx
    have ey := evC_int s hi
    obtain ⟨h0, h1, h⟩ := idxK_some h
    have hlt : i.toNat < z.size := by omega
    refine Post.pure s h (cv := .int .u8 (btE z i.toNat)) ?_ (.int _ _)
    rw [bt_eq z _ hlt]
    have h3 : (if 0 ≤ i then z[i.toNat]? else none) = some z[i.toNat] := by rw [if_pos h0, ByteArray.getElem?_lt' z _ hlt]
    simp only [execOp, ho, ex, ey, Instr.index, asIntOf, Sem.run_bind, run_underlying hu, Result.andThen_ok, Sem.run_pure, h3]
  · rename_i len esz g q1 q2 q3 q4 q5 q50 cs k1 i hti hx hi
    obtain ⟨e, hu, he, hsz, hg, hpos⟩ := (lk_ti lw hti).desc
    have ey := evC_int s hi
    obtain ⟨h0, h1, h⟩ := idxK_some h
    split at h
    · rename_i l hl
      split at h
      · rename_i x' hm
        obtain ⟨j, hj, hs⟩ := cellsOf_info (P := P) (t := e) (by rw [hsz]; exact hpos)
        obtain ⟨vs, ex, rl⟩ := evA_ok s hx
        have hue : (P.underlying e).isSome := (lk_ti lw hti).aund len e hu
        rw [← hsz, ← hs] at hl
        obtain ⟨v, hv, ra⟩ := run_part hj hue (by rw [hs, hsz]; exact hpos) hg rl hl hm
        rw [hs, hsz] at hv
        refine Post.pure s h (cv := v) ?_ ra
        simp [execOp, ho, ex, ey, Instr.index, asIntOf, run_underlying hu, h0, h1, run_sizeOf' hj, hs, hsz, hv]
      · cases h
    · cases h
  · cases h
theorem evAs_ok (s : Sim K β F fr hp a w) : ∀ {xs : List Operand} {as : List (A D.S)}, evAs D fr xs = some as → as.length = xs.length ∧ ∀ (j : Nat) x y, as[j]? = some x → xs[j]? = some y → RA D w F hp.get β x (a.eval y)
  | [], as, h => by simp only [evAs, Option.some.injEq] at h; subst h; exact ⟨rfl, fun j x y hx => by simp at hx⟩
  | x :: xs, as, h => by
    simp only [evAs] at h
    split at h
    · rename_i x' hx
      split at h
      · rename_i rs hr
        obtain rfl := Option.some.inj h
        obtain ⟨i1, i2⟩ := evAs_ok s hr
        refine ⟨by simp [i1], fun j y z hy hz => ?_⟩
        cases j with
        | zero => simp at hy hz; subst hy; subst hz; exact evA_ok s hx
        | succ j => simp at hy hz; exact i2 j y z hy hz
      · cases h
    · cases h
theorem evAs_one (s : Sim K β F fr hp a w) {xs : Array Operand} {x : A D.S} (h : evAs D fr xs.toList = some [x]) : ∃ y, xs = #[y] ∧ RA D w F hp.get β x (a.eval y) := by
  obtain ⟨h1, h2⟩ := evAs_ok s h
  match e : xs.toList, h1 with
  | [y], _ =>
    refine ⟨y, by apply Array.toList_inj.mp; rw [e], h2 0 x y rfl (by rw [e]; rfl)⟩
theorem evAs_two (s : Sim K β F fr hp a w) {xs : Array Operand} {x x' : A D.S} (h : evAs D fr xs.toList = some [x, x']) : ∃ y y', xs = #[y, y'] ∧ RA D w F hp.get β x (a.eval y) ∧ RA D w F hp.get β x' (a.eval y') := by
  obtain ⟨h1, h2⟩ := evAs_ok s h
  match e : xs.toList, h1 with
  | [y, y'], _ =>
    refine ⟨y, y', by apply Array.toList_inj.mp; rw [e], h2 0 x y rfl (by rw [e]; rfl), h2 1 x' y' rfl (by rw [e]; rfl)⟩
theorem exec_builtin (b : Builtin) (args : Array Operand) (ts : Array TypeId) (ho : o.op = .call ⟨.builtin b, args, ts⟩) (w : World) :
    ∃ cs, (execOp a.eval o).run P w = (builtin b ts o.type cs (args.map a.eval)).run P w := by
  simp only [execOp, ho, resolve, Sem.run_bind, Sem.run_pure, Result.andThen_ok, invoke]
  exact ⟨_, rfl⟩
theorem op_len (lw : Lawful D P) (s : Sim K β F fr hp a w) {args : Array Operand} {ts : Array TypeId} (ho : o.op = .call ⟨.builtin .len, args, ts⟩) (h : opK D H (.call ⟨.builtin .len, args, ts⟩) d fr hp k = some r) : Post D P K o a w k r := by
  simp only [opK, arrK_eq] at h
  split at h
  · rename_i c t ha ht
    split at h
    · rename_i ti hti
      split at h
      · rename_i n hn
        obtain ⟨y, rfl, ra⟩ := evAs_one s ha
        obtain rfl : ts = #[t] := by apply Array.toList_inj.mp; rw [ht]
        have hd := (lk_ti lw hti).desc
        have key : ∀ v, a.eval y = v → (Builtin.len_ #[t] o.type #[v]).run P w = .ok (.int .i64 n) w → Post D P K o a w k r := fun v ev hr => by
          refine Post.pure s h (cv := .int .i64 n) ?_ (.int _ _)
          obtain ⟨cs, hx⟩ := exec_builtin (P := P) (a := a) _ _ _ ho w
          rw [hx]
          simp [builtin, ev, hr]
        generalize ti.d = dd at hd hn
        unfold lenC at hn
        split at hn
        · obtain rfl := Option.some.inj hn
          have hu : P.underlying t = some .string := hd
          have r0 : RP D w F (.str _) (a.eval y) := ra
          generalize e : a.eval y = v at r0
          cases r0
          exact key _ e (by simp [Builtin.len_, run_underlying hu, goInt])
        · have hd : P.underlying t = some (.slice _) := hd
          obtain rfl := Option.some.inj hn
          have r0 : RP D w F (.lst _ _) (a.eval y) := ra
          generalize e : a.eval y = v at r0
          cases r0
          · exact key _ e (by simp [Builtin.len_, run_underlying hd, goInt])
          · exact key _ e (by simp [Builtin.len_, run_underlying hd, goInt])
        · have hd : P.underlying t = some (.slice _) := hd
          split at hn
          · rename_i t2 l2 hl2
            obtain rfl := Option.some.inj hn
            obtain ⟨t3, l3, q1, g⟩ := ra
            rw [hl2] at q1
            injection q1 with q1
            injection q1 with q2 q3
            subst q2
            obtain rfl := eq_of_heq q3
            rcases g with ⟨_, rfl, A, e⟩ | ⟨L, cap, _, _, _, e⟩
            · exact key _ e (by simp [Builtin.len_, run_underlying hd, goInt])
            · exact key _ e (by simp [Builtin.len_, run_underlying hd, goInt])
          · cases hn
        · rename_i id off n'
          have hd : P.underlying t = some (.slice _) := hd
          obtain rfl := Option.some.inj hn
          obtain ⟨t3, l3, q1, q2, g⟩ := ra
          rcases g with ⟨b0, A, e⟩ | ⟨L, cap, _, q3, _, e | ⟨q4, A, e⟩⟩
          · rcases s.blk id _ q1 with ⟨_, e0⟩ | ⟨L', _, _, q, _⟩
            · subst e0
              simp at q2
              obtain rfl : n' = 0 := by omega
              exact key _ e (by simp [Builtin.len_, run_underlying hd, goInt])
            · rw [b0] at q; cases q
          · exact key _ e (by simp [Builtin.len_, run_underlying hd, goInt])
          · obtain rfl : n' = 0 := by omega
            exact key _ e (by simp [Builtin.len_, run_underlying hd, goInt])
        · have hd : P.underlying t = some (.slice _) := hd
          obtain rfl := Option.some.inj hn
          have r0 : RP D w F .nils (a.eval y) := ra
          generalize e : a.eval y = v at r0
          cases r0
          exact key _ e (by simp [Builtin.len_, run_underlying hd, goInt])
        · have hd : P.underlying t = some (.slice _) := hd
          obtain rfl := Option.some.inj hn
          have r0 : RP D w F .emp (a.eval y) := ra
          generalize e : a.eval y = v at r0
          cases r0
          exact key _ e (by simp [Builtin.len_, run_underlying hd, goInt])
        · cases hn
      · cases h
    · cases h
  · cases h
theorem fold_ok {f : Int → Int → Int} {g : Value → Value → Sem Value} (hg : ∀ k1 x y (w : World), (g (.int k1 x) (.int k1 y)).run P w = .ok (.int k1 (f x y)) w) {w F h β} {k1 : IntKind} : ∀ {as : List (A D.S)} {x n : Int} {vs : List Value}, opK.foldM D f k1 x as = some n →
    as.length = vs.length → (∀ (j : Nat) y v, as[j]? = some y → vs[j]? = some v → RA D w F h β y v) → (vs.foldlM g (.int k1 x)).run P w = .ok (.int k1 n) w
  | [], x, n, vs, e, hl, _ => by
    simp only [opK.foldM, Option.some.injEq] at e
    subst e
    obtain rfl : vs = [] := List.length_eq_zero_iff.mp hl.symm
    simp
  | y :: as, x, n, vs, e, hl, hr => by
    unfold opK.foldM at e
    split at e
    · cases ‹_ :: _ = []›
    · rename_i k2 b l heq
      injection heq with h1 h2
      subst h1; subst h2
      split at e
      · rename_i hk
        subst hk
        match vs, hl, hr with
        | v :: vs, hl, hr =>
          have r0 : RP D w F (.int k1 b) v := hr 0 _ v rfl rfl
          cases r0
          simp only [List.foldlM_cons, Sem.run_bind, hg, Result.andThen_ok]
          exact fold_ok hg e (by simpa using hl) (fun j y v h1 h2 => hr (j + 1) y v (by simpa using h1) (by simpa using h2))
      · cases e
    · cases e
theorem op_max (s : Sim K β F fr hp a w) {args : Array Operand} {ts : Array TypeId} (ho : o.op = .call ⟨.builtin .max, args, ts⟩) (h : opK D H (.call ⟨.builtin .max, args, ts⟩) d fr hp k = some r) : Post D P K o a w k r := by
  simp only [opK, arrK_eq] at h
  split at h
  · rename_i k1 m as ha
    split at h
    · rename_i n hn
      obtain ⟨h1, h2⟩ := evAs_ok s ha
      match e : args.toList, h1 with
      | y :: ys, h1 =>
        have r0 : RP D w F (.int k1 m) (a.eval y) := h2 0 _ y rfl (by rw [e]; rfl)
        have e0 : a.eval y = .int k1 m := by generalize a.eval y = v at r0; cases r0; rfl
        refine Post.pure s h (cv := .int k1 n) ?_ (.int _ _)
        obtain ⟨cs, hx⟩ := exec_builtin (P := P) (a := a) _ _ _ ho w
        rw [hx]
        have hf := fold_ok (P := P) (D := D) (f := mxE) (g := Builtin.max2) (fun k1 x y w => by simp [Builtin.max2, mxE]) (w := w) (F := F) (h := hp.get) (β := β) (vs := ys.map a.eval) hn (by simpa using h1) (fun j z v hz hv => by
          rw [List.getElem?_map] at hv
          obtain ⟨u, hu, rfl⟩ := Option.map_eq_some_iff.mp hv
          exact h2 (j + 1) z u (by simpa using hz) (by rw [e]; simpa using hu))
        simp [builtin, Builtin.max_, e, e0, hf]
    · cases h
  · cases h
theorem op_min (s : Sim K β F fr hp a w) {args : Array Operand} {ts : Array TypeId} (ho : o.op = .call ⟨.builtin .min, args, ts⟩) (h : opK D H (.call ⟨.builtin .min, args, ts⟩) d fr hp k = some r) : Post D P K o a w k r := by
  simp only [opK, arrK_eq] at h
  split at h
  · rename_i k1 m as ha
    split at h
    · rename_i n hn
      obtain ⟨h1, h2⟩ := evAs_ok s ha
      match e : args.toList, h1 with
      | y :: ys, h1 =>
        have r0 : RP D w F (.int k1 m) (a.eval y) := h2 0 _ y rfl (by rw [e]; rfl)
        have e0 : a.eval y = .int k1 m := by generalize a.eval y = v at r0; cases r0; rfl
        refine Post.pure s h (cv := .int k1 n) ?_ (.int _ _)
        obtain ⟨cs, hx⟩ := exec_builtin (P := P) (a := a) _ _ _ ho w
        rw [hx]
        have hf := fold_ok (P := P) (D := D) (f := mnE) (g := Builtin.min2) (fun k1 x y w => by simp [Builtin.min2, mnE]) (w := w) (F := F) (h := hp.get) (β := β) (vs := ys.map a.eval) hn (by simpa using h1) (fun j z v hz hv => by
          rw [List.getElem?_map] at hv
          obtain ⟨u, hu, rfl⟩ := Option.map_eq_some_iff.mp hv
          exact h2 (j + 1) z u (by simpa using hz) (by rw [e]; simpa using hu))
        simp [builtin, Builtin.min_, e, e0, hf]
    · cases h
  · cases h
end
end Go.Proofs.Ytkpjeihgigmnkaa.Ev
