/- Values without memory: what a Go function computes, told by a function that runs the translated code over lists and numbers. Definitions. -/
import Derived.Calls
namespace Go.Proofs.Ytalgppclaolonaa.Ev
open Go

/-- The kinds of data that are told by value. -/
inductive Ty where
  | int (k : IntKind) | bool | str | st (n : Nat) | sl (t : Ty)

@[reducible] def T (S : Nat → Type) : Ty → Type
  | .int _ => Int
  | .bool => Bool
  | .str => ByteArray
  | .st n => S n
  | .sl t => List (T S t)

def Ty.eq? : (a b : Ty) → Option (PLift (a = b))
  | .int k, .int k' => if h : k = k' then some ⟨h ▸ rfl⟩ else none
  | .bool, .bool => some ⟨rfl⟩
  | .str, .str => some ⟨rfl⟩
  | .st n, .st m => match h : Nat.beq n m with | true => some ⟨Nat.eq_of_beq_eq_true h ▸ rfl⟩ | false => none
  | .sl a, .sl b => match Ty.eq? a b with | some ⟨h⟩ => some ⟨h ▸ rfl⟩ | none => none
  | _, _ => none

/-- What one cell holds. -/
inductive C (S : Nat → Type) where
  | any | int (k : IntKind) (n : Int) | bool (b : Bool) | str (s : ByteArray) | nilp
  | ptr (id off : Nat) | eptr (id e off : Nat) | nils | emp | own (id : Nat) | part (id off len : Nat)
  | lst (t : Ty) (l : List (T S t)) | fptr (t : Ty) (l : List (T S t)) (i off : Nat)
  | nili | err (t : TypeId) (k : IntKind) (n : Int) | nilf | fn (f : FuncId) (caps : List Nat)
inductive A (S : Nat → Type) where | c (x : C S) | agg (cs : List (C S))
inductive V (S : Nat → Type) where | a (x : A S) | tup (l : List (A S))
inductive B (S : Nat → Type) where | box (cs : List (C S)) | arr (t : Ty) (l : List (T S t))

def A.cells {S} : A S → List (C S) | .c x => [x] | .agg cs => cs

/-- Slots: a tree over numbers. -/
inductive Tr (α : Type) where | lf | nd (v : Option α) (l r : Tr α)
def Tr.get {α} : Tr α → Nat → Option α
  | .lf, _ => none
  | .nd v l r, n => match Nat.beq n 0 with | true => v | false => match Nat.beq (n % 2) 1 with | true => l.get (n / 2) | false => r.get (n / 2 - 1)
/-- The tree with another value at n, handed on (the whole tree is worked out first). -/
def Tr.setK {α R} : Nat → Tr α → Nat → Option α → (Tr α → R) → R
  | 0, t, _, _, k => k t
  | d + 1, .lf, n, v, k => match Nat.beq n 0 with
    | true => k (.nd v .lf .lf)
    | false => match Nat.beq (n % 2) 1 with
      | true => Tr.setK d .lf (n / 2) v fun l => k (.nd none l .lf)
      | false => Tr.setK d .lf (n / 2 - 1) v fun r => k (.nd none .lf r)
  | d + 1, .nd v0 l r, n, v, k => match Nat.beq n 0 with
    | true => k (.nd v l r)
    | false => match Nat.beq (n % 2) 1 with
      | true => Tr.setK d l (n / 2) v fun l => k (.nd v0 l r)
      | false => Tr.setK d r (n / 2 - 1) v fun r => k (.nd v0 l r)
def Tr.vl {α} : Tr α → Option α | .lf => none | .nd v _ _ => v
def Tr.lt {α} : Tr α → Tr α | .lf => .lf | .nd _ l _ => l
def Tr.rt {α} : Tr α → Tr α | .lf => .lf | .nd _ _ r => r
def Tr.set {α} : Nat → Tr α → Nat → Option α → Tr α
  | 0, t, _, _ => t
  | d + 1, t, n, v => match Nat.beq n 0 with
    | true => .nd v t.lt t.rt
    | false => match Nat.beq (n % 2) 1 with
      | true => .nd t.vl (Tr.set d t.lt (n / 2) v) t.rt
      | false => .nd t.vl t.lt (Tr.set d t.rt (n / 2 - 1) v)
/-- Every value turned, handed on. -/
def Tr.mapK {α R} (f : α → (α → R) → R) : Tr α → (Tr α → R) → R
  | .lf, k => k .lf
  | .nd v l r, k => Tr.mapK f l fun l => Tr.mapK f r fun r => match v with
    | none => k (.nd none l r)
    | some v => f v fun v => k (.nd (some v) l r)
def depth : Nat := 16

/-- What is known of a type. -/
inductive TD where
  | int (k : IntKind) | bool | str | struct (fs : List (Nat × Nat × Bool)) | array (len esz : Nat) (eagg : Bool) | slice (e : TypeId) | ptr (e : TypeId) | iface | func | other
structure TI (S : Nat → Type) where
  d : TD
  agg : Bool
  size : Nat
  bytes : Nat
  zero : List (C S)
  ty : Option Ty
  eqk : List TD := []

inductive PM where | val | ref
structure Md where
  ps : List PM
  fz : Bool

/-- The structs of a program, and its types. -/
structure Tys where
  S : Nat → Type
  enc : (n : Nat) → S n → List (C S)
  dec : (n : Nat) → List (C S) → Option (S n)
  dfl : (n : Nat) → S n
  siz : Nat → Nat
  ti : List (Nat × TI S)
  mode : List (Nat × Md)

def lk {α : Type} : List (Nat × α) → Nat → Option α
  | [], _ => none
  | (m, x) :: l, n => match Nat.beq n m with | true => some x | false => lk l n

section
variable (D : Tys)
abbrev Cc := C D.S
def size : Ty → Nat | .st n => D.siz n | _ => 1
def isAgg : Ty → Bool | .st _ => true | _ => false
def encL : (t : Ty) → T D.S t → List (C D.S)
  | .int k, n => [.int k n]
  | .bool, b => [.bool b]
  | .str, s => [.str s]
  | .st n, x => D.enc n x
  | .sl t, l => [.lst t l]
def encA (t : Ty) (x : T D.S t) : A D.S := match t, x with
  | .int k, n => .c (.int k n)
  | .bool, b => .c (.bool b)
  | .str, s => .c (.str s)
  | .st n, x => .agg (D.enc n x)
  | .sl t, l => .c (.lst t l)
def dflT : (t : Ty) → T D.S t
  | .int _ => (0 : Int)
  | .bool => false
  | .str => ByteArray.empty
  | .st n => D.dfl n
  | .sl _ => []
def decC : (t : Ty) → C D.S → Option (T D.S t)
  | .int k, .int k' n => if k = k' then some n else none
  | .bool, .bool b => some b
  | .str, .str s => some s
  | .sl t, .lst t' l => match Ty.eq? t' t with | some ⟨h⟩ => some (h ▸ l) | none => none
  | .sl _, .nils => some []
  | .sl _, .emp => some []
  | _, _ => none
def decL (t : Ty) (cs : List (C D.S)) : Option (T D.S t) := match t, cs with
  | .st n, cs => D.dec n cs
  | .int k, [c] => decC D (.int k) c
  | .bool, [c] => decC D .bool c
  | .str, [c] => decC D .str c
  | .sl t, [c] => decC D (.sl t) c
  | _, _ => none
def getT (t : Ty) (l : List (T D.S t)) (i : Nat) : T D.S t := l.getD i (dflT D t)

end

/-! ### lists of cells, all worked out -/
section
variable {S : Nat → Type}
def dropS : Nat → List (C S) → Option (List (C S))
  | 0, l => some l
  | _ + 1, [] => none
  | n + 1, _ :: l => dropS n l
def takeS : Nat → List (C S) → Option (List (C S))
  | 0, _ => some []
  | _ + 1, [] => none
  | n + 1, x :: l => match takeS n l with | some r => some (x :: r) | none => none
def subS (off n : Nat) (l : List (C S)) : Option (List (C S)) := match dropS off l with | some l => takeS n l | none => none
/-- The first cells are replaced. -/
def overS : List (C S) → List (C S) → Option (List (C S))
  | [], l => some l
  | _ :: _, [] => none
  | x :: xs, _ :: l => match overS xs l with | some r => some (x :: r) | none => none
def putS : Nat → List (C S) → List (C S) → Option (List (C S))
  | 0, xs, l => overS xs l
  | _ + 1, _, [] => none
  | n + 1, xs, y :: l => match putS n xs l with | some r => some (y :: r) | none => none
def mkA (agg : Bool) (cs : List (C S)) : Option (A S) := match agg, cs with
  | true, cs => some (.agg cs)
  | false, [x] => some (.c x)
  | false, _ => none
def ofVal : Value → Option (C S)
  | .int k n => some (.int k n)
  | .bool b => some (.bool b)
  | .string s => some (.str s)
  | .pointer none => some .nilp
  | .slice none 0 0 => some .nils
  | .nilIface => some .nili
  | .nilFunc => some .nilf
  | .func (.func f) first captured => match first.toList, captured.toList with | [], [] => some (.fn f []) | _, _ => none
  | _ => none
def ofVals : List Value → Option (List (C S))
  | [] => some []
  | v :: l => match ofVal v with | some c => (match ofVals l with | some r => some (c :: r) | none => none) | none => none
def ofValue (v : Value) : Option (A S) := match v with
  | .agg cs => match ofVals cs.toList with | some l => some (.agg l) | none => none
  | v => match ofVal v with | some c => some (.c c) | none => none
def noAny : List (C S) → Bool
  | [] => true
  | .any :: _ => false
  | _ :: l => noAny l
/-- An operand's value. -/
def ev (fr : Tr (V S)) : Operand → Option (V S)
  | .tmp t => fr.get t
  | .const v => match ofValue v with | some a => some (.a a) | none => none
  | .func f => some (.a (.c (.fn f [])))
  | .global _ => none
def evA (fr : Tr (V S)) (x : Operand) : Option (A S) := match ev fr x with | some (.a a) => some a | _ => none
def evC (fr : Tr (V S)) (x : Operand) : Option (C S) := match ev fr x with | some (.a (.c c)) => some c | _ => none

/-! ### whole numbers -/
def shlE (k : IntKind) (x y : Int) : Int := k.wrap (x * 2 ^ (min y.toNat k.bits))
def shrE (k : IntKind) (x y : Int) : Int := x.fdiv (2 ^ (min y.toNat k.bits))
def andE (k : IntKind) (x y : Int) : Int := k.wrap (BitVec.ofInt k.bits x &&& BitVec.ofInt k.bits y).toNat
def orE (k : IntKind) (x y : Int) : Int := k.wrap (BitVec.ofInt k.bits x ||| BitVec.ofInt k.bits y).toNat
def xorE (k : IntKind) (x y : Int) : Int := k.wrap (BitVec.ofInt k.bits x ^^^ BitVec.ofInt k.bits y).toNat
def clrE (k : IntKind) (x y : Int) : Int := k.wrap (BitVec.ofInt k.bits x &&& ~~~ BitVec.ofInt k.bits y).toNat
def mxE (x y : Int) : Int := if y > x then y else x
def mnE (x y : Int) : Int := if y < x then y else x
def btE (s : ByteArray) (i : Nat) : Int := ((s.data.toList.getD i 0).toNat : Int)
def intOp (op : BinOp) (k : IntKind) (x y : Int) : Option (C S) := match op with
  | .add => some (.int k (k.wrap (x + y)))
  | .sub => some (.int k (k.wrap (x - y)))
  | .mul => some (.int k (k.wrap (x * y)))
  | .and => some (.int k (andE k x y))
  | .or => some (.int k (orE k x y))
  | .xor => some (.int k (xorE k x y))
  | .andNot => some (.int k (clrE k x y))
  | .eql => some (.bool (x == y))
  | .neq => some (.bool (x != y))
  | .lss => some (.bool (decide (x < y)))
  | .leq => some (.bool (decide (x ≤ y)))
  | .gtr => some (.bool (decide (x > y)))
  | .geq => some (.bool (decide (x ≥ y)))
  | _ => none
def strOp (op : BinOp) (x y : ByteArray) : Option (C S) := match op with
  | .eql => some (.bool (x.toList == y.toList))
  | .neq => some (.bool (!(x.toList == y.toList)))
  | .lss => some (.bool (Op.bytesLess x.toList y.toList))
  | .leq => some (.bool (Op.bytesLess x.toList y.toList || x.toList == y.toList))
  | .gtr => some (.bool (!(Op.bytesLess x.toList y.toList || x.toList == y.toList)))
  | .geq => some (.bool (!(Op.bytesLess x.toList y.toList)))
  | _ => none
def eqC : C S → C S → Option Bool
  | .int k x, .int k' y => if k = k' then some (x == y) else none
  | .bool x, .bool y => some (x == y)
  | .str x, .str y => some (x == y)
  | _, _ => none
def eqCs : List (C S) → List (C S) → Option Bool
  | [], [] => some true
  | [x], [y] => eqC x y
  | x :: xs, y :: ys => match eqC x y with | some b => (match eqCs xs ys with | some b' => some (b && b') | none => none) | none => none
  | _, _ => none
end
end Go.Proofs.Ytalgppclaolonaa.Ev
