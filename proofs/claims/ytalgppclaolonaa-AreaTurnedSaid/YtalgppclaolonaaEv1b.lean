/- Values without memory: a region whose order is left open: run in the order of its text, with a list of what each operation looks at and turns; the code. -/
import Derived.Test.YtalgppclaolonaaEv1
namespace Go.Proofs.Ytalgppclaolonaa.Ev
open Go
section
variable {S : Nat → Type}
/-- The blocks that a cell names. -/
def idsC : C S → List Nat
  | .own id => [id]
  | .part id _ _ => [id]
  | .eptr id _ _ => [id]
  | .ptr id _ => [id]
  | .fn _ caps => caps
  | _ => []
def appN : List Nat → List Nat → List Nat
  | [], l => l
  | i :: m, l => i :: appN m l
def idsL : List (C S) → List Nat
  | [] => []
  | c :: cs => appN (idsC c) (idsL cs)
def idsAs : List (A S) → List Nat
  | [] => []
  | x :: l => appN (idsL x.cells) (idsAs l)
def idsV : V S → List Nat
  | .a x => idsL x.cells
  | .tup l => idsAs l
def idsB : B S → List Nat
  | .box cs => idsL cs
  | .arr _ _ => []
end
/-- The slots that operands name. -/
def slotsL : List Operand → List Nat
  | [] => []
  | .tmp t :: l => t :: slotsL l
  | _ :: l => slotsL l
section
variable {D : Tys} {R : Type}
/-- What the boxes that are named hold names. -/
def idsBs (hp : Tr (B D.S)) : List Nat → List Nat
  | [] => []
  | i :: l => match hp.get i with
    | some b => appN (idsB b) (idsBs hp l)
    | none => idsBs hp l
/-- What an operation looks at in memory. -/
def tchO (fr : Tr (V D.S)) (hp : Tr (B D.S)) : List Operand → List Nat
  | [] => []
  | x :: l => match ev fr x with
    | some v => appN (idsV v) (tchO fr hp l)
    | none => tchO fr hp l
def tch (op : Op) (fr : Tr (V D.S)) (hp : Tr (B D.S)) : List Nat := appN (tchO fr hp op.operands.toList) (idsBs hp (tchO fr hp op.operands.toList))
/-- Which operations may stand in a region whose order is left open: of a call: nothing is frozen. -/
def drawOk (D : Tys) (fr : Tr (V D.S)) (hp : Tr (B D.S)) : Op → Bool
  | .call ⟨.value f, args, _⟩ => match evC fr f, evAs D fr args.toList with
    | some (.fn g caps), some xs => match lk D.mode g with
      | some md => match callArgs D hp md.ps (xs ++ capPtrs D caps) with
        | some (_, _, os) => !md.fz || os.isEmpty
        | none => false
      | none => false
    | _, _ => false
  | .buildSlice _ _ ps => match evParts D fr ps.toList with | some l => (ownsP D l).isEmpty | none => false
  | .store _ p x => match evC fr p, evA fr x with
    | some (.ptr _ _), _ => true
    | _, some a => (ownsL a.cells).isEmpty
    | _, _ => false
  | _ => true
def newOp : Op → Bool
  | .alloc _ | .box _ _ | .makeSlice _ _ _ | .buildSlice _ _ _ | .call ⟨.builtin .append, _, _⟩ => true
  | _ => false
/-- Blocks may be turned. -/
def effO (D : Tys) (fr : Tr (V D.S)) (hp : Tr (B D.S)) (op : Op) : Bool := newOp op || match op with
  | .store _ _ _ => true
  | .call ⟨.value f, args, _⟩ => match evC fr f, evAs D fr args.toList with
    | some (.fn g caps), some xs => match lk D.mode g with
      | some md => match callArgs D hp md.ps (xs ++ capPtrs D caps) with
        | some (_, rs, _) => !rs.isEmpty
        | none => true
      | none => true
    | _, _ => true
  | _ => false
/-- A block may go. -/
def killO : Op → Bool
  | .call ⟨.builtin .append, _, _⟩ => true
  | _ => false
def noAnyAs : List (A D.S) → Bool
  | [] => true
  | x :: l => match noAny x.cells with | true => noAnyAs l | false => false
def noAnyV : V D.S → Bool
  | .a x => noAny x.cells
  | .tup l => noAnyAs l
end
section
variable (D : Tys) {R : Type}
def anyIn (fr : Tr (V D.S)) : List Nat → Bool
  | [] => false
  | t :: l => match fr.get t with
    | some v => match noAnyV v with | true => anyIn fr l | false => true
    | none => true
def allLt : List Nat → Bool
  | [] => true
  | i :: l => match Nat.blt i 65535 with | true => allLt l | false => false
/-- Operations that look at no block. -/
def movOp : Op → Bool
  | .move _ | .assign _ | .pick _ _ _ | .fieldAddr _ _ _ | .makeFunc _ _ _ | .nilCheck _ | .extract _ _ => true
  | _ => false
/-- The blocks that are looked at, of those that are named. -/
def tchU (op : Op) (T : List Nat) : List Nat := match movOp op with | true => [] | false => T
abbrev KL (D : Tys) (R : Type) := List Nat → List Nat → List Nat → Bool → Bool → Bool → Tr (V D.S) → Tr (B D.S) → Option R
def newFree (op : Op) (d : Nat) (hp : Tr (B D.S)) : Bool := match newOp op with
  | true => match hp.get d with | none => true | some _ => false
  | false => true
def nwT (op : Op) (d : Nat) : List Nat := match newOp op with | true => [d] | false => []
def exK (H : HH D R) (o : Oper) (gs : List Nat) (fr : Tr (V D.S)) (hp : Tr (B D.S)) (k : KL D R) : Option R := match drawOk D fr hp o.op && newFree D o.op (o.dst.getD 999) hp with
  | false => none
  | true => opK D H o.op (o.dst.getD 999) fr hp fun v fr' hp' => putK D o.dst v fr' fun fr' => match allLt (appN (nwT o.op (o.dst.getD 999)) (appN (tch o.op fr hp) (idsV v))) with
    | true => k (appN gs (slotsL o.op.operands.toList)) (appN (nwT o.op (o.dst.getD 999)) (appN (tch o.op fr hp) (idsV v))) (tchU o.op (appN (nwT o.op (o.dst.getD 999)) (appN (tch o.op fr hp) (idsV v)))) (effO D fr hp o.op) (anyIn D fr (appN gs (slotsL o.op.operands.toList))) (killO o.op) fr' hp'
    | false => none
def dr1K0 (H : HH D R) (ops : List Oper) (o : Oper) (fr : Tr (V D.S)) (hp : Tr (B D.S)) (k : KL D R) : Option R := match o.guard with
  | none => exK D H o [] fr hp k
  | some (j, true) => yieldK D ops j fr fun d b => bKK b
      (Tr.setK depth fr d (some (cV (.bool true))) fun fr => exK D H o [d] fr hp k)
      (Tr.setK depth fr d (some (cV (.bool false))) fun fr => putK D o.dst (.tup []) fr fun fr => k [d] [] [] false false false fr hp)
  | some (j, false) => yieldK D ops j fr fun d b => bKK b
      (Tr.setK depth fr d (some (cV (.bool true))) fun fr => putK D o.dst (.tup []) fr fun fr => k [d] [] [] false false false fr hp)
      (Tr.setK depth fr d (some (cV (.bool false))) fun fr => exK D H o [d] fr hp k)
def dr1K (H : HH D R) (ops : List Oper) (o : Oper) (fr : Tr (V D.S)) (hp : Tr (B D.S)) (k : KL D R) : Option R := match skB D ops o fr with
  | some d => putK D o.dst (.tup []) fr fun fr => k [d] [] [] false false false fr hp
  | none => dr1K0 D H ops o fr hp k
end
structure Lg where
  i : Nat
  dst : Option Tmp
  lk : List Nat
  T : List Nat
  U : List Nat
  eff : Bool
  an : Bool
  kl : Bool
def notIn (d : Option Tmp) (l : List Nat) : Bool := match d with
  | none => true
  | some d => match l.elem d with | true => false | false => true
def disj : List Nat → List Nat → Bool
  | [], _ => true
  | i :: l, m => match m.elem i with | true => false | false => disj l m
def trivB (l : Lg) : Bool := match l.T with | [] => !l.an && !l.eff | _ => false
def neD (x y : Option Tmp) : Bool := match x, y with | some a, some b => !Nat.beq a b | _, _ => true
def comB (x y : Lg) : Bool := notIn x.dst y.lk && (notIn y.dst x.lk && (neD x.dst y.dst && ((!(x.eff || y.eff) || disj x.U y.U) && ((!x.kl || trivB y) && (!y.kl || trivB x)))))
def chk (m : Nat) : List Lg → Lg → Bool
  | [], _ => true
  | x :: l, y => match Nat.testBit m x.i || comB x y with | true => chk m l y | false => false
def ancOf (ms : List Nat) : List Edge → Option Nat
  | [] => some 0
  | e :: l => match Region.binds .any e with
    | false => ancOf ms l
    | true => match ms[e.on]?, ancOf ms l with
      | some m, some n => some (m ||| (2 ^ e.on ||| n))
      | _, _ => none
section
variable (D : Tys) {R : Type}
def drawK (H : HH D R) (ops : List Oper) : List Oper → Nat → List Nat → List Lg → Tr (V D.S) → Tr (B D.S) → (Tr (V D.S) → Tr (B D.S) → Option R) → Option R
  | [], _, _, _, fr, hp, k => k fr hp
  | o :: rest, i, ms, lgs, fr, hp, k => match ancOf ms o.after.toList with
    | none => none
    | some m => dr1K D H ops o fr hp fun lk T U eff an kl fr hp => match chk m lgs ⟨i, o.dst, lk, T, U, eff, an, kl⟩ with
      | true => drawK H ops rest (i + 1) (ms ++ [m]) (⟨i, o.dst, lk, T, U, eff, an, kl⟩ :: lgs) fr hp k
      | false => none
end
section
variable (D : Tys) {R : Type}
inductive It where
  | code (c : Code) (p : Nat) | inLoop (c : Code) (p : Nat) | inBlock (id : Nat)
def exitTo (id : Nat) : List It → Option (List It)
  | [] => none
  | .inBlock i :: t => match Nat.beq i id with | true => some t | false => exitTo id t
  | _ :: t => exitTo id t
def mem (p : Nat) : List Nat → Bool
  | [] => false
  | q :: l => match Nat.beq p q with | true => true | false => mem p l
/-- Runs the code till it returns, or comes to a place of 'cuts' (where the continuation κ goes on). The first place is no cut. -/
def runK (H : HH D R) (cuts : List Nat) (κ : Nat → Tr (V D.S) → Tr (B D.S) → Option R) (ρ : Tr (V D.S) → Tr (B D.S) → Option R) : Nat → Bool → List It → Tr (V D.S) → Tr (B D.S) → Option R
  | 0, _, _, _, _ => none
  | _ + 1, _, [], fr, hp => ρ fr hp
  | n + 1, _, .inBlock _ :: t, fr, hp => runK H cuts κ ρ n true t fr hp
  | n + 1, _, .inLoop c p :: t, fr, hp => runK H cuts κ ρ n true (.code c (2 * p) :: .inLoop c p :: t) fr hp
  | n + 1, here, .code c p :: t, fr, hp => match here && mem p cuts with
    | true => κ p fr hp
    | false => match c with
      | .skip => runK H cuts κ ρ n true t fr hp
      | .region _ ops false => opsK D H ops.toList ops.toList fr hp fun fr hp => runK H cuts κ ρ n true t fr hp
      | .region _ ops true => drawK D H ops.toList ops.toList 0 [] [] fr hp fun fr hp => runK H cuts κ ρ n true t fr hp
      | .seq a b => runK H cuts κ ρ n true (.code a (2 * p) :: .code b (2 * p + 1) :: t) fr hp
      | .cond c x y => match c with
        | .tmp d => match fr.get d with
          | some (.a (.c (.bool b))) => bKK b
            (Tr.setK depth fr d (some (cV (.bool true))) fun fr => match Nat.blt d 65535 with | true => runK H cuts κ ρ n true (.code x (2 * p) :: t) fr hp | false => none)
            (Tr.setK depth fr d (some (cV (.bool false))) fun fr => match Nat.blt d 65535 with | true => runK H cuts κ ρ n true (.code y (2 * p + 1) :: t) fr hp | false => none)
          | _ => none
        | .const (.bool b) => bKK b (runK H cuts κ ρ n true (.code x (2 * p) :: t) fr hp) (runK H cuts κ ρ n true (.code y (2 * p + 1) :: t) fr hp)
        | _ => none
      | .block id c => runK H cuts κ ρ n true (.code c (2 * p) :: .inBlock id :: t) fr hp
      | .loop c => runK H cuts κ ρ n true (.code c (2 * p) :: .inLoop c p :: t) fr hp
      | .exit id => match exitTo id t with | some t => runK H cuts κ ρ n true t fr hp | none => none
      | .label _ => runK H cuts κ ρ n true t fr hp
      | .ret => ρ fr hp
      | _ => none
end
end Go.Proofs.Ytalgppclaolonaa.Ev
