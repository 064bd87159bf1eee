/- Values without memory: the function that runs the translated code. -/
import Derived.Test.YtalgppclaolonaaEv0
namespace Go.Proofs.Ytalgppclaolonaa.Ev
open Go

/-- What is appended to fits into memory; what is made; what is joined. -/
def fit (n by_ : Nat) : Bool := Nat.ble (n * by_) 140737488355328
def fitM (n by_ : Nat) : Bool := Nat.ble (by_ * n) 281474976710656
def fitS (n : Nat) : Bool := Nat.ble n 9223372036854775807
/-- A test's two ways. -/
def bK {R : Type} (b : Bool) (k : Option R) : Option R := match b with | true => k | false => none
def bKK {R : Type} (b : Bool) (k k' : Option R) : Option R := match b with | true => k | false => k'

section
variable {S : Nat → Type}
/-! ### what is known of an own row is turned: it is frozen (told by value from here on), or gone -/
def frzC {R : Type} (id : Nat) (t : Ty) (l : List (T S t)) (c : C S) (k : C S → R) : R := match c with
  | .own i => match Nat.beq i id with | true => k (.lst t l) | false => k (.own i)
  | .part i off n => match Nat.beq i id with | true => k (.lst t ((l.drop off).take n)) | false => k (.part i off n)
  | .eptr i e off => match Nat.beq i id with | true => k (.fptr t l e off) | false => k (.eptr i e off)
  | .ptr i off => match Nat.beq i id with | true => k .any | false => k (.ptr i off)
  | c => k c
def killC {R : Type} (id : Nat) (c : C S) (k : C S → R) : R := match c with
  | .own i => match Nat.beq i id with | true => k .any | false => k (.own i)
  | .part i off n => match Nat.beq i id with | true => k .any | false => k (.part i off n)
  | .eptr i e off => match Nat.beq i id with | true => k .any | false => k (.eptr i e off)
  | .ptr i off => match Nat.beq i id with | true => k .any | false => k (.ptr i off)
  | .fn f caps => match caps.elem id with | true => k .any | false => k (.fn f caps)
  | c => k c
def mapLK {R : Type} (f : C S → (C S → R) → R) : List (C S) → (List (C S) → R) → R
  | [], k => k []
  | c :: cs, k => f c fun c => mapLK f cs fun cs => k (c :: cs)
def mapAK {R : Type} (f : C S → (C S → R) → R) (a : A S) (k : A S → R) : R := match a with
  | .c c => f c fun c => k (.c c)
  | .agg cs => mapLK f cs fun cs => k (.agg cs)
def mapALK {R : Type} (f : C S → (C S → R) → R) : List (A S) → (List (A S) → R) → R
  | [], k => k []
  | a :: as, k => mapAK f a fun a => mapALK f as fun as => k (a :: as)
def mapVK {R : Type} (f : C S → (C S → R) → R) (v : V S) (k : V S → R) : R := match v with
  | .a a => mapAK f a fun a => k (.a a)
  | .tup l => mapALK f l fun l => k (.tup l)
def mapBK {R : Type} (f : C S → (C S → R) → R) (b : B S) (k : B S → R) : R := match b with
  | .box cs => mapLK f cs fun cs => k (.box cs)
  | .arr t l => k (.arr t l)
/-- Row 'id' is told by value from here on. -/
def frzK {R : Type} (id : Nat) (fr : Tr (V S)) (hp : Tr (B S)) (k : Tr (V S) → Tr (B S) → Option R) : Option R := match hp.get id with
  | some (.arr t l) => Tr.mapK (mapVK (frzC id t l)) fr fun fr => Tr.setK depth hp id none fun hp => Tr.mapK (mapBK (frzC id t l)) hp fun hp => k fr hp
  | _ => none
def frzsK {R : Type} : List Nat → Tr (V S) → Tr (B S) → (Tr (V S) → Tr (B S) → Option R) → Option R
  | [], fr, hp, k => k fr hp
  | id :: ids, fr, hp, k => match hp.get id with
    | none => frzsK ids fr hp k
    | some _ => frzK id fr hp fun fr hp => frzsK ids fr hp k
/-- Block 'id' is gone. -/
def killK {R : Type} (id : Nat) (fr : Tr (V S)) (hp : Tr (B S)) (k : Tr (V S) → Tr (B S) → Option R) : Option R :=
  Tr.mapK (mapVK (killC id)) fr fun fr => Tr.setK depth hp id none fun hp => Tr.mapK (mapBK (killC id)) hp fun hp => k fr hp

/-! ### reading -/
def resC (hp : Tr (B S)) : C S → Option (C S)
  | .own id => match hp.get id with | some (.arr t l) => some (.lst t l) | _ => none
  | .part id off n => match hp.get id with | some (.arr t l) => some (.lst t ((l.drop off).take n)) | _ => none
  | .eptr id e off => match hp.get id with | some (.arr t l) => some (.fptr t l e off) | _ => none
  | .any => none
  | .ptr _ _ => none
  | .fn f [] => some (.fn f [])
  | .fn _ _ => none
  | c => some c
def resL (hp : Tr (B S)) : List (C S) → Option (List (C S))
  | [] => some []
  | c :: cs => match resC hp c with | some c => (match resL hp cs with | some cs => some (c :: cs) | none => none) | none => none
def resA (hp : Tr (B S)) : A S → Option (A S)
  | .c c => match resC hp c with | some c => some (.c c) | none => none
  | .agg cs => match resL hp cs with | some cs => some (.agg cs) | none => none
def ownsL : List (C S) → List Nat
  | [] => []
  | .own id :: cs => id :: ownsL cs
  | .part id _ _ :: cs => id :: ownsL cs
  | .eptr id _ _ :: cs => id :: ownsL cs
  | _ :: cs => ownsL cs
def noRefC : C S → Bool
  | .int _ _ | .bool _ | .str _ | .nilp | .nils | .nili | .nilf | .err _ _ _ => true
  | _ => false
def noRefL : List (C S) → Bool
  | [] => true
  | c :: cs => match noRefC c with | true => noRefL cs | false => false
def noRefAs : List (A S) → Bool
  | [] => true
  | a :: as => match noRefL a.cells with | true => noRefAs as | false => false
end

section
variable {S : Nat → Type}
def isK : Operand → Bool | .const _ => true | _ => false
def nilEq (d : TD) (k : Bool) : C S → C S → Option Bool
  | .nils, .nils => match d with | .slice _ => some true | _ => none
  | .nilp, .nilp => match d with | .ptr _ => some true | _ => none
  | .nili, .nili => match d, k with | .iface, true => some true | _, _ => none
  | .nilf, .nilf => match d with | .func => some true | _ => none
  | .ptr _ _, .nilp => match d with | .ptr _ => some false | _ => none
  | .nilp, .ptr _ _ => match d with | .ptr _ => some false | _ => none
  | .fptr _ _ _ _, .nilp => match d with | .ptr _ => some false | _ => none
  | .nilp, .fptr _ _ _ _ => match d with | .ptr _ => some false | _ => none
  | .err _ _ _, .nili => match d with | .iface => some false | _ => none
  | .nili, .err _ _ _ => match d with | .iface => some false | _ => none
  | .fn _ _, .nilf => match d with | .func => some false | _ => none
  | .nilf, .fn _ _ => match d with | .func => some false | _ => none
  | _, _ => none
def kindC : TD → C S → Bool
  | .bool, .bool _ => true
  | .int k, .int k' _ => decide (k = k')
  | .str, .str _ => true
  | _, _ => false
def kindsC : List TD → List (C S) → Bool
  | [], [] => true
  | k :: ks, c :: cs => match kindC k c with | true => kindsC ks cs | false => false
  | _, _ => false
def eqv (d : TD) (k : Bool) (x y : C S) : Option Bool := match x, y with
  | .bool a, .bool b => match d with | .bool => some (a == b) | _ => none
  | x, y => nilEq d k x y
end

section
variable (D : Tys)
def lenC (hp : Tr (B D.S)) (d : TD) (c : C D.S) : Option Int := match d, c with
  | .str, .str s => some (s.size : Int)
  | .slice _, .lst _ l => some (l.length : Int)
  | .slice _, .own id => match hp.get id with | some (.arr _ l) => some (l.length : Int) | _ => none
  | .slice _, .part _ _ n => some (n : Int)
  | .slice _, .nils => some 0
  | .slice _, .emp => some 0
  | _, _ => none
/-- A row's elements have the size that the type says. -/
def szOk (e : TypeId) (t : Ty) : Bool := match lk D.ti e with | some ti => Nat.beq ti.size (size D t) | none => false
def loadA (hp : Tr (B D.S)) (ti : TI D.S) : C D.S → Option (A D.S)
  | .ptr id off => match hp.get id with | some (.box cs) => (match subS off ti.size cs with | some l => mkA ti.agg l | none => none) | _ => none
  | .eptr id e off => match hp.get id with | some (.arr t l) => (match subS off ti.size (encL D t (getT D t l e)) with | some l => mkA ti.agg l | none => none) | _ => none
  | .fptr t l e off => match subS off ti.size (encL D t (getT D t l e)) with | some l => mkA ti.agg l | none => none
  | _ => none
def storeB (hp : Tr (B D.S)) (ti : TI D.S) (p : C D.S) (a : A D.S) : Option (Nat × B D.S) := match Nat.beq a.cells.length ti.size && noAny a.cells with
  | false => none
  | true => match p with
    | .ptr id off => match hp.get id with | some (.box cs) => (match putS off a.cells cs with | some cs => some (id, .box cs) | none => none) | _ => none
    | .eptr id e off => match hp.get id with
      | some (.arr t l) => (match putS off a.cells (encL D t (getT D t l e)) with | some cs => (match decL D t cs with | some x => some (id, .arr t (l.set e x)) | none => none) | none => none)
      | _ => none
    | _ => none
def fillS (place : Nat → Option (Nat × Nat)) (cells : List (C D.S)) : List (Nat × A D.S) → Option (List (C D.S))
  | [] => some cells
  | (i, v) :: rest => match place i with
    | none => none
    | some (off, sz) => match Nat.beq v.cells.length sz with
      | false => none
      | true => match putS off v.cells cells with | some cs => fillS place cs rest | none => none
def nthP : List (Nat × Nat × Bool) → Nat → Option (Nat × Nat)
  | [], _ => none
  | (o, s, _) :: _, 0 => some (o, s)
  | _ :: l, n + 1 => nthP l n
def nthF : List (Nat × Nat × Bool) → Nat → Option (Nat × Nat × Bool)
  | [], _ => none
  | x :: _, 0 => some x
  | _ :: l, n + 1 => nthF l n
def nthA : List (A D.S) → Nat → Option (A D.S)
  | [], _ => none
  | x :: _, 0 => some x
  | _ :: l, n + 1 => nthA l n
def evParts (fr : Tr (V D.S)) : List (Nat × Operand) → Option (List (Nat × A D.S))
  | [] => some []
  | (i, x) :: l => match evA fr x with
    | some a => (match noAny a.cells, evParts fr l with | true, some r => some ((i, a) :: r) | _, _ => none)
    | none => none
def evAs (fr : Tr (V D.S)) : List Operand → Option (List (A D.S))
  | [] => some []
  | x :: l => match evA fr x with | some a => (match evAs fr l with | some r => some (a :: r) | none => none) | none => none
/-- A written-out row's elements: those that are named, the others zero. -/
def litRow (t : Ty) (z : T D.S t) : Nat → List (Nat × T D.S t) → List (T D.S t)
  | 0, _ => []
  | n + 1, ps => match ps with
    | [] => z :: litRow t z n []
    | _ => litRow t z n (ps.filter fun p => !Nat.beq p.1 n) ++ [((ps.find? fun p => Nat.beq p.1 n).map (·.2)).getD z]
def decParts (hp : Tr (B D.S)) (t : Ty) : List (Nat × A D.S) → Option (List (T D.S t))
  | [] => some []
  | (_, a) :: l => match resL hp a.cells with
    | none => none
    | some cs => match decL D t cs with | some x => (match decParts hp t l with | some r => some (x :: r) | none => none) | none => none
def inOrder : Nat → List (Nat × A D.S) → Bool
  | _, [] => true
  | n, (i, _) :: l => match Nat.beq i n with | true => inOrder (n + 1) l | false => false
def ownsP : List (Nat × A D.S) → List Nat
  | [] => []
  | (_, a) :: l => ownsL a.cells ++ ownsP l
/-- The elements of a row that is read. -/
def elems (hp : Tr (B D.S)) (t : Ty) (c : C D.S) : Option (List (T D.S t)) := match c with
  | .own id => match hp.get id with | some (.arr t' l) => (match Ty.eq? t' t with | some ⟨h⟩ => some (h ▸ l) | none => none) | _ => none
  | .part id off n => match hp.get id with | some (.arr t' l) => (match Ty.eq? t' t with | some ⟨h⟩ => some (((h ▸ l : List (T D.S t)).drop off).take n) | none => none) | _ => none
  | .lst t' l => match Ty.eq? t' t with | some ⟨h⟩ => some (h ▸ l) | none => none
  | .nils => some []
  | .emp => some []
  | _ => none
def strBytes (s : ByteArray) : List Int := s.data.toList.map fun b => (b.toNat : Int)
def ofBytes (l : List Int) : ByteArray := ⟨(l.map fun n => UInt8.ofNat n.toNat).toArray⟩

/-! ### operations -/
variable {R : Type}
abbrev KK (D : Tys) (R : Type) := V D.S → Tr (V D.S) → Tr (B D.S) → Option R
abbrev HH (D : Tys) (R : Type) := FuncId → List (A D.S) → (List (A D.S) → List (List (C D.S)) → Option R) → Option R
def cV {S} (c : C S) : V S := .a (.c c)
def newK (d : Nat) (b : B D.S) (c : C D.S) (fr : Tr (V D.S)) (hp : Tr (B D.S)) (k : KK D R) : Option R := match hp.get d with
  | some _ => none
  | none => Tr.setK depth hp d (some b) fun hp => k (cV c) fr hp
def idxK (len : Int) (i : Int) (k : Option R) : Option R := bK (decide (0 ≤ i)) (bK (decide (i < len)) k)
def arrGo : Nat → Nat → Int → (Nat → Option R) → Option R
  | 0, _, _, _ => none
  | n + 1, j, i, k => bKK (decide (i = (j : Int))) (k j) (arrGo n (j + 1) i k)
/-- A place of an array, one by one where it is short. -/
def arrK (len : Nat) (i : Int) (k : Nat → Option R) : Option R := match Nat.ble len 8 with
  | true => arrGo len 0 i k
  | false => idxK (len : Int) i (k i.toNat)
theorem arrGo_eq (i : Int) (k : Nat → Option R) : ∀ (n j : Nat), arrGo n j i k = bK (decide ((j : Int) ≤ i)) (bK (decide (i < (j : Int) + (n : Int))) (k i.toNat))
  | 0, j => by
    by_cases h1 : (j : Int) ≤ i
    · rw [decide_eq_true h1, decide_eq_false (by omega : ¬ i < (j : Int) + ((0 : Nat) : Int))]; rfl
    · rw [decide_eq_false h1]; rfl
  | n + 1, j => by
    unfold arrGo
    rw [arrGo_eq i k n (j + 1)]
    by_cases h : i = (j : Int)
    · subst h
      rw [decide_eq_true (rfl : (j : Int) = (j : Int)), decide_eq_true (by omega : (j : Int) ≤ (j : Int)), decide_eq_true (by omega : (j : Int) < (j : Int) + ((n + 1 : Nat) : Int))]
      rfl
    · rw [decide_eq_false h]
      by_cases h1 : (j : Int) ≤ i
      · rw [decide_eq_true h1, decide_eq_true (by omega : ((j + 1 : Nat) : Int) ≤ i)]
        by_cases h2 : i < (j : Int) + ((n + 1 : Nat) : Int)
        · rw [decide_eq_true h2, decide_eq_true (by omega : i < ((j + 1 : Nat) : Int) + (n : Int))]; rfl
        · rw [decide_eq_false h2, decide_eq_false (by omega : ¬ i < ((j + 1 : Nat) : Int) + (n : Int))]; rfl
      · rw [decide_eq_false h1, decide_eq_false (by omega : ¬ ((j + 1 : Nat) : Int) ≤ i)]; rfl
theorem arrK_eq (len : Nat) (i : Int) (k : Nat → Option R) : arrK len i k = idxK (len : Int) i (k i.toNat) := by
  unfold arrK
  split
  · rw [arrGo_eq]
    unfold idxK
    simp
  · rfl
def sliceK (d : TD) (c : C D.S) (lo hi : Option Int) (fr : Tr (V D.S)) (hp : Tr (B D.S)) (k : KK D R) : Option R :=
  match d, c with
  | .str, .str s => match lo, hi with
    | none, none => k (cV (.str s)) fr hp
    | none, some h => bK (decide (0 ≤ h)) (bK (decide (h ≤ (s.size : Int))) (k (cV (.str (s.extract 0 h.toNat))) fr hp))
    | some l, none => bK (decide (0 ≤ l)) (bK (decide (l ≤ (s.size : Int))) (k (cV (.str (s.extract l.toNat s.size))) fr hp))
    | some l, some h => bK (decide (0 ≤ h)) (bK (decide (h ≤ (s.size : Int))) (bK (decide (0 ≤ l)) (bK (decide (l ≤ h)) (k (cV (.str (s.extract l.toNat h.toNat))) fr hp))))
  | .slice e, .lst t s => match szOk D e t with | false => none | true => match lo, hi with
    | none, none => k (cV (.lst t s)) fr hp
    | none, some h => bK (decide (0 ≤ h)) (bK (decide (h ≤ (s.length : Int))) (k (cV (.lst t (s.take h.toNat))) fr hp))
    | some l, none => bK (decide (0 ≤ l)) (bK (decide (l ≤ (s.length : Int))) (k (cV (.lst t (s.drop l.toNat))) fr hp))
    | some l, some h => bK (decide (0 ≤ h)) (bK (decide (h ≤ (s.length : Int))) (bK (decide (0 ≤ l)) (bK (decide (l ≤ h)) (k (cV (.lst t ((s.drop l.toNat).take (h.toNat - l.toNat)))) fr hp))))
  | .slice e, .own id => match hp.get id with
    | some (.arr t s) => match szOk D e t with | false => none | true => match lo, hi with
      | none, none => k (cV (.own id)) fr hp
      | none, some h => bK (decide (0 ≤ h)) (bK (decide (h ≤ (s.length : Int))) (k (cV (.part id 0 h.toNat)) fr hp))
      | some l, none => bK (decide (0 ≤ l)) (bK (decide (l ≤ (s.length : Int))) (k (cV (.part id l.toNat (s.length - l.toNat))) fr hp))
      | some l, some h => bK (decide (0 ≤ h)) (bK (decide (h ≤ (s.length : Int))) (bK (decide (0 ≤ l)) (bK (decide (l ≤ h)) (k (cV (.part id l.toNat (h.toNat - l.toNat))) fr hp))))
    | _ => none
  | .slice e, .part id off n => match hp.get id with
    | some (.arr t s) => match szOk D e t with | false => none | true => match lo, hi with
      | none, none => k (cV (.part id off n)) fr hp
      | none, some h => bK (decide (0 ≤ h)) (bK (decide (h ≤ (n : Int))) (k (cV (.part id off h.toNat)) fr hp))
      | some l, none => bK (decide (0 ≤ l)) (bK (decide (l ≤ (n : Int))) (k (cV (.part id (off + l.toNat) (n - l.toNat))) fr hp))
      | some l, some h => bK (decide (0 ≤ h)) (bK (decide (h ≤ (n : Int))) (bK (decide (0 ≤ l)) (bK (decide (l ≤ h)) (k (cV (.part id (off + l.toNat) (h.toNat - l.toNat))) fr hp))))
    | _ => none
  | _, _ => none
def optI (fr : Tr (V D.S)) : Option Operand → Option (Option Int)
  | none => some none
  | some x => match evC fr x with | some (.int _ i) => some (some i) | _ => none
def grow (t : Ty) (hp : Tr (B D.S)) (s : C D.S) : Option (Option Nat × List (T D.S t)) := match s with
  | .nils => some (none, [])
  | .emp => some (none, [])
  | .own id => match hp.get id with | some (.arr t' l) => (match Ty.eq? t' t with | some ⟨h⟩ => some (some id, h ▸ l) | none => none) | _ => none
  | .part id off n => match hp.get id with | some (.arr t' l) => (match Ty.eq? t' t with | some ⟨h⟩ => some (some id, ((h ▸ l : List (T D.S t)).drop off).take n) | none => none) | _ => none
  | _ => none
def srcL (hp : Tr (B D.S)) (t : Ty) (x : C D.S) : Option (List (T D.S t)) := match t, x with
  | .int .u8, .str z => some (strBytes z)
  | t, x => elems D hp t x
def srcOk (d : TD) (x : C D.S) : Bool := match d, x with
  | .str, .str _ => true
  | .slice _, .str _ => false
  | .slice _, _ => true
  | _, _ => false
def appendK (d : Nat) (by_ : Nat) (t : Ty) (s x : C D.S) (fr : Tr (V D.S)) (hp : Tr (B D.S)) (k : KK D R) : Option R := match grow D t hp s with
  | none => none
  | some (id, l) => match srcL D hp t x with
    | none => none
    | some xs => bK (fit (l.length + xs.length) by_) (match id with
      | none => newK D d (.arr t (l ++ xs)) (.own d) fr hp k
      | some id => killK id fr hp fun fr hp => newK D d (.arr t (l ++ xs)) (.own d) fr hp k)
def callArgs (hp : Tr (B D.S)) : List PM → List (A D.S) → Option (List (A D.S) × List Nat × List Nat)
  | [], [] => some ([], [], [])
  | .val :: ps, a :: as => match resA hp a with
    | none => none
    | some a' => match callArgs hp ps as with | some (ws, rs, os) => some (a' :: ws, rs, ownsL a.cells ++ os) | none => none
  | .ref :: ps, .c (.ptr id 0) :: as => match hp.get id with
    | some (.box cs) => match resL hp cs with
      | none => none
      | some cs' => match callArgs hp ps as with | some (ws, rs, os) => some (.agg cs' :: ws, id :: rs, ownsL cs ++ os) | none => none
    | _ => none
  | _, _ => none
def setRefsK : List Nat → List (List (C D.S)) → Tr (B D.S) → (Tr (B D.S) → Option R) → Option R
  | [], [], hp, k => k hp
  | id :: ids, cs :: css, hp, k => Tr.setK depth hp id (some (.box cs)) fun hp => setRefsK ids css hp k
  | _, _, _, _ => none
def distinct : List Nat → Bool
  | [] => true
  | i :: l => match l.elem i with | true => false | false => distinct l
def noRefLs : List (List (C D.S)) → Bool
  | [] => true
  | l :: ls => match noRefL l with | true => noRefLs ls | false => false
def packV : List (A D.S) → V D.S
  | [a] => .a a
  | l => .tup l
def callK (H : HH D R) (g : FuncId) (d : Nat) (as : List (A D.S)) (fr : Tr (V D.S)) (hp : Tr (B D.S)) (k : KK D R) : Option R := match lk D.mode g with
  | none => none
  | some md => match callArgs D hp md.ps as with
    | none => none
    | some (ws, rs, os) => match distinct rs, md.fz with
      | false, _ => none
      | true, true => frzsK os fr hp fun fr hp => H g ws fun res css => setRefsK D rs css hp fun hp => k (packV D res) fr hp
      | true, false => H g ws fun res css => match noRefAs res && noRefLs D css with
        | false => none
        | true => setRefsK D rs css hp fun hp => k (packV D res) fr hp
def capPtrs : List Nat → List (A D.S)
  | [] => []
  | i :: l => .c (.ptr i 0) :: capPtrs l
def capIds (fr : Tr (V D.S)) : List Operand → Option (List Nat)
  | [] => some []
  | x :: l => match evC fr x with | some (.ptr i 0) => (match capIds fr l with | some r => some (i :: r) | none => none) | _ => none
def opK (H : HH D R) (op : Op) (d : Nat) (fr : Tr (V D.S)) (hp : Tr (B D.S)) (k : KK D R) : Option R :=
  match op with
  | .move x => match ev fr x with | some v => k v fr hp | none => none
  | .assign x => match ev fr x with | some v => k v fr hp | none => none
  | .pick c a b => match evC fr c with
    | some (.bool c) => bKK c (match ev fr a with | some v => k v fr hp | none => none) (match ev fr b with | some v => k v fr hp | none => none)
    | _ => none
  | .alloc t => match lk D.ti t with | some ti => newK D d (.box ti.zero) (.ptr d 0) fr hp k | none => none
  | .box t x => match lk D.ti t with
    | some ti => match evA fr x with | some a => (match Nat.beq a.cells.length ti.size && noAny a.cells with | true => newK D d (.box a.cells) (.ptr d 0) fr hp k | false => none) | none => none
    | none => none
  | .build t parts => match lk D.ti t with
    | some ti => match evParts D fr parts.toList with
      | none => none
      | some ps => match ti.d with
        | .struct fs => (match fillS D (nthP fs) ti.zero ps with | some cs => k (.a (.agg cs)) fr hp | none => none)
        | .array _ esz _ => (match fillS D (fun i => some (i * esz, esz)) ti.zero ps with | some cs => k (.a (.agg cs)) fr hp | none => none)
        | _ => none
    | none => none
  | .buildSlice t len parts => match lk D.ti t with
    | some ⟨.slice e, _, _, _, _, _, _⟩ => match lk D.ti e with
      | some ⟨_, _, _, _, _, some τ, _⟩ => match evParts D fr parts.toList with
        | none => none
        | some ps => match inOrder D 0 ps with
          | false => none
          | true => match Nat.beq ps.length len && Nat.ble 1 len && Nat.ble (len * size D τ) 16777216 with
            | false => none
            | true => match decParts D hp τ ps with
              | none => none
              | some l => frzsK (ownsP D ps) fr hp fun fr hp => newK D d (.arr τ l) (.own d) fr hp k
      | _ => none
    | _ => none
  | .load t p => match lk D.ti t with
    | some ti => match evC fr p with | some c => (match loadA D hp ti c with | some a => k (.a a) fr hp | none => none) | none => none
    | none => none
  | .store t p x => match lk D.ti t with
    | some ti => match evC fr p with
      | some c => match evA fr x with
        | some a => match c with
          | .ptr _ _ => (match storeB D hp ti c a with | some (id, b) => Tr.setK depth hp id (some b) fun hp => k (cV .any) fr hp | none => none)
          | c => match resL hp a.cells with
            | none => none
            | some cs => frzsK (ownsL a.cells) fr hp fun fr hp => match storeB D hp ti c (.agg cs) with
              | some (id, b) => Tr.setK depth hp id (some b) fun hp => k (cV .any) fr hp
              | none => none
        | none => none
      | none => none
    | none => none
  | .nilCheck x => match evC fr x with
    | some (.ptr i o) => k (cV (.ptr i o)) fr hp
    | some (.eptr i e o) => k (cV (.eptr i e o)) fr hp
    | some (.fptr t l i o) => k (cV (.fptr t l i o)) fr hp
    | some (.fn f caps) => k (cV (.fn f caps)) fr hp
    | _ => none
  | .binOp op t x y _ => match evA fr x, evA fr y with
    | some (.c (.int k1 a)), some (.c (.int k2 b)) => match op with
      | .shl => bK (decide (0 ≤ b)) (k (cV (.int k1 (shlE k1 a b))) fr hp)
      | .shr => bK (decide (0 ≤ b)) (k (cV (.int k1 (shrE k1 a b))) fr hp)
      | .quo => if k1 = k2 then bKK (decide (b = 0)) none (k (cV (.int k1 (k1.wrap (a.tdiv b)))) fr hp) else none
      | .rem => if k1 = k2 then bKK (decide (b = 0)) none (k (cV (.int k1 (a.tmod b))) fr hp) else none
      | op => if k1 = k2 then (match intOp op k1 a b with | some c => k (cV c) fr hp | none => none) else none
    | some (.c (.str a)), some (.c (.str b)) => match op with
      | .add => bK (fitS (a.size + b.size)) (k (cV (.str (a ++ b))) fr hp)
      | op => match strOp op a b with | some c => k (cV c) fr hp | none => none
    | some (.c a), some (.c b) => match lk D.ti t with
      | none => none
      | some ti => match eqv ti.d (isK x || isK y) a b with
        | none => none
        | some r => match op with
          | .eql => k (cV (.bool r)) fr hp
          | .neq => k (cV (.bool (!r))) fr hp
          | _ => none
    | some (.agg a), some (.agg b) => match lk D.ti t with
      | some ti => match !ti.eqk.isEmpty && (kindsC ti.eqk a && kindsC ti.eqk b) with
        | false => none
        | true => match eqCs a b with
          | none => none
          | some r => match op with
            | .eql => k (cV (.bool r)) fr hp
            | .neq => k (cV (.bool (!r))) fr hp
            | _ => none
      | _ => none
    | _, _ => none
  | .unOp op _ x => match evC fr x with
    | some (.int k1 n) => match op with
      | .neg => k (cV (.int k1 (k1.wrap (0 - n)))) fr hp
      | .xor => k (cV (.int k1 (xorE k1 (if k1.signed then -1 else k1.max) n))) fr hp
      | _ => none
    | some (.bool b) => match op with | .not => k (cV (.bool (!b))) fr hp | _ => none
    | _ => none
  | .convert s t x => match lk D.ti s with
    | none => none
    | some _ => match lk D.ti t with
    | none => none
    | some ti => match ti.d, evC fr x with
      | .int k1, some (.int _ n) => k (cV (.int k1 (k1.wrap n))) fr hp
      | .str, some (.str z) => k (cV (.str z)) fr hp
      | _, _ => none
  | .slice t x lo hi none => match lk D.ti t, evC fr x, optI D fr lo, optI D fr hi with
    | some ⟨d, _, _, _, _, _, _⟩, some c, some lo, some hi => sliceK D d c lo hi fr hp k
    | _, _, _, _ => none
  | .fieldAddr t x f => match lk D.ti t with
    | some ⟨.struct fs, _, _, _, _, _, _⟩ => match nthF fs f, evC fr x with
      | some (o, _, _), some (.ptr i off) => k (cV (.ptr i (off + o))) fr hp
      | some (o, _, _), some (.eptr i e off) => k (cV (.eptr i e (off + o))) fr hp
      | some (o, _, _), some (.fptr t l e off) => k (cV (.fptr t l e (off + o))) fr hp
      | _, _ => none
    | _ => none
  | .field t x f => match lk D.ti t with
    | some ⟨.struct fs, _, _, _, _, _, _⟩ => match nthF fs f, evA fr x with
      | some (o, s, g), some (.agg cs) => (match subS o s cs with | some l => (match mkA g l with | some a => k (.a a) fr hp | none => none) | none => none)
      | _, _ => none
    | _ => none
  | .indexAddr t x i => match lk D.ti t, evC fr x, evC fr i with
    | some ⟨.slice e, _, _, _, _, _, _⟩, some c, some (.int _ i) => match c with
      | .lst t l => match szOk D e t with | true => idxK (l.length : Int) i (k (cV (.fptr t l i.toNat 0)) fr hp) | false => none
      | .own id => match hp.get id with | some (.arr t l) => (match szOk D e t with | true => idxK (l.length : Int) i (k (cV (.eptr id i.toNat 0)) fr hp) | false => none) | _ => none
      | .part id off n => match hp.get id with | some (.arr t l) => (match szOk D e t with | true => idxK (n : Int) i (k (cV (.eptr id (off + i.toNat) 0)) fr hp) | false => none) | _ => none
      | _ => none
    | some ⟨.array len esz _, _, _, _, _, _, _⟩, some (.ptr id off), some (.int _ i) => arrK len i fun j => k (cV (.ptr id (off + j * esz))) fr hp
    | some ⟨.array len esz _, _, _, _, _, _, _⟩, some (.eptr id e off), some (.int _ i) => arrK len i fun j => k (cV (.eptr id e (off + j * esz))) fr hp
    | some ⟨.array len esz _, _, _, _, _, _, _⟩, some (.fptr t l e off), some (.int _ i) => arrK len i fun j => k (cV (.fptr t l e (off + j * esz))) fr hp
    | _, _, _ => none
  | .index t x i => match lk D.ti t, evA fr x, evC fr i with
    | some ⟨.str, _, _, _, _, _, _⟩, some (.c (.str s)), some (.int _ i) => idxK (s.size : Int) i (k (cV (.int .u8 (btE s i.toNat))) fr hp)
    | some ⟨.array len esz g, _, _, _, _, _, _⟩, some (.agg cs), some (.int _ i) => arrK len i fun j => (match subS (j * esz) esz cs with | some l => (match mkA g l with | some a => k (.a a) fr hp | none => none) | none => none)
    | _, _, _ => none
  | .makeSlice t n c => match lk D.ti t with
    | some ⟨.slice e, _, _, _, _, _, _⟩ => match lk D.ti e with
      | some ⟨_, _, _, by_, z, some τ, _⟩ => match evC fr n, evC fr c, decL D τ z with
        | some (.int _ n), some (.int _ c), some z => bK (decide (0 ≤ n)) (bK (decide (n ≤ c)) (bK (fitM c.toNat by_) (newK D d (.arr τ (List.replicate n.toNat z)) (.own d) fr hp k)))
        | _, _, _ => none
      | _ => none
    | _ => none
  | .extract x i => match ev fr x with
    | some (.tup l) => match nthA D l i with | some a => k (.a a) fr hp | none => none
    | _ => none
  | .makeFunc (.func f) first caps => match first.toList, capIds D fr caps.toList with | [], some ids => k (cV (.fn f ids)) fr hp | _, _ => none
  | .call ⟨.value f, args, _⟩ => match evC fr f, evAs D fr args.toList with
    | some (.fn g caps), some as => callK D H g d (as ++ capPtrs D caps) fr hp k
    | _, _ => none
  | .call ⟨.builtin .len, args, ts⟩ => match evAs D fr args.toList, ts.toList with
    | some [.c c], [t] => (match lk D.ti t with
      | some ti => (match lenC D hp ti.d c with | some n => k (cV (.int .i64 n)) fr hp | none => none)
      | none => none)
    | _, _ => none
  | .call ⟨.builtin .append, args, ts⟩ => match evAs D fr args.toList, ts.toList with
    | some [.c s, .c x], [t, tx] => match lk D.ti t, lk D.ti tx with
      | some ⟨.slice e, _, _, _, _, _, _⟩, some tix => match lk D.ti e, srcOk D tix.d x with
        | some ⟨_, _, _, by_, _, some τ, _⟩, true => appendK D d by_ τ s x fr hp k
        | _, _ => none
      | _, _ => none
    | _, _ => none
  | .call ⟨.builtin .max, args, _⟩ => match evAs D fr args.toList with
    | some (.c (.int k1 a) :: as) => (match foldM mxE k1 a as with | some n => k (cV (.int k1 n)) fr hp | none => none)
    | _ => none
  | .call ⟨.builtin .min, args, _⟩ => match evAs D fr args.toList with
    | some (.c (.int k1 a) :: as) => (match foldM mnE k1 a as with | some n => k (cV (.int k1 n)) fr hp | none => none)
    | _ => none
  | _ => none
where
  foldM (f : Int → Int → Int) (k1 : IntKind) (a : Int) : List (A D.S) → Option Int
    | [] => some a
    | .c (.int k2 b) :: l => if k1 = k2 then foldM f k1 (f a b) l else none
    | _ => none

/-! ### regions and code -/
/-- What a region's order may turn: what an operation looks at, what it turns. -/
structure Eff where
  rd : List Nat
  wr : List Nat
  all : Bool

def putK {R : Type} (dst : Option Tmp) (v : V D.S) (fr : Tr (V D.S)) (k : Tr (V D.S) → Option R) : Option R := match dst with
  | some d => Tr.setK depth fr d (some v) k
  | none => k fr
/-- What a guard says. -/
def yieldK (ops : List Oper) (j : Nat) (fr : Tr (V D.S)) (k : Nat → Bool → Option R) : Option R := match ops[j]? with
  | some ⟨some d, _, _, _, _, _⟩ => match fr.get d with | some (.a (.c (.bool b))) => k d b | _ => none
  | _ => none
/-- One operation, with its guard. -/
def op1K0 (H : HH D R) (ops : List Oper) (o : Oper) (fr : Tr (V D.S)) (hp : Tr (B D.S)) (k : Tr (V D.S) → Tr (B D.S) → Option R) : Option R := match o.guard with
    | none => opK D H o.op (o.dst.getD 999) fr hp fun v fr hp => putK D o.dst v fr fun fr => k fr hp
    | some (j, true) => yieldK D ops j fr fun d b => bKK b
        (Tr.setK depth fr d (some (cV (.bool true))) fun fr => opK D H o.op (o.dst.getD 999) fr hp fun v fr hp => putK D o.dst v fr fun fr => k fr hp)
        (Tr.setK depth fr d (some (cV (.bool false))) fun fr => putK D o.dst (.tup []) fr fun fr => k fr hp)
    | some (j, false) => yieldK D ops j fr fun d b => bKK b
        (Tr.setK depth fr d (some (cV (.bool true))) fun fr => putK D o.dst (.tup []) fr fun fr => k fr hp)
        (Tr.setK depth fr d (some (cV (.bool false))) fun fr => opK D H o.op (o.dst.getD 999) fr hp fun v fr hp => putK D o.dst v fr fun fr => k fr hp)
/-- The slot of a guard whose operation was passed over itself. -/
def skB (ops : List Oper) (o : Oper) (fr : Tr (V D.S)) : Option Nat := match o.guard with
  | none => none
  | some (j, _) => match ops[j]? with
    | some ⟨some d, _, _, _, _, _⟩ => match fr.get d with | some (.tup []) => some d | _ => none
    | _ => none
/-- One operation, with its guard: it is passed over where its guard was passed over. -/
def op1K (H : HH D R) (ops : List Oper) (o : Oper) (fr : Tr (V D.S)) (hp : Tr (B D.S)) (k : Tr (V D.S) → Tr (B D.S) → Option R) : Option R := match skB D ops o fr with
  | some _ => putK D o.dst (.tup []) fr fun fr => k fr hp
  | none => op1K0 D H ops o fr hp k
def opsK (H : HH D R) (ops : List Oper) : List Oper → Tr (V D.S) → Tr (B D.S) → (Tr (V D.S) → Tr (B D.S) → Option R) → Option R
  | [], fr, hp, k => k fr hp
  | o :: rest, fr, hp, k => op1K D H ops o fr hp fun fr hp => opsK H ops rest fr hp k

end
end Go.Proofs.Ytalgppclaolonaa.Ev
