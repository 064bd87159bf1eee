/- Values without memory: what a value that is told says of memory; laws of the trees and of the lists of cells. -/
import Derived.Test.YtalgppclaolonaaEv1b
import Derived.Deep.AppendSrc
import Derived.Laws.MakeOwn
import Derived.Below
namespace Go.Proofs.Ytalgppclaolonaa.Ev
open Go
set_option linter.unusedVariables false
set_option linter.unusedSimpArgs false

/-! ### trees -/
namespace Tr
variable {α : Type} {R : Type}
theorem setK_eq : ∀ (d : Nat) (t : Tr α) (n : Nat) (v : Option α) (k : Tr α → R), setK d t n v k = k (set d t n v)
  | 0, t, n, v, k => rfl
  | d + 1, .lf, n, v, k => by
    simp only [setK, set]
    split
    · rfl
    · split
      · rw [setK_eq d]; rfl
      · rw [setK_eq d]; rfl
  | d + 1, .nd v0 l r, n, v, k => by
    simp only [setK, set]
    split
    · rfl
    · split
      · rw [setK_eq d]; rfl
      · rw [setK_eq d]; rfl
theorem get_eq (t : Tr α) (m : Nat) : t.get m = if m = 0 then t.vl else if m % 2 = 1 then t.lt.get (m / 2) else t.rt.get (m / 2 - 1) := by
  cases t with
  | lf => simp [get, vl, lt, rt]
  | nd v l r =>
    simp only [get, vl, lt, rt]
    by_cases h0 : m = 0
    · subst h0; rfl
    · have e0 : Nat.beq m 0 = false := by cases h : Nat.beq m 0 with | false => rfl | true => exact absurd (Nat.eq_of_beq_eq_true h) h0
      rw [e0, if_neg h0]
      by_cases h1 : m % 2 = 1
      · rw [if_pos h1, h1]
      · have e1 : Nat.beq (m % 2) 1 = false := by cases h : Nat.beq (m % 2) 1 with | false => rfl | true => exact absurd (Nat.eq_of_beq_eq_true h) h1
        rw [e1, if_neg h1]
theorem get_nd (v : Option α) (l r : Tr α) (m : Nat) : (Tr.nd v l r).get m = if m = 0 then v else if m % 2 = 1 then l.get (m / 2) else r.get (m / 2 - 1) := get_eq _ m
theorem get_set : ∀ (d : Nat) (t : Tr α) (n m : Nat) (v : Option α), n + 1 < 2 ^ d → (set d t n v).get m = if m = n then v else t.get m
  | 0, t, n, m, v, h => by simp at h
  | d + 1, t, n, m, v, h => by
    have hp : 2 ^ (d + 1) = 2 * 2 ^ d := by rw [Nat.pow_succ]; omega
    have ge := get_eq t m
    unfold set
    cases h0 : Nat.beq n 0
    · have hn : n ≠ 0 := fun e => by subst e; simp at h0
      cases h1 : Nat.beq (n % 2) 1
      · have h1' : n % 2 ≠ 1 := fun e => by rw [e] at h1; simp at h1
        simp only [get_nd]
        rw [get_set d _ _ _ _ (by omega), ge]
        by_cases a : m = 0
        · rw [if_pos a, if_neg (by omega), if_pos a]
        · rw [if_neg a, if_neg a]
          by_cases b : m % 2 = 1
          · rw [if_pos b, if_pos b, if_neg (by omega)]
          · rw [if_neg b, if_neg b]
            by_cases c : m = n
            · rw [if_pos c, if_pos (by omega)]
            · rw [if_neg c, if_neg (by omega)]
      · have h1' : n % 2 = 1 := Nat.eq_of_beq_eq_true h1
        simp only [get_nd]
        rw [get_set d _ _ _ _ (by omega), ge]
        by_cases a : m = 0
        · rw [if_pos a, if_neg (by omega), if_pos a]
        · rw [if_neg a, if_neg a]
          by_cases b : m % 2 = 1
          · rw [if_pos b, if_pos b]
            by_cases c : m = n
            · rw [if_pos c, if_pos (by omega)]
            · rw [if_neg c, if_neg (by omega)]
          · rw [if_neg b, if_neg b, if_neg (by omega)]
    · have hn : n = 0 := Nat.eq_of_beq_eq_true h0
      simp only [get_nd]
      rw [ge]
      by_cases a : m = 0
      · rw [if_pos a, if_pos (by omega)]
      · rw [if_neg a, if_neg a, if_neg (show ¬ m = n by omega)]
/-- A turning of values that hands on: it hands on one value. -/
def map (f : α → α) : Tr α → Tr α
  | .lf => .lf
  | .nd v l r => .nd (v.map f) (map f l) (map f r)
theorem get_map (f : α → α) : ∀ (t : Tr α) (n : Nat), (map f t).get n = (t.get n).map f
  | .lf, n => rfl
  | .nd v l r, n => by
    simp only [map, get]
    split
    · rfl
    · split
      · exact get_map f l _
      · exact get_map f r _
theorem mapK_eq (f : α → (α → R) → R) (g : α → α) (hf : ∀ a k, f a k = k (g a)) : ∀ (t : Tr α) (k : Tr α → R), mapK f t k = k (map g t)
  | .lf, k => rfl
  | .nd v l r, k => by
    simp only [mapK, map]
    rw [mapK_eq f g hf l]
    rw [mapK_eq f g hf r]
    cases v with
    | none => rfl
    | some v => simp only [hf, Option.map]
end Tr

/-! ### kinds -/
theorem lk_mem {α : Type} : ∀ {l : List (Nat × α)} {n : Nat} {x : α}, lk l n = some x → (n, x) ∈ l
  | (m, y) :: l, n, x, h => by
    unfold lk at h
    split at h
    · rename_i e
      rw [Nat.eq_of_beq_eq_true e]
      simp only [Option.some.injEq] at h
      subst h
      exact List.mem_cons_self
    · exact List.mem_cons_of_mem _ (lk_mem h)

/-! ### what is said of memory -/
section
variable (D : Tys)
inductive RP (w : World) (F : Nat → Prop) : C D.S → Value → Prop
  | int (k : IntKind) (n : Int) : RP w F (.int k n) (.int k n)
  | bool (b : Bool) : RP w F (.bool b) (.bool b)
  | str (s : ByteArray) : RP w F (.str s) (.string s)
  | nilp : RP w F .nilp (.pointer none)
  | nils : RP w F .nils (.slice none 0 0)
  | nili : RP w F .nili .nilIface
  | nilf : RP w F .nilf .nilFunc
  | emp (a : Option Addr) : RP w F .emp (.slice a 0 0)
  | err (t : TypeId) (k : IntKind) (n : Int) : RP w F (.err t k n) (.iface t (.int k n))
  | fn (f : FuncId) : RP w F (.fn f []) (.func (.func f) #[] #[])
  | lst0 (t : Ty) (a : Option Addr) (cap : Nat) : RP w F (.lst t []) (.slice a 0 cap)
  | lst (t : Ty) (l : List (T D.S t)) (b o cap : Nat) (f : Nat → Nat → Value) (hb : F b) (hc : l.length ≤ cap)
      (hf : ∀ i j, i < l.length → j < size D t → w.cell? ⟨b, o + i * size D t + j, none⟩ = some (f i j))
      (hr : ∀ i (hi : i < l.length) j x, (encL D t (l[i]'hi))[j]? = some x → RP w F x (f i j)) : RP w F (.lst t l) (.slice (some ⟨b, o, none⟩) l.length cap)
  | fptr (t : Ty) (l : List (T D.S t)) (e off : Nat) (b o : Nat) (f : Nat → Nat → Value) (hb : F b) (he : e < l.length)
      (hf : ∀ i j, i < l.length → j < size D t → w.cell? ⟨b, o + i * size D t + j, none⟩ = some (f i j))
      (hr : ∀ i (hi : i < l.length) j x, (encL D t (l[i]'hi))[j]? = some x → RP w F x (f i j)) : RP w F (.fptr t l e off) (.pointer (some ⟨b, o + e * size D t + off, none⟩))
theorem cell_heap {w w' : World} {b : Nat} (h : w'.heap[b]? = w.heap[b]?) (o : Nat) : w'.cell? ⟨b, o, none⟩ = w.cell? ⟨b, o, none⟩ := by
  simp only [World.cell?, h]
theorem RP.mono {w w' : World} {F F' : Nat → Prop} (h : ∀ b, F b → F' b ∧ w'.heap[b]? = w.heap[b]?) : ∀ {c : C D.S} {v : Value}, RP D w F c v → RP D w' F' c v := by
  intro c v r
  induction r with
  | int k n => exact .int k n
  | bool b => exact .bool b
  | str s => exact .str s
  | nilp => exact .nilp
  | nils => exact .nils
  | nili => exact .nili
  | nilf => exact .nilf
  | emp a => exact .emp a
  | err t k n => exact .err t k n
  | fn f => exact .fn f
  | lst0 t a cap => exact .lst0 t a cap
  | lst t l b o cap f hb hc hf hr ih => exact .lst t l b o cap f (h b hb).1 hc (fun i j hi hj => (cell_heap (h b hb).2 _).trans (hf i j hi hj)) (fun i hi j x hx => ih i hi j x hx)
  | fptr t l e off b o f hb he hf hr ih => exact .fptr t l e off b o f (h b hb).1 he (fun i j hi hj => (cell_heap (h b hb).2 _).trans (hf i j hi hj)) (fun i hi j x hx => ih i hi j x hx)

/-- Where a block lies: its number, the place of its first cell, how many cells the number has. -/
structure Loc where
  b : Nat
  o : Nat
  n : Nat
abbrev Hp := Nat → Option (B D.S)
def RC (w : World) (F : Nat → Prop) (h : Hp D) (β : Nat → Option Loc) (c : C D.S) (v : Value) : Prop := match c with
  | .any => True
  | .own id => ∃ t l, h id = some (.arr t l) ∧ ((β id = none ∧ l = [] ∧ ∃ a, v = .slice a 0 0) ∨ ∃ L cap, β id = some L ∧ l.length ≤ cap ∧ L.o + cap * size D t ≤ L.n ∧ v = .slice (some ⟨L.b, L.o, none⟩) l.length cap)
  | .part id off n => ∃ t l, h id = some (.arr t l) ∧ off + n ≤ l.length ∧ ((β id = none ∧ ∃ a, v = .slice a 0 0) ∨ ∃ L cap, β id = some L ∧ n ≤ cap ∧ L.o + (off + cap) * size D t ≤ L.n ∧ (v = .slice (some ⟨L.b, L.o + off * size D t, none⟩) n cap ∨ (cap = 0 ∧ ∃ a, v = .slice a 0 0)))
  | .ptr id off => ∃ cs L, h id = some (.box cs) ∧ β id = some L ∧ v = .pointer (some ⟨L.b, L.o + off, none⟩)
  | .eptr id e off => ∃ t l L, h id = some (.arr t l) ∧ β id = some L ∧ e < l.length ∧ v = .pointer (some ⟨L.b, L.o + e * size D t + off, none⟩)
  | .fn f caps => v = .func (.func f) #[] (caps.map fun i => Value.pointer ((β i).map fun L => ⟨L.b, L.o, none⟩)).toArray ∧ ∀ i ∈ caps, ∃ cs L, h i = some (.box cs) ∧ β i = some L
  | c => RP D w F c v
def RL (w : World) (F : Nat → Prop) (h : Hp D) (β : Nat → Option Loc) (cs : List (C D.S)) (vs : List Value) : Prop :=
  cs.length = vs.length ∧ ∀ (j : Nat) x v, cs[j]? = some x → vs[j]? = some v → RC D w F h β x v
def RA (w : World) (F : Nat → Prop) (h : Hp D) (β : Nat → Option Loc) (a : A D.S) (v : Value) : Prop := match a with
  | .c x => RC D w F h β x v
  | .agg cs => ∃ vs, v = .agg vs ∧ RL D w F h β cs vs.toList
def RV (w : World) (F : Nat → Prop) (h : Hp D) (β : Nat → Option Loc) (a : V D.S) (v : Value) : Prop := match a with
  | .a a => RA D w F h β a v
  | .tup l => ∃ vs : Array Value, v = .tuple vs ∧ l.length = vs.size ∧ ∀ (j : Nat) x v, l[j]? = some x → vs[j]? = some v → RA D w F h β x v
def RB (w : World) (F : Nat → Prop) (h : Hp D) (β : Nat → Option Loc) (id : Nat) (b : B D.S) : Prop := match b with
  | .box cs => ∃ L vs t, β id = some L ∧ w.heap[L.b]? = some (.cells vs t (0, 0)) ∧ L.o = 0 ∧ vs.size = L.n ∧ RL D w F h β cs vs.toList
  | .arr t l => (β id = none ∧ l = []) ∨ ∃ L vs e, β id = some L ∧ w.heap[L.b]? = some (.cells vs e (0, 0)) ∧ vs.size = L.n ∧ L.o + l.length * size D t ≤ L.n ∧
      ∀ i (hi : i < l.length) (j : Nat) x, (encL D t (l[i]'hi))[j]? = some x → ∃ v, vs[L.o + i * size D t + j]? = some v ∧ RP D w F x v
end
end Go.Proofs.Ytalgppclaolonaa.Ev
