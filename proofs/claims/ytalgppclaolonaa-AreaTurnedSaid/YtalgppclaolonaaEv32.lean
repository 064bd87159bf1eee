/- Values without memory: what a function and its loops answer, sealed (nothing looks into it), with its equations. -/
import Derived.Test.YtalgppclaolonaaEv24
namespace Go.Proofs.Ytalgppclaolonaa.Ev
open Go
set_option linter.unusedVariables false
noncomputable def sealF {α : Type} (a : α) : α := Classical.choose (⟨a, rfl⟩ : ∃ b, b = a)
theorem sealF_eq {α : Type} (a : α) : sealF a = a := Classical.choose_spec (⟨a, rfl⟩ : ∃ b, b = a)
section
variable {D : Tys} {P : Program}
theorem LiS_eq (f : FD) {H : HH D (YR D f.ts)} (hN : HNat H) (c : Cut) (x : X D c.sh) : sealF (LiF D f H) c x = stepF D f H (sealF (LiF D f H)) c x := by
  rw [sealF_eq]; exact Li_eq hN c x
theorem GoS_eq (f : FD) (H : HH D (YR D f.ts)) (x : YR D f.as) : sealF (Gof D f H) x = entK D f H (sealF (LiF D f H)) x := by
  rw [sealF_eq, sealF_eq]; rfl
theorem FnOk.sld {g : FuncId} {pm : List PM} {as ts : List RT} {nr : Nat} {G : YR D as → Option (YR D ts)} (h : FnOk D P ⟨g, pm, as, ts, nr, G⟩) : FnOk D P ⟨g, pm, as, ts, nr, sealF G⟩ := by
  rw [sealF_eq]; exact h
/-- All of a table. -/
def AllOk (D : Tys) (P : Program) (l : List (En D)) : Prop := ∀ e ∈ l, FnOk D P e
theorem AllOk.nil : AllOk D P [] := fun e h => by cases h
theorem AllOk.cons {e : En D} {l : List (En D)} (h : FnOk D P e) (t : AllOk D P l) : AllOk D P (e :: l) := fun x hx => by
  rcases List.mem_cons.mp hx with e1 | m
  · subst e1; exact h
  · exact t x m
def pmEq : List PM → List PM → Bool
  | [], [] => true
  | .val :: l, .val :: m => pmEq l m
  | .ref :: l, .ref :: m => pmEq l m
  | _, _ => false
theorem pmEq_ok : ∀ {l m : List PM}, pmEq l m = true → l = m
  | [], [], _ => rfl
  | .val :: l, .val :: m, h => by rw [pmEq_ok (l := l) (m := m) h]
  | .ref :: l, .ref :: m, h => by rw [pmEq_ok (l := l) (m := m) h]
  | .val :: l, .ref :: m, h => by cases h
  | .ref :: l, .val :: m, h => by cases h
  | [], .val :: _, h => by cases h
  | [], .ref :: _, h => by cases h
  | .val :: _, [], h => by cases h
  | .ref :: _, [], h => by cases h
def pmOk (D : Tys) (l : List (En D)) : Bool := l.all fun e => match lk D.mode e.g with | some md => pmEq md.ps e.pm | none => true
theorem pmOk_ok {l : List (En D)} (h : pmOk D l = true) : ∀ e ∈ l, ∀ md, lk D.mode e.g = some md → md.ps = e.pm := fun e he md hm => by
  have := List.all_eq_true.mp h e he
  simp only [hm] at this
  exact pmEq_ok this
theorem fdS_ok (lw : Lawful D P) (f : FD) {l : List (En D)} (hp : pmOk D l = true) (ha : AllOk D P l) {fn : Func} (hf : P.funcs[f.g]? = some fn) (hb : fn.body = some f.body) (hr : fn.results.toList = f.rs) (hn : fn.ntmps = f.nt)
    (hcall : ∀ args w, (callFunc f.g args).run P w = .ok (.enter f.g args) w) (hok : fdOk f = true) : FnOk D P ⟨f.g, f.pm, f.as, f.ts, f.nr, sealF (Gof D f (tabH D l))⟩ :=
  (fd_ok lw (tabH_ok lw (pmOk_ok hp) ha) (tabH_nat l) hf hb hr hn hcall hok).sld
theorem enters_of {f : FuncId} {fn : Func} {c : Code} (hf : P.funcs[f]? = some fn) (hname : (fn.name == "runtime.NumGoroutine") = false) (hb : fn.body = some c) (args : Array Value) (w : World) :
    (callFunc f args).run P w = .ok (.enter f args) w := by
  have h1 : fn.name ≠ "runtime.NumGoroutine" := by simpa using hname
  simp [callFunc, hf, h1, hb]
end
end Go.Proofs.Ytalgppclaolonaa.Ev
