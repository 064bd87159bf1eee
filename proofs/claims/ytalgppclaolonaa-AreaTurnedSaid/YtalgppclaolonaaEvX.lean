/- Values without memory: functions that the model answers for by itself. -/
import Derived.Test.YtalgppclaolonaaEv32
import Derived.Laws.Externs
import Derived.KernelRfl
namespace Go.Proofs.Ytalgppclaolonaa.Ev
open Go
set_option linter.unusedVariables false
theorem Behind.refl (w : World) (Ls : List Loc) : Behind w w Ls := ⟨Nat.le_refl _, ⟨rfl, rfl, rfl⟩, fun _ _ _ => rfl⟩
theorem rpa_int {D : Tys} {w : World} {F : Nat → Prop} {k : IntKind} {n : Int} {v : Value} (h : RPA D w F (.c (.int k n)) v) : v = .int k n := by
  cases h; rfl
def bits_Add64 (a0 a1 a2 : Int) : Option (Int × Int) :=
  if 0 ≤ a0 ∧ 0 ≤ a1 ∧ 0 ≤ a2 ∧ a2 ≤ 1 then some ((a0 + a1 + a2) % 18446744073709551616, (a0 + a1 + a2) / 18446744073709551616) else none
theorem bits_Add64_ok {D : Tys} {P : Program} {g : FuncId} {fn : Func} (hf : P.funcs[g]? = some fn) (hname : (fn.name == "runtime.NumGoroutine") = false) (hb : fn.body.isNone = true) (hn : Extern.findNext fn = none) (he : Extern.find fn = some add64Entry) :
    FnOk D P ⟨g, [.val, .val, .val], [.v (.int .u64), .v (.int .u64), .v (.int .u64)], [.v (.int .u64), .v (.int .u64)], 2, sealF fun x => bits_Add64 x.1 x.2.1 x.2.2⟩ := by
  refine FnOk.sld ?_
  rintro ⟨a0, a1, a2⟩ y hy w F vs Ls hF hA
  have hy : bits_Add64 a0 a1 a2 = some y := hy
  unfold bits_Add64 at hy
  split at hy
  · rename_i hc
    obtain rfl := Option.some.inj hy
    have hA : Args D w F [.val, .val, .val] [.c (.int .u64 a0), .c (.int .u64 a1), .c (.int .u64 a2)] vs Ls := hA
    cases hA with
    | val _ v0 r0 t0 =>
      cases t0 with
      | val _ v1 r1 t1 =>
        cases t1 with
        | val _ v2 r2 t2 =>
          cases t2
          obtain rfl := rpa_int r0
          obtain rfl := rpa_int r1
          obtain rfl := rpa_int r2
          refine .inr ⟨.tuple #[.int .u64 ((a0 + a1 + a2) % 18446744073709551616), .int .u64 ((a0 + a1 + a2) / 18446744073709551616)], ?_, [.int .u64 ((a0 + a1 + a2) % 18446744073709551616), .int .u64 ((a0 + a1 + a2) / 18446744073709551616)], F, rfl, .refl _ _, fun b h => h, fun b h => ⟨.inl h, hF b h⟩, ⟨rfl, fun j x v hx hv => ?_⟩, ⟨rfl, fun j L cs hL => by simp at hL⟩⟩
          · have := run_add64 (P := P) a0 a1 a2 hc.1 hc.2.1 hc.2.2.1 hc.2.2.2 w
            rw [run_callFunc_extern hf hname hb hn he]
            simp only [this, Result.andThen]
          · have hx : ([.c (.int .u64 ((a0 + a1 + a2) % 18446744073709551616)), .c (.int .u64 ((a0 + a1 + a2) / 18446744073709551616))] : List (A D.S))[j]? = some x := hx
            match j with
            | 0 => simp at hx hv; subst hx; subst hv; exact .int _ _
            | 1 => simp at hx hv; subst hx; subst hv; exact .int _ _
            | j + 2 => simp at hx
  · cases hy
end Go.Proofs.Ytalgppclaolonaa.Ev
