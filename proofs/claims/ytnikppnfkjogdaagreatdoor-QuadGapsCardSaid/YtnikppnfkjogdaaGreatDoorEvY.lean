/- Values without memory: math/bits.TrailingZeros64: it reads a variable of the library's, which stands as its text lays it. -/
import Derived.Test.YtnikppnfkjogdaaGreatDoorEvD
import Derived.Test.YtnikppnfkjogdaaGreatDoorEvAe
import Derived.Shelf.Spec.TrailingZeros
namespace Go.Proofs.YtnikppnfkjogdaaGreatDoor.Ev
open Go Go.Shelf
set_option linter.unusedVariables false
def tzR : Ren := ⟨fun x => bif Nat.beq x 29 then 188 else x, fun x => bif Nat.beq x 22 then 100 else bif Nat.beq x 25 then 182 else bif Nat.beq x 54 then 247 else x, fun x => bif Nat.beq x 1 then 0 else x⟩
theorem tzL : Lays7.n29 PP tzR where
  mixed := by kernel_rfl
  f29 := (show PP.funcs[188]? = some Tryz.f188 from Tryz.func188).trans (by kernel_rfl)
  t0 := by kernel_rfl
  a0 := fun _ => by kernel_rfl
  z0 := fun _ => by kernel_rfl
  v0 := fun _ => by kernel_rfl
  i0 := by kernel_rfl
  t3 := by kernel_rfl
  a3 := fun _ => by kernel_rfl
  z3 := fun _ => by kernel_rfl
  v3 := fun _ => by kernel_rfl
  i3 := by kernel_rfl
  t4 := by kernel_rfl
  a4 := fun _ => by kernel_rfl
  z4 := fun _ => by kernel_rfl
  v4 := fun _ => by kernel_rfl
  i4 := by kernel_rfl
  t5 := by kernel_rfl
  a5 := fun _ => by kernel_rfl
  z5 := fun _ => by kernel_rfl
  v5 := fun _ => by kernel_rfl
  i5 := by kernel_rfl
  t22 := by kernel_rfl
  a22 := fun _ => by kernel_rfl
  z22 := fun _ => by kernel_rfl
  v22 := fun _ => by kernel_rfl
  i22 := by kernel_rfl
  t25 := by kernel_rfl
  a25 := fun _ => by kernel_rfl
  z25 := fun _ => by kernel_rfl
  v25 := fun _ => by kernel_rfl
  i25 := by kernel_rfl
  t54 := by kernel_rfl
  a54 := fun _ => by kernel_rfl
  z54 := fun _ => by kernel_rfl
  g1 := by kernel_rfl
def bits_TrailingZeros64 (x : Int) : Option Int := if 0 ≤ x ∧ x < 18446744073709551616 then some (Lib.ctz 64 x.toNat : Int) else none
theorem bits_TrailingZeros64_ok : FnOk D PP ⟨188, [.val], [.v (.int .u64)], [.v (.int .i64)], 1, sealF fun x => bits_TrailingZeros64 x⟩ := by
  refine (FnV.sld ?_).ok (by kernel_rfl)
  intro a0 y hy w F vs Ls hF hG hR hA
  have hy : bits_TrailingZeros64 a0 = some y := hy
  unfold bits_TrailingZeros64 at hy
  split at hy
  · rename_i hc
    obtain rfl := Option.some.inj hy
    have hA : Args D w F [.val] [.c (.int .u64 a0)] vs Ls := hA
    cases hA with
    | val _ v0 r0 t0 =>
      cases t0
      obtain rfl := rpa_int r0
      obtain ⟨X, rfl⟩ := Int.eq_ofNat_of_zero_le hc.1
      have ht : TabAt (tzR.g 1) Lib.deBruijn64tab w := fun j hj => by
        have h1 := (hG (0, Lib.deBruijn64tab.map fun (n : Nat) => Value.int .u8 (n : Int)) (by exact List.mem_singleton.mpr rfl)).2 j (.int .u8 (Lib.deBruijn64tab.getD j 0 : Nat)) (by
          rw [List.getElem?_map, List.getElem?_eq_getElem hj]; simp [List.getD, hj])
        exact h1
      refine .inl ⟨enters_of (c := (match Tryz.f188.body with | some c => c | none => .skip)) Tryz.func188 (by kernel_rfl) (by kernel_rfl) _ _, (Any7.bits_TrailingZeros64 tzL X (by omega) w (fun _ => ht)).mono fun e w' h => ?_⟩
      obtain ⟨rfl, rfl⟩ := h
      refine ⟨[.int .i64 (Lib.ctz 64 X : Nat)], F, rfl, .refl _ _, fun b h => h, fun b h => ⟨.inl h, hF b h⟩, ⟨rfl, fun j x v hx hv => ?_⟩, ⟨rfl, fun j L cs hL => by simp at hL⟩⟩
      have hx : ([.c (.int .i64 ((Lib.ctz 64 ((X : Int).toNat) : Nat) : Int))] : List (A D.S))[j]? = some x := hx
      rw [Int.toNat_natCast] at hx
      match j with
      | 0 => simp at hx hv; subst hx; subst hv; exact .int _ _
      | j + 1 => simp at hx
  · cases hy
end Go.Proofs.YtnikppnfkjogdaaGreatDoor.Ev
