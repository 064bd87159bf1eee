/- Values without memory: strings.Repeat: the kit's contract, laid at this program. -/
import Derived.Test.YtalghbndblgndaaEvD
import Derived.Test.YtalghbndblgndaaEvAe
import Derived.Shelf.Strings.Repeat
namespace Go.Proofs.Ytalghbndblgndaa.Ev
open Go Go.Shelf
set_option linter.unusedVariables false
def rpR : Ren := ⟨fun x => bif Nat.beq x 105 then 81 else bif Nat.beq x 212 then 127 else bif Nat.beq x 99 then 128 else bif Nat.beq x 165 then 129 else bif Nat.beq x 166 then 63 else bif Nat.beq x 170 then 130 else bif Nat.beq x 169 then 65 else bif Nat.beq x 263 then 154 else bif Nat.beq x 264 then 155 else bif Nat.beq x 206 then 156 else bif Nat.beq x 240 then 118 else bif Nat.beq x 241 then 157 else bif Nat.beq x 276 then 150 else bif Nat.beq x 277 then 164 else x, fun x => bif Nat.beq x 9 then 9 else bif Nat.beq x 3 then 3 else bif Nat.beq x 4 then 4 else bif Nat.beq x 20 then 20 else bif Nat.beq x 0 then 0 else bif Nat.beq x 46 then 199 else bif Nat.beq x 109 then 200 else bif Nat.beq x 5 then 5 else bif Nat.beq x 72 then 113 else bif Nat.beq x 76 then 119 else bif Nat.beq x 51 then 126 else bif Nat.beq x 146 then 226 else bif Nat.beq x 53 then 228 else bif Nat.beq x 148 then 229 else bif Nat.beq x 70 then 111 else bif Nat.beq x 37 then 86 else bif Nat.beq x 75 then 118 else bif Nat.beq x 127 then 190 else bif Nat.beq x 164 then 223 else bif Nat.beq x 80 then 122 else x, fun x => x⟩
theorem rpL : Lays.n105 PP rpR where
  mixed := by kernel_rfl
  f99 := (show PP.funcs[128]? = some Try.f128 from Try.func128).trans (by kernel_rfl)
  f105 := (show PP.funcs[81]? = some Try.f81 from Try.func81).trans (by kernel_rfl)
  f165 := (show PP.funcs[129]? = some Try.f129 from Try.func129).trans (by kernel_rfl)
  f166 := (show PP.funcs[63]? = some Try.f63 from Try.func63).trans (by kernel_rfl)
  f169 := (show PP.funcs[65]? = some Try.f65 from Try.func65).trans (by kernel_rfl)
  f170 := (show PP.funcs[130]? = some Try.f130 from Try.func130).trans (by kernel_rfl)
  f206 := (show PP.funcs[156]? = some Try.f156 from Try.func156).trans (by kernel_rfl)
  f212 := (show PP.funcs[127]? = some Try.f127 from Try.func127).trans (by kernel_rfl)
  f240 := (show PP.funcs[118]? = some Try.f118 from Try.func118).trans (by kernel_rfl)
  f241 := (show PP.funcs[157]? = some Try.f157 from Try.func157).trans (by kernel_rfl)
  f263 := (show PP.funcs[154]? = some Try.f154 from Try.func154).trans (by kernel_rfl)
  f264 := (show PP.funcs[155]? = some Try.f155 from Try.func155).trans (by kernel_rfl)
  f276 := (show PP.funcs[150]? = some Try.f150 from Try.func150).trans (by kernel_rfl)
  f277 := (show PP.funcs[164]? = some Try.f164 from Try.func164).trans (by kernel_rfl)
  t0 := by kernel_rfl
  a0 := fun _ => by kernel_rfl
  z0 := fun _ => by kernel_rfl
  v0 := fun _ => by kernel_rfl
  t3 := by kernel_rfl
  a3 := fun _ => by kernel_rfl
  z3 := fun _ => by kernel_rfl
  v3 := fun _ => by kernel_rfl
  t4 := by kernel_rfl
  a4 := fun _ => by kernel_rfl
  z4 := fun _ => by kernel_rfl
  v4 := fun _ => by kernel_rfl
  t5 := by kernel_rfl
  a5 := fun _ => by kernel_rfl
  z5 := fun _ => by kernel_rfl
  v5 := fun _ => by kernel_rfl
  t9 := by kernel_rfl
  a9 := fun _ => by kernel_rfl
  z9 := fun _ => by kernel_rfl
  v9 := fun _ => by kernel_rfl
  t20 := by kernel_rfl
  a20 := fun _ => by kernel_rfl
  z20 := fun _ => by kernel_rfl
  v20 := fun _ => by kernel_rfl
  t37 := by kernel_rfl
  a37 := fun _ => by kernel_rfl
  z37 := fun _ => by kernel_rfl
  v37 := fun _ => by kernel_rfl
  t46 := by kernel_rfl
  a46 := fun _ => by kernel_rfl
  z46 := fun _ => by kernel_rfl
  v46 := fun _ => by kernel_rfl
  t51 := by kernel_rfl
  a51 := fun _ => by kernel_rfl
  z51 := fun _ => by kernel_rfl
  v51 := fun _ => by kernel_rfl
  t53 := by kernel_rfl
  a53 := fun _ => by kernel_rfl
  z53 := fun _ => by kernel_rfl
  v53 := fun _ => by kernel_rfl
  t70 := by kernel_rfl
  a70 := fun _ => by kernel_rfl
  z70 := fun _ => by kernel_rfl
  v70 := fun _ => by kernel_rfl
  t72 := by kernel_rfl
  a72 := fun _ => by kernel_rfl
  z72 := fun _ => by kernel_rfl
  v72 := fun _ => by kernel_rfl
  t75 := by kernel_rfl
  a75 := fun _ => by kernel_rfl
  z75 := fun _ => by kernel_rfl
  v75 := fun _ => by kernel_rfl
  t76 := by kernel_rfl
  a76 := fun _ => by kernel_rfl
  z76 := fun _ => by kernel_rfl
  v76 := fun _ => by kernel_rfl
  t109 := by kernel_rfl
  a109 := fun _ => by kernel_rfl
  z109 := fun _ => by kernel_rfl
  v109 := fun _ => by kernel_rfl
  t127 := by kernel_rfl
  a127 := fun _ => by kernel_rfl
  z127 := fun _ => by kernel_rfl
  v127 := fun _ => by kernel_rfl
  t146 := by kernel_rfl
  a146 := fun _ => by kernel_rfl
  z146 := fun _ => by kernel_rfl
  v146 := fun _ => by kernel_rfl
  t148 := by kernel_rfl
  a148 := fun _ => by kernel_rfl
  z148 := fun _ => by kernel_rfl
  v148 := fun _ => by kernel_rfl
  t164 := by kernel_rfl
  a164 := fun _ => by kernel_rfl
  z164 := fun _ => by kernel_rfl
  v164 := fun _ => by kernel_rfl
theorem rpX : Builder.Extra PP rpR where
  sizeBuilder := by kernel_rfl
  liesBuilder := by kernel_rfl
  t5 := rpL.t5
  a5 := rpL.a5
  z5 := rpL.z5
  v5 := rpL.v5
  infoByte := by kernel_rfl
  cellsByte := by kernel_rfl
  sizeByte := by kernel_rfl
  neB5 := by decide
def strings_Repeat (s : ByteArray) (n : Int) : Option ByteArray := if 0 ≤ n ∧ n ≤ 9223372036854775807 ∧ s.size * n.toNat ≤ 140737488355328 then some ⟨(Lib.repeatL s.data.toList n.toNat).toArray⟩ else none
theorem strings_Repeat_ok : FnOk D PP ⟨81, [.val, .val], [.v (.str), .v (.int .i64)], [.v (.str)], 1, sealF fun x => strings_Repeat x.1 x.2⟩ := by
  refine (FnV.sld ?_).ok (by kernel_rfl)
  rintro ⟨a0, a1⟩ y hy w F vs Ls hF hG hR hA
  have hy : strings_Repeat a0 a1 = some y := hy
  unfold strings_Repeat at hy
  split at hy
  · rename_i hc
    obtain rfl := Option.some.inj hy
    have hA : Args D w F [.val, .val] [.c (.str a0), .c (.int .i64 a1)] vs Ls := hA
    cases hA with
    | val _ v0 r0 t0 =>
      cases t0 with
      | val _ v1 r1 t1 =>
        cases t1
        cases r0
        obtain rfl := rpa_int r1
        obtain ⟨X, rfl⟩ := Int.eq_ofNat_of_zero_le hc.1
        have h2 := hc.2.2
        rw [Int.toNat_natCast] at h2
        have h1 := hc.2.1
        refine .inl ⟨enters_of (c := (match Try.f81.body with | some c => c | none => .skip)) Try.func81 (by kernel_rfl) (by kernel_rfl) _ _, (Any.strings_Repeat rpL rpX a0 X w (by omega) h2).mono fun e w' h => ?_⟩
        obtain ⟨rfl, hb⟩ := h
        refine ⟨[.string ⟨(Lib.repeatL a0.data.toList X).toArray⟩], F, rfl, ⟨hb.size, ⟨hb.os, hb.tape, hb.output⟩, fun b h _ => hb.block b h⟩, fun b h => h, fun b h => ⟨.inl h, Nat.lt_of_lt_of_le (hF b h) hb.size⟩, ⟨rfl, fun j x v hx hv => ?_⟩, ⟨rfl, fun j L cs hL => by simp at hL⟩⟩
        have hx : ([.c (.str ⟨(Lib.repeatL a0.data.toList ((X : Int).toNat)).toArray⟩)] : List (A D.S))[j]? = some x := hx
        rw [Int.toNat_natCast] at hx
        match j with
        | 0 => simp at hx hv; subst hx; subst hv; exact .str _
        | j + 1 => simp at hx
  · cases hy
end Go.Proofs.Ytalghbndblgndaa.Ev
