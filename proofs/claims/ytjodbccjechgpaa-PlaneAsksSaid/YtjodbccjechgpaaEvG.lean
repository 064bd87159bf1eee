/- Printed by a program of this claim: what the functions answer, each by an equation. -/
import Derived.Test.YtjodbccjechgpaaEvF
namespace Go.Proofs.Ytjodbccjechgpaa.Ev
open Go
set_option linter.unusedVariables false
set_option maxRecDepth 100000
/-! plane.May -/
theorem F12_eq (x0 : S23) : F12 x0 = (
  bif (decide (x0.f0 ≥ (-33554432))) then
    bif (decide (x0.f0 ≤ 33554432)) then
      bif (decide (x0.f1 ≥ (-33554432))) then
        some (decide (x0.f1 ≤ 33554432))
      else
      some false
    else
    some false
  else
  some false
 : Option (Bool)) := (GoS_eq fd12 (tabH D h12) (x0)).trans (by kernel_rfl)
/-! plane.asked -/
theorem F19_eq (x0 : List S23) : F19 x0 = (
  L19_0 x0 (x0.length : Int) 0
 : Option (Int)) := (GoS_eq fd19 (tabH D h19) (x0)).trans (by kernel_rfl)
theorem L19_0_eq (x0 : List S23) (x1 : Int) (x2 : Int) : L19_0 x0 x1 x2 = (
  bif (decide (x2 < x1)) then
    grd (decide (0 ≤ x2)) <|
    grd (decide (x2 < (x0.length : Int))) <|
    (F12 (x0.getD (Int.toNat x2) z0)).bind fun y1 =>
    bif (!y1) then
      some 1
    else
    L19_0 x0 x1 (wr .i64 (x2 + 1))
  else
  some 0
 : Option (Int)) := (LiS_eq fd19 (tabH_nat h19) c19_0 (x0, x1, x2, ())).trans (by kernel_rfl)
/-! plane.cross -/
theorem F20_eq (x0 : S23) (x1 : S23) (x2 : S23) : F20 x0 x1 x2 = (
  some (wr .i64 ((wr .i64 ((wr .i64 (x1.f0 - x0.f0)) * (wr .i64 (x2.f1 - x0.f1)))) - (wr .i64 ((wr .i64 (x1.f1 - x0.f1)) * (wr .i64 (x2.f0 - x0.f0))))))
 : Option (Int)) := (GoS_eq fd20 (tabH D h20) (x0, x1, x2)).trans (by kernel_rfl)
/-! cmp.isNaN[int64] -/
theorem F26_eq (x0 : Int) : F26 x0 = (
  some (x0 != x0)
 : Option (Bool)) := (GoS_eq fd26 (tabH D h26) (x0)).trans (by kernel_rfl)
/-! cmp.Compare[int64] -/
theorem F25_eq (x0 : Int) (x1 : Int) : F25 x0 x1 = (
  (F26 x0).bind fun y1 =>
  (F26 x1).bind fun y2 =>
  bif y1 then
    bif y2 then
      some 0
    else
    some (-1)
  else
  bif y2 then
    some 1
  else
  bif (decide (x0 < x1)) then
    some (-1)
  else
  bif (decide (x0 > x1)) then
    some 1
  else
  some 0
 : Option (Int)) := (GoS_eq fd25 (tabH D h25) (x0, x1)).trans (by kernel_rfl)
/-! plane.turn -/
theorem F22_eq (x0 : S23) (x1 : S23) (x2 : S23) : F22 x0 x1 x2 = (
  (F20 x0 x1 x2).bind fun y1 =>
  (F25 y1 0).bind fun y2 =>
  some y2
 : Option (Int)) := (GoS_eq fd22 (tabH D h22) (x0, x1, x2)).trans (by kernel_rfl)
/-! plane.Turn -/
theorem F7_eq (x0 : S23) (x1 : S23) (x2 : S23) : F7 x0 x1 x2 = (
  (F19 [x0, x1, x2]).bind fun y1 =>
  bif (y1 != 0) then
    some (0, y1)
  else
  (F22 x0 x1 x2).bind fun y2 =>
  some (y2, 0)
 : Option (Int × Int)) := (GoS_eq fd7 (tabH D h7) (x0, x1, x2)).trans (by kernel_rfl)
/-! plane.dot -/
theorem F21_eq (x0 : S23) (x1 : S23) (x2 : S23) : F21 x0 x1 x2 = (
  some (wr .i64 ((wr .i64 ((wr .i64 (x1.f0 - x0.f0)) * (wr .i64 (x2.f0 - x0.f0)))) + (wr .i64 ((wr .i64 (x1.f1 - x0.f1)) * (wr .i64 (x2.f1 - x0.f1))))))
 : Option (Int)) := (GoS_eq fd21 (tabH D h21) (x0, x1, x2)).trans (by kernel_rfl)
/-! plane.Dot -/
theorem F6_eq (x0 : S23) (x1 : S23) (x2 : S23) : F6 x0 x1 x2 = (
  (F19 [x0, x1, x2]).bind fun y1 =>
  bif (y1 != 0) then
    some (0, y1)
  else
  (F21 x0 x1 x2).bind fun y2 =>
  some (y2, 0)
 : Option (Int × Int)) := (GoS_eq fd6 (tabH D h6) (x0, x1, x2)).trans (by kernel_rfl)
/-! plane.Far -/
theorem F9_eq (x0 : S23) (x1 : S23) : F9 x0 x1 = (
  (F6 x0 x1 x1).bind fun y1 =>
  some y1
 : Option (Int × Int)) := (GoS_eq fd9 (tabH D h9) (x0, x1)).trans (by kernel_rfl)
/-! pochoirlaw18.awake -/
theorem F4_eq : F4 = (
  (F7 (S23.mk 0 0) (S23.mk 5 0) (S23.mk 0 5)).bind fun y1 =>
  (F9 (S23.mk 0 0) (S23.mk 3 4)).bind fun y2 =>
  (F9 (S23.mk 0 0) (S23.mk 33554433 0)).bind fun y3 =>
  bif (y1.1 == 1) then
    bif (y1.2 == 0) then
      bif (y2.1 == 25) then
        bif (y2.2 == 0) then
          bif (y3.2 == 1) then
            (F12 (S23.mk 33554432 0)).bind fun y4 =>
            some y4
          else
          some false
        else
        some false
      else
      some false
    else
    some false
  else
  some false
 : Option (Bool)) := (GoS_eq fd4 (tabH D h4) ()).trans (by kernel_rfl)
/-! plane.Cross -/
theorem F5_eq (x0 : S23) (x1 : S23) (x2 : S23) : F5 x0 x1 x2 = (
  (F19 [x0, x1, x2]).bind fun y1 =>
  bif (y1 != 0) then
    some (0, y1)
  else
  (F20 x0 x1 x2).bind fun y2 =>
  some (y2, 0)
 : Option (Int × Int)) := (GoS_eq fd5 (tabH D h5) (x0, x1, x2)).trans (by kernel_rfl)
/-! plane.between -/
theorem F23_eq (x0 : S23) (x1 : S23) (x2 : S23) : F23 x0 x1 x2 = (
  (F20 x0 x1 x2).bind fun y1 =>
  bif (y1 == 0) then
    (F21 x2 x0 x1).bind fun y2 =>
    some (decide (y2 ≤ 0))
  else
  some false
 : Option (Bool)) := (GoS_eq fd23 (tabH D h23) (x0, x1, x2)).trans (by kernel_rfl)
/-! plane.Between -/
theorem F8_eq (x0 : S23) (x1 : S23) (x2 : S23) : F8 x0 x1 x2 = (
  (F19 [x0, x1, x2]).bind fun y1 =>
  bif (y1 != 0) then
    some (false, y1)
  else
  (F23 x0 x1 x2).bind fun y2 =>
  some (y2, 0)
 : Option (Bool × Int)) := (GoS_eq fd8 (tabH D h8) (x0, x1, x2)).trans (by kernel_rfl)
/-! plane.Meet -/
theorem F10_eq (x0 : S23) (x1 : S23) (x2 : S23) (x3 : S23) : F10 x0 x1 x2 x3 = (
  (F19 [x0, x1, x2, x3]).bind fun y1 =>
  bif (y1 != 0) then
    some (false, y1)
  else
  (F23 x0 x1 x2).bind fun y2 =>
  bif y2 then
    some (true, 0)
  else
  (F23 x0 x1 x3).bind fun y3 =>
  bif y3 then
    some (true, 0)
  else
  (F23 x2 x3 x0).bind fun y4 =>
  bif y4 then
    some (true, 0)
  else
  (F23 x2 x3 x1).bind fun y5 =>
  bif y5 then
    some (true, 0)
  else
  L10_0 x0 x1 x2 x3
 : Option (Bool × Int)) := (GoS_eq fd10 (tabH D h10) (x0, x1, x2, x3)).trans (by kernel_rfl)
theorem L10_0_eq (x0 : S23) (x1 : S23) (x2 : S23) (x3 : S23) : L10_0 x0 x1 x2 x3 = (
  (F22 x0 x1 x2).bind fun y1 =>
  (F22 x0 x1 x3).bind fun y2 =>
  bif (decide ((wr .i64 (y1 * y2)) < 0)) then
    (F22 x2 x3 x0).bind fun y3 =>
    (F22 x2 x3 x1).bind fun y4 =>
    some ((decide ((wr .i64 (y3 * y4)) < 0)), 0)
  else
  some (false, 0)
 : Option (Bool × Int)) := (LiS_eq fd10 (tabH_nat h10) c10_0 (x0, x1, x2, x3, ())).trans (by kernel_rfl)
/-! pochoirref18.May -/
theorem F13_eq (x0 : S23) : F13 x0 = (
  bif (decide (x0.f0 ≥ (-33554432))) then
    bif (decide (x0.f0 ≤ 33554432)) then
      bif (decide (x0.f1 ≥ (-33554432))) then
        some (decide (x0.f1 ≤ 33554432))
      else
      some false
    else
    some false
  else
  some false
 : Option (Bool)) := (GoS_eq fd13 (tabH D h13) (x0)).trans (by kernel_rfl)
/-! pochoirref18.all -/
theorem F24_eq (x0 : List S23) : F24 x0 = (
  L24_0 x0 0
 : Option (Bool)) := (GoS_eq fd24 (tabH D h24) (x0)).trans (by kernel_rfl)
theorem L24_0_eq (x0 : List S23) (x1 : Int) : L24_0 x0 x1 = (
  bif (decide (x1 < (x0.length : Int))) then
    grd (decide (0 ≤ x1)) <|
    grd (decide (x1 < (x0.length : Int))) <|
    (F13 (x0.getD (Int.toNat x1) z0)).bind fun y1 =>
    bif (!y1) then
      some false
    else
    L24_0 x0 (wr .i64 (x1 + 1))
  else
  some true
 : Option (Bool)) := (LiS_eq fd24 (tabH_nat h24) c24_0 (x0, x1, ())).trans (by kernel_rfl)
/-! pochoirref18.Asked -/
theorem F11_eq (x0 : List S23) : F11 x0 = (
  (F24 x0).bind fun y1 =>
  bif y1 then
    some 0
  else
  some 1
 : Option (Int)) := (GoS_eq fd11 (tabH D h11) (x0)).trans (by kernel_rfl)
/-! pochoirref18.Dot -/
theorem F14_eq (x0 : S23) (x1 : S23) (x2 : S23) : F14 x0 x1 x2 = (
  some (wr .i64 ((wr .i64 ((wr .i64 (x1.f0 - x0.f0)) * (wr .i64 (x2.f0 - x0.f0)))) + (wr .i64 ((wr .i64 (x1.f1 - x0.f1)) * (wr .i64 (x2.f1 - x0.f1))))))
 : Option (Int)) := (GoS_eq fd14 (tabH D h14) (x0, x1, x2)).trans (by kernel_rfl)
/-! pochoirref18.Cross -/
theorem F15_eq (x0 : S23) (x1 : S23) (x2 : S23) : F15 x0 x1 x2 = (
  some (wr .i64 ((wr .i64 ((wr .i64 (x1.f0 - x0.f0)) * (wr .i64 (x2.f1 - x0.f1)))) - (wr .i64 ((wr .i64 (x1.f1 - x0.f1)) * (wr .i64 (x2.f0 - x0.f0))))))
 : Option (Int)) := (GoS_eq fd15 (tabH D h15) (x0, x1, x2)).trans (by kernel_rfl)
/-! pochoirref18.Sign -/
theorem F16_eq (x0 : Int) : F16 x0 = (
  bif (decide (x0 < 0)) then
    some (-1)
  else
  bif (decide (x0 > 0)) then
    some 1
  else
  some 0
 : Option (Int)) := (GoS_eq fd16 (tabH D h16) (x0)).trans (by kernel_rfl)
/-! pochoirref18.Between -/
theorem F17_eq (x0 : S23) (x1 : S23) (x2 : S23) : F17 x0 x1 x2 = (
  (F15 x0 x1 x2).bind fun y1 =>
  bif (y1 == 0) then
    bif (decide (x2.f0 ≥ (mnE x0.f0 x1.f0))) then
      bif (decide (x2.f0 ≤ (mxE x0.f0 x1.f0))) then
        bif (decide (x2.f1 ≥ (mnE x0.f1 x1.f1))) then
          some (decide (x2.f1 ≤ (mxE x0.f1 x1.f1)))
        else
        some false
      else
      some false
    else
    some false
  else
  some false
 : Option (Bool)) := (GoS_eq fd17 (tabH D h17) (x0, x1, x2)).trans (by kernel_rfl)
/-! pochoirref18.Meet -/
theorem F18_eq (x0 : S23) (x1 : S23) (x2 : S23) (x3 : S23) : F18 x0 x1 x2 x3 = (
  (F17 x0 x1 x2).bind fun y1 =>
  bif y1 then
    some true
  else
  (F17 x0 x1 x3).bind fun y2 =>
  bif y2 then
    some true
  else
  (F17 x2 x3 x0).bind fun y3 =>
  bif y3 then
    some true
  else
  (F17 x2 x3 x1).bind fun y4 =>
  bif y4 then
    some true
  else
  L18_0 x0 x1 x2 x3
 : Option (Bool)) := (GoS_eq fd18 (tabH D h18) (x0, x1, x2, x3)).trans (by kernel_rfl)
theorem L18_0_eq (x0 : S23) (x1 : S23) (x2 : S23) (x3 : S23) : L18_0 x0 x1 x2 x3 = (
  (F15 x0 x1 x2).bind fun y1 =>
  (F16 y1).bind fun y2 =>
  (F15 x0 x1 x3).bind fun y3 =>
  (F16 y3).bind fun y4 =>
  bif (decide ((wr .i64 (y2 * y4)) < 0)) then
    (F15 x2 x3 x0).bind fun y5 =>
    (F16 y5).bind fun y6 =>
    (F15 x2 x3 x1).bind fun y7 =>
    (F16 y7).bind fun y8 =>
    some (decide ((wr .i64 (y6 * y8)) < 0))
  else
  some false
 : Option (Bool)) := (LiS_eq fd18 (tabH_nat h18) c18_0 (x0, x1, x2, x3, ())).trans (by kernel_rfl)
/-! pochoirlaw18.PlaneAsks -/
theorem F3_eq (x0 : S23) (x1 : S23) (x2 : S24) : F3 x0 x1 x2 = (
  F4.bind fun y1 =>
  bif (!y1) then
    some false
  else
  (F5 x0 x1 x2.f0).bind fun y2 =>
  (F6 x0 x1 x2.f0).bind fun y3 =>
  (F7 x0 x1 x2.f0).bind fun y4 =>
  (F8 x0 x1 x2.f0).bind fun y5 =>
  (F9 x0 x1).bind fun y6 =>
  (F10 x0 x1 x2.f0 x2.f1).bind fun y7 =>
  (F11 [x0, x1, x2.f0]).bind fun y8 =>
  (F11 [x0, x1]).bind fun y9 =>
  (F11 [x0, x1, x2.f0, x2.f1]).bind fun y10 =>
  bif (y2.2 != y8) then
    some false
  else
  bif (y3.2 != y8) then
    some false
  else
  bif (y4.2 != y8) then
    some false
  else
  bif (y5.2 != y8) then
    some false
  else
  bif (y6.2 != y9) then
    some false
  else
  bif (y7.2 != y10) then
    some false
  else
  (F12 x0).bind fun y11 =>
  (F13 x0).bind fun y12 =>
  bif (!(y11 == y12)) then
    some false
  else
  L3_0 x0 x1 x2.f0 x2.f1 y2.1 y3.1 y4.1 y5.1 y6.1 y7.1 y8 y9 y10
 : Option (Bool)) := (GoS_eq fd3 (tabH D h3) (x0, x1, x2)).trans (by kernel_rfl)
theorem L3_0_eq (x0 : S23) (x1 : S23) (x2 : S23) (x3 : S23) (x4 : Int) (x5 : Int) (x6 : Int) (x7 : Bool) (x8 : Int) (x9 : Bool) (x10 : Int) (x11 : Int) (x12 : Int) : L3_0 x0 x1 x2 x3 x4 x5 x6 x7 x8 x9 x10 x11 x12 = (
  bif (x11 != 0) then
    bif (x8 != 0) then
      some false
    else
    bif (x10 != 0) then
      bif (x4 != 0) then
        some false
      else
      bif (x5 != 0) then
        some false
      else
      bif (x6 != 0) then
        some false
      else
      bif x7 then
        some false
      else
      bif (x12 != 0) then
        bif x9 then
          some false
        else
        L3_1 x0 x1 x2 x3 x4 x5 x6 x7 x8 x9 x10 x11 x12
      else
      L3_1 x0 x1 x2 x3 x4 x5 x6 x7 x8 x9 x10 x11 x12
    else
    bif (x12 != 0) then
      bif x9 then
        some false
      else
      L3_1 x0 x1 x2 x3 x4 x5 x6 x7 x8 x9 x10 x11 x12
    else
    L3_1 x0 x1 x2 x3 x4 x5 x6 x7 x8 x9 x10 x11 x12
  else
  bif (x10 != 0) then
    bif (x4 != 0) then
      some false
    else
    bif (x5 != 0) then
      some false
    else
    bif (x6 != 0) then
      some false
    else
    bif x7 then
      some false
    else
    bif (x12 != 0) then
      bif x9 then
        some false
      else
      L3_1 x0 x1 x2 x3 x4 x5 x6 x7 x8 x9 x10 x11 x12
    else
    L3_1 x0 x1 x2 x3 x4 x5 x6 x7 x8 x9 x10 x11 x12
  else
  bif (x12 != 0) then
    bif x9 then
      some false
    else
    L3_1 x0 x1 x2 x3 x4 x5 x6 x7 x8 x9 x10 x11 x12
  else
  L3_1 x0 x1 x2 x3 x4 x5 x6 x7 x8 x9 x10 x11 x12
 : Option (Bool)) := (LiS_eq fd3 (tabH_nat h3) c3_0 (x0, x1, x2, x3, x4, x5, x6, x7, x8, x9, x10, x11, x12, ())).trans (by kernel_rfl)
theorem L3_1_eq (x0 : S23) (x1 : S23) (x2 : S23) (x3 : S23) (x4 : Int) (x5 : Int) (x6 : Int) (x7 : Bool) (x8 : Int) (x9 : Bool) (x10 : Int) (x11 : Int) (x12 : Int) : L3_1 x0 x1 x2 x3 x4 x5 x6 x7 x8 x9 x10 x11 x12 = (
  bif (x11 == 0) then
    (F14 x0 x1 x1).bind fun y1 =>
    bif (x8 != y1) then
      some false
    else
    L3_2 x0 x1 x2 x3 x4 x5 x6 x7 x9 x10 x12
  else
  L3_2 x0 x1 x2 x3 x4 x5 x6 x7 x9 x10 x12
 : Option (Bool)) := (LiS_eq fd3 (tabH_nat h3) c3_1 (x0, x1, x2, x3, x4, x5, x6, x7, x8, x9, x10, x11, x12, ())).trans (by kernel_rfl)
theorem L3_2_eq (x0 : S23) (x1 : S23) (x2 : S23) (x3 : S23) (x4 : Int) (x5 : Int) (x6 : Int) (x7 : Bool) (x8 : Bool) (x9 : Int) (x10 : Int) : L3_2 x0 x1 x2 x3 x4 x5 x6 x7 x8 x9 x10 = (
  bif (x9 == 0) then
    (F15 x0 x1 x2).bind fun y1 =>
    bif (x4 != y1) then
      some false
    else
    (F14 x0 x1 x2).bind fun y2 =>
    bif (x5 != y2) then
      some false
    else
    (F16 x4).bind fun y3 =>
    bif (x6 != y3) then
      some false
    else
    (F17 x0 x1 x2).bind fun y4 =>
    bif (!(x7 == y4)) then
      some false
    else
    L3_3 x0 x1 x2 x3 x8 x10
  else
  L3_3 x0 x1 x2 x3 x8 x10
 : Option (Bool)) := (LiS_eq fd3 (tabH_nat h3) c3_2 (x0, x1, x2, x3, x4, x5, x6, x7, x8, x9, x10, ())).trans (by kernel_rfl)
theorem L3_3_eq (x0 : S23) (x1 : S23) (x2 : S23) (x3 : S23) (x4 : Bool) (x5 : Int) : L3_3 x0 x1 x2 x3 x4 x5 = (
  bif (x5 != 0) then
    some true
  else
  (F18 x0 x1 x2 x3).bind fun y1 =>
  some (x4 == y1)
 : Option (Bool)) := (LiS_eq fd3 (tabH_nat h3) c3_3 (x0, x1, x2, x3, x4, x5, ())).trans (by kernel_rfl)
end Go.Proofs.Ytjodbccjechgpaa.Ev
