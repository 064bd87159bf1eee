/- Printed by a program of this claim: what the functions answer, each by an equation. -/
import Derived.Test.YtkpjeihgigmnkaaEvF
namespace Go.Proofs.Ytkpjeihgigmnkaa.Ev
open Go
set_option linter.unusedVariables false
set_option maxRecDepth 100000
/-! plane.May -/
theorem F19_eq (x0 : S23) : F19 x0 = (
  bif (decide (x0.f0 ≥ (-33554432))) then
    bif (decide (x0.f0 ≤ 33554432)) then
      bif (decide (x0.f1 ≥ (-33554432))) then
        some (decide (x0.f1 ≤ 33554432))
      else
      some false
    else
    some false
  else
  some false
 : Option (Bool)) := (GoP_eq fd19 (tabH D h19) (x0)).trans (by kernel_rfl)
/-! side.right -/
theorem F10_eq (x0 : S23) (x1 : S25) : F10 x0 x1 = (
  (F19 x0).bind fun y1 =>
  bif (!y1) then
    some false
  else
  (F19 x1.f2).bind fun y2 =>
  bif (!y2) then
    some false
  else
  (F19 x1.f3).bind fun y3 =>
  bif (!y3) then
    some false
  else
  (F19 x1.f4).bind fun y4 =>
  bif (!y4) then
    some false
  else
  L10_0 x1
 : Option (Bool)) := (GoP_eq fd10 (tabH D h10) (x0, x1)).trans (by kernel_rfl)
theorem L10_0_eq (x0 : S25) : L10_0 x0 = (
  bif x0.f1 then
    bif (!((x0.f2.f0 == x0.f3.f0) && (x0.f2.f1 == x0.f3.f1))) then
      some true
    else
    some (!((x0.f2.f0 == x0.f4.f0) && (x0.f2.f1 == x0.f4.f1)))
  else
  bif (!((x0.f2.f0 == x0.f4.f0) && (x0.f2.f1 == x0.f4.f1))) then
    some ((x0.f3.f0 == 0) && (x0.f3.f1 == 0))
  else
  some false
 : Option (Bool)) := (LiP_eq fd10 (tabH_nat h10) c10_0 (x0, ())).trans (by kernel_rfl)
/-! plane.asked -/
theorem F32_eq (x0 : List S23) : F32 x0 = (
  L32_0 x0 (x0.length : Int) 0
 : Option (Int)) := (GoP_eq fd32 (tabH D h32) (x0)).trans (by kernel_rfl)
theorem L32_0_eq (x0 : List S23) (x1 : Int) (x2 : Int) : L32_0 x0 x1 x2 = (
  bif (decide (x2 < x1)) then
    grd (decide (0 ≤ x2)) <|
    grd (decide (x2 < (x0.length : Int))) <|
    (F19 (x0.getD (Int.toNat x2) z0)).bind fun y1 =>
    bif (!y1) then
      some 1
    else
    L32_0 x0 x1 (wr .i64 (x2 + 1))
  else
  some 0
 : Option (Int)) := (LiP_eq fd32 (tabH_nat h32) c32_0 (x0, x1, x2, ())).trans (by kernel_rfl)
/-! plane.cross -/
theorem F33_eq (x0 : S23) (x1 : S23) (x2 : S23) : F33 x0 x1 x2 = (
  some (wr .i64 ((wr .i64 ((wr .i64 (x1.f0 - x0.f0)) * (wr .i64 (x2.f1 - x0.f1)))) - (wr .i64 ((wr .i64 (x1.f1 - x0.f1)) * (wr .i64 (x2.f0 - x0.f0))))))
 : Option (Int)) := (GoP_eq fd33 (tabH D h33) (x0, x1, x2)).trans (by kernel_rfl)
/-! plane.Cross -/
theorem F20_eq (x0 : S23) (x1 : S23) (x2 : S23) : F20 x0 x1 x2 = (
  (F32 [x0, x1, x2]).bind fun y1 =>
  bif (y1 != 0) then
    some (0, y1)
  else
  (F33 x0 x1 x2).bind fun y2 =>
  some (y2, 0)
 : Option (Int × Int)) := (GoP_eq fd20 (tabH D h20) (x0, x1, x2)).trans (by kernel_rfl)
/-! side.cross -/
theorem F11_eq (x0 : S23) (x1 : S23) (x2 : S23) : F11 x0 x1 x2 = (
  (F20 x0 x1 x2).bind fun y1 =>
  some y1.1
 : Option (Int)) := (GoP_eq fd11 (tabH D h11) (x0, x1, x2)).trans (by kernel_rfl)
/-! side.way -/
theorem F12_eq (x0 : S23) (x1 : S25) : F12 x0 x1 = (
  some (S37.mk (wr .i64 ((wr .i64 ((wr .i64 (2 * (wr .i64 (x1.f3.f1 - x1.f2.f1)))) * (wr .i64 (x1.f2.f0 - x0.f0)))) - (wr .i64 ((wr .i64 (2 * (wr .i64 (x1.f3.f0 - x1.f2.f0)))) * (wr .i64 (x1.f2.f1 - x0.f1)))))) (wr .i64 (2 * (wr .i64 ((wr .i64 ((wr .i64 ((wr .i64 (x1.f2.f1 - (wr .i64 (2 * x1.f3.f1)))) + x1.f4.f1)) * (wr .i64 (x1.f2.f0 - x0.f0)))) - (wr .i64 ((wr .i64 ((wr .i64 (x1.f2.f0 - (wr .i64 (2 * x1.f3.f0)))) + x1.f4.f0)) * (wr .i64 (x1.f2.f1 - x0.f1)))))))) (wr .i64 ((wr .i64 ((wr .i64 ((wr .i64 (x1.f2.f1 - (wr .i64 (2 * x1.f3.f1)))) + x1.f4.f1)) * (wr .i64 (2 * (wr .i64 (x1.f3.f0 - x1.f2.f0)))))) - (wr .i64 ((wr .i64 ((wr .i64 (x1.f2.f0 - (wr .i64 (2 * x1.f3.f0)))) + x1.f4.f0)) * (wr .i64 (2 * (wr .i64 (x1.f3.f1 - x1.f2.f1)))))))))
 : Option (S37)) := (GoP_eq fd12 (tabH D h12) (x0, x1)).trans (by kernel_rfl)
/-! (side.line).above$1 -/
theorem F21_eq (x0 : Int) (x1 : Bool) : F21 x0 x1 = (
  bif (decide (x0 > 0)) then
    some (true, x1)
  else
  bif x1 then
    some ((x0 == 0), x1)
  else
  some (false, x1)
 : Option (Bool × Bool)) := (GoP_eq fd21 (tabH D h21) (x0, x1)).trans (by kernel_rfl)
/-! side.size -/
theorem F24_eq (x0 : Int) : F24 x0 = (
  some (wr .u64 (mxE x0 (wr .i64 (0 - x0))))
 : Option (Int)) := (GoP_eq fd24 (tabH D h24) (x0)).trans (by kernel_rfl)
/-! math/bits.Mul64 -/
theorem F37_eq (x0 : Int) (x1 : Int) : F37 x0 x1 = (
  some ((wr .u64 ((wr .u64 ((wr .u64 ((shrE Go.IntKind.u64 x0 (32 : Int)) * (shrE Go.IntKind.u64 x1 (32 : Int)))) + (shrE Go.IntKind.u64 (wr .u64 ((wr .u64 ((shrE Go.IntKind.u64 x0 (32 : Int)) * (andE Go.IntKind.u64 x1 (4294967295 : Int)))) + (shrE Go.IntKind.u64 (wr .u64 ((andE Go.IntKind.u64 x0 (4294967295 : Int)) * (andE Go.IntKind.u64 x1 (4294967295 : Int)))) (32 : Int)))) (32 : Int)))) + (shrE Go.IntKind.u64 (wr .u64 ((andE Go.IntKind.u64 (wr .u64 ((wr .u64 ((shrE Go.IntKind.u64 x0 (32 : Int)) * (andE Go.IntKind.u64 x1 (4294967295 : Int)))) + (shrE Go.IntKind.u64 (wr .u64 ((andE Go.IntKind.u64 x0 (4294967295 : Int)) * (andE Go.IntKind.u64 x1 (4294967295 : Int)))) (32 : Int)))) (4294967295 : Int)) + (wr .u64 ((andE Go.IntKind.u64 x0 (4294967295 : Int)) * (shrE Go.IntKind.u64 x1 (32 : Int)))))) (32 : Int)))), (wr .u64 (x0 * x1)))
 : Option (Int × Int)) := (GoP_eq fd37 (tabH D h37) (x0, x1)).trans (by kernel_rfl)
/-! wide.Mul -/
theorem F23_eq (x0 : Int) (x1 : Int) : F23 x0 x1 = (
  (F37 x0 x1).bind fun y1 =>
  some (S50.mk y1.1 y1.2)
 : Option (S50)) := (GoP_eq fd23 (tabH D h23) (x0, x1)).trans (by kernel_rfl)
/-! wide.right -/
theorem F34_eq (x0 : S50) (x1 : Int) : F34 x0 x1 = (
  bif (decide (x1 ≥ 64)) then
    grd (decide (0 ≤ (wr .u64 (x1 - 64)))) <|
    some (S50.mk 0 (shrE Go.IntKind.u64 x0.f0 (wr .u64 (x1 - 64))))
  else
  grd (decide (0 ≤ x1)) <|
  grd (decide (0 ≤ x1)) <|
  grd (decide (0 ≤ (wr .u64 (64 - x1)))) <|
  some (S50.mk (shrE Go.IntKind.u64 x0.f0 x1) (orE Go.IntKind.u64 (shrE Go.IntKind.u64 x0.f1 x1) (shlE Go.IntKind.u64 x0.f0 (wr .u64 (64 - x1)))))
 : Option (S50)) := (GoP_eq fd34 (tabH D h34) (x0, x1)).trans (by kernel_rfl)
/-! math/bits.Len64 -/
theorem F49_eq (x0 : Int) : F49 x0 = (
  bif (decide (x0 ≥ 4294967296)) then
    L49_0 (shrE Go.IntKind.u64 x0 (32 : Int)) 32
  else
  L49_0 x0 0
 : Option (Int)) := (GoP_eq fd49 (tabH D h49) (x0)).trans (by kernel_rfl)
theorem L49_0_eq (x0 : Int) (x1 : Int) : L49_0 x0 x1 = (
  bif (decide (x0 ≥ 65536)) then
    L49_1 (shrE Go.IntKind.u64 x0 (16 : Int)) (wr .i64 (x1 + 16))
  else
  L49_1 x0 x1
 : Option (Int)) := (LiP_eq fd49 (tabH_nat h49) c49_0 (x0, x1, ())).trans (by kernel_rfl)
theorem L49_1_eq (x0 : Int) (x1 : Int) : L49_1 x0 x1 = (
  bif (decide (x0 ≥ 256)) then
    L49_2 (shrE Go.IntKind.u64 x0 (8 : Int)) (wr .i64 (x1 + 8))
  else
  L49_2 x0 x1
 : Option (Int)) := (LiP_eq fd49 (tabH_nat h49) c49_1 (x0, x1, ())).trans (by kernel_rfl)
theorem L49_2_eq (x0 : Int) (x1 : Int) : L49_2 x0 x1 = (
  grd (decide (0 ≤ (wr .u8 x0))) <|
  grd (decide ((wr .u8 x0) < 256)) <|
  some (wr .i64 (x1 + (wr .i64 (btE (ofBytes [0, 1, 2, 2, 3, 3, 3, 3, 4, 4, 4, 4, 4, 4, 4, 4, 5, 5, 5, 5, 5, 5, 5, 5, 5, 5, 5, 5, 5, 5, 5, 5, 6, 6, 6, 6, 6, 6, 6, 6, 6, 6, 6, 6, 6, 6, 6, 6, 6, 6, 6, 6, 6, 6, 6, 6, 6, 6, 6, 6, 6, 6, 6, 6, 7, 7, 7, 7, 7, 7, 7, 7, 7, 7, 7, 7, 7, 7, 7, 7, 7, 7, 7, 7, 7, 7, 7, 7, 7, 7, 7, 7, 7, 7, 7, 7, 7, 7, 7, 7, 7, 7, 7, 7, 7, 7, 7, 7, 7, 7, 7, 7, 7, 7, 7, 7, 7, 7, 7, 7, 7, 7, 7, 7, 7, 7, 7, 7, 8, 8, 8, 8, 8, 8, 8, 8, 8, 8, 8, 8, 8, 8, 8, 8, 8, 8, 8, 8, 8, 8, 8, 8, 8, 8, 8, 8, 8, 8, 8, 8, 8, 8, 8, 8, 8, 8, 8, 8, 8, 8, 8, 8, 8, 8, 8, 8, 8, 8, 8, 8, 8, 8, 8, 8, 8, 8, 8, 8, 8, 8, 8, 8, 8, 8, 8, 8, 8, 8, 8, 8, 8, 8, 8, 8, 8, 8, 8, 8, 8, 8, 8, 8, 8, 8, 8, 8, 8, 8, 8, 8, 8, 8, 8, 8, 8, 8, 8, 8, 8, 8, 8, 8, 8, 8, 8, 8, 8, 8, 8, 8, 8, 8, 8, 8, 8, 8, 8, 8, 8, 8, 8, 8, 8, 8, 8, 8]) (Int.toNat (wr .u8 x0))))))
 : Option (Int)) := (LiP_eq fd49 (tabH_nat h49) c49_2 (x0, x1, ())).trans (by kernel_rfl)
/-! wide.Bits -/
theorem F35_eq (x0 : S50) : F35 x0 = (
  bif (x0.f0 != 0) then
    (F49 x0.f0).bind fun y1 =>
    some (wr .i64 (64 + y1))
  else
  (F49 x0.f1).bind fun y2 =>
  some y2
 : Option (Int)) := (GoP_eq fd35 (tabH D h35) (x0)).trans (by kernel_rfl)
/-! wide.left -/
theorem F36_eq (x0 : S50) (x1 : Int) : F36 x0 x1 = (
  bif (decide (x1 ≥ 64)) then
    grd (decide (0 ≤ (wr .u64 (x1 - 64)))) <|
    some (S50.mk (shlE Go.IntKind.u64 x0.f1 (wr .u64 (x1 - 64))) 0)
  else
  grd (decide (0 ≤ x1)) <|
  grd (decide (0 ≤ (wr .u64 (64 - x1)))) <|
  grd (decide (0 ≤ x1)) <|
  some (S50.mk (orE Go.IntKind.u64 (shlE Go.IntKind.u64 x0.f0 x1) (shrE Go.IntKind.u64 x0.f1 (wr .u64 (64 - x1)))) (shlE Go.IntKind.u64 x0.f1 x1))
 : Option (S50)) := (GoP_eq fd36 (tabH D h36) (x0, x1)).trans (by kernel_rfl)
/-! wide.Shift -/
theorem F22_eq (x0 : S50) (x1 : Int) : F22 x0 x1 = (
  bif ((x0.f0 == 0) && (x0.f1 == 0)) then
    some ((S50.mk 0 0), 0)
  else
  bif (decide (x1 ≤ (-128))) then
    some ((S50.mk 0 0), 0)
  else
  L22_0 x1 x0 (S50.mk 0 0)
 : Option (S50 × Int)) := (GoP_eq fd22 (tabH D h22) (x0, x1)).trans (by kernel_rfl)
theorem L22_0_eq (x0 : Int) (x1 : S50) (x2 : S50) : L22_0 x0 x1 x2 = (
  bif (decide (x0 < 0)) then
    (F34 x1 (wr .u64 (wr .i64 (0 - x0)))).bind fun y1 =>
    some (y1, 0)
  else
  (F35 x1).bind fun y2 =>
  bif (decide (x0 > (wr .i64 (128 - y2)))) then
    some ((S50.mk 0 0), 2)
  else
  (F36 x1 (wr .u64 x0)).bind fun y3 =>
  some (y3, 0)
 : Option (S50 × Int)) := (LiP_eq fd22 (tabH_nat h22) c22_0 (x0, x1, x2, ())).trans (by kernel_rfl)
/-! cmp.isNaN[uint64] -/
theorem F50_eq (x0 : Int) : F50 x0 = (
  some (x0 != x0)
 : Option (Bool)) := (GoP_eq fd50 (tabH D h50) (x0)).trans (by kernel_rfl)
/-! cmp.Compare[uint64] -/
theorem F39_eq (x0 : Int) (x1 : Int) : F39 x0 x1 = (
  (F50 x0).bind fun y1 =>
  (F50 x1).bind fun y2 =>
  bif y1 then
    bif y2 then
      some 0
    else
    some (-1)
  else
  bif y2 then
    some 1
  else
  bif (decide (x0 < x1)) then
    some (-1)
  else
  bif (decide (x0 > x1)) then
    some 1
  else
  some 0
 : Option (Int)) := (GoP_eq fd39 (tabH D h39) (x0, x1)).trans (by kernel_rfl)
/-! cmp.Or[int] -/
theorem F38_eq (x0 : List Int) : F38 x0 = (
  L38_0 0 x0 (x0.length : Int) 0
 : Option (Int)) := (GoP_eq fd38 (tabH D h38) (x0)).trans (by kernel_rfl)
theorem L38_0_eq (x0 : Int) (x1 : List Int) (x2 : Int) (x3 : Int) : L38_0 x0 x1 x2 x3 = (
  bif (decide (x3 < x2)) then
    grd (decide (0 ≤ x3)) <|
    grd (decide (x3 < (x1.length : Int))) <|
    bif ((x1.getD (Int.toNat x3) 0) != x0) then
      some (x1.getD (Int.toNat x3) 0)
    else
    L38_0 x0 x1 x2 (wr .i64 (x3 + 1))
  else
  some x0
 : Option (Int)) := (LiP_eq fd38 (tabH_nat h38) c38_0 (x0, x1, x2, x3, ())).trans (by kernel_rfl)
/-! wide.Cmp -/
theorem F25_eq (x0 : S50) (x1 : S50) : F25 x0 x1 = (
  (F39 x0.f0 x1.f0).bind fun y1 =>
  (F39 x0.f1 x1.f1).bind fun y2 =>
  (F38 [y1, y2]).bind fun y3 =>
  some y3
 : Option (Int)) := (GoP_eq fd25 (tabH D h25) (x0, x1)).trans (by kernel_rfl)
/-! (side.line).above -/
theorem F13_eq (x0 : S37) (x1 : Bool) : F13 x0 x1 = (
  (F21 x0.f0 x1).bind fun y1 =>
  bif (!y1.1) then
    some false
  else
  (F21 (wr .i64 ((wr .i64 (x0.f0 + x0.f1)) + x0.f2)) y1.2).bind fun y2 =>
  bif (!y2.1) then
    some false
  else
  L13_0 x0 y2.2
 : Option (Bool)) := (GoP_eq fd13 (tabH D h13) (x0, x1)).trans (by kernel_rfl)
theorem L13_0_eq (x0 : S37) (x1 : Bool) : L13_0 x0 x1 = (
  bif (decide (x0.f2 ≤ 0)) then
    some true
  else
  bif (decide (x0.f1 ≥ 0)) then
    some true
  else
  bif (decide ((wr .i64 (x0.f1 + (wr .i64 (2 * x0.f2)))) ≤ 0)) then
    some true
  else
  L13_1 x0 x1
 : Option (Bool)) := (LiP_eq fd13 (tabH_nat h13) c13_0 (x0, x1, ())).trans (by kernel_rfl)
theorem L13_1_eq (x0 : S37) (x1 : Bool) : L13_1 x0 x1 = (
  (F24 x0.f0).bind fun y1 =>
  (F24 x0.f2).bind fun y2 =>
  (F23 y1 y2).bind fun y3 =>
  (F22 y3 2).bind fun y4 =>
  (F24 x0.f1).bind fun y5 =>
  (F24 x0.f1).bind fun y6 =>
  (F23 y5 y6).bind fun y7 =>
  (F25 y4.1 y7).bind fun y8 =>
  bif (decide (y8 > 0)) then
    some true
  else
  bif x1 then
    some (y8 == 0)
  else
  some false
 : Option (Bool)) := (LiP_eq fd13 (tabH_nat h13) c13_1 (x0, x1, ())).trans (by kernel_rfl)
/-! side.Right -/
theorem F5_eq (x0 : S23) (x1 : S25) : F5 x0 x1 = (
  (F10 x0 x1).bind fun y1 =>
  bif (!y1) then
    some (false, 1)
  else
  bif x1.f1 then
    (F11 x1.f2 x1.f3 x1.f4).bind fun y2 =>
    L5_0 x0 x1 y2
  else
  L5_0 x0 x1 0
 : Option (Bool × Int)) := (GoP_eq fd5 (tabH D h5) (x0, x1)).trans (by kernel_rfl)
theorem L5_0_eq (x0 : S23) (x1 : S25) (x2 : Int) : L5_0 x0 x1 x2 = (
  (F12 x0 x1).bind fun y1 =>
  bif (decide (x2 > 0)) then
    (F13 y1 false).bind fun y2 =>
    some ((!y2), 0)
  else
  bif (decide (x2 < 0)) then
    (F13 (S37.mk (wr .i64 (0 - y1.f0)) (wr .i64 (0 - y1.f1)) (wr .i64 (0 - y1.f2))) true).bind fun y3 =>
    some (y3, 0)
  else
  bif ((x1.f2.f0 == x1.f4.f0) && (x1.f2.f1 == x1.f4.f1)) then
    (F11 x1.f2 x1.f3 x0).bind fun y4 =>
    some ((decide (y4 ≤ 0)), 0)
  else
  (F11 x1.f2 x1.f4 x0).bind fun y5 =>
  some ((decide (y5 ≤ 0)), 0)
 : Option (Bool × Int)) := (LiP_eq fd5 (tabH_nat h5) c5_0 (x0, x1, x2, ())).trans (by kernel_rfl)
/-! side.Way -/
theorem F6_eq (x0 : S23) (x1 : S25) : F6 x0 x1 = (
  (F10 x0 x1).bind fun y1 =>
  bif (!y1) then
    some (((List.set [(S30.mk 0 0 0)] 0 (S30.mk 0 0 0)).getD 0 z2), 1)
  else
  bif (!x1.f1) then
    (F11 x1.f2 x1.f4 x0).bind fun y2 =>
    some (((List.set [(S30.mk 0 0 0)] 0 (S30.mk y2 0 0)).getD 0 z2), 0)
  else
  (F12 x0 x1).bind fun y3 =>
  some (((List.set [(S30.mk 0 0 0)] 0 (S30.mk y3.f0 y3.f1 y3.f2)).getD 0 z2), 0)
 : Option (S30 × Int)) := (GoP_eq fd6 (tabH D h6) (x0, x1)).trans (by kernel_rfl)
/-! pochoirlaw24.awake -/
theorem F4_eq : F4 = (
  (F5 (S23.mk 5 (-1)) (S25.mk 0 false (S23.mk 0 0) (S23.mk 0 0) (S23.mk 10 0))).bind fun y1 =>
  (F5 (S23.mk 5 1) (S25.mk 0 false (S23.mk 0 0) (S23.mk 0 0) (S23.mk 10 0))).bind fun y2 =>
  (F6 (S23.mk 5 1) (S25.mk 0 false (S23.mk 0 0) (S23.mk 0 0) (S23.mk 10 0))).bind fun y3 =>
  bif y1.1 then
    bif (y1.2 == 0) then
      bif (!y2.1) then
        bif (y2.2 == 0) then
          bif ((y3.1.f0 == 10) && ((y3.1.f1 == 0) && (y3.1.f2 == 0))) then
            some (y3.2 == 0)
          else
          some false
        else
        some false
      else
      some false
    else
    some false
  else
  some false
 : Option (Bool)) := (GoP_eq fd4 (tabH D h4) ()).trans (by kernel_rfl)
/-! pochoirref18.May -/
theorem F14_eq (x0 : S23) : F14 x0 = (
  bif (decide (x0.f0 ≥ (-33554432))) then
    bif (decide (x0.f0 ≤ 33554432)) then
      bif (decide (x0.f1 ≥ (-33554432))) then
        some (decide (x0.f1 ≤ 33554432))
      else
      some false
    else
    some false
  else
  some false
 : Option (Bool)) := (GoP_eq fd14 (tabH D h14) (x0)).trans (by kernel_rfl)
/-! pochoirref16.fine -/
theorem F26_eq (x0 : S23) : F26 x0 = (
  bif (decide (x0.f0 ≥ (-33554432))) then
    bif (decide (x0.f0 ≤ 33554432)) then
      bif (decide (x0.f1 ≥ (-33554432))) then
        some (decide (x0.f1 ≤ 33554432))
      else
      some false
    else
    some false
  else
  some false
 : Option (Bool)) := (GoP_eq fd26 (tabH D h26) (x0)).trans (by kernel_rfl)
/-! pochoirref16.same -/
theorem F27_eq (x0 : S25) : F27 x0 = (
  bif ((x0.f2.f0 == x0.f4.f0) && (x0.f2.f1 == x0.f4.f1)) then
    bif (!x0.f1) then
      some true
    else
    some ((x0.f2.f0 == x0.f3.f0) && (x0.f2.f1 == x0.f3.f1))
  else
  some false
 : Option (Bool)) := (GoP_eq fd27 (tabH D h27) (x0)).trans (by kernel_rfl)
/-! pochoirref16.One -/
theorem F15_eq (x0 : S25) : F15 x0 = (
  (F26 x0.f2).bind fun y1 =>
  bif y1 then
    (F26 x0.f3).bind fun y2 =>
    bif y2 then
      (F26 x0.f4).bind fun y3 =>
      bif y3 then
        (F27 x0).bind fun y4 =>
        bif (!y4) then
          bif x0.f1 then
            some true
          else
          some ((x0.f3.f0 == 0) && (x0.f3.f1 == 0))
        else
        some false
      else
      some false
    else
    some false
  else
  some false
 : Option (Bool)) := (GoP_eq fd15 (tabH D h15) (x0)).trans (by kernel_rfl)
/-! pochoirref24.May -/
theorem F7_eq (x0 : S23) (x1 : S25) : F7 x0 x1 = (
  (F14 x0).bind fun y1 =>
  bif y1 then
    (F15 x1).bind fun y2 =>
    some y2
  else
  some false
 : Option (Bool)) := (GoP_eq fd7 (tabH D h7) (x0, x1)).trans (by kernel_rfl)
/-! pochoirref18.Cross -/
theorem F16_eq (x0 : S23) (x1 : S23) (x2 : S23) : F16 x0 x1 x2 = (
  some (wr .i64 ((wr .i64 ((wr .i64 (x1.f0 - x0.f0)) * (wr .i64 (x2.f1 - x0.f1)))) - (wr .i64 ((wr .i64 (x1.f1 - x0.f1)) * (wr .i64 (x2.f0 - x0.f0))))))
 : Option (Int)) := (GoP_eq fd16 (tabH D h16) (x0, x1, x2)).trans (by kernel_rfl)
/-! pochoirref18.Sign -/
theorem F17_eq (x0 : Int) : F17 x0 = (
  bif (decide (x0 < 0)) then
    some (-1)
  else
  bif (decide (x0 > 0)) then
    some 1
  else
  some 0
 : Option (Int)) := (GoP_eq fd17 (tabH D h17) (x0)).trans (by kernel_rfl)
/-! pochoirref24.Way -/
theorem F9_eq (x0 : S23) (x1 : S25) : F9 x0 x1 = (
  bif (!x1.f1) then
    (F16 x1.f2 x1.f4 x0).bind fun y1 =>
    some ((List.set [(S30.mk 0 0 0)] 0 (S30.mk y1 0 0)).getD 0 z2)
  else
  some ((List.set [(S30.mk 0 0 0)] 0 (S30.mk (wr .i64 ((wr .i64 ((wr .i64 (2 * (wr .i64 (x1.f3.f1 - x1.f2.f1)))) * (wr .i64 (x1.f2.f0 - x0.f0)))) - (wr .i64 ((wr .i64 (2 * (wr .i64 (x1.f3.f0 - x1.f2.f0)))) * (wr .i64 (x1.f2.f1 - x0.f1)))))) (wr .i64 (2 * (wr .i64 ((wr .i64 ((wr .i64 ((wr .i64 (x1.f2.f1 - (wr .i64 (2 * x1.f3.f1)))) + x1.f4.f1)) * (wr .i64 (x1.f2.f0 - x0.f0)))) - (wr .i64 ((wr .i64 ((wr .i64 (x1.f2.f0 - (wr .i64 (2 * x1.f3.f0)))) + x1.f4.f0)) * (wr .i64 (x1.f2.f1 - x0.f1)))))))) (wr .i64 ((wr .i64 ((wr .i64 ((wr .i64 (x1.f2.f1 - (wr .i64 (2 * x1.f3.f1)))) + x1.f4.f1)) * (wr .i64 (2 * (wr .i64 (x1.f3.f0 - x1.f2.f0)))))) - (wr .i64 ((wr .i64 ((wr .i64 (x1.f2.f0 - (wr .i64 (2 * x1.f3.f0)))) + x1.f4.f0)) * (wr .i64 (2 * (wr .i64 (x1.f3.f1 - x1.f2.f1)))))))))).getD 0 z2)
 : Option (S30)) := (GoP_eq fd9 (tabH D h9) (x0, x1)).trans (by kernel_rfl)
/-! pochoirref02.trim -/
theorem F65_eq (x0 : List Int) : F65 x0 = (
  L65_0 x0 (x0.length : Int)
 : Option (List Int)) := (GoP_eq fd65 (tabH D h65) (x0)).trans (by kernel_rfl)
theorem L65_0_eq (x0 : List Int) (x1 : Int) : L65_0 x0 x1 = (
  bif (decide (x1 > 0)) then
    grd (decide (0 ≤ (wr .i64 (x1 - 1)))) <|
    grd (decide ((wr .i64 (x1 - 1)) < (x0.length : Int))) <|
    bif ((x0.getD (Int.toNat (wr .i64 (x1 - 1))) 0) == 0) then
      L65_0 x0 (wr .i64 (x1 - 1))
    else
    grd (decide (0 ≤ x1)) <|
    grd (decide (x1 ≤ (x0.length : Int))) <|
    some (List.take (Int.toNat x1) x0)
  else
  grd (decide (0 ≤ x1)) <|
  grd (decide (x1 ≤ (x0.length : Int))) <|
  some (List.take (Int.toNat x1) x0)
 : Option (List Int)) := (LiP_eq fd65 (tabH_nat h65) c65_0 (x0, x1, ())).trans (by kernel_rfl)
/-! pochoirref02.norm -/
theorem F51_eq (x0 : Bool) (x1 : List Int) : F51 x0 x1 = (
  (F65 x1).bind fun y1 =>
  bif x0 then
    some (S73.mk (decide ((y1.length : Int) > 0)) y1)
  else
  some (S73.mk false y1)
 : Option (S73)) := (GoP_eq fd51 (tabH D h51) (x0, x1)).trans (by kernel_rfl)
/-! pochoirref02.Of -/
theorem F40_eq (x0 : Int) : F40 x0 = (
  bif (decide (x0 < 0)) then
    L40_0 x0 (S73.mk false []) (wr .u64 (0 - (wr .u64 x0)))
  else
  L40_0 x0 (S73.mk false []) (wr .u64 x0)
 : Option (S73)) := (GoP_eq fd40 (tabH D h40) (x0)).trans (by kernel_rfl)
theorem L40_0_eq (x0 : Int) (x1 : S73) (x2 : Int) : L40_0 x0 x1 x2 = (
  (F51 (decide (x0 < 0)) [(Int.tmod x2 (65536 : Int)), (Int.tmod (wr .u64 (Int.tdiv x2 (65536 : Int))) (65536 : Int)), (Int.tmod (wr .u64 (Int.tdiv x2 (4294967296 : Int))) (65536 : Int)), (wr .u64 (Int.tdiv x2 (281474976710656 : Int)))]).bind fun y1 =>
  some y1
 : Option (S73)) := (LiP_eq fd40 (tabH_nat h40) c40_0 (x0, x1, x2, ())).trans (by kernel_rfl)
/-! pochoirref02.Sign -/
theorem F44_eq (x0 : S73) : F44 x0 = (
  bif ((x0.f1.length : Int) == 0) then
    some 0
  else
  bif x0.f0 then
    some (-1)
  else
  some 1
 : Option (Int)) := (GoP_eq fd44 (tabH D h44) (x0)).trans (by kernel_rfl)
/-! pochoirref05.Trim -/
theorem F41_eq (x0 : List S73) : F41 x0 = (
  L41_0 x0 (x0.length : Int)
 : Option (List S73)) := (GoP_eq fd41 (tabH D h41) (x0)).trans (by kernel_rfl)
theorem L41_0_eq (x0 : List S73) (x1 : Int) : L41_0 x0 x1 = (
  bif (decide (x1 > 0)) then
    grd (decide (0 ≤ (wr .i64 (x1 - 1)))) <|
    grd (decide ((wr .i64 (x1 - 1)) < (x0.length : Int))) <|
    (F44 (x0.getD (Int.toNat (wr .i64 (x1 - 1))) z5)).bind fun y1 =>
    bif (y1 == 0) then
      L41_0 x0 (wr .i64 (x1 - 1))
    else
    grd (decide (0 ≤ x1)) <|
    grd (decide (x1 ≤ (x0.length : Int))) <|
    some (List.take (Int.toNat x1) x0)
  else
  grd (decide (0 ≤ x1)) <|
  grd (decide (x1 ≤ (x0.length : Int))) <|
  some (List.take (Int.toNat x1) x0)
 : Option (List S73)) := (LiP_eq fd41 (tabH_nat h41) c41_0 (x0, x1, ())).trans (by kernel_rfl)
/-! pochoirref05.Of -/
theorem F28_eq (x0 : List Int) : F28 x0 = (
  L28_0 x0 [] 0
 : Option (List S73)) := (GoP_eq fd28 (tabH D h28) (x0)).trans (by kernel_rfl)
theorem L28_0_eq (x0 : List Int) (x1 : List S73) (x2 : Int) : L28_0 x0 x1 x2 = (
  bif (decide (x2 < (x0.length : Int))) then
    grd (decide (0 ≤ x2)) <|
    grd (decide (x2 < (x0.length : Int))) <|
    (F40 (x0.getD (Int.toNat x2) 0)).bind fun y1 =>
    grd (fit (x1.length + [y1].length) 32) <|
    L28_0 x0 (x1 ++ [y1]) (wr .i64 (x2 + 1))
  else
  (F41 x1).bind fun y2 =>
  some y2
 : Option (List S73)) := (LiP_eq fd28 (tabH_nat h28) c28_0 (x0, x1, x2, ())).trans (by kernel_rfl)
/-! pochoirref02.at -/
theorem F66_eq (x0 : List Int) (x1 : Int) : F66 x0 x1 = (
  bif (decide (x1 < (x0.length : Int))) then
    grd (decide (0 ≤ x1)) <|
    grd (decide (x1 < (x0.length : Int))) <|
    some (x0.getD (Int.toNat x1) 0)
  else
  some 0
 : Option (Int)) := (GoP_eq fd66 (tabH D h66) (x0, x1)).trans (by kernel_rfl)
/-! pochoirref02.Mul -/
theorem F55_eq (x0 : S73) (x1 : S73) : F55 x0 x1 = (
  grd (decide (0 ≤ (wr .i64 ((wr .i64 ((x0.f1.length : Int) + (x1.f1.length : Int))) + 1)))) <|
  grd (decide ((wr .i64 ((wr .i64 ((x0.f1.length : Int) + (x1.f1.length : Int))) + 1)) ≤ (wr .i64 ((wr .i64 ((x0.f1.length : Int) + (x1.f1.length : Int))) + 1)))) <|
  grd (fitM (Int.toNat (wr .i64 ((wr .i64 ((x0.f1.length : Int) + (x1.f1.length : Int))) + 1))) 8) <|
  L55_0 x0 x1 (S73.mk false []) (List.replicate (Int.toNat (wr .i64 ((wr .i64 ((x0.f1.length : Int) + (x1.f1.length : Int))) + 1))) (0 : Int)) 0
 : Option (S73)) := (GoP_eq fd55 (tabH D h55) (x0, x1)).trans (by kernel_rfl)
theorem L55_0_eq (x0 : S73) (x1 : S73) (x2 : S73) (x3 : List Int) (x4 : Int) : L55_0 x0 x1 x2 x3 x4 = (
  bif (decide (x4 < (x0.f1.length : Int))) then
    L55_1 x0 x1 x2 x3 x4 0 0
  else
  (F51 (!(x0.f0 == x1.f0)) x3).bind fun y1 =>
  some y1
 : Option (S73)) := (LiP_eq fd55 (tabH_nat h55) c55_0 (x0, x1, x2, x3, x4, ())).trans (by kernel_rfl)
theorem L55_1_eq (x0 : S73) (x1 : S73) (x2 : S73) (x3 : List Int) (x4 : Int) (x5 : Int) (x6 : Int) : L55_1 x0 x1 x2 x3 x4 x5 x6 = (
  bif (decide (x6 < (x1.f1.length : Int))) then
    L55_2 x0 x1 x2 x3 x4 x5 x6
  else
  bif (decide (x5 > 0)) then
    L55_2 x0 x1 x2 x3 x4 x5 x6
  else
  L55_0 x0 x1 x2 x3 (wr .i64 (x4 + 1))
 : Option (S73)) := (LiP_eq fd55 (tabH_nat h55) c55_1 (x0, x1, x2, x3, x4, x5, x6, ())).trans (by kernel_rfl)
theorem L55_2_eq (x0 : S73) (x1 : S73) (x2 : S73) (x3 : List Int) (x4 : Int) (x5 : Int) (x6 : Int) : L55_2 x0 x1 x2 x3 x4 x5 x6 = (
  grd (decide (0 ≤ (wr .i64 (x4 + x6)))) <|
  grd (decide ((wr .i64 (x4 + x6)) < (x3.length : Int))) <|
  grd (decide (0 ≤ x4)) <|
  grd (decide (x4 < (x0.f1.length : Int))) <|
  (F66 x1.f1 x6).bind fun y1 =>
  grd (decide (0 ≤ (wr .i64 (x4 + x6)))) <|
  grd (decide ((wr .i64 (x4 + x6)) < (x3.length : Int))) <|
  L55_1 x0 x1 x2 (List.set x3 (Int.toNat (wr .i64 (x4 + x6))) (Int.tmod (wr .u64 ((wr .u64 ((x3.getD (Int.toNat (wr .i64 (x4 + x6))) 0) + (wr .u64 ((x0.f1.getD (Int.toNat x4) 0) * y1)))) + x5)) (65536 : Int))) x4 (wr .u64 (Int.tdiv (wr .u64 ((wr .u64 ((x3.getD (Int.toNat (wr .i64 (x4 + x6))) 0) + (wr .u64 ((x0.f1.getD (Int.toNat x4) 0) * y1)))) + x5)) (65536 : Int))) (wr .i64 (x6 + 1))
 : Option (S73)) := (LiP_eq fd55 (tabH_nat h55) c55_2 (x0, x1, x2, x3, x4, x5, x6, ())).trans (by kernel_rfl)
/-! pochoirref02.Neg -/
theorem F67_eq (x0 : S73) : F67 x0 = (
  (F51 (!x0.f0) x0.f1).bind fun y1 =>
  some y1
 : Option (S73)) := (GoP_eq fd67 (tabH D h67) (x0)).trans (by kernel_rfl)
/-! pochoirref02.plus -/
theorem F69_eq (x0 : List Int) (x1 : List Int) : F69 x0 x1 = (
  L69_0 x0 x1 [] 0 0
 : Option (List Int)) := (GoP_eq fd69 (tabH D h69) (x0, x1)).trans (by kernel_rfl)
theorem L69_0_eq (x0 : List Int) (x1 : List Int) (x2 : List Int) (x3 : Int) (x4 : Int) : L69_0 x0 x1 x2 x3 x4 = (
  bif (decide (x4 < (x0.length : Int))) then
    L69_1 x0 x1 x2 x3 x4
  else
  bif (decide (x4 < (x1.length : Int))) then
    L69_1 x0 x1 x2 x3 x4
  else
  bif (decide (x3 > 0)) then
    L69_1 x0 x1 x2 x3 x4
  else
  some x2
 : Option (List Int)) := (LiP_eq fd69 (tabH_nat h69) c69_0 (x0, x1, x2, x3, x4, ())).trans (by kernel_rfl)
theorem L69_1_eq (x0 : List Int) (x1 : List Int) (x2 : List Int) (x3 : Int) (x4 : Int) : L69_1 x0 x1 x2 x3 x4 = (
  (F66 x0 x4).bind fun y1 =>
  (F66 x1 x4).bind fun y2 =>
  grd (fit (x2.length + [(Int.tmod (wr .u64 ((wr .u64 (y1 + y2)) + x3)) (65536 : Int))].length) 8) <|
  L69_0 x0 x1 (x2 ++ [(Int.tmod (wr .u64 ((wr .u64 (y1 + y2)) + x3)) (65536 : Int))]) (wr .u64 (Int.tdiv (wr .u64 ((wr .u64 (y1 + y2)) + x3)) (65536 : Int))) (wr .i64 (x4 + 1))
 : Option (List Int)) := (LiP_eq fd69 (tabH_nat h69) c69_1 (x0, x1, x2, x3, x4, ())).trans (by kernel_rfl)
/-! pochoirref02.less -/
theorem F70_eq (x0 : List Int) (x1 : List Int) : F70 x0 x1 = (
  bif ((x0.length : Int) != (x1.length : Int)) then
    bif (decide ((x0.length : Int) < (x1.length : Int))) then
      some (-1)
    else
    some 1
  else
  L70_0 x0 x1 (wr .i64 ((x0.length : Int) - 1))
 : Option (Int)) := (GoP_eq fd70 (tabH D h70) (x0, x1)).trans (by kernel_rfl)
theorem L70_0_eq (x0 : List Int) (x1 : List Int) (x2 : Int) : L70_0 x0 x1 x2 = (
  bif (decide (x2 ≥ 0)) then
    grd (decide (0 ≤ x2)) <|
    grd (decide (x2 < (x0.length : Int))) <|
    grd (decide (0 ≤ x2)) <|
    grd (decide (x2 < (x1.length : Int))) <|
    bif (decide ((x0.getD (Int.toNat x2) 0) < (x1.getD (Int.toNat x2) 0))) then
      some (-1)
    else
    grd (decide (0 ≤ x2)) <|
    grd (decide (x2 < (x0.length : Int))) <|
    grd (decide (0 ≤ x2)) <|
    grd (decide (x2 < (x1.length : Int))) <|
    bif (decide ((x0.getD (Int.toNat x2) 0) > (x1.getD (Int.toNat x2) 0))) then
      some 1
    else
    L70_0 x0 x1 (wr .i64 (x2 - 1))
  else
  some 0
 : Option (Int)) := (LiP_eq fd70 (tabH_nat h70) c70_0 (x0, x1, x2, ())).trans (by kernel_rfl)
/-! pochoirref02.minus -/
theorem F71_eq (x0 : List Int) (x1 : List Int) : F71 x0 x1 = (
  L71_0 x0 x1 [] 0 0
 : Option (List Int)) := (GoP_eq fd71 (tabH D h71) (x0, x1)).trans (by kernel_rfl)
theorem L71_0_eq (x0 : List Int) (x1 : List Int) (x2 : List Int) (x3 : Int) (x4 : Int) : L71_0 x0 x1 x2 x3 x4 = (
  bif (decide (x4 < (x0.length : Int))) then
    grd (decide (0 ≤ x4)) <|
    grd (decide (x4 < (x0.length : Int))) <|
    (F66 x1 x4).bind fun y1 =>
    grd (fit (x2.length + [(Int.tmod (wr .u64 ((wr .u64 ((wr .u64 (65536 + (x0.getD (Int.toNat x4) 0))) - y1)) - x3)) (65536 : Int))].length) 8) <|
    L71_0 x0 x1 (x2 ++ [(Int.tmod (wr .u64 ((wr .u64 ((wr .u64 (65536 + (x0.getD (Int.toNat x4) 0))) - y1)) - x3)) (65536 : Int))]) (wr .u64 (1 - (wr .u64 (Int.tdiv (wr .u64 ((wr .u64 ((wr .u64 (65536 + (x0.getD (Int.toNat x4) 0))) - y1)) - x3)) (65536 : Int))))) (wr .i64 (x4 + 1))
  else
  some x2
 : Option (List Int)) := (LiP_eq fd71 (tabH_nat h71) c71_0 (x0, x1, x2, x3, x4, ())).trans (by kernel_rfl)
/-! pochoirref02.Add -/
theorem F60_eq (x0 : S73) (x1 : S73) : F60 x0 x1 = (
  bif (x0.f0 == x1.f0) then
    (F69 x0.f1 x1.f1).bind fun y1 =>
    (F51 x0.f0 y1).bind fun y2 =>
    some y2
  else
  (F70 x0.f1 x1.f1).bind fun y3 =>
  bif (decide (y3 ≥ 0)) then
    (F71 x0.f1 x1.f1).bind fun y4 =>
    (F51 x0.f0 y4).bind fun y5 =>
    some y5
  else
  (F71 x1.f1 x0.f1).bind fun y6 =>
  (F51 x1.f0 y6).bind fun y7 =>
  some y7
 : Option (S73)) := (GoP_eq fd60 (tabH D h60) (x0, x1)).trans (by kernel_rfl)
/-! pochoirref02.Sub -/
theorem F56_eq (x0 : S73) (x1 : S73) : F56 x0 x1 = (
  (F67 x1).bind fun y1 =>
  (F60 x0 y1).bind fun y2 =>
  some y2
 : Option (S73)) := (GoP_eq fd56 (tabH D h56) (x0, x1)).trans (by kernel_rfl)
/-! pochoirref05.at -/
theorem F68_eq (x0 : List S73) (x1 : Int) : F68 x0 x1 = (
  bif (decide (x1 ≥ 0)) then
    bif (decide (x1 < (x0.length : Int))) then
      grd (decide (0 ≤ x1)) <|
      grd (decide (x1 < (x0.length : Int))) <|
      some (x0.getD (Int.toNat x1) z5)
    else
    some (S73.mk false [])
  else
  some (S73.mk false [])
 : Option (S73)) := (GoP_eq fd68 (tabH D h68) (x0, x1)).trans (by kernel_rfl)
/-! pochoirref05.Mul -/
theorem F57_eq (x0 : List S73) (x1 : List S73) : F57 x0 x1 = (
  L57_0 x0 x1 [] 0
 : Option (List S73)) := (GoP_eq fd57 (tabH D h57) (x0, x1)).trans (by kernel_rfl)
theorem L57_0_eq (x0 : List S73) (x1 : List S73) (x2 : List S73) (x3 : Int) : L57_0 x0 x1 x2 x3 = (
  bif (decide (x3 < (wr .i64 ((x0.length : Int) + (x1.length : Int))))) then
    L57_1 x0 x1 x2 x3 (S73.mk false []) 0
  else
  (F41 x2).bind fun y1 =>
  some y1
 : Option (List S73)) := (LiP_eq fd57 (tabH_nat h57) c57_0 (x0, x1, x2, x3, ())).trans (by kernel_rfl)
theorem L57_1_eq (x0 : List S73) (x1 : List S73) (x2 : List S73) (x3 : Int) (x4 : S73) (x5 : Int) : L57_1 x0 x1 x2 x3 x4 x5 = (
  bif (decide (x5 ≤ x3)) then
    (F68 x0 x5).bind fun y1 =>
    (F68 x1 (wr .i64 (x3 - x5))).bind fun y2 =>
    (F55 y1 y2).bind fun y3 =>
    (F60 x4 y3).bind fun y4 =>
    L57_1 x0 x1 x2 x3 y4 (wr .i64 (x5 + 1))
  else
  grd (fit (x2.length + [x4].length) 32) <|
  L57_0 x0 x1 (x2 ++ [x4]) (wr .i64 (x3 + 1))
 : Option (List S73)) := (LiP_eq fd57 (tabH_nat h57) c57_1 (x0, x1, x2, x3, x4, x5, ())).trans (by kernel_rfl)
/-! pochoirref06.power -/
theorem F58_eq (x0 : List S73) (x1 : Int) : F58 x0 x1 = (
  (F28 [(1 : Int)]).bind fun y1 =>
  L58_0 x0 x1 y1 0
 : Option (List S73)) := (GoP_eq fd58 (tabH D h58) (x0, x1)).trans (by kernel_rfl)
theorem L58_0_eq (x0 : List S73) (x1 : Int) (x2 : List S73) (x3 : Int) : L58_0 x0 x1 x2 x3 = (
  bif (decide (x3 < x1)) then
    (F57 x2 x0).bind fun y1 =>
    L58_0 x0 x1 y1 (wr .i64 (x3 + 1))
  else
  some x2
 : Option (List S73)) := (LiP_eq fd58 (tabH_nat h58) c58_0 (x0, x1, x2, x3, ())).trans (by kernel_rfl)
/-! pochoirref05.Add -/
theorem F59_eq (x0 : List S73) (x1 : List S73) : F59 x0 x1 = (
  L59_1 x0 x1 [] 0
 : Option (List S73)) := (GoP_eq fd59 (tabH D h59) (x0, x1)).trans (by kernel_rfl)
theorem L59_0_eq (x0 : List S73) : L59_0 x0 = (
  (F41 x0).bind fun y1 =>
  some y1
 : Option (List S73)) := (LiP_eq fd59 (tabH_nat h59) c59_0 (x0, ())).trans (by kernel_rfl)
theorem L59_1_eq (x0 : List S73) (x1 : List S73) (x2 : List S73) (x3 : Int) : L59_1 x0 x1 x2 x3 = (
  bif (decide (x3 < (x0.length : Int))) then
    L59_2 x0 x1 x2 x3
  else
  bif (decide (x3 < (x1.length : Int))) then
    L59_2 x0 x1 x2 x3
  else
  L59_0 x2
 : Option (List S73)) := (LiP_eq fd59 (tabH_nat h59) c59_1 (x0, x1, x2, x3, ())).trans (by kernel_rfl)
theorem L59_2_eq (x0 : List S73) (x1 : List S73) (x2 : List S73) (x3 : Int) : L59_2 x0 x1 x2 x3 = (
  (F68 x0 x3).bind fun y1 =>
  (F68 x1 x3).bind fun y2 =>
  (F60 y1 y2).bind fun y3 =>
  grd (fit (x2.length + [y3].length) 32) <|
  L59_1 x0 x1 (x2 ++ [y3]) (wr .i64 (x3 + 1))
 : Option (List S73)) := (LiP_eq fd59 (tabH_nat h59) c59_2 (x0, x1, x2, x3, ())).trans (by kernel_rfl)
/-! pochoirref06.unit -/
theorem F43_eq (x0 : List S73) (x1 : S59) (x2 : S59) : F43 x0 x1 x2 = (
  (F40 x1.f1).bind fun y1 =>
  (F40 x2.f1).bind fun y2 =>
  (F55 y1 y2).bind fun y3 =>
  (F40 x1.f0).bind fun y4 =>
  (F40 x2.f1).bind fun y5 =>
  (F55 y4 y5).bind fun y6 =>
  (F40 x2.f0).bind fun y7 =>
  (F40 x1.f1).bind fun y8 =>
  (F55 y7 y8).bind fun y9 =>
  (F56 y9 y6).bind fun y10 =>
  (F41 [y6, y10]).bind fun y11 =>
  L43_0 x0 y3 y11 [] 0
 : Option (List S73)) := (GoP_eq fd43 (tabH D h43) (x0, x1, x2)).trans (by kernel_rfl)
theorem L43_0_eq (x0 : List S73) (x1 : S73) (x2 : List S73) (x3 : List S73) (x4 : Int) : L43_0 x0 x1 x2 x3 x4 = (
  bif (decide (x4 < (x0.length : Int))) then
    grd (decide (0 ≤ x4)) <|
    grd (decide (x4 < (x0.length : Int))) <|
    (F41 [(x0.getD (Int.toNat x4) z5)]).bind fun y1 =>
    (F41 [x1]).bind fun y2 =>
    (F58 y2 (wr .i64 ((wr .i64 ((x0.length : Int) - 1)) - x4))).bind fun y3 =>
    (F57 y1 y3).bind fun y4 =>
    (F58 x2 x4).bind fun y5 =>
    (F57 y4 y5).bind fun y6 =>
    (F59 x3 y6).bind fun y7 =>
    L43_0 x0 x1 x2 y7 (wr .i64 (x4 + 1))
  else
  some x3
 : Option (List S73)) := (LiP_eq fd43 (tabH_nat h43) c43_0 (x0, x1, x2, x3, x4, ())).trans (by kernel_rfl)
/-! pochoirref06.none -/
theorem F53_eq : F53 = (
  some (S59.mk 0 1)
 : Option (S59)) := (GoP_eq fd53 (tabH D h53) ()).trans (by kernel_rfl)
/-! pochoirref05.At -/
theorem F45_eq (x0 : List S73) (x1 : S59) : F45 x0 x1 = (
  (F40 1).bind fun y1 =>
  L45_0 x0 x1 (S73.mk false []) (S73.mk false []) y1 (wr .i64 ((x0.length : Int) - 1))
 : Option (S73)) := (GoP_eq fd45 (tabH D h45) (x0, x1)).trans (by kernel_rfl)
theorem L45_0_eq (x0 : List S73) (x1 : S59) (x2 : S73) (x3 : S73) (x4 : S73) (x5 : Int) : L45_0 x0 x1 x2 x3 x4 x5 = (
  bif (decide (x5 ≥ 0)) then
    (F40 x1.f0).bind fun y1 =>
    (F55 x3 y1).bind fun y2 =>
    grd (decide (0 ≤ x5)) <|
    grd (decide (x5 < (x0.length : Int))) <|
    (F55 (x0.getD (Int.toNat x5) z5) x4).bind fun y3 =>
    (F60 y2 y3).bind fun y4 =>
    (F40 x1.f1).bind fun y5 =>
    (F55 x4 y5).bind fun y6 =>
    L45_0 x0 x1 x2 y4 y6 (wr .i64 (x5 - 1))
  else
  some x3
 : Option (S73)) := (LiP_eq fd45 (tabH_nat h45) c45_0 (x0, x1, x2, x3, x4, x5, ())).trans (by kernel_rfl)
/-! pochoirref02.Cmp -/
theorem F73_eq (x0 : S73) (x1 : S73) : F73 x0 x1 = (
  (F56 x0 x1).bind fun y1 =>
  (F44 y1).bind fun y2 =>
  some y2
 : Option (Int)) := (GoP_eq fd73 (tabH D h73) (x0, x1)).trans (by kernel_rfl)
/-! pochoirref02.Div -/
theorem F72_eq (x0 : S73) (x1 : Int) : F72 x0 x1 = (
  (F40 x1).bind fun y1 =>
  L72_0 x1 x0 (S73.mk false []) (S73.mk false []) (S73.mk false y1.f1) (S73.mk false []) (S73.mk false []) (wr .i64 ((wr .i64 (16 * (x0.f1.length : Int))) - 1))
 : Option (S73 × S73)) := (GoP_eq fd72 (tabH D h72) (x0, x1)).trans (by kernel_rfl)
theorem L72_0_eq (x0 : Int) (x1 : S73) (x2 : S73) (x3 : S73) (x4 : S73) (x5 : S73) (x6 : S73) (x7 : Int) : L72_0 x0 x1 x2 x3 x4 x5 x6 x7 = (
  bif (decide (x7 ≥ 0)) then
    (F60 x5 x5).bind fun y1 =>
    (F60 x6 x6).bind fun y2 =>
    grd (decide (0 ≤ (wr .i64 (Int.tdiv x7 (16 : Int))))) <|
    grd (decide ((wr .i64 (Int.tdiv x7 (16 : Int))) < (x1.f1.length : Int))) <|
    grd (decide (0 ≤ (Int.tmod x7 (16 : Int)))) <|
    bif ((Int.tmod (shrE Go.IntKind.u64 (x1.f1.getD (Int.toNat (wr .i64 (Int.tdiv x7 (16 : Int)))) 0) (Int.tmod x7 (16 : Int))) (2 : Int)) == 1) then
      (F40 1).bind fun y3 =>
      (F60 y2 y3).bind fun y4 =>
      L72_1 x0 x1 x2 x3 x4 y1 y4 x7
    else
    L72_1 x0 x1 x2 x3 x4 y1 y2 x7
  else
  (F51 (!(x1.f0 == (decide (x0 < 0)))) x5.f1).bind fun y5 =>
  (F51 x1.f0 x6.f1).bind fun y6 =>
  some (y5, y6)
 : Option (S73 × S73)) := (LiP_eq fd72 (tabH_nat h72) c72_0 (x0, x1, x2, x3, x4, x5, x6, x7, ())).trans (by kernel_rfl)
theorem L72_1_eq (x0 : Int) (x1 : S73) (x2 : S73) (x3 : S73) (x4 : S73) (x5 : S73) (x6 : S73) (x7 : Int) : L72_1 x0 x1 x2 x3 x4 x5 x6 x7 = (
  (F73 x6 x4).bind fun y1 =>
  bif (decide (y1 ≥ 0)) then
    (F56 x6 x4).bind fun y2 =>
    (F40 1).bind fun y3 =>
    (F60 x5 y3).bind fun y4 =>
    L72_0 x0 x1 x2 x3 x4 y4 y2 (wr .i64 (x7 - 1))
  else
  L72_0 x0 x1 x2 x3 x4 x5 x6 (wr .i64 (x7 - 1))
 : Option (S73 × S73)) := (LiP_eq fd72 (tabH_nat h72) c72_1 (x0, x1, x2, x3, x4, x5, x6, x7, ())).trans (by kernel_rfl)
/-! pochoirref05.Without -/
theorem F64_eq (x0 : List S73) (x1 : S59) : F64 x0 x1 = (
  L64_0 x0 x1 0
 : Option (List S73 × Int)) := (GoP_eq fd64 (tabH D h64) (x0, x1)).trans (by kernel_rfl)
theorem L64_0_eq (x0 : List S73) (x1 : S59) (x2 : Int) : L64_0 x0 x1 x2 = (
  bif (decide ((x0.length : Int) > 1)) then
    (F45 x0 x1).bind fun y1 =>
    (F44 y1).bind fun y2 =>
    bif (y2 == 0) then
      L64_1 x0 x1 x2
    else
    some (x0, x2)
  else
  some (x0, x2)
 : Option (List S73 × Int)) := (LiP_eq fd64 (tabH_nat h64) c64_0 (x0, x1, x2, ())).trans (by kernel_rfl)
theorem L64_1_eq (x0 : List S73) (x1 : S59) (x2 : Int) : L64_1 x0 x1 x2 = (
  grd (decide (0 ≤ (wr .i64 ((x0.length : Int) - 1)))) <|
  grd (decide ((wr .i64 ((x0.length : Int) - 1)) ≤ (wr .i64 ((x0.length : Int) - 1)))) <|
  grd (fitM (Int.toNat (wr .i64 ((x0.length : Int) - 1))) 32) <|
  L64_2 x0 x1 x2 (List.replicate (Int.toNat (wr .i64 ((x0.length : Int) - 1))) (S73.mk false [])) (S73.mk false []) (wr .i64 ((x0.length : Int) - 1))
 : Option (List S73 × Int)) := (LiP_eq fd64 (tabH_nat h64) c64_1 (x0, x1, x2, ())).trans (by kernel_rfl)
theorem L64_2_eq (x0 : List S73) (x1 : S59) (x2 : Int) (x3 : List S73) (x4 : S73) (x5 : Int) : L64_2 x0 x1 x2 x3 x4 x5 = (
  bif (decide (x5 ≥ 1)) then
    grd (decide (0 ≤ x5)) <|
    grd (decide (x5 < (x0.length : Int))) <|
    (F40 x1.f0).bind fun y1 =>
    (F55 x4 y1).bind fun y2 =>
    (F60 (x0.getD (Int.toNat x5) z5) y2).bind fun y3 =>
    (F72 y3 x1.f1).bind fun y4 =>
    grd (decide (0 ≤ (wr .i64 (x5 - 1)))) <|
    grd (decide ((wr .i64 (x5 - 1)) < (x3.length : Int))) <|
    L64_2 x0 x1 x2 (List.set x3 (Int.toNat (wr .i64 (x5 - 1))) y4.1) y4.1 (wr .i64 (x5 - 1))
  else
  (F41 x3).bind fun y5 =>
  L64_0 y5 x1 (wr .i64 (x2 + 1))
 : Option (List S73 × Int)) := (LiP_eq fd64 (tabH_nat h64) c64_2 (x0, x1, x2, x3, x4, x5, ())).trans (by kernel_rfl)
/-! pochoirref06.one -/
theorem F54_eq : F54 = (
  some (S59.mk 1 1)
 : Option (S59)) := (GoP_eq fd54 (tabH D h54) ()).trans (by kernel_rfl)
/-! pochoirref05.Neg -/
theorem F62_eq (x0 : List S73) : F62 x0 = (
  L62_0 x0 [] 0
 : Option (List S73)) := (GoP_eq fd62 (tabH D h62) (x0)).trans (by kernel_rfl)
theorem L62_0_eq (x0 : List S73) (x1 : List S73) (x2 : Int) : L62_0 x0 x1 x2 = (
  bif (decide (x2 < (x0.length : Int))) then
    grd (decide (0 ≤ x2)) <|
    grd (decide (x2 < (x0.length : Int))) <|
    (F67 (x0.getD (Int.toNat x2) z5)).bind fun y1 =>
    grd (fit (x1.length + [y1].length) 32) <|
    L62_0 x0 (x1 ++ [y1]) (wr .i64 (x2 + 1))
  else
  some x1
 : Option (List S73)) := (LiP_eq fd62 (tabH_nat h62) c62_0 (x0, x1, x2, ())).trans (by kernel_rfl)
/-! pochoirref06.inner -/
theorem F52_eq (x0 : List S73) : F52 x0 = (
  F53.bind fun y1 =>
  (F64 x0 y1).bind fun y2 =>
  F54.bind fun y3 =>
  (F64 y2.1 y3).bind fun y4 =>
  bif ((Int.tmod y4.2 (2 : Int)) == 1) then
    (F62 y4.1).bind fun y5 =>
    some y5
  else
  some y4.1
 : Option (List S73)) := (GoP_eq fd52 (tabH D h52) (x0)).trans (by kernel_rfl)
/-! pochoirref06.Sign -/
theorem F30_eq (x0 : List S73) (x1 : S59) : F30 x0 x1 = (
  (F45 x0 x1).bind fun y1 =>
  (F44 y1).bind fun y2 =>
  some y2
 : Option (Int)) := (GoP_eq fd30 (tabH D h30) (x0, x1)).trans (by kernel_rfl)
/-! pochoirref05.Derive -/
theorem F61_eq (x0 : List S73) : F61 x0 = (
  L61_0 x0 [] 1
 : Option (List S73)) := (GoP_eq fd61 (tabH D h61) (x0)).trans (by kernel_rfl)
theorem L61_0_eq (x0 : List S73) (x1 : List S73) (x2 : Int) : L61_0 x0 x1 x2 = (
  bif (decide (x2 < (x0.length : Int))) then
    grd (decide (0 ≤ x2)) <|
    grd (decide (x2 < (x0.length : Int))) <|
    (F40 x2).bind fun y1 =>
    (F55 (x0.getD (Int.toNat x2) z5) y1).bind fun y2 =>
    grd (fit (x1.length + [y2].length) 32) <|
    L61_0 x0 (x1 ++ [y2]) (wr .i64 (x2 + 1))
  else
  (F41 x1).bind fun y3 =>
  some y3
 : Option (List S73)) := (LiP_eq fd61 (tabH_nat h61) c61_0 (x0, x1, x2, ())).trans (by kernel_rfl)
/-! pochoirref05.Rest -/
theorem F63_eq (x0 : List S73) (x1 : List S73) : F63 x0 x1 = (
  grd (decide (0 ≤ (wr .i64 ((x1.length : Int) - 1)))) <|
  grd (decide ((wr .i64 ((x1.length : Int) - 1)) < (x1.length : Int))) <|
  L63_0 x0 x1 (x1.getD (Int.toNat (wr .i64 ((x1.length : Int) - 1))) z5)
 : Option (List S73)) := (GoP_eq fd63 (tabH D h63) (x0, x1)).trans (by kernel_rfl)
theorem L63_0_eq (x0 : List S73) (x1 : List S73) (x2 : S73) : L63_0 x0 x1 x2 = (
  bif (decide ((x0.length : Int) ≥ (x1.length : Int))) then
    grd (decide (0 ≤ (wr .i64 ((x0.length : Int) - 1)))) <|
    grd (decide ((wr .i64 ((x0.length : Int) - 1)) < (x0.length : Int))) <|
    L63_1 x0 x1 x2 [] (x0.getD (Int.toNat (wr .i64 ((x0.length : Int) - 1))) z5) 0
  else
  some x0
 : Option (List S73)) := (LiP_eq fd63 (tabH_nat h63) c63_0 (x0, x1, x2, ())).trans (by kernel_rfl)
theorem L63_1_eq (x0 : List S73) (x1 : List S73) (x2 : S73) (x3 : List S73) (x4 : S73) (x5 : Int) : L63_1 x0 x1 x2 x3 x4 x5 = (
  bif (decide (x5 < (x0.length : Int))) then
    grd (decide (0 ≤ x5)) <|
    grd (decide (x5 < (x0.length : Int))) <|
    (F55 (x0.getD (Int.toNat x5) z5) (S73.mk false x2.f1)).bind fun y1 =>
    (F68 x1 (wr .i64 ((wr .i64 (x5 - (x0.length : Int))) + (x1.length : Int)))).bind fun y2 =>
    (F55 y2 x4).bind fun y3 =>
    bif x2.f0 then
      (F67 y3).bind fun y4 =>
      L63_2 x0 x1 x2 x3 x4 x5 y1 y4
    else
    L63_2 x0 x1 x2 x3 x4 x5 y1 y3
  else
  (F41 x3).bind fun y5 =>
  L63_0 y5 x1 x2
 : Option (List S73)) := (LiP_eq fd63 (tabH_nat h63) c63_1 (x0, x1, x2, x3, x4, x5, ())).trans (by kernel_rfl)
theorem L63_2_eq (x0 : List S73) (x1 : List S73) (x2 : S73) (x3 : List S73) (x4 : S73) (x5 : Int) (x6 : S73) (x7 : S73) : L63_2 x0 x1 x2 x3 x4 x5 x6 x7 = (
  (F56 x6 x7).bind fun y1 =>
  grd (fit (x3.length + [y1].length) 32) <|
  L63_1 x0 x1 x2 (x3 ++ [y1]) x4 (wr .i64 (x5 + 1))
 : Option (List S73)) := (LiP_eq fd63 (tabH_nat h63) c63_2 (x0, x1, x2, x3, x4, x5, x6, x7, ())).trans (by kernel_rfl)
/-! pochoirref06.Chain -/
theorem F46_eq (x0 : List S73) : F46 x0 = (
  (F61 x0).bind fun y1 =>
  L46_0 x0 [x0] y1
 : Option (List (List S73))) := (GoP_eq fd46 (tabH D h46) (x0)).trans (by kernel_rfl)
theorem L46_0_eq (x0 : List S73) (x1 : List (List S73)) (x2 : List S73) : L46_0 x0 x1 x2 = (
  bif (decide ((x2.length : Int) > 0)) then
    grd (fit (x1.length + [x2].length) 24) <|
    (F63 x0 x2).bind fun y1 =>
    (F62 y1).bind fun y2 =>
    L46_0 x2 (x1 ++ [x2]) y2
  else
  some x1
 : Option (List (List S73))) := (LiP_eq fd46 (tabH_nat h46) c46_0 (x0, x1, x2, ())).trans (by kernel_rfl)
/-! pochoirref06.Changes -/
theorem F48_eq (x0 : List (List S73)) (x1 : S59) : F48 x0 x1 = (
  L48_0 x0 x1 0 0 0
 : Option (Int)) := (GoP_eq fd48 (tabH D h48) (x0, x1)).trans (by kernel_rfl)
theorem L48_0_eq (x0 : List (List S73)) (x1 : S59) (x2 : Int) (x3 : Int) (x4 : Int) : L48_0 x0 x1 x2 x3 x4 = (
  bif (decide (x4 < (x0.length : Int))) then
    grd (decide (0 ≤ x4)) <|
    grd (decide (x4 < (x0.length : Int))) <|
    (F45 (x0.getD (Int.toNat x4) []) x1).bind fun y1 =>
    (F44 y1).bind fun y2 =>
    bif (y2 == 0) then
      L48_0 x0 x1 x2 x3 (wr .i64 (x4 + 1))
    else
    bif (x3 != 0) then
      bif (y2 != x3) then
        L48_0 x0 x1 (wr .i64 (x2 + 1)) y2 (wr .i64 (x4 + 1))
      else
      L48_0 x0 x1 x2 y2 (wr .i64 (x4 + 1))
    else
    L48_0 x0 x1 x2 y2 (wr .i64 (x4 + 1))
  else
  some x2
 : Option (Int)) := (LiP_eq fd48 (tabH_nat h48) c48_0 (x0, x1, x2, x3, x4, ())).trans (by kernel_rfl)
/-! pochoirref06.below -/
theorem F42_eq (G : YR D [.v (.sl (.st 5))] → Option (YR D [.v (.bool)])) (x0 : List S73) : F42g G x0 = (
  (F52 x0).bind fun y1 =>
  F53.bind fun y2 =>
  (F30 y1 y2).bind fun y3 =>
  bif (decide (y3 < 0)) then
    some true
  else
  F54.bind fun y4 =>
  (F30 y1 y4).bind fun y5 =>
  bif (decide (y5 < 0)) then
    some true
  else
  L42_0 G y1
 : Option (Bool)) := (GoP_eq fd42 (tabH D (h42 G)) (x0)).trans (by kernel_rfl)
theorem L42_0_eq (G : YR D [.v (.sl (.st 5))] → Option (YR D [.v (.bool)])) (x0 : List S73) : L42_0 G x0 = (
  (F46 x0).bind fun y1 =>
  F53.bind fun y2 =>
  (F48 y1 y2).bind fun y3 =>
  F54.bind fun y4 =>
  (F48 y1 y4).bind fun y5 =>
  bif (decide ((wr .i64 (y3 - y5)) < 2)) then
    some false
  else
  F53.bind fun y6 =>
  (F43 x0 y6 (S59.mk 1 2)).bind fun y7 =>
  (F42r G y7).bind fun y8 =>
  bif y8 then
    some true
  else
  F54.bind fun y9 =>
  (F43 x0 (S59.mk 1 2) y9).bind fun y10 =>
  (F42r G y10).bind fun y11 =>
  some y11
 : Option (Bool)) := (LiP_eq fd42 (tabH_nat (h42 G)) c42_0 (x0, ())).trans (by kernel_rfl)
/-! pochoirref06.Negative -/
theorem F29_eq (x0 : List S73) (x1 : S59) (x2 : S59) : F29 x0 x1 x2 = (
  (F43 x0 x1 x2).bind fun y1 =>
  (F42 y1).bind fun y2 =>
  some y2
 : Option (Bool)) := (GoP_eq fd29 (tabH D h29) (x0, x1, x2)).trans (by kernel_rfl)
/-! pochoirref06.clear -/
theorem F47_eq (x0 : List S73) (x1 : S59) (x2 : S59) : F47 x0 x1 x2 = (
  (F64 x0 x1).bind fun y1 =>
  (F64 y1.1 x2).bind fun y2 =>
  some y2.1
 : Option (List S73)) := (GoP_eq fd47 (tabH D h47) (x0, x1, x2)).trans (by kernel_rfl)
/-! pochoirref06.Count -/
theorem F31_eq (x0 : List S73) (x1 : S59) (x2 : S59) : F31 x0 x1 x2 = (
  (F47 x0 x1 x2).bind fun y1 =>
  (F46 y1).bind fun y2 =>
  (F48 y2 x1).bind fun y3 =>
  (F48 y2 x2).bind fun y4 =>
  some (wr .i64 (y3 - y4))
 : Option (Int)) := (GoP_eq fd31 (tabH D h31) (x0, x1, x2)).trans (by kernel_rfl)
/-! pochoirref24.everywhere -/
theorem F18_eq (x0 : List Int) (x1 : Bool) : F18 x0 x1 = (
  (F28 x0).bind fun y1 =>
  bif ((y1.length : Int) == 0) then
    some x1
  else
  (F29 y1 (S59.mk 0 1) (S59.mk 1 1)).bind fun y2 =>
  bif y2 then
    some false
  else
  bif x1 then
    some true
  else
  (F30 y1 (S59.mk 0 1)).bind fun y3 =>
  bif (y3 != 0) then
    (F30 y1 (S59.mk 1 1)).bind fun y4 =>
    bif (y4 != 0) then
      (F31 y1 (S59.mk 0 1) (S59.mk 1 1)).bind fun y5 =>
      some (y5 == 0)
    else
    some false
  else
  some false
 : Option (Bool)) := (GoP_eq fd18 (tabH D h18) (x0, x1)).trans (by kernel_rfl)
/-! pochoirref24.Right -/
theorem F8_eq (x0 : S23) (x1 : S25) : F8 x0 x1 = (
  bif (!x1.f1) then
    (F16 x1.f2 x1.f4 x0).bind fun y1 =>
    some (decide (y1 ≤ 0))
  else
  (F16 x1.f2 x1.f3 x1.f4).bind fun y2 =>
  (F17 y2).bind fun y3 =>
  (F9 x0 x1).bind fun y4 =>
  bif (decide (y3 > 0)) then
    (F18 [y4.f0, y4.f1, y4.f2] false).bind fun y5 =>
    some (!y5)
  else
  bif (decide (y3 < 0)) then
    (F18 [(wr .i64 (0 - y4.f0)), (wr .i64 (0 - y4.f1)), (wr .i64 (0 - y4.f2))] true).bind fun y6 =>
    some y6
  else
  bif ((x1.f2.f0 == x1.f4.f0) && (x1.f2.f1 == x1.f4.f1)) then
    (F16 x1.f2 x1.f3 x0).bind fun y7 =>
    some (decide (y7 ≤ 0))
  else
  (F16 x1.f2 x1.f4 x0).bind fun y8 =>
  some (decide (y8 ≤ 0))
 : Option (Bool)) := (GoP_eq fd8 (tabH D h8) (x0, x1)).trans (by kernel_rfl)
/-! pochoirlaw24.SideAsks -/
theorem F3_eq (x0 : S23) (x1 : S25) : F3 x0 x1 = (
  F4.bind fun y1 =>
  bif (!y1) then
    some false
  else
  (F5 x0 x1).bind fun y2 =>
  (F6 x0 x1).bind fun y3 =>
  (F7 x0 x1).bind fun y4 =>
  bif (!y4) then
    bif (!y2.1) then
      bif (y2.2 == 1) then
        bif ((y3.1.f0 == 0) && ((y3.1.f1 == 0) && (y3.1.f2 == 0))) then
          some (y3.2 == 1)
        else
        some false
      else
      some false
    else
    some false
  else
  (F8 x0 x1).bind fun y5 =>
  bif (y2.1 == y5) then
    bif (y2.2 == 0) then
      (F9 x0 x1).bind fun y6 =>
      bif ((y3.1.f0 == y6.f0) && ((y3.1.f1 == y6.f1) && (y3.1.f2 == y6.f2))) then
        some (y3.2 == 0)
      else
      some false
    else
    some false
  else
  some false
 : Option (Bool)) := (GoP_eq fd3 (tabH D h3) (x0, x1)).trans (by kernel_rfl)
end Go.Proofs.Ytkpjeihgigmnkaa.Ev
