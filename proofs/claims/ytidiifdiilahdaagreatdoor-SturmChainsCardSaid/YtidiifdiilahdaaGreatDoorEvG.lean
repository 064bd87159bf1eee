/- Printed by a program of this claim: what the functions answer, each by an equation. -/
import Derived.Test.YtidiifdiilahdaaGreatDoorEvF
namespace Go.Proofs.YtidiifdiilahdaaGreatDoor.Ev
open Go
set_option linter.unusedVariables false
set_option maxRecDepth 100000
/-! big.trimmed -/
theorem F96_eq (x0 : List Int) : F96 x0 = (
  L96_0 x0 (x0.length : Int)
 : Option (List Int)) := (GoS_eq fd96 (tabH D h96) (x0)).trans (by kernel_rfl)
theorem L96_0_eq (x0 : List Int) (x1 : Int) : L96_0 x0 x1 = (
  bif (decide (x1 > 0)) then
    grd (decide (0 ≤ (wr .i64 (x1 - 1)))) <|
    grd (decide ((wr .i64 (x1 - 1)) < (x0.length : Int))) <|
    bif ((x0.getD (Int.toNat (wr .i64 (x1 - 1))) 0) == 0) then
      L96_0 x0 (wr .i64 (x1 - 1))
    else
    grd (decide (0 ≤ x1)) <|
    grd (decide (x1 ≤ (x0.length : Int))) <|
    some (List.take (Int.toNat x1) x0)
  else
  grd (decide (0 ≤ x1)) <|
  grd (decide (x1 ≤ (x0.length : Int))) <|
  some (List.take (Int.toNat x1) x0)
 : Option (List Int)) := (LiS_eq fd96 (tabH_nat h96) c96_0 (x0, x1, ())).trans (by kernel_rfl)
/-! big.form -/
theorem F95_eq (x0 : Bool) (x1 : List Int) : F95 x0 x1 = (
  (F96 x1).bind fun y1 =>
  bif ((y1.length : Int) == 0) then
    some (S60.mk false [])
  else
  some (S60.mk x0 y1)
 : Option (S60)) := (GoS_eq fd95 (tabH D h95) (x0, x1)).trans (by kernel_rfl)
/-! big.Of -/
theorem F51_eq (x0 : Int) : F51 x0 = (
  bif (decide (x0 < 0)) then
    L51_0 x0 (S60.mk false []) (wr .u64 (0 - (wr .u64 x0)))
  else
  L51_0 x0 (S60.mk false []) (wr .u64 x0)
 : Option (S60)) := (GoS_eq fd51 (tabH D h51) (x0)).trans (by kernel_rfl)
theorem L51_0_eq (x0 : Int) (x1 : S60) (x2 : Int) : L51_0 x0 x1 x2 = (
  (F95 (decide (x0 < 0)) [(wr .u32 x2), (wr .u32 (shrE Go.IntKind.u64 x2 (32 : Int)))]).bind fun y1 =>
  some y1
 : Option (S60)) := (LiS_eq fd51 (tabH_nat h51) c51_0 (x0, x1, x2, ())).trans (by kernel_rfl)
/-! big.Sign -/
theorem F66_eq (x0 : S60) : F66 x0 = (
  (F96 x0.f1).bind fun y1 =>
  bif ((y1.length : Int) == 0) then
    some 0
  else
  bif x0.f0 then
    some (-1)
  else
  some 1
 : Option (Int)) := (GoS_eq fd66 (tabH D h66) (x0)).trans (by kernel_rfl)
/-! poly.trimmed -/
theorem F52_eq (x0 : List S60) : F52 x0 = (
  L52_0 x0 (x0.length : Int)
 : Option (List S60)) := (GoS_eq fd52 (tabH D h52) (x0)).trans (by kernel_rfl)
theorem L52_0_eq (x0 : List S60) (x1 : Int) : L52_0 x0 x1 = (
  bif (decide (x1 > 0)) then
    grd (decide (0 ≤ (wr .i64 (x1 - 1)))) <|
    grd (decide ((wr .i64 (x1 - 1)) < (x0.length : Int))) <|
    (F66 (x0.getD (Int.toNat (wr .i64 (x1 - 1))) z0)).bind fun y1 =>
    bif (y1 == 0) then
      L52_0 x0 (wr .i64 (x1 - 1))
    else
    grd (decide (0 ≤ x1)) <|
    grd (decide (x1 ≤ (x0.length : Int))) <|
    some (List.take (Int.toNat x1) x0)
  else
  grd (decide (0 ≤ x1)) <|
  grd (decide (x1 ≤ (x0.length : Int))) <|
  some (List.take (Int.toNat x1) x0)
 : Option (List S60)) := (LiS_eq fd52 (tabH_nat h52) c52_0 (x0, x1, ())).trans (by kernel_rfl)
/-! poly.Of -/
theorem F21_eq (x0 : List Int) : F21 x0 = (
  L21_0 [] x0 (x0.length : Int) 0
 : Option (List S60)) := (GoS_eq fd21 (tabH D h21) (x0)).trans (by kernel_rfl)
theorem L21_0_eq (x0 : List S60) (x1 : List Int) (x2 : Int) (x3 : Int) : L21_0 x0 x1 x2 x3 = (
  bif (decide (x3 < x2)) then
    grd (decide (0 ≤ x3)) <|
    grd (decide (x3 < (x1.length : Int))) <|
    (F51 (x1.getD (Int.toNat x3) 0)).bind fun y1 =>
    grd (fit (x0.length + [y1].length) 32) <|
    L21_0 (x0 ++ [y1]) x1 x2 (wr .i64 (x3 + 1))
  else
  (F52 x0).bind fun y2 =>
  some y2
 : Option (List S60)) := (LiS_eq fd21 (tabH_nat h21) c21_0 (x0, x1, x2, x3, ())).trans (by kernel_rfl)
/-! ratio.size -/
theorem F80_eq (x0 : Int) : F80 x0 = (
  bif (decide (x0 < 0)) then
    some (wr .u64 (0 - (wr .u64 x0)))
  else
  some (wr .u64 x0)
 : Option (Int)) := (GoS_eq fd80 (tabH D h80) (x0)).trans (by kernel_rfl)
/-! wide.Of -/
theorem F79_eq (x0 : Int) : F79 x0 = (
  some (S117.mk 0 x0)
 : Option (S117)) := (GoS_eq fd79 (tabH D h79) (x0)).trans (by kernel_rfl)
/-! ratio.twos -/
theorem F104_eq (x0 : S117) : F104 x0 = (
  bif (x0.f1 != 0) then
    (F122 x0.f1).bind fun y1 =>
    some y1
  else
  (F122 x0.f0).bind fun y2 =>
  some (wr .i64 (64 + y2))
 : Option (Int)) := (GoS_eq fd104 (tabH D h104) (x0)).trans (by kernel_rfl)
/-! wide.right -/
theorem F123_eq (x0 : S117) (x1 : Int) : F123 x0 x1 = (
  bif (decide (x1 ≥ 64)) then
    grd (decide (0 ≤ (wr .u64 (x1 - 64)))) <|
    some (S117.mk 0 (shrE Go.IntKind.u64 x0.f0 (wr .u64 (x1 - 64))))
  else
  grd (decide (0 ≤ x1)) <|
  grd (decide (0 ≤ x1)) <|
  grd (decide (0 ≤ (wr .u64 (64 - x1)))) <|
  some (S117.mk (shrE Go.IntKind.u64 x0.f0 x1) (orE Go.IntKind.u64 (shrE Go.IntKind.u64 x0.f1 x1) (shlE Go.IntKind.u64 x0.f0 (wr .u64 (64 - x1)))))
 : Option (S117)) := (GoS_eq fd123 (tabH D h123) (x0, x1)).trans (by kernel_rfl)
/-! math/bits.Len64 -/
theorem F135_eq (x0 : Int) : F135 x0 = (
  bif (decide (x0 ≥ 4294967296)) then
    L135_0 (shrE Go.IntKind.u64 x0 (32 : Int)) 32
  else
  L135_0 x0 0
 : Option (Int)) := (GoS_eq fd135 (tabH D h135) (x0)).trans (by kernel_rfl)
theorem L135_0_eq (x0 : Int) (x1 : Int) : L135_0 x0 x1 = (
  bif (decide (x0 ≥ 65536)) then
    L135_1 (shrE Go.IntKind.u64 x0 (16 : Int)) (wr .i64 (x1 + 16))
  else
  L135_1 x0 x1
 : Option (Int)) := (LiS_eq fd135 (tabH_nat h135) c135_0 (x0, x1, ())).trans (by kernel_rfl)
theorem L135_1_eq (x0 : Int) (x1 : Int) : L135_1 x0 x1 = (
  bif (decide (x0 ≥ 256)) then
    L135_2 (shrE Go.IntKind.u64 x0 (8 : Int)) (wr .i64 (x1 + 8))
  else
  L135_2 x0 x1
 : Option (Int)) := (LiS_eq fd135 (tabH_nat h135) c135_1 (x0, x1, ())).trans (by kernel_rfl)
theorem L135_2_eq (x0 : Int) (x1 : Int) : L135_2 x0 x1 = (
  grd (decide (0 ≤ (wr .u8 x0))) <|
  grd (decide ((wr .u8 x0) < 256)) <|
  some (wr .i64 (x1 + (wr .i64 (btE (ofBytes [0, 1, 2, 2, 3, 3, 3, 3, 4, 4, 4, 4, 4, 4, 4, 4, 5, 5, 5, 5, 5, 5, 5, 5, 5, 5, 5, 5, 5, 5, 5, 5, 6, 6, 6, 6, 6, 6, 6, 6, 6, 6, 6, 6, 6, 6, 6, 6, 6, 6, 6, 6, 6, 6, 6, 6, 6, 6, 6, 6, 6, 6, 6, 6, 7, 7, 7, 7, 7, 7, 7, 7, 7, 7, 7, 7, 7, 7, 7, 7, 7, 7, 7, 7, 7, 7, 7, 7, 7, 7, 7, 7, 7, 7, 7, 7, 7, 7, 7, 7, 7, 7, 7, 7, 7, 7, 7, 7, 7, 7, 7, 7, 7, 7, 7, 7, 7, 7, 7, 7, 7, 7, 7, 7, 7, 7, 7, 7, 8, 8, 8, 8, 8, 8, 8, 8, 8, 8, 8, 8, 8, 8, 8, 8, 8, 8, 8, 8, 8, 8, 8, 8, 8, 8, 8, 8, 8, 8, 8, 8, 8, 8, 8, 8, 8, 8, 8, 8, 8, 8, 8, 8, 8, 8, 8, 8, 8, 8, 8, 8, 8, 8, 8, 8, 8, 8, 8, 8, 8, 8, 8, 8, 8, 8, 8, 8, 8, 8, 8, 8, 8, 8, 8, 8, 8, 8, 8, 8, 8, 8, 8, 8, 8, 8, 8, 8, 8, 8, 8, 8, 8, 8, 8, 8, 8, 8, 8, 8, 8, 8, 8, 8, 8, 8, 8, 8, 8, 8, 8, 8, 8, 8, 8, 8, 8, 8, 8, 8, 8, 8, 8, 8, 8, 8, 8, 8]) (Int.toNat (wr .u8 x0))))))
 : Option (Int)) := (LiS_eq fd135 (tabH_nat h135) c135_2 (x0, x1, ())).trans (by kernel_rfl)
/-! wide.Bits -/
theorem F124_eq (x0 : S117) : F124 x0 = (
  bif (x0.f0 != 0) then
    (F135 x0.f0).bind fun y1 =>
    some (wr .i64 (64 + y1))
  else
  (F135 x0.f1).bind fun y2 =>
  some y2
 : Option (Int)) := (GoS_eq fd124 (tabH D h124) (x0)).trans (by kernel_rfl)
/-! wide.left -/
theorem F125_eq (x0 : S117) (x1 : Int) : F125 x0 x1 = (
  bif (decide (x1 ≥ 64)) then
    grd (decide (0 ≤ (wr .u64 (x1 - 64)))) <|
    some (S117.mk (shlE Go.IntKind.u64 x0.f1 (wr .u64 (x1 - 64))) 0)
  else
  grd (decide (0 ≤ x1)) <|
  grd (decide (0 ≤ (wr .u64 (64 - x1)))) <|
  grd (decide (0 ≤ x1)) <|
  some (S117.mk (orE Go.IntKind.u64 (shlE Go.IntKind.u64 x0.f0 x1) (shrE Go.IntKind.u64 x0.f1 (wr .u64 (64 - x1)))) (shlE Go.IntKind.u64 x0.f1 x1))
 : Option (S117)) := (GoS_eq fd125 (tabH D h125) (x0, x1)).trans (by kernel_rfl)
/-! wide.Shift -/
theorem F105_eq (x0 : S117) (x1 : Int) : F105 x0 x1 = (
  bif ((x0.f0 == 0) && (x0.f1 == 0)) then
    some ((S117.mk 0 0), 0)
  else
  bif (decide (x1 ≤ (-128))) then
    some ((S117.mk 0 0), 0)
  else
  L105_0 x1 x0 (S117.mk 0 0)
 : Option (S117 × Int)) := (GoS_eq fd105 (tabH D h105) (x0, x1)).trans (by kernel_rfl)
theorem L105_0_eq (x0 : Int) (x1 : S117) (x2 : S117) : L105_0 x0 x1 x2 = (
  bif (decide (x0 < 0)) then
    (F123 x1 (wr .u64 (wr .i64 (0 - x0)))).bind fun y1 =>
    some (y1, 0)
  else
  (F124 x1).bind fun y2 =>
  bif (decide (x0 > (wr .i64 (128 - y2)))) then
    some ((S117.mk 0 0), 2)
  else
  (F125 x1 (wr .u64 x0)).bind fun y3 =>
  some (y3, 0)
 : Option (S117 × Int)) := (LiS_eq fd105 (tabH_nat h105) c105_0 (x0, x1, x2, ())).trans (by kernel_rfl)
/-! cmp.isNaN[uint64] -/
theorem F136_eq (x0 : Int) : F136 x0 = (
  some (x0 != x0)
 : Option (Bool)) := (GoS_eq fd136 (tabH D h136) (x0)).trans (by kernel_rfl)
/-! cmp.Compare[uint64] -/
theorem F127_eq (x0 : Int) (x1 : Int) : F127 x0 x1 = (
  (F136 x0).bind fun y1 =>
  (F136 x1).bind fun y2 =>
  bif y1 then
    bif y2 then
      some 0
    else
    some (-1)
  else
  bif y2 then
    some 1
  else
  bif (decide (x0 < x1)) then
    some (-1)
  else
  bif (decide (x0 > x1)) then
    some 1
  else
  some 0
 : Option (Int)) := (GoS_eq fd127 (tabH D h127) (x0, x1)).trans (by kernel_rfl)
/-! cmp.Or[int] -/
theorem F126_eq (x0 : List Int) : F126 x0 = (
  L126_0 0 x0 (x0.length : Int) 0
 : Option (Int)) := (GoS_eq fd126 (tabH D h126) (x0)).trans (by kernel_rfl)
theorem L126_0_eq (x0 : Int) (x1 : List Int) (x2 : Int) (x3 : Int) : L126_0 x0 x1 x2 x3 = (
  bif (decide (x3 < x2)) then
    grd (decide (0 ≤ x3)) <|
    grd (decide (x3 < (x1.length : Int))) <|
    bif ((x1.getD (Int.toNat x3) 0) != x0) then
      some (x1.getD (Int.toNat x3) 0)
    else
    L126_0 x0 x1 x2 (wr .i64 (x3 + 1))
  else
  some x0
 : Option (Int)) := (LiS_eq fd126 (tabH_nat h126) c126_0 (x0, x1, x2, x3, ())).trans (by kernel_rfl)
/-! wide.Cmp -/
theorem F106_eq (x0 : S117) (x1 : S117) : F106 x0 x1 = (
  (F127 x0.f0 x1.f0).bind fun y1 =>
  (F127 x0.f1 x1.f1).bind fun y2 =>
  (F126 [y1, y2]).bind fun y3 =>
  some y3
 : Option (Int)) := (GoS_eq fd106 (tabH D h106) (x0, x1)).trans (by kernel_rfl)
/-! wide.Sub -/
theorem F107_eq (x0 : S117) (x1 : S117) : F107 x0 x1 = (
  (F128 x0.f1 x1.f1 0).bind fun y1 =>
  (F128 x0.f0 x1.f0 y1.2).bind fun y2 =>
  bif (y2.2 != 0) then
    some ((S117.mk 0 0), 2)
  else
  some ((S117.mk y2.1 y1.1), 0)
 : Option (S117 × Int)) := (GoS_eq fd107 (tabH D h107) (x0, x1)).trans (by kernel_rfl)
/-! ratio.common -/
theorem F78_eq (x0 : S117) (x1 : S117) : F78 x0 x1 = (
  bif ((x0.f0 == 0) && (x0.f1 == 0)) then
    some x1
  else
  bif ((x1.f0 == 0) && (x1.f1 == 0)) then
    some x0
  else
  (F104 x0).bind fun y1 =>
  (F104 x1).bind fun y2 =>
  (F104 x0).bind fun y3 =>
  (F105 x0 (wr .i64 (0 - y3))).bind fun y4 =>
  L78_0 y4.1 x1 (S117.mk 0 0) (mnE y1 y2)
 : Option (S117)) := (GoS_eq fd78 (tabH D h78) (x0, x1)).trans (by kernel_rfl)
theorem L78_0_eq (x0 : S117) (x1 : S117) (x2 : S117) (x3 : Int) : L78_0 x0 x1 x2 x3 = (
  bif (!((x1.f0 == 0) && (x1.f1 == 0))) then
    (F104 x1).bind fun y1 =>
    (F105 x1 (wr .i64 (0 - y1))).bind fun y2 =>
    (F106 x0 y2.1).bind fun y3 =>
    bif (decide (y3 > 0)) then
      L78_1 y2.1 x0 x2 x3
    else
    L78_1 x0 y2.1 x2 x3
  else
  (F105 x0 x3).bind fun y4 =>
  some y4.1
 : Option (S117)) := (LiS_eq fd78 (tabH_nat h78) c78_0 (x0, x1, x2, x3, ())).trans (by kernel_rfl)
theorem L78_1_eq (x0 : S117) (x1 : S117) (x2 : S117) (x3 : Int) : L78_1 x0 x1 x2 x3 = (
  (F107 x1 x0).bind fun y1 =>
  L78_0 x0 y1.1 x2 x3
 : Option (S117)) := (LiS_eq fd78 (tabH_nat h78) c78_1 (x0, x1, x2, x3, ())).trans (by kernel_rfl)
/-! ratio.May -/
theorem F38_eq (x0 : S24) : F38 x0 = (
  bif (decide (x0.f1 > 0)) then
    (F80 x0.f0).bind fun y1 =>
    (F79 y1).bind fun y2 =>
    (F80 x0.f1).bind fun y3 =>
    (F79 y3).bind fun y4 =>
    (F78 y2 y4).bind fun y5 =>
    some ((y5.f0 == 0) && (y5.f1 == 1))
  else
  some false
 : Option (Bool)) := (GoS_eq fd38 (tabH D h38) (x0)).trans (by kernel_rfl)
/-! math/bits.Mul64 -/
theorem F137_eq (x0 : Int) (x1 : Int) : F137 x0 x1 = (
  some ((wr .u64 ((wr .u64 ((wr .u64 ((shrE Go.IntKind.u64 x0 (32 : Int)) * (shrE Go.IntKind.u64 x1 (32 : Int)))) + (shrE Go.IntKind.u64 (wr .u64 ((wr .u64 ((shrE Go.IntKind.u64 x0 (32 : Int)) * (andE Go.IntKind.u64 x1 (4294967295 : Int)))) + (shrE Go.IntKind.u64 (wr .u64 ((andE Go.IntKind.u64 x0 (4294967295 : Int)) * (andE Go.IntKind.u64 x1 (4294967295 : Int)))) (32 : Int)))) (32 : Int)))) + (shrE Go.IntKind.u64 (wr .u64 ((andE Go.IntKind.u64 (wr .u64 ((wr .u64 ((shrE Go.IntKind.u64 x0 (32 : Int)) * (andE Go.IntKind.u64 x1 (4294967295 : Int)))) + (shrE Go.IntKind.u64 (wr .u64 ((andE Go.IntKind.u64 x0 (4294967295 : Int)) * (andE Go.IntKind.u64 x1 (4294967295 : Int)))) (32 : Int)))) (4294967295 : Int)) + (wr .u64 ((andE Go.IntKind.u64 x0 (4294967295 : Int)) * (shrE Go.IntKind.u64 x1 (32 : Int)))))) (32 : Int)))), (wr .u64 (x0 * x1)))
 : Option (Int × Int)) := (GoS_eq fd137 (tabH D h137) (x0, x1)).trans (by kernel_rfl)
/-! wide.Mul -/
theorem F129_eq (x0 : Int) (x1 : Int) : F129 x0 x1 = (
  (F137 x0 x1).bind fun y1 =>
  some (S117.mk y1.1 y1.2)
 : Option (S117)) := (GoS_eq fd129 (tabH D h129) (x0, x1)).trans (by kernel_rfl)
/-! ratio.times -/
theorem F111_eq (x0 : Int) (x1 : Int) : F111 x0 x1 = (
  (F80 x0).bind fun y1 =>
  (F80 x1).bind fun y2 =>
  (F129 y1 y2).bind fun y3 =>
  some (S147.mk (!((decide (x0 < 0)) == (decide (x1 < 0)))) y3)
 : Option (S147)) := (GoS_eq fd111 (tabH D h111) (x0, x1)).trans (by kernel_rfl)
/-! ratio.Cmp -/
theorem F82_eq (x0 : S24) (x1 : S24) : F82 x0 x1 = (
  (F38 x0).bind fun y1 =>
  bif (!y1) then
    some (0, 1)
  else
  (F38 x1).bind fun y2 =>
  bif (!y2) then
    some (0, 1)
  else
  L82_0 x0 x1
 : Option (Int × Int)) := (GoS_eq fd82 (tabH D h82) (x0, x1)).trans (by kernel_rfl)
theorem L82_0_eq (x0 : S24) (x1 : S24) : L82_0 x0 x1 = (
  (F111 x0.f0 x1.f1).bind fun y1 =>
  (F111 x1.f0 x0.f1).bind fun y2 =>
  bif ((y1.f1.f0 == 0) && (y1.f1.f1 == 0)) then
    bif ((y2.f1.f0 == 0) && (y2.f1.f1 == 0)) then
      some (0, 0)
    else
    L82_1 x0 x1 y1 y2
  else
  L82_1 x0 x1 y1 y2
 : Option (Int × Int)) := (LiS_eq fd82 (tabH_nat h82) c82_0 (x0, x1, ())).trans (by kernel_rfl)
theorem L82_1_eq (x0 : S24) (x1 : S24) (x2 : S147) (x3 : S147) : L82_1 x0 x1 x2 x3 = (
  bif (decide (x0.f0 < 0)) then
    bif (decide (x1.f0 ≥ 0)) then
      some ((-1), 0)
    else
    L82_2 x0 x1 x2 x3
  else
  L82_2 x0 x1 x2 x3
 : Option (Int × Int)) := (LiS_eq fd82 (tabH_nat h82) c82_1 (x0, x1, x2, x3, ())).trans (by kernel_rfl)
theorem L82_2_eq (x0 : S24) (x1 : S24) (x2 : S147) (x3 : S147) : L82_2 x0 x1 x2 x3 = (
  bif (decide (x0.f0 ≥ 0)) then
    bif (decide (x1.f0 < 0)) then
      some (1, 0)
    else
    L82_3 x0 x2 x3
  else
  L82_3 x0 x2 x3
 : Option (Int × Int)) := (LiS_eq fd82 (tabH_nat h82) c82_2 (x0, x1, x2, x3, ())).trans (by kernel_rfl)
theorem L82_3_eq (x0 : S24) (x1 : S147) (x2 : S147) : L82_3 x0 x1 x2 = (
  bif (decide (x0.f0 < 0)) then
    (F106 x2.f1 x1.f1).bind fun y1 =>
    some (y1, 0)
  else
  (F106 x1.f1 x2.f1).bind fun y2 =>
  some (y2, 0)
 : Option (Int × Int)) := (LiS_eq fd82 (tabH_nat h82) c82_3 (x0, x1, x2, ())).trans (by kernel_rfl)
/-! poly.Degree -/
theorem F83_eq (x0 : List S60) : F83 x0 = (
  (F52 x0).bind fun y1 =>
  some (wr .i64 ((y1.length : Int) - 1))
 : Option (Int)) := (GoS_eq fd83 (tabH D h83) (x0)).trans (by kernel_rfl)
/-! sturm.asked -/
theorem F43_eq (x0 : List S60) (x1 : S24) (x2 : S24) : F43 x0 x1 x2 = (
  (F82 x1 x2).bind fun y1 =>
  bif (y1.2 != 0) then
    some 1
  else
  bif (decide (y1.1 ≥ 0)) then
    some 1
  else
  L43_0 x0
 : Option (Int)) := (GoS_eq fd43 (tabH D h43) (x0, x1, x2)).trans (by kernel_rfl)
theorem L43_0_eq (x0 : List S60) : L43_0 x0 = (
  (F83 x0).bind fun y1 =>
  bif (decide (y1 < 0)) then
    some 13
  else
  bif (decide (y1 > 12)) then
    some 6
  else
  some 0
 : Option (Int)) := (LiS_eq fd43 (tabH_nat h43) c43_0 (x0, ())).trans (by kernel_rfl)
/-! poly.at -/
theorem F70_eq (x0 : List S60) (x1 : Int) : F70 x0 x1 = (
  bif (decide (x1 < 0)) then
    some (S60.mk false [])
  else
  bif (decide (x1 ≥ (x0.length : Int))) then
    some (S60.mk false [])
  else
  grd (decide (0 ≤ x1)) <|
  grd (decide (x1 < (x0.length : Int))) <|
  some (x0.getD (Int.toNat x1) z0)
 : Option (S60)) := (GoS_eq fd70 (tabH D h70) (x0, x1)).trans (by kernel_rfl)
/-! big.at -/
theorem F116_eq (x0 : List Int) (x1 : Int) : F116 x0 x1 = (
  bif (decide (x1 < (x0.length : Int))) then
    grd (decide (0 ≤ x1)) <|
    grd (decide (x1 < (x0.length : Int))) <|
    some (wr .u64 (x0.getD (Int.toNat x1) 0))
  else
  some 0
 : Option (Int)) := (GoS_eq fd116 (tabH D h116) (x0, x1)).trans (by kernel_rfl)
/-! big.plus -/
theorem F97_eq (x0 : List Int) (x1 : List Int) : F97 x0 x1 = (
  grd (decide (0 ≤ (mxE (x0.length : Int) (x1.length : Int)))) <|
  grd (decide ((mxE (x0.length : Int) (x1.length : Int)) ≤ (wr .i64 ((mxE (x0.length : Int) (x1.length : Int)) + 1)))) <|
  grd (fitM (Int.toNat (wr .i64 ((mxE (x0.length : Int) (x1.length : Int)) + 1))) 4) <|
  L97_0 x0 x1 (List.replicate (Int.toNat (mxE (x0.length : Int) (x1.length : Int))) (0 : Int)) 0 ((List.replicate (Int.toNat (mxE (x0.length : Int) (x1.length : Int))) (0 : Int)).length : Int) 0
 : Option (List Int)) := (GoS_eq fd97 (tabH D h97) (x0, x1)).trans (by kernel_rfl)
theorem L97_0_eq (x0 : List Int) (x1 : List Int) (x2 : List Int) (x3 : Int) (x4 : Int) (x5 : Int) : L97_0 x0 x1 x2 x3 x4 x5 = (
  bif (decide (x5 < x4)) then
    (F116 x0 x5).bind fun y1 =>
    (F116 x1 x5).bind fun y2 =>
    grd (decide (0 ≤ x5)) <|
    grd (decide (x5 < (x2.length : Int))) <|
    L97_0 x0 x1 (List.set x2 (Int.toNat x5) (wr .u32 (wr .u64 ((wr .u64 (y1 + y2)) + x3)))) (shrE Go.IntKind.u64 (wr .u64 ((wr .u64 (y1 + y2)) + x3)) (32 : Int)) x4 (wr .i64 (x5 + 1))
  else
  grd (fit (x2.length + [(wr .u32 x3)].length) 4) <|
  some (x2 ++ [(wr .u32 x3)])
 : Option (List Int)) := (LiS_eq fd97 (tabH_nat h97) c97_0 (x0, x1, x2, x3, x4, x5, ())).trans (by kernel_rfl)
/-! cmp.isNaN[int] -/
theorem F131_eq (x0 : Int) : F131 x0 = (
  some (x0 != x0)
 : Option (Bool)) := (GoS_eq fd131 (tabH D h131) (x0)).trans (by kernel_rfl)
/-! cmp.Compare[int] -/
theorem F117_eq (x0 : Int) (x1 : Int) : F117 x0 x1 = (
  (F131 x0).bind fun y1 =>
  (F131 x1).bind fun y2 =>
  bif y1 then
    bif y2 then
      some 0
    else
    some (-1)
  else
  bif y2 then
    some 1
  else
  bif (decide (x0 < x1)) then
    some (-1)
  else
  bif (decide (x0 > x1)) then
    some 1
  else
  some 0
 : Option (Int)) := (GoS_eq fd117 (tabH D h117) (x0, x1)).trans (by kernel_rfl)
/-! cmp.isNaN[uint32] -/
theorem F132_eq (x0 : Int) : F132 x0 = (
  some (x0 != x0)
 : Option (Bool)) := (GoS_eq fd132 (tabH D h132) (x0)).trans (by kernel_rfl)
/-! cmp.Compare[uint32] -/
theorem F118_eq (x0 : Int) (x1 : Int) : F118 x0 x1 = (
  (F132 x0).bind fun y1 =>
  (F132 x1).bind fun y2 =>
  bif y1 then
    bif y2 then
      some 0
    else
    some (-1)
  else
  bif y2 then
    some 1
  else
  bif (decide (x0 < x1)) then
    some (-1)
  else
  bif (decide (x0 > x1)) then
    some 1
  else
  some 0
 : Option (Int)) := (GoS_eq fd118 (tabH D h118) (x0, x1)).trans (by kernel_rfl)
/-! big.against -/
theorem F98_eq (x0 : List Int) (x1 : List Int) : F98 x0 x1 = (
  (F117 (x0.length : Int) (x1.length : Int)).bind fun y1 =>
  bif (y1 != 0) then
    some y1
  else
  L98_0 x0 x1 (wr .i64 ((x0.length : Int) - 1))
 : Option (Int)) := (GoS_eq fd98 (tabH D h98) (x0, x1)).trans (by kernel_rfl)
theorem L98_0_eq (x0 : List Int) (x1 : List Int) (x2 : Int) : L98_0 x0 x1 x2 = (
  bif (decide (x2 ≥ 0)) then
    grd (decide (0 ≤ x2)) <|
    grd (decide (x2 < (x0.length : Int))) <|
    grd (decide (0 ≤ x2)) <|
    grd (decide (x2 < (x1.length : Int))) <|
    (F118 (x0.getD (Int.toNat x2) 0) (x1.getD (Int.toNat x2) 0)).bind fun y1 =>
    bif (y1 != 0) then
      some y1
    else
    L98_0 x0 x1 (wr .i64 (x2 - 1))
  else
  some 0
 : Option (Int)) := (LiS_eq fd98 (tabH_nat h98) c98_0 (x0, x1, x2, ())).trans (by kernel_rfl)
/-! big.minus -/
theorem F99_eq (x0 : List Int) (x1 : List Int) : F99 x0 x1 = (
  grd (decide ((x0.length : Int) ≤ (x0.length : Int))) <|
  grd (fitM (Int.toNat (x0.length : Int)) 4) <|
  L99_0 x0 x1 (List.replicate (Int.toNat (x0.length : Int)) (0 : Int)) 0 (x0.length : Int) 0
 : Option (List Int)) := (GoS_eq fd99 (tabH D h99) (x0, x1)).trans (by kernel_rfl)
theorem L99_0_eq (x0 : List Int) (x1 : List Int) (x2 : List Int) (x3 : Int) (x4 : Int) (x5 : Int) : L99_0 x0 x1 x2 x3 x4 x5 = (
  bif (decide (x5 < x4)) then
    grd (decide (0 ≤ x5)) <|
    grd (decide (x5 < (x0.length : Int))) <|
    (F116 x1 x5).bind fun y1 =>
    grd (decide (0 ≤ x5)) <|
    grd (decide (x5 < (x2.length : Int))) <|
    L99_0 x0 x1 (List.set x2 (Int.toNat x5) (wr .u32 (wr .u64 ((wr .u64 ((wr .u64 (x0.getD (Int.toNat x5) 0)) - y1)) - x3)))) (shrE Go.IntKind.u64 (wr .u64 ((wr .u64 ((wr .u64 (x0.getD (Int.toNat x5) 0)) - y1)) - x3)) (63 : Int)) x4 (wr .i64 (x5 + 1))
  else
  some x2
 : Option (List Int)) := (LiS_eq fd99 (tabH_nat h99) c99_0 (x0, x1, x2, x3, x4, x5, ())).trans (by kernel_rfl)
/-! big.Add -/
theorem F56_eq (x0 : S60) (x1 : S60) : F56 x0 x1 = (
  (F96 x0.f1).bind fun y1 =>
  (F96 x1.f1).bind fun y2 =>
  bif (x0.f0 == x1.f0) then
    (F97 y1 y2).bind fun y3 =>
    (F95 x0.f0 y3).bind fun y4 =>
    some y4
  else
  (F98 y1 y2).bind fun y5 =>
  bif (decide (y5 ≥ 0)) then
    (F99 y1 y2).bind fun y6 =>
    (F95 x0.f0 y6).bind fun y7 =>
    some y7
  else
  (F99 y2 y1).bind fun y8 =>
  (F95 x1.f0 y8).bind fun y9 =>
  some y9
 : Option (S60)) := (GoS_eq fd56 (tabH D h56) (x0, x1)).trans (by kernel_rfl)
/-! poly.each(big.Add) -/
theorem F65056_eq (x0 : List S60) (x1 : List S60) (x2 : Unit) : F65056 x0 x1 x2 = (
  L65056_0 x0 x1 [] (mxE (x0.length : Int) (x1.length : Int)) 0
 : Option (List S60)) := (GoS_eq fd65056 (tabH D h65056) (x0, x1, x2)).trans (by kernel_rfl)
theorem L65056_0_eq (x0 : List S60) (x1 : List S60) (x2 : List S60) (x3 : Int) (x4 : Int) : L65056_0 x0 x1 x2 x3 x4 = (
  bif (decide (x4 < x3)) then
    (F70 x0 x4).bind fun y1 =>
    (F70 x1 x4).bind fun y2 =>
    (F56 y1 y2).bind fun y3 =>
    grd (fit (x2.length + [y3].length) 32) <|
    L65056_0 x0 x1 (x2 ++ [y3]) x3 (wr .i64 (x4 + 1))
  else
  (F52 x2).bind fun y4 =>
  some y4
 : Option (List S60)) := (LiS_eq fd65056 (tabH_nat h65056) c65056_0 (x0, x1, x2, x3, x4, ())).trans (by kernel_rfl)
/-! poly.Add -/
theorem F29_eq (x0 : List S60) (x1 : List S60) : F29 x0 x1 = (
  (F65056 x0 x1 ()).bind fun y1 =>
  some y1
 : Option (List S60)) := (GoS_eq fd29 (tabH D h29) (x0, x1)).trans (by kernel_rfl)
/-! big.Mul -/
theorem F57_eq (x0 : S60) (x1 : S60) : F57 x0 x1 = (
  grd (decide (0 ≤ (wr .i64 ((x0.f1.length : Int) + (x1.f1.length : Int))))) <|
  grd (decide ((wr .i64 ((x0.f1.length : Int) + (x1.f1.length : Int))) ≤ (wr .i64 ((x0.f1.length : Int) + (x1.f1.length : Int))))) <|
  grd (fitM (Int.toNat (wr .i64 ((x0.f1.length : Int) + (x1.f1.length : Int)))) 4) <|
  L57_0 x0 x1 (S60.mk false []) (List.replicate (Int.toNat (wr .i64 ((x0.f1.length : Int) + (x1.f1.length : Int)))) (0 : Int)) x0.f1 (x0.f1.length : Int) 0
 : Option (S60)) := (GoS_eq fd57 (tabH D h57) (x0, x1)).trans (by kernel_rfl)
theorem L57_0_eq (x0 : S60) (x1 : S60) (x2 : S60) (x3 : List Int) (x4 : List Int) (x5 : Int) (x6 : Int) : L57_0 x0 x1 x2 x3 x4 x5 x6 = (
  bif (decide (x6 < x5)) then
    grd (decide (0 ≤ x6)) <|
    grd (decide (x6 < (x4.length : Int))) <|
    L57_1 x0 x1 x2 x3 x6 (x4.getD (Int.toNat x6) 0) 0 x4 x5 x6 x1.f1 (x1.f1.length : Int) 0
  else
  (F95 (!(x0.f0 == x1.f0)) x3).bind fun y1 =>
  some y1
 : Option (S60)) := (LiS_eq fd57 (tabH_nat h57) c57_0 (x0, x1, x2, x3, x4, x5, x6, ())).trans (by kernel_rfl)
theorem L57_1_eq (x0 : S60) (x1 : S60) (x2 : S60) (x3 : List Int) (x4 : Int) (x5 : Int) (x6 : Int) (x7 : List Int) (x8 : Int) (x9 : Int) (x10 : List Int) (x11 : Int) (x12 : Int) : L57_1 x0 x1 x2 x3 x4 x5 x6 x7 x8 x9 x10 x11 x12 = (
  bif (decide (x12 < x11)) then
    grd (decide (0 ≤ x12)) <|
    grd (decide (x12 < (x10.length : Int))) <|
    grd (decide (0 ≤ (wr .i64 (x4 + x12)))) <|
    grd (decide ((wr .i64 (x4 + x12)) < (x3.length : Int))) <|
    grd (decide (0 ≤ (wr .i64 (x4 + x12)))) <|
    grd (decide ((wr .i64 (x4 + x12)) < (x3.length : Int))) <|
    L57_1 x0 x1 x2 (List.set x3 (Int.toNat (wr .i64 (x4 + x12))) (wr .u32 (wr .u64 ((wr .u64 ((wr .u64 ((wr .u64 x5) * (wr .u64 (x10.getD (Int.toNat x12) 0)))) + (wr .u64 (x3.getD (Int.toNat (wr .i64 (x4 + x12))) 0)))) + x6)))) x4 x5 (shrE Go.IntKind.u64 (wr .u64 ((wr .u64 ((wr .u64 ((wr .u64 x5) * (wr .u64 (x10.getD (Int.toNat x12) 0)))) + (wr .u64 (x3.getD (Int.toNat (wr .i64 (x4 + x12))) 0)))) + x6)) (32 : Int)) x7 x8 x9 x10 x11 (wr .i64 (x12 + 1))
  else
  grd (decide (0 ≤ (wr .i64 (x4 + (x1.f1.length : Int))))) <|
  grd (decide ((wr .i64 (x4 + (x1.f1.length : Int))) < (x3.length : Int))) <|
  L57_0 x0 x1 x2 (List.set x3 (Int.toNat (wr .i64 (x4 + (x1.f1.length : Int)))) (wr .u32 x6)) x7 x8 (wr .i64 (x9 + 1))
 : Option (S60)) := (LiS_eq fd57 (tabH_nat h57) c57_1 (x0, x1, x2, x3, x4, x5, x6, x7, x8, x9, x10, x11, x12, ())).trans (by kernel_rfl)
/-! poly.value -/
theorem F61_eq (x0 : List S60) (x1 : S24) : F61 x0 x1 = (
  (F52 x0).bind fun y1 =>
  (F51 1).bind fun y2 =>
  (F51 x1.f0).bind fun y3 =>
  (F51 x1.f1).bind fun y4 =>
  L61_0 y1 (S60.mk false []) (S60.mk false []) y2 y3 y4 (wr .i64 ((y1.length : Int) - 1))
 : Option (S60)) := (GoS_eq fd61 (tabH D h61) (x0, x1)).trans (by kernel_rfl)
theorem L61_0_eq (x0 : List S60) (x1 : S60) (x2 : S60) (x3 : S60) (x4 : S60) (x5 : S60) (x6 : Int) : L61_0 x0 x1 x2 x3 x4 x5 x6 = (
  bif (decide (x6 ≥ 0)) then
    (F57 x2 x4).bind fun y1 =>
    grd (decide (0 ≤ x6)) <|
    grd (decide (x6 < (x0.length : Int))) <|
    (F57 (x0.getD (Int.toNat x6) z0) x3).bind fun y2 =>
    (F56 y1 y2).bind fun y3 =>
    (F57 x3 x5).bind fun y4 =>
    L61_0 x0 x1 y3 y4 x4 x5 (wr .i64 (x6 - 1))
  else
  some x2
 : Option (S60)) := (LiS_eq fd61 (tabH_nat h61) c61_0 (x0, x1, x2, x3, x4, x5, x6, ())).trans (by kernel_rfl)
/-! big.size -/
theorem F139_eq (x0 : Int) : F139 x0 = (
  bif (decide (x0 < 0)) then
    some (wr .u64 (0 - (wr .u64 x0)))
  else
  some (wr .u64 x0)
 : Option (Int)) := (GoS_eq fd139 (tabH D h139) (x0)).trans (by kernel_rfl)
/-! math/bits.LeadingZeros64 -/
theorem F143_eq (x0 : Int) : F143 x0 = (
  (F135 x0).bind fun y1 =>
  some (wr .i64 (64 - y1))
 : Option (Int)) := (GoS_eq fd143 (tabH D h143) (x0)).trans (by kernel_rfl)
/-! math/bits.Div64 -/
theorem F138_eq (x0 : Int) (x1 : Int) (x2 : Int) : F138 x0 x1 x2 = (
  bif (x2 == 0) then
    none
  else
  L138_0 x0 x1 x2
 : Option (Int × Int)) := (GoS_eq fd138 (tabH D h138) (x0, x1, x2)).trans (by kernel_rfl)
theorem L138_0_eq (x0 : Int) (x1 : Int) (x2 : Int) : L138_0 x0 x1 x2 = (
  bif (decide (x2 ≤ x0)) then
    none
  else
  L138_1 x0 x1 x2
 : Option (Int × Int)) := (LiS_eq fd138 (tabH_nat h138) c138_0 (x0, x1, x2, ())).trans (by kernel_rfl)
theorem L138_1_eq (x0 : Int) (x1 : Int) (x2 : Int) : L138_1 x0 x1 x2 = (
  bif (x0 == 0) then
    bif (decide (x2 = 0)) then
      none
    else
    bif (decide (x2 = 0)) then
      none
    else
    some ((wr .u64 (Int.tdiv x1 x2)), (Int.tmod x1 x2))
  else
  (F143 x2).bind fun y1 =>
  grd (decide (0 ≤ (wr .u64 y1))) <|
  grd (decide (0 ≤ (wr .u64 y1))) <|
  grd (decide (0 ≤ (wr .u64 (64 - (wr .u64 y1))))) <|
  grd (decide (0 ≤ (wr .u64 y1))) <|
  bif (decide ((shrE Go.IntKind.u64 (shlE Go.IntKind.u64 x2 (wr .u64 y1)) (32 : Int)) = 0)) then
    none
  else
  L138_3 (shlE Go.IntKind.u64 x2 (wr .u64 y1)) (wr .u64 y1) (shrE Go.IntKind.u64 (shlE Go.IntKind.u64 x2 (wr .u64 y1)) (32 : Int)) (andE Go.IntKind.u64 (shlE Go.IntKind.u64 x2 (wr .u64 y1)) (4294967295 : Int)) (orE Go.IntKind.u64 (shlE Go.IntKind.u64 x0 (wr .u64 y1)) (shrE Go.IntKind.u64 x1 (wr .u64 (64 - (wr .u64 y1))))) (shrE Go.IntKind.u64 (shlE Go.IntKind.u64 x1 (wr .u64 y1)) (32 : Int)) (andE Go.IntKind.u64 (shlE Go.IntKind.u64 x1 (wr .u64 y1)) (4294967295 : Int)) (wr .u64 (Int.tdiv (orE Go.IntKind.u64 (shlE Go.IntKind.u64 x0 (wr .u64 y1)) (shrE Go.IntKind.u64 x1 (wr .u64 (64 - (wr .u64 y1))))) (shrE Go.IntKind.u64 (shlE Go.IntKind.u64 x2 (wr .u64 y1)) (32 : Int)))) (wr .u64 ((orE Go.IntKind.u64 (shlE Go.IntKind.u64 x0 (wr .u64 y1)) (shrE Go.IntKind.u64 x1 (wr .u64 (64 - (wr .u64 y1))))) - (wr .u64 ((wr .u64 (Int.tdiv (orE Go.IntKind.u64 (shlE Go.IntKind.u64 x0 (wr .u64 y1)) (shrE Go.IntKind.u64 x1 (wr .u64 (64 - (wr .u64 y1))))) (shrE Go.IntKind.u64 (shlE Go.IntKind.u64 x2 (wr .u64 y1)) (32 : Int)))) * (shrE Go.IntKind.u64 (shlE Go.IntKind.u64 x2 (wr .u64 y1)) (32 : Int))))))
 : Option (Int × Int)) := (LiS_eq fd138 (tabH_nat h138) c138_1 (x0, x1, x2, ())).trans (by kernel_rfl)
theorem L138_2_eq (x0 : Int) (x1 : Int) (x2 : Int) (x3 : Int) (x4 : Int) (x5 : Int) (x6 : Int) (x7 : Int) : L138_2 x0 x1 x2 x3 x4 x5 x6 x7 = (
  bif (decide (x2 = 0)) then
    none
  else
  L138_6 x0 x1 x2 x3 x6 x7 (wr .u64 ((wr .u64 ((wr .u64 ((wr .u64 (x4 * 4294967296)) + x5)) - (wr .u64 (x7 * x0)))) - (wr .u64 ((wr .u64 (Int.tdiv (wr .u64 ((wr .u64 ((wr .u64 (x4 * 4294967296)) + x5)) - (wr .u64 (x7 * x0)))) x2)) * x2)))) (wr .u64 ((wr .u64 ((wr .u64 (x4 * 4294967296)) + x5)) - (wr .u64 (x7 * x0)))) (wr .u64 (Int.tdiv (wr .u64 ((wr .u64 ((wr .u64 (x4 * 4294967296)) + x5)) - (wr .u64 (x7 * x0)))) x2))
 : Option (Int × Int)) := (LiS_eq fd138 (tabH_nat h138) c138_2 (x0, x1, x2, x3, x4, x5, x6, x7, ())).trans (by kernel_rfl)
theorem L138_3_eq (x0 : Int) (x1 : Int) (x2 : Int) (x3 : Int) (x4 : Int) (x5 : Int) (x6 : Int) (x7 : Int) (x8 : Int) : L138_3 x0 x1 x2 x3 x4 x5 x6 x7 x8 = (
  bif (decide (x7 ≥ 4294967296)) then
    L138_4 x0 x1 x2 x3 x4 x5 x6 x7 x8
  else
  bif (decide ((wr .u64 (x7 * x3)) > (wr .u64 ((wr .u64 (4294967296 * x8)) + x5)))) then
    L138_4 x0 x1 x2 x3 x4 x5 x6 x7 x8
  else
  L138_2 x0 x1 x2 x3 x4 x5 x6 x7
 : Option (Int × Int)) := (LiS_eq fd138 (tabH_nat h138) c138_3 (x0, x1, x2, x3, x4, x5, x6, x7, x8, ())).trans (by kernel_rfl)
theorem L138_4_eq (x0 : Int) (x1 : Int) (x2 : Int) (x3 : Int) (x4 : Int) (x5 : Int) (x6 : Int) (x7 : Int) (x8 : Int) : L138_4 x0 x1 x2 x3 x4 x5 x6 x7 x8 = (
  bif (decide ((wr .u64 (x8 + x2)) ≥ 4294967296)) then
    L138_2 x0 x1 x2 x3 x4 x5 x6 (wr .u64 (x7 - 1))
  else
  L138_3 x0 x1 x2 x3 x4 x5 x6 (wr .u64 (x7 - 1)) (wr .u64 (x8 + x2))
 : Option (Int × Int)) := (LiS_eq fd138 (tabH_nat h138) c138_4 (x0, x1, x2, x3, x4, x5, x6, x7, x8, ())).trans (by kernel_rfl)
theorem L138_5_eq (x0 : Int) (x1 : Int) (x2 : Int) (x3 : Int) (x4 : Int) (x5 : Int) : L138_5 x0 x1 x2 x3 x4 x5 = (
  grd (decide (0 ≤ x1)) <|
  some ((wr .u64 ((wr .u64 (x3 * 4294967296)) + x5)), (shrE Go.IntKind.u64 (wr .u64 ((wr .u64 ((wr .u64 (x4 * 4294967296)) + x2)) - (wr .u64 (x5 * x0)))) x1))
 : Option (Int × Int)) := (LiS_eq fd138 (tabH_nat h138) c138_5 (x0, x1, x2, x3, x4, x5, ())).trans (by kernel_rfl)
theorem L138_6_eq (x0 : Int) (x1 : Int) (x2 : Int) (x3 : Int) (x4 : Int) (x5 : Int) (x6 : Int) (x7 : Int) (x8 : Int) : L138_6 x0 x1 x2 x3 x4 x5 x6 x7 x8 = (
  bif (decide (x8 ≥ 4294967296)) then
    L138_7 x0 x1 x2 x3 x4 x5 x6 x7 x8
  else
  bif (decide ((wr .u64 (x8 * x3)) > (wr .u64 ((wr .u64 (4294967296 * x6)) + x4)))) then
    L138_7 x0 x1 x2 x3 x4 x5 x6 x7 x8
  else
  L138_5 x0 x1 x4 x5 x7 x8
 : Option (Int × Int)) := (LiS_eq fd138 (tabH_nat h138) c138_6 (x0, x1, x2, x3, x4, x5, x6, x7, x8, ())).trans (by kernel_rfl)
theorem L138_7_eq (x0 : Int) (x1 : Int) (x2 : Int) (x3 : Int) (x4 : Int) (x5 : Int) (x6 : Int) (x7 : Int) (x8 : Int) : L138_7 x0 x1 x2 x3 x4 x5 x6 x7 x8 = (
  bif (decide ((wr .u64 (x6 + x2)) ≥ 4294967296)) then
    L138_5 x0 x1 x4 x5 x7 (wr .u64 (x8 - 1))
  else
  L138_6 x0 x1 x2 x3 x4 x5 (wr .u64 (x6 + x2)) x7 (wr .u64 (x8 - 1))
 : Option (Int × Int)) := (LiS_eq fd138 (tabH_nat h138) c138_7 (x0, x1, x2, x3, x4, x5, x6, x7, x8, ())).trans (by kernel_rfl)
/-! big.Div -/
theorem F130_eq (x0 : S60) (x1 : Int) : F130 x0 x1 = (
  bif (x1 == 0) then
    some ((S60.mk false []), (0, 13))
  else
  (F103 x0.f1).bind fun y1 =>
  L130_1 x1 x0 (S60.mk false []) y1 0 (wr .i64 ((y1.length : Int) - 1))
 : Option (S60 × Int × Int)) := (GoS_eq fd130 (tabH D h130) (x0, x1)).trans (by kernel_rfl)
theorem L130_0_eq (x0 : Int) (x1 : S60) (x2 : S60) (x3 : List Int) (x4 : Int) : L130_0 x0 x1 x2 x3 x4 = (
  (F95 (!(x1.f0 == (decide (x0 < 0)))) x3).bind fun y1 =>
  some (y1, ((wr .i64 x4), 0))
 : Option (S60 × Int × Int)) := (LiS_eq fd130 (tabH_nat h130) c130_0 (x0, x1, x2, x3, x4, ())).trans (by kernel_rfl)
theorem L130_1_eq (x0 : Int) (x1 : S60) (x2 : S60) (x3 : List Int) (x4 : Int) (x5 : Int) : L130_1 x0 x1 x2 x3 x4 x5 = (
  bif (decide (x5 ≥ 0)) then
    grd (decide (0 ≤ x5)) <|
    grd (decide (x5 < (x3.length : Int))) <|
    (F139 x0).bind fun y1 =>
    (F138 (shrE Go.IntKind.u64 x4 (32 : Int)) (orE Go.IntKind.u64 (shlE Go.IntKind.u64 x4 (32 : Int)) (wr .u64 (x3.getD (Int.toNat x5) 0))) y1).bind fun y2 =>
    grd (decide (0 ≤ x5)) <|
    grd (decide (x5 < (x3.length : Int))) <|
    L130_1 x0 x1 x2 (List.set x3 (Int.toNat x5) (wr .u32 y2.1)) y2.2 (wr .i64 (x5 - 1))
  else
  bif x1.f0 then
    L130_0 x0 x1 x2 x3 (wr .u64 (0 - x4))
  else
  L130_0 x0 x1 x2 x3 x4
 : Option (S60 × Int × Int)) := (LiS_eq fd130 (tabH_nat h130) c130_1 (x0, x1, x2, x3, x4, x5, ())).trans (by kernel_rfl)
/-! poly.parted -/
theorem F112_eq (x0 : List S60) (x1 : S24) : F112 x0 x1 = (
  grd (decide (0 ≤ (wr .i64 ((x0.length : Int) - 1)))) <|
  grd (decide ((wr .i64 ((x0.length : Int) - 1)) ≤ (wr .i64 ((x0.length : Int) - 1)))) <|
  grd (fitM (Int.toNat (wr .i64 ((x0.length : Int) - 1))) 32) <|
  L112_0 x0 x1 (List.replicate (Int.toNat (wr .i64 ((x0.length : Int) - 1))) (S60.mk false [])) (S60.mk false []) (wr .i64 ((x0.length : Int) - 1))
 : Option (List S60)) := (GoS_eq fd112 (tabH D h112) (x0, x1)).trans (by kernel_rfl)
theorem L112_0_eq (x0 : List S60) (x1 : S24) (x2 : List S60) (x3 : S60) (x4 : Int) : L112_0 x0 x1 x2 x3 x4 = (
  bif (decide (x4 ≥ 1)) then
    grd (decide (0 ≤ x4)) <|
    grd (decide (x4 < (x0.length : Int))) <|
    (F51 x1.f0).bind fun y1 =>
    (F57 x3 y1).bind fun y2 =>
    (F56 (x0.getD (Int.toNat x4) z0) y2).bind fun y3 =>
    (F130 y3 x1.f1).bind fun y4 =>
    grd (decide (0 ≤ (wr .i64 (x4 - 1)))) <|
    grd (decide ((wr .i64 (x4 - 1)) < (x2.length : Int))) <|
    L112_0 x0 x1 (List.set x2 (Int.toNat (wr .i64 (x4 - 1))) y4.1) y4.1 (wr .i64 (x4 - 1))
  else
  (F52 x2).bind fun y5 =>
  some y5
 : Option (List S60)) := (LiS_eq fd112 (tabH_nat h112) c112_0 (x0, x1, x2, x3, x4, ())).trans (by kernel_rfl)
/-! poly.Without -/
theorem F84_eq (x0 : List S60) (x1 : S24) : F84 x0 x1 = (
  (F29 x0 []).bind fun y1 =>
  (F38 x1).bind fun y2 =>
  bif (!y2) then
    some ([], (0, 1))
  else
  bif ((y1.length : Int) == 0) then
    some ([], (0, 13))
  else
  L84_0 y1 x1 0
 : Option (List S60 × Int × Int)) := (GoS_eq fd84 (tabH D h84) (x0, x1)).trans (by kernel_rfl)
theorem L84_0_eq (x0 : List S60) (x1 : S24) (x2 : Int) : L84_0 x0 x1 x2 = (
  bif (decide ((x0.length : Int) > 1)) then
    (F61 x0 x1).bind fun y1 =>
    (F66 y1).bind fun y2 =>
    bif (y2 == 0) then
      L84_1 x0 x1 x2
    else
    some (x0, (x2, 0))
  else
  some (x0, (x2, 0))
 : Option (List S60 × Int × Int)) := (LiS_eq fd84 (tabH_nat h84) c84_0 (x0, x1, x2, ())).trans (by kernel_rfl)
theorem L84_1_eq (x0 : List S60) (x1 : S24) (x2 : Int) : L84_1 x0 x1 x2 = (
  (F112 x0 x1).bind fun y1 =>
  L84_0 y1 x1 (wr .i64 (x2 + 1))
 : Option (List S60 × Int × Int)) := (LiS_eq fd84 (tabH_nat h84) c84_1 (x0, x1, x2, ())).trans (by kernel_rfl)
/-! big.Neg -/
theorem F67_eq (x0 : S60) : F67 x0 = (
  (F103 x0.f1).bind fun y1 =>
  (F95 (!x0.f0) y1).bind fun y2 =>
  some y2
 : Option (S60)) := (GoS_eq fd67 (tabH D h67) (x0)).trans (by kernel_rfl)
/-! big.Sub -/
theorem F68_eq (x0 : S60) (x1 : S60) : F68 x0 x1 = (
  (F67 x1).bind fun y1 =>
  (F56 x0 y1).bind fun y2 =>
  some y2
 : Option (S60)) := (GoS_eq fd68 (tabH D h68) (x0, x1)).trans (by kernel_rfl)
/-! poly.each(big.Sub) -/
theorem F65068_eq (x0 : List S60) (x1 : List S60) (x2 : Unit) : F65068 x0 x1 x2 = (
  L65068_0 x0 x1 [] (mxE (x0.length : Int) (x1.length : Int)) 0
 : Option (List S60)) := (GoS_eq fd65068 (tabH D h65068) (x0, x1, x2)).trans (by kernel_rfl)
theorem L65068_0_eq (x0 : List S60) (x1 : List S60) (x2 : List S60) (x3 : Int) (x4 : Int) : L65068_0 x0 x1 x2 x3 x4 = (
  bif (decide (x4 < x3)) then
    (F70 x0 x4).bind fun y1 =>
    (F70 x1 x4).bind fun y2 =>
    (F68 y1 y2).bind fun y3 =>
    grd (fit (x2.length + [y3].length) 32) <|
    L65068_0 x0 x1 (x2 ++ [y3]) x3 (wr .i64 (x4 + 1))
  else
  (F52 x2).bind fun y4 =>
  some y4
 : Option (List S60)) := (LiS_eq fd65068 (tabH_nat h65068) c65068_0 (x0, x1, x2, x3, x4, ())).trans (by kernel_rfl)
/-! poly.Sub -/
theorem F71_eq (x0 : List S60) (x1 : List S60) : F71 x0 x1 = (
  (F65068 x0 x1 ()).bind fun y1 =>
  some y1
 : Option (List S60)) := (GoS_eq fd71 (tabH D h71) (x0, x1)).trans (by kernel_rfl)
/-! sturm.negated -/
theorem F32_eq (x0 : List S60) : F32 x0 = (
  (F71 [] x0).bind fun y1 =>
  some y1
 : Option (List S60)) := (GoS_eq fd32 (tabH D h32) (x0)).trans (by kernel_rfl)
/-! sturm.without -/
theorem F44_eq (x0 : List S60) (x1 : S24) (x2 : S24) : F44 x0 x1 x2 = (
  (F84 x0 x1).bind fun y1 =>
  (F84 y1.1 x2).bind fun y2 =>
  bif ((Int.tmod y2.2.1 (2 : Int)) == 1) then
    (F32 y2.1).bind fun y3 =>
    some y3
  else
  some y2.1
 : Option (List S60)) := (GoS_eq fd44 (tabH D h44) (x0, x1, x2)).trans (by kernel_rfl)
/-! poly.Derive -/
theorem F30_eq (x0 : List S60) : F30 x0 = (
  L30_0 x0 [] 1
 : Option (List S60)) := (GoS_eq fd30 (tabH D h30) (x0)).trans (by kernel_rfl)
theorem L30_0_eq (x0 : List S60) (x1 : List S60) (x2 : Int) : L30_0 x0 x1 x2 = (
  bif (decide (x2 < (x0.length : Int))) then
    grd (decide (0 ≤ x2)) <|
    grd (decide (x2 < (x0.length : Int))) <|
    (F51 x2).bind fun y1 =>
    (F57 (x0.getD (Int.toNat x2) z0) y1).bind fun y2 =>
    grd (fit (x1.length + [y2].length) 32) <|
    L30_0 x0 (x1 ++ [y2]) (wr .i64 (x2 + 1))
  else
  (F52 x1).bind fun y3 =>
  some y3
 : Option (List S60)) := (LiS_eq fd30 (tabH_nat h30) c30_0 (x0, x1, x2, ())).trans (by kernel_rfl)
/-! poly.sized -/
theorem F69_eq (x0 : S60) : F69 x0 = (
  (F66 x0).bind fun y1 =>
  bif (decide (y1 < 0)) then
    (F67 x0).bind fun y2 =>
    some y2
  else
  some x0
 : Option (S60)) := (GoS_eq fd69 (tabH D h69) (x0)).trans (by kernel_rfl)
/-! poly.Rest -/
theorem F31_eq (x0 : List S60) (x1 : List S60) : F31 x0 x1 = (
  (F52 x1).bind fun y1 =>
  bif ((y1.length : Int) == 0) then
    some ([], 13)
  else
  grd (decide (0 ≤ (wr .i64 ((y1.length : Int) - 1)))) <|
  grd (decide ((wr .i64 ((y1.length : Int) - 1)) < (y1.length : Int))) <|
  (F29 x0 []).bind fun y2 =>
  L31_0 y2 y1 (y1.getD (Int.toNat (wr .i64 ((y1.length : Int) - 1))) z0)
 : Option (List S60 × Int)) := (GoS_eq fd31 (tabH D h31) (x0, x1)).trans (by kernel_rfl)
theorem L31_0_eq (x0 : List S60) (x1 : List S60) (x2 : S60) : L31_0 x0 x1 x2 = (
  bif (decide ((x0.length : Int) ≥ (x1.length : Int))) then
    grd (decide (0 ≤ (wr .i64 ((x0.length : Int) - 1)))) <|
    grd (decide ((wr .i64 ((x0.length : Int) - 1)) < (x0.length : Int))) <|
    (F66 x2).bind fun y1 =>
    bif (decide (y1 < 0)) then
      (F67 (x0.getD (Int.toNat (wr .i64 ((x0.length : Int) - 1))) z0)).bind fun y2 =>
      L31_1 x0 x1 x2 y2
    else
    L31_1 x0 x1 x2 (x0.getD (Int.toNat (wr .i64 ((x0.length : Int) - 1))) z0)
  else
  some (x0, 0)
 : Option (List S60 × Int)) := (LiS_eq fd31 (tabH_nat h31) c31_0 (x0, x1, x2, ())).trans (by kernel_rfl)
theorem L31_1_eq (x0 : List S60) (x1 : List S60) (x2 : S60) (x3 : S60) : L31_1 x0 x1 x2 x3 = (
  L31_2 x1 x2 x3 (wr .i64 ((x0.length : Int) - (x1.length : Int))) [] x0 (x0.length : Int) 0
 : Option (List S60 × Int)) := (LiS_eq fd31 (tabH_nat h31) c31_1 (x0, x1, x2, x3, ())).trans (by kernel_rfl)
theorem L31_2_eq (x0 : List S60) (x1 : S60) (x2 : S60) (x3 : Int) (x4 : List S60) (x5 : List S60) (x6 : Int) (x7 : Int) : L31_2 x0 x1 x2 x3 x4 x5 x6 x7 = (
  bif (decide (x7 < x6)) then
    grd (decide (0 ≤ x7)) <|
    grd (decide (x7 < (x5.length : Int))) <|
    (F69 x1).bind fun y1 =>
    (F57 (x5.getD (Int.toNat x7) z0) y1).bind fun y2 =>
    (F70 x0 (wr .i64 (x7 - x3))).bind fun y3 =>
    (F57 y3 x2).bind fun y4 =>
    (F68 y2 y4).bind fun y5 =>
    grd (fit (x4.length + [y5].length) 32) <|
    L31_2 x0 x1 x2 x3 (x4 ++ [y5]) x5 x6 (wr .i64 (x7 + 1))
  else
  (F52 x4).bind fun y6 =>
  L31_0 y6 x0 x1
 : Option (List S60 × Int)) := (LiS_eq fd31 (tabH_nat h31) c31_2 (x0, x1, x2, x3, x4, x5, x6, x7, ())).trans (by kernel_rfl)
/-! sturm.Chain -/
theorem F9_eq (x0 : List S60) : F9 x0 = (
  (F29 x0 []).bind fun y1 =>
  bif ((y1.length : Int) == 0) then
    some ([], 13)
  else
  bif (decide ((y1.length : Int) > 13)) then
    some ([], 6)
  else
  (F30 y1).bind fun y2 =>
  L9_0 y1 [y1] y2
 : Option (List (List S60) × Int)) := (GoS_eq fd9 (tabH D h9) (x0)).trans (by kernel_rfl)
theorem L9_0_eq (x0 : List S60) (x1 : List (List S60)) (x2 : List S60) : L9_0 x0 x1 x2 = (
  bif (decide ((x2.length : Int) > 0)) then
    grd (fit (x1.length + [x2].length) 24) <|
    (F31 x0 x2).bind fun y1 =>
    (F32 y1.1).bind fun y2 =>
    L9_0 x2 (x1 ++ [x2]) y2
  else
  some (x1, 0)
 : Option (List (List S60) × Int)) := (LiS_eq fd9 (tabH_nat h9) c9_0 (x0, x1, x2, ())).trans (by kernel_rfl)
/-! poly.At -/
theorem F25_eq (x0 : List S60) (x1 : S24) : F25 x0 x1 = (
  (F38 x1).bind fun y1 =>
  bif (!y1) then
    some ((S60.mk false []), 1)
  else
  (F61 x0 x1).bind fun y2 =>
  some (y2, 0)
 : Option (S60 × Int)) := (GoS_eq fd25 (tabH D h25) (x0, x1)).trans (by kernel_rfl)
/-! sturm.sign -/
theorem F39_eq (x0 : List S60) (x1 : S24) : F39 x0 x1 = (
  (F25 x0 x1).bind fun y1 =>
  (F66 y1.1).bind fun y2 =>
  some y2
 : Option (Int)) := (GoS_eq fd39 (tabH D h39) (x0, x1)).trans (by kernel_rfl)
/-! sturm.Changes -/
theorem F12_eq (x0 : List (List S60)) (x1 : S24) : F12 x0 x1 = (
  (F38 x1).bind fun y1 =>
  bif (!y1) then
    some (0, 1)
  else
  L12_0 x1 0 0 x0 (x0.length : Int) 0
 : Option (Int × Int)) := (GoS_eq fd12 (tabH D h12) (x0, x1)).trans (by kernel_rfl)
theorem L12_0_eq (x0 : S24) (x1 : Int) (x2 : Int) (x3 : List (List S60)) (x4 : Int) (x5 : Int) : L12_0 x0 x1 x2 x3 x4 x5 = (
  bif (decide (x5 < x4)) then
    grd (decide (0 ≤ x5)) <|
    grd (decide (x5 < (x3.length : Int))) <|
    (F39 (x3.getD (Int.toNat x5) []) x0).bind fun y1 =>
    bif (decide ((wr .i64 (y1 * x2)) < 0)) then
      bif (y1 != 0) then
        L12_0 x0 (wr .i64 (x1 + 1)) y1 x3 x4 (wr .i64 (x5 + 1))
      else
      L12_0 x0 (wr .i64 (x1 + 1)) x2 x3 x4 (wr .i64 (x5 + 1))
    else
    bif (y1 != 0) then
      L12_0 x0 x1 y1 x3 x4 (wr .i64 (x5 + 1))
    else
    L12_0 x0 x1 x2 x3 x4 (wr .i64 (x5 + 1))
  else
  some (x1, 0)
 : Option (Int × Int)) := (LiS_eq fd12 (tabH_nat h12) c12_0 (x0, x1, x2, x3, x4, x5, ())).trans (by kernel_rfl)
/-! sturm.roots -/
theorem F45_eq (x0 : List (List S60)) (x1 : S24) (x2 : S24) : F45 x0 x1 x2 = (
  (F12 x0 x1).bind fun y1 =>
  (F12 x0 x2).bind fun y2 =>
  some (wr .i64 (y1.1 - y2.1))
 : Option (Int)) := (GoS_eq fd45 (tabH D h45) (x0, x1, x2)).trans (by kernel_rfl)
/-! sturm.Count -/
theorem F16_eq (x0 : List S60) (x1 : S24) (x2 : S24) : F16 x0 x1 x2 = (
  (F43 x0 x1 x2).bind fun y1 =>
  bif (y1 != 0) then
    some (0, y1)
  else
  (F44 x0 x1 x2).bind fun y2 =>
  (F9 y2).bind fun y3 =>
  (F45 y3.1 x1 x2).bind fun y4 =>
  some (y4, 0)
 : Option (Int × Int)) := (GoS_eq fd16 (tabH D h16) (x0, x1, x2)).trans (by kernel_rfl)
/-! sturm.scaled -/
theorem F85_eq (x0 : List S60) (x1 : S60) (x2 : Bool) : F85 x0 x1 x2 = (
  (F113 x0).bind fun y1 =>
  (F51 1).bind fun y2 =>
  L85_0 x2 x1 y1 y2 (y1.length : Int) 0
 : Option (List S60)) := (GoS_eq fd85 (tabH D h85) (x0, x1, x2)).trans (by kernel_rfl)
theorem L85_0_eq (x0 : Bool) (x1 : S60) (x2 : List S60) (x3 : S60) (x4 : Int) (x5 : Int) : L85_0 x0 x1 x2 x3 x4 x5 = (
  bif (decide (x5 < x4)) then
    bif x0 then
      L85_1 x0 x1 x2 x3 (wr .i64 ((wr .i64 ((x2.length : Int) - 1)) - x5)) x4 x5
    else
    L85_1 x0 x1 x2 x3 x5 x4 x5
  else
  some x2
 : Option (List S60)) := (LiS_eq fd85 (tabH_nat h85) c85_0 (x0, x1, x2, x3, x4, x5, ())).trans (by kernel_rfl)
theorem L85_1_eq (x0 : Bool) (x1 : S60) (x2 : List S60) (x3 : S60) (x4 : Int) (x5 : Int) (x6 : Int) : L85_1 x0 x1 x2 x3 x4 x5 x6 = (
  grd (decide (0 ≤ x4)) <|
  grd (decide (x4 < (x2.length : Int))) <|
  (F57 (x2.getD (Int.toNat x4) z0) x3).bind fun y1 =>
  grd (decide (0 ≤ x4)) <|
  grd (decide (x4 < (x2.length : Int))) <|
  (F57 x3 x1).bind fun y2 =>
  L85_0 x0 x1 (List.set x2 (Int.toNat x4) y1) y2 x5 (wr .i64 (x6 + 1))
 : Option (List S60)) := (LiS_eq fd85 (tabH_nat h85) c85_1 (x0, x1, x2, x3, x4, x5, x6, ())).trans (by kernel_rfl)
/-! sturm.moved -/
theorem F86_eq (x0 : List S60) (x1 : S60) : F86 x0 x1 = (
  (F113 x0).bind fun y1 =>
  L86_0 x1 y1 (y1.length : Int) 0
 : Option (List S60)) := (GoS_eq fd86 (tabH D h86) (x0, x1)).trans (by kernel_rfl)
theorem L86_0_eq (x0 : S60) (x1 : List S60) (x2 : Int) (x3 : Int) : L86_0 x0 x1 x2 x3 = (
  bif (decide (x3 < x2)) then
    L86_1 x0 x1 x3 (wr .i64 ((x1.length : Int) - 2)) x2 x3
  else
  some x1
 : Option (List S60)) := (LiS_eq fd86 (tabH_nat h86) c86_0 (x0, x1, x2, x3, ())).trans (by kernel_rfl)
theorem L86_1_eq (x0 : S60) (x1 : List S60) (x2 : Int) (x3 : Int) (x4 : Int) (x5 : Int) : L86_1 x0 x1 x2 x3 x4 x5 = (
  bif (decide (x3 ≥ x2)) then
    grd (decide (0 ≤ x3)) <|
    grd (decide (x3 < (x1.length : Int))) <|
    grd (decide (0 ≤ (wr .i64 (x3 + 1)))) <|
    grd (decide ((wr .i64 (x3 + 1)) < (x1.length : Int))) <|
    (F57 x0 (x1.getD (Int.toNat (wr .i64 (x3 + 1))) z0)).bind fun y1 =>
    (F56 (x1.getD (Int.toNat x3) z0) y1).bind fun y2 =>
    grd (decide (0 ≤ x3)) <|
    grd (decide (x3 < (x1.length : Int))) <|
    L86_1 x0 (List.set x1 (Int.toNat x3) y2) x2 (wr .i64 (x3 - 1)) x4 x5
  else
  L86_0 x0 x1 x4 (wr .i64 (x5 + 1))
 : Option (List S60)) := (LiS_eq fd86 (tabH_nat h86) c86_1 (x0, x1, x2, x3, x4, x5, ())).trans (by kernel_rfl)
/-! sturm.unit -/
theorem F47_eq (x0 : List S60) (x1 : S24) (x2 : S24) : F47 x0 x1 x2 = (
  (F51 x1.f1).bind fun y1 =>
  (F51 x2.f1).bind fun y2 =>
  (F57 y1 y2).bind fun y3 =>
  (F51 x1.f0).bind fun y4 =>
  (F51 x2.f1).bind fun y5 =>
  (F57 y4 y5).bind fun y6 =>
  (F51 x2.f0).bind fun y7 =>
  (F51 x1.f1).bind fun y8 =>
  (F57 y7 y8).bind fun y9 =>
  (F68 y9 y6).bind fun y10 =>
  (F29 x0 []).bind fun y11 =>
  (F85 y11 y3 true).bind fun y12 =>
  (F86 y12 y6).bind fun y13 =>
  (F85 y13 y10 false).bind fun y14 =>
  some y14
 : Option (List S60)) := (GoS_eq fd47 (tabH D h47) (x0, x1, x2)).trans (by kernel_rfl)
/-! sturm.below -/
theorem F46_eq (G : YR D [.v (.sl (.st 0))] → Option (YR D [.v (.bool)])) (x0 : List S60) : F46g G x0 = (
  (F44 x0 (S24.mk 0 1) (S24.mk 1 1)).bind fun y1 =>
  (F39 y1 (S24.mk 0 1)).bind fun y2 =>
  bif (decide (y2 < 0)) then
    some true
  else
  (F39 y1 (S24.mk 1 1)).bind fun y3 =>
  bif (decide (y3 < 0)) then
    some true
  else
  L46_0 G y1 (S24.mk 0 1) (S24.mk 1 2) (S24.mk 1 1)
 : Option (Bool)) := (GoS_eq fd46 (tabH D (h46 G)) (x0)).trans (by kernel_rfl)
theorem L46_0_eq (G : YR D [.v (.sl (.st 0))] → Option (YR D [.v (.bool)])) (x0 : List S60) (x1 : S24) (x2 : S24) (x3 : S24) : L46_0 G x0 x1 x2 x3 = (
  (F9 x0).bind fun y1 =>
  (F45 y1.1 x1 x3).bind fun y2 =>
  bif (decide (y2 < 2)) then
    some false
  else
  (F47 x0 x1 x2).bind fun y3 =>
  (F46r G y3).bind fun y4 =>
  bif y4 then
    some true
  else
  (F47 x0 x2 x3).bind fun y5 =>
  (F46r G y5).bind fun y6 =>
  some y6
 : Option (Bool)) := (LiS_eq fd46 (tabH_nat (h46 G)) c46_0 (x0, x1, x2, x3, ())).trans (by kernel_rfl)
/-! sturm.Negative -/
theorem F17_eq (x0 : List S60) (x1 : S24) (x2 : S24) : F17 x0 x1 x2 = (
  (F43 x0 x1 x2).bind fun y1 =>
  bif (y1 != 0) then
    some (false, y1)
  else
  (F47 x0 x1 x2).bind fun y2 =>
  (F46 y2).bind fun y3 =>
  some (y3, 0)
 : Option (Bool × Int)) := (GoS_eq fd17 (tabH D h17) (x0, x1, x2)).trans (by kernel_rfl)
/-! wide.Add -/
theorem F142_eq (x0 : S117) (x1 : S117) : F142 x0 x1 = (
  (F145 x0.f1 x1.f1 0).bind fun y1 =>
  (F145 x0.f0 x1.f0 y1.2).bind fun y2 =>
  bif (y2.2 != 0) then
    some ((S117.mk 0 0), 2)
  else
  some ((S117.mk y2.1 y1.1), 0)
 : Option (S117 × Int)) := (GoS_eq fd142 (tabH D h142) (x0, x1)).trans (by kernel_rfl)
/-! (ratio.signed).plus -/
theorem F134_eq (x0 : S147) (x1 : S147) : F134 x0 x1 = (
  bif (x0.f0 == x1.f0) then
    (F142 x0.f1 x1.f1).bind fun y1 =>
    some (S147.mk x0.f0 y1.1)
  else
  (F106 x0.f1 x1.f1).bind fun y2 =>
  bif (decide (y2 < 0)) then
    L134_0 x1 x0 (S147.mk false (S117.mk 0 0))
  else
  L134_0 x0 x1 (S147.mk false (S117.mk 0 0))
 : Option (S147)) := (GoS_eq fd134 (tabH D h134) (x0, x1)).trans (by kernel_rfl)
theorem L134_0_eq (x0 : S147) (x1 : S147) (x2 : S147) : L134_0 x0 x1 x2 = (
  (F107 x0.f1 x1.f1).bind fun y1 =>
  some (S147.mk x0.f0 y1.1)
 : Option (S147)) := (LiS_eq fd134 (tabH_nat h134) c134_0 (x0, x1, x2, ())).trans (by kernel_rfl)
/-! wide.Div -/
theorem F144_eq (x0 : S117) (x1 : Int) : F144 x0 x1 = (
  bif (x1 == 0) then
    some ((S117.mk 0 0), (0, 13))
  else
  bif (decide (x1 = 0)) then
    none
  else
  bif (decide (x1 = 0)) then
    none
  else
  (F138 (Int.tmod x0.f0 x1) x0.f1 x1).bind fun y1 =>
  some ((S117.mk (wr .u64 (Int.tdiv x0.f0 x1)) y1.1), (y1.2, 0))
 : Option (S117 × Int × Int)) := (GoS_eq fd144 (tabH D h144) (x0, x1)).trans (by kernel_rfl)
/-! ratio.part -/
theorem F140_eq (x0 : S117) (x1 : S117) : F140 x0 x1 = (
  bif (x1.f0 == 0) then
    (F144 x0 x1.f1).bind fun y1 =>
    some y1.1
  else
  L140_0 x0 x1 (S117.mk 0 0) (S117.mk 0 0) 63
 : Option (S117)) := (GoS_eq fd140 (tabH D h140) (x0, x1)).trans (by kernel_rfl)
theorem L140_0_eq (x0 : S117) (x1 : S117) (x2 : S117) (x3 : S117) (x4 : Int) : L140_0 x0 x1 x2 x3 x4 = (
  bif (decide (x4 ≥ 0)) then
    (F105 x1 x4).bind fun y1 =>
    bif (y1.2 == 0) then
      (F106 x0 y1.1).bind fun y2 =>
      bif (decide (y2 ≥ 0)) then
        L140_1 x0 x1 x2 x3 x4 y1.1
      else
      L140_0 x0 x1 x2 x3 (wr .i64 (x4 - 1))
    else
    L140_0 x0 x1 x2 x3 (wr .i64 (x4 - 1))
  else
  some x3
 : Option (S117)) := (LiS_eq fd140 (tabH_nat h140) c140_0 (x0, x1, x2, x3, x4, ())).trans (by kernel_rfl)
theorem L140_1_eq (x0 : S117) (x1 : S117) (x2 : S117) (x3 : S117) (x4 : Int) (x5 : S117) : L140_1 x0 x1 x2 x3 x4 x5 = (
  (F107 x0 x5).bind fun y1 =>
  grd (decide (0 ≤ x4)) <|
  L140_0 y1.1 x1 x2 (S117.mk x3.f0 (orE Go.IntKind.u64 x3.f1 (shlE Go.IntKind.u64 (1 : Int) x4))) (wr .i64 (x4 - 1))
 : Option (S117)) := (LiS_eq fd140 (tabH_nat h140) c140_1 (x0, x1, x2, x3, x4, x5, ())).trans (by kernel_rfl)
/-! ratio.fits -/
theorem F141_eq (x0 : Bool) (x1 : S117) : F141 x0 x1 = (
  bif (x1.f0 != 0) then
    some (0, false)
  else
  bif (decide (x1.f1 > 9223372036854775808)) then
    some (0, false)
  else
  bif (x1.f1 == 9223372036854775808) then
    bif (!x0) then
      some (0, false)
    else
    L141_0 x0 x1
  else
  L141_0 x0 x1
 : Option (Int × Bool)) := (GoS_eq fd141 (tabH D h141) (x0, x1)).trans (by kernel_rfl)
theorem L141_0_eq (x0 : Bool) (x1 : S117) : L141_0 x0 x1 = (
  bif x0 then
    some ((wr .i64 (wr .u64 (0 - x1.f1))), true)
  else
  some ((wr .i64 x1.f1), true)
 : Option (Int × Bool)) := (LiS_eq fd141 (tabH_nat h141) c141_0 (x0, x1, ())).trans (by kernel_rfl)
/-! ratio.lowest -/
theorem F133_eq (x0 : S147) (x1 : S147) : F133 x0 x1 = (
  (F78 x0.f1 x1.f1).bind fun y1 =>
  (F140 x0.f1 y1).bind fun y2 =>
  (F140 x1.f1 y1).bind fun y3 =>
  bif (!(x0.f0 == x1.f0)) then
    (F141 (!((y2.f0 == 0) && (y2.f1 == 0))) y2).bind fun y4 =>
    L133_0 (S24.mk 0 0) y3 y4.1 y4.2
  else
  (F141 false y2).bind fun y5 =>
  L133_0 (S24.mk 0 0) y3 y5.1 y5.2
 : Option (S24 × Int)) := (GoS_eq fd133 (tabH D h133) (x0, x1)).trans (by kernel_rfl)
theorem L133_0_eq (x0 : S24) (x1 : S117) (x2 : Int) (x3 : Bool) : L133_0 x0 x1 x2 x3 = (
  (F141 false x1).bind fun y1 =>
  bif (!x3) then
    some ((S24.mk 0 0), 2)
  else
  bif (!y1.2) then
    some ((S24.mk 0 0), 2)
  else
  some ((S24.mk x2 y1.1), 0)
 : Option (S24 × Int)) := (LiS_eq fd133 (tabH_nat h133) c133_0 (x0, x1, x2, x3, ())).trans (by kernel_rfl)
/-! ratio.Sub -/
theorem F119_eq (x0 : S24) (x1 : S24) : F119 x0 x1 = (
  (F38 x0).bind fun y1 =>
  bif (!y1) then
    some ((S24.mk 0 0), 1)
  else
  (F38 x1).bind fun y2 =>
  bif (!y2) then
    some ((S24.mk 0 0), 1)
  else
  L119_0 x0 x1 (S24.mk 0 0)
 : Option (S24 × Int)) := (GoS_eq fd119 (tabH D h119) (x0, x1)).trans (by kernel_rfl)
theorem L119_0_eq (x0 : S24) (x1 : S24) (x2 : S24) : L119_0 x0 x1 x2 = (
  (F111 x1.f0 x0.f1).bind fun y1 =>
  (F111 x0.f0 x1.f1).bind fun y2 =>
  (F134 y2 (S147.mk (!y1.f0) y1.f1)).bind fun y3 =>
  (F111 x0.f1 x1.f1).bind fun y4 =>
  (F133 y3 y4).bind fun y5 =>
  some y5
 : Option (S24 × Int)) := (LiS_eq fd119 (tabH_nat h119) c119_0 (x0, x1, x2, ())).trans (by kernel_rfl)
/-! (*sturm.finder).narrow -/
theorem F100_eq (x0 : S100) (x1 : S24) (x2 : S24) : F100 x0 x1 x2 = (
  (F119 x2 x1).bind fun y1 =>
  bif (y1.2 != 0) then
    some (false, x0)
  else
  (F82 y1.1 x0.f0).bind fun y2 =>
  some ((decide (y2.1 ≤ 0)), x0)
 : Option (Bool × S100)) := (GoS_eq fd100 (tabH D h100) (x0, x1, x2)).trans (by kernel_rfl)
/-! ratio.Add -/
theorem F120_eq (x0 : S24) (x1 : S24) : F120 x0 x1 = (
  (F38 x0).bind fun y1 =>
  bif (!y1) then
    some ((S24.mk 0 0), 1)
  else
  (F38 x1).bind fun y2 =>
  bif (!y2) then
    some ((S24.mk 0 0), 1)
  else
  L120_0 x0 x1 (S24.mk 0 0)
 : Option (S24 × Int)) := (GoS_eq fd120 (tabH D h120) (x0, x1)).trans (by kernel_rfl)
theorem L120_0_eq (x0 : S24) (x1 : S24) (x2 : S24) : L120_0 x0 x1 x2 = (
  (F111 x0.f0 x1.f1).bind fun y1 =>
  (F111 x1.f0 x0.f1).bind fun y2 =>
  (F134 y1 y2).bind fun y3 =>
  (F111 x0.f1 x1.f1).bind fun y4 =>
  (F133 y3 y4).bind fun y5 =>
  some y5
 : Option (S24 × Int)) := (LiS_eq fd120 (tabH_nat h120) c120_0 (x0, x1, x2, ())).trans (by kernel_rfl)
/-! ratio.Mul -/
theorem F121_eq (x0 : S24) (x1 : S24) : F121 x0 x1 = (
  (F38 x0).bind fun y1 =>
  bif (!y1) then
    some ((S24.mk 0 0), 1)
  else
  (F38 x1).bind fun y2 =>
  bif (!y2) then
    some ((S24.mk 0 0), 1)
  else
  L121_0 x0 x1 (S24.mk 0 0)
 : Option (S24 × Int)) := (GoS_eq fd121 (tabH D h121) (x0, x1)).trans (by kernel_rfl)
theorem L121_0_eq (x0 : S24) (x1 : S24) (x2 : S24) : L121_0 x0 x1 x2 = (
  (F111 x0.f0 x1.f0).bind fun y1 =>
  (F111 x0.f1 x1.f1).bind fun y2 =>
  (F133 y1 y2).bind fun y3 =>
  some y3
 : Option (S24 × Int)) := (LiS_eq fd121 (tabH_nat h121) c121_0 (x0, x1, x2, ())).trans (by kernel_rfl)
/-! sturm.middle -/
theorem F101_eq (x0 : S24) (x1 : S24) : F101 x0 x1 = (
  (F120 x0 x1).bind fun y1 =>
  bif (y1.2 != 0) then
    some ((S24.mk 0 0), false)
  else
  (F121 y1.1 (S24.mk 1 2)).bind fun y2 =>
  some (y2.1, (y2.2 == 0))
 : Option (S24 × Bool)) := (GoS_eq fd101 (tabH D h101) (x0, x1)).trans (by kernel_rfl)
/-! (*sturm.finder).find -/
theorem F62_eq (G : YR D [.v (.st 4), .v (.sl (.st 0)), .v (.sl (.st 0)), .v (.st 1), .v (.st 1)] → Option (YR D [.v (.st 4)])) (x0 : S100) (x1 : List S60) (x2 : List S60) (x3 : S24) (x4 : S24) : F62g G x0 x1 x2 x3 x4 = (
  (F9 x2).bind fun y1 =>
  (F45 y1.1 x3 x4).bind fun y2 =>
  bif (y2 == 0) then
    some x0
  else
  bif x0.f2 then
    some x0
  else
  L62_1 G x0 x1 x2 x3 x4 y2
 : Option (S100)) := (GoS_eq fd62 (tabH D (h62 G)) (x0, x1, x2, x3, x4)).trans (by kernel_rfl)
theorem L62_0_eq (G : YR D [.v (.st 4), .v (.sl (.st 0)), .v (.sl (.st 0)), .v (.st 1), .v (.st 1)] → Option (YR D [.v (.st 4)])) (x0 : S100) (x1 : List S60) (x2 : List S60) (x3 : S24) (x4 : S24) : L62_0 G x0 x1 x2 x3 x4 = (
  (F101 x3 x4).bind fun y1 =>
  bif (!y1.2) then
    some (S100.mk x0.f0 x0.f1 true)
  else
  (F84 x2 y1.1).bind fun y2 =>
  (F62r G x0 x1 y2.1 x3 y1.1).bind fun y3 =>
  bif (decide (y2.2.1 > 0)) then
    grd (fit (y3.f1.length + [(S104.mk y1.1 y1.1)].length) 32) <|
    L62_3 G (S100.mk y3.f0 (y3.f1 ++ [(S104.mk y1.1 y1.1)]) y3.f2) x1 x4 y1.1 y2.1
  else
  L62_3 G y3 x1 x4 y1.1 y2.1
 : Option (S100)) := (LiS_eq fd62 (tabH_nat (h62 G)) c62_0 (x0, x1, x2, x3, x4, ())).trans (by kernel_rfl)
theorem L62_1_eq (G : YR D [.v (.st 4), .v (.sl (.st 0)), .v (.sl (.st 0)), .v (.st 1), .v (.st 1)] → Option (YR D [.v (.st 4)])) (x0 : S100) (x1 : List S60) (x2 : List S60) (x3 : S24) (x4 : S24) (x5 : Int) : L62_1 G x0 x1 x2 x3 x4 x5 = (
  bif (x5 == 1) then
    (F100 x0 x3 x4).bind fun y1 =>
    bif y1.1 then
      (F39 x1 x3).bind fun y2 =>
      bif (y2 != 0) then
        (F39 x1 x4).bind fun y3 =>
        bif (y3 != 0) then
          L62_2 G y1.2 x3 x4
        else
        L62_0 G y1.2 x1 x2 x3 x4
      else
      L62_0 G y1.2 x1 x2 x3 x4
    else
    L62_0 G y1.2 x1 x2 x3 x4
  else
  L62_0 G x0 x1 x2 x3 x4
 : Option (S100)) := (LiS_eq fd62 (tabH_nat (h62 G)) c62_1 (x0, x1, x2, x3, x4, x5, ())).trans (by kernel_rfl)
theorem L62_2_eq (G : YR D [.v (.st 4), .v (.sl (.st 0)), .v (.sl (.st 0)), .v (.st 1), .v (.st 1)] → Option (YR D [.v (.st 4)])) (x0 : S100) (x1 : S24) (x2 : S24) : L62_2 G x0 x1 x2 = (
  grd (fit (x0.f1.length + [(S104.mk x1 x2)].length) 32) <|
  some (S100.mk x0.f0 (x0.f1 ++ [(S104.mk x1 x2)]) x0.f2)
 : Option (S100)) := (LiS_eq fd62 (tabH_nat (h62 G)) c62_2 (x0, x1, x2, ())).trans (by kernel_rfl)
theorem L62_3_eq (G : YR D [.v (.st 4), .v (.sl (.st 0)), .v (.sl (.st 0)), .v (.st 1), .v (.st 1)] → Option (YR D [.v (.st 4)])) (x0 : S100) (x1 : List S60) (x2 : S24) (x3 : S24) (x4 : List S60) : L62_3 G x0 x1 x2 x3 x4 = (
  (F62r G x0 x1 x4 x3 x2).bind fun y1 =>
  some y1
 : Option (S100)) := (LiS_eq fd62 (tabH_nat (h62 G)) c62_3 (x0, x1, x2, x3, x4, ())).trans (by kernel_rfl)
/-! sturm.Isolate -/
theorem F26_eq (x0 : List S60) (x1 : S24) (x2 : S24) (x3 : S24) : F26 x0 x1 x2 x3 = (
  (F38 x3).bind fun y1 =>
  bif (!y1) then
    some ([], 1)
  else
  bif (decide (x3.f0 ≤ 0)) then
    some ([], 1)
  else
  L26_0 x0 x1 x2 x3
 : Option (List S104 × Int)) := (GoS_eq fd26 (tabH D h26) (x0, x1, x2, x3)).trans (by kernel_rfl)
theorem L26_0_eq (x0 : List S60) (x1 : S24) (x2 : S24) (x3 : S24) : L26_0 x0 x1 x2 x3 = (
  (F43 x0 x1 x2).bind fun y1 =>
  bif (y1 != 0) then
    some ([], y1)
  else
  (F29 x0 []).bind fun y2 =>
  (F44 x0 x1 x2).bind fun y3 =>
  (F62 (S100.mk x3 [] false) y2 y3 x1 x2).bind fun y4 =>
  bif y4.f2 then
    some ([], 2)
  else
  (F63 y4.f1).bind fun y5 =>
  some (y5, 0)
 : Option (List S104 × Int)) := (LiS_eq fd26 (tabH_nat h26) c26_0 (x0, x1, x2, x3, ())).trans (by kernel_rfl)
/-! pochoirlaw06.awake -/
theorem F6_eq : F6 = (
  (F21 [(-2), (0 : Int), (1 : Int)]).bind fun y1 =>
  (F16 y1 (S24.mk 0 1) (S24.mk 2 1)).bind fun y2 =>
  (F17 y1 (S24.mk 0 1) (S24.mk 2 1)).bind fun y3 =>
  (F26 y1 (S24.mk 0 1) (S24.mk 2 1) (S24.mk 1 100)).bind fun y4 =>
  (F9 y1).bind fun y5 =>
  bif (y2.1 == 1) then
    bif (y2.2 == 0) then
      bif y3.1 then
        bif (y3.2 == 0) then
          bif ((y4.1.length : Int) == 1) then
            bif (y4.2 == 0) then
              bif ((y5.1.length : Int) == 3) then
                some (y5.2 == 0)
              else
              some false
            else
            some false
          else
          some false
        else
        some false
      else
      some false
    else
    some false
  else
  some false
 : Option (Bool)) := (GoS_eq fd6 (tabH D h6) ()).trans (by kernel_rfl)
/-! pochoirlaw06.small -/
theorem F7_eq (x0 : List S60) : F7 x0 = (
  bif (decide ((x0.length : Int) > 8)) then
    some false
  else
  L7_0 x0 (x0.length : Int) 0
 : Option (Bool)) := (GoS_eq fd7 (tabH D h7) (x0)).trans (by kernel_rfl)
theorem L7_0_eq (x0 : List S60) (x1 : Int) (x2 : Int) : L7_0 x0 x1 x2 = (
  bif (decide (x2 < x1)) then
    grd (decide (0 ≤ x2)) <|
    grd (decide (x2 < (x0.length : Int))) <|
    bif (decide (((x0.getD (Int.toNat x2) z0).f1.length : Int) > 4)) then
      some false
    else
    L7_0 x0 x1 (wr .i64 (x2 + 1))
  else
  some true
 : Option (Bool)) := (LiS_eq fd7 (tabH_nat h7) c7_0 (x0, x1, x2, ())).trans (by kernel_rfl)
/-! pochoirref02.trim -/
theorem F102_eq (x0 : List Int) : F102 x0 = (
  L102_0 x0 (x0.length : Int)
 : Option (List Int)) := (GoS_eq fd102 (tabH D h102) (x0)).trans (by kernel_rfl)
theorem L102_0_eq (x0 : List Int) (x1 : Int) : L102_0 x0 x1 = (
  bif (decide (x1 > 0)) then
    grd (decide (0 ≤ (wr .i64 (x1 - 1)))) <|
    grd (decide ((wr .i64 (x1 - 1)) < (x0.length : Int))) <|
    bif ((x0.getD (Int.toNat (wr .i64 (x1 - 1))) 0) == 0) then
      L102_0 x0 (wr .i64 (x1 - 1))
    else
    grd (decide (0 ≤ x1)) <|
    grd (decide (x1 ≤ (x0.length : Int))) <|
    some (List.take (Int.toNat x1) x0)
  else
  grd (decide (0 ≤ x1)) <|
  grd (decide (x1 ≤ (x0.length : Int))) <|
  some (List.take (Int.toNat x1) x0)
 : Option (List Int)) := (LiS_eq fd102 (tabH_nat h102) c102_0 (x0, x1, ())).trans (by kernel_rfl)
/-! pochoirref02.norm -/
theorem F64_eq (x0 : Bool) (x1 : List Int) : F64 x0 x1 = (
  (F102 x1).bind fun y1 =>
  bif x0 then
    some (S69.mk (decide ((y1.length : Int) > 0)) y1)
  else
  some (S69.mk false y1)
 : Option (S69)) := (GoS_eq fd64 (tabH D h64) (x0, x1)).trans (by kernel_rfl)
/-! pochoirref02.From -/
theorem F27_eq (x0 : S60) : F27 x0 = (
  L27_0 x0 (S69.mk false []) [] 0
 : Option (S69)) := (GoS_eq fd27 (tabH D h27) (x0)).trans (by kernel_rfl)
theorem L27_0_eq (x0 : S60) (x1 : S69) (x2 : List Int) (x3 : Int) : L27_0 x0 x1 x2 x3 = (
  bif (decide (x3 < (x0.f1.length : Int))) then
    grd (decide (0 ≤ x3)) <|
    grd (decide (x3 < (x0.f1.length : Int))) <|
    grd (decide (0 ≤ x3)) <|
    grd (decide (x3 < (x0.f1.length : Int))) <|
    grd (fit (x2.length + [(Int.tmod (wr .u64 (x0.f1.getD (Int.toNat x3) 0)) (65536 : Int)), (wr .u64 (Int.tdiv (wr .u64 (x0.f1.getD (Int.toNat x3) 0)) (65536 : Int)))].length) 8) <|
    L27_0 x0 x1 (x2 ++ [(Int.tmod (wr .u64 (x0.f1.getD (Int.toNat x3) 0)) (65536 : Int)), (wr .u64 (Int.tdiv (wr .u64 (x0.f1.getD (Int.toNat x3) 0)) (65536 : Int)))]) (wr .i64 (x3 + 1))
  else
  (F64 x0.f0 x2).bind fun y1 =>
  some y1
 : Option (S69)) := (LiS_eq fd27 (tabH_nat h27) c27_0 (x0, x1, x2, x3, ())).trans (by kernel_rfl)
/-! pochoirref02.Sign -/
theorem F41_eq (x0 : S69) : F41 x0 = (
  bif ((x0.f1.length : Int) == 0) then
    some 0
  else
  bif x0.f0 then
    some (-1)
  else
  some 1
 : Option (Int)) := (GoS_eq fd41 (tabH D h41) (x0)).trans (by kernel_rfl)
/-! pochoirref05.Trim -/
theorem F28_eq (x0 : List S69) : F28 x0 = (
  L28_0 x0 (x0.length : Int)
 : Option (List S69)) := (GoS_eq fd28 (tabH D h28) (x0)).trans (by kernel_rfl)
theorem L28_0_eq (x0 : List S69) (x1 : Int) : L28_0 x0 x1 = (
  bif (decide (x1 > 0)) then
    grd (decide (0 ≤ (wr .i64 (x1 - 1)))) <|
    grd (decide ((wr .i64 (x1 - 1)) < (x0.length : Int))) <|
    (F41 (x0.getD (Int.toNat (wr .i64 (x1 - 1))) z2)).bind fun y1 =>
    bif (y1 == 0) then
      L28_0 x0 (wr .i64 (x1 - 1))
    else
    grd (decide (0 ≤ x1)) <|
    grd (decide (x1 ≤ (x0.length : Int))) <|
    some (List.take (Int.toNat x1) x0)
  else
  grd (decide (0 ≤ x1)) <|
  grd (decide (x1 ≤ (x0.length : Int))) <|
  some (List.take (Int.toNat x1) x0)
 : Option (List S69)) := (LiS_eq fd28 (tabH_nat h28) c28_0 (x0, x1, ())).trans (by kernel_rfl)
/-! pochoirref05.From -/
theorem F8_eq (x0 : List S60) : F8 x0 = (
  L8_0 x0 [] 0
 : Option (List S69)) := (GoS_eq fd8 (tabH D h8) (x0)).trans (by kernel_rfl)
theorem L8_0_eq (x0 : List S60) (x1 : List S69) (x2 : Int) : L8_0 x0 x1 x2 = (
  bif (decide (x2 < (x0.length : Int))) then
    grd (decide (0 ≤ x2)) <|
    grd (decide (x2 < (x0.length : Int))) <|
    (F27 (x0.getD (Int.toNat x2) z0)).bind fun y1 =>
    grd (fit (x1.length + [y1].length) 32) <|
    L8_0 x0 (x1 ++ [y1]) (wr .i64 (x2 + 1))
  else
  (F28 x1).bind fun y2 =>
  some y2
 : Option (List S69)) := (LiS_eq fd8 (tabH_nat h8) c8_0 (x0, x1, x2, ())).trans (by kernel_rfl)
/-! pochoirref02.Of -/
theorem F73_eq (x0 : Int) : F73 x0 = (
  bif (decide (x0 < 0)) then
    L73_0 x0 (S69.mk false []) (wr .u64 (0 - (wr .u64 x0)))
  else
  L73_0 x0 (S69.mk false []) (wr .u64 x0)
 : Option (S69)) := (GoS_eq fd73 (tabH D h73) (x0)).trans (by kernel_rfl)
theorem L73_0_eq (x0 : Int) (x1 : S69) (x2 : Int) : L73_0 x0 x1 x2 = (
  (F64 (decide (x0 < 0)) [(Int.tmod x2 (65536 : Int)), (Int.tmod (wr .u64 (Int.tdiv x2 (65536 : Int))) (65536 : Int)), (Int.tmod (wr .u64 (Int.tdiv x2 (4294967296 : Int))) (65536 : Int)), (wr .u64 (Int.tdiv x2 (281474976710656 : Int)))]).bind fun y1 =>
  some y1
 : Option (S69)) := (LiS_eq fd73 (tabH_nat h73) c73_0 (x0, x1, x2, ())).trans (by kernel_rfl)
/-! pochoirref02.at -/
theorem F77_eq (x0 : List Int) (x1 : Int) : F77 x0 x1 = (
  bif (decide (x1 < (x0.length : Int))) then
    grd (decide (0 ≤ x1)) <|
    grd (decide (x1 < (x0.length : Int))) <|
    some (x0.getD (Int.toNat x1) 0)
  else
  some 0
 : Option (Int)) := (GoS_eq fd77 (tabH D h77) (x0, x1)).trans (by kernel_rfl)
/-! pochoirref02.Mul -/
theorem F72_eq (x0 : S69) (x1 : S69) : F72 x0 x1 = (
  grd (decide (0 ≤ (wr .i64 ((wr .i64 ((x0.f1.length : Int) + (x1.f1.length : Int))) + 1)))) <|
  grd (decide ((wr .i64 ((wr .i64 ((x0.f1.length : Int) + (x1.f1.length : Int))) + 1)) ≤ (wr .i64 ((wr .i64 ((x0.f1.length : Int) + (x1.f1.length : Int))) + 1)))) <|
  grd (fitM (Int.toNat (wr .i64 ((wr .i64 ((x0.f1.length : Int) + (x1.f1.length : Int))) + 1))) 8) <|
  L72_0 x0 x1 (S69.mk false []) (List.replicate (Int.toNat (wr .i64 ((wr .i64 ((x0.f1.length : Int) + (x1.f1.length : Int))) + 1))) (0 : Int)) 0
 : Option (S69)) := (GoS_eq fd72 (tabH D h72) (x0, x1)).trans (by kernel_rfl)
theorem L72_0_eq (x0 : S69) (x1 : S69) (x2 : S69) (x3 : List Int) (x4 : Int) : L72_0 x0 x1 x2 x3 x4 = (
  bif (decide (x4 < (x0.f1.length : Int))) then
    L72_1 x0 x1 x2 x3 x4 0 0
  else
  (F64 (!(x0.f0 == x1.f0)) x3).bind fun y1 =>
  some y1
 : Option (S69)) := (LiS_eq fd72 (tabH_nat h72) c72_0 (x0, x1, x2, x3, x4, ())).trans (by kernel_rfl)
theorem L72_1_eq (x0 : S69) (x1 : S69) (x2 : S69) (x3 : List Int) (x4 : Int) (x5 : Int) (x6 : Int) : L72_1 x0 x1 x2 x3 x4 x5 x6 = (
  bif (decide (x6 < (x1.f1.length : Int))) then
    L72_2 x0 x1 x2 x3 x4 x5 x6
  else
  bif (decide (x5 > 0)) then
    L72_2 x0 x1 x2 x3 x4 x5 x6
  else
  L72_0 x0 x1 x2 x3 (wr .i64 (x4 + 1))
 : Option (S69)) := (LiS_eq fd72 (tabH_nat h72) c72_1 (x0, x1, x2, x3, x4, x5, x6, ())).trans (by kernel_rfl)
theorem L72_2_eq (x0 : S69) (x1 : S69) (x2 : S69) (x3 : List Int) (x4 : Int) (x5 : Int) (x6 : Int) : L72_2 x0 x1 x2 x3 x4 x5 x6 = (
  grd (decide (0 ≤ (wr .i64 (x4 + x6)))) <|
  grd (decide ((wr .i64 (x4 + x6)) < (x3.length : Int))) <|
  grd (decide (0 ≤ x4)) <|
  grd (decide (x4 < (x0.f1.length : Int))) <|
  (F77 x1.f1 x6).bind fun y1 =>
  grd (decide (0 ≤ (wr .i64 (x4 + x6)))) <|
  grd (decide ((wr .i64 (x4 + x6)) < (x3.length : Int))) <|
  L72_1 x0 x1 x2 (List.set x3 (Int.toNat (wr .i64 (x4 + x6))) (Int.tmod (wr .u64 ((wr .u64 ((x3.getD (Int.toNat (wr .i64 (x4 + x6))) 0) + (wr .u64 ((x0.f1.getD (Int.toNat x4) 0) * y1)))) + x5)) (65536 : Int))) x4 (wr .u64 (Int.tdiv (wr .u64 ((wr .u64 ((x3.getD (Int.toNat (wr .i64 (x4 + x6))) 0) + (wr .u64 ((x0.f1.getD (Int.toNat x4) 0) * y1)))) + x5)) (65536 : Int))) (wr .i64 (x6 + 1))
 : Option (S69)) := (LiS_eq fd72 (tabH_nat h72) c72_2 (x0, x1, x2, x3, x4, x5, x6, ())).trans (by kernel_rfl)
/-! pochoirref05.Derive -/
theorem F33_eq (x0 : List S69) : F33 x0 = (
  L33_0 x0 [] 1
 : Option (List S69)) := (GoS_eq fd33 (tabH D h33) (x0)).trans (by kernel_rfl)
theorem L33_0_eq (x0 : List S69) (x1 : List S69) (x2 : Int) : L33_0 x0 x1 x2 = (
  bif (decide (x2 < (x0.length : Int))) then
    grd (decide (0 ≤ x2)) <|
    grd (decide (x2 < (x0.length : Int))) <|
    (F73 x2).bind fun y1 =>
    (F72 (x0.getD (Int.toNat x2) z2) y1).bind fun y2 =>
    grd (fit (x1.length + [y2].length) 32) <|
    L33_0 x0 (x1 ++ [y2]) (wr .i64 (x2 + 1))
  else
  (F28 x1).bind fun y3 =>
  some y3
 : Option (List S69)) := (LiS_eq fd33 (tabH_nat h33) c33_0 (x0, x1, x2, ())).trans (by kernel_rfl)
/-! pochoirref05.at -/
theorem F75_eq (x0 : List S69) (x1 : Int) : F75 x0 x1 = (
  bif (decide (x1 ≥ 0)) then
    bif (decide (x1 < (x0.length : Int))) then
      grd (decide (0 ≤ x1)) <|
      grd (decide (x1 < (x0.length : Int))) <|
      some (x0.getD (Int.toNat x1) z2)
    else
    some (S69.mk false [])
  else
  some (S69.mk false [])
 : Option (S69)) := (GoS_eq fd75 (tabH D h75) (x0, x1)).trans (by kernel_rfl)
/-! pochoirref02.Neg -/
theorem F74_eq (x0 : S69) : F74 x0 = (
  (F64 (!x0.f0) x0.f1).bind fun y1 =>
  some y1
 : Option (S69)) := (GoS_eq fd74 (tabH D h74) (x0)).trans (by kernel_rfl)
/-! pochoirref02.plus -/
theorem F108_eq (x0 : List Int) (x1 : List Int) : F108 x0 x1 = (
  L108_0 x0 x1 [] 0 0
 : Option (List Int)) := (GoS_eq fd108 (tabH D h108) (x0, x1)).trans (by kernel_rfl)
theorem L108_0_eq (x0 : List Int) (x1 : List Int) (x2 : List Int) (x3 : Int) (x4 : Int) : L108_0 x0 x1 x2 x3 x4 = (
  bif (decide (x4 < (x0.length : Int))) then
    L108_1 x0 x1 x2 x3 x4
  else
  bif (decide (x4 < (x1.length : Int))) then
    L108_1 x0 x1 x2 x3 x4
  else
  bif (decide (x3 > 0)) then
    L108_1 x0 x1 x2 x3 x4
  else
  some x2
 : Option (List Int)) := (LiS_eq fd108 (tabH_nat h108) c108_0 (x0, x1, x2, x3, x4, ())).trans (by kernel_rfl)
theorem L108_1_eq (x0 : List Int) (x1 : List Int) (x2 : List Int) (x3 : Int) (x4 : Int) : L108_1 x0 x1 x2 x3 x4 = (
  (F77 x0 x4).bind fun y1 =>
  (F77 x1 x4).bind fun y2 =>
  grd (fit (x2.length + [(Int.tmod (wr .u64 ((wr .u64 (y1 + y2)) + x3)) (65536 : Int))].length) 8) <|
  L108_0 x0 x1 (x2 ++ [(Int.tmod (wr .u64 ((wr .u64 (y1 + y2)) + x3)) (65536 : Int))]) (wr .u64 (Int.tdiv (wr .u64 ((wr .u64 (y1 + y2)) + x3)) (65536 : Int))) (wr .i64 (x4 + 1))
 : Option (List Int)) := (LiS_eq fd108 (tabH_nat h108) c108_1 (x0, x1, x2, x3, x4, ())).trans (by kernel_rfl)
/-! pochoirref02.less -/
theorem F109_eq (x0 : List Int) (x1 : List Int) : F109 x0 x1 = (
  bif ((x0.length : Int) != (x1.length : Int)) then
    bif (decide ((x0.length : Int) < (x1.length : Int))) then
      some (-1)
    else
    some 1
  else
  L109_0 x0 x1 (wr .i64 ((x0.length : Int) - 1))
 : Option (Int)) := (GoS_eq fd109 (tabH D h109) (x0, x1)).trans (by kernel_rfl)
theorem L109_0_eq (x0 : List Int) (x1 : List Int) (x2 : Int) : L109_0 x0 x1 x2 = (
  bif (decide (x2 ≥ 0)) then
    grd (decide (0 ≤ x2)) <|
    grd (decide (x2 < (x0.length : Int))) <|
    grd (decide (0 ≤ x2)) <|
    grd (decide (x2 < (x1.length : Int))) <|
    bif (decide ((x0.getD (Int.toNat x2) 0) < (x1.getD (Int.toNat x2) 0))) then
      some (-1)
    else
    grd (decide (0 ≤ x2)) <|
    grd (decide (x2 < (x0.length : Int))) <|
    grd (decide (0 ≤ x2)) <|
    grd (decide (x2 < (x1.length : Int))) <|
    bif (decide ((x0.getD (Int.toNat x2) 0) > (x1.getD (Int.toNat x2) 0))) then
      some 1
    else
    L109_0 x0 x1 (wr .i64 (x2 - 1))
  else
  some 0
 : Option (Int)) := (LiS_eq fd109 (tabH_nat h109) c109_0 (x0, x1, x2, ())).trans (by kernel_rfl)
/-! pochoirref02.minus -/
theorem F110_eq (x0 : List Int) (x1 : List Int) : F110 x0 x1 = (
  L110_0 x0 x1 [] 0 0
 : Option (List Int)) := (GoS_eq fd110 (tabH D h110) (x0, x1)).trans (by kernel_rfl)
theorem L110_0_eq (x0 : List Int) (x1 : List Int) (x2 : List Int) (x3 : Int) (x4 : Int) : L110_0 x0 x1 x2 x3 x4 = (
  bif (decide (x4 < (x0.length : Int))) then
    grd (decide (0 ≤ x4)) <|
    grd (decide (x4 < (x0.length : Int))) <|
    (F77 x1 x4).bind fun y1 =>
    grd (fit (x2.length + [(Int.tmod (wr .u64 ((wr .u64 ((wr .u64 (65536 + (x0.getD (Int.toNat x4) 0))) - y1)) - x3)) (65536 : Int))].length) 8) <|
    L110_0 x0 x1 (x2 ++ [(Int.tmod (wr .u64 ((wr .u64 ((wr .u64 (65536 + (x0.getD (Int.toNat x4) 0))) - y1)) - x3)) (65536 : Int))]) (wr .u64 (1 - (wr .u64 (Int.tdiv (wr .u64 ((wr .u64 ((wr .u64 (65536 + (x0.getD (Int.toNat x4) 0))) - y1)) - x3)) (65536 : Int))))) (wr .i64 (x4 + 1))
  else
  some x2
 : Option (List Int)) := (LiS_eq fd110 (tabH_nat h110) c110_0 (x0, x1, x2, x3, x4, ())).trans (by kernel_rfl)
/-! pochoirref02.Add -/
theorem F81_eq (x0 : S69) (x1 : S69) : F81 x0 x1 = (
  bif (x0.f0 == x1.f0) then
    (F108 x0.f1 x1.f1).bind fun y1 =>
    (F64 x0.f0 y1).bind fun y2 =>
    some y2
  else
  (F109 x0.f1 x1.f1).bind fun y3 =>
  bif (decide (y3 ≥ 0)) then
    (F110 x0.f1 x1.f1).bind fun y4 =>
    (F64 x0.f0 y4).bind fun y5 =>
    some y5
  else
  (F110 x1.f1 x0.f1).bind fun y6 =>
  (F64 x1.f0 y6).bind fun y7 =>
  some y7
 : Option (S69)) := (GoS_eq fd81 (tabH D h81) (x0, x1)).trans (by kernel_rfl)
/-! pochoirref02.Sub -/
theorem F76_eq (x0 : S69) (x1 : S69) : F76 x0 x1 = (
  (F74 x1).bind fun y1 =>
  (F81 x0 y1).bind fun y2 =>
  some y2
 : Option (S69)) := (GoS_eq fd76 (tabH D h76) (x0, x1)).trans (by kernel_rfl)
/-! pochoirref05.Rest -/
theorem F35_eq (x0 : List S69) (x1 : List S69) : F35 x0 x1 = (
  grd (decide (0 ≤ (wr .i64 ((x1.length : Int) - 1)))) <|
  grd (decide ((wr .i64 ((x1.length : Int) - 1)) < (x1.length : Int))) <|
  L35_0 x0 x1 (x1.getD (Int.toNat (wr .i64 ((x1.length : Int) - 1))) z2)
 : Option (List S69)) := (GoS_eq fd35 (tabH D h35) (x0, x1)).trans (by kernel_rfl)
theorem L35_0_eq (x0 : List S69) (x1 : List S69) (x2 : S69) : L35_0 x0 x1 x2 = (
  bif (decide ((x0.length : Int) ≥ (x1.length : Int))) then
    grd (decide (0 ≤ (wr .i64 ((x0.length : Int) - 1)))) <|
    grd (decide ((wr .i64 ((x0.length : Int) - 1)) < (x0.length : Int))) <|
    L35_1 x0 x1 x2 [] (x0.getD (Int.toNat (wr .i64 ((x0.length : Int) - 1))) z2) 0
  else
  some x0
 : Option (List S69)) := (LiS_eq fd35 (tabH_nat h35) c35_0 (x0, x1, x2, ())).trans (by kernel_rfl)
theorem L35_1_eq (x0 : List S69) (x1 : List S69) (x2 : S69) (x3 : List S69) (x4 : S69) (x5 : Int) : L35_1 x0 x1 x2 x3 x4 x5 = (
  bif (decide (x5 < (x0.length : Int))) then
    grd (decide (0 ≤ x5)) <|
    grd (decide (x5 < (x0.length : Int))) <|
    (F72 (x0.getD (Int.toNat x5) z2) (S69.mk false x2.f1)).bind fun y1 =>
    (F75 x1 (wr .i64 ((wr .i64 (x5 - (x0.length : Int))) + (x1.length : Int)))).bind fun y2 =>
    (F72 y2 x4).bind fun y3 =>
    bif x2.f0 then
      (F74 y3).bind fun y4 =>
      L35_2 x0 x1 x2 x3 x4 x5 y1 y4
    else
    L35_2 x0 x1 x2 x3 x4 x5 y1 y3
  else
  (F28 x3).bind fun y5 =>
  L35_0 y5 x1 x2
 : Option (List S69)) := (LiS_eq fd35 (tabH_nat h35) c35_1 (x0, x1, x2, x3, x4, x5, ())).trans (by kernel_rfl)
theorem L35_2_eq (x0 : List S69) (x1 : List S69) (x2 : S69) (x3 : List S69) (x4 : S69) (x5 : Int) (x6 : S69) (x7 : S69) : L35_2 x0 x1 x2 x3 x4 x5 x6 x7 = (
  (F76 x6 x7).bind fun y1 =>
  grd (fit (x3.length + [y1].length) 32) <|
  L35_1 x0 x1 x2 (x3 ++ [y1]) x4 (wr .i64 (x5 + 1))
 : Option (List S69)) := (LiS_eq fd35 (tabH_nat h35) c35_2 (x0, x1, x2, x3, x4, x5, x6, x7, ())).trans (by kernel_rfl)
/-! pochoirref05.Neg -/
theorem F34_eq (x0 : List S69) : F34 x0 = (
  L34_0 x0 [] 0
 : Option (List S69)) := (GoS_eq fd34 (tabH D h34) (x0)).trans (by kernel_rfl)
theorem L34_0_eq (x0 : List S69) (x1 : List S69) (x2 : Int) : L34_0 x0 x1 x2 = (
  bif (decide (x2 < (x0.length : Int))) then
    grd (decide (0 ≤ x2)) <|
    grd (decide (x2 < (x0.length : Int))) <|
    (F74 (x0.getD (Int.toNat x2) z2)).bind fun y1 =>
    grd (fit (x1.length + [y1].length) 32) <|
    L34_0 x0 (x1 ++ [y1]) (wr .i64 (x2 + 1))
  else
  some x1
 : Option (List S69)) := (LiS_eq fd34 (tabH_nat h34) c34_0 (x0, x1, x2, ())).trans (by kernel_rfl)
/-! pochoirref06.Chain -/
theorem F10_eq (x0 : List S69) : F10 x0 = (
  (F33 x0).bind fun y1 =>
  L10_0 x0 [x0] y1
 : Option (List (List S69))) := (GoS_eq fd10 (tabH D h10) (x0)).trans (by kernel_rfl)
theorem L10_0_eq (x0 : List S69) (x1 : List (List S69)) (x2 : List S69) : L10_0 x0 x1 x2 = (
  bif (decide ((x2.length : Int) > 0)) then
    grd (fit (x1.length + [x2].length) 24) <|
    (F35 x0 x2).bind fun y1 =>
    (F34 y1).bind fun y2 =>
    L10_0 x2 (x1 ++ [x2]) y2
  else
  some x1
 : Option (List (List S69))) := (LiS_eq fd10 (tabH_nat h10) c10_0 (x0, x1, x2, ())).trans (by kernel_rfl)
/-! pochoirref02.To -/
theorem F37_eq (x0 : S69) : F37 x0 = (
  L37_0 x0 (S60.mk false []) (S60.mk x0.f0 []) 0
 : Option (S60)) := (GoS_eq fd37 (tabH D h37) (x0)).trans (by kernel_rfl)
theorem L37_0_eq (x0 : S69) (x1 : S60) (x2 : S60) (x3 : Int) : L37_0 x0 x1 x2 x3 = (
  bif (decide (x3 < (x0.f1.length : Int))) then
    (F77 x0.f1 x3).bind fun y1 =>
    (F77 x0.f1 (wr .i64 (x3 + 1))).bind fun y2 =>
    grd (fit (x2.f1.length + [(wr .u32 (wr .u64 (y1 + (wr .u64 (y2 * 65536)))))].length) 4) <|
    L37_0 x0 x1 (S60.mk x2.f0 (x2.f1 ++ [(wr .u32 (wr .u64 (y1 + (wr .u64 (y2 * 65536)))))])) (wr .i64 (x3 + 2))
  else
  some x2
 : Option (S60)) := (LiS_eq fd37 (tabH_nat h37) c37_0 (x0, x1, x2, x3, ())).trans (by kernel_rfl)
/-! pochoirref02.Same -/
theorem F36_eq (x0 : S60) (x1 : S60) : F36 x0 x1 = (
  bif (!(x0.f0 == x1.f0)) then
    some false
  else
  bif ((x0.f1.length : Int) != (x1.f1.length : Int)) then
    some false
  else
  L36_0 x0 x1 0
 : Option (Bool)) := (GoS_eq fd36 (tabH D h36) (x0, x1)).trans (by kernel_rfl)
theorem L36_0_eq (x0 : S60) (x1 : S60) (x2 : Int) : L36_0 x0 x1 x2 = (
  bif (decide (x2 < (x0.f1.length : Int))) then
    grd (decide (0 ≤ x2)) <|
    grd (decide (x2 < (x0.f1.length : Int))) <|
    grd (decide (0 ≤ x2)) <|
    grd (decide (x2 < (x1.f1.length : Int))) <|
    bif ((x0.f1.getD (Int.toNat x2) 0) != (x1.f1.getD (Int.toNat x2) 0)) then
      some false
    else
    L36_0 x0 x1 (wr .i64 (x2 + 1))
  else
  some true
 : Option (Bool)) := (LiS_eq fd36 (tabH_nat h36) c36_0 (x0, x1, x2, ())).trans (by kernel_rfl)
/-! pochoirref05.Same -/
theorem F11_eq (x0 : List S60) (x1 : List S69) : F11 x0 x1 = (
  bif ((x0.length : Int) != (x1.length : Int)) then
    some false
  else
  L11_0 x0 x1 0
 : Option (Bool)) := (GoS_eq fd11 (tabH D h11) (x0, x1)).trans (by kernel_rfl)
theorem L11_0_eq (x0 : List S60) (x1 : List S69) (x2 : Int) : L11_0 x0 x1 x2 = (
  bif (decide (x2 < (x0.length : Int))) then
    grd (decide (0 ≤ x2)) <|
    grd (decide (x2 < (x0.length : Int))) <|
    grd (decide (0 ≤ x2)) <|
    grd (decide (x2 < (x1.length : Int))) <|
    (F37 (x1.getD (Int.toNat x2) z2)).bind fun y1 =>
    (F36 (x0.getD (Int.toNat x2) z0) y1).bind fun y2 =>
    bif (!y2) then
      some false
    else
    L11_0 x0 x1 (wr .i64 (x2 + 1))
  else
  some true
 : Option (Bool)) := (LiS_eq fd11 (tabH_nat h11) c11_0 (x0, x1, x2, ())).trans (by kernel_rfl)
/-! pochoirref03.size -/
theorem F54_eq (x0 : Int) : F54 x0 = (
  bif (decide (x0 < 0)) then
    some (wr .u64 (0 - (wr .u64 x0)))
  else
  some (wr .u64 x0)
 : Option (Int)) := (GoS_eq fd54 (tabH D h54) (x0)).trans (by kernel_rfl)
/-! pochoirref03.common -/
theorem F53_eq (x0 : Int) (x1 : Int) : F53 x0 x1 = (
  L53_0 x0 x1
 : Option (Int)) := (GoS_eq fd53 (tabH D h53) (x0, x1)).trans (by kernel_rfl)
theorem L53_0_eq (x0 : Int) (x1 : Int) : L53_0 x0 x1 = (
  bif (decide (x1 > 0)) then
    bif (decide (x1 = 0)) then
      none
    else
    L53_0 x1 (Int.tmod x0 x1)
  else
  some x0
 : Option (Int)) := (LiS_eq fd53 (tabH_nat h53) c53_0 (x0, x1, ())).trans (by kernel_rfl)
/-! pochoirref03.May -/
theorem F40_eq (x0 : S24) : F40 x0 = (
  bif (decide (x0.f1 > 0)) then
    (F54 x0.f0).bind fun y1 =>
    (F54 x0.f1).bind fun y2 =>
    (F53 y1 y2).bind fun y3 =>
    some (y3 == 1)
  else
  some false
 : Option (Bool)) := (GoS_eq fd40 (tabH D h40) (x0)).trans (by kernel_rfl)
/-! pochoirref05.May -/
theorem F13_eq (x0 : S24) : F13 x0 = (
  (F40 x0).bind fun y1 =>
  some y1
 : Option (Bool)) := (GoS_eq fd13 (tabH D h13) (x0)).trans (by kernel_rfl)
/-! pochoirref05.At -/
theorem F42_eq (x0 : List S69) (x1 : S24) : F42 x0 x1 = (
  (F73 1).bind fun y1 =>
  L42_0 x0 x1 (S69.mk false []) (S69.mk false []) y1 (wr .i64 ((x0.length : Int) - 1))
 : Option (S69)) := (GoS_eq fd42 (tabH D h42) (x0, x1)).trans (by kernel_rfl)
theorem L42_0_eq (x0 : List S69) (x1 : S24) (x2 : S69) (x3 : S69) (x4 : S69) (x5 : Int) : L42_0 x0 x1 x2 x3 x4 x5 = (
  bif (decide (x5 ≥ 0)) then
    (F73 x1.f0).bind fun y1 =>
    (F72 x3 y1).bind fun y2 =>
    grd (decide (0 ≤ x5)) <|
    grd (decide (x5 < (x0.length : Int))) <|
    (F72 (x0.getD (Int.toNat x5) z2) x4).bind fun y3 =>
    (F81 y2 y3).bind fun y4 =>
    (F73 x1.f1).bind fun y5 =>
    (F72 x4 y5).bind fun y6 =>
    L42_0 x0 x1 x2 y4 y6 (wr .i64 (x5 - 1))
  else
  some x3
 : Option (S69)) := (LiS_eq fd42 (tabH_nat h42) c42_0 (x0, x1, x2, x3, x4, x5, ())).trans (by kernel_rfl)
/-! pochoirref06.Changes -/
theorem F14_eq (x0 : List (List S69)) (x1 : S24) : F14 x0 x1 = (
  L14_0 x0 x1 0 0 0
 : Option (Int)) := (GoS_eq fd14 (tabH D h14) (x0, x1)).trans (by kernel_rfl)
theorem L14_0_eq (x0 : List (List S69)) (x1 : S24) (x2 : Int) (x3 : Int) (x4 : Int) : L14_0 x0 x1 x2 x3 x4 = (
  bif (decide (x4 < (x0.length : Int))) then
    grd (decide (0 ≤ x4)) <|
    grd (decide (x4 < (x0.length : Int))) <|
    (F42 (x0.getD (Int.toNat x4) []) x1).bind fun y1 =>
    (F41 y1).bind fun y2 =>
    bif (y2 == 0) then
      L14_0 x0 x1 x2 x3 (wr .i64 (x4 + 1))
    else
    bif (x3 != 0) then
      bif (y2 != x3) then
        L14_0 x0 x1 (wr .i64 (x2 + 1)) y2 (wr .i64 (x4 + 1))
      else
      L14_0 x0 x1 x2 y2 (wr .i64 (x4 + 1))
    else
    L14_0 x0 x1 x2 y2 (wr .i64 (x4 + 1))
  else
  some x2
 : Option (Int)) := (LiS_eq fd14 (tabH_nat h14) c14_0 (x0, x1, x2, x3, x4, ())).trans (by kernel_rfl)
/-! pochoirlaw06.SturmChains -/
theorem F3_eq (x0 : List S60) (x1 : S24) : F3 x0 x1 = (
  F6.bind fun y1 =>
  bif (!y1) then
    some false
  else
  (F7 x0).bind fun y2 =>
  bif (!y2) then
    some true
  else
  (F8 x0).bind fun y3 =>
  (F9 x0).bind fun y4 =>
  bif ((y3.length : Int) == 0) then
    bif ((y4.1.length : Int) == 0) then
      some (y4.2 == 13)
    else
    some false
  else
  (F10 y3).bind fun y5 =>
  bif (y4.2 != 0) then
    some false
  else
  bif ((y4.1.length : Int) != (y5.length : Int)) then
    some false
  else
  L3_0 x1 y4.1 y5
 : Option (Bool)) := (GoS_eq fd3 (tabH D h3) (x0, x1)).trans (by kernel_rfl)
theorem L3_0_eq (x0 : S24) (x1 : List (List S60)) (x2 : List (List S69)) : L3_0 x0 x1 x2 = (
  L3_1 x0 x1 x2 (x1.length : Int) 0
 : Option (Bool)) := (LiS_eq fd3 (tabH_nat h3) c3_0 (x0, x1, x2, ())).trans (by kernel_rfl)
theorem L3_1_eq (x0 : S24) (x1 : List (List S60)) (x2 : List (List S69)) (x3 : Int) (x4 : Int) : L3_1 x0 x1 x2 x3 x4 = (
  bif (decide (x4 < x3)) then
    grd (decide (0 ≤ x4)) <|
    grd (decide (x4 < (x1.length : Int))) <|
    grd (decide (0 ≤ x4)) <|
    grd (decide (x4 < (x2.length : Int))) <|
    (F11 (x1.getD (Int.toNat x4) []) (x2.getD (Int.toNat x4) [])).bind fun y1 =>
    bif (!y1) then
      some false
    else
    L3_1 x0 x1 x2 x3 (wr .i64 (x4 + 1))
  else
  (F12 x1 x0).bind fun y2 =>
  (F13 x0).bind fun y3 =>
  bif (!y3) then
    bif (y2.1 == 0) then
      some (y2.2 == 1)
    else
    some false
  else
  (F14 x2 x0).bind fun y4 =>
  bif (y2.1 == y4) then
    some (y2.2 == 0)
  else
  some false
 : Option (Bool)) := (LiS_eq fd3 (tabH_nat h3) c3_1 (x0, x1, x2, x3, x4, ())).trans (by kernel_rfl)
end Go.Proofs.YtidiifdiilahdaaGreatDoor.Ev
