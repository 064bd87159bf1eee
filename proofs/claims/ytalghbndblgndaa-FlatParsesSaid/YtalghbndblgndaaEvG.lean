/- Printed by a program of this claim: what the functions answer, each by an equation. -/
import Derived.Test.YtalghbndblgndaaEvF
namespace Go.Proofs.Ytalghbndblgndaa.Ev
open Go
set_option linter.unusedVariables false
set_option maxRecDepth 100000
/-! comp.short -/
theorem F133_eq (x0 : List Int) : F133 x0 = (
  L133_0 x0 (x0.length : Int) 0
 : Option (Bool)) := (GoP_eq fd133 (tabH D h133) (x0)).trans (by kernel_rfl)
theorem L133_0_eq (x0 : List Int) (x1 : Int) (x2 : Int) : L133_0 x0 x1 x2 = (
  bif (decide (x2 < x1)) then
    grd (decide (0 ≤ x2)) <|
    grd (decide (x2 < (x0.length : Int))) <|
    bif (decide ((x0.getD (Int.toNat x2) 0) < (-32768))) then
      some false
    else
    bif (decide ((x0.getD (Int.toNat x2) 0) > 32767)) then
      some false
    else
    L133_0 x0 x1 (wr .i64 (x2 + 1))
  else
  some true
 : Option (Bool)) := (LiP_eq fd133 (tabH_nat h133) c133_0 (x0, x1, x2, ())).trans (by kernel_rfl)
/-! comp.may -/
theorem F85_eq (x0 : S47) (x1 : Int) : F85 x0 x1 = (
  bif (decide (x0.f0 ≥ 0)) then
    bif (decide (x0.f0 < x1)) then
      (F133 [x0.f1, x0.f2, x0.f3, x0.f4, x0.f5, x0.f6]).bind fun y1 =>
      some y1
    else
    some false
  else
  some false
 : Option (Bool)) := (GoP_eq fd85 (tabH D h85) (x0, x1)).trans (by kernel_rfl)
/-! comp.May -/
theorem F35_eq (x0 : List S47) (x1 : Int) : F35 x0 x1 = (
  bif (decide (x1 < 1)) then
    some false
  else
  bif (decide (x1 > 1024)) then
    some false
  else
  bif ((x0.length : Int) == 0) then
    some false
  else
  bif (decide ((x0.length : Int) > 64)) then
    some false
  else
  L35_0 x1 x0 (x0.length : Int) 0
 : Option (Bool)) := (GoP_eq fd35 (tabH D h35) (x0, x1)).trans (by kernel_rfl)
theorem L35_0_eq (x0 : Int) (x1 : List S47) (x2 : Int) (x3 : Int) : L35_0 x0 x1 x2 x3 = (
  bif (decide (x3 < x2)) then
    grd (decide (0 ≤ x3)) <|
    grd (decide (x3 < (x1.length : Int))) <|
    (F85 (x1.getD (Int.toNat x3) z1) x0).bind fun y1 =>
    bif (!y1) then
      some false
    else
    L35_0 x0 x1 x2 (wr .i64 (x3 + 1))
  else
  some true
 : Option (Bool)) := (LiP_eq fd35 (tabH_nat h35) c35_0 (x0, x1, x2, x3, ())).trans (by kernel_rfl)
/-! glyf.far -/
theorem F69_eq (x0 : Int) : F69 x0 = (
  bif (decide (x0 > 32767)) then
    some true
  else
  some (decide (x0 < (-32767)))
 : Option (Bool)) := (GoP_eq fd69 (tabH D h69) (x0)).trans (by kernel_rfl)
/-! glyf.May -/
theorem F28_eq (x0 : List (List S39)) : F28 x0 = (
  bif (decide ((x0.length : Int) > 256)) then
    some false
  else
  L28_0 0 x0 (x0.length : Int) 0
 : Option (Bool)) := (GoP_eq fd28 (tabH D h28) (x0)).trans (by kernel_rfl)
theorem L28_0_eq (x0 : Int) (x1 : List (List S39)) (x2 : Int) (x3 : Int) : L28_0 x0 x1 x2 x3 = (
  bif (decide (x3 < x2)) then
    grd (decide (0 ≤ x3)) <|
    grd (decide (x3 < (x1.length : Int))) <|
    bif (((x1.getD (Int.toNat x3) []).length : Int) == 0) then
      some false
    else
    bif (decide ((wr .i64 (x0 + ((x1.getD (Int.toNat x3) []).length : Int))) > 4096)) then
      some false
    else
    L28_1 (wr .i64 (x0 + ((x1.getD (Int.toNat x3) []).length : Int))) x1 x2 x3 (x1.getD (Int.toNat x3) []) ((x1.getD (Int.toNat x3) []).length : Int) 0
  else
  some true
 : Option (Bool)) := (LiP_eq fd28 (tabH_nat h28) c28_0 (x0, x1, x2, x3, ())).trans (by kernel_rfl)
theorem L28_1_eq (x0 : Int) (x1 : List (List S39)) (x2 : Int) (x3 : Int) (x4 : List S39) (x5 : Int) (x6 : Int) : L28_1 x0 x1 x2 x3 x4 x5 x6 = (
  bif (decide (x6 < x5)) then
    grd (decide (0 ≤ x6)) <|
    grd (decide (x6 < (x4.length : Int))) <|
    (F69 (x4.getD (Int.toNat x6) z0).f0).bind fun y1 =>
    bif y1 then
      some false
    else
    (F69 (x4.getD (Int.toNat x6) z0).f1).bind fun y2 =>
    bif y2 then
      some false
    else
    L28_1 x0 x1 x2 x3 x4 x5 (wr .i64 (x6 + 1))
  else
  L28_0 x0 x1 x2 (wr .i64 (x3 + 1))
 : Option (Bool)) := (LiP_eq fd28 (tabH_nat h28) c28_1 (x0, x1, x2, x3, x4, x5, x6, ())).trans (by kernel_rfl)
/-! flat.may -/
theorem F61_eq (x0 : S43) (x1 : Int) : F61 x0 x1 = (
  bif (decide ((x0.f1.length : Int) > 0)) then
    bif ((x0.f0.length : Int) == 0) then
      (F35 x0.f1 x1).bind fun y1 =>
      some y1
    else
    some false
  else
  (F28 x0.f0).bind fun y2 =>
  some y2
 : Option (Bool)) := (GoP_eq fd61 (tabH D h61) (x0, x1)).trans (by kernel_rfl)
/-! flat.May$1 -/
theorem F60_eq (x0 : S43) (x1 : List S43) : F60 x0 x1 = (
  (F61 x0 (x1.length : Int)).bind fun y1 =>
  some ((!y1), x1)
 : Option (Bool × List S43)) := (GoP_eq fd60 (tabH D h60) (x0, x1)).trans (by kernel_rfl)
/-! slices.IndexFunc[[]api.Shape,api.Shape](flat.May$1) -/
theorem F115060_eq (x0 : List S43) (x1 : Unit) (x2 : List S43) : F115060 x0 x1 x2 = (
  L115060_0 x0 (x0.length : Int) 0 x2
 : Option (Int × List S43)) := (GoP_eq fd115060 (tabH D h115060) (x0, x1, x2)).trans (by kernel_rfl)
theorem L115060_0_eq (x0 : List S43) (x1 : Int) (x2 : Int) (x3 : List S43) : L115060_0 x0 x1 x2 x3 = (
  bif (decide (x2 < x1)) then
    grd (decide (0 ≤ x2)) <|
    grd (decide (x2 < (x0.length : Int))) <|
    (F60 (x0.getD (Int.toNat x2) z2) x3).bind fun y1 =>
    bif y1.1 then
      some (x2, y1.2)
    else
    L115060_0 x0 x1 (wr .i64 (x2 + 1)) y1.2
  else
  some ((-1), x3)
 : Option (Int × List S43)) := (LiP_eq fd115060 (tabH_nat h115060) c115060_0 (x0, x1, x2, x3, ())).trans (by kernel_rfl)
/-! slices.ContainsFunc[[]api.Shape,api.Shape](flat.May$1) -/
theorem F59060_eq (x0 : List S43) (x1 : Unit) (x2 : List S43) : F59060 x0 x1 x2 = (
  (F115060 x0 () x2).bind fun y1 =>
  some ((decide (y1.1 ≥ 0)), y1.2)
 : Option (Bool × List S43)) := (GoP_eq fd59060 (tabH D h59060) (x0, x1, x2)).trans (by kernel_rfl)
/-! flat.May -/
theorem F22_eq (x0 : List S43) : F22 x0 = (
  bif (decide ((x0.length : Int) > 0)) then
    bif (decide ((x0.length : Int) ≤ 1024)) then
      (F59060 x0 () x0).bind fun y1 =>
      some (!y1.1)
    else
    some false
  else
  some false
 : Option (Bool)) := (GoP_eq fd22 (tabH D h22) (x0)).trans (by kernel_rfl)
/-! flat.there -/
theorem F55_eq (x0 : List S43) (x1 : Int) : F55 x0 x1 = (
  (F22 x0).bind fun y1 =>
  bif y1 then
    bif (decide (x1 ≥ 0)) then
      some (decide (x1 < (x0.length : Int)))
    else
    some false
  else
  some false
 : Option (Bool)) := (GoP_eq fd55 (tabH D h55) (x0, x1)).trans (by kernel_rfl)
/-! slices.Index[[]int,int] -/
theorem F162_eq (x0 : List Int) (x1 : Int) : F162 x0 x1 = (
  L162_0 x0 x1 (x0.length : Int) 0
 : Option (Int)) := (GoP_eq fd162 (tabH D h162) (x0, x1)).trans (by kernel_rfl)
theorem L162_0_eq (x0 : List Int) (x1 : Int) (x2 : Int) (x3 : Int) : L162_0 x0 x1 x2 x3 = (
  bif (decide (x3 < x2)) then
    grd (decide (0 ≤ x3)) <|
    grd (decide (x3 < (x0.length : Int))) <|
    bif (x1 == (x0.getD (Int.toNat x3) 0)) then
      some x3
    else
    L162_0 x0 x1 x2 (wr .i64 (x3 + 1))
  else
  some (-1)
 : Option (Int)) := (LiP_eq fd162 (tabH_nat h162) c162_0 (x0, x1, x2, x3, ())).trans (by kernel_rfl)
/-! slices.Contains[[]int,int] -/
theorem F149_eq (x0 : List Int) (x1 : Int) : F149 x0 x1 = (
  (F162 x0 x1).bind fun y1 =>
  some (decide (y1 ≥ 0))
 : Option (Bool)) := (GoP_eq fd149 (tabH D h149) (x0, x1)).trans (by kernel_rfl)
/-! (*flat.walker).enter -/
theorem F110_eq (x0 : S99) (x1 : S47) : F110 x0 x1 = (
  (F149 x0.f1 x1.f0).bind fun y1 =>
  bif y1 then
    some (9, x0)
  else
  bif (decide ((x0.f1.length : Int) > 8)) then
    some (8, x0)
  else
  bif (x0.f2 == 4096) then
    some (6, x0)
  else
  some (0, (S99.mk x0.f0 x0.f1 (wr .i64 (x0.f2 + 1)) (mxE x0.f3 (x0.f1.length : Int)) x0.f4))
 : Option (Int × S99)) := (GoP_eq fd110 (tabH D h110) (x0, x1)).trans (by kernel_rfl)
/-! comp.far -/
theorem F90_eq (x0 : Int) : F90 x0 = (
  bif (decide (x0 > 32767)) then
    some true
  else
  some (decide (x0 < (-32767)))
 : Option (Bool)) := (GoP_eq fd90 (tabH D h90) (x0)).trans (by kernel_rfl)
/-! comp.rounded -/
theorem F91_eq (x0 : Int) : F91 x0 = (
  some (shrE Go.IntKind.i64 (wr .i64 (x0 + 8192)) (14 : Int))
 : Option (Int)) := (GoP_eq fd91 (tabH D h91) (x0)).trans (by kernel_rfl)
/-! comp.unit -/
theorem F92_eq (x0 : Int) : F92 x0 = (
  some (decide ((mxE x0 (wr .i64 (0 - x0))) ≤ 32767))
 : Option (Bool)) := (GoP_eq fd92 (tabH D h92) (x0)).trans (by kernel_rfl)
/-! comp.Move -/
theorem F42_eq (x0 : S47) (x1 : Int) (x2 : Int) : F42 x0 x1 x2 = (
  (F85 x0 1024).bind fun y1 =>
  bif (!y1) then
    some (0, (0, 1))
  else
  (F90 x1).bind fun y2 =>
  bif y2 then
    some (0, (0, 1))
  else
  (F90 x2).bind fun y3 =>
  bif y3 then
    some (0, (0, 1))
  else
  L42_0 x1 x2 x0
 : Option (Int × Int × Int)) := (GoP_eq fd42 (tabH D h42) (x0, x1, x2)).trans (by kernel_rfl)
theorem L42_0_eq (x0 : Int) (x1 : Int) (x2 : S47) : L42_0 x0 x1 x2 = (
  (F91 (wr .i64 ((wr .i64 (x2.f3 * x0)) + (wr .i64 (x2.f5 * x1))))).bind fun y1 =>
  (F91 (wr .i64 ((wr .i64 (x2.f4 * x0)) + (wr .i64 (x2.f6 * x1))))).bind fun y2 =>
  (F92 (wr .i64 (y1 + x2.f1))).bind fun y3 =>
  bif (!y3) then
    some (0, (0, 2))
  else
  (F92 (wr .i64 (y2 + x2.f2))).bind fun y4 =>
  bif (!y4) then
    some (0, (0, 2))
  else
  some ((wr .i64 (y1 + x2.f1)), ((wr .i64 (y2 + x2.f2)), 0))
 : Option (Int × Int × Int)) := (LiP_eq fd42 (tabH_nat h42) c42_0 (x0, x1, x2, ())).trans (by kernel_rfl)
/-! (*flat.outline).add -/
theorem F111_eq (x0 : S180) (x1 : S47) (x2 : List (List S39)) : F111 x0 x1 x2 = (
  L111_0 x0 x1 x2 (x2.length : Int) 0
 : Option (Int × S180)) := (GoP_eq fd111 (tabH D h111) (x0, x1, x2)).trans (by kernel_rfl)
theorem L111_0_eq (x0 : S180) (x1 : S47) (x2 : List (List S39)) (x3 : Int) (x4 : Int) : L111_0 x0 x1 x2 x3 x4 = (
  bif (decide (x4 < x3)) then
    grd (decide (0 ≤ x4)) <|
    grd (decide (x4 < (x2.length : Int))) <|
    grd (decide (((x2.getD (Int.toNat x4) []).length : Int) ≤ ((x2.getD (Int.toNat x4) []).length : Int))) <|
    grd (fitM (Int.toNat ((x2.getD (Int.toNat x4) []).length : Int)) 24) <|
    L111_1 x0 x1 (List.replicate (Int.toNat ((x2.getD (Int.toNat x4) []).length : Int)) (S39.mk 0 0 false)) x2 x3 x4 (x2.getD (Int.toNat x4) []) ((x2.getD (Int.toNat x4) []).length : Int) 0
  else
  bif (decide ((x0.f0.length : Int) > 256)) then
    some (6, x0)
  else
  bif (decide (x0.f1 > 4096)) then
    some (6, x0)
  else
  some (0, x0)
 : Option (Int × S180)) := (LiP_eq fd111 (tabH_nat h111) c111_0 (x0, x1, x2, x3, x4, ())).trans (by kernel_rfl)
theorem L111_1_eq (x0 : S180) (x1 : S47) (x2 : List S39) (x3 : List (List S39)) (x4 : Int) (x5 : Int) (x6 : List S39) (x7 : Int) (x8 : Int) : L111_1 x0 x1 x2 x3 x4 x5 x6 x7 x8 = (
  bif (decide (x8 < x7)) then
    grd (decide (0 ≤ x8)) <|
    grd (decide (x8 < (x6.length : Int))) <|
    (F42 x1 (x6.getD (Int.toNat x8) z0).f0 (x6.getD (Int.toNat x8) z0).f1).bind fun y1 =>
    bif (y1.2.2 != 0) then
      some (2, x0)
    else
    grd (decide (0 ≤ x8)) <|
    grd (decide (x8 < (x2.length : Int))) <|
    L111_1 x0 x1 (List.set x2 (Int.toNat x8) (S39.mk y1.1 y1.2.1 (x6.getD (Int.toNat x8) z0).f2)) x3 x4 x5 x6 x7 (wr .i64 (x8 + 1))
  else
  grd (fit (x0.f0.length + [x2].length) 24) <|
  L111_0 (S180.mk (x0.f0 ++ [x2]) (wr .i64 (x0.f1 + (x2.length : Int)))) x1 x3 x4 (wr .i64 (x5 + 1))
 : Option (Int × S180)) := (LiP_eq fd111 (tabH_nat h111) c111_1 (x0, x1, x2, x3, x4, x5, x6, x7, x8, ())).trans (by kernel_rfl)
/-! (*flat.walker).walk -/
theorem F56_eq (G : YR D [.v (.st 3), .v (.int .i64)] → Option (YR D [.v (.sl (.sl (.st 0))), .v (.int .i64), .v (.st 3)])) (x0 : S99) (x1 : Int) : F56g G x0 x1 = (
  grd (decide (0 ≤ x1)) <|
  grd (decide (x1 < (x0.f0.length : Int))) <|
  bif (((x0.f0.getD (Int.toNat x1) z2).f1.length : Int) == 0) then
    some ((x0.f0.getD (Int.toNat x1) z2).f0, (0, x0))
  else
  grd (fit (x0.f1.length + [x1].length) 8) <|
  L56_0 G (S99.mk x0.f0 (x0.f1 ++ [x1]) x0.f2 x0.f3 x0.f4) (S180.mk [] 0) (x0.f0.getD (Int.toNat x1) z2).f1 ((x0.f0.getD (Int.toNat x1) z2).f1.length : Int) 0
 : Option (List (List S39) × Int × S99)) := (GoP_eq fd56 (tabH D (h56 G)) (x0, x1)).trans (by kernel_rfl)
theorem L56_0_eq (G : YR D [.v (.st 3), .v (.int .i64)] → Option (YR D [.v (.sl (.sl (.st 0))), .v (.int .i64), .v (.st 3)])) (x0 : S99) (x1 : S180) (x2 : List S47) (x3 : Int) (x4 : Int) : L56_0 G x0 x1 x2 x3 x4 = (
  bif (decide (x4 < x3)) then
    grd (decide (0 ≤ x4)) <|
    grd (decide (x4 < (x2.length : Int))) <|
    (F110 x0 (x2.getD (Int.toNat x4) z1)).bind fun y1 =>
    bif (y1.1 != 0) then
      some ([], (Prod.mk y1.1 y1.2))
    else
    (F56r G y1.2 (x2.getD (Int.toNat x4) z1).f0).bind fun y2 =>
    bif (y2.2.1 == 0) then
      bif y2.2.2.f4 then
        L56_2 G y2.2.2 x1 (x2.getD (Int.toNat x4) z1) y2.1 x2 x3 x4
      else
      L56_1 G y2.2.2 x1 y2.2.1 x2 x3 x4
    else
    L56_1 G y2.2.2 x1 y2.2.1 x2 x3 x4
  else
  grd (decide (0 ≤ (wr .i64 ((x0.f1.length : Int) - 1)))) <|
  grd (decide ((wr .i64 ((x0.f1.length : Int) - 1)) ≤ (x0.f1.length : Int))) <|
  some (x1.f0, (0, (S99.mk x0.f0 (List.take (Int.toNat (wr .i64 ((x0.f1.length : Int) - 1))) (List.drop 0 x0.f1)) x0.f2 x0.f3 x0.f4)))
 : Option (List (List S39) × Int × S99)) := (LiP_eq fd56 (tabH_nat (h56 G)) c56_0 (x0, x1, x2, x3, x4, ())).trans (by kernel_rfl)
theorem L56_1_eq (G : YR D [.v (.st 3), .v (.int .i64)] → Option (YR D [.v (.sl (.sl (.st 0))), .v (.int .i64), .v (.st 3)])) (x0 : S99) (x1 : S180) (x2 : Int) (x3 : List S47) (x4 : Int) (x5 : Int) : L56_1 G x0 x1 x2 x3 x4 x5 = (
  bif (x2 != 0) then
    some ([], (x2, x0))
  else
  L56_0 G x0 x1 x3 x4 (wr .i64 (x5 + 1))
 : Option (List (List S39) × Int × S99)) := (LiP_eq fd56 (tabH_nat (h56 G)) c56_1 (x0, x1, x2, x3, x4, x5, ())).trans (by kernel_rfl)
theorem L56_2_eq (G : YR D [.v (.st 3), .v (.int .i64)] → Option (YR D [.v (.sl (.sl (.st 0))), .v (.int .i64), .v (.st 3)])) (x0 : S99) (x1 : S180) (x2 : S47) (x3 : List (List S39)) (x4 : List S47) (x5 : Int) (x6 : Int) : L56_2 G x0 x1 x2 x3 x4 x5 x6 = (
  (F111 x1 x2 x3).bind fun y1 =>
  L56_1 G x0 y1.2 y1.1 x4 x5 x6
 : Option (List (List S39) × Int × S99)) := (LiP_eq fd56 (tabH_nat (h56 G)) c56_2 (x0, x1, x2, x3, x4, x5, x6, ())).trans (by kernel_rfl)
/-! flat.copied -/
theorem F57_eq (x0 : List (List S39)) : F57 x0 = (
  L57_0 [] x0 (x0.length : Int) 0
 : Option (List (List S39))) := (GoP_eq fd57 (tabH D h57) (x0)).trans (by kernel_rfl)
theorem L57_0_eq (x0 : List (List S39)) (x1 : List (List S39)) (x2 : Int) (x3 : Int) : L57_0 x0 x1 x2 x3 = (
  bif (decide (x3 < x2)) then
    grd (decide (0 ≤ x3)) <|
    grd (decide (x3 < (x1.length : Int))) <|
    (F112 (x1.getD (Int.toNat x3) [])).bind fun y1 =>
    grd (fit (x0.length + [y1].length) 24) <|
    L57_0 (x0 ++ [y1]) x1 x2 (wr .i64 (x3 + 1))
  else
  some x0
 : Option (List (List S39))) := (LiP_eq fd57 (tabH_nat h57) c57_0 (x0, x1, x2, x3, ())).trans (by kernel_rfl)
/-! flat.Outline -/
theorem F17_eq (x0 : List S43) (x1 : Int) : F17 x0 x1 = (
  (F55 x0 x1).bind fun y1 =>
  bif (!y1) then
    some ([], 1)
  else
  (F56 (S99.mk x0 [] 0 0 true) x1).bind fun y2 =>
  bif (y2.2.1 != 0) then
    some ([], y2.2.1)
  else
  (F57 y2.1).bind fun y3 =>
  some (y3, 0)
 : Option (List (List S39) × Int)) := (GoP_eq fd17 (tabH D h17) (x0, x1)).trans (by kernel_rfl)
/-! flat.Depth -/
theorem F19_eq (x0 : List S43) (x1 : Int) : F19 x0 x1 = (
  (F55 x0 x1).bind fun y1 =>
  bif (!y1) then
    some (0, 1)
  else
  (F56 (S99.mk x0 [] 0 0 false) x1).bind fun y2 =>
  bif (y2.2.1 != 0) then
    some (0, y2.2.1)
  else
  some (y2.2.2.f3, 0)
 : Option (Int × Int)) := (GoP_eq fd19 (tabH D h19) (x0, x1)).trans (by kernel_rfl)
/-! pochoirlaw15.awake -/
theorem F15_eq : F15 = (
  (F17 [(S43.mk [[(S39.mk 1 2 true)]] []), (S43.mk [] [(S47.mk 0 5 0 16384 0 0 16384)])] 1).bind fun y1 =>
  (F19 [(S43.mk [[(S39.mk 1 2 true)]] []), (S43.mk [] [(S47.mk 0 5 0 16384 0 0 16384)])] 1).bind fun y2 =>
  (F17 [(S43.mk [[(S39.mk 1 2 true)]] []), (S43.mk [] [(S47.mk 0 5 0 16384 0 0 16384)])] 2).bind fun y3 =>
  bif (y1.2 == 0) then
    bif ((y1.1.length : Int) == 1) then
      grd (decide (0 < (y1.1.length : Int))) <|
      bif (((y1.1.getD 0 []).length : Int) == 1) then
        grd (decide (0 < (y1.1.length : Int))) <|
        grd (decide (0 < ((y1.1.getD 0 []).length : Int))) <|
        bif ((((y1.1.getD 0 []).getD 0 z0).f0 == 6) && ((((y1.1.getD 0 []).getD 0 z0).f1 == 2) && (((y1.1.getD 0 []).getD 0 z0).f2 == true))) then
          bif (y2.1 == 1) then
            bif (y2.2 == 0) then
              bif (y3.2 == 1) then
                (F22 [(S43.mk [[(S39.mk 1 2 true)]] []), (S43.mk [] [(S47.mk 0 5 0 16384 0 0 16384)])]).bind fun y4 =>
                some y4
              else
              some false
            else
            some false
          else
          some false
        else
        some false
      else
      some false
    else
    some false
  else
  some false
 : Option (Bool)) := (GoP_eq fd15 (tabH D h15) ()).trans (by kernel_rfl)
/-! cmp.isNaN[int] -/
theorem F161_eq (x0 : Int) : F161 x0 = (
  some (x0 != x0)
 : Option (Bool)) := (GoP_eq fd161 (tabH D h161) (x0)).trans (by kernel_rfl)
/-! cmp.Less[int] -/
theorem F148_eq (x0 : Int) (x1 : Int) : F148 x0 x1 = (
  (F161 x0).bind fun y1 =>
  bif y1 then
    (F161 x1).bind fun y2 =>
    bif (!y2) then
      some true
    else
    some (decide (x0 < x1))
  else
  some (decide (x0 < x1))
 : Option (Bool)) := (GoP_eq fd148 (tabH D h148) (x0, x1)).trans (by kernel_rfl)
/-! slices.IsSorted[[]int,int] -/
theorem F108_eq (x0 : List Int) : F108 x0 = (
  L108_0 x0 (wr .i64 ((x0.length : Int) - 1))
 : Option (Bool)) := (GoP_eq fd108 (tabH D h108) (x0)).trans (by kernel_rfl)
theorem L108_0_eq (x0 : List Int) (x1 : Int) : L108_0 x0 x1 = (
  bif (decide (x1 > 0)) then
    grd (decide (0 ≤ x1)) <|
    grd (decide (x1 < (x0.length : Int))) <|
    grd (decide (0 ≤ (wr .i64 (x1 - 1)))) <|
    grd (decide ((wr .i64 (x1 - 1)) < (x0.length : Int))) <|
    (F148 (x0.getD (Int.toNat x1) 0) (x0.getD (Int.toNat (wr .i64 (x1 - 1))) 0)).bind fun y1 =>
    bif y1 then
      some false
    else
    L108_0 x0 (wr .i64 (x1 - 1))
  else
  some true
 : Option (Bool)) := (LiP_eq fd108 (tabH_nat h108) c108_0 (x0, x1, ())).trans (by kernel_rfl)
/-! octet.Cut -/
theorem F138_eq (x0 : ByteArray) (x1 : Int) (x2 : Int) : F138 x0 x1 x2 = (
  bif (decide (x1 < 0)) then
    some (ByteArray.empty, 3)
  else
  bif (decide (x2 < 0)) then
    some (ByteArray.empty, 3)
  else
  bif (decide (x1 > ((ByteArray.size x0) : Int))) then
    some (ByteArray.empty, 3)
  else
  bif (decide (x2 > (wr .i64 (((ByteArray.size x0) : Int) - x1)))) then
    some (ByteArray.empty, 3)
  else
  L138_0 x0 x1 x2
 : Option (ByteArray × Int)) := (GoP_eq fd138 (tabH D h138) (x0, x1, x2)).trans (by kernel_rfl)
theorem L138_0_eq (x0 : ByteArray) (x1 : Int) (x2 : Int) : L138_0 x0 x1 x2 = (
  grd (decide (0 ≤ (wr .i64 (x1 + x2)))) <|
  grd (decide ((wr .i64 (x1 + x2)) ≤ ((ByteArray.size x0) : Int))) <|
  grd (decide (0 ≤ x1)) <|
  grd (decide (x1 ≤ (wr .i64 (x1 + x2)))) <|
  some ((ByteArray.extract x0 (Int.toNat x1) (Int.toNat (wr .i64 (x1 + x2)))), 0)
 : Option (ByteArray × Int)) := (LiP_eq fd138 (tabH_nat h138) c138_0 (x0, x1, x2, ())).trans (by kernel_rfl)
/-! octet.number -/
theorem F139_eq (x0 : ByteArray) : F139 x0 = (
  L139_0 x0 0 ((ByteArray.size x0) : Int) 0
 : Option (Int)) := (GoP_eq fd139 (tabH D h139) (x0)).trans (by kernel_rfl)
theorem L139_0_eq (x0 : ByteArray) (x1 : Int) (x2 : Int) (x3 : Int) : L139_0 x0 x1 x2 x3 = (
  bif (decide (x3 < x2)) then
    grd (decide (0 ≤ x3)) <|
    grd (decide (x3 < ((ByteArray.size x0) : Int))) <|
    L139_0 x0 (orE Go.IntKind.u32 (shlE Go.IntKind.u32 x1 (8 : Int)) (wr .u32 (btE x0 (Int.toNat x3)))) x2 (wr .i64 (x3 + 1))
  else
  some x1
 : Option (Int)) := (LiP_eq fd139 (tabH_nat h139) c139_0 (x0, x1, x2, x3, ())).trans (by kernel_rfl)
/-! octet.U16 -/
theorem F88_eq (x0 : ByteArray) (x1 : Int) : F88 x0 x1 = (
  (F138 x0 x1 2).bind fun y1 =>
  (F139 y1.1).bind fun y2 =>
  some ((wr .u16 y2), y1.2)
 : Option (Int × Int)) := (GoP_eq fd88 (tabH D h88) (x0, x1)).trans (by kernel_rfl)
/-! comp.Is -/
theorem F39_eq (x0 : ByteArray) : F39 x0 = (
  (F88 x0 0).bind fun y1 =>
  bif (y1.2 == 0) then
    some (decide ((wr .i16 y1.1) < 0))
  else
  some false
 : Option (Bool)) := (GoP_eq fd39 (tabH D h39) (x0)).trans (by kernel_rfl)
/-! octet.New -/
theorem F70_eq (x0 : ByteArray) : F70 x0 = (
  some (Option.some (S192.mk x0 0 false))
 : Option (Option S192)) := (GoP_eq fd70 (tabH D h70) (x0)).trans (by kernel_rfl)
/-! (*octet.Reader).take -/
theorem F120_eq (x0 : S192) (x1 : Int) : F120 x0 x1 = (
  bif x0.f2 then
    some (ByteArray.empty, x0)
  else
  L120_0 x0 x1
 : Option (ByteArray × S192)) := (GoP_eq fd120 (tabH D h120) (x0, x1)).trans (by kernel_rfl)
theorem L120_0_eq (x0 : S192) (x1 : Int) : L120_0 x0 x1 = (
  (F138 x0.f0 x0.f1 x1).bind fun y1 =>
  bif (y1.2 != 0) then
    some (ByteArray.empty, (S192.mk x0.f0 x0.f1 true))
  else
  some (y1.1, (S192.mk x0.f0 (wr .i64 (x0.f1 + x1)) x0.f2))
 : Option (ByteArray × S192)) := (LiP_eq fd120 (tabH_nat h120) c120_0 (x0, x1, ())).trans (by kernel_rfl)
/-! (*octet.Reader).U16 -/
theorem F119_eq (x0 : S192) : F119 x0 = (
  (F120 x0 2).bind fun y1 =>
  (F139 y1.1).bind fun y2 =>
  some ((wr .u16 y2), y1.2)
 : Option (Int × S192)) := (GoP_eq fd119 (tabH D h119) (x0)).trans (by kernel_rfl)
/-! (*octet.Reader).Err -/
theorem F73_eq (x0 : S192) : F73 x0 = (
  bif x0.f2 then
    some (3, x0)
  else
  some (0, x0)
 : Option (Int × S192)) := (GoP_eq fd73 (tabH D h73) (x0)).trans (by kernel_rfl)
/-! comp.right -/
theorem F135_eq (x0 : Int) : F135 x0 = (
  bif ((andE Go.IntKind.u16 x0 (2 : Int)) != 0) then
    bif ((andE Go.IntKind.u16 x0 (59408 : Int)) == 0) then
      some ((andE Go.IntKind.u16 (andE Go.IntKind.u16 x0 (200 : Int)) (wr .u16 ((andE Go.IntKind.u16 x0 (200 : Int)) - 1))) == 0)
    else
    some false
  else
  some false
 : Option (Bool)) := (GoP_eq fd135 (tabH D h135) (x0)).trans (by kernel_rfl)
/-! (*octet.Reader).I16 -/
theorem F71_eq (x0 : S192) : F71 x0 = (
  (F119 x0).bind fun y1 =>
  some ((wr .i16 y1.1), y1.2)
 : Option (Int × S192)) := (GoP_eq fd71 (tabH D h71) (x0)).trans (by kernel_rfl)
/-! (*octet.Reader).U8 -/
theorem F158_eq (x0 : S192) : F158 x0 = (
  (F120 x0 1).bind fun y1 =>
  (F139 y1.1).bind fun y2 =>
  some ((wr .u8 y2), y1.2)
 : Option (Int × S192)) := (GoP_eq fd158 (tabH D h158) (x0)).trans (by kernel_rfl)
/-! comp.place -/
theorem F136_eq (x0 : S192) (x1 : Int) : F136 x0 x1 = (
  bif ((andE Go.IntKind.u16 x1 (1 : Int)) != 0) then
    (F71 x0).bind fun y1 =>
    (F71 y1.2).bind fun y2 =>
    some ((wr .i64 y1.1), ((wr .i64 y2.1), y2.2))
  else
  (F158 x0).bind fun y3 =>
  (F158 y3.2).bind fun y4 =>
  some ((wr .i64 (wr .i8 y3.1)), ((wr .i64 (wr .i8 y4.1)), y4.2))
 : Option (Int × Int × S192)) := (GoP_eq fd136 (tabH D h136) (x0, x1)).trans (by kernel_rfl)
/-! comp.turn -/
theorem F137_eq (x0 : S192) (x1 : Int) (x2 : S47) : F137 x0 x1 x2 = (
  bif ((andE Go.IntKind.u16 x1 (8 : Int)) != 0) then
    (F71 x0).bind fun y1 =>
    some (y1.2, (S47.mk x2.f0 x2.f1 x2.f2 (wr .i64 y1.1) x2.f4 x2.f5 (wr .i64 y1.1)))
  else
  bif ((andE Go.IntKind.u16 x1 (64 : Int)) != 0) then
    (F71 x0).bind fun y2 =>
    (F71 y2.2).bind fun y3 =>
    some (y3.2, (S47.mk x2.f0 x2.f1 x2.f2 (wr .i64 y2.1) x2.f4 x2.f5 (wr .i64 y3.1)))
  else
  bif ((andE Go.IntKind.u16 x1 (128 : Int)) != 0) then
    (F71 x0).bind fun y4 =>
    (F71 y4.2).bind fun y5 =>
    (F71 y5.2).bind fun y6 =>
    (F71 y6.2).bind fun y7 =>
    some (y7.2, (S47.mk x2.f0 x2.f1 x2.f2 (wr .i64 y4.1) (wr .i64 y5.1) (wr .i64 y6.1) (wr .i64 y7.1)))
  else
  some (x0, (S47.mk x2.f0 x2.f1 x2.f2 16384 x2.f4 x2.f5 16384))
 : Option (S192 × S47)) := (GoP_eq fd137 (tabH D h137) (x0, x1, x2)).trans (by kernel_rfl)
/-! comp.part -/
theorem F87_eq (x0 : S192) (x1 : Int) : F87 x0 x1 = (
  (F119 x0).bind fun y1 =>
  (F119 y1.2).bind fun y2 =>
  (F73 y2.2).bind fun y3 =>
  bif (y3.1 != 0) then
    some ((S47.mk 0 0 0 0 0 0 0), (false, (3, y3.2)))
  else
  (F135 y1.1).bind fun y4 =>
  bif (!y4) then
    some ((S47.mk 0 0 0 0 0 0 0), (false, (4, y3.2)))
  else
  bif (decide ((wr .i64 y2.1) ≥ x1)) then
    some ((S47.mk 0 0 0 0 0 0 0), (false, (4, y3.2)))
  else
  L87_0 y3.2 (S47.mk 0 0 0 0 0 0 0) y1.1 (wr .i64 y2.1)
 : Option (S47 × Bool × Int × S192)) := (GoP_eq fd87 (tabH D h87) (x0, x1)).trans (by kernel_rfl)
theorem L87_0_eq (x0 : S192) (x1 : S47) (x2 : Int) (x3 : Int) : L87_0 x0 x1 x2 x3 = (
  (F136 x0 x2).bind fun y1 =>
  (F137 y1.2.2 x2 (S47.mk x3 y1.1 y1.2.1 0 0 0 0)).bind fun y2 =>
  (F73 y2.1).bind fun y3 =>
  some (y2.2, (((andE Go.IntKind.u16 x2 (32 : Int)) != 0), (Prod.mk y3.1 y3.2)))
 : Option (S47 × Bool × Int × S192)) := (LiP_eq fd87 (tabH_nat h87) c87_0 (x0, x1, x2, x3, ())).trans (by kernel_rfl)
/-! comp.Parse -/
theorem F37_eq (x0 : ByteArray) (x1 : Int) : F37 x0 x1 = (
  bif (decide (x1 < 1)) then
    some ([], 1)
  else
  bif (decide (x1 > 1024)) then
    some ([], 1)
  else
  L37_0 x0 x1
 : Option (List S47 × Int)) := (GoP_eq fd37 (tabH D h37) (x0, x1)).trans (by kernel_rfl)
theorem L37_0_eq (x0 : ByteArray) (x1 : Int) : L37_0 x0 x1 = (
  bif (decide (((ByteArray.size x0) : Int) < 10)) then
    some ([], 3)
  else
  (F39 x0).bind fun y1 =>
  bif (!y1) then
    some ([], 4)
  else
  grd (decide (10 ≤ ((ByteArray.size x0) : Int))) <|
  (F70 (ByteArray.extract x0 10 (ByteArray.size x0))).bind fun y2 =>
  y2.bind fun y3 =>
  L37_1 x1 y3 []
 : Option (List S47 × Int)) := (LiP_eq fd37 (tabH_nat h37) c37_0 (x0, x1, ())).trans (by kernel_rfl)
theorem L37_1_eq (x0 : Int) (x1 : S192) (x2 : List S47) : L37_1 x0 x1 x2 = (
  bif ((x2.length : Int) == 64) then
    some ([], 6)
  else
  (F87 x1 x0).bind fun y1 =>
  bif (y1.2.2.1 != 0) then
    some ([], y1.2.2.1)
  else
  grd (fit (x2.length + [y1.1].length) 56) <|
  bif (!y1.2.1) then
    some ((x2 ++ [y1.1]), 0)
  else
  L37_1 x0 y1.2.2.2 (x2 ++ [y1.1])
 : Option (List S47 × Int)) := (LiP_eq fd37 (tabH_nat h37) c37_1 (x0, x1, x2, ())).trans (by kernel_rfl)
/-! (*octet.Reader).Skip -/
theorem F72_eq (x0 : S192) (x1 : Int) : F72 x0 x1 = (
  (F120 x0 x1).bind fun y1 =>
  some y1.2
 : Option (S192)) := (GoP_eq fd72 (tabH D h72) (x0, x1)).trans (by kernel_rfl)
/-! (*octet.Reader).Left -/
theorem F151_eq (x0 : S192) : F151 x0 = (
  some ((wr .i64 (((ByteArray.size x0.f0) : Int) - x0.f1)), x0)
 : Option (Int × S192)) := (GoP_eq fd151 (tabH D h151) (x0)).trans (by kernel_rfl)
/-! (*glyf.maker).places -/
theorem F121_eq (x0 : S132) (x1 : Int) : F121 x0 x1 = (
  x0.f0.bind fun y1 =>
  (F151 y1).bind fun y2 =>
  bif (decide (y2.1 < (wr .i64 (2 * x1)))) then
    some (3, (S132.mk (Option.some y2.2) x0.f1 x0.f2))
  else
  L121_0 (S132.mk (Option.some y2.2) x0.f1 x0.f2) (-1) x1 0
 : Option (Int × S132)) := (GoP_eq fd121 (tabH D h121) (x0, x1)).trans (by kernel_rfl)
theorem L121_0_eq (x0 : S132) (x1 : Int) (x2 : Int) (x3 : Int) : L121_0 x0 x1 x2 x3 = (
  match x0.f0 with
  | none =>
    bif (decide (x3 < x2)) then
      none
    else
    grd (decide (x1 ≥ 4096)) <|
    some (6, (S132.mk (Option.none) x0.f1 x0.f2))
  | some y1 =>
  bif (decide (x3 < x2)) then
    (F119 y1).bind fun y2 =>
    bif (decide ((wr .i64 y2.1) ≤ x1)) then
      some (4, (S132.mk (Option.some y2.2) x0.f1 x0.f2))
    else
    grd (fit (x0.f1.length + [(wr .i64 y2.1)].length) 8) <|
    L121_0 (S132.mk (Option.some y2.2) (x0.f1 ++ [(wr .i64 y2.1)]) x0.f2) (wr .i64 y2.1) x2 (wr .i64 (x3 + 1))
  else
  bif (decide (x1 ≥ 4096)) then
    some (6, (S132.mk (Option.some y1) x0.f1 x0.f2))
  else
  (F119 y1).bind fun y3 =>
  (F72 y3.2 (wr .i64 y3.1)).bind fun y4 =>
  (F73 y4).bind fun y5 =>
  some (y5.1, (S132.mk (Option.some y5.2) x0.f1 x0.f2))
 : Option (Int × S132)) := (LiP_eq fd121 (tabH_nat h121) c121_0 (x0, x1, x2, x3, ())).trans (by kernel_rfl)
/-! glyf.form -/
theorem F163_eq (x0 : Bool) : F163 x0 = (
  bif x0 then
    some 0
  else
  some 4
 : Option (Int)) := (GoP_eq fd163 (tabH D h163) (x0)).trans (by kernel_rfl)
/-! (*glyf.maker).flag -/
theorem F152_eq (x0 : S132) (x1 : Int) : F152 x0 x1 = (
  x0.f0.bind fun y1 =>
  (F158 y1).bind fun y2 =>
  (F73 y2.2).bind fun y3 =>
  bif (y3.1 != 0) then
    some (3, (S132.mk (Option.some y3.2) x0.f1 x0.f2))
  else
  bif ((andE Go.IntKind.u8 y2.1 (128 : Int)) != 0) then
    some (4, (S132.mk (Option.some y3.2) x0.f1 x0.f2))
  else
  grd (fit (x0.f2.length + [y2.1].length) 1) <|
  bif ((andE Go.IntKind.u8 y2.1 (8 : Int)) == 0) then
    some (0, (S132.mk (Option.some y3.2) x0.f1 (x0.f2 ++ [y2.1])))
  else
  (F158 y3.2).bind fun y4 =>
  L152_0 (S132.mk (Option.some y4.2) x0.f1 (x0.f2 ++ [y2.1])) x1 y2.1 y4.1 0
 : Option (Int × S132)) := (GoP_eq fd152 (tabH D h152) (x0, x1)).trans (by kernel_rfl)
theorem L152_0_eq (x0 : S132) (x1 : Int) (x2 : Int) (x3 : Int) (x4 : Int) : L152_0 x0 x1 x2 x3 x4 = (
  match x0.f0 with
  | none =>
    grd (decide (x4 < x3)) <|
    grd (fit (x0.f2.length + [x2].length) 1) <|
    L152_0 (S132.mk (Option.none) x0.f1 (x0.f2 ++ [x2])) x1 x2 x3 (wr .u8 (x4 + 1))
  | some y1 =>
  bif (decide (x4 < x3)) then
    grd (fit (x0.f2.length + [x2].length) 1) <|
    L152_0 (S132.mk (Option.some y1) x0.f1 (x0.f2 ++ [x2])) x1 x2 x3 (wr .u8 (x4 + 1))
  else
  (F73 y1).bind fun y2 =>
  bif (y2.1 != 0) then
    some (y2.1, (S132.mk (Option.some y2.2) x0.f1 x0.f2))
  else
  (F163 (decide ((x0.f2.length : Int) ≤ x1))).bind fun y3 =>
  some (y3, (S132.mk (Option.some y2.2) x0.f1 x0.f2))
 : Option (Int × S132)) := (LiP_eq fd152 (tabH_nat h152) c152_0 (x0, x1, x2, x3, x4, ())).trans (by kernel_rfl)
/-! (*glyf.maker).allFlags -/
theorem F122_eq (x0 : S132) (x1 : Int) : F122 x0 x1 = (
  match x0.f0 with
  | none =>
    L122_0 (S132.mk (Option.none) x0.f1 x0.f2) x1
  | some y1 =>
  L122_0 (S132.mk (Option.some y1) x0.f1 x0.f2) x1
 : Option (Int × S132)) := (GoP_eq fd122 (tabH D h122) (x0, x1)).trans (by kernel_rfl)
theorem L122_0_eq (x0 : S132) (x1 : Int) : L122_0 x0 x1 = (
  match x0.f0 with
  | none =>
    bif (decide ((x0.f2.length : Int) < x1)) then
      (F152 (S132.mk (Option.none) x0.f1 x0.f2) x1).bind fun y4 =>
      match y4.2.f0 with
      | none =>
        bif (y4.1 != 0) then
          some (y4.1, (S132.mk (Option.none) y4.2.f1 y4.2.f2))
        else
        L122_0 (S132.mk (Option.none) y4.2.f1 y4.2.f2) x1
      | some y5 =>
      bif (y4.1 != 0) then
        some (y4.1, (S132.mk (Option.some y5) y4.2.f1 y4.2.f2))
      else
      L122_0 (S132.mk (Option.some y5) y4.2.f1 y4.2.f2) x1
    else
    some (0, (S132.mk (Option.none) x0.f1 x0.f2))
  | some y1 =>
  bif (decide ((x0.f2.length : Int) < x1)) then
    (F152 (S132.mk (Option.some y1) x0.f1 x0.f2) x1).bind fun y2 =>
    match y2.2.f0 with
    | none =>
      bif (y2.1 != 0) then
        some (y2.1, (S132.mk (Option.none) y2.2.f1 y2.2.f2))
      else
      L122_0 (S132.mk (Option.none) y2.2.f1 y2.2.f2) x1
    | some y3 =>
    bif (y2.1 != 0) then
      some (y2.1, (S132.mk (Option.some y3) y2.2.f1 y2.2.f2))
    else
    L122_0 (S132.mk (Option.some y3) y2.2.f1 y2.2.f2) x1
  else
  some (0, (S132.mk (Option.some y1) x0.f1 x0.f2))
 : Option (Int × S132)) := (LiP_eq fd122 (tabH_nat h122) c122_0 (x0, x1, ())).trans (by kernel_rfl)
/-! (*glyf.maker).step -/
theorem F153_eq (x0 : S132) (x1 : Bool) (x2 : Bool) : F153 x0 x1 x2 = (
  match x0.f0 with
  | none =>
    bif x1 then
      bif x2 then
        L153_0 (S132.mk (Option.none) x0.f1 x0.f2)
      else
      L153_1 (S132.mk (Option.none) x0.f1 x0.f2) x1 x2
    else
    L153_1 (S132.mk (Option.none) x0.f1 x0.f2) x1 x2
  | some y1 =>
  bif x1 then
    bif x2 then
      L153_0 (S132.mk (Option.some y1) x0.f1 x0.f2)
    else
    L153_1 (S132.mk (Option.some y1) x0.f1 x0.f2) x1 x2
  else
  L153_1 (S132.mk (Option.some y1) x0.f1 x0.f2) x1 x2
 : Option (Int × S132)) := (GoP_eq fd153 (tabH D h153) (x0, x1, x2)).trans (by kernel_rfl)
theorem L153_0_eq (x0 : S132) : L153_0 x0 = (
  x0.f0.bind fun y1 =>
  (F158 y1).bind fun y2 =>
  some ((wr .i64 y2.1), (S132.mk (Option.some y2.2) x0.f1 x0.f2))
 : Option (Int × S132)) := (LiP_eq fd153 (tabH_nat h153) c153_0 (x0, ())).trans (by kernel_rfl)
theorem L153_1_eq (x0 : S132) (x1 : Bool) (x2 : Bool) : L153_1 x0 x1 x2 = (
  match x0.f0 with
  | none =>
    bif x1 then
      none
    else
    grd x2 <|
    some (0, (S132.mk (Option.none) x0.f1 x0.f2))
  | some y1 =>
  bif x1 then
    (F158 y1).bind fun y2 =>
    some ((wr .i64 (0 - (wr .i64 y2.1))), (S132.mk (Option.some y2.2) x0.f1 x0.f2))
  else
  bif x2 then
    some (0, (S132.mk (Option.some y1) x0.f1 x0.f2))
  else
  (F71 y1).bind fun y3 =>
  some ((wr .i64 y3.1), (S132.mk (Option.some y3.2) x0.f1 x0.f2))
 : Option (Int × S132)) := (LiP_eq fd153 (tabH_nat h153) c153_1 (x0, x1, x2, ())).trans (by kernel_rfl)
/-! (*glyf.maker).along -/
theorem F123_eq (x0 : S132) (x1 : Int) (x2 : Int) : F123 x0 x1 x2 = (
  match x0.f0 with
  | none =>
    grd (decide ((x0.f2.length : Int) ≤ (x0.f2.length : Int))) <|
    grd (fitM (Int.toNat (x0.f2.length : Int)) 8) <|
    L123_0 (S132.mk (Option.none) x0.f1 x0.f2) x1 x2 (List.replicate (Int.toNat (x0.f2.length : Int)) (0 : Int)) 0 x0.f2 (x0.f2.length : Int) 0
  | some y1 =>
  grd (decide ((x0.f2.length : Int) ≤ (x0.f2.length : Int))) <|
  grd (fitM (Int.toNat (x0.f2.length : Int)) 8) <|
  L123_0 (S132.mk (Option.some y1) x0.f1 x0.f2) x1 x2 (List.replicate (Int.toNat (x0.f2.length : Int)) (0 : Int)) 0 x0.f2 (x0.f2.length : Int) 0
 : Option (List Int × Int × S132)) := (GoP_eq fd123 (tabH D h123) (x0, x1, x2)).trans (by kernel_rfl)
theorem L123_0_eq (x0 : S132) (x1 : Int) (x2 : Int) (x3 : List Int) (x4 : Int) (x5 : List Int) (x6 : Int) (x7 : Int) : L123_0 x0 x1 x2 x3 x4 x5 x6 x7 = (
  match x0.f0 with
  | none =>
    bif (decide (x7 < x6)) then
      grd (decide (0 ≤ x7)) <|
      grd (decide (x7 < (x5.length : Int))) <|
      (F153 (S132.mk (Option.none) x0.f1 x0.f2) ((andE Go.IntKind.u8 (x5.getD (Int.toNat x7) 0) x1) != 0) ((andE Go.IntKind.u8 (x5.getD (Int.toNat x7) 0) x2) != 0)).bind fun y5 =>
      y5.2.f0.bind fun y6 =>
      (F73 y6).bind fun y7 =>
      bif (y7.1 != 0) then
        some ([], (3, (S132.mk (Option.some y7.2) y5.2.f1 y5.2.f2)))
      else
      bif (decide ((mxE (wr .i64 (x4 + y5.1)) (wr .i64 (0 - (wr .i64 (x4 + y5.1))))) > 32767)) then
        some ([], (2, (S132.mk (Option.some y7.2) y5.2.f1 y5.2.f2)))
      else
      grd (decide (0 ≤ x7)) <|
      grd (decide (x7 < (x3.length : Int))) <|
      L123_0 (S132.mk (Option.some y7.2) y5.2.f1 y5.2.f2) x1 x2 (List.set x3 (Int.toNat x7) (wr .i64 (x4 + y5.1))) (wr .i64 (x4 + y5.1)) x5 x6 (wr .i64 (x7 + 1))
    else
    some (x3, (0, (S132.mk (Option.none) x0.f1 x0.f2)))
  | some y1 =>
  bif (decide (x7 < x6)) then
    grd (decide (0 ≤ x7)) <|
    grd (decide (x7 < (x5.length : Int))) <|
    (F153 (S132.mk (Option.some y1) x0.f1 x0.f2) ((andE Go.IntKind.u8 (x5.getD (Int.toNat x7) 0) x1) != 0) ((andE Go.IntKind.u8 (x5.getD (Int.toNat x7) 0) x2) != 0)).bind fun y2 =>
    y2.2.f0.bind fun y3 =>
    (F73 y3).bind fun y4 =>
    bif (y4.1 != 0) then
      some ([], (3, (S132.mk (Option.some y4.2) y2.2.f1 y2.2.f2)))
    else
    bif (decide ((mxE (wr .i64 (x4 + y2.1)) (wr .i64 (0 - (wr .i64 (x4 + y2.1))))) > 32767)) then
      some ([], (2, (S132.mk (Option.some y4.2) y2.2.f1 y2.2.f2)))
    else
    grd (decide (0 ≤ x7)) <|
    grd (decide (x7 < (x3.length : Int))) <|
    L123_0 (S132.mk (Option.some y4.2) y2.2.f1 y2.2.f2) x1 x2 (List.set x3 (Int.toNat x7) (wr .i64 (x4 + y2.1))) (wr .i64 (x4 + y2.1)) x5 x6 (wr .i64 (x7 + 1))
  else
  some (x3, (0, (S132.mk (Option.some y1) x0.f1 x0.f2)))
 : Option (List Int × Int × S132)) := (LiP_eq fd123 (tabH_nat h123) c123_0 (x0, x1, x2, x3, x4, x5, x6, x7, ())).trans (by kernel_rfl)
/-! (*glyf.maker).contours -/
theorem F124_eq (x0 : S132) (x1 : List Int) (x2 : List Int) : F124 x0 x1 x2 = (
  match x0.f0 with
  | none =>
    L124_0 (S132.mk (Option.none) x0.f1 x0.f2) x1 x2 [] 0 x0.f1 (x0.f1.length : Int) 0
  | some y1 =>
  L124_0 (S132.mk (Option.some y1) x0.f1 x0.f2) x1 x2 [] 0 x0.f1 (x0.f1.length : Int) 0
 : Option (List (List S39) × S132)) := (GoP_eq fd124 (tabH D h124) (x0, x1, x2)).trans (by kernel_rfl)
theorem L124_0_eq (x0 : S132) (x1 : List Int) (x2 : List Int) (x3 : List (List S39)) (x4 : Int) (x5 : List Int) (x6 : Int) (x7 : Int) : L124_0 x0 x1 x2 x3 x4 x5 x6 x7 = (
  match x0.f0 with
  | none =>
    bif (decide (x7 < x6)) then
      grd (decide (0 ≤ x7)) <|
      grd (decide (x7 < (x5.length : Int))) <|
      L124_1 (S132.mk (Option.none) x0.f1 x0.f2) x1 x2 x3 (x5.getD (Int.toNat x7) 0) [] x4 x5 x6 x7
    else
    some (x3, (S132.mk (Option.none) x0.f1 x0.f2))
  | some y1 =>
  bif (decide (x7 < x6)) then
    grd (decide (0 ≤ x7)) <|
    grd (decide (x7 < (x5.length : Int))) <|
    L124_1 (S132.mk (Option.some y1) x0.f1 x0.f2) x1 x2 x3 (x5.getD (Int.toNat x7) 0) [] x4 x5 x6 x7
  else
  some (x3, (S132.mk (Option.some y1) x0.f1 x0.f2))
 : Option (List (List S39) × S132)) := (LiP_eq fd124 (tabH_nat h124) c124_0 (x0, x1, x2, x3, x4, x5, x6, x7, ())).trans (by kernel_rfl)
theorem L124_1_eq (x0 : S132) (x1 : List Int) (x2 : List Int) (x3 : List (List S39)) (x4 : Int) (x5 : List S39) (x6 : Int) (x7 : List Int) (x8 : Int) (x9 : Int) : L124_1 x0 x1 x2 x3 x4 x5 x6 x7 x8 x9 = (
  match x0.f0 with
  | none =>
    bif (decide (x6 ≤ x4)) then
      grd (decide (0 ≤ x6)) <|
      grd (decide (x6 < (x1.length : Int))) <|
      grd (decide (0 ≤ x6)) <|
      grd (decide (x6 < (x2.length : Int))) <|
      grd (decide (0 ≤ x6)) <|
      grd (decide (x6 < (x0.f2.length : Int))) <|
      grd (fit (x5.length + [(S39.mk (x1.getD (Int.toNat x6) 0) (x2.getD (Int.toNat x6) 0) ((andE Go.IntKind.u8 (x0.f2.getD (Int.toNat x6) 0) (1 : Int)) != 0))].length) 24) <|
      L124_1 (S132.mk (Option.none) x0.f1 x0.f2) x1 x2 x3 x4 (x5 ++ [(S39.mk (x1.getD (Int.toNat x6) 0) (x2.getD (Int.toNat x6) 0) ((andE Go.IntKind.u8 (x0.f2.getD (Int.toNat x6) 0) (1 : Int)) != 0))]) (wr .i64 (x6 + 1)) x7 x8 x9
    else
    grd (fit (x3.length + [x5].length) 24) <|
    L124_0 (S132.mk (Option.none) x0.f1 x0.f2) x1 x2 (x3 ++ [x5]) (wr .i64 (x4 + 1)) x7 x8 (wr .i64 (x9 + 1))
  | some y1 =>
  bif (decide (x6 ≤ x4)) then
    grd (decide (0 ≤ x6)) <|
    grd (decide (x6 < (x1.length : Int))) <|
    grd (decide (0 ≤ x6)) <|
    grd (decide (x6 < (x2.length : Int))) <|
    grd (decide (0 ≤ x6)) <|
    grd (decide (x6 < (x0.f2.length : Int))) <|
    grd (fit (x5.length + [(S39.mk (x1.getD (Int.toNat x6) 0) (x2.getD (Int.toNat x6) 0) ((andE Go.IntKind.u8 (x0.f2.getD (Int.toNat x6) 0) (1 : Int)) != 0))].length) 24) <|
    L124_1 (S132.mk (Option.some y1) x0.f1 x0.f2) x1 x2 x3 x4 (x5 ++ [(S39.mk (x1.getD (Int.toNat x6) 0) (x2.getD (Int.toNat x6) 0) ((andE Go.IntKind.u8 (x0.f2.getD (Int.toNat x6) 0) (1 : Int)) != 0))]) (wr .i64 (x6 + 1)) x7 x8 x9
  else
  grd (fit (x3.length + [x5].length) 24) <|
  L124_0 (S132.mk (Option.some y1) x0.f1 x0.f2) x1 x2 (x3 ++ [x5]) (wr .i64 (x4 + 1)) x7 x8 (wr .i64 (x9 + 1))
 : Option (List (List S39) × S132)) := (LiP_eq fd124 (tabH_nat h124) c124_1 (x0, x1, x2, x3, x4, x5, x6, x7, x8, x9, ())).trans (by kernel_rfl)
/-! (*glyf.maker).points -/
theorem F74_eq (x0 : S132) (x1 : Int) : F74 x0 x1 = (
  match x0.f0 with
  | none =>
    (F121 (S132.mk (Option.none) x0.f1 x0.f2) x1).bind fun y64 =>
    match y64.2.f0 with
    | none =>
      bif (y64.1 != 0) then
        some ([], (y64.1, (S132.mk (Option.none) y64.2.f1 y64.2.f2)))
      else
      grd (decide (0 ≤ (wr .i64 (x1 - 1)))) <|
      grd (decide ((wr .i64 (x1 - 1)) < (y64.2.f1.length : Int))) <|
      (F122 (S132.mk (Option.none) y64.2.f1 y64.2.f2) (wr .i64 ((y64.2.f1.getD (Int.toNat (wr .i64 (x1 - 1))) 0) + 1))).bind fun y96 =>
      match y96.2.f0 with
      | none =>
        bif (y96.1 != 0) then
          some ([], (y96.1, (S132.mk (Option.none) y96.2.f1 y96.2.f2)))
        else
        (F123 (S132.mk (Option.none) y96.2.f1 y96.2.f2) 2 16).bind fun y112 =>
        match y112.2.2.f0 with
        | none =>
          bif (y112.2.1 != 0) then
            some ([], (y112.2.1, (S132.mk (Option.none) y112.2.2.f1 y112.2.2.f2)))
          else
          (F123 (S132.mk (Option.none) y112.2.2.f1 y112.2.2.f2) 4 32).bind fun y120 =>
          match y120.2.2.f0 with
          | none =>
            bif (y120.2.1 != 0) then
              some ([], (y120.2.1, (S132.mk (Option.none) y120.2.2.f1 y120.2.2.f2)))
            else
            (F124 (S132.mk (Option.none) y120.2.2.f1 y120.2.2.f2) y112.1 y120.1).bind fun y124 =>
            match y124.2.f0 with
            | none =>
              some (y124.1, (0, (S132.mk (Option.none) y124.2.f1 y124.2.f2)))
            | some y125 =>
            some (y124.1, (0, (S132.mk (Option.some y125) y124.2.f1 y124.2.f2)))
          | some y121 =>
          bif (y120.2.1 != 0) then
            some ([], (y120.2.1, (S132.mk (Option.some y121) y120.2.2.f1 y120.2.2.f2)))
          else
          (F124 (S132.mk (Option.some y121) y120.2.2.f1 y120.2.2.f2) y112.1 y120.1).bind fun y122 =>
          match y122.2.f0 with
          | none =>
            some (y122.1, (0, (S132.mk (Option.none) y122.2.f1 y122.2.f2)))
          | some y123 =>
          some (y122.1, (0, (S132.mk (Option.some y123) y122.2.f1 y122.2.f2)))
        | some y113 =>
        bif (y112.2.1 != 0) then
          some ([], (y112.2.1, (S132.mk (Option.some y113) y112.2.2.f1 y112.2.2.f2)))
        else
        (F123 (S132.mk (Option.some y113) y112.2.2.f1 y112.2.2.f2) 4 32).bind fun y114 =>
        match y114.2.2.f0 with
        | none =>
          bif (y114.2.1 != 0) then
            some ([], (y114.2.1, (S132.mk (Option.none) y114.2.2.f1 y114.2.2.f2)))
          else
          (F124 (S132.mk (Option.none) y114.2.2.f1 y114.2.2.f2) y112.1 y114.1).bind fun y118 =>
          match y118.2.f0 with
          | none =>
            some (y118.1, (0, (S132.mk (Option.none) y118.2.f1 y118.2.f2)))
          | some y119 =>
          some (y118.1, (0, (S132.mk (Option.some y119) y118.2.f1 y118.2.f2)))
        | some y115 =>
        bif (y114.2.1 != 0) then
          some ([], (y114.2.1, (S132.mk (Option.some y115) y114.2.2.f1 y114.2.2.f2)))
        else
        (F124 (S132.mk (Option.some y115) y114.2.2.f1 y114.2.2.f2) y112.1 y114.1).bind fun y116 =>
        match y116.2.f0 with
        | none =>
          some (y116.1, (0, (S132.mk (Option.none) y116.2.f1 y116.2.f2)))
        | some y117 =>
        some (y116.1, (0, (S132.mk (Option.some y117) y116.2.f1 y116.2.f2)))
      | some y97 =>
      bif (y96.1 != 0) then
        some ([], (y96.1, (S132.mk (Option.some y97) y96.2.f1 y96.2.f2)))
      else
      (F123 (S132.mk (Option.some y97) y96.2.f1 y96.2.f2) 2 16).bind fun y98 =>
      match y98.2.2.f0 with
      | none =>
        bif (y98.2.1 != 0) then
          some ([], (y98.2.1, (S132.mk (Option.none) y98.2.2.f1 y98.2.2.f2)))
        else
        (F123 (S132.mk (Option.none) y98.2.2.f1 y98.2.2.f2) 4 32).bind fun y106 =>
        match y106.2.2.f0 with
        | none =>
          bif (y106.2.1 != 0) then
            some ([], (y106.2.1, (S132.mk (Option.none) y106.2.2.f1 y106.2.2.f2)))
          else
          (F124 (S132.mk (Option.none) y106.2.2.f1 y106.2.2.f2) y98.1 y106.1).bind fun y110 =>
          match y110.2.f0 with
          | none =>
            some (y110.1, (0, (S132.mk (Option.none) y110.2.f1 y110.2.f2)))
          | some y111 =>
          some (y110.1, (0, (S132.mk (Option.some y111) y110.2.f1 y110.2.f2)))
        | some y107 =>
        bif (y106.2.1 != 0) then
          some ([], (y106.2.1, (S132.mk (Option.some y107) y106.2.2.f1 y106.2.2.f2)))
        else
        (F124 (S132.mk (Option.some y107) y106.2.2.f1 y106.2.2.f2) y98.1 y106.1).bind fun y108 =>
        match y108.2.f0 with
        | none =>
          some (y108.1, (0, (S132.mk (Option.none) y108.2.f1 y108.2.f2)))
        | some y109 =>
        some (y108.1, (0, (S132.mk (Option.some y109) y108.2.f1 y108.2.f2)))
      | some y99 =>
      bif (y98.2.1 != 0) then
        some ([], (y98.2.1, (S132.mk (Option.some y99) y98.2.2.f1 y98.2.2.f2)))
      else
      (F123 (S132.mk (Option.some y99) y98.2.2.f1 y98.2.2.f2) 4 32).bind fun y100 =>
      match y100.2.2.f0 with
      | none =>
        bif (y100.2.1 != 0) then
          some ([], (y100.2.1, (S132.mk (Option.none) y100.2.2.f1 y100.2.2.f2)))
        else
        (F124 (S132.mk (Option.none) y100.2.2.f1 y100.2.2.f2) y98.1 y100.1).bind fun y104 =>
        match y104.2.f0 with
        | none =>
          some (y104.1, (0, (S132.mk (Option.none) y104.2.f1 y104.2.f2)))
        | some y105 =>
        some (y104.1, (0, (S132.mk (Option.some y105) y104.2.f1 y104.2.f2)))
      | some y101 =>
      bif (y100.2.1 != 0) then
        some ([], (y100.2.1, (S132.mk (Option.some y101) y100.2.2.f1 y100.2.2.f2)))
      else
      (F124 (S132.mk (Option.some y101) y100.2.2.f1 y100.2.2.f2) y98.1 y100.1).bind fun y102 =>
      match y102.2.f0 with
      | none =>
        some (y102.1, (0, (S132.mk (Option.none) y102.2.f1 y102.2.f2)))
      | some y103 =>
      some (y102.1, (0, (S132.mk (Option.some y103) y102.2.f1 y102.2.f2)))
    | some y65 =>
    bif (y64.1 != 0) then
      some ([], (y64.1, (S132.mk (Option.some y65) y64.2.f1 y64.2.f2)))
    else
    grd (decide (0 ≤ (wr .i64 (x1 - 1)))) <|
    grd (decide ((wr .i64 (x1 - 1)) < (y64.2.f1.length : Int))) <|
    (F122 (S132.mk (Option.some y65) y64.2.f1 y64.2.f2) (wr .i64 ((y64.2.f1.getD (Int.toNat (wr .i64 (x1 - 1))) 0) + 1))).bind fun y66 =>
    match y66.2.f0 with
    | none =>
      bif (y66.1 != 0) then
        some ([], (y66.1, (S132.mk (Option.none) y66.2.f1 y66.2.f2)))
      else
      (F123 (S132.mk (Option.none) y66.2.f1 y66.2.f2) 2 16).bind fun y82 =>
      match y82.2.2.f0 with
      | none =>
        bif (y82.2.1 != 0) then
          some ([], (y82.2.1, (S132.mk (Option.none) y82.2.2.f1 y82.2.2.f2)))
        else
        (F123 (S132.mk (Option.none) y82.2.2.f1 y82.2.2.f2) 4 32).bind fun y90 =>
        match y90.2.2.f0 with
        | none =>
          bif (y90.2.1 != 0) then
            some ([], (y90.2.1, (S132.mk (Option.none) y90.2.2.f1 y90.2.2.f2)))
          else
          (F124 (S132.mk (Option.none) y90.2.2.f1 y90.2.2.f2) y82.1 y90.1).bind fun y94 =>
          match y94.2.f0 with
          | none =>
            some (y94.1, (0, (S132.mk (Option.none) y94.2.f1 y94.2.f2)))
          | some y95 =>
          some (y94.1, (0, (S132.mk (Option.some y95) y94.2.f1 y94.2.f2)))
        | some y91 =>
        bif (y90.2.1 != 0) then
          some ([], (y90.2.1, (S132.mk (Option.some y91) y90.2.2.f1 y90.2.2.f2)))
        else
        (F124 (S132.mk (Option.some y91) y90.2.2.f1 y90.2.2.f2) y82.1 y90.1).bind fun y92 =>
        match y92.2.f0 with
        | none =>
          some (y92.1, (0, (S132.mk (Option.none) y92.2.f1 y92.2.f2)))
        | some y93 =>
        some (y92.1, (0, (S132.mk (Option.some y93) y92.2.f1 y92.2.f2)))
      | some y83 =>
      bif (y82.2.1 != 0) then
        some ([], (y82.2.1, (S132.mk (Option.some y83) y82.2.2.f1 y82.2.2.f2)))
      else
      (F123 (S132.mk (Option.some y83) y82.2.2.f1 y82.2.2.f2) 4 32).bind fun y84 =>
      match y84.2.2.f0 with
      | none =>
        bif (y84.2.1 != 0) then
          some ([], (y84.2.1, (S132.mk (Option.none) y84.2.2.f1 y84.2.2.f2)))
        else
        (F124 (S132.mk (Option.none) y84.2.2.f1 y84.2.2.f2) y82.1 y84.1).bind fun y88 =>
        match y88.2.f0 with
        | none =>
          some (y88.1, (0, (S132.mk (Option.none) y88.2.f1 y88.2.f2)))
        | some y89 =>
        some (y88.1, (0, (S132.mk (Option.some y89) y88.2.f1 y88.2.f2)))
      | some y85 =>
      bif (y84.2.1 != 0) then
        some ([], (y84.2.1, (S132.mk (Option.some y85) y84.2.2.f1 y84.2.2.f2)))
      else
      (F124 (S132.mk (Option.some y85) y84.2.2.f1 y84.2.2.f2) y82.1 y84.1).bind fun y86 =>
      match y86.2.f0 with
      | none =>
        some (y86.1, (0, (S132.mk (Option.none) y86.2.f1 y86.2.f2)))
      | some y87 =>
      some (y86.1, (0, (S132.mk (Option.some y87) y86.2.f1 y86.2.f2)))
    | some y67 =>
    bif (y66.1 != 0) then
      some ([], (y66.1, (S132.mk (Option.some y67) y66.2.f1 y66.2.f2)))
    else
    (F123 (S132.mk (Option.some y67) y66.2.f1 y66.2.f2) 2 16).bind fun y68 =>
    match y68.2.2.f0 with
    | none =>
      bif (y68.2.1 != 0) then
        some ([], (y68.2.1, (S132.mk (Option.none) y68.2.2.f1 y68.2.2.f2)))
      else
      (F123 (S132.mk (Option.none) y68.2.2.f1 y68.2.2.f2) 4 32).bind fun y76 =>
      match y76.2.2.f0 with
      | none =>
        bif (y76.2.1 != 0) then
          some ([], (y76.2.1, (S132.mk (Option.none) y76.2.2.f1 y76.2.2.f2)))
        else
        (F124 (S132.mk (Option.none) y76.2.2.f1 y76.2.2.f2) y68.1 y76.1).bind fun y80 =>
        match y80.2.f0 with
        | none =>
          some (y80.1, (0, (S132.mk (Option.none) y80.2.f1 y80.2.f2)))
        | some y81 =>
        some (y80.1, (0, (S132.mk (Option.some y81) y80.2.f1 y80.2.f2)))
      | some y77 =>
      bif (y76.2.1 != 0) then
        some ([], (y76.2.1, (S132.mk (Option.some y77) y76.2.2.f1 y76.2.2.f2)))
      else
      (F124 (S132.mk (Option.some y77) y76.2.2.f1 y76.2.2.f2) y68.1 y76.1).bind fun y78 =>
      match y78.2.f0 with
      | none =>
        some (y78.1, (0, (S132.mk (Option.none) y78.2.f1 y78.2.f2)))
      | some y79 =>
      some (y78.1, (0, (S132.mk (Option.some y79) y78.2.f1 y78.2.f2)))
    | some y69 =>
    bif (y68.2.1 != 0) then
      some ([], (y68.2.1, (S132.mk (Option.some y69) y68.2.2.f1 y68.2.2.f2)))
    else
    (F123 (S132.mk (Option.some y69) y68.2.2.f1 y68.2.2.f2) 4 32).bind fun y70 =>
    match y70.2.2.f0 with
    | none =>
      bif (y70.2.1 != 0) then
        some ([], (y70.2.1, (S132.mk (Option.none) y70.2.2.f1 y70.2.2.f2)))
      else
      (F124 (S132.mk (Option.none) y70.2.2.f1 y70.2.2.f2) y68.1 y70.1).bind fun y74 =>
      match y74.2.f0 with
      | none =>
        some (y74.1, (0, (S132.mk (Option.none) y74.2.f1 y74.2.f2)))
      | some y75 =>
      some (y74.1, (0, (S132.mk (Option.some y75) y74.2.f1 y74.2.f2)))
    | some y71 =>
    bif (y70.2.1 != 0) then
      some ([], (y70.2.1, (S132.mk (Option.some y71) y70.2.2.f1 y70.2.2.f2)))
    else
    (F124 (S132.mk (Option.some y71) y70.2.2.f1 y70.2.2.f2) y68.1 y70.1).bind fun y72 =>
    match y72.2.f0 with
    | none =>
      some (y72.1, (0, (S132.mk (Option.none) y72.2.f1 y72.2.f2)))
    | some y73 =>
    some (y72.1, (0, (S132.mk (Option.some y73) y72.2.f1 y72.2.f2)))
  | some y1 =>
  (F121 (S132.mk (Option.some y1) x0.f1 x0.f2) x1).bind fun y2 =>
  match y2.2.f0 with
  | none =>
    bif (y2.1 != 0) then
      some ([], (y2.1, (S132.mk (Option.none) y2.2.f1 y2.2.f2)))
    else
    grd (decide (0 ≤ (wr .i64 (x1 - 1)))) <|
    grd (decide ((wr .i64 (x1 - 1)) < (y2.2.f1.length : Int))) <|
    (F122 (S132.mk (Option.none) y2.2.f1 y2.2.f2) (wr .i64 ((y2.2.f1.getD (Int.toNat (wr .i64 (x1 - 1))) 0) + 1))).bind fun y34 =>
    match y34.2.f0 with
    | none =>
      bif (y34.1 != 0) then
        some ([], (y34.1, (S132.mk (Option.none) y34.2.f1 y34.2.f2)))
      else
      (F123 (S132.mk (Option.none) y34.2.f1 y34.2.f2) 2 16).bind fun y50 =>
      match y50.2.2.f0 with
      | none =>
        bif (y50.2.1 != 0) then
          some ([], (y50.2.1, (S132.mk (Option.none) y50.2.2.f1 y50.2.2.f2)))
        else
        (F123 (S132.mk (Option.none) y50.2.2.f1 y50.2.2.f2) 4 32).bind fun y58 =>
        match y58.2.2.f0 with
        | none =>
          bif (y58.2.1 != 0) then
            some ([], (y58.2.1, (S132.mk (Option.none) y58.2.2.f1 y58.2.2.f2)))
          else
          (F124 (S132.mk (Option.none) y58.2.2.f1 y58.2.2.f2) y50.1 y58.1).bind fun y62 =>
          match y62.2.f0 with
          | none =>
            some (y62.1, (0, (S132.mk (Option.none) y62.2.f1 y62.2.f2)))
          | some y63 =>
          some (y62.1, (0, (S132.mk (Option.some y63) y62.2.f1 y62.2.f2)))
        | some y59 =>
        bif (y58.2.1 != 0) then
          some ([], (y58.2.1, (S132.mk (Option.some y59) y58.2.2.f1 y58.2.2.f2)))
        else
        (F124 (S132.mk (Option.some y59) y58.2.2.f1 y58.2.2.f2) y50.1 y58.1).bind fun y60 =>
        match y60.2.f0 with
        | none =>
          some (y60.1, (0, (S132.mk (Option.none) y60.2.f1 y60.2.f2)))
        | some y61 =>
        some (y60.1, (0, (S132.mk (Option.some y61) y60.2.f1 y60.2.f2)))
      | some y51 =>
      bif (y50.2.1 != 0) then
        some ([], (y50.2.1, (S132.mk (Option.some y51) y50.2.2.f1 y50.2.2.f2)))
      else
      (F123 (S132.mk (Option.some y51) y50.2.2.f1 y50.2.2.f2) 4 32).bind fun y52 =>
      match y52.2.2.f0 with
      | none =>
        bif (y52.2.1 != 0) then
          some ([], (y52.2.1, (S132.mk (Option.none) y52.2.2.f1 y52.2.2.f2)))
        else
        (F124 (S132.mk (Option.none) y52.2.2.f1 y52.2.2.f2) y50.1 y52.1).bind fun y56 =>
        match y56.2.f0 with
        | none =>
          some (y56.1, (0, (S132.mk (Option.none) y56.2.f1 y56.2.f2)))
        | some y57 =>
        some (y56.1, (0, (S132.mk (Option.some y57) y56.2.f1 y56.2.f2)))
      | some y53 =>
      bif (y52.2.1 != 0) then
        some ([], (y52.2.1, (S132.mk (Option.some y53) y52.2.2.f1 y52.2.2.f2)))
      else
      (F124 (S132.mk (Option.some y53) y52.2.2.f1 y52.2.2.f2) y50.1 y52.1).bind fun y54 =>
      match y54.2.f0 with
      | none =>
        some (y54.1, (0, (S132.mk (Option.none) y54.2.f1 y54.2.f2)))
      | some y55 =>
      some (y54.1, (0, (S132.mk (Option.some y55) y54.2.f1 y54.2.f2)))
    | some y35 =>
    bif (y34.1 != 0) then
      some ([], (y34.1, (S132.mk (Option.some y35) y34.2.f1 y34.2.f2)))
    else
    (F123 (S132.mk (Option.some y35) y34.2.f1 y34.2.f2) 2 16).bind fun y36 =>
    match y36.2.2.f0 with
    | none =>
      bif (y36.2.1 != 0) then
        some ([], (y36.2.1, (S132.mk (Option.none) y36.2.2.f1 y36.2.2.f2)))
      else
      (F123 (S132.mk (Option.none) y36.2.2.f1 y36.2.2.f2) 4 32).bind fun y44 =>
      match y44.2.2.f0 with
      | none =>
        bif (y44.2.1 != 0) then
          some ([], (y44.2.1, (S132.mk (Option.none) y44.2.2.f1 y44.2.2.f2)))
        else
        (F124 (S132.mk (Option.none) y44.2.2.f1 y44.2.2.f2) y36.1 y44.1).bind fun y48 =>
        match y48.2.f0 with
        | none =>
          some (y48.1, (0, (S132.mk (Option.none) y48.2.f1 y48.2.f2)))
        | some y49 =>
        some (y48.1, (0, (S132.mk (Option.some y49) y48.2.f1 y48.2.f2)))
      | some y45 =>
      bif (y44.2.1 != 0) then
        some ([], (y44.2.1, (S132.mk (Option.some y45) y44.2.2.f1 y44.2.2.f2)))
      else
      (F124 (S132.mk (Option.some y45) y44.2.2.f1 y44.2.2.f2) y36.1 y44.1).bind fun y46 =>
      match y46.2.f0 with
      | none =>
        some (y46.1, (0, (S132.mk (Option.none) y46.2.f1 y46.2.f2)))
      | some y47 =>
      some (y46.1, (0, (S132.mk (Option.some y47) y46.2.f1 y46.2.f2)))
    | some y37 =>
    bif (y36.2.1 != 0) then
      some ([], (y36.2.1, (S132.mk (Option.some y37) y36.2.2.f1 y36.2.2.f2)))
    else
    (F123 (S132.mk (Option.some y37) y36.2.2.f1 y36.2.2.f2) 4 32).bind fun y38 =>
    match y38.2.2.f0 with
    | none =>
      bif (y38.2.1 != 0) then
        some ([], (y38.2.1, (S132.mk (Option.none) y38.2.2.f1 y38.2.2.f2)))
      else
      (F124 (S132.mk (Option.none) y38.2.2.f1 y38.2.2.f2) y36.1 y38.1).bind fun y42 =>
      match y42.2.f0 with
      | none =>
        some (y42.1, (0, (S132.mk (Option.none) y42.2.f1 y42.2.f2)))
      | some y43 =>
      some (y42.1, (0, (S132.mk (Option.some y43) y42.2.f1 y42.2.f2)))
    | some y39 =>
    bif (y38.2.1 != 0) then
      some ([], (y38.2.1, (S132.mk (Option.some y39) y38.2.2.f1 y38.2.2.f2)))
    else
    (F124 (S132.mk (Option.some y39) y38.2.2.f1 y38.2.2.f2) y36.1 y38.1).bind fun y40 =>
    match y40.2.f0 with
    | none =>
      some (y40.1, (0, (S132.mk (Option.none) y40.2.f1 y40.2.f2)))
    | some y41 =>
    some (y40.1, (0, (S132.mk (Option.some y41) y40.2.f1 y40.2.f2)))
  | some y3 =>
  bif (y2.1 != 0) then
    some ([], (y2.1, (S132.mk (Option.some y3) y2.2.f1 y2.2.f2)))
  else
  grd (decide (0 ≤ (wr .i64 (x1 - 1)))) <|
  grd (decide ((wr .i64 (x1 - 1)) < (y2.2.f1.length : Int))) <|
  (F122 (S132.mk (Option.some y3) y2.2.f1 y2.2.f2) (wr .i64 ((y2.2.f1.getD (Int.toNat (wr .i64 (x1 - 1))) 0) + 1))).bind fun y4 =>
  match y4.2.f0 with
  | none =>
    bif (y4.1 != 0) then
      some ([], (y4.1, (S132.mk (Option.none) y4.2.f1 y4.2.f2)))
    else
    (F123 (S132.mk (Option.none) y4.2.f1 y4.2.f2) 2 16).bind fun y20 =>
    match y20.2.2.f0 with
    | none =>
      bif (y20.2.1 != 0) then
        some ([], (y20.2.1, (S132.mk (Option.none) y20.2.2.f1 y20.2.2.f2)))
      else
      (F123 (S132.mk (Option.none) y20.2.2.f1 y20.2.2.f2) 4 32).bind fun y28 =>
      match y28.2.2.f0 with
      | none =>
        bif (y28.2.1 != 0) then
          some ([], (y28.2.1, (S132.mk (Option.none) y28.2.2.f1 y28.2.2.f2)))
        else
        (F124 (S132.mk (Option.none) y28.2.2.f1 y28.2.2.f2) y20.1 y28.1).bind fun y32 =>
        match y32.2.f0 with
        | none =>
          some (y32.1, (0, (S132.mk (Option.none) y32.2.f1 y32.2.f2)))
        | some y33 =>
        some (y32.1, (0, (S132.mk (Option.some y33) y32.2.f1 y32.2.f2)))
      | some y29 =>
      bif (y28.2.1 != 0) then
        some ([], (y28.2.1, (S132.mk (Option.some y29) y28.2.2.f1 y28.2.2.f2)))
      else
      (F124 (S132.mk (Option.some y29) y28.2.2.f1 y28.2.2.f2) y20.1 y28.1).bind fun y30 =>
      match y30.2.f0 with
      | none =>
        some (y30.1, (0, (S132.mk (Option.none) y30.2.f1 y30.2.f2)))
      | some y31 =>
      some (y30.1, (0, (S132.mk (Option.some y31) y30.2.f1 y30.2.f2)))
    | some y21 =>
    bif (y20.2.1 != 0) then
      some ([], (y20.2.1, (S132.mk (Option.some y21) y20.2.2.f1 y20.2.2.f2)))
    else
    (F123 (S132.mk (Option.some y21) y20.2.2.f1 y20.2.2.f2) 4 32).bind fun y22 =>
    match y22.2.2.f0 with
    | none =>
      bif (y22.2.1 != 0) then
        some ([], (y22.2.1, (S132.mk (Option.none) y22.2.2.f1 y22.2.2.f2)))
      else
      (F124 (S132.mk (Option.none) y22.2.2.f1 y22.2.2.f2) y20.1 y22.1).bind fun y26 =>
      match y26.2.f0 with
      | none =>
        some (y26.1, (0, (S132.mk (Option.none) y26.2.f1 y26.2.f2)))
      | some y27 =>
      some (y26.1, (0, (S132.mk (Option.some y27) y26.2.f1 y26.2.f2)))
    | some y23 =>
    bif (y22.2.1 != 0) then
      some ([], (y22.2.1, (S132.mk (Option.some y23) y22.2.2.f1 y22.2.2.f2)))
    else
    (F124 (S132.mk (Option.some y23) y22.2.2.f1 y22.2.2.f2) y20.1 y22.1).bind fun y24 =>
    match y24.2.f0 with
    | none =>
      some (y24.1, (0, (S132.mk (Option.none) y24.2.f1 y24.2.f2)))
    | some y25 =>
    some (y24.1, (0, (S132.mk (Option.some y25) y24.2.f1 y24.2.f2)))
  | some y5 =>
  bif (y4.1 != 0) then
    some ([], (y4.1, (S132.mk (Option.some y5) y4.2.f1 y4.2.f2)))
  else
  (F123 (S132.mk (Option.some y5) y4.2.f1 y4.2.f2) 2 16).bind fun y6 =>
  match y6.2.2.f0 with
  | none =>
    bif (y6.2.1 != 0) then
      some ([], (y6.2.1, (S132.mk (Option.none) y6.2.2.f1 y6.2.2.f2)))
    else
    (F123 (S132.mk (Option.none) y6.2.2.f1 y6.2.2.f2) 4 32).bind fun y14 =>
    match y14.2.2.f0 with
    | none =>
      bif (y14.2.1 != 0) then
        some ([], (y14.2.1, (S132.mk (Option.none) y14.2.2.f1 y14.2.2.f2)))
      else
      (F124 (S132.mk (Option.none) y14.2.2.f1 y14.2.2.f2) y6.1 y14.1).bind fun y18 =>
      match y18.2.f0 with
      | none =>
        some (y18.1, (0, (S132.mk (Option.none) y18.2.f1 y18.2.f2)))
      | some y19 =>
      some (y18.1, (0, (S132.mk (Option.some y19) y18.2.f1 y18.2.f2)))
    | some y15 =>
    bif (y14.2.1 != 0) then
      some ([], (y14.2.1, (S132.mk (Option.some y15) y14.2.2.f1 y14.2.2.f2)))
    else
    (F124 (S132.mk (Option.some y15) y14.2.2.f1 y14.2.2.f2) y6.1 y14.1).bind fun y16 =>
    match y16.2.f0 with
    | none =>
      some (y16.1, (0, (S132.mk (Option.none) y16.2.f1 y16.2.f2)))
    | some y17 =>
    some (y16.1, (0, (S132.mk (Option.some y17) y16.2.f1 y16.2.f2)))
  | some y7 =>
  bif (y6.2.1 != 0) then
    some ([], (y6.2.1, (S132.mk (Option.some y7) y6.2.2.f1 y6.2.2.f2)))
  else
  (F123 (S132.mk (Option.some y7) y6.2.2.f1 y6.2.2.f2) 4 32).bind fun y8 =>
  match y8.2.2.f0 with
  | none =>
    bif (y8.2.1 != 0) then
      some ([], (y8.2.1, (S132.mk (Option.none) y8.2.2.f1 y8.2.2.f2)))
    else
    (F124 (S132.mk (Option.none) y8.2.2.f1 y8.2.2.f2) y6.1 y8.1).bind fun y12 =>
    match y12.2.f0 with
    | none =>
      some (y12.1, (0, (S132.mk (Option.none) y12.2.f1 y12.2.f2)))
    | some y13 =>
    some (y12.1, (0, (S132.mk (Option.some y13) y12.2.f1 y12.2.f2)))
  | some y9 =>
  bif (y8.2.1 != 0) then
    some ([], (y8.2.1, (S132.mk (Option.some y9) y8.2.2.f1 y8.2.2.f2)))
  else
  (F124 (S132.mk (Option.some y9) y8.2.2.f1 y8.2.2.f2) y6.1 y8.1).bind fun y10 =>
  match y10.2.f0 with
  | none =>
    some (y10.1, (0, (S132.mk (Option.none) y10.2.f1 y10.2.f2)))
  | some y11 =>
  some (y10.1, (0, (S132.mk (Option.some y11) y10.2.f1 y10.2.f2)))
 : Option (List (List S39) × Int × S132)) := (GoP_eq fd74 (tabH D h74) (x0, x1)).trans (by kernel_rfl)
/-! glyf.Parse -/
theorem F30_eq (x0 : ByteArray) : F30 x0 = (
  bif ((ByteArray.toList x0) == (ByteArray.toList ByteArray.empty)) then
    some ([], 0)
  else
  (F70 x0).bind fun y1 =>
  y1.bind fun y2 =>
  (F71 y2).bind fun y3 =>
  (F72 y3.2 8).bind fun y4 =>
  (F73 y4).bind fun y5 =>
  bif (y5.1 != 0) then
    some ([], 3)
  else
  bif (decide ((wr .i64 y3.1) < 0)) then
    some ([], 4)
  else
  bif (decide ((wr .i64 y3.1) > 256)) then
    some ([], 6)
  else
  bif ((wr .i64 y3.1) == 0) then
    some ([], 0)
  else
  (F74 (S132.mk (Option.some y5.2) [] []) (wr .i64 y3.1)).bind fun y6 =>
  match y6.2.2.f0 with
  | none =>
    some (y6.1, y6.2.1)
  | some y7 =>
  some (y6.1, y6.2.1)
 : Option (List (List S39) × Int)) := (GoP_eq fd30 (tabH D h30) (x0)).trans (by kernel_rfl)
/-! flat.shape -/
theorem F109_eq (x0 : ByteArray) (x1 : Int) : F109 x0 x1 = (
  (F39 x0).bind fun y1 =>
  bif y1 then
    (F37 x0 x1).bind fun y2 =>
    some ((S43.mk [] y2.1), y2.2)
  else
  (F30 x0).bind fun y3 =>
  some ((S43.mk y3.1 []), y3.2)
 : Option (S43 × Int)) := (GoP_eq fd109 (tabH D h109) (x0, x1)).trans (by kernel_rfl)
/-! flat.Parse -/
theorem F52_eq (x0 : ByteArray) (x1 : List Int) : F52 x0 x1 = (
  bif (decide ((x1.length : Int) < 2)) then
    some ([], 1)
  else
  bif (decide ((x1.length : Int) > 1025)) then
    some ([], 1)
  else
  grd (decide (0 < (x1.length : Int))) <|
  bif (decide ((x1.getD 0 0) < 0)) then
    some ([], 1)
  else
  (F108 x1).bind fun y1 =>
  bif (!y1) then
    some ([], 1)
  else
  grd (decide (0 ≤ (wr .i64 ((x1.length : Int) - 1)))) <|
  grd (decide ((wr .i64 ((x1.length : Int) - 1)) < (x1.length : Int))) <|
  bif (decide ((x1.getD (Int.toNat (wr .i64 ((x1.length : Int) - 1))) 0) > ((ByteArray.size x0) : Int))) then
    some ([], 1)
  else
  L52_0 x0 x1
 : Option (List S43 × Int)) := (GoP_eq fd52 (tabH D h52) (x0, x1)).trans (by kernel_rfl)
theorem L52_0_eq (x0 : ByteArray) (x1 : List Int) : L52_0 x0 x1 = (
  grd (decide (1 ≤ (x1.length : Int))) <|
  L52_1 x0 x1 [] (List.drop 1 x1) ((List.drop 1 x1).length : Int) 0
 : Option (List S43 × Int)) := (LiP_eq fd52 (tabH_nat h52) c52_0 (x0, x1, ())).trans (by kernel_rfl)
theorem L52_1_eq (x0 : ByteArray) (x1 : List Int) (x2 : List S43) (x3 : List Int) (x4 : Int) (x5 : Int) : L52_1 x0 x1 x2 x3 x4 x5 = (
  bif (decide (x5 < x4)) then
    grd (decide (0 ≤ x5)) <|
    grd (decide (x5 < (x3.length : Int))) <|
    grd (decide (0 ≤ x5)) <|
    grd (decide (x5 < (x1.length : Int))) <|
    grd (decide (0 ≤ (x3.getD (Int.toNat x5) 0))) <|
    grd (decide ((x3.getD (Int.toNat x5) 0) ≤ ((ByteArray.size x0) : Int))) <|
    grd (decide (0 ≤ (x1.getD (Int.toNat x5) 0))) <|
    grd (decide ((x1.getD (Int.toNat x5) 0) ≤ (x3.getD (Int.toNat x5) 0))) <|
    (F109 (ByteArray.extract x0 (Int.toNat (x1.getD (Int.toNat x5) 0)) (Int.toNat (x3.getD (Int.toNat x5) 0))) (wr .i64 ((x1.length : Int) - 1))).bind fun y1 =>
    bif (y1.2 != 0) then
      some ([], y1.2)
    else
    grd (fit (x2.length + [y1.1].length) 48) <|
    L52_1 x0 x1 (x2 ++ [y1.1]) x3 x4 (wr .i64 (x5 + 1))
  else
  some (x2, 0)
 : Option (List S43 × Int)) := (LiP_eq fd52 (tabH_nat h52) c52_1 (x0, x1, x2, x3, x4, x5, ())).trans (by kernel_rfl)
/-! pochoirref14.Is -/
theorem F41_eq (x0 : ByteArray) : F41 x0 = (
  bif (decide (((ByteArray.size x0) : Int) ≥ 2)) then
    grd (decide (0 < ((ByteArray.size x0) : Int))) <|
    some (decide ((btE x0 0) ≥ 128))
  else
  some false
 : Option (Bool)) := (GoP_eq fd41 (tabH D h41) (x0)).trans (by kernel_rfl)
/-! pochoirref07.Cut -/
theorem F125_eq (x0 : ByteArray) (x1 : Int) (x2 : Int) : F125 x0 x1 x2 = (
  bif (decide (x1 < 0)) then
    some (ByteArray.empty, 3)
  else
  bif (decide (x2 < 0)) then
    some (ByteArray.empty, 3)
  else
  bif (decide (x1 > ((ByteArray.size x0) : Int))) then
    some (ByteArray.empty, 3)
  else
  bif (decide (x2 > (wr .i64 (((ByteArray.size x0) : Int) - x1)))) then
    some (ByteArray.empty, 3)
  else
  L125_0 x0 x1 x2
 : Option (ByteArray × Int)) := (GoP_eq fd125 (tabH D h125) (x0, x1, x2)).trans (by kernel_rfl)
theorem L125_0_eq (x0 : ByteArray) (x1 : Int) (x2 : Int) : L125_0 x0 x1 x2 = (
  grd (decide (0 ≤ (wr .i64 (x1 + x2)))) <|
  grd (decide ((wr .i64 (x1 + x2)) ≤ ((ByteArray.size x0) : Int))) <|
  grd (decide (0 ≤ x1)) <|
  grd (decide (x1 ≤ (wr .i64 (x1 + x2)))) <|
  some ((ByteArray.extract x0 (Int.toNat x1) (Int.toNat (wr .i64 (x1 + x2)))), 0)
 : Option (ByteArray × Int)) := (LiP_eq fd125 (tabH_nat h125) c125_0 (x0, x1, x2, ())).trans (by kernel_rfl)
/-! (*pochoirref07.Reader).Take -/
theorem F76_eq (x0 : S139) (x1 : Int) : F76 x0 x1 = (
  (F125 x0.f0 x0.f1 x1).bind fun y1 =>
  bif x0.f2 then
    some (ByteArray.empty, (S139.mk x0.f0 x0.f1 true))
  else
  bif (y1.2 != 0) then
    some (ByteArray.empty, (S139.mk x0.f0 x0.f1 true))
  else
  L76_0 x0 x1 y1.1
 : Option (ByteArray × S139)) := (GoP_eq fd76 (tabH D h76) (x0, x1)).trans (by kernel_rfl)
theorem L76_0_eq (x0 : S139) (x1 : Int) (x2 : ByteArray) : L76_0 x0 x1 x2 = (
  some (x2, (S139.mk x0.f0 (wr .i64 (x0.f1 + x1)) x0.f2))
 : Option (ByteArray × S139)) := (LiP_eq fd76 (tabH_nat h76) c76_0 (x0, x1, x2, ())).trans (by kernel_rfl)
/-! pochoirref07.number -/
theorem F126_eq (x0 : ByteArray) : F126 x0 = (
  L126_0 x0 0 0
 : Option (Int)) := (GoP_eq fd126 (tabH D h126) (x0)).trans (by kernel_rfl)
theorem L126_0_eq (x0 : ByteArray) (x1 : Int) (x2 : Int) : L126_0 x0 x1 x2 = (
  bif (decide (x2 < ((ByteArray.size x0) : Int))) then
    grd (decide (0 ≤ x2)) <|
    grd (decide (x2 < ((ByteArray.size x0) : Int))) <|
    L126_0 x0 (wr .u32 ((wr .u32 (x1 * 256)) + (wr .u32 (btE x0 (Int.toNat x2))))) (wr .i64 (x2 + 1))
  else
  some x1
 : Option (Int)) := (LiP_eq fd126 (tabH_nat h126) c126_0 (x0, x1, x2, ())).trans (by kernel_rfl)
/-! (*pochoirref07.Reader).Num -/
theorem F77_eq (x0 : S139) (x1 : Int) : F77 x0 x1 = (
  (F76 x0 x1).bind fun y1 =>
  (F126 y1.1).bind fun y2 =>
  some (y2, y1.2)
 : Option (Int × S139)) := (GoP_eq fd77 (tabH D h77) (x0, x1)).trans (by kernel_rfl)
/-! (*pochoirref07.Reader).I16 -/
theorem F75_eq (x0 : S139) : F75 x0 = (
  (F77 x0 2).bind fun y1 =>
  bif (decide ((wr .i64 y1.1) ≥ 32768)) then
    some ((wr .i64 ((wr .i64 y1.1) - 65536)), y1.2)
  else
  some ((wr .i64 y1.1), y1.2)
 : Option (Int × S139)) := (GoP_eq fd75 (tabH D h75) (x0)).trans (by kernel_rfl)
/-! pochoirref14.byte1 -/
theorem F140_eq (x0 : S139) : F140 x0 = (
  (F77 x0 1).bind fun y1 =>
  bif (decide ((wr .i64 y1.1) ≥ 128)) then
    some ((wr .i64 ((wr .i64 y1.1) - 256)), y1.2)
  else
  some ((wr .i64 y1.1), y1.2)
 : Option (Int × S139)) := (GoP_eq fd140 (tabH D h140) (x0)).trans (by kernel_rfl)
/-! pochoirref14.part -/
theorem F89_eq (x0 : S139) (x1 : Int) : F89 x0 x1 = (
  (F77 x0 2).bind fun y1 =>
  (F77 y1.2 2).bind fun y2 =>
  bif y2.2.f2 then
    some ((S47.mk 0 0 0 0 0 0 0), (false, (3, y2.2)))
  else
  bif ((Int.tmod (wr .u32 (Int.tdiv y1.1 (2 : Int))) (2 : Int)) == 0) then
    some ((S47.mk 0 0 0 0 0 0 0), (false, (4, y2.2)))
  else
  bif (decide ((wr .u32 ((wr .u32 ((Int.tmod (wr .u32 (Int.tdiv y1.1 (8 : Int))) (2 : Int)) + (Int.tmod (wr .u32 (Int.tdiv y1.1 (64 : Int))) (2 : Int)))) + (Int.tmod (wr .u32 (Int.tdiv y1.1 (128 : Int))) (2 : Int)))) > 1)) then
    some ((S47.mk 0 0 0 0 0 0 0), (false, (4, y2.2)))
  else
  bif ((Int.tmod (wr .u32 (Int.tdiv y1.1 (16 : Int))) (2 : Int)) == 1) then
    some ((S47.mk 0 0 0 0 0 0 0), (false, (4, y2.2)))
  else
  bif ((Int.tmod (wr .u32 (Int.tdiv y1.1 (2048 : Int))) (2 : Int)) == 1) then
    some ((S47.mk 0 0 0 0 0 0 0), (false, (4, y2.2)))
  else
  bif (decide (y1.1 ≥ 8192)) then
    some ((S47.mk 0 0 0 0 0 0 0), (false, (4, y2.2)))
  else
  bif (decide ((wr .i64 y2.1) ≥ x1)) then
    some ((S47.mk 0 0 0 0 0 0 0), (false, (4, y2.2)))
  else
  L89_0 y2.2 (S47.mk 0 0 0 0 0 0 0) y1.1 (wr .i64 y2.1)
 : Option (S47 × Bool × Int × S139)) := (GoP_eq fd89 (tabH D h89) (x0, x1)).trans (by kernel_rfl)
theorem L89_0_eq (x0 : S139) (x1 : S47) (x2 : Int) (x3 : Int) : L89_0 x0 x1 x2 x3 = (
  bif ((Int.tmod x2 (2 : Int)) == 1) then
    (F75 x0).bind fun y1 =>
    (F75 y1.2).bind fun y2 =>
    L89_1 y2.2 x1 x2 (S47.mk x3 y1.1 y2.1 16384 0 0 16384)
  else
  (F140 x0).bind fun y3 =>
  (F140 y3.2).bind fun y4 =>
  L89_1 y4.2 x1 x2 (S47.mk x3 y3.1 y4.1 16384 0 0 16384)
 : Option (S47 × Bool × Int × S139)) := (LiP_eq fd89 (tabH_nat h89) c89_0 (x0, x1, x2, x3, ())).trans (by kernel_rfl)
theorem L89_1_eq (x0 : S139) (x1 : S47) (x2 : Int) (x3 : S47) : L89_1 x0 x1 x2 x3 = (
  bif ((Int.tmod (wr .u32 (Int.tdiv x2 (8 : Int))) (2 : Int)) == 1) then
    (F75 x0).bind fun y1 =>
    L89_2 y1.2 x1 x2 (S47.mk x3.f0 x3.f1 x3.f2 y1.1 x3.f4 x3.f5 y1.1)
  else
  L89_2 x0 x1 x2 x3
 : Option (S47 × Bool × Int × S139)) := (LiP_eq fd89 (tabH_nat h89) c89_1 (x0, x1, x2, x3, ())).trans (by kernel_rfl)
theorem L89_2_eq (x0 : S139) (x1 : S47) (x2 : Int) (x3 : S47) : L89_2 x0 x1 x2 x3 = (
  bif ((Int.tmod (wr .u32 (Int.tdiv x2 (64 : Int))) (2 : Int)) == 1) then
    (F75 x0).bind fun y1 =>
    (F75 y1.2).bind fun y2 =>
    L89_3 y2.2 x1 x2 (S47.mk x3.f0 x3.f1 x3.f2 y1.1 x3.f4 x3.f5 y2.1)
  else
  L89_3 x0 x1 x2 x3
 : Option (S47 × Bool × Int × S139)) := (LiP_eq fd89 (tabH_nat h89) c89_2 (x0, x1, x2, x3, ())).trans (by kernel_rfl)
theorem L89_3_eq (x0 : S139) (x1 : S47) (x2 : Int) (x3 : S47) : L89_3 x0 x1 x2 x3 = (
  bif ((Int.tmod (wr .u32 (Int.tdiv x2 (128 : Int))) (2 : Int)) == 1) then
    (F75 x0).bind fun y1 =>
    (F75 y1.2).bind fun y2 =>
    (F75 y2.2).bind fun y3 =>
    (F75 y3.2).bind fun y4 =>
    L89_4 y4.2 x1 x2 (S47.mk x3.f0 x3.f1 x3.f2 y1.1 y2.1 y3.1 y4.1)
  else
  L89_4 x0 x1 x2 x3
 : Option (S47 × Bool × Int × S139)) := (LiP_eq fd89 (tabH_nat h89) c89_3 (x0, x1, x2, x3, ())).trans (by kernel_rfl)
theorem L89_4_eq (x0 : S139) (x1 : S47) (x2 : Int) (x3 : S47) : L89_4 x0 x1 x2 x3 = (
  bif x0.f2 then
    some ((S47.mk 0 0 0 0 0 0 0), (false, (3, x0)))
  else
  some (x3, (((Int.tmod (wr .u32 (Int.tdiv x2 (32 : Int))) (2 : Int)) == 1), (0, x0)))
 : Option (S47 × Bool × Int × S139)) := (LiP_eq fd89 (tabH_nat h89) c89_4 (x0, x1, x2, x3, ())).trans (by kernel_rfl)
/-! pochoirref14.Parse -/
theorem F40_eq (x0 : ByteArray) (x1 : Int) : F40 x0 x1 = (
  bif (decide (x1 < 1)) then
    some ([], 1)
  else
  bif (decide (x1 > 1024)) then
    some ([], 1)
  else
  L40_0 x0 x1
 : Option (List S47 × Int)) := (GoP_eq fd40 (tabH D h40) (x0, x1)).trans (by kernel_rfl)
theorem L40_0_eq (x0 : ByteArray) (x1 : Int) : L40_0 x0 x1 = (
  bif (decide (((ByteArray.size x0) : Int) < 10)) then
    some ([], 3)
  else
  (F41 x0).bind fun y1 =>
  bif (!y1) then
    some ([], 4)
  else
  L40_1 x1 (S139.mk x0 10 false) [] true
 : Option (List S47 × Int)) := (LiP_eq fd40 (tabH_nat h40) c40_0 (x0, x1, ())).trans (by kernel_rfl)
theorem L40_1_eq (x0 : Int) (x1 : S139) (x2 : List S47) (x3 : Bool) : L40_1 x0 x1 x2 x3 = (
  bif x3 then
    bif ((x2.length : Int) == 64) then
      some ([], 6)
    else
    (F89 x1 x0).bind fun y1 =>
    bif (y1.2.2.1 != 0) then
      some ([], y1.2.2.1)
    else
    grd (fit (x2.length + [y1.1].length) 56) <|
    L40_1 x0 y1.2.2.2 (x2 ++ [y1.1]) y1.2.1
  else
  some (x2, 0)
 : Option (List S47 × Int)) := (LiP_eq fd40 (tabH_nat h40) c40_1 (x0, x1, x2, x3, ())).trans (by kernel_rfl)
/-! pochoirref13.flags -/
theorem F78_eq (x0 : S139) (x1 : Int) : F78 x0 x1 = (
  L78_0 x0 x1 []
 : Option (List Int × Int × S139)) := (GoP_eq fd78 (tabH D h78) (x0, x1)).trans (by kernel_rfl)
theorem L78_0_eq (x0 : S139) (x1 : Int) (x2 : List Int) : L78_0 x0 x1 x2 = (
  bif (decide ((x2.length : Int) < x1)) then
    (F77 x0 1).bind fun y1 =>
    bif y1.2.f2 then
      some ([], (3, y1.2))
    else
    bif (decide (y1.1 ≥ 128)) then
      some ([], (4, y1.2))
    else
    grd (fit (x2.length + [y1.1].length) 4) <|
    bif ((Int.tmod (wr .u32 (Int.tdiv y1.1 (8 : Int))) (2 : Int)) == 1) then
      (F77 y1.2 1).bind fun y2 =>
      bif y2.2.f2 then
        some ([], (3, y2.2))
      else
      bif (decide ((wr .i64 y2.1) > (wr .i64 (x1 - ((x2 ++ [y1.1]).length : Int))))) then
        some ([], (4, y2.2))
      else
      L78_1 y2.2 x1 (x2 ++ [y1.1]) y1.1 (wr .i64 y2.1) 0
    else
    L78_0 y1.2 x1 (x2 ++ [y1.1])
  else
  some (x2, (0, x0))
 : Option (List Int × Int × S139)) := (LiP_eq fd78 (tabH_nat h78) c78_0 (x0, x1, x2, ())).trans (by kernel_rfl)
theorem L78_1_eq (x0 : S139) (x1 : Int) (x2 : List Int) (x3 : Int) (x4 : Int) (x5 : Int) : L78_1 x0 x1 x2 x3 x4 x5 = (
  bif (decide (x5 < x4)) then
    grd (fit (x2.length + [x3].length) 4) <|
    L78_1 x0 x1 (x2 ++ [x3]) x3 x4 (wr .i64 (x5 + 1))
  else
  L78_0 x0 x1 x2
 : Option (List Int × Int × S139)) := (LiP_eq fd78 (tabH_nat h78) c78_1 (x0, x1, x2, x3, x4, x5, ())).trans (by kernel_rfl)
/-! pochoirref13.along -/
theorem F79_eq (x0 : S139) (x1 : List Int) (x2 : Int) (x3 : Int) : F79 x0 x1 x2 x3 = (
  L79_0 x0 x1 x2 x3 [] 0 0
 : Option (List Int × Int × S139)) := (GoP_eq fd79 (tabH D h79) (x0, x1, x2, x3)).trans (by kernel_rfl)
theorem L79_0_eq (x0 : S139) (x1 : List Int) (x2 : Int) (x3 : Int) (x4 : List Int) (x5 : Int) (x6 : Int) : L79_0 x0 x1 x2 x3 x4 x5 x6 = (
  bif (decide (x6 < (x1.length : Int))) then
    grd (decide (0 ≤ x6)) <|
    grd (decide (x6 < (x1.length : Int))) <|
    bif (decide (x3 = 0)) then
      none
    else
    grd (decide (0 ≤ x6)) <|
    grd (decide (x6 < (x1.length : Int))) <|
    bif (decide (x2 = 0)) then
      none
    else
    bif ((Int.tmod (wr .u32 (Int.tdiv (x1.getD (Int.toNat x6) 0) x2)) (2 : Int)) == 1) then
      (F77 x0 1).bind fun y1 =>
      bif ((Int.tmod (wr .u32 (Int.tdiv (x1.getD (Int.toNat x6) 0) x3)) (2 : Int)) == 1) then
        L79_1 y1.2 x1 x2 x3 x4 (wr .i64 (x5 + (wr .i64 y1.1))) x6
      else
      L79_1 y1.2 x1 x2 x3 x4 (wr .i64 (x5 - (wr .i64 y1.1))) x6
    else
    bif (!((Int.tmod (wr .u32 (Int.tdiv (x1.getD (Int.toNat x6) 0) x3)) (2 : Int)) == 1)) then
      (F75 x0).bind fun y2 =>
      L79_1 y2.2 x1 x2 x3 x4 (wr .i64 (x5 + y2.1)) x6
    else
    L79_1 x0 x1 x2 x3 x4 x5 x6
  else
  some (x4, (0, x0))
 : Option (List Int × Int × S139)) := (LiP_eq fd79 (tabH_nat h79) c79_0 (x0, x1, x2, x3, x4, x5, x6, ())).trans (by kernel_rfl)
theorem L79_1_eq (x0 : S139) (x1 : List Int) (x2 : Int) (x3 : Int) (x4 : List Int) (x5 : Int) (x6 : Int) : L79_1 x0 x1 x2 x3 x4 x5 x6 = (
  bif x0.f2 then
    some ([], (3, x0))
  else
  bif (decide (x5 < (-32767))) then
    some ([], (2, x0))
  else
  bif (decide (x5 > 32767)) then
    some ([], (2, x0))
  else
  grd (fit (x4.length + [x5].length) 8) <|
  L79_0 x0 x1 x2 x3 (x4 ++ [x5]) x5 (wr .i64 (x6 + 1))
 : Option (List Int × Int × S139)) := (LiP_eq fd79 (tabH_nat h79) c79_1 (x0, x1, x2, x3, x4, x5, x6, ())).trans (by kernel_rfl)
/-! pochoirref13.Parse -/
theorem F31_eq (x0 : ByteArray) : F31 x0 = (
  bif ((ByteArray.toList x0) == (ByteArray.toList ByteArray.empty)) then
    some ([], 0)
  else
  (F75 (S139.mk x0 0 false)).bind fun y1 =>
  (F76 y1.2 8).bind fun y2 =>
  bif y2.2.f2 then
    some ([], 3)
  else
  bif (decide (y1.1 < 0)) then
    some ([], 4)
  else
  bif (decide (y1.1 > 256)) then
    some ([], 6)
  else
  bif (y1.1 == 0) then
    some ([], 0)
  else
  bif (decide ((wr .i64 (((ByteArray.size x0) : Int) - y2.2.f1)) < (wr .i64 (2 * y1.1)))) then
    some ([], 3)
  else
  L31_0 y2.2 y1.1 [] (-1) 0
 : Option (List (List S39) × Int)) := (GoP_eq fd31 (tabH D h31) (x0)).trans (by kernel_rfl)
theorem L31_0_eq (x0 : S139) (x1 : Int) (x2 : List Int) (x3 : Int) (x4 : Int) : L31_0 x0 x1 x2 x3 x4 = (
  bif (decide (x4 < x1)) then
    (F77 x0 2).bind fun y1 =>
    bif (decide ((wr .i64 y1.1) ≤ x3)) then
      some ([], 4)
    else
    grd (fit (x2.length + [(wr .i64 y1.1)].length) 8) <|
    L31_0 y1.2 x1 (x2 ++ [(wr .i64 y1.1)]) (wr .i64 y1.1) (wr .i64 (x4 + 1))
  else
  bif (decide ((wr .i64 (x3 + 1)) > 4096)) then
    some ([], 6)
  else
  (F77 x0 2).bind fun y2 =>
  (F76 y2.2 (wr .i64 y2.1)).bind fun y3 =>
  bif y3.2.f2 then
    some ([], 3)
  else
  (F78 y3.2 (wr .i64 (x3 + 1))).bind fun y4 =>
  bif (y4.2.1 != 0) then
    some ([], y4.2.1)
  else
  (F79 y4.2.2 y4.1 2 16).bind fun y5 =>
  bif (y5.2.1 != 0) then
    some ([], y5.2.1)
  else
  (F79 y5.2.2 y4.1 4 32).bind fun y6 =>
  bif (y6.2.1 != 0) then
    some ([], y6.2.1)
  else
  L31_1 x1 x2 y4.1 y5.1 y6.1 [] 0 0
 : Option (List (List S39) × Int)) := (LiP_eq fd31 (tabH_nat h31) c31_0 (x0, x1, x2, x3, x4, ())).trans (by kernel_rfl)
theorem L31_1_eq (x0 : Int) (x1 : List Int) (x2 : List Int) (x3 : List Int) (x4 : List Int) (x5 : List (List S39)) (x6 : Int) (x7 : Int) : L31_1 x0 x1 x2 x3 x4 x5 x6 x7 = (
  bif (decide (x7 < x0)) then
    L31_2 x0 x1 x2 x3 x4 x5 x6 x7 []
  else
  some (x5, 0)
 : Option (List (List S39) × Int)) := (LiP_eq fd31 (tabH_nat h31) c31_1 (x0, x1, x2, x3, x4, x5, x6, x7, ())).trans (by kernel_rfl)
theorem L31_2_eq (x0 : Int) (x1 : List Int) (x2 : List Int) (x3 : List Int) (x4 : List Int) (x5 : List (List S39)) (x6 : Int) (x7 : Int) (x8 : List S39) : L31_2 x0 x1 x2 x3 x4 x5 x6 x7 x8 = (
  grd (decide (0 ≤ x7)) <|
  grd (decide (x7 < (x1.length : Int))) <|
  bif (decide (x6 ≤ (x1.getD (Int.toNat x7) 0))) then
    grd (decide (0 ≤ x6)) <|
    grd (decide (x6 < (x3.length : Int))) <|
    grd (decide (0 ≤ x6)) <|
    grd (decide (x6 < (x4.length : Int))) <|
    grd (decide (0 ≤ x6)) <|
    grd (decide (x6 < (x2.length : Int))) <|
    grd (fit (x8.length + [(S39.mk (x3.getD (Int.toNat x6) 0) (x4.getD (Int.toNat x6) 0) ((Int.tmod (x2.getD (Int.toNat x6) 0) (2 : Int)) == 1))].length) 24) <|
    L31_2 x0 x1 x2 x3 x4 x5 (wr .i64 (x6 + 1)) x7 (x8 ++ [(S39.mk (x3.getD (Int.toNat x6) 0) (x4.getD (Int.toNat x6) 0) ((Int.tmod (x2.getD (Int.toNat x6) 0) (2 : Int)) == 1))])
  else
  grd (fit (x5.length + [x8].length) 24) <|
  L31_1 x0 x1 x2 x3 x4 (x5 ++ [x8]) x6 (wr .i64 (x7 + 1))
 : Option (List (List S39) × Int)) := (LiP_eq fd31 (tabH_nat h31) c31_2 (x0, x1, x2, x3, x4, x5, x6, x7, x8, ())).trans (by kernel_rfl)
/-! pochoirref15.Parse -/
theorem F53_eq (x0 : ByteArray) (x1 : List Int) : F53 x0 x1 = (
  bif (decide ((x1.length : Int) < 2)) then
    some ([], 1)
  else
  bif (decide ((x1.length : Int) > 1025)) then
    some ([], 1)
  else
  L53_0 x0 x1
 : Option (List S43 × Int)) := (GoP_eq fd53 (tabH D h53) (x0, x1)).trans (by kernel_rfl)
theorem L53_0_eq (x0 : ByteArray) (x1 : List Int) : L53_0 x0 x1 = (
  L53_1 x0 x1 0 0
 : Option (List S43 × Int)) := (LiP_eq fd53 (tabH_nat h53) c53_0 (x0, x1, ())).trans (by kernel_rfl)
theorem L53_1_eq (x0 : ByteArray) (x1 : List Int) (x2 : Int) (x3 : Int) : L53_1 x0 x1 x2 x3 = (
  bif (decide (x3 < (x1.length : Int))) then
    grd (decide (0 ≤ x3)) <|
    grd (decide (x3 < (x1.length : Int))) <|
    bif (decide ((x1.getD (Int.toNat x3) 0) < x2)) then
      some ([], 1)
    else
    grd (decide (0 ≤ x3)) <|
    grd (decide (x3 < (x1.length : Int))) <|
    bif (decide ((x1.getD (Int.toNat x3) 0) > ((ByteArray.size x0) : Int))) then
      some ([], 1)
    else
    grd (decide (0 ≤ x3)) <|
    grd (decide (x3 < (x1.length : Int))) <|
    L53_1 x0 x1 (x1.getD (Int.toNat x3) 0) (wr .i64 (x3 + 1))
  else
  L53_2 x0 x1 [] 1
 : Option (List S43 × Int)) := (LiP_eq fd53 (tabH_nat h53) c53_1 (x0, x1, x2, x3, ())).trans (by kernel_rfl)
theorem L53_2_eq (x0 : ByteArray) (x1 : List Int) (x2 : List S43) (x3 : Int) : L53_2 x0 x1 x2 x3 = (
  bif (decide (x3 < (x1.length : Int))) then
    grd (decide (0 ≤ (wr .i64 (x3 - 1)))) <|
    grd (decide ((wr .i64 (x3 - 1)) < (x1.length : Int))) <|
    grd (decide (0 ≤ x3)) <|
    grd (decide (x3 < (x1.length : Int))) <|
    grd (decide (0 ≤ (x1.getD (Int.toNat x3) 0))) <|
    grd (decide ((x1.getD (Int.toNat x3) 0) ≤ ((ByteArray.size x0) : Int))) <|
    grd (decide (0 ≤ (x1.getD (Int.toNat (wr .i64 (x3 - 1))) 0))) <|
    grd (decide ((x1.getD (Int.toNat (wr .i64 (x3 - 1))) 0) ≤ (x1.getD (Int.toNat x3) 0))) <|
    (F41 (ByteArray.extract x0 (Int.toNat (x1.getD (Int.toNat (wr .i64 (x3 - 1))) 0)) (Int.toNat (x1.getD (Int.toNat x3) 0)))).bind fun y1 =>
    bif y1 then
      (F40 (ByteArray.extract x0 (Int.toNat (x1.getD (Int.toNat (wr .i64 (x3 - 1))) 0)) (Int.toNat (x1.getD (Int.toNat x3) 0))) (wr .i64 ((x1.length : Int) - 1))).bind fun y2 =>
      L53_3 x0 x1 x2 x3 (S43.mk [] y2.1) y2.2
    else
    (F31 (ByteArray.extract x0 (Int.toNat (x1.getD (Int.toNat (wr .i64 (x3 - 1))) 0)) (Int.toNat (x1.getD (Int.toNat x3) 0)))).bind fun y3 =>
    L53_3 x0 x1 x2 x3 (S43.mk y3.1 []) y3.2
  else
  some (x2, 0)
 : Option (List S43 × Int)) := (LiP_eq fd53 (tabH_nat h53) c53_2 (x0, x1, x2, x3, ())).trans (by kernel_rfl)
theorem L53_3_eq (x0 : ByteArray) (x1 : List Int) (x2 : List S43) (x3 : Int) (x4 : S43) (x5 : Int) : L53_3 x0 x1 x2 x3 x4 x5 = (
  bif (x5 != 0) then
    some ([], x5)
  else
  grd (fit (x2.length + [x4].length) 48) <|
  L53_2 x0 x1 (x2 ++ [x4]) (wr .i64 (x3 + 1))
 : Option (List S43 × Int)) := (LiP_eq fd53 (tabH_nat h53) c53_3 (x0, x1, x2, x3, x4, x5, ())).trans (by kernel_rfl)
/-! pochoirref13.Same -/
theorem F21_eq (x0 : List (List S39)) (x1 : List (List S39)) : F21 x0 x1 = (
  bif ((x0.length : Int) != (x1.length : Int)) then
    some false
  else
  L21_0 x0 x1 0
 : Option (Bool)) := (GoP_eq fd21 (tabH D h21) (x0, x1)).trans (by kernel_rfl)
theorem L21_0_eq (x0 : List (List S39)) (x1 : List (List S39)) (x2 : Int) : L21_0 x0 x1 x2 = (
  bif (decide (x2 < (x0.length : Int))) then
    grd (decide (0 ≤ x2)) <|
    grd (decide (x2 < (x0.length : Int))) <|
    grd (decide (0 ≤ x2)) <|
    grd (decide (x2 < (x1.length : Int))) <|
    bif (((x0.getD (Int.toNat x2) []).length : Int) != ((x1.getD (Int.toNat x2) []).length : Int)) then
      some false
    else
    L21_1 x0 x1 x2 0
  else
  some true
 : Option (Bool)) := (LiP_eq fd21 (tabH_nat h21) c21_0 (x0, x1, x2, ())).trans (by kernel_rfl)
theorem L21_1_eq (x0 : List (List S39)) (x1 : List (List S39)) (x2 : Int) (x3 : Int) : L21_1 x0 x1 x2 x3 = (
  grd (decide (0 ≤ x2)) <|
  grd (decide (x2 < (x0.length : Int))) <|
  bif (decide (x3 < ((x0.getD (Int.toNat x2) []).length : Int))) then
    grd (decide (0 ≤ x2)) <|
    grd (decide (x2 < (x0.length : Int))) <|
    grd (decide (0 ≤ x3)) <|
    grd (decide (x3 < ((x0.getD (Int.toNat x2) []).length : Int))) <|
    grd (decide (0 ≤ x2)) <|
    grd (decide (x2 < (x1.length : Int))) <|
    grd (decide (0 ≤ x3)) <|
    grd (decide (x3 < ((x1.getD (Int.toNat x2) []).length : Int))) <|
    bif (!((((x0.getD (Int.toNat x2) []).getD (Int.toNat x3) z0).f0 == ((x1.getD (Int.toNat x2) []).getD (Int.toNat x3) z0).f0) && ((((x0.getD (Int.toNat x2) []).getD (Int.toNat x3) z0).f1 == ((x1.getD (Int.toNat x2) []).getD (Int.toNat x3) z0).f1) && (((x0.getD (Int.toNat x2) []).getD (Int.toNat x3) z0).f2 == ((x1.getD (Int.toNat x2) []).getD (Int.toNat x3) z0).f2)))) then
      some false
    else
    L21_1 x0 x1 x2 (wr .i64 (x3 + 1))
  else
  L21_0 x0 x1 (wr .i64 (x2 + 1))
 : Option (Bool)) := (LiP_eq fd21 (tabH_nat h21) c21_1 (x0, x1, x2, x3, ())).trans (by kernel_rfl)
/-! pochoirref14.Same -/
theorem F38_eq (x0 : List S47) (x1 : List S47) : F38 x0 x1 = (
  bif ((x0.length : Int) != (x1.length : Int)) then
    some false
  else
  L38_0 x0 x1 0
 : Option (Bool)) := (GoP_eq fd38 (tabH D h38) (x0, x1)).trans (by kernel_rfl)
theorem L38_0_eq (x0 : List S47) (x1 : List S47) (x2 : Int) : L38_0 x0 x1 x2 = (
  bif (decide (x2 < (x0.length : Int))) then
    grd (decide (0 ≤ x2)) <|
    grd (decide (x2 < (x0.length : Int))) <|
    grd (decide (0 ≤ x2)) <|
    grd (decide (x2 < (x1.length : Int))) <|
    bif (!(((x0.getD (Int.toNat x2) z1).f0 == (x1.getD (Int.toNat x2) z1).f0) && (((x0.getD (Int.toNat x2) z1).f1 == (x1.getD (Int.toNat x2) z1).f1) && (((x0.getD (Int.toNat x2) z1).f2 == (x1.getD (Int.toNat x2) z1).f2) && (((x0.getD (Int.toNat x2) z1).f3 == (x1.getD (Int.toNat x2) z1).f3) && (((x0.getD (Int.toNat x2) z1).f4 == (x1.getD (Int.toNat x2) z1).f4) && (((x0.getD (Int.toNat x2) z1).f5 == (x1.getD (Int.toNat x2) z1).f5) && ((x0.getD (Int.toNat x2) z1).f6 == (x1.getD (Int.toNat x2) z1).f6)))))))) then
      some false
    else
    L38_0 x0 x1 (wr .i64 (x2 + 1))
  else
  some true
 : Option (Bool)) := (LiP_eq fd38 (tabH_nat h38) c38_0 (x0, x1, x2, ())).trans (by kernel_rfl)
/-! pochoirref15.Same -/
theorem F54_eq (x0 : List S43) (x1 : List S43) : F54 x0 x1 = (
  bif ((x0.length : Int) != (x1.length : Int)) then
    some false
  else
  L54_0 x0 x1 0
 : Option (Bool)) := (GoP_eq fd54 (tabH D h54) (x0, x1)).trans (by kernel_rfl)
theorem L54_0_eq (x0 : List S43) (x1 : List S43) (x2 : Int) : L54_0 x0 x1 x2 = (
  bif (decide (x2 < (x0.length : Int))) then
    grd (decide (0 ≤ x2)) <|
    grd (decide (x2 < (x0.length : Int))) <|
    grd (decide (0 ≤ x2)) <|
    grd (decide (x2 < (x1.length : Int))) <|
    (F21 (x0.getD (Int.toNat x2) z2).f0 (x1.getD (Int.toNat x2) z2).f0).bind fun y1 =>
    bif (!y1) then
      some false
    else
    grd (decide (0 ≤ x2)) <|
    grd (decide (x2 < (x0.length : Int))) <|
    grd (decide (0 ≤ x2)) <|
    grd (decide (x2 < (x1.length : Int))) <|
    (F38 (x0.getD (Int.toNat x2) z2).f1 (x1.getD (Int.toNat x2) z2).f1).bind fun y2 =>
    bif (!y2) then
      some false
    else
    L54_0 x0 x1 (wr .i64 (x2 + 1))
  else
  some true
 : Option (Bool)) := (LiP_eq fd54 (tabH_nat h54) c54_0 (x0, x1, x2, ())).trans (by kernel_rfl)
/-! pochoirlaw15.FlatParses -/
theorem F14_eq (x0 : ByteArray) (x1 : List Int) : F14 x0 x1 = (
  F15.bind fun y1 =>
  bif (!y1) then
    some false
  else
  bif (decide (((ByteArray.size x0) : Int) > 1000)) then
    some true
  else
  bif (decide ((x1.length : Int) > 20)) then
    some true
  else
  L14_0 x0 x1
 : Option (Bool)) := (GoP_eq fd14 (tabH D h14) (x0, x1)).trans (by kernel_rfl)
theorem L14_0_eq (x0 : ByteArray) (x1 : List Int) : L14_0 x0 x1 = (
  (F52 x0 x1).bind fun y1 =>
  (F53 x0 x1).bind fun y2 =>
  (F54 y1.1 y2.1).bind fun y3 =>
  bif y3 then
    bif (y1.2 == y2.2) then
      bif (y2.2 != 0) then
        some true
      else
      (F22 y1.1).bind fun y4 =>
      some y4
    else
    some false
  else
  some false
 : Option (Bool)) := (LiP_eq fd14 (tabH_nat h14) c14_0 (x0, x1, ())).trans (by kernel_rfl)
end Go.Proofs.Ytalghbndblgndaa.Ev
