/- Printed by a program of this claim: what the functions answer, each by an equation. -/
import Derived.Test.YtalghbndblgndaaEvF
namespace Go.Proofs.Ytalghbndblgndaa.Ev
open Go
set_option linter.unusedVariables false
set_option maxRecDepth 100000
/-! comp.short -/
theorem F133_eq (x0 : List Int) : F133 x0 = (
  L133_0 x0 (x0.length : Int) 0
 : Option (Bool)) := (GoS_eq fd133 (tabH D h133) (x0)).trans (by kernel_rfl)
theorem L133_0_eq (x0 : List Int) (x1 : Int) (x2 : Int) : L133_0 x0 x1 x2 = (
  bif (decide (x2 < x1)) then
    grd (decide (0 ≤ x2)) <|
    grd (decide (x2 < (x0.length : Int))) <|
    bif (decide ((x0.getD (Int.toNat x2) 0) < (-32768))) then
      some false
    else
    bif (decide ((x0.getD (Int.toNat x2) 0) > 32767)) then
      some false
    else
    L133_0 x0 x1 (wr .i64 (x2 + 1))
  else
  some true
 : Option (Bool)) := (LiS_eq fd133 (tabH_nat h133) c133_0 (x0, x1, x2, ())).trans (by kernel_rfl)
/-! comp.may -/
theorem F85_eq (x0 : S47) (x1 : Int) : F85 x0 x1 = (
  bif (decide (x0.f0 ≥ 0)) then
    bif (decide (x0.f0 < x1)) then
      (F133 [x0.f1, x0.f2, x0.f3, x0.f4, x0.f5, x0.f6]).bind fun y1 =>
      some y1
    else
    some false
  else
  some false
 : Option (Bool)) := (GoS_eq fd85 (tabH D h85) (x0, x1)).trans (by kernel_rfl)
/-! comp.May -/
theorem F35_eq (x0 : List S47) (x1 : Int) : F35 x0 x1 = (
  bif (decide (x1 < 1)) then
    some false
  else
  bif (decide (x1 > 1024)) then
    some false
  else
  bif ((x0.length : Int) == 0) then
    some false
  else
  bif (decide ((x0.length : Int) > 64)) then
    some false
  else
  L35_0 x1 x0 (x0.length : Int) 0
 : Option (Bool)) := (GoS_eq fd35 (tabH D h35) (x0, x1)).trans (by kernel_rfl)
theorem L35_0_eq (x0 : Int) (x1 : List S47) (x2 : Int) (x3 : Int) : L35_0 x0 x1 x2 x3 = (
  bif (decide (x3 < x2)) then
    grd (decide (0 ≤ x3)) <|
    grd (decide (x3 < (x1.length : Int))) <|
    (F85 (x1.getD (Int.toNat x3) z1) x0).bind fun y1 =>
    bif (!y1) then
      some false
    else
    L35_0 x0 x1 x2 (wr .i64 (x3 + 1))
  else
  some true
 : Option (Bool)) := (LiS_eq fd35 (tabH_nat h35) c35_0 (x0, x1, x2, x3, ())).trans (by kernel_rfl)
/-! glyf.far -/
theorem F69_eq (x0 : Int) : F69 x0 = (
  bif (decide (x0 > 32767)) then
    some true
  else
  some (decide (x0 < (-32767)))
 : Option (Bool)) := (GoS_eq fd69 (tabH D h69) (x0)).trans (by kernel_rfl)
/-! glyf.May -/
theorem F28_eq (x0 : List (List S39)) : F28 x0 = (
  bif (decide ((x0.length : Int) > 256)) then
    some false
  else
  L28_0 0 x0 (x0.length : Int) 0
 : Option (Bool)) := (GoS_eq fd28 (tabH D h28) (x0)).trans (by kernel_rfl)
theorem L28_0_eq (x0 : Int) (x1 : List (List S39)) (x2 : Int) (x3 : Int) : L28_0 x0 x1 x2 x3 = (
  bif (decide (x3 < x2)) then
    grd (decide (0 ≤ x3)) <|
    grd (decide (x3 < (x1.length : Int))) <|
    bif (((x1.getD (Int.toNat x3) []).length : Int) == 0) then
      some false
    else
    bif (decide ((wr .i64 (x0 + ((x1.getD (Int.toNat x3) []).length : Int))) > 4096)) then
      some false
    else
    L28_1 (wr .i64 (x0 + ((x1.getD (Int.toNat x3) []).length : Int))) x1 x2 x3 (x1.getD (Int.toNat x3) []) ((x1.getD (Int.toNat x3) []).length : Int) 0
  else
  some true
 : Option (Bool)) := (LiS_eq fd28 (tabH_nat h28) c28_0 (x0, x1, x2, x3, ())).trans (by kernel_rfl)
theorem L28_1_eq (x0 : Int) (x1 : List (List S39)) (x2 : Int) (x3 : Int) (x4 : List S39) (x5 : Int) (x6 : Int) : L28_1 x0 x1 x2 x3 x4 x5 x6 = (
  bif (decide (x6 < x5)) then
    grd (decide (0 ≤ x6)) <|
    grd (decide (x6 < (x4.length : Int))) <|
    (F69 (x4.getD (Int.toNat x6) z0).f0).bind fun y1 =>
    bif y1 then
      some false
    else
    (F69 (x4.getD (Int.toNat x6) z0).f1).bind fun y2 =>
    bif y2 then
      some false
    else
    L28_1 x0 x1 x2 x3 x4 x5 (wr .i64 (x6 + 1))
  else
  L28_0 x0 x1 x2 (wr .i64 (x3 + 1))
 : Option (Bool)) := (LiS_eq fd28 (tabH_nat h28) c28_1 (x0, x1, x2, x3, x4, x5, x6, ())).trans (by kernel_rfl)
/-! flat.may -/
theorem F61_eq (x0 : S43) (x1 : Int) : F61 x0 x1 = (
  bif (decide ((x0.f1.length : Int) > 0)) then
    bif ((x0.f0.length : Int) == 0) then
      (F35 x0.f1 x1).bind fun y1 =>
      some y1
    else
    some false
  else
  (F28 x0.f0).bind fun y2 =>
  some y2
 : Option (Bool)) := (GoS_eq fd61 (tabH D h61) (x0, x1)).trans (by kernel_rfl)
/-! flat.May$1 -/
theorem F60_eq (x0 : S43) (x1 : List S43) : F60 x0 x1 = (
  (F61 x0 (x1.length : Int)).bind fun y1 =>
  some ((!y1), x1)
 : Option (Bool × List S43)) := (GoS_eq fd60 (tabH D h60) (x0, x1)).trans (by kernel_rfl)
/-! slices.IndexFunc[[]api.Shape,api.Shape](flat.May$1) -/
theorem F115060_eq (x0 : List S43) (x1 : Unit) (x2 : List S43) : F115060 x0 x1 x2 = (
  L115060_0 x0 (x0.length : Int) 0 x2
 : Option (Int × List S43)) := (GoS_eq fd115060 (tabH D h115060) (x0, x1, x2)).trans (by kernel_rfl)
theorem L115060_0_eq (x0 : List S43) (x1 : Int) (x2 : Int) (x3 : List S43) : L115060_0 x0 x1 x2 x3 = (
  bif (decide (x2 < x1)) then
    grd (decide (0 ≤ x2)) <|
    grd (decide (x2 < (x0.length : Int))) <|
    (F60 (x0.getD (Int.toNat x2) z2) x3).bind fun y1 =>
    bif y1.1 then
      some (x2, y1.2)
    else
    L115060_0 x0 x1 (wr .i64 (x2 + 1)) y1.2
  else
  some ((-1), x3)
 : Option (Int × List S43)) := (LiS_eq fd115060 (tabH_nat h115060) c115060_0 (x0, x1, x2, x3, ())).trans (by kernel_rfl)
/-! slices.ContainsFunc[[]api.Shape,api.Shape](flat.May$1) -/
theorem F59060_eq (x0 : List S43) (x1 : Unit) (x2 : List S43) : F59060 x0 x1 x2 = (
  (F115060 x0 () x2).bind fun y1 =>
  some ((decide (y1.1 ≥ 0)), y1.2)
 : Option (Bool × List S43)) := (GoS_eq fd59060 (tabH D h59060) (x0, x1, x2)).trans (by kernel_rfl)
/-! flat.May -/
theorem F22_eq (x0 : List S43) : F22 x0 = (
  bif (decide ((x0.length : Int) > 0)) then
    bif (decide ((x0.length : Int) ≤ 1024)) then
      (F59060 x0 () x0).bind fun y1 =>
      some (!y1.1)
    else
    some false
  else
  some false
 : Option (Bool)) := (GoS_eq fd22 (tabH D h22) (x0)).trans (by kernel_rfl)
/-! flat.there -/
theorem F55_eq (x0 : List S43) (x1 : Int) : F55 x0 x1 = (
  (F22 x0).bind fun y1 =>
  bif y1 then
    bif (decide (x1 ≥ 0)) then
      some (decide (x1 < (x0.length : Int)))
    else
    some false
  else
  some false
 : Option (Bool)) := (GoS_eq fd55 (tabH D h55) (x0, x1)).trans (by kernel_rfl)
/-! slices.Index[[]int,int] -/
theorem F162_eq (x0 : List Int) (x1 : Int) : F162 x0 x1 = (
  L162_0 x0 x1 (x0.length : Int) 0
 : Option (Int)) := (GoS_eq fd162 (tabH D h162) (x0, x1)).trans (by kernel_rfl)
theorem L162_0_eq (x0 : List Int) (x1 : Int) (x2 : Int) (x3 : Int) : L162_0 x0 x1 x2 x3 = (
  bif (decide (x3 < x2)) then
    grd (decide (0 ≤ x3)) <|
    grd (decide (x3 < (x0.length : Int))) <|
    bif (x1 == (x0.getD (Int.toNat x3) 0)) then
      some x3
    else
    L162_0 x0 x1 x2 (wr .i64 (x3 + 1))
  else
  some (-1)
 : Option (Int)) := (LiS_eq fd162 (tabH_nat h162) c162_0 (x0, x1, x2, x3, ())).trans (by kernel_rfl)
/-! slices.Contains[[]int,int] -/
theorem F149_eq (x0 : List Int) (x1 : Int) : F149 x0 x1 = (
  (F162 x0 x1).bind fun y1 =>
  some (decide (y1 ≥ 0))
 : Option (Bool)) := (GoS_eq fd149 (tabH D h149) (x0, x1)).trans (by kernel_rfl)
/-! (*flat.walker).enter -/
theorem F110_eq (x0 : S99) (x1 : S47) : F110 x0 x1 = (
  (F149 x0.f1 x1.f0).bind fun y1 =>
  bif y1 then
    some (9, x0)
  else
  bif (decide ((x0.f1.length : Int) > 8)) then
    some (8, x0)
  else
  bif (x0.f2 == 4096) then
    some (6, x0)
  else
  some (0, (S99.mk x0.f0 x0.f1 (wr .i64 (x0.f2 + 1)) (mxE x0.f3 (x0.f1.length : Int)) x0.f4))
 : Option (Int × S99)) := (GoS_eq fd110 (tabH D h110) (x0, x1)).trans (by kernel_rfl)
/-! comp.far -/
theorem F90_eq (x0 : Int) : F90 x0 = (
  bif (decide (x0 > 32767)) then
    some true
  else
  some (decide (x0 < (-32767)))
 : Option (Bool)) := (GoS_eq fd90 (tabH D h90) (x0)).trans (by kernel_rfl)
/-! comp.rounded -/
theorem F91_eq (x0 : Int) : F91 x0 = (
  some (shrE Go.IntKind.i64 (wr .i64 (x0 + 8192)) (14 : Int))
 : Option (Int)) := (GoS_eq fd91 (tabH D h91) (x0)).trans (by kernel_rfl)
/-! comp.unit -/
theorem F92_eq (x0 : Int) : F92 x0 = (
  some (decide ((mxE x0 (wr .i64 (0 - x0))) ≤ 32767))
 : Option (Bool)) := (GoS_eq fd92 (tabH D h92) (x0)).trans (by kernel_rfl)
/-! comp.Move -/
theorem F42_eq (x0 : S47) (x1 : Int) (x2 : Int) : F42 x0 x1 x2 = (
  (F85 x0 1024).bind fun y1 =>
  bif (!y1) then
    some (0, (0, 1))
  else
  (F90 x1).bind fun y2 =>
  bif y2 then
    some (0, (0, 1))
  else
  (F90 x2).bind fun y3 =>
  bif y3 then
    some (0, (0, 1))
  else
  L42_0 x1 x2 x0
 : Option (Int × Int × Int)) := (GoS_eq fd42 (tabH D h42) (x0, x1, x2)).trans (by kernel_rfl)
theorem L42_0_eq (x0 : Int) (x1 : Int) (x2 : S47) : L42_0 x0 x1 x2 = (
  (F91 (wr .i64 ((wr .i64 (x2.f3 * x0)) + (wr .i64 (x2.f5 * x1))))).bind fun y1 =>
  (F91 (wr .i64 ((wr .i64 (x2.f4 * x0)) + (wr .i64 (x2.f6 * x1))))).bind fun y2 =>
  (F92 (wr .i64 (y1 + x2.f1))).bind fun y3 =>
  bif (!y3) then
    some (0, (0, 2))
  else
  (F92 (wr .i64 (y2 + x2.f2))).bind fun y4 =>
  bif (!y4) then
    some (0, (0, 2))
  else
  some ((wr .i64 (y1 + x2.f1)), ((wr .i64 (y2 + x2.f2)), 0))
 : Option (Int × Int × Int)) := (LiS_eq fd42 (tabH_nat h42) c42_0 (x0, x1, x2, ())).trans (by kernel_rfl)
/-! (*flat.outline).add -/
theorem F111_eq (x0 : S180) (x1 : S47) (x2 : List (List S39)) : F111 x0 x1 x2 = (
  L111_0 x0 x1 x2 (x2.length : Int) 0
 : Option (Int × S180)) := (GoS_eq fd111 (tabH D h111) (x0, x1, x2)).trans (by kernel_rfl)
theorem L111_0_eq (x0 : S180) (x1 : S47) (x2 : List (List S39)) (x3 : Int) (x4 : Int) : L111_0 x0 x1 x2 x3 x4 = (
  bif (decide (x4 < x3)) then
    grd (decide (0 ≤ x4)) <|
    grd (decide (x4 < (x2.length : Int))) <|
    grd (decide (((x2.getD (Int.toNat x4) []).length : Int) ≤ ((x2.getD (Int.toNat x4) []).length : Int))) <|
    grd (fitM (Int.toNat ((x2.getD (Int.toNat x4) []).length : Int)) 24) <|
    L111_1 x0 x1 (List.replicate (Int.toNat ((x2.getD (Int.toNat x4) []).length : Int)) (S39.mk 0 0 false)) x2 x3 x4 (x2.getD (Int.toNat x4) []) ((x2.getD (Int.toNat x4) []).length : Int) 0
  else
  bif (decide ((x0.f0.length : Int) > 256)) then
    some (6, x0)
  else
  bif (decide (x0.f1 > 4096)) then
    some (6, x0)
  else
  some (0, x0)
 : Option (Int × S180)) := (LiS_eq fd111 (tabH_nat h111) c111_0 (x0, x1, x2, x3, x4, ())).trans (by kernel_rfl)
theorem L111_1_eq (x0 : S180) (x1 : S47) (x2 : List S39) (x3 : List (List S39)) (x4 : Int) (x5 : Int) (x6 : List S39) (x7 : Int) (x8 : Int) : L111_1 x0 x1 x2 x3 x4 x5 x6 x7 x8 = (
  bif (decide (x8 < x7)) then
    grd (decide (0 ≤ x8)) <|
    grd (decide (x8 < (x6.length : Int))) <|
    (F42 x1 (x6.getD (Int.toNat x8) z0).f0 (x6.getD (Int.toNat x8) z0).f1).bind fun y1 =>
    bif (y1.2.2 != 0) then
      some (2, x0)
    else
    grd (decide (0 ≤ x8)) <|
    grd (decide (x8 < (x2.length : Int))) <|
    L111_1 x0 x1 (List.set x2 (Int.toNat x8) (S39.mk y1.1 y1.2.1 (x6.getD (Int.toNat x8) z0).f2)) x3 x4 x5 x6 x7 (wr .i64 (x8 + 1))
  else
  grd (fit (x0.f0.length + [x2].length) 24) <|
  L111_0 (S180.mk (x0.f0 ++ [x2]) (wr .i64 (x0.f1 + (x2.length : Int)))) x1 x3 x4 (wr .i64 (x5 + 1))
 : Option (Int × S180)) := (LiS_eq fd111 (tabH_nat h111) c111_1 (x0, x1, x2, x3, x4, x5, x6, x7, x8, ())).trans (by kernel_rfl)
/-! (*flat.walker).walk -/
theorem F56_eq (G : YR D [.v (.st 3), .v (.int .i64)] → Option (YR D [.v (.sl (.sl (.st 0))), .v (.int .i64), .v (.st 3)])) (x0 : S99) (x1 : Int) : F56g G x0 x1 = (
  grd (decide (0 ≤ x1)) <|
  grd (decide (x1 < (x0.f0.length : Int))) <|
  bif (((x0.f0.getD (Int.toNat x1) z2).f1.length : Int) == 0) then
    some ((x0.f0.getD (Int.toNat x1) z2).f0, (0, x0))
  else
  grd (fit (x0.f1.length + [x1].length) 8) <|
  L56_0 G (S99.mk x0.f0 (x0.f1 ++ [x1]) x0.f2 x0.f3 x0.f4) (S180.mk [] 0) (x0.f0.getD (Int.toNat x1) z2).f1 ((x0.f0.getD (Int.toNat x1) z2).f1.length : Int) 0
 : Option (List (List S39) × Int × S99)) := (GoS_eq fd56 (tabH D (h56 G)) (x0, x1)).trans (by kernel_rfl)
theorem L56_0_eq (G : YR D [.v (.st 3), .v (.int .i64)] → Option (YR D [.v (.sl (.sl (.st 0))), .v (.int .i64), .v (.st 3)])) (x0 : S99) (x1 : S180) (x2 : List S47) (x3 : Int) (x4 : Int) : L56_0 G x0 x1 x2 x3 x4 = (
  bif (decide (x4 < x3)) then
    grd (decide (0 ≤ x4)) <|
    grd (decide (x4 < (x2.length : Int))) <|
    (F110 x0 (x2.getD (Int.toNat x4) z1)).bind fun y1 =>
    bif (y1.1 != 0) then
      some ([], y1)
    else
    (F56r G y1.2 (x2.getD (Int.toNat x4) z1).f0).bind fun y2 =>
    bif (y2.2.1 == 0) then
      bif y2.2.2.f4 then
        L56_2 G y2.2.2 x1 (x2.getD (Int.toNat x4) z1) y2.1 x2 x3 x4
      else
      L56_1 G y2.2.2 x1 y2.2.1 x2 x3 x4
    else
    L56_1 G y2.2.2 x1 y2.2.1 x2 x3 x4
  else
  grd (decide (0 ≤ (wr .i64 ((x0.f1.length : Int) - 1)))) <|
  grd (decide ((wr .i64 ((x0.f1.length : Int) - 1)) ≤ (x0.f1.length : Int))) <|
  some (x1.f0, (0, (S99.mk x0.f0 (List.take (Int.toNat (wr .i64 ((x0.f1.length : Int) - 1))) (List.drop 0 x0.f1)) x0.f2 x0.f3 x0.f4)))
 : Option (List (List S39) × Int × S99)) := (LiS_eq fd56 (tabH_nat (h56 G)) c56_0 (x0, x1, x2, x3, x4, ())).trans (by kernel_rfl)
theorem L56_1_eq (G : YR D [.v (.st 3), .v (.int .i64)] → Option (YR D [.v (.sl (.sl (.st 0))), .v (.int .i64), .v (.st 3)])) (x0 : S99) (x1 : S180) (x2 : Int) (x3 : List S47) (x4 : Int) (x5 : Int) : L56_1 G x0 x1 x2 x3 x4 x5 = (
  bif (x2 != 0) then
    some ([], (x2, x0))
  else
  L56_0 G x0 x1 x3 x4 (wr .i64 (x5 + 1))
 : Option (List (List S39) × Int × S99)) := (LiS_eq fd56 (tabH_nat (h56 G)) c56_1 (x0, x1, x2, x3, x4, x5, ())).trans (by kernel_rfl)
theorem L56_2_eq (G : YR D [.v (.st 3), .v (.int .i64)] → Option (YR D [.v (.sl (.sl (.st 0))), .v (.int .i64), .v (.st 3)])) (x0 : S99) (x1 : S180) (x2 : S47) (x3 : List (List S39)) (x4 : List S47) (x5 : Int) (x6 : Int) : L56_2 G x0 x1 x2 x3 x4 x5 x6 = (
  (F111 x1 x2 x3).bind fun y1 =>
  L56_1 G x0 y1.2 y1.1 x4 x5 x6
 : Option (List (List S39) × Int × S99)) := (LiS_eq fd56 (tabH_nat (h56 G)) c56_2 (x0, x1, x2, x3, x4, x5, x6, ())).trans (by kernel_rfl)
/-! flat.copied -/
theorem F57_eq (x0 : List (List S39)) : F57 x0 = (
  L57_0 [] x0 (x0.length : Int) 0
 : Option (List (List S39))) := (GoS_eq fd57 (tabH D h57) (x0)).trans (by kernel_rfl)
theorem L57_0_eq (x0 : List (List S39)) (x1 : List (List S39)) (x2 : Int) (x3 : Int) : L57_0 x0 x1 x2 x3 = (
  bif (decide (x3 < x2)) then
    grd (decide (0 ≤ x3)) <|
    grd (decide (x3 < (x1.length : Int))) <|
    (F112 (x1.getD (Int.toNat x3) [])).bind fun y1 =>
    grd (fit (x0.length + [y1].length) 24) <|
    L57_0 (x0 ++ [y1]) x1 x2 (wr .i64 (x3 + 1))
  else
  some x0
 : Option (List (List S39))) := (LiS_eq fd57 (tabH_nat h57) c57_0 (x0, x1, x2, x3, ())).trans (by kernel_rfl)
/-! flat.Outline -/
theorem F17_eq (x0 : List S43) (x1 : Int) : F17 x0 x1 = (
  (F55 x0 x1).bind fun y1 =>
  bif (!y1) then
    some ([], 1)
  else
  (F56 (S99.mk x0 [] 0 0 true) x1).bind fun y2 =>
  bif (y2.2.1 != 0) then
    some ([], y2.2.1)
  else
  (F57 y2.1).bind fun y3 =>
  some (y3, 0)
 : Option (List (List S39) × Int)) := (GoS_eq fd17 (tabH D h17) (x0, x1)).trans (by kernel_rfl)
/-! flat.Depth -/
theorem F19_eq (x0 : List S43) (x1 : Int) : F19 x0 x1 = (
  (F55 x0 x1).bind fun y1 =>
  bif (!y1) then
    some (0, 1)
  else
  (F56 (S99.mk x0 [] 0 0 false) x1).bind fun y2 =>
  bif (y2.2.1 != 0) then
    some (0, y2.2.1)
  else
  some (y2.2.2.f3, 0)
 : Option (Int × Int)) := (GoS_eq fd19 (tabH D h19) (x0, x1)).trans (by kernel_rfl)
/-! pochoirlaw15.awake -/
theorem F15_eq : F15 = (
  (F17 [(S43.mk [[(S39.mk 1 2 true)]] []), (S43.mk [] [(S47.mk 0 5 0 16384 0 0 16384)])] 1).bind fun y1 =>
  (F19 [(S43.mk [[(S39.mk 1 2 true)]] []), (S43.mk [] [(S47.mk 0 5 0 16384 0 0 16384)])] 1).bind fun y2 =>
  (F17 [(S43.mk [[(S39.mk 1 2 true)]] []), (S43.mk [] [(S47.mk 0 5 0 16384 0 0 16384)])] 2).bind fun y3 =>
  bif (y1.2 == 0) then
    bif ((y1.1.length : Int) == 1) then
      grd (decide (0 < (y1.1.length : Int))) <|
      bif (((y1.1.getD 0 []).length : Int) == 1) then
        grd (decide (0 < (y1.1.length : Int))) <|
        grd (decide (0 < ((y1.1.getD 0 []).length : Int))) <|
        bif ((((y1.1.getD 0 []).getD 0 z0).f0 == 6) && ((((y1.1.getD 0 []).getD 0 z0).f1 == 2) && (((y1.1.getD 0 []).getD 0 z0).f2 == true))) then
          bif (y2.1 == 1) then
            bif (y2.2 == 0) then
              bif (y3.2 == 1) then
                (F22 [(S43.mk [[(S39.mk 1 2 true)]] []), (S43.mk [] [(S47.mk 0 5 0 16384 0 0 16384)])]).bind fun y4 =>
                some y4
              else
              some false
            else
            some false
          else
          some false
        else
        some false
      else
      some false
    else
    some false
  else
  some false
 : Option (Bool)) := (GoS_eq fd15 (tabH D h15) ()).trans (by kernel_rfl)
/-! pochoirlaw15.Few -/
theorem F16_eq (x0 : List S43) : F16 x0 = (
  bif (decide ((x0.length : Int) > 20)) then
    some false
  else
  L16_0 x0 (x0.length : Int) 0
 : Option (Bool)) := (GoS_eq fd16 (tabH D h16) (x0)).trans (by kernel_rfl)
theorem L16_0_eq (x0 : List S43) (x1 : Int) (x2 : Int) : L16_0 x0 x1 x2 = (
  bif (decide (x2 < x1)) then
    grd (decide (0 ≤ x2)) <|
    grd (decide (x2 < (x0.length : Int))) <|
    bif (decide (((x0.getD (Int.toNat x2) z2).f0.length : Int) > 10)) then
      some false
    else
    bif (decide (((x0.getD (Int.toNat x2) z2).f1.length : Int) > 10)) then
      some false
    else
    L16_1 x0 x1 x2 (x0.getD (Int.toNat x2) z2).f0 ((x0.getD (Int.toNat x2) z2).f0.length : Int) 0
  else
  some true
 : Option (Bool)) := (LiS_eq fd16 (tabH_nat h16) c16_0 (x0, x1, x2, ())).trans (by kernel_rfl)
theorem L16_1_eq (x0 : List S43) (x1 : Int) (x2 : Int) (x3 : List (List S39)) (x4 : Int) (x5 : Int) : L16_1 x0 x1 x2 x3 x4 x5 = (
  bif (decide (x5 < x4)) then
    grd (decide (0 ≤ x5)) <|
    grd (decide (x5 < (x3.length : Int))) <|
    bif (decide (((x3.getD (Int.toNat x5) []).length : Int) > 40)) then
      some false
    else
    L16_1 x0 x1 x2 x3 x4 (wr .i64 (x5 + 1))
  else
  L16_0 x0 x1 (wr .i64 (x2 + 1))
 : Option (Bool)) := (LiS_eq fd16 (tabH_nat h16) c16_1 (x0, x1, x2, x3, x4, x5, ())).trans (by kernel_rfl)
/-! pochoirref13.May -/
theorem F29_eq (x0 : List (List S39)) : F29 x0 = (
  bif (decide ((x0.length : Int) > 256)) then
    some false
  else
  L29_0 x0 0 0
 : Option (Bool)) := (GoS_eq fd29 (tabH D h29) (x0)).trans (by kernel_rfl)
theorem L29_0_eq (x0 : List (List S39)) (x1 : Int) (x2 : Int) : L29_0 x0 x1 x2 = (
  bif (decide (x2 < (x0.length : Int))) then
    grd (decide (0 ≤ x2)) <|
    grd (decide (x2 < (x0.length : Int))) <|
    bif (((x0.getD (Int.toNat x2) []).length : Int) == 0) then
      some false
    else
    grd (decide (0 ≤ x2)) <|
    grd (decide (x2 < (x0.length : Int))) <|
    bif (decide (((x0.getD (Int.toNat x2) []).length : Int) > 4096)) then
      some false
    else
    L29_1 x0 x1 x2
  else
  some true
 : Option (Bool)) := (LiS_eq fd29 (tabH_nat h29) c29_0 (x0, x1, x2, ())).trans (by kernel_rfl)
theorem L29_1_eq (x0 : List (List S39)) (x1 : Int) (x2 : Int) : L29_1 x0 x1 x2 = (
  grd (decide (0 ≤ x2)) <|
  grd (decide (x2 < (x0.length : Int))) <|
  bif (decide ((wr .i64 (x1 + ((x0.getD (Int.toNat x2) []).length : Int))) > 4096)) then
    some false
  else
  L29_2 x0 (wr .i64 (x1 + ((x0.getD (Int.toNat x2) []).length : Int))) x2 0
 : Option (Bool)) := (LiS_eq fd29 (tabH_nat h29) c29_1 (x0, x1, x2, ())).trans (by kernel_rfl)
theorem L29_2_eq (x0 : List (List S39)) (x1 : Int) (x2 : Int) (x3 : Int) : L29_2 x0 x1 x2 x3 = (
  grd (decide (0 ≤ x2)) <|
  grd (decide (x2 < (x0.length : Int))) <|
  bif (decide (x3 < ((x0.getD (Int.toNat x2) []).length : Int))) then
    grd (decide (0 ≤ x2)) <|
    grd (decide (x2 < (x0.length : Int))) <|
    grd (decide (0 ≤ x3)) <|
    grd (decide (x3 < ((x0.getD (Int.toNat x2) []).length : Int))) <|
    bif (decide (((x0.getD (Int.toNat x2) []).getD (Int.toNat x3) z0).f0 < (-32767))) then
      some false
    else
    bif (decide (((x0.getD (Int.toNat x2) []).getD (Int.toNat x3) z0).f0 > 32767)) then
      some false
    else
    bif (decide (((x0.getD (Int.toNat x2) []).getD (Int.toNat x3) z0).f1 < (-32767))) then
      some false
    else
    bif (decide (((x0.getD (Int.toNat x2) []).getD (Int.toNat x3) z0).f1 > 32767)) then
      some false
    else
    L29_2 x0 x1 x2 (wr .i64 (x3 + 1))
  else
  L29_0 x0 x1 (wr .i64 (x2 + 1))
 : Option (Bool)) := (LiS_eq fd29 (tabH_nat h29) c29_2 (x0, x1, x2, x3, ())).trans (by kernel_rfl)
/-! pochoirref14.short -/
theorem F134_eq (x0 : Int) : F134 x0 = (
  bif (decide (x0 ≥ (-32768))) then
    some (decide (x0 ≤ 32767))
  else
  some false
 : Option (Bool)) := (GoS_eq fd134 (tabH D h134) (x0)).trans (by kernel_rfl)
/-! pochoirref14.One -/
theorem F86_eq (x0 : S47) (x1 : Int) : F86 x0 x1 = (
  bif (decide (x0.f0 ≥ 0)) then
    bif (decide (x0.f0 < x1)) then
      (F134 x0.f1).bind fun y1 =>
      bif y1 then
        (F134 x0.f2).bind fun y2 =>
        bif y2 then
          (F134 x0.f3).bind fun y3 =>
          bif y3 then
            (F134 x0.f4).bind fun y4 =>
            bif y4 then
              (F134 x0.f5).bind fun y5 =>
              bif y5 then
                (F134 x0.f6).bind fun y6 =>
                some y6
              else
              some false
            else
            some false
          else
          some false
        else
        some false
      else
      some false
    else
    some false
  else
  some false
 : Option (Bool)) := (GoS_eq fd86 (tabH D h86) (x0, x1)).trans (by kernel_rfl)
/-! pochoirref14.May -/
theorem F36_eq (x0 : List S47) (x1 : Int) : F36 x0 x1 = (
  bif (decide (x1 < 1)) then
    some false
  else
  bif (decide (x1 > 1024)) then
    some false
  else
  bif (decide ((x0.length : Int) < 1)) then
    some false
  else
  bif (decide ((x0.length : Int) > 64)) then
    some false
  else
  L36_0 x0 x1 0
 : Option (Bool)) := (GoS_eq fd36 (tabH D h36) (x0, x1)).trans (by kernel_rfl)
theorem L36_0_eq (x0 : List S47) (x1 : Int) (x2 : Int) : L36_0 x0 x1 x2 = (
  bif (decide (x2 < (x0.length : Int))) then
    grd (decide (0 ≤ x2)) <|
    grd (decide (x2 < (x0.length : Int))) <|
    (F86 (x0.getD (Int.toNat x2) z1) x1).bind fun y1 =>
    bif (!y1) then
      some false
    else
    L36_0 x0 x1 (wr .i64 (x2 + 1))
  else
  some true
 : Option (Bool)) := (LiS_eq fd36 (tabH_nat h36) c36_0 (x0, x1, x2, ())).trans (by kernel_rfl)
/-! pochoirref15.May -/
theorem F23_eq (x0 : List S43) : F23 x0 = (
  bif (decide ((x0.length : Int) < 1)) then
    some false
  else
  bif (decide ((x0.length : Int) > 1024)) then
    some false
  else
  L23_0 x0 0
 : Option (Bool)) := (GoS_eq fd23 (tabH D h23) (x0)).trans (by kernel_rfl)
theorem L23_0_eq (x0 : List S43) (x1 : Int) : L23_0 x0 x1 = (
  bif (decide (x1 < (x0.length : Int))) then
    grd (decide (0 ≤ x1)) <|
    grd (decide (x1 < (x0.length : Int))) <|
    bif (decide (((x0.getD (Int.toNat x1) z2).f0.length : Int) > 0)) then
      bif (decide (((x0.getD (Int.toNat x1) z2).f1.length : Int) > 0)) then
        some false
      else
      (F29 (x0.getD (Int.toNat x1) z2).f0).bind fun y1 =>
      bif (!y1) then
        some false
      else
      bif (decide (((x0.getD (Int.toNat x1) z2).f1.length : Int) > 0)) then
        (F36 (x0.getD (Int.toNat x1) z2).f1 (x0.length : Int)).bind fun y2 =>
        bif (!y2) then
          some false
        else
        L23_0 x0 (wr .i64 (x1 + 1))
      else
      L23_0 x0 (wr .i64 (x1 + 1))
    else
    (F29 (x0.getD (Int.toNat x1) z2).f0).bind fun y3 =>
    bif (!y3) then
      some false
    else
    bif (decide (((x0.getD (Int.toNat x1) z2).f1.length : Int) > 0)) then
      (F36 (x0.getD (Int.toNat x1) z2).f1 (x0.length : Int)).bind fun y4 =>
      bif (!y4) then
        some false
      else
      L23_0 x0 (wr .i64 (x1 + 1))
    else
    L23_0 x0 (wr .i64 (x1 + 1))
  else
  some true
 : Option (Bool)) := (LiS_eq fd23 (tabH_nat h23) c23_0 (x0, x1, ())).trans (by kernel_rfl)
/-! pochoirref14.Unit -/
theorem F93_eq (x0 : Int) : F93 x0 = (
  bif (decide (x0 ≥ (-32767))) then
    some (decide (x0 ≤ 32767))
  else
  some false
 : Option (Bool)) := (GoS_eq fd93 (tabH D h93) (x0)).trans (by kernel_rfl)
/-! pochoirref14.round -/
theorem F94_eq (x0 : Int) : F94 x0 = (
  bif (decide ((Int.tmod (wr .i64 (x0 + 8192)) (16384 : Int)) < 0)) then
    some (wr .i64 ((wr .i64 (Int.tdiv (wr .i64 (x0 + 8192)) (16384 : Int))) - 1))
  else
  some (wr .i64 (Int.tdiv (wr .i64 (x0 + 8192)) (16384 : Int)))
 : Option (Int)) := (GoS_eq fd94 (tabH D h94) (x0)).trans (by kernel_rfl)
/-! pochoirref14.Move -/
theorem F43_eq (x0 : S47) (x1 : Int) (x2 : Int) : F43 x0 x1 x2 = (
  (F86 x0 1024).bind fun y1 =>
  bif (!y1) then
    some (0, (0, 1))
  else
  (F93 x1).bind fun y2 =>
  bif (!y2) then
    some (0, (0, 1))
  else
  (F93 x2).bind fun y3 =>
  bif (!y3) then
    some (0, (0, 1))
  else
  L43_0 x1 x2 x0
 : Option (Int × Int × Int)) := (GoS_eq fd43 (tabH D h43) (x0, x1, x2)).trans (by kernel_rfl)
theorem L43_0_eq (x0 : Int) (x1 : Int) (x2 : S47) : L43_0 x0 x1 x2 = (
  (F94 (wr .i64 ((wr .i64 (x2.f3 * x0)) + (wr .i64 (x2.f5 * x1))))).bind fun y1 =>
  (F94 (wr .i64 ((wr .i64 (x2.f4 * x0)) + (wr .i64 (x2.f6 * x1))))).bind fun y2 =>
  (F93 (wr .i64 (y1 + x2.f1))).bind fun y3 =>
  bif (!y3) then
    some (0, (0, 2))
  else
  (F93 (wr .i64 (y2 + x2.f2))).bind fun y4 =>
  bif (!y4) then
    some (0, (0, 2))
  else
  some ((wr .i64 (y1 + x2.f1)), ((wr .i64 (y2 + x2.f2)), 0))
 : Option (Int × Int × Int)) := (LiS_eq fd43 (tabH_nat h43) c43_0 (x0, x1, x2, ())).trans (by kernel_rfl)
/-! pochoirref15.moved -/
theorem F113_eq (x0 : S47) (x1 : List (List S39)) : F113 x0 x1 = (
  L113_0 x1 x0 [] 0
 : Option (List (List S39) × Int)) := (GoS_eq fd113 (tabH D h113) (x0, x1)).trans (by kernel_rfl)
theorem L113_0_eq (x0 : List (List S39)) (x1 : S47) (x2 : List (List S39)) (x3 : Int) : L113_0 x0 x1 x2 x3 = (
  bif (decide (x3 < (x0.length : Int))) then
    L113_1 x0 x1 x2 x3 [] 0
  else
  some (x2, 0)
 : Option (List (List S39) × Int)) := (LiS_eq fd113 (tabH_nat h113) c113_0 (x0, x1, x2, x3, ())).trans (by kernel_rfl)
theorem L113_1_eq (x0 : List (List S39)) (x1 : S47) (x2 : List (List S39)) (x3 : Int) (x4 : List S39) (x5 : Int) : L113_1 x0 x1 x2 x3 x4 x5 = (
  grd (decide (0 ≤ x3)) <|
  grd (decide (x3 < (x0.length : Int))) <|
  bif (decide (x5 < ((x0.getD (Int.toNat x3) []).length : Int))) then
    grd (decide (0 ≤ x3)) <|
    grd (decide (x3 < (x0.length : Int))) <|
    grd (decide (0 ≤ x5)) <|
    grd (decide (x5 < ((x0.getD (Int.toNat x3) []).length : Int))) <|
    grd (decide (0 ≤ x3)) <|
    grd (decide (x3 < (x0.length : Int))) <|
    grd (decide (0 ≤ x5)) <|
    grd (decide (x5 < ((x0.getD (Int.toNat x3) []).length : Int))) <|
    (F43 x1 ((x0.getD (Int.toNat x3) []).getD (Int.toNat x5) z0).f0 ((x0.getD (Int.toNat x3) []).getD (Int.toNat x5) z0).f1).bind fun y1 =>
    bif (y1.2.2 != 0) then
      some ([], 2)
    else
    grd (decide (0 ≤ x3)) <|
    grd (decide (x3 < (x0.length : Int))) <|
    grd (decide (0 ≤ x5)) <|
    grd (decide (x5 < ((x0.getD (Int.toNat x3) []).length : Int))) <|
    grd (fit (x4.length + [(S39.mk y1.1 y1.2.1 ((x0.getD (Int.toNat x3) []).getD (Int.toNat x5) z0).f2)].length) 24) <|
    L113_1 x0 x1 x2 x3 (x4 ++ [(S39.mk y1.1 y1.2.1 ((x0.getD (Int.toNat x3) []).getD (Int.toNat x5) z0).f2)]) (wr .i64 (x5 + 1))
  else
  grd (fit (x2.length + [x4].length) 24) <|
  L113_0 x0 x1 (x2 ++ [x4]) (wr .i64 (x3 + 1))
 : Option (List (List S39) × Int)) := (LiS_eq fd113 (tabH_nat h113) c113_1 (x0, x1, x2, x3, x4, x5, ())).trans (by kernel_rfl)
/-! pochoirref15.points -/
theorem F114_eq (x0 : List (List S39)) : F114 x0 = (
  L114_0 x0 0 0
 : Option (Int)) := (GoS_eq fd114 (tabH D h114) (x0)).trans (by kernel_rfl)
theorem L114_0_eq (x0 : List (List S39)) (x1 : Int) (x2 : Int) : L114_0 x0 x1 x2 = (
  bif (decide (x2 < (x0.length : Int))) then
    grd (decide (0 ≤ x2)) <|
    grd (decide (x2 < (x0.length : Int))) <|
    L114_0 x0 (wr .i64 (x1 + ((x0.getD (Int.toNat x2) []).length : Int))) (wr .i64 (x2 + 1))
  else
  some x1
 : Option (Int)) := (LiS_eq fd114 (tabH_nat h114) c114_0 (x0, x1, x2, ())).trans (by kernel_rfl)
/-! (*pochoirref15.Goer).Go -/
theorem F58_eq (G : YR D [.v (.st 4), .v (.int .i64), .v (.sl (.int .i64))] → Option (YR D [.v (.sl (.sl (.st 0))), .v (.int .i64), .v (.int .i64), .v (.st 4)])) (x0 : S104) (x1 : Int) (x2 : List Int) : F58g G x0 x1 x2 = (
  grd (decide (0 ≤ x1)) <|
  grd (decide (x1 < (x0.f0.length : Int))) <|
  bif (((x0.f0.getD (Int.toNat x1) z2).f1.length : Int) == 0) then
    some ((x0.f0.getD (Int.toNat x1) z2).f0, (0, (0, x0)))
  else
  grd (fit (0 + x2.length) 8) <|
  grd (fit (([] ++ x2).length + [x1].length) 8) <|
  L58_0 G x0 (x0.f0.getD (Int.toNat x1) z2) [] 0 (([] ++ x2) ++ [x1]) 0
 : Option (List (List S39) × Int × Int × S104)) := (GoS_eq fd58 (tabH D (h58 G)) (x0, x1, x2)).trans (by kernel_rfl)
theorem L58_0_eq (G : YR D [.v (.st 4), .v (.int .i64), .v (.sl (.int .i64))] → Option (YR D [.v (.sl (.sl (.st 0))), .v (.int .i64), .v (.int .i64), .v (.st 4)])) (x0 : S104) (x1 : S43) (x2 : List (List S39)) (x3 : Int) (x4 : List Int) (x5 : Int) : L58_0 G x0 x1 x2 x3 x4 x5 = (
  bif (decide (x5 < (x1.f1.length : Int))) then
    grd (decide (0 ≤ x5)) <|
    grd (decide (x5 < (x1.f1.length : Int))) <|
    L58_1 G x0 x1 x2 x3 x4 x5 (x1.f1.getD (Int.toNat x5) z1) 0
  else
  some (x2, (x3, (0, x0)))
 : Option (List (List S39) × Int × Int × S104)) := (LiS_eq fd58 (tabH_nat (h58 G)) c58_0 (x0, x1, x2, x3, x4, x5, ())).trans (by kernel_rfl)
theorem L58_1_eq (G : YR D [.v (.st 4), .v (.int .i64), .v (.sl (.int .i64))] → Option (YR D [.v (.sl (.sl (.st 0))), .v (.int .i64), .v (.int .i64), .v (.st 4)])) (x0 : S104) (x1 : S43) (x2 : List (List S39)) (x3 : Int) (x4 : List Int) (x5 : Int) (x6 : S47) (x7 : Int) : L58_1 G x0 x1 x2 x3 x4 x5 x6 x7 = (
  bif (decide (x7 < (x4.length : Int))) then
    grd (decide (0 ≤ x7)) <|
    grd (decide (x7 < (x4.length : Int))) <|
    bif ((x4.getD (Int.toNat x7) 0) == x6.f0) then
      some ([], (0, (9, x0)))
    else
    L58_1 G x0 x1 x2 x3 x4 x5 x6 (wr .i64 (x7 + 1))
  else
  bif (decide ((x4.length : Int) > 8)) then
    some ([], (0, (8, x0)))
  else
  bif (decide ((wr .i64 (x0.f1 + 1)) > 4096)) then
    some ([], (0, (6, (S104.mk x0.f0 (wr .i64 (x0.f1 + 1)) x0.f2))))
  else
  (F58r G (S104.mk x0.f0 (wr .i64 (x0.f1 + 1)) x0.f2) x6.f0 x4).bind fun y1 =>
  bif (y1.2.2.1 != 0) then
    some ([], (0, y1.2.2))
  else
  bif y1.2.2.2.f2 then
    L58_0 G y1.2.2.2 x1 x2 (mxE x3 (wr .i64 (y1.2.1 + 1))) x4 (wr .i64 (x5 + 1))
  else
  (F113 x6 y1.1).bind fun y2 =>
  bif (y2.2 != 0) then
    some ([], (0, (y2.2, y1.2.2.2)))
  else
  grd (fit (0 + x2.length) 24) <|
  grd (fit (([] ++ x2).length + y2.1.length) 24) <|
  bif (decide (((([] ++ x2) ++ y2.1).length : Int) > 256)) then
    some ([], (0, (6, y1.2.2.2)))
  else
  (F114 (([] ++ x2) ++ y2.1)).bind fun y3 =>
  bif (decide (y3 > 4096)) then
    some ([], (0, (6, y1.2.2.2)))
  else
  L58_0 G y1.2.2.2 x1 (([] ++ x2) ++ y2.1) (mxE x3 (wr .i64 (y1.2.1 + 1))) x4 (wr .i64 (x5 + 1))
 : Option (List (List S39) × Int × Int × S104)) := (LiS_eq fd58 (tabH_nat (h58 G)) c58_1 (x0, x1, x2, x3, x4, x5, x6, x7, ())).trans (by kernel_rfl)
/-! pochoirref15.Outline -/
theorem F18_eq (x0 : List S43) (x1 : Int) : F18 x0 x1 = (
  (F23 x0).bind fun y1 =>
  bif (!y1) then
    some ([], 1)
  else
  bif (decide (x1 < 0)) then
    some ([], 1)
  else
  bif (decide (x1 ≥ (x0.length : Int))) then
    some ([], 1)
  else
  L18_0 x0 x1
 : Option (List (List S39) × Int)) := (GoS_eq fd18 (tabH D h18) (x0, x1)).trans (by kernel_rfl)
theorem L18_0_eq (x0 : List S43) (x1 : Int) : L18_0 x0 x1 = (
  (F58 (S104.mk x0 0 false) x1 []).bind fun y1 =>
  bif (y1.2.2.1 != 0) then
    some ([], y1.2.2.1)
  else
  some (y1.1, 0)
 : Option (List (List S39) × Int)) := (LiS_eq fd18 (tabH_nat h18) c18_0 (x0, x1, ())).trans (by kernel_rfl)
/-! pochoirref15.Depth -/
theorem F20_eq (x0 : List S43) (x1 : Int) : F20 x0 x1 = (
  (F23 x0).bind fun y1 =>
  bif (!y1) then
    some (0, 1)
  else
  bif (decide (x1 < 0)) then
    some (0, 1)
  else
  bif (decide (x1 ≥ (x0.length : Int))) then
    some (0, 1)
  else
  L20_0 x0 x1
 : Option (Int × Int)) := (GoS_eq fd20 (tabH D h20) (x0, x1)).trans (by kernel_rfl)
theorem L20_0_eq (x0 : List S43) (x1 : Int) : L20_0 x0 x1 = (
  (F58 (S104.mk x0 0 true) x1 []).bind fun y1 =>
  bif (y1.2.2.1 != 0) then
    some (0, y1.2.2.1)
  else
  some (y1.2.1, 0)
 : Option (Int × Int)) := (LiS_eq fd20 (tabH_nat h20) c20_0 (x0, x1, ())).trans (by kernel_rfl)
/-! pochoirref13.Same -/
theorem F21_eq (x0 : List (List S39)) (x1 : List (List S39)) : F21 x0 x1 = (
  bif ((x0.length : Int) != (x1.length : Int)) then
    some false
  else
  L21_0 x0 x1 0
 : Option (Bool)) := (GoS_eq fd21 (tabH D h21) (x0, x1)).trans (by kernel_rfl)
theorem L21_0_eq (x0 : List (List S39)) (x1 : List (List S39)) (x2 : Int) : L21_0 x0 x1 x2 = (
  bif (decide (x2 < (x0.length : Int))) then
    grd (decide (0 ≤ x2)) <|
    grd (decide (x2 < (x0.length : Int))) <|
    grd (decide (0 ≤ x2)) <|
    grd (decide (x2 < (x1.length : Int))) <|
    bif (((x0.getD (Int.toNat x2) []).length : Int) != ((x1.getD (Int.toNat x2) []).length : Int)) then
      some false
    else
    L21_1 x0 x1 x2 0
  else
  some true
 : Option (Bool)) := (LiS_eq fd21 (tabH_nat h21) c21_0 (x0, x1, x2, ())).trans (by kernel_rfl)
theorem L21_1_eq (x0 : List (List S39)) (x1 : List (List S39)) (x2 : Int) (x3 : Int) : L21_1 x0 x1 x2 x3 = (
  grd (decide (0 ≤ x2)) <|
  grd (decide (x2 < (x0.length : Int))) <|
  bif (decide (x3 < ((x0.getD (Int.toNat x2) []).length : Int))) then
    grd (decide (0 ≤ x2)) <|
    grd (decide (x2 < (x0.length : Int))) <|
    grd (decide (0 ≤ x3)) <|
    grd (decide (x3 < ((x0.getD (Int.toNat x2) []).length : Int))) <|
    grd (decide (0 ≤ x2)) <|
    grd (decide (x2 < (x1.length : Int))) <|
    grd (decide (0 ≤ x3)) <|
    grd (decide (x3 < ((x1.getD (Int.toNat x2) []).length : Int))) <|
    bif (!((((x0.getD (Int.toNat x2) []).getD (Int.toNat x3) z0).f0 == ((x1.getD (Int.toNat x2) []).getD (Int.toNat x3) z0).f0) && ((((x0.getD (Int.toNat x2) []).getD (Int.toNat x3) z0).f1 == ((x1.getD (Int.toNat x2) []).getD (Int.toNat x3) z0).f1) && (((x0.getD (Int.toNat x2) []).getD (Int.toNat x3) z0).f2 == ((x1.getD (Int.toNat x2) []).getD (Int.toNat x3) z0).f2)))) then
      some false
    else
    L21_1 x0 x1 x2 (wr .i64 (x3 + 1))
  else
  L21_0 x0 x1 (wr .i64 (x2 + 1))
 : Option (Bool)) := (LiS_eq fd21 (tabH_nat h21) c21_1 (x0, x1, x2, x3, ())).trans (by kernel_rfl)
/-! pochoirlaw15.FlatOutlines -/
theorem F3_eq (x0 : List S43) (x1 : Int) : F3 x0 x1 = (
  F15.bind fun y1 =>
  bif (!y1) then
    some false
  else
  (F16 x0).bind fun y2 =>
  bif (!y2) then
    some true
  else
  (F17 x0 x1).bind fun y3 =>
  (F18 x0 x1).bind fun y4 =>
  (F19 x0 x1).bind fun y5 =>
  (F20 x0 x1).bind fun y6 =>
  (F21 y3.1 y4.1).bind fun y7 =>
  bif y7 then
    bif (y3.2 == y4.2) then
      bif (y5.1 == y6.1) then
        bif (y5.2 == y6.2) then
          (F22 x0).bind fun y8 =>
          (F23 x0).bind fun y9 =>
          some (y8 == y9)
        else
        some false
      else
      some false
    else
    some false
  else
  some false
 : Option (Bool)) := (GoS_eq fd3 (tabH D h3) (x0, x1)).trans (by kernel_rfl)
end Go.Proofs.Ytalghbndblgndaa.Ev
