/- Printed by a program of this claim: what the functions answer, each by an equation. -/
import Derived.Test.YtalgppclaolonaaEvF
namespace Go.Proofs.Ytalgppclaolonaa.Ev
open Go
set_option linter.unusedVariables false
set_option maxRecDepth 100000
/-! edge.Closed -/
theorem F86_eq (x0 : List S38) : F86 x0 = (
  L86_0 x0
 : Option (Bool)) := (GoS_eq fd86 (tabH D h86) (x0)).trans (by kernel_rfl)
theorem L86_0_eq (x0 : List S38) : L86_0 x0 = (
  bif (decide ((x0.length : Int) > 0)) then
    L86_2 x0 1
  else
  some true
 : Option (Bool)) := (LiS_eq fd86 (tabH_nat h86) c86_0 (x0, ())).trans (by kernel_rfl)
theorem L86_1_eq (x0 : List S38) (x1 : Int) : L86_1 x0 x1 = (
  grd (decide (0 ≤ (wr .i64 (x1 - 1)))) <|
  grd (decide ((wr .i64 (x1 - 1)) < (x0.length : Int))) <|
  grd (decide (0 < (x0.length : Int))) <|
  bif (!(((x0.getD (Int.toNat (wr .i64 (x1 - 1))) z1).f4.f0 == (x0.getD 0 z1).f2.f0) && ((x0.getD (Int.toNat (wr .i64 (x1 - 1))) z1).f4.f1 == (x0.getD 0 z1).f2.f1))) then
    some false
  else
  grd (decide (0 ≤ x1)) <|
  grd (decide (x1 ≤ (x0.length : Int))) <|
  L86_0 (List.drop (Int.toNat x1) x0)
 : Option (Bool)) := (LiS_eq fd86 (tabH_nat h86) c86_1 (x0, x1, ())).trans (by kernel_rfl)
theorem L86_2_eq (x0 : List S38) (x1 : Int) : L86_2 x0 x1 = (
  bif (decide (x1 < (x0.length : Int))) then
    grd (decide (0 ≤ x1)) <|
    grd (decide (x1 < (x0.length : Int))) <|
    grd (decide (0 < (x0.length : Int))) <|
    bif ((x0.getD (Int.toNat x1) z1).f0 == (x0.getD 0 z1).f0) then
      L86_3 x0 x1
    else
    L86_1 x0 x1
  else
  L86_1 x0 x1
 : Option (Bool)) := (LiS_eq fd86 (tabH_nat h86) c86_2 (x0, x1, ())).trans (by kernel_rfl)
theorem L86_3_eq (x0 : List S38) (x1 : Int) : L86_3 x0 x1 = (
  grd (decide (0 ≤ x1)) <|
  grd (decide (x1 < (x0.length : Int))) <|
  grd (decide (0 ≤ (wr .i64 (x1 - 1)))) <|
  grd (decide ((wr .i64 (x1 - 1)) < (x0.length : Int))) <|
  bif (!(((x0.getD (Int.toNat x1) z1).f2.f0 == (x0.getD (Int.toNat (wr .i64 (x1 - 1))) z1).f4.f0) && ((x0.getD (Int.toNat x1) z1).f2.f1 == (x0.getD (Int.toNat (wr .i64 (x1 - 1))) z1).f4.f1))) then
    some false
  else
  L86_2 x0 (wr .i64 (x1 + 1))
 : Option (Bool)) := (LiS_eq fd86 (tabH_nat h86) c86_3 (x0, x1, ())).trans (by kernel_rfl)
/-! edge.fine -/
theorem F87_eq (x0 : List S36) : F87 x0 = (
  L87_0 x0 (x0.length : Int) 0
 : Option (Bool)) := (GoS_eq fd87 (tabH D h87) (x0)).trans (by kernel_rfl)
theorem L87_0_eq (x0 : List S36) (x1 : Int) (x2 : Int) : L87_0 x0 x1 x2 = (
  bif (decide (x2 < x1)) then
    grd (decide (0 ≤ x2)) <|
    grd (decide (x2 < (x0.length : Int))) <|
    bif (decide ((x0.getD (Int.toNat x2) z0).f0 < (-33554432))) then
      some false
    else
    bif (decide ((x0.getD (Int.toNat x2) z0).f0 > 33554432)) then
      some false
    else
    bif (decide ((x0.getD (Int.toNat x2) z0).f1 < (-33554432))) then
      some false
    else
    bif (decide ((x0.getD (Int.toNat x2) z0).f1 > 33554432)) then
      some false
    else
    L87_0 x0 x1 (wr .i64 (x2 + 1))
  else
  some true
 : Option (Bool)) := (LiS_eq fd87 (tabH_nat h87) c87_0 (x0, x1, x2, ())).trans (by kernel_rfl)
/-! edge.none -/
theorem F88_eq (x0 : S38) : F88 x0 = (
  bif ((x0.f2.f0 == x0.f4.f0) && (x0.f2.f1 == x0.f4.f1)) then
    bif (!x0.f1) then
      some true
    else
    some ((x0.f3.f0 == x0.f2.f0) && (x0.f3.f1 == x0.f2.f1))
  else
  some false
 : Option (Bool)) := (GoS_eq fd88 (tabH D h88) (x0)).trans (by kernel_rfl)
/-! edge.May -/
theorem F52_eq (x0 : List S38) : F52 x0 = (
  bif (decide ((x0.length : Int) > 8192)) then
    some false
  else
  (F86 x0).bind fun y1 =>
  bif (!y1) then
    some false
  else
  L52_0 x0 (x0.length : Int) 0
 : Option (Bool)) := (GoS_eq fd52 (tabH D h52) (x0)).trans (by kernel_rfl)
theorem L52_0_eq (x0 : List S38) (x1 : Int) (x2 : Int) : L52_0 x0 x1 x2 = (
  bif (decide (x2 < x1)) then
    grd (decide (0 ≤ x2)) <|
    grd (decide (x2 < (x0.length : Int))) <|
    (F87 [(x0.getD (Int.toNat x2) z1).f2, (x0.getD (Int.toNat x2) z1).f3, (x0.getD (Int.toNat x2) z1).f4]).bind fun y1 =>
    bif (!y1) then
      some false
    else
    (F88 (x0.getD (Int.toNat x2) z1)).bind fun y2 =>
    bif y2 then
      some false
    else
    bif (!(x0.getD (Int.toNat x2) z1).f1) then
      bif (!(((x0.getD (Int.toNat x2) z1).f3.f0 == 0) && ((x0.getD (Int.toNat x2) z1).f3.f1 == 0))) then
        some false
      else
      L52_0 x0 x1 (wr .i64 (x2 + 1))
    else
    L52_0 x0 x1 (wr .i64 (x2 + 1))
  else
  some true
 : Option (Bool)) := (LiS_eq fd52 (tabH_nat h52) c52_0 (x0, x1, x2, ())).trans (by kernel_rfl)
/-! corner.way -/
theorem F102_eq (x0 : S36) (x1 : S36) : F102 x0 x1 = (
  some (S36.mk (wr .i64 (x1.f0 - x0.f0)) (wr .i64 (x1.f1 - x0.f1)))
 : Option (S36)) := (GoS_eq fd102 (tabH D h102) (x0, x1)).trans (by kernel_rfl)
/-! corner.last -/
theorem F67_eq (x0 : S38) : F67 x0 = (
  bif x0.f1 then
    bif (!((x0.f3.f0 == x0.f4.f0) && (x0.f3.f1 == x0.f4.f1))) then
      L67_1 x0 (S36.mk 0 0)
    else
    L67_0 x0 (S36.mk 0 0)
  else
  L67_0 x0 (S36.mk 0 0)
 : Option (S36)) := (GoS_eq fd67 (tabH D h67) (x0)).trans (by kernel_rfl)
theorem L67_0_eq (x0 : S38) (x1 : S36) : L67_0 x0 x1 = (
  (F102 x0.f2 x0.f4).bind fun y1 =>
  some y1
 : Option (S36)) := (LiS_eq fd67 (tabH_nat h67) c67_0 (x0, x1, ())).trans (by kernel_rfl)
theorem L67_1_eq (x0 : S38) (x1 : S36) : L67_1 x0 x1 = (
  (F102 x0.f3 x0.f4).bind fun y1 =>
  some y1
 : Option (S36)) := (LiS_eq fd67 (tabH_nat h67) c67_1 (x0, x1, ())).trans (by kernel_rfl)
/-! corner.first -/
theorem F66_eq (x0 : S38) : F66 x0 = (
  bif x0.f1 then
    bif (!((x0.f3.f0 == x0.f2.f0) && (x0.f3.f1 == x0.f2.f1))) then
      L66_1 x0 (S36.mk 0 0)
    else
    L66_0 x0 (S36.mk 0 0)
  else
  L66_0 x0 (S36.mk 0 0)
 : Option (S36)) := (GoS_eq fd66 (tabH D h66) (x0)).trans (by kernel_rfl)
theorem L66_0_eq (x0 : S38) (x1 : S36) : L66_0 x0 x1 = (
  (F102 x0.f2 x0.f4).bind fun y1 =>
  some y1
 : Option (S36)) := (LiS_eq fd66 (tabH_nat h66) c66_0 (x0, x1, ())).trans (by kernel_rfl)
theorem L66_1_eq (x0 : S38) (x1 : S36) : L66_1 x0 x1 = (
  (F102 x0.f2 x0.f3).bind fun y1 =>
  some y1
 : Option (S36)) := (LiS_eq fd66 (tabH_nat h66) c66_1 (x0, x1, ())).trans (by kernel_rfl)
/-! corner.times -/
theorem F89_eq (x0 : S36) (x1 : S36) : F89 x0 x1 = (
  some (wr .i64 ((wr .i64 (x0.f0 * x1.f0)) + (wr .i64 (x0.f1 * x1.f1))))
 : Option (Int)) := (GoS_eq fd89 (tabH D h89) (x0, x1)).trans (by kernel_rfl)
/-! math/bits.Mul64 -/
theorem F121_eq (x0 : Int) (x1 : Int) : F121 x0 x1 = (
  some ((wr .u64 ((wr .u64 ((wr .u64 ((shrE Go.IntKind.u64 x0 (32 : Int)) * (shrE Go.IntKind.u64 x1 (32 : Int)))) + (shrE Go.IntKind.u64 (wr .u64 ((wr .u64 ((shrE Go.IntKind.u64 x0 (32 : Int)) * (andE Go.IntKind.u64 x1 (4294967295 : Int)))) + (shrE Go.IntKind.u64 (wr .u64 ((andE Go.IntKind.u64 x0 (4294967295 : Int)) * (andE Go.IntKind.u64 x1 (4294967295 : Int)))) (32 : Int)))) (32 : Int)))) + (shrE Go.IntKind.u64 (wr .u64 ((andE Go.IntKind.u64 (wr .u64 ((wr .u64 ((shrE Go.IntKind.u64 x0 (32 : Int)) * (andE Go.IntKind.u64 x1 (4294967295 : Int)))) + (shrE Go.IntKind.u64 (wr .u64 ((andE Go.IntKind.u64 x0 (4294967295 : Int)) * (andE Go.IntKind.u64 x1 (4294967295 : Int)))) (32 : Int)))) (4294967295 : Int)) + (wr .u64 ((andE Go.IntKind.u64 x0 (4294967295 : Int)) * (shrE Go.IntKind.u64 x1 (32 : Int)))))) (32 : Int)))), (wr .u64 (x0 * x1)))
 : Option (Int × Int)) := (GoS_eq fd121 (tabH D h121) (x0, x1)).trans (by kernel_rfl)
/-! wide.Mul -/
theorem F91_eq (x0 : Int) (x1 : Int) : F91 x0 x1 = (
  (F121 x0 x1).bind fun y1 =>
  some (S112.mk y1.1 y1.2)
 : Option (S112)) := (GoS_eq fd91 (tabH D h91) (x0, x1)).trans (by kernel_rfl)
/-! wide.Add -/
theorem F120_eq (x0 : S112) (x1 : S112) : F120 x0 x1 = (
  (F142 x0.f1 x1.f1 0).bind fun y1 =>
  (F142 x0.f0 x1.f0 y1.2).bind fun y2 =>
  bif (y2.2 != 0) then
    some ((S112.mk 0 0), 2)
  else
  some ((S112.mk y2.1 y1.1), 0)
 : Option (S112 × Int)) := (GoS_eq fd120 (tabH D h120) (x0, x1)).trans (by kernel_rfl)
/-! wide.Scale -/
theorem F90_eq (x0 : S112) (x1 : Int) : F90 x0 x1 = (
  (F91 x0.f1 x1).bind fun y1 =>
  (F91 x0.f0 x1).bind fun y2 =>
  bif (y2.f0 != 0) then
    some ((S112.mk 0 0), 2)
  else
  (F120 y1 (S112.mk y2.f1 0)).bind fun y3 =>
  some y3
 : Option (S112 × Int)) := (GoS_eq fd90 (tabH D h90) (x0, x1)).trans (by kernel_rfl)
/-! cmp.isNaN[uint64] -/
theorem F143_eq (x0 : Int) : F143 x0 = (
  some (x0 != x0)
 : Option (Bool)) := (GoS_eq fd143 (tabH D h143) (x0)).trans (by kernel_rfl)
/-! cmp.Compare[uint64] -/
theorem F123_eq (x0 : Int) (x1 : Int) : F123 x0 x1 = (
  (F143 x0).bind fun y1 =>
  (F143 x1).bind fun y2 =>
  bif y1 then
    bif y2 then
      some 0
    else
    some (-1)
  else
  bif y2 then
    some 1
  else
  bif (decide (x0 < x1)) then
    some (-1)
  else
  bif (decide (x0 > x1)) then
    some 1
  else
  some 0
 : Option (Int)) := (GoS_eq fd123 (tabH D h123) (x0, x1)).trans (by kernel_rfl)
/-! cmp.Or[int] -/
theorem F122_eq (x0 : List Int) : F122 x0 = (
  L122_0 0 x0 (x0.length : Int) 0
 : Option (Int)) := (GoS_eq fd122 (tabH D h122) (x0)).trans (by kernel_rfl)
theorem L122_0_eq (x0 : Int) (x1 : List Int) (x2 : Int) (x3 : Int) : L122_0 x0 x1 x2 x3 = (
  bif (decide (x3 < x2)) then
    grd (decide (0 ≤ x3)) <|
    grd (decide (x3 < (x1.length : Int))) <|
    bif ((x1.getD (Int.toNat x3) 0) != x0) then
      some (x1.getD (Int.toNat x3) 0)
    else
    L122_0 x0 x1 x2 (wr .i64 (x3 + 1))
  else
  some x0
 : Option (Int)) := (LiS_eq fd122 (tabH_nat h122) c122_0 (x0, x1, x2, x3, ())).trans (by kernel_rfl)
/-! wide.Cmp -/
theorem F92_eq (x0 : S112) (x1 : S112) : F92 x0 x1 = (
  (F123 x0.f0 x1.f0).bind fun y1 =>
  (F123 x0.f1 x1.f1).bind fun y2 =>
  (F122 [y1, y2]).bind fun y3 =>
  some y3
 : Option (Int)) := (GoS_eq fd92 (tabH D h92) (x0, x1)).trans (by kernel_rfl)
/-! corner.is -/
theorem F53_eq (x0 : S38) (x1 : S38) : F53 x0 x1 = (
  (F67 x0).bind fun y1 =>
  (F66 x1).bind fun y2 =>
  (F89 y1 y2).bind fun y3 =>
  bif (decide (y3 ≤ 0)) then
    some true
  else
  (F89 y1 (S36.mk y2.f1 (wr .i64 (0 - y2.f0)))).bind fun y4 =>
  (F91 (wr .u64 (mxE y4 (wr .i64 (0 - y4)))) (wr .u64 (mxE y4 (wr .i64 (0 - y4))))).bind fun y5 =>
  (F90 y5 50).bind fun y6 =>
  (F89 y1 y1).bind fun y7 =>
  (F89 y2 y2).bind fun y8 =>
  (F91 (wr .u64 y7) (wr .u64 y8)).bind fun y9 =>
  (F92 y6.1 y9).bind fun y10 =>
  some (decide (y10 > 0))
 : Option (Bool)) := (GoS_eq fd53 (tabH D h53) (x0, x1)).trans (by kernel_rfl)
/-! corner.All -/
theorem F13_eq (x0 : List S38) : F13 x0 = (
  (F52 x0).bind fun y1 =>
  bif (!y1) then
    some ([], 1)
  else
  L13_0 x0 [] 0
 : Option (List Int × Int)) := (GoS_eq fd13 (tabH D h13) (x0)).trans (by kernel_rfl)
theorem L13_0_eq (x0 : List S38) (x1 : List Int) (x2 : Int) : L13_0 x0 x1 x2 = (
  bif (decide (x2 < (x0.length : Int))) then
    L13_2 x0 x1 x2 (wr .i64 (x2 + 1))
  else
  some (x1, 0)
 : Option (List Int × Int)) := (LiS_eq fd13 (tabH_nat h13) c13_0 (x0, x1, x2, ())).trans (by kernel_rfl)
theorem L13_1_eq (x0 : List S38) (x1 : List Int) (x2 : Int) (x3 : Int) : L13_1 x0 x1 x2 x3 = (
  grd (decide (0 ≤ (wr .i64 (x3 - 1)))) <|
  grd (decide ((wr .i64 (x3 - 1)) < (x0.length : Int))) <|
  L13_3 x0 x1 x3 (x0.getD (Int.toNat (wr .i64 (x3 - 1))) z1) x2
 : Option (List Int × Int)) := (LiS_eq fd13 (tabH_nat h13) c13_1 (x0, x1, x2, x3, ())).trans (by kernel_rfl)
theorem L13_2_eq (x0 : List S38) (x1 : List Int) (x2 : Int) (x3 : Int) : L13_2 x0 x1 x2 x3 = (
  bif (decide (x3 < (x0.length : Int))) then
    grd (decide (0 ≤ x3)) <|
    grd (decide (x3 < (x0.length : Int))) <|
    grd (decide (0 ≤ x2)) <|
    grd (decide (x2 < (x0.length : Int))) <|
    bif ((x0.getD (Int.toNat x3) z1).f0 == (x0.getD (Int.toNat x2) z1).f0) then
      L13_2 x0 x1 x2 (wr .i64 (x3 + 1))
    else
    L13_1 x0 x1 x2 x3
  else
  L13_1 x0 x1 x2 x3
 : Option (List Int × Int)) := (LiS_eq fd13 (tabH_nat h13) c13_2 (x0, x1, x2, x3, ())).trans (by kernel_rfl)
theorem L13_3_eq (x0 : List S38) (x1 : List Int) (x2 : Int) (x3 : S38) (x4 : Int) : L13_3 x0 x1 x2 x3 x4 = (
  bif (decide (x4 < x2)) then
    grd (decide (0 ≤ x4)) <|
    grd (decide (x4 < (x0.length : Int))) <|
    (F53 x3 (x0.getD (Int.toNat x4) z1)).bind fun y1 =>
    bif y1 then
      grd (fit (x1.length + [x4].length) 8) <|
      grd (decide (0 ≤ x4)) <|
      grd (decide (x4 < (x0.length : Int))) <|
      L13_3 x0 (x1 ++ [x4]) x2 (x0.getD (Int.toNat x4) z1) (wr .i64 (x4 + 1))
    else
    grd (decide (0 ≤ x4)) <|
    grd (decide (x4 < (x0.length : Int))) <|
    L13_3 x0 x1 x2 (x0.getD (Int.toNat x4) z1) (wr .i64 (x4 + 1))
  else
  L13_0 x0 x1 x2
 : Option (List Int × Int)) := (LiS_eq fd13 (tabH_nat h13) c13_3 (x0, x1, x2, x3, x4, ())).trans (by kernel_rfl)
/-! corner.right -/
theorem F56_eq (x0 : S38) : F56 x0 = (
  bif ((x0.f2.f0 == x0.f4.f0) && (x0.f2.f1 == x0.f4.f1)) then
    (F52 [x0]).bind fun y1 =>
    some y1
  else
  (F52 [x0, (S38.mk x0.f0 false x0.f4 (S36.mk 0 0) x0.f2)]).bind fun y2 =>
  some y2
 : Option (Bool)) := (GoS_eq fd56 (tabH D h56) (x0)).trans (by kernel_rfl)
/-! corner.Last -/
theorem F27_eq (x0 : S38) : F27 x0 = (
  (F56 x0).bind fun y1 =>
  bif (!y1) then
    some ((S36.mk 0 0), 1)
  else
  (F67 x0).bind fun y2 =>
  some (y2, 0)
 : Option (S36 × Int)) := (GoS_eq fd27 (tabH D h27) (x0)).trans (by kernel_rfl)
/-! corner.Is -/
theorem F18_eq (x0 : S38) (x1 : S38) : F18 x0 x1 = (
  (F56 x0).bind fun y1 =>
  bif (!y1) then
    some (false, 1)
  else
  (F56 x1).bind fun y2 =>
  bif (!y2) then
    some (false, 1)
  else
  L18_0 x0 x1
 : Option (Bool × Int)) := (GoS_eq fd18 (tabH D h18) (x0, x1)).trans (by kernel_rfl)
theorem L18_0_eq (x0 : S38) (x1 : S38) : L18_0 x0 x1 = (
  (F53 x0 x1).bind fun y1 =>
  some (y1, 0)
 : Option (Bool × Int)) := (LiS_eq fd18 (tabH_nat h18) c18_0 (x0, x1, ())).trans (by kernel_rfl)
/-! pochoirlaw22.awake -/
theorem F12_eq : F12 = (
  (F13 [(S38.mk 0 false (S36.mk 0 0) (S36.mk 0 0) (S36.mk 4 0)), (S38.mk 0 false (S36.mk 4 0) (S36.mk 0 0) (S36.mk 4 4)), (S38.mk 0 false (S36.mk 4 4) (S36.mk 0 0) (S36.mk 0 4)), (S38.mk 0 false (S36.mk 0 4) (S36.mk 0 0) (S36.mk 0 0))]).bind fun y1 =>
  (F27 ([(S38.mk 0 false (S36.mk 0 0) (S36.mk 0 0) (S36.mk 4 0)), (S38.mk 0 false (S36.mk 4 0) (S36.mk 0 0) (S36.mk 4 4)), (S38.mk 0 false (S36.mk 4 4) (S36.mk 0 0) (S36.mk 0 4)), (S38.mk 0 false (S36.mk 0 4) (S36.mk 0 0) (S36.mk 0 0))].getD 1 z1)).bind fun y2 =>
  (F18 ([(S38.mk 0 false (S36.mk 0 0) (S36.mk 0 0) (S36.mk 4 0)), (S38.mk 0 false (S36.mk 4 0) (S36.mk 0 0) (S36.mk 4 4)), (S38.mk 0 false (S36.mk 4 4) (S36.mk 0 0) (S36.mk 0 4)), (S38.mk 0 false (S36.mk 0 4) (S36.mk 0 0) (S36.mk 0 0))].getD 0 z1) ([(S38.mk 0 false (S36.mk 0 0) (S36.mk 0 0) (S36.mk 4 0)), (S38.mk 0 false (S36.mk 4 0) (S36.mk 0 0) (S36.mk 4 4)), (S38.mk 0 false (S36.mk 4 4) (S36.mk 0 0) (S36.mk 0 4)), (S38.mk 0 false (S36.mk 0 4) (S36.mk 0 0) (S36.mk 0 0))].getD 0 z1)).bind fun y3 =>
  bif (y1.2 == 0) then
    bif ((y1.1.length : Int) == 4) then
      bif ((y2.1.f0 == 0) && (y2.1.f1 == 4)) then
        bif (y2.2 == 0) then
          bif (!y3.1) then
            some (y3.2 == 0)
          else
          some false
        else
        some false
      else
      some false
    else
    some false
  else
  some false
 : Option (Bool)) := (GoS_eq fd12 (tabH D h12) ()).trans (by kernel_rfl)
/-! pochoirlaw22.edge -/
theorem F16_eq (x0 : S33) (x1 : Bool) : F16 x0 x1 = (
  L16_1 x1 (S38.mk 0 false (S36.mk 0 0) (S36.mk 0 0) (S36.mk 0 0)) (S82.mk (S36.mk 0 0) (S36.mk 0 0) (S36.mk 0 0)) x0 0
 : Option (S38)) := (GoS_eq fd16 (tabH D h16) (x0, x1)).trans (by kernel_rfl)
theorem L16_0_eq (x0 : Bool) (x1 : S38) (x2 : S82) : L16_0 x0 x1 x2 = (
  some (S38.mk 0 x0 x2.f0 x2.f1 x2.f2)
 : Option (S38)) := (LiS_eq fd16 (tabH_nat h16) c16_0 (x0, x1, x2, ())).trans (by kernel_rfl)
theorem L16_1_eq (x0 : Bool) (x1 : S38) (x2 : S82) (x3 : S33) (x4 : Int) : L16_1 x0 x1 x2 x3 x4 = (
  bif (decide (x4 < 3)) then
    bif (decide (x4 = 0)) then
      bif (decide (x4 = 0)) then
        L16_1 x0 x1 (S82.mk (S36.mk (Int.tmod (wr .i64 x3.f0.f0) (1048576 : Int)) (Int.tmod (wr .i64 x3.f0.f1) (1048576 : Int))) x2.f1 x2.f2) x3 (wr .i64 (x4 + 1))
      else
      bif (decide (x4 = 1)) then
        L16_1 x0 x1 (S82.mk x2.f0 (S36.mk (Int.tmod (wr .i64 x3.f0.f0) (1048576 : Int)) (Int.tmod (wr .i64 x3.f0.f1) (1048576 : Int))) x2.f2) x3 (wr .i64 (x4 + 1))
      else
      grd (decide (x4 = 2)) <|
      L16_1 x0 x1 (S82.mk x2.f0 x2.f1 (S36.mk (Int.tmod (wr .i64 x3.f0.f0) (1048576 : Int)) (Int.tmod (wr .i64 x3.f0.f1) (1048576 : Int)))) x3 (wr .i64 (x4 + 1))
    else
    bif (decide (x4 = 1)) then
      bif (decide (x4 = 0)) then
        L16_1 x0 x1 (S82.mk (S36.mk (Int.tmod (wr .i64 x3.f1.f0) (1048576 : Int)) (Int.tmod (wr .i64 x3.f1.f1) (1048576 : Int))) x2.f1 x2.f2) x3 (wr .i64 (x4 + 1))
      else
      bif (decide (x4 = 1)) then
        L16_1 x0 x1 (S82.mk x2.f0 (S36.mk (Int.tmod (wr .i64 x3.f1.f0) (1048576 : Int)) (Int.tmod (wr .i64 x3.f1.f1) (1048576 : Int))) x2.f2) x3 (wr .i64 (x4 + 1))
      else
      grd (decide (x4 = 2)) <|
      L16_1 x0 x1 (S82.mk x2.f0 x2.f1 (S36.mk (Int.tmod (wr .i64 x3.f1.f0) (1048576 : Int)) (Int.tmod (wr .i64 x3.f1.f1) (1048576 : Int)))) x3 (wr .i64 (x4 + 1))
    else
    grd (decide (x4 = 2)) <|
    bif (decide (x4 = 0)) then
      L16_1 x0 x1 (S82.mk (S36.mk (Int.tmod (wr .i64 x3.f2.f0) (1048576 : Int)) (Int.tmod (wr .i64 x3.f2.f1) (1048576 : Int))) x2.f1 x2.f2) x3 (wr .i64 (x4 + 1))
    else
    bif (decide (x4 = 1)) then
      L16_1 x0 x1 (S82.mk x2.f0 (S36.mk (Int.tmod (wr .i64 x3.f2.f0) (1048576 : Int)) (Int.tmod (wr .i64 x3.f2.f1) (1048576 : Int))) x2.f2) x3 (wr .i64 (x4 + 1))
    else
    grd (decide (x4 = 2)) <|
    L16_1 x0 x1 (S82.mk x2.f0 x2.f1 (S36.mk (Int.tmod (wr .i64 x3.f2.f0) (1048576 : Int)) (Int.tmod (wr .i64 x3.f2.f1) (1048576 : Int)))) x3 (wr .i64 (x4 + 1))
  else
  bif (!x0) then
    L16_0 x0 x1 (S82.mk x2.f0 (S36.mk 0 0) x2.f2)
  else
  L16_0 x0 x1 x2
 : Option (S38)) := (LiS_eq fd16 (tabH_nat h16) c16_1 (x0, x1, x2, x3, x4, ())).trans (by kernel_rfl)
/-! pochoirref16.fine -/
theorem F54_eq (x0 : S36) : F54 x0 = (
  bif (decide (x0.f0 ≥ (-33554432))) then
    bif (decide (x0.f0 ≤ 33554432)) then
      bif (decide (x0.f1 ≥ (-33554432))) then
        some (decide (x0.f1 ≤ 33554432))
      else
      some false
    else
    some false
  else
  some false
 : Option (Bool)) := (GoS_eq fd54 (tabH D h54) (x0)).trans (by kernel_rfl)
/-! pochoirref16.same -/
theorem F55_eq (x0 : S38) : F55 x0 = (
  bif ((x0.f2.f0 == x0.f4.f0) && (x0.f2.f1 == x0.f4.f1)) then
    bif (!x0.f1) then
      some true
    else
    some ((x0.f2.f0 == x0.f3.f0) && (x0.f2.f1 == x0.f3.f1))
  else
  some false
 : Option (Bool)) := (GoS_eq fd55 (tabH D h55) (x0)).trans (by kernel_rfl)
/-! pochoirref16.One -/
theorem F17_eq (x0 : S38) : F17 x0 = (
  (F54 x0.f2).bind fun y1 =>
  bif y1 then
    (F54 x0.f3).bind fun y2 =>
    bif y2 then
      (F54 x0.f4).bind fun y3 =>
      bif y3 then
        (F55 x0).bind fun y4 =>
        bif (!y4) then
          bif x0.f1 then
            some true
          else
          some ((x0.f3.f0 == 0) && (x0.f3.f1 == 0))
        else
        some false
      else
      some false
    else
    some false
  else
  some false
 : Option (Bool)) := (GoS_eq fd17 (tabH D h17) (x0)).trans (by kernel_rfl)
/-! pochoirlaw22.changed$1 -/
theorem F57_eq (x0 : S36) (x1 : Int) : F57 x0 x1 = (
  bif (x1 == 1) then
    some ((S36.mk (wr .i64 (0 - x0.f1)) x0.f0), x1)
  else
  bif (x1 == 2) then
    some ((S36.mk (wr .i64 (2 * x0.f0)) (wr .i64 (2 * x0.f1))), x1)
  else
  some (Prod.mk x0 x1)
 : Option (S36 × Int)) := (GoS_eq fd57 (tabH D h57) (x0, x1)).trans (by kernel_rfl)
/-! pochoirlaw22.changed -/
theorem F19_eq (x0 : S38) (x1 : Int) : F19 x0 x1 = (
  (F57 x0.f2 x1).bind fun y1 =>
  (F57 x0.f3 y1.2).bind fun y2 =>
  (F57 x0.f4 y2.2).bind fun y3 =>
  bif (y3.2 == 0) then
    some (S38.mk x0.f0 x0.f1 y3.1 y2.1 y1.1)
  else
  some (S38.mk x0.f0 x0.f1 y1.1 y2.1 y3.1)
 : Option (S38)) := (GoS_eq fd19 (tabH D h19) (x0, x1)).trans (by kernel_rfl)
/-! pochoirlaw22.CornerTurned -/
theorem F4_eq (x0 : S33) (x1 : S33) (x2 : S34) : F4 x0 x1 x2 = (
  F12.bind fun y1 =>
  bif (!y1) then
    some false
  else
  (F16 x0 x2.f0).bind fun y2 =>
  (F16 x1 x2.f1).bind fun y3 =>
  (F17 y2).bind fun y4 =>
  bif (!y4) then
    some true
  else
  (F17 y3).bind fun y5 =>
  bif (!y5) then
    some true
  else
  L4_0 y2 y3
 : Option (Bool)) := (GoS_eq fd4 (tabH D h4) (x0, x1, x2)).trans (by kernel_rfl)
theorem L4_0_eq (x0 : S38) (x1 : S38) : L4_0 x0 x1 = (
  (F18 x0 x1).bind fun y1 =>
  (F19 x1 0).bind fun y2 =>
  (F19 x0 0).bind fun y3 =>
  (F18 y2 y3).bind fun y4 =>
  (F19 x0 1).bind fun y5 =>
  (F19 x1 1).bind fun y6 =>
  (F18 y5 y6).bind fun y7 =>
  (F19 x0 2).bind fun y8 =>
  (F19 x1 2).bind fun y9 =>
  (F18 y8 y9).bind fun y10 =>
  bif (y1.2 == 0) then
    bif (y4.2 == 0) then
      bif (y7.2 == 0) then
        bif (y10.2 == 0) then
          bif (y1.1 == y4.1) then
            bif (y1.1 == y7.1) then
              some (y1.1 == y10.1)
            else
            some false
          else
          some false
        else
        some false
      else
      some false
    else
    some false
  else
  some false
 : Option (Bool)) := (LiS_eq fd4 (tabH_nat h4) c4_0 (x0, x1, ())).trans (by kernel_rfl)
/-! area.cross -/
theorem F110_eq (x0 : S36) (x1 : S36) : F110 x0 x1 = (
  some (wr .i64 ((wr .i64 (x0.f0 * x1.f1)) - (wr .i64 (x0.f1 * x1.f0))))
 : Option (Int)) := (GoS_eq fd110 (tabH D h110) (x0, x1)).trans (by kernel_rfl)
/-! area.one -/
theorem F76_eq (x0 : S38) : F76 x0 = (
  bif x0.f1 then
    (F110 x0.f2 x0.f3).bind fun y1 =>
    (F110 x0.f3 x0.f4).bind fun y2 =>
    (F110 x0.f2 x0.f4).bind fun y3 =>
    some (wr .i64 ((wr .i64 ((wr .i64 (2 * y1)) + (wr .i64 (2 * y2)))) + y3))
  else
  (F110 x0.f2 x0.f4).bind fun y4 =>
  some (wr .i64 (3 * y4))
 : Option (Int)) := (GoS_eq fd76 (tabH D h76) (x0)).trans (by kernel_rfl)
/-! big.trimmed -/
theorem F105_eq (x0 : List Int) : F105 x0 = (
  L105_0 x0 (x0.length : Int)
 : Option (List Int)) := (GoS_eq fd105 (tabH D h105) (x0)).trans (by kernel_rfl)
theorem L105_0_eq (x0 : List Int) (x1 : Int) : L105_0 x0 x1 = (
  bif (decide (x1 > 0)) then
    grd (decide (0 ≤ (wr .i64 (x1 - 1)))) <|
    grd (decide ((wr .i64 (x1 - 1)) < (x0.length : Int))) <|
    bif ((x0.getD (Int.toNat (wr .i64 (x1 - 1))) 0) == 0) then
      L105_0 x0 (wr .i64 (x1 - 1))
    else
    grd (decide (0 ≤ x1)) <|
    grd (decide (x1 ≤ (x0.length : Int))) <|
    some (List.take (Int.toNat x1) x0)
  else
  grd (decide (0 ≤ x1)) <|
  grd (decide (x1 ≤ (x0.length : Int))) <|
  some (List.take (Int.toNat x1) x0)
 : Option (List Int)) := (LiS_eq fd105 (tabH_nat h105) c105_0 (x0, x1, ())).trans (by kernel_rfl)
/-! big.form -/
theorem F106_eq (x0 : Bool) (x1 : List Int) : F106 x0 x1 = (
  (F105 x1).bind fun y1 =>
  bif ((y1.length : Int) == 0) then
    some (S57.mk false [])
  else
  some (S57.mk x0 y1)
 : Option (S57)) := (GoS_eq fd106 (tabH D h106) (x0, x1)).trans (by kernel_rfl)
/-! big.Of -/
theorem F75_eq (x0 : Int) : F75 x0 = (
  bif (decide (x0 < 0)) then
    L75_0 x0 (S57.mk false []) (wr .u64 (0 - (wr .u64 x0)))
  else
  L75_0 x0 (S57.mk false []) (wr .u64 x0)
 : Option (S57)) := (GoS_eq fd75 (tabH D h75) (x0)).trans (by kernel_rfl)
theorem L75_0_eq (x0 : Int) (x1 : S57) (x2 : Int) : L75_0 x0 x1 x2 = (
  (F106 (decide (x0 < 0)) [(wr .u32 x2), (wr .u32 (shrE Go.IntKind.u64 x2 (32 : Int)))]).bind fun y1 =>
  some y1
 : Option (S57)) := (LiS_eq fd75 (tabH_nat h75) c75_0 (x0, x1, x2, ())).trans (by kernel_rfl)
/-! big.at -/
theorem F137_eq (x0 : List Int) (x1 : Int) : F137 x0 x1 = (
  bif (decide (x1 < (x0.length : Int))) then
    grd (decide (0 ≤ x1)) <|
    grd (decide (x1 < (x0.length : Int))) <|
    some (wr .u64 (x0.getD (Int.toNat x1) 0))
  else
  some 0
 : Option (Int)) := (GoS_eq fd137 (tabH D h137) (x0, x1)).trans (by kernel_rfl)
/-! big.plus -/
theorem F107_eq (x0 : List Int) (x1 : List Int) : F107 x0 x1 = (
  grd (decide (0 ≤ (mxE (x0.length : Int) (x1.length : Int)))) <|
  grd (decide ((mxE (x0.length : Int) (x1.length : Int)) ≤ (wr .i64 ((mxE (x0.length : Int) (x1.length : Int)) + 1)))) <|
  grd (fitM (Int.toNat (wr .i64 ((mxE (x0.length : Int) (x1.length : Int)) + 1))) 4) <|
  L107_0 x0 x1 (List.replicate (Int.toNat (mxE (x0.length : Int) (x1.length : Int))) (0 : Int)) 0 ((List.replicate (Int.toNat (mxE (x0.length : Int) (x1.length : Int))) (0 : Int)).length : Int) 0
 : Option (List Int)) := (GoS_eq fd107 (tabH D h107) (x0, x1)).trans (by kernel_rfl)
theorem L107_0_eq (x0 : List Int) (x1 : List Int) (x2 : List Int) (x3 : Int) (x4 : Int) (x5 : Int) : L107_0 x0 x1 x2 x3 x4 x5 = (
  bif (decide (x5 < x4)) then
    (F137 x0 x5).bind fun y1 =>
    (F137 x1 x5).bind fun y2 =>
    grd (decide (0 ≤ x5)) <|
    grd (decide (x5 < (x2.length : Int))) <|
    L107_0 x0 x1 (List.set x2 (Int.toNat x5) (wr .u32 (wr .u64 ((wr .u64 (y1 + y2)) + x3)))) (shrE Go.IntKind.u64 (wr .u64 ((wr .u64 (y1 + y2)) + x3)) (32 : Int)) x4 (wr .i64 (x5 + 1))
  else
  grd (fit (x2.length + [(wr .u32 x3)].length) 4) <|
  some (x2 ++ [(wr .u32 x3)])
 : Option (List Int)) := (LiS_eq fd107 (tabH_nat h107) c107_0 (x0, x1, x2, x3, x4, x5, ())).trans (by kernel_rfl)
/-! cmp.isNaN[int] -/
theorem F155_eq (x0 : Int) : F155 x0 = (
  some (x0 != x0)
 : Option (Bool)) := (GoS_eq fd155 (tabH D h155) (x0)).trans (by kernel_rfl)
/-! cmp.Compare[int] -/
theorem F138_eq (x0 : Int) (x1 : Int) : F138 x0 x1 = (
  (F155 x0).bind fun y1 =>
  (F155 x1).bind fun y2 =>
  bif y1 then
    bif y2 then
      some 0
    else
    some (-1)
  else
  bif y2 then
    some 1
  else
  bif (decide (x0 < x1)) then
    some (-1)
  else
  bif (decide (x0 > x1)) then
    some 1
  else
  some 0
 : Option (Int)) := (GoS_eq fd138 (tabH D h138) (x0, x1)).trans (by kernel_rfl)
/-! cmp.isNaN[uint32] -/
theorem F156_eq (x0 : Int) : F156 x0 = (
  some (x0 != x0)
 : Option (Bool)) := (GoS_eq fd156 (tabH D h156) (x0)).trans (by kernel_rfl)
/-! cmp.Compare[uint32] -/
theorem F139_eq (x0 : Int) (x1 : Int) : F139 x0 x1 = (
  (F156 x0).bind fun y1 =>
  (F156 x1).bind fun y2 =>
  bif y1 then
    bif y2 then
      some 0
    else
    some (-1)
  else
  bif y2 then
    some 1
  else
  bif (decide (x0 < x1)) then
    some (-1)
  else
  bif (decide (x0 > x1)) then
    some 1
  else
  some 0
 : Option (Int)) := (GoS_eq fd139 (tabH D h139) (x0, x1)).trans (by kernel_rfl)
/-! big.against -/
theorem F108_eq (x0 : List Int) (x1 : List Int) : F108 x0 x1 = (
  (F138 (x0.length : Int) (x1.length : Int)).bind fun y1 =>
  bif (y1 != 0) then
    some y1
  else
  L108_0 x0 x1 (wr .i64 ((x0.length : Int) - 1))
 : Option (Int)) := (GoS_eq fd108 (tabH D h108) (x0, x1)).trans (by kernel_rfl)
theorem L108_0_eq (x0 : List Int) (x1 : List Int) (x2 : Int) : L108_0 x0 x1 x2 = (
  bif (decide (x2 ≥ 0)) then
    grd (decide (0 ≤ x2)) <|
    grd (decide (x2 < (x0.length : Int))) <|
    grd (decide (0 ≤ x2)) <|
    grd (decide (x2 < (x1.length : Int))) <|
    (F139 (x0.getD (Int.toNat x2) 0) (x1.getD (Int.toNat x2) 0)).bind fun y1 =>
    bif (y1 != 0) then
      some y1
    else
    L108_0 x0 x1 (wr .i64 (x2 - 1))
  else
  some 0
 : Option (Int)) := (LiS_eq fd108 (tabH_nat h108) c108_0 (x0, x1, x2, ())).trans (by kernel_rfl)
/-! big.minus -/
theorem F109_eq (x0 : List Int) (x1 : List Int) : F109 x0 x1 = (
  grd (decide ((x0.length : Int) ≤ (x0.length : Int))) <|
  grd (fitM (Int.toNat (x0.length : Int)) 4) <|
  L109_0 x0 x1 (List.replicate (Int.toNat (x0.length : Int)) (0 : Int)) 0 (x0.length : Int) 0
 : Option (List Int)) := (GoS_eq fd109 (tabH D h109) (x0, x1)).trans (by kernel_rfl)
theorem L109_0_eq (x0 : List Int) (x1 : List Int) (x2 : List Int) (x3 : Int) (x4 : Int) (x5 : Int) : L109_0 x0 x1 x2 x3 x4 x5 = (
  bif (decide (x5 < x4)) then
    grd (decide (0 ≤ x5)) <|
    grd (decide (x5 < (x0.length : Int))) <|
    (F137 x1 x5).bind fun y1 =>
    grd (decide (0 ≤ x5)) <|
    grd (decide (x5 < (x2.length : Int))) <|
    L109_0 x0 x1 (List.set x2 (Int.toNat x5) (wr .u32 (wr .u64 ((wr .u64 ((wr .u64 (x0.getD (Int.toNat x5) 0)) - y1)) - x3)))) (shrE Go.IntKind.u64 (wr .u64 ((wr .u64 ((wr .u64 (x0.getD (Int.toNat x5) 0)) - y1)) - x3)) (63 : Int)) x4 (wr .i64 (x5 + 1))
  else
  some x2
 : Option (List Int)) := (LiS_eq fd109 (tabH_nat h109) c109_0 (x0, x1, x2, x3, x4, x5, ())).trans (by kernel_rfl)
/-! big.Add -/
theorem F74_eq (x0 : S57) (x1 : S57) : F74 x0 x1 = (
  (F105 x0.f1).bind fun y1 =>
  (F105 x1.f1).bind fun y2 =>
  bif (x0.f0 == x1.f0) then
    (F107 y1 y2).bind fun y3 =>
    (F106 x0.f0 y3).bind fun y4 =>
    some y4
  else
  (F108 y1 y2).bind fun y5 =>
  bif (decide (y5 ≥ 0)) then
    (F109 y1 y2).bind fun y6 =>
    (F106 x0.f0 y6).bind fun y7 =>
    some y7
  else
  (F109 y2 y1).bind fun y8 =>
  (F106 x1.f0 y8).bind fun y9 =>
  some y9
 : Option (S57)) := (GoS_eq fd74 (tabH D h74) (x0, x1)).trans (by kernel_rfl)
/-! area.Six -/
theorem F32_eq (x0 : List S38) : F32 x0 = (
  (F52 x0).bind fun y1 =>
  bif (!y1) then
    some ((S57.mk false []), 1)
  else
  L32_0 (S57.mk false []) (S57.mk false []) x0 (x0.length : Int) 0
 : Option (S57 × Int)) := (GoS_eq fd32 (tabH D h32) (x0)).trans (by kernel_rfl)
theorem L32_0_eq (x0 : S57) (x1 : S57) (x2 : List S38) (x3 : Int) (x4 : Int) : L32_0 x0 x1 x2 x3 x4 = (
  bif (decide (x4 < x3)) then
    grd (decide (0 ≤ x4)) <|
    grd (decide (x4 < (x2.length : Int))) <|
    (F76 (x2.getD (Int.toNat x4) z1)).bind fun y1 =>
    (F75 y1).bind fun y2 =>
    (F74 x1 y2).bind fun y3 =>
    L32_0 x0 y3 x2 x3 (wr .i64 (x4 + 1))
  else
  some (x1, 0)
 : Option (S57 × Int)) := (LiS_eq fd32 (tabH_nat h32) c32_0 (x0, x1, x2, x3, x4, ())).trans (by kernel_rfl)
/-! area.contours -/
theorem F77_eq (x0 : List S38) : F77 x0 = (
  L77_0 x0 [] [] x0 (x0.length : Int) 0
 : Option (List Int × List S57)) := (GoS_eq fd77 (tabH D h77) (x0)).trans (by kernel_rfl)
theorem L77_0_eq (x0 : List S38) (x1 : List Int) (x2 : List S57) (x3 : List S38) (x4 : Int) (x5 : Int) : L77_0 x0 x1 x2 x3 x4 x5 = (
  bif (decide (x5 < x4)) then
    grd (decide (0 ≤ x5)) <|
    grd (decide (x5 < (x3.length : Int))) <|
    bif (x5 == 0) then
      L77_2 x0 x1 x2 (x3.getD (Int.toNat x5) z1) x3 x4 x5
    else
    grd (decide (0 ≤ (wr .i64 (x5 - 1)))) <|
    grd (decide ((wr .i64 (x5 - 1)) < (x0.length : Int))) <|
    bif ((x3.getD (Int.toNat x5) z1).f0 != (x0.getD (Int.toNat (wr .i64 (x5 - 1))) z1).f0) then
      L77_2 x0 x1 x2 (x3.getD (Int.toNat x5) z1) x3 x4 x5
    else
    L77_1 x0 x1 x2 (x3.getD (Int.toNat x5) z1) x3 x4 x5
  else
  some (x1, x2)
 : Option (List Int × List S57)) := (LiS_eq fd77 (tabH_nat h77) c77_0 (x0, x1, x2, x3, x4, x5, ())).trans (by kernel_rfl)
theorem L77_1_eq (x0 : List S38) (x1 : List Int) (x2 : List S57) (x3 : S38) (x4 : List S38) (x5 : Int) (x6 : Int) : L77_1 x0 x1 x2 x3 x4 x5 x6 = (
  grd (decide (0 ≤ (wr .i64 ((x2.length : Int) - 1)))) <|
  grd (decide ((wr .i64 ((x2.length : Int) - 1)) < (x2.length : Int))) <|
  (F76 x3).bind fun y1 =>
  (F75 y1).bind fun y2 =>
  (F74 (x2.getD (Int.toNat (wr .i64 ((x2.length : Int) - 1))) z5) y2).bind fun y3 =>
  grd (decide (0 ≤ (wr .i64 ((x2.length : Int) - 1)))) <|
  grd (decide ((wr .i64 ((x2.length : Int) - 1)) < (x2.length : Int))) <|
  L77_0 x0 x1 (List.set x2 (Int.toNat (wr .i64 ((x2.length : Int) - 1))) y3) x4 x5 (wr .i64 (x6 + 1))
 : Option (List Int × List S57)) := (LiS_eq fd77 (tabH_nat h77) c77_1 (x0, x1, x2, x3, x4, x5, x6, ())).trans (by kernel_rfl)
theorem L77_2_eq (x0 : List S38) (x1 : List Int) (x2 : List S57) (x3 : S38) (x4 : List S38) (x5 : Int) (x6 : Int) : L77_2 x0 x1 x2 x3 x4 x5 x6 = (
  grd (fit (x1.length + [x3.f0].length) 8) <|
  grd (fit (x2.length + 1) 32) <|
  L77_1 x0 (x1 ++ [x3.f0]) (x2 ++ [(S57.mk false [])]) x3 x4 x5 x6
 : Option (List Int × List S57)) := (LiS_eq fd77 (tabH_nat h77) c77_2 (x0, x1, x2, x3, x4, x5, x6, ())).trans (by kernel_rfl)
/-! area.Contours -/
theorem F33_eq (x0 : List S38) : F33 x0 = (
  (F52 x0).bind fun y1 =>
  bif (!y1) then
    some ([], 1)
  else
  (F77 x0).bind fun y2 =>
  some (y2.2, 0)
 : Option (List S57 × Int)) := (GoS_eq fd33 (tabH D h33) (x0)).trans (by kernel_rfl)
/-! big.Sign -/
theorem F78_eq (x0 : S57) : F78 x0 = (
  (F105 x0.f1).bind fun y1 =>
  bif ((y1.length : Int) == 0) then
    some 0
  else
  bif x0.f0 then
    some (-1)
  else
  some 1
 : Option (Int)) := (GoS_eq fd78 (tabH D h78) (x0)).trans (by kernel_rfl)
/-! area.Right -/
theorem F34_eq (x0 : List S38) : F34 x0 = (
  (F52 x0).bind fun y1 =>
  bif (!y1) then
    some ([], 1)
  else
  (F77 x0).bind fun y2 =>
  L34_0 [] y2.1 y2.2 (y2.2.length : Int) 0
 : Option (List Int × Int)) := (GoS_eq fd34 (tabH D h34) (x0)).trans (by kernel_rfl)
theorem L34_0_eq (x0 : List Int) (x1 : List Int) (x2 : List S57) (x3 : Int) (x4 : Int) : L34_0 x0 x1 x2 x3 x4 = (
  bif (decide (x4 < x3)) then
    grd (decide (0 ≤ x4)) <|
    grd (decide (x4 < (x2.length : Int))) <|
    (F78 (x2.getD (Int.toNat x4) z5)).bind fun y1 =>
    bif (decide (y1 < 0)) then
      grd (decide (0 ≤ x4)) <|
      grd (decide (x4 < (x1.length : Int))) <|
      grd (fit (x0.length + [(x1.getD (Int.toNat x4) 0)].length) 8) <|
      L34_0 (x0 ++ [(x1.getD (Int.toNat x4) 0)]) x1 x2 x3 (wr .i64 (x4 + 1))
    else
    L34_0 x0 x1 x2 x3 (wr .i64 (x4 + 1))
  else
  some (x0, 0)
 : Option (List Int × Int)) := (LiS_eq fd34 (tabH_nat h34) c34_0 (x0, x1, x2, x3, x4, ())).trans (by kernel_rfl)
/-! pochoirlaw38.awake -/
theorem F31_eq : F31 = (
  (F32 [(S38.mk 0 false (S36.mk 0 0) (S36.mk 0 0) (S36.mk 2 0)), (S38.mk 0 false (S36.mk 2 0) (S36.mk 0 0) (S36.mk 2 2)), (S38.mk 0 false (S36.mk 2 2) (S36.mk 0 0) (S36.mk 0 2)), (S38.mk 0 false (S36.mk 0 2) (S36.mk 0 0) (S36.mk 0 0))]).bind fun y1 =>
  (F33 [(S38.mk 0 false (S36.mk 0 0) (S36.mk 0 0) (S36.mk 2 0)), (S38.mk 0 false (S36.mk 2 0) (S36.mk 0 0) (S36.mk 2 2)), (S38.mk 0 false (S36.mk 2 2) (S36.mk 0 0) (S36.mk 0 2)), (S38.mk 0 false (S36.mk 0 2) (S36.mk 0 0) (S36.mk 0 0))]).bind fun y2 =>
  (F34 [(S38.mk 0 false (S36.mk 0 0) (S36.mk 0 0) (S36.mk 2 0)), (S38.mk 0 false (S36.mk 2 0) (S36.mk 0 0) (S36.mk 2 2)), (S38.mk 0 false (S36.mk 2 2) (S36.mk 0 0) (S36.mk 0 2)), (S38.mk 0 false (S36.mk 0 2) (S36.mk 0 0) (S36.mk 0 0))]).bind fun y3 =>
  bif (y1.2 == 0) then
    bif ((y1.1.f1.length : Int) == 1) then
      grd (decide (0 < (y1.1.f1.length : Int))) <|
      bif ((y1.1.f1.getD 0 0) == 24) then
        bif (!y1.1.f0) then
          bif (y2.2 == 0) then
            bif ((y2.1.length : Int) == 1) then
              bif ((y3.1.length : Int) == 0) then
                some (y3.2 == 0)
              else
              some false
            else
            some false
          else
          some false
        else
        some false
      else
      some false
    else
    some false
  else
  some false
 : Option (Bool)) := (GoS_eq fd31 (tabH D h31) ()).trans (by kernel_rfl)
/-! pochoirref16.Closed -/
theorem F82_eq (x0 : List S38) : F82 x0 = (
  L82_0 x0 0 0
 : Option (Bool)) := (GoS_eq fd82 (tabH D h82) (x0)).trans (by kernel_rfl)
theorem L82_0_eq (x0 : List S38) (x1 : Int) (x2 : Int) : L82_0 x0 x1 x2 = (
  bif (decide (x2 < (x0.length : Int))) then
    grd (decide (0 ≤ x2)) <|
    grd (decide (x2 < (x0.length : Int))) <|
    grd (decide (0 ≤ x1)) <|
    grd (decide (x1 < (x0.length : Int))) <|
    bif ((x0.getD (Int.toNat x2) z1).f0 != (x0.getD (Int.toNat x1) z1).f0) then
      L82_1 x0 x2 x2
    else
    L82_1 x0 x1 x2
  else
  some true
 : Option (Bool)) := (LiS_eq fd82 (tabH_nat h82) c82_0 (x0, x1, x2, ())).trans (by kernel_rfl)
theorem L82_1_eq (x0 : List S38) (x1 : Int) (x2 : Int) : L82_1 x0 x1 x2 = (
  bif (x2 == (wr .i64 ((x0.length : Int) - 1))) then
    L82_2 x0 x1 x2 true
  else
  grd (decide (0 ≤ (wr .i64 (x2 + 1)))) <|
  grd (decide ((wr .i64 (x2 + 1)) < (x0.length : Int))) <|
  grd (decide (0 ≤ x2)) <|
  grd (decide (x2 < (x0.length : Int))) <|
  L82_2 x0 x1 x2 ((x0.getD (Int.toNat (wr .i64 (x2 + 1))) z1).f0 != (x0.getD (Int.toNat x2) z1).f0)
 : Option (Bool)) := (LiS_eq fd82 (tabH_nat h82) c82_1 (x0, x1, x2, ())).trans (by kernel_rfl)
theorem L82_2_eq (x0 : List S38) (x1 : Int) (x2 : Int) (x3 : Bool) : L82_2 x0 x1 x2 x3 = (
  bif x3 then
    grd (decide (0 ≤ x2)) <|
    grd (decide (x2 < (x0.length : Int))) <|
    grd (decide (0 ≤ x1)) <|
    grd (decide (x1 < (x0.length : Int))) <|
    bif (!(((x0.getD (Int.toNat x2) z1).f4.f0 == (x0.getD (Int.toNat x1) z1).f2.f0) && ((x0.getD (Int.toNat x2) z1).f4.f1 == (x0.getD (Int.toNat x1) z1).f2.f1))) then
      some false
    else
    bif (!x3) then
      grd (decide (0 ≤ x2)) <|
      grd (decide (x2 < (x0.length : Int))) <|
      grd (decide (0 ≤ (wr .i64 (x2 + 1)))) <|
      grd (decide ((wr .i64 (x2 + 1)) < (x0.length : Int))) <|
      bif (!(((x0.getD (Int.toNat x2) z1).f4.f0 == (x0.getD (Int.toNat (wr .i64 (x2 + 1))) z1).f2.f0) && ((x0.getD (Int.toNat x2) z1).f4.f1 == (x0.getD (Int.toNat (wr .i64 (x2 + 1))) z1).f2.f1))) then
        some false
      else
      L82_0 x0 x1 (wr .i64 (x2 + 1))
    else
    L82_0 x0 x1 (wr .i64 (x2 + 1))
  else
  bif (!x3) then
    grd (decide (0 ≤ x2)) <|
    grd (decide (x2 < (x0.length : Int))) <|
    grd (decide (0 ≤ (wr .i64 (x2 + 1)))) <|
    grd (decide ((wr .i64 (x2 + 1)) < (x0.length : Int))) <|
    bif (!(((x0.getD (Int.toNat x2) z1).f4.f0 == (x0.getD (Int.toNat (wr .i64 (x2 + 1))) z1).f2.f0) && ((x0.getD (Int.toNat x2) z1).f4.f1 == (x0.getD (Int.toNat (wr .i64 (x2 + 1))) z1).f2.f1))) then
      some false
    else
    L82_0 x0 x1 (wr .i64 (x2 + 1))
  else
  L82_0 x0 x1 (wr .i64 (x2 + 1))
 : Option (Bool)) := (LiS_eq fd82 (tabH_nat h82) c82_2 (x0, x1, x2, x3, ())).trans (by kernel_rfl)
/-! pochoirref16.May -/
theorem F40_eq (x0 : List S38) : F40 x0 = (
  bif (decide ((x0.length : Int) > 8192)) then
    some false
  else
  L40_0 x0 0
 : Option (Bool)) := (GoS_eq fd40 (tabH D h40) (x0)).trans (by kernel_rfl)
theorem L40_0_eq (x0 : List S38) (x1 : Int) : L40_0 x0 x1 = (
  bif (decide (x1 < (x0.length : Int))) then
    grd (decide (0 ≤ x1)) <|
    grd (decide (x1 < (x0.length : Int))) <|
    (F17 (x0.getD (Int.toNat x1) z1)).bind fun y1 =>
    bif (!y1) then
      some false
    else
    L40_0 x0 (wr .i64 (x1 + 1))
  else
  (F82 x0).bind fun y2 =>
  some y2
 : Option (Bool)) := (LiS_eq fd40 (tabH_nat h40) c40_0 (x0, x1, ())).trans (by kernel_rfl)
/-! pochoirref02.trim -/
theorem F115_eq (x0 : List Int) : F115 x0 = (
  L115_0 x0 (x0.length : Int)
 : Option (List Int)) := (GoS_eq fd115 (tabH D h115) (x0)).trans (by kernel_rfl)
theorem L115_0_eq (x0 : List Int) (x1 : Int) : L115_0 x0 x1 = (
  bif (decide (x1 > 0)) then
    grd (decide (0 ≤ (wr .i64 (x1 - 1)))) <|
    grd (decide ((wr .i64 (x1 - 1)) < (x0.length : Int))) <|
    bif ((x0.getD (Int.toNat (wr .i64 (x1 - 1))) 0) == 0) then
      L115_0 x0 (wr .i64 (x1 - 1))
    else
    grd (decide (0 ≤ x1)) <|
    grd (decide (x1 ≤ (x0.length : Int))) <|
    some (List.take (Int.toNat x1) x0)
  else
  grd (decide (0 ≤ x1)) <|
  grd (decide (x1 ≤ (x0.length : Int))) <|
  some (List.take (Int.toNat x1) x0)
 : Option (List Int)) := (LiS_eq fd115 (tabH_nat h115) c115_0 (x0, x1, ())).trans (by kernel_rfl)
/-! pochoirref02.norm -/
theorem F83_eq (x0 : Bool) (x1 : List Int) : F83 x0 x1 = (
  (F115 x1).bind fun y1 =>
  bif x0 then
    some (S71.mk (decide ((y1.length : Int) > 0)) y1)
  else
  some (S71.mk false y1)
 : Option (S71)) := (GoS_eq fd83 (tabH D h83) (x0, x1)).trans (by kernel_rfl)
/-! pochoirref02.Of -/
theorem F44_eq (x0 : Int) : F44 x0 = (
  bif (decide (x0 < 0)) then
    L44_0 x0 (S71.mk false []) (wr .u64 (0 - (wr .u64 x0)))
  else
  L44_0 x0 (S71.mk false []) (wr .u64 x0)
 : Option (S71)) := (GoS_eq fd44 (tabH D h44) (x0)).trans (by kernel_rfl)
theorem L44_0_eq (x0 : Int) (x1 : S71) (x2 : Int) : L44_0 x0 x1 x2 = (
  (F83 (decide (x0 < 0)) [(Int.tmod x2 (65536 : Int)), (Int.tmod (wr .u64 (Int.tdiv x2 (65536 : Int))) (65536 : Int)), (Int.tmod (wr .u64 (Int.tdiv x2 (4294967296 : Int))) (65536 : Int)), (wr .u64 (Int.tdiv x2 (281474976710656 : Int)))]).bind fun y1 =>
  some y1
 : Option (S71)) := (LiS_eq fd44 (tabH_nat h44) c44_0 (x0, x1, x2, ())).trans (by kernel_rfl)
/-! pochoirref02.at -/
theorem F79_eq (x0 : List Int) (x1 : Int) : F79 x0 x1 = (
  bif (decide (x1 < (x0.length : Int))) then
    grd (decide (0 ≤ x1)) <|
    grd (decide (x1 < (x0.length : Int))) <|
    some (x0.getD (Int.toNat x1) 0)
  else
  some 0
 : Option (Int)) := (GoS_eq fd79 (tabH D h79) (x0, x1)).trans (by kernel_rfl)
/-! pochoirref02.Mul -/
theorem F43_eq (x0 : S71) (x1 : S71) : F43 x0 x1 = (
  grd (decide (0 ≤ (wr .i64 ((wr .i64 ((x0.f1.length : Int) + (x1.f1.length : Int))) + 1)))) <|
  grd (decide ((wr .i64 ((wr .i64 ((x0.f1.length : Int) + (x1.f1.length : Int))) + 1)) ≤ (wr .i64 ((wr .i64 ((x0.f1.length : Int) + (x1.f1.length : Int))) + 1)))) <|
  grd (fitM (Int.toNat (wr .i64 ((wr .i64 ((x0.f1.length : Int) + (x1.f1.length : Int))) + 1))) 8) <|
  L43_0 x0 x1 (S71.mk false []) (List.replicate (Int.toNat (wr .i64 ((wr .i64 ((x0.f1.length : Int) + (x1.f1.length : Int))) + 1))) (0 : Int)) 0
 : Option (S71)) := (GoS_eq fd43 (tabH D h43) (x0, x1)).trans (by kernel_rfl)
theorem L43_0_eq (x0 : S71) (x1 : S71) (x2 : S71) (x3 : List Int) (x4 : Int) : L43_0 x0 x1 x2 x3 x4 = (
  bif (decide (x4 < (x0.f1.length : Int))) then
    L43_1 x0 x1 x2 x3 x4 0 0
  else
  (F83 (!(x0.f0 == x1.f0)) x3).bind fun y1 =>
  some y1
 : Option (S71)) := (LiS_eq fd43 (tabH_nat h43) c43_0 (x0, x1, x2, x3, x4, ())).trans (by kernel_rfl)
theorem L43_1_eq (x0 : S71) (x1 : S71) (x2 : S71) (x3 : List Int) (x4 : Int) (x5 : Int) (x6 : Int) : L43_1 x0 x1 x2 x3 x4 x5 x6 = (
  bif (decide (x6 < (x1.f1.length : Int))) then
    L43_2 x0 x1 x2 x3 x4 x5 x6
  else
  bif (decide (x5 > 0)) then
    L43_2 x0 x1 x2 x3 x4 x5 x6
  else
  L43_0 x0 x1 x2 x3 (wr .i64 (x4 + 1))
 : Option (S71)) := (LiS_eq fd43 (tabH_nat h43) c43_1 (x0, x1, x2, x3, x4, x5, x6, ())).trans (by kernel_rfl)
theorem L43_2_eq (x0 : S71) (x1 : S71) (x2 : S71) (x3 : List Int) (x4 : Int) (x5 : Int) (x6 : Int) : L43_2 x0 x1 x2 x3 x4 x5 x6 = (
  grd (decide (0 ≤ (wr .i64 (x4 + x6)))) <|
  grd (decide ((wr .i64 (x4 + x6)) < (x3.length : Int))) <|
  grd (decide (0 ≤ x4)) <|
  grd (decide (x4 < (x0.f1.length : Int))) <|
  (F79 x1.f1 x6).bind fun y1 =>
  grd (decide (0 ≤ (wr .i64 (x4 + x6)))) <|
  grd (decide ((wr .i64 (x4 + x6)) < (x3.length : Int))) <|
  L43_1 x0 x1 x2 (List.set x3 (Int.toNat (wr .i64 (x4 + x6))) (Int.tmod (wr .u64 ((wr .u64 ((x3.getD (Int.toNat (wr .i64 (x4 + x6))) 0) + (wr .u64 ((x0.f1.getD (Int.toNat x4) 0) * y1)))) + x5)) (65536 : Int))) x4 (wr .u64 (Int.tdiv (wr .u64 ((wr .u64 ((x3.getD (Int.toNat (wr .i64 (x4 + x6))) 0) + (wr .u64 ((x0.f1.getD (Int.toNat x4) 0) * y1)))) + x5)) (65536 : Int))) (wr .i64 (x6 + 1))
 : Option (S71)) := (LiS_eq fd43 (tabH_nat h43) c43_2 (x0, x1, x2, x3, x4, x5, x6, ())).trans (by kernel_rfl)
/-! pochoirref02.Neg -/
theorem F42_eq (x0 : S71) : F42 x0 = (
  (F83 (!x0.f0) x0.f1).bind fun y1 =>
  some y1
 : Option (S71)) := (GoS_eq fd42 (tabH D h42) (x0)).trans (by kernel_rfl)
/-! pochoirref02.plus -/
theorem F111_eq (x0 : List Int) (x1 : List Int) : F111 x0 x1 = (
  L111_0 x0 x1 [] 0 0
 : Option (List Int)) := (GoS_eq fd111 (tabH D h111) (x0, x1)).trans (by kernel_rfl)
theorem L111_0_eq (x0 : List Int) (x1 : List Int) (x2 : List Int) (x3 : Int) (x4 : Int) : L111_0 x0 x1 x2 x3 x4 = (
  bif (decide (x4 < (x0.length : Int))) then
    L111_1 x0 x1 x2 x3 x4
  else
  bif (decide (x4 < (x1.length : Int))) then
    L111_1 x0 x1 x2 x3 x4
  else
  bif (decide (x3 > 0)) then
    L111_1 x0 x1 x2 x3 x4
  else
  some x2
 : Option (List Int)) := (LiS_eq fd111 (tabH_nat h111) c111_0 (x0, x1, x2, x3, x4, ())).trans (by kernel_rfl)
theorem L111_1_eq (x0 : List Int) (x1 : List Int) (x2 : List Int) (x3 : Int) (x4 : Int) : L111_1 x0 x1 x2 x3 x4 = (
  (F79 x0 x4).bind fun y1 =>
  (F79 x1 x4).bind fun y2 =>
  grd (fit (x2.length + [(Int.tmod (wr .u64 ((wr .u64 (y1 + y2)) + x3)) (65536 : Int))].length) 8) <|
  L111_0 x0 x1 (x2 ++ [(Int.tmod (wr .u64 ((wr .u64 (y1 + y2)) + x3)) (65536 : Int))]) (wr .u64 (Int.tdiv (wr .u64 ((wr .u64 (y1 + y2)) + x3)) (65536 : Int))) (wr .i64 (x4 + 1))
 : Option (List Int)) := (LiS_eq fd111 (tabH_nat h111) c111_1 (x0, x1, x2, x3, x4, ())).trans (by kernel_rfl)
/-! pochoirref02.less -/
theorem F112_eq (x0 : List Int) (x1 : List Int) : F112 x0 x1 = (
  bif ((x0.length : Int) != (x1.length : Int)) then
    bif (decide ((x0.length : Int) < (x1.length : Int))) then
      some (-1)
    else
    some 1
  else
  L112_0 x0 x1 (wr .i64 ((x0.length : Int) - 1))
 : Option (Int)) := (GoS_eq fd112 (tabH D h112) (x0, x1)).trans (by kernel_rfl)
theorem L112_0_eq (x0 : List Int) (x1 : List Int) (x2 : Int) : L112_0 x0 x1 x2 = (
  bif (decide (x2 ≥ 0)) then
    grd (decide (0 ≤ x2)) <|
    grd (decide (x2 < (x0.length : Int))) <|
    grd (decide (0 ≤ x2)) <|
    grd (decide (x2 < (x1.length : Int))) <|
    bif (decide ((x0.getD (Int.toNat x2) 0) < (x1.getD (Int.toNat x2) 0))) then
      some (-1)
    else
    grd (decide (0 ≤ x2)) <|
    grd (decide (x2 < (x0.length : Int))) <|
    grd (decide (0 ≤ x2)) <|
    grd (decide (x2 < (x1.length : Int))) <|
    bif (decide ((x0.getD (Int.toNat x2) 0) > (x1.getD (Int.toNat x2) 0))) then
      some 1
    else
    L112_0 x0 x1 (wr .i64 (x2 - 1))
  else
  some 0
 : Option (Int)) := (LiS_eq fd112 (tabH_nat h112) c112_0 (x0, x1, x2, ())).trans (by kernel_rfl)
/-! pochoirref02.minus -/
theorem F113_eq (x0 : List Int) (x1 : List Int) : F113 x0 x1 = (
  L113_0 x0 x1 [] 0 0
 : Option (List Int)) := (GoS_eq fd113 (tabH D h113) (x0, x1)).trans (by kernel_rfl)
theorem L113_0_eq (x0 : List Int) (x1 : List Int) (x2 : List Int) (x3 : Int) (x4 : Int) : L113_0 x0 x1 x2 x3 x4 = (
  bif (decide (x4 < (x0.length : Int))) then
    grd (decide (0 ≤ x4)) <|
    grd (decide (x4 < (x0.length : Int))) <|
    (F79 x1 x4).bind fun y1 =>
    grd (fit (x2.length + [(Int.tmod (wr .u64 ((wr .u64 ((wr .u64 (65536 + (x0.getD (Int.toNat x4) 0))) - y1)) - x3)) (65536 : Int))].length) 8) <|
    L113_0 x0 x1 (x2 ++ [(Int.tmod (wr .u64 ((wr .u64 ((wr .u64 (65536 + (x0.getD (Int.toNat x4) 0))) - y1)) - x3)) (65536 : Int))]) (wr .u64 (1 - (wr .u64 (Int.tdiv (wr .u64 ((wr .u64 ((wr .u64 (65536 + (x0.getD (Int.toNat x4) 0))) - y1)) - x3)) (65536 : Int))))) (wr .i64 (x4 + 1))
  else
  some x2
 : Option (List Int)) := (LiS_eq fd113 (tabH_nat h113) c113_0 (x0, x1, x2, x3, x4, ())).trans (by kernel_rfl)
/-! pochoirref02.Add -/
theorem F80_eq (x0 : S71) (x1 : S71) : F80 x0 x1 = (
  bif (x0.f0 == x1.f0) then
    (F111 x0.f1 x1.f1).bind fun y1 =>
    (F83 x0.f0 y1).bind fun y2 =>
    some y2
  else
  (F112 x0.f1 x1.f1).bind fun y3 =>
  bif (decide (y3 ≥ 0)) then
    (F113 x0.f1 x1.f1).bind fun y4 =>
    (F83 x0.f0 y4).bind fun y5 =>
    some y5
  else
  (F113 x1.f1 x0.f1).bind fun y6 =>
  (F83 x1.f0 y6).bind fun y7 =>
  some y7
 : Option (S71)) := (GoS_eq fd80 (tabH D h80) (x0, x1)).trans (by kernel_rfl)
/-! pochoirref02.Sub -/
theorem F140_eq (x0 : S71) (x1 : S71) : F140 x0 x1 = (
  (F42 x1).bind fun y1 =>
  (F80 x0 y1).bind fun y2 =>
  some y2
 : Option (S71)) := (GoS_eq fd140 (tabH D h140) (x0, x1)).trans (by kernel_rfl)
/-! pochoirref38.cross -/
theorem F114_eq (x0 : S36) (x1 : S36) : F114 x0 x1 = (
  (F44 x0.f0).bind fun y1 =>
  (F44 x1.f1).bind fun y2 =>
  (F43 y1 y2).bind fun y3 =>
  (F44 x0.f1).bind fun y4 =>
  (F44 x1.f0).bind fun y5 =>
  (F43 y4 y5).bind fun y6 =>
  (F140 y3 y6).bind fun y7 =>
  some y7
 : Option (S71)) := (GoS_eq fd114 (tabH D h114) (x0, x1)).trans (by kernel_rfl)
/-! pochoirref38.one -/
theorem F81_eq (x0 : S38) : F81 x0 = (
  bif (!x0.f1) then
    (F114 x0.f2 x0.f4).bind fun y1 =>
    (F44 3).bind fun y2 =>
    (F43 y1 y2).bind fun y3 =>
    some y3
  else
  (F44 2).bind fun y4 =>
  (F114 x0.f2 x0.f3).bind fun y5 =>
  (F43 y5 y4).bind fun y6 =>
  (F114 x0.f3 x0.f4).bind fun y7 =>
  (F43 y7 y4).bind fun y8 =>
  (F80 y6 y8).bind fun y9 =>
  (F114 x0.f2 x0.f4).bind fun y10 =>
  (F80 y9 y10).bind fun y11 =>
  some y11
 : Option (S71)) := (GoS_eq fd81 (tabH D h81) (x0)).trans (by kernel_rfl)
/-! pochoirref38.Six -/
theorem F39_eq (x0 : List S38) : F39 x0 = (
  L39_0 x0 (S71.mk false []) (S71.mk false []) 0
 : Option (S71)) := (GoS_eq fd39 (tabH D h39) (x0)).trans (by kernel_rfl)
theorem L39_0_eq (x0 : List S38) (x1 : S71) (x2 : S71) (x3 : Int) : L39_0 x0 x1 x2 x3 = (
  bif (decide (x3 < (x0.length : Int))) then
    grd (decide (0 ≤ x3)) <|
    grd (decide (x3 < (x0.length : Int))) <|
    (F81 (x0.getD (Int.toNat x3) z1)).bind fun y1 =>
    (F80 x2 y1).bind fun y2 =>
    L39_0 x0 x1 y2 (wr .i64 (x3 + 1))
  else
  some x2
 : Option (S71)) := (LiS_eq fd39 (tabH_nat h39) c39_0 (x0, x1, x2, x3, ())).trans (by kernel_rfl)
/-! pochoirref38.Contours -/
theorem F35_eq (x0 : List S38) : F35 x0 = (
  (F40 x0).bind fun y1 =>
  bif (!y1) then
    some ([], ([], 1))
  else
  L35_0 x0 [] [] 0
 : Option (List S71 × List Int × Int)) := (GoS_eq fd35 (tabH D h35) (x0)).trans (by kernel_rfl)
theorem L35_0_eq (x0 : List S38) (x1 : List S71) (x2 : List Int) (x3 : Int) : L35_0 x0 x1 x2 x3 = (
  bif (decide (x3 < (x0.length : Int))) then
    L35_2 x0 x1 x2 x3 x3
  else
  some (x1, (x2, 0))
 : Option (List S71 × List Int × Int)) := (LiS_eq fd35 (tabH_nat h35) c35_0 (x0, x1, x2, x3, ())).trans (by kernel_rfl)
theorem L35_1_eq (x0 : List S38) (x1 : List S71) (x2 : List Int) (x3 : Int) (x4 : Int) : L35_1 x0 x1 x2 x3 x4 = (
  grd (decide (0 ≤ x4)) <|
  grd (decide (x4 ≤ (x0.length : Int))) <|
  grd (decide (0 ≤ x3)) <|
  grd (decide (x3 ≤ x4)) <|
  (F39 (List.take ((Int.toNat x4) - (Int.toNat x3)) (List.drop (Int.toNat x3) x0))).bind fun y1 =>
  grd (fit (x1.length + [y1].length) 32) <|
  grd (decide (0 ≤ x3)) <|
  grd (decide (x3 < (x0.length : Int))) <|
  grd (fit (x2.length + [(x0.getD (Int.toNat x3) z1).f0].length) 8) <|
  L35_0 x0 (x1 ++ [y1]) (x2 ++ [(x0.getD (Int.toNat x3) z1).f0]) x4
 : Option (List S71 × List Int × Int)) := (LiS_eq fd35 (tabH_nat h35) c35_1 (x0, x1, x2, x3, x4, ())).trans (by kernel_rfl)
theorem L35_2_eq (x0 : List S38) (x1 : List S71) (x2 : List Int) (x3 : Int) (x4 : Int) : L35_2 x0 x1 x2 x3 x4 = (
  bif (decide (x4 < (x0.length : Int))) then
    grd (decide (0 ≤ x4)) <|
    grd (decide (x4 < (x0.length : Int))) <|
    grd (decide (0 ≤ x3)) <|
    grd (decide (x3 < (x0.length : Int))) <|
    bif ((x0.getD (Int.toNat x4) z1).f0 == (x0.getD (Int.toNat x3) z1).f0) then
      L35_2 x0 x1 x2 x3 (wr .i64 (x4 + 1))
    else
    L35_1 x0 x1 x2 x3 x4
  else
  L35_1 x0 x1 x2 x3 x4
 : Option (List S71 × List Int × Int)) := (LiS_eq fd35 (tabH_nat h35) c35_2 (x0, x1, x2, x3, x4, ())).trans (by kernel_rfl)
/-! pochoirref38.Right -/
theorem F36_eq (x0 : List S38) : F36 x0 = (
  (F35 x0).bind fun y1 =>
  L36_0 y1.1 y1.2.1 [] 0
 : Option (List Int)) := (GoS_eq fd36 (tabH D h36) (x0)).trans (by kernel_rfl)
theorem L36_0_eq (x0 : List S71) (x1 : List Int) (x2 : List Int) (x3 : Int) : L36_0 x0 x1 x2 x3 = (
  bif (decide (x3 < (x0.length : Int))) then
    grd (decide (0 ≤ x3)) <|
    grd (decide (x3 < (x0.length : Int))) <|
    bif (x0.getD (Int.toNat x3) z6).f0 then
      grd (decide (0 ≤ x3)) <|
      grd (decide (x3 < (x1.length : Int))) <|
      grd (fit (x2.length + [(x1.getD (Int.toNat x3) 0)].length) 8) <|
      L36_0 x0 x1 (x2 ++ [(x1.getD (Int.toNat x3) 0)]) (wr .i64 (x3 + 1))
    else
    L36_0 x0 x1 x2 (wr .i64 (x3 + 1))
  else
  some x2
 : Option (List Int)) := (LiS_eq fd36 (tabH_nat h36) c36_0 (x0, x1, x2, x3, ())).trans (by kernel_rfl)
/-! pochoirref02.To -/
theorem F38_eq (x0 : S71) : F38 x0 = (
  L38_0 x0 (S57.mk false []) (S57.mk x0.f0 []) [] 0
 : Option (S57)) := (GoS_eq fd38 (tabH D h38) (x0)).trans (by kernel_rfl)
theorem L38_0_eq (x0 : S71) (x1 : S57) (x2 : S57) (x3 : List Int) (x4 : Int) : L38_0 x0 x1 x2 x3 x4 = (
  bif (decide (x4 < (x0.f1.length : Int))) then
    (F79 x0.f1 x4).bind fun y1 =>
    (F79 x0.f1 (wr .i64 (x4 + 1))).bind fun y2 =>
    grd (fit (x3.length + [(wr .u32 (wr .u64 (y1 + (wr .u64 (y2 * 65536)))))].length) 4) <|
    L38_0 x0 x1 (S57.mk x2.f0 []) (x3 ++ [(wr .u32 (wr .u64 (y1 + (wr .u64 (y2 * 65536)))))]) (wr .i64 (x4 + 2))
  else
  some (S57.mk x2.f0 x3)
 : Option (S57)) := (LiS_eq fd38 (tabH_nat h38) c38_0 (x0, x1, x2, x3, x4, ())).trans (by kernel_rfl)
/-! pochoirref02.Same -/
theorem F37_eq (x0 : S57) (x1 : S57) : F37 x0 x1 = (
  bif (!(x0.f0 == x1.f0)) then
    some false
  else
  bif ((x0.f1.length : Int) != (x1.f1.length : Int)) then
    some false
  else
  L37_0 x0 x1 0
 : Option (Bool)) := (GoS_eq fd37 (tabH D h37) (x0, x1)).trans (by kernel_rfl)
theorem L37_0_eq (x0 : S57) (x1 : S57) (x2 : Int) : L37_0 x0 x1 x2 = (
  bif (decide (x2 < (x0.f1.length : Int))) then
    grd (decide (0 ≤ x2)) <|
    grd (decide (x2 < (x0.f1.length : Int))) <|
    grd (decide (0 ≤ x2)) <|
    grd (decide (x2 < (x1.f1.length : Int))) <|
    bif ((x0.f1.getD (Int.toNat x2) 0) != (x1.f1.getD (Int.toNat x2) 0)) then
      some false
    else
    L37_0 x0 x1 (wr .i64 (x2 + 1))
  else
  some true
 : Option (Bool)) := (LiS_eq fd37 (tabH_nat h37) c37_0 (x0, x1, x2, ())).trans (by kernel_rfl)
/-! pochoirlaw38.AreaSix -/
theorem F7_eq (x0 : List S38) : F7 x0 = (
  F31.bind fun y1 =>
  bif (!y1) then
    some false
  else
  bif (decide ((x0.length : Int) > 60)) then
    some true
  else
  (F32 x0).bind fun y2 =>
  (F33 x0).bind fun y3 =>
  (F34 x0).bind fun y4 =>
  (F35 x0).bind fun y5 =>
  bif (y2.2 != y5.2.2) then
    some false
  else
  bif (y3.2 != y5.2.2) then
    some false
  else
  bif (y4.2 != y5.2.2) then
    some false
  else
  L7_0 x0 y2.1 y3.1 y4.1 y5.1 y5.2.2
 : Option (Bool)) := (GoS_eq fd7 (tabH D h7) (x0)).trans (by kernel_rfl)
theorem L7_0_eq (x0 : List S38) (x1 : S57) (x2 : List S57) (x3 : List Int) (x4 : List S71) (x5 : Int) : L7_0 x0 x1 x2 x3 x4 x5 = (
  bif (x5 != 0) then
    bif ((x1.f1.length : Int) == 0) then
      bif ((x2.length : Int) == 0) then
        some ((x3.length : Int) == 0)
      else
      some false
    else
    some false
  else
  (F36 x0).bind fun y1 =>
  (F39 x0).bind fun y2 =>
  (F38 y2).bind fun y3 =>
  (F37 x1 y3).bind fun y4 =>
  bif (!y4) then
    some false
  else
  bif ((x2.length : Int) != (x4.length : Int)) then
    some false
  else
  bif ((x3.length : Int) != (y1.length : Int)) then
    some false
  else
  L7_1 x2 x3 x4 y1
 : Option (Bool)) := (LiS_eq fd7 (tabH_nat h7) c7_0 (x0, x1, x2, x3, x4, x5, ())).trans (by kernel_rfl)
theorem L7_1_eq (x0 : List S57) (x1 : List Int) (x2 : List S71) (x3 : List Int) : L7_1 x0 x1 x2 x3 = (
  L7_2 x0 x1 x2 x3 (x0.length : Int) 0
 : Option (Bool)) := (LiS_eq fd7 (tabH_nat h7) c7_1 (x0, x1, x2, x3, ())).trans (by kernel_rfl)
theorem L7_2_eq (x0 : List S57) (x1 : List Int) (x2 : List S71) (x3 : List Int) (x4 : Int) (x5 : Int) : L7_2 x0 x1 x2 x3 x4 x5 = (
  bif (decide (x5 < x4)) then
    grd (decide (0 ≤ x5)) <|
    grd (decide (x5 < (x0.length : Int))) <|
    grd (decide (0 ≤ x5)) <|
    grd (decide (x5 < (x2.length : Int))) <|
    (F38 (x2.getD (Int.toNat x5) z6)).bind fun y1 =>
    (F37 (x0.getD (Int.toNat x5) z5) y1).bind fun y2 =>
    bif (!y2) then
      some false
    else
    L7_2 x0 x1 x2 x3 x4 (wr .i64 (x5 + 1))
  else
  L7_3 x1 x3 (x1.length : Int) 0
 : Option (Bool)) := (LiS_eq fd7 (tabH_nat h7) c7_2 (x0, x1, x2, x3, x4, x5, ())).trans (by kernel_rfl)
theorem L7_3_eq (x0 : List Int) (x1 : List Int) (x2 : Int) (x3 : Int) : L7_3 x0 x1 x2 x3 = (
  bif (decide (x3 < x2)) then
    grd (decide (0 ≤ x3)) <|
    grd (decide (x3 < (x0.length : Int))) <|
    grd (decide (0 ≤ x3)) <|
    grd (decide (x3 < (x1.length : Int))) <|
    bif ((x0.getD (Int.toNat x3) 0) != (x1.getD (Int.toNat x3) 0)) then
      some false
    else
    L7_3 x0 x1 x2 (wr .i64 (x3 + 1))
  else
  some true
 : Option (Bool)) := (LiS_eq fd7 (tabH_nat h7) c7_3 (x0, x1, x2, x3, ())).trans (by kernel_rfl)
/-! pochoirref02.From -/
theorem F41_eq (x0 : S57) : F41 x0 = (
  L41_0 x0 (S71.mk false []) [] 0
 : Option (S71)) := (GoS_eq fd41 (tabH D h41) (x0)).trans (by kernel_rfl)
theorem L41_0_eq (x0 : S57) (x1 : S71) (x2 : List Int) (x3 : Int) : L41_0 x0 x1 x2 x3 = (
  bif (decide (x3 < (x0.f1.length : Int))) then
    grd (decide (0 ≤ x3)) <|
    grd (decide (x3 < (x0.f1.length : Int))) <|
    grd (decide (0 ≤ x3)) <|
    grd (decide (x3 < (x0.f1.length : Int))) <|
    grd (fit (x2.length + [(Int.tmod (wr .u64 (x0.f1.getD (Int.toNat x3) 0)) (65536 : Int)), (wr .u64 (Int.tdiv (wr .u64 (x0.f1.getD (Int.toNat x3) 0)) (65536 : Int)))].length) 8) <|
    L41_0 x0 x1 (x2 ++ [(Int.tmod (wr .u64 (x0.f1.getD (Int.toNat x3) 0)) (65536 : Int)), (wr .u64 (Int.tdiv (wr .u64 (x0.f1.getD (Int.toNat x3) 0)) (65536 : Int)))]) (wr .i64 (x3 + 1))
  else
  (F83 x0.f0 x2).bind fun y1 =>
  some y1
 : Option (S71)) := (LiS_eq fd41 (tabH_nat h41) c41_0 (x0, x1, x2, x3, ())).trans (by kernel_rfl)
/-! pochoirlaw38.AreaTurned -/
theorem F8_eq (x0 : List S38) (x1 : S32) : F8 x0 x1 = (
  F31.bind fun y1 =>
  bif (!y1) then
    some false
  else
  bif (decide ((x0.length : Int) > 40)) then
    some true
  else
  (F40 x0).bind fun y2 =>
  bif (!y2) then
    some true
  else
  L8_0 x0 x1
 : Option (Bool)) := (GoS_eq fd8 (tabH D h8) (x0, x1)).trans (by kernel_rfl)
theorem L8_0_eq (x0 : List S38) (x1 : S32) : L8_0 x0 x1 = (
  L8_1 x0 (Int.tmod (wr .i64 x1.f0) (1048576 : Int)) (Int.tmod (wr .i64 x1.f1) (1048576 : Int)) [] [] [] x0 (x0.length : Int) 0
 : Option (Bool)) := (LiS_eq fd8 (tabH_nat h8) c8_0 (x0, x1, ())).trans (by kernel_rfl)
theorem L8_1_eq (x0 : List S38) (x1 : Int) (x2 : Int) (x3 : List S38) (x4 : List S38) (x5 : List S38) (x6 : List S38) (x7 : Int) (x8 : Int) : L8_1 x0 x1 x2 x3 x4 x5 x6 x7 x8 = (
  bif (decide (x8 < x7)) then
    grd (decide (0 ≤ x8)) <|
    grd (decide (x8 < (x6.length : Int))) <|
    L8_2 x0 x1 x2 x3 x4 x5 x8 (x6.getD (Int.toNat x8) z1) x6 x7 x8 [(x6.getD (Int.toNat x8) z1).f2, (x6.getD (Int.toNat x8) z1).f3, (x6.getD (Int.toNat x8) z1).f4] (3 : Int) 0
  else
  (F32 x0).bind fun y1 =>
  (F32 x3).bind fun y2 =>
  (F32 x4).bind fun y3 =>
  (F32 x5).bind fun y4 =>
  (F41 y1.1).bind fun y5 =>
  bif (y1.2 == 0) then
    bif (y2.2 == 0) then
      bif (y3.2 == 0) then
        bif (y4.2 == 0) then
          (F42 y5).bind fun y6 =>
          (F38 y6).bind fun y7 =>
          (F37 y2.1 y7).bind fun y8 =>
          bif y8 then
            (F37 y3.1 y1.1).bind fun y9 =>
            bif y9 then
              (F44 4).bind fun y10 =>
              (F43 y5 y10).bind fun y11 =>
              (F38 y11).bind fun y12 =>
              (F37 y4.1 y12).bind fun y13 =>
              some y13
            else
            some false
          else
          some false
        else
        some false
      else
      some false
    else
    some false
  else
  some false
 : Option (Bool)) := (LiS_eq fd8 (tabH_nat h8) c8_1 (x0, x1, x2, x3, x4, x5, x6, x7, x8, ())).trans (by kernel_rfl)
theorem L8_2_eq (x0 : List S38) (x1 : Int) (x2 : Int) (x3 : List S38) (x4 : List S38) (x5 : List S38) (x6 : Int) (x7 : S38) (x8 : List S38) (x9 : Int) (x10 : Int) (x11 : List S36) (x12 : Int) (x13 : Int) : L8_2 x0 x1 x2 x3 x4 x5 x6 x7 x8 x9 x10 x11 x12 x13 = (
  bif (decide (x13 < x12)) then
    grd (decide (0 ≤ x13)) <|
    grd (decide (x13 < (x11.length : Int))) <|
    bif (decide ((mxE (mxE (mxE (x11.getD (Int.toNat x13) z0).f0 (wr .i64 (0 - (x11.getD (Int.toNat x13) z0).f0))) (x11.getD (Int.toNat x13) z0).f1) (wr .i64 (0 - (x11.getD (Int.toNat x13) z0).f1))) > 1048576)) then
      some true
    else
    L8_2 x0 x1 x2 x3 x4 x5 x6 x7 x8 x9 x10 x11 x12 (wr .i64 (x13 + 1))
  else
  grd (decide (0 ≤ (wr .i64 ((wr .i64 ((x0.length : Int) - 1)) - x6)))) <|
  grd (decide ((wr .i64 ((wr .i64 ((x0.length : Int) - 1)) - x6)) < (x0.length : Int))) <|
  grd (fit (x3.length + [(S38.mk (x0.getD (Int.toNat (wr .i64 ((wr .i64 ((x0.length : Int) - 1)) - x6))) z1).f0 (x0.getD (Int.toNat (wr .i64 ((wr .i64 ((x0.length : Int) - 1)) - x6))) z1).f1 (x0.getD (Int.toNat (wr .i64 ((wr .i64 ((x0.length : Int) - 1)) - x6))) z1).f4 (x0.getD (Int.toNat (wr .i64 ((wr .i64 ((x0.length : Int) - 1)) - x6))) z1).f3 (x0.getD (Int.toNat (wr .i64 ((wr .i64 ((x0.length : Int) - 1)) - x6))) z1).f2)].length) 64) <|
  bif x7.f1 then
    L8_3 x0 x1 x2 (x3 ++ [(S38.mk (x0.getD (Int.toNat (wr .i64 ((wr .i64 ((x0.length : Int) - 1)) - x6))) z1).f0 (x0.getD (Int.toNat (wr .i64 ((wr .i64 ((x0.length : Int) - 1)) - x6))) z1).f1 (x0.getD (Int.toNat (wr .i64 ((wr .i64 ((x0.length : Int) - 1)) - x6))) z1).f4 (x0.getD (Int.toNat (wr .i64 ((wr .i64 ((x0.length : Int) - 1)) - x6))) z1).f3 (x0.getD (Int.toNat (wr .i64 ((wr .i64 ((x0.length : Int) - 1)) - x6))) z1).f2)]) x4 x5 x7 (S38.mk x7.f0 x7.f1 (S36.mk (wr .i64 (x7.f2.f0 + x1)) (wr .i64 (x7.f2.f1 + x2))) (S36.mk (wr .i64 (x7.f3.f0 + x1)) (wr .i64 (x7.f3.f1 + x2))) (S36.mk (wr .i64 (x7.f4.f0 + x1)) (wr .i64 (x7.f4.f1 + x2)))) x8 x9 x10
  else
  L8_3 x0 x1 x2 (x3 ++ [(S38.mk (x0.getD (Int.toNat (wr .i64 ((wr .i64 ((x0.length : Int) - 1)) - x6))) z1).f0 (x0.getD (Int.toNat (wr .i64 ((wr .i64 ((x0.length : Int) - 1)) - x6))) z1).f1 (x0.getD (Int.toNat (wr .i64 ((wr .i64 ((x0.length : Int) - 1)) - x6))) z1).f4 (x0.getD (Int.toNat (wr .i64 ((wr .i64 ((x0.length : Int) - 1)) - x6))) z1).f3 (x0.getD (Int.toNat (wr .i64 ((wr .i64 ((x0.length : Int) - 1)) - x6))) z1).f2)]) x4 x5 x7 (S38.mk x7.f0 x7.f1 (S36.mk (wr .i64 (x7.f2.f0 + x1)) (wr .i64 (x7.f2.f1 + x2))) x7.f3 (S36.mk (wr .i64 (x7.f4.f0 + x1)) (wr .i64 (x7.f4.f1 + x2)))) x8 x9 x10
 : Option (Bool)) := (LiS_eq fd8 (tabH_nat h8) c8_2 (x0, x1, x2, x3, x4, x5, x6, x7, x8, x9, x10, x11, x12, x13, ())).trans (by kernel_rfl)
theorem L8_3_eq (x0 : List S38) (x1 : Int) (x2 : Int) (x3 : List S38) (x4 : List S38) (x5 : List S38) (x6 : S38) (x7 : S38) (x8 : List S38) (x9 : Int) (x10 : Int) : L8_3 x0 x1 x2 x3 x4 x5 x6 x7 x8 x9 x10 = (
  grd (fit (x4.length + [x7].length) 64) <|
  grd (fit (x5.length + [(S38.mk x6.f0 x6.f1 (S36.mk (wr .i64 (2 * x6.f2.f0)) (wr .i64 (2 * x6.f2.f1))) (S36.mk (wr .i64 (2 * x6.f3.f0)) (wr .i64 (2 * x6.f3.f1))) (S36.mk (wr .i64 (2 * x6.f4.f0)) (wr .i64 (2 * x6.f4.f1))))].length) 64) <|
  L8_1 x0 x1 x2 x3 (x4 ++ [x7]) (x5 ++ [(S38.mk x6.f0 x6.f1 (S36.mk (wr .i64 (2 * x6.f2.f0)) (wr .i64 (2 * x6.f2.f1))) (S36.mk (wr .i64 (2 * x6.f3.f0)) (wr .i64 (2 * x6.f3.f1))) (S36.mk (wr .i64 (2 * x6.f4.f0)) (wr .i64 (2 * x6.f4.f1))))]) x8 x9 (wr .i64 (x10 + 1))
 : Option (Bool)) := (LiS_eq fd8 (tabH_nat h8) c8_3 (x0, x1, x2, x3, x4, x5, x6, x7, x8, x9, x10, ())).trans (by kernel_rfl)
end Go.Proofs.Ytalgppclaolonaa.Ev
