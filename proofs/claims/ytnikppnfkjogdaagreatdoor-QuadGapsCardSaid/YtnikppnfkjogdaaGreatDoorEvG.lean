/- Printed by a program of this claim: what the functions answer, each by an equation. -/
import Derived.Test.YtnikppnfkjogdaaGreatDoorEvF
namespace Go.Proofs.YtnikppnfkjogdaaGreatDoor.Ev
open Go
set_option linter.unusedVariables false
set_option maxRecDepth 100000
/-! plane.May -/
theorem F59_eq (x0 : S24) : F59 x0 = (
 bif (decide (x0.f0 ≥ (-33554432))) then
  bif (decide (x0.f0 ≤ 33554432)) then
   bif (decide (x0.f1 ≥ (-33554432))) then
    some (decide (x0.f1 ≤ 33554432))
   else
   some false
  else
  some false
 else
 some false
 : Option Bool) := (GoS_eq fd59 (tabH D h59) (x0)).trans (by kernel_rfl)
/-! plane.asked -/
theorem F148_eq (x0 : List S24) : F148 x0 = (
 L148_0 x0 (x0.length : Int) 0
 : Option Int) := (GoS_eq fd148 (tabH D h148) (x0)).trans (by kernel_rfl)
theorem L148_0_eq (x0 : List S24) (x1 x2 : Int) : L148_0 x0 x1 x2 = (
 bif (decide (x2 < x1)) then
  grd (decide (0 ≤ x2)) <|
  grd (decide (x2 < (x0.length : Int))) <|
  (F59 (x0.getD (Int.toNat x2) z0)).bind fun y1 =>
  bif (!y1) then
   some 1
  else
  L148_0 x0 x1 (wr .i64 (x2 + 1))
 else
 some 0
 : Option Int) := (LiS_eq fd148 (tabH_nat h148) c148_0 (x0, x1, x2, ())).trans (by kernel_rfl)
/-! plane.cross -/
theorem F150_eq (x0 x1 x2 : S24) : F150 x0 x1 x2 = (
 some (wr .i64 ((wr .i64 ((wr .i64 (x1.f0 - x0.f0)) * (wr .i64 (x2.f1 - x0.f1)))) - (wr .i64 ((wr .i64 (x1.f1 - x0.f1)) * (wr .i64 (x2.f0 - x0.f0))))))
 : Option Int) := (GoS_eq fd150 (tabH D h150) (x0, x1, x2)).trans (by kernel_rfl)
/-! plane.dot -/
theorem F149_eq (x0 x1 x2 : S24) : F149 x0 x1 x2 = (
 some (wr .i64 ((wr .i64 ((wr .i64 (x1.f0 - x0.f0)) * (wr .i64 (x2.f0 - x0.f0)))) + (wr .i64 ((wr .i64 (x1.f1 - x0.f1)) * (wr .i64 (x2.f1 - x0.f1))))))
 : Option Int) := (GoS_eq fd149 (tabH D h149) (x0, x1, x2)).trans (by kernel_rfl)
/-! big.trimmed -/
theorem F205_eq (x0 : List Int) : F205 x0 = (
 L205_0 x0 (x0.length : Int)
 : Option (List Int)) := (GoS_eq fd205 (tabH D h205) (x0)).trans (by kernel_rfl)
theorem L205_0_eq (x0 : List Int) (x1 : Int) : L205_0 x0 x1 = (
 bif (decide (x1 > 0)) then
  grd (decide (0 ≤ (wr .i64 (x1 - 1)))) <|
  grd (decide ((wr .i64 (x1 - 1)) < (x0.length : Int))) <|
  bif ((x0.getD (Int.toNat (wr .i64 (x1 - 1))) 0) == 0) then
   L205_0 x0 (wr .i64 (x1 - 1))
  else
  grd (decide (0 ≤ x1)) <|
  grd (decide (x1 ≤ (x0.length : Int))) <|
  some (List.take (Int.toNat x1) x0)
 else
 grd (decide (0 ≤ x1)) <|
 grd (decide (x1 ≤ (x0.length : Int))) <|
 some (List.take (Int.toNat x1) x0)
 : Option (List Int)) := (LiS_eq fd205 (tabH_nat h205) c205_0 (x0, x1, ())).trans (by kernel_rfl)
/-! big.form -/
theorem F156_eq (x0 : Bool) (x1 : List Int) : F156 x0 x1 = (
 (F205 x1).bind fun y1 =>
 bif ((y1.length : Int) == 0) then
  some (S77.mk false [])
 else
 some (S77.mk x0 y1)
 : Option (S77)) := (GoS_eq fd156 (tabH D h156) (x0, x1)).trans (by kernel_rfl)
/-! big.Of -/
theorem F155_eq (x0 : Int) : F155 x0 = (
 bif (decide (x0 < 0)) then
  L155_0 x0 (S77.mk false []) (wr .u64 (0 - (wr .u64 x0)))
 else
 L155_0 x0 (S77.mk false []) (wr .u64 x0)
 : Option (S77)) := (GoS_eq fd155 (tabH D h155) (x0)).trans (by kernel_rfl)
theorem L155_0_eq (x0 : Int) (x1 : S77) (x2 : Int) : L155_0 x0 x1 x2 = (
 (F156 (decide (x0 < 0)) [(wr .u32 x2), (wr .u32 (shrE .u64 x2 (32 : Int)))]).bind fun y1 =>
 some y1
 : Option (S77)) := (LiS_eq fd155 (tabH_nat h155) c155_0 (x0, x1, x2, ())).trans (by kernel_rfl)
/-! big.Sign -/
theorem F211_eq (x0 : S77) : F211 x0 = (
 (F205 x0.f1).bind fun y1 =>
 bif ((y1.length : Int) == 0) then
  some 0
 else
 bif x0.f0 then
  some (-1)
 else
 some 1
 : Option Int) := (GoS_eq fd211 (tabH D h211) (x0)).trans (by kernel_rfl)
/-! poly.trimmed -/
theorem F160_eq (x0 : List S77) : F160 x0 = (
 L160_0 x0 (x0.length : Int)
 : Option (List S77)) := (GoS_eq fd160 (tabH D h160) (x0)).trans (by kernel_rfl)
theorem L160_0_eq (x0 : List S77) (x1 : Int) : L160_0 x0 x1 = (
 bif (decide (x1 > 0)) then
  grd (decide (0 ≤ (wr .i64 (x1 - 1)))) <|
  grd (decide ((wr .i64 (x1 - 1)) < (x0.length : Int))) <|
  (F211 (x0.getD (Int.toNat (wr .i64 (x1 - 1))) z7)).bind fun y1 =>
  bif (y1 == 0) then
   L160_0 x0 (wr .i64 (x1 - 1))
  else
  grd (decide (0 ≤ x1)) <|
  grd (decide (x1 ≤ (x0.length : Int))) <|
  some (List.take (Int.toNat x1) x0)
 else
 grd (decide (0 ≤ x1)) <|
 grd (decide (x1 ≤ (x0.length : Int))) <|
 some (List.take (Int.toNat x1) x0)
 : Option (List S77)) := (LiS_eq fd160 (tabH_nat h160) c160_0 (x0, x1, ())).trans (by kernel_rfl)
/-! poly.Of -/
theorem F161_eq (x0 : List Int) : F161 x0 = (
 L161_0 [] x0 (x0.length : Int) 0
 : Option (List S77)) := (GoS_eq fd161 (tabH D h161) (x0)).trans (by kernel_rfl)
theorem L161_0_eq (x0 : List S77) (x1 : List Int) (x2 x3 : Int) : L161_0 x0 x1 x2 x3 = (
 bif (decide (x3 < x2)) then
  grd (decide (0 ≤ x3)) <|
  grd (decide (x3 < (x1.length : Int))) <|
  (F155 (x1.getD (Int.toNat x3) 0)).bind fun y1 =>
  grd (fit (x0.length + [y1].length) 32) <|
  L161_0 (x0 ++ [y1]) x1 x2 (wr .i64 (x3 + 1))
 else
 (F160 x0).bind fun y2 =>
 some y2
 : Option (List S77)) := (LiS_eq fd161 (tabH_nat h161) c161_0 (x0, x1, x2, x3, ())).trans (by kernel_rfl)
/-! big.Mul -/
theorem F154_eq (x0 x1 : S77) : F154 x0 x1 = (
 grd (decide (0 ≤ (wr .i64 ((x0.f1.length : Int) + (x1.f1.length : Int))))) <|
 grd (decide ((wr .i64 ((x0.f1.length : Int) + (x1.f1.length : Int))) ≤ (wr .i64 ((x0.f1.length : Int) + (x1.f1.length : Int))))) <|
 grd (fitM (Int.toNat (wr .i64 ((x0.f1.length : Int) + (x1.f1.length : Int)))) 4) <|
 L154_0 x0 x1 (S77.mk false []) (List.replicate (Int.toNat (wr .i64 ((x0.f1.length : Int) + (x1.f1.length : Int)))) (0 : Int)) x0.f1 (x0.f1.length : Int) 0
 : Option (S77)) := (GoS_eq fd154 (tabH D h154) (x0, x1)).trans (by kernel_rfl)
theorem L154_0_eq (x0 x1 x2 : S77) (x3 x4 : List Int) (x5 x6 : Int) : L154_0 x0 x1 x2 x3 x4 x5 x6 = (
 bif (decide (x6 < x5)) then
  grd (decide (0 ≤ x6)) <|
  grd (decide (x6 < (x4.length : Int))) <|
  L154_1 x0 x1 x2 x3 x6 (x4.getD (Int.toNat x6) 0) 0 x4 x5 x6 x1.f1 (x1.f1.length : Int) 0
 else
 (F156 (!(x0.f0 == x1.f0)) x3).bind fun y1 =>
 some y1
 : Option (S77)) := (LiS_eq fd154 (tabH_nat h154) c154_0 (x0, x1, x2, x3, x4, x5, x6, ())).trans (by kernel_rfl)
theorem L154_1_eq (x0 x1 x2 : S77) (x3 : List Int) (x4 x5 x6 : Int) (x7 : List Int) (x8 x9 : Int) (x10 : List Int) (x11 x12 : Int) : L154_1 x0 x1 x2 x3 x4 x5 x6 x7 x8 x9 x10 x11 x12 = (
 bif (decide (x12 < x11)) then
  grd (decide (0 ≤ x12)) <|
  grd (decide (x12 < (x10.length : Int))) <|
  grd (decide (0 ≤ (wr .i64 (x4 + x12)))) <|
  grd (decide ((wr .i64 (x4 + x12)) < (x3.length : Int))) <|
  grd (decide (0 ≤ (wr .i64 (x4 + x12)))) <|
  grd (decide ((wr .i64 (x4 + x12)) < (x3.length : Int))) <|
  L154_1 x0 x1 x2 (List.set x3 (Int.toNat (wr .i64 (x4 + x12))) (wr .u32 (wr .u64 ((wr .u64 ((wr .u64 ((wr .u64 x5) * (wr .u64 (x10.getD (Int.toNat x12) 0)))) + (wr .u64 (x3.getD (Int.toNat (wr .i64 (x4 + x12))) 0)))) + x6)))) x4 x5 (shrE .u64 (wr .u64 ((wr .u64 ((wr .u64 ((wr .u64 x5) * (wr .u64 (x10.getD (Int.toNat x12) 0)))) + (wr .u64 (x3.getD (Int.toNat (wr .i64 (x4 + x12))) 0)))) + x6)) (32 : Int)) x7 x8 x9 x10 x11 (wr .i64 (x12 + 1))
 else
 grd (decide (0 ≤ (wr .i64 (x4 + (x1.f1.length : Int))))) <|
 grd (decide ((wr .i64 (x4 + (x1.f1.length : Int))) < (x3.length : Int))) <|
 L154_0 x0 x1 x2 (List.set x3 (Int.toNat (wr .i64 (x4 + (x1.f1.length : Int)))) (wr .u32 x6)) x7 x8 (wr .i64 (x9 + 1))
 : Option (S77)) := (LiS_eq fd154 (tabH_nat h154) c154_1 (x0, x1, x2, x3, x4, x5, x6, x7, x8, x9, x10, x11, x12, ())).trans (by kernel_rfl)
/-! big.at -/
theorem F237_eq (x0 : List Int) (x1 : Int) : F237 x0 x1 = (
 bif (decide (x1 < (x0.length : Int))) then
  grd (decide (0 ≤ x1)) <|
  grd (decide (x1 < (x0.length : Int))) <|
  some (wr .u64 (x0.getD (Int.toNat x1) 0))
 else
 some 0
 : Option Int) := (GoS_eq fd237 (tabH D h237) (x0, x1)).trans (by kernel_rfl)
/-! big.plus -/
theorem F208_eq (x0 x1 : List Int) : F208 x0 x1 = (
 grd (decide (0 ≤ (mxE (x0.length : Int) (x1.length : Int)))) <|
 grd (decide ((mxE (x0.length : Int) (x1.length : Int)) ≤ (wr .i64 ((mxE (x0.length : Int) (x1.length : Int)) + 1)))) <|
 grd (fitM (Int.toNat (wr .i64 ((mxE (x0.length : Int) (x1.length : Int)) + 1))) 4) <|
 L208_0 x0 x1 (List.replicate (Int.toNat (mxE (x0.length : Int) (x1.length : Int))) (0 : Int)) 0 ((List.replicate (Int.toNat (mxE (x0.length : Int) (x1.length : Int))) (0 : Int)).length : Int) 0
 : Option (List Int)) := (GoS_eq fd208 (tabH D h208) (x0, x1)).trans (by kernel_rfl)
theorem L208_0_eq (x0 x1 x2 : List Int) (x3 x4 x5 : Int) : L208_0 x0 x1 x2 x3 x4 x5 = (
 bif (decide (x5 < x4)) then
  (F237 x0 x5).bind fun y1 =>
  (F237 x1 x5).bind fun y2 =>
  grd (decide (0 ≤ x5)) <|
  grd (decide (x5 < (x2.length : Int))) <|
  L208_0 x0 x1 (List.set x2 (Int.toNat x5) (wr .u32 (wr .u64 ((wr .u64 (y1 + y2)) + x3)))) (shrE .u64 (wr .u64 ((wr .u64 (y1 + y2)) + x3)) (32 : Int)) x4 (wr .i64 (x5 + 1))
 else
 grd (fit (x2.length + [(wr .u32 x3)].length) 4) <|
 some (x2 ++ [(wr .u32 x3)])
 : Option (List Int)) := (LiS_eq fd208 (tabH_nat h208) c208_0 (x0, x1, x2, x3, x4, x5, ())).trans (by kernel_rfl)
/-! cmp.isNaN[int] -/
theorem F247_eq (x0 : Int) : F247 x0 = (
 some (x0 != x0)
 : Option Bool) := (GoS_eq fd247 (tabH D h247) (x0)).trans (by kernel_rfl)
/-! cmp.Compare[int] -/
theorem F238_eq (x0 x1 : Int) : F238 x0 x1 = (
 (F247 x0).bind fun y1 =>
 (F247 x1).bind fun y2 =>
 bif y1 then
  bif y2 then
   some 0
  else
  some (-1)
 else
 bif y2 then
  some 1
 else
 bif (decide (x0 < x1)) then
  some (-1)
 else
 bif (decide (x0 > x1)) then
  some 1
 else
 some 0
 : Option Int) := (GoS_eq fd238 (tabH D h238) (x0, x1)).trans (by kernel_rfl)
/-! cmp.isNaN[uint32] -/
theorem F248_eq (x0 : Int) : F248 x0 = (
 some (x0 != x0)
 : Option Bool) := (GoS_eq fd248 (tabH D h248) (x0)).trans (by kernel_rfl)
/-! cmp.Compare[uint32] -/
theorem F239_eq (x0 x1 : Int) : F239 x0 x1 = (
 (F248 x0).bind fun y1 =>
 (F248 x1).bind fun y2 =>
 bif y1 then
  bif y2 then
   some 0
  else
  some (-1)
 else
 bif y2 then
  some 1
 else
 bif (decide (x0 < x1)) then
  some (-1)
 else
 bif (decide (x0 > x1)) then
  some 1
 else
 some 0
 : Option Int) := (GoS_eq fd239 (tabH D h239) (x0, x1)).trans (by kernel_rfl)
/-! big.against -/
theorem F209_eq (x0 x1 : List Int) : F209 x0 x1 = (
 (F238 (x0.length : Int) (x1.length : Int)).bind fun y1 =>
 bif (y1 != 0) then
  some y1
 else
 L209_0 x0 x1 (wr .i64 ((x0.length : Int) - 1))
 : Option Int) := (GoS_eq fd209 (tabH D h209) (x0, x1)).trans (by kernel_rfl)
theorem L209_0_eq (x0 x1 : List Int) (x2 : Int) : L209_0 x0 x1 x2 = (
 bif (decide (x2 ≥ 0)) then
  grd (decide (0 ≤ x2)) <|
  grd (decide (x2 < (x0.length : Int))) <|
  grd (decide (0 ≤ x2)) <|
  grd (decide (x2 < (x1.length : Int))) <|
  (F239 (x0.getD (Int.toNat x2) 0) (x1.getD (Int.toNat x2) 0)).bind fun y1 =>
  bif (y1 != 0) then
   some y1
  else
  L209_0 x0 x1 (wr .i64 (x2 - 1))
 else
 some 0
 : Option Int) := (LiS_eq fd209 (tabH_nat h209) c209_0 (x0, x1, x2, ())).trans (by kernel_rfl)
/-! big.minus -/
theorem F210_eq (x0 x1 : List Int) : F210 x0 x1 = (
 grd (decide ((x0.length : Int) ≤ (x0.length : Int))) <|
 grd (fitM (Int.toNat (x0.length : Int)) 4) <|
 L210_0 x0 x1 (List.replicate (Int.toNat (x0.length : Int)) (0 : Int)) 0 (x0.length : Int) 0
 : Option (List Int)) := (GoS_eq fd210 (tabH D h210) (x0, x1)).trans (by kernel_rfl)
theorem L210_0_eq (x0 x1 x2 : List Int) (x3 x4 x5 : Int) : L210_0 x0 x1 x2 x3 x4 x5 = (
 bif (decide (x5 < x4)) then
  grd (decide (0 ≤ x5)) <|
  grd (decide (x5 < (x0.length : Int))) <|
  (F237 x1 x5).bind fun y1 =>
  grd (decide (0 ≤ x5)) <|
  grd (decide (x5 < (x2.length : Int))) <|
  L210_0 x0 x1 (List.set x2 (Int.toNat x5) (wr .u32 (wr .u64 ((wr .u64 ((wr .u64 (x0.getD (Int.toNat x5) 0)) - y1)) - x3)))) (shrE .u64 (wr .u64 ((wr .u64 ((wr .u64 (x0.getD (Int.toNat x5) 0)) - y1)) - x3)) (63 : Int)) x4 (wr .i64 (x5 + 1))
 else
 some x2
 : Option (List Int)) := (LiS_eq fd210 (tabH_nat h210) c210_0 (x0, x1, x2, x3, x4, x5, ())).trans (by kernel_rfl)
/-! big.Add -/
theorem F159_eq (x0 x1 : S77) : F159 x0 x1 = (
 (F205 x0.f1).bind fun y1 =>
 (F205 x1.f1).bind fun y2 =>
 bif (x0.f0 == x1.f0) then
  (F208 y1 y2).bind fun y3 =>
  (F156 x0.f0 y3).bind fun y4 =>
  some y4
 else
 (F209 y1 y2).bind fun y5 =>
 bif (decide (y5 ≥ 0)) then
  (F210 y1 y2).bind fun y6 =>
  (F156 x0.f0 y6).bind fun y7 =>
  some y7
 else
 (F210 y2 y1).bind fun y8 =>
 (F156 x1.f0 y8).bind fun y9 =>
 some y9
 : Option (S77)) := (GoS_eq fd159 (tabH D h159) (x0, x1)).trans (by kernel_rfl)
/-! poly.Mul -/
theorem F98_eq (x0 x1 : List S77) : F98 x0 x1 = (
 grd (decide (0 ≤ (wr .i64 ((x0.length : Int) + (x1.length : Int))))) <|
 grd (decide ((wr .i64 ((x0.length : Int) + (x1.length : Int))) ≤ (wr .i64 ((x0.length : Int) + (x1.length : Int))))) <|
 grd (fitM (Int.toNat (wr .i64 ((x0.length : Int) + (x1.length : Int)))) 32) <|
 L98_0 x1 (List.replicate (Int.toNat (wr .i64 ((x0.length : Int) + (x1.length : Int)))) (S77.mk false [])) x0 (x0.length : Int) 0
 : Option (List S77)) := (GoS_eq fd98 (tabH D h98) (x0, x1)).trans (by kernel_rfl)
theorem L98_0_eq (x0 x1 x2 : List S77) (x3 x4 : Int) : L98_0 x0 x1 x2 x3 x4 = (
 bif (decide (x4 < x3)) then
  grd (decide (0 ≤ x4)) <|
  grd (decide (x4 < (x2.length : Int))) <|
  L98_1 x0 x1 x4 (x2.getD (Int.toNat x4) z7) x2 x3 x4 x0 (x0.length : Int) 0
 else
 (F160 x1).bind fun y1 =>
 some y1
 : Option (List S77)) := (LiS_eq fd98 (tabH_nat h98) c98_0 (x0, x1, x2, x3, x4, ())).trans (by kernel_rfl)
theorem L98_1_eq (x0 x1 : List S77) (x2 : Int) (x3 : S77) (x4 : List S77) (x5 x6 : Int) (x7 : List S77) (x8 x9 : Int) : L98_1 x0 x1 x2 x3 x4 x5 x6 x7 x8 x9 = (
 bif (decide (x9 < x8)) then
  grd (decide (0 ≤ x9)) <|
  grd (decide (x9 < (x7.length : Int))) <|
  grd (decide (0 ≤ (wr .i64 (x2 + x9)))) <|
  grd (decide ((wr .i64 (x2 + x9)) < (x1.length : Int))) <|
  (F154 x3 (x7.getD (Int.toNat x9) z7)).bind fun y1 =>
  (F159 (x1.getD (Int.toNat (wr .i64 (x2 + x9))) z7) y1).bind fun y2 =>
  grd (decide (0 ≤ (wr .i64 (x2 + x9)))) <|
  grd (decide ((wr .i64 (x2 + x9)) < (x1.length : Int))) <|
  L98_1 x0 (List.set x1 (Int.toNat (wr .i64 (x2 + x9))) y2) x2 x3 x4 x5 x6 x7 x8 (wr .i64 (x9 + 1))
 else
 L98_0 x0 x1 x4 x5 (wr .i64 (x6 + 1))
 : Option (List S77)) := (LiS_eq fd98 (tabH_nat h98) c98_1 (x0, x1, x2, x3, x4, x5, x6, x7, x8, x9, ())).trans (by kernel_rfl)
/-! poly.at -/
theorem F206_eq (x0 : List S77) (x1 : Int) : F206 x0 x1 = (
 bif (decide (x1 < 0)) then
  some (S77.mk false [])
 else
 bif (decide (x1 ≥ (x0.length : Int))) then
  some (S77.mk false [])
 else
 grd (decide (0 ≤ x1)) <|
 grd (decide (x1 < (x0.length : Int))) <|
 some (x0.getD (Int.toNat x1) z7)
 : Option (S77)) := (GoS_eq fd206 (tabH D h206) (x0, x1)).trans (by kernel_rfl)
/-! poly.each(big.Add) -/
theorem F157159_eq (x0 x1 : List S77) (x2 : Unit) : F157159 x0 x1 x2 = (
 L157159_0 x0 x1 [] (mxE (x0.length : Int) (x1.length : Int)) 0
 : Option (List S77)) := (GoS_eq fd157159 (tabH D h157159) (x0, x1, x2)).trans (by kernel_rfl)
theorem L157159_0_eq (x0 x1 x2 : List S77) (x3 x4 : Int) : L157159_0 x0 x1 x2 x3 x4 = (
 bif (decide (x4 < x3)) then
  (F206 x0 x4).bind fun y1 =>
  (F206 x1 x4).bind fun y2 =>
  (F159 y1 y2).bind fun y3 =>
  grd (fit (x2.length + [y3].length) 32) <|
  L157159_0 x0 x1 (x2 ++ [y3]) x3 (wr .i64 (x4 + 1))
 else
 (F160 x2).bind fun y4 =>
 some y4
 : Option (List S77)) := (LiS_eq fd157159 (tabH_nat h157159) c157159_0 (x0, x1, x2, x3, x4, ())).trans (by kernel_rfl)
/-! poly.Add -/
theorem F100_eq (x0 x1 : List S77) : F100 x0 x1 = (
 (F157159 x0 x1 ()).bind fun y1 =>
 some y1
 : Option (List S77)) := (GoS_eq fd100 (tabH D h100) (x0, x1)).trans (by kernel_rfl)
/-! ratio.size -/
theorem F79_eq (x0 : Int) : F79 x0 = (
 bif (decide (x0 < 0)) then
  some (wr .u64 (0 - (wr .u64 x0)))
 else
 some (wr .u64 x0)
 : Option Int) := (GoS_eq fd79 (tabH D h79) (x0)).trans (by kernel_rfl)
/-! wide.Of -/
theorem F78_eq (x0 : Int) : F78 x0 = (
 some (S102.mk 0 x0)
 : Option (S102)) := (GoS_eq fd78 (tabH D h78) (x0)).trans (by kernel_rfl)
/-! ratio.twos -/
theorem F129_eq (x0 : S102) : F129 x0 = (
 bif (x0.f1 != 0) then
  (F188 x0.f1).bind fun y1 =>
  some y1
 else
 (F188 x0.f0).bind fun y2 =>
 some (wr .i64 (64 + y2))
 : Option Int) := (GoS_eq fd129 (tabH D h129) (x0)).trans (by kernel_rfl)
/-! wide.right -/
theorem F189_eq (x0 : S102) (x1 : Int) : F189 x0 x1 = (
 bif (decide (x1 ≥ 64)) then
  grd (decide (0 ≤ (wr .u64 (x1 - 64)))) <|
  some (S102.mk 0 (shrE .u64 x0.f0 (wr .u64 (x1 - 64))))
 else
 grd (decide (0 ≤ x1)) <|
 grd (decide (0 ≤ x1)) <|
 grd (decide (0 ≤ (wr .u64 (64 - x1)))) <|
 some (S102.mk (shrE .u64 x0.f0 x1) (orE .u64 (shrE .u64 x0.f1 x1) (shlE .u64 x0.f0 (wr .u64 (64 - x1)))))
 : Option (S102)) := (GoS_eq fd189 (tabH D h189) (x0, x1)).trans (by kernel_rfl)
/-! math/bits.Len64 -/
theorem F229_eq (x0 : Int) : F229 x0 = (
 bif (decide (x0 ≥ 4294967296)) then
  L229_0 (shrE .u64 x0 (32 : Int)) 32
 else
 L229_0 x0 0
 : Option Int) := (GoS_eq fd229 (tabH D h229) (x0)).trans (by kernel_rfl)
theorem L229_0_eq (x0 x1 : Int) : L229_0 x0 x1 = (
 bif (decide (x0 ≥ 65536)) then
  L229_1 (shrE .u64 x0 (16 : Int)) (wr .i64 (x1 + 16))
 else
 L229_1 x0 x1
 : Option Int) := (LiS_eq fd229 (tabH_nat h229) c229_0 (x0, x1, ())).trans (by kernel_rfl)
theorem L229_1_eq (x0 x1 : Int) : L229_1 x0 x1 = (
 bif (decide (x0 ≥ 256)) then
  L229_2 (shrE .u64 x0 (8 : Int)) (wr .i64 (x1 + 8))
 else
 L229_2 x0 x1
 : Option Int) := (LiS_eq fd229 (tabH_nat h229) c229_1 (x0, x1, ())).trans (by kernel_rfl)
theorem L229_2_eq (x0 x1 : Int) : L229_2 x0 x1 = (
 grd (decide (0 ≤ (wr .u8 x0))) <|
 grd (decide ((wr .u8 x0) < 256)) <|
 some (wr .i64 (x1 + (wr .i64 (btE (ofBytes [0, 1, 2, 2, 3, 3, 3, 3, 4, 4, 4, 4, 4, 4, 4, 4, 5, 5, 5, 5, 5, 5, 5, 5, 5, 5, 5, 5, 5, 5, 5, 5, 6, 6, 6, 6, 6, 6, 6, 6, 6, 6, 6, 6, 6, 6, 6, 6, 6, 6, 6, 6, 6, 6, 6, 6, 6, 6, 6, 6, 6, 6, 6, 6, 7, 7, 7, 7, 7, 7, 7, 7, 7, 7, 7, 7, 7, 7, 7, 7, 7, 7, 7, 7, 7, 7, 7, 7, 7, 7, 7, 7, 7, 7, 7, 7, 7, 7, 7, 7, 7, 7, 7, 7, 7, 7, 7, 7, 7, 7, 7, 7, 7, 7, 7, 7, 7, 7, 7, 7, 7, 7, 7, 7, 7, 7, 7, 7, 8, 8, 8, 8, 8, 8, 8, 8, 8, 8, 8, 8, 8, 8, 8, 8, 8, 8, 8, 8, 8, 8, 8, 8, 8, 8, 8, 8, 8, 8, 8, 8, 8, 8, 8, 8, 8, 8, 8, 8, 8, 8, 8, 8, 8, 8, 8, 8, 8, 8, 8, 8, 8, 8, 8, 8, 8, 8, 8, 8, 8, 8, 8, 8, 8, 8, 8, 8, 8, 8, 8, 8, 8, 8, 8, 8, 8, 8, 8, 8, 8, 8, 8, 8, 8, 8, 8, 8, 8, 8, 8, 8, 8, 8, 8, 8, 8, 8, 8, 8, 8, 8, 8, 8, 8, 8, 8, 8, 8, 8, 8, 8, 8, 8, 8, 8, 8, 8, 8, 8, 8, 8, 8, 8, 8, 8, 8, 8]) (Int.toNat (wr .u8 x0))))))
 : Option Int) := (LiS_eq fd229 (tabH_nat h229) c229_2 (x0, x1, ())).trans (by kernel_rfl)
/-! wide.Bits -/
theorem F190_eq (x0 : S102) : F190 x0 = (
 bif (x0.f0 != 0) then
  (F229 x0.f0).bind fun y1 =>
  some (wr .i64 (64 + y1))
 else
 (F229 x0.f1).bind fun y2 =>
 some y2
 : Option Int) := (GoS_eq fd190 (tabH D h190) (x0)).trans (by kernel_rfl)
/-! wide.left -/
theorem F191_eq (x0 : S102) (x1 : Int) : F191 x0 x1 = (
 bif (decide (x1 ≥ 64)) then
  grd (decide (0 ≤ (wr .u64 (x1 - 64)))) <|
  some (S102.mk (shlE .u64 x0.f1 (wr .u64 (x1 - 64))) 0)
 else
 grd (decide (0 ≤ x1)) <|
 grd (decide (0 ≤ (wr .u64 (64 - x1)))) <|
 grd (decide (0 ≤ x1)) <|
 some (S102.mk (orE .u64 (shlE .u64 x0.f0 x1) (shrE .u64 x0.f1 (wr .u64 (64 - x1)))) (shlE .u64 x0.f1 x1))
 : Option (S102)) := (GoS_eq fd191 (tabH D h191) (x0, x1)).trans (by kernel_rfl)
/-! wide.Shift -/
theorem F130_eq (x0 : S102) (x1 : Int) : F130 x0 x1 = (
 bif ((x0.f0 == 0) && (x0.f1 == 0)) then
  some ((S102.mk 0 0), 0)
 else
 bif (decide (x1 ≤ (-128))) then
  some ((S102.mk 0 0), 0)
 else
 L130_0 x1 x0 (S102.mk 0 0)
 : Option (S102 × Int)) := (GoS_eq fd130 (tabH D h130) (x0, x1)).trans (by kernel_rfl)
theorem L130_0_eq (x0 : Int) (x1 x2 : S102) : L130_0 x0 x1 x2 = (
 bif (decide (x0 < 0)) then
  (F189 x1 (wr .u64 (wr .i64 (0 - x0)))).bind fun y1 =>
  some (y1, 0)
 else
 (F190 x1).bind fun y2 =>
 bif (decide (x0 > (wr .i64 (128 - y2)))) then
  some ((S102.mk 0 0), 2)
 else
 (F191 x1 (wr .u64 x0)).bind fun y3 =>
 some (y3, 0)
 : Option (S102 × Int)) := (LiS_eq fd130 (tabH_nat h130) c130_0 (x0, x1, x2, ())).trans (by kernel_rfl)
/-! cmp.isNaN[uint64] -/
theorem F230_eq (x0 : Int) : F230 x0 = (
 some (x0 != x0)
 : Option Bool) := (GoS_eq fd230 (tabH D h230) (x0)).trans (by kernel_rfl)
/-! cmp.Compare[uint64] -/
theorem F193_eq (x0 x1 : Int) : F193 x0 x1 = (
 (F230 x0).bind fun y1 =>
 (F230 x1).bind fun y2 =>
 bif y1 then
  bif y2 then
   some 0
  else
  some (-1)
 else
 bif y2 then
  some 1
 else
 bif (decide (x0 < x1)) then
  some (-1)
 else
 bif (decide (x0 > x1)) then
  some 1
 else
 some 0
 : Option Int) := (GoS_eq fd193 (tabH D h193) (x0, x1)).trans (by kernel_rfl)
/-! cmp.Or[int] -/
theorem F192_eq (x0 : List Int) : F192 x0 = (
 L192_0 0 x0 (x0.length : Int) 0
 : Option Int) := (GoS_eq fd192 (tabH D h192) (x0)).trans (by kernel_rfl)
theorem L192_0_eq (x0 : Int) (x1 : List Int) (x2 x3 : Int) : L192_0 x0 x1 x2 x3 = (
 bif (decide (x3 < x2)) then
  grd (decide (0 ≤ x3)) <|
  grd (decide (x3 < (x1.length : Int))) <|
  bif ((x1.getD (Int.toNat x3) 0) != x0) then
   some (x1.getD (Int.toNat x3) 0)
  else
  L192_0 x0 x1 x2 (wr .i64 (x3 + 1))
 else
 some x0
 : Option Int) := (LiS_eq fd192 (tabH_nat h192) c192_0 (x0, x1, x2, x3, ())).trans (by kernel_rfl)
/-! wide.Cmp -/
theorem F131_eq (x0 x1 : S102) : F131 x0 x1 = (
 (F193 x0.f0 x1.f0).bind fun y1 =>
 (F193 x0.f1 x1.f1).bind fun y2 =>
 (F192 [y1, y2]).bind fun y3 =>
 some y3
 : Option Int) := (GoS_eq fd131 (tabH D h131) (x0, x1)).trans (by kernel_rfl)
/-! wide.Sub -/
theorem F132_eq (x0 x1 : S102) : F132 x0 x1 = (
 (F194 x0.f1 x1.f1 0).bind fun y1 =>
 (F194 x0.f0 x1.f0 y1.2).bind fun y2 =>
 bif (y2.2 != 0) then
  some ((S102.mk 0 0), 2)
 else
 some ((S102.mk y2.1 y1.1), 0)
 : Option (S102 × Int)) := (GoS_eq fd132 (tabH D h132) (x0, x1)).trans (by kernel_rfl)
/-! ratio.common -/
theorem F77_eq (x0 x1 : S102) : F77 x0 x1 = (
 bif ((x0.f0 == 0) && (x0.f1 == 0)) then
  some x1
 else
 bif ((x1.f0 == 0) && (x1.f1 == 0)) then
  some x0
 else
 (F129 x0).bind fun y1 =>
 (F129 x1).bind fun y2 =>
 (F129 x0).bind fun y3 =>
 (F130 x0 (wr .i64 (0 - y3))).bind fun y4 =>
 L77_0 y4.1 x1 (S102.mk 0 0) (mnE y1 y2)
 : Option (S102)) := (GoS_eq fd77 (tabH D h77) (x0, x1)).trans (by kernel_rfl)
theorem L77_0_eq (x0 x1 x2 : S102) (x3 : Int) : L77_0 x0 x1 x2 x3 = (
 bif (!((x1.f0 == 0) && (x1.f1 == 0))) then
  (F129 x1).bind fun y1 =>
  (F130 x1 (wr .i64 (0 - y1))).bind fun y2 =>
  (F131 x0 y2.1).bind fun y3 =>
  bif (decide (y3 > 0)) then
   L77_1 y2.1 x0 x2 x3
  else
  L77_1 x0 y2.1 x2 x3
 else
 (F130 x0 x3).bind fun y4 =>
 some y4.1
 : Option (S102)) := (LiS_eq fd77 (tabH_nat h77) c77_0 (x0, x1, x2, x3, ())).trans (by kernel_rfl)
theorem L77_1_eq (x0 x1 x2 : S102) (x3 : Int) : L77_1 x0 x1 x2 x3 = (
 (F132 x1 x0).bind fun y1 =>
 L77_0 x0 y1.1 x2 x3
 : Option (S102)) := (LiS_eq fd77 (tabH_nat h77) c77_1 (x0, x1, x2, x3, ())).trans (by kernel_rfl)
/-! ratio.May -/
theorem F38_eq (x0 : S37) : F38 x0 = (
 bif (decide (x0.f1 > 0)) then
  (F79 x0.f0).bind fun y1 =>
  (F78 y1).bind fun y2 =>
  (F79 x0.f1).bind fun y3 =>
  (F78 y3).bind fun y4 =>
  (F77 y2 y4).bind fun y5 =>
  some ((y5.f0 == 0) && (y5.f1 == 1))
 else
 some false
 : Option Bool) := (GoS_eq fd38 (tabH D h38) (x0)).trans (by kernel_rfl)
/-! math/bits.Mul64 -/
theorem F153_eq (x0 x1 : Int) : F153 x0 x1 = (
 some ((wr .u64 ((wr .u64 ((wr .u64 ((shrE .u64 x0 (32 : Int)) * (shrE .u64 x1 (32 : Int)))) + (shrE .u64 (wr .u64 ((wr .u64 ((shrE .u64 x0 (32 : Int)) * (andE .u64 x1 (4294967295 : Int)))) + (shrE .u64 (wr .u64 ((andE .u64 x0 (4294967295 : Int)) * (andE .u64 x1 (4294967295 : Int)))) (32 : Int)))) (32 : Int)))) + (shrE .u64 (wr .u64 ((andE .u64 (wr .u64 ((wr .u64 ((shrE .u64 x0 (32 : Int)) * (andE .u64 x1 (4294967295 : Int)))) + (shrE .u64 (wr .u64 ((andE .u64 x0 (4294967295 : Int)) * (andE .u64 x1 (4294967295 : Int)))) (32 : Int)))) (4294967295 : Int)) + (wr .u64 ((andE .u64 x0 (4294967295 : Int)) * (shrE .u64 x1 (32 : Int)))))) (32 : Int)))), (wr .u64 (x0 * x1)))
 : Option (Int × Int)) := (GoS_eq fd153 (tabH D h153) (x0, x1)).trans (by kernel_rfl)
/-! wide.Mul -/
theorem F93_eq (x0 x1 : Int) : F93 x0 x1 = (
 (F153 x0 x1).bind fun y1 =>
 some (S102.mk y1.1 y1.2)
 : Option (S102)) := (GoS_eq fd93 (tabH D h93) (x0, x1)).trans (by kernel_rfl)
/-! ratio.times -/
theorem F134_eq (x0 x1 : Int) : F134 x0 x1 = (
 (F79 x0).bind fun y1 =>
 (F79 x1).bind fun y2 =>
 (F93 y1 y2).bind fun y3 =>
 some (S160.mk (!((decide (x0 < 0)) == (decide (x1 < 0)))) y3)
 : Option (S160)) := (GoS_eq fd134 (tabH D h134) (x0, x1)).trans (by kernel_rfl)
/-! ratio.Cmp -/
theorem F172_eq (x0 x1 : S37) : F172 x0 x1 = (
 (F38 x0).bind fun y1 =>
 bif (!y1) then
  some (0, 1)
 else
 (F38 x1).bind fun y2 =>
 bif (!y2) then
  some (0, 1)
 else
 L172_0 x0 x1
 : Option (Int × Int)) := (GoS_eq fd172 (tabH D h172) (x0, x1)).trans (by kernel_rfl)
theorem L172_0_eq (x0 x1 : S37) : L172_0 x0 x1 = (
 (F134 x0.f0 x1.f1).bind fun y1 =>
 (F134 x1.f0 x0.f1).bind fun y2 =>
 bif ((y1.f1.f0 == 0) && (y1.f1.f1 == 0)) then
  bif ((y2.f1.f0 == 0) && (y2.f1.f1 == 0)) then
   some (0, 0)
  else
  L172_1 x0 x1 y1 y2
 else
 L172_1 x0 x1 y1 y2
 : Option (Int × Int)) := (LiS_eq fd172 (tabH_nat h172) c172_0 (x0, x1, ())).trans (by kernel_rfl)
theorem L172_1_eq (x0 x1 : S37) (x2 x3 : S160) : L172_1 x0 x1 x2 x3 = (
 bif (decide (x0.f0 < 0)) then
  bif (decide (x1.f0 ≥ 0)) then
   some ((-1), 0)
  else
  L172_2 x0 x1 x2 x3
 else
 L172_2 x0 x1 x2 x3
 : Option (Int × Int)) := (LiS_eq fd172 (tabH_nat h172) c172_1 (x0, x1, x2, x3, ())).trans (by kernel_rfl)
theorem L172_2_eq (x0 x1 : S37) (x2 x3 : S160) : L172_2 x0 x1 x2 x3 = (
 bif (decide (x0.f0 ≥ 0)) then
  bif (decide (x1.f0 < 0)) then
   some (1, 0)
  else
  L172_3 x0 x2 x3
 else
 L172_3 x0 x2 x3
 : Option (Int × Int)) := (LiS_eq fd172 (tabH_nat h172) c172_2 (x0, x1, x2, x3, ())).trans (by kernel_rfl)
theorem L172_3_eq (x0 : S37) (x1 x2 : S160) : L172_3 x0 x1 x2 = (
 bif (decide (x0.f0 < 0)) then
  (F131 x2.f1 x1.f1).bind fun y1 =>
  some (y1, 0)
 else
 (F131 x1.f1 x2.f1).bind fun y2 =>
 some (y2, 0)
 : Option (Int × Int)) := (LiS_eq fd172 (tabH_nat h172) c172_3 (x0, x1, x2, ())).trans (by kernel_rfl)
/-! poly.Degree -/
theorem F212_eq (x0 : List S77) : F212 x0 = (
 (F160 x0).bind fun y1 =>
 some (wr .i64 ((y1.length : Int) - 1))
 : Option Int) := (GoS_eq fd212 (tabH D h212) (x0)).trans (by kernel_rfl)
/-! sturm.asked -/
theorem F168_eq (x0 : List S77) (x1 x2 : S37) : F168 x0 x1 x2 = (
 (F172 x1 x2).bind fun y1 =>
 bif (y1.2 != 0) then
  some 1
 else
 bif (decide (y1.1 ≥ 0)) then
  some 1
 else
 L168_0 x0
 : Option Int) := (GoS_eq fd168 (tabH D h168) (x0, x1, x2)).trans (by kernel_rfl)
theorem L168_0_eq (x0 : List S77) : L168_0 x0 = (
 (F212 x0).bind fun y1 =>
 bif (decide (y1 < 0)) then
  some 13
 else
 bif (decide (y1 > 12)) then
  some 6
 else
 some 0
 : Option Int) := (LiS_eq fd168 (tabH_nat h168) c168_0 (x0, ())).trans (by kernel_rfl)
/-! poly.value -/
theorem F241_eq (x0 : List S77) (x1 : S37) : F241 x0 x1 = (
 (F160 x0).bind fun y1 =>
 (F155 1).bind fun y2 =>
 (F155 x1.f0).bind fun y3 =>
 (F155 x1.f1).bind fun y4 =>
 L241_0 y1 (S77.mk false []) (S77.mk false []) y2 y3 y4 (wr .i64 ((y1.length : Int) - 1))
 : Option (S77)) := (GoS_eq fd241 (tabH D h241) (x0, x1)).trans (by kernel_rfl)
theorem L241_0_eq (x0 : List S77) (x1 x2 x3 x4 x5 : S77) (x6 : Int) : L241_0 x0 x1 x2 x3 x4 x5 x6 = (
 bif (decide (x6 ≥ 0)) then
  (F154 x2 x4).bind fun y1 =>
  grd (decide (0 ≤ x6)) <|
  grd (decide (x6 < (x0.length : Int))) <|
  (F154 (x0.getD (Int.toNat x6) z7) x3).bind fun y2 =>
  (F159 y1 y2).bind fun y3 =>
  (F154 x3 x5).bind fun y4 =>
  L241_0 x0 x1 y3 y4 x4 x5 (wr .i64 (x6 - 1))
 else
 some x2
 : Option (S77)) := (LiS_eq fd241 (tabH_nat h241) c241_0 (x0, x1, x2, x3, x4, x5, x6, ())).trans (by kernel_rfl)
/-! big.size -/
theorem F251_eq (x0 : Int) : F251 x0 = (
 bif (decide (x0 < 0)) then
  some (wr .u64 (0 - (wr .u64 x0)))
 else
 some (wr .u64 x0)
 : Option Int) := (GoS_eq fd251 (tabH D h251) (x0)).trans (by kernel_rfl)
/-! math/bits.LeadingZeros64 -/
theorem F250_eq (x0 : Int) : F250 x0 = (
 (F229 x0).bind fun y1 =>
 some (wr .i64 (64 - y1))
 : Option Int) := (GoS_eq fd250 (tabH D h250) (x0)).trans (by kernel_rfl)
/-! math/bits.Div64 -/
theorem F244_eq (x0 x1 x2 : Int) : F244 x0 x1 x2 = (
 bif (x2 == 0) then
  none
 else
 L244_0 x0 x1 x2
 : Option (Int × Int)) := (GoS_eq fd244 (tabH D h244) (x0, x1, x2)).trans (by kernel_rfl)
theorem L244_0_eq (x0 x1 x2 : Int) : L244_0 x0 x1 x2 = (
 bif (decide (x2 ≤ x0)) then
  none
 else
 L244_1 x0 x1 x2
 : Option (Int × Int)) := (LiS_eq fd244 (tabH_nat h244) c244_0 (x0, x1, x2, ())).trans (by kernel_rfl)
theorem L244_1_eq (x0 x1 x2 : Int) : L244_1 x0 x1 x2 = (
 bif (x0 == 0) then
  bif (decide (x2 = 0)) then
   none
  else
  bif (decide (x2 = 0)) then
   none
  else
  some ((wr .u64 (Int.tdiv x1 x2)), (Int.tmod x1 x2))
 else
 (F250 x2).bind fun y1 =>
 grd (decide (0 ≤ (wr .u64 y1))) <|
 grd (decide (0 ≤ (wr .u64 y1))) <|
 grd (decide (0 ≤ (wr .u64 (64 - (wr .u64 y1))))) <|
 grd (decide (0 ≤ (wr .u64 y1))) <|
 bif (decide ((shrE .u64 (shlE .u64 x2 (wr .u64 y1)) (32 : Int)) = 0)) then
  none
 else
 L244_3 (shlE .u64 x2 (wr .u64 y1)) (wr .u64 y1) (shrE .u64 (shlE .u64 x2 (wr .u64 y1)) (32 : Int)) (andE .u64 (shlE .u64 x2 (wr .u64 y1)) (4294967295 : Int)) (orE .u64 (shlE .u64 x0 (wr .u64 y1)) (shrE .u64 x1 (wr .u64 (64 - (wr .u64 y1))))) (shrE .u64 (shlE .u64 x1 (wr .u64 y1)) (32 : Int)) (andE .u64 (shlE .u64 x1 (wr .u64 y1)) (4294967295 : Int)) (wr .u64 (Int.tdiv (orE .u64 (shlE .u64 x0 (wr .u64 y1)) (shrE .u64 x1 (wr .u64 (64 - (wr .u64 y1))))) (shrE .u64 (shlE .u64 x2 (wr .u64 y1)) (32 : Int)))) (wr .u64 ((orE .u64 (shlE .u64 x0 (wr .u64 y1)) (shrE .u64 x1 (wr .u64 (64 - (wr .u64 y1))))) - (wr .u64 ((wr .u64 (Int.tdiv (orE .u64 (shlE .u64 x0 (wr .u64 y1)) (shrE .u64 x1 (wr .u64 (64 - (wr .u64 y1))))) (shrE .u64 (shlE .u64 x2 (wr .u64 y1)) (32 : Int)))) * (shrE .u64 (shlE .u64 x2 (wr .u64 y1)) (32 : Int))))))
 : Option (Int × Int)) := (LiS_eq fd244 (tabH_nat h244) c244_1 (x0, x1, x2, ())).trans (by kernel_rfl)
theorem L244_2_eq (x0 x1 x2 x3 x4 x5 x6 x7 : Int) : L244_2 x0 x1 x2 x3 x4 x5 x6 x7 = (
 bif (decide (x2 = 0)) then
  none
 else
 L244_6 x0 x1 x2 x3 x6 x7 (wr .u64 ((wr .u64 ((wr .u64 ((wr .u64 (x4 * 4294967296)) + x5)) - (wr .u64 (x7 * x0)))) - (wr .u64 ((wr .u64 (Int.tdiv (wr .u64 ((wr .u64 ((wr .u64 (x4 * 4294967296)) + x5)) - (wr .u64 (x7 * x0)))) x2)) * x2)))) (wr .u64 ((wr .u64 ((wr .u64 (x4 * 4294967296)) + x5)) - (wr .u64 (x7 * x0)))) (wr .u64 (Int.tdiv (wr .u64 ((wr .u64 ((wr .u64 (x4 * 4294967296)) + x5)) - (wr .u64 (x7 * x0)))) x2))
 : Option (Int × Int)) := (LiS_eq fd244 (tabH_nat h244) c244_2 (x0, x1, x2, x3, x4, x5, x6, x7, ())).trans (by kernel_rfl)
theorem L244_3_eq (x0 x1 x2 x3 x4 x5 x6 x7 x8 : Int) : L244_3 x0 x1 x2 x3 x4 x5 x6 x7 x8 = (
 bif (decide (x7 ≥ 4294967296)) then
  L244_4 x0 x1 x2 x3 x4 x5 x6 x7 x8
 else
 bif (decide ((wr .u64 (x7 * x3)) > (wr .u64 ((wr .u64 (4294967296 * x8)) + x5)))) then
  L244_4 x0 x1 x2 x3 x4 x5 x6 x7 x8
 else
 L244_2 x0 x1 x2 x3 x4 x5 x6 x7
 : Option (Int × Int)) := (LiS_eq fd244 (tabH_nat h244) c244_3 (x0, x1, x2, x3, x4, x5, x6, x7, x8, ())).trans (by kernel_rfl)
theorem L244_4_eq (x0 x1 x2 x3 x4 x5 x6 x7 x8 : Int) : L244_4 x0 x1 x2 x3 x4 x5 x6 x7 x8 = (
 bif (decide ((wr .u64 (x8 + x2)) ≥ 4294967296)) then
  L244_2 x0 x1 x2 x3 x4 x5 x6 (wr .u64 (x7 - 1))
 else
 L244_3 x0 x1 x2 x3 x4 x5 x6 (wr .u64 (x7 - 1)) (wr .u64 (x8 + x2))
 : Option (Int × Int)) := (LiS_eq fd244 (tabH_nat h244) c244_4 (x0, x1, x2, x3, x4, x5, x6, x7, x8, ())).trans (by kernel_rfl)
theorem L244_5_eq (x0 x1 x2 x3 x4 x5 : Int) : L244_5 x0 x1 x2 x3 x4 x5 = (
 grd (decide (0 ≤ x1)) <|
 some ((wr .u64 ((wr .u64 (x3 * 4294967296)) + x5)), (shrE .u64 (wr .u64 ((wr .u64 ((wr .u64 (x4 * 4294967296)) + x2)) - (wr .u64 (x5 * x0)))) x1))
 : Option (Int × Int)) := (LiS_eq fd244 (tabH_nat h244) c244_5 (x0, x1, x2, x3, x4, x5, ())).trans (by kernel_rfl)
theorem L244_6_eq (x0 x1 x2 x3 x4 x5 x6 x7 x8 : Int) : L244_6 x0 x1 x2 x3 x4 x5 x6 x7 x8 = (
 bif (decide (x8 ≥ 4294967296)) then
  L244_7 x0 x1 x2 x3 x4 x5 x6 x7 x8
 else
 bif (decide ((wr .u64 (x8 * x3)) > (wr .u64 ((wr .u64 (4294967296 * x6)) + x4)))) then
  L244_7 x0 x1 x2 x3 x4 x5 x6 x7 x8
 else
 L244_5 x0 x1 x4 x5 x7 x8
 : Option (Int × Int)) := (LiS_eq fd244 (tabH_nat h244) c244_6 (x0, x1, x2, x3, x4, x5, x6, x7, x8, ())).trans (by kernel_rfl)
theorem L244_7_eq (x0 x1 x2 x3 x4 x5 x6 x7 x8 : Int) : L244_7 x0 x1 x2 x3 x4 x5 x6 x7 x8 = (
 bif (decide ((wr .u64 (x6 + x2)) ≥ 4294967296)) then
  L244_5 x0 x1 x4 x5 x7 (wr .u64 (x8 - 1))
 else
 L244_6 x0 x1 x2 x3 x4 x5 (wr .u64 (x6 + x2)) x7 (wr .u64 (x8 - 1))
 : Option (Int × Int)) := (LiS_eq fd244 (tabH_nat h244) c244_7 (x0, x1, x2, x3, x4, x5, x6, x7, x8, ())).trans (by kernel_rfl)
/-! big.Div -/
theorem F249_eq (x0 : S77) (x1 : Int) : F249 x0 x1 = (
 bif (x1 == 0) then
  some ((S77.mk false []), (0, 13))
 else
 (F236 x0.f1).bind fun y1 =>
 L249_1 x1 x0 (S77.mk false []) y1 0 (wr .i64 ((y1.length : Int) - 1))
 : Option (S77 × Int × Int)) := (GoS_eq fd249 (tabH D h249) (x0, x1)).trans (by kernel_rfl)
theorem L249_0_eq (x0 : Int) (x1 x2 : S77) (x3 : List Int) (x4 : Int) : L249_0 x0 x1 x2 x3 x4 = (
 (F156 (!(x1.f0 == (decide (x0 < 0)))) x3).bind fun y1 =>
 some (y1, ((wr .i64 x4), 0))
 : Option (S77 × Int × Int)) := (LiS_eq fd249 (tabH_nat h249) c249_0 (x0, x1, x2, x3, x4, ())).trans (by kernel_rfl)
theorem L249_1_eq (x0 : Int) (x1 x2 : S77) (x3 : List Int) (x4 x5 : Int) : L249_1 x0 x1 x2 x3 x4 x5 = (
 bif (decide (x5 ≥ 0)) then
  grd (decide (0 ≤ x5)) <|
  grd (decide (x5 < (x3.length : Int))) <|
  (F251 x0).bind fun y1 =>
  (F244 (shrE .u64 x4 (32 : Int)) (orE .u64 (shlE .u64 x4 (32 : Int)) (wr .u64 (x3.getD (Int.toNat x5) 0))) y1).bind fun y2 =>
  grd (decide (0 ≤ x5)) <|
  grd (decide (x5 < (x3.length : Int))) <|
  L249_1 x0 x1 x2 (List.set x3 (Int.toNat x5) (wr .u32 y2.1)) y2.2 (wr .i64 (x5 - 1))
 else
 bif x1.f0 then
  L249_0 x0 x1 x2 x3 (wr .u64 (0 - x4))
 else
 L249_0 x0 x1 x2 x3 x4
 : Option (S77 × Int × Int)) := (LiS_eq fd249 (tabH_nat h249) c249_1 (x0, x1, x2, x3, x4, x5, ())).trans (by kernel_rfl)
/-! poly.parted -/
theorem F242_eq (x0 : List S77) (x1 : S37) : F242 x0 x1 = (
 grd (decide (0 ≤ (wr .i64 ((x0.length : Int) - 1)))) <|
 grd (decide ((wr .i64 ((x0.length : Int) - 1)) ≤ (wr .i64 ((x0.length : Int) - 1)))) <|
 grd (fitM (Int.toNat (wr .i64 ((x0.length : Int) - 1))) 32) <|
 L242_0 x0 x1 (List.replicate (Int.toNat (wr .i64 ((x0.length : Int) - 1))) (S77.mk false [])) (S77.mk false []) (wr .i64 ((x0.length : Int) - 1))
 : Option (List S77)) := (GoS_eq fd242 (tabH D h242) (x0, x1)).trans (by kernel_rfl)
theorem L242_0_eq (x0 : List S77) (x1 : S37) (x2 : List S77) (x3 : S77) (x4 : Int) : L242_0 x0 x1 x2 x3 x4 = (
 bif (decide (x4 ≥ 1)) then
  grd (decide (0 ≤ x4)) <|
  grd (decide (x4 < (x0.length : Int))) <|
  (F155 x1.f0).bind fun y1 =>
  (F154 x3 y1).bind fun y2 =>
  (F159 (x0.getD (Int.toNat x4) z7) y2).bind fun y3 =>
  (F249 y3 x1.f1).bind fun y4 =>
  grd (decide (0 ≤ (wr .i64 (x4 - 1)))) <|
  grd (decide ((wr .i64 (x4 - 1)) < (x2.length : Int))) <|
  L242_0 x0 x1 (List.set x2 (Int.toNat (wr .i64 (x4 - 1))) y4.1) y4.1 (wr .i64 (x4 - 1))
 else
 (F160 x2).bind fun y5 =>
 some y5
 : Option (List S77)) := (LiS_eq fd242 (tabH_nat h242) c242_0 (x0, x1, x2, x3, x4, ())).trans (by kernel_rfl)
/-! poly.Without -/
theorem F216_eq (x0 : List S77) (x1 : S37) : F216 x0 x1 = (
 (F100 x0 []).bind fun y1 =>
 (F38 x1).bind fun y2 =>
 bif (!y2) then
  some ([], (0, 1))
 else
 bif ((y1.length : Int) == 0) then
  some ([], (0, 13))
 else
 L216_0 y1 x1 0
 : Option (List S77 × Int × Int)) := (GoS_eq fd216 (tabH D h216) (x0, x1)).trans (by kernel_rfl)
theorem L216_0_eq (x0 : List S77) (x1 : S37) (x2 : Int) : L216_0 x0 x1 x2 = (
 bif (decide ((x0.length : Int) > 1)) then
  (F241 x0 x1).bind fun y1 =>
  (F211 y1).bind fun y2 =>
  bif (y2 == 0) then
   L216_1 x0 x1 x2
  else
  some (x0, (x2, 0))
 else
 some (x0, (x2, 0))
 : Option (List S77 × Int × Int)) := (LiS_eq fd216 (tabH_nat h216) c216_0 (x0, x1, x2, ())).trans (by kernel_rfl)
theorem L216_1_eq (x0 : List S77) (x1 : S37) (x2 : Int) : L216_1 x0 x1 x2 = (
 (F242 x0 x1).bind fun y1 =>
 L216_0 y1 x1 (wr .i64 (x2 + 1))
 : Option (List S77 × Int × Int)) := (LiS_eq fd216 (tabH_nat h216) c216_1 (x0, x1, x2, ())).trans (by kernel_rfl)
/-! big.Neg -/
theorem F207_eq (x0 : S77) : F207 x0 = (
 (F236 x0.f1).bind fun y1 =>
 (F156 (!x0.f0) y1).bind fun y2 =>
 some y2
 : Option (S77)) := (GoS_eq fd207 (tabH D h207) (x0)).trans (by kernel_rfl)
/-! big.Sub -/
theorem F158_eq (x0 x1 : S77) : F158 x0 x1 = (
 (F207 x1).bind fun y1 =>
 (F159 x0 y1).bind fun y2 =>
 some y2
 : Option (S77)) := (GoS_eq fd158 (tabH D h158) (x0, x1)).trans (by kernel_rfl)
/-! poly.each(big.Sub) -/
theorem F157158_eq (x0 x1 : List S77) (x2 : Unit) : F157158 x0 x1 x2 = (
 L157158_0 x0 x1 [] (mxE (x0.length : Int) (x1.length : Int)) 0
 : Option (List S77)) := (GoS_eq fd157158 (tabH D h157158) (x0, x1, x2)).trans (by kernel_rfl)
theorem L157158_0_eq (x0 x1 x2 : List S77) (x3 x4 : Int) : L157158_0 x0 x1 x2 x3 x4 = (
 bif (decide (x4 < x3)) then
  (F206 x0 x4).bind fun y1 =>
  (F206 x1 x4).bind fun y2 =>
  (F158 y1 y2).bind fun y3 =>
  grd (fit (x2.length + [y3].length) 32) <|
  L157158_0 x0 x1 (x2 ++ [y3]) x3 (wr .i64 (x4 + 1))
 else
 (F160 x2).bind fun y4 =>
 some y4
 : Option (List S77)) := (LiS_eq fd157158 (tabH_nat h157158) c157158_0 (x0, x1, x2, x3, x4, ())).trans (by kernel_rfl)
/-! poly.Sub -/
theorem F97_eq (x0 x1 : List S77) : F97 x0 x1 = (
 (F157158 x0 x1 ()).bind fun y1 =>
 some y1
 : Option (List S77)) := (GoS_eq fd97 (tabH D h97) (x0, x1)).trans (by kernel_rfl)
/-! sturm.negated -/
theorem F215_eq (x0 : List S77) : F215 x0 = (
 (F97 [] x0).bind fun y1 =>
 some y1
 : Option (List S77)) := (GoS_eq fd215 (tabH D h215) (x0)).trans (by kernel_rfl)
/-! sturm.without -/
theorem F170_eq (x0 : List S77) (x1 x2 : S37) : F170 x0 x1 x2 = (
 (F216 x0 x1).bind fun y1 =>
 (F216 y1.1 x2).bind fun y2 =>
 bif ((Int.tmod y2.2.1 (2 : Int)) == 1) then
  (F215 y2.1).bind fun y3 =>
  some y3
 else
 some y2.1
 : Option (List S77)) := (GoS_eq fd170 (tabH D h170) (x0, x1, x2)).trans (by kernel_rfl)
/-! poly.Derive -/
theorem F213_eq (x0 : List S77) : F213 x0 = (
 L213_0 x0 [] 1
 : Option (List S77)) := (GoS_eq fd213 (tabH D h213) (x0)).trans (by kernel_rfl)
theorem L213_0_eq (x0 x1 : List S77) (x2 : Int) : L213_0 x0 x1 x2 = (
 bif (decide (x2 < (x0.length : Int))) then
  grd (decide (0 ≤ x2)) <|
  grd (decide (x2 < (x0.length : Int))) <|
  (F155 x2).bind fun y1 =>
  (F154 (x0.getD (Int.toNat x2) z7) y1).bind fun y2 =>
  grd (fit (x1.length + [y2].length) 32) <|
  L213_0 x0 (x1 ++ [y2]) (wr .i64 (x2 + 1))
 else
 (F160 x1).bind fun y3 =>
 some y3
 : Option (List S77)) := (LiS_eq fd213 (tabH_nat h213) c213_0 (x0, x1, x2, ())).trans (by kernel_rfl)
/-! poly.sized -/
theorem F240_eq (x0 : S77) : F240 x0 = (
 (F211 x0).bind fun y1 =>
 bif (decide (y1 < 0)) then
  (F207 x0).bind fun y2 =>
  some y2
 else
 some x0
 : Option (S77)) := (GoS_eq fd240 (tabH D h240) (x0)).trans (by kernel_rfl)
/-! poly.Rest -/
theorem F214_eq (x0 x1 : List S77) : F214 x0 x1 = (
 (F160 x1).bind fun y1 =>
 bif ((y1.length : Int) == 0) then
  some ([], 13)
 else
 grd (decide (0 ≤ (wr .i64 ((y1.length : Int) - 1)))) <|
 grd (decide ((wr .i64 ((y1.length : Int) - 1)) < (y1.length : Int))) <|
 (F100 x0 []).bind fun y2 =>
 L214_0 y2 y1 (y1.getD (Int.toNat (wr .i64 ((y1.length : Int) - 1))) z7)
 : Option (List S77 × Int)) := (GoS_eq fd214 (tabH D h214) (x0, x1)).trans (by kernel_rfl)
theorem L214_0_eq (x0 x1 : List S77) (x2 : S77) : L214_0 x0 x1 x2 = (
 bif (decide ((x0.length : Int) ≥ (x1.length : Int))) then
  grd (decide (0 ≤ (wr .i64 ((x0.length : Int) - 1)))) <|
  grd (decide ((wr .i64 ((x0.length : Int) - 1)) < (x0.length : Int))) <|
  (F211 x2).bind fun y1 =>
  bif (decide (y1 < 0)) then
   (F207 (x0.getD (Int.toNat (wr .i64 ((x0.length : Int) - 1))) z7)).bind fun y2 =>
   L214_1 x0 x1 x2 y2
  else
  L214_1 x0 x1 x2 (x0.getD (Int.toNat (wr .i64 ((x0.length : Int) - 1))) z7)
 else
 some (x0, 0)
 : Option (List S77 × Int)) := (LiS_eq fd214 (tabH_nat h214) c214_0 (x0, x1, x2, ())).trans (by kernel_rfl)
theorem L214_1_eq (x0 x1 : List S77) (x2 x3 : S77) : L214_1 x0 x1 x2 x3 = (
 L214_2 x1 x2 x3 (wr .i64 ((x0.length : Int) - (x1.length : Int))) [] x0 (x0.length : Int) 0
 : Option (List S77 × Int)) := (LiS_eq fd214 (tabH_nat h214) c214_1 (x0, x1, x2, x3, ())).trans (by kernel_rfl)
theorem L214_2_eq (x0 : List S77) (x1 x2 : S77) (x3 : Int) (x4 x5 : List S77) (x6 x7 : Int) : L214_2 x0 x1 x2 x3 x4 x5 x6 x7 = (
 bif (decide (x7 < x6)) then
  grd (decide (0 ≤ x7)) <|
  grd (decide (x7 < (x5.length : Int))) <|
  (F240 x1).bind fun y1 =>
  (F154 (x5.getD (Int.toNat x7) z7) y1).bind fun y2 =>
  (F206 x0 (wr .i64 (x7 - x3))).bind fun y3 =>
  (F154 y3 x2).bind fun y4 =>
  (F158 y2 y4).bind fun y5 =>
  grd (fit (x4.length + [y5].length) 32) <|
  L214_2 x0 x1 x2 x3 (x4 ++ [y5]) x5 x6 (wr .i64 (x7 + 1))
 else
 (F160 x4).bind fun y6 =>
 L214_0 y6 x0 x1
 : Option (List S77 × Int)) := (LiS_eq fd214 (tabH_nat h214) c214_2 (x0, x1, x2, x3, x4, x5, x6, x7, ())).trans (by kernel_rfl)
/-! sturm.Chain -/
theorem F169_eq (x0 : List S77) : F169 x0 = (
 (F100 x0 []).bind fun y1 =>
 bif ((y1.length : Int) == 0) then
  some ([], 13)
 else
 bif (decide ((y1.length : Int) > 13)) then
  some ([], 6)
 else
 (F213 y1).bind fun y2 =>
 L169_0 y1 [y1] y2
 : Option (List (List S77) × Int)) := (GoS_eq fd169 (tabH D h169) (x0)).trans (by kernel_rfl)
theorem L169_0_eq (x0 : List S77) (x1 : List (List S77)) (x2 : List S77) : L169_0 x0 x1 x2 = (
 bif (decide ((x2.length : Int) > 0)) then
  grd (fit (x1.length + [x2].length) 24) <|
  (F214 x0 x2).bind fun y1 =>
  (F215 y1.1).bind fun y2 =>
  L169_0 x2 (x1 ++ [x2]) y2
 else
 some (x1, 0)
 : Option (List (List S77) × Int)) := (LiS_eq fd169 (tabH_nat h169) c169_0 (x0, x1, x2, ())).trans (by kernel_rfl)
/-! poly.At -/
theorem F218_eq (x0 : List S77) (x1 : S37) : F218 x0 x1 = (
 (F38 x1).bind fun y1 =>
 bif (!y1) then
  some ((S77.mk false []), 1)
 else
 (F241 x0 x1).bind fun y2 =>
 some (y2, 0)
 : Option (S77 × Int)) := (GoS_eq fd218 (tabH D h218) (x0, x1)).trans (by kernel_rfl)
/-! sturm.sign -/
theorem F232_eq (x0 : List S77) (x1 : S37) : F232 x0 x1 = (
 (F218 x0 x1).bind fun y1 =>
 (F211 y1.1).bind fun y2 =>
 some y2
 : Option Int) := (GoS_eq fd232 (tabH D h232) (x0, x1)).trans (by kernel_rfl)
/-! sturm.Changes -/
theorem F217_eq (x0 : List (List S77)) (x1 : S37) : F217 x0 x1 = (
 (F38 x1).bind fun y1 =>
 bif (!y1) then
  some (0, 1)
 else
 L217_0 x1 0 0 x0 (x0.length : Int) 0
 : Option (Int × Int)) := (GoS_eq fd217 (tabH D h217) (x0, x1)).trans (by kernel_rfl)
theorem L217_0_eq (x0 : S37) (x1 x2 : Int) (x3 : List (List S77)) (x4 x5 : Int) : L217_0 x0 x1 x2 x3 x4 x5 = (
 bif (decide (x5 < x4)) then
  grd (decide (0 ≤ x5)) <|
  grd (decide (x5 < (x3.length : Int))) <|
  (F232 (x3.getD (Int.toNat x5) []) x0).bind fun y1 =>
  bif (decide ((wr .i64 (y1 * x2)) < 0)) then
   bif (y1 != 0) then
    L217_0 x0 (wr .i64 (x1 + 1)) y1 x3 x4 (wr .i64 (x5 + 1))
   else
   L217_0 x0 (wr .i64 (x1 + 1)) x2 x3 x4 (wr .i64 (x5 + 1))
  else
  bif (y1 != 0) then
   L217_0 x0 x1 y1 x3 x4 (wr .i64 (x5 + 1))
  else
  L217_0 x0 x1 x2 x3 x4 (wr .i64 (x5 + 1))
 else
 some (x1, 0)
 : Option (Int × Int)) := (LiS_eq fd217 (tabH_nat h217) c217_0 (x0, x1, x2, x3, x4, x5, ())).trans (by kernel_rfl)
/-! sturm.roots -/
theorem F171_eq (x0 : List (List S77)) (x1 x2 : S37) : F171 x0 x1 x2 = (
 (F217 x0 x1).bind fun y1 =>
 (F217 x0 x2).bind fun y2 =>
 some (wr .i64 (y1.1 - y2.1))
 : Option Int) := (GoS_eq fd171 (tabH D h171) (x0, x1, x2)).trans (by kernel_rfl)
/-! wide.Div -/
theorem F231_eq (x0 : S102) (x1 : Int) : F231 x0 x1 = (
 bif (x1 == 0) then
  some ((S102.mk 0 0), (0, 13))
 else
 bif (decide (x1 = 0)) then
  none
 else
 bif (decide (x1 = 0)) then
  none
 else
 (F244 (Int.tmod x0.f0 x1) x0.f1 x1).bind fun y1 =>
 some ((S102.mk (wr .u64 (Int.tdiv x0.f0 x1)) y1.1), (y1.2, 0))
 : Option (S102 × Int × Int)) := (GoS_eq fd231 (tabH D h231) (x0, x1)).trans (by kernel_rfl)
/-! ratio.part -/
theorem F195_eq (x0 x1 : S102) : F195 x0 x1 = (
 bif (x1.f0 == 0) then
  (F231 x0 x1.f1).bind fun y1 =>
  some y1.1
 else
 L195_0 x0 x1 (S102.mk 0 0) (S102.mk 0 0) 63
 : Option (S102)) := (GoS_eq fd195 (tabH D h195) (x0, x1)).trans (by kernel_rfl)
theorem L195_0_eq (x0 x1 x2 x3 : S102) (x4 : Int) : L195_0 x0 x1 x2 x3 x4 = (
 bif (decide (x4 ≥ 0)) then
  (F130 x1 x4).bind fun y1 =>
  bif (y1.2 == 0) then
   (F131 x0 y1.1).bind fun y2 =>
   bif (decide (y2 ≥ 0)) then
    L195_1 x0 x1 x2 x3 x4 y1.1
   else
   L195_0 x0 x1 x2 x3 (wr .i64 (x4 - 1))
  else
  L195_0 x0 x1 x2 x3 (wr .i64 (x4 - 1))
 else
 some x3
 : Option (S102)) := (LiS_eq fd195 (tabH_nat h195) c195_0 (x0, x1, x2, x3, x4, ())).trans (by kernel_rfl)
theorem L195_1_eq (x0 x1 x2 x3 : S102) (x4 : Int) (x5 : S102) : L195_1 x0 x1 x2 x3 x4 x5 = (
 (F132 x0 x5).bind fun y1 =>
 grd (decide (0 ≤ x4)) <|
 L195_0 y1.1 x1 x2 (S102.mk x3.f0 (orE .u64 x3.f1 (shlE .u64 (1 : Int) x4))) (wr .i64 (x4 - 1))
 : Option (S102)) := (LiS_eq fd195 (tabH_nat h195) c195_1 (x0, x1, x2, x3, x4, x5, ())).trans (by kernel_rfl)
/-! ratio.fits -/
theorem F196_eq (x0 : Bool) (x1 : S102) : F196 x0 x1 = (
 bif (x1.f0 != 0) then
  some (0, false)
 else
 bif (decide (x1.f1 > 9223372036854775808)) then
  some (0, false)
 else
 bif (x1.f1 == 9223372036854775808) then
  bif (!x0) then
   some (0, false)
  else
  L196_0 x0 x1
 else
 L196_0 x0 x1
 : Option (Int × Bool)) := (GoS_eq fd196 (tabH D h196) (x0, x1)).trans (by kernel_rfl)
theorem L196_0_eq (x0 : Bool) (x1 : S102) : L196_0 x0 x1 = (
 bif x0 then
  some ((wr .i64 (wr .u64 (0 - x1.f1))), true)
 else
 some ((wr .i64 x1.f1), true)
 : Option (Int × Bool)) := (LiS_eq fd196 (tabH_nat h196) c196_0 (x0, x1, ())).trans (by kernel_rfl)
/-! ratio.lowest -/
theorem F133_eq (x0 x1 : S160) : F133 x0 x1 = (
 (F77 x0.f1 x1.f1).bind fun y1 =>
 (F195 x0.f1 y1).bind fun y2 =>
 (F195 x1.f1 y1).bind fun y3 =>
 bif (!(x0.f0 == x1.f0)) then
  (F196 (!((y2.f0 == 0) && (y2.f1 == 0))) y2).bind fun y4 =>
  L133_0 (S37.mk 0 0) y3 y4.1 y4.2
 else
 (F196 false y2).bind fun y5 =>
 L133_0 (S37.mk 0 0) y3 y5.1 y5.2
 : Option (S37 × Int)) := (GoS_eq fd133 (tabH D h133) (x0, x1)).trans (by kernel_rfl)
theorem L133_0_eq (x0 : S37) (x1 : S102) (x2 : Int) (x3 : Bool) : L133_0 x0 x1 x2 x3 = (
 (F196 false x1).bind fun y1 =>
 bif (!x3) then
  some ((S37.mk 0 0), 2)
 else
 bif (!y1.2) then
  some ((S37.mk 0 0), 2)
 else
 some ((S37.mk x2 y1.1), 0)
 : Option (S37 × Int)) := (LiS_eq fd133 (tabH_nat h133) c133_0 (x0, x1, x2, x3, ())).trans (by kernel_rfl)
/-! ratio.New -/
theorem F80_eq (x0 x1 : Int) : F80 x0 x1 = (
 bif (x1 == 0) then
  some ((S37.mk 0 0), 13)
 else
 (F134 x0 1).bind fun y1 =>
 (F134 x1 1).bind fun y2 =>
 (F133 y1 y2).bind fun y3 =>
 some y3
 : Option (S37 × Int)) := (GoS_eq fd80 (tabH D h80) (x0, x1)).trans (by kernel_rfl)
/-! pochoirref16.fine -/
theorem F75_eq (x0 : S24) : F75 x0 = (
 bif (decide (x0.f0 ≥ (-33554432))) then
  bif (decide (x0.f0 ≤ 33554432)) then
   bif (decide (x0.f1 ≥ (-33554432))) then
    some (decide (x0.f1 ≤ 33554432))
   else
   some false
  else
  some false
 else
 some false
 : Option Bool) := (GoS_eq fd75 (tabH D h75) (x0)).trans (by kernel_rfl)
/-! pochoirref16.same -/
theorem F76_eq (x0 : S34) : F76 x0 = (
 bif ((x0.f2.f0 == x0.f4.f0) && (x0.f2.f1 == x0.f4.f1)) then
  bif (!x0.f1) then
   some true
  else
  some ((x0.f2.f0 == x0.f3.f0) && (x0.f2.f1 == x0.f3.f1))
 else
 some false
 : Option Bool) := (GoS_eq fd76 (tabH D h76) (x0)).trans (by kernel_rfl)
/-! pochoirref16.One -/
theorem F35_eq (x0 : S34) : F35 x0 = (
 (F75 x0.f2).bind fun y1 =>
 bif y1 then
  (F75 x0.f3).bind fun y2 =>
  bif y2 then
   (F75 x0.f4).bind fun y3 =>
   bif y3 then
    (F76 x0).bind fun y4 =>
    bif (!y4) then
     bif x0.f1 then
      some true
     else
     some ((x0.f3.f0 == 0) && (x0.f3.f1 == 0))
    else
    some false
   else
   some false
  else
  some false
 else
 some false
 : Option Bool) := (GoS_eq fd35 (tabH D h35) (x0)).trans (by kernel_rfl)
/-! pochoirref18.May -/
theorem F31_eq (x0 : S24) : F31 x0 = (
 bif (decide (x0.f0 ≥ (-33554432))) then
  bif (decide (x0.f0 ≤ 33554432)) then
   bif (decide (x0.f1 ≥ (-33554432))) then
    some (decide (x0.f1 ≤ 33554432))
   else
   some false
  else
  some false
 else
 some false
 : Option Bool) := (GoS_eq fd31 (tabH D h31) (x0)).trans (by kernel_rfl)
/-! pochoirref02.trim -/
theorem F165_eq (x0 : List Int) : F165 x0 = (
 L165_0 x0 (x0.length : Int)
 : Option (List Int)) := (GoS_eq fd165 (tabH D h165) (x0)).trans (by kernel_rfl)
theorem L165_0_eq (x0 : List Int) (x1 : Int) : L165_0 x0 x1 = (
 bif (decide (x1 > 0)) then
  grd (decide (0 ≤ (wr .i64 (x1 - 1)))) <|
  grd (decide ((wr .i64 (x1 - 1)) < (x0.length : Int))) <|
  bif ((x0.getD (Int.toNat (wr .i64 (x1 - 1))) 0) == 0) then
   L165_0 x0 (wr .i64 (x1 - 1))
  else
  grd (decide (0 ≤ x1)) <|
  grd (decide (x1 ≤ (x0.length : Int))) <|
  some (List.take (Int.toNat x1) x0)
 else
 grd (decide (0 ≤ x1)) <|
 grd (decide (x1 ≤ (x0.length : Int))) <|
 some (List.take (Int.toNat x1) x0)
 : Option (List Int)) := (LiS_eq fd165 (tabH_nat h165) c165_0 (x0, x1, ())).trans (by kernel_rfl)
/-! pochoirref02.norm -/
theorem F105_eq (x0 : Bool) (x1 : List Int) : F105 x0 x1 = (
 (F165 x1).bind fun y1 =>
 bif x0 then
  some (S81.mk (decide ((y1.length : Int) > 0)) y1)
 else
 some (S81.mk false y1)
 : Option (S81)) := (GoS_eq fd105 (tabH D h105) (x0, x1)).trans (by kernel_rfl)
/-! pochoirref02.Of -/
theorem F55_eq (x0 : Int) : F55 x0 = (
 bif (decide (x0 < 0)) then
  L55_0 x0 (S81.mk false []) (wr .u64 (0 - (wr .u64 x0)))
 else
 L55_0 x0 (S81.mk false []) (wr .u64 x0)
 : Option (S81)) := (GoS_eq fd55 (tabH D h55) (x0)).trans (by kernel_rfl)
theorem L55_0_eq (x0 : Int) (x1 : S81) (x2 : Int) : L55_0 x0 x1 x2 = (
 (F105 (decide (x0 < 0)) [(Int.tmod x2 (65536 : Int)), (Int.tmod (wr .u64 (Int.tdiv x2 (65536 : Int))) (65536 : Int)), (Int.tmod (wr .u64 (Int.tdiv x2 (4294967296 : Int))) (65536 : Int)), (wr .u64 (Int.tdiv x2 (281474976710656 : Int)))]).bind fun y1 =>
 some y1
 : Option (S81)) := (LiS_eq fd55 (tabH_nat h55) c55_0 (x0, x1, x2, ())).trans (by kernel_rfl)
/-! pochoirref02.Sign -/
theorem F136_eq (x0 : S81) : F136 x0 = (
 bif ((x0.f1.length : Int) == 0) then
  some 0
 else
 bif x0.f0 then
  some (-1)
 else
 some 1
 : Option Int) := (GoS_eq fd136 (tabH D h136) (x0)).trans (by kernel_rfl)
/-! pochoirref05.Trim -/
theorem F104_eq (x0 : List S81) : F104 x0 = (
 L104_0 x0 (x0.length : Int)
 : Option (List S81)) := (GoS_eq fd104 (tabH D h104) (x0)).trans (by kernel_rfl)
theorem L104_0_eq (x0 : List S81) (x1 : Int) : L104_0 x0 x1 = (
 bif (decide (x1 > 0)) then
  grd (decide (0 ≤ (wr .i64 (x1 - 1)))) <|
  grd (decide ((wr .i64 (x1 - 1)) < (x0.length : Int))) <|
  (F136 (x0.getD (Int.toNat (wr .i64 (x1 - 1))) z8)).bind fun y1 =>
  bif (y1 == 0) then
   L104_0 x0 (wr .i64 (x1 - 1))
  else
  grd (decide (0 ≤ x1)) <|
  grd (decide (x1 ≤ (x0.length : Int))) <|
  some (List.take (Int.toNat x1) x0)
 else
 grd (decide (0 ≤ x1)) <|
 grd (decide (x1 ≤ (x0.length : Int))) <|
 some (List.take (Int.toNat x1) x0)
 : Option (List S81)) := (LiS_eq fd104 (tabH_nat h104) c104_0 (x0, x1, ())).trans (by kernel_rfl)
/-! pochoirref05.Of -/
theorem F65_eq (x0 : List Int) : F65 x0 = (
 L65_0 x0 [] 0
 : Option (List S81)) := (GoS_eq fd65 (tabH D h65) (x0)).trans (by kernel_rfl)
theorem L65_0_eq (x0 : List Int) (x1 : List S81) (x2 : Int) : L65_0 x0 x1 x2 = (
 bif (decide (x2 < (x0.length : Int))) then
  grd (decide (0 ≤ x2)) <|
  grd (decide (x2 < (x0.length : Int))) <|
  (F55 (x0.getD (Int.toNat x2) 0)).bind fun y1 =>
  grd (fit (x1.length + [y1].length) 32) <|
  L65_0 x0 (x1 ++ [y1]) (wr .i64 (x2 + 1))
 else
 (F104 x1).bind fun y2 =>
 some y2
 : Option (List S81)) := (LiS_eq fd65 (tabH_nat h65) c65_0 (x0, x1, x2, ())).trans (by kernel_rfl)
/-! pochoirref20.curve -/
theorem F50_eq (x0 : Bool) (x1 x2 x3 x4 : Int) : F50 x0 x1 x2 x3 x4 = (
 bif x0 then
  (F65 [(wr .i64 (x1 - x4)), (wr .i64 (2 * (wr .i64 (x2 - x1)))), (wr .i64 ((wr .i64 (x1 - (wr .i64 (2 * x2)))) + x3))]).bind fun y1 =>
  some y1
 else
 (F65 [(wr .i64 (2 * (wr .i64 (x1 - x4)))), (wr .i64 (2 * (wr .i64 (x3 - x1))))]).bind fun y2 =>
 some y2
 : Option (List S81)) := (GoS_eq fd50 (tabH D h50) (x0, x1, x2, x3, x4)).trans (by kernel_rfl)
/-! pochoirref05.at -/
theorem F103_eq (x0 : List S81) (x1 : Int) : F103 x0 x1 = (
 bif (decide (x1 ≥ 0)) then
  bif (decide (x1 < (x0.length : Int))) then
   grd (decide (0 ≤ x1)) <|
   grd (decide (x1 < (x0.length : Int))) <|
   some (x0.getD (Int.toNat x1) z8)
  else
  some (S81.mk false [])
 else
 some (S81.mk false [])
 : Option (S81)) := (GoS_eq fd103 (tabH D h103) (x0, x1)).trans (by kernel_rfl)
/-! pochoirref02.at -/
theorem F101_eq (x0 : List Int) (x1 : Int) : F101 x0 x1 = (
 bif (decide (x1 < (x0.length : Int))) then
  grd (decide (0 ≤ x1)) <|
  grd (decide (x1 < (x0.length : Int))) <|
  some (x0.getD (Int.toNat x1) 0)
 else
 some 0
 : Option Int) := (GoS_eq fd101 (tabH D h101) (x0, x1)).trans (by kernel_rfl)
/-! pochoirref02.Mul -/
theorem F53_eq (x0 x1 : S81) : F53 x0 x1 = (
 grd (decide (0 ≤ (wr .i64 ((wr .i64 ((x0.f1.length : Int) + (x1.f1.length : Int))) + 1)))) <|
 grd (decide ((wr .i64 ((wr .i64 ((x0.f1.length : Int) + (x1.f1.length : Int))) + 1)) ≤ (wr .i64 ((wr .i64 ((x0.f1.length : Int) + (x1.f1.length : Int))) + 1)))) <|
 grd (fitM (Int.toNat (wr .i64 ((wr .i64 ((x0.f1.length : Int) + (x1.f1.length : Int))) + 1))) 8) <|
 L53_0 x0 x1 (S81.mk false []) (List.replicate (Int.toNat (wr .i64 ((wr .i64 ((x0.f1.length : Int) + (x1.f1.length : Int))) + 1))) (0 : Int)) 0
 : Option (S81)) := (GoS_eq fd53 (tabH D h53) (x0, x1)).trans (by kernel_rfl)
theorem L53_0_eq (x0 x1 x2 : S81) (x3 : List Int) (x4 : Int) : L53_0 x0 x1 x2 x3 x4 = (
 bif (decide (x4 < (x0.f1.length : Int))) then
  L53_1 x0 x1 x2 x3 x4 0 0
 else
 (F105 (!(x0.f0 == x1.f0)) x3).bind fun y1 =>
 some y1
 : Option (S81)) := (LiS_eq fd53 (tabH_nat h53) c53_0 (x0, x1, x2, x3, x4, ())).trans (by kernel_rfl)
theorem L53_1_eq (x0 x1 x2 : S81) (x3 : List Int) (x4 x5 x6 : Int) : L53_1 x0 x1 x2 x3 x4 x5 x6 = (
 bif (decide (x6 < (x1.f1.length : Int))) then
  L53_2 x0 x1 x2 x3 x4 x5 x6
 else
 bif (decide (x5 > 0)) then
  L53_2 x0 x1 x2 x3 x4 x5 x6
 else
 L53_0 x0 x1 x2 x3 (wr .i64 (x4 + 1))
 : Option (S81)) := (LiS_eq fd53 (tabH_nat h53) c53_1 (x0, x1, x2, x3, x4, x5, x6, ())).trans (by kernel_rfl)
theorem L53_2_eq (x0 x1 x2 : S81) (x3 : List Int) (x4 x5 x6 : Int) : L53_2 x0 x1 x2 x3 x4 x5 x6 = (
 grd (decide (0 ≤ (wr .i64 (x4 + x6)))) <|
 grd (decide ((wr .i64 (x4 + x6)) < (x3.length : Int))) <|
 grd (decide (0 ≤ x4)) <|
 grd (decide (x4 < (x0.f1.length : Int))) <|
 (F101 x1.f1 x6).bind fun y1 =>
 grd (decide (0 ≤ (wr .i64 (x4 + x6)))) <|
 grd (decide ((wr .i64 (x4 + x6)) < (x3.length : Int))) <|
 L53_1 x0 x1 x2 (List.set x3 (Int.toNat (wr .i64 (x4 + x6))) (Int.tmod (wr .u64 ((wr .u64 ((x3.getD (Int.toNat (wr .i64 (x4 + x6))) 0) + (wr .u64 ((x0.f1.getD (Int.toNat x4) 0) * y1)))) + x5)) (65536 : Int))) x4 (wr .u64 (Int.tdiv (wr .u64 ((wr .u64 ((x3.getD (Int.toNat (wr .i64 (x4 + x6))) 0) + (wr .u64 ((x0.f1.getD (Int.toNat x4) 0) * y1)))) + x5)) (65536 : Int))) (wr .i64 (x6 + 1))
 : Option (S81)) := (LiS_eq fd53 (tabH_nat h53) c53_2 (x0, x1, x2, x3, x4, x5, x6, ())).trans (by kernel_rfl)
/-! pochoirref02.plus -/
theorem F162_eq (x0 x1 : List Int) : F162 x0 x1 = (
 L162_0 x0 x1 [] 0 0
 : Option (List Int)) := (GoS_eq fd162 (tabH D h162) (x0, x1)).trans (by kernel_rfl)
theorem L162_0_eq (x0 x1 x2 : List Int) (x3 x4 : Int) : L162_0 x0 x1 x2 x3 x4 = (
 bif (decide (x4 < (x0.length : Int))) then
  L162_1 x0 x1 x2 x3 x4
 else
 bif (decide (x4 < (x1.length : Int))) then
  L162_1 x0 x1 x2 x3 x4
 else
 bif (decide (x3 > 0)) then
  L162_1 x0 x1 x2 x3 x4
 else
 some x2
 : Option (List Int)) := (LiS_eq fd162 (tabH_nat h162) c162_0 (x0, x1, x2, x3, x4, ())).trans (by kernel_rfl)
theorem L162_1_eq (x0 x1 x2 : List Int) (x3 x4 : Int) : L162_1 x0 x1 x2 x3 x4 = (
 (F101 x0 x4).bind fun y1 =>
 (F101 x1 x4).bind fun y2 =>
 grd (fit (x2.length + [(Int.tmod (wr .u64 ((wr .u64 (y1 + y2)) + x3)) (65536 : Int))].length) 8) <|
 L162_0 x0 x1 (x2 ++ [(Int.tmod (wr .u64 ((wr .u64 (y1 + y2)) + x3)) (65536 : Int))]) (wr .u64 (Int.tdiv (wr .u64 ((wr .u64 (y1 + y2)) + x3)) (65536 : Int))) (wr .i64 (x4 + 1))
 : Option (List Int)) := (LiS_eq fd162 (tabH_nat h162) c162_1 (x0, x1, x2, x3, x4, ())).trans (by kernel_rfl)
/-! pochoirref02.less -/
theorem F163_eq (x0 x1 : List Int) : F163 x0 x1 = (
 bif ((x0.length : Int) != (x1.length : Int)) then
  bif (decide ((x0.length : Int) < (x1.length : Int))) then
   some (-1)
  else
  some 1
 else
 L163_0 x0 x1 (wr .i64 ((x0.length : Int) - 1))
 : Option Int) := (GoS_eq fd163 (tabH D h163) (x0, x1)).trans (by kernel_rfl)
theorem L163_0_eq (x0 x1 : List Int) (x2 : Int) : L163_0 x0 x1 x2 = (
 bif (decide (x2 ≥ 0)) then
  grd (decide (0 ≤ x2)) <|
  grd (decide (x2 < (x0.length : Int))) <|
  grd (decide (0 ≤ x2)) <|
  grd (decide (x2 < (x1.length : Int))) <|
  bif (decide ((x0.getD (Int.toNat x2) 0) < (x1.getD (Int.toNat x2) 0))) then
   some (-1)
  else
  grd (decide (0 ≤ x2)) <|
  grd (decide (x2 < (x0.length : Int))) <|
  grd (decide (0 ≤ x2)) <|
  grd (decide (x2 < (x1.length : Int))) <|
  bif (decide ((x0.getD (Int.toNat x2) 0) > (x1.getD (Int.toNat x2) 0))) then
   some 1
  else
  L163_0 x0 x1 (wr .i64 (x2 - 1))
 else
 some 0
 : Option Int) := (LiS_eq fd163 (tabH_nat h163) c163_0 (x0, x1, x2, ())).trans (by kernel_rfl)
/-! pochoirref02.minus -/
theorem F164_eq (x0 x1 : List Int) : F164 x0 x1 = (
 L164_0 x0 x1 [] 0 0
 : Option (List Int)) := (GoS_eq fd164 (tabH D h164) (x0, x1)).trans (by kernel_rfl)
theorem L164_0_eq (x0 x1 x2 : List Int) (x3 x4 : Int) : L164_0 x0 x1 x2 x3 x4 = (
 bif (decide (x4 < (x0.length : Int))) then
  grd (decide (0 ≤ x4)) <|
  grd (decide (x4 < (x0.length : Int))) <|
  (F101 x1 x4).bind fun y1 =>
  grd (fit (x2.length + [(Int.tmod (wr .u64 ((wr .u64 ((wr .u64 (65536 + (x0.getD (Int.toNat x4) 0))) - y1)) - x3)) (65536 : Int))].length) 8) <|
  L164_0 x0 x1 (x2 ++ [(Int.tmod (wr .u64 ((wr .u64 ((wr .u64 (65536 + (x0.getD (Int.toNat x4) 0))) - y1)) - x3)) (65536 : Int))]) (wr .u64 (1 - (wr .u64 (Int.tdiv (wr .u64 ((wr .u64 ((wr .u64 (65536 + (x0.getD (Int.toNat x4) 0))) - y1)) - x3)) (65536 : Int))))) (wr .i64 (x4 + 1))
 else
 some x2
 : Option (List Int)) := (LiS_eq fd164 (tabH_nat h164) c164_0 (x0, x1, x2, x3, x4, ())).trans (by kernel_rfl)
/-! pochoirref02.Add -/
theorem F102_eq (x0 x1 : S81) : F102 x0 x1 = (
 bif (x0.f0 == x1.f0) then
  (F162 x0.f1 x1.f1).bind fun y1 =>
  (F105 x0.f0 y1).bind fun y2 =>
  some y2
 else
 (F163 x0.f1 x1.f1).bind fun y3 =>
 bif (decide (y3 ≥ 0)) then
  (F164 x0.f1 x1.f1).bind fun y4 =>
  (F105 x0.f0 y4).bind fun y5 =>
  some y5
 else
 (F164 x1.f1 x0.f1).bind fun y6 =>
 (F105 x1.f0 y6).bind fun y7 =>
 some y7
 : Option (S81)) := (GoS_eq fd102 (tabH D h102) (x0, x1)).trans (by kernel_rfl)
/-! pochoirref05.Mul -/
theorem F52_eq (x0 x1 : List S81) : F52 x0 x1 = (
 L52_0 x0 x1 [] 0
 : Option (List S81)) := (GoS_eq fd52 (tabH D h52) (x0, x1)).trans (by kernel_rfl)
theorem L52_0_eq (x0 x1 x2 : List S81) (x3 : Int) : L52_0 x0 x1 x2 x3 = (
 bif (decide (x3 < (wr .i64 ((x0.length : Int) + (x1.length : Int))))) then
  L52_1 x0 x1 x2 x3 (S81.mk false []) 0
 else
 (F104 x2).bind fun y1 =>
 some y1
 : Option (List S81)) := (LiS_eq fd52 (tabH_nat h52) c52_0 (x0, x1, x2, x3, ())).trans (by kernel_rfl)
theorem L52_1_eq (x0 x1 x2 : List S81) (x3 : Int) (x4 : S81) (x5 : Int) : L52_1 x0 x1 x2 x3 x4 x5 = (
 bif (decide (x5 ≤ x3)) then
  (F103 x0 x5).bind fun y1 =>
  (F103 x1 (wr .i64 (x3 - x5))).bind fun y2 =>
  (F53 y1 y2).bind fun y3 =>
  (F102 x4 y3).bind fun y4 =>
  L52_1 x0 x1 x2 x3 y4 (wr .i64 (x5 + 1))
 else
 grd (fit (x2.length + [x4].length) 32) <|
 L52_0 x0 x1 (x2 ++ [x4]) (wr .i64 (x3 + 1))
 : Option (List S81)) := (LiS_eq fd52 (tabH_nat h52) c52_1 (x0, x1, x2, x3, x4, x5, ())).trans (by kernel_rfl)
/-! pochoirref05.Add -/
theorem F51_eq (x0 x1 : List S81) : F51 x0 x1 = (
 L51_1 x0 x1 [] 0
 : Option (List S81)) := (GoS_eq fd51 (tabH D h51) (x0, x1)).trans (by kernel_rfl)
theorem L51_0_eq (x0 : List S81) : L51_0 x0 = (
 (F104 x0).bind fun y1 =>
 some y1
 : Option (List S81)) := (LiS_eq fd51 (tabH_nat h51) c51_0 (x0, ())).trans (by kernel_rfl)
theorem L51_1_eq (x0 x1 x2 : List S81) (x3 : Int) : L51_1 x0 x1 x2 x3 = (
 bif (decide (x3 < (x0.length : Int))) then
  L51_2 x0 x1 x2 x3
 else
 bif (decide (x3 < (x1.length : Int))) then
  L51_2 x0 x1 x2 x3
 else
 L51_0 x2
 : Option (List S81)) := (LiS_eq fd51 (tabH_nat h51) c51_1 (x0, x1, x2, x3, ())).trans (by kernel_rfl)
theorem L51_2_eq (x0 x1 x2 : List S81) (x3 : Int) : L51_2 x0 x1 x2 x3 = (
 (F103 x0 x3).bind fun y1 =>
 (F103 x1 x3).bind fun y2 =>
 (F102 y1 y2).bind fun y3 =>
 grd (fit (x2.length + [y3].length) 32) <|
 L51_1 x0 x1 (x2 ++ [y3]) (wr .i64 (x3 + 1))
 : Option (List S81)) := (LiS_eq fd51 (tabH_nat h51) c51_2 (x0, x1, x2, x3, ())).trans (by kernel_rfl)
/-! pochoirref20.square -/
theorem F54_eq (x0 : Int) : F54 x0 = (
 (F55 x0).bind fun y1 =>
 (F55 x0).bind fun y2 =>
 (F53 y1 y2).bind fun y3 =>
 some y3
 : Option (S81)) := (GoS_eq fd54 (tabH D h54) (x0)).trans (by kernel_rfl)
/-! pochoirref20.whole -/
theorem F57_eq (x0 : S81) : F57 x0 = (
 (F104 [x0]).bind fun y1 =>
 some y1
 : Option (List S81)) := (GoS_eq fd57 (tabH D h57) (x0)).trans (by kernel_rfl)
/-! pochoirref02.Neg -/
theorem F138_eq (x0 : S81) : F138 x0 = (
 (F105 (!x0.f0) x0.f1).bind fun y1 =>
 some y1
 : Option (S81)) := (GoS_eq fd138 (tabH D h138) (x0)).trans (by kernel_rfl)
/-! pochoirref05.Neg -/
theorem F106_eq (x0 : List S81) : F106 x0 = (
 L106_0 x0 [] 0
 : Option (List S81)) := (GoS_eq fd106 (tabH D h106) (x0)).trans (by kernel_rfl)
theorem L106_0_eq (x0 x1 : List S81) (x2 : Int) : L106_0 x0 x1 x2 = (
 bif (decide (x2 < (x0.length : Int))) then
  grd (decide (0 ≤ x2)) <|
  grd (decide (x2 < (x0.length : Int))) <|
  (F138 (x0.getD (Int.toNat x2) z8)).bind fun y1 =>
  grd (fit (x1.length + [y1].length) 32) <|
  L106_0 x0 (x1 ++ [y1]) (wr .i64 (x2 + 1))
 else
 some x1
 : Option (List S81)) := (LiS_eq fd106 (tabH_nat h106) c106_0 (x0, x1, x2, ())).trans (by kernel_rfl)
/-! pochoirref05.Sub -/
theorem F56_eq (x0 x1 : List S81) : F56 x0 x1 = (
 (F106 x1).bind fun y1 =>
 (F51 x0 y1).bind fun y2 =>
 some y2
 : Option (List S81)) := (GoS_eq fd56 (tabH D h56) (x0, x1)).trans (by kernel_rfl)
/-! pochoirref20.Gap -/
theorem F27_eq (x0 : S24) (x1 : S34) (x2 x3 x4 : Int) : F27 x0 x1 x2 x3 x4 = (
 (F50 x1.f1 x1.f2.f0 x1.f3.f0 x1.f4.f0 x0.f0).bind fun y1 =>
 (F50 x1.f1 x1.f2.f1 x1.f3.f1 x1.f4.f1 x0.f1).bind fun y2 =>
 (F52 y1 y1).bind fun y3 =>
 (F52 y2 y2).bind fun y4 =>
 (F51 y3 y4).bind fun y5 =>
 (F54 x4).bind fun y6 =>
 (F54 x2).bind fun y7 =>
 (F53 y6 y7).bind fun y8 =>
 bif (!x1.f1) then
  (F55 4).bind fun y9 =>
  (F53 y8 y9).bind fun y10 =>
  L27_0 x3 y5 y10
 else
 L27_0 x3 y5 y8
 : Option (List S81)) := (GoS_eq fd27 (tabH D h27) (x0, x1, x2, x3, x4)).trans (by kernel_rfl)
theorem L27_0_eq (x0 : Int) (x1 : List S81) (x2 : S81) : L27_0 x0 x1 x2 = (
 (F54 x0).bind fun y1 =>
 (F57 y1).bind fun y2 =>
 (F52 x1 y2).bind fun y3 =>
 (F57 x2).bind fun y4 =>
 (F56 y3 y4).bind fun y5 =>
 some y5
 : Option (List S81)) := (LiS_eq fd27 (tabH_nat h27) c27_0 (x0, x1, x2, ())).trans (by kernel_rfl)
/-! quad.right -/
theorem F37_eq (x0 : S34) : F37 x0 = (
 (F59 x0.f2).bind fun y1 =>
 bif (!y1) then
  some false
 else
 (F59 x0.f3).bind fun y2 =>
 bif (!y2) then
  some false
 else
 (F59 x0.f4).bind fun y3 =>
 bif (!y3) then
  some false
 else
 L37_0 x0
 : Option Bool) := (GoS_eq fd37 (tabH D h37) (x0)).trans (by kernel_rfl)
theorem L37_0_eq (x0 : S34) : L37_0 x0 = (
 bif x0.f1 then
  bif (!((x0.f2.f0 == x0.f3.f0) && (x0.f2.f1 == x0.f3.f1))) then
   some true
  else
  some (!((x0.f2.f0 == x0.f4.f0) && (x0.f2.f1 == x0.f4.f1)))
 else
 bif (!((x0.f2.f0 == x0.f4.f0) && (x0.f2.f1 == x0.f4.f1))) then
  some ((x0.f3.f0 == 0) && (x0.f3.f1 == 0))
 else
 some false
 : Option Bool) := (LiS_eq fd37 (tabH_nat h37) c37_0 (x0, ())).trans (by kernel_rfl)
/-! quad.asked -/
theorem F42_eq (x0 : S24) (x1 : S34) (x2 x3 : Int) : F42 x0 x1 x2 x3 = (
 (F37 x1).bind fun y1 =>
 bif (!y1) then
  some 1
 else
 (F59 x0).bind fun y2 =>
 bif (!y2) then
  some 1
 else
 bif (decide (x2 < 1)) then
  some 1
 else
 bif (decide (x2 > 1048576)) then
  some 1
 else
 bif (decide (x3 < 1)) then
  some 1
 else
 bif (decide (x3 > 255)) then
  some 1
 else
 some 0
 : Option Int) := (GoS_eq fd42 (tabH D h42) (x0, x1, x2, x3)).trans (by kernel_rfl)
/-! (line.scale).right -/
theorem F151_eq (x0 : S168) : F151 x0 = (
 bif (decide (x0.f0 ≥ 1)) then
  bif (decide (x0.f0 ≤ 1048576)) then
   bif (decide (x0.f1 ≥ 1)) then
    some (decide (x0.f1 ≤ 255))
   else
   some false
  else
  some false
 else
 some false
 : Option Bool) := (GoS_eq fd151 (tabH D h151) (x0)).trans (by kernel_rfl)
/-! (line.scale).asked -/
theorem F140_eq (x0 : S168) (x1 : List S24) : F140 x0 x1 = (
 (F151 x0).bind fun y1 =>
 bif (!y1) then
  some 1
 else
 L140_0 x1 (x1.length : Int) 0
 : Option Int) := (GoS_eq fd140 (tabH D h140) (x0, x1)).trans (by kernel_rfl)
theorem L140_0_eq (x0 : List S24) (x1 x2 : Int) : L140_0 x0 x1 x2 = (
 bif (decide (x2 < x1)) then
  grd (decide (0 ≤ x2)) <|
  grd (decide (x2 < (x0.length : Int))) <|
  (F59 (x0.getD (Int.toNat x2) z0)).bind fun y1 =>
  bif (!y1) then
   some 1
  else
  L140_0 x0 x1 (wr .i64 (x2 + 1))
 else
 some 0
 : Option Int) := (LiS_eq fd140 (tabH_nat h140) c140_0 (x0, x1, x2, ())).trans (by kernel_rfl)
/-! plane.Dot -/
theorem F88_eq (x0 x1 x2 : S24) : F88 x0 x1 x2 = (
 (F148 [x0, x1, x2]).bind fun y1 =>
 bif (y1 != 0) then
  some (0, y1)
 else
 (F149 x0 x1 x2).bind fun y2 =>
 some (y2, 0)
 : Option (Int × Int)) := (GoS_eq fd88 (tabH D h88) (x0, x1, x2)).trans (by kernel_rfl)
/-! line.ahead -/
theorem F141_eq (x0 x1 x2 : S24) : F141 x0 x1 x2 = (
 (F88 x0 x1 x2).bind fun y1 =>
 some (decide (y1.1 ≤ 0))
 : Option Bool) := (GoS_eq fd141 (tabH D h141) (x0, x1, x2)).trans (by kernel_rfl)
/-! plane.Far -/
theorem F91_eq (x0 x1 : S24) : F91 x0 x1 = (
 (F88 x0 x1 x1).bind fun y1 =>
 some y1
 : Option (Int × Int)) := (GoS_eq fd91 (tabH D h91) (x0, x1)).trans (by kernel_rfl)
/-! wide.Add -/
theorem F235_eq (x0 x1 : S102) : F235 x0 x1 = (
 (F246 x0.f1 x1.f1 0).bind fun y1 =>
 (F246 x0.f0 x1.f0 y1.2).bind fun y2 =>
 bif (y2.2 != 0) then
  some ((S102.mk 0 0), 2)
 else
 some ((S102.mk y2.1 y1.1), 0)
 : Option (S102 × Int)) := (GoS_eq fd235 (tabH D h235) (x0, x1)).trans (by kernel_rfl)
/-! line.times -/
theorem F203_eq (x0 : S102) (x1 : Int) : F203 x0 x1 = (
 (F93 x0.f1 x1).bind fun y1 =>
 (F93 x0.f0 x1).bind fun y2 =>
 (F78 y1.f0).bind fun y3 =>
 (F235 y3 y2).bind fun y4 =>
 some (S224.mk y1.f1 y4.1.f1 y4.1.f0)
 : Option (S224)) := (GoS_eq fd203 (tabH D h203) (x0, x1)).trans (by kernel_rfl)
/-! (line.digits).atMost -/
theorem F204_eq (x0 x1 : S224) : F204 x0 x1 = (
 L204_0 x0 x1 2
 : Option Bool) := (GoS_eq fd204 (tabH D h204) (x0, x1)).trans (by kernel_rfl)
theorem L204_0_eq (x0 x1 : S224) (x2 : Int) : L204_0 x0 x1 x2 = (
 bif (decide (x2 ≥ 0)) then
  bif (decide (x2 = 0)) then
   bif (decide (x2 = 0)) then
    bif (x0.f0 != x1.f0) then
     bif (decide (x2 = 0)) then
      bif (decide (x2 = 0)) then
       some (decide (x0.f0 < x1.f0))
      else
      bif (decide (x2 = 1)) then
       some (decide (x0.f0 < x1.f1))
      else
      grd (decide (x2 = 2)) <|
      some (decide (x0.f0 < x1.f2))
     else
     bif (decide (x2 = 1)) then
      bif (decide (x2 = 0)) then
       some (decide (x0.f1 < x1.f0))
      else
      bif (decide (x2 = 1)) then
       some (decide (x0.f1 < x1.f1))
      else
      grd (decide (x2 = 2)) <|
      some (decide (x0.f1 < x1.f2))
     else
     grd (decide (x2 = 2)) <|
     bif (decide (x2 = 0)) then
      some (decide (x0.f2 < x1.f0))
     else
     bif (decide (x2 = 1)) then
      some (decide (x0.f2 < x1.f1))
     else
     grd (decide (x2 = 2)) <|
     some (decide (x0.f2 < x1.f2))
    else
    L204_0 x0 x1 (wr .i64 (x2 - 1))
   else
   bif (decide (x2 = 1)) then
    bif (x0.f0 != x1.f1) then
     bif (decide (x2 = 0)) then
      bif (decide (x2 = 0)) then
       some (decide (x0.f0 < x1.f0))
      else
      bif (decide (x2 = 1)) then
       some (decide (x0.f0 < x1.f1))
      else
      grd (decide (x2 = 2)) <|
      some (decide (x0.f0 < x1.f2))
     else
     bif (decide (x2 = 1)) then
      bif (decide (x2 = 0)) then
       some (decide (x0.f1 < x1.f0))
      else
      bif (decide (x2 = 1)) then
       some (decide (x0.f1 < x1.f1))
      else
      grd (decide (x2 = 2)) <|
      some (decide (x0.f1 < x1.f2))
     else
     grd (decide (x2 = 2)) <|
     bif (decide (x2 = 0)) then
      some (decide (x0.f2 < x1.f0))
     else
     bif (decide (x2 = 1)) then
      some (decide (x0.f2 < x1.f1))
     else
     grd (decide (x2 = 2)) <|
     some (decide (x0.f2 < x1.f2))
    else
    L204_0 x0 x1 (wr .i64 (x2 - 1))
   else
   grd (decide (x2 = 2)) <|
   bif (x0.f0 != x1.f2) then
    bif (decide (x2 = 0)) then
     bif (decide (x2 = 0)) then
      some (decide (x0.f0 < x1.f0))
     else
     bif (decide (x2 = 1)) then
      some (decide (x0.f0 < x1.f1))
     else
     grd (decide (x2 = 2)) <|
     some (decide (x0.f0 < x1.f2))
    else
    bif (decide (x2 = 1)) then
     bif (decide (x2 = 0)) then
      some (decide (x0.f1 < x1.f0))
     else
     bif (decide (x2 = 1)) then
      some (decide (x0.f1 < x1.f1))
     else
     grd (decide (x2 = 2)) <|
     some (decide (x0.f1 < x1.f2))
    else
    grd (decide (x2 = 2)) <|
    bif (decide (x2 = 0)) then
     some (decide (x0.f2 < x1.f0))
    else
    bif (decide (x2 = 1)) then
     some (decide (x0.f2 < x1.f1))
    else
    grd (decide (x2 = 2)) <|
    some (decide (x0.f2 < x1.f2))
   else
   L204_0 x0 x1 (wr .i64 (x2 - 1))
  else
  bif (decide (x2 = 1)) then
   bif (decide (x2 = 0)) then
    bif (x0.f1 != x1.f0) then
     bif (decide (x2 = 0)) then
      bif (decide (x2 = 0)) then
       some (decide (x0.f0 < x1.f0))
      else
      bif (decide (x2 = 1)) then
       some (decide (x0.f0 < x1.f1))
      else
      grd (decide (x2 = 2)) <|
      some (decide (x0.f0 < x1.f2))
     else
     bif (decide (x2 = 1)) then
      bif (decide (x2 = 0)) then
       some (decide (x0.f1 < x1.f0))
      else
      bif (decide (x2 = 1)) then
       some (decide (x0.f1 < x1.f1))
      else
      grd (decide (x2 = 2)) <|
      some (decide (x0.f1 < x1.f2))
     else
     grd (decide (x2 = 2)) <|
     bif (decide (x2 = 0)) then
      some (decide (x0.f2 < x1.f0))
     else
     bif (decide (x2 = 1)) then
      some (decide (x0.f2 < x1.f1))
     else
     grd (decide (x2 = 2)) <|
     some (decide (x0.f2 < x1.f2))
    else
    L204_0 x0 x1 (wr .i64 (x2 - 1))
   else
   bif (decide (x2 = 1)) then
    bif (x0.f1 != x1.f1) then
     bif (decide (x2 = 0)) then
      bif (decide (x2 = 0)) then
       some (decide (x0.f0 < x1.f0))
      else
      bif (decide (x2 = 1)) then
       some (decide (x0.f0 < x1.f1))
      else
      grd (decide (x2 = 2)) <|
      some (decide (x0.f0 < x1.f2))
     else
     bif (decide (x2 = 1)) then
      bif (decide (x2 = 0)) then
       some (decide (x0.f1 < x1.f0))
      else
      bif (decide (x2 = 1)) then
       some (decide (x0.f1 < x1.f1))
      else
      grd (decide (x2 = 2)) <|
      some (decide (x0.f1 < x1.f2))
     else
     grd (decide (x2 = 2)) <|
     bif (decide (x2 = 0)) then
      some (decide (x0.f2 < x1.f0))
     else
     bif (decide (x2 = 1)) then
      some (decide (x0.f2 < x1.f1))
     else
     grd (decide (x2 = 2)) <|
     some (decide (x0.f2 < x1.f2))
    else
    L204_0 x0 x1 (wr .i64 (x2 - 1))
   else
   grd (decide (x2 = 2)) <|
   bif (x0.f1 != x1.f2) then
    bif (decide (x2 = 0)) then
     bif (decide (x2 = 0)) then
      some (decide (x0.f0 < x1.f0))
     else
     bif (decide (x2 = 1)) then
      some (decide (x0.f0 < x1.f1))
     else
     grd (decide (x2 = 2)) <|
     some (decide (x0.f0 < x1.f2))
    else
    bif (decide (x2 = 1)) then
     bif (decide (x2 = 0)) then
      some (decide (x0.f1 < x1.f0))
     else
     bif (decide (x2 = 1)) then
      some (decide (x0.f1 < x1.f1))
     else
     grd (decide (x2 = 2)) <|
     some (decide (x0.f1 < x1.f2))
    else
    grd (decide (x2 = 2)) <|
    bif (decide (x2 = 0)) then
     some (decide (x0.f2 < x1.f0))
    else
    bif (decide (x2 = 1)) then
     some (decide (x0.f2 < x1.f1))
    else
    grd (decide (x2 = 2)) <|
    some (decide (x0.f2 < x1.f2))
   else
   L204_0 x0 x1 (wr .i64 (x2 - 1))
  else
  grd (decide (x2 = 2)) <|
  bif (decide (x2 = 0)) then
   bif (x0.f2 != x1.f0) then
    bif (decide (x2 = 0)) then
     bif (decide (x2 = 0)) then
      some (decide (x0.f0 < x1.f0))
     else
     bif (decide (x2 = 1)) then
      some (decide (x0.f0 < x1.f1))
     else
     grd (decide (x2 = 2)) <|
     some (decide (x0.f0 < x1.f2))
    else
    bif (decide (x2 = 1)) then
     bif (decide (x2 = 0)) then
      some (decide (x0.f1 < x1.f0))
     else
     bif (decide (x2 = 1)) then
      some (decide (x0.f1 < x1.f1))
     else
     grd (decide (x2 = 2)) <|
     some (decide (x0.f1 < x1.f2))
    else
    grd (decide (x2 = 2)) <|
    bif (decide (x2 = 0)) then
     some (decide (x0.f2 < x1.f0))
    else
    bif (decide (x2 = 1)) then
     some (decide (x0.f2 < x1.f1))
    else
    grd (decide (x2 = 2)) <|
    some (decide (x0.f2 < x1.f2))
   else
   L204_0 x0 x1 (wr .i64 (x2 - 1))
  else
  bif (decide (x2 = 1)) then
   bif (x0.f2 != x1.f1) then
    bif (decide (x2 = 0)) then
     bif (decide (x2 = 0)) then
      some (decide (x0.f0 < x1.f0))
     else
     bif (decide (x2 = 1)) then
      some (decide (x0.f0 < x1.f1))
     else
     grd (decide (x2 = 2)) <|
     some (decide (x0.f0 < x1.f2))
    else
    bif (decide (x2 = 1)) then
     bif (decide (x2 = 0)) then
      some (decide (x0.f1 < x1.f0))
     else
     bif (decide (x2 = 1)) then
      some (decide (x0.f1 < x1.f1))
     else
     grd (decide (x2 = 2)) <|
     some (decide (x0.f1 < x1.f2))
    else
    grd (decide (x2 = 2)) <|
    bif (decide (x2 = 0)) then
     some (decide (x0.f2 < x1.f0))
    else
    bif (decide (x2 = 1)) then
     some (decide (x0.f2 < x1.f1))
    else
    grd (decide (x2 = 2)) <|
    some (decide (x0.f2 < x1.f2))
   else
   L204_0 x0 x1 (wr .i64 (x2 - 1))
  else
  grd (decide (x2 = 2)) <|
  bif (x0.f2 != x1.f2) then
   bif (decide (x2 = 0)) then
    bif (decide (x2 = 0)) then
     some (decide (x0.f0 < x1.f0))
    else
    bif (decide (x2 = 1)) then
     some (decide (x0.f0 < x1.f1))
    else
    grd (decide (x2 = 2)) <|
    some (decide (x0.f0 < x1.f2))
   else
   bif (decide (x2 = 1)) then
    bif (decide (x2 = 0)) then
     some (decide (x0.f1 < x1.f0))
    else
    bif (decide (x2 = 1)) then
     some (decide (x0.f1 < x1.f1))
    else
    grd (decide (x2 = 2)) <|
    some (decide (x0.f1 < x1.f2))
   else
   grd (decide (x2 = 2)) <|
   bif (decide (x2 = 0)) then
    some (decide (x0.f2 < x1.f0))
   else
   bif (decide (x2 = 1)) then
    some (decide (x0.f2 < x1.f1))
   else
   grd (decide (x2 = 2)) <|
   some (decide (x0.f2 < x1.f2))
  else
  L204_0 x0 x1 (wr .i64 (x2 - 1))
 else
 some true
 : Option Bool) := (LiS_eq fd204 (tabH_nat h204) c204_0 (x0, x1, x2, ())).trans (by kernel_rfl)
/-! (line.scale).level -/
theorem F152_eq (x0 : S168) (x1 x2 : S102) : F152 x0 x1 x2 = (
 (F203 x1 (wr .u64 ((wr .u64 x0.f1) * (wr .u64 x0.f1)))).bind fun y1 =>
 L152_0 x0 x2 y1 0 (wr .i64 (x0.f1 + 1))
 : Option Int) := (GoS_eq fd152 (tabH D h152) (x0, x1, x2)).trans (by kernel_rfl)
theorem L152_0_eq (x0 : S168) (x1 : S102) (x2 : S224) (x3 x4 : Int) : L152_0 x0 x1 x2 x3 x4 = (
 bif (decide ((wr .i64 (x4 - x3)) > 1)) then
  (F203 x1 (wr .u64 ((wr .u64 ((wr .u64 (wr .i64 (Int.tdiv (wr .i64 (x3 + x4)) (2 : Int)))) * (wr .u64 x0.f0))) * (wr .u64 ((wr .u64 (wr .i64 (Int.tdiv (wr .i64 (x3 + x4)) (2 : Int)))) * (wr .u64 x0.f0)))))).bind fun y1 =>
  (F204 y1 x2).bind fun y2 =>
  bif y2 then
   L152_0 x0 x1 x2 (wr .i64 (Int.tdiv (wr .i64 (x3 + x4)) (2 : Int))) x4
  else
  L152_0 x0 x1 x2 x3 (wr .i64 (Int.tdiv (wr .i64 (x3 + x4)) (2 : Int)))
 else
 some x3
 : Option Int) := (LiS_eq fd152 (tabH_nat h152) c152_0 (x0, x1, x2, x3, x4, ())).trans (by kernel_rfl)
/-! (line.scale).point -/
theorem F142_eq (x0 : S168) (x1 x2 : S24) : F142 x0 x1 x2 = (
 (F91 x1 x2).bind fun y1 =>
 (F78 (wr .u64 y1.1)).bind fun y2 =>
 (F78 1).bind fun y3 =>
 (F152 x0 y2 y3).bind fun y4 =>
 some y4
 : Option Int) := (GoS_eq fd142 (tabH D h142) (x0, x1, x2)).trans (by kernel_rfl)
/-! plane.Cross -/
theorem F90_eq (x0 x1 x2 : S24) : F90 x0 x1 x2 = (
 (F148 [x0, x1, x2]).bind fun y1 =>
 bif (y1 != 0) then
  some (0, y1)
 else
 (F150 x0 x1 x2).bind fun y2 =>
 some (y2, 0)
 : Option (Int × Int)) := (GoS_eq fd90 (tabH D h90) (x0, x1, x2)).trans (by kernel_rfl)
/-! line.size -/
theorem F198_eq (x0 : Int) : F198 x0 = (
 some (wr .u64 (mxE x0 (wr .i64 (0 - x0))))
 : Option Int) := (GoS_eq fd198 (tabH D h198) (x0)).trans (by kernel_rfl)
/-! (line.scale).beside -/
theorem F143_eq (x0 : S168) (x1 x2 x3 : S24) : F143 x0 x1 x2 x3 = (
 (F90 x2 x3 x1).bind fun y1 =>
 (F91 x2 x3).bind fun y2 =>
 (F198 y1.1).bind fun y3 =>
 (F198 y1.1).bind fun y4 =>
 (F93 y3 y4).bind fun y5 =>
 (F78 (wr .u64 y2.1)).bind fun y6 =>
 (F152 x0 y5 y6).bind fun y7 =>
 some y7
 : Option Int) := (GoS_eq fd143 (tabH D h143) (x0, x1, x2, x3)).trans (by kernel_rfl)
/-! line.Segment -/
theorem F85_eq (x0 x1 x2 : S24) (x3 x4 : Int) : F85 x0 x1 x2 x3 x4 = (
 (F140 (S168.mk x3 x4) [x0, x1, x2]).bind fun y1 =>
 bif (y1 != 0) then
  some (0, y1)
 else
 (F141 x1 x2 x0).bind fun y2 =>
 bif y2 then
  (F142 (S168.mk x3 x4) x0 x1).bind fun y3 =>
  some (y3, 0)
 else
 (F141 x2 x1 x0).bind fun y4 =>
 bif y4 then
  (F142 (S168.mk x3 x4) x0 x2).bind fun y5 =>
  some (y5, 0)
 else
 (F143 (S168.mk x3 x4) x0 x1 x2).bind fun y6 =>
 some (y6, 0)
 : Option (Int × Int)) := (GoS_eq fd85 (tabH D h85) (x0, x1, x2, x3, x4)).trans (by kernel_rfl)
/-! quad.axis -/
theorem F99_eq (x0 : Bool) (x1 x2 x3 x4 : Int) : F99 x0 x1 x2 x3 x4 = (
 bif x0 then
  (F161 [(wr .i64 (x1 - x4)), (wr .i64 (2 * (wr .i64 (x2 - x1)))), (wr .i64 ((wr .i64 (x1 - (wr .i64 (2 * x2)))) + x3))]).bind fun y1 =>
  some y1
 else
 (F161 [(wr .i64 (2 * (wr .i64 (x1 - x4)))), (wr .i64 (2 * (wr .i64 (x3 - x1))))]).bind fun y2 =>
 some y2
 : Option (List S77)) := (GoS_eq fd99 (tabH D h99) (x0, x1, x2, x3, x4)).trans (by kernel_rfl)
/-! quad.far -/
theorem F47_eq (x0 : S24) (x1 : S34) : F47 x0 x1 = (
 (F99 x1.f1 x1.f2.f0 x1.f3.f0 x1.f4.f0 x0.f0).bind fun y1 =>
 (F99 x1.f1 x1.f2.f1 x1.f3.f1 x1.f4.f1 x0.f1).bind fun y2 =>
 (F98 y1 y1).bind fun y3 =>
 (F98 y2 y2).bind fun y4 =>
 (F100 y3 y4).bind fun y5 =>
 some y5
 : Option (List S77)) := (GoS_eq fd47 (tabH D h47) (x0, x1)).trans (by kernel_rfl)
/-! quad.small -/
theorem F144_eq (x0 : S24) (x1 : S34) (x2 : Int) : F144 x0 x1 x2 = (
 L144_0 x2 [x0.f0, x0.f1, x1.f2.f0, x1.f2.f1, x1.f3.f0, x1.f3.f1, x1.f4.f0, x1.f4.f1] (8 : Int) 0
 : Option Bool) := (GoS_eq fd144 (tabH D h144) (x0, x1, x2)).trans (by kernel_rfl)
theorem L144_0_eq (x0 : Int) (x1 : List Int) (x2 x3 : Int) : L144_0 x0 x1 x2 x3 = (
 bif (decide (x3 < x2)) then
  grd (decide (0 ≤ x3)) <|
  grd (decide (x3 < (x1.length : Int))) <|
  bif (decide ((mxE (x1.getD (Int.toNat x3) 0) (wr .i64 (0 - (x1.getD (Int.toNat x3) 0)))) > 131072)) then
   some false
  else
  L144_0 x0 x1 x2 (wr .i64 (x3 + 1))
 else
 some (decide (x0 ≤ 4096))
 : Option Bool) := (LiS_eq fd144 (tabH_nat h144) c144_0 (x0, x1, x2, x3, ())).trans (by kernel_rfl)
/-! quad.times -/
theorem F146_eq (x0 : S24) : F146 x0 = (
 some (S24.mk (wr .i64 (256 * x0.f0)) (wr .i64 (256 * x0.f1)))
 : Option (S24)) := (GoS_eq fd146 (tabH D h146) (x0)).trans (by kernel_rfl)
/-! (*quad.bounds).leaf -/
theorem F199_eq (x0 : S174) (x1 x2 x3 x4 : S24) : F199 x0 x1 x2 x3 x4 = (
 (F85 x1 x2 x4 x0.f0 x0.f1).bind fun y1 =>
 bif (decide (x0.f0 = 0)) then
  none
 else
 some (S174.mk x0.f0 x0.f1 (mnE x0.f2 (wr .i64 (y1.1 - (wr .i64 ((wr .i64 (Int.tdiv (wr .i64 ((wr .i64 ((wr .i64 (Int.tdiv (mxE (mxE (mxE (wr .i64 ((wr .i64 (x2.f0 - (wr .i64 (2 * x3.f0)))) + x4.f0)) (wr .i64 (0 - (wr .i64 ((wr .i64 (x2.f0 - (wr .i64 (2 * x3.f0)))) + x4.f0))))) (wr .i64 ((wr .i64 (x2.f1 - (wr .i64 (2 * x3.f1)))) + x4.f1))) (wr .i64 (0 - (wr .i64 ((wr .i64 (x2.f1 - (wr .i64 (2 * x3.f1)))) + x4.f1))))) (2 : Int))) + 1)) * x0.f1)) x0.f0)) + 2))))) (mnE x0.f3 (wr .i64 (y1.1 + (wr .i64 ((wr .i64 (Int.tdiv (wr .i64 ((wr .i64 ((wr .i64 (Int.tdiv (mxE (mxE (mxE (wr .i64 ((wr .i64 (x2.f0 - (wr .i64 (2 * x3.f0)))) + x4.f0)) (wr .i64 (0 - (wr .i64 ((wr .i64 (x2.f0 - (wr .i64 (2 * x3.f0)))) + x4.f0))))) (wr .i64 ((wr .i64 (x2.f1 - (wr .i64 (2 * x3.f1)))) + x4.f1))) (wr .i64 (0 - (wr .i64 ((wr .i64 (x2.f1 - (wr .i64 (2 * x3.f1)))) + x4.f1))))) (2 : Int))) + 1)) * x0.f1)) x0.f0)) + 2))))))
 : Option (S174)) := (GoS_eq fd199 (tabH D h199) (x0, x1, x2, x3, x4)).trans (by kernel_rfl)
/-! quad.half -/
theorem F200_eq (x0 x1 : S24) : F200 x0 x1 = (
 some (S24.mk (wr .i64 (Int.tdiv (wr .i64 (x0.f0 + x1.f0)) (2 : Int))) (wr .i64 (Int.tdiv (wr .i64 (x0.f1 + x1.f1)) (2 : Int))))
 : Option (S24)) := (GoS_eq fd200 (tabH D h200) (x0, x1)).trans (by kernel_rfl)
/-! (*quad.bounds).piece -/
theorem F145_eq (G : YR D [.v (.st 14), .v (.st 0), .v (.st 0), .v (.st 0), .v (.st 0), .v (.int .i64)] → Option (YR D [.v (.st 14)])) (x0 : S174) (x1 x2 x3 x4 : S24) (x5 : Int) : F145g G x0 x1 x2 x3 x4 x5 = (
 bif (x5 == 0) then
  (F199 x0 x1 x2 x3 x4).bind fun y1 =>
  some y1
 else
 (F200 x2 x3).bind fun y2 =>
 (F200 x3 x4).bind fun y3 =>
 (F200 y2 y3).bind fun y4 =>
 (F145r G x0 x1 x2 y2 y4 (wr .i64 (x5 - 1))).bind fun y5 =>
 (F145r G y5 x1 y4 y3 x4 (wr .i64 (x5 - 1))).bind fun y6 =>
 some y6
 : Option (S174)) := (GoS_eq fd145 (tabH D (h145 G)) (x0, x1, x2, x3, x4, x5)).trans (by kernel_rfl)
/-! quad.rough -/
theorem F86_eq (x0 : S24) (x1 : S34) (x2 x3 : Int) : F86 x0 x1 x2 x3 = (
 (F144 x0 x1 x2).bind fun y1 =>
 bif (!y1) then
  some (0, x3)
 else
 (F146 x0).bind fun y2 =>
 (F146 x1.f2).bind fun y3 =>
 (F146 x1.f3).bind fun y4 =>
 (F146 x1.f4).bind fun y5 =>
 (F145 (S174.mk (wr .i64 (256 * x2)) x3 x3 x3) y2 y3 y4 y5 4).bind fun y6 =>
 some ((mxE y6.f2 (0 : Int)), y6.f3)
 : Option (Int × Int)) := (GoS_eq fd86 (tabH D h86) (x0, x1, x2, x3)).trans (by kernel_rfl)
/-! quad.squared -/
theorem F95_eq (x0 : Int) : F95 x0 = (
 (F155 x0).bind fun y1 =>
 (F155 x0).bind fun y2 =>
 (F154 y1 y2).bind fun y3 =>
 some y3
 : Option (S77)) := (GoS_eq fd95 (tabH D h95) (x0)).trans (by kernel_rfl)
/-! big.Shift -/
theorem F96_eq (x0 : S77) (x1 : Int) : F96 x0 x1 = (
 grd (decide (0 ≤ (wr .i64 (Int.tdiv (mnE (mxE x1 (0 : Int)) (4096 : Int)) (32 : Int))))) <|
 grd (decide ((wr .i64 (Int.tdiv (mnE (mxE x1 (0 : Int)) (4096 : Int)) (32 : Int))) ≤ (wr .i64 ((wr .i64 ((wr .i64 (Int.tdiv (mnE (mxE x1 (0 : Int)) (4096 : Int)) (32 : Int))) + (x0.f1.length : Int))) + 1)))) <|
 grd (fitM (Int.toNat (wr .i64 ((wr .i64 ((wr .i64 (Int.tdiv (mnE (mxE x1 (0 : Int)) (4096 : Int)) (32 : Int))) + (x0.f1.length : Int))) + 1))) 4) <|
 L96_0 (mnE (mxE x1 (0 : Int)) (4096 : Int)) x0 (S77.mk false []) (List.replicate (Int.toNat (wr .i64 (Int.tdiv (mnE (mxE x1 (0 : Int)) (4096 : Int)) (32 : Int)))) (0 : Int)) 0 x0.f1 (x0.f1.length : Int) 0
 : Option (S77)) := (GoS_eq fd96 (tabH D h96) (x0, x1)).trans (by kernel_rfl)
theorem L96_0_eq (x0 : Int) (x1 x2 : S77) (x3 : List Int) (x4 : Int) (x5 : List Int) (x6 x7 : Int) : L96_0 x0 x1 x2 x3 x4 x5 x6 x7 = (
 bif (decide (x7 < x6)) then
  grd (decide (0 ≤ x7)) <|
  grd (decide (x7 < (x5.length : Int))) <|
  grd (decide (0 ≤ (Int.tmod x0 (32 : Int)))) <|
  grd (fit (x3.length + [(wr .u32 (orE .u64 (shlE .u64 (wr .u64 (x5.getD (Int.toNat x7) 0)) (Int.tmod x0 (32 : Int))) x4))].length) 4) <|
  L96_0 x0 x1 x2 (x3 ++ [(wr .u32 (orE .u64 (shlE .u64 (wr .u64 (x5.getD (Int.toNat x7) 0)) (Int.tmod x0 (32 : Int))) x4))]) (shrE .u64 (orE .u64 (shlE .u64 (wr .u64 (x5.getD (Int.toNat x7) 0)) (Int.tmod x0 (32 : Int))) x4) (32 : Int)) x5 x6 (wr .i64 (x7 + 1))
 else
 grd (fit (x3.length + [(wr .u32 x4)].length) 4) <|
 (F156 x1.f0 (x3 ++ [(wr .u32 x4)])).bind fun y1 =>
 some y1
 : Option (S77)) := (LiS_eq fd96 (tabH_nat h96) c96_0 (x0, x1, x2, x3, x4, x5, x6, x7, ())).trans (by kernel_rfl)
/-! quad.less -/
theorem F46_eq (x0 : List S77) (x1 : Bool) (x2 x3 x4 : Int) : F46 x0 x1 x2 x3 x4 = (
 (F95 (wr .i64 (x4 * x2))).bind fun y1 =>
 bif (!x1) then
  (F96 y1 2).bind fun y2 =>
  L46_0 x0 x3 y2
 else
 L46_0 x0 x3 y1
 : Option (List S77)) := (GoS_eq fd46 (tabH D h46) (x0, x1, x2, x3, x4)).trans (by kernel_rfl)
theorem L46_0_eq (x0 : List S77) (x1 : Int) (x2 : S77) : L46_0 x0 x1 x2 = (
 (F95 x1).bind fun y1 =>
 (F98 x0 [y1]).bind fun y2 =>
 (F97 y2 [x2]).bind fun y3 =>
 some y3
 : Option (List S77)) := (LiS_eq fd46 (tabH_nat h46) c46_0 (x0, x1, x2, ())).trans (by kernel_rfl)
/-! sturm.scaled -/
theorem F233_eq (x0 : List S77) (x1 : S77) (x2 : Bool) : F233 x0 x1 x2 = (
 (F245 x0).bind fun y1 =>
 (F155 1).bind fun y2 =>
 L233_0 x2 x1 y1 y2 (y1.length : Int) 0
 : Option (List S77)) := (GoS_eq fd233 (tabH D h233) (x0, x1, x2)).trans (by kernel_rfl)
theorem L233_0_eq (x0 : Bool) (x1 : S77) (x2 : List S77) (x3 : S77) (x4 x5 : Int) : L233_0 x0 x1 x2 x3 x4 x5 = (
 bif (decide (x5 < x4)) then
  bif x0 then
   L233_1 x0 x1 x2 x3 (wr .i64 ((wr .i64 ((x2.length : Int) - 1)) - x5)) x4 x5
  else
  L233_1 x0 x1 x2 x3 x5 x4 x5
 else
 some x2
 : Option (List S77)) := (LiS_eq fd233 (tabH_nat h233) c233_0 (x0, x1, x2, x3, x4, x5, ())).trans (by kernel_rfl)
theorem L233_1_eq (x0 : Bool) (x1 : S77) (x2 : List S77) (x3 : S77) (x4 x5 x6 : Int) : L233_1 x0 x1 x2 x3 x4 x5 x6 = (
 grd (decide (0 ≤ x4)) <|
 grd (decide (x4 < (x2.length : Int))) <|
 (F154 (x2.getD (Int.toNat x4) z7) x3).bind fun y1 =>
 grd (decide (0 ≤ x4)) <|
 grd (decide (x4 < (x2.length : Int))) <|
 (F154 x3 x1).bind fun y2 =>
 L233_0 x0 x1 (List.set x2 (Int.toNat x4) y1) y2 x5 (wr .i64 (x6 + 1))
 : Option (List S77)) := (LiS_eq fd233 (tabH_nat h233) c233_1 (x0, x1, x2, x3, x4, x5, x6, ())).trans (by kernel_rfl)
/-! sturm.moved -/
theorem F234_eq (x0 : List S77) (x1 : S77) : F234 x0 x1 = (
 (F245 x0).bind fun y1 =>
 L234_0 x1 y1 (y1.length : Int) 0
 : Option (List S77)) := (GoS_eq fd234 (tabH D h234) (x0, x1)).trans (by kernel_rfl)
theorem L234_0_eq (x0 : S77) (x1 : List S77) (x2 x3 : Int) : L234_0 x0 x1 x2 x3 = (
 bif (decide (x3 < x2)) then
  L234_1 x0 x1 x3 (wr .i64 ((x1.length : Int) - 2)) x2 x3
 else
 some x1
 : Option (List S77)) := (LiS_eq fd234 (tabH_nat h234) c234_0 (x0, x1, x2, x3, ())).trans (by kernel_rfl)
theorem L234_1_eq (x0 : S77) (x1 : List S77) (x2 x3 x4 x5 : Int) : L234_1 x0 x1 x2 x3 x4 x5 = (
 bif (decide (x3 ≥ x2)) then
  grd (decide (0 ≤ x3)) <|
  grd (decide (x3 < (x1.length : Int))) <|
  grd (decide (0 ≤ (wr .i64 (x3 + 1)))) <|
  grd (decide ((wr .i64 (x3 + 1)) < (x1.length : Int))) <|
  (F154 x0 (x1.getD (Int.toNat (wr .i64 (x3 + 1))) z7)).bind fun y1 =>
  (F159 (x1.getD (Int.toNat x3) z7) y1).bind fun y2 =>
  grd (decide (0 ≤ x3)) <|
  grd (decide (x3 < (x1.length : Int))) <|
  L234_1 x0 (List.set x1 (Int.toNat x3) y2) x2 (wr .i64 (x3 - 1)) x4 x5
 else
 L234_0 x0 x1 x4 (wr .i64 (x5 + 1))
 : Option (List S77)) := (LiS_eq fd234 (tabH_nat h234) c234_1 (x0, x1, x2, x3, x4, x5, ())).trans (by kernel_rfl)
/-! sturm.unit -/
theorem F202_eq (x0 : List S77) (x1 x2 : S37) : F202 x0 x1 x2 = (
 (F155 x1.f1).bind fun y1 =>
 (F155 x2.f1).bind fun y2 =>
 (F154 y1 y2).bind fun y3 =>
 (F155 x1.f0).bind fun y4 =>
 (F155 x2.f1).bind fun y5 =>
 (F154 y4 y5).bind fun y6 =>
 (F155 x2.f0).bind fun y7 =>
 (F155 x1.f1).bind fun y8 =>
 (F154 y7 y8).bind fun y9 =>
 (F158 y9 y6).bind fun y10 =>
 (F100 x0 []).bind fun y11 =>
 (F233 y11 y3 true).bind fun y12 =>
 (F234 y12 y6).bind fun y13 =>
 (F233 y13 y10 false).bind fun y14 =>
 some y14
 : Option (List S77)) := (GoS_eq fd202 (tabH D h202) (x0, x1, x2)).trans (by kernel_rfl)
/-! sturm.below -/
theorem F201_eq (G : YR D [.v (.sl (.st 7))] → Option (YR D [.v (.bool)])) (x0 : List S77) : F201g G x0 = (
 (F170 x0 (S37.mk 0 1) (S37.mk 1 1)).bind fun y1 =>
 (F232 y1 (S37.mk 0 1)).bind fun y2 =>
 bif (decide (y2 < 0)) then
  some true
 else
 (F232 y1 (S37.mk 1 1)).bind fun y3 =>
 bif (decide (y3 < 0)) then
  some true
 else
 L201_0 G y1 (S37.mk 0 1) (S37.mk 1 2) (S37.mk 1 1)
 : Option Bool) := (GoS_eq fd201 (tabH D (h201 G)) (x0)).trans (by kernel_rfl)
theorem L201_0_eq (G : YR D [.v (.sl (.st 7))] → Option (YR D [.v (.bool)])) (x0 : List S77) (x1 x2 x3 : S37) : L201_0 G x0 x1 x2 x3 = (
 (F169 x0).bind fun y1 =>
 (F171 y1.1 x1 x3).bind fun y2 =>
 bif (decide (y2 < 2)) then
  some false
 else
 (F202 x0 x1 x2).bind fun y3 =>
 (F201r G y3).bind fun y4 =>
 bif y4 then
  some true
 else
 (F202 x0 x2 x3).bind fun y5 =>
 (F201r G y5).bind fun y6 =>
 some y6
 : Option Bool) := (LiS_eq fd201 (tabH_nat (h201 G)) c201_0 (x0, x1, x2, x3, ())).trans (by kernel_rfl)
/-! sturm.Negative -/
theorem F147_eq (x0 : List S77) (x1 x2 : S37) : F147 x0 x1 x2 = (
 (F168 x0 x1 x2).bind fun y1 =>
 bif (y1 != 0) then
  some (false, y1)
 else
 (F202 x0 x1 x2).bind fun y2 =>
 (F201 y2).bind fun y3 =>
 some (y3, 0)
 : Option (Bool × Int)) := (GoS_eq fd147 (tabH D h147) (x0, x1, x2)).trans (by kernel_rfl)
/-! quad.nearer -/
theorem F87_eq (x0 : List S77) (x1 x2 x3 : Int) : F87 x0 x1 x2 x3 = (
 (F46 x0 true x1 x2 x3).bind fun y1 =>
 (F147 y1 (S37.mk 0 1) (S37.mk 1 1)).bind fun y2 =>
 bif (y2.2 == 0) then
  some y2.1
 else
 some false
 : Option Bool) := (GoS_eq fd87 (tabH D h87) (x0, x1, x2, x3)).trans (by kernel_rfl)
/-! quad.level -/
theorem F43_eq (x0 : S24) (x1 : S34) (x2 x3 : Int) : F43 x0 x1 x2 x3 = (
 bif (!x1.f1) then
  (F85 x0 x1.f2 x1.f4 x2 x3).bind fun y1 =>
  some y1.1
 else
 (F47 x0 x1).bind fun y2 =>
 (F86 x0 x1 x2 x3).bind fun y3 =>
 L43_0 x2 x3 y2 y3.1 y3.2
 : Option Int) := (GoS_eq fd43 (tabH D h43) (x0, x1, x2, x3)).trans (by kernel_rfl)
theorem L43_0_eq (x0 x1 : Int) (x2 : List S77) (x3 x4 : Int) : L43_0 x0 x1 x2 x3 x4 = (
 bif (decide (x3 < x4)) then
  (F87 x2 x0 x1 (wr .i64 (Int.tdiv (wr .i64 ((wr .i64 (x3 + x4)) + 1)) (2 : Int)))).bind fun y1 =>
  bif y1 then
   L43_0 x0 x1 x2 x3 (wr .i64 ((wr .i64 (Int.tdiv (wr .i64 ((wr .i64 (x3 + x4)) + 1)) (2 : Int))) - 1))
  else
  L43_0 x0 x1 x2 (wr .i64 (Int.tdiv (wr .i64 ((wr .i64 (x3 + x4)) + 1)) (2 : Int))) x4
 else
 some x3
 : Option Int) := (LiS_eq fd43 (tabH_nat h43) c43_0 (x0, x1, x2, x3, x4, ())).trans (by kernel_rfl)
/-! quad.Level -/
theorem F22_eq (x0 : S24) (x1 : S34) (x2 x3 : Int) : F22 x0 x1 x2 x3 = (
 (F42 x0 x1 x2 x3).bind fun y1 =>
 bif (y1 != 0) then
  some (0, y1)
 else
 (F43 x0 x1 x2 x3).bind fun y2 =>
 some (y2, 0)
 : Option (Int × Int)) := (GoS_eq fd22 (tabH D h22) (x0, x1, x2, x3)).trans (by kernel_rfl)
/-! quad.along -/
theorem F39_eq (x0 : Bool) (x1 x2 x3 : Int) (x4 : S37) : F39 x0 x1 x2 x3 x4 = (
 bif x0 then
  L39_0 (S37.mk 0 0) (wr .i64 (x4.f1 * x4.f1)) (wr .i64 ((wr .i64 ((wr .i64 (x1 * (wr .i64 (x4.f1 * x4.f1)))) + (wr .i64 ((wr .i64 ((wr .i64 (2 * (wr .i64 (x2 - x1)))) * x4.f0)) * x4.f1)))) + (wr .i64 ((wr .i64 ((wr .i64 ((wr .i64 (x1 - (wr .i64 (2 * x2)))) + x3)) * x4.f0)) * x4.f0))))
 else
 L39_0 (S37.mk 0 0) x4.f1 (wr .i64 ((wr .i64 (x1 * x4.f1)) + (wr .i64 ((wr .i64 (x3 - x1)) * x4.f0))))
 : Option (S37)) := (GoS_eq fd39 (tabH D h39) (x0, x1, x2, x3, x4)).trans (by kernel_rfl)
theorem L39_0_eq (x0 : S37) (x1 x2 : Int) : L39_0 x0 x1 x2 = (
 (F80 x2 x1).bind fun y1 =>
 some y1.1
 : Option (S37)) := (LiS_eq fd39 (tabH_nat h39) c39_0 (x0, x1, x2, ())).trans (by kernel_rfl)
/-! quad.At -/
theorem F19_eq (x0 : S34) (x1 : S37) : F19 x0 x1 = (
 (F37 x0).bind fun y1 =>
 bif (!y1) then
  some ((S37.mk 0 0), ((S37.mk 0 0), 1))
 else
 (F38 x1).bind fun y2 =>
 bif (!y2) then
  some ((S37.mk 0 0), ((S37.mk 0 0), 1))
 else
 bif (decide (x1.f0 < 0)) then
  some ((S37.mk 0 0), ((S37.mk 0 0), 1))
 else
 bif (decide (x1.f0 > x1.f1)) then
  some ((S37.mk 0 0), ((S37.mk 0 0), 1))
 else
 bif (decide (x1.f1 > 1024)) then
  some ((S37.mk 0 0), ((S37.mk 0 0), 1))
 else
 L19_0 x0 x1 (S37.mk 0 0) (S37.mk 0 0)
 : Option (S37 × S37 × Int)) := (GoS_eq fd19 (tabH D h19) (x0, x1)).trans (by kernel_rfl)
theorem L19_0_eq (x0 : S34) (x1 x2 x3 : S37) : L19_0 x0 x1 x2 x3 = (
 (F39 x0.f1 x0.f2.f0 x0.f3.f0 x0.f4.f0 x1).bind fun y1 =>
 (F39 x0.f1 x0.f2.f1 x0.f3.f1 x0.f4.f1 x1).bind fun y2 =>
 some (y1, (y2, 0))
 : Option (S37 × S37 × Int)) := (LiS_eq fd19 (tabH_nat h19) c19_0 (x0, x1, x2, x3, ())).trans (by kernel_rfl)
/-! quad.next -/
theorem F44_eq (x0 x1 x2 : S24) (x3 : Bool) : F44 x0 x1 x2 x3 = (
 bif x3 then
  bif (!((x1.f0 == x0.f0) && (x1.f1 == x0.f1))) then
   some x1
  else
  some x2
 else
 some x2
 : Option (S24)) := (GoS_eq fd44 (tabH D h44) (x0, x1, x2, x3)).trans (by kernel_rfl)
/-! line.Point -/
theorem F89_eq (x0 x1 : S24) (x2 x3 : Int) : F89 x0 x1 x2 x3 = (
 (F140 (S168.mk x2 x3) [x0, x1]).bind fun y1 =>
 bif (y1 != 0) then
  some (0, y1)
 else
 (F142 (S168.mk x2 x3) x0 x1).bind fun y2 =>
 some (y2, 0)
 : Option (Int × Int)) := (GoS_eq fd89 (tabH D h89) (x0, x1, x2, x3)).trans (by kernel_rfl)
/-! quad.size -/
theorem F94_eq (x0 : Int) : F94 x0 = (
 some (wr .u64 (mxE x0 (wr .i64 (0 - x0))))
 : Option Int) := (GoS_eq fd94 (tabH D h94) (x0)).trans (by kernel_rfl)
/-! line.Of -/
theorem F92_eq (x0 x1 : S102) (x2 x3 : Int) : F92 x0 x1 x2 x3 = (
 (F151 (S168.mk x2 x3)).bind fun y1 =>
 bif (!y1) then
  some (0, 1)
 else
 bif ((x1.f0 == 0) && (x1.f1 == 0)) then
  some (0, 13)
 else
 (F152 (S168.mk x2 x3) x0 x1).bind fun y2 =>
 some (y2, 0)
 : Option (Int × Int)) := (GoS_eq fd92 (tabH D h92) (x0, x1, x2, x3)).trans (by kernel_rfl)
/-! quad.beyond -/
theorem F45_eq (x0 x1 x2 : S24) (x3 x4 : Int) : F45 x0 x1 x2 x3 x4 = (
 (F88 x1 x2 x0).bind fun y1 =>
 bif (decide (y1.1 ≥ 0)) then
  (F89 x0 x1 x3 x4).bind fun y2 =>
  some y2.1
 else
 (F90 x1 x2 x0).bind fun y3 =>
 (F91 x1 x2).bind fun y4 =>
 (F94 y3.1).bind fun y5 =>
 (F94 y3.1).bind fun y6 =>
 (F93 y5 y6).bind fun y7 =>
 (F78 (wr .u64 y4.1)).bind fun y8 =>
 (F92 y7 y8 x3 x4).bind fun y9 =>
 some y9.1
 : Option Int) := (GoS_eq fd45 (tabH D h45) (x0, x1, x2, x3, x4)).trans (by kernel_rfl)
/-! quad.Extended -/
theorem F23_eq (x0 : S24) (x1 : S34) (x2 x3 : Int) : F23 x0 x1 x2 x3 = (
 (F42 x0 x1 x2 x3).bind fun y1 =>
 bif (y1 != 0) then
  some (0, y1)
 else
 (F44 x1.f2 x1.f3 x1.f4 x1.f1).bind fun y2 =>
 (F44 x1.f4 x1.f3 x1.f2 x1.f1).bind fun y3 =>
 (F43 x0 x1 x2 x3).bind fun y4 =>
 (F45 x0 x1.f2 y2 x2 x3).bind fun y5 =>
 (F45 x0 x1.f4 y3 x2 x3).bind fun y6 =>
 some ((mnE (mnE y4 y5) y6), 0)
 : Option (Int × Int)) := (GoS_eq fd23 (tabH D h23) (x0, x1, x2, x3)).trans (by kernel_rfl)
/-! pochoirlaw20.awake -/
theorem F18_eq : F18 = (
 (F22 (S24.mk 10 13) (S34.mk 0 true (S24.mk 0 0) (S24.mk 10 20) (S24.mk 20 0)) 10 10).bind fun y1 =>
 (F19 (S34.mk 0 true (S24.mk 0 0) (S24.mk 10 20) (S24.mk 20 0)) (S37.mk 1 2)).bind fun y2 =>
 (F23 (S24.mk (-10) (-20)) (S34.mk 0 true (S24.mk 0 0) (S24.mk 10 20) (S24.mk 20 0)) 10 10).bind fun y3 =>
 bif (y1.1 == 3) then
  bif (y1.2 == 0) then
   bif ((y2.1.f0 == 10) && (y2.1.f1 == 1)) then
    bif ((y2.2.1.f0 == 10) && (y2.2.1.f1 == 1)) then
     bif (y2.2.2 == 0) then
      bif (y3.1 == 0) then
       some (y3.2 == 0)
      else
      some false
     else
     some false
    else
    some false
   else
   some false
  else
  some false
 else
 some false
 : Option Bool) := (GoS_eq fd18 (tabH D h18) ()).trans (by kernel_rfl)
/-! pochoirref19.Right -/
theorem F21_eq (x0 x1 : Int) : F21 x0 x1 = (
 bif (decide (x0 ≥ 1)) then
  bif (decide (x0 ≤ 1048576)) then
   bif (decide (x1 ≥ 1)) then
    some (decide (x1 ≤ 255))
   else
   some false
  else
  some false
 else
 some false
 : Option Bool) := (GoS_eq fd21 (tabH D h21) (x0, x1)).trans (by kernel_rfl)
/-! quad.Gap -/
theorem F24_eq (x0 : S24) (x1 : S34) (x2 x3 x4 : Int) : F24 x0 x1 x2 x3 x4 = (
 (F42 x0 x1 x2 x3).bind fun y1 =>
 bif (y1 != 0) then
  some ([], 1)
 else
 bif (decide (x4 < 0)) then
  some ([], 1)
 else
 bif (decide (x4 > x3)) then
  some ([], 1)
 else
 L24_0 x2 x3 x4 x0 x1
 : Option (List S77 × Int)) := (GoS_eq fd24 (tabH D h24) (x0, x1, x2, x3, x4)).trans (by kernel_rfl)
theorem L24_0_eq (x0 x1 x2 : Int) (x3 : S24) (x4 : S34) : L24_0 x0 x1 x2 x3 x4 = (
 (F47 x3 x4).bind fun y1 =>
 (F46 y1 x4.f1 x0 x1 x2).bind fun y2 =>
 some (y2, 0)
 : Option (List S77 × Int)) := (LiS_eq fd24 (tabH_nat h24) c24_0 (x0, x1, x2, x3, x4, ())).trans (by kernel_rfl)
/-! pochoirref20.May -/
theorem F25_eq (x0 : S24) (x1 : S34) (x2 x3 : Int) : F25 x0 x1 x2 x3 = (
 (F35 x1).bind fun y1 =>
 bif y1 then
  (F31 x0).bind fun y2 =>
  bif y2 then
   (F21 x2 x3).bind fun y3 =>
   some y3
  else
  some false
 else
 some false
 : Option Bool) := (GoS_eq fd25 (tabH D h25) (x0, x1, x2, x3)).trans (by kernel_rfl)
/-! pochoirref02.To -/
theorem F49_eq (x0 : S81) : F49 x0 = (
 L49_0 x0 (S77.mk false []) (S77.mk x0.f0 []) 0
 : Option (S77)) := (GoS_eq fd49 (tabH D h49) (x0)).trans (by kernel_rfl)
theorem L49_0_eq (x0 : S81) (x1 x2 : S77) (x3 : Int) : L49_0 x0 x1 x2 x3 = (
 bif (decide (x3 < (x0.f1.length : Int))) then
  (F101 x0.f1 x3).bind fun y1 =>
  (F101 x0.f1 (wr .i64 (x3 + 1))).bind fun y2 =>
  grd (fit (x2.f1.length + [(wr .u32 (wr .u64 (y1 + (wr .u64 (y2 * 65536)))))].length) 4) <|
  L49_0 x0 x1 (S77.mk x2.f0 (x2.f1 ++ [(wr .u32 (wr .u64 (y1 + (wr .u64 (y2 * 65536)))))])) (wr .i64 (x3 + 2))
 else
 some x2
 : Option (S77)) := (LiS_eq fd49 (tabH_nat h49) c49_0 (x0, x1, x2, x3, ())).trans (by kernel_rfl)
/-! pochoirref02.Same -/
theorem F48_eq (x0 x1 : S77) : F48 x0 x1 = (
 bif (!(x0.f0 == x1.f0)) then
  some false
 else
 bif ((x0.f1.length : Int) != (x1.f1.length : Int)) then
  some false
 else
 L48_0 x0 x1 0
 : Option Bool) := (GoS_eq fd48 (tabH D h48) (x0, x1)).trans (by kernel_rfl)
theorem L48_0_eq (x0 x1 : S77) (x2 : Int) : L48_0 x0 x1 x2 = (
 bif (decide (x2 < (x0.f1.length : Int))) then
  grd (decide (0 ≤ x2)) <|
  grd (decide (x2 < (x0.f1.length : Int))) <|
  grd (decide (0 ≤ x2)) <|
  grd (decide (x2 < (x1.f1.length : Int))) <|
  bif ((x0.f1.getD (Int.toNat x2) 0) != (x1.f1.getD (Int.toNat x2) 0)) then
   some false
  else
  L48_0 x0 x1 (wr .i64 (x2 + 1))
 else
 some true
 : Option Bool) := (LiS_eq fd48 (tabH_nat h48) c48_0 (x0, x1, x2, ())).trans (by kernel_rfl)
/-! pochoirref05.Same -/
theorem F26_eq (x0 : List S77) (x1 : List S81) : F26 x0 x1 = (
 bif ((x0.length : Int) != (x1.length : Int)) then
  some false
 else
 L26_0 x0 x1 0
 : Option Bool) := (GoS_eq fd26 (tabH D h26) (x0, x1)).trans (by kernel_rfl)
theorem L26_0_eq (x0 : List S77) (x1 : List S81) (x2 : Int) : L26_0 x0 x1 x2 = (
 bif (decide (x2 < (x0.length : Int))) then
  grd (decide (0 ≤ x2)) <|
  grd (decide (x2 < (x0.length : Int))) <|
  grd (decide (0 ≤ x2)) <|
  grd (decide (x2 < (x1.length : Int))) <|
  (F49 (x1.getD (Int.toNat x2) z8)).bind fun y1 =>
  (F48 (x0.getD (Int.toNat x2) z7) y1).bind fun y2 =>
  bif (!y2) then
   some false
  else
  L26_0 x0 x1 (wr .i64 (x2 + 1))
 else
 some true
 : Option Bool) := (LiS_eq fd26 (tabH_nat h26) c26_0 (x0, x1, x2, ())).trans (by kernel_rfl)
/-! pochoirlaw20.QuadGaps -/
theorem F9_eq (x0 : S24) (x1 : S34) (x2 : S51) : F9 x0 x1 x2 = (
 F18.bind fun y1 =>
 bif (!y1) then
  some false
 else
 (F24 x0 x1 x2.f0 x2.f1 x2.f2).bind fun y2 =>
 (F25 x0 x1 x2.f0 x2.f1).bind fun y3 =>
 bif (!y3) then
  L9_1 y2.1 y2.2
 else
 bif (decide (x2.f2 < 0)) then
  L9_1 y2.1 y2.2
 else
 bif (decide (x2.f2 > x2.f1)) then
  L9_1 y2.1 y2.2
 else
 L9_0 x0 x1 x2 y2.1 y2.2
 : Option Bool) := (GoS_eq fd9 (tabH D h9) (x0, x1, x2)).trans (by kernel_rfl)
theorem L9_0_eq (x0 : S24) (x1 : S34) (x2 : S51) (x3 : List S77) (x4 : Int) : L9_0 x0 x1 x2 x3 x4 = (
 bif (x4 == 0) then
  (F27 x0 x1 x2.f0 x2.f1 x2.f2).bind fun y1 =>
  (F26 x3 y1).bind fun y2 =>
  some y2
 else
 some false
 : Option Bool) := (LiS_eq fd9 (tabH_nat h9) c9_0 (x0, x1, x2, x3, x4, ())).trans (by kernel_rfl)
theorem L9_1_eq (x0 : List S77) (x1 : Int) : L9_1 x0 x1 = (
 bif ((x0.length : Int) == 0) then
  some (x1 == 1)
 else
 some false
 : Option Bool) := (LiS_eq fd9 (tabH_nat h9) c9_1 (x0, x1, ())).trans (by kernel_rfl)
end Go.Proofs.YtnikppnfkjogdaaGreatDoor.Ev
