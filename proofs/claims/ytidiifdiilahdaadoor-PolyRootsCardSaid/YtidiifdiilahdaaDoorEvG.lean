/- Printed by a program of this claim: what the functions answer, each by an equation. -/
import Derived.Test.YtidiifdiilahdaaDoorEvF
namespace Go.Proofs.YtidiifdiilahdaaDoor.Ev
open Go
set_option linter.unusedVariables false
set_option maxRecDepth 100000
/-! big.trimmed -/
theorem F61_eq (x0 : List Int) : F61 x0 = (
  L61_0 x0 (x0.length : Int)
 : Option (List Int)) := (GoS_eq fd61 (tabH D h61) (x0)).trans (by kernel_rfl)
theorem L61_0_eq (x0 : List Int) (x1 : Int) : L61_0 x0 x1 = (
  bif (decide (x1 > 0)) then
    grd (decide (0 ≤ (wr .i64 (x1 - 1)))) <|
    grd (decide ((wr .i64 (x1 - 1)) < (x0.length : Int))) <|
    bif ((x0.getD (Int.toNat (wr .i64 (x1 - 1))) 0) == 0) then
      L61_0 x0 (wr .i64 (x1 - 1))
    else
    grd (decide (0 ≤ x1)) <|
    grd (decide (x1 ≤ (x0.length : Int))) <|
    some (List.take (Int.toNat x1) x0)
  else
  grd (decide (0 ≤ x1)) <|
  grd (decide (x1 ≤ (x0.length : Int))) <|
  some (List.take (Int.toNat x1) x0)
 : Option (List Int)) := (LiS_eq fd61 (tabH_nat h61) c61_0 (x0, x1, ())).trans (by kernel_rfl)
/-! big.form -/
theorem F69_eq (x0 : Bool) (x1 : List Int) : F69 x0 x1 = (
  (F61 x1).bind fun y1 =>
  bif ((y1.length : Int) == 0) then
    some (S31.mk false [])
  else
  some (S31.mk x0 y1)
 : Option (S31)) := (GoS_eq fd69 (tabH D h69) (x0, x1)).trans (by kernel_rfl)
/-! big.Of -/
theorem F53_eq (x0 : Int) : F53 x0 = (
  bif (decide (x0 < 0)) then
    L53_0 x0 (S31.mk false []) (wr .u64 (0 - (wr .u64 x0)))
  else
  L53_0 x0 (S31.mk false []) (wr .u64 x0)
 : Option (S31)) := (GoS_eq fd53 (tabH D h53) (x0)).trans (by kernel_rfl)
theorem L53_0_eq (x0 : Int) (x1 : S31) (x2 : Int) : L53_0 x0 x1 x2 = (
  (F69 (decide (x0 < 0)) [(wr .u32 x2), (wr .u32 (shrE Go.IntKind.u64 x2 (32 : Int)))]).bind fun y1 =>
  some y1
 : Option (S31)) := (LiS_eq fd53 (tabH_nat h53) c53_0 (x0, x1, x2, ())).trans (by kernel_rfl)
/-! big.Sign -/
theorem F35_eq (x0 : S31) : F35 x0 = (
  (F61 x0.f1).bind fun y1 =>
  bif ((y1.length : Int) == 0) then
    some 0
  else
  bif x0.f0 then
    some (-1)
  else
  some 1
 : Option (Int)) := (GoS_eq fd35 (tabH D h35) (x0)).trans (by kernel_rfl)
/-! poly.trimmed -/
theorem F44_eq (x0 : List S31) : F44 x0 = (
  L44_0 x0 (x0.length : Int)
 : Option (List S31)) := (GoS_eq fd44 (tabH D h44) (x0)).trans (by kernel_rfl)
theorem L44_0_eq (x0 : List S31) (x1 : Int) : L44_0 x0 x1 = (
  bif (decide (x1 > 0)) then
    grd (decide (0 ≤ (wr .i64 (x1 - 1)))) <|
    grd (decide ((wr .i64 (x1 - 1)) < (x0.length : Int))) <|
    (F35 (x0.getD (Int.toNat (wr .i64 (x1 - 1))) z0)).bind fun y1 =>
    bif (y1 == 0) then
      L44_0 x0 (wr .i64 (x1 - 1))
    else
    grd (decide (0 ≤ x1)) <|
    grd (decide (x1 ≤ (x0.length : Int))) <|
    some (List.take (Int.toNat x1) x0)
  else
  grd (decide (0 ≤ x1)) <|
  grd (decide (x1 ≤ (x0.length : Int))) <|
  some (List.take (Int.toNat x1) x0)
 : Option (List S31)) := (LiS_eq fd44 (tabH_nat h44) c44_0 (x0, x1, ())).trans (by kernel_rfl)
/-! poly.Of -/
theorem F20_eq (x0 : List Int) : F20 x0 = (
  L20_0 [] x0 (x0.length : Int) 0
 : Option (List S31)) := (GoS_eq fd20 (tabH D h20) (x0)).trans (by kernel_rfl)
theorem L20_0_eq (x0 : List S31) (x1 : List Int) (x2 : Int) (x3 : Int) : L20_0 x0 x1 x2 x3 = (
  bif (decide (x3 < x2)) then
    grd (decide (0 ≤ x3)) <|
    grd (decide (x3 < (x1.length : Int))) <|
    (F53 (x1.getD (Int.toNat x3) 0)).bind fun y1 =>
    grd (fit (x0.length + [y1].length) 32) <|
    L20_0 (x0 ++ [y1]) x1 x2 (wr .i64 (x3 + 1))
  else
  (F44 x0).bind fun y2 =>
  some y2
 : Option (List S31)) := (LiS_eq fd20 (tabH_nat h20) c20_0 (x0, x1, x2, x3, ())).trans (by kernel_rfl)
/-! poly.at -/
theorem F49_eq (x0 : List S31) (x1 : Int) : F49 x0 x1 = (
  bif (decide (x1 < 0)) then
    some (S31.mk false [])
  else
  bif (decide (x1 ≥ (x0.length : Int))) then
    some (S31.mk false [])
  else
  grd (decide (0 ≤ x1)) <|
  grd (decide (x1 < (x0.length : Int))) <|
  some (x0.getD (Int.toNat x1) z0)
 : Option (S31)) := (GoS_eq fd49 (tabH D h49) (x0, x1)).trans (by kernel_rfl)
/-! big.at -/
theorem F81_eq (x0 : List Int) (x1 : Int) : F81 x0 x1 = (
  bif (decide (x1 < (x0.length : Int))) then
    grd (decide (0 ≤ x1)) <|
    grd (decide (x1 < (x0.length : Int))) <|
    some (wr .u64 (x0.getD (Int.toNat x1) 0))
  else
  some 0
 : Option (Int)) := (GoS_eq fd81 (tabH D h81) (x0, x1)).trans (by kernel_rfl)
/-! big.plus -/
theorem F71_eq (x0 : List Int) (x1 : List Int) : F71 x0 x1 = (
  grd (decide (0 ≤ (mxE (x0.length : Int) (x1.length : Int)))) <|
  grd (decide ((mxE (x0.length : Int) (x1.length : Int)) ≤ (wr .i64 ((mxE (x0.length : Int) (x1.length : Int)) + 1)))) <|
  grd (fitM (Int.toNat (wr .i64 ((mxE (x0.length : Int) (x1.length : Int)) + 1))) 4) <|
  L71_0 x0 x1 (List.replicate (Int.toNat (mxE (x0.length : Int) (x1.length : Int))) (0 : Int)) 0 ((List.replicate (Int.toNat (mxE (x0.length : Int) (x1.length : Int))) (0 : Int)).length : Int) 0
 : Option (List Int)) := (GoS_eq fd71 (tabH D h71) (x0, x1)).trans (by kernel_rfl)
theorem L71_0_eq (x0 : List Int) (x1 : List Int) (x2 : List Int) (x3 : Int) (x4 : Int) (x5 : Int) : L71_0 x0 x1 x2 x3 x4 x5 = (
  bif (decide (x5 < x4)) then
    (F81 x0 x5).bind fun y1 =>
    (F81 x1 x5).bind fun y2 =>
    grd (decide (0 ≤ x5)) <|
    grd (decide (x5 < (x2.length : Int))) <|
    L71_0 x0 x1 (List.set x2 (Int.toNat x5) (wr .u32 (wr .u64 ((wr .u64 (y1 + y2)) + x3)))) (shrE Go.IntKind.u64 (wr .u64 ((wr .u64 (y1 + y2)) + x3)) (32 : Int)) x4 (wr .i64 (x5 + 1))
  else
  grd (fit (x2.length + [(wr .u32 x3)].length) 4) <|
  some (x2 ++ [(wr .u32 x3)])
 : Option (List Int)) := (LiS_eq fd71 (tabH_nat h71) c71_0 (x0, x1, x2, x3, x4, x5, ())).trans (by kernel_rfl)
/-! cmp.isNaN[int] -/
theorem F92_eq (x0 : Int) : F92 x0 = (
  some (x0 != x0)
 : Option (Bool)) := (GoS_eq fd92 (tabH D h92) (x0)).trans (by kernel_rfl)
/-! cmp.Compare[int] -/
theorem F82_eq (x0 : Int) (x1 : Int) : F82 x0 x1 = (
  (F92 x0).bind fun y1 =>
  (F92 x1).bind fun y2 =>
  bif y1 then
    bif y2 then
      some 0
    else
    some (-1)
  else
  bif y2 then
    some 1
  else
  bif (decide (x0 < x1)) then
    some (-1)
  else
  bif (decide (x0 > x1)) then
    some 1
  else
  some 0
 : Option (Int)) := (GoS_eq fd82 (tabH D h82) (x0, x1)).trans (by kernel_rfl)
/-! cmp.isNaN[uint32] -/
theorem F93_eq (x0 : Int) : F93 x0 = (
  some (x0 != x0)
 : Option (Bool)) := (GoS_eq fd93 (tabH D h93) (x0)).trans (by kernel_rfl)
/-! cmp.Compare[uint32] -/
theorem F83_eq (x0 : Int) (x1 : Int) : F83 x0 x1 = (
  (F93 x0).bind fun y1 =>
  (F93 x1).bind fun y2 =>
  bif y1 then
    bif y2 then
      some 0
    else
    some (-1)
  else
  bif y2 then
    some 1
  else
  bif (decide (x0 < x1)) then
    some (-1)
  else
  bif (decide (x0 > x1)) then
    some 1
  else
  some 0
 : Option (Int)) := (GoS_eq fd83 (tabH D h83) (x0, x1)).trans (by kernel_rfl)
/-! big.against -/
theorem F72_eq (x0 : List Int) (x1 : List Int) : F72 x0 x1 = (
  (F82 (x0.length : Int) (x1.length : Int)).bind fun y1 =>
  bif (y1 != 0) then
    some y1
  else
  L72_0 x0 x1 (wr .i64 ((x0.length : Int) - 1))
 : Option (Int)) := (GoS_eq fd72 (tabH D h72) (x0, x1)).trans (by kernel_rfl)
theorem L72_0_eq (x0 : List Int) (x1 : List Int) (x2 : Int) : L72_0 x0 x1 x2 = (
  bif (decide (x2 ≥ 0)) then
    grd (decide (0 ≤ x2)) <|
    grd (decide (x2 < (x0.length : Int))) <|
    grd (decide (0 ≤ x2)) <|
    grd (decide (x2 < (x1.length : Int))) <|
    (F83 (x0.getD (Int.toNat x2) 0) (x1.getD (Int.toNat x2) 0)).bind fun y1 =>
    bif (y1 != 0) then
      some y1
    else
    L72_0 x0 x1 (wr .i64 (x2 - 1))
  else
  some 0
 : Option (Int)) := (LiS_eq fd72 (tabH_nat h72) c72_0 (x0, x1, x2, ())).trans (by kernel_rfl)
/-! big.minus -/
theorem F73_eq (x0 : List Int) (x1 : List Int) : F73 x0 x1 = (
  grd (decide ((x0.length : Int) ≤ (x0.length : Int))) <|
  grd (fitM (Int.toNat (x0.length : Int)) 4) <|
  L73_0 x0 x1 (List.replicate (Int.toNat (x0.length : Int)) (0 : Int)) 0 (x0.length : Int) 0
 : Option (List Int)) := (GoS_eq fd73 (tabH D h73) (x0, x1)).trans (by kernel_rfl)
theorem L73_0_eq (x0 : List Int) (x1 : List Int) (x2 : List Int) (x3 : Int) (x4 : Int) (x5 : Int) : L73_0 x0 x1 x2 x3 x4 x5 = (
  bif (decide (x5 < x4)) then
    grd (decide (0 ≤ x5)) <|
    grd (decide (x5 < (x0.length : Int))) <|
    (F81 x1 x5).bind fun y1 =>
    grd (decide (0 ≤ x5)) <|
    grd (decide (x5 < (x2.length : Int))) <|
    L73_0 x0 x1 (List.set x2 (Int.toNat x5) (wr .u32 (wr .u64 ((wr .u64 ((wr .u64 (x0.getD (Int.toNat x5) 0)) - y1)) - x3)))) (shrE Go.IntKind.u64 (wr .u64 ((wr .u64 ((wr .u64 (x0.getD (Int.toNat x5) 0)) - y1)) - x3)) (63 : Int)) x4 (wr .i64 (x5 + 1))
  else
  some x2
 : Option (List Int)) := (LiS_eq fd73 (tabH_nat h73) c73_0 (x0, x1, x2, x3, x4, x5, ())).trans (by kernel_rfl)
/-! big.Add -/
theorem F54_eq (x0 : S31) (x1 : S31) : F54 x0 x1 = (
  (F61 x0.f1).bind fun y1 =>
  (F61 x1.f1).bind fun y2 =>
  bif (x0.f0 == x1.f0) then
    (F71 y1 y2).bind fun y3 =>
    (F69 x0.f0 y3).bind fun y4 =>
    some y4
  else
  (F72 y1 y2).bind fun y5 =>
  bif (decide (y5 ≥ 0)) then
    (F73 y1 y2).bind fun y6 =>
    (F69 x0.f0 y6).bind fun y7 =>
    some y7
  else
  (F73 y2 y1).bind fun y8 =>
  (F69 x1.f0 y8).bind fun y9 =>
  some y9
 : Option (S31)) := (GoS_eq fd54 (tabH D h54) (x0, x1)).trans (by kernel_rfl)
/-! poly.each(big.Add) -/
theorem F55054_eq (x0 : List S31) (x1 : List S31) (x2 : Unit) : F55054 x0 x1 x2 = (
  L55054_0 x0 x1 [] (mxE (x0.length : Int) (x1.length : Int)) 0
 : Option (List S31)) := (GoS_eq fd55054 (tabH D h55054) (x0, x1, x2)).trans (by kernel_rfl)
theorem L55054_0_eq (x0 : List S31) (x1 : List S31) (x2 : List S31) (x3 : Int) (x4 : Int) : L55054_0 x0 x1 x2 x3 x4 = (
  bif (decide (x4 < x3)) then
    (F49 x0 x4).bind fun y1 =>
    (F49 x1 x4).bind fun y2 =>
    (F54 y1 y2).bind fun y3 =>
    grd (fit (x2.length + [y3].length) 32) <|
    L55054_0 x0 x1 (x2 ++ [y3]) x3 (wr .i64 (x4 + 1))
  else
  (F44 x2).bind fun y4 =>
  some y4
 : Option (List S31)) := (LiS_eq fd55054 (tabH_nat h55054) c55054_0 (x0, x1, x2, x3, x4, ())).trans (by kernel_rfl)
/-! poly.Add -/
theorem F24_eq (x0 : List S31) (x1 : List S31) : F24 x0 x1 = (
  (F55054 x0 x1 ()).bind fun y1 =>
  some y1
 : Option (List S31)) := (GoS_eq fd24 (tabH D h24) (x0, x1)).trans (by kernel_rfl)
/-! big.Neg -/
theorem F45_eq (x0 : S31) : F45 x0 = (
  (F70 x0.f1).bind fun y1 =>
  (F69 (!x0.f0) y1).bind fun y2 =>
  some y2
 : Option (S31)) := (GoS_eq fd45 (tabH D h45) (x0)).trans (by kernel_rfl)
/-! poly.sized -/
theorem F48_eq (x0 : S31) : F48 x0 = (
  (F35 x0).bind fun y1 =>
  bif (decide (y1 < 0)) then
    (F45 x0).bind fun y2 =>
    some y2
  else
  some x0
 : Option (S31)) := (GoS_eq fd48 (tabH D h48) (x0)).trans (by kernel_rfl)
/-! big.Mul -/
theorem F47_eq (x0 : S31) (x1 : S31) : F47 x0 x1 = (
  grd (decide (0 ≤ (wr .i64 ((x0.f1.length : Int) + (x1.f1.length : Int))))) <|
  grd (decide ((wr .i64 ((x0.f1.length : Int) + (x1.f1.length : Int))) ≤ (wr .i64 ((x0.f1.length : Int) + (x1.f1.length : Int))))) <|
  grd (fitM (Int.toNat (wr .i64 ((x0.f1.length : Int) + (x1.f1.length : Int)))) 4) <|
  L47_0 x0 x1 (S31.mk false []) (List.replicate (Int.toNat (wr .i64 ((x0.f1.length : Int) + (x1.f1.length : Int)))) (0 : Int)) x0.f1 (x0.f1.length : Int) 0
 : Option (S31)) := (GoS_eq fd47 (tabH D h47) (x0, x1)).trans (by kernel_rfl)
theorem L47_0_eq (x0 : S31) (x1 : S31) (x2 : S31) (x3 : List Int) (x4 : List Int) (x5 : Int) (x6 : Int) : L47_0 x0 x1 x2 x3 x4 x5 x6 = (
  bif (decide (x6 < x5)) then
    grd (decide (0 ≤ x6)) <|
    grd (decide (x6 < (x4.length : Int))) <|
    L47_1 x0 x1 x2 x3 x6 (x4.getD (Int.toNat x6) 0) 0 x4 x5 x6 x1.f1 (x1.f1.length : Int) 0
  else
  (F69 (!(x0.f0 == x1.f0)) x3).bind fun y1 =>
  some y1
 : Option (S31)) := (LiS_eq fd47 (tabH_nat h47) c47_0 (x0, x1, x2, x3, x4, x5, x6, ())).trans (by kernel_rfl)
theorem L47_1_eq (x0 : S31) (x1 : S31) (x2 : S31) (x3 : List Int) (x4 : Int) (x5 : Int) (x6 : Int) (x7 : List Int) (x8 : Int) (x9 : Int) (x10 : List Int) (x11 : Int) (x12 : Int) : L47_1 x0 x1 x2 x3 x4 x5 x6 x7 x8 x9 x10 x11 x12 = (
  bif (decide (x12 < x11)) then
    grd (decide (0 ≤ x12)) <|
    grd (decide (x12 < (x10.length : Int))) <|
    grd (decide (0 ≤ (wr .i64 (x4 + x12)))) <|
    grd (decide ((wr .i64 (x4 + x12)) < (x3.length : Int))) <|
    grd (decide (0 ≤ (wr .i64 (x4 + x12)))) <|
    grd (decide ((wr .i64 (x4 + x12)) < (x3.length : Int))) <|
    L47_1 x0 x1 x2 (List.set x3 (Int.toNat (wr .i64 (x4 + x12))) (wr .u32 (wr .u64 ((wr .u64 ((wr .u64 ((wr .u64 x5) * (wr .u64 (x10.getD (Int.toNat x12) 0)))) + (wr .u64 (x3.getD (Int.toNat (wr .i64 (x4 + x12))) 0)))) + x6)))) x4 x5 (shrE Go.IntKind.u64 (wr .u64 ((wr .u64 ((wr .u64 ((wr .u64 x5) * (wr .u64 (x10.getD (Int.toNat x12) 0)))) + (wr .u64 (x3.getD (Int.toNat (wr .i64 (x4 + x12))) 0)))) + x6)) (32 : Int)) x7 x8 x9 x10 x11 (wr .i64 (x12 + 1))
  else
  grd (decide (0 ≤ (wr .i64 (x4 + (x1.f1.length : Int))))) <|
  grd (decide ((wr .i64 (x4 + (x1.f1.length : Int))) < (x3.length : Int))) <|
  L47_0 x0 x1 x2 (List.set x3 (Int.toNat (wr .i64 (x4 + (x1.f1.length : Int)))) (wr .u32 x6)) x7 x8 (wr .i64 (x9 + 1))
 : Option (S31)) := (LiS_eq fd47 (tabH_nat h47) c47_1 (x0, x1, x2, x3, x4, x5, x6, x7, x8, x9, x10, x11, x12, ())).trans (by kernel_rfl)
/-! big.Sub -/
theorem F46_eq (x0 : S31) (x1 : S31) : F46 x0 x1 = (
  (F45 x1).bind fun y1 =>
  (F54 x0 y1).bind fun y2 =>
  some y2
 : Option (S31)) := (GoS_eq fd46 (tabH D h46) (x0, x1)).trans (by kernel_rfl)
/-! poly.Rest -/
theorem F18_eq (x0 : List S31) (x1 : List S31) : F18 x0 x1 = (
  (F44 x1).bind fun y1 =>
  bif ((y1.length : Int) == 0) then
    some ([], 13)
  else
  grd (decide (0 ≤ (wr .i64 ((y1.length : Int) - 1)))) <|
  grd (decide ((wr .i64 ((y1.length : Int) - 1)) < (y1.length : Int))) <|
  (F24 x0 []).bind fun y2 =>
  L18_0 y2 y1 (y1.getD (Int.toNat (wr .i64 ((y1.length : Int) - 1))) z0)
 : Option (List S31 × Int)) := (GoS_eq fd18 (tabH D h18) (x0, x1)).trans (by kernel_rfl)
theorem L18_0_eq (x0 : List S31) (x1 : List S31) (x2 : S31) : L18_0 x0 x1 x2 = (
  bif (decide ((x0.length : Int) ≥ (x1.length : Int))) then
    grd (decide (0 ≤ (wr .i64 ((x0.length : Int) - 1)))) <|
    grd (decide ((wr .i64 ((x0.length : Int) - 1)) < (x0.length : Int))) <|
    (F35 x2).bind fun y1 =>
    bif (decide (y1 < 0)) then
      (F45 (x0.getD (Int.toNat (wr .i64 ((x0.length : Int) - 1))) z0)).bind fun y2 =>
      L18_1 x0 x1 x2 y2
    else
    L18_1 x0 x1 x2 (x0.getD (Int.toNat (wr .i64 ((x0.length : Int) - 1))) z0)
  else
  some (x0, 0)
 : Option (List S31 × Int)) := (LiS_eq fd18 (tabH_nat h18) c18_0 (x0, x1, x2, ())).trans (by kernel_rfl)
theorem L18_1_eq (x0 : List S31) (x1 : List S31) (x2 : S31) (x3 : S31) : L18_1 x0 x1 x2 x3 = (
  L18_2 x1 x2 x3 (wr .i64 ((x0.length : Int) - (x1.length : Int))) [] x0 (x0.length : Int) 0
 : Option (List S31 × Int)) := (LiS_eq fd18 (tabH_nat h18) c18_1 (x0, x1, x2, x3, ())).trans (by kernel_rfl)
theorem L18_2_eq (x0 : List S31) (x1 : S31) (x2 : S31) (x3 : Int) (x4 : List S31) (x5 : List S31) (x6 : Int) (x7 : Int) : L18_2 x0 x1 x2 x3 x4 x5 x6 x7 = (
  bif (decide (x7 < x6)) then
    grd (decide (0 ≤ x7)) <|
    grd (decide (x7 < (x5.length : Int))) <|
    (F48 x1).bind fun y1 =>
    (F47 (x5.getD (Int.toNat x7) z0) y1).bind fun y2 =>
    (F49 x0 (wr .i64 (x7 - x3))).bind fun y3 =>
    (F47 y3 x2).bind fun y4 =>
    (F46 y2 y4).bind fun y5 =>
    grd (fit (x4.length + [y5].length) 32) <|
    L18_2 x0 x1 x2 x3 (x4 ++ [y5]) x5 x6 (wr .i64 (x7 + 1))
  else
  (F44 x4).bind fun y6 =>
  L18_0 y6 x0 x1
 : Option (List S31 × Int)) := (LiS_eq fd18 (tabH_nat h18) c18_2 (x0, x1, x2, x3, x4, x5, x6, x7, ())).trans (by kernel_rfl)
/-! ratio.size -/
theorem F60_eq (x0 : Int) : F60 x0 = (
  bif (decide (x0 < 0)) then
    some (wr .u64 (0 - (wr .u64 x0)))
  else
  some (wr .u64 x0)
 : Option (Int)) := (GoS_eq fd60 (tabH D h60) (x0)).trans (by kernel_rfl)
/-! wide.Of -/
theorem F59_eq (x0 : Int) : F59 x0 = (
  some (S81.mk 0 x0)
 : Option (S81)) := (GoS_eq fd59 (tabH D h59) (x0)).trans (by kernel_rfl)
/-! ratio.twos -/
theorem F75_eq (x0 : S81) : F75 x0 = (
  bif (x0.f1 != 0) then
    (F84 x0.f1).bind fun y1 =>
    some y1
  else
  (F84 x0.f0).bind fun y2 =>
  some (wr .i64 (64 + y2))
 : Option (Int)) := (GoS_eq fd75 (tabH D h75) (x0)).trans (by kernel_rfl)
/-! wide.right -/
theorem F85_eq (x0 : S81) (x1 : Int) : F85 x0 x1 = (
  bif (decide (x1 ≥ 64)) then
    grd (decide (0 ≤ (wr .u64 (x1 - 64)))) <|
    some (S81.mk 0 (shrE Go.IntKind.u64 x0.f0 (wr .u64 (x1 - 64))))
  else
  grd (decide (0 ≤ x1)) <|
  grd (decide (0 ≤ x1)) <|
  grd (decide (0 ≤ (wr .u64 (64 - x1)))) <|
  some (S81.mk (shrE Go.IntKind.u64 x0.f0 x1) (orE Go.IntKind.u64 (shrE Go.IntKind.u64 x0.f1 x1) (shlE Go.IntKind.u64 x0.f0 (wr .u64 (64 - x1)))))
 : Option (S81)) := (GoS_eq fd85 (tabH D h85) (x0, x1)).trans (by kernel_rfl)
/-! math/bits.Len64 -/
theorem F94_eq (x0 : Int) : F94 x0 = (
  bif (decide (x0 ≥ 4294967296)) then
    L94_0 (shrE Go.IntKind.u64 x0 (32 : Int)) 32
  else
  L94_0 x0 0
 : Option (Int)) := (GoS_eq fd94 (tabH D h94) (x0)).trans (by kernel_rfl)
theorem L94_0_eq (x0 : Int) (x1 : Int) : L94_0 x0 x1 = (
  bif (decide (x0 ≥ 65536)) then
    L94_1 (shrE Go.IntKind.u64 x0 (16 : Int)) (wr .i64 (x1 + 16))
  else
  L94_1 x0 x1
 : Option (Int)) := (LiS_eq fd94 (tabH_nat h94) c94_0 (x0, x1, ())).trans (by kernel_rfl)
theorem L94_1_eq (x0 : Int) (x1 : Int) : L94_1 x0 x1 = (
  bif (decide (x0 ≥ 256)) then
    L94_2 (shrE Go.IntKind.u64 x0 (8 : Int)) (wr .i64 (x1 + 8))
  else
  L94_2 x0 x1
 : Option (Int)) := (LiS_eq fd94 (tabH_nat h94) c94_1 (x0, x1, ())).trans (by kernel_rfl)
theorem L94_2_eq (x0 : Int) (x1 : Int) : L94_2 x0 x1 = (
  grd (decide (0 ≤ (wr .u8 x0))) <|
  grd (decide ((wr .u8 x0) < 256)) <|
  some (wr .i64 (x1 + (wr .i64 (btE (ofBytes [0, 1, 2, 2, 3, 3, 3, 3, 4, 4, 4, 4, 4, 4, 4, 4, 5, 5, 5, 5, 5, 5, 5, 5, 5, 5, 5, 5, 5, 5, 5, 5, 6, 6, 6, 6, 6, 6, 6, 6, 6, 6, 6, 6, 6, 6, 6, 6, 6, 6, 6, 6, 6, 6, 6, 6, 6, 6, 6, 6, 6, 6, 6, 6, 7, 7, 7, 7, 7, 7, 7, 7, 7, 7, 7, 7, 7, 7, 7, 7, 7, 7, 7, 7, 7, 7, 7, 7, 7, 7, 7, 7, 7, 7, 7, 7, 7, 7, 7, 7, 7, 7, 7, 7, 7, 7, 7, 7, 7, 7, 7, 7, 7, 7, 7, 7, 7, 7, 7, 7, 7, 7, 7, 7, 7, 7, 7, 7, 8, 8, 8, 8, 8, 8, 8, 8, 8, 8, 8, 8, 8, 8, 8, 8, 8, 8, 8, 8, 8, 8, 8, 8, 8, 8, 8, 8, 8, 8, 8, 8, 8, 8, 8, 8, 8, 8, 8, 8, 8, 8, 8, 8, 8, 8, 8, 8, 8, 8, 8, 8, 8, 8, 8, 8, 8, 8, 8, 8, 8, 8, 8, 8, 8, 8, 8, 8, 8, 8, 8, 8, 8, 8, 8, 8, 8, 8, 8, 8, 8, 8, 8, 8, 8, 8, 8, 8, 8, 8, 8, 8, 8, 8, 8, 8, 8, 8, 8, 8, 8, 8, 8, 8, 8, 8, 8, 8, 8, 8, 8, 8, 8, 8, 8, 8, 8, 8, 8, 8, 8, 8, 8, 8, 8, 8, 8, 8]) (Int.toNat (wr .u8 x0))))))
 : Option (Int)) := (LiS_eq fd94 (tabH_nat h94) c94_2 (x0, x1, ())).trans (by kernel_rfl)
/-! wide.Bits -/
theorem F86_eq (x0 : S81) : F86 x0 = (
  bif (x0.f0 != 0) then
    (F94 x0.f0).bind fun y1 =>
    some (wr .i64 (64 + y1))
  else
  (F94 x0.f1).bind fun y2 =>
  some y2
 : Option (Int)) := (GoS_eq fd86 (tabH D h86) (x0)).trans (by kernel_rfl)
/-! wide.left -/
theorem F87_eq (x0 : S81) (x1 : Int) : F87 x0 x1 = (
  bif (decide (x1 ≥ 64)) then
    grd (decide (0 ≤ (wr .u64 (x1 - 64)))) <|
    some (S81.mk (shlE Go.IntKind.u64 x0.f1 (wr .u64 (x1 - 64))) 0)
  else
  grd (decide (0 ≤ x1)) <|
  grd (decide (0 ≤ (wr .u64 (64 - x1)))) <|
  grd (decide (0 ≤ x1)) <|
  some (S81.mk (orE Go.IntKind.u64 (shlE Go.IntKind.u64 x0.f0 x1) (shrE Go.IntKind.u64 x0.f1 (wr .u64 (64 - x1)))) (shlE Go.IntKind.u64 x0.f1 x1))
 : Option (S81)) := (GoS_eq fd87 (tabH D h87) (x0, x1)).trans (by kernel_rfl)
/-! wide.Shift -/
theorem F76_eq (x0 : S81) (x1 : Int) : F76 x0 x1 = (
  bif ((x0.f0 == 0) && (x0.f1 == 0)) then
    some ((S81.mk 0 0), 0)
  else
  bif (decide (x1 ≤ (-128))) then
    some ((S81.mk 0 0), 0)
  else
  L76_0 x1 x0 (S81.mk 0 0)
 : Option (S81 × Int)) := (GoS_eq fd76 (tabH D h76) (x0, x1)).trans (by kernel_rfl)
theorem L76_0_eq (x0 : Int) (x1 : S81) (x2 : S81) : L76_0 x0 x1 x2 = (
  bif (decide (x0 < 0)) then
    (F85 x1 (wr .u64 (wr .i64 (0 - x0)))).bind fun y1 =>
    some (y1, 0)
  else
  (F86 x1).bind fun y2 =>
  bif (decide (x0 > (wr .i64 (128 - y2)))) then
    some ((S81.mk 0 0), 2)
  else
  (F87 x1 (wr .u64 x0)).bind fun y3 =>
  some (y3, 0)
 : Option (S81 × Int)) := (LiS_eq fd76 (tabH_nat h76) c76_0 (x0, x1, x2, ())).trans (by kernel_rfl)
/-! cmp.isNaN[uint64] -/
theorem F95_eq (x0 : Int) : F95 x0 = (
  some (x0 != x0)
 : Option (Bool)) := (GoS_eq fd95 (tabH D h95) (x0)).trans (by kernel_rfl)
/-! cmp.Compare[uint64] -/
theorem F89_eq (x0 : Int) (x1 : Int) : F89 x0 x1 = (
  (F95 x0).bind fun y1 =>
  (F95 x1).bind fun y2 =>
  bif y1 then
    bif y2 then
      some 0
    else
    some (-1)
  else
  bif y2 then
    some 1
  else
  bif (decide (x0 < x1)) then
    some (-1)
  else
  bif (decide (x0 > x1)) then
    some 1
  else
  some 0
 : Option (Int)) := (GoS_eq fd89 (tabH D h89) (x0, x1)).trans (by kernel_rfl)
/-! cmp.Or[int] -/
theorem F88_eq (x0 : List Int) : F88 x0 = (
  L88_0 0 x0 (x0.length : Int) 0
 : Option (Int)) := (GoS_eq fd88 (tabH D h88) (x0)).trans (by kernel_rfl)
theorem L88_0_eq (x0 : Int) (x1 : List Int) (x2 : Int) (x3 : Int) : L88_0 x0 x1 x2 x3 = (
  bif (decide (x3 < x2)) then
    grd (decide (0 ≤ x3)) <|
    grd (decide (x3 < (x1.length : Int))) <|
    bif ((x1.getD (Int.toNat x3) 0) != x0) then
      some (x1.getD (Int.toNat x3) 0)
    else
    L88_0 x0 x1 x2 (wr .i64 (x3 + 1))
  else
  some x0
 : Option (Int)) := (LiS_eq fd88 (tabH_nat h88) c88_0 (x0, x1, x2, x3, ())).trans (by kernel_rfl)
/-! wide.Cmp -/
theorem F77_eq (x0 : S81) (x1 : S81) : F77 x0 x1 = (
  (F89 x0.f0 x1.f0).bind fun y1 =>
  (F89 x0.f1 x1.f1).bind fun y2 =>
  (F88 [y1, y2]).bind fun y3 =>
  some y3
 : Option (Int)) := (GoS_eq fd77 (tabH D h77) (x0, x1)).trans (by kernel_rfl)
/-! wide.Sub -/
theorem F78_eq (x0 : S81) (x1 : S81) : F78 x0 x1 = (
  (F90 x0.f1 x1.f1 0).bind fun y1 =>
  (F90 x0.f0 x1.f0 y1.2).bind fun y2 =>
  bif (y2.2 != 0) then
    some ((S81.mk 0 0), 2)
  else
  some ((S81.mk y2.1 y1.1), 0)
 : Option (S81 × Int)) := (GoS_eq fd78 (tabH D h78) (x0, x1)).trans (by kernel_rfl)
/-! ratio.common -/
theorem F58_eq (x0 : S81) (x1 : S81) : F58 x0 x1 = (
  bif ((x0.f0 == 0) && (x0.f1 == 0)) then
    some x1
  else
  bif ((x1.f0 == 0) && (x1.f1 == 0)) then
    some x0
  else
  (F75 x0).bind fun y1 =>
  (F75 x1).bind fun y2 =>
  (F75 x0).bind fun y3 =>
  (F76 x0 (wr .i64 (0 - y3))).bind fun y4 =>
  L58_0 y4.1 x1 (S81.mk 0 0) (mnE y1 y2)
 : Option (S81)) := (GoS_eq fd58 (tabH D h58) (x0, x1)).trans (by kernel_rfl)
theorem L58_0_eq (x0 : S81) (x1 : S81) (x2 : S81) (x3 : Int) : L58_0 x0 x1 x2 x3 = (
  bif (!((x1.f0 == 0) && (x1.f1 == 0))) then
    (F75 x1).bind fun y1 =>
    (F76 x1 (wr .i64 (0 - y1))).bind fun y2 =>
    (F77 x0 y2.1).bind fun y3 =>
    bif (decide (y3 > 0)) then
      L58_1 y2.1 x0 x2 x3
    else
    L58_1 x0 y2.1 x2 x3
  else
  (F76 x0 x3).bind fun y4 =>
  some y4.1
 : Option (S81)) := (LiS_eq fd58 (tabH_nat h58) c58_0 (x0, x1, x2, x3, ())).trans (by kernel_rfl)
theorem L58_1_eq (x0 : S81) (x1 : S81) (x2 : S81) (x3 : Int) : L58_1 x0 x1 x2 x3 = (
  (F78 x1 x0).bind fun y1 =>
  L58_0 x0 y1.1 x2 x3
 : Option (S81)) := (LiS_eq fd58 (tabH_nat h58) c58_1 (x0, x1, x2, x3, ())).trans (by kernel_rfl)
/-! ratio.May -/
theorem F33_eq (x0 : S24) : F33 x0 = (
  bif (decide (x0.f1 > 0)) then
    (F60 x0.f0).bind fun y1 =>
    (F59 y1).bind fun y2 =>
    (F60 x0.f1).bind fun y3 =>
    (F59 y3).bind fun y4 =>
    (F58 y2 y4).bind fun y5 =>
    some ((y5.f0 == 0) && (y5.f1 == 1))
  else
  some false
 : Option (Bool)) := (GoS_eq fd33 (tabH D h33) (x0)).trans (by kernel_rfl)
/-! poly.value -/
theorem F34_eq (x0 : List S31) (x1 : S24) : F34 x0 x1 = (
  (F44 x0).bind fun y1 =>
  (F53 1).bind fun y2 =>
  (F53 x1.f0).bind fun y3 =>
  (F53 x1.f1).bind fun y4 =>
  L34_0 y1 (S31.mk false []) (S31.mk false []) y2 y3 y4 (wr .i64 ((y1.length : Int) - 1))
 : Option (S31)) := (GoS_eq fd34 (tabH D h34) (x0, x1)).trans (by kernel_rfl)
theorem L34_0_eq (x0 : List S31) (x1 : S31) (x2 : S31) (x3 : S31) (x4 : S31) (x5 : S31) (x6 : Int) : L34_0 x0 x1 x2 x3 x4 x5 x6 = (
  bif (decide (x6 ≥ 0)) then
    (F47 x2 x4).bind fun y1 =>
    grd (decide (0 ≤ x6)) <|
    grd (decide (x6 < (x0.length : Int))) <|
    (F47 (x0.getD (Int.toNat x6) z0) x3).bind fun y2 =>
    (F54 y1 y2).bind fun y3 =>
    (F47 x3 x5).bind fun y4 =>
    L34_0 x0 x1 y3 y4 x4 x5 (wr .i64 (x6 - 1))
  else
  some x2
 : Option (S31)) := (LiS_eq fd34 (tabH_nat h34) c34_0 (x0, x1, x2, x3, x4, x5, x6, ())).trans (by kernel_rfl)
/-! big.size -/
theorem F80_eq (x0 : Int) : F80 x0 = (
  bif (decide (x0 < 0)) then
    some (wr .u64 (0 - (wr .u64 x0)))
  else
  some (wr .u64 x0)
 : Option (Int)) := (GoS_eq fd80 (tabH D h80) (x0)).trans (by kernel_rfl)
/-! math/bits.LeadingZeros64 -/
theorem F91_eq (x0 : Int) : F91 x0 = (
  (F94 x0).bind fun y1 =>
  some (wr .i64 (64 - y1))
 : Option (Int)) := (GoS_eq fd91 (tabH D h91) (x0)).trans (by kernel_rfl)
/-! math/bits.Div64 -/
theorem F79_eq (x0 : Int) (x1 : Int) (x2 : Int) : F79 x0 x1 x2 = (
  bif (x2 == 0) then
    none
  else
  L79_0 x0 x1 x2
 : Option (Int × Int)) := (GoS_eq fd79 (tabH D h79) (x0, x1, x2)).trans (by kernel_rfl)
theorem L79_0_eq (x0 : Int) (x1 : Int) (x2 : Int) : L79_0 x0 x1 x2 = (
  bif (decide (x2 ≤ x0)) then
    none
  else
  L79_1 x0 x1 x2
 : Option (Int × Int)) := (LiS_eq fd79 (tabH_nat h79) c79_0 (x0, x1, x2, ())).trans (by kernel_rfl)
theorem L79_1_eq (x0 : Int) (x1 : Int) (x2 : Int) : L79_1 x0 x1 x2 = (
  bif (x0 == 0) then
    bif (decide (x2 = 0)) then
      none
    else
    bif (decide (x2 = 0)) then
      none
    else
    some ((wr .u64 (Int.tdiv x1 x2)), (Int.tmod x1 x2))
  else
  (F91 x2).bind fun y1 =>
  grd (decide (0 ≤ (wr .u64 y1))) <|
  grd (decide (0 ≤ (wr .u64 y1))) <|
  grd (decide (0 ≤ (wr .u64 (64 - (wr .u64 y1))))) <|
  grd (decide (0 ≤ (wr .u64 y1))) <|
  bif (decide ((shrE Go.IntKind.u64 (shlE Go.IntKind.u64 x2 (wr .u64 y1)) (32 : Int)) = 0)) then
    none
  else
  L79_3 (shlE Go.IntKind.u64 x2 (wr .u64 y1)) (wr .u64 y1) (shrE Go.IntKind.u64 (shlE Go.IntKind.u64 x2 (wr .u64 y1)) (32 : Int)) (andE Go.IntKind.u64 (shlE Go.IntKind.u64 x2 (wr .u64 y1)) (4294967295 : Int)) (orE Go.IntKind.u64 (shlE Go.IntKind.u64 x0 (wr .u64 y1)) (shrE Go.IntKind.u64 x1 (wr .u64 (64 - (wr .u64 y1))))) (shrE Go.IntKind.u64 (shlE Go.IntKind.u64 x1 (wr .u64 y1)) (32 : Int)) (andE Go.IntKind.u64 (shlE Go.IntKind.u64 x1 (wr .u64 y1)) (4294967295 : Int)) (wr .u64 (Int.tdiv (orE Go.IntKind.u64 (shlE Go.IntKind.u64 x0 (wr .u64 y1)) (shrE Go.IntKind.u64 x1 (wr .u64 (64 - (wr .u64 y1))))) (shrE Go.IntKind.u64 (shlE Go.IntKind.u64 x2 (wr .u64 y1)) (32 : Int)))) (wr .u64 ((orE Go.IntKind.u64 (shlE Go.IntKind.u64 x0 (wr .u64 y1)) (shrE Go.IntKind.u64 x1 (wr .u64 (64 - (wr .u64 y1))))) - (wr .u64 ((wr .u64 (Int.tdiv (orE Go.IntKind.u64 (shlE Go.IntKind.u64 x0 (wr .u64 y1)) (shrE Go.IntKind.u64 x1 (wr .u64 (64 - (wr .u64 y1))))) (shrE Go.IntKind.u64 (shlE Go.IntKind.u64 x2 (wr .u64 y1)) (32 : Int)))) * (shrE Go.IntKind.u64 (shlE Go.IntKind.u64 x2 (wr .u64 y1)) (32 : Int))))))
 : Option (Int × Int)) := (LiS_eq fd79 (tabH_nat h79) c79_1 (x0, x1, x2, ())).trans (by kernel_rfl)
theorem L79_2_eq (x0 : Int) (x1 : Int) (x2 : Int) (x3 : Int) (x4 : Int) (x5 : Int) (x6 : Int) (x7 : Int) : L79_2 x0 x1 x2 x3 x4 x5 x6 x7 = (
  bif (decide (x2 = 0)) then
    none
  else
  L79_6 x0 x1 x2 x3 x6 x7 (wr .u64 ((wr .u64 ((wr .u64 ((wr .u64 (x4 * 4294967296)) + x5)) - (wr .u64 (x7 * x0)))) - (wr .u64 ((wr .u64 (Int.tdiv (wr .u64 ((wr .u64 ((wr .u64 (x4 * 4294967296)) + x5)) - (wr .u64 (x7 * x0)))) x2)) * x2)))) (wr .u64 ((wr .u64 ((wr .u64 (x4 * 4294967296)) + x5)) - (wr .u64 (x7 * x0)))) (wr .u64 (Int.tdiv (wr .u64 ((wr .u64 ((wr .u64 (x4 * 4294967296)) + x5)) - (wr .u64 (x7 * x0)))) x2))
 : Option (Int × Int)) := (LiS_eq fd79 (tabH_nat h79) c79_2 (x0, x1, x2, x3, x4, x5, x6, x7, ())).trans (by kernel_rfl)
theorem L79_3_eq (x0 : Int) (x1 : Int) (x2 : Int) (x3 : Int) (x4 : Int) (x5 : Int) (x6 : Int) (x7 : Int) (x8 : Int) : L79_3 x0 x1 x2 x3 x4 x5 x6 x7 x8 = (
  bif (decide (x7 ≥ 4294967296)) then
    L79_4 x0 x1 x2 x3 x4 x5 x6 x7 x8
  else
  bif (decide ((wr .u64 (x7 * x3)) > (wr .u64 ((wr .u64 (4294967296 * x8)) + x5)))) then
    L79_4 x0 x1 x2 x3 x4 x5 x6 x7 x8
  else
  L79_2 x0 x1 x2 x3 x4 x5 x6 x7
 : Option (Int × Int)) := (LiS_eq fd79 (tabH_nat h79) c79_3 (x0, x1, x2, x3, x4, x5, x6, x7, x8, ())).trans (by kernel_rfl)
theorem L79_4_eq (x0 : Int) (x1 : Int) (x2 : Int) (x3 : Int) (x4 : Int) (x5 : Int) (x6 : Int) (x7 : Int) (x8 : Int) : L79_4 x0 x1 x2 x3 x4 x5 x6 x7 x8 = (
  bif (decide ((wr .u64 (x8 + x2)) ≥ 4294967296)) then
    L79_2 x0 x1 x2 x3 x4 x5 x6 (wr .u64 (x7 - 1))
  else
  L79_3 x0 x1 x2 x3 x4 x5 x6 (wr .u64 (x7 - 1)) (wr .u64 (x8 + x2))
 : Option (Int × Int)) := (LiS_eq fd79 (tabH_nat h79) c79_4 (x0, x1, x2, x3, x4, x5, x6, x7, x8, ())).trans (by kernel_rfl)
theorem L79_5_eq (x0 : Int) (x1 : Int) (x2 : Int) (x3 : Int) (x4 : Int) (x5 : Int) : L79_5 x0 x1 x2 x3 x4 x5 = (
  grd (decide (0 ≤ x1)) <|
  some ((wr .u64 ((wr .u64 (x3 * 4294967296)) + x5)), (shrE Go.IntKind.u64 (wr .u64 ((wr .u64 ((wr .u64 (x4 * 4294967296)) + x2)) - (wr .u64 (x5 * x0)))) x1))
 : Option (Int × Int)) := (LiS_eq fd79 (tabH_nat h79) c79_5 (x0, x1, x2, x3, x4, x5, ())).trans (by kernel_rfl)
theorem L79_6_eq (x0 : Int) (x1 : Int) (x2 : Int) (x3 : Int) (x4 : Int) (x5 : Int) (x6 : Int) (x7 : Int) (x8 : Int) : L79_6 x0 x1 x2 x3 x4 x5 x6 x7 x8 = (
  bif (decide (x8 ≥ 4294967296)) then
    L79_7 x0 x1 x2 x3 x4 x5 x6 x7 x8
  else
  bif (decide ((wr .u64 (x8 * x3)) > (wr .u64 ((wr .u64 (4294967296 * x6)) + x4)))) then
    L79_7 x0 x1 x2 x3 x4 x5 x6 x7 x8
  else
  L79_5 x0 x1 x4 x5 x7 x8
 : Option (Int × Int)) := (LiS_eq fd79 (tabH_nat h79) c79_6 (x0, x1, x2, x3, x4, x5, x6, x7, x8, ())).trans (by kernel_rfl)
theorem L79_7_eq (x0 : Int) (x1 : Int) (x2 : Int) (x3 : Int) (x4 : Int) (x5 : Int) (x6 : Int) (x7 : Int) (x8 : Int) : L79_7 x0 x1 x2 x3 x4 x5 x6 x7 x8 = (
  bif (decide ((wr .u64 (x6 + x2)) ≥ 4294967296)) then
    L79_5 x0 x1 x4 x5 x7 (wr .u64 (x8 - 1))
  else
  L79_6 x0 x1 x2 x3 x4 x5 (wr .u64 (x6 + x2)) x7 (wr .u64 (x8 - 1))
 : Option (Int × Int)) := (LiS_eq fd79 (tabH_nat h79) c79_7 (x0, x1, x2, x3, x4, x5, x6, x7, x8, ())).trans (by kernel_rfl)
/-! big.Div -/
theorem F62_eq (x0 : S31) (x1 : Int) : F62 x0 x1 = (
  bif (x1 == 0) then
    some ((S31.mk false []), (0, 13))
  else
  (F70 x0.f1).bind fun y1 =>
  L62_1 x1 x0 (S31.mk false []) y1 0 (wr .i64 ((y1.length : Int) - 1))
 : Option (S31 × Int × Int)) := (GoS_eq fd62 (tabH D h62) (x0, x1)).trans (by kernel_rfl)
theorem L62_0_eq (x0 : Int) (x1 : S31) (x2 : S31) (x3 : List Int) (x4 : Int) : L62_0 x0 x1 x2 x3 x4 = (
  (F69 (!(x1.f0 == (decide (x0 < 0)))) x3).bind fun y1 =>
  some (y1, ((wr .i64 x4), 0))
 : Option (S31 × Int × Int)) := (LiS_eq fd62 (tabH_nat h62) c62_0 (x0, x1, x2, x3, x4, ())).trans (by kernel_rfl)
theorem L62_1_eq (x0 : Int) (x1 : S31) (x2 : S31) (x3 : List Int) (x4 : Int) (x5 : Int) : L62_1 x0 x1 x2 x3 x4 x5 = (
  bif (decide (x5 ≥ 0)) then
    grd (decide (0 ≤ x5)) <|
    grd (decide (x5 < (x3.length : Int))) <|
    (F80 x0).bind fun y1 =>
    (F79 (shrE Go.IntKind.u64 x4 (32 : Int)) (orE Go.IntKind.u64 (shlE Go.IntKind.u64 x4 (32 : Int)) (wr .u64 (x3.getD (Int.toNat x5) 0))) y1).bind fun y2 =>
    grd (decide (0 ≤ x5)) <|
    grd (decide (x5 < (x3.length : Int))) <|
    L62_1 x0 x1 x2 (List.set x3 (Int.toNat x5) (wr .u32 y2.1)) y2.2 (wr .i64 (x5 - 1))
  else
  bif x1.f0 then
    L62_0 x0 x1 x2 x3 (wr .u64 (0 - x4))
  else
  L62_0 x0 x1 x2 x3 x4
 : Option (S31 × Int × Int)) := (LiS_eq fd62 (tabH_nat h62) c62_1 (x0, x1, x2, x3, x4, x5, ())).trans (by kernel_rfl)
/-! poly.parted -/
theorem F36_eq (x0 : List S31) (x1 : S24) : F36 x0 x1 = (
  grd (decide (0 ≤ (wr .i64 ((x0.length : Int) - 1)))) <|
  grd (decide ((wr .i64 ((x0.length : Int) - 1)) ≤ (wr .i64 ((x0.length : Int) - 1)))) <|
  grd (fitM (Int.toNat (wr .i64 ((x0.length : Int) - 1))) 32) <|
  L36_0 x0 x1 (List.replicate (Int.toNat (wr .i64 ((x0.length : Int) - 1))) (S31.mk false [])) (S31.mk false []) (wr .i64 ((x0.length : Int) - 1))
 : Option (List S31)) := (GoS_eq fd36 (tabH D h36) (x0, x1)).trans (by kernel_rfl)
theorem L36_0_eq (x0 : List S31) (x1 : S24) (x2 : List S31) (x3 : S31) (x4 : Int) : L36_0 x0 x1 x2 x3 x4 = (
  bif (decide (x4 ≥ 1)) then
    grd (decide (0 ≤ x4)) <|
    grd (decide (x4 < (x0.length : Int))) <|
    (F53 x1.f0).bind fun y1 =>
    (F47 x3 y1).bind fun y2 =>
    (F54 (x0.getD (Int.toNat x4) z0) y2).bind fun y3 =>
    (F62 y3 x1.f1).bind fun y4 =>
    grd (decide (0 ≤ (wr .i64 (x4 - 1)))) <|
    grd (decide ((wr .i64 (x4 - 1)) < (x2.length : Int))) <|
    L36_0 x0 x1 (List.set x2 (Int.toNat (wr .i64 (x4 - 1))) y4.1) y4.1 (wr .i64 (x4 - 1))
  else
  (F44 x2).bind fun y5 =>
  some y5
 : Option (List S31)) := (LiS_eq fd36 (tabH_nat h36) c36_0 (x0, x1, x2, x3, x4, ())).trans (by kernel_rfl)
/-! poly.Without -/
theorem F11_eq (x0 : List S31) (x1 : S24) : F11 x0 x1 = (
  (F24 x0 []).bind fun y1 =>
  (F33 x1).bind fun y2 =>
  bif (!y2) then
    some ([], (0, 1))
  else
  bif ((y1.length : Int) == 0) then
    some ([], (0, 13))
  else
  L11_0 y1 x1 0
 : Option (List S31 × Int × Int)) := (GoS_eq fd11 (tabH D h11) (x0, x1)).trans (by kernel_rfl)
theorem L11_0_eq (x0 : List S31) (x1 : S24) (x2 : Int) : L11_0 x0 x1 x2 = (
  bif (decide ((x0.length : Int) > 1)) then
    (F34 x0 x1).bind fun y1 =>
    (F35 y1).bind fun y2 =>
    bif (y2 == 0) then
      L11_1 x0 x1 x2
    else
    some (x0, (x2, 0))
  else
  some (x0, (x2, 0))
 : Option (List S31 × Int × Int)) := (LiS_eq fd11 (tabH_nat h11) c11_0 (x0, x1, x2, ())).trans (by kernel_rfl)
theorem L11_1_eq (x0 : List S31) (x1 : S24) (x2 : Int) : L11_1 x0 x1 x2 = (
  (F36 x0 x1).bind fun y1 =>
  L11_0 y1 x1 (wr .i64 (x2 + 1))
 : Option (List S31 × Int × Int)) := (LiS_eq fd11 (tabH_nat h11) c11_1 (x0, x1, x2, ())).trans (by kernel_rfl)
/-! poly.At -/
theorem F10_eq (x0 : List S31) (x1 : S24) : F10 x0 x1 = (
  (F33 x1).bind fun y1 =>
  bif (!y1) then
    some ((S31.mk false []), 1)
  else
  (F34 x0 x1).bind fun y2 =>
  some (y2, 0)
 : Option (S31 × Int)) := (GoS_eq fd10 (tabH D h10) (x0, x1)).trans (by kernel_rfl)
/-! poly.Degree -/
theorem F21_eq (x0 : List S31) : F21 x0 = (
  (F44 x0).bind fun y1 =>
  some (wr .i64 ((y1.length : Int) - 1))
 : Option (Int)) := (GoS_eq fd21 (tabH D h21) (x0)).trans (by kernel_rfl)
/-! pochoirlaw05.awake -/
theorem F7_eq : F7 = (
  (F20 [(0 : Int), (0 : Int), (1 : Int)]).bind fun y1 =>
  (F20 [(1 : Int), (1 : Int)]).bind fun y2 =>
  (F18 y1 y2).bind fun y3 =>
  (F20 [(-1), (0 : Int), (4 : Int)]).bind fun y4 =>
  (F11 y4 (S24.mk 1 2)).bind fun y5 =>
  (F20 [(1 : Int), (1 : Int)]).bind fun y6 =>
  (F10 y6 (S24.mk 1 2)).bind fun y7 =>
  bif (y3.2 == 0) then
    bif (y5.2.2 == 0) then
      bif (y7.2 == 0) then
        bif ((y3.1.length : Int) == 1) then
          grd (decide (0 < (y3.1.length : Int))) <|
          bif (((y3.1.getD 0 z0).f1.length : Int) == 1) then
            grd (decide (0 < (y3.1.length : Int))) <|
            grd (decide (0 < ((y3.1.getD 0 z0).f1.length : Int))) <|
            bif (((y3.1.getD 0 z0).f1.getD 0 0) == 1) then
              bif (y5.2.1 == 1) then
                bif ((y5.1.length : Int) == 2) then
                  (F21 y5.1).bind fun y8 =>
                  bif (y8 == 1) then
                    bif ((y7.1.f1.length : Int) == 1) then
                      grd (decide (0 < (y7.1.f1.length : Int))) <|
                      some ((y7.1.f1.getD 0 0) == 3)
                    else
                    some false
                  else
                  some false
                else
                some false
              else
              some false
            else
            some false
          else
          some false
        else
        some false
      else
      some false
    else
    some false
  else
  some false
 : Option (Bool)) := (GoS_eq fd7 (tabH D h7) ()).trans (by kernel_rfl)
/-! pochoirlaw05.Small -/
theorem F8_eq (x0 : List S31) : F8 x0 = (
  bif (decide ((x0.length : Int) > 13)) then
    some false
  else
  L8_0 x0 (x0.length : Int) 0
 : Option (Bool)) := (GoS_eq fd8 (tabH D h8) (x0)).trans (by kernel_rfl)
theorem L8_0_eq (x0 : List S31) (x1 : Int) (x2 : Int) : L8_0 x0 x1 x2 = (
  bif (decide (x2 < x1)) then
    grd (decide (0 ≤ x2)) <|
    grd (decide (x2 < (x0.length : Int))) <|
    bif (decide (((x0.getD (Int.toNat x2) z0).f1.length : Int) > 10)) then
      some false
    else
    L8_0 x0 x1 (wr .i64 (x2 + 1))
  else
  some true
 : Option (Bool)) := (LiS_eq fd8 (tabH_nat h8) c8_0 (x0, x1, x2, ())).trans (by kernel_rfl)
/-! pochoirref02.trim -/
theorem F74_eq (x0 : List Int) : F74 x0 = (
  L74_0 x0 (x0.length : Int)
 : Option (List Int)) := (GoS_eq fd74 (tabH D h74) (x0)).trans (by kernel_rfl)
theorem L74_0_eq (x0 : List Int) (x1 : Int) : L74_0 x0 x1 = (
  bif (decide (x1 > 0)) then
    grd (decide (0 ≤ (wr .i64 (x1 - 1)))) <|
    grd (decide ((wr .i64 (x1 - 1)) < (x0.length : Int))) <|
    bif ((x0.getD (Int.toNat (wr .i64 (x1 - 1))) 0) == 0) then
      L74_0 x0 (wr .i64 (x1 - 1))
    else
    grd (decide (0 ≤ x1)) <|
    grd (decide (x1 ≤ (x0.length : Int))) <|
    some (List.take (Int.toNat x1) x0)
  else
  grd (decide (0 ≤ x1)) <|
  grd (decide (x1 ≤ (x0.length : Int))) <|
  some (List.take (Int.toNat x1) x0)
 : Option (List Int)) := (LiS_eq fd74 (tabH_nat h74) c74_0 (x0, x1, ())).trans (by kernel_rfl)
/-! pochoirref02.norm -/
theorem F57_eq (x0 : Bool) (x1 : List Int) : F57 x0 x1 = (
  (F74 x1).bind fun y1 =>
  bif x0 then
    some (S42.mk (decide ((y1.length : Int) > 0)) y1)
  else
  some (S42.mk false y1)
 : Option (S42)) := (GoS_eq fd57 (tabH D h57) (x0, x1)).trans (by kernel_rfl)
/-! pochoirref02.From -/
theorem F31_eq (x0 : S31) : F31 x0 = (
  L31_0 x0 (S42.mk false []) [] 0
 : Option (S42)) := (GoS_eq fd31 (tabH D h31) (x0)).trans (by kernel_rfl)
theorem L31_0_eq (x0 : S31) (x1 : S42) (x2 : List Int) (x3 : Int) : L31_0 x0 x1 x2 x3 = (
  bif (decide (x3 < (x0.f1.length : Int))) then
    grd (decide (0 ≤ x3)) <|
    grd (decide (x3 < (x0.f1.length : Int))) <|
    grd (decide (0 ≤ x3)) <|
    grd (decide (x3 < (x0.f1.length : Int))) <|
    grd (fit (x2.length + [(Int.tmod (wr .u64 (x0.f1.getD (Int.toNat x3) 0)) (65536 : Int)), (wr .u64 (Int.tdiv (wr .u64 (x0.f1.getD (Int.toNat x3) 0)) (65536 : Int)))].length) 8) <|
    L31_0 x0 x1 (x2 ++ [(Int.tmod (wr .u64 (x0.f1.getD (Int.toNat x3) 0)) (65536 : Int)), (wr .u64 (Int.tdiv (wr .u64 (x0.f1.getD (Int.toNat x3) 0)) (65536 : Int)))]) (wr .i64 (x3 + 1))
  else
  (F57 x0.f0 x2).bind fun y1 =>
  some y1
 : Option (S42)) := (LiS_eq fd31 (tabH_nat h31) c31_0 (x0, x1, x2, x3, ())).trans (by kernel_rfl)
/-! pochoirref02.Sign -/
theorem F42_eq (x0 : S42) : F42 x0 = (
  bif ((x0.f1.length : Int) == 0) then
    some 0
  else
  bif x0.f0 then
    some (-1)
  else
  some 1
 : Option (Int)) := (GoS_eq fd42 (tabH D h42) (x0)).trans (by kernel_rfl)
/-! pochoirref05.Trim -/
theorem F32_eq (x0 : List S42) : F32 x0 = (
  L32_0 x0 (x0.length : Int)
 : Option (List S42)) := (GoS_eq fd32 (tabH D h32) (x0)).trans (by kernel_rfl)
theorem L32_0_eq (x0 : List S42) (x1 : Int) : L32_0 x0 x1 = (
  bif (decide (x1 > 0)) then
    grd (decide (0 ≤ (wr .i64 (x1 - 1)))) <|
    grd (decide ((wr .i64 (x1 - 1)) < (x0.length : Int))) <|
    (F42 (x0.getD (Int.toNat (wr .i64 (x1 - 1))) z2)).bind fun y1 =>
    bif (y1 == 0) then
      L32_0 x0 (wr .i64 (x1 - 1))
    else
    grd (decide (0 ≤ x1)) <|
    grd (decide (x1 ≤ (x0.length : Int))) <|
    some (List.take (Int.toNat x1) x0)
  else
  grd (decide (0 ≤ x1)) <|
  grd (decide (x1 ≤ (x0.length : Int))) <|
  some (List.take (Int.toNat x1) x0)
 : Option (List S42)) := (LiS_eq fd32 (tabH_nat h32) c32_0 (x0, x1, ())).trans (by kernel_rfl)
/-! pochoirref05.From -/
theorem F9_eq (x0 : List S31) : F9 x0 = (
  L9_0 x0 [] 0
 : Option (List S42)) := (GoS_eq fd9 (tabH D h9) (x0)).trans (by kernel_rfl)
theorem L9_0_eq (x0 : List S31) (x1 : List S42) (x2 : Int) : L9_0 x0 x1 x2 = (
  bif (decide (x2 < (x0.length : Int))) then
    grd (decide (0 ≤ x2)) <|
    grd (decide (x2 < (x0.length : Int))) <|
    (F31 (x0.getD (Int.toNat x2) z0)).bind fun y1 =>
    grd (fit (x1.length + [y1].length) 32) <|
    L9_0 x0 (x1 ++ [y1]) (wr .i64 (x2 + 1))
  else
  (F32 x1).bind fun y2 =>
  some y2
 : Option (List S42)) := (LiS_eq fd9 (tabH_nat h9) c9_0 (x0, x1, x2, ())).trans (by kernel_rfl)
/-! pochoirref03.size -/
theorem F64_eq (x0 : Int) : F64 x0 = (
  bif (decide (x0 < 0)) then
    some (wr .u64 (0 - (wr .u64 x0)))
  else
  some (wr .u64 x0)
 : Option (Int)) := (GoS_eq fd64 (tabH D h64) (x0)).trans (by kernel_rfl)
/-! pochoirref03.common -/
theorem F63_eq (x0 : Int) (x1 : Int) : F63 x0 x1 = (
  L63_0 x0 x1
 : Option (Int)) := (GoS_eq fd63 (tabH D h63) (x0, x1)).trans (by kernel_rfl)
theorem L63_0_eq (x0 : Int) (x1 : Int) : L63_0 x0 x1 = (
  bif (decide (x1 > 0)) then
    bif (decide (x1 = 0)) then
      none
    else
    L63_0 x1 (Int.tmod x0 x1)
  else
  some x0
 : Option (Int)) := (LiS_eq fd63 (tabH_nat h63) c63_0 (x0, x1, ())).trans (by kernel_rfl)
/-! pochoirref03.May -/
theorem F37_eq (x0 : S24) : F37 x0 = (
  bif (decide (x0.f1 > 0)) then
    (F64 x0.f0).bind fun y1 =>
    (F64 x0.f1).bind fun y2 =>
    (F63 y1 y2).bind fun y3 =>
    some (y3 == 1)
  else
  some false
 : Option (Bool)) := (GoS_eq fd37 (tabH D h37) (x0)).trans (by kernel_rfl)
/-! pochoirref05.May -/
theorem F12_eq (x0 : S24) : F12 x0 = (
  (F37 x0).bind fun y1 =>
  some y1
 : Option (Bool)) := (GoS_eq fd12 (tabH D h12) (x0)).trans (by kernel_rfl)
/-! pochoirref02.Of -/
theorem F39_eq (x0 : Int) : F39 x0 = (
  bif (decide (x0 < 0)) then
    L39_0 x0 (S42.mk false []) (wr .u64 (0 - (wr .u64 x0)))
  else
  L39_0 x0 (S42.mk false []) (wr .u64 x0)
 : Option (S42)) := (GoS_eq fd39 (tabH D h39) (x0)).trans (by kernel_rfl)
theorem L39_0_eq (x0 : Int) (x1 : S42) (x2 : Int) : L39_0 x0 x1 x2 = (
  (F57 (decide (x0 < 0)) [(Int.tmod x2 (65536 : Int)), (Int.tmod (wr .u64 (Int.tdiv x2 (65536 : Int))) (65536 : Int)), (Int.tmod (wr .u64 (Int.tdiv x2 (4294967296 : Int))) (65536 : Int)), (wr .u64 (Int.tdiv x2 (281474976710656 : Int)))]).bind fun y1 =>
  some y1
 : Option (S42)) := (LiS_eq fd39 (tabH_nat h39) c39_0 (x0, x1, x2, ())).trans (by kernel_rfl)
/-! pochoirref02.at -/
theorem F38_eq (x0 : List Int) (x1 : Int) : F38 x0 x1 = (
  bif (decide (x1 < (x0.length : Int))) then
    grd (decide (0 ≤ x1)) <|
    grd (decide (x1 < (x0.length : Int))) <|
    some (x0.getD (Int.toNat x1) 0)
  else
  some 0
 : Option (Int)) := (GoS_eq fd38 (tabH D h38) (x0, x1)).trans (by kernel_rfl)
/-! pochoirref02.Mul -/
theorem F41_eq (x0 : S42) (x1 : S42) : F41 x0 x1 = (
  grd (decide (0 ≤ (wr .i64 ((wr .i64 ((x0.f1.length : Int) + (x1.f1.length : Int))) + 1)))) <|
  grd (decide ((wr .i64 ((wr .i64 ((x0.f1.length : Int) + (x1.f1.length : Int))) + 1)) ≤ (wr .i64 ((wr .i64 ((x0.f1.length : Int) + (x1.f1.length : Int))) + 1)))) <|
  grd (fitM (Int.toNat (wr .i64 ((wr .i64 ((x0.f1.length : Int) + (x1.f1.length : Int))) + 1))) 8) <|
  L41_0 x0 x1 (S42.mk false []) (List.replicate (Int.toNat (wr .i64 ((wr .i64 ((x0.f1.length : Int) + (x1.f1.length : Int))) + 1))) (0 : Int)) 0
 : Option (S42)) := (GoS_eq fd41 (tabH D h41) (x0, x1)).trans (by kernel_rfl)
theorem L41_0_eq (x0 : S42) (x1 : S42) (x2 : S42) (x3 : List Int) (x4 : Int) : L41_0 x0 x1 x2 x3 x4 = (
  bif (decide (x4 < (x0.f1.length : Int))) then
    L41_1 x0 x1 x2 x3 x4 0 0
  else
  (F57 (!(x0.f0 == x1.f0)) x3).bind fun y1 =>
  some y1
 : Option (S42)) := (LiS_eq fd41 (tabH_nat h41) c41_0 (x0, x1, x2, x3, x4, ())).trans (by kernel_rfl)
theorem L41_1_eq (x0 : S42) (x1 : S42) (x2 : S42) (x3 : List Int) (x4 : Int) (x5 : Int) (x6 : Int) : L41_1 x0 x1 x2 x3 x4 x5 x6 = (
  bif (decide (x6 < (x1.f1.length : Int))) then
    L41_2 x0 x1 x2 x3 x4 x5 x6
  else
  bif (decide (x5 > 0)) then
    L41_2 x0 x1 x2 x3 x4 x5 x6
  else
  L41_0 x0 x1 x2 x3 (wr .i64 (x4 + 1))
 : Option (S42)) := (LiS_eq fd41 (tabH_nat h41) c41_1 (x0, x1, x2, x3, x4, x5, x6, ())).trans (by kernel_rfl)
theorem L41_2_eq (x0 : S42) (x1 : S42) (x2 : S42) (x3 : List Int) (x4 : Int) (x5 : Int) (x6 : Int) : L41_2 x0 x1 x2 x3 x4 x5 x6 = (
  grd (decide (0 ≤ (wr .i64 (x4 + x6)))) <|
  grd (decide ((wr .i64 (x4 + x6)) < (x3.length : Int))) <|
  grd (decide (0 ≤ x4)) <|
  grd (decide (x4 < (x0.f1.length : Int))) <|
  (F38 x1.f1 x6).bind fun y1 =>
  grd (decide (0 ≤ (wr .i64 (x4 + x6)))) <|
  grd (decide ((wr .i64 (x4 + x6)) < (x3.length : Int))) <|
  L41_1 x0 x1 x2 (List.set x3 (Int.toNat (wr .i64 (x4 + x6))) (Int.tmod (wr .u64 ((wr .u64 ((x3.getD (Int.toNat (wr .i64 (x4 + x6))) 0) + (wr .u64 ((x0.f1.getD (Int.toNat x4) 0) * y1)))) + x5)) (65536 : Int))) x4 (wr .u64 (Int.tdiv (wr .u64 ((wr .u64 ((x3.getD (Int.toNat (wr .i64 (x4 + x6))) 0) + (wr .u64 ((x0.f1.getD (Int.toNat x4) 0) * y1)))) + x5)) (65536 : Int))) (wr .i64 (x6 + 1))
 : Option (S42)) := (LiS_eq fd41 (tabH_nat h41) c41_2 (x0, x1, x2, x3, x4, x5, x6, ())).trans (by kernel_rfl)
/-! pochoirref02.plus -/
theorem F65_eq (x0 : List Int) (x1 : List Int) : F65 x0 x1 = (
  L65_0 x0 x1 [] 0 0
 : Option (List Int)) := (GoS_eq fd65 (tabH D h65) (x0, x1)).trans (by kernel_rfl)
theorem L65_0_eq (x0 : List Int) (x1 : List Int) (x2 : List Int) (x3 : Int) (x4 : Int) : L65_0 x0 x1 x2 x3 x4 = (
  bif (decide (x4 < (x0.length : Int))) then
    L65_1 x0 x1 x2 x3 x4
  else
  bif (decide (x4 < (x1.length : Int))) then
    L65_1 x0 x1 x2 x3 x4
  else
  bif (decide (x3 > 0)) then
    L65_1 x0 x1 x2 x3 x4
  else
  some x2
 : Option (List Int)) := (LiS_eq fd65 (tabH_nat h65) c65_0 (x0, x1, x2, x3, x4, ())).trans (by kernel_rfl)
theorem L65_1_eq (x0 : List Int) (x1 : List Int) (x2 : List Int) (x3 : Int) (x4 : Int) : L65_1 x0 x1 x2 x3 x4 = (
  (F38 x0 x4).bind fun y1 =>
  (F38 x1 x4).bind fun y2 =>
  grd (fit (x2.length + [(Int.tmod (wr .u64 ((wr .u64 (y1 + y2)) + x3)) (65536 : Int))].length) 8) <|
  L65_0 x0 x1 (x2 ++ [(Int.tmod (wr .u64 ((wr .u64 (y1 + y2)) + x3)) (65536 : Int))]) (wr .u64 (Int.tdiv (wr .u64 ((wr .u64 (y1 + y2)) + x3)) (65536 : Int))) (wr .i64 (x4 + 1))
 : Option (List Int)) := (LiS_eq fd65 (tabH_nat h65) c65_1 (x0, x1, x2, x3, x4, ())).trans (by kernel_rfl)
/-! pochoirref02.less -/
theorem F66_eq (x0 : List Int) (x1 : List Int) : F66 x0 x1 = (
  bif ((x0.length : Int) != (x1.length : Int)) then
    bif (decide ((x0.length : Int) < (x1.length : Int))) then
      some (-1)
    else
    some 1
  else
  L66_0 x0 x1 (wr .i64 ((x0.length : Int) - 1))
 : Option (Int)) := (GoS_eq fd66 (tabH D h66) (x0, x1)).trans (by kernel_rfl)
theorem L66_0_eq (x0 : List Int) (x1 : List Int) (x2 : Int) : L66_0 x0 x1 x2 = (
  bif (decide (x2 ≥ 0)) then
    grd (decide (0 ≤ x2)) <|
    grd (decide (x2 < (x0.length : Int))) <|
    grd (decide (0 ≤ x2)) <|
    grd (decide (x2 < (x1.length : Int))) <|
    bif (decide ((x0.getD (Int.toNat x2) 0) < (x1.getD (Int.toNat x2) 0))) then
      some (-1)
    else
    grd (decide (0 ≤ x2)) <|
    grd (decide (x2 < (x0.length : Int))) <|
    grd (decide (0 ≤ x2)) <|
    grd (decide (x2 < (x1.length : Int))) <|
    bif (decide ((x0.getD (Int.toNat x2) 0) > (x1.getD (Int.toNat x2) 0))) then
      some 1
    else
    L66_0 x0 x1 (wr .i64 (x2 - 1))
  else
  some 0
 : Option (Int)) := (LiS_eq fd66 (tabH_nat h66) c66_0 (x0, x1, x2, ())).trans (by kernel_rfl)
/-! pochoirref02.minus -/
theorem F67_eq (x0 : List Int) (x1 : List Int) : F67 x0 x1 = (
  L67_0 x0 x1 [] 0 0
 : Option (List Int)) := (GoS_eq fd67 (tabH D h67) (x0, x1)).trans (by kernel_rfl)
theorem L67_0_eq (x0 : List Int) (x1 : List Int) (x2 : List Int) (x3 : Int) (x4 : Int) : L67_0 x0 x1 x2 x3 x4 = (
  bif (decide (x4 < (x0.length : Int))) then
    grd (decide (0 ≤ x4)) <|
    grd (decide (x4 < (x0.length : Int))) <|
    (F38 x1 x4).bind fun y1 =>
    grd (fit (x2.length + [(Int.tmod (wr .u64 ((wr .u64 ((wr .u64 (65536 + (x0.getD (Int.toNat x4) 0))) - y1)) - x3)) (65536 : Int))].length) 8) <|
    L67_0 x0 x1 (x2 ++ [(Int.tmod (wr .u64 ((wr .u64 ((wr .u64 (65536 + (x0.getD (Int.toNat x4) 0))) - y1)) - x3)) (65536 : Int))]) (wr .u64 (1 - (wr .u64 (Int.tdiv (wr .u64 ((wr .u64 ((wr .u64 (65536 + (x0.getD (Int.toNat x4) 0))) - y1)) - x3)) (65536 : Int))))) (wr .i64 (x4 + 1))
  else
  some x2
 : Option (List Int)) := (LiS_eq fd67 (tabH_nat h67) c67_0 (x0, x1, x2, x3, x4, ())).trans (by kernel_rfl)
/-! pochoirref02.Add -/
theorem F40_eq (x0 : S42) (x1 : S42) : F40 x0 x1 = (
  bif (x0.f0 == x1.f0) then
    (F65 x0.f1 x1.f1).bind fun y1 =>
    (F57 x0.f0 y1).bind fun y2 =>
    some y2
  else
  (F66 x0.f1 x1.f1).bind fun y3 =>
  bif (decide (y3 ≥ 0)) then
    (F67 x0.f1 x1.f1).bind fun y4 =>
    (F57 x0.f0 y4).bind fun y5 =>
    some y5
  else
  (F67 x1.f1 x0.f1).bind fun y6 =>
  (F57 x1.f0 y6).bind fun y7 =>
  some y7
 : Option (S42)) := (GoS_eq fd40 (tabH D h40) (x0, x1)).trans (by kernel_rfl)
/-! pochoirref05.At -/
theorem F15_eq (x0 : List S42) (x1 : S24) : F15 x0 x1 = (
  (F39 1).bind fun y1 =>
  L15_0 x0 x1 (S42.mk false []) (S42.mk false []) y1 (wr .i64 ((x0.length : Int) - 1))
 : Option (S42)) := (GoS_eq fd15 (tabH D h15) (x0, x1)).trans (by kernel_rfl)
theorem L15_0_eq (x0 : List S42) (x1 : S24) (x2 : S42) (x3 : S42) (x4 : S42) (x5 : Int) : L15_0 x0 x1 x2 x3 x4 x5 = (
  bif (decide (x5 ≥ 0)) then
    (F39 x1.f0).bind fun y1 =>
    (F41 x3 y1).bind fun y2 =>
    grd (decide (0 ≤ x5)) <|
    grd (decide (x5 < (x0.length : Int))) <|
    (F41 (x0.getD (Int.toNat x5) z2) x4).bind fun y3 =>
    (F40 y2 y3).bind fun y4 =>
    (F39 x1.f1).bind fun y5 =>
    (F41 x4 y5).bind fun y6 =>
    L15_0 x0 x1 x2 y4 y6 (wr .i64 (x5 - 1))
  else
  some x3
 : Option (S42)) := (LiS_eq fd15 (tabH_nat h15) c15_0 (x0, x1, x2, x3, x4, x5, ())).trans (by kernel_rfl)
/-! pochoirref02.To -/
theorem F14_eq (x0 : S42) : F14 x0 = (
  L14_0 x0 (S31.mk false []) (S31.mk x0.f0 []) 0
 : Option (S31)) := (GoS_eq fd14 (tabH D h14) (x0)).trans (by kernel_rfl)
theorem L14_0_eq (x0 : S42) (x1 : S31) (x2 : S31) (x3 : Int) : L14_0 x0 x1 x2 x3 = (
  bif (decide (x3 < (x0.f1.length : Int))) then
    (F38 x0.f1 x3).bind fun y1 =>
    (F38 x0.f1 (wr .i64 (x3 + 1))).bind fun y2 =>
    grd (fit (x2.f1.length + [(wr .u32 (wr .u64 (y1 + (wr .u64 (y2 * 65536)))))].length) 4) <|
    L14_0 x0 x1 (S31.mk x2.f0 (x2.f1 ++ [(wr .u32 (wr .u64 (y1 + (wr .u64 (y2 * 65536)))))])) (wr .i64 (x3 + 2))
  else
  some x2
 : Option (S31)) := (LiS_eq fd14 (tabH_nat h14) c14_0 (x0, x1, x2, x3, ())).trans (by kernel_rfl)
/-! pochoirref02.Same -/
theorem F13_eq (x0 : S31) (x1 : S31) : F13 x0 x1 = (
  bif (!(x0.f0 == x1.f0)) then
    some false
  else
  bif ((x0.f1.length : Int) != (x1.f1.length : Int)) then
    some false
  else
  L13_0 x0 x1 0
 : Option (Bool)) := (GoS_eq fd13 (tabH D h13) (x0, x1)).trans (by kernel_rfl)
theorem L13_0_eq (x0 : S31) (x1 : S31) (x2 : Int) : L13_0 x0 x1 x2 = (
  bif (decide (x2 < (x0.f1.length : Int))) then
    grd (decide (0 ≤ x2)) <|
    grd (decide (x2 < (x0.f1.length : Int))) <|
    grd (decide (0 ≤ x2)) <|
    grd (decide (x2 < (x1.f1.length : Int))) <|
    bif ((x0.f1.getD (Int.toNat x2) 0) != (x1.f1.getD (Int.toNat x2) 0)) then
      some false
    else
    L13_0 x0 x1 (wr .i64 (x2 + 1))
  else
  some true
 : Option (Bool)) := (LiS_eq fd13 (tabH_nat h13) c13_0 (x0, x1, x2, ())).trans (by kernel_rfl)
/-! pochoirref02.Neg -/
theorem F51_eq (x0 : S42) : F51 x0 = (
  (F57 (!x0.f0) x0.f1).bind fun y1 =>
  some y1
 : Option (S42)) := (GoS_eq fd51 (tabH D h51) (x0)).trans (by kernel_rfl)
/-! pochoirref02.Sub -/
theorem F52_eq (x0 : S42) (x1 : S42) : F52 x0 x1 = (
  (F51 x1).bind fun y1 =>
  (F40 x0 y1).bind fun y2 =>
  some y2
 : Option (S42)) := (GoS_eq fd52 (tabH D h52) (x0, x1)).trans (by kernel_rfl)
/-! pochoirref02.Cmp -/
theorem F68_eq (x0 : S42) (x1 : S42) : F68 x0 x1 = (
  (F52 x0 x1).bind fun y1 =>
  (F42 y1).bind fun y2 =>
  some y2
 : Option (Int)) := (GoS_eq fd68 (tabH D h68) (x0, x1)).trans (by kernel_rfl)
/-! pochoirref02.Div -/
theorem F43_eq (x0 : S42) (x1 : Int) : F43 x0 x1 = (
  (F39 x1).bind fun y1 =>
  L43_0 x1 x0 (S42.mk false []) (S42.mk false []) (S42.mk false y1.f1) (S42.mk false []) (S42.mk false []) (wr .i64 ((wr .i64 (16 * (x0.f1.length : Int))) - 1))
 : Option (S42 × S42)) := (GoS_eq fd43 (tabH D h43) (x0, x1)).trans (by kernel_rfl)
theorem L43_0_eq (x0 : Int) (x1 : S42) (x2 : S42) (x3 : S42) (x4 : S42) (x5 : S42) (x6 : S42) (x7 : Int) : L43_0 x0 x1 x2 x3 x4 x5 x6 x7 = (
  bif (decide (x7 ≥ 0)) then
    (F40 x5 x5).bind fun y1 =>
    (F40 x6 x6).bind fun y2 =>
    grd (decide (0 ≤ (wr .i64 (Int.tdiv x7 (16 : Int))))) <|
    grd (decide ((wr .i64 (Int.tdiv x7 (16 : Int))) < (x1.f1.length : Int))) <|
    grd (decide (0 ≤ (Int.tmod x7 (16 : Int)))) <|
    bif ((Int.tmod (shrE Go.IntKind.u64 (x1.f1.getD (Int.toNat (wr .i64 (Int.tdiv x7 (16 : Int)))) 0) (Int.tmod x7 (16 : Int))) (2 : Int)) == 1) then
      (F39 1).bind fun y3 =>
      (F40 y2 y3).bind fun y4 =>
      L43_1 x0 x1 x2 x3 x4 y1 y4 x7
    else
    L43_1 x0 x1 x2 x3 x4 y1 y2 x7
  else
  (F57 (!(x1.f0 == (decide (x0 < 0)))) x5.f1).bind fun y5 =>
  (F57 x1.f0 x6.f1).bind fun y6 =>
  some (y5, y6)
 : Option (S42 × S42)) := (LiS_eq fd43 (tabH_nat h43) c43_0 (x0, x1, x2, x3, x4, x5, x6, x7, ())).trans (by kernel_rfl)
theorem L43_1_eq (x0 : Int) (x1 : S42) (x2 : S42) (x3 : S42) (x4 : S42) (x5 : S42) (x6 : S42) (x7 : Int) : L43_1 x0 x1 x2 x3 x4 x5 x6 x7 = (
  (F68 x6 x4).bind fun y1 =>
  bif (decide (y1 ≥ 0)) then
    (F52 x6 x4).bind fun y2 =>
    (F39 1).bind fun y3 =>
    (F40 x5 y3).bind fun y4 =>
    L43_0 x0 x1 x2 x3 x4 y4 y2 (wr .i64 (x7 - 1))
  else
  L43_0 x0 x1 x2 x3 x4 x5 x6 (wr .i64 (x7 - 1))
 : Option (S42 × S42)) := (LiS_eq fd43 (tabH_nat h43) c43_1 (x0, x1, x2, x3, x4, x5, x6, x7, ())).trans (by kernel_rfl)
/-! pochoirref05.Without -/
theorem F16_eq (x0 : List S42) (x1 : S24) : F16 x0 x1 = (
  L16_0 x0 x1 0
 : Option (List S42 × Int)) := (GoS_eq fd16 (tabH D h16) (x0, x1)).trans (by kernel_rfl)
theorem L16_0_eq (x0 : List S42) (x1 : S24) (x2 : Int) : L16_0 x0 x1 x2 = (
  bif (decide ((x0.length : Int) > 1)) then
    (F15 x0 x1).bind fun y1 =>
    (F42 y1).bind fun y2 =>
    bif (y2 == 0) then
      L16_1 x0 x1 x2
    else
    some (x0, x2)
  else
  some (x0, x2)
 : Option (List S42 × Int)) := (LiS_eq fd16 (tabH_nat h16) c16_0 (x0, x1, x2, ())).trans (by kernel_rfl)
theorem L16_1_eq (x0 : List S42) (x1 : S24) (x2 : Int) : L16_1 x0 x1 x2 = (
  grd (decide (0 ≤ (wr .i64 ((x0.length : Int) - 1)))) <|
  grd (decide ((wr .i64 ((x0.length : Int) - 1)) ≤ (wr .i64 ((x0.length : Int) - 1)))) <|
  grd (fitM (Int.toNat (wr .i64 ((x0.length : Int) - 1))) 32) <|
  L16_2 x0 x1 x2 (List.replicate (Int.toNat (wr .i64 ((x0.length : Int) - 1))) (S42.mk false [])) (S42.mk false []) (wr .i64 ((x0.length : Int) - 1))
 : Option (List S42 × Int)) := (LiS_eq fd16 (tabH_nat h16) c16_1 (x0, x1, x2, ())).trans (by kernel_rfl)
theorem L16_2_eq (x0 : List S42) (x1 : S24) (x2 : Int) (x3 : List S42) (x4 : S42) (x5 : Int) : L16_2 x0 x1 x2 x3 x4 x5 = (
  bif (decide (x5 ≥ 1)) then
    grd (decide (0 ≤ x5)) <|
    grd (decide (x5 < (x0.length : Int))) <|
    (F39 x1.f0).bind fun y1 =>
    (F41 x4 y1).bind fun y2 =>
    (F40 (x0.getD (Int.toNat x5) z2) y2).bind fun y3 =>
    (F43 y3 x1.f1).bind fun y4 =>
    grd (decide (0 ≤ (wr .i64 (x5 - 1)))) <|
    grd (decide ((wr .i64 (x5 - 1)) < (x3.length : Int))) <|
    L16_2 x0 x1 x2 (List.set x3 (Int.toNat (wr .i64 (x5 - 1))) y4.1) y4.1 (wr .i64 (x5 - 1))
  else
  (F32 x3).bind fun y5 =>
  L16_0 y5 x1 (wr .i64 (x2 + 1))
 : Option (List S42 × Int)) := (LiS_eq fd16 (tabH_nat h16) c16_2 (x0, x1, x2, x3, x4, x5, ())).trans (by kernel_rfl)
/-! pochoirref05.Same -/
theorem F17_eq (x0 : List S31) (x1 : List S42) : F17 x0 x1 = (
  bif ((x0.length : Int) != (x1.length : Int)) then
    some false
  else
  L17_0 x0 x1 0
 : Option (Bool)) := (GoS_eq fd17 (tabH D h17) (x0, x1)).trans (by kernel_rfl)
theorem L17_0_eq (x0 : List S31) (x1 : List S42) (x2 : Int) : L17_0 x0 x1 x2 = (
  bif (decide (x2 < (x0.length : Int))) then
    grd (decide (0 ≤ x2)) <|
    grd (decide (x2 < (x0.length : Int))) <|
    grd (decide (0 ≤ x2)) <|
    grd (decide (x2 < (x1.length : Int))) <|
    (F14 (x1.getD (Int.toNat x2) z2)).bind fun y1 =>
    (F13 (x0.getD (Int.toNat x2) z0) y1).bind fun y2 =>
    bif (!y2) then
      some false
    else
    L17_0 x0 x1 (wr .i64 (x2 + 1))
  else
  some true
 : Option (Bool)) := (LiS_eq fd17 (tabH_nat h17) c17_0 (x0, x1, x2, ())).trans (by kernel_rfl)
/-! pochoirlaw05.PolyValues -/
theorem F3_eq (x0 : List S31) (x1 : S24) : F3 x0 x1 = (
  F7.bind fun y1 =>
  bif (!y1) then
    some false
  else
  (F8 x0).bind fun y2 =>
  bif (!y2) then
    some true
  else
  (F9 x0).bind fun y3 =>
  (F10 x0 x1).bind fun y4 =>
  (F11 x0 x1).bind fun y5 =>
  (F12 x1).bind fun y6 =>
  bif (!y6) then
    bif ((y4.1.f1.length : Int) == 0) then
      bif (y4.2 == 1) then
        bif ((y5.1.length : Int) == 0) then
          bif (y5.2.1 == 0) then
            some (y5.2.2 == 1)
          else
          some false
        else
        some false
      else
      some false
    else
    some false
  else
  bif (y4.2 != 0) then
    some false
  else
  (F15 y3 x1).bind fun y7 =>
  (F14 y7).bind fun y8 =>
  (F13 y4.1 y8).bind fun y9 =>
  bif (!y9) then
    some false
  else
  L3_0 x1 y3 y5.1 y5.2.1 y5.2.2
 : Option (Bool)) := (GoS_eq fd3 (tabH D h3) (x0, x1)).trans (by kernel_rfl)
theorem L3_0_eq (x0 : S24) (x1 : List S42) (x2 : List S31) (x3 : Int) (x4 : Int) : L3_0 x0 x1 x2 x3 x4 = (
  bif ((x1.length : Int) == 0) then
    bif ((x2.length : Int) == 0) then
      bif (x3 == 0) then
        some (x4 == 13)
      else
      some false
    else
    some false
  else
  (F16 x1 x0).bind fun y1 =>
  bif (x4 == 0) then
    bif (x3 == y1.2) then
      (F17 x2 y1.1).bind fun y2 =>
      some y2
    else
    some false
  else
  some false
 : Option (Bool)) := (LiS_eq fd3 (tabH_nat h3) c3_0 (x0, x1, x2, x3, x4, ())).trans (by kernel_rfl)
/-! pochoirref05.at -/
theorem F50_eq (x0 : List S42) (x1 : Int) : F50 x0 x1 = (
  bif (decide (x1 ≥ 0)) then
    bif (decide (x1 < (x0.length : Int))) then
      grd (decide (0 ≤ x1)) <|
      grd (decide (x1 < (x0.length : Int))) <|
      some (x0.getD (Int.toNat x1) z2)
    else
    some (S42.mk false [])
  else
  some (S42.mk false [])
 : Option (S42)) := (GoS_eq fd50 (tabH D h50) (x0, x1)).trans (by kernel_rfl)
/-! pochoirref05.Rest -/
theorem F19_eq (x0 : List S42) (x1 : List S42) : F19 x0 x1 = (
  grd (decide (0 ≤ (wr .i64 ((x1.length : Int) - 1)))) <|
  grd (decide ((wr .i64 ((x1.length : Int) - 1)) < (x1.length : Int))) <|
  L19_0 x0 x1 (x1.getD (Int.toNat (wr .i64 ((x1.length : Int) - 1))) z2)
 : Option (List S42)) := (GoS_eq fd19 (tabH D h19) (x0, x1)).trans (by kernel_rfl)
theorem L19_0_eq (x0 : List S42) (x1 : List S42) (x2 : S42) : L19_0 x0 x1 x2 = (
  bif (decide ((x0.length : Int) ≥ (x1.length : Int))) then
    grd (decide (0 ≤ (wr .i64 ((x0.length : Int) - 1)))) <|
    grd (decide ((wr .i64 ((x0.length : Int) - 1)) < (x0.length : Int))) <|
    L19_1 x0 x1 x2 [] (x0.getD (Int.toNat (wr .i64 ((x0.length : Int) - 1))) z2) 0
  else
  some x0
 : Option (List S42)) := (LiS_eq fd19 (tabH_nat h19) c19_0 (x0, x1, x2, ())).trans (by kernel_rfl)
theorem L19_1_eq (x0 : List S42) (x1 : List S42) (x2 : S42) (x3 : List S42) (x4 : S42) (x5 : Int) : L19_1 x0 x1 x2 x3 x4 x5 = (
  bif (decide (x5 < (x0.length : Int))) then
    grd (decide (0 ≤ x5)) <|
    grd (decide (x5 < (x0.length : Int))) <|
    (F41 (x0.getD (Int.toNat x5) z2) (S42.mk false x2.f1)).bind fun y1 =>
    (F50 x1 (wr .i64 ((wr .i64 (x5 - (x0.length : Int))) + (x1.length : Int)))).bind fun y2 =>
    (F41 y2 x4).bind fun y3 =>
    bif x2.f0 then
      (F51 y3).bind fun y4 =>
      L19_2 x0 x1 x2 x3 x4 x5 y1 y4
    else
    L19_2 x0 x1 x2 x3 x4 x5 y1 y3
  else
  (F32 x3).bind fun y5 =>
  L19_0 y5 x1 x2
 : Option (List S42)) := (LiS_eq fd19 (tabH_nat h19) c19_1 (x0, x1, x2, x3, x4, x5, ())).trans (by kernel_rfl)
theorem L19_2_eq (x0 : List S42) (x1 : List S42) (x2 : S42) (x3 : List S42) (x4 : S42) (x5 : Int) (x6 : S42) (x7 : S42) : L19_2 x0 x1 x2 x3 x4 x5 x6 x7 = (
  (F52 x6 x7).bind fun y1 =>
  grd (fit (x3.length + [y1].length) 32) <|
  L19_1 x0 x1 x2 (x3 ++ [y1]) x4 (wr .i64 (x5 + 1))
 : Option (List S42)) := (LiS_eq fd19 (tabH_nat h19) c19_2 (x0, x1, x2, x3, x4, x5, x6, x7, ())).trans (by kernel_rfl)
/-! pochoirlaw05.PolyRests -/
theorem F4_eq (x0 : List S31) (x1 : List S31) : F4 x0 x1 = (
  F7.bind fun y1 =>
  bif (!y1) then
    some false
  else
  (F8 x0).bind fun y2 =>
  bif (!y2) then
    some true
  else
  (F8 x1).bind fun y3 =>
  bif (!y3) then
    some true
  else
  L4_0 x0 x1
 : Option (Bool)) := (GoS_eq fd4 (tabH D h4) (x0, x1)).trans (by kernel_rfl)
theorem L4_0_eq (x0 : List S31) (x1 : List S31) : L4_0 x0 x1 = (
  (F18 x0 x1).bind fun y1 =>
  (F9 x0).bind fun y2 =>
  (F9 x1).bind fun y3 =>
  bif ((y3.length : Int) == 0) then
    bif ((y1.1.length : Int) == 0) then
      some (y1.2 == 13)
    else
    some false
  else
  bif (y1.2 == 0) then
    (F19 y2 y3).bind fun y4 =>
    (F17 y1.1 y4).bind fun y5 =>
    bif y5 then
      some (decide ((y1.1.length : Int) < (y3.length : Int)))
    else
    some false
  else
  some false
 : Option (Bool)) := (LiS_eq fd4 (tabH_nat h4) c4_0 (x0, x1, ())).trans (by kernel_rfl)
/-! pochoirref05.Of -/
theorem F22_eq (x0 : List Int) : F22 x0 = (
  L22_0 x0 [] 0
 : Option (List S42)) := (GoS_eq fd22 (tabH D h22) (x0)).trans (by kernel_rfl)
theorem L22_0_eq (x0 : List Int) (x1 : List S42) (x2 : Int) : L22_0 x0 x1 x2 = (
  bif (decide (x2 < (x0.length : Int))) then
    grd (decide (0 ≤ x2)) <|
    grd (decide (x2 < (x0.length : Int))) <|
    (F39 (x0.getD (Int.toNat x2) 0)).bind fun y1 =>
    grd (fit (x1.length + [y1].length) 32) <|
    L22_0 x0 (x1 ++ [y1]) (wr .i64 (x2 + 1))
  else
  (F32 x1).bind fun y2 =>
  some y2
 : Option (List S42)) := (LiS_eq fd22 (tabH_nat h22) c22_0 (x0, x1, x2, ())).trans (by kernel_rfl)
/-! poly.Mul -/
theorem F23_eq (x0 : List S31) (x1 : List S31) : F23 x0 x1 = (
  grd (decide (0 ≤ (wr .i64 ((x0.length : Int) + (x1.length : Int))))) <|
  grd (decide ((wr .i64 ((x0.length : Int) + (x1.length : Int))) ≤ (wr .i64 ((x0.length : Int) + (x1.length : Int))))) <|
  grd (fitM (Int.toNat (wr .i64 ((x0.length : Int) + (x1.length : Int)))) 32) <|
  L23_0 x1 (List.replicate (Int.toNat (wr .i64 ((x0.length : Int) + (x1.length : Int)))) (S31.mk false [])) x0 (x0.length : Int) 0
 : Option (List S31)) := (GoS_eq fd23 (tabH D h23) (x0, x1)).trans (by kernel_rfl)
theorem L23_0_eq (x0 : List S31) (x1 : List S31) (x2 : List S31) (x3 : Int) (x4 : Int) : L23_0 x0 x1 x2 x3 x4 = (
  bif (decide (x4 < x3)) then
    grd (decide (0 ≤ x4)) <|
    grd (decide (x4 < (x2.length : Int))) <|
    L23_1 x0 x1 x4 (x2.getD (Int.toNat x4) z0) x2 x3 x4 x0 (x0.length : Int) 0
  else
  (F44 x1).bind fun y1 =>
  some y1
 : Option (List S31)) := (LiS_eq fd23 (tabH_nat h23) c23_0 (x0, x1, x2, x3, x4, ())).trans (by kernel_rfl)
theorem L23_1_eq (x0 : List S31) (x1 : List S31) (x2 : Int) (x3 : S31) (x4 : List S31) (x5 : Int) (x6 : Int) (x7 : List S31) (x8 : Int) (x9 : Int) : L23_1 x0 x1 x2 x3 x4 x5 x6 x7 x8 x9 = (
  bif (decide (x9 < x8)) then
    grd (decide (0 ≤ x9)) <|
    grd (decide (x9 < (x7.length : Int))) <|
    grd (decide (0 ≤ (wr .i64 (x2 + x9)))) <|
    grd (decide ((wr .i64 (x2 + x9)) < (x1.length : Int))) <|
    (F47 x3 (x7.getD (Int.toNat x9) z0)).bind fun y1 =>
    (F54 (x1.getD (Int.toNat (wr .i64 (x2 + x9))) z0) y1).bind fun y2 =>
    grd (decide (0 ≤ (wr .i64 (x2 + x9)))) <|
    grd (decide ((wr .i64 (x2 + x9)) < (x1.length : Int))) <|
    L23_1 x0 (List.set x1 (Int.toNat (wr .i64 (x2 + x9))) y2) x2 x3 x4 x5 x6 x7 x8 (wr .i64 (x9 + 1))
  else
  L23_0 x0 x1 x4 x5 (wr .i64 (x6 + 1))
 : Option (List S31)) := (LiS_eq fd23 (tabH_nat h23) c23_1 (x0, x1, x2, x3, x4, x5, x6, x7, x8, x9, ())).trans (by kernel_rfl)
/-! pochoirlaw05.PolyRoots -/
theorem F5_eq (x0 : List Int) (x1 : S24) : F5 x0 x1 = (
  F7.bind fun y1 =>
  bif (!y1) then
    some false
  else
  bif (decide ((x0.length : Int) > 8)) then
    some true
  else
  (F12 x1).bind fun y2 =>
  bif (!y2) then
    some true
  else
  bif (x1.f0 == (-9223372036854775808)) then
    some true
  else
  L5_0 x0 x1
 : Option (Bool)) := (GoS_eq fd5 (tabH D h5) (x0, x1)).trans (by kernel_rfl)
theorem L5_0_eq (x0 : List Int) (x1 : S24) : L5_0 x0 x1 = (
  (F20 x0).bind fun y1 =>
  (F21 y1).bind fun y2 =>
  bif (decide (y2 < 0)) then
    (F22 x0).bind fun y3 =>
    some ((y3.length : Int) == 0)
  else
  (F20 [(wr .i64 (0 - x1.f0)), x1.f1]).bind fun y4 =>
  (F23 y1 y4).bind fun y5 =>
  (F10 y5 x1).bind fun y6 =>
  (F11 y5 x1).bind fun y7 =>
  (F22 x0).bind fun y8 =>
  (F16 y8 x1).bind fun y9 =>
  bif (y6.2 == 0) then
    bif ((y6.1.f1.length : Int) == 0) then
      bif (y7.2.2 == 0) then
        bif (y7.2.1 == (wr .i64 (y9.2 + 1))) then
          (F17 y7.1 y9.1).bind fun y10 =>
          some y10
        else
        some false
      else
      some false
    else
    some false
  else
  some false
 : Option (Bool)) := (LiS_eq fd5 (tabH_nat h5) c5_0 (x0, x1, ())).trans (by kernel_rfl)
/-! pochoirref05.Add -/
theorem F25_eq (x0 : List S42) (x1 : List S42) : F25 x0 x1 = (
  L25_1 x0 x1 [] 0
 : Option (List S42)) := (GoS_eq fd25 (tabH D h25) (x0, x1)).trans (by kernel_rfl)
theorem L25_0_eq (x0 : List S42) : L25_0 x0 = (
  (F32 x0).bind fun y1 =>
  some y1
 : Option (List S42)) := (LiS_eq fd25 (tabH_nat h25) c25_0 (x0, ())).trans (by kernel_rfl)
theorem L25_1_eq (x0 : List S42) (x1 : List S42) (x2 : List S42) (x3 : Int) : L25_1 x0 x1 x2 x3 = (
  bif (decide (x3 < (x0.length : Int))) then
    L25_2 x0 x1 x2 x3
  else
  bif (decide (x3 < (x1.length : Int))) then
    L25_2 x0 x1 x2 x3
  else
  L25_0 x2
 : Option (List S42)) := (LiS_eq fd25 (tabH_nat h25) c25_1 (x0, x1, x2, x3, ())).trans (by kernel_rfl)
theorem L25_2_eq (x0 : List S42) (x1 : List S42) (x2 : List S42) (x3 : Int) : L25_2 x0 x1 x2 x3 = (
  (F50 x0 x3).bind fun y1 =>
  (F50 x1 x3).bind fun y2 =>
  (F40 y1 y2).bind fun y3 =>
  grd (fit (x2.length + [y3].length) 32) <|
  L25_1 x0 x1 (x2 ++ [y3]) (wr .i64 (x3 + 1))
 : Option (List S42)) := (LiS_eq fd25 (tabH_nat h25) c25_2 (x0, x1, x2, x3, ())).trans (by kernel_rfl)
/-! poly.each(big.Sub) -/
theorem F55046_eq (x0 : List S31) (x1 : List S31) (x2 : Unit) : F55046 x0 x1 x2 = (
  L55046_0 x0 x1 [] (mxE (x0.length : Int) (x1.length : Int)) 0
 : Option (List S31)) := (GoS_eq fd55046 (tabH D h55046) (x0, x1, x2)).trans (by kernel_rfl)
theorem L55046_0_eq (x0 : List S31) (x1 : List S31) (x2 : List S31) (x3 : Int) (x4 : Int) : L55046_0 x0 x1 x2 x3 x4 = (
  bif (decide (x4 < x3)) then
    (F49 x0 x4).bind fun y1 =>
    (F49 x1 x4).bind fun y2 =>
    (F46 y1 y2).bind fun y3 =>
    grd (fit (x2.length + [y3].length) 32) <|
    L55046_0 x0 x1 (x2 ++ [y3]) x3 (wr .i64 (x4 + 1))
  else
  (F44 x2).bind fun y4 =>
  some y4
 : Option (List S31)) := (LiS_eq fd55046 (tabH_nat h55046) c55046_0 (x0, x1, x2, x3, x4, ())).trans (by kernel_rfl)
/-! poly.Sub -/
theorem F26_eq (x0 : List S31) (x1 : List S31) : F26 x0 x1 = (
  (F55046 x0 x1 ()).bind fun y1 =>
  some y1
 : Option (List S31)) := (GoS_eq fd26 (tabH D h26) (x0, x1)).trans (by kernel_rfl)
/-! pochoirref05.Neg -/
theorem F56_eq (x0 : List S42) : F56 x0 = (
  L56_0 x0 [] 0
 : Option (List S42)) := (GoS_eq fd56 (tabH D h56) (x0)).trans (by kernel_rfl)
theorem L56_0_eq (x0 : List S42) (x1 : List S42) (x2 : Int) : L56_0 x0 x1 x2 = (
  bif (decide (x2 < (x0.length : Int))) then
    grd (decide (0 ≤ x2)) <|
    grd (decide (x2 < (x0.length : Int))) <|
    (F51 (x0.getD (Int.toNat x2) z2)).bind fun y1 =>
    grd (fit (x1.length + [y1].length) 32) <|
    L56_0 x0 (x1 ++ [y1]) (wr .i64 (x2 + 1))
  else
  some x1
 : Option (List S42)) := (LiS_eq fd56 (tabH_nat h56) c56_0 (x0, x1, x2, ())).trans (by kernel_rfl)
/-! pochoirref05.Sub -/
theorem F27_eq (x0 : List S42) (x1 : List S42) : F27 x0 x1 = (
  (F56 x1).bind fun y1 =>
  (F25 x0 y1).bind fun y2 =>
  some y2
 : Option (List S42)) := (GoS_eq fd27 (tabH D h27) (x0, x1)).trans (by kernel_rfl)
/-! pochoirref05.Mul -/
theorem F28_eq (x0 : List S42) (x1 : List S42) : F28 x0 x1 = (
  L28_0 x0 x1 [] 0
 : Option (List S42)) := (GoS_eq fd28 (tabH D h28) (x0, x1)).trans (by kernel_rfl)
theorem L28_0_eq (x0 : List S42) (x1 : List S42) (x2 : List S42) (x3 : Int) : L28_0 x0 x1 x2 x3 = (
  bif (decide (x3 < (wr .i64 ((x0.length : Int) + (x1.length : Int))))) then
    L28_1 x0 x1 x2 x3 (S42.mk false []) 0
  else
  (F32 x2).bind fun y1 =>
  some y1
 : Option (List S42)) := (LiS_eq fd28 (tabH_nat h28) c28_0 (x0, x1, x2, x3, ())).trans (by kernel_rfl)
theorem L28_1_eq (x0 : List S42) (x1 : List S42) (x2 : List S42) (x3 : Int) (x4 : S42) (x5 : Int) : L28_1 x0 x1 x2 x3 x4 x5 = (
  bif (decide (x5 ≤ x3)) then
    (F50 x0 x5).bind fun y1 =>
    (F50 x1 (wr .i64 (x3 - x5))).bind fun y2 =>
    (F41 y1 y2).bind fun y3 =>
    (F40 x4 y3).bind fun y4 =>
    L28_1 x0 x1 x2 x3 y4 (wr .i64 (x5 + 1))
  else
  grd (fit (x2.length + [x4].length) 32) <|
  L28_0 x0 x1 (x2 ++ [x4]) (wr .i64 (x3 + 1))
 : Option (List S42)) := (LiS_eq fd28 (tabH_nat h28) c28_1 (x0, x1, x2, x3, x4, x5, ())).trans (by kernel_rfl)
/-! poly.Derive -/
theorem F29_eq (x0 : List S31) : F29 x0 = (
  L29_0 x0 [] 1
 : Option (List S31)) := (GoS_eq fd29 (tabH D h29) (x0)).trans (by kernel_rfl)
theorem L29_0_eq (x0 : List S31) (x1 : List S31) (x2 : Int) : L29_0 x0 x1 x2 = (
  bif (decide (x2 < (x0.length : Int))) then
    grd (decide (0 ≤ x2)) <|
    grd (decide (x2 < (x0.length : Int))) <|
    (F53 x2).bind fun y1 =>
    (F47 (x0.getD (Int.toNat x2) z0) y1).bind fun y2 =>
    grd (fit (x1.length + [y2].length) 32) <|
    L29_0 x0 (x1 ++ [y2]) (wr .i64 (x2 + 1))
  else
  (F44 x1).bind fun y3 =>
  some y3
 : Option (List S31)) := (LiS_eq fd29 (tabH_nat h29) c29_0 (x0, x1, x2, ())).trans (by kernel_rfl)
/-! pochoirref05.Derive -/
theorem F30_eq (x0 : List S42) : F30 x0 = (
  L30_0 x0 [] 1
 : Option (List S42)) := (GoS_eq fd30 (tabH D h30) (x0)).trans (by kernel_rfl)
theorem L30_0_eq (x0 : List S42) (x1 : List S42) (x2 : Int) : L30_0 x0 x1 x2 = (
  bif (decide (x2 < (x0.length : Int))) then
    grd (decide (0 ≤ x2)) <|
    grd (decide (x2 < (x0.length : Int))) <|
    (F39 x2).bind fun y1 =>
    (F41 (x0.getD (Int.toNat x2) z2) y1).bind fun y2 =>
    grd (fit (x1.length + [y2].length) 32) <|
    L30_0 x0 (x1 ++ [y2]) (wr .i64 (x2 + 1))
  else
  (F32 x1).bind fun y3 =>
  some y3
 : Option (List S42)) := (LiS_eq fd30 (tabH_nat h30) c30_0 (x0, x1, x2, ())).trans (by kernel_rfl)
/-! pochoirlaw05.PolySums -/
theorem F6_eq (x0 : List S31) (x1 : List S31) : F6 x0 x1 = (
  F7.bind fun y1 =>
  bif (!y1) then
    some false
  else
  (F8 x0).bind fun y2 =>
  bif (!y2) then
    some true
  else
  (F8 x1).bind fun y3 =>
  bif (!y3) then
    some true
  else
  L6_0 x0 x1
 : Option (Bool)) := (GoS_eq fd6 (tabH D h6) (x0, x1)).trans (by kernel_rfl)
theorem L6_0_eq (x0 : List S31) (x1 : List S31) : L6_0 x0 x1 = (
  (F9 x0).bind fun y1 =>
  (F9 x1).bind fun y2 =>
  (F24 x0 x1).bind fun y3 =>
  (F25 y1 y2).bind fun y4 =>
  (F17 y3 y4).bind fun y5 =>
  bif y5 then
    (F26 x0 x1).bind fun y6 =>
    (F27 y1 y2).bind fun y7 =>
    (F17 y6 y7).bind fun y8 =>
    bif y8 then
      (F23 x0 x1).bind fun y9 =>
      (F28 y1 y2).bind fun y10 =>
      (F17 y9 y10).bind fun y11 =>
      bif y11 then
        (F29 x0).bind fun y12 =>
        (F30 y1).bind fun y13 =>
        (F17 y12 y13).bind fun y14 =>
        bif y14 then
          (F21 x0).bind fun y15 =>
          some (y15 == (wr .i64 ((y1.length : Int) - 1)))
        else
        some false
      else
      some false
    else
    some false
  else
  some false
 : Option (Bool)) := (LiS_eq fd6 (tabH_nat h6) c6_0 (x0, x1, ())).trans (by kernel_rfl)
end Go.Proofs.YtidiifdiilahdaaDoor.Ev
