/- Printed by a program of this claim: what the functions answer, each by an equation. -/
import Derived.Test.YtalghbndblgndaaEvF
namespace Go.Proofs.Ytalghbndblgndaa.Ev
open Go
set_option linter.unusedVariables false
set_option maxRecDepth 100000
/-! comp.short -/
theorem F133_eq (x0 : List Int) : F133 x0 = (
  L133_0 x0 (x0.length : Int) 0
 : Option (Bool)) := (GoP_eq fd133 (tabH D h133) (x0)).trans (by kernel_rfl)
theorem L133_0_eq (x0 : List Int) (x1 : Int) (x2 : Int) : L133_0 x0 x1 x2 = (
  bif (decide (x2 < x1)) then
    grd (decide (0 ≤ x2)) <|
    grd (decide (x2 < (x0.length : Int))) <|
    bif (decide ((x0.getD (Int.toNat x2) 0) < (-32768))) then
      some false
    else
    bif (decide ((x0.getD (Int.toNat x2) 0) > 32767)) then
      some false
    else
    L133_0 x0 x1 (wr .i64 (x2 + 1))
  else
  some true
 : Option (Bool)) := (LiP_eq fd133 (tabH_nat h133) c133_0 (x0, x1, x2, ())).trans (by kernel_rfl)
/-! comp.may -/
theorem F85_eq (x0 : S47) (x1 : Int) : F85 x0 x1 = (
  bif (decide (x0.f0 ≥ 0)) then
    bif (decide (x0.f0 < x1)) then
      (F133 [x0.f1, x0.f2, x0.f3, x0.f4, x0.f5, x0.f6]).bind fun y1 =>
      some y1
    else
    some false
  else
  some false
 : Option (Bool)) := (GoP_eq fd85 (tabH D h85) (x0, x1)).trans (by kernel_rfl)
/-! comp.May -/
theorem F35_eq (x0 : List S47) (x1 : Int) : F35 x0 x1 = (
  bif (decide (x1 < 1)) then
    some false
  else
  bif (decide (x1 > 1024)) then
    some false
  else
  bif ((x0.length : Int) == 0) then
    some false
  else
  bif (decide ((x0.length : Int) > 64)) then
    some false
  else
  L35_0 x1 x0 (x0.length : Int) 0
 : Option (Bool)) := (GoP_eq fd35 (tabH D h35) (x0, x1)).trans (by kernel_rfl)
theorem L35_0_eq (x0 : Int) (x1 : List S47) (x2 : Int) (x3 : Int) : L35_0 x0 x1 x2 x3 = (
  bif (decide (x3 < x2)) then
    grd (decide (0 ≤ x3)) <|
    grd (decide (x3 < (x1.length : Int))) <|
    (F85 (x1.getD (Int.toNat x3) z0) x0).bind fun y1 =>
    bif (!y1) then
      some false
    else
    L35_0 x0 x1 x2 (wr .i64 (x3 + 1))
  else
  some true
 : Option (Bool)) := (LiP_eq fd35 (tabH_nat h35) c35_0 (x0, x1, x2, x3, ())).trans (by kernel_rfl)
/-! octet.P16 -/
theorem F96_eq (x0 : Int) : F96 x0 = (
  some (ofBytes [(wr .u8 (shrE Go.IntKind.u16 x0 (8 : Int))), (wr .u8 x0)])
 : Option (ByteArray)) := (GoP_eq fd96 (tabH D h96) (x0)).trans (by kernel_rfl)
/-! comp.p16 -/
theorem F80_eq (x0 : List Int) : F80 x0 = (
  L80_0 ByteArray.empty x0 (x0.length : Int) 0
 : Option (ByteArray)) := (GoP_eq fd80 (tabH D h80) (x0)).trans (by kernel_rfl)
theorem L80_0_eq (x0 : ByteArray) (x1 : List Int) (x2 : Int) (x3 : Int) : L80_0 x0 x1 x2 x3 = (
  bif (decide (x3 < x2)) then
    grd (decide (0 ≤ x3)) <|
    grd (decide (x3 < (x1.length : Int))) <|
    (F96 (wr .u16 (x1.getD (Int.toNat x3) 0))).bind fun y1 =>
    grd (fitS ((ByteArray.size x0) + (ByteArray.size y1))) <|
    L80_0 (x0 ++ y1) x1 x2 (wr .i64 (x3 + 1))
  else
  some x0
 : Option (ByteArray)) := (LiP_eq fd80 (tabH_nat h80) c80_0 (x0, x1, x2, x3, ())).trans (by kernel_rfl)
/-! comp.turned -/
theorem F131_eq (x0 : S47) : F131 x0 = (
  bif (x0.f4 != 0) then
    L131_0 x0
  else
  bif (x0.f5 != 0) then
    L131_0 x0
  else
  L131_1 x0
 : Option (Int × ByteArray)) := (GoP_eq fd131 (tabH D h131) (x0)).trans (by kernel_rfl)
theorem L131_0_eq (x0 : S47) : L131_0 x0 = (
  (F80 [x0.f3, x0.f4, x0.f5, x0.f6]).bind fun y1 =>
  some (128, y1)
 : Option (Int × ByteArray)) := (LiP_eq fd131 (tabH_nat h131) c131_0 (x0, ())).trans (by kernel_rfl)
theorem L131_1_eq (x0 : S47) : L131_1 x0 = (
  bif (x0.f3 != x0.f6) then
    (F80 [x0.f3, x0.f6]).bind fun y1 =>
    some (64, y1)
  else
  bif (x0.f3 != 16384) then
    (F80 [x0.f3]).bind fun y2 =>
    some (8, y2)
  else
  some (0, ByteArray.empty)
 : Option (Int × ByteArray)) := (LiP_eq fd131 (tabH_nat h131) c131_1 (x0, ())).trans (by kernel_rfl)
/-! comp.tiny -/
theorem F132_eq (x0 : Int) : F132 x0 = (
  some (x0 == (wr .i64 (wr .i8 x0)))
 : Option (Bool)) := (GoP_eq fd132 (tabH D h132) (x0)).trans (by kernel_rfl)
/-! comp.made -/
theorem F82_eq (x0 : S47) (x1 : Bool) : F82 x0 x1 = (
  (F131 x0).bind fun y1 =>
  bif x1 then
    L82_0 x0 (orE Go.IntKind.i64 (orE Go.IntKind.i64 y1.1 (2 : Int)) (32 : Int)) y1.2
  else
  L82_0 x0 (orE Go.IntKind.i64 y1.1 (2 : Int)) y1.2
 : Option (ByteArray)) := (GoP_eq fd82 (tabH D h82) (x0, x1)).trans (by kernel_rfl)
theorem L82_0_eq (x0 : S47) (x1 : Int) (x2 : ByteArray) : L82_0 x0 x1 x2 = (
  (F132 x0.f1).bind fun y1 =>
  bif (!y1) then
    L82_2 x0 x1 x2
  else
  (F132 x0.f2).bind fun y2 =>
  bif (!y2) then
    L82_2 x0 x1 x2
  else
  L82_1 x0 x1 x2 (ofBytes [(wr .u8 x0.f1), (wr .u8 x0.f2)])
 : Option (ByteArray)) := (LiP_eq fd82 (tabH_nat h82) c82_0 (x0, x1, x2, ())).trans (by kernel_rfl)
theorem L82_1_eq (x0 : S47) (x1 : Int) (x2 : ByteArray) (x3 : ByteArray) : L82_1 x0 x1 x2 x3 = (
  (F80 [x1, x0.f0]).bind fun y1 =>
  grd (fitS ((ByteArray.size y1) + (ByteArray.size x3))) <|
  grd (fitS ((ByteArray.size (y1 ++ x3)) + (ByteArray.size x2))) <|
  some ((y1 ++ x3) ++ x2)
 : Option (ByteArray)) := (LiP_eq fd82 (tabH_nat h82) c82_1 (x0, x1, x2, x3, ())).trans (by kernel_rfl)
theorem L82_2_eq (x0 : S47) (x1 : Int) (x2 : ByteArray) : L82_2 x0 x1 x2 = (
  (F80 [x0.f1, x0.f2]).bind fun y1 =>
  L82_1 x0 (orE Go.IntKind.i64 x1 (1 : Int)) x2 y1
 : Option (ByteArray)) := (LiP_eq fd82 (tabH_nat h82) c82_2 (x0, x1, x2, ())).trans (by kernel_rfl)
/-! comp.Make -/
theorem F33_eq (x0 : List S47) : F33 x0 = (
  (F35 x0 1024).bind fun y1 =>
  bif (!y1) then
    some (ByteArray.empty, 1)
  else
  (F80 [(-1)]).bind fun y2 =>
  (F81 (ofBytes [0]) 8).bind fun y3 =>
  grd (fitS ((ByteArray.size y2) + (ByteArray.size y3))) <|
  L33_0 x0 (y2 ++ y3) x0 (x0.length : Int) 0
 : Option (ByteArray × Int)) := (GoP_eq fd33 (tabH D h33) (x0)).trans (by kernel_rfl)
theorem L33_0_eq (x0 : List S47) (x1 : ByteArray) (x2 : List S47) (x3 : Int) (x4 : Int) : L33_0 x0 x1 x2 x3 x4 = (
  bif (decide (x4 < x3)) then
    grd (decide (0 ≤ x4)) <|
    grd (decide (x4 < (x2.length : Int))) <|
    (F82 (x2.getD (Int.toNat x4) z0) (decide (x4 < (wr .i64 ((x0.length : Int) - 1))))).bind fun y1 =>
    grd (fitS ((ByteArray.size x1) + (ByteArray.size y1))) <|
    L33_0 x0 (x1 ++ y1) x2 x3 (wr .i64 (x4 + 1))
  else
  some (x1, 0)
 : Option (ByteArray × Int)) := (LiP_eq fd33 (tabH_nat h33) c33_0 (x0, x1, x2, x3, x4, ())).trans (by kernel_rfl)
/-! octet.Cut -/
theorem F138_eq (x0 : ByteArray) (x1 : Int) (x2 : Int) : F138 x0 x1 x2 = (
  bif (decide (x1 < 0)) then
    some (ByteArray.empty, 3)
  else
  bif (decide (x2 < 0)) then
    some (ByteArray.empty, 3)
  else
  bif (decide (x1 > ((ByteArray.size x0) : Int))) then
    some (ByteArray.empty, 3)
  else
  bif (decide (x2 > (wr .i64 (((ByteArray.size x0) : Int) - x1)))) then
    some (ByteArray.empty, 3)
  else
  L138_0 x0 x1 x2
 : Option (ByteArray × Int)) := (GoP_eq fd138 (tabH D h138) (x0, x1, x2)).trans (by kernel_rfl)
theorem L138_0_eq (x0 : ByteArray) (x1 : Int) (x2 : Int) : L138_0 x0 x1 x2 = (
  grd (decide (0 ≤ (wr .i64 (x1 + x2)))) <|
  grd (decide ((wr .i64 (x1 + x2)) ≤ ((ByteArray.size x0) : Int))) <|
  grd (decide (0 ≤ x1)) <|
  grd (decide (x1 ≤ (wr .i64 (x1 + x2)))) <|
  some ((ByteArray.extract x0 (Int.toNat x1) (Int.toNat (wr .i64 (x1 + x2)))), 0)
 : Option (ByteArray × Int)) := (LiP_eq fd138 (tabH_nat h138) c138_0 (x0, x1, x2, ())).trans (by kernel_rfl)
/-! octet.number -/
theorem F139_eq (x0 : ByteArray) : F139 x0 = (
  L139_0 x0 0 ((ByteArray.size x0) : Int) 0
 : Option (Int)) := (GoP_eq fd139 (tabH D h139) (x0)).trans (by kernel_rfl)
theorem L139_0_eq (x0 : ByteArray) (x1 : Int) (x2 : Int) (x3 : Int) : L139_0 x0 x1 x2 x3 = (
  bif (decide (x3 < x2)) then
    grd (decide (0 ≤ x3)) <|
    grd (decide (x3 < ((ByteArray.size x0) : Int))) <|
    L139_0 x0 (orE Go.IntKind.u32 (shlE Go.IntKind.u32 x1 (8 : Int)) (wr .u32 (btE x0 (Int.toNat x3)))) x2 (wr .i64 (x3 + 1))
  else
  some x1
 : Option (Int)) := (LiP_eq fd139 (tabH_nat h139) c139_0 (x0, x1, x2, x3, ())).trans (by kernel_rfl)
/-! octet.U16 -/
theorem F88_eq (x0 : ByteArray) (x1 : Int) : F88 x0 x1 = (
  (F138 x0 x1 2).bind fun y1 =>
  (F139 y1.1).bind fun y2 =>
  some ((wr .u16 y2), y1.2)
 : Option (Int × Int)) := (GoP_eq fd88 (tabH D h88) (x0, x1)).trans (by kernel_rfl)
/-! comp.Is -/
theorem F39_eq (x0 : ByteArray) : F39 x0 = (
  (F88 x0 0).bind fun y1 =>
  bif (y1.2 == 0) then
    some (decide ((wr .i16 y1.1) < 0))
  else
  some false
 : Option (Bool)) := (GoP_eq fd39 (tabH D h39) (x0)).trans (by kernel_rfl)
/-! octet.New -/
theorem F70_eq (x0 : ByteArray) : F70 x0 = (
  some (Option.some (S192.mk x0 0 false))
 : Option (Option S192)) := (GoP_eq fd70 (tabH D h70) (x0)).trans (by kernel_rfl)
/-! (*octet.Reader).take -/
theorem F120_eq (x0 : S192) (x1 : Int) : F120 x0 x1 = (
  bif x0.f2 then
    some (ByteArray.empty, x0)
  else
  L120_0 x0 x1
 : Option (ByteArray × S192)) := (GoP_eq fd120 (tabH D h120) (x0, x1)).trans (by kernel_rfl)
theorem L120_0_eq (x0 : S192) (x1 : Int) : L120_0 x0 x1 = (
  (F138 x0.f0 x0.f1 x1).bind fun y1 =>
  bif (y1.2 != 0) then
    some (ByteArray.empty, (S192.mk x0.f0 x0.f1 true))
  else
  some (y1.1, (S192.mk x0.f0 (wr .i64 (x0.f1 + x1)) x0.f2))
 : Option (ByteArray × S192)) := (LiP_eq fd120 (tabH_nat h120) c120_0 (x0, x1, ())).trans (by kernel_rfl)
/-! (*octet.Reader).U16 -/
theorem F119_eq (x0 : S192) : F119 x0 = (
  (F120 x0 2).bind fun y1 =>
  (F139 y1.1).bind fun y2 =>
  some ((wr .u16 y2), y1.2)
 : Option (Int × S192)) := (GoP_eq fd119 (tabH D h119) (x0)).trans (by kernel_rfl)
/-! (*octet.Reader).Err -/
theorem F73_eq (x0 : S192) : F73 x0 = (
  bif x0.f2 then
    some (3, x0)
  else
  some (0, x0)
 : Option (Int × S192)) := (GoP_eq fd73 (tabH D h73) (x0)).trans (by kernel_rfl)
/-! comp.right -/
theorem F135_eq (x0 : Int) : F135 x0 = (
  bif ((andE Go.IntKind.u16 x0 (2 : Int)) != 0) then
    bif ((andE Go.IntKind.u16 x0 (59408 : Int)) == 0) then
      some ((andE Go.IntKind.u16 (andE Go.IntKind.u16 x0 (200 : Int)) (wr .u16 ((andE Go.IntKind.u16 x0 (200 : Int)) - 1))) == 0)
    else
    some false
  else
  some false
 : Option (Bool)) := (GoP_eq fd135 (tabH D h135) (x0)).trans (by kernel_rfl)
/-! (*octet.Reader).I16 -/
theorem F71_eq (x0 : S192) : F71 x0 = (
  (F119 x0).bind fun y1 =>
  some ((wr .i16 y1.1), y1.2)
 : Option (Int × S192)) := (GoP_eq fd71 (tabH D h71) (x0)).trans (by kernel_rfl)
/-! (*octet.Reader).U8 -/
theorem F158_eq (x0 : S192) : F158 x0 = (
  (F120 x0 1).bind fun y1 =>
  (F139 y1.1).bind fun y2 =>
  some ((wr .u8 y2), y1.2)
 : Option (Int × S192)) := (GoP_eq fd158 (tabH D h158) (x0)).trans (by kernel_rfl)
/-! comp.place -/
theorem F136_eq (x0 : S192) (x1 : Int) : F136 x0 x1 = (
  bif ((andE Go.IntKind.u16 x1 (1 : Int)) != 0) then
    (F71 x0).bind fun y1 =>
    (F71 y1.2).bind fun y2 =>
    some ((wr .i64 y1.1), ((wr .i64 y2.1), y2.2))
  else
  (F158 x0).bind fun y3 =>
  (F158 y3.2).bind fun y4 =>
  some ((wr .i64 (wr .i8 y3.1)), ((wr .i64 (wr .i8 y4.1)), y4.2))
 : Option (Int × Int × S192)) := (GoP_eq fd136 (tabH D h136) (x0, x1)).trans (by kernel_rfl)
/-! comp.turn -/
theorem F137_eq (x0 : S192) (x1 : Int) (x2 : S47) : F137 x0 x1 x2 = (
  bif ((andE Go.IntKind.u16 x1 (8 : Int)) != 0) then
    (F71 x0).bind fun y1 =>
    some (y1.2, (S47.mk x2.f0 x2.f1 x2.f2 (wr .i64 y1.1) x2.f4 x2.f5 (wr .i64 y1.1)))
  else
  bif ((andE Go.IntKind.u16 x1 (64 : Int)) != 0) then
    (F71 x0).bind fun y2 =>
    (F71 y2.2).bind fun y3 =>
    some (y3.2, (S47.mk x2.f0 x2.f1 x2.f2 (wr .i64 y2.1) x2.f4 x2.f5 (wr .i64 y3.1)))
  else
  bif ((andE Go.IntKind.u16 x1 (128 : Int)) != 0) then
    (F71 x0).bind fun y4 =>
    (F71 y4.2).bind fun y5 =>
    (F71 y5.2).bind fun y6 =>
    (F71 y6.2).bind fun y7 =>
    some (y7.2, (S47.mk x2.f0 x2.f1 x2.f2 (wr .i64 y4.1) (wr .i64 y5.1) (wr .i64 y6.1) (wr .i64 y7.1)))
  else
  some (x0, (S47.mk x2.f0 x2.f1 x2.f2 16384 x2.f4 x2.f5 16384))
 : Option (S192 × S47)) := (GoP_eq fd137 (tabH D h137) (x0, x1, x2)).trans (by kernel_rfl)
/-! comp.part -/
theorem F87_eq (x0 : S192) (x1 : Int) : F87 x0 x1 = (
  (F119 x0).bind fun y1 =>
  (F119 y1.2).bind fun y2 =>
  (F73 y2.2).bind fun y3 =>
  bif (y3.1 != 0) then
    some ((S47.mk 0 0 0 0 0 0 0), (false, (3, y3.2)))
  else
  (F135 y1.1).bind fun y4 =>
  bif (!y4) then
    some ((S47.mk 0 0 0 0 0 0 0), (false, (4, y3.2)))
  else
  bif (decide ((wr .i64 y2.1) ≥ x1)) then
    some ((S47.mk 0 0 0 0 0 0 0), (false, (4, y3.2)))
  else
  L87_0 y3.2 (S47.mk 0 0 0 0 0 0 0) y1.1 (wr .i64 y2.1)
 : Option (S47 × Bool × Int × S192)) := (GoP_eq fd87 (tabH D h87) (x0, x1)).trans (by kernel_rfl)
theorem L87_0_eq (x0 : S192) (x1 : S47) (x2 : Int) (x3 : Int) : L87_0 x0 x1 x2 x3 = (
  (F136 x0 x2).bind fun y1 =>
  (F137 y1.2.2 x2 (S47.mk x3 y1.1 y1.2.1 0 0 0 0)).bind fun y2 =>
  (F73 y2.1).bind fun y3 =>
  some (y2.2, (((andE Go.IntKind.u16 x2 (32 : Int)) != 0), (Prod.mk y3.1 y3.2)))
 : Option (S47 × Bool × Int × S192)) := (LiP_eq fd87 (tabH_nat h87) c87_0 (x0, x1, x2, x3, ())).trans (by kernel_rfl)
/-! comp.Parse -/
theorem F37_eq (x0 : ByteArray) (x1 : Int) : F37 x0 x1 = (
  bif (decide (x1 < 1)) then
    some ([], 1)
  else
  bif (decide (x1 > 1024)) then
    some ([], 1)
  else
  L37_0 x0 x1
 : Option (List S47 × Int)) := (GoP_eq fd37 (tabH D h37) (x0, x1)).trans (by kernel_rfl)
theorem L37_0_eq (x0 : ByteArray) (x1 : Int) : L37_0 x0 x1 = (
  bif (decide (((ByteArray.size x0) : Int) < 10)) then
    some ([], 3)
  else
  (F39 x0).bind fun y1 =>
  bif (!y1) then
    some ([], 4)
  else
  grd (decide (10 ≤ ((ByteArray.size x0) : Int))) <|
  (F70 (ByteArray.extract x0 10 (ByteArray.size x0))).bind fun y2 =>
  y2.bind fun y3 =>
  L37_1 x1 y3 []
 : Option (List S47 × Int)) := (LiP_eq fd37 (tabH_nat h37) c37_0 (x0, x1, ())).trans (by kernel_rfl)
theorem L37_1_eq (x0 : Int) (x1 : S192) (x2 : List S47) : L37_1 x0 x1 x2 = (
  bif ((x2.length : Int) == 64) then
    some ([], 6)
  else
  (F87 x1 x0).bind fun y1 =>
  bif (y1.2.2.1 != 0) then
    some ([], y1.2.2.1)
  else
  grd (fit (x2.length + [y1.1].length) 56) <|
  bif (!y1.2.1) then
    some ((x2 ++ [y1.1]), 0)
  else
  L37_1 x0 y1.2.2.2 (x2 ++ [y1.1])
 : Option (List S47 × Int)) := (LiP_eq fd37 (tabH_nat h37) c37_1 (x0, x1, x2, ())).trans (by kernel_rfl)
/-! comp.far -/
theorem F90_eq (x0 : Int) : F90 x0 = (
  bif (decide (x0 > 32767)) then
    some true
  else
  some (decide (x0 < (-32767)))
 : Option (Bool)) := (GoP_eq fd90 (tabH D h90) (x0)).trans (by kernel_rfl)
/-! comp.rounded -/
theorem F91_eq (x0 : Int) : F91 x0 = (
  some (shrE Go.IntKind.i64 (wr .i64 (x0 + 8192)) (14 : Int))
 : Option (Int)) := (GoP_eq fd91 (tabH D h91) (x0)).trans (by kernel_rfl)
/-! comp.unit -/
theorem F92_eq (x0 : Int) : F92 x0 = (
  some (decide ((mxE x0 (wr .i64 (0 - x0))) ≤ 32767))
 : Option (Bool)) := (GoP_eq fd92 (tabH D h92) (x0)).trans (by kernel_rfl)
/-! comp.Move -/
theorem F42_eq (x0 : S47) (x1 : Int) (x2 : Int) : F42 x0 x1 x2 = (
  (F85 x0 1024).bind fun y1 =>
  bif (!y1) then
    some (0, (0, 1))
  else
  (F90 x1).bind fun y2 =>
  bif y2 then
    some (0, (0, 1))
  else
  (F90 x2).bind fun y3 =>
  bif y3 then
    some (0, (0, 1))
  else
  L42_0 x1 x2 x0
 : Option (Int × Int × Int)) := (GoP_eq fd42 (tabH D h42) (x0, x1, x2)).trans (by kernel_rfl)
theorem L42_0_eq (x0 : Int) (x1 : Int) (x2 : S47) : L42_0 x0 x1 x2 = (
  (F91 (wr .i64 ((wr .i64 (x2.f3 * x0)) + (wr .i64 (x2.f5 * x1))))).bind fun y1 =>
  (F91 (wr .i64 ((wr .i64 (x2.f4 * x0)) + (wr .i64 (x2.f6 * x1))))).bind fun y2 =>
  (F92 (wr .i64 (y1 + x2.f1))).bind fun y3 =>
  bif (!y3) then
    some (0, (0, 2))
  else
  (F92 (wr .i64 (y2 + x2.f2))).bind fun y4 =>
  bif (!y4) then
    some (0, (0, 2))
  else
  some ((wr .i64 (y1 + x2.f1)), ((wr .i64 (y2 + x2.f2)), 0))
 : Option (Int × Int × Int)) := (LiP_eq fd42 (tabH_nat h42) c42_0 (x0, x1, x2, ())).trans (by kernel_rfl)
/-! pochoirlaw14.awake -/
theorem F32_eq : F32 = (
  (F33 [(S47.mk 2 1 0 8192 0 0 16384)]).bind fun y1 =>
  (F37 y1.1 3).bind fun y2 =>
  (F42 (S47.mk 2 1 0 8192 0 0 16384) 3 5).bind fun y3 =>
  bif (y1.2 == 0) then
    bif (((ByteArray.size y1.1) : Int) == 20) then
      bif (y2.2 == 0) then
        bif ((y2.1.length : Int) == 1) then
          grd (decide (0 < (y2.1.length : Int))) <|
          bif (((y2.1.getD 0 z0).f0 == 2) && (((y2.1.getD 0 z0).f1 == 1) && (((y2.1.getD 0 z0).f2 == 0) && (((y2.1.getD 0 z0).f3 == 8192) && (((y2.1.getD 0 z0).f4 == 0) && (((y2.1.getD 0 z0).f5 == 0) && ((y2.1.getD 0 z0).f6 == 16384))))))) then
            bif (y3.1 == 3) then
              bif (y3.2.1 == 5) then
                bif (y3.2.2 == 0) then
                  (F39 y1.1).bind fun y4 =>
                  bif y4 then
                    (F39 ByteArray.empty).bind fun y5 =>
                    some (!y5)
                  else
                  some false
                else
                some false
              else
              some false
            else
            some false
          else
          some false
        else
        some false
      else
      some false
    else
    some false
  else
  some false
 : Option (Bool)) := (GoP_eq fd32 (tabH D h32) ()).trans (by kernel_rfl)
/-! pochoirref14.short -/
theorem F134_eq (x0 : Int) : F134 x0 = (
  bif (decide (x0 ≥ (-32768))) then
    some (decide (x0 ≤ 32767))
  else
  some false
 : Option (Bool)) := (GoP_eq fd134 (tabH D h134) (x0)).trans (by kernel_rfl)
/-! pochoirref14.One -/
theorem F86_eq (x0 : S47) (x1 : Int) : F86 x0 x1 = (
  bif (decide (x0.f0 ≥ 0)) then
    bif (decide (x0.f0 < x1)) then
      (F134 x0.f1).bind fun y1 =>
      bif y1 then
        (F134 x0.f2).bind fun y2 =>
        bif y2 then
          (F134 x0.f3).bind fun y3 =>
          bif y3 then
            (F134 x0.f4).bind fun y4 =>
            bif y4 then
              (F134 x0.f5).bind fun y5 =>
              bif y5 then
                (F134 x0.f6).bind fun y6 =>
                some y6
              else
              some false
            else
            some false
          else
          some false
        else
        some false
      else
      some false
    else
    some false
  else
  some false
 : Option (Bool)) := (GoP_eq fd86 (tabH D h86) (x0, x1)).trans (by kernel_rfl)
/-! pochoirref14.May -/
theorem F36_eq (x0 : List S47) (x1 : Int) : F36 x0 x1 = (
  bif (decide (x1 < 1)) then
    some false
  else
  bif (decide (x1 > 1024)) then
    some false
  else
  bif (decide ((x0.length : Int) < 1)) then
    some false
  else
  bif (decide ((x0.length : Int) > 64)) then
    some false
  else
  L36_0 x0 x1 0
 : Option (Bool)) := (GoP_eq fd36 (tabH D h36) (x0, x1)).trans (by kernel_rfl)
theorem L36_0_eq (x0 : List S47) (x1 : Int) (x2 : Int) : L36_0 x0 x1 x2 = (
  bif (decide (x2 < (x0.length : Int))) then
    grd (decide (0 ≤ x2)) <|
    grd (decide (x2 < (x0.length : Int))) <|
    (F86 (x0.getD (Int.toNat x2) z0) x1).bind fun y1 =>
    bif (!y1) then
      some false
    else
    L36_0 x0 x1 (wr .i64 (x2 + 1))
  else
  some true
 : Option (Bool)) := (LiP_eq fd36 (tabH_nat h36) c36_0 (x0, x1, x2, ())).trans (by kernel_rfl)
/-! pochoirref07.Put -/
theorem F67_eq (x0 : Int) (x1 : Int) : F67 x0 x1 = (
  L67_0 x0 x1 ByteArray.empty 0
 : Option (ByteArray)) := (GoP_eq fd67 (tabH D h67) (x0, x1)).trans (by kernel_rfl)
theorem L67_0_eq (x0 : Int) (x1 : Int) (x2 : ByteArray) (x3 : Int) : L67_0 x0 x1 x2 x3 = (
  bif (decide (x3 < x1)) then
    grd (fitS ((ByteArray.size (ofBytes [(wr .u8 (Int.tmod x0 (256 : Int)))])) + (ByteArray.size x2))) <|
    L67_0 (wr .u32 (Int.tdiv x0 (256 : Int))) x1 ((ofBytes [(wr .u8 (Int.tmod x0 (256 : Int)))]) ++ x2) (wr .i64 (x3 + 1))
  else
  some x2
 : Option (ByteArray)) := (LiP_eq fd67 (tabH_nat h67) c67_0 (x0, x1, x2, x3, ())).trans (by kernel_rfl)
/-! pochoirref14.tiny -/
theorem F83_eq (x0 : Int) : F83 x0 = (
  bif (decide (x0 ≥ (-128))) then
    some (decide (x0 ≤ 127))
  else
  some false
 : Option (Bool)) := (GoP_eq fd83 (tabH D h83) (x0)).trans (by kernel_rfl)
/-! pochoirref14.p16 -/
theorem F84_eq (x0 : Int) : F84 x0 = (
  (F67 (wr .u32 (wr .u16 x0)) 2).bind fun y1 =>
  some y1
 : Option (ByteArray)) := (GoP_eq fd84 (tabH D h84) (x0)).trans (by kernel_rfl)
/-! pochoirref14.Make -/
theorem F34_eq (x0 : List S47) : F34 x0 = (
  (F36 x0 1024).bind fun y1 =>
  bif (!y1) then
    some (ByteArray.empty, 1)
  else
  L34_0 x0 (ofBytes [255, 255, 0, 0, 0, 0, 0, 0, 0, 0]) 0
 : Option (ByteArray × Int)) := (GoP_eq fd34 (tabH D h34) (x0)).trans (by kernel_rfl)
theorem L34_0_eq (x0 : List S47) (x1 : ByteArray) (x2 : Int) : L34_0 x0 x1 x2 = (
  bif (decide (x2 < (x0.length : Int))) then
    grd (decide (0 ≤ x2)) <|
    grd (decide (x2 < (x0.length : Int))) <|
    bif (decide (x2 < (wr .i64 ((x0.length : Int) - 1)))) then
      L34_1 x0 x1 x2 (x0.getD (Int.toNat x2) z0) 34
    else
    L34_1 x0 x1 x2 (x0.getD (Int.toNat x2) z0) 2
  else
  some (x1, 0)
 : Option (ByteArray × Int)) := (LiP_eq fd34 (tabH_nat h34) c34_0 (x0, x1, x2, ())).trans (by kernel_rfl)
theorem L34_1_eq (x0 : List S47) (x1 : ByteArray) (x2 : Int) (x3 : S47) (x4 : Int) : L34_1 x0 x1 x2 x3 x4 = (
  (F67 (wr .u32 (wr .u8 x3.f1)) 1).bind fun y1 =>
  (F67 (wr .u32 (wr .u8 x3.f2)) 1).bind fun y2 =>
  grd (fitS ((ByteArray.size y1) + (ByteArray.size y2))) <|
  (F83 x3.f1).bind fun y3 =>
  bif (!y3) then
    L34_3 x0 x1 x2 x3 x4
  else
  (F83 x3.f2).bind fun y4 =>
  bif (!y4) then
    L34_3 x0 x1 x2 x3 x4
  else
  L34_2 x0 x1 x2 x3 x4 (y1 ++ y2)
 : Option (ByteArray × Int)) := (LiP_eq fd34 (tabH_nat h34) c34_1 (x0, x1, x2, x3, x4, ())).trans (by kernel_rfl)
theorem L34_2_eq (x0 : List S47) (x1 : ByteArray) (x2 : Int) (x3 : S47) (x4 : Int) (x5 : ByteArray) : L34_2 x0 x1 x2 x3 x4 x5 = (
  bif (x3.f4 == 0) then
    L34_4 x0 x1 x2 x3 x4 x5 (x3.f5 == 0)
  else
  L34_4 x0 x1 x2 x3 x4 x5 false
 : Option (ByteArray × Int)) := (LiP_eq fd34 (tabH_nat h34) c34_2 (x0, x1, x2, x3, x4, x5, ())).trans (by kernel_rfl)
theorem L34_3_eq (x0 : List S47) (x1 : ByteArray) (x2 : Int) (x3 : S47) (x4 : Int) : L34_3 x0 x1 x2 x3 x4 = (
  (F84 x3.f1).bind fun y1 =>
  (F84 x3.f2).bind fun y2 =>
  grd (fitS ((ByteArray.size y1) + (ByteArray.size y2))) <|
  L34_2 x0 x1 x2 x3 (wr .i64 (x4 + 1)) (y1 ++ y2)
 : Option (ByteArray × Int)) := (LiP_eq fd34 (tabH_nat h34) c34_3 (x0, x1, x2, x3, x4, ())).trans (by kernel_rfl)
theorem L34_4_eq (x0 : List S47) (x1 : ByteArray) (x2 : Int) (x3 : S47) (x4 : Int) (x5 : ByteArray) (x6 : Bool) : L34_4 x0 x1 x2 x3 x4 x5 x6 = (
  bif x6 then
    bif (x3.f3 == 16384) then
      bif (x3.f6 == 16384) then
        L34_5 x0 x1 x2 x3 x4 x5 ByteArray.empty
      else
      L34_6 x0 x1 x2 x3 x4 x5 x6
    else
    L34_6 x0 x1 x2 x3 x4 x5 x6
  else
  L34_6 x0 x1 x2 x3 x4 x5 x6
 : Option (ByteArray × Int)) := (LiP_eq fd34 (tabH_nat h34) c34_4 (x0, x1, x2, x3, x4, x5, x6, ())).trans (by kernel_rfl)
theorem L34_5_eq (x0 : List S47) (x1 : ByteArray) (x2 : Int) (x3 : S47) (x4 : Int) (x5 : ByteArray) (x6 : ByteArray) : L34_5 x0 x1 x2 x3 x4 x5 x6 = (
  (F84 x4).bind fun y1 =>
  grd (fitS ((ByteArray.size x1) + (ByteArray.size y1))) <|
  (F84 x3.f0).bind fun y2 =>
  grd (fitS ((ByteArray.size (x1 ++ y1)) + (ByteArray.size y2))) <|
  grd (fitS ((ByteArray.size ((x1 ++ y1) ++ y2)) + (ByteArray.size x5))) <|
  grd (fitS ((ByteArray.size (((x1 ++ y1) ++ y2) ++ x5)) + (ByteArray.size x6))) <|
  L34_0 x0 ((((x1 ++ y1) ++ y2) ++ x5) ++ x6) (wr .i64 (x2 + 1))
 : Option (ByteArray × Int)) := (LiP_eq fd34 (tabH_nat h34) c34_5 (x0, x1, x2, x3, x4, x5, x6, ())).trans (by kernel_rfl)
theorem L34_6_eq (x0 : List S47) (x1 : ByteArray) (x2 : Int) (x3 : S47) (x4 : Int) (x5 : ByteArray) (x6 : Bool) : L34_6 x0 x1 x2 x3 x4 x5 x6 = (
  bif x6 then
    bif (x3.f3 == x3.f6) then
      L34_7 x0 x1 x2 x3 x4 x5
    else
    L34_8 x0 x1 x2 x3 x4 x5 x6
  else
  L34_8 x0 x1 x2 x3 x4 x5 x6
 : Option (ByteArray × Int)) := (LiP_eq fd34 (tabH_nat h34) c34_6 (x0, x1, x2, x3, x4, x5, x6, ())).trans (by kernel_rfl)
theorem L34_7_eq (x0 : List S47) (x1 : ByteArray) (x2 : Int) (x3 : S47) (x4 : Int) (x5 : ByteArray) : L34_7 x0 x1 x2 x3 x4 x5 = (
  (F84 x3.f3).bind fun y1 =>
  L34_5 x0 x1 x2 x3 (wr .i64 (x4 + 8)) x5 y1
 : Option (ByteArray × Int)) := (LiP_eq fd34 (tabH_nat h34) c34_7 (x0, x1, x2, x3, x4, x5, ())).trans (by kernel_rfl)
theorem L34_8_eq (x0 : List S47) (x1 : ByteArray) (x2 : Int) (x3 : S47) (x4 : Int) (x5 : ByteArray) (x6 : Bool) : L34_8 x0 x1 x2 x3 x4 x5 x6 = (
  bif x6 then
    (F84 x3.f3).bind fun y1 =>
    (F84 x3.f6).bind fun y2 =>
    grd (fitS ((ByteArray.size y1) + (ByteArray.size y2))) <|
    L34_5 x0 x1 x2 x3 (wr .i64 (x4 + 64)) x5 (y1 ++ y2)
  else
  (F84 x3.f3).bind fun y3 =>
  (F84 x3.f4).bind fun y4 =>
  grd (fitS ((ByteArray.size y3) + (ByteArray.size y4))) <|
  (F84 x3.f5).bind fun y5 =>
  grd (fitS ((ByteArray.size (y3 ++ y4)) + (ByteArray.size y5))) <|
  (F84 x3.f6).bind fun y6 =>
  grd (fitS ((ByteArray.size ((y3 ++ y4) ++ y5)) + (ByteArray.size y6))) <|
  L34_5 x0 x1 x2 x3 (wr .i64 (x4 + 128)) x5 (((y3 ++ y4) ++ y5) ++ y6)
 : Option (ByteArray × Int)) := (LiP_eq fd34 (tabH_nat h34) c34_8 (x0, x1, x2, x3, x4, x5, x6, ())).trans (by kernel_rfl)
/-! pochoirref14.Same -/
theorem F38_eq (x0 : List S47) (x1 : List S47) : F38 x0 x1 = (
  bif ((x0.length : Int) != (x1.length : Int)) then
    some false
  else
  L38_0 x0 x1 0
 : Option (Bool)) := (GoP_eq fd38 (tabH D h38) (x0, x1)).trans (by kernel_rfl)
theorem L38_0_eq (x0 : List S47) (x1 : List S47) (x2 : Int) : L38_0 x0 x1 x2 = (
  bif (decide (x2 < (x0.length : Int))) then
    grd (decide (0 ≤ x2)) <|
    grd (decide (x2 < (x0.length : Int))) <|
    grd (decide (0 ≤ x2)) <|
    grd (decide (x2 < (x1.length : Int))) <|
    bif (!(((x0.getD (Int.toNat x2) z0).f0 == (x1.getD (Int.toNat x2) z0).f0) && (((x0.getD (Int.toNat x2) z0).f1 == (x1.getD (Int.toNat x2) z0).f1) && (((x0.getD (Int.toNat x2) z0).f2 == (x1.getD (Int.toNat x2) z0).f2) && (((x0.getD (Int.toNat x2) z0).f3 == (x1.getD (Int.toNat x2) z0).f3) && (((x0.getD (Int.toNat x2) z0).f4 == (x1.getD (Int.toNat x2) z0).f4) && (((x0.getD (Int.toNat x2) z0).f5 == (x1.getD (Int.toNat x2) z0).f5) && ((x0.getD (Int.toNat x2) z0).f6 == (x1.getD (Int.toNat x2) z0).f6)))))))) then
      some false
    else
    L38_0 x0 x1 (wr .i64 (x2 + 1))
  else
  some true
 : Option (Bool)) := (LiP_eq fd38 (tabH_nat h38) c38_0 (x0, x1, x2, ())).trans (by kernel_rfl)
/-! pochoirlaw14.CompBack -/
theorem F8_eq (x0 : List S47) (x1 : Int) : F8 x0 x1 = (
  F32.bind fun y1 =>
  bif (!y1) then
    some false
  else
  bif (decide ((x0.length : Int) > 100)) then
    some true
  else
  (F33 x0).bind fun y2 =>
  (F34 x0).bind fun y3 =>
  bif (!((ByteArray.toList y2.1) == (ByteArray.toList y3.1))) then
    some false
  else
  bif (y2.2 != y3.2) then
    some false
  else
  (F35 x0 x1).bind fun y4 =>
  (F36 x0 x1).bind fun y5 =>
  bif (!(y4 == y5)) then
    some false
  else
  L8_0 x0 y2.1 y3.2
 : Option (Bool)) := (GoP_eq fd8 (tabH D h8) (x0, x1)).trans (by kernel_rfl)
theorem L8_0_eq (x0 : List S47) (x1 : ByteArray) (x2 : Int) : L8_0 x0 x1 x2 = (
  bif (x2 != 0) then
    some true
  else
  (F37 x1 1024).bind fun y1 =>
  bif (y1.2 == 0) then
    (F38 y1.1 x0).bind fun y2 =>
    bif y2 then
      (F39 x1).bind fun y3 =>
      some y3
    else
    some false
  else
  some false
 : Option (Bool)) := (LiP_eq fd8 (tabH_nat h8) c8_0 (x0, x1, x2, ())).trans (by kernel_rfl)
/-! pochoirref14.Is -/
theorem F41_eq (x0 : ByteArray) : F41 x0 = (
  bif (decide (((ByteArray.size x0) : Int) ≥ 2)) then
    grd (decide (0 < ((ByteArray.size x0) : Int))) <|
    some (decide ((btE x0 0) ≥ 128))
  else
  some false
 : Option (Bool)) := (GoP_eq fd41 (tabH D h41) (x0)).trans (by kernel_rfl)
/-! pochoirref07.Cut -/
theorem F125_eq (x0 : ByteArray) (x1 : Int) (x2 : Int) : F125 x0 x1 x2 = (
  bif (decide (x1 < 0)) then
    some (ByteArray.empty, 3)
  else
  bif (decide (x2 < 0)) then
    some (ByteArray.empty, 3)
  else
  bif (decide (x1 > ((ByteArray.size x0) : Int))) then
    some (ByteArray.empty, 3)
  else
  bif (decide (x2 > (wr .i64 (((ByteArray.size x0) : Int) - x1)))) then
    some (ByteArray.empty, 3)
  else
  L125_0 x0 x1 x2
 : Option (ByteArray × Int)) := (GoP_eq fd125 (tabH D h125) (x0, x1, x2)).trans (by kernel_rfl)
theorem L125_0_eq (x0 : ByteArray) (x1 : Int) (x2 : Int) : L125_0 x0 x1 x2 = (
  grd (decide (0 ≤ (wr .i64 (x1 + x2)))) <|
  grd (decide ((wr .i64 (x1 + x2)) ≤ ((ByteArray.size x0) : Int))) <|
  grd (decide (0 ≤ x1)) <|
  grd (decide (x1 ≤ (wr .i64 (x1 + x2)))) <|
  some ((ByteArray.extract x0 (Int.toNat x1) (Int.toNat (wr .i64 (x1 + x2)))), 0)
 : Option (ByteArray × Int)) := (LiP_eq fd125 (tabH_nat h125) c125_0 (x0, x1, x2, ())).trans (by kernel_rfl)
/-! (*pochoirref07.Reader).Take -/
theorem F76_eq (x0 : S139) (x1 : Int) : F76 x0 x1 = (
  (F125 x0.f0 x0.f1 x1).bind fun y1 =>
  bif x0.f2 then
    some (ByteArray.empty, (S139.mk x0.f0 x0.f1 true))
  else
  bif (y1.2 != 0) then
    some (ByteArray.empty, (S139.mk x0.f0 x0.f1 true))
  else
  L76_0 x0 x1 y1.1
 : Option (ByteArray × S139)) := (GoP_eq fd76 (tabH D h76) (x0, x1)).trans (by kernel_rfl)
theorem L76_0_eq (x0 : S139) (x1 : Int) (x2 : ByteArray) : L76_0 x0 x1 x2 = (
  some (x2, (S139.mk x0.f0 (wr .i64 (x0.f1 + x1)) x0.f2))
 : Option (ByteArray × S139)) := (LiP_eq fd76 (tabH_nat h76) c76_0 (x0, x1, x2, ())).trans (by kernel_rfl)
/-! pochoirref07.number -/
theorem F126_eq (x0 : ByteArray) : F126 x0 = (
  L126_0 x0 0 0
 : Option (Int)) := (GoP_eq fd126 (tabH D h126) (x0)).trans (by kernel_rfl)
theorem L126_0_eq (x0 : ByteArray) (x1 : Int) (x2 : Int) : L126_0 x0 x1 x2 = (
  bif (decide (x2 < ((ByteArray.size x0) : Int))) then
    grd (decide (0 ≤ x2)) <|
    grd (decide (x2 < ((ByteArray.size x0) : Int))) <|
    L126_0 x0 (wr .u32 ((wr .u32 (x1 * 256)) + (wr .u32 (btE x0 (Int.toNat x2))))) (wr .i64 (x2 + 1))
  else
  some x1
 : Option (Int)) := (LiP_eq fd126 (tabH_nat h126) c126_0 (x0, x1, x2, ())).trans (by kernel_rfl)
/-! (*pochoirref07.Reader).Num -/
theorem F77_eq (x0 : S139) (x1 : Int) : F77 x0 x1 = (
  (F76 x0 x1).bind fun y1 =>
  (F126 y1.1).bind fun y2 =>
  some (y2, y1.2)
 : Option (Int × S139)) := (GoP_eq fd77 (tabH D h77) (x0, x1)).trans (by kernel_rfl)
/-! (*pochoirref07.Reader).I16 -/
theorem F75_eq (x0 : S139) : F75 x0 = (
  (F77 x0 2).bind fun y1 =>
  bif (decide ((wr .i64 y1.1) ≥ 32768)) then
    some ((wr .i64 ((wr .i64 y1.1) - 65536)), y1.2)
  else
  some ((wr .i64 y1.1), y1.2)
 : Option (Int × S139)) := (GoP_eq fd75 (tabH D h75) (x0)).trans (by kernel_rfl)
/-! pochoirref14.byte1 -/
theorem F140_eq (x0 : S139) : F140 x0 = (
  (F77 x0 1).bind fun y1 =>
  bif (decide ((wr .i64 y1.1) ≥ 128)) then
    some ((wr .i64 ((wr .i64 y1.1) - 256)), y1.2)
  else
  some ((wr .i64 y1.1), y1.2)
 : Option (Int × S139)) := (GoP_eq fd140 (tabH D h140) (x0)).trans (by kernel_rfl)
/-! pochoirref14.part -/
theorem F89_eq (x0 : S139) (x1 : Int) : F89 x0 x1 = (
  (F77 x0 2).bind fun y1 =>
  (F77 y1.2 2).bind fun y2 =>
  bif y2.2.f2 then
    some ((S47.mk 0 0 0 0 0 0 0), (false, (3, y2.2)))
  else
  bif ((Int.tmod (wr .u32 (Int.tdiv y1.1 (2 : Int))) (2 : Int)) == 0) then
    some ((S47.mk 0 0 0 0 0 0 0), (false, (4, y2.2)))
  else
  bif (decide ((wr .u32 ((wr .u32 ((Int.tmod (wr .u32 (Int.tdiv y1.1 (8 : Int))) (2 : Int)) + (Int.tmod (wr .u32 (Int.tdiv y1.1 (64 : Int))) (2 : Int)))) + (Int.tmod (wr .u32 (Int.tdiv y1.1 (128 : Int))) (2 : Int)))) > 1)) then
    some ((S47.mk 0 0 0 0 0 0 0), (false, (4, y2.2)))
  else
  bif ((Int.tmod (wr .u32 (Int.tdiv y1.1 (16 : Int))) (2 : Int)) == 1) then
    some ((S47.mk 0 0 0 0 0 0 0), (false, (4, y2.2)))
  else
  bif ((Int.tmod (wr .u32 (Int.tdiv y1.1 (2048 : Int))) (2 : Int)) == 1) then
    some ((S47.mk 0 0 0 0 0 0 0), (false, (4, y2.2)))
  else
  bif (decide (y1.1 ≥ 8192)) then
    some ((S47.mk 0 0 0 0 0 0 0), (false, (4, y2.2)))
  else
  bif (decide ((wr .i64 y2.1) ≥ x1)) then
    some ((S47.mk 0 0 0 0 0 0 0), (false, (4, y2.2)))
  else
  L89_0 y2.2 (S47.mk 0 0 0 0 0 0 0) y1.1 (wr .i64 y2.1)
 : Option (S47 × Bool × Int × S139)) := (GoP_eq fd89 (tabH D h89) (x0, x1)).trans (by kernel_rfl)
theorem L89_0_eq (x0 : S139) (x1 : S47) (x2 : Int) (x3 : Int) : L89_0 x0 x1 x2 x3 = (
  bif ((Int.tmod x2 (2 : Int)) == 1) then
    (F75 x0).bind fun y1 =>
    (F75 y1.2).bind fun y2 =>
    L89_1 y2.2 x1 x2 (S47.mk x3 y1.1 y2.1 16384 0 0 16384)
  else
  (F140 x0).bind fun y3 =>
  (F140 y3.2).bind fun y4 =>
  L89_1 y4.2 x1 x2 (S47.mk x3 y3.1 y4.1 16384 0 0 16384)
 : Option (S47 × Bool × Int × S139)) := (LiP_eq fd89 (tabH_nat h89) c89_0 (x0, x1, x2, x3, ())).trans (by kernel_rfl)
theorem L89_1_eq (x0 : S139) (x1 : S47) (x2 : Int) (x3 : S47) : L89_1 x0 x1 x2 x3 = (
  bif ((Int.tmod (wr .u32 (Int.tdiv x2 (8 : Int))) (2 : Int)) == 1) then
    (F75 x0).bind fun y1 =>
    L89_2 y1.2 x1 x2 (S47.mk x3.f0 x3.f1 x3.f2 y1.1 x3.f4 x3.f5 y1.1)
  else
  L89_2 x0 x1 x2 x3
 : Option (S47 × Bool × Int × S139)) := (LiP_eq fd89 (tabH_nat h89) c89_1 (x0, x1, x2, x3, ())).trans (by kernel_rfl)
theorem L89_2_eq (x0 : S139) (x1 : S47) (x2 : Int) (x3 : S47) : L89_2 x0 x1 x2 x3 = (
  bif ((Int.tmod (wr .u32 (Int.tdiv x2 (64 : Int))) (2 : Int)) == 1) then
    (F75 x0).bind fun y1 =>
    (F75 y1.2).bind fun y2 =>
    L89_3 y2.2 x1 x2 (S47.mk x3.f0 x3.f1 x3.f2 y1.1 x3.f4 x3.f5 y2.1)
  else
  L89_3 x0 x1 x2 x3
 : Option (S47 × Bool × Int × S139)) := (LiP_eq fd89 (tabH_nat h89) c89_2 (x0, x1, x2, x3, ())).trans (by kernel_rfl)
theorem L89_3_eq (x0 : S139) (x1 : S47) (x2 : Int) (x3 : S47) : L89_3 x0 x1 x2 x3 = (
  bif ((Int.tmod (wr .u32 (Int.tdiv x2 (128 : Int))) (2 : Int)) == 1) then
    (F75 x0).bind fun y1 =>
    (F75 y1.2).bind fun y2 =>
    (F75 y2.2).bind fun y3 =>
    (F75 y3.2).bind fun y4 =>
    L89_4 y4.2 x1 x2 (S47.mk x3.f0 x3.f1 x3.f2 y1.1 y2.1 y3.1 y4.1)
  else
  L89_4 x0 x1 x2 x3
 : Option (S47 × Bool × Int × S139)) := (LiP_eq fd89 (tabH_nat h89) c89_3 (x0, x1, x2, x3, ())).trans (by kernel_rfl)
theorem L89_4_eq (x0 : S139) (x1 : S47) (x2 : Int) (x3 : S47) : L89_4 x0 x1 x2 x3 = (
  bif x0.f2 then
    some ((S47.mk 0 0 0 0 0 0 0), (false, (3, x0)))
  else
  some (x3, (((Int.tmod (wr .u32 (Int.tdiv x2 (32 : Int))) (2 : Int)) == 1), (0, x0)))
 : Option (S47 × Bool × Int × S139)) := (LiP_eq fd89 (tabH_nat h89) c89_4 (x0, x1, x2, x3, ())).trans (by kernel_rfl)
/-! pochoirref14.Parse -/
theorem F40_eq (x0 : ByteArray) (x1 : Int) : F40 x0 x1 = (
  bif (decide (x1 < 1)) then
    some ([], 1)
  else
  bif (decide (x1 > 1024)) then
    some ([], 1)
  else
  L40_0 x0 x1
 : Option (List S47 × Int)) := (GoP_eq fd40 (tabH D h40) (x0, x1)).trans (by kernel_rfl)
theorem L40_0_eq (x0 : ByteArray) (x1 : Int) : L40_0 x0 x1 = (
  bif (decide (((ByteArray.size x0) : Int) < 10)) then
    some ([], 3)
  else
  (F41 x0).bind fun y1 =>
  bif (!y1) then
    some ([], 4)
  else
  L40_1 x1 (S139.mk x0 10 false) [] true
 : Option (List S47 × Int)) := (LiP_eq fd40 (tabH_nat h40) c40_0 (x0, x1, ())).trans (by kernel_rfl)
theorem L40_1_eq (x0 : Int) (x1 : S139) (x2 : List S47) (x3 : Bool) : L40_1 x0 x1 x2 x3 = (
  bif x3 then
    bif ((x2.length : Int) == 64) then
      some ([], 6)
    else
    (F89 x1 x0).bind fun y1 =>
    bif (y1.2.2.1 != 0) then
      some ([], y1.2.2.1)
    else
    grd (fit (x2.length + [y1.1].length) 56) <|
    L40_1 x0 y1.2.2.2 (x2 ++ [y1.1]) y1.2.1
  else
  some (x2, 0)
 : Option (List S47 × Int)) := (LiP_eq fd40 (tabH_nat h40) c40_1 (x0, x1, x2, x3, ())).trans (by kernel_rfl)
/-! pochoirlaw14.CompAny -/
theorem F9_eq (x0 : ByteArray) (x1 : Int) : F9 x0 x1 = (
  F32.bind fun y1 =>
  bif (!y1) then
    some false
  else
  bif (decide (((ByteArray.size x0) : Int) > 1000)) then
    some true
  else
  (F37 x0 x1).bind fun y2 =>
  (F40 x0 x1).bind fun y3 =>
  (F38 y2.1 y3.1).bind fun y4 =>
  bif y4 then
    bif (y2.2 == y3.2) then
      (F39 x0).bind fun y5 =>
      (F41 x0).bind fun y6 =>
      bif (y5 == y6) then
        bif (y3.2 != 0) then
          some true
        else
        (F35 y2.1 x1).bind fun y7 =>
        some y7
      else
      some false
    else
    some false
  else
  some false
 : Option (Bool)) := (GoP_eq fd9 (tabH D h9) (x0, x1)).trans (by kernel_rfl)
/-! pochoirref14.Unit -/
theorem F93_eq (x0 : Int) : F93 x0 = (
  bif (decide (x0 ≥ (-32767))) then
    some (decide (x0 ≤ 32767))
  else
  some false
 : Option (Bool)) := (GoP_eq fd93 (tabH D h93) (x0)).trans (by kernel_rfl)
/-! pochoirref14.round -/
theorem F94_eq (x0 : Int) : F94 x0 = (
  bif (decide ((Int.tmod (wr .i64 (x0 + 8192)) (16384 : Int)) < 0)) then
    some (wr .i64 ((wr .i64 (Int.tdiv (wr .i64 (x0 + 8192)) (16384 : Int))) - 1))
  else
  some (wr .i64 (Int.tdiv (wr .i64 (x0 + 8192)) (16384 : Int)))
 : Option (Int)) := (GoP_eq fd94 (tabH D h94) (x0)).trans (by kernel_rfl)
/-! pochoirref14.Move -/
theorem F43_eq (x0 : S47) (x1 : Int) (x2 : Int) : F43 x0 x1 x2 = (
  (F86 x0 1024).bind fun y1 =>
  bif (!y1) then
    some (0, (0, 1))
  else
  (F93 x1).bind fun y2 =>
  bif (!y2) then
    some (0, (0, 1))
  else
  (F93 x2).bind fun y3 =>
  bif (!y3) then
    some (0, (0, 1))
  else
  L43_0 x1 x2 x0
 : Option (Int × Int × Int)) := (GoP_eq fd43 (tabH D h43) (x0, x1, x2)).trans (by kernel_rfl)
theorem L43_0_eq (x0 : Int) (x1 : Int) (x2 : S47) : L43_0 x0 x1 x2 = (
  (F94 (wr .i64 ((wr .i64 (x2.f3 * x0)) + (wr .i64 (x2.f5 * x1))))).bind fun y1 =>
  (F94 (wr .i64 ((wr .i64 (x2.f4 * x0)) + (wr .i64 (x2.f6 * x1))))).bind fun y2 =>
  (F93 (wr .i64 (y1 + x2.f1))).bind fun y3 =>
  bif (!y3) then
    some (0, (0, 2))
  else
  (F93 (wr .i64 (y2 + x2.f2))).bind fun y4 =>
  bif (!y4) then
    some (0, (0, 2))
  else
  some ((wr .i64 (y1 + x2.f1)), ((wr .i64 (y2 + x2.f2)), 0))
 : Option (Int × Int × Int)) := (LiP_eq fd43 (tabH_nat h43) c43_0 (x0, x1, x2, ())).trans (by kernel_rfl)
/-! pochoirlaw14.CompMoves -/
theorem F10_eq (x0 : S47) (x1 : Int) (x2 : Int) : F10 x0 x1 x2 = (
  F32.bind fun y1 =>
  bif (!y1) then
    some false
  else
  (F42 x0 x1 x2).bind fun y2 =>
  (F43 x0 x1 x2).bind fun y3 =>
  bif (y2.1 != y3.1) then
    some false
  else
  bif (y2.2.1 != y3.2.1) then
    some false
  else
  bif (y2.2.2 != y3.2.2) then
    some false
  else
  L10_0 x1 x2 x0
 : Option (Bool)) := (GoP_eq fd10 (tabH D h10) (x0, x1, x2)).trans (by kernel_rfl)
theorem L10_0_eq (x0 : Int) (x1 : Int) (x2 : S47) : L10_0 x0 x1 x2 = (
  (F42 (S47.mk x2.f0 x2.f1 x2.f2 16384 0 0 16384) x0 x1).bind fun y1 =>
  bif (y1.2.2 != 0) then
    some true
  else
  bif (y1.1 == (wr .i64 (x0 + x2.f1))) then
    some (y1.2.1 == (wr .i64 (x1 + x2.f2)))
  else
  some false
 : Option (Bool)) := (LiP_eq fd10 (tabH_nat h10) c10_0 (x0, x1, x2, ())).trans (by kernel_rfl)
end Go.Proofs.Ytalghbndblgndaa.Ev
