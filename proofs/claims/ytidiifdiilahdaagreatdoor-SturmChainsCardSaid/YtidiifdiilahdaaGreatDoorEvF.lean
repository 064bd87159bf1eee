/- Printed by a program of this claim: the functions, as they are told. -/
import Derived.Test.YtidiifdiilahdaaGreatDoorEvD
import Derived.Test.YtidiifdiilahdaaGreatDoorEvAe
import Derived.Test.YtidiifdiilahdaaGreatDoorEvAd
import Derived.Test.YtidiifdiilahdaaGreatDoorEvY
namespace Go.Proofs.YtidiifdiilahdaaGreatDoor.Ev
open Go
set_option linter.unusedVariables false
noncomputable def bodyF (f : Func) : Code := match f.body with | some c => c | none => .skip
/-- big.trimmed -/
def c96_0 : Cut := ⟨56, [.v 0 (.sl (.int .u32)), .v 3 (.int .i64)]⟩
noncomputable def fd96 : FD := ⟨96, bodyF Tryz.f96, Tryz.f96.results.toList, Tryz.f96.ntmps, [.val], [.v (.sl (.int .u32))], [.v (.sl (.int .u32))], 1, [c96_0], 5000, none⟩
noncomputable def h96 : List (En D) := []
noncomputable def G96 : YR D [.v (.sl (.int .u32))] → Option (YR D [.v (.sl (.int .u32))]) := sealF (Gof D fd96 (tabH D h96))
noncomputable def E96 : En D := ⟨96, [.val], [.v (.sl (.int .u32))], [.v (.sl (.int .u32))], 1, G96⟩
noncomputable def F96 (x0 : List Int) : Option (List Int) := G96 (x0)
noncomputable def L96 : LL D (YR D fd96.ts) := sealF (LiF D fd96 (tabH D h96))
noncomputable def L96_0 (v0 : List Int) (v3 : Int) : Option (List Int) := L96 c96_0 (v0, v3, ())
theorem E96_ok : FnOk D PP E96 := fdS_ok lw fd96 (l := h96) (by kernel_rfl) (.nil) Tryz.func96 (by kernel_rfl) (by kernel_rfl) (by kernel_rfl) (enters_of (c := bodyF Tryz.f96) Tryz.func96 (by kernel_rfl) (by kernel_rfl)) (by kernel_rfl) (by kernel_rfl)
/-- big.form -/
noncomputable def fd95 : FD := ⟨95, bodyF Tryz.f95, Tryz.f95.results.toList, Tryz.f95.ntmps, [.val, .val], [.v (.bool), .v (.sl (.int .u32))], [.v (.st 0)], 1, [], 5000, none⟩
noncomputable def h95 : List (En D) := [E96]
noncomputable def G95 : YR D [.v (.bool), .v (.sl (.int .u32))] → Option (YR D [.v (.st 0)]) := sealF (Gof D fd95 (tabH D h95))
noncomputable def E95 : En D := ⟨95, [.val, .val], [.v (.bool), .v (.sl (.int .u32))], [.v (.st 0)], 1, G95⟩
noncomputable def F95 (x0 : Bool) (x1 : List Int) : Option (S60) := G95 (x0, x1)
theorem E95_ok : FnOk D PP E95 := fdS_ok lw fd95 (l := h95) (by kernel_rfl) (.cons E96_ok .nil) Tryz.func95 (by kernel_rfl) (by kernel_rfl) (by kernel_rfl) (enters_of (c := bodyF Tryz.f95) Tryz.func95 (by kernel_rfl) (by kernel_rfl)) (by kernel_rfl) (by kernel_rfl)
/-- big.Of -/
def c51_0 : Cut := ⟨15, [.v 0 (.int .i64), .box 2 2 (.st 0) 0 [], .v 3 (.int .u64)]⟩
noncomputable def fd51 : FD := ⟨51, bodyF Tryz.f51, Tryz.f51.results.toList, Tryz.f51.ntmps, [.val], [.v (.int .i64)], [.v (.st 0)], 1, [c51_0], 5000, none⟩
noncomputable def h51 : List (En D) := [E95]
noncomputable def G51 : YR D [.v (.int .i64)] → Option (YR D [.v (.st 0)]) := sealF (Gof D fd51 (tabH D h51))
noncomputable def E51 : En D := ⟨51, [.val], [.v (.int .i64)], [.v (.st 0)], 1, G51⟩
noncomputable def F51 (x0 : Int) : Option (S60) := G51 (x0)
noncomputable def L51 : LL D (YR D fd51.ts) := sealF (LiF D fd51 (tabH D h51))
noncomputable def L51_0 (v0 : Int) (v2 : S60) (v3 : Int) : Option (S60) := L51 c51_0 (v0, v2, v3, ())
theorem E51_ok : FnOk D PP E51 := fdS_ok lw fd51 (l := h51) (by kernel_rfl) (.cons E95_ok .nil) Tryz.func51 (by kernel_rfl) (by kernel_rfl) (by kernel_rfl) (enters_of (c := bodyF Tryz.f51) Tryz.func51 (by kernel_rfl) (by kernel_rfl)) (by kernel_rfl) (by kernel_rfl)
/-- big.Sign -/
noncomputable def fd66 : FD := ⟨66, bodyF Tryz.f66, Tryz.f66.results.toList, Tryz.f66.ntmps, [.val], [.v (.st 0)], [.v (.int .i64)], 1, [], 5000, none⟩
noncomputable def h66 : List (En D) := [E96]
noncomputable def G66 : YR D [.v (.st 0)] → Option (YR D [.v (.int .i64)]) := sealF (Gof D fd66 (tabH D h66))
noncomputable def E66 : En D := ⟨66, [.val], [.v (.st 0)], [.v (.int .i64)], 1, G66⟩
noncomputable def F66 (x0 : S60) : Option (Int) := G66 (x0)
theorem E66_ok : FnOk D PP E66 := fdS_ok lw fd66 (l := h66) (by kernel_rfl) (.cons E96_ok .nil) Tryz.func66 (by kernel_rfl) (by kernel_rfl) (by kernel_rfl) (enters_of (c := bodyF Tryz.f66) Tryz.func66 (by kernel_rfl) (by kernel_rfl)) (by kernel_rfl) (by kernel_rfl)
/-- poly.trimmed -/
def c52_0 : Cut := ⟨56, [.v 0 (.sl (.st 0)), .v 3 (.int .i64)]⟩
noncomputable def fd52 : FD := ⟨52, bodyF Tryz.f52, Tryz.f52.results.toList, Tryz.f52.ntmps, [.val], [.v (.sl (.st 0))], [.v (.sl (.st 0))], 1, [c52_0], 5000, none⟩
noncomputable def h52 : List (En D) := [E66]
noncomputable def G52 : YR D [.v (.sl (.st 0))] → Option (YR D [.v (.sl (.st 0))]) := sealF (Gof D fd52 (tabH D h52))
noncomputable def E52 : En D := ⟨52, [.val], [.v (.sl (.st 0))], [.v (.sl (.st 0))], 1, G52⟩
noncomputable def F52 (x0 : List S60) : Option (List S60) := G52 (x0)
noncomputable def L52 : LL D (YR D fd52.ts) := sealF (LiF D fd52 (tabH D h52))
noncomputable def L52_0 (v0 : List S60) (v3 : Int) : Option (List S60) := L52 c52_0 (v0, v3, ())
theorem E52_ok : FnOk D PP E52 := fdS_ok lw fd52 (l := h52) (by kernel_rfl) (.cons E66_ok .nil) Tryz.func52 (by kernel_rfl) (by kernel_rfl) (by kernel_rfl) (enters_of (c := bodyF Tryz.f52) Tryz.func52 (by kernel_rfl) (by kernel_rfl)) (by kernel_rfl) (by kernel_rfl)
/-- poly.Of -/
def c21_0 : Cut := ⟨116, [.own 3 (.st 0), .v 6 (.sl (.int .i64)), .v 7 (.int .i64), .v 8 (.int .i64)]⟩
noncomputable def fd21 : FD := ⟨21, bodyF Tryz.f21, Tryz.f21.results.toList, Tryz.f21.ntmps, [.val], [.v (.sl (.int .i64))], [.v (.sl (.st 0))], 1, [c21_0], 5000, none⟩
noncomputable def h21 : List (En D) := [E51, E52]
noncomputable def G21 : YR D [.v (.sl (.int .i64))] → Option (YR D [.v (.sl (.st 0))]) := sealF (Gof D fd21 (tabH D h21))
noncomputable def E21 : En D := ⟨21, [.val], [.v (.sl (.int .i64))], [.v (.sl (.st 0))], 1, G21⟩
noncomputable def F21 (x0 : List Int) : Option (List S60) := G21 (x0)
noncomputable def L21 : LL D (YR D fd21.ts) := sealF (LiF D fd21 (tabH D h21))
noncomputable def L21_0 (v3 : List S60) (v6 : List Int) (v7 : Int) (v8 : Int) : Option (List S60) := L21 c21_0 (v3, v6, v7, v8, ())
theorem E21_ok : FnOk D PP E21 := fdS_ok lw fd21 (l := h21) (by kernel_rfl) (.cons E51_ok (.cons E52_ok .nil)) Tryz.func21 (by kernel_rfl) (by kernel_rfl) (by kernel_rfl) (enters_of (c := bodyF Tryz.f21) Tryz.func21 (by kernel_rfl) (by kernel_rfl)) (by kernel_rfl) (by kernel_rfl)
/-- ratio.size -/
noncomputable def fd80 : FD := ⟨80, bodyF Tryz.f80, Tryz.f80.results.toList, Tryz.f80.ntmps, [.val], [.v (.int .i64)], [.v (.int .u64)], 1, [], 5000, none⟩
noncomputable def h80 : List (En D) := []
noncomputable def G80 : YR D [.v (.int .i64)] → Option (YR D [.v (.int .u64)]) := sealF (Gof D fd80 (tabH D h80))
noncomputable def E80 : En D := ⟨80, [.val], [.v (.int .i64)], [.v (.int .u64)], 1, G80⟩
noncomputable def F80 (x0 : Int) : Option (Int) := G80 (x0)
theorem E80_ok : FnOk D PP E80 := fdS_ok lw fd80 (l := h80) (by kernel_rfl) (.nil) Tryz.func80 (by kernel_rfl) (by kernel_rfl) (by kernel_rfl) (enters_of (c := bodyF Tryz.f80) Tryz.func80 (by kernel_rfl) (by kernel_rfl)) (by kernel_rfl) (by kernel_rfl)
/-- wide.Of -/
noncomputable def fd79 : FD := ⟨79, bodyF Tryz.f79, Tryz.f79.results.toList, Tryz.f79.ntmps, [.val], [.v (.int .u64)], [.v (.st 5)], 1, [], 5000, none⟩
noncomputable def h79 : List (En D) := []
noncomputable def G79 : YR D [.v (.int .u64)] → Option (YR D [.v (.st 5)]) := sealF (Gof D fd79 (tabH D h79))
noncomputable def E79 : En D := ⟨79, [.val], [.v (.int .u64)], [.v (.st 5)], 1, G79⟩
noncomputable def F79 (x0 : Int) : Option (S117) := G79 (x0)
theorem E79_ok : FnOk D PP E79 := fdS_ok lw fd79 (l := h79) (by kernel_rfl) (.nil) Tryz.func79 (by kernel_rfl) (by kernel_rfl) (by kernel_rfl) (enters_of (c := bodyF Tryz.f79) Tryz.func79 (by kernel_rfl) (by kernel_rfl)) (by kernel_rfl) (by kernel_rfl)
/-- math/bits.TrailingZeros64 -/
noncomputable def G122 : YR D [.v (.int .u64)] → Option (YR D [.v (.int .i64)]) := sealF fun x => bits_TrailingZeros64 x
noncomputable def E122 : En D := ⟨122, [.val], [.v (.int .u64)], [.v (.int .i64)], 1, G122⟩
noncomputable def F122 (x0 : Int) : Option (Int) := G122 (x0)
theorem F122_eq (x0 : Int) : F122 x0 = bits_TrailingZeros64 x0 := congrFun (sealF_eq _) (x0)
theorem E122_ok : FnOk D PP E122 := bits_TrailingZeros64_ok
/-- ratio.twos -/
noncomputable def fd104 : FD := ⟨104, bodyF Tryz.f104, Tryz.f104.results.toList, Tryz.f104.ntmps, [.val], [.v (.st 5)], [.v (.int .i64)], 1, [], 5000, none⟩
noncomputable def h104 : List (En D) := [E122]
noncomputable def G104 : YR D [.v (.st 5)] → Option (YR D [.v (.int .i64)]) := sealF (Gof D fd104 (tabH D h104))
noncomputable def E104 : En D := ⟨104, [.val], [.v (.st 5)], [.v (.int .i64)], 1, G104⟩
noncomputable def F104 (x0 : S117) : Option (Int) := G104 (x0)
theorem E104_ok : FnOk D PP E104 := fdS_ok lw fd104 (l := h104) (by kernel_rfl) (.cons E122_ok .nil) Tryz.func104 (by kernel_rfl) (by kernel_rfl) (by kernel_rfl) (enters_of (c := bodyF Tryz.f104) Tryz.func104 (by kernel_rfl) (by kernel_rfl)) (by kernel_rfl) (by kernel_rfl)
/-- wide.right -/
noncomputable def fd123 : FD := ⟨123, bodyF Tryz.f123, Tryz.f123.results.toList, Tryz.f123.ntmps, [.val, .val], [.v (.st 5), .v (.int .u64)], [.v (.st 5)], 1, [], 5000, none⟩
noncomputable def h123 : List (En D) := []
noncomputable def G123 : YR D [.v (.st 5), .v (.int .u64)] → Option (YR D [.v (.st 5)]) := sealF (Gof D fd123 (tabH D h123))
noncomputable def E123 : En D := ⟨123, [.val, .val], [.v (.st 5), .v (.int .u64)], [.v (.st 5)], 1, G123⟩
noncomputable def F123 (x0 : S117) (x1 : Int) : Option (S117) := G123 (x0, x1)
theorem E123_ok : FnOk D PP E123 := fdS_ok lw fd123 (l := h123) (by kernel_rfl) (.nil) Tryz.func123 (by kernel_rfl) (by kernel_rfl) (by kernel_rfl) (enters_of (c := bodyF Tryz.f123) Tryz.func123 (by kernel_rfl) (by kernel_rfl)) (by kernel_rfl) (by kernel_rfl)
/-- math/bits.Len64 -/
def c135_0 : Cut := ⟨7, [.v 0 (.int .u64), .v 2 (.int .i64)]⟩
def c135_1 : Cut := ⟨15, [.v 0 (.int .u64), .v 2 (.int .i64)]⟩
def c135_2 : Cut := ⟨31, [.v 0 (.int .u64), .v 2 (.int .i64)]⟩
noncomputable def fd135 : FD := ⟨135, bodyF Tryz.f135, Tryz.f135.results.toList, Tryz.f135.ntmps, [.val], [.v (.int .u64)], [.v (.int .i64)], 1, [c135_0, c135_1, c135_2], 5000, none⟩
noncomputable def h135 : List (En D) := []
noncomputable def G135 : YR D [.v (.int .u64)] → Option (YR D [.v (.int .i64)]) := sealF (Gof D fd135 (tabH D h135))
noncomputable def E135 : En D := ⟨135, [.val], [.v (.int .u64)], [.v (.int .i64)], 1, G135⟩
noncomputable def F135 (x0 : Int) : Option (Int) := G135 (x0)
noncomputable def L135 : LL D (YR D fd135.ts) := sealF (LiF D fd135 (tabH D h135))
noncomputable def L135_0 (v0 : Int) (v2 : Int) : Option (Int) := L135 c135_0 (v0, v2, ())
noncomputable def L135_1 (v0 : Int) (v2 : Int) : Option (Int) := L135 c135_1 (v0, v2, ())
noncomputable def L135_2 (v0 : Int) (v2 : Int) : Option (Int) := L135 c135_2 (v0, v2, ())
theorem E135_ok : FnOk D PP E135 := fdS_ok lw fd135 (l := h135) (by kernel_rfl) (.nil) Tryz.func135 (by kernel_rfl) (by kernel_rfl) (by kernel_rfl) (enters_of (c := bodyF Tryz.f135) Tryz.func135 (by kernel_rfl) (by kernel_rfl)) (by kernel_rfl) (by kernel_rfl)
/-- wide.Bits -/
noncomputable def fd124 : FD := ⟨124, bodyF Tryz.f124, Tryz.f124.results.toList, Tryz.f124.ntmps, [.val], [.v (.st 5)], [.v (.int .i64)], 1, [], 5000, none⟩
noncomputable def h124 : List (En D) := [E135]
noncomputable def G124 : YR D [.v (.st 5)] → Option (YR D [.v (.int .i64)]) := sealF (Gof D fd124 (tabH D h124))
noncomputable def E124 : En D := ⟨124, [.val], [.v (.st 5)], [.v (.int .i64)], 1, G124⟩
noncomputable def F124 (x0 : S117) : Option (Int) := G124 (x0)
theorem E124_ok : FnOk D PP E124 := fdS_ok lw fd124 (l := h124) (by kernel_rfl) (.cons E135_ok .nil) Tryz.func124 (by kernel_rfl) (by kernel_rfl) (by kernel_rfl) (enters_of (c := bodyF Tryz.f124) Tryz.func124 (by kernel_rfl) (by kernel_rfl)) (by kernel_rfl) (by kernel_rfl)
/-- wide.left -/
noncomputable def fd125 : FD := ⟨125, bodyF Tryz.f125, Tryz.f125.results.toList, Tryz.f125.ntmps, [.val, .val], [.v (.st 5), .v (.int .u64)], [.v (.st 5)], 1, [], 5000, none⟩
noncomputable def h125 : List (En D) := []
noncomputable def G125 : YR D [.v (.st 5), .v (.int .u64)] → Option (YR D [.v (.st 5)]) := sealF (Gof D fd125 (tabH D h125))
noncomputable def E125 : En D := ⟨125, [.val, .val], [.v (.st 5), .v (.int .u64)], [.v (.st 5)], 1, G125⟩
noncomputable def F125 (x0 : S117) (x1 : Int) : Option (S117) := G125 (x0, x1)
theorem E125_ok : FnOk D PP E125 := fdS_ok lw fd125 (l := h125) (by kernel_rfl) (.nil) Tryz.func125 (by kernel_rfl) (by kernel_rfl) (by kernel_rfl) (enters_of (c := bodyF Tryz.f125) Tryz.func125 (by kernel_rfl) (by kernel_rfl)) (by kernel_rfl) (by kernel_rfl)
/-- wide.Shift -/
def c105_0 : Cut := ⟨51, [.v 1 (.int .i64), .box 2 2 (.st 5) 0 [], .box 4 4 (.st 5) 0 []]⟩
noncomputable def fd105 : FD := ⟨105, bodyF Tryz.f105, Tryz.f105.results.toList, Tryz.f105.ntmps, [.val, .val], [.v (.st 5), .v (.int .i64)], [.v (.st 5), .v (.int .i64)], 2, [c105_0], 5000, none⟩
noncomputable def h105 : List (En D) := [E123, E124, E125]
noncomputable def G105 : YR D [.v (.st 5), .v (.int .i64)] → Option (YR D [.v (.st 5), .v (.int .i64)]) := sealF (Gof D fd105 (tabH D h105))
noncomputable def E105 : En D := ⟨105, [.val, .val], [.v (.st 5), .v (.int .i64)], [.v (.st 5), .v (.int .i64)], 2, G105⟩
noncomputable def F105 (x0 : S117) (x1 : Int) : Option (S117 × Int) := G105 (x0, x1)
noncomputable def L105 : LL D (YR D fd105.ts) := sealF (LiF D fd105 (tabH D h105))
noncomputable def L105_0 (v1 : Int) (v2 : S117) (v4 : S117) : Option (S117 × Int) := L105 c105_0 (v1, v2, v4, ())
theorem E105_ok : FnOk D PP E105 := fdS_ok lw fd105 (l := h105) (by kernel_rfl) (.cons E123_ok (.cons E124_ok (.cons E125_ok .nil))) Tryz.func105 (by kernel_rfl) (by kernel_rfl) (by kernel_rfl) (enters_of (c := bodyF Tryz.f105) Tryz.func105 (by kernel_rfl) (by kernel_rfl)) (by kernel_rfl) (by kernel_rfl)
/-- cmp.isNaN[uint64] -/
noncomputable def fd136 : FD := ⟨136, bodyF Tryz.f136, Tryz.f136.results.toList, Tryz.f136.ntmps, [.val], [.v (.int .u64)], [.v (.bool)], 1, [], 5000, none⟩
noncomputable def h136 : List (En D) := []
noncomputable def G136 : YR D [.v (.int .u64)] → Option (YR D [.v (.bool)]) := sealF (Gof D fd136 (tabH D h136))
noncomputable def E136 : En D := ⟨136, [.val], [.v (.int .u64)], [.v (.bool)], 1, G136⟩
noncomputable def F136 (x0 : Int) : Option (Bool) := G136 (x0)
theorem E136_ok : FnOk D PP E136 := fdS_ok lw fd136 (l := h136) (by kernel_rfl) (.nil) Tryz.func136 (by kernel_rfl) (by kernel_rfl) (by kernel_rfl) (enters_of (c := bodyF Tryz.f136) Tryz.func136 (by kernel_rfl) (by kernel_rfl)) (by kernel_rfl) (by kernel_rfl)
/-- cmp.Compare[uint64] -/
noncomputable def fd127 : FD := ⟨127, bodyF Tryz.f127, Tryz.f127.results.toList, Tryz.f127.ntmps, [.val, .val], [.v (.int .u64), .v (.int .u64)], [.v (.int .i64)], 1, [], 5000, none⟩
noncomputable def h127 : List (En D) := [E136]
noncomputable def G127 : YR D [.v (.int .u64), .v (.int .u64)] → Option (YR D [.v (.int .i64)]) := sealF (Gof D fd127 (tabH D h127))
noncomputable def E127 : En D := ⟨127, [.val, .val], [.v (.int .u64), .v (.int .u64)], [.v (.int .i64)], 1, G127⟩
noncomputable def F127 (x0 : Int) (x1 : Int) : Option (Int) := G127 (x0, x1)
theorem E127_ok : FnOk D PP E127 := fdS_ok lw fd127 (l := h127) (by kernel_rfl) (.cons E136_ok .nil) Tryz.func127 (by kernel_rfl) (by kernel_rfl) (by kernel_rfl) (enters_of (c := bodyF Tryz.f127) Tryz.func127 (by kernel_rfl) (by kernel_rfl)) (by kernel_rfl) (by kernel_rfl)
/-- cmp.Or[int] -/
def c126_0 : Cut := ⟨116, [.v 3 (.int .i64), .v 6 (.sl (.int .i64)), .v 7 (.int .i64), .v 8 (.int .i64)]⟩
noncomputable def fd126 : FD := ⟨126, bodyF Tryz.f126, Tryz.f126.results.toList, Tryz.f126.ntmps, [.val], [.v (.sl (.int .i64))], [.v (.int .i64)], 1, [c126_0], 5000, none⟩
noncomputable def h126 : List (En D) := []
noncomputable def G126 : YR D [.v (.sl (.int .i64))] → Option (YR D [.v (.int .i64)]) := sealF (Gof D fd126 (tabH D h126))
noncomputable def E126 : En D := ⟨126, [.val], [.v (.sl (.int .i64))], [.v (.int .i64)], 1, G126⟩
noncomputable def F126 (x0 : List Int) : Option (Int) := G126 (x0)
noncomputable def L126 : LL D (YR D fd126.ts) := sealF (LiF D fd126 (tabH D h126))
noncomputable def L126_0 (v3 : Int) (v6 : List Int) (v7 : Int) (v8 : Int) : Option (Int) := L126 c126_0 (v3, v6, v7, v8, ())
theorem E126_ok : FnOk D PP E126 := fdS_ok lw fd126 (l := h126) (by kernel_rfl) (.nil) Tryz.func126 (by kernel_rfl) (by kernel_rfl) (by kernel_rfl) (enters_of (c := bodyF Tryz.f126) Tryz.func126 (by kernel_rfl) (by kernel_rfl)) (by kernel_rfl) (by kernel_rfl)
/-- wide.Cmp -/
noncomputable def fd106 : FD := ⟨106, bodyF Tryz.f106, Tryz.f106.results.toList, Tryz.f106.ntmps, [.val, .val], [.v (.st 5), .v (.st 5)], [.v (.int .i64)], 1, [], 5000, none⟩
noncomputable def h106 : List (En D) := [E126, E127]
noncomputable def G106 : YR D [.v (.st 5), .v (.st 5)] → Option (YR D [.v (.int .i64)]) := sealF (Gof D fd106 (tabH D h106))
noncomputable def E106 : En D := ⟨106, [.val, .val], [.v (.st 5), .v (.st 5)], [.v (.int .i64)], 1, G106⟩
noncomputable def F106 (x0 : S117) (x1 : S117) : Option (Int) := G106 (x0, x1)
theorem E106_ok : FnOk D PP E106 := fdS_ok lw fd106 (l := h106) (by kernel_rfl) (.cons E126_ok (.cons E127_ok .nil)) Tryz.func106 (by kernel_rfl) (by kernel_rfl) (by kernel_rfl) (enters_of (c := bodyF Tryz.f106) Tryz.func106 (by kernel_rfl) (by kernel_rfl)) (by kernel_rfl) (by kernel_rfl)
/-- math/bits.Sub64 -/
noncomputable def G128 : YR D [.v (.int .u64), .v (.int .u64), .v (.int .u64)] → Option (YR D [.v (.int .u64), .v (.int .u64)]) := sealF fun x => bits_Sub64 x.1 x.2.1 x.2.2
noncomputable def E128 : En D := ⟨128, [.val, .val, .val], [.v (.int .u64), .v (.int .u64), .v (.int .u64)], [.v (.int .u64), .v (.int .u64)], 2, G128⟩
noncomputable def F128 (x0 : Int) (x1 : Int) (x2 : Int) : Option (Int × Int) := G128 (x0, x1, x2)
theorem F128_eq (x0 : Int) (x1 : Int) (x2 : Int) : F128 x0 x1 x2 = bits_Sub64 x0 x1 x2 := congrFun (sealF_eq _) (x0, x1, x2)
theorem E128_ok : FnOk D PP E128 := bits_Sub64_ok Tryz.func128 rfl rfl rfl rfl (by kernel_rfl)
/-- wide.Sub -/
noncomputable def fd107 : FD := ⟨107, bodyF Tryz.f107, Tryz.f107.results.toList, Tryz.f107.ntmps, [.val, .val], [.v (.st 5), .v (.st 5)], [.v (.st 5), .v (.int .i64)], 2, [], 5000, none⟩
noncomputable def h107 : List (En D) := [E128]
noncomputable def G107 : YR D [.v (.st 5), .v (.st 5)] → Option (YR D [.v (.st 5), .v (.int .i64)]) := sealF (Gof D fd107 (tabH D h107))
noncomputable def E107 : En D := ⟨107, [.val, .val], [.v (.st 5), .v (.st 5)], [.v (.st 5), .v (.int .i64)], 2, G107⟩
noncomputable def F107 (x0 : S117) (x1 : S117) : Option (S117 × Int) := G107 (x0, x1)
theorem E107_ok : FnOk D PP E107 := fdS_ok lw fd107 (l := h107) (by kernel_rfl) (.cons E128_ok .nil) Tryz.func107 (by kernel_rfl) (by kernel_rfl) (by kernel_rfl) (enters_of (c := bodyF Tryz.f107) Tryz.func107 (by kernel_rfl) (by kernel_rfl)) (by kernel_rfl) (by kernel_rfl)
/-- ratio.common -/
def c78_0 : Cut := ⟨504, [.box 2 2 (.st 5) 0 [], .box 3 3 (.st 5) 0 [], .box 4 4 (.st 5) 0 [], .v 5 (.int .i64)]⟩
def c78_1 : Cut := ⟨8075, [.box 2 2 (.st 5) 0 [], .box 3 3 (.st 5) 0 [], .box 4 4 (.st 5) 0 [], .v 5 (.int .i64)]⟩
noncomputable def fd78 : FD := ⟨78, bodyF Tryz.f78, Tryz.f78.results.toList, Tryz.f78.ntmps, [.val, .val], [.v (.st 5), .v (.st 5)], [.v (.st 5)], 1, [c78_0, c78_1], 5000, none⟩
noncomputable def h78 : List (En D) := [E104, E105, E106, E107]
noncomputable def G78 : YR D [.v (.st 5), .v (.st 5)] → Option (YR D [.v (.st 5)]) := sealF (Gof D fd78 (tabH D h78))
noncomputable def E78 : En D := ⟨78, [.val, .val], [.v (.st 5), .v (.st 5)], [.v (.st 5)], 1, G78⟩
noncomputable def F78 (x0 : S117) (x1 : S117) : Option (S117) := G78 (x0, x1)
noncomputable def L78 : LL D (YR D fd78.ts) := sealF (LiF D fd78 (tabH D h78))
noncomputable def L78_0 (v2 : S117) (v3 : S117) (v4 : S117) (v5 : Int) : Option (S117) := L78 c78_0 (v2, v3, v4, v5, ())
noncomputable def L78_1 (v2 : S117) (v3 : S117) (v4 : S117) (v5 : Int) : Option (S117) := L78 c78_1 (v2, v3, v4, v5, ())
theorem E78_ok : FnOk D PP E78 := fdS_ok lw fd78 (l := h78) (by kernel_rfl) (.cons E104_ok (.cons E105_ok (.cons E106_ok (.cons E107_ok .nil)))) Tryz.func78 (by kernel_rfl) (by kernel_rfl) (by kernel_rfl) (enters_of (c := bodyF Tryz.f78) Tryz.func78 (by kernel_rfl) (by kernel_rfl)) (by kernel_rfl) (by kernel_rfl)
/-- ratio.May -/
noncomputable def fd38 : FD := ⟨38, bodyF Tryz.f38, Tryz.f38.results.toList, Tryz.f38.ntmps, [.val], [.v (.st 1)], [.v (.bool)], 1, [], 5000, none⟩
noncomputable def h38 : List (En D) := [E78, E79, E80]
noncomputable def G38 : YR D [.v (.st 1)] → Option (YR D [.v (.bool)]) := sealF (Gof D fd38 (tabH D h38))
noncomputable def E38 : En D := ⟨38, [.val], [.v (.st 1)], [.v (.bool)], 1, G38⟩
noncomputable def F38 (x0 : S24) : Option (Bool) := G38 (x0)
theorem E38_ok : FnOk D PP E38 := fdS_ok lw fd38 (l := h38) (by kernel_rfl) (.cons E78_ok (.cons E79_ok (.cons E80_ok .nil))) Tryz.func38 (by kernel_rfl) (by kernel_rfl) (by kernel_rfl) (enters_of (c := bodyF Tryz.f38) Tryz.func38 (by kernel_rfl) (by kernel_rfl)) (by kernel_rfl) (by kernel_rfl)
/-- math/bits.Mul64 -/
noncomputable def fd137 : FD := ⟨137, bodyF Tryz.f137, Tryz.f137.results.toList, Tryz.f137.ntmps, [.val, .val], [.v (.int .u64), .v (.int .u64)], [.v (.int .u64), .v (.int .u64)], 2, [], 5000, none⟩
noncomputable def h137 : List (En D) := []
noncomputable def G137 : YR D [.v (.int .u64), .v (.int .u64)] → Option (YR D [.v (.int .u64), .v (.int .u64)]) := sealF (Gof D fd137 (tabH D h137))
noncomputable def E137 : En D := ⟨137, [.val, .val], [.v (.int .u64), .v (.int .u64)], [.v (.int .u64), .v (.int .u64)], 2, G137⟩
noncomputable def F137 (x0 : Int) (x1 : Int) : Option (Int × Int) := G137 (x0, x1)
theorem E137_ok : FnOk D PP E137 := fdS_ok lw fd137 (l := h137) (by kernel_rfl) (.nil) Tryz.func137 (by kernel_rfl) (by kernel_rfl) (by kernel_rfl) (enters_of (c := bodyF Tryz.f137) Tryz.func137 (by kernel_rfl) (by kernel_rfl)) (by kernel_rfl) (by kernel_rfl)
/-- wide.Mul -/
noncomputable def fd129 : FD := ⟨129, bodyF Tryz.f129, Tryz.f129.results.toList, Tryz.f129.ntmps, [.val, .val], [.v (.int .u64), .v (.int .u64)], [.v (.st 5)], 1, [], 5000, none⟩
noncomputable def h129 : List (En D) := [E137]
noncomputable def G129 : YR D [.v (.int .u64), .v (.int .u64)] → Option (YR D [.v (.st 5)]) := sealF (Gof D fd129 (tabH D h129))
noncomputable def E129 : En D := ⟨129, [.val, .val], [.v (.int .u64), .v (.int .u64)], [.v (.st 5)], 1, G129⟩
noncomputable def F129 (x0 : Int) (x1 : Int) : Option (S117) := G129 (x0, x1)
theorem E129_ok : FnOk D PP E129 := fdS_ok lw fd129 (l := h129) (by kernel_rfl) (.cons E137_ok .nil) Tryz.func129 (by kernel_rfl) (by kernel_rfl) (by kernel_rfl) (enters_of (c := bodyF Tryz.f129) Tryz.func129 (by kernel_rfl) (by kernel_rfl)) (by kernel_rfl) (by kernel_rfl)
/-- ratio.times -/
noncomputable def fd111 : FD := ⟨111, bodyF Tryz.f111, Tryz.f111.results.toList, Tryz.f111.ntmps, [.val, .val], [.v (.int .i64), .v (.int .i64)], [.v (.st 6)], 1, [], 5000, none⟩
noncomputable def h111 : List (En D) := [E80, E129]
noncomputable def G111 : YR D [.v (.int .i64), .v (.int .i64)] → Option (YR D [.v (.st 6)]) := sealF (Gof D fd111 (tabH D h111))
noncomputable def E111 : En D := ⟨111, [.val, .val], [.v (.int .i64), .v (.int .i64)], [.v (.st 6)], 1, G111⟩
noncomputable def F111 (x0 : Int) (x1 : Int) : Option (S147) := G111 (x0, x1)
theorem E111_ok : FnOk D PP E111 := fdS_ok lw fd111 (l := h111) (by kernel_rfl) (.cons E80_ok (.cons E129_ok .nil)) Tryz.func111 (by kernel_rfl) (by kernel_rfl) (by kernel_rfl) (enters_of (c := bodyF Tryz.f111) Tryz.func111 (by kernel_rfl) (by kernel_rfl)) (by kernel_rfl) (by kernel_rfl)
/-- ratio.Cmp -/
def c82_0 : Cut := ⟨7, [.box 2 2 (.st 1) 0 [], .box 3 3 (.st 1) 0 []]⟩
def c82_1 : Cut := ⟨243, [.box 2 2 (.st 1) 0 [], .box 3 3 (.st 1) 0 [], .box 6 6 (.st 6) 0 [], .box 7 7 (.st 6) 0 []]⟩
def c82_2 : Cut := ⟨975, [.box 2 2 (.st 1) 0 [], .box 3 3 (.st 1) 0 [], .box 6 6 (.st 6) 0 [], .box 7 7 (.st 6) 0 []]⟩
def c82_3 : Cut := ⟨3903, [.box 2 2 (.st 1) 0 [], .box 6 6 (.st 6) 0 [], .box 7 7 (.st 6) 0 []]⟩
noncomputable def fd82 : FD := ⟨82, bodyF Tryz.f82, Tryz.f82.results.toList, Tryz.f82.ntmps, [.val, .val], [.v (.st 1), .v (.st 1)], [.v (.int .i64), .v (.int .i64)], 2, [c82_0, c82_1, c82_2, c82_3], 5000, none⟩
noncomputable def h82 : List (En D) := [E38, E106, E111]
noncomputable def G82 : YR D [.v (.st 1), .v (.st 1)] → Option (YR D [.v (.int .i64), .v (.int .i64)]) := sealF (Gof D fd82 (tabH D h82))
noncomputable def E82 : En D := ⟨82, [.val, .val], [.v (.st 1), .v (.st 1)], [.v (.int .i64), .v (.int .i64)], 2, G82⟩
noncomputable def F82 (x0 : S24) (x1 : S24) : Option (Int × Int) := G82 (x0, x1)
noncomputable def L82 : LL D (YR D fd82.ts) := sealF (LiF D fd82 (tabH D h82))
noncomputable def L82_0 (v2 : S24) (v3 : S24) : Option (Int × Int) := L82 c82_0 (v2, v3, ())
noncomputable def L82_1 (v2 : S24) (v3 : S24) (v6 : S147) (v7 : S147) : Option (Int × Int) := L82 c82_1 (v2, v3, v6, v7, ())
noncomputable def L82_2 (v2 : S24) (v3 : S24) (v6 : S147) (v7 : S147) : Option (Int × Int) := L82 c82_2 (v2, v3, v6, v7, ())
noncomputable def L82_3 (v2 : S24) (v6 : S147) (v7 : S147) : Option (Int × Int) := L82 c82_3 (v2, v6, v7, ())
theorem E82_ok : FnOk D PP E82 := fdS_ok lw fd82 (l := h82) (by kernel_rfl) (.cons E38_ok (.cons E106_ok (.cons E111_ok .nil))) Tryz.func82 (by kernel_rfl) (by kernel_rfl) (by kernel_rfl) (enters_of (c := bodyF Tryz.f82) Tryz.func82 (by kernel_rfl) (by kernel_rfl)) (by kernel_rfl) (by kernel_rfl)
/-- poly.Degree -/
noncomputable def fd83 : FD := ⟨83, bodyF Tryz.f83, Tryz.f83.results.toList, Tryz.f83.ntmps, [.val], [.v (.sl (.st 0))], [.v (.int .i64)], 1, [], 5000, none⟩
noncomputable def h83 : List (En D) := [E52]
noncomputable def G83 : YR D [.v (.sl (.st 0))] → Option (YR D [.v (.int .i64)]) := sealF (Gof D fd83 (tabH D h83))
noncomputable def E83 : En D := ⟨83, [.val], [.v (.sl (.st 0))], [.v (.int .i64)], 1, G83⟩
noncomputable def F83 (x0 : List S60) : Option (Int) := G83 (x0)
theorem E83_ok : FnOk D PP E83 := fdS_ok lw fd83 (l := h83) (by kernel_rfl) (.cons E52_ok .nil) Tryz.func83 (by kernel_rfl) (by kernel_rfl) (by kernel_rfl) (enters_of (c := bodyF Tryz.f83) Tryz.func83 (by kernel_rfl) (by kernel_rfl)) (by kernel_rfl) (by kernel_rfl)
/-- sturm.asked -/
def c43_0 : Cut := ⟨7, [.v 0 (.sl (.st 0))]⟩
noncomputable def fd43 : FD := ⟨43, bodyF Tryz.f43, Tryz.f43.results.toList, Tryz.f43.ntmps, [.val, .val, .val], [.v (.sl (.st 0)), .v (.st 1), .v (.st 1)], [.v (.int .i64)], 1, [c43_0], 5000, none⟩
noncomputable def h43 : List (En D) := [E82, E83]
noncomputable def G43 : YR D [.v (.sl (.st 0)), .v (.st 1), .v (.st 1)] → Option (YR D [.v (.int .i64)]) := sealF (Gof D fd43 (tabH D h43))
noncomputable def E43 : En D := ⟨43, [.val, .val, .val], [.v (.sl (.st 0)), .v (.st 1), .v (.st 1)], [.v (.int .i64)], 1, G43⟩
noncomputable def F43 (x0 : List S60) (x1 : S24) (x2 : S24) : Option (Int) := G43 (x0, x1, x2)
noncomputable def L43 : LL D (YR D fd43.ts) := sealF (LiF D fd43 (tabH D h43))
noncomputable def L43_0 (v0 : List S60) : Option (Int) := L43 c43_0 (v0, ())
theorem E43_ok : FnOk D PP E43 := fdS_ok lw fd43 (l := h43) (by kernel_rfl) (.cons E82_ok (.cons E83_ok .nil)) Tryz.func43 (by kernel_rfl) (by kernel_rfl) (by kernel_rfl) (enters_of (c := bodyF Tryz.f43) Tryz.func43 (by kernel_rfl) (by kernel_rfl)) (by kernel_rfl) (by kernel_rfl)
/-- poly.at -/
noncomputable def fd70 : FD := ⟨70, bodyF Tryz.f70, Tryz.f70.results.toList, Tryz.f70.ntmps, [.val, .val], [.v (.sl (.st 0)), .v (.int .i64)], [.v (.st 0)], 1, [], 5000, none⟩
noncomputable def h70 : List (En D) := []
noncomputable def G70 : YR D [.v (.sl (.st 0)), .v (.int .i64)] → Option (YR D [.v (.st 0)]) := sealF (Gof D fd70 (tabH D h70))
noncomputable def E70 : En D := ⟨70, [.val, .val], [.v (.sl (.st 0)), .v (.int .i64)], [.v (.st 0)], 1, G70⟩
noncomputable def F70 (x0 : List S60) (x1 : Int) : Option (S60) := G70 (x0, x1)
theorem E70_ok : FnOk D PP E70 := fdS_ok lw fd70 (l := h70) (by kernel_rfl) (.nil) Tryz.func70 (by kernel_rfl) (by kernel_rfl) (by kernel_rfl) (enters_of (c := bodyF Tryz.f70) Tryz.func70 (by kernel_rfl) (by kernel_rfl)) (by kernel_rfl) (by kernel_rfl)
/-- big.at -/
noncomputable def fd116 : FD := ⟨116, bodyF Tryz.f116, Tryz.f116.results.toList, Tryz.f116.ntmps, [.val, .val], [.v (.sl (.int .u32)), .v (.int .i64)], [.v (.int .u64)], 1, [], 5000, none⟩
noncomputable def h116 : List (En D) := []
noncomputable def G116 : YR D [.v (.sl (.int .u32)), .v (.int .i64)] → Option (YR D [.v (.int .u64)]) := sealF (Gof D fd116 (tabH D h116))
noncomputable def E116 : En D := ⟨116, [.val, .val], [.v (.sl (.int .u32)), .v (.int .i64)], [.v (.int .u64)], 1, G116⟩
noncomputable def F116 (x0 : List Int) (x1 : Int) : Option (Int) := G116 (x0, x1)
theorem E116_ok : FnOk D PP E116 := fdS_ok lw fd116 (l := h116) (by kernel_rfl) (.nil) Tryz.func116 (by kernel_rfl) (by kernel_rfl) (by kernel_rfl) (enters_of (c := bodyF Tryz.f116) Tryz.func116 (by kernel_rfl) (by kernel_rfl)) (by kernel_rfl) (by kernel_rfl)
/-- big.plus -/
def c97_0 : Cut := ⟨500, [.v 0 (.sl (.int .u32)), .v 1 (.sl (.int .u32)), .own 6 (.int .u32), .v 7 (.int .u64), .v 20 (.int .i64), .v 21 (.int .i64)]⟩
noncomputable def fd97 : FD := ⟨97, bodyF Tryz.f97, Tryz.f97.results.toList, Tryz.f97.ntmps, [.val, .val], [.v (.sl (.int .u32)), .v (.sl (.int .u32))], [.v (.sl (.int .u32))], 1, [c97_0], 5000, none⟩
noncomputable def h97 : List (En D) := [E116]
noncomputable def G97 : YR D [.v (.sl (.int .u32)), .v (.sl (.int .u32))] → Option (YR D [.v (.sl (.int .u32))]) := sealF (Gof D fd97 (tabH D h97))
noncomputable def E97 : En D := ⟨97, [.val, .val], [.v (.sl (.int .u32)), .v (.sl (.int .u32))], [.v (.sl (.int .u32))], 1, G97⟩
noncomputable def F97 (x0 : List Int) (x1 : List Int) : Option (List Int) := G97 (x0, x1)
noncomputable def L97 : LL D (YR D fd97.ts) := sealF (LiF D fd97 (tabH D h97))
noncomputable def L97_0 (v0 : List Int) (v1 : List Int) (v6 : List Int) (v7 : Int) (v20 : Int) (v21 : Int) : Option (List Int) := L97 c97_0 (v0, v1, v6, v7, v20, v21, ())
theorem E97_ok : FnOk D PP E97 := fdS_ok lw fd97 (l := h97) (by kernel_rfl) (.cons E116_ok .nil) Tryz.func97 (by kernel_rfl) (by kernel_rfl) (by kernel_rfl) (enters_of (c := bodyF Tryz.f97) Tryz.func97 (by kernel_rfl) (by kernel_rfl)) (by kernel_rfl) (by kernel_rfl)
/-- cmp.isNaN[int] -/
noncomputable def fd131 : FD := ⟨131, bodyF Tryz.f131, Tryz.f131.results.toList, Tryz.f131.ntmps, [.val], [.v (.int .i64)], [.v (.bool)], 1, [], 5000, none⟩
noncomputable def h131 : List (En D) := []
noncomputable def G131 : YR D [.v (.int .i64)] → Option (YR D [.v (.bool)]) := sealF (Gof D fd131 (tabH D h131))
noncomputable def E131 : En D := ⟨131, [.val], [.v (.int .i64)], [.v (.bool)], 1, G131⟩
noncomputable def F131 (x0 : Int) : Option (Bool) := G131 (x0)
theorem E131_ok : FnOk D PP E131 := fdS_ok lw fd131 (l := h131) (by kernel_rfl) (.nil) Tryz.func131 (by kernel_rfl) (by kernel_rfl) (by kernel_rfl) (enters_of (c := bodyF Tryz.f131) Tryz.func131 (by kernel_rfl) (by kernel_rfl)) (by kernel_rfl) (by kernel_rfl)
/-- cmp.Compare[int] -/
noncomputable def fd117 : FD := ⟨117, bodyF Tryz.f117, Tryz.f117.results.toList, Tryz.f117.ntmps, [.val, .val], [.v (.int .i64), .v (.int .i64)], [.v (.int .i64)], 1, [], 5000, none⟩
noncomputable def h117 : List (En D) := [E131]
noncomputable def G117 : YR D [.v (.int .i64), .v (.int .i64)] → Option (YR D [.v (.int .i64)]) := sealF (Gof D fd117 (tabH D h117))
noncomputable def E117 : En D := ⟨117, [.val, .val], [.v (.int .i64), .v (.int .i64)], [.v (.int .i64)], 1, G117⟩
noncomputable def F117 (x0 : Int) (x1 : Int) : Option (Int) := G117 (x0, x1)
theorem E117_ok : FnOk D PP E117 := fdS_ok lw fd117 (l := h117) (by kernel_rfl) (.cons E131_ok .nil) Tryz.func117 (by kernel_rfl) (by kernel_rfl) (by kernel_rfl) (enters_of (c := bodyF Tryz.f117) Tryz.func117 (by kernel_rfl) (by kernel_rfl)) (by kernel_rfl) (by kernel_rfl)
/-- cmp.isNaN[uint32] -/
noncomputable def fd132 : FD := ⟨132, bodyF Tryz.f132, Tryz.f132.results.toList, Tryz.f132.ntmps, [.val], [.v (.int .u32)], [.v (.bool)], 1, [], 5000, none⟩
noncomputable def h132 : List (En D) := []
noncomputable def G132 : YR D [.v (.int .u32)] → Option (YR D [.v (.bool)]) := sealF (Gof D fd132 (tabH D h132))
noncomputable def E132 : En D := ⟨132, [.val], [.v (.int .u32)], [.v (.bool)], 1, G132⟩
noncomputable def F132 (x0 : Int) : Option (Bool) := G132 (x0)
theorem E132_ok : FnOk D PP E132 := fdS_ok lw fd132 (l := h132) (by kernel_rfl) (.nil) Tryz.func132 (by kernel_rfl) (by kernel_rfl) (by kernel_rfl) (enters_of (c := bodyF Tryz.f132) Tryz.func132 (by kernel_rfl) (by kernel_rfl)) (by kernel_rfl) (by kernel_rfl)
/-- cmp.Compare[uint32] -/
noncomputable def fd118 : FD := ⟨118, bodyF Tryz.f118, Tryz.f118.results.toList, Tryz.f118.ntmps, [.val, .val], [.v (.int .u32), .v (.int .u32)], [.v (.int .i64)], 1, [], 5000, none⟩
noncomputable def h118 : List (En D) := [E132]
noncomputable def G118 : YR D [.v (.int .u32), .v (.int .u32)] → Option (YR D [.v (.int .i64)]) := sealF (Gof D fd118 (tabH D h118))
noncomputable def E118 : En D := ⟨118, [.val, .val], [.v (.int .u32), .v (.int .u32)], [.v (.int .i64)], 1, G118⟩
noncomputable def F118 (x0 : Int) (x1 : Int) : Option (Int) := G118 (x0, x1)
theorem E118_ok : FnOk D PP E118 := fdS_ok lw fd118 (l := h118) (by kernel_rfl) (.cons E132_ok .nil) Tryz.func118 (by kernel_rfl) (by kernel_rfl) (by kernel_rfl) (enters_of (c := bodyF Tryz.f118) Tryz.func118 (by kernel_rfl) (by kernel_rfl)) (by kernel_rfl) (by kernel_rfl)
/-- big.against -/
def c98_0 : Cut := ⟨116, [.v 0 (.sl (.int .u32)), .v 1 (.sl (.int .u32)), .v 6 (.int .i64)]⟩
noncomputable def fd98 : FD := ⟨98, bodyF Tryz.f98, Tryz.f98.results.toList, Tryz.f98.ntmps, [.val, .val], [.v (.sl (.int .u32)), .v (.sl (.int .u32))], [.v (.int .i64)], 1, [c98_0], 5000, none⟩
noncomputable def h98 : List (En D) := [E117, E118]
noncomputable def G98 : YR D [.v (.sl (.int .u32)), .v (.sl (.int .u32))] → Option (YR D [.v (.int .i64)]) := sealF (Gof D fd98 (tabH D h98))
noncomputable def E98 : En D := ⟨98, [.val, .val], [.v (.sl (.int .u32)), .v (.sl (.int .u32))], [.v (.int .i64)], 1, G98⟩
noncomputable def F98 (x0 : List Int) (x1 : List Int) : Option (Int) := G98 (x0, x1)
noncomputable def L98 : LL D (YR D fd98.ts) := sealF (LiF D fd98 (tabH D h98))
noncomputable def L98_0 (v0 : List Int) (v1 : List Int) (v6 : Int) : Option (Int) := L98 c98_0 (v0, v1, v6, ())
theorem E98_ok : FnOk D PP E98 := fdS_ok lw fd98 (l := h98) (by kernel_rfl) (.cons E117_ok (.cons E118_ok .nil)) Tryz.func98 (by kernel_rfl) (by kernel_rfl) (by kernel_rfl) (enters_of (c := bodyF Tryz.f98) Tryz.func98 (by kernel_rfl) (by kernel_rfl)) (by kernel_rfl) (by kernel_rfl)
/-- big.minus -/
def c99_0 : Cut := ⟨244, [.v 0 (.sl (.int .u32)), .v 1 (.sl (.int .u32)), .own 5 (.int .u32), .v 6 (.int .u64), .v 13 (.int .i64), .v 14 (.int .i64)]⟩
noncomputable def fd99 : FD := ⟨99, bodyF Tryz.f99, Tryz.f99.results.toList, Tryz.f99.ntmps, [.val, .val], [.v (.sl (.int .u32)), .v (.sl (.int .u32))], [.v (.sl (.int .u32))], 1, [c99_0], 5000, none⟩
noncomputable def h99 : List (En D) := [E116]
noncomputable def G99 : YR D [.v (.sl (.int .u32)), .v (.sl (.int .u32))] → Option (YR D [.v (.sl (.int .u32))]) := sealF (Gof D fd99 (tabH D h99))
noncomputable def E99 : En D := ⟨99, [.val, .val], [.v (.sl (.int .u32)), .v (.sl (.int .u32))], [.v (.sl (.int .u32))], 1, G99⟩
noncomputable def F99 (x0 : List Int) (x1 : List Int) : Option (List Int) := G99 (x0, x1)
noncomputable def L99 : LL D (YR D fd99.ts) := sealF (LiF D fd99 (tabH D h99))
noncomputable def L99_0 (v0 : List Int) (v1 : List Int) (v5 : List Int) (v6 : Int) (v13 : Int) (v14 : Int) : Option (List Int) := L99 c99_0 (v0, v1, v5, v6, v13, v14, ())
theorem E99_ok : FnOk D PP E99 := fdS_ok lw fd99 (l := h99) (by kernel_rfl) (.cons E116_ok .nil) Tryz.func99 (by kernel_rfl) (by kernel_rfl) (by kernel_rfl) (enters_of (c := bodyF Tryz.f99) Tryz.func99 (by kernel_rfl) (by kernel_rfl)) (by kernel_rfl) (by kernel_rfl)
/-- big.Add -/
noncomputable def fd56 : FD := ⟨56, bodyF Tryz.f56, Tryz.f56.results.toList, Tryz.f56.ntmps, [.val, .val], [.v (.st 0), .v (.st 0)], [.v (.st 0)], 1, [], 5000, none⟩
noncomputable def h56 : List (En D) := [E95, E96, E97, E98, E99]
noncomputable def G56 : YR D [.v (.st 0), .v (.st 0)] → Option (YR D [.v (.st 0)]) := sealF (Gof D fd56 (tabH D h56))
noncomputable def E56 : En D := ⟨56, [.val, .val], [.v (.st 0), .v (.st 0)], [.v (.st 0)], 1, G56⟩
noncomputable def F56 (x0 : S60) (x1 : S60) : Option (S60) := G56 (x0, x1)
theorem E56_ok : FnOk D PP E56 := fdS_ok lw fd56 (l := h56) (by kernel_rfl) (.cons E95_ok (.cons E96_ok (.cons E97_ok (.cons E98_ok (.cons E99_ok .nil))))) Tryz.func56 (by kernel_rfl) (by kernel_rfl) (by kernel_rfl) (enters_of (c := bodyF Tryz.f56) Tryz.func56 (by kernel_rfl) (by kernel_rfl)) (by kernel_rfl) (by kernel_rfl)
/-- poly.each(big.Add) -/
def c65056_0 : Cut := ⟨116, [.v 0 (.sl (.st 0)), .v 1 (.sl (.st 0)), .fn 2 56, .own 7 (.st 0), .v 13 (.int .i64), .v 14 (.int .i64)]⟩
noncomputable def fd65056 : FD := ⟨65, bodyF Tryz.f65, Tryz.f65.results.toList, Tryz.f65.ntmps, [.val, .val, .val], [.v (.sl (.st 0)), .v (.sl (.st 0)), .fc 56], [.v (.sl (.st 0))], 1, [c65056_0], 5000, none⟩
noncomputable def h65056 : List (En D) := [E52, E56, E70]
noncomputable def G65056 : YR D [.v (.sl (.st 0)), .v (.sl (.st 0)), .fc 56] → Option (YR D [.v (.sl (.st 0))]) := sealF (Gof D fd65056 (tabH D h65056))
noncomputable def E65056 : En D := ⟨65, [.val, .val, .val], [.v (.sl (.st 0)), .v (.sl (.st 0)), .fc 56], [.v (.sl (.st 0))], 1, G65056⟩
noncomputable def F65056 (x0 : List S60) (x1 : List S60) (x2 : Unit) : Option (List S60) := G65056 (x0, x1, x2)
noncomputable def L65056 : LL D (YR D fd65056.ts) := sealF (LiF D fd65056 (tabH D h65056))
noncomputable def L65056_0 (v0 : List S60) (v1 : List S60) (v7 : List S60) (v13 : Int) (v14 : Int) : Option (List S60) := L65056 c65056_0 (v0, v1, v7, v13, v14, ())
theorem E65056_ok : FnOk D PP E65056 := fdS_ok lw fd65056 (l := h65056) (by kernel_rfl) (.cons E52_ok (.cons E56_ok (.cons E70_ok .nil))) Tryz.func65 (by kernel_rfl) (by kernel_rfl) (by kernel_rfl) (enters_of (c := bodyF Tryz.f65) Tryz.func65 (by kernel_rfl) (by kernel_rfl)) (by kernel_rfl) (by kernel_rfl)
/-- poly.Add -/
noncomputable def fd29 : FD := ⟨29, bodyF Tryz.f29, Tryz.f29.results.toList, Tryz.f29.ntmps, [.val, .val], [.v (.sl (.st 0)), .v (.sl (.st 0))], [.v (.sl (.st 0))], 1, [], 5000, none⟩
noncomputable def h29 : List (En D) := [E65056]
noncomputable def G29 : YR D [.v (.sl (.st 0)), .v (.sl (.st 0))] → Option (YR D [.v (.sl (.st 0))]) := sealF (Gof D fd29 (tabH D h29))
noncomputable def E29 : En D := ⟨29, [.val, .val], [.v (.sl (.st 0)), .v (.sl (.st 0))], [.v (.sl (.st 0))], 1, G29⟩
noncomputable def F29 (x0 : List S60) (x1 : List S60) : Option (List S60) := G29 (x0, x1)
theorem E29_ok : FnOk D PP E29 := fdS_ok lw fd29 (l := h29) (by kernel_rfl) (.cons E65056_ok .nil) Tryz.func29 (by kernel_rfl) (by kernel_rfl) (by kernel_rfl) (enters_of (c := bodyF Tryz.f29) Tryz.func29 (by kernel_rfl) (by kernel_rfl)) (by kernel_rfl) (by kernel_rfl)
/-- big.Mul -/
def c57_0 : Cut := ⟨116, [.box 2 2 (.st 0) 0 [], .box 3 3 (.st 0) 0 [], .box 4 4 (.st 0) 0 [], .own 5 (.int .u32), .v 21 (.sl (.int .u32)), .v 22 (.int .i64), .v 23 (.int .i64)]⟩
def c57_1 : Cut := ⟨119604, [.box 2 2 (.st 0) 0 [], .box 3 3 (.st 0) 0 [], .box 4 4 (.st 0) 0 [], .own 5 (.int .u32), .v 6 (.int .i64), .v 7 (.int .u32), .v 8 (.int .u64), .v 21 (.sl (.int .u32)), .v 22 (.int .i64), .v 23 (.int .i64), .v 29 (.sl (.int .u32)), .v 30 (.int .i64), .v 31 (.int .i64)]⟩
noncomputable def fd57 : FD := ⟨57, bodyF Tryz.f57, Tryz.f57.results.toList, Tryz.f57.ntmps, [.val, .val], [.v (.st 0), .v (.st 0)], [.v (.st 0)], 1, [c57_0, c57_1], 5000, none⟩
noncomputable def h57 : List (En D) := [E95]
noncomputable def G57 : YR D [.v (.st 0), .v (.st 0)] → Option (YR D [.v (.st 0)]) := sealF (Gof D fd57 (tabH D h57))
noncomputable def E57 : En D := ⟨57, [.val, .val], [.v (.st 0), .v (.st 0)], [.v (.st 0)], 1, G57⟩
noncomputable def F57 (x0 : S60) (x1 : S60) : Option (S60) := G57 (x0, x1)
noncomputable def L57 : LL D (YR D fd57.ts) := sealF (LiF D fd57 (tabH D h57))
noncomputable def L57_0 (v2 : S60) (v3 : S60) (v4 : S60) (v5 : List Int) (v21 : List Int) (v22 : Int) (v23 : Int) : Option (S60) := L57 c57_0 (v2, v3, v4, v5, v21, v22, v23, ())
noncomputable def L57_1 (v2 : S60) (v3 : S60) (v4 : S60) (v5 : List Int) (v6 : Int) (v7 : Int) (v8 : Int) (v21 : List Int) (v22 : Int) (v23 : Int) (v29 : List Int) (v30 : Int) (v31 : Int) : Option (S60) := L57 c57_1 (v2, v3, v4, v5, v6, v7, v8, v21, v22, v23, v29, v30, v31, ())
theorem E57_ok : FnOk D PP E57 := fdS_ok lw fd57 (l := h57) (by kernel_rfl) (.cons E95_ok .nil) Tryz.func57 (by kernel_rfl) (by kernel_rfl) (by kernel_rfl) (enters_of (c := bodyF Tryz.f57) Tryz.func57 (by kernel_rfl) (by kernel_rfl)) (by kernel_rfl) (by kernel_rfl)
/-- poly.value -/
def c61_0 : Cut := ⟨500, [.v 0 (.sl (.st 0)), .box 4 4 (.st 0) 0 [], .box 5 5 (.st 0) 0 [], .box 6 6 (.st 0) 0 [], .box 7 7 (.st 0) 0 [], .box 8 8 (.st 0) 0 [], .v 9 (.int .i64)]⟩
noncomputable def fd61 : FD := ⟨61, bodyF Tryz.f61, Tryz.f61.results.toList, Tryz.f61.ntmps, [.val, .val], [.v (.sl (.st 0)), .v (.st 1)], [.v (.st 0)], 1, [c61_0], 5000, none⟩
noncomputable def h61 : List (En D) := [E51, E52, E56, E57]
noncomputable def G61 : YR D [.v (.sl (.st 0)), .v (.st 1)] → Option (YR D [.v (.st 0)]) := sealF (Gof D fd61 (tabH D h61))
noncomputable def E61 : En D := ⟨61, [.val, .val], [.v (.sl (.st 0)), .v (.st 1)], [.v (.st 0)], 1, G61⟩
noncomputable def F61 (x0 : List S60) (x1 : S24) : Option (S60) := G61 (x0, x1)
noncomputable def L61 : LL D (YR D fd61.ts) := sealF (LiF D fd61 (tabH D h61))
noncomputable def L61_0 (v0 : List S60) (v4 : S60) (v5 : S60) (v6 : S60) (v7 : S60) (v8 : S60) (v9 : Int) : Option (S60) := L61 c61_0 (v0, v4, v5, v6, v7, v8, v9, ())
theorem E61_ok : FnOk D PP E61 := fdS_ok lw fd61 (l := h61) (by kernel_rfl) (.cons E51_ok (.cons E52_ok (.cons E56_ok (.cons E57_ok .nil)))) Tryz.func61 (by kernel_rfl) (by kernel_rfl) (by kernel_rfl) (enters_of (c := bodyF Tryz.f61) Tryz.func61 (by kernel_rfl) (by kernel_rfl)) (by kernel_rfl) (by kernel_rfl)
/-- slices.Clone[[]uint32,uint32] -/
noncomputable def fd103 : FD := ⟨103, bodyF Tryz.f103, Tryz.f103.results.toList, Tryz.f103.ntmps, [.val], [.v (.sl (.int .u32))], [.v (.sl (.int .u32))], 1, [], 5000, some ⟨[.val], [(0, none)]⟩⟩
noncomputable def G103 : YR D [.v (.sl (.int .u32))] → Option (YR D [.v (.sl (.int .u32))]) := sealF fun x => grd (fit (0 + x.length) 4) (some x)
noncomputable def E103 : En D := ⟨103, [.val], [.v (.sl (.int .u32))], [.v (.sl (.int .u32))], 1, G103⟩
noncomputable def F103 (x0 : List Int) : Option (List Int) := G103 (x0)
theorem F103_eq (x0 : List Int) : F103 x0 = grd (fit (0 + x0.length) 4) (some x0) := congrFun (sealF_eq _) x0
theorem E103_ok : FnOk D PP E103 := by
  refine FnX.ok (xm := ⟨[.val], [(0, none)]⟩) (FnX.rows (t := .int .u32) (fun y hy => ?_) (fun y hy => ?_) (fun a l y hy => ?_)) (by kernel_rfl)
  · obtain rfl : [] = y := Option.some.inj ((show some [] = grd (fit (0 + 0) 4) (some []) by kernel_rfl).trans hy)
    exact fdSX lw fd103 Tryz.func103 (by kernel_rfl) (by kernel_rfl) (by kernel_rfl) (enters_of (c := bodyF Tryz.f103) Tryz.func103 (by kernel_rfl) (by kernel_rfl)) (by kernel_rfl) rfl (by kernel_rfl)
  · obtain rfl : [] = y := Option.some.inj ((show some [] = grd (fit (0 + 0) 4) (some []) by kernel_rfl).trans hy)
    exact fdSX lw fd103 Tryz.func103 (by kernel_rfl) (by kernel_rfl) (by kernel_rfl) (enters_of (c := bodyF Tryz.f103) Tryz.func103 (by kernel_rfl) (by kernel_rfl)) (by kernel_rfl) rfl (by kernel_rfl)
  · exact fdSX lw fd103 Tryz.func103 (by kernel_rfl) (by kernel_rfl) (by kernel_rfl) (enters_of (c := bodyF Tryz.f103) Tryz.func103 (by kernel_rfl) (by kernel_rfl)) (by kernel_rfl) rfl ((show entW D fd103 (tabH D []) (LiF D fd103 (tabH D [])) [.c (.lst (.int .u32) (a :: l))] = grd (fit (0 + (a :: l).length) 4) (some (a :: l)) by kernel_rfl).trans hy)
/-- big.size -/
noncomputable def fd139 : FD := ⟨139, bodyF Tryz.f139, Tryz.f139.results.toList, Tryz.f139.ntmps, [.val], [.v (.int .i64)], [.v (.int .u64)], 1, [], 5000, none⟩
noncomputable def h139 : List (En D) := []
noncomputable def G139 : YR D [.v (.int .i64)] → Option (YR D [.v (.int .u64)]) := sealF (Gof D fd139 (tabH D h139))
noncomputable def E139 : En D := ⟨139, [.val], [.v (.int .i64)], [.v (.int .u64)], 1, G139⟩
noncomputable def F139 (x0 : Int) : Option (Int) := G139 (x0)
theorem E139_ok : FnOk D PP E139 := fdS_ok lw fd139 (l := h139) (by kernel_rfl) (.nil) Tryz.func139 (by kernel_rfl) (by kernel_rfl) (by kernel_rfl) (enters_of (c := bodyF Tryz.f139) Tryz.func139 (by kernel_rfl) (by kernel_rfl)) (by kernel_rfl) (by kernel_rfl)
/-- math/bits.LeadingZeros64 -/
noncomputable def fd143 : FD := ⟨143, bodyF Tryz.f143, Tryz.f143.results.toList, Tryz.f143.ntmps, [.val], [.v (.int .u64)], [.v (.int .i64)], 1, [], 5000, none⟩
noncomputable def h143 : List (En D) := [E135]
noncomputable def G143 : YR D [.v (.int .u64)] → Option (YR D [.v (.int .i64)]) := sealF (Gof D fd143 (tabH D h143))
noncomputable def E143 : En D := ⟨143, [.val], [.v (.int .u64)], [.v (.int .i64)], 1, G143⟩
noncomputable def F143 (x0 : Int) : Option (Int) := G143 (x0)
theorem E143_ok : FnOk D PP E143 := fdS_ok lw fd143 (l := h143) (by kernel_rfl) (.cons E135_ok .nil) Tryz.func143 (by kernel_rfl) (by kernel_rfl) (by kernel_rfl) (enters_of (c := bodyF Tryz.f143) Tryz.func143 (by kernel_rfl) (by kernel_rfl)) (by kernel_rfl) (by kernel_rfl)
/-- math/bits.Div64 -/
def c138_0 : Cut := ⟨7, [.v 0 (.int .u64), .v 1 (.int .u64), .v 2 (.int .u64)]⟩
def c138_1 : Cut := ⟨15, [.v 0 (.int .u64), .v 1 (.int .u64), .v 2 (.int .u64)]⟩
def c138_2 : Cut := ⟨65535, [.v 2 (.int .u64), .v 8 (.int .u64), .v 9 (.int .u64), .v 10 (.int .u64), .v 11 (.int .u64), .v 13 (.int .u64), .v 14 (.int .u64), .v 15 (.int .u64)]⟩
def c138_3 : Cut := ⟨262136, [.v 2 (.int .u64), .v 8 (.int .u64), .v 9 (.int .u64), .v 10 (.int .u64), .v 11 (.int .u64), .v 13 (.int .u64), .v 14 (.int .u64), .v 15 (.int .u64), .v 16 (.int .u64)]⟩
def c138_4 : Cut := ⟨524273, [.v 2 (.int .u64), .v 8 (.int .u64), .v 9 (.int .u64), .v 10 (.int .u64), .v 11 (.int .u64), .v 13 (.int .u64), .v 14 (.int .u64), .v 15 (.int .u64), .v 16 (.int .u64)]⟩
def c138_5 : Cut := ⟨1048575, [.v 2 (.int .u64), .v 8 (.int .u64), .v 14 (.int .u64), .v 15 (.int .u64), .v 17 (.int .u64), .v 18 (.int .u64)]⟩
def c138_6 : Cut := ⟨4194296, [.v 2 (.int .u64), .v 8 (.int .u64), .v 9 (.int .u64), .v 10 (.int .u64), .v 14 (.int .u64), .v 15 (.int .u64), .v 16 (.int .u64), .v 17 (.int .u64), .v 18 (.int .u64)]⟩
def c138_7 : Cut := ⟨8388593, [.v 2 (.int .u64), .v 8 (.int .u64), .v 9 (.int .u64), .v 10 (.int .u64), .v 14 (.int .u64), .v 15 (.int .u64), .v 16 (.int .u64), .v 17 (.int .u64), .v 18 (.int .u64)]⟩
noncomputable def fd138 : FD := ⟨138, bodyF Tryz.f138, Tryz.f138.results.toList, Tryz.f138.ntmps, [.val, .val, .val], [.v (.int .u64), .v (.int .u64), .v (.int .u64)], [.v (.int .u64), .v (.int .u64)], 2, [c138_0, c138_1, c138_2, c138_3, c138_4, c138_5, c138_6, c138_7], 5000, none⟩
noncomputable def h138 : List (En D) := [E143]
noncomputable def G138 : YR D [.v (.int .u64), .v (.int .u64), .v (.int .u64)] → Option (YR D [.v (.int .u64), .v (.int .u64)]) := sealF (Gof D fd138 (tabH D h138))
noncomputable def E138 : En D := ⟨138, [.val, .val, .val], [.v (.int .u64), .v (.int .u64), .v (.int .u64)], [.v (.int .u64), .v (.int .u64)], 2, G138⟩
noncomputable def F138 (x0 : Int) (x1 : Int) (x2 : Int) : Option (Int × Int) := G138 (x0, x1, x2)
noncomputable def L138 : LL D (YR D fd138.ts) := sealF (LiF D fd138 (tabH D h138))
noncomputable def L138_0 (v0 : Int) (v1 : Int) (v2 : Int) : Option (Int × Int) := L138 c138_0 (v0, v1, v2, ())
noncomputable def L138_1 (v0 : Int) (v1 : Int) (v2 : Int) : Option (Int × Int) := L138 c138_1 (v0, v1, v2, ())
noncomputable def L138_2 (v2 : Int) (v8 : Int) (v9 : Int) (v10 : Int) (v11 : Int) (v13 : Int) (v14 : Int) (v15 : Int) : Option (Int × Int) := L138 c138_2 (v2, v8, v9, v10, v11, v13, v14, v15, ())
noncomputable def L138_3 (v2 : Int) (v8 : Int) (v9 : Int) (v10 : Int) (v11 : Int) (v13 : Int) (v14 : Int) (v15 : Int) (v16 : Int) : Option (Int × Int) := L138 c138_3 (v2, v8, v9, v10, v11, v13, v14, v15, v16, ())
noncomputable def L138_4 (v2 : Int) (v8 : Int) (v9 : Int) (v10 : Int) (v11 : Int) (v13 : Int) (v14 : Int) (v15 : Int) (v16 : Int) : Option (Int × Int) := L138 c138_4 (v2, v8, v9, v10, v11, v13, v14, v15, v16, ())
noncomputable def L138_5 (v2 : Int) (v8 : Int) (v14 : Int) (v15 : Int) (v17 : Int) (v18 : Int) : Option (Int × Int) := L138 c138_5 (v2, v8, v14, v15, v17, v18, ())
noncomputable def L138_6 (v2 : Int) (v8 : Int) (v9 : Int) (v10 : Int) (v14 : Int) (v15 : Int) (v16 : Int) (v17 : Int) (v18 : Int) : Option (Int × Int) := L138 c138_6 (v2, v8, v9, v10, v14, v15, v16, v17, v18, ())
noncomputable def L138_7 (v2 : Int) (v8 : Int) (v9 : Int) (v10 : Int) (v14 : Int) (v15 : Int) (v16 : Int) (v17 : Int) (v18 : Int) : Option (Int × Int) := L138 c138_7 (v2, v8, v9, v10, v14, v15, v16, v17, v18, ())
theorem E138_ok : FnOk D PP E138 := fdS_ok lw fd138 (l := h138) (by kernel_rfl) (.cons E143_ok .nil) Tryz.func138 (by kernel_rfl) (by kernel_rfl) (by kernel_rfl) (enters_of (c := bodyF Tryz.f138) Tryz.func138 (by kernel_rfl) (by kernel_rfl)) (by kernel_rfl) (by kernel_rfl)
/-- big.Div -/
def c130_0 : Cut := ⟨127, [.v 1 (.int .i64), .box 2 2 (.st 0) 0 [], .box 4 4 (.st 0) 0 [], .own 7 (.int .u32), .v 8 (.int .u64)]⟩
def c130_1 : Cut := ⟨500, [.v 1 (.int .i64), .box 2 2 (.st 0) 0 [], .box 4 4 (.st 0) 0 [], .own 7 (.int .u32), .v 8 (.int .u64), .v 9 (.int .i64)]⟩
noncomputable def fd130 : FD := ⟨130, bodyF Tryz.f130, Tryz.f130.results.toList, Tryz.f130.ntmps, [.val, .val], [.v (.st 0), .v (.int .i64)], [.v (.st 0), .v (.int .i64), .v (.int .i64)], 3, [c130_0, c130_1], 5000, none⟩
noncomputable def h130 : List (En D) := [E95, E103, E138, E139]
noncomputable def G130 : YR D [.v (.st 0), .v (.int .i64)] → Option (YR D [.v (.st 0), .v (.int .i64), .v (.int .i64)]) := sealF (Gof D fd130 (tabH D h130))
noncomputable def E130 : En D := ⟨130, [.val, .val], [.v (.st 0), .v (.int .i64)], [.v (.st 0), .v (.int .i64), .v (.int .i64)], 3, G130⟩
noncomputable def F130 (x0 : S60) (x1 : Int) : Option (S60 × Int × Int) := G130 (x0, x1)
noncomputable def L130 : LL D (YR D fd130.ts) := sealF (LiF D fd130 (tabH D h130))
noncomputable def L130_0 (v1 : Int) (v2 : S60) (v4 : S60) (v7 : List Int) (v8 : Int) : Option (S60 × Int × Int) := L130 c130_0 (v1, v2, v4, v7, v8, ())
noncomputable def L130_1 (v1 : Int) (v2 : S60) (v4 : S60) (v7 : List Int) (v8 : Int) (v9 : Int) : Option (S60 × Int × Int) := L130 c130_1 (v1, v2, v4, v7, v8, v9, ())
theorem E130_ok : FnOk D PP E130 := fdS_ok lw fd130 (l := h130) (by kernel_rfl) (.cons E95_ok (.cons E103_ok (.cons E138_ok (.cons E139_ok .nil)))) Tryz.func130 (by kernel_rfl) (by kernel_rfl) (by kernel_rfl) (enters_of (c := bodyF Tryz.f130) Tryz.func130 (by kernel_rfl) (by kernel_rfl)) (by kernel_rfl) (by kernel_rfl)
/-- poly.parted -/
def c112_0 : Cut := ⟨244, [.v 0 (.sl (.st 0)), .box 3 3 (.st 1) 0 [], .own 5 (.st 0), .box 6 6 (.st 0) 0 [], .v 7 (.int .i64)]⟩
noncomputable def fd112 : FD := ⟨112, bodyF Tryz.f112, Tryz.f112.results.toList, Tryz.f112.ntmps, [.val, .val], [.v (.sl (.st 0)), .v (.st 1)], [.v (.sl (.st 0))], 1, [c112_0], 5000, none⟩
noncomputable def h112 : List (En D) := [E51, E52, E56, E57, E130]
noncomputable def G112 : YR D [.v (.sl (.st 0)), .v (.st 1)] → Option (YR D [.v (.sl (.st 0))]) := sealF (Gof D fd112 (tabH D h112))
noncomputable def E112 : En D := ⟨112, [.val, .val], [.v (.sl (.st 0)), .v (.st 1)], [.v (.sl (.st 0))], 1, G112⟩
noncomputable def F112 (x0 : List S60) (x1 : S24) : Option (List S60) := G112 (x0, x1)
noncomputable def L112 : LL D (YR D fd112.ts) := sealF (LiF D fd112 (tabH D h112))
noncomputable def L112_0 (v0 : List S60) (v3 : S24) (v5 : List S60) (v6 : S60) (v7 : Int) : Option (List S60) := L112 c112_0 (v0, v3, v5, v6, v7, ())
theorem E112_ok : FnOk D PP E112 := fdS_ok lw fd112 (l := h112) (by kernel_rfl) (.cons E51_ok (.cons E52_ok (.cons E56_ok (.cons E57_ok (.cons E130_ok .nil))))) Tryz.func112 (by kernel_rfl) (by kernel_rfl) (by kernel_rfl) (enters_of (c := bodyF Tryz.f112) Tryz.func112 (by kernel_rfl) (by kernel_rfl)) (by kernel_rfl) (by kernel_rfl)
/-- poly.Without -/
def c84_0 : Cut := ⟨248, [.v 0 (.sl (.st 0)), .box 3 3 (.st 1) 0 [], .v 7 (.int .i64)]⟩
def c84_1 : Cut := ⟨497, [.v 0 (.sl (.st 0)), .box 3 3 (.st 1) 0 [], .v 7 (.int .i64)]⟩
noncomputable def fd84 : FD := ⟨84, bodyF Tryz.f84, Tryz.f84.results.toList, Tryz.f84.ntmps, [.val, .val], [.v (.sl (.st 0)), .v (.st 1)], [.v (.sl (.st 0)), .v (.int .i64), .v (.int .i64)], 3, [c84_0, c84_1], 5000, none⟩
noncomputable def h84 : List (En D) := [E29, E38, E61, E66, E112]
noncomputable def G84 : YR D [.v (.sl (.st 0)), .v (.st 1)] → Option (YR D [.v (.sl (.st 0)), .v (.int .i64), .v (.int .i64)]) := sealF (Gof D fd84 (tabH D h84))
noncomputable def E84 : En D := ⟨84, [.val, .val], [.v (.sl (.st 0)), .v (.st 1)], [.v (.sl (.st 0)), .v (.int .i64), .v (.int .i64)], 3, G84⟩
noncomputable def F84 (x0 : List S60) (x1 : S24) : Option (List S60 × Int × Int) := G84 (x0, x1)
noncomputable def L84 : LL D (YR D fd84.ts) := sealF (LiF D fd84 (tabH D h84))
noncomputable def L84_0 (v0 : List S60) (v3 : S24) (v7 : Int) : Option (List S60 × Int × Int) := L84 c84_0 (v0, v3, v7, ())
noncomputable def L84_1 (v0 : List S60) (v3 : S24) (v7 : Int) : Option (List S60 × Int × Int) := L84 c84_1 (v0, v3, v7, ())
theorem E84_ok : FnOk D PP E84 := fdS_ok lw fd84 (l := h84) (by kernel_rfl) (.cons E29_ok (.cons E38_ok (.cons E61_ok (.cons E66_ok (.cons E112_ok .nil))))) Tryz.func84 (by kernel_rfl) (by kernel_rfl) (by kernel_rfl) (enters_of (c := bodyF Tryz.f84) Tryz.func84 (by kernel_rfl) (by kernel_rfl)) (by kernel_rfl) (by kernel_rfl)
/-- big.Neg -/
noncomputable def fd67 : FD := ⟨67, bodyF Tryz.f67, Tryz.f67.results.toList, Tryz.f67.ntmps, [.val], [.v (.st 0)], [.v (.st 0)], 1, [], 5000, none⟩
noncomputable def h67 : List (En D) := [E95, E103]
noncomputable def G67 : YR D [.v (.st 0)] → Option (YR D [.v (.st 0)]) := sealF (Gof D fd67 (tabH D h67))
noncomputable def E67 : En D := ⟨67, [.val], [.v (.st 0)], [.v (.st 0)], 1, G67⟩
noncomputable def F67 (x0 : S60) : Option (S60) := G67 (x0)
theorem E67_ok : FnOk D PP E67 := fdS_ok lw fd67 (l := h67) (by kernel_rfl) (.cons E95_ok (.cons E103_ok .nil)) Tryz.func67 (by kernel_rfl) (by kernel_rfl) (by kernel_rfl) (enters_of (c := bodyF Tryz.f67) Tryz.func67 (by kernel_rfl) (by kernel_rfl)) (by kernel_rfl) (by kernel_rfl)
/-- big.Sub -/
noncomputable def fd68 : FD := ⟨68, bodyF Tryz.f68, Tryz.f68.results.toList, Tryz.f68.ntmps, [.val, .val], [.v (.st 0), .v (.st 0)], [.v (.st 0)], 1, [], 5000, none⟩
noncomputable def h68 : List (En D) := [E56, E67]
noncomputable def G68 : YR D [.v (.st 0), .v (.st 0)] → Option (YR D [.v (.st 0)]) := sealF (Gof D fd68 (tabH D h68))
noncomputable def E68 : En D := ⟨68, [.val, .val], [.v (.st 0), .v (.st 0)], [.v (.st 0)], 1, G68⟩
noncomputable def F68 (x0 : S60) (x1 : S60) : Option (S60) := G68 (x0, x1)
theorem E68_ok : FnOk D PP E68 := fdS_ok lw fd68 (l := h68) (by kernel_rfl) (.cons E56_ok (.cons E67_ok .nil)) Tryz.func68 (by kernel_rfl) (by kernel_rfl) (by kernel_rfl) (enters_of (c := bodyF Tryz.f68) Tryz.func68 (by kernel_rfl) (by kernel_rfl)) (by kernel_rfl) (by kernel_rfl)
/-- poly.each(big.Sub) -/
def c65068_0 : Cut := ⟨116, [.v 0 (.sl (.st 0)), .v 1 (.sl (.st 0)), .fn 2 68, .own 7 (.st 0), .v 13 (.int .i64), .v 14 (.int .i64)]⟩
noncomputable def fd65068 : FD := ⟨65, bodyF Tryz.f65, Tryz.f65.results.toList, Tryz.f65.ntmps, [.val, .val, .val], [.v (.sl (.st 0)), .v (.sl (.st 0)), .fc 68], [.v (.sl (.st 0))], 1, [c65068_0], 5000, none⟩
noncomputable def h65068 : List (En D) := [E52, E68, E70]
noncomputable def G65068 : YR D [.v (.sl (.st 0)), .v (.sl (.st 0)), .fc 68] → Option (YR D [.v (.sl (.st 0))]) := sealF (Gof D fd65068 (tabH D h65068))
noncomputable def E65068 : En D := ⟨65, [.val, .val, .val], [.v (.sl (.st 0)), .v (.sl (.st 0)), .fc 68], [.v (.sl (.st 0))], 1, G65068⟩
noncomputable def F65068 (x0 : List S60) (x1 : List S60) (x2 : Unit) : Option (List S60) := G65068 (x0, x1, x2)
noncomputable def L65068 : LL D (YR D fd65068.ts) := sealF (LiF D fd65068 (tabH D h65068))
noncomputable def L65068_0 (v0 : List S60) (v1 : List S60) (v7 : List S60) (v13 : Int) (v14 : Int) : Option (List S60) := L65068 c65068_0 (v0, v1, v7, v13, v14, ())
theorem E65068_ok : FnOk D PP E65068 := fdS_ok lw fd65068 (l := h65068) (by kernel_rfl) (.cons E52_ok (.cons E68_ok (.cons E70_ok .nil))) Tryz.func65 (by kernel_rfl) (by kernel_rfl) (by kernel_rfl) (enters_of (c := bodyF Tryz.f65) Tryz.func65 (by kernel_rfl) (by kernel_rfl)) (by kernel_rfl) (by kernel_rfl)
/-- poly.Sub -/
noncomputable def fd71 : FD := ⟨71, bodyF Tryz.f71, Tryz.f71.results.toList, Tryz.f71.ntmps, [.val, .val], [.v (.sl (.st 0)), .v (.sl (.st 0))], [.v (.sl (.st 0))], 1, [], 5000, none⟩
noncomputable def h71 : List (En D) := [E65068]
noncomputable def G71 : YR D [.v (.sl (.st 0)), .v (.sl (.st 0))] → Option (YR D [.v (.sl (.st 0))]) := sealF (Gof D fd71 (tabH D h71))
noncomputable def E71 : En D := ⟨71, [.val, .val], [.v (.sl (.st 0)), .v (.sl (.st 0))], [.v (.sl (.st 0))], 1, G71⟩
noncomputable def F71 (x0 : List S60) (x1 : List S60) : Option (List S60) := G71 (x0, x1)
theorem E71_ok : FnOk D PP E71 := fdS_ok lw fd71 (l := h71) (by kernel_rfl) (.cons E65068_ok .nil) Tryz.func71 (by kernel_rfl) (by kernel_rfl) (by kernel_rfl) (enters_of (c := bodyF Tryz.f71) Tryz.func71 (by kernel_rfl) (by kernel_rfl)) (by kernel_rfl) (by kernel_rfl)
/-- sturm.negated -/
noncomputable def fd32 : FD := ⟨32, bodyF Tryz.f32, Tryz.f32.results.toList, Tryz.f32.ntmps, [.val], [.v (.sl (.st 0))], [.v (.sl (.st 0))], 1, [], 5000, none⟩
noncomputable def h32 : List (En D) := [E71]
noncomputable def G32 : YR D [.v (.sl (.st 0))] → Option (YR D [.v (.sl (.st 0))]) := sealF (Gof D fd32 (tabH D h32))
noncomputable def E32 : En D := ⟨32, [.val], [.v (.sl (.st 0))], [.v (.sl (.st 0))], 1, G32⟩
noncomputable def F32 (x0 : List S60) : Option (List S60) := G32 (x0)
theorem E32_ok : FnOk D PP E32 := fdS_ok lw fd32 (l := h32) (by kernel_rfl) (.cons E71_ok .nil) Tryz.func32 (by kernel_rfl) (by kernel_rfl) (by kernel_rfl) (enters_of (c := bodyF Tryz.f32) Tryz.func32 (by kernel_rfl) (by kernel_rfl)) (by kernel_rfl) (by kernel_rfl)
/-- sturm.without -/
noncomputable def fd44 : FD := ⟨44, bodyF Tryz.f44, Tryz.f44.results.toList, Tryz.f44.ntmps, [.val, .val, .val], [.v (.sl (.st 0)), .v (.st 1), .v (.st 1)], [.v (.sl (.st 0))], 1, [], 5000, none⟩
noncomputable def h44 : List (En D) := [E32, E84]
noncomputable def G44 : YR D [.v (.sl (.st 0)), .v (.st 1), .v (.st 1)] → Option (YR D [.v (.sl (.st 0))]) := sealF (Gof D fd44 (tabH D h44))
noncomputable def E44 : En D := ⟨44, [.val, .val, .val], [.v (.sl (.st 0)), .v (.st 1), .v (.st 1)], [.v (.sl (.st 0))], 1, G44⟩
noncomputable def F44 (x0 : List S60) (x1 : S24) (x2 : S24) : Option (List S60) := G44 (x0, x1, x2)
theorem E44_ok : FnOk D PP E44 := fdS_ok lw fd44 (l := h44) (by kernel_rfl) (.cons E32_ok (.cons E84_ok .nil)) Tryz.func44 (by kernel_rfl) (by kernel_rfl) (by kernel_rfl) (enters_of (c := bodyF Tryz.f44) Tryz.func44 (by kernel_rfl) (by kernel_rfl)) (by kernel_rfl) (by kernel_rfl)
/-- poly.Derive -/
def c30_0 : Cut := ⟨116, [.v 0 (.sl (.st 0)), .own 3 (.st 0), .v 4 (.int .i64)]⟩
noncomputable def fd30 : FD := ⟨30, bodyF Tryz.f30, Tryz.f30.results.toList, Tryz.f30.ntmps, [.val], [.v (.sl (.st 0))], [.v (.sl (.st 0))], 1, [c30_0], 5000, none⟩
noncomputable def h30 : List (En D) := [E51, E52, E57]
noncomputable def G30 : YR D [.v (.sl (.st 0))] → Option (YR D [.v (.sl (.st 0))]) := sealF (Gof D fd30 (tabH D h30))
noncomputable def E30 : En D := ⟨30, [.val], [.v (.sl (.st 0))], [.v (.sl (.st 0))], 1, G30⟩
noncomputable def F30 (x0 : List S60) : Option (List S60) := G30 (x0)
noncomputable def L30 : LL D (YR D fd30.ts) := sealF (LiF D fd30 (tabH D h30))
noncomputable def L30_0 (v0 : List S60) (v3 : List S60) (v4 : Int) : Option (List S60) := L30 c30_0 (v0, v3, v4, ())
theorem E30_ok : FnOk D PP E30 := fdS_ok lw fd30 (l := h30) (by kernel_rfl) (.cons E51_ok (.cons E52_ok (.cons E57_ok .nil))) Tryz.func30 (by kernel_rfl) (by kernel_rfl) (by kernel_rfl) (enters_of (c := bodyF Tryz.f30) Tryz.func30 (by kernel_rfl) (by kernel_rfl)) (by kernel_rfl) (by kernel_rfl)
/-- poly.sized -/
noncomputable def fd69 : FD := ⟨69, bodyF Tryz.f69, Tryz.f69.results.toList, Tryz.f69.ntmps, [.val], [.v (.st 0)], [.v (.st 0)], 1, [], 5000, none⟩
noncomputable def h69 : List (En D) := [E66, E67]
noncomputable def G69 : YR D [.v (.st 0)] → Option (YR D [.v (.st 0)]) := sealF (Gof D fd69 (tabH D h69))
noncomputable def E69 : En D := ⟨69, [.val], [.v (.st 0)], [.v (.st 0)], 1, G69⟩
noncomputable def F69 (x0 : S60) : Option (S60) := G69 (x0)
theorem E69_ok : FnOk D PP E69 := fdS_ok lw fd69 (l := h69) (by kernel_rfl) (.cons E66_ok (.cons E67_ok .nil)) Tryz.func69 (by kernel_rfl) (by kernel_rfl) (by kernel_rfl) (enters_of (c := bodyF Tryz.f69) Tryz.func69 (by kernel_rfl) (by kernel_rfl)) (by kernel_rfl) (by kernel_rfl)
/-- poly.Rest -/
def c31_0 : Cut := ⟨504, [.v 0 (.sl (.st 0)), .v 1 (.sl (.st 0)), .box 6 6 (.st 0) 0 []]⟩
def c31_1 : Cut := ⟨8075, [.v 0 (.sl (.st 0)), .v 1 (.sl (.st 0)), .box 6 6 (.st 0) 0 [], .box 7 7 (.st 0) 0 []]⟩
def c31_2 : Cut := ⟨516852, [.v 1 (.sl (.st 0)), .box 6 6 (.st 0) 0 [], .box 7 7 (.st 0) 0 [], .v 8 (.int .i64), .own 9 (.st 0), .v 46 (.sl (.st 0)), .v 47 (.int .i64), .v 48 (.int .i64)]⟩
noncomputable def fd31 : FD := ⟨31, bodyF Tryz.f31, Tryz.f31.results.toList, Tryz.f31.ntmps, [.val, .val], [.v (.sl (.st 0)), .v (.sl (.st 0))], [.v (.sl (.st 0)), .v (.int .i64)], 2, [c31_0, c31_1, c31_2], 5000, none⟩
noncomputable def h31 : List (En D) := [E29, E52, E57, E66, E67, E68, E69, E70]
noncomputable def G31 : YR D [.v (.sl (.st 0)), .v (.sl (.st 0))] → Option (YR D [.v (.sl (.st 0)), .v (.int .i64)]) := sealF (Gof D fd31 (tabH D h31))
noncomputable def E31 : En D := ⟨31, [.val, .val], [.v (.sl (.st 0)), .v (.sl (.st 0))], [.v (.sl (.st 0)), .v (.int .i64)], 2, G31⟩
noncomputable def F31 (x0 : List S60) (x1 : List S60) : Option (List S60 × Int) := G31 (x0, x1)
noncomputable def L31 : LL D (YR D fd31.ts) := sealF (LiF D fd31 (tabH D h31))
noncomputable def L31_0 (v0 : List S60) (v1 : List S60) (v6 : S60) : Option (List S60 × Int) := L31 c31_0 (v0, v1, v6, ())
noncomputable def L31_1 (v0 : List S60) (v1 : List S60) (v6 : S60) (v7 : S60) : Option (List S60 × Int) := L31 c31_1 (v0, v1, v6, v7, ())
noncomputable def L31_2 (v1 : List S60) (v6 : S60) (v7 : S60) (v8 : Int) (v9 : List S60) (v46 : List S60) (v47 : Int) (v48 : Int) : Option (List S60 × Int) := L31 c31_2 (v1, v6, v7, v8, v9, v46, v47, v48, ())
theorem E31_ok : FnOk D PP E31 := fdS_ok lw fd31 (l := h31) (by kernel_rfl) (.cons E29_ok (.cons E52_ok (.cons E57_ok (.cons E66_ok (.cons E67_ok (.cons E68_ok (.cons E69_ok (.cons E70_ok .nil)))))))) Tryz.func31 (by kernel_rfl) (by kernel_rfl) (by kernel_rfl) (enters_of (c := bodyF Tryz.f31) Tryz.func31 (by kernel_rfl) (by kernel_rfl)) (by kernel_rfl) (by kernel_rfl)
/-- sturm.Chain -/
def c9_0 : Cut := ⟨500, [.v 0 (.sl (.st 0)), .own 4 (.sl (.st 0)), .v 5 (.sl (.st 0))]⟩
noncomputable def fd9 : FD := ⟨9, bodyF Tryz.f9, Tryz.f9.results.toList, Tryz.f9.ntmps, [.val], [.v (.sl (.st 0))], [.v (.sl (.sl (.st 0))), .v (.int .i64)], 2, [c9_0], 5000, none⟩
noncomputable def h9 : List (En D) := [E29, E30, E31, E32]
noncomputable def G9 : YR D [.v (.sl (.st 0))] → Option (YR D [.v (.sl (.sl (.st 0))), .v (.int .i64)]) := sealF (Gof D fd9 (tabH D h9))
noncomputable def E9 : En D := ⟨9, [.val], [.v (.sl (.st 0))], [.v (.sl (.sl (.st 0))), .v (.int .i64)], 2, G9⟩
noncomputable def F9 (x0 : List S60) : Option (List (List S60) × Int) := G9 (x0)
noncomputable def L9 : LL D (YR D fd9.ts) := sealF (LiF D fd9 (tabH D h9))
noncomputable def L9_0 (v0 : List S60) (v4 : List (List S60)) (v5 : List S60) : Option (List (List S60) × Int) := L9 c9_0 (v0, v4, v5, ())
theorem E9_ok : FnOk D PP E9 := fdS_ok lw fd9 (l := h9) (by kernel_rfl) (.cons E29_ok (.cons E30_ok (.cons E31_ok (.cons E32_ok .nil)))) Tryz.func9 (by kernel_rfl) (by kernel_rfl) (by kernel_rfl) (enters_of (c := bodyF Tryz.f9) Tryz.func9 (by kernel_rfl) (by kernel_rfl)) (by kernel_rfl) (by kernel_rfl)
/-- poly.At -/
noncomputable def fd25 : FD := ⟨25, bodyF Tryz.f25, Tryz.f25.results.toList, Tryz.f25.ntmps, [.val, .val], [.v (.sl (.st 0)), .v (.st 1)], [.v (.st 0), .v (.int .i64)], 2, [], 5000, none⟩
noncomputable def h25 : List (En D) := [E38, E61]
noncomputable def G25 : YR D [.v (.sl (.st 0)), .v (.st 1)] → Option (YR D [.v (.st 0), .v (.int .i64)]) := sealF (Gof D fd25 (tabH D h25))
noncomputable def E25 : En D := ⟨25, [.val, .val], [.v (.sl (.st 0)), .v (.st 1)], [.v (.st 0), .v (.int .i64)], 2, G25⟩
noncomputable def F25 (x0 : List S60) (x1 : S24) : Option (S60 × Int) := G25 (x0, x1)
theorem E25_ok : FnOk D PP E25 := fdS_ok lw fd25 (l := h25) (by kernel_rfl) (.cons E38_ok (.cons E61_ok .nil)) Tryz.func25 (by kernel_rfl) (by kernel_rfl) (by kernel_rfl) (enters_of (c := bodyF Tryz.f25) Tryz.func25 (by kernel_rfl) (by kernel_rfl)) (by kernel_rfl) (by kernel_rfl)
/-- sturm.sign -/
noncomputable def fd39 : FD := ⟨39, bodyF Tryz.f39, Tryz.f39.results.toList, Tryz.f39.ntmps, [.val, .val], [.v (.sl (.st 0)), .v (.st 1)], [.v (.int .i64)], 1, [], 5000, none⟩
noncomputable def h39 : List (En D) := [E25, E66]
noncomputable def G39 : YR D [.v (.sl (.st 0)), .v (.st 1)] → Option (YR D [.v (.int .i64)]) := sealF (Gof D fd39 (tabH D h39))
noncomputable def E39 : En D := ⟨39, [.val, .val], [.v (.sl (.st 0)), .v (.st 1)], [.v (.int .i64)], 1, G39⟩
noncomputable def F39 (x0 : List S60) (x1 : S24) : Option (Int) := G39 (x0, x1)
theorem E39_ok : FnOk D PP E39 := fdS_ok lw fd39 (l := h39) (by kernel_rfl) (.cons E25_ok (.cons E66_ok .nil)) Tryz.func39 (by kernel_rfl) (by kernel_rfl) (by kernel_rfl) (enters_of (c := bodyF Tryz.f39) Tryz.func39 (by kernel_rfl) (by kernel_rfl)) (by kernel_rfl) (by kernel_rfl)
/-- sturm.Changes -/
def c12_0 : Cut := ⟨244, [.box 3 3 (.st 1) 0 [], .v 6 (.int .i64), .v 7 (.int .i64), .v 14 (.sl (.sl (.st 0))), .v 15 (.int .i64), .v 16 (.int .i64)]⟩
noncomputable def fd12 : FD := ⟨12, bodyF Tryz.f12, Tryz.f12.results.toList, Tryz.f12.ntmps, [.val, .val], [.v (.sl (.sl (.st 0))), .v (.st 1)], [.v (.int .i64), .v (.int .i64)], 2, [c12_0], 5000, none⟩
noncomputable def h12 : List (En D) := [E38, E39]
noncomputable def G12 : YR D [.v (.sl (.sl (.st 0))), .v (.st 1)] → Option (YR D [.v (.int .i64), .v (.int .i64)]) := sealF (Gof D fd12 (tabH D h12))
noncomputable def E12 : En D := ⟨12, [.val, .val], [.v (.sl (.sl (.st 0))), .v (.st 1)], [.v (.int .i64), .v (.int .i64)], 2, G12⟩
noncomputable def F12 (x0 : List (List S60)) (x1 : S24) : Option (Int × Int) := G12 (x0, x1)
noncomputable def L12 : LL D (YR D fd12.ts) := sealF (LiF D fd12 (tabH D h12))
noncomputable def L12_0 (v3 : S24) (v6 : Int) (v7 : Int) (v14 : List (List S60)) (v15 : Int) (v16 : Int) : Option (Int × Int) := L12 c12_0 (v3, v6, v7, v14, v15, v16, ())
theorem E12_ok : FnOk D PP E12 := fdS_ok lw fd12 (l := h12) (by kernel_rfl) (.cons E38_ok (.cons E39_ok .nil)) Tryz.func12 (by kernel_rfl) (by kernel_rfl) (by kernel_rfl) (enters_of (c := bodyF Tryz.f12) Tryz.func12 (by kernel_rfl) (by kernel_rfl)) (by kernel_rfl) (by kernel_rfl)
/-- sturm.roots -/
noncomputable def fd45 : FD := ⟨45, bodyF Tryz.f45, Tryz.f45.results.toList, Tryz.f45.ntmps, [.val, .val, .val], [.v (.sl (.sl (.st 0))), .v (.st 1), .v (.st 1)], [.v (.int .i64)], 1, [], 5000, none⟩
noncomputable def h45 : List (En D) := [E12]
noncomputable def G45 : YR D [.v (.sl (.sl (.st 0))), .v (.st 1), .v (.st 1)] → Option (YR D [.v (.int .i64)]) := sealF (Gof D fd45 (tabH D h45))
noncomputable def E45 : En D := ⟨45, [.val, .val, .val], [.v (.sl (.sl (.st 0))), .v (.st 1), .v (.st 1)], [.v (.int .i64)], 1, G45⟩
noncomputable def F45 (x0 : List (List S60)) (x1 : S24) (x2 : S24) : Option (Int) := G45 (x0, x1, x2)
theorem E45_ok : FnOk D PP E45 := fdS_ok lw fd45 (l := h45) (by kernel_rfl) (.cons E12_ok .nil) Tryz.func45 (by kernel_rfl) (by kernel_rfl) (by kernel_rfl) (enters_of (c := bodyF Tryz.f45) Tryz.func45 (by kernel_rfl) (by kernel_rfl)) (by kernel_rfl) (by kernel_rfl)
/-- sturm.Count -/
noncomputable def fd16 : FD := ⟨16, bodyF Tryz.f16, Tryz.f16.results.toList, Tryz.f16.ntmps, [.val, .val, .val], [.v (.sl (.st 0)), .v (.st 1), .v (.st 1)], [.v (.int .i64), .v (.int .i64)], 2, [], 5000, none⟩
noncomputable def h16 : List (En D) := [E9, E43, E44, E45]
noncomputable def G16 : YR D [.v (.sl (.st 0)), .v (.st 1), .v (.st 1)] → Option (YR D [.v (.int .i64), .v (.int .i64)]) := sealF (Gof D fd16 (tabH D h16))
noncomputable def E16 : En D := ⟨16, [.val, .val, .val], [.v (.sl (.st 0)), .v (.st 1), .v (.st 1)], [.v (.int .i64), .v (.int .i64)], 2, G16⟩
noncomputable def F16 (x0 : List S60) (x1 : S24) (x2 : S24) : Option (Int × Int) := G16 (x0, x1, x2)
theorem E16_ok : FnOk D PP E16 := fdS_ok lw fd16 (l := h16) (by kernel_rfl) (.cons E9_ok (.cons E43_ok (.cons E44_ok (.cons E45_ok .nil)))) Tryz.func16 (by kernel_rfl) (by kernel_rfl) (by kernel_rfl) (enters_of (c := bodyF Tryz.f16) Tryz.func16 (by kernel_rfl) (by kernel_rfl)) (by kernel_rfl) (by kernel_rfl)
/-- slices.Clone[[]api.Big,api.Big] -/
noncomputable def fd113 : FD := ⟨113, bodyF Tryz.f113, Tryz.f113.results.toList, Tryz.f113.ntmps, [.val], [.v (.sl (.st 0))], [.v (.sl (.st 0))], 1, [], 5000, some ⟨[.val], [(0, none)]⟩⟩
noncomputable def G113 : YR D [.v (.sl (.st 0))] → Option (YR D [.v (.sl (.st 0))]) := sealF fun x => grd (fit (0 + x.length) 32) (some x)
noncomputable def E113 : En D := ⟨113, [.val], [.v (.sl (.st 0))], [.v (.sl (.st 0))], 1, G113⟩
noncomputable def F113 (x0 : List S60) : Option (List S60) := G113 (x0)
theorem F113_eq (x0 : List S60) : F113 x0 = grd (fit (0 + x0.length) 32) (some x0) := congrFun (sealF_eq _) x0
theorem E113_ok : FnOk D PP E113 := by
  refine FnX.ok (xm := ⟨[.val], [(0, none)]⟩) (FnX.rows (t := .st 0) (fun y hy => ?_) (fun y hy => ?_) (fun a l y hy => ?_)) (by kernel_rfl)
  · obtain rfl : [] = y := Option.some.inj ((show some [] = grd (fit (0 + 0) 32) (some []) by kernel_rfl).trans hy)
    exact fdSX lw fd113 Tryz.func113 (by kernel_rfl) (by kernel_rfl) (by kernel_rfl) (enters_of (c := bodyF Tryz.f113) Tryz.func113 (by kernel_rfl) (by kernel_rfl)) (by kernel_rfl) rfl (by kernel_rfl)
  · obtain rfl : [] = y := Option.some.inj ((show some [] = grd (fit (0 + 0) 32) (some []) by kernel_rfl).trans hy)
    exact fdSX lw fd113 Tryz.func113 (by kernel_rfl) (by kernel_rfl) (by kernel_rfl) (enters_of (c := bodyF Tryz.f113) Tryz.func113 (by kernel_rfl) (by kernel_rfl)) (by kernel_rfl) rfl (by kernel_rfl)
  · exact fdSX lw fd113 Tryz.func113 (by kernel_rfl) (by kernel_rfl) (by kernel_rfl) (enters_of (c := bodyF Tryz.f113) Tryz.func113 (by kernel_rfl) (by kernel_rfl)) (by kernel_rfl) rfl ((show entW D fd113 (tabH D []) (LiF D fd113 (tabH D [])) [.c (.lst (.st 0) (a :: l))] = grd (fit (0 + (a :: l).length) 32) (some (a :: l)) by kernel_rfl).trans hy)
/-- sturm.scaled -/
def c85_0 : Cut := ⟨244, [.v 2 (.bool), .box 4 4 (.st 0) 0 [], .own 7 (.st 0), .box 8 8 (.st 0) 0 [], .v 15 (.int .i64), .v 16 (.int .i64)]⟩
def c85_1 : Cut := ⟨31335, [.v 2 (.bool), .box 4 4 (.st 0) 0 [], .own 7 (.st 0), .box 8 8 (.st 0) 0 [], .v 10 (.int .i64), .v 15 (.int .i64), .v 16 (.int .i64)]⟩
noncomputable def fd85 : FD := ⟨85, bodyF Tryz.f85, Tryz.f85.results.toList, Tryz.f85.ntmps, [.val, .val, .val], [.v (.sl (.st 0)), .v (.st 0), .v (.bool)], [.v (.sl (.st 0))], 1, [c85_0, c85_1], 5000, none⟩
noncomputable def h85 : List (En D) := [E51, E57, E113]
noncomputable def G85 : YR D [.v (.sl (.st 0)), .v (.st 0), .v (.bool)] → Option (YR D [.v (.sl (.st 0))]) := sealF (Gof D fd85 (tabH D h85))
noncomputable def E85 : En D := ⟨85, [.val, .val, .val], [.v (.sl (.st 0)), .v (.st 0), .v (.bool)], [.v (.sl (.st 0))], 1, G85⟩
noncomputable def F85 (x0 : List S60) (x1 : S60) (x2 : Bool) : Option (List S60) := G85 (x0, x1, x2)
noncomputable def L85 : LL D (YR D fd85.ts) := sealF (LiF D fd85 (tabH D h85))
noncomputable def L85_0 (v2 : Bool) (v4 : S60) (v7 : List S60) (v8 : S60) (v15 : Int) (v16 : Int) : Option (List S60) := L85 c85_0 (v2, v4, v7, v8, v15, v16, ())
noncomputable def L85_1 (v2 : Bool) (v4 : S60) (v7 : List S60) (v8 : S60) (v10 : Int) (v15 : Int) (v16 : Int) : Option (List S60) := L85 c85_1 (v2, v4, v7, v8, v10, v15, v16, ())
theorem E85_ok : FnOk D PP E85 := fdS_ok lw fd85 (l := h85) (by kernel_rfl) (.cons E51_ok (.cons E57_ok (.cons E113_ok .nil))) Tryz.func85 (by kernel_rfl) (by kernel_rfl) (by kernel_rfl) (enters_of (c := bodyF Tryz.f85) Tryz.func85 (by kernel_rfl) (by kernel_rfl)) (by kernel_rfl) (by kernel_rfl)
/-- sturm.moved -/
def c86_0 : Cut := ⟨116, [.box 3 3 (.st 0) 0 [], .own 5 (.st 0), .v 11 (.int .i64), .v 12 (.int .i64)]⟩
def c86_1 : Cut := ⟨29900, [.box 3 3 (.st 0) 0 [], .own 5 (.st 0), .v 6 (.int .i64), .v 7 (.int .i64), .v 11 (.int .i64), .v 12 (.int .i64)]⟩
noncomputable def fd86 : FD := ⟨86, bodyF Tryz.f86, Tryz.f86.results.toList, Tryz.f86.ntmps, [.val, .val], [.v (.sl (.st 0)), .v (.st 0)], [.v (.sl (.st 0))], 1, [c86_0, c86_1], 5000, none⟩
noncomputable def h86 : List (En D) := [E56, E57, E113]
noncomputable def G86 : YR D [.v (.sl (.st 0)), .v (.st 0)] → Option (YR D [.v (.sl (.st 0))]) := sealF (Gof D fd86 (tabH D h86))
noncomputable def E86 : En D := ⟨86, [.val, .val], [.v (.sl (.st 0)), .v (.st 0)], [.v (.sl (.st 0))], 1, G86⟩
noncomputable def F86 (x0 : List S60) (x1 : S60) : Option (List S60) := G86 (x0, x1)
noncomputable def L86 : LL D (YR D fd86.ts) := sealF (LiF D fd86 (tabH D h86))
noncomputable def L86_0 (v3 : S60) (v5 : List S60) (v11 : Int) (v12 : Int) : Option (List S60) := L86 c86_0 (v3, v5, v11, v12, ())
noncomputable def L86_1 (v3 : S60) (v5 : List S60) (v6 : Int) (v7 : Int) (v11 : Int) (v12 : Int) : Option (List S60) := L86 c86_1 (v3, v5, v6, v7, v11, v12, ())
theorem E86_ok : FnOk D PP E86 := fdS_ok lw fd86 (l := h86) (by kernel_rfl) (.cons E56_ok (.cons E57_ok (.cons E113_ok .nil))) Tryz.func86 (by kernel_rfl) (by kernel_rfl) (by kernel_rfl) (enters_of (c := bodyF Tryz.f86) Tryz.func86 (by kernel_rfl) (by kernel_rfl)) (by kernel_rfl) (by kernel_rfl)
/-- sturm.unit -/
noncomputable def fd47 : FD := ⟨47, bodyF Tryz.f47, Tryz.f47.results.toList, Tryz.f47.ntmps, [.val, .val, .val], [.v (.sl (.st 0)), .v (.st 1), .v (.st 1)], [.v (.sl (.st 0))], 1, [], 5000, none⟩
noncomputable def h47 : List (En D) := [E29, E51, E57, E68, E85, E86]
noncomputable def G47 : YR D [.v (.sl (.st 0)), .v (.st 1), .v (.st 1)] → Option (YR D [.v (.sl (.st 0))]) := sealF (Gof D fd47 (tabH D h47))
noncomputable def E47 : En D := ⟨47, [.val, .val, .val], [.v (.sl (.st 0)), .v (.st 1), .v (.st 1)], [.v (.sl (.st 0))], 1, G47⟩
noncomputable def F47 (x0 : List S60) (x1 : S24) (x2 : S24) : Option (List S60) := G47 (x0, x1, x2)
theorem E47_ok : FnOk D PP E47 := fdS_ok lw fd47 (l := h47) (by kernel_rfl) (.cons E29_ok (.cons E51_ok (.cons E57_ok (.cons E68_ok (.cons E85_ok (.cons E86_ok .nil)))))) Tryz.func47 (by kernel_rfl) (by kernel_rfl) (by kernel_rfl) (enters_of (c := bodyF Tryz.f47) Tryz.func47 (by kernel_rfl) (by kernel_rfl)) (by kernel_rfl) (by kernel_rfl)
/-- sturm.below -/
def c46_0 : Cut := ⟨31, [.v 0 (.sl (.st 0)), .box 3 3 (.st 1) 0 [], .box 4 4 (.st 1) 0 [], .box 5 5 (.st 1) 0 []]⟩
noncomputable def fd46 : FD := ⟨46, bodyF Tryz.f46, Tryz.f46.results.toList, Tryz.f46.ntmps, [.val], [.v (.sl (.st 0))], [.v (.bool)], 1, [c46_0], 5000, none⟩
noncomputable def h46 (G : YR D [.v (.sl (.st 0))] → Option (YR D [.v (.bool)])) : List (En D) := [E9, E39, E44, E45, ⟨46, [.val], [.v (.sl (.st 0))], [.v (.bool)], 1, G⟩, E47]
noncomputable def G46 : YR D [.v (.sl (.st 0))] → Option (YR D [.v (.bool)]) := sealF (Gr D fd46 h46)
theorem h46_mono : TMono (f := fd46) h46 := fun G G' h => .cons (fun _ _ q => q) (.cons (fun _ _ q => q) (.cons (fun _ _ q => q) (.cons (fun _ _ q => q) (.cons h (.cons (fun _ _ q => q) .nil)))))
noncomputable def E46 : En D := ⟨46, [.val], [.v (.sl (.st 0))], [.v (.bool)], 1, G46⟩
noncomputable def F46 (x0 : List S60) : Option (Bool) := G46 (x0)
theorem E46_ok : FnOk D PP E46 := Gr_ok lw (f := fd46) (l := h46) (fun G => by kernel_rfl) (fun G hG => .cons E9_ok (.cons E39_ok (.cons E44_ok (.cons E45_ok (.cons hG (.cons E47_ok .nil)))))) Tryz.func46 (by kernel_rfl) (by kernel_rfl) (by kernel_rfl) (enters_of (c := bodyF Tryz.f46) Tryz.func46 (by kernel_rfl) (by kernel_rfl)) (by kernel_rfl) (by kernel_rfl)
noncomputable def F46r (G : YR D [.v (.sl (.st 0))] → Option (YR D [.v (.bool)])) (x0 : List S60) : Option (Bool) := G (x0)
noncomputable def F46g (G : YR D [.v (.sl (.st 0))] → Option (YR D [.v (.bool)])) (x0 : List S60) : Option (Bool) := sealF (Gof D fd46 (tabH D (h46 G))) (x0)
noncomputable def L46 (G : YR D [.v (.sl (.st 0))] → Option (YR D [.v (.bool)])) : LL D (YR D fd46.ts) := sealF (LiF D fd46 (tabH D (h46 G)))
noncomputable def L46_0 (G : YR D [.v (.sl (.st 0))] → Option (YR D [.v (.bool)])) (v0 : List S60) (v3 : S24) (v4 : S24) (v5 : S24) : Option (Bool) := L46 G c46_0 (v0, v3, v4, v5, ())
theorem F46_n (n : Nat) (x0 : List S60) : F46r (Gn D fd46 h46 (n + 1)) x0 = F46g (Gn D fd46 h46 n) x0 := rfl
theorem F46_of (n : Nat) (x0 : List S60) (y : Bool) (h : F46r (Gn D fd46 h46 n) x0 = some y) : F46 x0 = some y := (congrFun (sealF_eq _) (x0)).trans (Gr_of h46_mono h)
/-- sturm.Negative -/
noncomputable def fd17 : FD := ⟨17, bodyF Tryz.f17, Tryz.f17.results.toList, Tryz.f17.ntmps, [.val, .val, .val], [.v (.sl (.st 0)), .v (.st 1), .v (.st 1)], [.v (.bool), .v (.int .i64)], 2, [], 5000, none⟩
noncomputable def h17 : List (En D) := [E43, E46, E47]
noncomputable def G17 : YR D [.v (.sl (.st 0)), .v (.st 1), .v (.st 1)] → Option (YR D [.v (.bool), .v (.int .i64)]) := sealF (Gof D fd17 (tabH D h17))
noncomputable def E17 : En D := ⟨17, [.val, .val, .val], [.v (.sl (.st 0)), .v (.st 1), .v (.st 1)], [.v (.bool), .v (.int .i64)], 2, G17⟩
noncomputable def F17 (x0 : List S60) (x1 : S24) (x2 : S24) : Option (Bool × Int) := G17 (x0, x1, x2)
theorem E17_ok : FnOk D PP E17 := fdS_ok lw fd17 (l := h17) (by kernel_rfl) (.cons E43_ok (.cons E46_ok (.cons E47_ok .nil))) Tryz.func17 (by kernel_rfl) (by kernel_rfl) (by kernel_rfl) (enters_of (c := bodyF Tryz.f17) Tryz.func17 (by kernel_rfl) (by kernel_rfl)) (by kernel_rfl) (by kernel_rfl)
/-- math/bits.Add64 -/
noncomputable def G145 : YR D [.v (.int .u64), .v (.int .u64), .v (.int .u64)] → Option (YR D [.v (.int .u64), .v (.int .u64)]) := sealF fun x => bits_Add64 x.1 x.2.1 x.2.2
noncomputable def E145 : En D := ⟨145, [.val, .val, .val], [.v (.int .u64), .v (.int .u64), .v (.int .u64)], [.v (.int .u64), .v (.int .u64)], 2, G145⟩
noncomputable def F145 (x0 : Int) (x1 : Int) (x2 : Int) : Option (Int × Int) := G145 (x0, x1, x2)
theorem F145_eq (x0 : Int) (x1 : Int) (x2 : Int) : F145 x0 x1 x2 = bits_Add64 x0 x1 x2 := congrFun (sealF_eq _) (x0, x1, x2)
theorem E145_ok : FnOk D PP E145 := bits_Add64_ok Tryz.func145 rfl rfl rfl rfl (by kernel_rfl)
/-- wide.Add -/
noncomputable def fd142 : FD := ⟨142, bodyF Tryz.f142, Tryz.f142.results.toList, Tryz.f142.ntmps, [.val, .val], [.v (.st 5), .v (.st 5)], [.v (.st 5), .v (.int .i64)], 2, [], 5000, none⟩
noncomputable def h142 : List (En D) := [E145]
noncomputable def G142 : YR D [.v (.st 5), .v (.st 5)] → Option (YR D [.v (.st 5), .v (.int .i64)]) := sealF (Gof D fd142 (tabH D h142))
noncomputable def E142 : En D := ⟨142, [.val, .val], [.v (.st 5), .v (.st 5)], [.v (.st 5), .v (.int .i64)], 2, G142⟩
noncomputable def F142 (x0 : S117) (x1 : S117) : Option (S117 × Int) := G142 (x0, x1)
theorem E142_ok : FnOk D PP E142 := fdS_ok lw fd142 (l := h142) (by kernel_rfl) (.cons E145_ok .nil) Tryz.func142 (by kernel_rfl) (by kernel_rfl) (by kernel_rfl) (enters_of (c := bodyF Tryz.f142) Tryz.func142 (by kernel_rfl) (by kernel_rfl)) (by kernel_rfl) (by kernel_rfl)
/-- (ratio.signed).plus -/
def c134_0 : Cut := ⟨15, [.box 2 2 (.st 6) 0 [], .box 3 3 (.st 6) 0 [], .box 4 4 (.st 6) 0 []]⟩
noncomputable def fd134 : FD := ⟨134, bodyF Tryz.f134, Tryz.f134.results.toList, Tryz.f134.ntmps, [.val, .val], [.v (.st 6), .v (.st 6)], [.v (.st 6)], 1, [c134_0], 5000, none⟩
noncomputable def h134 : List (En D) := [E106, E107, E142]
noncomputable def G134 : YR D [.v (.st 6), .v (.st 6)] → Option (YR D [.v (.st 6)]) := sealF (Gof D fd134 (tabH D h134))
noncomputable def E134 : En D := ⟨134, [.val, .val], [.v (.st 6), .v (.st 6)], [.v (.st 6)], 1, G134⟩
noncomputable def F134 (x0 : S147) (x1 : S147) : Option (S147) := G134 (x0, x1)
noncomputable def L134 : LL D (YR D fd134.ts) := sealF (LiF D fd134 (tabH D h134))
noncomputable def L134_0 (v2 : S147) (v3 : S147) (v4 : S147) : Option (S147) := L134 c134_0 (v2, v3, v4, ())
theorem E134_ok : FnOk D PP E134 := fdS_ok lw fd134 (l := h134) (by kernel_rfl) (.cons E106_ok (.cons E107_ok (.cons E142_ok .nil))) Tryz.func134 (by kernel_rfl) (by kernel_rfl) (by kernel_rfl) (enters_of (c := bodyF Tryz.f134) Tryz.func134 (by kernel_rfl) (by kernel_rfl)) (by kernel_rfl) (by kernel_rfl)
/-- wide.Div -/
noncomputable def fd144 : FD := ⟨144, bodyF Tryz.f144, Tryz.f144.results.toList, Tryz.f144.ntmps, [.val, .val], [.v (.st 5), .v (.int .u64)], [.v (.st 5), .v (.int .u64), .v (.int .i64)], 3, [], 5000, none⟩
noncomputable def h144 : List (En D) := [E138]
noncomputable def G144 : YR D [.v (.st 5), .v (.int .u64)] → Option (YR D [.v (.st 5), .v (.int .u64), .v (.int .i64)]) := sealF (Gof D fd144 (tabH D h144))
noncomputable def E144 : En D := ⟨144, [.val, .val], [.v (.st 5), .v (.int .u64)], [.v (.st 5), .v (.int .u64), .v (.int .i64)], 3, G144⟩
noncomputable def F144 (x0 : S117) (x1 : Int) : Option (S117 × Int × Int) := G144 (x0, x1)
theorem E144_ok : FnOk D PP E144 := fdS_ok lw fd144 (l := h144) (by kernel_rfl) (.cons E138_ok .nil) Tryz.func144 (by kernel_rfl) (by kernel_rfl) (by kernel_rfl) (enters_of (c := bodyF Tryz.f144) Tryz.func144 (by kernel_rfl) (by kernel_rfl)) (by kernel_rfl) (by kernel_rfl)
/-- ratio.part -/
def c140_0 : Cut := ⟨244, [.box 2 2 (.st 5) 0 [], .box 3 3 (.st 5) 0 [], .box 4 4 (.st 5) 0 [], .box 8 8 (.st 5) 0 [], .v 9 (.int .i64)]⟩
def c140_1 : Cut := ⟨15654, [.box 2 2 (.st 5) 0 [], .box 3 3 (.st 5) 0 [], .box 4 4 (.st 5) 0 [], .box 8 8 (.st 5) 0 [], .v 9 (.int .i64), .box 10 10 (.st 5) 0 []]⟩
noncomputable def fd140 : FD := ⟨140, bodyF Tryz.f140, Tryz.f140.results.toList, Tryz.f140.ntmps, [.val, .val], [.v (.st 5), .v (.st 5)], [.v (.st 5)], 1, [c140_0, c140_1], 5000, none⟩
noncomputable def h140 : List (En D) := [E105, E106, E107, E144]
noncomputable def G140 : YR D [.v (.st 5), .v (.st 5)] → Option (YR D [.v (.st 5)]) := sealF (Gof D fd140 (tabH D h140))
noncomputable def E140 : En D := ⟨140, [.val, .val], [.v (.st 5), .v (.st 5)], [.v (.st 5)], 1, G140⟩
noncomputable def F140 (x0 : S117) (x1 : S117) : Option (S117) := G140 (x0, x1)
noncomputable def L140 : LL D (YR D fd140.ts) := sealF (LiF D fd140 (tabH D h140))
noncomputable def L140_0 (v2 : S117) (v3 : S117) (v4 : S117) (v8 : S117) (v9 : Int) : Option (S117) := L140 c140_0 (v2, v3, v4, v8, v9, ())
noncomputable def L140_1 (v2 : S117) (v3 : S117) (v4 : S117) (v8 : S117) (v9 : Int) (v10 : S117) : Option (S117) := L140 c140_1 (v2, v3, v4, v8, v9, v10, ())
theorem E140_ok : FnOk D PP E140 := fdS_ok lw fd140 (l := h140) (by kernel_rfl) (.cons E105_ok (.cons E106_ok (.cons E107_ok (.cons E144_ok .nil)))) Tryz.func140 (by kernel_rfl) (by kernel_rfl) (by kernel_rfl) (enters_of (c := bodyF Tryz.f140) Tryz.func140 (by kernel_rfl) (by kernel_rfl)) (by kernel_rfl) (by kernel_rfl)
/-- ratio.fits -/
def c141_0 : Cut := ⟨51, [.v 0 (.bool), .box 3 3 (.st 5) 0 []]⟩
noncomputable def fd141 : FD := ⟨141, bodyF Tryz.f141, Tryz.f141.results.toList, Tryz.f141.ntmps, [.val, .val], [.v (.bool), .v (.st 5)], [.v (.int .i64), .v (.bool)], 2, [c141_0], 5000, none⟩
noncomputable def h141 : List (En D) := []
noncomputable def G141 : YR D [.v (.bool), .v (.st 5)] → Option (YR D [.v (.int .i64), .v (.bool)]) := sealF (Gof D fd141 (tabH D h141))
noncomputable def E141 : En D := ⟨141, [.val, .val], [.v (.bool), .v (.st 5)], [.v (.int .i64), .v (.bool)], 2, G141⟩
noncomputable def F141 (x0 : Bool) (x1 : S117) : Option (Int × Bool) := G141 (x0, x1)
noncomputable def L141 : LL D (YR D fd141.ts) := sealF (LiF D fd141 (tabH D h141))
noncomputable def L141_0 (v0 : Bool) (v3 : S117) : Option (Int × Bool) := L141 c141_0 (v0, v3, ())
theorem E141_ok : FnOk D PP E141 := fdS_ok lw fd141 (l := h141) (by kernel_rfl) (.nil) Tryz.func141 (by kernel_rfl) (by kernel_rfl) (by kernel_rfl) (enters_of (c := bodyF Tryz.f141) Tryz.func141 (by kernel_rfl) (by kernel_rfl)) (by kernel_rfl) (by kernel_rfl)
/-- ratio.lowest -/
def c133_0 : Cut := ⟨31, [.box 4 4 (.st 1) 0 [], .box 8 8 (.st 5) 0 [], .v 9 (.int .i64), .v 10 (.bool)]⟩
noncomputable def fd133 : FD := ⟨133, bodyF Tryz.f133, Tryz.f133.results.toList, Tryz.f133.ntmps, [.val, .val], [.v (.st 6), .v (.st 6)], [.v (.st 1), .v (.int .i64)], 2, [c133_0], 5000, none⟩
noncomputable def h133 : List (En D) := [E78, E140, E141]
noncomputable def G133 : YR D [.v (.st 6), .v (.st 6)] → Option (YR D [.v (.st 1), .v (.int .i64)]) := sealF (Gof D fd133 (tabH D h133))
noncomputable def E133 : En D := ⟨133, [.val, .val], [.v (.st 6), .v (.st 6)], [.v (.st 1), .v (.int .i64)], 2, G133⟩
noncomputable def F133 (x0 : S147) (x1 : S147) : Option (S24 × Int) := G133 (x0, x1)
noncomputable def L133 : LL D (YR D fd133.ts) := sealF (LiF D fd133 (tabH D h133))
noncomputable def L133_0 (v4 : S24) (v8 : S117) (v9 : Int) (v10 : Bool) : Option (S24 × Int) := L133 c133_0 (v4, v8, v9, v10, ())
theorem E133_ok : FnOk D PP E133 := fdS_ok lw fd133 (l := h133) (by kernel_rfl) (.cons E78_ok (.cons E140_ok (.cons E141_ok .nil))) Tryz.func133 (by kernel_rfl) (by kernel_rfl) (by kernel_rfl) (enters_of (c := bodyF Tryz.f133) Tryz.func133 (by kernel_rfl) (by kernel_rfl)) (by kernel_rfl) (by kernel_rfl)
/-- ratio.Sub -/
def c119_0 : Cut := ⟨7, [.box 2 2 (.st 1) 0 [], .box 3 3 (.st 1) 0 [], .box 4 4 (.st 1) 0 []]⟩
noncomputable def fd119 : FD := ⟨119, bodyF Tryz.f119, Tryz.f119.results.toList, Tryz.f119.ntmps, [.val, .val], [.v (.st 1), .v (.st 1)], [.v (.st 1), .v (.int .i64)], 2, [c119_0], 5000, none⟩
noncomputable def h119 : List (En D) := [E38, E111, E133, E134]
noncomputable def G119 : YR D [.v (.st 1), .v (.st 1)] → Option (YR D [.v (.st 1), .v (.int .i64)]) := sealF (Gof D fd119 (tabH D h119))
noncomputable def E119 : En D := ⟨119, [.val, .val], [.v (.st 1), .v (.st 1)], [.v (.st 1), .v (.int .i64)], 2, G119⟩
noncomputable def F119 (x0 : S24) (x1 : S24) : Option (S24 × Int) := G119 (x0, x1)
noncomputable def L119 : LL D (YR D fd119.ts) := sealF (LiF D fd119 (tabH D h119))
noncomputable def L119_0 (v2 : S24) (v3 : S24) (v4 : S24) : Option (S24 × Int) := L119 c119_0 (v2, v3, v4, ())
theorem E119_ok : FnOk D PP E119 := fdS_ok lw fd119 (l := h119) (by kernel_rfl) (.cons E38_ok (.cons E111_ok (.cons E133_ok (.cons E134_ok .nil)))) Tryz.func119 (by kernel_rfl) (by kernel_rfl) (by kernel_rfl) (enters_of (c := bodyF Tryz.f119) Tryz.func119 (by kernel_rfl) (by kernel_rfl)) (by kernel_rfl) (by kernel_rfl)
/-- (*sturm.finder).narrow -/
noncomputable def fd100 : FD := ⟨100, bodyF Tryz.f100, Tryz.f100.results.toList, Tryz.f100.ntmps, [.ref, .val, .val], [.v (.st 4), .v (.st 1), .v (.st 1)], [.v (.bool), .v (.st 4)], 1, [], 5000, some ⟨[.ref 0 [(2, none)], .val, .val], []⟩⟩
noncomputable def h100 : List (En D) := [E82, E119]
noncomputable def G100 : YR D [.v (.st 4), .v (.st 1), .v (.st 1)] → Option (YR D [.v (.bool), .v (.st 4)]) := sealF (Gof D fd100 (tabH D h100))
noncomputable def E100 : En D := ⟨100, [.ref, .val, .val], [.v (.st 4), .v (.st 1), .v (.st 1)], [.v (.bool), .v (.st 4)], 1, G100⟩
noncomputable def F100 (x0 : S100) (x1 : S24) (x2 : S24) : Option (Bool × S100) := G100 (x0, x1, x2)
theorem E100_ok : FnOk D PP E100 := fdS_ok lw fd100 (l := h100) (by kernel_rfl) (.cons E82_ok (.cons E119_ok .nil)) Tryz.func100 (by kernel_rfl) (by kernel_rfl) (by kernel_rfl) (enters_of (c := bodyF Tryz.f100) Tryz.func100 (by kernel_rfl) (by kernel_rfl)) (by kernel_rfl) (by kernel_rfl)
/-- ratio.Add -/
def c120_0 : Cut := ⟨7, [.box 2 2 (.st 1) 0 [], .box 3 3 (.st 1) 0 [], .box 4 4 (.st 1) 0 []]⟩
noncomputable def fd120 : FD := ⟨120, bodyF Tryz.f120, Tryz.f120.results.toList, Tryz.f120.ntmps, [.val, .val], [.v (.st 1), .v (.st 1)], [.v (.st 1), .v (.int .i64)], 2, [c120_0], 5000, none⟩
noncomputable def h120 : List (En D) := [E38, E111, E133, E134]
noncomputable def G120 : YR D [.v (.st 1), .v (.st 1)] → Option (YR D [.v (.st 1), .v (.int .i64)]) := sealF (Gof D fd120 (tabH D h120))
noncomputable def E120 : En D := ⟨120, [.val, .val], [.v (.st 1), .v (.st 1)], [.v (.st 1), .v (.int .i64)], 2, G120⟩
noncomputable def F120 (x0 : S24) (x1 : S24) : Option (S24 × Int) := G120 (x0, x1)
noncomputable def L120 : LL D (YR D fd120.ts) := sealF (LiF D fd120 (tabH D h120))
noncomputable def L120_0 (v2 : S24) (v3 : S24) (v4 : S24) : Option (S24 × Int) := L120 c120_0 (v2, v3, v4, ())
theorem E120_ok : FnOk D PP E120 := fdS_ok lw fd120 (l := h120) (by kernel_rfl) (.cons E38_ok (.cons E111_ok (.cons E133_ok (.cons E134_ok .nil)))) Tryz.func120 (by kernel_rfl) (by kernel_rfl) (by kernel_rfl) (enters_of (c := bodyF Tryz.f120) Tryz.func120 (by kernel_rfl) (by kernel_rfl)) (by kernel_rfl) (by kernel_rfl)
/-- ratio.Mul -/
def c121_0 : Cut := ⟨7, [.box 2 2 (.st 1) 0 [], .box 3 3 (.st 1) 0 [], .box 4 4 (.st 1) 0 []]⟩
noncomputable def fd121 : FD := ⟨121, bodyF Tryz.f121, Tryz.f121.results.toList, Tryz.f121.ntmps, [.val, .val], [.v (.st 1), .v (.st 1)], [.v (.st 1), .v (.int .i64)], 2, [c121_0], 5000, none⟩
noncomputable def h121 : List (En D) := [E38, E111, E133]
noncomputable def G121 : YR D [.v (.st 1), .v (.st 1)] → Option (YR D [.v (.st 1), .v (.int .i64)]) := sealF (Gof D fd121 (tabH D h121))
noncomputable def E121 : En D := ⟨121, [.val, .val], [.v (.st 1), .v (.st 1)], [.v (.st 1), .v (.int .i64)], 2, G121⟩
noncomputable def F121 (x0 : S24) (x1 : S24) : Option (S24 × Int) := G121 (x0, x1)
noncomputable def L121 : LL D (YR D fd121.ts) := sealF (LiF D fd121 (tabH D h121))
noncomputable def L121_0 (v2 : S24) (v3 : S24) (v4 : S24) : Option (S24 × Int) := L121 c121_0 (v2, v3, v4, ())
theorem E121_ok : FnOk D PP E121 := fdS_ok lw fd121 (l := h121) (by kernel_rfl) (.cons E38_ok (.cons E111_ok (.cons E133_ok .nil))) Tryz.func121 (by kernel_rfl) (by kernel_rfl) (by kernel_rfl) (enters_of (c := bodyF Tryz.f121) Tryz.func121 (by kernel_rfl) (by kernel_rfl)) (by kernel_rfl) (by kernel_rfl)
/-- sturm.middle -/
noncomputable def fd101 : FD := ⟨101, bodyF Tryz.f101, Tryz.f101.results.toList, Tryz.f101.ntmps, [.val, .val], [.v (.st 1), .v (.st 1)], [.v (.st 1), .v (.bool)], 2, [], 5000, none⟩
noncomputable def h101 : List (En D) := [E120, E121]
noncomputable def G101 : YR D [.v (.st 1), .v (.st 1)] → Option (YR D [.v (.st 1), .v (.bool)]) := sealF (Gof D fd101 (tabH D h101))
noncomputable def E101 : En D := ⟨101, [.val, .val], [.v (.st 1), .v (.st 1)], [.v (.st 1), .v (.bool)], 2, G101⟩
noncomputable def F101 (x0 : S24) (x1 : S24) : Option (S24 × Bool) := G101 (x0, x1)
theorem E101_ok : FnOk D PP E101 := fdS_ok lw fd101 (l := h101) (by kernel_rfl) (.cons E120_ok (.cons E121_ok .nil)) Tryz.func101 (by kernel_rfl) (by kernel_rfl) (by kernel_rfl) (enters_of (c := bodyF Tryz.f101) Tryz.func101 (by kernel_rfl) (by kernel_rfl)) (by kernel_rfl) (by kernel_rfl)
/-- (*sturm.finder).find -/
def c62_0 : Cut := ⟨31, [.box 0 0 (.st 4) 0 [(2, none)], .v 1 (.sl (.st 0)), .v 2 (.sl (.st 0)), .box 8 8 (.st 1) 0 [], .box 9 9 (.st 1) 0 []]⟩
def c62_1 : Cut := ⟨243, [.box 0 0 (.st 4) 0 [(2, none)], .v 1 (.sl (.st 0)), .v 2 (.sl (.st 0)), .box 8 8 (.st 1) 0 [], .box 9 9 (.st 1) 0 [], .v 12 (.int .i64)]⟩
def c62_2 : Cut := ⟨974, [.box 0 0 (.st 4) 0 [(2, none)], .box 8 8 (.st 1) 0 [], .box 9 9 (.st 1) 0 []]⟩
def c62_3 : Cut := ⟨1023, [.box 0 0 (.st 4) 0 [(2, none)], .v 1 (.sl (.st 0)), .box 9 9 (.st 1) 0 [], .box 13 13 (.st 1) 0 [], .v 15 (.sl (.st 0))]⟩
noncomputable def fd62 : FD := ⟨62, bodyF Tryz.f62, Tryz.f62.results.toList, Tryz.f62.ntmps, [.ref, .val, .val, .val, .val], [.v (.st 4), .v (.sl (.st 0)), .v (.sl (.st 0)), .v (.st 1), .v (.st 1)], [.v (.st 4)], 0, [c62_0, c62_1, c62_2, c62_3], 5000, some ⟨[.ref 0 [(2, none)], .val, .val, .val, .val], []⟩⟩
noncomputable def h62 (G : YR D [.v (.st 4), .v (.sl (.st 0)), .v (.sl (.st 0)), .v (.st 1), .v (.st 1)] → Option (YR D [.v (.st 4)])) : List (En D) := [E9, E39, E45, ⟨62, [.ref, .val, .val, .val, .val], [.v (.st 4), .v (.sl (.st 0)), .v (.sl (.st 0)), .v (.st 1), .v (.st 1)], [.v (.st 4)], 0, G⟩, E84, E100, E101]
noncomputable def G62 : YR D [.v (.st 4), .v (.sl (.st 0)), .v (.sl (.st 0)), .v (.st 1), .v (.st 1)] → Option (YR D [.v (.st 4)]) := sealF (Gr D fd62 h62)
theorem h62_mono : TMono (f := fd62) h62 := fun G G' h => .cons (fun _ _ q => q) (.cons (fun _ _ q => q) (.cons (fun _ _ q => q) (.cons h (.cons (fun _ _ q => q) (.cons (fun _ _ q => q) (.cons (fun _ _ q => q) .nil))))))
noncomputable def E62 : En D := ⟨62, [.ref, .val, .val, .val, .val], [.v (.st 4), .v (.sl (.st 0)), .v (.sl (.st 0)), .v (.st 1), .v (.st 1)], [.v (.st 4)], 0, G62⟩
noncomputable def F62 (x0 : S100) (x1 : List S60) (x2 : List S60) (x3 : S24) (x4 : S24) : Option (S100) := G62 (x0, x1, x2, x3, x4)
theorem E62_ok : FnOk D PP E62 := Gr_ok lw (f := fd62) (l := h62) (fun G => by kernel_rfl) (fun G hG => .cons E9_ok (.cons E39_ok (.cons E45_ok (.cons hG (.cons E84_ok (.cons E100_ok (.cons E101_ok .nil))))))) Tryz.func62 (by kernel_rfl) (by kernel_rfl) (by kernel_rfl) (enters_of (c := bodyF Tryz.f62) Tryz.func62 (by kernel_rfl) (by kernel_rfl)) (by kernel_rfl) (by kernel_rfl)
noncomputable def F62r (G : YR D [.v (.st 4), .v (.sl (.st 0)), .v (.sl (.st 0)), .v (.st 1), .v (.st 1)] → Option (YR D [.v (.st 4)])) (x0 : S100) (x1 : List S60) (x2 : List S60) (x3 : S24) (x4 : S24) : Option (S100) := G (x0, x1, x2, x3, x4)
noncomputable def F62g (G : YR D [.v (.st 4), .v (.sl (.st 0)), .v (.sl (.st 0)), .v (.st 1), .v (.st 1)] → Option (YR D [.v (.st 4)])) (x0 : S100) (x1 : List S60) (x2 : List S60) (x3 : S24) (x4 : S24) : Option (S100) := sealF (Gof D fd62 (tabH D (h62 G))) (x0, x1, x2, x3, x4)
noncomputable def L62 (G : YR D [.v (.st 4), .v (.sl (.st 0)), .v (.sl (.st 0)), .v (.st 1), .v (.st 1)] → Option (YR D [.v (.st 4)])) : LL D (YR D fd62.ts) := sealF (LiF D fd62 (tabH D (h62 G)))
noncomputable def L62_0 (G : YR D [.v (.st 4), .v (.sl (.st 0)), .v (.sl (.st 0)), .v (.st 1), .v (.st 1)] → Option (YR D [.v (.st 4)])) (v0 : S100) (v1 : List S60) (v2 : List S60) (v8 : S24) (v9 : S24) : Option (S100) := L62 G c62_0 (v0, v1, v2, v8, v9, ())
noncomputable def L62_1 (G : YR D [.v (.st 4), .v (.sl (.st 0)), .v (.sl (.st 0)), .v (.st 1), .v (.st 1)] → Option (YR D [.v (.st 4)])) (v0 : S100) (v1 : List S60) (v2 : List S60) (v8 : S24) (v9 : S24) (v12 : Int) : Option (S100) := L62 G c62_1 (v0, v1, v2, v8, v9, v12, ())
noncomputable def L62_2 (G : YR D [.v (.st 4), .v (.sl (.st 0)), .v (.sl (.st 0)), .v (.st 1), .v (.st 1)] → Option (YR D [.v (.st 4)])) (v0 : S100) (v8 : S24) (v9 : S24) : Option (S100) := L62 G c62_2 (v0, v8, v9, ())
noncomputable def L62_3 (G : YR D [.v (.st 4), .v (.sl (.st 0)), .v (.sl (.st 0)), .v (.st 1), .v (.st 1)] → Option (YR D [.v (.st 4)])) (v0 : S100) (v1 : List S60) (v9 : S24) (v13 : S24) (v15 : List S60) : Option (S100) := L62 G c62_3 (v0, v1, v9, v13, v15, ())
theorem F62_n (n : Nat) (x0 : S100) (x1 : List S60) (x2 : List S60) (x3 : S24) (x4 : S24) : F62r (Gn D fd62 h62 (n + 1)) x0 x1 x2 x3 x4 = F62g (Gn D fd62 h62 n) x0 x1 x2 x3 x4 := rfl
theorem F62_of (n : Nat) (x0 : S100) (x1 : List S60) (x2 : List S60) (x3 : S24) (x4 : S24) (y : S100) (h : F62r (Gn D fd62 h62 n) x0 x1 x2 x3 x4 = some y) : F62 x0 x1 x2 x3 x4 = some y := (congrFun (sealF_eq _) (x0, x1, x2, x3, x4)).trans (Gr_of h62_mono h)
/-- slices.Clone[[]api.Span,api.Span] -/
noncomputable def fd63 : FD := ⟨63, bodyF Tryz.f63, Tryz.f63.results.toList, Tryz.f63.ntmps, [.val], [.v (.sl (.st 3))], [.v (.sl (.st 3))], 1, [], 5000, some ⟨[.val], [(0, none)]⟩⟩
noncomputable def G63 : YR D [.v (.sl (.st 3))] → Option (YR D [.v (.sl (.st 3))]) := sealF fun x => grd (fit (0 + x.length) 32) (some x)
noncomputable def E63 : En D := ⟨63, [.val], [.v (.sl (.st 3))], [.v (.sl (.st 3))], 1, G63⟩
noncomputable def F63 (x0 : List S104) : Option (List S104) := G63 (x0)
theorem F63_eq (x0 : List S104) : F63 x0 = grd (fit (0 + x0.length) 32) (some x0) := congrFun (sealF_eq _) x0
theorem E63_ok : FnOk D PP E63 := by
  refine FnX.ok (xm := ⟨[.val], [(0, none)]⟩) (FnX.rows (t := .st 3) (fun y hy => ?_) (fun y hy => ?_) (fun a l y hy => ?_)) (by kernel_rfl)
  · obtain rfl : [] = y := Option.some.inj ((show some [] = grd (fit (0 + 0) 32) (some []) by kernel_rfl).trans hy)
    exact fdSX lw fd63 Tryz.func63 (by kernel_rfl) (by kernel_rfl) (by kernel_rfl) (enters_of (c := bodyF Tryz.f63) Tryz.func63 (by kernel_rfl) (by kernel_rfl)) (by kernel_rfl) rfl (by kernel_rfl)
  · obtain rfl : [] = y := Option.some.inj ((show some [] = grd (fit (0 + 0) 32) (some []) by kernel_rfl).trans hy)
    exact fdSX lw fd63 Tryz.func63 (by kernel_rfl) (by kernel_rfl) (by kernel_rfl) (enters_of (c := bodyF Tryz.f63) Tryz.func63 (by kernel_rfl) (by kernel_rfl)) (by kernel_rfl) rfl (by kernel_rfl)
  · exact fdSX lw fd63 Tryz.func63 (by kernel_rfl) (by kernel_rfl) (by kernel_rfl) (enters_of (c := bodyF Tryz.f63) Tryz.func63 (by kernel_rfl) (by kernel_rfl)) (by kernel_rfl) rfl ((show entW D fd63 (tabH D []) (LiF D fd63 (tabH D [])) [.c (.lst (.st 3) (a :: l))] = grd (fit (0 + (a :: l).length) 32) (some (a :: l)) by kernel_rfl).trans hy)
/-- sturm.Isolate -/
def c26_0 : Cut := ⟨7, [.v 0 (.sl (.st 0)), .box 5 5 (.st 1) 0 [], .box 6 6 (.st 1) 0 [], .box 7 7 (.st 1) 0 []]⟩
noncomputable def fd26 : FD := ⟨26, bodyF Tryz.f26, Tryz.f26.results.toList, Tryz.f26.ntmps, [.val, .val, .val, .val], [.v (.sl (.st 0)), .v (.st 1), .v (.st 1), .v (.st 1)], [.v (.sl (.st 3)), .v (.int .i64)], 2, [c26_0], 5000, none⟩
noncomputable def h26 : List (En D) := [E29, E38, E43, E44, E62, E63]
noncomputable def G26 : YR D [.v (.sl (.st 0)), .v (.st 1), .v (.st 1), .v (.st 1)] → Option (YR D [.v (.sl (.st 3)), .v (.int .i64)]) := sealF (Gof D fd26 (tabH D h26))
noncomputable def E26 : En D := ⟨26, [.val, .val, .val, .val], [.v (.sl (.st 0)), .v (.st 1), .v (.st 1), .v (.st 1)], [.v (.sl (.st 3)), .v (.int .i64)], 2, G26⟩
noncomputable def F26 (x0 : List S60) (x1 : S24) (x2 : S24) (x3 : S24) : Option (List S104 × Int) := G26 (x0, x1, x2, x3)
noncomputable def L26 : LL D (YR D fd26.ts) := sealF (LiF D fd26 (tabH D h26))
noncomputable def L26_0 (v0 : List S60) (v5 : S24) (v6 : S24) (v7 : S24) : Option (List S104 × Int) := L26 c26_0 (v0, v5, v6, v7, ())
theorem E26_ok : FnOk D PP E26 := fdS_ok lw fd26 (l := h26) (by kernel_rfl) (.cons E29_ok (.cons E38_ok (.cons E43_ok (.cons E44_ok (.cons E62_ok (.cons E63_ok .nil)))))) Tryz.func26 (by kernel_rfl) (by kernel_rfl) (by kernel_rfl) (enters_of (c := bodyF Tryz.f26) Tryz.func26 (by kernel_rfl) (by kernel_rfl)) (by kernel_rfl) (by kernel_rfl)
/-- pochoirlaw06.awake -/
noncomputable def fd6 : FD := ⟨6, bodyF Tryz.f6, Tryz.f6.results.toList, Tryz.f6.ntmps, [], [], [.v (.bool)], 1, [], 5000, none⟩
noncomputable def h6 : List (En D) := [E9, E16, E17, E21, E26]
noncomputable def G6 : YR D [] → Option (YR D [.v (.bool)]) := sealF (Gof D fd6 (tabH D h6))
noncomputable def E6 : En D := ⟨6, [], [], [.v (.bool)], 1, G6⟩
noncomputable def F6 : Option (Bool) := G6 ()
theorem E6_ok : FnOk D PP E6 := fdS_ok lw fd6 (l := h6) (by kernel_rfl) (.cons E9_ok (.cons E16_ok (.cons E17_ok (.cons E21_ok (.cons E26_ok .nil))))) Tryz.func6 (by kernel_rfl) (by kernel_rfl) (by kernel_rfl) (enters_of (c := bodyF Tryz.f6) Tryz.func6 (by kernel_rfl) (by kernel_rfl)) (by kernel_rfl) (by kernel_rfl)
/-- pochoirlaw06.small -/
def c7_0 : Cut := ⟨116, [.v 8 (.sl (.st 0)), .v 9 (.int .i64), .v 10 (.int .i64)]⟩
noncomputable def fd7 : FD := ⟨7, bodyF Tryz.f7, Tryz.f7.results.toList, Tryz.f7.ntmps, [.val], [.v (.sl (.st 0))], [.v (.bool)], 1, [c7_0], 5000, none⟩
noncomputable def h7 : List (En D) := []
noncomputable def G7 : YR D [.v (.sl (.st 0))] → Option (YR D [.v (.bool)]) := sealF (Gof D fd7 (tabH D h7))
noncomputable def E7 : En D := ⟨7, [.val], [.v (.sl (.st 0))], [.v (.bool)], 1, G7⟩
noncomputable def F7 (x0 : List S60) : Option (Bool) := G7 (x0)
noncomputable def L7 : LL D (YR D fd7.ts) := sealF (LiF D fd7 (tabH D h7))
noncomputable def L7_0 (v8 : List S60) (v9 : Int) (v10 : Int) : Option (Bool) := L7 c7_0 (v8, v9, v10, ())
theorem E7_ok : FnOk D PP E7 := fdS_ok lw fd7 (l := h7) (by kernel_rfl) (.nil) Tryz.func7 (by kernel_rfl) (by kernel_rfl) (by kernel_rfl) (enters_of (c := bodyF Tryz.f7) Tryz.func7 (by kernel_rfl) (by kernel_rfl)) (by kernel_rfl) (by kernel_rfl)
/-- pochoirref02.trim -/
def c102_0 : Cut := ⟨56, [.v 0 (.sl (.int .u64)), .v 3 (.int .i64)]⟩
noncomputable def fd102 : FD := ⟨102, bodyF Tryz.f102, Tryz.f102.results.toList, Tryz.f102.ntmps, [.val], [.v (.sl (.int .u64))], [.v (.sl (.int .u64))], 1, [c102_0], 5000, none⟩
noncomputable def h102 : List (En D) := []
noncomputable def G102 : YR D [.v (.sl (.int .u64))] → Option (YR D [.v (.sl (.int .u64))]) := sealF (Gof D fd102 (tabH D h102))
noncomputable def E102 : En D := ⟨102, [.val], [.v (.sl (.int .u64))], [.v (.sl (.int .u64))], 1, G102⟩
noncomputable def F102 (x0 : List Int) : Option (List Int) := G102 (x0)
noncomputable def L102 : LL D (YR D fd102.ts) := sealF (LiF D fd102 (tabH D h102))
noncomputable def L102_0 (v0 : List Int) (v3 : Int) : Option (List Int) := L102 c102_0 (v0, v3, ())
theorem E102_ok : FnOk D PP E102 := fdS_ok lw fd102 (l := h102) (by kernel_rfl) (.nil) Tryz.func102 (by kernel_rfl) (by kernel_rfl) (by kernel_rfl) (enters_of (c := bodyF Tryz.f102) Tryz.func102 (by kernel_rfl) (by kernel_rfl)) (by kernel_rfl) (by kernel_rfl)
/-- pochoirref02.norm -/
noncomputable def fd64 : FD := ⟨64, bodyF Tryz.f64, Tryz.f64.results.toList, Tryz.f64.ntmps, [.val, .val], [.v (.bool), .v (.sl (.int .u64))], [.v (.st 2)], 1, [], 5000, none⟩
noncomputable def h64 : List (En D) := [E102]
noncomputable def G64 : YR D [.v (.bool), .v (.sl (.int .u64))] → Option (YR D [.v (.st 2)]) := sealF (Gof D fd64 (tabH D h64))
noncomputable def E64 : En D := ⟨64, [.val, .val], [.v (.bool), .v (.sl (.int .u64))], [.v (.st 2)], 1, G64⟩
noncomputable def F64 (x0 : Bool) (x1 : List Int) : Option (S69) := G64 (x0, x1)
theorem E64_ok : FnOk D PP E64 := fdS_ok lw fd64 (l := h64) (by kernel_rfl) (.cons E102_ok .nil) Tryz.func64 (by kernel_rfl) (by kernel_rfl) (by kernel_rfl) (enters_of (c := bodyF Tryz.f64) Tryz.func64 (by kernel_rfl) (by kernel_rfl)) (by kernel_rfl) (by kernel_rfl)
/-- pochoirref02.From -/
def c27_0 : Cut := ⟨116, [.box 1 1 (.st 0) 0 [], .box 2 2 (.st 2) 0 [], .own 3 (.int .u64), .v 4 (.int .i64)]⟩
noncomputable def fd27 : FD := ⟨27, bodyF Tryz.f27, Tryz.f27.results.toList, Tryz.f27.ntmps, [.val], [.v (.st 0)], [.v (.st 2)], 1, [c27_0], 5000, none⟩
noncomputable def h27 : List (En D) := [E64]
noncomputable def G27 : YR D [.v (.st 0)] → Option (YR D [.v (.st 2)]) := sealF (Gof D fd27 (tabH D h27))
noncomputable def E27 : En D := ⟨27, [.val], [.v (.st 0)], [.v (.st 2)], 1, G27⟩
noncomputable def F27 (x0 : S60) : Option (S69) := G27 (x0)
noncomputable def L27 : LL D (YR D fd27.ts) := sealF (LiF D fd27 (tabH D h27))
noncomputable def L27_0 (v1 : S60) (v2 : S69) (v3 : List Int) (v4 : Int) : Option (S69) := L27 c27_0 (v1, v2, v3, v4, ())
theorem E27_ok : FnOk D PP E27 := fdS_ok lw fd27 (l := h27) (by kernel_rfl) (.cons E64_ok .nil) Tryz.func27 (by kernel_rfl) (by kernel_rfl) (by kernel_rfl) (enters_of (c := bodyF Tryz.f27) Tryz.func27 (by kernel_rfl) (by kernel_rfl)) (by kernel_rfl) (by kernel_rfl)
/-- pochoirref02.Sign -/
noncomputable def fd41 : FD := ⟨41, bodyF Tryz.f41, Tryz.f41.results.toList, Tryz.f41.ntmps, [.val], [.v (.st 2)], [.v (.int .i64)], 1, [], 5000, none⟩
noncomputable def h41 : List (En D) := []
noncomputable def G41 : YR D [.v (.st 2)] → Option (YR D [.v (.int .i64)]) := sealF (Gof D fd41 (tabH D h41))
noncomputable def E41 : En D := ⟨41, [.val], [.v (.st 2)], [.v (.int .i64)], 1, G41⟩
noncomputable def F41 (x0 : S69) : Option (Int) := G41 (x0)
theorem E41_ok : FnOk D PP E41 := fdS_ok lw fd41 (l := h41) (by kernel_rfl) (.nil) Tryz.func41 (by kernel_rfl) (by kernel_rfl) (by kernel_rfl) (enters_of (c := bodyF Tryz.f41) Tryz.func41 (by kernel_rfl) (by kernel_rfl)) (by kernel_rfl) (by kernel_rfl)
/-- pochoirref05.Trim -/
def c28_0 : Cut := ⟨56, [.v 0 (.sl (.st 2)), .v 3 (.int .i64)]⟩
noncomputable def fd28 : FD := ⟨28, bodyF Tryz.f28, Tryz.f28.results.toList, Tryz.f28.ntmps, [.val], [.v (.sl (.st 2))], [.v (.sl (.st 2))], 1, [c28_0], 5000, none⟩
noncomputable def h28 : List (En D) := [E41]
noncomputable def G28 : YR D [.v (.sl (.st 2))] → Option (YR D [.v (.sl (.st 2))]) := sealF (Gof D fd28 (tabH D h28))
noncomputable def E28 : En D := ⟨28, [.val], [.v (.sl (.st 2))], [.v (.sl (.st 2))], 1, G28⟩
noncomputable def F28 (x0 : List S69) : Option (List S69) := G28 (x0)
noncomputable def L28 : LL D (YR D fd28.ts) := sealF (LiF D fd28 (tabH D h28))
noncomputable def L28_0 (v0 : List S69) (v3 : Int) : Option (List S69) := L28 c28_0 (v0, v3, ())
theorem E28_ok : FnOk D PP E28 := fdS_ok lw fd28 (l := h28) (by kernel_rfl) (.cons E41_ok .nil) Tryz.func28 (by kernel_rfl) (by kernel_rfl) (by kernel_rfl) (enters_of (c := bodyF Tryz.f28) Tryz.func28 (by kernel_rfl) (by kernel_rfl)) (by kernel_rfl) (by kernel_rfl)
/-- pochoirref05.From -/
def c8_0 : Cut := ⟨116, [.v 0 (.sl (.st 0)), .own 3 (.st 2), .v 4 (.int .i64)]⟩
noncomputable def fd8 : FD := ⟨8, bodyF Tryz.f8, Tryz.f8.results.toList, Tryz.f8.ntmps, [.val], [.v (.sl (.st 0))], [.v (.sl (.st 2))], 1, [c8_0], 5000, none⟩
noncomputable def h8 : List (En D) := [E27, E28]
noncomputable def G8 : YR D [.v (.sl (.st 0))] → Option (YR D [.v (.sl (.st 2))]) := sealF (Gof D fd8 (tabH D h8))
noncomputable def E8 : En D := ⟨8, [.val], [.v (.sl (.st 0))], [.v (.sl (.st 2))], 1, G8⟩
noncomputable def F8 (x0 : List S60) : Option (List S69) := G8 (x0)
noncomputable def L8 : LL D (YR D fd8.ts) := sealF (LiF D fd8 (tabH D h8))
noncomputable def L8_0 (v0 : List S60) (v3 : List S69) (v4 : Int) : Option (List S69) := L8 c8_0 (v0, v3, v4, ())
theorem E8_ok : FnOk D PP E8 := fdS_ok lw fd8 (l := h8) (by kernel_rfl) (.cons E27_ok (.cons E28_ok .nil)) Tryz.func8 (by kernel_rfl) (by kernel_rfl) (by kernel_rfl) (enters_of (c := bodyF Tryz.f8) Tryz.func8 (by kernel_rfl) (by kernel_rfl)) (by kernel_rfl) (by kernel_rfl)
/-- pochoirref02.Of -/
def c73_0 : Cut := ⟨15, [.v 0 (.int .i64), .box 2 2 (.st 2) 0 [], .v 3 (.int .u64)]⟩
noncomputable def fd73 : FD := ⟨73, bodyF Tryz.f73, Tryz.f73.results.toList, Tryz.f73.ntmps, [.val], [.v (.int .i64)], [.v (.st 2)], 1, [c73_0], 5000, none⟩
noncomputable def h73 : List (En D) := [E64]
noncomputable def G73 : YR D [.v (.int .i64)] → Option (YR D [.v (.st 2)]) := sealF (Gof D fd73 (tabH D h73))
noncomputable def E73 : En D := ⟨73, [.val], [.v (.int .i64)], [.v (.st 2)], 1, G73⟩
noncomputable def F73 (x0 : Int) : Option (S69) := G73 (x0)
noncomputable def L73 : LL D (YR D fd73.ts) := sealF (LiF D fd73 (tabH D h73))
noncomputable def L73_0 (v0 : Int) (v2 : S69) (v3 : Int) : Option (S69) := L73 c73_0 (v0, v2, v3, ())
theorem E73_ok : FnOk D PP E73 := fdS_ok lw fd73 (l := h73) (by kernel_rfl) (.cons E64_ok .nil) Tryz.func73 (by kernel_rfl) (by kernel_rfl) (by kernel_rfl) (enters_of (c := bodyF Tryz.f73) Tryz.func73 (by kernel_rfl) (by kernel_rfl)) (by kernel_rfl) (by kernel_rfl)
/-- pochoirref02.at -/
noncomputable def fd77 : FD := ⟨77, bodyF Tryz.f77, Tryz.f77.results.toList, Tryz.f77.ntmps, [.val, .val], [.v (.sl (.int .u64)), .v (.int .i64)], [.v (.int .u64)], 1, [], 5000, none⟩
noncomputable def h77 : List (En D) := []
noncomputable def G77 : YR D [.v (.sl (.int .u64)), .v (.int .i64)] → Option (YR D [.v (.int .u64)]) := sealF (Gof D fd77 (tabH D h77))
noncomputable def E77 : En D := ⟨77, [.val, .val], [.v (.sl (.int .u64)), .v (.int .i64)], [.v (.int .u64)], 1, G77⟩
noncomputable def F77 (x0 : List Int) (x1 : Int) : Option (Int) := G77 (x0, x1)
theorem E77_ok : FnOk D PP E77 := fdS_ok lw fd77 (l := h77) (by kernel_rfl) (.nil) Tryz.func77 (by kernel_rfl) (by kernel_rfl) (by kernel_rfl) (enters_of (c := bodyF Tryz.f77) Tryz.func77 (by kernel_rfl) (by kernel_rfl)) (by kernel_rfl) (by kernel_rfl)
/-- pochoirref02.Mul -/
def c72_0 : Cut := ⟨116, [.box 2 2 (.st 2) 0 [], .box 3 3 (.st 2) 0 [], .box 4 4 (.st 2) 0 [], .own 5 (.int .u64), .v 6 (.int .i64)]⟩
def c72_1 : Cut := ⟨14924, [.box 2 2 (.st 2) 0 [], .box 3 3 (.st 2) 0 [], .box 4 4 (.st 2) 0 [], .own 5 (.int .u64), .v 6 (.int .i64), .v 7 (.int .u64), .v 8 (.int .i64)]⟩
def c72_2 : Cut := ⟨29849, [.box 2 2 (.st 2) 0 [], .box 3 3 (.st 2) 0 [], .box 4 4 (.st 2) 0 [], .own 5 (.int .u64), .v 6 (.int .i64), .v 7 (.int .u64), .v 8 (.int .i64)]⟩
noncomputable def fd72 : FD := ⟨72, bodyF Tryz.f72, Tryz.f72.results.toList, Tryz.f72.ntmps, [.val, .val], [.v (.st 2), .v (.st 2)], [.v (.st 2)], 1, [c72_0, c72_1, c72_2], 5000, none⟩
noncomputable def h72 : List (En D) := [E64, E77]
noncomputable def G72 : YR D [.v (.st 2), .v (.st 2)] → Option (YR D [.v (.st 2)]) := sealF (Gof D fd72 (tabH D h72))
noncomputable def E72 : En D := ⟨72, [.val, .val], [.v (.st 2), .v (.st 2)], [.v (.st 2)], 1, G72⟩
noncomputable def F72 (x0 : S69) (x1 : S69) : Option (S69) := G72 (x0, x1)
noncomputable def L72 : LL D (YR D fd72.ts) := sealF (LiF D fd72 (tabH D h72))
noncomputable def L72_0 (v2 : S69) (v3 : S69) (v4 : S69) (v5 : List Int) (v6 : Int) : Option (S69) := L72 c72_0 (v2, v3, v4, v5, v6, ())
noncomputable def L72_1 (v2 : S69) (v3 : S69) (v4 : S69) (v5 : List Int) (v6 : Int) (v7 : Int) (v8 : Int) : Option (S69) := L72 c72_1 (v2, v3, v4, v5, v6, v7, v8, ())
noncomputable def L72_2 (v2 : S69) (v3 : S69) (v4 : S69) (v5 : List Int) (v6 : Int) (v7 : Int) (v8 : Int) : Option (S69) := L72 c72_2 (v2, v3, v4, v5, v6, v7, v8, ())
theorem E72_ok : FnOk D PP E72 := fdS_ok lw fd72 (l := h72) (by kernel_rfl) (.cons E64_ok (.cons E77_ok .nil)) Tryz.func72 (by kernel_rfl) (by kernel_rfl) (by kernel_rfl) (enters_of (c := bodyF Tryz.f72) Tryz.func72 (by kernel_rfl) (by kernel_rfl)) (by kernel_rfl) (by kernel_rfl)
/-- pochoirref05.Derive -/
def c33_0 : Cut := ⟨116, [.v 0 (.sl (.st 2)), .own 3 (.st 2), .v 4 (.int .i64)]⟩
noncomputable def fd33 : FD := ⟨33, bodyF Tryz.f33, Tryz.f33.results.toList, Tryz.f33.ntmps, [.val], [.v (.sl (.st 2))], [.v (.sl (.st 2))], 1, [c33_0], 5000, none⟩
noncomputable def h33 : List (En D) := [E28, E72, E73]
noncomputable def G33 : YR D [.v (.sl (.st 2))] → Option (YR D [.v (.sl (.st 2))]) := sealF (Gof D fd33 (tabH D h33))
noncomputable def E33 : En D := ⟨33, [.val], [.v (.sl (.st 2))], [.v (.sl (.st 2))], 1, G33⟩
noncomputable def F33 (x0 : List S69) : Option (List S69) := G33 (x0)
noncomputable def L33 : LL D (YR D fd33.ts) := sealF (LiF D fd33 (tabH D h33))
noncomputable def L33_0 (v0 : List S69) (v3 : List S69) (v4 : Int) : Option (List S69) := L33 c33_0 (v0, v3, v4, ())
theorem E33_ok : FnOk D PP E33 := fdS_ok lw fd33 (l := h33) (by kernel_rfl) (.cons E28_ok (.cons E72_ok (.cons E73_ok .nil))) Tryz.func33 (by kernel_rfl) (by kernel_rfl) (by kernel_rfl) (enters_of (c := bodyF Tryz.f33) Tryz.func33 (by kernel_rfl) (by kernel_rfl)) (by kernel_rfl) (by kernel_rfl)
/-- pochoirref05.at -/
noncomputable def fd75 : FD := ⟨75, bodyF Tryz.f75, Tryz.f75.results.toList, Tryz.f75.ntmps, [.val, .val], [.v (.sl (.st 2)), .v (.int .i64)], [.v (.st 2)], 1, [], 5000, none⟩
noncomputable def h75 : List (En D) := []
noncomputable def G75 : YR D [.v (.sl (.st 2)), .v (.int .i64)] → Option (YR D [.v (.st 2)]) := sealF (Gof D fd75 (tabH D h75))
noncomputable def E75 : En D := ⟨75, [.val, .val], [.v (.sl (.st 2)), .v (.int .i64)], [.v (.st 2)], 1, G75⟩
noncomputable def F75 (x0 : List S69) (x1 : Int) : Option (S69) := G75 (x0, x1)
theorem E75_ok : FnOk D PP E75 := fdS_ok lw fd75 (l := h75) (by kernel_rfl) (.nil) Tryz.func75 (by kernel_rfl) (by kernel_rfl) (by kernel_rfl) (enters_of (c := bodyF Tryz.f75) Tryz.func75 (by kernel_rfl) (by kernel_rfl)) (by kernel_rfl) (by kernel_rfl)
/-- pochoirref02.Neg -/
noncomputable def fd74 : FD := ⟨74, bodyF Tryz.f74, Tryz.f74.results.toList, Tryz.f74.ntmps, [.val], [.v (.st 2)], [.v (.st 2)], 1, [], 5000, none⟩
noncomputable def h74 : List (En D) := [E64]
noncomputable def G74 : YR D [.v (.st 2)] → Option (YR D [.v (.st 2)]) := sealF (Gof D fd74 (tabH D h74))
noncomputable def E74 : En D := ⟨74, [.val], [.v (.st 2)], [.v (.st 2)], 1, G74⟩
noncomputable def F74 (x0 : S69) : Option (S69) := G74 (x0)
theorem E74_ok : FnOk D PP E74 := fdS_ok lw fd74 (l := h74) (by kernel_rfl) (.cons E64_ok .nil) Tryz.func74 (by kernel_rfl) (by kernel_rfl) (by kernel_rfl) (enters_of (c := bodyF Tryz.f74) Tryz.func74 (by kernel_rfl) (by kernel_rfl)) (by kernel_rfl) (by kernel_rfl)
/-- pochoirref02.plus -/
def c108_0 : Cut := ⟨244, [.v 0 (.sl (.int .u64)), .v 1 (.sl (.int .u64)), .own 5 (.int .u64), .v 6 (.int .u64), .v 7 (.int .i64)]⟩
def c108_1 : Cut := ⟨489, [.v 0 (.sl (.int .u64)), .v 1 (.sl (.int .u64)), .own 5 (.int .u64), .v 6 (.int .u64), .v 7 (.int .i64)]⟩
noncomputable def fd108 : FD := ⟨108, bodyF Tryz.f108, Tryz.f108.results.toList, Tryz.f108.ntmps, [.val, .val], [.v (.sl (.int .u64)), .v (.sl (.int .u64))], [.v (.sl (.int .u64))], 1, [c108_0, c108_1], 5000, none⟩
noncomputable def h108 : List (En D) := [E77]
noncomputable def G108 : YR D [.v (.sl (.int .u64)), .v (.sl (.int .u64))] → Option (YR D [.v (.sl (.int .u64))]) := sealF (Gof D fd108 (tabH D h108))
noncomputable def E108 : En D := ⟨108, [.val, .val], [.v (.sl (.int .u64)), .v (.sl (.int .u64))], [.v (.sl (.int .u64))], 1, G108⟩
noncomputable def F108 (x0 : List Int) (x1 : List Int) : Option (List Int) := G108 (x0, x1)
noncomputable def L108 : LL D (YR D fd108.ts) := sealF (LiF D fd108 (tabH D h108))
noncomputable def L108_0 (v0 : List Int) (v1 : List Int) (v5 : List Int) (v6 : Int) (v7 : Int) : Option (List Int) := L108 c108_0 (v0, v1, v5, v6, v7, ())
noncomputable def L108_1 (v0 : List Int) (v1 : List Int) (v5 : List Int) (v6 : Int) (v7 : Int) : Option (List Int) := L108 c108_1 (v0, v1, v5, v6, v7, ())
theorem E108_ok : FnOk D PP E108 := fdS_ok lw fd108 (l := h108) (by kernel_rfl) (.cons E77_ok .nil) Tryz.func108 (by kernel_rfl) (by kernel_rfl) (by kernel_rfl) (enters_of (c := bodyF Tryz.f108) Tryz.func108 (by kernel_rfl) (by kernel_rfl)) (by kernel_rfl) (by kernel_rfl)
/-- pochoirref02.less -/
def c109_0 : Cut := ⟨116, [.v 0 (.sl (.int .u64)), .v 1 (.sl (.int .u64)), .v 5 (.int .i64)]⟩
noncomputable def fd109 : FD := ⟨109, bodyF Tryz.f109, Tryz.f109.results.toList, Tryz.f109.ntmps, [.val, .val], [.v (.sl (.int .u64)), .v (.sl (.int .u64))], [.v (.int .i64)], 1, [c109_0], 5000, none⟩
noncomputable def h109 : List (En D) := []
noncomputable def G109 : YR D [.v (.sl (.int .u64)), .v (.sl (.int .u64))] → Option (YR D [.v (.int .i64)]) := sealF (Gof D fd109 (tabH D h109))
noncomputable def E109 : En D := ⟨109, [.val, .val], [.v (.sl (.int .u64)), .v (.sl (.int .u64))], [.v (.int .i64)], 1, G109⟩
noncomputable def F109 (x0 : List Int) (x1 : List Int) : Option (Int) := G109 (x0, x1)
noncomputable def L109 : LL D (YR D fd109.ts) := sealF (LiF D fd109 (tabH D h109))
noncomputable def L109_0 (v0 : List Int) (v1 : List Int) (v5 : Int) : Option (Int) := L109 c109_0 (v0, v1, v5, ())
theorem E109_ok : FnOk D PP E109 := fdS_ok lw fd109 (l := h109) (by kernel_rfl) (.nil) Tryz.func109 (by kernel_rfl) (by kernel_rfl) (by kernel_rfl) (enters_of (c := bodyF Tryz.f109) Tryz.func109 (by kernel_rfl) (by kernel_rfl)) (by kernel_rfl) (by kernel_rfl)
/-- pochoirref02.minus -/
def c110_0 : Cut := ⟨244, [.v 0 (.sl (.int .u64)), .v 1 (.sl (.int .u64)), .own 5 (.int .u64), .v 6 (.int .u64), .v 7 (.int .i64)]⟩
noncomputable def fd110 : FD := ⟨110, bodyF Tryz.f110, Tryz.f110.results.toList, Tryz.f110.ntmps, [.val, .val], [.v (.sl (.int .u64)), .v (.sl (.int .u64))], [.v (.sl (.int .u64))], 1, [c110_0], 5000, none⟩
noncomputable def h110 : List (En D) := [E77]
noncomputable def G110 : YR D [.v (.sl (.int .u64)), .v (.sl (.int .u64))] → Option (YR D [.v (.sl (.int .u64))]) := sealF (Gof D fd110 (tabH D h110))
noncomputable def E110 : En D := ⟨110, [.val, .val], [.v (.sl (.int .u64)), .v (.sl (.int .u64))], [.v (.sl (.int .u64))], 1, G110⟩
noncomputable def F110 (x0 : List Int) (x1 : List Int) : Option (List Int) := G110 (x0, x1)
noncomputable def L110 : LL D (YR D fd110.ts) := sealF (LiF D fd110 (tabH D h110))
noncomputable def L110_0 (v0 : List Int) (v1 : List Int) (v5 : List Int) (v6 : Int) (v7 : Int) : Option (List Int) := L110 c110_0 (v0, v1, v5, v6, v7, ())
theorem E110_ok : FnOk D PP E110 := fdS_ok lw fd110 (l := h110) (by kernel_rfl) (.cons E77_ok .nil) Tryz.func110 (by kernel_rfl) (by kernel_rfl) (by kernel_rfl) (enters_of (c := bodyF Tryz.f110) Tryz.func110 (by kernel_rfl) (by kernel_rfl)) (by kernel_rfl) (by kernel_rfl)
/-- pochoirref02.Add -/
noncomputable def fd81 : FD := ⟨81, bodyF Tryz.f81, Tryz.f81.results.toList, Tryz.f81.ntmps, [.val, .val], [.v (.st 2), .v (.st 2)], [.v (.st 2)], 1, [], 5000, none⟩
noncomputable def h81 : List (En D) := [E64, E108, E109, E110]
noncomputable def G81 : YR D [.v (.st 2), .v (.st 2)] → Option (YR D [.v (.st 2)]) := sealF (Gof D fd81 (tabH D h81))
noncomputable def E81 : En D := ⟨81, [.val, .val], [.v (.st 2), .v (.st 2)], [.v (.st 2)], 1, G81⟩
noncomputable def F81 (x0 : S69) (x1 : S69) : Option (S69) := G81 (x0, x1)
theorem E81_ok : FnOk D PP E81 := fdS_ok lw fd81 (l := h81) (by kernel_rfl) (.cons E64_ok (.cons E108_ok (.cons E109_ok (.cons E110_ok .nil)))) Tryz.func81 (by kernel_rfl) (by kernel_rfl) (by kernel_rfl) (enters_of (c := bodyF Tryz.f81) Tryz.func81 (by kernel_rfl) (by kernel_rfl)) (by kernel_rfl) (by kernel_rfl)
/-- pochoirref02.Sub -/
noncomputable def fd76 : FD := ⟨76, bodyF Tryz.f76, Tryz.f76.results.toList, Tryz.f76.ntmps, [.val, .val], [.v (.st 2), .v (.st 2)], [.v (.st 2)], 1, [], 5000, none⟩
noncomputable def h76 : List (En D) := [E74, E81]
noncomputable def G76 : YR D [.v (.st 2), .v (.st 2)] → Option (YR D [.v (.st 2)]) := sealF (Gof D fd76 (tabH D h76))
noncomputable def E76 : En D := ⟨76, [.val, .val], [.v (.st 2), .v (.st 2)], [.v (.st 2)], 1, G76⟩
noncomputable def F76 (x0 : S69) (x1 : S69) : Option (S69) := G76 (x0, x1)
theorem E76_ok : FnOk D PP E76 := fdS_ok lw fd76 (l := h76) (by kernel_rfl) (.cons E74_ok (.cons E81_ok .nil)) Tryz.func76 (by kernel_rfl) (by kernel_rfl) (by kernel_rfl) (enters_of (c := bodyF Tryz.f76) Tryz.func76 (by kernel_rfl) (by kernel_rfl)) (by kernel_rfl) (by kernel_rfl)
/-- pochoirref05.Rest -/
def c35_0 : Cut := ⟨56, [.v 0 (.sl (.st 2)), .v 1 (.sl (.st 2)), .box 5 5 (.st 2) 0 []]⟩
def c35_1 : Cut := ⟨14516, [.v 0 (.sl (.st 2)), .v 1 (.sl (.st 2)), .box 5 5 (.st 2) 0 [], .own 6 (.st 2), .box 7 7 (.st 2) 0 [], .v 8 (.int .i64)]⟩
def c35_2 : Cut := ⟨929063, [.v 0 (.sl (.st 2)), .v 1 (.sl (.st 2)), .box 5 5 (.st 2) 0 [], .own 6 (.st 2), .box 7 7 (.st 2) 0 [], .v 8 (.int .i64), .box 9 9 (.st 2) 0 [], .box 10 10 (.st 2) 0 []]⟩
noncomputable def fd35 : FD := ⟨35, bodyF Tryz.f35, Tryz.f35.results.toList, Tryz.f35.ntmps, [.val, .val], [.v (.sl (.st 2)), .v (.sl (.st 2))], [.v (.sl (.st 2))], 1, [c35_0, c35_1, c35_2], 5000, none⟩
noncomputable def h35 : List (En D) := [E28, E72, E74, E75, E76]
noncomputable def G35 : YR D [.v (.sl (.st 2)), .v (.sl (.st 2))] → Option (YR D [.v (.sl (.st 2))]) := sealF (Gof D fd35 (tabH D h35))
noncomputable def E35 : En D := ⟨35, [.val, .val], [.v (.sl (.st 2)), .v (.sl (.st 2))], [.v (.sl (.st 2))], 1, G35⟩
noncomputable def F35 (x0 : List S69) (x1 : List S69) : Option (List S69) := G35 (x0, x1)
noncomputable def L35 : LL D (YR D fd35.ts) := sealF (LiF D fd35 (tabH D h35))
noncomputable def L35_0 (v0 : List S69) (v1 : List S69) (v5 : S69) : Option (List S69) := L35 c35_0 (v0, v1, v5, ())
noncomputable def L35_1 (v0 : List S69) (v1 : List S69) (v5 : S69) (v6 : List S69) (v7 : S69) (v8 : Int) : Option (List S69) := L35 c35_1 (v0, v1, v5, v6, v7, v8, ())
noncomputable def L35_2 (v0 : List S69) (v1 : List S69) (v5 : S69) (v6 : List S69) (v7 : S69) (v8 : Int) (v9 : S69) (v10 : S69) : Option (List S69) := L35 c35_2 (v0, v1, v5, v6, v7, v8, v9, v10, ())
theorem E35_ok : FnOk D PP E35 := fdS_ok lw fd35 (l := h35) (by kernel_rfl) (.cons E28_ok (.cons E72_ok (.cons E74_ok (.cons E75_ok (.cons E76_ok .nil))))) Tryz.func35 (by kernel_rfl) (by kernel_rfl) (by kernel_rfl) (enters_of (c := bodyF Tryz.f35) Tryz.func35 (by kernel_rfl) (by kernel_rfl)) (by kernel_rfl) (by kernel_rfl)
/-- pochoirref05.Neg -/
def c34_0 : Cut := ⟨116, [.v 0 (.sl (.st 2)), .own 3 (.st 2), .v 4 (.int .i64)]⟩
noncomputable def fd34 : FD := ⟨34, bodyF Tryz.f34, Tryz.f34.results.toList, Tryz.f34.ntmps, [.val], [.v (.sl (.st 2))], [.v (.sl (.st 2))], 1, [c34_0], 5000, none⟩
noncomputable def h34 : List (En D) := [E74]
noncomputable def G34 : YR D [.v (.sl (.st 2))] → Option (YR D [.v (.sl (.st 2))]) := sealF (Gof D fd34 (tabH D h34))
noncomputable def E34 : En D := ⟨34, [.val], [.v (.sl (.st 2))], [.v (.sl (.st 2))], 1, G34⟩
noncomputable def F34 (x0 : List S69) : Option (List S69) := G34 (x0)
noncomputable def L34 : LL D (YR D fd34.ts) := sealF (LiF D fd34 (tabH D h34))
noncomputable def L34_0 (v0 : List S69) (v3 : List S69) (v4 : Int) : Option (List S69) := L34 c34_0 (v0, v3, v4, ())
theorem E34_ok : FnOk D PP E34 := fdS_ok lw fd34 (l := h34) (by kernel_rfl) (.cons E74_ok .nil) Tryz.func34 (by kernel_rfl) (by kernel_rfl) (by kernel_rfl) (enters_of (c := bodyF Tryz.f34) Tryz.func34 (by kernel_rfl) (by kernel_rfl)) (by kernel_rfl) (by kernel_rfl)
/-- pochoirref06.Chain -/
def c10_0 : Cut := ⟨120, [.v 0 (.sl (.st 2)), .own 3 (.sl (.st 2)), .v 4 (.sl (.st 2))]⟩
noncomputable def fd10 : FD := ⟨10, bodyF Tryz.f10, Tryz.f10.results.toList, Tryz.f10.ntmps, [.val], [.v (.sl (.st 2))], [.v (.sl (.sl (.st 2)))], 1, [c10_0], 5000, none⟩
noncomputable def h10 : List (En D) := [E33, E34, E35]
noncomputable def G10 : YR D [.v (.sl (.st 2))] → Option (YR D [.v (.sl (.sl (.st 2)))]) := sealF (Gof D fd10 (tabH D h10))
noncomputable def E10 : En D := ⟨10, [.val], [.v (.sl (.st 2))], [.v (.sl (.sl (.st 2)))], 1, G10⟩
noncomputable def F10 (x0 : List S69) : Option (List (List S69)) := G10 (x0)
noncomputable def L10 : LL D (YR D fd10.ts) := sealF (LiF D fd10 (tabH D h10))
noncomputable def L10_0 (v0 : List S69) (v3 : List (List S69)) (v4 : List S69) : Option (List (List S69)) := L10 c10_0 (v0, v3, v4, ())
theorem E10_ok : FnOk D PP E10 := fdS_ok lw fd10 (l := h10) (by kernel_rfl) (.cons E33_ok (.cons E34_ok (.cons E35_ok .nil))) Tryz.func10 (by kernel_rfl) (by kernel_rfl) (by kernel_rfl) (enters_of (c := bodyF Tryz.f10) Tryz.func10 (by kernel_rfl) (by kernel_rfl)) (by kernel_rfl) (by kernel_rfl)
/-- pochoirref02.To -/
def c37_0 : Cut := ⟨116, [.box 1 1 (.st 2) 0 [], .box 2 2 (.st 0) 0 [], .box 3 3 (.st 0) 0 [(1, none)], .v 4 (.int .i64)]⟩
noncomputable def fd37 : FD := ⟨37, bodyF Tryz.f37, Tryz.f37.results.toList, Tryz.f37.ntmps, [.val], [.v (.st 2)], [.v (.st 0)], 1, [c37_0], 5000, none⟩
noncomputable def h37 : List (En D) := [E77]
noncomputable def G37 : YR D [.v (.st 2)] → Option (YR D [.v (.st 0)]) := sealF (Gof D fd37 (tabH D h37))
noncomputable def E37 : En D := ⟨37, [.val], [.v (.st 2)], [.v (.st 0)], 1, G37⟩
noncomputable def F37 (x0 : S69) : Option (S60) := G37 (x0)
noncomputable def L37 : LL D (YR D fd37.ts) := sealF (LiF D fd37 (tabH D h37))
noncomputable def L37_0 (v1 : S69) (v2 : S60) (v3 : S60) (v4 : Int) : Option (S60) := L37 c37_0 (v1, v2, v3, v4, ())
theorem E37_ok : FnOk D PP E37 := fdS_ok lw fd37 (l := h37) (by kernel_rfl) (.cons E77_ok .nil) Tryz.func37 (by kernel_rfl) (by kernel_rfl) (by kernel_rfl) (enters_of (c := bodyF Tryz.f37) Tryz.func37 (by kernel_rfl) (by kernel_rfl)) (by kernel_rfl) (by kernel_rfl)
/-- pochoirref02.Same -/
def c36_0 : Cut := ⟨116, [.box 2 2 (.st 0) 0 [], .box 3 3 (.st 0) 0 [], .v 5 (.int .i64)]⟩
noncomputable def fd36 : FD := ⟨36, bodyF Tryz.f36, Tryz.f36.results.toList, Tryz.f36.ntmps, [.val, .val], [.v (.st 0), .v (.st 0)], [.v (.bool)], 1, [c36_0], 5000, none⟩
noncomputable def h36 : List (En D) := []
noncomputable def G36 : YR D [.v (.st 0), .v (.st 0)] → Option (YR D [.v (.bool)]) := sealF (Gof D fd36 (tabH D h36))
noncomputable def E36 : En D := ⟨36, [.val, .val], [.v (.st 0), .v (.st 0)], [.v (.bool)], 1, G36⟩
noncomputable def F36 (x0 : S60) (x1 : S60) : Option (Bool) := G36 (x0, x1)
noncomputable def L36 : LL D (YR D fd36.ts) := sealF (LiF D fd36 (tabH D h36))
noncomputable def L36_0 (v2 : S60) (v3 : S60) (v5 : Int) : Option (Bool) := L36 c36_0 (v2, v3, v5, ())
theorem E36_ok : FnOk D PP E36 := fdS_ok lw fd36 (l := h36) (by kernel_rfl) (.nil) Tryz.func36 (by kernel_rfl) (by kernel_rfl) (by kernel_rfl) (enters_of (c := bodyF Tryz.f36) Tryz.func36 (by kernel_rfl) (by kernel_rfl)) (by kernel_rfl) (by kernel_rfl)
/-- pochoirref05.Same -/
def c11_0 : Cut := ⟨116, [.v 0 (.sl (.st 0)), .v 1 (.sl (.st 2)), .v 5 (.int .i64)]⟩
noncomputable def fd11 : FD := ⟨11, bodyF Tryz.f11, Tryz.f11.results.toList, Tryz.f11.ntmps, [.val, .val], [.v (.sl (.st 0)), .v (.sl (.st 2))], [.v (.bool)], 1, [c11_0], 5000, none⟩
noncomputable def h11 : List (En D) := [E36, E37]
noncomputable def G11 : YR D [.v (.sl (.st 0)), .v (.sl (.st 2))] → Option (YR D [.v (.bool)]) := sealF (Gof D fd11 (tabH D h11))
noncomputable def E11 : En D := ⟨11, [.val, .val], [.v (.sl (.st 0)), .v (.sl (.st 2))], [.v (.bool)], 1, G11⟩
noncomputable def F11 (x0 : List S60) (x1 : List S69) : Option (Bool) := G11 (x0, x1)
noncomputable def L11 : LL D (YR D fd11.ts) := sealF (LiF D fd11 (tabH D h11))
noncomputable def L11_0 (v0 : List S60) (v1 : List S69) (v5 : Int) : Option (Bool) := L11 c11_0 (v0, v1, v5, ())
theorem E11_ok : FnOk D PP E11 := fdS_ok lw fd11 (l := h11) (by kernel_rfl) (.cons E36_ok (.cons E37_ok .nil)) Tryz.func11 (by kernel_rfl) (by kernel_rfl) (by kernel_rfl) (enters_of (c := bodyF Tryz.f11) Tryz.func11 (by kernel_rfl) (by kernel_rfl)) (by kernel_rfl) (by kernel_rfl)
/-- pochoirref03.size -/
noncomputable def fd54 : FD := ⟨54, bodyF Tryz.f54, Tryz.f54.results.toList, Tryz.f54.ntmps, [.val], [.v (.int .i64)], [.v (.int .u64)], 1, [], 5000, none⟩
noncomputable def h54 : List (En D) := []
noncomputable def G54 : YR D [.v (.int .i64)] → Option (YR D [.v (.int .u64)]) := sealF (Gof D fd54 (tabH D h54))
noncomputable def E54 : En D := ⟨54, [.val], [.v (.int .i64)], [.v (.int .u64)], 1, G54⟩
noncomputable def F54 (x0 : Int) : Option (Int) := G54 (x0)
theorem E54_ok : FnOk D PP E54 := fdS_ok lw fd54 (l := h54) (by kernel_rfl) (.nil) Tryz.func54 (by kernel_rfl) (by kernel_rfl) (by kernel_rfl) (enters_of (c := bodyF Tryz.f54) Tryz.func54 (by kernel_rfl) (by kernel_rfl)) (by kernel_rfl) (by kernel_rfl)
/-- pochoirref03.common -/
def c53_0 : Cut := ⟨24, [.v 0 (.int .u64), .v 1 (.int .u64)]⟩
noncomputable def fd53 : FD := ⟨53, bodyF Tryz.f53, Tryz.f53.results.toList, Tryz.f53.ntmps, [.val, .val], [.v (.int .u64), .v (.int .u64)], [.v (.int .u64)], 1, [c53_0], 5000, none⟩
noncomputable def h53 : List (En D) := []
noncomputable def G53 : YR D [.v (.int .u64), .v (.int .u64)] → Option (YR D [.v (.int .u64)]) := sealF (Gof D fd53 (tabH D h53))
noncomputable def E53 : En D := ⟨53, [.val, .val], [.v (.int .u64), .v (.int .u64)], [.v (.int .u64)], 1, G53⟩
noncomputable def F53 (x0 : Int) (x1 : Int) : Option (Int) := G53 (x0, x1)
noncomputable def L53 : LL D (YR D fd53.ts) := sealF (LiF D fd53 (tabH D h53))
noncomputable def L53_0 (v0 : Int) (v1 : Int) : Option (Int) := L53 c53_0 (v0, v1, ())
theorem E53_ok : FnOk D PP E53 := fdS_ok lw fd53 (l := h53) (by kernel_rfl) (.nil) Tryz.func53 (by kernel_rfl) (by kernel_rfl) (by kernel_rfl) (enters_of (c := bodyF Tryz.f53) Tryz.func53 (by kernel_rfl) (by kernel_rfl)) (by kernel_rfl) (by kernel_rfl)
/-- pochoirref03.May -/
noncomputable def fd40 : FD := ⟨40, bodyF Tryz.f40, Tryz.f40.results.toList, Tryz.f40.ntmps, [.val], [.v (.st 1)], [.v (.bool)], 1, [], 5000, none⟩
noncomputable def h40 : List (En D) := [E53, E54]
noncomputable def G40 : YR D [.v (.st 1)] → Option (YR D [.v (.bool)]) := sealF (Gof D fd40 (tabH D h40))
noncomputable def E40 : En D := ⟨40, [.val], [.v (.st 1)], [.v (.bool)], 1, G40⟩
noncomputable def F40 (x0 : S24) : Option (Bool) := G40 (x0)
theorem E40_ok : FnOk D PP E40 := fdS_ok lw fd40 (l := h40) (by kernel_rfl) (.cons E53_ok (.cons E54_ok .nil)) Tryz.func40 (by kernel_rfl) (by kernel_rfl) (by kernel_rfl) (enters_of (c := bodyF Tryz.f40) Tryz.func40 (by kernel_rfl) (by kernel_rfl)) (by kernel_rfl) (by kernel_rfl)
/-- pochoirref05.May -/
noncomputable def fd13 : FD := ⟨13, bodyF Tryz.f13, Tryz.f13.results.toList, Tryz.f13.ntmps, [.val], [.v (.st 1)], [.v (.bool)], 1, [], 5000, none⟩
noncomputable def h13 : List (En D) := [E40]
noncomputable def G13 : YR D [.v (.st 1)] → Option (YR D [.v (.bool)]) := sealF (Gof D fd13 (tabH D h13))
noncomputable def E13 : En D := ⟨13, [.val], [.v (.st 1)], [.v (.bool)], 1, G13⟩
noncomputable def F13 (x0 : S24) : Option (Bool) := G13 (x0)
theorem E13_ok : FnOk D PP E13 := fdS_ok lw fd13 (l := h13) (by kernel_rfl) (.cons E40_ok .nil) Tryz.func13 (by kernel_rfl) (by kernel_rfl) (by kernel_rfl) (enters_of (c := bodyF Tryz.f13) Tryz.func13 (by kernel_rfl) (by kernel_rfl)) (by kernel_rfl) (by kernel_rfl)
/-- pochoirref05.At -/
def c42_0 : Cut := ⟨244, [.v 0 (.sl (.st 2)), .box 3 3 (.st 1) 0 [], .box 4 4 (.st 2) 0 [], .box 5 5 (.st 2) 0 [], .box 6 6 (.st 2) 0 [], .v 7 (.int .i64)]⟩
noncomputable def fd42 : FD := ⟨42, bodyF Tryz.f42, Tryz.f42.results.toList, Tryz.f42.ntmps, [.val, .val], [.v (.sl (.st 2)), .v (.st 1)], [.v (.st 2)], 1, [c42_0], 5000, none⟩
noncomputable def h42 : List (En D) := [E72, E73, E81]
noncomputable def G42 : YR D [.v (.sl (.st 2)), .v (.st 1)] → Option (YR D [.v (.st 2)]) := sealF (Gof D fd42 (tabH D h42))
noncomputable def E42 : En D := ⟨42, [.val, .val], [.v (.sl (.st 2)), .v (.st 1)], [.v (.st 2)], 1, G42⟩
noncomputable def F42 (x0 : List S69) (x1 : S24) : Option (S69) := G42 (x0, x1)
noncomputable def L42 : LL D (YR D fd42.ts) := sealF (LiF D fd42 (tabH D h42))
noncomputable def L42_0 (v0 : List S69) (v3 : S24) (v4 : S69) (v5 : S69) (v6 : S69) (v7 : Int) : Option (S69) := L42 c42_0 (v0, v3, v4, v5, v6, v7, ())
theorem E42_ok : FnOk D PP E42 := fdS_ok lw fd42 (l := h42) (by kernel_rfl) (.cons E72_ok (.cons E73_ok (.cons E81_ok .nil))) Tryz.func42 (by kernel_rfl) (by kernel_rfl) (by kernel_rfl) (enters_of (c := bodyF Tryz.f42) Tryz.func42 (by kernel_rfl) (by kernel_rfl)) (by kernel_rfl) (by kernel_rfl)
/-- pochoirref06.Changes -/
def c14_0 : Cut := ⟨244, [.v 0 (.sl (.sl (.st 2))), .box 3 3 (.st 1) 0 [], .v 5 (.int .i64), .v 6 (.int .i64), .v 7 (.int .i64)]⟩
noncomputable def fd14 : FD := ⟨14, bodyF Tryz.f14, Tryz.f14.results.toList, Tryz.f14.ntmps, [.val, .val], [.v (.sl (.sl (.st 2))), .v (.st 1)], [.v (.int .i64)], 1, [c14_0], 5000, none⟩
noncomputable def h14 : List (En D) := [E41, E42]
noncomputable def G14 : YR D [.v (.sl (.sl (.st 2))), .v (.st 1)] → Option (YR D [.v (.int .i64)]) := sealF (Gof D fd14 (tabH D h14))
noncomputable def E14 : En D := ⟨14, [.val, .val], [.v (.sl (.sl (.st 2))), .v (.st 1)], [.v (.int .i64)], 1, G14⟩
noncomputable def F14 (x0 : List (List S69)) (x1 : S24) : Option (Int) := G14 (x0, x1)
noncomputable def L14 : LL D (YR D fd14.ts) := sealF (LiF D fd14 (tabH D h14))
noncomputable def L14_0 (v0 : List (List S69)) (v3 : S24) (v5 : Int) (v6 : Int) (v7 : Int) : Option (Int) := L14 c14_0 (v0, v3, v5, v6, v7, ())
theorem E14_ok : FnOk D PP E14 := fdS_ok lw fd14 (l := h14) (by kernel_rfl) (.cons E41_ok (.cons E42_ok .nil)) Tryz.func14 (by kernel_rfl) (by kernel_rfl) (by kernel_rfl) (enters_of (c := bodyF Tryz.f14) Tryz.func14 (by kernel_rfl) (by kernel_rfl)) (by kernel_rfl) (by kernel_rfl)
/-- pochoirlaw06.SturmChains -/
def c3_0 : Cut := ⟨511, [.box 3 3 (.st 1) 0 [], .v 6 (.sl (.sl (.st 0))), .v 8 (.sl (.sl (.st 2)))]⟩
def c3_1 : Cut := ⟨8180, [.box 3 3 (.st 1) 0 [], .v 6 (.sl (.sl (.st 0))), .v 8 (.sl (.sl (.st 2))), .v 46 (.int .i64), .v 47 (.int .i64)]⟩
noncomputable def fd3 : FD := ⟨3, bodyF Tryz.f3, Tryz.f3.results.toList, Tryz.f3.ntmps, [.val, .val], [.v (.sl (.st 0)), .v (.st 1)], [.v (.bool)], 1, [c3_0, c3_1], 5000, none⟩
noncomputable def h3 : List (En D) := [E6, E7, E8, E9, E10, E11, E12, E13, E14]
noncomputable def G3 : YR D [.v (.sl (.st 0)), .v (.st 1)] → Option (YR D [.v (.bool)]) := sealF (Gof D fd3 (tabH D h3))
noncomputable def E3 : En D := ⟨3, [.val, .val], [.v (.sl (.st 0)), .v (.st 1)], [.v (.bool)], 1, G3⟩
noncomputable def F3 (x0 : List S60) (x1 : S24) : Option (Bool) := G3 (x0, x1)
noncomputable def L3 : LL D (YR D fd3.ts) := sealF (LiF D fd3 (tabH D h3))
noncomputable def L3_0 (v3 : S24) (v6 : List (List S60)) (v8 : List (List S69)) : Option (Bool) := L3 c3_0 (v3, v6, v8, ())
noncomputable def L3_1 (v3 : S24) (v6 : List (List S60)) (v8 : List (List S69)) (v46 : Int) (v47 : Int) : Option (Bool) := L3 c3_1 (v3, v6, v8, v46, v47, ())
theorem E3_ok : FnOk D PP E3 := fdS_ok lw fd3 (l := h3) (by kernel_rfl) (.cons E6_ok (.cons E7_ok (.cons E8_ok (.cons E9_ok (.cons E10_ok (.cons E11_ok (.cons E12_ok (.cons E13_ok (.cons E14_ok .nil))))))))) Tryz.func3 (by kernel_rfl) (by kernel_rfl) (by kernel_rfl) (enters_of (c := bodyF Tryz.f3) Tryz.func3 (by kernel_rfl) (by kernel_rfl)) (by kernel_rfl) (by kernel_rfl)
end Go.Proofs.YtidiifdiilahdaaGreatDoor.Ev
