/- Printed by a program of this claim: the functions, as they are told. -/
import Derived.Test.YtalgppclaolonaaEvD
import Derived.Test.YtalgppclaolonaaEvX
namespace Go.Proofs.Ytalgppclaolonaa.Ev
open Go
set_option linter.unusedVariables false
noncomputable def bodyF (f : Func) : Code := match f.body with | some c => c | none => .skip
/-- edge.Closed -/
def c86_0 : Cut := ⟨24, [.v 0 (.sl (.st 1))]⟩
def c86_1 : Cut := ⟨395, [.v 0 (.sl (.st 1)), .v 3 (.int .i64)]⟩
def c86_2 : Cut := ⟨1576, [.v 0 (.sl (.st 1)), .v 3 (.int .i64)]⟩
def c86_3 : Cut := ⟨3153, [.v 0 (.sl (.st 1)), .v 3 (.int .i64)]⟩
noncomputable def fd86 : FD := ⟨86, bodyF Try.f86, Try.f86.results.toList, Try.f86.ntmps, [.val], [.v (.sl (.st 1))], [.v (.bool)], 1, [c86_0, c86_1, c86_2, c86_3], 5000⟩
noncomputable def h86 : List (En D) := []
noncomputable def G86 : YR D [.v (.sl (.st 1))] → Option (YR D [.v (.bool)]) := sealF (Gof D fd86 (tabH D h86))
noncomputable def E86 : En D := ⟨86, [.val], [.v (.sl (.st 1))], [.v (.bool)], 1, G86⟩
noncomputable def F86 (x0 : List S38) : Option (Bool) := G86 (x0)
noncomputable def L86 : LL D (YR D fd86.ts) := sealF (LiF D fd86 (tabH D h86))
noncomputable def L86_0 (v0 : List S38) : Option (Bool) := L86 c86_0 (v0, ())
noncomputable def L86_1 (v0 : List S38) (v3 : Int) : Option (Bool) := L86 c86_1 (v0, v3, ())
noncomputable def L86_2 (v0 : List S38) (v3 : Int) : Option (Bool) := L86 c86_2 (v0, v3, ())
noncomputable def L86_3 (v0 : List S38) (v3 : Int) : Option (Bool) := L86 c86_3 (v0, v3, ())
theorem E86_ok : FnOk D PP E86 := fdS_ok lw fd86 (l := h86) (by kernel_rfl) (.nil) Try.func86 (by kernel_rfl) (by kernel_rfl) (by kernel_rfl) (enters_of (c := bodyF Try.f86) Try.func86 (by kernel_rfl) (by kernel_rfl)) (by kernel_rfl)
/-- edge.fine -/
def c87_0 : Cut := ⟨52, [.v 5 (.sl (.st 0)), .v 6 (.int .i64), .v 7 (.int .i64)]⟩
noncomputable def fd87 : FD := ⟨87, bodyF Try.f87, Try.f87.results.toList, Try.f87.ntmps, [.val], [.v (.sl (.st 0))], [.v (.bool)], 1, [c87_0], 5000⟩
noncomputable def h87 : List (En D) := []
noncomputable def G87 : YR D [.v (.sl (.st 0))] → Option (YR D [.v (.bool)]) := sealF (Gof D fd87 (tabH D h87))
noncomputable def E87 : En D := ⟨87, [.val], [.v (.sl (.st 0))], [.v (.bool)], 1, G87⟩
noncomputable def F87 (x0 : List S36) : Option (Bool) := G87 (x0)
noncomputable def L87 : LL D (YR D fd87.ts) := sealF (LiF D fd87 (tabH D h87))
noncomputable def L87_0 (v5 : List S36) (v6 : Int) (v7 : Int) : Option (Bool) := L87 c87_0 (v5, v6, v7, ())
theorem E87_ok : FnOk D PP E87 := fdS_ok lw fd87 (l := h87) (by kernel_rfl) (.nil) Try.func87 (by kernel_rfl) (by kernel_rfl) (by kernel_rfl) (enters_of (c := bodyF Try.f87) Try.func87 (by kernel_rfl) (by kernel_rfl)) (by kernel_rfl)
/-- edge.none -/
noncomputable def fd88 : FD := ⟨88, bodyF Try.f88, Try.f88.results.toList, Try.f88.ntmps, [.val], [.v (.st 1)], [.v (.bool)], 1, [], 5000⟩
noncomputable def h88 : List (En D) := []
noncomputable def G88 : YR D [.v (.st 1)] → Option (YR D [.v (.bool)]) := sealF (Gof D fd88 (tabH D h88))
noncomputable def E88 : En D := ⟨88, [.val], [.v (.st 1)], [.v (.bool)], 1, G88⟩
noncomputable def F88 (x0 : S38) : Option (Bool) := G88 (x0)
theorem E88_ok : FnOk D PP E88 := fdS_ok lw fd88 (l := h88) (by kernel_rfl) (.nil) Try.func88 (by kernel_rfl) (by kernel_rfl) (by kernel_rfl) (enters_of (c := bodyF Try.f88) Try.func88 (by kernel_rfl) (by kernel_rfl)) (by kernel_rfl)
/-- edge.May -/
def c52_0 : Cut := ⟨116, [.v 13 (.sl (.st 1)), .v 14 (.int .i64), .v 15 (.int .i64)]⟩
noncomputable def fd52 : FD := ⟨52, bodyF Try.f52, Try.f52.results.toList, Try.f52.ntmps, [.val], [.v (.sl (.st 1))], [.v (.bool)], 1, [c52_0], 5000⟩
noncomputable def h52 : List (En D) := [E86, E87, E88]
noncomputable def G52 : YR D [.v (.sl (.st 1))] → Option (YR D [.v (.bool)]) := sealF (Gof D fd52 (tabH D h52))
noncomputable def E52 : En D := ⟨52, [.val], [.v (.sl (.st 1))], [.v (.bool)], 1, G52⟩
noncomputable def F52 (x0 : List S38) : Option (Bool) := G52 (x0)
noncomputable def L52 : LL D (YR D fd52.ts) := sealF (LiF D fd52 (tabH D h52))
noncomputable def L52_0 (v13 : List S38) (v14 : Int) (v15 : Int) : Option (Bool) := L52 c52_0 (v13, v14, v15, ())
theorem E52_ok : FnOk D PP E52 := fdS_ok lw fd52 (l := h52) (by kernel_rfl) (.cons E86_ok (.cons E87_ok (.cons E88_ok .nil))) Try.func52 (by kernel_rfl) (by kernel_rfl) (by kernel_rfl) (enters_of (c := bodyF Try.f52) Try.func52 (by kernel_rfl) (by kernel_rfl)) (by kernel_rfl)
/-- corner.way -/
noncomputable def fd102 : FD := ⟨102, bodyF Try.f102, Try.f102.results.toList, Try.f102.ntmps, [.val, .val], [.v (.st 0), .v (.st 0)], [.v (.st 0)], 1, [], 5000⟩
noncomputable def h102 : List (En D) := []
noncomputable def G102 : YR D [.v (.st 0), .v (.st 0)] → Option (YR D [.v (.st 0)]) := sealF (Gof D fd102 (tabH D h102))
noncomputable def E102 : En D := ⟨102, [.val, .val], [.v (.st 0), .v (.st 0)], [.v (.st 0)], 1, G102⟩
noncomputable def F102 (x0 : S36) (x1 : S36) : Option (S36) := G102 (x0, x1)
theorem E102_ok : FnOk D PP E102 := fdS_ok lw fd102 (l := h102) (by kernel_rfl) (.nil) Try.func102 (by kernel_rfl) (by kernel_rfl) (by kernel_rfl) (enters_of (c := bodyF Try.f102) Try.func102 (by kernel_rfl) (by kernel_rfl)) (by kernel_rfl)
/-- corner.last -/
def c67_0 : Cut := ⟨7, [.box 1 1 (.st 1), .box 2 2 (.st 0)]⟩
def c67_1 : Cut := ⟨26, [.box 1 1 (.st 1), .box 2 2 (.st 0)]⟩
noncomputable def fd67 : FD := ⟨67, bodyF Try.f67, Try.f67.results.toList, Try.f67.ntmps, [.val], [.v (.st 1)], [.v (.st 0)], 1, [c67_0, c67_1], 5000⟩
noncomputable def h67 : List (En D) := [E102]
noncomputable def G67 : YR D [.v (.st 1)] → Option (YR D [.v (.st 0)]) := sealF (Gof D fd67 (tabH D h67))
noncomputable def E67 : En D := ⟨67, [.val], [.v (.st 1)], [.v (.st 0)], 1, G67⟩
noncomputable def F67 (x0 : S38) : Option (S36) := G67 (x0)
noncomputable def L67 : LL D (YR D fd67.ts) := sealF (LiF D fd67 (tabH D h67))
noncomputable def L67_0 (v1 : S38) (v2 : S36) : Option (S36) := L67 c67_0 (v1, v2, ())
noncomputable def L67_1 (v1 : S38) (v2 : S36) : Option (S36) := L67 c67_1 (v1, v2, ())
theorem E67_ok : FnOk D PP E67 := fdS_ok lw fd67 (l := h67) (by kernel_rfl) (.cons E102_ok .nil) Try.func67 (by kernel_rfl) (by kernel_rfl) (by kernel_rfl) (enters_of (c := bodyF Try.f67) Try.func67 (by kernel_rfl) (by kernel_rfl)) (by kernel_rfl)
/-- corner.first -/
def c66_0 : Cut := ⟨7, [.box 1 1 (.st 1), .box 2 2 (.st 0)]⟩
def c66_1 : Cut := ⟨26, [.box 1 1 (.st 1), .box 2 2 (.st 0)]⟩
noncomputable def fd66 : FD := ⟨66, bodyF Try.f66, Try.f66.results.toList, Try.f66.ntmps, [.val], [.v (.st 1)], [.v (.st 0)], 1, [c66_0, c66_1], 5000⟩
noncomputable def h66 : List (En D) := [E102]
noncomputable def G66 : YR D [.v (.st 1)] → Option (YR D [.v (.st 0)]) := sealF (Gof D fd66 (tabH D h66))
noncomputable def E66 : En D := ⟨66, [.val], [.v (.st 1)], [.v (.st 0)], 1, G66⟩
noncomputable def F66 (x0 : S38) : Option (S36) := G66 (x0)
noncomputable def L66 : LL D (YR D fd66.ts) := sealF (LiF D fd66 (tabH D h66))
noncomputable def L66_0 (v1 : S38) (v2 : S36) : Option (S36) := L66 c66_0 (v1, v2, ())
noncomputable def L66_1 (v1 : S38) (v2 : S36) : Option (S36) := L66 c66_1 (v1, v2, ())
theorem E66_ok : FnOk D PP E66 := fdS_ok lw fd66 (l := h66) (by kernel_rfl) (.cons E102_ok .nil) Try.func66 (by kernel_rfl) (by kernel_rfl) (by kernel_rfl) (enters_of (c := bodyF Try.f66) Try.func66 (by kernel_rfl) (by kernel_rfl)) (by kernel_rfl)
/-- corner.times -/
noncomputable def fd89 : FD := ⟨89, bodyF Try.f89, Try.f89.results.toList, Try.f89.ntmps, [.val, .val], [.v (.st 0), .v (.st 0)], [.v (.int .i64)], 1, [], 5000⟩
noncomputable def h89 : List (En D) := []
noncomputable def G89 : YR D [.v (.st 0), .v (.st 0)] → Option (YR D [.v (.int .i64)]) := sealF (Gof D fd89 (tabH D h89))
noncomputable def E89 : En D := ⟨89, [.val, .val], [.v (.st 0), .v (.st 0)], [.v (.int .i64)], 1, G89⟩
noncomputable def F89 (x0 : S36) (x1 : S36) : Option (Int) := G89 (x0, x1)
theorem E89_ok : FnOk D PP E89 := fdS_ok lw fd89 (l := h89) (by kernel_rfl) (.nil) Try.func89 (by kernel_rfl) (by kernel_rfl) (by kernel_rfl) (enters_of (c := bodyF Try.f89) Try.func89 (by kernel_rfl) (by kernel_rfl)) (by kernel_rfl)
/-- math/bits.Mul64 -/
noncomputable def fd121 : FD := ⟨121, bodyF Try.f121, Try.f121.results.toList, Try.f121.ntmps, [.val, .val], [.v (.int .u64), .v (.int .u64)], [.v (.int .u64), .v (.int .u64)], 2, [], 5000⟩
noncomputable def h121 : List (En D) := []
noncomputable def G121 : YR D [.v (.int .u64), .v (.int .u64)] → Option (YR D [.v (.int .u64), .v (.int .u64)]) := sealF (Gof D fd121 (tabH D h121))
noncomputable def E121 : En D := ⟨121, [.val, .val], [.v (.int .u64), .v (.int .u64)], [.v (.int .u64), .v (.int .u64)], 2, G121⟩
noncomputable def F121 (x0 : Int) (x1 : Int) : Option (Int × Int) := G121 (x0, x1)
theorem E121_ok : FnOk D PP E121 := fdS_ok lw fd121 (l := h121) (by kernel_rfl) (.nil) Try.func121 (by kernel_rfl) (by kernel_rfl) (by kernel_rfl) (enters_of (c := bodyF Try.f121) Try.func121 (by kernel_rfl) (by kernel_rfl)) (by kernel_rfl)
/-- wide.Mul -/
noncomputable def fd91 : FD := ⟨91, bodyF Try.f91, Try.f91.results.toList, Try.f91.ntmps, [.val, .val], [.v (.int .u64), .v (.int .u64)], [.v (.st 8)], 1, [], 5000⟩
noncomputable def h91 : List (En D) := [E121]
noncomputable def G91 : YR D [.v (.int .u64), .v (.int .u64)] → Option (YR D [.v (.st 8)]) := sealF (Gof D fd91 (tabH D h91))
noncomputable def E91 : En D := ⟨91, [.val, .val], [.v (.int .u64), .v (.int .u64)], [.v (.st 8)], 1, G91⟩
noncomputable def F91 (x0 : Int) (x1 : Int) : Option (S112) := G91 (x0, x1)
theorem E91_ok : FnOk D PP E91 := fdS_ok lw fd91 (l := h91) (by kernel_rfl) (.cons E121_ok .nil) Try.func91 (by kernel_rfl) (by kernel_rfl) (by kernel_rfl) (enters_of (c := bodyF Try.f91) Try.func91 (by kernel_rfl) (by kernel_rfl)) (by kernel_rfl)
/-- math/bits.Add64 -/
noncomputable def G142 : YR D [.v (.int .u64), .v (.int .u64), .v (.int .u64)] → Option (YR D [.v (.int .u64), .v (.int .u64)]) := sealF fun x => bits_Add64 x.1 x.2.1 x.2.2
noncomputable def E142 : En D := ⟨142, [.val, .val, .val], [.v (.int .u64), .v (.int .u64), .v (.int .u64)], [.v (.int .u64), .v (.int .u64)], 2, G142⟩
noncomputable def F142 (x0 : Int) (x1 : Int) (x2 : Int) : Option (Int × Int) := G142 (x0, x1, x2)
theorem F142_eq (x0 : Int) (x1 : Int) (x2 : Int) : F142 x0 x1 x2 = bits_Add64 x0 x1 x2 := congrFun (sealF_eq _) (x0, x1, x2)
theorem E142_ok : FnOk D PP E142 := bits_Add64_ok Try.func142 rfl rfl rfl rfl
/-- wide.Add -/
noncomputable def fd120 : FD := ⟨120, bodyF Try.f120, Try.f120.results.toList, Try.f120.ntmps, [.val, .val], [.v (.st 8), .v (.st 8)], [.v (.st 8), .v (.int .i64)], 2, [], 5000⟩
noncomputable def h120 : List (En D) := [E142]
noncomputable def G120 : YR D [.v (.st 8), .v (.st 8)] → Option (YR D [.v (.st 8), .v (.int .i64)]) := sealF (Gof D fd120 (tabH D h120))
noncomputable def E120 : En D := ⟨120, [.val, .val], [.v (.st 8), .v (.st 8)], [.v (.st 8), .v (.int .i64)], 2, G120⟩
noncomputable def F120 (x0 : S112) (x1 : S112) : Option (S112 × Int) := G120 (x0, x1)
theorem E120_ok : FnOk D PP E120 := fdS_ok lw fd120 (l := h120) (by kernel_rfl) (.cons E142_ok .nil) Try.func120 (by kernel_rfl) (by kernel_rfl) (by kernel_rfl) (enters_of (c := bodyF Try.f120) Try.func120 (by kernel_rfl) (by kernel_rfl)) (by kernel_rfl)
/-- wide.Scale -/
noncomputable def fd90 : FD := ⟨90, bodyF Try.f90, Try.f90.results.toList, Try.f90.ntmps, [.val, .val], [.v (.st 8), .v (.int .u64)], [.v (.st 8), .v (.int .i64)], 2, [], 5000⟩
noncomputable def h90 : List (En D) := [E91, E120]
noncomputable def G90 : YR D [.v (.st 8), .v (.int .u64)] → Option (YR D [.v (.st 8), .v (.int .i64)]) := sealF (Gof D fd90 (tabH D h90))
noncomputable def E90 : En D := ⟨90, [.val, .val], [.v (.st 8), .v (.int .u64)], [.v (.st 8), .v (.int .i64)], 2, G90⟩
noncomputable def F90 (x0 : S112) (x1 : Int) : Option (S112 × Int) := G90 (x0, x1)
theorem E90_ok : FnOk D PP E90 := fdS_ok lw fd90 (l := h90) (by kernel_rfl) (.cons E91_ok (.cons E120_ok .nil)) Try.func90 (by kernel_rfl) (by kernel_rfl) (by kernel_rfl) (enters_of (c := bodyF Try.f90) Try.func90 (by kernel_rfl) (by kernel_rfl)) (by kernel_rfl)
/-- cmp.isNaN[uint64] -/
noncomputable def fd143 : FD := ⟨143, bodyF Try.f143, Try.f143.results.toList, Try.f143.ntmps, [.val], [.v (.int .u64)], [.v (.bool)], 1, [], 5000⟩
noncomputable def h143 : List (En D) := []
noncomputable def G143 : YR D [.v (.int .u64)] → Option (YR D [.v (.bool)]) := sealF (Gof D fd143 (tabH D h143))
noncomputable def E143 : En D := ⟨143, [.val], [.v (.int .u64)], [.v (.bool)], 1, G143⟩
noncomputable def F143 (x0 : Int) : Option (Bool) := G143 (x0)
theorem E143_ok : FnOk D PP E143 := fdS_ok lw fd143 (l := h143) (by kernel_rfl) (.nil) Try.func143 (by kernel_rfl) (by kernel_rfl) (by kernel_rfl) (enters_of (c := bodyF Try.f143) Try.func143 (by kernel_rfl) (by kernel_rfl)) (by kernel_rfl)
/-- cmp.Compare[uint64] -/
noncomputable def fd123 : FD := ⟨123, bodyF Try.f123, Try.f123.results.toList, Try.f123.ntmps, [.val, .val], [.v (.int .u64), .v (.int .u64)], [.v (.int .i64)], 1, [], 5000⟩
noncomputable def h123 : List (En D) := [E143]
noncomputable def G123 : YR D [.v (.int .u64), .v (.int .u64)] → Option (YR D [.v (.int .i64)]) := sealF (Gof D fd123 (tabH D h123))
noncomputable def E123 : En D := ⟨123, [.val, .val], [.v (.int .u64), .v (.int .u64)], [.v (.int .i64)], 1, G123⟩
noncomputable def F123 (x0 : Int) (x1 : Int) : Option (Int) := G123 (x0, x1)
theorem E123_ok : FnOk D PP E123 := fdS_ok lw fd123 (l := h123) (by kernel_rfl) (.cons E143_ok .nil) Try.func123 (by kernel_rfl) (by kernel_rfl) (by kernel_rfl) (enters_of (c := bodyF Try.f123) Try.func123 (by kernel_rfl) (by kernel_rfl)) (by kernel_rfl)
/-- cmp.Or[int] -/
def c122_0 : Cut := ⟨116, [.v 3 (.int .i64), .v 6 (.sl (.int .i64)), .v 7 (.int .i64), .v 8 (.int .i64)]⟩
noncomputable def fd122 : FD := ⟨122, bodyF Try.f122, Try.f122.results.toList, Try.f122.ntmps, [.val], [.v (.sl (.int .i64))], [.v (.int .i64)], 1, [c122_0], 5000⟩
noncomputable def h122 : List (En D) := []
noncomputable def G122 : YR D [.v (.sl (.int .i64))] → Option (YR D [.v (.int .i64)]) := sealF (Gof D fd122 (tabH D h122))
noncomputable def E122 : En D := ⟨122, [.val], [.v (.sl (.int .i64))], [.v (.int .i64)], 1, G122⟩
noncomputable def F122 (x0 : List Int) : Option (Int) := G122 (x0)
noncomputable def L122 : LL D (YR D fd122.ts) := sealF (LiF D fd122 (tabH D h122))
noncomputable def L122_0 (v3 : Int) (v6 : List Int) (v7 : Int) (v8 : Int) : Option (Int) := L122 c122_0 (v3, v6, v7, v8, ())
theorem E122_ok : FnOk D PP E122 := fdS_ok lw fd122 (l := h122) (by kernel_rfl) (.nil) Try.func122 (by kernel_rfl) (by kernel_rfl) (by kernel_rfl) (enters_of (c := bodyF Try.f122) Try.func122 (by kernel_rfl) (by kernel_rfl)) (by kernel_rfl)
/-- wide.Cmp -/
noncomputable def fd92 : FD := ⟨92, bodyF Try.f92, Try.f92.results.toList, Try.f92.ntmps, [.val, .val], [.v (.st 8), .v (.st 8)], [.v (.int .i64)], 1, [], 5000⟩
noncomputable def h92 : List (En D) := [E122, E123]
noncomputable def G92 : YR D [.v (.st 8), .v (.st 8)] → Option (YR D [.v (.int .i64)]) := sealF (Gof D fd92 (tabH D h92))
noncomputable def E92 : En D := ⟨92, [.val, .val], [.v (.st 8), .v (.st 8)], [.v (.int .i64)], 1, G92⟩
noncomputable def F92 (x0 : S112) (x1 : S112) : Option (Int) := G92 (x0, x1)
theorem E92_ok : FnOk D PP E92 := fdS_ok lw fd92 (l := h92) (by kernel_rfl) (.cons E122_ok (.cons E123_ok .nil)) Try.func92 (by kernel_rfl) (by kernel_rfl) (by kernel_rfl) (enters_of (c := bodyF Try.f92) Try.func92 (by kernel_rfl) (by kernel_rfl)) (by kernel_rfl)
/-- corner.is -/
noncomputable def fd53 : FD := ⟨53, bodyF Try.f53, Try.f53.results.toList, Try.f53.ntmps, [.val, .val], [.v (.st 1), .v (.st 1)], [.v (.bool)], 1, [], 5000⟩
noncomputable def h53 : List (En D) := [E66, E67, E89, E90, E91, E92]
noncomputable def G53 : YR D [.v (.st 1), .v (.st 1)] → Option (YR D [.v (.bool)]) := sealF (Gof D fd53 (tabH D h53))
noncomputable def E53 : En D := ⟨53, [.val, .val], [.v (.st 1), .v (.st 1)], [.v (.bool)], 1, G53⟩
noncomputable def F53 (x0 : S38) (x1 : S38) : Option (Bool) := G53 (x0, x1)
theorem E53_ok : FnOk D PP E53 := fdS_ok lw fd53 (l := h53) (by kernel_rfl) (.cons E66_ok (.cons E67_ok (.cons E89_ok (.cons E90_ok (.cons E91_ok (.cons E92_ok .nil)))))) Try.func53 (by kernel_rfl) (by kernel_rfl) (by kernel_rfl) (enters_of (c := bodyF Try.f53) Try.func53 (by kernel_rfl) (by kernel_rfl)) (by kernel_rfl)
/-- corner.All -/
def c13_0 : Cut := ⟨244, [.v 0 (.sl (.st 1)), .own 4 (.int .i64), .v 5 (.int .i64)]⟩
def c13_1 : Cut := ⟨3915, [.v 0 (.sl (.st 1)), .own 4 (.int .i64), .v 5 (.int .i64), .v 6 (.int .i64)]⟩
def c13_2 : Cut := ⟨15656, [.v 0 (.sl (.st 1)), .own 4 (.int .i64), .v 5 (.int .i64), .v 6 (.int .i64)]⟩
def c13_3 : Cut := ⟨125300, [.v 0 (.sl (.st 1)), .own 4 (.int .i64), .v 6 (.int .i64), .box 7 7 (.st 1), .v 8 (.int .i64)]⟩
noncomputable def fd13 : FD := ⟨13, bodyF Try.f13, Try.f13.results.toList, Try.f13.ntmps, [.val], [.v (.sl (.st 1))], [.v (.sl (.int .i64)), .v (.int .i64)], 2, [c13_0, c13_1, c13_2, c13_3], 5000⟩
noncomputable def h13 : List (En D) := [E52, E53]
noncomputable def G13 : YR D [.v (.sl (.st 1))] → Option (YR D [.v (.sl (.int .i64)), .v (.int .i64)]) := sealF (Gof D fd13 (tabH D h13))
noncomputable def E13 : En D := ⟨13, [.val], [.v (.sl (.st 1))], [.v (.sl (.int .i64)), .v (.int .i64)], 2, G13⟩
noncomputable def F13 (x0 : List S38) : Option (List Int × Int) := G13 (x0)
noncomputable def L13 : LL D (YR D fd13.ts) := sealF (LiF D fd13 (tabH D h13))
noncomputable def L13_0 (v0 : List S38) (v4 : List Int) (v5 : Int) : Option (List Int × Int) := L13 c13_0 (v0, v4, v5, ())
noncomputable def L13_1 (v0 : List S38) (v4 : List Int) (v5 : Int) (v6 : Int) : Option (List Int × Int) := L13 c13_1 (v0, v4, v5, v6, ())
noncomputable def L13_2 (v0 : List S38) (v4 : List Int) (v5 : Int) (v6 : Int) : Option (List Int × Int) := L13 c13_2 (v0, v4, v5, v6, ())
noncomputable def L13_3 (v0 : List S38) (v4 : List Int) (v6 : Int) (v7 : S38) (v8 : Int) : Option (List Int × Int) := L13 c13_3 (v0, v4, v6, v7, v8, ())
theorem E13_ok : FnOk D PP E13 := fdS_ok lw fd13 (l := h13) (by kernel_rfl) (.cons E52_ok (.cons E53_ok .nil)) Try.func13 (by kernel_rfl) (by kernel_rfl) (by kernel_rfl) (enters_of (c := bodyF Try.f13) Try.func13 (by kernel_rfl) (by kernel_rfl)) (by kernel_rfl)
/-- corner.right -/
noncomputable def fd56 : FD := ⟨56, bodyF Try.f56, Try.f56.results.toList, Try.f56.ntmps, [.val], [.v (.st 1)], [.v (.bool)], 1, [], 5000⟩
noncomputable def h56 : List (En D) := [E52]
noncomputable def G56 : YR D [.v (.st 1)] → Option (YR D [.v (.bool)]) := sealF (Gof D fd56 (tabH D h56))
noncomputable def E56 : En D := ⟨56, [.val], [.v (.st 1)], [.v (.bool)], 1, G56⟩
noncomputable def F56 (x0 : S38) : Option (Bool) := G56 (x0)
theorem E56_ok : FnOk D PP E56 := fdS_ok lw fd56 (l := h56) (by kernel_rfl) (.cons E52_ok .nil) Try.func56 (by kernel_rfl) (by kernel_rfl) (by kernel_rfl) (enters_of (c := bodyF Try.f56) Try.func56 (by kernel_rfl) (by kernel_rfl)) (by kernel_rfl)
/-- corner.Last -/
noncomputable def fd27 : FD := ⟨27, bodyF Try.f27, Try.f27.results.toList, Try.f27.ntmps, [.val], [.v (.st 1)], [.v (.st 0), .v (.int .i64)], 2, [], 5000⟩
noncomputable def h27 : List (En D) := [E56, E67]
noncomputable def G27 : YR D [.v (.st 1)] → Option (YR D [.v (.st 0), .v (.int .i64)]) := sealF (Gof D fd27 (tabH D h27))
noncomputable def E27 : En D := ⟨27, [.val], [.v (.st 1)], [.v (.st 0), .v (.int .i64)], 2, G27⟩
noncomputable def F27 (x0 : S38) : Option (S36 × Int) := G27 (x0)
theorem E27_ok : FnOk D PP E27 := fdS_ok lw fd27 (l := h27) (by kernel_rfl) (.cons E56_ok (.cons E67_ok .nil)) Try.func27 (by kernel_rfl) (by kernel_rfl) (by kernel_rfl) (enters_of (c := bodyF Try.f27) Try.func27 (by kernel_rfl) (by kernel_rfl)) (by kernel_rfl)
/-- corner.Is -/
def c18_0 : Cut := ⟨7, [.box 2 2 (.st 1), .box 3 3 (.st 1)]⟩
noncomputable def fd18 : FD := ⟨18, bodyF Try.f18, Try.f18.results.toList, Try.f18.ntmps, [.val, .val], [.v (.st 1), .v (.st 1)], [.v (.bool), .v (.int .i64)], 2, [c18_0], 5000⟩
noncomputable def h18 : List (En D) := [E53, E56]
noncomputable def G18 : YR D [.v (.st 1), .v (.st 1)] → Option (YR D [.v (.bool), .v (.int .i64)]) := sealF (Gof D fd18 (tabH D h18))
noncomputable def E18 : En D := ⟨18, [.val, .val], [.v (.st 1), .v (.st 1)], [.v (.bool), .v (.int .i64)], 2, G18⟩
noncomputable def F18 (x0 : S38) (x1 : S38) : Option (Bool × Int) := G18 (x0, x1)
noncomputable def L18 : LL D (YR D fd18.ts) := sealF (LiF D fd18 (tabH D h18))
noncomputable def L18_0 (v2 : S38) (v3 : S38) : Option (Bool × Int) := L18 c18_0 (v2, v3, ())
theorem E18_ok : FnOk D PP E18 := fdS_ok lw fd18 (l := h18) (by kernel_rfl) (.cons E53_ok (.cons E56_ok .nil)) Try.func18 (by kernel_rfl) (by kernel_rfl) (by kernel_rfl) (enters_of (c := bodyF Try.f18) Try.func18 (by kernel_rfl) (by kernel_rfl)) (by kernel_rfl)
/-- pochoirlaw22.awake -/
noncomputable def fd12 : FD := ⟨12, bodyF Try.f12, Try.f12.results.toList, Try.f12.ntmps, [], [], [.v (.bool)], 1, [], 5000⟩
noncomputable def h12 : List (En D) := [E13, E18, E27]
noncomputable def G12 : YR D [] → Option (YR D [.v (.bool)]) := sealF (Gof D fd12 (tabH D h12))
noncomputable def E12 : En D := ⟨12, [], [], [.v (.bool)], 1, G12⟩
noncomputable def F12 : Option (Bool) := G12 ()
theorem E12_ok : FnOk D PP E12 := fdS_ok lw fd12 (l := h12) (by kernel_rfl) (.cons E13_ok (.cons E18_ok (.cons E27_ok .nil))) Try.func12 (by kernel_rfl) (by kernel_rfl) (by kernel_rfl) (enters_of (c := bodyF Try.f12) Try.func12 (by kernel_rfl) (by kernel_rfl)) (by kernel_rfl)
/-- pochoirlaw22.edge -/
def c16_0 : Cut := ⟨31, [.v 1 (.bool), .box 4 4 (.st 1), .box 5 5 (.st 7)]⟩
def c16_1 : Cut := ⟨116, [.v 1 (.bool), .box 4 4 (.st 1), .box 5 5 (.st 7), .v 8 (.st 3), .v 9 (.int .i64)]⟩
noncomputable def fd16 : FD := ⟨16, bodyF Try.f16, Try.f16.results.toList, Try.f16.ntmps, [.val, .val], [.v (.st 3), .v (.bool)], [.v (.st 1)], 1, [c16_0, c16_1], 5000⟩
noncomputable def h16 : List (En D) := []
noncomputable def G16 : YR D [.v (.st 3), .v (.bool)] → Option (YR D [.v (.st 1)]) := sealF (Gof D fd16 (tabH D h16))
noncomputable def E16 : En D := ⟨16, [.val, .val], [.v (.st 3), .v (.bool)], [.v (.st 1)], 1, G16⟩
noncomputable def F16 (x0 : S33) (x1 : Bool) : Option (S38) := G16 (x0, x1)
noncomputable def L16 : LL D (YR D fd16.ts) := sealF (LiF D fd16 (tabH D h16))
noncomputable def L16_0 (v1 : Bool) (v4 : S38) (v5 : S82) : Option (S38) := L16 c16_0 (v1, v4, v5, ())
noncomputable def L16_1 (v1 : Bool) (v4 : S38) (v5 : S82) (v8 : S33) (v9 : Int) : Option (S38) := L16 c16_1 (v1, v4, v5, v8, v9, ())
theorem E16_ok : FnOk D PP E16 := fdS_ok lw fd16 (l := h16) (by kernel_rfl) (.nil) Try.func16 (by kernel_rfl) (by kernel_rfl) (by kernel_rfl) (enters_of (c := bodyF Try.f16) Try.func16 (by kernel_rfl) (by kernel_rfl)) (by kernel_rfl)
/-- pochoirref16.fine -/
noncomputable def fd54 : FD := ⟨54, bodyF Try.f54, Try.f54.results.toList, Try.f54.ntmps, [.val], [.v (.st 0)], [.v (.bool)], 1, [], 5000⟩
noncomputable def h54 : List (En D) := []
noncomputable def G54 : YR D [.v (.st 0)] → Option (YR D [.v (.bool)]) := sealF (Gof D fd54 (tabH D h54))
noncomputable def E54 : En D := ⟨54, [.val], [.v (.st 0)], [.v (.bool)], 1, G54⟩
noncomputable def F54 (x0 : S36) : Option (Bool) := G54 (x0)
theorem E54_ok : FnOk D PP E54 := fdS_ok lw fd54 (l := h54) (by kernel_rfl) (.nil) Try.func54 (by kernel_rfl) (by kernel_rfl) (by kernel_rfl) (enters_of (c := bodyF Try.f54) Try.func54 (by kernel_rfl) (by kernel_rfl)) (by kernel_rfl)
/-- pochoirref16.same -/
noncomputable def fd55 : FD := ⟨55, bodyF Try.f55, Try.f55.results.toList, Try.f55.ntmps, [.val], [.v (.st 1)], [.v (.bool)], 1, [], 5000⟩
noncomputable def h55 : List (En D) := []
noncomputable def G55 : YR D [.v (.st 1)] → Option (YR D [.v (.bool)]) := sealF (Gof D fd55 (tabH D h55))
noncomputable def E55 : En D := ⟨55, [.val], [.v (.st 1)], [.v (.bool)], 1, G55⟩
noncomputable def F55 (x0 : S38) : Option (Bool) := G55 (x0)
theorem E55_ok : FnOk D PP E55 := fdS_ok lw fd55 (l := h55) (by kernel_rfl) (.nil) Try.func55 (by kernel_rfl) (by kernel_rfl) (by kernel_rfl) (enters_of (c := bodyF Try.f55) Try.func55 (by kernel_rfl) (by kernel_rfl)) (by kernel_rfl)
/-- pochoirref16.One -/
noncomputable def fd17 : FD := ⟨17, bodyF Try.f17, Try.f17.results.toList, Try.f17.ntmps, [.val], [.v (.st 1)], [.v (.bool)], 1, [], 5000⟩
noncomputable def h17 : List (En D) := [E54, E55]
noncomputable def G17 : YR D [.v (.st 1)] → Option (YR D [.v (.bool)]) := sealF (Gof D fd17 (tabH D h17))
noncomputable def E17 : En D := ⟨17, [.val], [.v (.st 1)], [.v (.bool)], 1, G17⟩
noncomputable def F17 (x0 : S38) : Option (Bool) := G17 (x0)
theorem E17_ok : FnOk D PP E17 := fdS_ok lw fd17 (l := h17) (by kernel_rfl) (.cons E54_ok (.cons E55_ok .nil)) Try.func17 (by kernel_rfl) (by kernel_rfl) (by kernel_rfl) (enters_of (c := bodyF Try.f17) Try.func17 (by kernel_rfl) (by kernel_rfl)) (by kernel_rfl)
/-- pochoirlaw22.changed$1 -/
noncomputable def fd57 : FD := ⟨57, bodyF Try.f57, Try.f57.results.toList, Try.f57.ntmps, [.val, .ref], [.v (.st 0), .v (.int .i64)], [.v (.st 0), .v (.int .i64)], 1, [], 5000⟩
noncomputable def h57 : List (En D) := []
noncomputable def G57 : YR D [.v (.st 0), .v (.int .i64)] → Option (YR D [.v (.st 0), .v (.int .i64)]) := sealF (Gof D fd57 (tabH D h57))
noncomputable def E57 : En D := ⟨57, [.val, .ref], [.v (.st 0), .v (.int .i64)], [.v (.st 0), .v (.int .i64)], 1, G57⟩
noncomputable def F57 (x0 : S36) (x1 : Int) : Option (S36 × Int) := G57 (x0, x1)
theorem E57_ok : FnOk D PP E57 := fdS_ok lw fd57 (l := h57) (by kernel_rfl) (.nil) Try.func57 (by kernel_rfl) (by kernel_rfl) (by kernel_rfl) (enters_of (c := bodyF Try.f57) Try.func57 (by kernel_rfl) (by kernel_rfl)) (by kernel_rfl)
/-- pochoirlaw22.changed -/
noncomputable def fd19 : FD := ⟨19, bodyF Try.f19, Try.f19.results.toList, Try.f19.ntmps, [.val, .val], [.v (.st 1), .v (.int .i64)], [.v (.st 1)], 1, [], 5000⟩
noncomputable def h19 : List (En D) := [E57]
noncomputable def G19 : YR D [.v (.st 1), .v (.int .i64)] → Option (YR D [.v (.st 1)]) := sealF (Gof D fd19 (tabH D h19))
noncomputable def E19 : En D := ⟨19, [.val, .val], [.v (.st 1), .v (.int .i64)], [.v (.st 1)], 1, G19⟩
noncomputable def F19 (x0 : S38) (x1 : Int) : Option (S38) := G19 (x0, x1)
theorem E19_ok : FnOk D PP E19 := fdS_ok lw fd19 (l := h19) (by kernel_rfl) (.cons E57_ok .nil) Try.func19 (by kernel_rfl) (by kernel_rfl) (by kernel_rfl) (enters_of (c := bodyF Try.f19) Try.func19 (by kernel_rfl) (by kernel_rfl)) (by kernel_rfl)
/-- pochoirlaw22.CornerTurned -/
def c4_0 : Cut := ⟨31, [.box 7 7 (.st 1), .box 8 8 (.st 1)]⟩
noncomputable def fd4 : FD := ⟨4, bodyF Try.f4, Try.f4.results.toList, Try.f4.ntmps, [.val, .val, .val], [.v (.st 3), .v (.st 3), .v (.st 4)], [.v (.bool)], 1, [c4_0], 5000⟩
noncomputable def h4 : List (En D) := [E12, E16, E17, E18, E19]
noncomputable def G4 : YR D [.v (.st 3), .v (.st 3), .v (.st 4)] → Option (YR D [.v (.bool)]) := sealF (Gof D fd4 (tabH D h4))
noncomputable def E4 : En D := ⟨4, [.val, .val, .val], [.v (.st 3), .v (.st 3), .v (.st 4)], [.v (.bool)], 1, G4⟩
noncomputable def F4 (x0 : S33) (x1 : S33) (x2 : S34) : Option (Bool) := G4 (x0, x1, x2)
noncomputable def L4 : LL D (YR D fd4.ts) := sealF (LiF D fd4 (tabH D h4))
noncomputable def L4_0 (v7 : S38) (v8 : S38) : Option (Bool) := L4 c4_0 (v7, v8, ())
theorem E4_ok : FnOk D PP E4 := fdS_ok lw fd4 (l := h4) (by kernel_rfl) (.cons E12_ok (.cons E16_ok (.cons E17_ok (.cons E18_ok (.cons E19_ok .nil))))) Try.func4 (by kernel_rfl) (by kernel_rfl) (by kernel_rfl) (enters_of (c := bodyF Try.f4) Try.func4 (by kernel_rfl) (by kernel_rfl)) (by kernel_rfl)
/-- area.cross -/
noncomputable def fd110 : FD := ⟨110, bodyF Try.f110, Try.f110.results.toList, Try.f110.ntmps, [.val, .val], [.v (.st 0), .v (.st 0)], [.v (.int .i64)], 1, [], 5000⟩
noncomputable def h110 : List (En D) := []
noncomputable def G110 : YR D [.v (.st 0), .v (.st 0)] → Option (YR D [.v (.int .i64)]) := sealF (Gof D fd110 (tabH D h110))
noncomputable def E110 : En D := ⟨110, [.val, .val], [.v (.st 0), .v (.st 0)], [.v (.int .i64)], 1, G110⟩
noncomputable def F110 (x0 : S36) (x1 : S36) : Option (Int) := G110 (x0, x1)
theorem E110_ok : FnOk D PP E110 := fdS_ok lw fd110 (l := h110) (by kernel_rfl) (.nil) Try.func110 (by kernel_rfl) (by kernel_rfl) (by kernel_rfl) (enters_of (c := bodyF Try.f110) Try.func110 (by kernel_rfl) (by kernel_rfl)) (by kernel_rfl)
/-- area.one -/
noncomputable def fd76 : FD := ⟨76, bodyF Try.f76, Try.f76.results.toList, Try.f76.ntmps, [.val], [.v (.st 1)], [.v (.int .i64)], 1, [], 5000⟩
noncomputable def h76 : List (En D) := [E110]
noncomputable def G76 : YR D [.v (.st 1)] → Option (YR D [.v (.int .i64)]) := sealF (Gof D fd76 (tabH D h76))
noncomputable def E76 : En D := ⟨76, [.val], [.v (.st 1)], [.v (.int .i64)], 1, G76⟩
noncomputable def F76 (x0 : S38) : Option (Int) := G76 (x0)
theorem E76_ok : FnOk D PP E76 := fdS_ok lw fd76 (l := h76) (by kernel_rfl) (.cons E110_ok .nil) Try.func76 (by kernel_rfl) (by kernel_rfl) (by kernel_rfl) (enters_of (c := bodyF Try.f76) Try.func76 (by kernel_rfl) (by kernel_rfl)) (by kernel_rfl)
/-- big.trimmed -/
def c105_0 : Cut := ⟨56, [.v 0 (.sl (.int .u32)), .v 3 (.int .i64)]⟩
noncomputable def fd105 : FD := ⟨105, bodyF Try.f105, Try.f105.results.toList, Try.f105.ntmps, [.val], [.v (.sl (.int .u32))], [.v (.sl (.int .u32))], 1, [c105_0], 5000⟩
noncomputable def h105 : List (En D) := []
noncomputable def G105 : YR D [.v (.sl (.int .u32))] → Option (YR D [.v (.sl (.int .u32))]) := sealF (Gof D fd105 (tabH D h105))
noncomputable def E105 : En D := ⟨105, [.val], [.v (.sl (.int .u32))], [.v (.sl (.int .u32))], 1, G105⟩
noncomputable def F105 (x0 : List Int) : Option (List Int) := G105 (x0)
noncomputable def L105 : LL D (YR D fd105.ts) := sealF (LiF D fd105 (tabH D h105))
noncomputable def L105_0 (v0 : List Int) (v3 : Int) : Option (List Int) := L105 c105_0 (v0, v3, ())
theorem E105_ok : FnOk D PP E105 := fdS_ok lw fd105 (l := h105) (by kernel_rfl) (.nil) Try.func105 (by kernel_rfl) (by kernel_rfl) (by kernel_rfl) (enters_of (c := bodyF Try.f105) Try.func105 (by kernel_rfl) (by kernel_rfl)) (by kernel_rfl)
/-- big.form -/
noncomputable def fd106 : FD := ⟨106, bodyF Try.f106, Try.f106.results.toList, Try.f106.ntmps, [.val, .val], [.v (.bool), .v (.sl (.int .u32))], [.v (.st 5)], 1, [], 5000⟩
noncomputable def h106 : List (En D) := [E105]
noncomputable def G106 : YR D [.v (.bool), .v (.sl (.int .u32))] → Option (YR D [.v (.st 5)]) := sealF (Gof D fd106 (tabH D h106))
noncomputable def E106 : En D := ⟨106, [.val, .val], [.v (.bool), .v (.sl (.int .u32))], [.v (.st 5)], 1, G106⟩
noncomputable def F106 (x0 : Bool) (x1 : List Int) : Option (S57) := G106 (x0, x1)
theorem E106_ok : FnOk D PP E106 := fdS_ok lw fd106 (l := h106) (by kernel_rfl) (.cons E105_ok .nil) Try.func106 (by kernel_rfl) (by kernel_rfl) (by kernel_rfl) (enters_of (c := bodyF Try.f106) Try.func106 (by kernel_rfl) (by kernel_rfl)) (by kernel_rfl)
/-- big.Of -/
def c75_0 : Cut := ⟨15, [.v 0 (.int .i64), .box 2 2 (.st 5), .v 3 (.int .u64)]⟩
noncomputable def fd75 : FD := ⟨75, bodyF Try.f75, Try.f75.results.toList, Try.f75.ntmps, [.val], [.v (.int .i64)], [.v (.st 5)], 1, [c75_0], 5000⟩
noncomputable def h75 : List (En D) := [E106]
noncomputable def G75 : YR D [.v (.int .i64)] → Option (YR D [.v (.st 5)]) := sealF (Gof D fd75 (tabH D h75))
noncomputable def E75 : En D := ⟨75, [.val], [.v (.int .i64)], [.v (.st 5)], 1, G75⟩
noncomputable def F75 (x0 : Int) : Option (S57) := G75 (x0)
noncomputable def L75 : LL D (YR D fd75.ts) := sealF (LiF D fd75 (tabH D h75))
noncomputable def L75_0 (v0 : Int) (v2 : S57) (v3 : Int) : Option (S57) := L75 c75_0 (v0, v2, v3, ())
theorem E75_ok : FnOk D PP E75 := fdS_ok lw fd75 (l := h75) (by kernel_rfl) (.cons E106_ok .nil) Try.func75 (by kernel_rfl) (by kernel_rfl) (by kernel_rfl) (enters_of (c := bodyF Try.f75) Try.func75 (by kernel_rfl) (by kernel_rfl)) (by kernel_rfl)
/-- big.at -/
noncomputable def fd137 : FD := ⟨137, bodyF Try.f137, Try.f137.results.toList, Try.f137.ntmps, [.val, .val], [.v (.sl (.int .u32)), .v (.int .i64)], [.v (.int .u64)], 1, [], 5000⟩
noncomputable def h137 : List (En D) := []
noncomputable def G137 : YR D [.v (.sl (.int .u32)), .v (.int .i64)] → Option (YR D [.v (.int .u64)]) := sealF (Gof D fd137 (tabH D h137))
noncomputable def E137 : En D := ⟨137, [.val, .val], [.v (.sl (.int .u32)), .v (.int .i64)], [.v (.int .u64)], 1, G137⟩
noncomputable def F137 (x0 : List Int) (x1 : Int) : Option (Int) := G137 (x0, x1)
theorem E137_ok : FnOk D PP E137 := fdS_ok lw fd137 (l := h137) (by kernel_rfl) (.nil) Try.func137 (by kernel_rfl) (by kernel_rfl) (by kernel_rfl) (enters_of (c := bodyF Try.f137) Try.func137 (by kernel_rfl) (by kernel_rfl)) (by kernel_rfl)
/-- big.plus -/
def c107_0 : Cut := ⟨500, [.v 0 (.sl (.int .u32)), .v 1 (.sl (.int .u32)), .own 6 (.int .u32), .v 7 (.int .u64), .v 20 (.int .i64), .v 21 (.int .i64)]⟩
noncomputable def fd107 : FD := ⟨107, bodyF Try.f107, Try.f107.results.toList, Try.f107.ntmps, [.val, .val], [.v (.sl (.int .u32)), .v (.sl (.int .u32))], [.v (.sl (.int .u32))], 1, [c107_0], 5000⟩
noncomputable def h107 : List (En D) := [E137]
noncomputable def G107 : YR D [.v (.sl (.int .u32)), .v (.sl (.int .u32))] → Option (YR D [.v (.sl (.int .u32))]) := sealF (Gof D fd107 (tabH D h107))
noncomputable def E107 : En D := ⟨107, [.val, .val], [.v (.sl (.int .u32)), .v (.sl (.int .u32))], [.v (.sl (.int .u32))], 1, G107⟩
noncomputable def F107 (x0 : List Int) (x1 : List Int) : Option (List Int) := G107 (x0, x1)
noncomputable def L107 : LL D (YR D fd107.ts) := sealF (LiF D fd107 (tabH D h107))
noncomputable def L107_0 (v0 : List Int) (v1 : List Int) (v6 : List Int) (v7 : Int) (v20 : Int) (v21 : Int) : Option (List Int) := L107 c107_0 (v0, v1, v6, v7, v20, v21, ())
theorem E107_ok : FnOk D PP E107 := fdS_ok lw fd107 (l := h107) (by kernel_rfl) (.cons E137_ok .nil) Try.func107 (by kernel_rfl) (by kernel_rfl) (by kernel_rfl) (enters_of (c := bodyF Try.f107) Try.func107 (by kernel_rfl) (by kernel_rfl)) (by kernel_rfl)
/-- cmp.isNaN[int] -/
noncomputable def fd155 : FD := ⟨155, bodyF Try.f155, Try.f155.results.toList, Try.f155.ntmps, [.val], [.v (.int .i64)], [.v (.bool)], 1, [], 5000⟩
noncomputable def h155 : List (En D) := []
noncomputable def G155 : YR D [.v (.int .i64)] → Option (YR D [.v (.bool)]) := sealF (Gof D fd155 (tabH D h155))
noncomputable def E155 : En D := ⟨155, [.val], [.v (.int .i64)], [.v (.bool)], 1, G155⟩
noncomputable def F155 (x0 : Int) : Option (Bool) := G155 (x0)
theorem E155_ok : FnOk D PP E155 := fdS_ok lw fd155 (l := h155) (by kernel_rfl) (.nil) Try.func155 (by kernel_rfl) (by kernel_rfl) (by kernel_rfl) (enters_of (c := bodyF Try.f155) Try.func155 (by kernel_rfl) (by kernel_rfl)) (by kernel_rfl)
/-- cmp.Compare[int] -/
noncomputable def fd138 : FD := ⟨138, bodyF Try.f138, Try.f138.results.toList, Try.f138.ntmps, [.val, .val], [.v (.int .i64), .v (.int .i64)], [.v (.int .i64)], 1, [], 5000⟩
noncomputable def h138 : List (En D) := [E155]
noncomputable def G138 : YR D [.v (.int .i64), .v (.int .i64)] → Option (YR D [.v (.int .i64)]) := sealF (Gof D fd138 (tabH D h138))
noncomputable def E138 : En D := ⟨138, [.val, .val], [.v (.int .i64), .v (.int .i64)], [.v (.int .i64)], 1, G138⟩
noncomputable def F138 (x0 : Int) (x1 : Int) : Option (Int) := G138 (x0, x1)
theorem E138_ok : FnOk D PP E138 := fdS_ok lw fd138 (l := h138) (by kernel_rfl) (.cons E155_ok .nil) Try.func138 (by kernel_rfl) (by kernel_rfl) (by kernel_rfl) (enters_of (c := bodyF Try.f138) Try.func138 (by kernel_rfl) (by kernel_rfl)) (by kernel_rfl)
/-- cmp.isNaN[uint32] -/
noncomputable def fd156 : FD := ⟨156, bodyF Try.f156, Try.f156.results.toList, Try.f156.ntmps, [.val], [.v (.int .u32)], [.v (.bool)], 1, [], 5000⟩
noncomputable def h156 : List (En D) := []
noncomputable def G156 : YR D [.v (.int .u32)] → Option (YR D [.v (.bool)]) := sealF (Gof D fd156 (tabH D h156))
noncomputable def E156 : En D := ⟨156, [.val], [.v (.int .u32)], [.v (.bool)], 1, G156⟩
noncomputable def F156 (x0 : Int) : Option (Bool) := G156 (x0)
theorem E156_ok : FnOk D PP E156 := fdS_ok lw fd156 (l := h156) (by kernel_rfl) (.nil) Try.func156 (by kernel_rfl) (by kernel_rfl) (by kernel_rfl) (enters_of (c := bodyF Try.f156) Try.func156 (by kernel_rfl) (by kernel_rfl)) (by kernel_rfl)
/-- cmp.Compare[uint32] -/
noncomputable def fd139 : FD := ⟨139, bodyF Try.f139, Try.f139.results.toList, Try.f139.ntmps, [.val, .val], [.v (.int .u32), .v (.int .u32)], [.v (.int .i64)], 1, [], 5000⟩
noncomputable def h139 : List (En D) := [E156]
noncomputable def G139 : YR D [.v (.int .u32), .v (.int .u32)] → Option (YR D [.v (.int .i64)]) := sealF (Gof D fd139 (tabH D h139))
noncomputable def E139 : En D := ⟨139, [.val, .val], [.v (.int .u32), .v (.int .u32)], [.v (.int .i64)], 1, G139⟩
noncomputable def F139 (x0 : Int) (x1 : Int) : Option (Int) := G139 (x0, x1)
theorem E139_ok : FnOk D PP E139 := fdS_ok lw fd139 (l := h139) (by kernel_rfl) (.cons E156_ok .nil) Try.func139 (by kernel_rfl) (by kernel_rfl) (by kernel_rfl) (enters_of (c := bodyF Try.f139) Try.func139 (by kernel_rfl) (by kernel_rfl)) (by kernel_rfl)
/-- big.against -/
def c108_0 : Cut := ⟨116, [.v 0 (.sl (.int .u32)), .v 1 (.sl (.int .u32)), .v 6 (.int .i64)]⟩
noncomputable def fd108 : FD := ⟨108, bodyF Try.f108, Try.f108.results.toList, Try.f108.ntmps, [.val, .val], [.v (.sl (.int .u32)), .v (.sl (.int .u32))], [.v (.int .i64)], 1, [c108_0], 5000⟩
noncomputable def h108 : List (En D) := [E138, E139]
noncomputable def G108 : YR D [.v (.sl (.int .u32)), .v (.sl (.int .u32))] → Option (YR D [.v (.int .i64)]) := sealF (Gof D fd108 (tabH D h108))
noncomputable def E108 : En D := ⟨108, [.val, .val], [.v (.sl (.int .u32)), .v (.sl (.int .u32))], [.v (.int .i64)], 1, G108⟩
noncomputable def F108 (x0 : List Int) (x1 : List Int) : Option (Int) := G108 (x0, x1)
noncomputable def L108 : LL D (YR D fd108.ts) := sealF (LiF D fd108 (tabH D h108))
noncomputable def L108_0 (v0 : List Int) (v1 : List Int) (v6 : Int) : Option (Int) := L108 c108_0 (v0, v1, v6, ())
theorem E108_ok : FnOk D PP E108 := fdS_ok lw fd108 (l := h108) (by kernel_rfl) (.cons E138_ok (.cons E139_ok .nil)) Try.func108 (by kernel_rfl) (by kernel_rfl) (by kernel_rfl) (enters_of (c := bodyF Try.f108) Try.func108 (by kernel_rfl) (by kernel_rfl)) (by kernel_rfl)
/-- big.minus -/
def c109_0 : Cut := ⟨244, [.v 0 (.sl (.int .u32)), .v 1 (.sl (.int .u32)), .own 5 (.int .u32), .v 6 (.int .u64), .v 13 (.int .i64), .v 14 (.int .i64)]⟩
noncomputable def fd109 : FD := ⟨109, bodyF Try.f109, Try.f109.results.toList, Try.f109.ntmps, [.val, .val], [.v (.sl (.int .u32)), .v (.sl (.int .u32))], [.v (.sl (.int .u32))], 1, [c109_0], 5000⟩
noncomputable def h109 : List (En D) := [E137]
noncomputable def G109 : YR D [.v (.sl (.int .u32)), .v (.sl (.int .u32))] → Option (YR D [.v (.sl (.int .u32))]) := sealF (Gof D fd109 (tabH D h109))
noncomputable def E109 : En D := ⟨109, [.val, .val], [.v (.sl (.int .u32)), .v (.sl (.int .u32))], [.v (.sl (.int .u32))], 1, G109⟩
noncomputable def F109 (x0 : List Int) (x1 : List Int) : Option (List Int) := G109 (x0, x1)
noncomputable def L109 : LL D (YR D fd109.ts) := sealF (LiF D fd109 (tabH D h109))
noncomputable def L109_0 (v0 : List Int) (v1 : List Int) (v5 : List Int) (v6 : Int) (v13 : Int) (v14 : Int) : Option (List Int) := L109 c109_0 (v0, v1, v5, v6, v13, v14, ())
theorem E109_ok : FnOk D PP E109 := fdS_ok lw fd109 (l := h109) (by kernel_rfl) (.cons E137_ok .nil) Try.func109 (by kernel_rfl) (by kernel_rfl) (by kernel_rfl) (enters_of (c := bodyF Try.f109) Try.func109 (by kernel_rfl) (by kernel_rfl)) (by kernel_rfl)
/-- big.Add -/
noncomputable def fd74 : FD := ⟨74, bodyF Try.f74, Try.f74.results.toList, Try.f74.ntmps, [.val, .val], [.v (.st 5), .v (.st 5)], [.v (.st 5)], 1, [], 5000⟩
noncomputable def h74 : List (En D) := [E105, E106, E107, E108, E109]
noncomputable def G74 : YR D [.v (.st 5), .v (.st 5)] → Option (YR D [.v (.st 5)]) := sealF (Gof D fd74 (tabH D h74))
noncomputable def E74 : En D := ⟨74, [.val, .val], [.v (.st 5), .v (.st 5)], [.v (.st 5)], 1, G74⟩
noncomputable def F74 (x0 : S57) (x1 : S57) : Option (S57) := G74 (x0, x1)
theorem E74_ok : FnOk D PP E74 := fdS_ok lw fd74 (l := h74) (by kernel_rfl) (.cons E105_ok (.cons E106_ok (.cons E107_ok (.cons E108_ok (.cons E109_ok .nil))))) Try.func74 (by kernel_rfl) (by kernel_rfl) (by kernel_rfl) (enters_of (c := bodyF Try.f74) Try.func74 (by kernel_rfl) (by kernel_rfl)) (by kernel_rfl)
/-- area.Six -/
def c32_0 : Cut := ⟨244, [.box 2 2 (.st 5), .box 4 4 (.st 5), .v 11 (.sl (.st 1)), .v 12 (.int .i64), .v 13 (.int .i64)]⟩
noncomputable def fd32 : FD := ⟨32, bodyF Try.f32, Try.f32.results.toList, Try.f32.ntmps, [.val], [.v (.sl (.st 1))], [.v (.st 5), .v (.int .i64)], 2, [c32_0], 5000⟩
noncomputable def h32 : List (En D) := [E52, E74, E75, E76]
noncomputable def G32 : YR D [.v (.sl (.st 1))] → Option (YR D [.v (.st 5), .v (.int .i64)]) := sealF (Gof D fd32 (tabH D h32))
noncomputable def E32 : En D := ⟨32, [.val], [.v (.sl (.st 1))], [.v (.st 5), .v (.int .i64)], 2, G32⟩
noncomputable def F32 (x0 : List S38) : Option (S57 × Int) := G32 (x0)
noncomputable def L32 : LL D (YR D fd32.ts) := sealF (LiF D fd32 (tabH D h32))
noncomputable def L32_0 (v2 : S57) (v4 : S57) (v11 : List S38) (v12 : Int) (v13 : Int) : Option (S57 × Int) := L32 c32_0 (v2, v4, v11, v12, v13, ())
theorem E32_ok : FnOk D PP E32 := fdS_ok lw fd32 (l := h32) (by kernel_rfl) (.cons E52_ok (.cons E74_ok (.cons E75_ok (.cons E76_ok .nil)))) Try.func32 (by kernel_rfl) (by kernel_rfl) (by kernel_rfl) (enters_of (c := bodyF Try.f32) Try.func32 (by kernel_rfl) (by kernel_rfl)) (by kernel_rfl)
/-- area.contours -/
def c77_0 : Cut := ⟨244, [.v 0 (.sl (.st 1)), .own 4 (.int .i64), .own 5 (.st 5), .v 9 (.sl (.st 1)), .v 10 (.int .i64), .v 11 (.int .i64)]⟩
def c77_1 : Cut := ⟨15667, [.v 0 (.sl (.st 1)), .own 4 (.int .i64), .own 5 (.st 5), .box 7 7 (.st 1), .v 9 (.sl (.st 1)), .v 10 (.int .i64), .v 11 (.int .i64)]⟩
def c77_2 : Cut := ⟨62666, [.v 0 (.sl (.st 1)), .own 4 (.int .i64), .own 5 (.st 5), .box 7 7 (.st 1), .v 9 (.sl (.st 1)), .v 10 (.int .i64), .v 11 (.int .i64)]⟩
noncomputable def fd77 : FD := ⟨77, bodyF Try.f77, Try.f77.results.toList, Try.f77.ntmps, [.val], [.v (.sl (.st 1))], [.v (.sl (.int .i64)), .v (.sl (.st 5))], 2, [c77_0, c77_1, c77_2], 5000⟩
noncomputable def h77 : List (En D) := [E74, E75, E76]
noncomputable def G77 : YR D [.v (.sl (.st 1))] → Option (YR D [.v (.sl (.int .i64)), .v (.sl (.st 5))]) := sealF (Gof D fd77 (tabH D h77))
noncomputable def E77 : En D := ⟨77, [.val], [.v (.sl (.st 1))], [.v (.sl (.int .i64)), .v (.sl (.st 5))], 2, G77⟩
noncomputable def F77 (x0 : List S38) : Option (List Int × List S57) := G77 (x0)
noncomputable def L77 : LL D (YR D fd77.ts) := sealF (LiF D fd77 (tabH D h77))
noncomputable def L77_0 (v0 : List S38) (v4 : List Int) (v5 : List S57) (v9 : List S38) (v10 : Int) (v11 : Int) : Option (List Int × List S57) := L77 c77_0 (v0, v4, v5, v9, v10, v11, ())
noncomputable def L77_1 (v0 : List S38) (v4 : List Int) (v5 : List S57) (v7 : S38) (v9 : List S38) (v10 : Int) (v11 : Int) : Option (List Int × List S57) := L77 c77_1 (v0, v4, v5, v7, v9, v10, v11, ())
noncomputable def L77_2 (v0 : List S38) (v4 : List Int) (v5 : List S57) (v7 : S38) (v9 : List S38) (v10 : Int) (v11 : Int) : Option (List Int × List S57) := L77 c77_2 (v0, v4, v5, v7, v9, v10, v11, ())
theorem E77_ok : FnOk D PP E77 := fdS_ok lw fd77 (l := h77) (by kernel_rfl) (.cons E74_ok (.cons E75_ok (.cons E76_ok .nil))) Try.func77 (by kernel_rfl) (by kernel_rfl) (by kernel_rfl) (enters_of (c := bodyF Try.f77) Try.func77 (by kernel_rfl) (by kernel_rfl)) (by kernel_rfl)
/-- area.Contours -/
noncomputable def fd33 : FD := ⟨33, bodyF Try.f33, Try.f33.results.toList, Try.f33.ntmps, [.val], [.v (.sl (.st 1))], [.v (.sl (.st 5)), .v (.int .i64)], 2, [], 5000⟩
noncomputable def h33 : List (En D) := [E52, E77]
noncomputable def G33 : YR D [.v (.sl (.st 1))] → Option (YR D [.v (.sl (.st 5)), .v (.int .i64)]) := sealF (Gof D fd33 (tabH D h33))
noncomputable def E33 : En D := ⟨33, [.val], [.v (.sl (.st 1))], [.v (.sl (.st 5)), .v (.int .i64)], 2, G33⟩
noncomputable def F33 (x0 : List S38) : Option (List S57 × Int) := G33 (x0)
theorem E33_ok : FnOk D PP E33 := fdS_ok lw fd33 (l := h33) (by kernel_rfl) (.cons E52_ok (.cons E77_ok .nil)) Try.func33 (by kernel_rfl) (by kernel_rfl) (by kernel_rfl) (enters_of (c := bodyF Try.f33) Try.func33 (by kernel_rfl) (by kernel_rfl)) (by kernel_rfl)
/-- big.Sign -/
noncomputable def fd78 : FD := ⟨78, bodyF Try.f78, Try.f78.results.toList, Try.f78.ntmps, [.val], [.v (.st 5)], [.v (.int .i64)], 1, [], 5000⟩
noncomputable def h78 : List (En D) := [E105]
noncomputable def G78 : YR D [.v (.st 5)] → Option (YR D [.v (.int .i64)]) := sealF (Gof D fd78 (tabH D h78))
noncomputable def E78 : En D := ⟨78, [.val], [.v (.st 5)], [.v (.int .i64)], 1, G78⟩
noncomputable def F78 (x0 : S57) : Option (Int) := G78 (x0)
theorem E78_ok : FnOk D PP E78 := fdS_ok lw fd78 (l := h78) (by kernel_rfl) (.cons E105_ok .nil) Try.func78 (by kernel_rfl) (by kernel_rfl) (by kernel_rfl) (enters_of (c := bodyF Try.f78) Try.func78 (by kernel_rfl) (by kernel_rfl)) (by kernel_rfl)
/-- area.Right -/
def c34_0 : Cut := ⟨500, [.own 4 (.int .i64), .v 5 (.sl (.int .i64)), .v 17 (.sl (.st 5)), .v 18 (.int .i64), .v 19 (.int .i64)]⟩
noncomputable def fd34 : FD := ⟨34, bodyF Try.f34, Try.f34.results.toList, Try.f34.ntmps, [.val], [.v (.sl (.st 1))], [.v (.sl (.int .i64)), .v (.int .i64)], 2, [c34_0], 5000⟩
noncomputable def h34 : List (En D) := [E52, E77, E78]
noncomputable def G34 : YR D [.v (.sl (.st 1))] → Option (YR D [.v (.sl (.int .i64)), .v (.int .i64)]) := sealF (Gof D fd34 (tabH D h34))
noncomputable def E34 : En D := ⟨34, [.val], [.v (.sl (.st 1))], [.v (.sl (.int .i64)), .v (.int .i64)], 2, G34⟩
noncomputable def F34 (x0 : List S38) : Option (List Int × Int) := G34 (x0)
noncomputable def L34 : LL D (YR D fd34.ts) := sealF (LiF D fd34 (tabH D h34))
noncomputable def L34_0 (v4 : List Int) (v5 : List Int) (v17 : List S57) (v18 : Int) (v19 : Int) : Option (List Int × Int) := L34 c34_0 (v4, v5, v17, v18, v19, ())
theorem E34_ok : FnOk D PP E34 := fdS_ok lw fd34 (l := h34) (by kernel_rfl) (.cons E52_ok (.cons E77_ok (.cons E78_ok .nil))) Try.func34 (by kernel_rfl) (by kernel_rfl) (by kernel_rfl) (enters_of (c := bodyF Try.f34) Try.func34 (by kernel_rfl) (by kernel_rfl)) (by kernel_rfl)
/-- pochoirlaw38.awake -/
noncomputable def fd31 : FD := ⟨31, bodyF Try.f31, Try.f31.results.toList, Try.f31.ntmps, [], [], [.v (.bool)], 1, [], 5000⟩
noncomputable def h31 : List (En D) := [E32, E33, E34]
noncomputable def G31 : YR D [] → Option (YR D [.v (.bool)]) := sealF (Gof D fd31 (tabH D h31))
noncomputable def E31 : En D := ⟨31, [], [], [.v (.bool)], 1, G31⟩
noncomputable def F31 : Option (Bool) := G31 ()
theorem E31_ok : FnOk D PP E31 := fdS_ok lw fd31 (l := h31) (by kernel_rfl) (.cons E32_ok (.cons E33_ok (.cons E34_ok .nil))) Try.func31 (by kernel_rfl) (by kernel_rfl) (by kernel_rfl) (enters_of (c := bodyF Try.f31) Try.func31 (by kernel_rfl) (by kernel_rfl)) (by kernel_rfl)
/-- pochoirref16.Closed -/
def c82_0 : Cut := ⟨116, [.v 0 (.sl (.st 1)), .v 3 (.int .i64), .v 4 (.int .i64)]⟩
def c82_1 : Cut := ⟨1865, [.v 0 (.sl (.st 1)), .v 3 (.int .i64), .v 4 (.int .i64)]⟩
def c82_2 : Cut := ⟨3731, [.v 0 (.sl (.st 1)), .v 3 (.int .i64), .v 4 (.int .i64), .v 5 (.bool)]⟩
noncomputable def fd82 : FD := ⟨82, bodyF Try.f82, Try.f82.results.toList, Try.f82.ntmps, [.val], [.v (.sl (.st 1))], [.v (.bool)], 1, [c82_0, c82_1, c82_2], 5000⟩
noncomputable def h82 : List (En D) := []
noncomputable def G82 : YR D [.v (.sl (.st 1))] → Option (YR D [.v (.bool)]) := sealF (Gof D fd82 (tabH D h82))
noncomputable def E82 : En D := ⟨82, [.val], [.v (.sl (.st 1))], [.v (.bool)], 1, G82⟩
noncomputable def F82 (x0 : List S38) : Option (Bool) := G82 (x0)
noncomputable def L82 : LL D (YR D fd82.ts) := sealF (LiF D fd82 (tabH D h82))
noncomputable def L82_0 (v0 : List S38) (v3 : Int) (v4 : Int) : Option (Bool) := L82 c82_0 (v0, v3, v4, ())
noncomputable def L82_1 (v0 : List S38) (v3 : Int) (v4 : Int) : Option (Bool) := L82 c82_1 (v0, v3, v4, ())
noncomputable def L82_2 (v0 : List S38) (v3 : Int) (v4 : Int) (v5 : Bool) : Option (Bool) := L82 c82_2 (v0, v3, v4, v5, ())
theorem E82_ok : FnOk D PP E82 := fdS_ok lw fd82 (l := h82) (by kernel_rfl) (.nil) Try.func82 (by kernel_rfl) (by kernel_rfl) (by kernel_rfl) (enters_of (c := bodyF Try.f82) Try.func82 (by kernel_rfl) (by kernel_rfl)) (by kernel_rfl)
/-- pochoirref16.May -/
def c40_0 : Cut := ⟨116, [.v 0 (.sl (.st 1)), .v 3 (.int .i64)]⟩
noncomputable def fd40 : FD := ⟨40, bodyF Try.f40, Try.f40.results.toList, Try.f40.ntmps, [.val], [.v (.sl (.st 1))], [.v (.bool)], 1, [c40_0], 5000⟩
noncomputable def h40 : List (En D) := [E17, E82]
noncomputable def G40 : YR D [.v (.sl (.st 1))] → Option (YR D [.v (.bool)]) := sealF (Gof D fd40 (tabH D h40))
noncomputable def E40 : En D := ⟨40, [.val], [.v (.sl (.st 1))], [.v (.bool)], 1, G40⟩
noncomputable def F40 (x0 : List S38) : Option (Bool) := G40 (x0)
noncomputable def L40 : LL D (YR D fd40.ts) := sealF (LiF D fd40 (tabH D h40))
noncomputable def L40_0 (v0 : List S38) (v3 : Int) : Option (Bool) := L40 c40_0 (v0, v3, ())
theorem E40_ok : FnOk D PP E40 := fdS_ok lw fd40 (l := h40) (by kernel_rfl) (.cons E17_ok (.cons E82_ok .nil)) Try.func40 (by kernel_rfl) (by kernel_rfl) (by kernel_rfl) (enters_of (c := bodyF Try.f40) Try.func40 (by kernel_rfl) (by kernel_rfl)) (by kernel_rfl)
/-- pochoirref02.trim -/
def c115_0 : Cut := ⟨56, [.v 0 (.sl (.int .u64)), .v 3 (.int .i64)]⟩
noncomputable def fd115 : FD := ⟨115, bodyF Try.f115, Try.f115.results.toList, Try.f115.ntmps, [.val], [.v (.sl (.int .u64))], [.v (.sl (.int .u64))], 1, [c115_0], 5000⟩
noncomputable def h115 : List (En D) := []
noncomputable def G115 : YR D [.v (.sl (.int .u64))] → Option (YR D [.v (.sl (.int .u64))]) := sealF (Gof D fd115 (tabH D h115))
noncomputable def E115 : En D := ⟨115, [.val], [.v (.sl (.int .u64))], [.v (.sl (.int .u64))], 1, G115⟩
noncomputable def F115 (x0 : List Int) : Option (List Int) := G115 (x0)
noncomputable def L115 : LL D (YR D fd115.ts) := sealF (LiF D fd115 (tabH D h115))
noncomputable def L115_0 (v0 : List Int) (v3 : Int) : Option (List Int) := L115 c115_0 (v0, v3, ())
theorem E115_ok : FnOk D PP E115 := fdS_ok lw fd115 (l := h115) (by kernel_rfl) (.nil) Try.func115 (by kernel_rfl) (by kernel_rfl) (by kernel_rfl) (enters_of (c := bodyF Try.f115) Try.func115 (by kernel_rfl) (by kernel_rfl)) (by kernel_rfl)
/-- pochoirref02.norm -/
noncomputable def fd83 : FD := ⟨83, bodyF Try.f83, Try.f83.results.toList, Try.f83.ntmps, [.val, .val], [.v (.bool), .v (.sl (.int .u64))], [.v (.st 6)], 1, [], 5000⟩
noncomputable def h83 : List (En D) := [E115]
noncomputable def G83 : YR D [.v (.bool), .v (.sl (.int .u64))] → Option (YR D [.v (.st 6)]) := sealF (Gof D fd83 (tabH D h83))
noncomputable def E83 : En D := ⟨83, [.val, .val], [.v (.bool), .v (.sl (.int .u64))], [.v (.st 6)], 1, G83⟩
noncomputable def F83 (x0 : Bool) (x1 : List Int) : Option (S71) := G83 (x0, x1)
theorem E83_ok : FnOk D PP E83 := fdS_ok lw fd83 (l := h83) (by kernel_rfl) (.cons E115_ok .nil) Try.func83 (by kernel_rfl) (by kernel_rfl) (by kernel_rfl) (enters_of (c := bodyF Try.f83) Try.func83 (by kernel_rfl) (by kernel_rfl)) (by kernel_rfl)
/-- pochoirref02.Of -/
def c44_0 : Cut := ⟨15, [.v 0 (.int .i64), .box 2 2 (.st 6), .v 3 (.int .u64)]⟩
noncomputable def fd44 : FD := ⟨44, bodyF Try.f44, Try.f44.results.toList, Try.f44.ntmps, [.val], [.v (.int .i64)], [.v (.st 6)], 1, [c44_0], 5000⟩
noncomputable def h44 : List (En D) := [E83]
noncomputable def G44 : YR D [.v (.int .i64)] → Option (YR D [.v (.st 6)]) := sealF (Gof D fd44 (tabH D h44))
noncomputable def E44 : En D := ⟨44, [.val], [.v (.int .i64)], [.v (.st 6)], 1, G44⟩
noncomputable def F44 (x0 : Int) : Option (S71) := G44 (x0)
noncomputable def L44 : LL D (YR D fd44.ts) := sealF (LiF D fd44 (tabH D h44))
noncomputable def L44_0 (v0 : Int) (v2 : S71) (v3 : Int) : Option (S71) := L44 c44_0 (v0, v2, v3, ())
theorem E44_ok : FnOk D PP E44 := fdS_ok lw fd44 (l := h44) (by kernel_rfl) (.cons E83_ok .nil) Try.func44 (by kernel_rfl) (by kernel_rfl) (by kernel_rfl) (enters_of (c := bodyF Try.f44) Try.func44 (by kernel_rfl) (by kernel_rfl)) (by kernel_rfl)
/-- pochoirref02.at -/
noncomputable def fd79 : FD := ⟨79, bodyF Try.f79, Try.f79.results.toList, Try.f79.ntmps, [.val, .val], [.v (.sl (.int .u64)), .v (.int .i64)], [.v (.int .u64)], 1, [], 5000⟩
noncomputable def h79 : List (En D) := []
noncomputable def G79 : YR D [.v (.sl (.int .u64)), .v (.int .i64)] → Option (YR D [.v (.int .u64)]) := sealF (Gof D fd79 (tabH D h79))
noncomputable def E79 : En D := ⟨79, [.val, .val], [.v (.sl (.int .u64)), .v (.int .i64)], [.v (.int .u64)], 1, G79⟩
noncomputable def F79 (x0 : List Int) (x1 : Int) : Option (Int) := G79 (x0, x1)
theorem E79_ok : FnOk D PP E79 := fdS_ok lw fd79 (l := h79) (by kernel_rfl) (.nil) Try.func79 (by kernel_rfl) (by kernel_rfl) (by kernel_rfl) (enters_of (c := bodyF Try.f79) Try.func79 (by kernel_rfl) (by kernel_rfl)) (by kernel_rfl)
/-- pochoirref02.Mul -/
def c43_0 : Cut := ⟨116, [.box 2 2 (.st 6), .box 3 3 (.st 6), .box 4 4 (.st 6), .own 5 (.int .u64), .v 6 (.int .i64)]⟩
def c43_1 : Cut := ⟨14924, [.box 2 2 (.st 6), .box 3 3 (.st 6), .box 4 4 (.st 6), .own 5 (.int .u64), .v 6 (.int .i64), .v 7 (.int .u64), .v 8 (.int .i64)]⟩
def c43_2 : Cut := ⟨29849, [.box 2 2 (.st 6), .box 3 3 (.st 6), .box 4 4 (.st 6), .own 5 (.int .u64), .v 6 (.int .i64), .v 7 (.int .u64), .v 8 (.int .i64)]⟩
noncomputable def fd43 : FD := ⟨43, bodyF Try.f43, Try.f43.results.toList, Try.f43.ntmps, [.val, .val], [.v (.st 6), .v (.st 6)], [.v (.st 6)], 1, [c43_0, c43_1, c43_2], 5000⟩
noncomputable def h43 : List (En D) := [E79, E83]
noncomputable def G43 : YR D [.v (.st 6), .v (.st 6)] → Option (YR D [.v (.st 6)]) := sealF (Gof D fd43 (tabH D h43))
noncomputable def E43 : En D := ⟨43, [.val, .val], [.v (.st 6), .v (.st 6)], [.v (.st 6)], 1, G43⟩
noncomputable def F43 (x0 : S71) (x1 : S71) : Option (S71) := G43 (x0, x1)
noncomputable def L43 : LL D (YR D fd43.ts) := sealF (LiF D fd43 (tabH D h43))
noncomputable def L43_0 (v2 : S71) (v3 : S71) (v4 : S71) (v5 : List Int) (v6 : Int) : Option (S71) := L43 c43_0 (v2, v3, v4, v5, v6, ())
noncomputable def L43_1 (v2 : S71) (v3 : S71) (v4 : S71) (v5 : List Int) (v6 : Int) (v7 : Int) (v8 : Int) : Option (S71) := L43 c43_1 (v2, v3, v4, v5, v6, v7, v8, ())
noncomputable def L43_2 (v2 : S71) (v3 : S71) (v4 : S71) (v5 : List Int) (v6 : Int) (v7 : Int) (v8 : Int) : Option (S71) := L43 c43_2 (v2, v3, v4, v5, v6, v7, v8, ())
theorem E43_ok : FnOk D PP E43 := fdS_ok lw fd43 (l := h43) (by kernel_rfl) (.cons E79_ok (.cons E83_ok .nil)) Try.func43 (by kernel_rfl) (by kernel_rfl) (by kernel_rfl) (enters_of (c := bodyF Try.f43) Try.func43 (by kernel_rfl) (by kernel_rfl)) (by kernel_rfl)
/-- pochoirref02.Neg -/
noncomputable def fd42 : FD := ⟨42, bodyF Try.f42, Try.f42.results.toList, Try.f42.ntmps, [.val], [.v (.st 6)], [.v (.st 6)], 1, [], 5000⟩
noncomputable def h42 : List (En D) := [E83]
noncomputable def G42 : YR D [.v (.st 6)] → Option (YR D [.v (.st 6)]) := sealF (Gof D fd42 (tabH D h42))
noncomputable def E42 : En D := ⟨42, [.val], [.v (.st 6)], [.v (.st 6)], 1, G42⟩
noncomputable def F42 (x0 : S71) : Option (S71) := G42 (x0)
theorem E42_ok : FnOk D PP E42 := fdS_ok lw fd42 (l := h42) (by kernel_rfl) (.cons E83_ok .nil) Try.func42 (by kernel_rfl) (by kernel_rfl) (by kernel_rfl) (enters_of (c := bodyF Try.f42) Try.func42 (by kernel_rfl) (by kernel_rfl)) (by kernel_rfl)
/-- pochoirref02.plus -/
def c111_0 : Cut := ⟨244, [.v 0 (.sl (.int .u64)), .v 1 (.sl (.int .u64)), .own 5 (.int .u64), .v 6 (.int .u64), .v 7 (.int .i64)]⟩
def c111_1 : Cut := ⟨489, [.v 0 (.sl (.int .u64)), .v 1 (.sl (.int .u64)), .own 5 (.int .u64), .v 6 (.int .u64), .v 7 (.int .i64)]⟩
noncomputable def fd111 : FD := ⟨111, bodyF Try.f111, Try.f111.results.toList, Try.f111.ntmps, [.val, .val], [.v (.sl (.int .u64)), .v (.sl (.int .u64))], [.v (.sl (.int .u64))], 1, [c111_0, c111_1], 5000⟩
noncomputable def h111 : List (En D) := [E79]
noncomputable def G111 : YR D [.v (.sl (.int .u64)), .v (.sl (.int .u64))] → Option (YR D [.v (.sl (.int .u64))]) := sealF (Gof D fd111 (tabH D h111))
noncomputable def E111 : En D := ⟨111, [.val, .val], [.v (.sl (.int .u64)), .v (.sl (.int .u64))], [.v (.sl (.int .u64))], 1, G111⟩
noncomputable def F111 (x0 : List Int) (x1 : List Int) : Option (List Int) := G111 (x0, x1)
noncomputable def L111 : LL D (YR D fd111.ts) := sealF (LiF D fd111 (tabH D h111))
noncomputable def L111_0 (v0 : List Int) (v1 : List Int) (v5 : List Int) (v6 : Int) (v7 : Int) : Option (List Int) := L111 c111_0 (v0, v1, v5, v6, v7, ())
noncomputable def L111_1 (v0 : List Int) (v1 : List Int) (v5 : List Int) (v6 : Int) (v7 : Int) : Option (List Int) := L111 c111_1 (v0, v1, v5, v6, v7, ())
theorem E111_ok : FnOk D PP E111 := fdS_ok lw fd111 (l := h111) (by kernel_rfl) (.cons E79_ok .nil) Try.func111 (by kernel_rfl) (by kernel_rfl) (by kernel_rfl) (enters_of (c := bodyF Try.f111) Try.func111 (by kernel_rfl) (by kernel_rfl)) (by kernel_rfl)
/-- pochoirref02.less -/
def c112_0 : Cut := ⟨116, [.v 0 (.sl (.int .u64)), .v 1 (.sl (.int .u64)), .v 5 (.int .i64)]⟩
noncomputable def fd112 : FD := ⟨112, bodyF Try.f112, Try.f112.results.toList, Try.f112.ntmps, [.val, .val], [.v (.sl (.int .u64)), .v (.sl (.int .u64))], [.v (.int .i64)], 1, [c112_0], 5000⟩
noncomputable def h112 : List (En D) := []
noncomputable def G112 : YR D [.v (.sl (.int .u64)), .v (.sl (.int .u64))] → Option (YR D [.v (.int .i64)]) := sealF (Gof D fd112 (tabH D h112))
noncomputable def E112 : En D := ⟨112, [.val, .val], [.v (.sl (.int .u64)), .v (.sl (.int .u64))], [.v (.int .i64)], 1, G112⟩
noncomputable def F112 (x0 : List Int) (x1 : List Int) : Option (Int) := G112 (x0, x1)
noncomputable def L112 : LL D (YR D fd112.ts) := sealF (LiF D fd112 (tabH D h112))
noncomputable def L112_0 (v0 : List Int) (v1 : List Int) (v5 : Int) : Option (Int) := L112 c112_0 (v0, v1, v5, ())
theorem E112_ok : FnOk D PP E112 := fdS_ok lw fd112 (l := h112) (by kernel_rfl) (.nil) Try.func112 (by kernel_rfl) (by kernel_rfl) (by kernel_rfl) (enters_of (c := bodyF Try.f112) Try.func112 (by kernel_rfl) (by kernel_rfl)) (by kernel_rfl)
/-- pochoirref02.minus -/
def c113_0 : Cut := ⟨244, [.v 0 (.sl (.int .u64)), .v 1 (.sl (.int .u64)), .own 5 (.int .u64), .v 6 (.int .u64), .v 7 (.int .i64)]⟩
noncomputable def fd113 : FD := ⟨113, bodyF Try.f113, Try.f113.results.toList, Try.f113.ntmps, [.val, .val], [.v (.sl (.int .u64)), .v (.sl (.int .u64))], [.v (.sl (.int .u64))], 1, [c113_0], 5000⟩
noncomputable def h113 : List (En D) := [E79]
noncomputable def G113 : YR D [.v (.sl (.int .u64)), .v (.sl (.int .u64))] → Option (YR D [.v (.sl (.int .u64))]) := sealF (Gof D fd113 (tabH D h113))
noncomputable def E113 : En D := ⟨113, [.val, .val], [.v (.sl (.int .u64)), .v (.sl (.int .u64))], [.v (.sl (.int .u64))], 1, G113⟩
noncomputable def F113 (x0 : List Int) (x1 : List Int) : Option (List Int) := G113 (x0, x1)
noncomputable def L113 : LL D (YR D fd113.ts) := sealF (LiF D fd113 (tabH D h113))
noncomputable def L113_0 (v0 : List Int) (v1 : List Int) (v5 : List Int) (v6 : Int) (v7 : Int) : Option (List Int) := L113 c113_0 (v0, v1, v5, v6, v7, ())
theorem E113_ok : FnOk D PP E113 := fdS_ok lw fd113 (l := h113) (by kernel_rfl) (.cons E79_ok .nil) Try.func113 (by kernel_rfl) (by kernel_rfl) (by kernel_rfl) (enters_of (c := bodyF Try.f113) Try.func113 (by kernel_rfl) (by kernel_rfl)) (by kernel_rfl)
/-- pochoirref02.Add -/
noncomputable def fd80 : FD := ⟨80, bodyF Try.f80, Try.f80.results.toList, Try.f80.ntmps, [.val, .val], [.v (.st 6), .v (.st 6)], [.v (.st 6)], 1, [], 5000⟩
noncomputable def h80 : List (En D) := [E83, E111, E112, E113]
noncomputable def G80 : YR D [.v (.st 6), .v (.st 6)] → Option (YR D [.v (.st 6)]) := sealF (Gof D fd80 (tabH D h80))
noncomputable def E80 : En D := ⟨80, [.val, .val], [.v (.st 6), .v (.st 6)], [.v (.st 6)], 1, G80⟩
noncomputable def F80 (x0 : S71) (x1 : S71) : Option (S71) := G80 (x0, x1)
theorem E80_ok : FnOk D PP E80 := fdS_ok lw fd80 (l := h80) (by kernel_rfl) (.cons E83_ok (.cons E111_ok (.cons E112_ok (.cons E113_ok .nil)))) Try.func80 (by kernel_rfl) (by kernel_rfl) (by kernel_rfl) (enters_of (c := bodyF Try.f80) Try.func80 (by kernel_rfl) (by kernel_rfl)) (by kernel_rfl)
/-- pochoirref02.Sub -/
noncomputable def fd140 : FD := ⟨140, bodyF Try.f140, Try.f140.results.toList, Try.f140.ntmps, [.val, .val], [.v (.st 6), .v (.st 6)], [.v (.st 6)], 1, [], 5000⟩
noncomputable def h140 : List (En D) := [E42, E80]
noncomputable def G140 : YR D [.v (.st 6), .v (.st 6)] → Option (YR D [.v (.st 6)]) := sealF (Gof D fd140 (tabH D h140))
noncomputable def E140 : En D := ⟨140, [.val, .val], [.v (.st 6), .v (.st 6)], [.v (.st 6)], 1, G140⟩
noncomputable def F140 (x0 : S71) (x1 : S71) : Option (S71) := G140 (x0, x1)
theorem E140_ok : FnOk D PP E140 := fdS_ok lw fd140 (l := h140) (by kernel_rfl) (.cons E42_ok (.cons E80_ok .nil)) Try.func140 (by kernel_rfl) (by kernel_rfl) (by kernel_rfl) (enters_of (c := bodyF Try.f140) Try.func140 (by kernel_rfl) (by kernel_rfl)) (by kernel_rfl)
/-- pochoirref38.cross -/
noncomputable def fd114 : FD := ⟨114, bodyF Try.f114, Try.f114.results.toList, Try.f114.ntmps, [.val, .val], [.v (.st 0), .v (.st 0)], [.v (.st 6)], 1, [], 5000⟩
noncomputable def h114 : List (En D) := [E43, E44, E140]
noncomputable def G114 : YR D [.v (.st 0), .v (.st 0)] → Option (YR D [.v (.st 6)]) := sealF (Gof D fd114 (tabH D h114))
noncomputable def E114 : En D := ⟨114, [.val, .val], [.v (.st 0), .v (.st 0)], [.v (.st 6)], 1, G114⟩
noncomputable def F114 (x0 : S36) (x1 : S36) : Option (S71) := G114 (x0, x1)
theorem E114_ok : FnOk D PP E114 := fdS_ok lw fd114 (l := h114) (by kernel_rfl) (.cons E43_ok (.cons E44_ok (.cons E140_ok .nil))) Try.func114 (by kernel_rfl) (by kernel_rfl) (by kernel_rfl) (enters_of (c := bodyF Try.f114) Try.func114 (by kernel_rfl) (by kernel_rfl)) (by kernel_rfl)
/-- pochoirref38.one -/
noncomputable def fd81 : FD := ⟨81, bodyF Try.f81, Try.f81.results.toList, Try.f81.ntmps, [.val], [.v (.st 1)], [.v (.st 6)], 1, [], 5000⟩
noncomputable def h81 : List (En D) := [E43, E44, E80, E114]
noncomputable def G81 : YR D [.v (.st 1)] → Option (YR D [.v (.st 6)]) := sealF (Gof D fd81 (tabH D h81))
noncomputable def E81 : En D := ⟨81, [.val], [.v (.st 1)], [.v (.st 6)], 1, G81⟩
noncomputable def F81 (x0 : S38) : Option (S71) := G81 (x0)
theorem E81_ok : FnOk D PP E81 := fdS_ok lw fd81 (l := h81) (by kernel_rfl) (.cons E43_ok (.cons E44_ok (.cons E80_ok (.cons E114_ok .nil)))) Try.func81 (by kernel_rfl) (by kernel_rfl) (by kernel_rfl) (enters_of (c := bodyF Try.f81) Try.func81 (by kernel_rfl) (by kernel_rfl)) (by kernel_rfl)
/-- pochoirref38.Six -/
def c39_0 : Cut := ⟨116, [.v 0 (.sl (.st 1)), .box 2 2 (.st 6), .box 3 3 (.st 6), .v 4 (.int .i64)]⟩
noncomputable def fd39 : FD := ⟨39, bodyF Try.f39, Try.f39.results.toList, Try.f39.ntmps, [.val], [.v (.sl (.st 1))], [.v (.st 6)], 1, [c39_0], 5000⟩
noncomputable def h39 : List (En D) := [E80, E81]
noncomputable def G39 : YR D [.v (.sl (.st 1))] → Option (YR D [.v (.st 6)]) := sealF (Gof D fd39 (tabH D h39))
noncomputable def E39 : En D := ⟨39, [.val], [.v (.sl (.st 1))], [.v (.st 6)], 1, G39⟩
noncomputable def F39 (x0 : List S38) : Option (S71) := G39 (x0)
noncomputable def L39 : LL D (YR D fd39.ts) := sealF (LiF D fd39 (tabH D h39))
noncomputable def L39_0 (v0 : List S38) (v2 : S71) (v3 : S71) (v4 : Int) : Option (S71) := L39 c39_0 (v0, v2, v3, v4, ())
theorem E39_ok : FnOk D PP E39 := fdS_ok lw fd39 (l := h39) (by kernel_rfl) (.cons E80_ok (.cons E81_ok .nil)) Try.func39 (by kernel_rfl) (by kernel_rfl) (by kernel_rfl) (enters_of (c := bodyF Try.f39) Try.func39 (by kernel_rfl) (by kernel_rfl)) (by kernel_rfl)
/-- pochoirref38.Contours -/
def c35_0 : Cut := ⟨500, [.v 0 (.sl (.st 1)), .own 5 (.st 6), .own 6 (.int .i64), .v 7 (.int .i64)]⟩
def c35_1 : Cut := ⟨8011, [.v 0 (.sl (.st 1)), .own 5 (.st 6), .own 6 (.int .i64), .v 7 (.int .i64), .v 8 (.int .i64)]⟩
def c35_2 : Cut := ⟨32040, [.v 0 (.sl (.st 1)), .own 5 (.st 6), .own 6 (.int .i64), .v 7 (.int .i64), .v 8 (.int .i64)]⟩
noncomputable def fd35 : FD := ⟨35, bodyF Try.f35, Try.f35.results.toList, Try.f35.ntmps, [.val], [.v (.sl (.st 1))], [.v (.sl (.st 6)), .v (.sl (.int .i64)), .v (.int .i64)], 3, [c35_0, c35_1, c35_2], 5000⟩
noncomputable def h35 : List (En D) := [E39, E40]
noncomputable def G35 : YR D [.v (.sl (.st 1))] → Option (YR D [.v (.sl (.st 6)), .v (.sl (.int .i64)), .v (.int .i64)]) := sealF (Gof D fd35 (tabH D h35))
noncomputable def E35 : En D := ⟨35, [.val], [.v (.sl (.st 1))], [.v (.sl (.st 6)), .v (.sl (.int .i64)), .v (.int .i64)], 3, G35⟩
noncomputable def F35 (x0 : List S38) : Option (List S71 × List Int × Int) := G35 (x0)
noncomputable def L35 : LL D (YR D fd35.ts) := sealF (LiF D fd35 (tabH D h35))
noncomputable def L35_0 (v0 : List S38) (v5 : List S71) (v6 : List Int) (v7 : Int) : Option (List S71 × List Int × Int) := L35 c35_0 (v0, v5, v6, v7, ())
noncomputable def L35_1 (v0 : List S38) (v5 : List S71) (v6 : List Int) (v7 : Int) (v8 : Int) : Option (List S71 × List Int × Int) := L35 c35_1 (v0, v5, v6, v7, v8, ())
noncomputable def L35_2 (v0 : List S38) (v5 : List S71) (v6 : List Int) (v7 : Int) (v8 : Int) : Option (List S71 × List Int × Int) := L35 c35_2 (v0, v5, v6, v7, v8, ())
theorem E35_ok : FnOk D PP E35 := fdS_ok lw fd35 (l := h35) (by kernel_rfl) (.cons E39_ok (.cons E40_ok .nil)) Try.func35 (by kernel_rfl) (by kernel_rfl) (by kernel_rfl) (enters_of (c := bodyF Try.f35) Try.func35 (by kernel_rfl) (by kernel_rfl)) (by kernel_rfl)
/-- pochoirref38.Right -/
def c36_0 : Cut := ⟨244, [.v 3 (.sl (.st 6)), .v 4 (.sl (.int .i64)), .own 6 (.int .i64), .v 7 (.int .i64)]⟩
noncomputable def fd36 : FD := ⟨36, bodyF Try.f36, Try.f36.results.toList, Try.f36.ntmps, [.val], [.v (.sl (.st 1))], [.v (.sl (.int .i64))], 1, [c36_0], 5000⟩
noncomputable def h36 : List (En D) := [E35]
noncomputable def G36 : YR D [.v (.sl (.st 1))] → Option (YR D [.v (.sl (.int .i64))]) := sealF (Gof D fd36 (tabH D h36))
noncomputable def E36 : En D := ⟨36, [.val], [.v (.sl (.st 1))], [.v (.sl (.int .i64))], 1, G36⟩
noncomputable def F36 (x0 : List S38) : Option (List Int) := G36 (x0)
noncomputable def L36 : LL D (YR D fd36.ts) := sealF (LiF D fd36 (tabH D h36))
noncomputable def L36_0 (v3 : List S71) (v4 : List Int) (v6 : List Int) (v7 : Int) : Option (List Int) := L36 c36_0 (v3, v4, v6, v7, ())
theorem E36_ok : FnOk D PP E36 := fdS_ok lw fd36 (l := h36) (by kernel_rfl) (.cons E35_ok .nil) Try.func36 (by kernel_rfl) (by kernel_rfl) (by kernel_rfl) (enters_of (c := bodyF Try.f36) Try.func36 (by kernel_rfl) (by kernel_rfl)) (by kernel_rfl)
/-- pochoirref02.To -/
def c38_0 : Cut := ⟨116, [.box 1 1 (.st 6), .box 2 2 (.st 5), .boxo 3 3 (.st 5) 1 (.int .u32), .v 4 (.int .i64)]⟩
noncomputable def fd38 : FD := ⟨38, bodyF Try.f38, Try.f38.results.toList, Try.f38.ntmps, [.val], [.v (.st 6)], [.v (.st 5)], 1, [c38_0], 5000⟩
noncomputable def h38 : List (En D) := [E79]
noncomputable def G38 : YR D [.v (.st 6)] → Option (YR D [.v (.st 5)]) := sealF (Gof D fd38 (tabH D h38))
noncomputable def E38 : En D := ⟨38, [.val], [.v (.st 6)], [.v (.st 5)], 1, G38⟩
noncomputable def F38 (x0 : S71) : Option (S57) := G38 (x0)
noncomputable def L38 : LL D (YR D fd38.ts) := sealF (LiF D fd38 (tabH D h38))
noncomputable def L38_0 (v1 : S71) (v2 : S57) (v3 : S57) (v3f : List Int) (v4 : Int) : Option (S57) := L38 c38_0 (v1, v2, v3, v3f, v4, ())
theorem E38_ok : FnOk D PP E38 := fdS_ok lw fd38 (l := h38) (by kernel_rfl) (.cons E79_ok .nil) Try.func38 (by kernel_rfl) (by kernel_rfl) (by kernel_rfl) (enters_of (c := bodyF Try.f38) Try.func38 (by kernel_rfl) (by kernel_rfl)) (by kernel_rfl)
/-- pochoirref02.Same -/
def c37_0 : Cut := ⟨116, [.box 2 2 (.st 5), .box 3 3 (.st 5), .v 5 (.int .i64)]⟩
noncomputable def fd37 : FD := ⟨37, bodyF Try.f37, Try.f37.results.toList, Try.f37.ntmps, [.val, .val], [.v (.st 5), .v (.st 5)], [.v (.bool)], 1, [c37_0], 5000⟩
noncomputable def h37 : List (En D) := []
noncomputable def G37 : YR D [.v (.st 5), .v (.st 5)] → Option (YR D [.v (.bool)]) := sealF (Gof D fd37 (tabH D h37))
noncomputable def E37 : En D := ⟨37, [.val, .val], [.v (.st 5), .v (.st 5)], [.v (.bool)], 1, G37⟩
noncomputable def F37 (x0 : S57) (x1 : S57) : Option (Bool) := G37 (x0, x1)
noncomputable def L37 : LL D (YR D fd37.ts) := sealF (LiF D fd37 (tabH D h37))
noncomputable def L37_0 (v2 : S57) (v3 : S57) (v5 : Int) : Option (Bool) := L37 c37_0 (v2, v3, v5, ())
theorem E37_ok : FnOk D PP E37 := fdS_ok lw fd37 (l := h37) (by kernel_rfl) (.nil) Try.func37 (by kernel_rfl) (by kernel_rfl) (by kernel_rfl) (enters_of (c := bodyF Try.f37) Try.func37 (by kernel_rfl) (by kernel_rfl)) (by kernel_rfl)
/-- pochoirlaw38.AreaSix -/
def c7_0 : Cut := ⟨511, [.v 0 (.sl (.st 1)), .box 3 3 (.st 5), .v 5 (.sl (.st 5)), .v 7 (.sl (.int .i64)), .v 9 (.sl (.st 6)), .v 11 (.int .i64)]⟩
def c7_1 : Cut := ⟨4095, [.v 5 (.sl (.st 5)), .v 7 (.sl (.int .i64)), .v 9 (.sl (.st 6)), .v 12 (.sl (.int .i64))]⟩
def c7_2 : Cut := ⟨65524, [.v 5 (.sl (.st 5)), .v 7 (.sl (.int .i64)), .v 9 (.sl (.st 6)), .v 12 (.sl (.int .i64)), .v 93 (.int .i64), .v 94 (.int .i64)]⟩
def c7_3 : Cut := ⟨131060, [.v 7 (.sl (.int .i64)), .v 12 (.sl (.int .i64)), .v 110 (.int .i64), .v 111 (.int .i64)]⟩
noncomputable def fd7 : FD := ⟨7, bodyF Try.f7, Try.f7.results.toList, Try.f7.ntmps, [.val], [.v (.sl (.st 1))], [.v (.bool)], 1, [c7_0, c7_1, c7_2, c7_3], 5000⟩
noncomputable def h7 : List (En D) := [E31, E32, E33, E34, E35, E36, E37, E38, E39]
noncomputable def G7 : YR D [.v (.sl (.st 1))] → Option (YR D [.v (.bool)]) := sealF (Gof D fd7 (tabH D h7))
noncomputable def E7 : En D := ⟨7, [.val], [.v (.sl (.st 1))], [.v (.bool)], 1, G7⟩
noncomputable def F7 (x0 : List S38) : Option (Bool) := G7 (x0)
noncomputable def L7 : LL D (YR D fd7.ts) := sealF (LiF D fd7 (tabH D h7))
noncomputable def L7_0 (v0 : List S38) (v3 : S57) (v5 : List S57) (v7 : List Int) (v9 : List S71) (v11 : Int) : Option (Bool) := L7 c7_0 (v0, v3, v5, v7, v9, v11, ())
noncomputable def L7_1 (v5 : List S57) (v7 : List Int) (v9 : List S71) (v12 : List Int) : Option (Bool) := L7 c7_1 (v5, v7, v9, v12, ())
noncomputable def L7_2 (v5 : List S57) (v7 : List Int) (v9 : List S71) (v12 : List Int) (v93 : Int) (v94 : Int) : Option (Bool) := L7 c7_2 (v5, v7, v9, v12, v93, v94, ())
noncomputable def L7_3 (v7 : List Int) (v12 : List Int) (v110 : Int) (v111 : Int) : Option (Bool) := L7 c7_3 (v7, v12, v110, v111, ())
theorem E7_ok : FnOk D PP E7 := fdS_ok lw fd7 (l := h7) (by kernel_rfl) (.cons E31_ok (.cons E32_ok (.cons E33_ok (.cons E34_ok (.cons E35_ok (.cons E36_ok (.cons E37_ok (.cons E38_ok (.cons E39_ok .nil))))))))) Try.func7 (by kernel_rfl) (by kernel_rfl) (by kernel_rfl) (enters_of (c := bodyF Try.f7) Try.func7 (by kernel_rfl) (by kernel_rfl)) (by kernel_rfl)
/-- pochoirref02.From -/
def c41_0 : Cut := ⟨116, [.box 1 1 (.st 5), .box 2 2 (.st 6), .own 3 (.int .u64), .v 4 (.int .i64)]⟩
noncomputable def fd41 : FD := ⟨41, bodyF Try.f41, Try.f41.results.toList, Try.f41.ntmps, [.val], [.v (.st 5)], [.v (.st 6)], 1, [c41_0], 5000⟩
noncomputable def h41 : List (En D) := [E83]
noncomputable def G41 : YR D [.v (.st 5)] → Option (YR D [.v (.st 6)]) := sealF (Gof D fd41 (tabH D h41))
noncomputable def E41 : En D := ⟨41, [.val], [.v (.st 5)], [.v (.st 6)], 1, G41⟩
noncomputable def F41 (x0 : S57) : Option (S71) := G41 (x0)
noncomputable def L41 : LL D (YR D fd41.ts) := sealF (LiF D fd41 (tabH D h41))
noncomputable def L41_0 (v1 : S57) (v2 : S71) (v3 : List Int) (v4 : Int) : Option (S71) := L41 c41_0 (v1, v2, v3, v4, ())
theorem E41_ok : FnOk D PP E41 := fdS_ok lw fd41 (l := h41) (by kernel_rfl) (.cons E83_ok .nil) Try.func41 (by kernel_rfl) (by kernel_rfl) (by kernel_rfl) (enters_of (c := bodyF Try.f41) Try.func41 (by kernel_rfl) (by kernel_rfl)) (by kernel_rfl)
/-- pochoirlaw38.AreaTurned -/
def c8_0 : Cut := ⟨15, [.v 0 (.sl (.st 1)), .box 3 3 (.st 2)]⟩
def c8_1 : Cut := ⟨1012, [.v 0 (.sl (.st 1)), .v 5 (.int .i64), .v 6 (.int .i64), .own 7 (.st 1), .own 8 (.st 1), .own 9 (.st 1), .v 44 (.sl (.st 1)), .v 45 (.int .i64), .v 46 (.int .i64)]⟩
def c8_2 : Cut := ⟨518548, [.v 0 (.sl (.st 1)), .v 5 (.int .i64), .v 6 (.int .i64), .own 7 (.st 1), .own 8 (.st 1), .own 9 (.st 1), .v 10 (.int .i64), .box 11 11 (.st 1), .v 44 (.sl (.st 1)), .v 45 (.int .i64), .v 46 (.int .i64), .v 57 (.sl (.st 0)), .v 58 (.int .i64), .v 59 (.int .i64)]⟩
def c8_3 : Cut := ⟨4148479, [.v 0 (.sl (.st 1)), .v 5 (.int .i64), .v 6 (.int .i64), .own 7 (.st 1), .own 8 (.st 1), .own 9 (.st 1), .box 11 11 (.st 1), .box 15 15 (.st 1), .v 44 (.sl (.st 1)), .v 45 (.int .i64), .v 46 (.int .i64)]⟩
noncomputable def fd8 : FD := ⟨8, bodyF Try.f8, Try.f8.results.toList, Try.f8.ntmps, [.val, .val], [.v (.sl (.st 1)), .v (.st 2)], [.v (.bool)], 1, [c8_0, c8_1, c8_2, c8_3], 5000⟩
noncomputable def h8 : List (En D) := [E31, E32, E37, E38, E40, E41, E42, E43, E44]
noncomputable def G8 : YR D [.v (.sl (.st 1)), .v (.st 2)] → Option (YR D [.v (.bool)]) := sealF (Gof D fd8 (tabH D h8))
noncomputable def E8 : En D := ⟨8, [.val, .val], [.v (.sl (.st 1)), .v (.st 2)], [.v (.bool)], 1, G8⟩
noncomputable def F8 (x0 : List S38) (x1 : S32) : Option (Bool) := G8 (x0, x1)
noncomputable def L8 : LL D (YR D fd8.ts) := sealF (LiF D fd8 (tabH D h8))
noncomputable def L8_0 (v0 : List S38) (v3 : S32) : Option (Bool) := L8 c8_0 (v0, v3, ())
noncomputable def L8_1 (v0 : List S38) (v5 : Int) (v6 : Int) (v7 : List S38) (v8 : List S38) (v9 : List S38) (v44 : List S38) (v45 : Int) (v46 : Int) : Option (Bool) := L8 c8_1 (v0, v5, v6, v7, v8, v9, v44, v45, v46, ())
noncomputable def L8_2 (v0 : List S38) (v5 : Int) (v6 : Int) (v7 : List S38) (v8 : List S38) (v9 : List S38) (v10 : Int) (v11 : S38) (v44 : List S38) (v45 : Int) (v46 : Int) (v57 : List S36) (v58 : Int) (v59 : Int) : Option (Bool) := L8 c8_2 (v0, v5, v6, v7, v8, v9, v10, v11, v44, v45, v46, v57, v58, v59, ())
noncomputable def L8_3 (v0 : List S38) (v5 : Int) (v6 : Int) (v7 : List S38) (v8 : List S38) (v9 : List S38) (v11 : S38) (v15 : S38) (v44 : List S38) (v45 : Int) (v46 : Int) : Option (Bool) := L8 c8_3 (v0, v5, v6, v7, v8, v9, v11, v15, v44, v45, v46, ())
theorem E8_ok : FnOk D PP E8 := fdS_ok lw fd8 (l := h8) (by kernel_rfl) (.cons E31_ok (.cons E32_ok (.cons E37_ok (.cons E38_ok (.cons E40_ok (.cons E41_ok (.cons E42_ok (.cons E43_ok (.cons E44_ok .nil))))))))) Try.func8 (by kernel_rfl) (by kernel_rfl) (by kernel_rfl) (enters_of (c := bodyF Try.f8) Try.func8 (by kernel_rfl) (by kernel_rfl)) (by kernel_rfl)
end Go.Proofs.Ytalgppclaolonaa.Ev
