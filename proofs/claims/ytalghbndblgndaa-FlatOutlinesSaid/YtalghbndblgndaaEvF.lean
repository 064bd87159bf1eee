/- Printed by a program of this claim: the functions, as they are told. -/
import Derived.Test.YtalghbndblgndaaEvD
import Derived.Test.YtalghbndblgndaaEvAe
import Derived.Test.YtalghbndblgndaaEvAd
namespace Go.Proofs.Ytalghbndblgndaa.Ev
open Go
set_option linter.unusedVariables false
noncomputable def bodyF (f : Func) : Code := match f.body with | some c => c | none => .skip
/-- comp.short -/
def c133_0 : Cut := ⟨52, [.v 5 (.sl (.int .i64)), .v 6 (.int .i64), .v 7 (.int .i64)]⟩
noncomputable def fd133 : FD := ⟨133, bodyF Try.f133, Try.f133.results.toList, Try.f133.ntmps, [.val], [.v (.sl (.int .i64))], [.v (.bool)], 1, [c133_0], 5000, none⟩
noncomputable def h133 : List (En D) := []
noncomputable def G133 : YR D [.v (.sl (.int .i64))] → Option (YR D [.v (.bool)]) := sealF (Gof D fd133 (tabH D h133))
noncomputable def E133 : En D := ⟨133, [.val], [.v (.sl (.int .i64))], [.v (.bool)], 1, G133⟩
noncomputable def F133 (x0 : List Int) : Option (Bool) := G133 (x0)
noncomputable def L133 : LL D (YR D fd133.ts) := sealF (LiF D fd133 (tabH D h133))
noncomputable def L133_0 (v5 : List Int) (v6 : Int) (v7 : Int) : Option (Bool) := L133 c133_0 (v5, v6, v7, ())
theorem E133_ok : FnOk D PP E133 := fdS_ok lw fd133 (l := h133) (by kernel_rfl) (.nil) Try.func133 (by kernel_rfl) (by kernel_rfl) (by kernel_rfl) (enters_of (c := bodyF Try.f133) Try.func133 (by kernel_rfl) (by kernel_rfl)) (by kernel_rfl) (by kernel_rfl)
/-- comp.may -/
noncomputable def fd85 : FD := ⟨85, bodyF Try.f85, Try.f85.results.toList, Try.f85.ntmps, [.val, .val], [.v (.st 1), .v (.int .i64)], [.v (.bool)], 1, [], 5000, none⟩
noncomputable def h85 : List (En D) := [E133]
noncomputable def G85 : YR D [.v (.st 1), .v (.int .i64)] → Option (YR D [.v (.bool)]) := sealF (Gof D fd85 (tabH D h85))
noncomputable def E85 : En D := ⟨85, [.val, .val], [.v (.st 1), .v (.int .i64)], [.v (.bool)], 1, G85⟩
noncomputable def F85 (x0 : S47) (x1 : Int) : Option (Bool) := G85 (x0, x1)
theorem E85_ok : FnOk D PP E85 := fdS_ok lw fd85 (l := h85) (by kernel_rfl) (.cons E133_ok .nil) Try.func85 (by kernel_rfl) (by kernel_rfl) (by kernel_rfl) (enters_of (c := bodyF Try.f85) Try.func85 (by kernel_rfl) (by kernel_rfl)) (by kernel_rfl) (by kernel_rfl)
/-- comp.May -/
def c35_0 : Cut := ⟨116, [.v 1 (.int .i64), .v 23 (.sl (.st 1)), .v 24 (.int .i64), .v 25 (.int .i64)]⟩
noncomputable def fd35 : FD := ⟨35, bodyF Try.f35, Try.f35.results.toList, Try.f35.ntmps, [.val, .val], [.v (.sl (.st 1)), .v (.int .i64)], [.v (.bool)], 1, [c35_0], 5000, none⟩
noncomputable def h35 : List (En D) := [E85]
noncomputable def G35 : YR D [.v (.sl (.st 1)), .v (.int .i64)] → Option (YR D [.v (.bool)]) := sealF (Gof D fd35 (tabH D h35))
noncomputable def E35 : En D := ⟨35, [.val, .val], [.v (.sl (.st 1)), .v (.int .i64)], [.v (.bool)], 1, G35⟩
noncomputable def F35 (x0 : List S47) (x1 : Int) : Option (Bool) := G35 (x0, x1)
noncomputable def L35 : LL D (YR D fd35.ts) := sealF (LiF D fd35 (tabH D h35))
noncomputable def L35_0 (v1 : Int) (v23 : List S47) (v24 : Int) (v25 : Int) : Option (Bool) := L35 c35_0 (v1, v23, v24, v25, ())
theorem E35_ok : FnOk D PP E35 := fdS_ok lw fd35 (l := h35) (by kernel_rfl) (.cons E85_ok .nil) Try.func35 (by kernel_rfl) (by kernel_rfl) (by kernel_rfl) (enters_of (c := bodyF Try.f35) Try.func35 (by kernel_rfl) (by kernel_rfl)) (by kernel_rfl) (by kernel_rfl)
/-- glyf.far -/
noncomputable def fd69 : FD := ⟨69, bodyF Try.f69, Try.f69.results.toList, Try.f69.ntmps, [.val], [.v (.int .i64)], [.v (.bool)], 1, [], 5000, none⟩
noncomputable def h69 : List (En D) := []
noncomputable def G69 : YR D [.v (.int .i64)] → Option (YR D [.v (.bool)]) := sealF (Gof D fd69 (tabH D h69))
noncomputable def E69 : En D := ⟨69, [.val], [.v (.int .i64)], [.v (.bool)], 1, G69⟩
noncomputable def F69 (x0 : Int) : Option (Bool) := G69 (x0)
theorem E69_ok : FnOk D PP E69 := fdS_ok lw fd69 (l := h69) (by kernel_rfl) (.nil) Try.func69 (by kernel_rfl) (by kernel_rfl) (by kernel_rfl) (enters_of (c := bodyF Try.f69) Try.func69 (by kernel_rfl) (by kernel_rfl)) (by kernel_rfl) (by kernel_rfl)
/-- glyf.May -/
def c28_0 : Cut := ⟨244, [.v 3 (.int .i64), .v 11 (.sl (.sl (.st 0))), .v 12 (.int .i64), .v 13 (.int .i64)]⟩
def c28_1 : Cut := ⟨125340, [.v 3 (.int .i64), .v 11 (.sl (.sl (.st 0))), .v 12 (.int .i64), .v 13 (.int .i64), .v 28 (.sl (.st 0)), .v 29 (.int .i64), .v 30 (.int .i64)]⟩
noncomputable def fd28 : FD := ⟨28, bodyF Try.f28, Try.f28.results.toList, Try.f28.ntmps, [.val], [.v (.sl (.sl (.st 0)))], [.v (.bool)], 1, [c28_0, c28_1], 5000, none⟩
noncomputable def h28 : List (En D) := [E69]
noncomputable def G28 : YR D [.v (.sl (.sl (.st 0)))] → Option (YR D [.v (.bool)]) := sealF (Gof D fd28 (tabH D h28))
noncomputable def E28 : En D := ⟨28, [.val], [.v (.sl (.sl (.st 0)))], [.v (.bool)], 1, G28⟩
noncomputable def F28 (x0 : List (List S39)) : Option (Bool) := G28 (x0)
noncomputable def L28 : LL D (YR D fd28.ts) := sealF (LiF D fd28 (tabH D h28))
noncomputable def L28_0 (v3 : Int) (v11 : List (List S39)) (v12 : Int) (v13 : Int) : Option (Bool) := L28 c28_0 (v3, v11, v12, v13, ())
noncomputable def L28_1 (v3 : Int) (v11 : List (List S39)) (v12 : Int) (v13 : Int) (v28 : List S39) (v29 : Int) (v30 : Int) : Option (Bool) := L28 c28_1 (v3, v11, v12, v13, v28, v29, v30, ())
theorem E28_ok : FnOk D PP E28 := fdS_ok lw fd28 (l := h28) (by kernel_rfl) (.cons E69_ok .nil) Try.func28 (by kernel_rfl) (by kernel_rfl) (by kernel_rfl) (enters_of (c := bodyF Try.f28) Try.func28 (by kernel_rfl) (by kernel_rfl)) (by kernel_rfl) (by kernel_rfl)
/-- flat.may -/
noncomputable def fd61 : FD := ⟨61, bodyF Try.f61, Try.f61.results.toList, Try.f61.ntmps, [.val, .val], [.v (.st 2), .v (.int .i64)], [.v (.bool)], 1, [], 5000, none⟩
noncomputable def h61 : List (En D) := [E28, E35]
noncomputable def G61 : YR D [.v (.st 2), .v (.int .i64)] → Option (YR D [.v (.bool)]) := sealF (Gof D fd61 (tabH D h61))
noncomputable def E61 : En D := ⟨61, [.val, .val], [.v (.st 2), .v (.int .i64)], [.v (.bool)], 1, G61⟩
noncomputable def F61 (x0 : S43) (x1 : Int) : Option (Bool) := G61 (x0, x1)
theorem E61_ok : FnOk D PP E61 := fdS_ok lw fd61 (l := h61) (by kernel_rfl) (.cons E28_ok (.cons E35_ok .nil)) Try.func61 (by kernel_rfl) (by kernel_rfl) (by kernel_rfl) (enters_of (c := bodyF Try.f61) Try.func61 (by kernel_rfl) (by kernel_rfl)) (by kernel_rfl) (by kernel_rfl)
/-- flat.May$1 -/
noncomputable def fd60 : FD := ⟨60, bodyF Try.f60, Try.f60.results.toList, Try.f60.ntmps, [.val, .ref], [.v (.st 2), .v (.sl (.st 2))], [.v (.bool), .v (.sl (.st 2))], 1, [], 5000, none⟩
noncomputable def h60 : List (En D) := [E61]
noncomputable def G60 : YR D [.v (.st 2), .v (.sl (.st 2))] → Option (YR D [.v (.bool), .v (.sl (.st 2))]) := sealF (Gof D fd60 (tabH D h60))
noncomputable def E60 : En D := ⟨60, [.val, .ref], [.v (.st 2), .v (.sl (.st 2))], [.v (.bool), .v (.sl (.st 2))], 1, G60⟩
noncomputable def F60 (x0 : S43) (x1 : List S43) : Option (Bool × List S43) := G60 (x0, x1)
theorem E60_ok : FnOk D PP E60 := fdS_ok lw fd60 (l := h60) (by kernel_rfl) (.cons E61_ok .nil) Try.func60 (by kernel_rfl) (by kernel_rfl) (by kernel_rfl) (enters_of (c := bodyF Try.f60) Try.func60 (by kernel_rfl) (by kernel_rfl)) (by kernel_rfl) (by kernel_rfl)
/-- slices.IndexFunc[[]api.Shape,api.Shape](flat.May$1) -/
def c115060_0 : Cut := ⟨52, [.fn 1 60 [2016], .v 0 (.sl (.st 2)), .v 7 (.int .i64), .v 8 (.int .i64), .bx 2016 (.sl (.st 2)) []]⟩
noncomputable def fd115060 : FD := ⟨115, bodyF Try.f115, Try.f115.results.toList, Try.f115.ntmps, [.val, .clo [1]], [.v (.sl (.st 2)), .fc 60, .v (.sl (.st 2))], [.v (.int .i64), .v (.sl (.st 2))], 1, [c115060_0], 5000, some ⟨[.val, .clo [(1, [])]], []⟩⟩
noncomputable def h115060 : List (En D) := [E60]
noncomputable def G115060 : YR D [.v (.sl (.st 2)), .fc 60, .v (.sl (.st 2))] → Option (YR D [.v (.int .i64), .v (.sl (.st 2))]) := sealF (Gof D fd115060 (tabH D h115060))
noncomputable def E115060 : En D := ⟨115, [.val, .clo [1]], [.v (.sl (.st 2)), .fc 60, .v (.sl (.st 2))], [.v (.int .i64), .v (.sl (.st 2))], 1, G115060⟩
noncomputable def F115060 (x0 : List S43) (x1 : Unit) (x2 : List S43) : Option (Int × List S43) := G115060 (x0, x1, x2)
noncomputable def L115060 : LL D (YR D fd115060.ts) := sealF (LiF D fd115060 (tabH D h115060))
noncomputable def L115060_0 (v0 : List S43) (v7 : Int) (v8 : Int) (v2016 : List S43) : Option (Int × List S43) := L115060 c115060_0 (v0, v7, v8, v2016, ())
theorem E115060_ok : FnOk D PP E115060 := fdS_ok lw fd115060 (l := h115060) (by kernel_rfl) (.cons E60_ok .nil) Try.func115 (by kernel_rfl) (by kernel_rfl) (by kernel_rfl) (enters_of (c := bodyF Try.f115) Try.func115 (by kernel_rfl) (by kernel_rfl)) (by kernel_rfl) (by kernel_rfl)
/-- slices.ContainsFunc[[]api.Shape,api.Shape](flat.May$1) -/
noncomputable def fd59060 : FD := ⟨59, bodyF Try.f59, Try.f59.results.toList, Try.f59.ntmps, [.val, .clo [1]], [.v (.sl (.st 2)), .fc 60, .v (.sl (.st 2))], [.v (.bool), .v (.sl (.st 2))], 1, [], 5000, some ⟨[.val, .clo [(1, [])]], []⟩⟩
noncomputable def h59060 : List (En D) := [E60, E115060]
noncomputable def G59060 : YR D [.v (.sl (.st 2)), .fc 60, .v (.sl (.st 2))] → Option (YR D [.v (.bool), .v (.sl (.st 2))]) := sealF (Gof D fd59060 (tabH D h59060))
noncomputable def E59060 : En D := ⟨59, [.val, .clo [1]], [.v (.sl (.st 2)), .fc 60, .v (.sl (.st 2))], [.v (.bool), .v (.sl (.st 2))], 1, G59060⟩
noncomputable def F59060 (x0 : List S43) (x1 : Unit) (x2 : List S43) : Option (Bool × List S43) := G59060 (x0, x1, x2)
theorem E59060_ok : FnOk D PP E59060 := fdS_ok lw fd59060 (l := h59060) (by kernel_rfl) (.cons E60_ok (.cons E115060_ok .nil)) Try.func59 (by kernel_rfl) (by kernel_rfl) (by kernel_rfl) (enters_of (c := bodyF Try.f59) Try.func59 (by kernel_rfl) (by kernel_rfl)) (by kernel_rfl) (by kernel_rfl)
/-- flat.May -/
noncomputable def fd22 : FD := ⟨22, bodyF Try.f22, Try.f22.results.toList, Try.f22.ntmps, [.val], [.v (.sl (.st 2))], [.v (.bool)], 1, [], 5000, none⟩
noncomputable def h22 : List (En D) := [E60, E59060]
noncomputable def G22 : YR D [.v (.sl (.st 2))] → Option (YR D [.v (.bool)]) := sealF (Gof D fd22 (tabH D h22))
noncomputable def E22 : En D := ⟨22, [.val], [.v (.sl (.st 2))], [.v (.bool)], 1, G22⟩
noncomputable def F22 (x0 : List S43) : Option (Bool) := G22 (x0)
theorem E22_ok : FnOk D PP E22 := fdS_ok lw fd22 (l := h22) (by kernel_rfl) (.cons E60_ok (.cons E59060_ok .nil)) Try.func22 (by kernel_rfl) (by kernel_rfl) (by kernel_rfl) (enters_of (c := bodyF Try.f22) Try.func22 (by kernel_rfl) (by kernel_rfl)) (by kernel_rfl) (by kernel_rfl)
/-- flat.there -/
noncomputable def fd55 : FD := ⟨55, bodyF Try.f55, Try.f55.results.toList, Try.f55.ntmps, [.val, .val], [.v (.sl (.st 2)), .v (.int .i64)], [.v (.bool)], 1, [], 5000, none⟩
noncomputable def h55 : List (En D) := [E22]
noncomputable def G55 : YR D [.v (.sl (.st 2)), .v (.int .i64)] → Option (YR D [.v (.bool)]) := sealF (Gof D fd55 (tabH D h55))
noncomputable def E55 : En D := ⟨55, [.val, .val], [.v (.sl (.st 2)), .v (.int .i64)], [.v (.bool)], 1, G55⟩
noncomputable def F55 (x0 : List S43) (x1 : Int) : Option (Bool) := G55 (x0, x1)
theorem E55_ok : FnOk D PP E55 := fdS_ok lw fd55 (l := h55) (by kernel_rfl) (.cons E22_ok .nil) Try.func55 (by kernel_rfl) (by kernel_rfl) (by kernel_rfl) (enters_of (c := bodyF Try.f55) Try.func55 (by kernel_rfl) (by kernel_rfl)) (by kernel_rfl) (by kernel_rfl)
/-- slices.Index[[]int,int] -/
def c162_0 : Cut := ⟨52, [.v 0 (.sl (.int .i64)), .v 1 (.int .i64), .v 7 (.int .i64), .v 8 (.int .i64)]⟩
noncomputable def fd162 : FD := ⟨162, bodyF Try.f162, Try.f162.results.toList, Try.f162.ntmps, [.val, .val], [.v (.sl (.int .i64)), .v (.int .i64)], [.v (.int .i64)], 1, [c162_0], 5000, none⟩
noncomputable def h162 : List (En D) := []
noncomputable def G162 : YR D [.v (.sl (.int .i64)), .v (.int .i64)] → Option (YR D [.v (.int .i64)]) := sealF (Gof D fd162 (tabH D h162))
noncomputable def E162 : En D := ⟨162, [.val, .val], [.v (.sl (.int .i64)), .v (.int .i64)], [.v (.int .i64)], 1, G162⟩
noncomputable def F162 (x0 : List Int) (x1 : Int) : Option (Int) := G162 (x0, x1)
noncomputable def L162 : LL D (YR D fd162.ts) := sealF (LiF D fd162 (tabH D h162))
noncomputable def L162_0 (v0 : List Int) (v1 : Int) (v7 : Int) (v8 : Int) : Option (Int) := L162 c162_0 (v0, v1, v7, v8, ())
theorem E162_ok : FnOk D PP E162 := fdS_ok lw fd162 (l := h162) (by kernel_rfl) (.nil) Try.func162 (by kernel_rfl) (by kernel_rfl) (by kernel_rfl) (enters_of (c := bodyF Try.f162) Try.func162 (by kernel_rfl) (by kernel_rfl)) (by kernel_rfl) (by kernel_rfl)
/-- slices.Contains[[]int,int] -/
noncomputable def fd149 : FD := ⟨149, bodyF Try.f149, Try.f149.results.toList, Try.f149.ntmps, [.val, .val], [.v (.sl (.int .i64)), .v (.int .i64)], [.v (.bool)], 1, [], 5000, none⟩
noncomputable def h149 : List (En D) := [E162]
noncomputable def G149 : YR D [.v (.sl (.int .i64)), .v (.int .i64)] → Option (YR D [.v (.bool)]) := sealF (Gof D fd149 (tabH D h149))
noncomputable def E149 : En D := ⟨149, [.val, .val], [.v (.sl (.int .i64)), .v (.int .i64)], [.v (.bool)], 1, G149⟩
noncomputable def F149 (x0 : List Int) (x1 : Int) : Option (Bool) := G149 (x0, x1)
theorem E149_ok : FnOk D PP E149 := fdS_ok lw fd149 (l := h149) (by kernel_rfl) (.cons E162_ok .nil) Try.func149 (by kernel_rfl) (by kernel_rfl) (by kernel_rfl) (enters_of (c := bodyF Try.f149) Try.func149 (by kernel_rfl) (by kernel_rfl)) (by kernel_rfl) (by kernel_rfl)
/-- (*flat.walker).enter -/
noncomputable def fd110 : FD := ⟨110, bodyF Try.f110, Try.f110.results.toList, Try.f110.ntmps, [.ref, .val], [.v (.st 3), .v (.st 1)], [.v (.int .i64), .v (.st 3)], 1, [], 5000, some ⟨[.ref 0 [(1, none)], .val], []⟩⟩
noncomputable def h110 : List (En D) := [E149]
noncomputable def G110 : YR D [.v (.st 3), .v (.st 1)] → Option (YR D [.v (.int .i64), .v (.st 3)]) := sealF (Gof D fd110 (tabH D h110))
noncomputable def E110 : En D := ⟨110, [.ref, .val], [.v (.st 3), .v (.st 1)], [.v (.int .i64), .v (.st 3)], 1, G110⟩
noncomputable def F110 (x0 : S99) (x1 : S47) : Option (Int × S99) := G110 (x0, x1)
theorem E110_ok : FnOk D PP E110 := fdS_ok lw fd110 (l := h110) (by kernel_rfl) (.cons E149_ok .nil) Try.func110 (by kernel_rfl) (by kernel_rfl) (by kernel_rfl) (enters_of (c := bodyF Try.f110) Try.func110 (by kernel_rfl) (by kernel_rfl)) (by kernel_rfl) (by kernel_rfl)
/-- comp.far -/
noncomputable def fd90 : FD := ⟨90, bodyF Try.f90, Try.f90.results.toList, Try.f90.ntmps, [.val], [.v (.int .i64)], [.v (.bool)], 1, [], 5000, none⟩
noncomputable def h90 : List (En D) := []
noncomputable def G90 : YR D [.v (.int .i64)] → Option (YR D [.v (.bool)]) := sealF (Gof D fd90 (tabH D h90))
noncomputable def E90 : En D := ⟨90, [.val], [.v (.int .i64)], [.v (.bool)], 1, G90⟩
noncomputable def F90 (x0 : Int) : Option (Bool) := G90 (x0)
theorem E90_ok : FnOk D PP E90 := fdS_ok lw fd90 (l := h90) (by kernel_rfl) (.nil) Try.func90 (by kernel_rfl) (by kernel_rfl) (by kernel_rfl) (enters_of (c := bodyF Try.f90) Try.func90 (by kernel_rfl) (by kernel_rfl)) (by kernel_rfl) (by kernel_rfl)
/-- comp.rounded -/
noncomputable def fd91 : FD := ⟨91, bodyF Try.f91, Try.f91.results.toList, Try.f91.ntmps, [.val], [.v (.int .i64)], [.v (.int .i64)], 1, [], 5000, none⟩
noncomputable def h91 : List (En D) := []
noncomputable def G91 : YR D [.v (.int .i64)] → Option (YR D [.v (.int .i64)]) := sealF (Gof D fd91 (tabH D h91))
noncomputable def E91 : En D := ⟨91, [.val], [.v (.int .i64)], [.v (.int .i64)], 1, G91⟩
noncomputable def F91 (x0 : Int) : Option (Int) := G91 (x0)
theorem E91_ok : FnOk D PP E91 := fdS_ok lw fd91 (l := h91) (by kernel_rfl) (.nil) Try.func91 (by kernel_rfl) (by kernel_rfl) (by kernel_rfl) (enters_of (c := bodyF Try.f91) Try.func91 (by kernel_rfl) (by kernel_rfl)) (by kernel_rfl) (by kernel_rfl)
/-- comp.unit -/
noncomputable def fd92 : FD := ⟨92, bodyF Try.f92, Try.f92.results.toList, Try.f92.ntmps, [.val], [.v (.int .i64)], [.v (.bool)], 1, [], 5000, none⟩
noncomputable def h92 : List (En D) := []
noncomputable def G92 : YR D [.v (.int .i64)] → Option (YR D [.v (.bool)]) := sealF (Gof D fd92 (tabH D h92))
noncomputable def E92 : En D := ⟨92, [.val], [.v (.int .i64)], [.v (.bool)], 1, G92⟩
noncomputable def F92 (x0 : Int) : Option (Bool) := G92 (x0)
theorem E92_ok : FnOk D PP E92 := fdS_ok lw fd92 (l := h92) (by kernel_rfl) (.nil) Try.func92 (by kernel_rfl) (by kernel_rfl) (by kernel_rfl) (enters_of (c := bodyF Try.f92) Try.func92 (by kernel_rfl) (by kernel_rfl)) (by kernel_rfl) (by kernel_rfl)
/-- comp.Move -/
def c42_0 : Cut := ⟨7, [.v 1 (.int .i64), .v 2 (.int .i64), .box 3 3 (.st 1) 0 []]⟩
noncomputable def fd42 : FD := ⟨42, bodyF Try.f42, Try.f42.results.toList, Try.f42.ntmps, [.val, .val, .val], [.v (.st 1), .v (.int .i64), .v (.int .i64)], [.v (.int .i64), .v (.int .i64), .v (.int .i64)], 3, [c42_0], 5000, none⟩
noncomputable def h42 : List (En D) := [E85, E90, E91, E92]
noncomputable def G42 : YR D [.v (.st 1), .v (.int .i64), .v (.int .i64)] → Option (YR D [.v (.int .i64), .v (.int .i64), .v (.int .i64)]) := sealF (Gof D fd42 (tabH D h42))
noncomputable def E42 : En D := ⟨42, [.val, .val, .val], [.v (.st 1), .v (.int .i64), .v (.int .i64)], [.v (.int .i64), .v (.int .i64), .v (.int .i64)], 3, G42⟩
noncomputable def F42 (x0 : S47) (x1 : Int) (x2 : Int) : Option (Int × Int × Int) := G42 (x0, x1, x2)
noncomputable def L42 : LL D (YR D fd42.ts) := sealF (LiF D fd42 (tabH D h42))
noncomputable def L42_0 (v1 : Int) (v2 : Int) (v3 : S47) : Option (Int × Int × Int) := L42 c42_0 (v1, v2, v3, ())
theorem E42_ok : FnOk D PP E42 := fdS_ok lw fd42 (l := h42) (by kernel_rfl) (.cons E85_ok (.cons E90_ok (.cons E91_ok (.cons E92_ok .nil)))) Try.func42 (by kernel_rfl) (by kernel_rfl) (by kernel_rfl) (enters_of (c := bodyF Try.f42) Try.func42 (by kernel_rfl) (by kernel_rfl)) (by kernel_rfl) (by kernel_rfl)
/-- (*flat.outline).add -/
def c111_0 : Cut := ⟨52, [.box 0 0 (.st 5) 0 [(0, none)], .box 4 4 (.st 1) 0 [], .v 15 (.sl (.sl (.st 0))), .v 16 (.int .i64), .v 17 (.int .i64)]⟩
def c111_1 : Cut := ⟨54068, [.box 0 0 (.st 5) 0 [(0, none)], .box 4 4 (.st 1) 0 [], .own 9 (.st 0), .v 15 (.sl (.sl (.st 0))), .v 16 (.int .i64), .v 17 (.int .i64), .v 24 (.sl (.st 0)), .v 25 (.int .i64), .v 26 (.int .i64)]⟩
noncomputable def fd111 : FD := ⟨111, bodyF Try.f111, Try.f111.results.toList, Try.f111.ntmps, [.ref, .val, .val], [.v (.st 5), .v (.st 1), .v (.sl (.sl (.st 0)))], [.v (.int .i64), .v (.st 5)], 1, [c111_0, c111_1], 5000, some ⟨[.ref 0 [(0, none)], .val, .val], []⟩⟩
noncomputable def h111 : List (En D) := [E42]
noncomputable def G111 : YR D [.v (.st 5), .v (.st 1), .v (.sl (.sl (.st 0)))] → Option (YR D [.v (.int .i64), .v (.st 5)]) := sealF (Gof D fd111 (tabH D h111))
noncomputable def E111 : En D := ⟨111, [.ref, .val, .val], [.v (.st 5), .v (.st 1), .v (.sl (.sl (.st 0)))], [.v (.int .i64), .v (.st 5)], 1, G111⟩
noncomputable def F111 (x0 : S180) (x1 : S47) (x2 : List (List S39)) : Option (Int × S180) := G111 (x0, x1, x2)
noncomputable def L111 : LL D (YR D fd111.ts) := sealF (LiF D fd111 (tabH D h111))
noncomputable def L111_0 (v0 : S180) (v4 : S47) (v15 : List (List S39)) (v16 : Int) (v17 : Int) : Option (Int × S180) := L111 c111_0 (v0, v4, v15, v16, v17, ())
noncomputable def L111_1 (v0 : S180) (v4 : S47) (v9 : List S39) (v15 : List (List S39)) (v16 : Int) (v17 : Int) (v24 : List S39) (v25 : Int) (v26 : Int) : Option (Int × S180) := L111 c111_1 (v0, v4, v9, v15, v16, v17, v24, v25, v26, ())
theorem E111_ok : FnOk D PP E111 := fdS_ok lw fd111 (l := h111) (by kernel_rfl) (.cons E42_ok .nil) Try.func111 (by kernel_rfl) (by kernel_rfl) (by kernel_rfl) (enters_of (c := bodyF Try.f111) Try.func111 (by kernel_rfl) (by kernel_rfl)) (by kernel_rfl) (by kernel_rfl)
/-- (*flat.walker).walk -/
def c56_0 : Cut := ⟨1012, [.box 0 0 (.st 3) 0 [(1, none)], .box 7 7 (.st 5) 0 [(0, none)], .v 37 (.sl (.st 1)), .v 38 (.int .i64), .v 39 (.int .i64)]⟩
def c56_1 : Cut := ⟨259279, [.box 0 0 (.st 3) 0 [(1, none)], .box 7 7 (.st 5) 0 [(0, none)], .v 12 (.int .i64), .v 37 (.sl (.st 1)), .v 38 (.int .i64), .v 39 (.int .i64)]⟩
def c56_2 : Cut := ⟨1037114, [.box 0 0 (.st 3) 0 [(1, none)], .box 7 7 (.st 5) 0 [(0, none)], .box 9 9 (.st 1) 0 [], .v 11 (.sl (.sl (.st 0))), .v 37 (.sl (.st 1)), .v 38 (.int .i64), .v 39 (.int .i64)]⟩
noncomputable def fd56 : FD := ⟨56, bodyF Try.f56, Try.f56.results.toList, Try.f56.ntmps, [.ref, .val], [.v (.st 3), .v (.int .i64)], [.v (.sl (.sl (.st 0))), .v (.int .i64), .v (.st 3)], 2, [c56_0, c56_1, c56_2], 5000, some ⟨[.ref 0 [(1, none)], .val], []⟩⟩
noncomputable def h56 (G : YR D [.v (.st 3), .v (.int .i64)] → Option (YR D [.v (.sl (.sl (.st 0))), .v (.int .i64), .v (.st 3)])) : List (En D) := [⟨56, [.ref, .val], [.v (.st 3), .v (.int .i64)], [.v (.sl (.sl (.st 0))), .v (.int .i64), .v (.st 3)], 2, G⟩, E110, E111]
noncomputable def G56 : YR D [.v (.st 3), .v (.int .i64)] → Option (YR D [.v (.sl (.sl (.st 0))), .v (.int .i64), .v (.st 3)]) := sealF (Gr D fd56 h56)
theorem h56_mono : TMono (f := fd56) h56 := fun G G' h => .cons h (.cons (fun _ _ q => q) (.cons (fun _ _ q => q) .nil))
noncomputable def E56 : En D := ⟨56, [.ref, .val], [.v (.st 3), .v (.int .i64)], [.v (.sl (.sl (.st 0))), .v (.int .i64), .v (.st 3)], 2, G56⟩
noncomputable def F56 (x0 : S99) (x1 : Int) : Option (List (List S39) × Int × S99) := G56 (x0, x1)
theorem E56_ok : FnOk D PP E56 := Gr_ok lw (f := fd56) (l := h56) (fun G => by kernel_rfl) (fun G hG => .cons hG (.cons E110_ok (.cons E111_ok .nil))) Try.func56 (by kernel_rfl) (by kernel_rfl) (by kernel_rfl) (enters_of (c := bodyF Try.f56) Try.func56 (by kernel_rfl) (by kernel_rfl)) (by kernel_rfl) (by kernel_rfl)
noncomputable def F56r (G : YR D [.v (.st 3), .v (.int .i64)] → Option (YR D [.v (.sl (.sl (.st 0))), .v (.int .i64), .v (.st 3)])) (x0 : S99) (x1 : Int) : Option (List (List S39) × Int × S99) := G (x0, x1)
noncomputable def F56g (G : YR D [.v (.st 3), .v (.int .i64)] → Option (YR D [.v (.sl (.sl (.st 0))), .v (.int .i64), .v (.st 3)])) (x0 : S99) (x1 : Int) : Option (List (List S39) × Int × S99) := sealF (Gof D fd56 (tabH D (h56 G))) (x0, x1)
noncomputable def L56 (G : YR D [.v (.st 3), .v (.int .i64)] → Option (YR D [.v (.sl (.sl (.st 0))), .v (.int .i64), .v (.st 3)])) : LL D (YR D fd56.ts) := sealF (LiF D fd56 (tabH D (h56 G)))
noncomputable def L56_0 (G : YR D [.v (.st 3), .v (.int .i64)] → Option (YR D [.v (.sl (.sl (.st 0))), .v (.int .i64), .v (.st 3)])) (v0 : S99) (v7 : S180) (v37 : List S47) (v38 : Int) (v39 : Int) : Option (List (List S39) × Int × S99) := L56 G c56_0 (v0, v7, v37, v38, v39, ())
noncomputable def L56_1 (G : YR D [.v (.st 3), .v (.int .i64)] → Option (YR D [.v (.sl (.sl (.st 0))), .v (.int .i64), .v (.st 3)])) (v0 : S99) (v7 : S180) (v12 : Int) (v37 : List S47) (v38 : Int) (v39 : Int) : Option (List (List S39) × Int × S99) := L56 G c56_1 (v0, v7, v12, v37, v38, v39, ())
noncomputable def L56_2 (G : YR D [.v (.st 3), .v (.int .i64)] → Option (YR D [.v (.sl (.sl (.st 0))), .v (.int .i64), .v (.st 3)])) (v0 : S99) (v7 : S180) (v9 : S47) (v11 : List (List S39)) (v37 : List S47) (v38 : Int) (v39 : Int) : Option (List (List S39) × Int × S99) := L56 G c56_2 (v0, v7, v9, v11, v37, v38, v39, ())
theorem F56_n (n : Nat) (x0 : S99) (x1 : Int) : F56r (Gn D fd56 h56 (n + 1)) x0 x1 = F56g (Gn D fd56 h56 n) x0 x1 := rfl
theorem F56_of (n : Nat) (x0 : S99) (x1 : Int) (y : List (List S39) × Int × S99) (h : F56r (Gn D fd56 h56 n) x0 x1 = some y) : F56 x0 x1 = some y := (congrFun (sealF_eq _) (x0, x1)).trans (Gr_of h56_mono h)
/-- slices.Clone[[]api.Point,api.Point] -/
noncomputable def fd112 : FD := ⟨112, bodyF Try.f112, Try.f112.results.toList, Try.f112.ntmps, [.val], [.v (.sl (.st 0))], [.v (.sl (.st 0))], 1, [], 5000, some ⟨[.val], [(0, none)]⟩⟩
noncomputable def G112 : YR D [.v (.sl (.st 0))] → Option (YR D [.v (.sl (.st 0))]) := sealF fun x => grd (fit (0 + x.length) 24) (some x)
noncomputable def E112 : En D := ⟨112, [.val], [.v (.sl (.st 0))], [.v (.sl (.st 0))], 1, G112⟩
noncomputable def F112 (x0 : List S39) : Option (List S39) := G112 (x0)
theorem F112_eq (x0 : List S39) : F112 x0 = grd (fit (0 + x0.length) 24) (some x0) := congrFun (sealF_eq _) x0
theorem E112_ok : FnOk D PP E112 := by
  refine FnX.ok (xm := ⟨[.val], [(0, none)]⟩) (FnX.rows (t := .st 0) (fun y hy => ?_) (fun y hy => ?_) (fun a l y hy => ?_)) (by kernel_rfl)
  · obtain rfl : [] = y := Option.some.inj ((show some [] = grd (fit (0 + 0) 24) (some []) by kernel_rfl).trans hy)
    exact fdSX lw fd112 Try.func112 (by kernel_rfl) (by kernel_rfl) (by kernel_rfl) (enters_of (c := bodyF Try.f112) Try.func112 (by kernel_rfl) (by kernel_rfl)) (by kernel_rfl) rfl (by kernel_rfl)
  · obtain rfl : [] = y := Option.some.inj ((show some [] = grd (fit (0 + 0) 24) (some []) by kernel_rfl).trans hy)
    exact fdSX lw fd112 Try.func112 (by kernel_rfl) (by kernel_rfl) (by kernel_rfl) (enters_of (c := bodyF Try.f112) Try.func112 (by kernel_rfl) (by kernel_rfl)) (by kernel_rfl) rfl (by kernel_rfl)
  · exact fdSX lw fd112 Try.func112 (by kernel_rfl) (by kernel_rfl) (by kernel_rfl) (enters_of (c := bodyF Try.f112) Try.func112 (by kernel_rfl) (by kernel_rfl)) (by kernel_rfl) rfl ((show entW D fd112 (tabH D []) (LiF D fd112 (tabH D [])) [.c (.lst (.st 0) (a :: l))] = grd (fit (0 + (a :: l).length) 24) (some (a :: l)) by kernel_rfl).trans hy)
/-- flat.copied -/
def c57_0 : Cut := ⟨116, [.own 3 (.sl (.st 0)), .v 6 (.sl (.sl (.st 0))), .v 7 (.int .i64), .v 8 (.int .i64)]⟩
noncomputable def fd57 : FD := ⟨57, bodyF Try.f57, Try.f57.results.toList, Try.f57.ntmps, [.val], [.v (.sl (.sl (.st 0)))], [.v (.sl (.sl (.st 0)))], 1, [c57_0], 5000, none⟩
noncomputable def h57 : List (En D) := [E112]
noncomputable def G57 : YR D [.v (.sl (.sl (.st 0)))] → Option (YR D [.v (.sl (.sl (.st 0)))]) := sealF (Gof D fd57 (tabH D h57))
noncomputable def E57 : En D := ⟨57, [.val], [.v (.sl (.sl (.st 0)))], [.v (.sl (.sl (.st 0)))], 1, G57⟩
noncomputable def F57 (x0 : List (List S39)) : Option (List (List S39)) := G57 (x0)
noncomputable def L57 : LL D (YR D fd57.ts) := sealF (LiF D fd57 (tabH D h57))
noncomputable def L57_0 (v3 : List (List S39)) (v6 : List (List S39)) (v7 : Int) (v8 : Int) : Option (List (List S39)) := L57 c57_0 (v3, v6, v7, v8, ())
theorem E57_ok : FnOk D PP E57 := fdS_ok lw fd57 (l := h57) (by kernel_rfl) (.cons E112_ok .nil) Try.func57 (by kernel_rfl) (by kernel_rfl) (by kernel_rfl) (enters_of (c := bodyF Try.f57) Try.func57 (by kernel_rfl) (by kernel_rfl)) (by kernel_rfl) (by kernel_rfl)
/-- flat.Outline -/
noncomputable def fd17 : FD := ⟨17, bodyF Try.f17, Try.f17.results.toList, Try.f17.ntmps, [.val, .val], [.v (.sl (.st 2)), .v (.int .i64)], [.v (.sl (.sl (.st 0))), .v (.int .i64)], 2, [], 5000, none⟩
noncomputable def h17 : List (En D) := [E55, E56, E57]
noncomputable def G17 : YR D [.v (.sl (.st 2)), .v (.int .i64)] → Option (YR D [.v (.sl (.sl (.st 0))), .v (.int .i64)]) := sealF (Gof D fd17 (tabH D h17))
noncomputable def E17 : En D := ⟨17, [.val, .val], [.v (.sl (.st 2)), .v (.int .i64)], [.v (.sl (.sl (.st 0))), .v (.int .i64)], 2, G17⟩
noncomputable def F17 (x0 : List S43) (x1 : Int) : Option (List (List S39) × Int) := G17 (x0, x1)
theorem E17_ok : FnOk D PP E17 := fdS_ok lw fd17 (l := h17) (by kernel_rfl) (.cons E55_ok (.cons E56_ok (.cons E57_ok .nil))) Try.func17 (by kernel_rfl) (by kernel_rfl) (by kernel_rfl) (enters_of (c := bodyF Try.f17) Try.func17 (by kernel_rfl) (by kernel_rfl)) (by kernel_rfl) (by kernel_rfl)
/-- flat.Depth -/
noncomputable def fd19 : FD := ⟨19, bodyF Try.f19, Try.f19.results.toList, Try.f19.ntmps, [.val, .val], [.v (.sl (.st 2)), .v (.int .i64)], [.v (.int .i64), .v (.int .i64)], 2, [], 5000, none⟩
noncomputable def h19 : List (En D) := [E55, E56]
noncomputable def G19 : YR D [.v (.sl (.st 2)), .v (.int .i64)] → Option (YR D [.v (.int .i64), .v (.int .i64)]) := sealF (Gof D fd19 (tabH D h19))
noncomputable def E19 : En D := ⟨19, [.val, .val], [.v (.sl (.st 2)), .v (.int .i64)], [.v (.int .i64), .v (.int .i64)], 2, G19⟩
noncomputable def F19 (x0 : List S43) (x1 : Int) : Option (Int × Int) := G19 (x0, x1)
theorem E19_ok : FnOk D PP E19 := fdS_ok lw fd19 (l := h19) (by kernel_rfl) (.cons E55_ok (.cons E56_ok .nil)) Try.func19 (by kernel_rfl) (by kernel_rfl) (by kernel_rfl) (enters_of (c := bodyF Try.f19) Try.func19 (by kernel_rfl) (by kernel_rfl)) (by kernel_rfl) (by kernel_rfl)
/-- pochoirlaw15.awake -/
noncomputable def fd15 : FD := ⟨15, bodyF Try.f15, Try.f15.results.toList, Try.f15.ntmps, [], [], [.v (.bool)], 1, [], 5000, none⟩
noncomputable def h15 : List (En D) := [E17, E19, E22]
noncomputable def G15 : YR D [] → Option (YR D [.v (.bool)]) := sealF (Gof D fd15 (tabH D h15))
noncomputable def E15 : En D := ⟨15, [], [], [.v (.bool)], 1, G15⟩
noncomputable def F15 : Option (Bool) := G15 ()
theorem E15_ok : FnOk D PP E15 := fdS_ok lw fd15 (l := h15) (by kernel_rfl) (.cons E17_ok (.cons E19_ok (.cons E22_ok .nil))) Try.func15 (by kernel_rfl) (by kernel_rfl) (by kernel_rfl) (enters_of (c := bodyF Try.f15) Try.func15 (by kernel_rfl) (by kernel_rfl)) (by kernel_rfl) (by kernel_rfl)
/-- pochoirlaw15.Few -/
def c16_0 : Cut := ⟨116, [.v 10 (.sl (.st 2)), .v 11 (.int .i64), .v 12 (.int .i64)]⟩
def c16_1 : Cut := ⟨59804, [.v 10 (.sl (.st 2)), .v 11 (.int .i64), .v 12 (.int .i64), .v 27 (.sl (.sl (.st 0))), .v 28 (.int .i64), .v 29 (.int .i64)]⟩
noncomputable def fd16 : FD := ⟨16, bodyF Try.f16, Try.f16.results.toList, Try.f16.ntmps, [.val], [.v (.sl (.st 2))], [.v (.bool)], 1, [c16_0, c16_1], 5000, none⟩
noncomputable def h16 : List (En D) := []
noncomputable def G16 : YR D [.v (.sl (.st 2))] → Option (YR D [.v (.bool)]) := sealF (Gof D fd16 (tabH D h16))
noncomputable def E16 : En D := ⟨16, [.val], [.v (.sl (.st 2))], [.v (.bool)], 1, G16⟩
noncomputable def F16 (x0 : List S43) : Option (Bool) := G16 (x0)
noncomputable def L16 : LL D (YR D fd16.ts) := sealF (LiF D fd16 (tabH D h16))
noncomputable def L16_0 (v10 : List S43) (v11 : Int) (v12 : Int) : Option (Bool) := L16 c16_0 (v10, v11, v12, ())
noncomputable def L16_1 (v10 : List S43) (v11 : Int) (v12 : Int) (v27 : List (List S39)) (v28 : Int) (v29 : Int) : Option (Bool) := L16 c16_1 (v10, v11, v12, v27, v28, v29, ())
theorem E16_ok : FnOk D PP E16 := fdS_ok lw fd16 (l := h16) (by kernel_rfl) (.nil) Try.func16 (by kernel_rfl) (by kernel_rfl) (by kernel_rfl) (enters_of (c := bodyF Try.f16) Try.func16 (by kernel_rfl) (by kernel_rfl)) (by kernel_rfl) (by kernel_rfl)
/-- pochoirref13.May -/
def c29_0 : Cut := ⟨244, [.v 0 (.sl (.sl (.st 0))), .v 3 (.int .i64), .v 4 (.int .i64)]⟩
def c29_1 : Cut := ⟨3913, [.v 0 (.sl (.sl (.st 0))), .v 3 (.int .i64), .v 4 (.int .i64)]⟩
def c29_2 : Cut := ⟨125244, [.v 0 (.sl (.sl (.st 0))), .v 3 (.int .i64), .v 4 (.int .i64), .v 5 (.int .i64)]⟩
noncomputable def fd29 : FD := ⟨29, bodyF Try.f29, Try.f29.results.toList, Try.f29.ntmps, [.val], [.v (.sl (.sl (.st 0)))], [.v (.bool)], 1, [c29_0, c29_1, c29_2], 5000, none⟩
noncomputable def h29 : List (En D) := []
noncomputable def G29 : YR D [.v (.sl (.sl (.st 0)))] → Option (YR D [.v (.bool)]) := sealF (Gof D fd29 (tabH D h29))
noncomputable def E29 : En D := ⟨29, [.val], [.v (.sl (.sl (.st 0)))], [.v (.bool)], 1, G29⟩
noncomputable def F29 (x0 : List (List S39)) : Option (Bool) := G29 (x0)
noncomputable def L29 : LL D (YR D fd29.ts) := sealF (LiF D fd29 (tabH D h29))
noncomputable def L29_0 (v0 : List (List S39)) (v3 : Int) (v4 : Int) : Option (Bool) := L29 c29_0 (v0, v3, v4, ())
noncomputable def L29_1 (v0 : List (List S39)) (v3 : Int) (v4 : Int) : Option (Bool) := L29 c29_1 (v0, v3, v4, ())
noncomputable def L29_2 (v0 : List (List S39)) (v3 : Int) (v4 : Int) (v5 : Int) : Option (Bool) := L29 c29_2 (v0, v3, v4, v5, ())
theorem E29_ok : FnOk D PP E29 := fdS_ok lw fd29 (l := h29) (by kernel_rfl) (.nil) Try.func29 (by kernel_rfl) (by kernel_rfl) (by kernel_rfl) (enters_of (c := bodyF Try.f29) Try.func29 (by kernel_rfl) (by kernel_rfl)) (by kernel_rfl) (by kernel_rfl)
/-- pochoirref14.short -/
noncomputable def fd134 : FD := ⟨134, bodyF Try.f134, Try.f134.results.toList, Try.f134.ntmps, [.val], [.v (.int .i64)], [.v (.bool)], 1, [], 5000, none⟩
noncomputable def h134 : List (En D) := []
noncomputable def G134 : YR D [.v (.int .i64)] → Option (YR D [.v (.bool)]) := sealF (Gof D fd134 (tabH D h134))
noncomputable def E134 : En D := ⟨134, [.val], [.v (.int .i64)], [.v (.bool)], 1, G134⟩
noncomputable def F134 (x0 : Int) : Option (Bool) := G134 (x0)
theorem E134_ok : FnOk D PP E134 := fdS_ok lw fd134 (l := h134) (by kernel_rfl) (.nil) Try.func134 (by kernel_rfl) (by kernel_rfl) (by kernel_rfl) (enters_of (c := bodyF Try.f134) Try.func134 (by kernel_rfl) (by kernel_rfl)) (by kernel_rfl) (by kernel_rfl)
/-- pochoirref14.One -/
noncomputable def fd86 : FD := ⟨86, bodyF Try.f86, Try.f86.results.toList, Try.f86.ntmps, [.val, .val], [.v (.st 1), .v (.int .i64)], [.v (.bool)], 1, [], 5000, none⟩
noncomputable def h86 : List (En D) := [E134]
noncomputable def G86 : YR D [.v (.st 1), .v (.int .i64)] → Option (YR D [.v (.bool)]) := sealF (Gof D fd86 (tabH D h86))
noncomputable def E86 : En D := ⟨86, [.val, .val], [.v (.st 1), .v (.int .i64)], [.v (.bool)], 1, G86⟩
noncomputable def F86 (x0 : S47) (x1 : Int) : Option (Bool) := G86 (x0, x1)
theorem E86_ok : FnOk D PP E86 := fdS_ok lw fd86 (l := h86) (by kernel_rfl) (.cons E134_ok .nil) Try.func86 (by kernel_rfl) (by kernel_rfl) (by kernel_rfl) (enters_of (c := bodyF Try.f86) Try.func86 (by kernel_rfl) (by kernel_rfl)) (by kernel_rfl) (by kernel_rfl)
/-- pochoirref14.May -/
def c36_0 : Cut := ⟨116, [.v 0 (.sl (.st 1)), .v 1 (.int .i64), .v 5 (.int .i64)]⟩
noncomputable def fd36 : FD := ⟨36, bodyF Try.f36, Try.f36.results.toList, Try.f36.ntmps, [.val, .val], [.v (.sl (.st 1)), .v (.int .i64)], [.v (.bool)], 1, [c36_0], 5000, none⟩
noncomputable def h36 : List (En D) := [E86]
noncomputable def G36 : YR D [.v (.sl (.st 1)), .v (.int .i64)] → Option (YR D [.v (.bool)]) := sealF (Gof D fd36 (tabH D h36))
noncomputable def E36 : En D := ⟨36, [.val, .val], [.v (.sl (.st 1)), .v (.int .i64)], [.v (.bool)], 1, G36⟩
noncomputable def F36 (x0 : List S47) (x1 : Int) : Option (Bool) := G36 (x0, x1)
noncomputable def L36 : LL D (YR D fd36.ts) := sealF (LiF D fd36 (tabH D h36))
noncomputable def L36_0 (v0 : List S47) (v1 : Int) (v5 : Int) : Option (Bool) := L36 c36_0 (v0, v1, v5, ())
theorem E36_ok : FnOk D PP E36 := fdS_ok lw fd36 (l := h36) (by kernel_rfl) (.cons E86_ok .nil) Try.func36 (by kernel_rfl) (by kernel_rfl) (by kernel_rfl) (enters_of (c := bodyF Try.f36) Try.func36 (by kernel_rfl) (by kernel_rfl)) (by kernel_rfl) (by kernel_rfl)
/-- pochoirref15.May -/
def c23_0 : Cut := ⟨116, [.v 0 (.sl (.st 2)), .v 3 (.int .i64)]⟩
noncomputable def fd23 : FD := ⟨23, bodyF Try.f23, Try.f23.results.toList, Try.f23.ntmps, [.val], [.v (.sl (.st 2))], [.v (.bool)], 1, [c23_0], 5000, none⟩
noncomputable def h23 : List (En D) := [E29, E36]
noncomputable def G23 : YR D [.v (.sl (.st 2))] → Option (YR D [.v (.bool)]) := sealF (Gof D fd23 (tabH D h23))
noncomputable def E23 : En D := ⟨23, [.val], [.v (.sl (.st 2))], [.v (.bool)], 1, G23⟩
noncomputable def F23 (x0 : List S43) : Option (Bool) := G23 (x0)
noncomputable def L23 : LL D (YR D fd23.ts) := sealF (LiF D fd23 (tabH D h23))
noncomputable def L23_0 (v0 : List S43) (v3 : Int) : Option (Bool) := L23 c23_0 (v0, v3, ())
theorem E23_ok : FnOk D PP E23 := fdS_ok lw fd23 (l := h23) (by kernel_rfl) (.cons E29_ok (.cons E36_ok .nil)) Try.func23 (by kernel_rfl) (by kernel_rfl) (by kernel_rfl) (enters_of (c := bodyF Try.f23) Try.func23 (by kernel_rfl) (by kernel_rfl)) (by kernel_rfl) (by kernel_rfl)
/-- pochoirref14.Unit -/
noncomputable def fd93 : FD := ⟨93, bodyF Try.f93, Try.f93.results.toList, Try.f93.ntmps, [.val], [.v (.int .i64)], [.v (.bool)], 1, [], 5000, none⟩
noncomputable def h93 : List (En D) := []
noncomputable def G93 : YR D [.v (.int .i64)] → Option (YR D [.v (.bool)]) := sealF (Gof D fd93 (tabH D h93))
noncomputable def E93 : En D := ⟨93, [.val], [.v (.int .i64)], [.v (.bool)], 1, G93⟩
noncomputable def F93 (x0 : Int) : Option (Bool) := G93 (x0)
theorem E93_ok : FnOk D PP E93 := fdS_ok lw fd93 (l := h93) (by kernel_rfl) (.nil) Try.func93 (by kernel_rfl) (by kernel_rfl) (by kernel_rfl) (enters_of (c := bodyF Try.f93) Try.func93 (by kernel_rfl) (by kernel_rfl)) (by kernel_rfl) (by kernel_rfl)
/-- pochoirref14.round -/
noncomputable def fd94 : FD := ⟨94, bodyF Try.f94, Try.f94.results.toList, Try.f94.ntmps, [.val], [.v (.int .i64)], [.v (.int .i64)], 1, [], 5000, none⟩
noncomputable def h94 : List (En D) := []
noncomputable def G94 : YR D [.v (.int .i64)] → Option (YR D [.v (.int .i64)]) := sealF (Gof D fd94 (tabH D h94))
noncomputable def E94 : En D := ⟨94, [.val], [.v (.int .i64)], [.v (.int .i64)], 1, G94⟩
noncomputable def F94 (x0 : Int) : Option (Int) := G94 (x0)
theorem E94_ok : FnOk D PP E94 := fdS_ok lw fd94 (l := h94) (by kernel_rfl) (.nil) Try.func94 (by kernel_rfl) (by kernel_rfl) (by kernel_rfl) (enters_of (c := bodyF Try.f94) Try.func94 (by kernel_rfl) (by kernel_rfl)) (by kernel_rfl) (by kernel_rfl)
/-- pochoirref14.Move -/
def c43_0 : Cut := ⟨7, [.v 1 (.int .i64), .v 2 (.int .i64), .box 3 3 (.st 1) 0 []]⟩
noncomputable def fd43 : FD := ⟨43, bodyF Try.f43, Try.f43.results.toList, Try.f43.ntmps, [.val, .val, .val], [.v (.st 1), .v (.int .i64), .v (.int .i64)], [.v (.int .i64), .v (.int .i64), .v (.int .i64)], 3, [c43_0], 5000, none⟩
noncomputable def h43 : List (En D) := [E86, E93, E94]
noncomputable def G43 : YR D [.v (.st 1), .v (.int .i64), .v (.int .i64)] → Option (YR D [.v (.int .i64), .v (.int .i64), .v (.int .i64)]) := sealF (Gof D fd43 (tabH D h43))
noncomputable def E43 : En D := ⟨43, [.val, .val, .val], [.v (.st 1), .v (.int .i64), .v (.int .i64)], [.v (.int .i64), .v (.int .i64), .v (.int .i64)], 3, G43⟩
noncomputable def F43 (x0 : S47) (x1 : Int) (x2 : Int) : Option (Int × Int × Int) := G43 (x0, x1, x2)
noncomputable def L43 : LL D (YR D fd43.ts) := sealF (LiF D fd43 (tabH D h43))
noncomputable def L43_0 (v1 : Int) (v2 : Int) (v3 : S47) : Option (Int × Int × Int) := L43 c43_0 (v1, v2, v3, ())
theorem E43_ok : FnOk D PP E43 := fdS_ok lw fd43 (l := h43) (by kernel_rfl) (.cons E86_ok (.cons E93_ok (.cons E94_ok .nil))) Try.func43 (by kernel_rfl) (by kernel_rfl) (by kernel_rfl) (enters_of (c := bodyF Try.f43) Try.func43 (by kernel_rfl) (by kernel_rfl)) (by kernel_rfl) (by kernel_rfl)
/-- pochoirref15.moved -/
def c113_0 : Cut := ⟨116, [.v 1 (.sl (.sl (.st 0))), .box 2 2 (.st 1) 0 [], .own 6 (.sl (.st 0)), .v 7 (.int .i64)]⟩
def c113_1 : Cut := ⟨29844, [.v 1 (.sl (.sl (.st 0))), .box 2 2 (.st 1) 0 [], .own 6 (.sl (.st 0)), .v 7 (.int .i64), .own 8 (.st 0), .v 9 (.int .i64)]⟩
noncomputable def fd113 : FD := ⟨113, bodyF Try.f113, Try.f113.results.toList, Try.f113.ntmps, [.val, .val], [.v (.st 1), .v (.sl (.sl (.st 0)))], [.v (.sl (.sl (.st 0))), .v (.int .i64)], 2, [c113_0, c113_1], 5000, none⟩
noncomputable def h113 : List (En D) := [E43]
noncomputable def G113 : YR D [.v (.st 1), .v (.sl (.sl (.st 0)))] → Option (YR D [.v (.sl (.sl (.st 0))), .v (.int .i64)]) := sealF (Gof D fd113 (tabH D h113))
noncomputable def E113 : En D := ⟨113, [.val, .val], [.v (.st 1), .v (.sl (.sl (.st 0)))], [.v (.sl (.sl (.st 0))), .v (.int .i64)], 2, G113⟩
noncomputable def F113 (x0 : S47) (x1 : List (List S39)) : Option (List (List S39) × Int) := G113 (x0, x1)
noncomputable def L113 : LL D (YR D fd113.ts) := sealF (LiF D fd113 (tabH D h113))
noncomputable def L113_0 (v1 : List (List S39)) (v2 : S47) (v6 : List (List S39)) (v7 : Int) : Option (List (List S39) × Int) := L113 c113_0 (v1, v2, v6, v7, ())
noncomputable def L113_1 (v1 : List (List S39)) (v2 : S47) (v6 : List (List S39)) (v7 : Int) (v8 : List S39) (v9 : Int) : Option (List (List S39) × Int) := L113 c113_1 (v1, v2, v6, v7, v8, v9, ())
theorem E113_ok : FnOk D PP E113 := fdS_ok lw fd113 (l := h113) (by kernel_rfl) (.cons E43_ok .nil) Try.func113 (by kernel_rfl) (by kernel_rfl) (by kernel_rfl) (enters_of (c := bodyF Try.f113) Try.func113 (by kernel_rfl) (by kernel_rfl)) (by kernel_rfl) (by kernel_rfl)
/-- pochoirref15.points -/
def c114_0 : Cut := ⟨116, [.v 0 (.sl (.sl (.st 0))), .v 3 (.int .i64), .v 4 (.int .i64)]⟩
noncomputable def fd114 : FD := ⟨114, bodyF Try.f114, Try.f114.results.toList, Try.f114.ntmps, [.val], [.v (.sl (.sl (.st 0)))], [.v (.int .i64)], 1, [c114_0], 5000, none⟩
noncomputable def h114 : List (En D) := []
noncomputable def G114 : YR D [.v (.sl (.sl (.st 0)))] → Option (YR D [.v (.int .i64)]) := sealF (Gof D fd114 (tabH D h114))
noncomputable def E114 : En D := ⟨114, [.val], [.v (.sl (.sl (.st 0)))], [.v (.int .i64)], 1, G114⟩
noncomputable def F114 (x0 : List (List S39)) : Option (Int) := G114 (x0)
noncomputable def L114 : LL D (YR D fd114.ts) := sealF (LiF D fd114 (tabH D h114))
noncomputable def L114_0 (v0 : List (List S39)) (v3 : Int) (v4 : Int) : Option (Int) := L114 c114_0 (v0, v3, v4, ())
theorem E114_ok : FnOk D PP E114 := fdS_ok lw fd114 (l := h114) (by kernel_rfl) (.nil) Try.func114 (by kernel_rfl) (by kernel_rfl) (by kernel_rfl) (enters_of (c := bodyF Try.f114) Try.func114 (by kernel_rfl) (by kernel_rfl)) (by kernel_rfl) (by kernel_rfl)
/-- (*pochoirref15.Goer).Go -/
def c58_0 : Cut := ⟨2036, [.box 0 0 (.st 4) 0 [], .box 9 9 (.st 2) 0 [], .v 10 (.sl (.sl (.st 0))), .v 11 (.int .i64), .v 12 (.sl (.int .i64)), .v 13 (.int .i64)]⟩
def c58_1 : Cut := ⟨521364, [.box 0 0 (.st 4) 0 [], .box 9 9 (.st 2) 0 [], .v 10 (.sl (.sl (.st 0))), .v 11 (.int .i64), .v 12 (.sl (.int .i64)), .v 13 (.int .i64), .box 14 14 (.st 1) 0 [], .v 15 (.int .i64)]⟩
noncomputable def fd58 : FD := ⟨58, bodyF Try.f58, Try.f58.results.toList, Try.f58.ntmps, [.ref, .val, .val], [.v (.st 4), .v (.int .i64), .v (.sl (.int .i64))], [.v (.sl (.sl (.st 0))), .v (.int .i64), .v (.int .i64), .v (.st 4)], 3, [c58_0, c58_1], 5000, none⟩
noncomputable def h58 (G : YR D [.v (.st 4), .v (.int .i64), .v (.sl (.int .i64))] → Option (YR D [.v (.sl (.sl (.st 0))), .v (.int .i64), .v (.int .i64), .v (.st 4)])) : List (En D) := [⟨58, [.ref, .val, .val], [.v (.st 4), .v (.int .i64), .v (.sl (.int .i64))], [.v (.sl (.sl (.st 0))), .v (.int .i64), .v (.int .i64), .v (.st 4)], 3, G⟩, E113, E114]
noncomputable def G58 : YR D [.v (.st 4), .v (.int .i64), .v (.sl (.int .i64))] → Option (YR D [.v (.sl (.sl (.st 0))), .v (.int .i64), .v (.int .i64), .v (.st 4)]) := sealF (Gr D fd58 h58)
theorem h58_mono : TMono (f := fd58) h58 := fun G G' h => .cons h (.cons (fun _ _ q => q) (.cons (fun _ _ q => q) .nil))
noncomputable def E58 : En D := ⟨58, [.ref, .val, .val], [.v (.st 4), .v (.int .i64), .v (.sl (.int .i64))], [.v (.sl (.sl (.st 0))), .v (.int .i64), .v (.int .i64), .v (.st 4)], 3, G58⟩
noncomputable def F58 (x0 : S104) (x1 : Int) (x2 : List Int) : Option (List (List S39) × Int × Int × S104) := G58 (x0, x1, x2)
theorem E58_ok : FnOk D PP E58 := Gr_ok lw (f := fd58) (l := h58) (fun G => by kernel_rfl) (fun G hG => .cons hG (.cons E113_ok (.cons E114_ok .nil))) Try.func58 (by kernel_rfl) (by kernel_rfl) (by kernel_rfl) (enters_of (c := bodyF Try.f58) Try.func58 (by kernel_rfl) (by kernel_rfl)) (by kernel_rfl) (by kernel_rfl)
noncomputable def F58r (G : YR D [.v (.st 4), .v (.int .i64), .v (.sl (.int .i64))] → Option (YR D [.v (.sl (.sl (.st 0))), .v (.int .i64), .v (.int .i64), .v (.st 4)])) (x0 : S104) (x1 : Int) (x2 : List Int) : Option (List (List S39) × Int × Int × S104) := G (x0, x1, x2)
noncomputable def F58g (G : YR D [.v (.st 4), .v (.int .i64), .v (.sl (.int .i64))] → Option (YR D [.v (.sl (.sl (.st 0))), .v (.int .i64), .v (.int .i64), .v (.st 4)])) (x0 : S104) (x1 : Int) (x2 : List Int) : Option (List (List S39) × Int × Int × S104) := sealF (Gof D fd58 (tabH D (h58 G))) (x0, x1, x2)
noncomputable def L58 (G : YR D [.v (.st 4), .v (.int .i64), .v (.sl (.int .i64))] → Option (YR D [.v (.sl (.sl (.st 0))), .v (.int .i64), .v (.int .i64), .v (.st 4)])) : LL D (YR D fd58.ts) := sealF (LiF D fd58 (tabH D (h58 G)))
noncomputable def L58_0 (G : YR D [.v (.st 4), .v (.int .i64), .v (.sl (.int .i64))] → Option (YR D [.v (.sl (.sl (.st 0))), .v (.int .i64), .v (.int .i64), .v (.st 4)])) (v0 : S104) (v9 : S43) (v10 : List (List S39)) (v11 : Int) (v12 : List Int) (v13 : Int) : Option (List (List S39) × Int × Int × S104) := L58 G c58_0 (v0, v9, v10, v11, v12, v13, ())
noncomputable def L58_1 (G : YR D [.v (.st 4), .v (.int .i64), .v (.sl (.int .i64))] → Option (YR D [.v (.sl (.sl (.st 0))), .v (.int .i64), .v (.int .i64), .v (.st 4)])) (v0 : S104) (v9 : S43) (v10 : List (List S39)) (v11 : Int) (v12 : List Int) (v13 : Int) (v14 : S47) (v15 : Int) : Option (List (List S39) × Int × Int × S104) := L58 G c58_1 (v0, v9, v10, v11, v12, v13, v14, v15, ())
theorem F58_n (n : Nat) (x0 : S104) (x1 : Int) (x2 : List Int) : F58r (Gn D fd58 h58 (n + 1)) x0 x1 x2 = F58g (Gn D fd58 h58 n) x0 x1 x2 := rfl
theorem F58_of (n : Nat) (x0 : S104) (x1 : Int) (x2 : List Int) (y : List (List S39) × Int × Int × S104) (h : F58r (Gn D fd58 h58 n) x0 x1 x2 = some y) : F58 x0 x1 x2 = some y := (congrFun (sealF_eq _) (x0, x1, x2)).trans (Gr_of h58_mono h)
/-- pochoirref15.Outline -/
def c18_0 : Cut := ⟨7, [.v 0 (.sl (.st 2)), .v 1 (.int .i64)]⟩
noncomputable def fd18 : FD := ⟨18, bodyF Try.f18, Try.f18.results.toList, Try.f18.ntmps, [.val, .val], [.v (.sl (.st 2)), .v (.int .i64)], [.v (.sl (.sl (.st 0))), .v (.int .i64)], 2, [c18_0], 5000, none⟩
noncomputable def h18 : List (En D) := [E23, E58]
noncomputable def G18 : YR D [.v (.sl (.st 2)), .v (.int .i64)] → Option (YR D [.v (.sl (.sl (.st 0))), .v (.int .i64)]) := sealF (Gof D fd18 (tabH D h18))
noncomputable def E18 : En D := ⟨18, [.val, .val], [.v (.sl (.st 2)), .v (.int .i64)], [.v (.sl (.sl (.st 0))), .v (.int .i64)], 2, G18⟩
noncomputable def F18 (x0 : List S43) (x1 : Int) : Option (List (List S39) × Int) := G18 (x0, x1)
noncomputable def L18 : LL D (YR D fd18.ts) := sealF (LiF D fd18 (tabH D h18))
noncomputable def L18_0 (v0 : List S43) (v1 : Int) : Option (List (List S39) × Int) := L18 c18_0 (v0, v1, ())
theorem E18_ok : FnOk D PP E18 := fdS_ok lw fd18 (l := h18) (by kernel_rfl) (.cons E23_ok (.cons E58_ok .nil)) Try.func18 (by kernel_rfl) (by kernel_rfl) (by kernel_rfl) (enters_of (c := bodyF Try.f18) Try.func18 (by kernel_rfl) (by kernel_rfl)) (by kernel_rfl) (by kernel_rfl)
/-- pochoirref15.Depth -/
def c20_0 : Cut := ⟨7, [.v 0 (.sl (.st 2)), .v 1 (.int .i64)]⟩
noncomputable def fd20 : FD := ⟨20, bodyF Try.f20, Try.f20.results.toList, Try.f20.ntmps, [.val, .val], [.v (.sl (.st 2)), .v (.int .i64)], [.v (.int .i64), .v (.int .i64)], 2, [c20_0], 5000, none⟩
noncomputable def h20 : List (En D) := [E23, E58]
noncomputable def G20 : YR D [.v (.sl (.st 2)), .v (.int .i64)] → Option (YR D [.v (.int .i64), .v (.int .i64)]) := sealF (Gof D fd20 (tabH D h20))
noncomputable def E20 : En D := ⟨20, [.val, .val], [.v (.sl (.st 2)), .v (.int .i64)], [.v (.int .i64), .v (.int .i64)], 2, G20⟩
noncomputable def F20 (x0 : List S43) (x1 : Int) : Option (Int × Int) := G20 (x0, x1)
noncomputable def L20 : LL D (YR D fd20.ts) := sealF (LiF D fd20 (tabH D h20))
noncomputable def L20_0 (v0 : List S43) (v1 : Int) : Option (Int × Int) := L20 c20_0 (v0, v1, ())
theorem E20_ok : FnOk D PP E20 := fdS_ok lw fd20 (l := h20) (by kernel_rfl) (.cons E23_ok (.cons E58_ok .nil)) Try.func20 (by kernel_rfl) (by kernel_rfl) (by kernel_rfl) (enters_of (c := bodyF Try.f20) Try.func20 (by kernel_rfl) (by kernel_rfl)) (by kernel_rfl) (by kernel_rfl)
/-- pochoirref13.Same -/
def c21_0 : Cut := ⟨116, [.v 0 (.sl (.sl (.st 0))), .v 1 (.sl (.sl (.st 0))), .v 5 (.int .i64)]⟩
def c21_1 : Cut := ⟨14924, [.v 0 (.sl (.sl (.st 0))), .v 1 (.sl (.sl (.st 0))), .v 5 (.int .i64), .v 6 (.int .i64)]⟩
noncomputable def fd21 : FD := ⟨21, bodyF Try.f21, Try.f21.results.toList, Try.f21.ntmps, [.val, .val], [.v (.sl (.sl (.st 0))), .v (.sl (.sl (.st 0)))], [.v (.bool)], 1, [c21_0, c21_1], 5000, none⟩
noncomputable def h21 : List (En D) := []
noncomputable def G21 : YR D [.v (.sl (.sl (.st 0))), .v (.sl (.sl (.st 0)))] → Option (YR D [.v (.bool)]) := sealF (Gof D fd21 (tabH D h21))
noncomputable def E21 : En D := ⟨21, [.val, .val], [.v (.sl (.sl (.st 0))), .v (.sl (.sl (.st 0)))], [.v (.bool)], 1, G21⟩
noncomputable def F21 (x0 : List (List S39)) (x1 : List (List S39)) : Option (Bool) := G21 (x0, x1)
noncomputable def L21 : LL D (YR D fd21.ts) := sealF (LiF D fd21 (tabH D h21))
noncomputable def L21_0 (v0 : List (List S39)) (v1 : List (List S39)) (v5 : Int) : Option (Bool) := L21 c21_0 (v0, v1, v5, ())
noncomputable def L21_1 (v0 : List (List S39)) (v1 : List (List S39)) (v5 : Int) (v6 : Int) : Option (Bool) := L21 c21_1 (v0, v1, v5, v6, ())
theorem E21_ok : FnOk D PP E21 := fdS_ok lw fd21 (l := h21) (by kernel_rfl) (.nil) Try.func21 (by kernel_rfl) (by kernel_rfl) (by kernel_rfl) (enters_of (c := bodyF Try.f21) Try.func21 (by kernel_rfl) (by kernel_rfl)) (by kernel_rfl) (by kernel_rfl)
/-- pochoirlaw15.FlatOutlines -/
noncomputable def fd3 : FD := ⟨3, bodyF Try.f3, Try.f3.results.toList, Try.f3.ntmps, [.val, .val], [.v (.sl (.st 2)), .v (.int .i64)], [.v (.bool)], 1, [], 5000, none⟩
noncomputable def h3 : List (En D) := [E15, E16, E17, E18, E19, E20, E21, E22, E23]
noncomputable def G3 : YR D [.v (.sl (.st 2)), .v (.int .i64)] → Option (YR D [.v (.bool)]) := sealF (Gof D fd3 (tabH D h3))
noncomputable def E3 : En D := ⟨3, [.val, .val], [.v (.sl (.st 2)), .v (.int .i64)], [.v (.bool)], 1, G3⟩
noncomputable def F3 (x0 : List S43) (x1 : Int) : Option (Bool) := G3 (x0, x1)
theorem E3_ok : FnOk D PP E3 := fdS_ok lw fd3 (l := h3) (by kernel_rfl) (.cons E15_ok (.cons E16_ok (.cons E17_ok (.cons E18_ok (.cons E19_ok (.cons E20_ok (.cons E21_ok (.cons E22_ok (.cons E23_ok .nil))))))))) Try.func3 (by kernel_rfl) (by kernel_rfl) (by kernel_rfl) (enters_of (c := bodyF Try.f3) Try.func3 (by kernel_rfl) (by kernel_rfl)) (by kernel_rfl) (by kernel_rfl)
end Go.Proofs.Ytalghbndblgndaa.Ev
