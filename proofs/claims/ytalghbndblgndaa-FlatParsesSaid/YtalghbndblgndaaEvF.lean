/- Printed by a program of this claim: the functions, as they are told. -/
import Derived.Test.YtalghbndblgndaaEvD
import Derived.Test.YtalghbndblgndaaEvAe
import Derived.Test.YtalghbndblgndaaEvAd
namespace Go.Proofs.Ytalghbndblgndaa.Ev
open Go
set_option linter.unusedVariables false
noncomputable def bodyF (f : Func) : Code := match f.body with | some c => c | none => .skip
noncomputable def en_ (f : FD) (G : YR D f.as → Option (YR D f.ts)) : En D := ⟨f.g, f.pm, f.as, f.ts, f.nr, G⟩
theorem ok_ (f : FD) {l : List (En D)} {fn : Func} (hf : PP.funcs[f.g]? = some fn) (ha : AllOk D PP l) (hp : pmOk D l = true := by kernel_rfl) (hb : fn.body = some f.body := by kernel_rfl) (hr : fn.results.toList = f.rs := by kernel_rfl) (hn : fn.ntmps = f.nt := by kernel_rfl)
    (hm : (fn.name == "runtime.NumGoroutine") = false := by kernel_rfl) (hok : fdOk f = true := by kernel_rfl) (hw : xmOf D f.g = f.xm := by kernel_rfl) : FnOk D PP ⟨f.g, f.pm, f.as, f.ts, f.nr, sealF (Gof D f (tabH D l))⟩ :=
  fdS_ok lw f hp ha hf hb hr hn (enters_of hf hm hb) hok hw
/-- comp.short -/
def c133_0 : Cut := ⟨52, [.v 5 (.sl (.int .i64)), .v 6 (.int .i64), .v 7 (.int .i64)]⟩
noncomputable def fd133 : FD := ⟨133, bodyF Try.f133, Try.f133.results.toList, Try.f133.ntmps, [.val], [.v (.sl (.int .i64))], [.v (.bool)], 1, [c133_0], 5000, none⟩
noncomputable def h133 : List (En D) := []
noncomputable def G133 : YR D [.v (.sl (.int .i64))] → Option (YR D [.v (.bool)]) := sealF (Gof D fd133 (tabH D h133))
noncomputable def E133 : En D := en_ fd133 G133
noncomputable def F133 (x0 : List Int) : Option (Bool) := G133 (x0)
noncomputable def L133 : LL D (YR D fd133.ts) := sealF (LiF D fd133 (tabH D h133))
noncomputable def L133_0 (v5 : List Int) (v6 : Int) (v7 : Int) : Option (Bool) := L133 c133_0 (v5, v6, v7, ())
theorem E133_ok : FnOk D PP E133 := ok_ fd133 (l := h133) Try.func133 (.nil)
/-- comp.may -/
noncomputable def fd85 : FD := ⟨85, bodyF Try.f85, Try.f85.results.toList, Try.f85.ntmps, [.val, .val], [.v (.st 1), .v (.int .i64)], [.v (.bool)], 1, [], 5000, none⟩
noncomputable def h85 : List (En D) := [E133]
noncomputable def G85 : YR D [.v (.st 1), .v (.int .i64)] → Option (YR D [.v (.bool)]) := sealF (Gof D fd85 (tabH D h85))
noncomputable def E85 : En D := en_ fd85 G85
noncomputable def F85 (x0 : S47) (x1 : Int) : Option (Bool) := G85 (x0, x1)
theorem E85_ok : FnOk D PP E85 := ok_ fd85 (l := h85) Try.func85 (.cons E133_ok .nil)
/-- comp.May -/
def c35_0 : Cut := ⟨116, [.v 1 (.int .i64), .v 23 (.sl (.st 1)), .v 24 (.int .i64), .v 25 (.int .i64)]⟩
noncomputable def fd35 : FD := ⟨35, bodyF Try.f35, Try.f35.results.toList, Try.f35.ntmps, [.val, .val], [.v (.sl (.st 1)), .v (.int .i64)], [.v (.bool)], 1, [c35_0], 5000, none⟩
noncomputable def h35 : List (En D) := [E85]
noncomputable def G35 : YR D [.v (.sl (.st 1)), .v (.int .i64)] → Option (YR D [.v (.bool)]) := sealF (Gof D fd35 (tabH D h35))
noncomputable def E35 : En D := en_ fd35 G35
noncomputable def F35 (x0 : List S47) (x1 : Int) : Option (Bool) := G35 (x0, x1)
noncomputable def L35 : LL D (YR D fd35.ts) := sealF (LiF D fd35 (tabH D h35))
noncomputable def L35_0 (v1 : Int) (v23 : List S47) (v24 : Int) (v25 : Int) : Option (Bool) := L35 c35_0 (v1, v23, v24, v25, ())
theorem E35_ok : FnOk D PP E35 := ok_ fd35 (l := h35) Try.func35 (.cons E85_ok .nil)
/-- glyf.far -/
noncomputable def fd69 : FD := ⟨69, bodyF Try.f69, Try.f69.results.toList, Try.f69.ntmps, [.val], [.v (.int .i64)], [.v (.bool)], 1, [], 5000, none⟩
noncomputable def h69 : List (En D) := []
noncomputable def G69 : YR D [.v (.int .i64)] → Option (YR D [.v (.bool)]) := sealF (Gof D fd69 (tabH D h69))
noncomputable def E69 : En D := en_ fd69 G69
noncomputable def F69 (x0 : Int) : Option (Bool) := G69 (x0)
theorem E69_ok : FnOk D PP E69 := ok_ fd69 (l := h69) Try.func69 (.nil)
/-- glyf.May -/
def c28_0 : Cut := ⟨244, [.v 3 (.int .i64), .v 11 (.sl (.sl (.st 0))), .v 12 (.int .i64), .v 13 (.int .i64)]⟩
def c28_1 : Cut := ⟨125340, [.v 3 (.int .i64), .v 11 (.sl (.sl (.st 0))), .v 12 (.int .i64), .v 13 (.int .i64), .v 28 (.sl (.st 0)), .v 29 (.int .i64), .v 30 (.int .i64)]⟩
noncomputable def fd28 : FD := ⟨28, bodyF Try.f28, Try.f28.results.toList, Try.f28.ntmps, [.val], [.v (.sl (.sl (.st 0)))], [.v (.bool)], 1, [c28_0, c28_1], 5000, none⟩
noncomputable def h28 : List (En D) := [E69]
noncomputable def G28 : YR D [.v (.sl (.sl (.st 0)))] → Option (YR D [.v (.bool)]) := sealF (Gof D fd28 (tabH D h28))
noncomputable def E28 : En D := en_ fd28 G28
noncomputable def F28 (x0 : List (List S39)) : Option (Bool) := G28 (x0)
noncomputable def L28 : LL D (YR D fd28.ts) := sealF (LiF D fd28 (tabH D h28))
noncomputable def L28_0 (v3 : Int) (v11 : List (List S39)) (v12 : Int) (v13 : Int) : Option (Bool) := L28 c28_0 (v3, v11, v12, v13, ())
noncomputable def L28_1 (v3 : Int) (v11 : List (List S39)) (v12 : Int) (v13 : Int) (v28 : List S39) (v29 : Int) (v30 : Int) : Option (Bool) := L28 c28_1 (v3, v11, v12, v13, v28, v29, v30, ())
theorem E28_ok : FnOk D PP E28 := ok_ fd28 (l := h28) Try.func28 (.cons E69_ok .nil)
/-- flat.may -/
noncomputable def fd61 : FD := ⟨61, bodyF Try.f61, Try.f61.results.toList, Try.f61.ntmps, [.val, .val], [.v (.st 2), .v (.int .i64)], [.v (.bool)], 1, [], 5000, none⟩
noncomputable def h61 : List (En D) := [E28, E35]
noncomputable def G61 : YR D [.v (.st 2), .v (.int .i64)] → Option (YR D [.v (.bool)]) := sealF (Gof D fd61 (tabH D h61))
noncomputable def E61 : En D := en_ fd61 G61
noncomputable def F61 (x0 : S43) (x1 : Int) : Option (Bool) := G61 (x0, x1)
theorem E61_ok : FnOk D PP E61 := ok_ fd61 (l := h61) Try.func61 (.cons E28_ok (.cons E35_ok .nil))
/-- flat.May$1 -/
noncomputable def fd60 : FD := ⟨60, bodyF Try.f60, Try.f60.results.toList, Try.f60.ntmps, [.val, .ref], [.v (.st 2), .v (.sl (.st 2))], [.v (.bool), .v (.sl (.st 2))], 1, [], 5000, none⟩
noncomputable def h60 : List (En D) := [E61]
noncomputable def G60 : YR D [.v (.st 2), .v (.sl (.st 2))] → Option (YR D [.v (.bool), .v (.sl (.st 2))]) := sealF (Gof D fd60 (tabH D h60))
noncomputable def E60 : En D := en_ fd60 G60
noncomputable def F60 (x0 : S43) (x1 : List S43) : Option (Bool × List S43) := G60 (x0, x1)
theorem E60_ok : FnOk D PP E60 := ok_ fd60 (l := h60) Try.func60 (.cons E61_ok .nil)
/-- slices.IndexFunc[[]api.Shape,api.Shape](flat.May$1) -/
def c115060_0 : Cut := ⟨52, [.fn 1 60 [2016], .v 0 (.sl (.st 2)), .v 7 (.int .i64), .v 8 (.int .i64), .bx 2016 (.sl (.st 2)) []]⟩
noncomputable def fd115060 : FD := ⟨115, bodyF Try.f115, Try.f115.results.toList, Try.f115.ntmps, [.val, .clo [1]], [.v (.sl (.st 2)), .fc 60, .v (.sl (.st 2))], [.v (.int .i64), .v (.sl (.st 2))], 1, [c115060_0], 5000, some ⟨[.val, .clo [(1, [])]], []⟩⟩
noncomputable def h115060 : List (En D) := [E60]
noncomputable def G115060 : YR D [.v (.sl (.st 2)), .fc 60, .v (.sl (.st 2))] → Option (YR D [.v (.int .i64), .v (.sl (.st 2))]) := sealF (Gof D fd115060 (tabH D h115060))
noncomputable def E115060 : En D := en_ fd115060 G115060
noncomputable def F115060 (x0 : List S43) (x1 : Unit) (x2 : List S43) : Option (Int × List S43) := G115060 (x0, x1, x2)
noncomputable def L115060 : LL D (YR D fd115060.ts) := sealF (LiF D fd115060 (tabH D h115060))
noncomputable def L115060_0 (v0 : List S43) (v7 : Int) (v8 : Int) (v2016 : List S43) : Option (Int × List S43) := L115060 c115060_0 (v0, v7, v8, v2016, ())
theorem E115060_ok : FnOk D PP E115060 := ok_ fd115060 (l := h115060) Try.func115 (.cons E60_ok .nil)
/-- slices.ContainsFunc[[]api.Shape,api.Shape](flat.May$1) -/
noncomputable def fd59060 : FD := ⟨59, bodyF Try.f59, Try.f59.results.toList, Try.f59.ntmps, [.val, .clo [1]], [.v (.sl (.st 2)), .fc 60, .v (.sl (.st 2))], [.v (.bool), .v (.sl (.st 2))], 1, [], 5000, some ⟨[.val, .clo [(1, [])]], []⟩⟩
noncomputable def h59060 : List (En D) := [E60, E115060]
noncomputable def G59060 : YR D [.v (.sl (.st 2)), .fc 60, .v (.sl (.st 2))] → Option (YR D [.v (.bool), .v (.sl (.st 2))]) := sealF (Gof D fd59060 (tabH D h59060))
noncomputable def E59060 : En D := en_ fd59060 G59060
noncomputable def F59060 (x0 : List S43) (x1 : Unit) (x2 : List S43) : Option (Bool × List S43) := G59060 (x0, x1, x2)
theorem E59060_ok : FnOk D PP E59060 := ok_ fd59060 (l := h59060) Try.func59 (.cons E60_ok (.cons E115060_ok .nil))
/-- flat.May -/
noncomputable def fd22 : FD := ⟨22, bodyF Try.f22, Try.f22.results.toList, Try.f22.ntmps, [.val], [.v (.sl (.st 2))], [.v (.bool)], 1, [], 5000, none⟩
noncomputable def h22 : List (En D) := [E60, E59060]
noncomputable def G22 : YR D [.v (.sl (.st 2))] → Option (YR D [.v (.bool)]) := sealF (Gof D fd22 (tabH D h22))
noncomputable def E22 : En D := en_ fd22 G22
noncomputable def F22 (x0 : List S43) : Option (Bool) := G22 (x0)
theorem E22_ok : FnOk D PP E22 := ok_ fd22 (l := h22) Try.func22 (.cons E60_ok (.cons E59060_ok .nil))
/-- flat.there -/
noncomputable def fd55 : FD := ⟨55, bodyF Try.f55, Try.f55.results.toList, Try.f55.ntmps, [.val, .val], [.v (.sl (.st 2)), .v (.int .i64)], [.v (.bool)], 1, [], 5000, none⟩
noncomputable def h55 : List (En D) := [E22]
noncomputable def G55 : YR D [.v (.sl (.st 2)), .v (.int .i64)] → Option (YR D [.v (.bool)]) := sealF (Gof D fd55 (tabH D h55))
noncomputable def E55 : En D := en_ fd55 G55
noncomputable def F55 (x0 : List S43) (x1 : Int) : Option (Bool) := G55 (x0, x1)
theorem E55_ok : FnOk D PP E55 := ok_ fd55 (l := h55) Try.func55 (.cons E22_ok .nil)
/-- slices.Index[[]int,int] -/
def c162_0 : Cut := ⟨52, [.v 0 (.sl (.int .i64)), .v 1 (.int .i64), .v 7 (.int .i64), .v 8 (.int .i64)]⟩
noncomputable def fd162 : FD := ⟨162, bodyF Try.f162, Try.f162.results.toList, Try.f162.ntmps, [.val, .val], [.v (.sl (.int .i64)), .v (.int .i64)], [.v (.int .i64)], 1, [c162_0], 5000, none⟩
noncomputable def h162 : List (En D) := []
noncomputable def G162 : YR D [.v (.sl (.int .i64)), .v (.int .i64)] → Option (YR D [.v (.int .i64)]) := sealF (Gof D fd162 (tabH D h162))
noncomputable def E162 : En D := en_ fd162 G162
noncomputable def F162 (x0 : List Int) (x1 : Int) : Option (Int) := G162 (x0, x1)
noncomputable def L162 : LL D (YR D fd162.ts) := sealF (LiF D fd162 (tabH D h162))
noncomputable def L162_0 (v0 : List Int) (v1 : Int) (v7 : Int) (v8 : Int) : Option (Int) := L162 c162_0 (v0, v1, v7, v8, ())
theorem E162_ok : FnOk D PP E162 := ok_ fd162 (l := h162) Try.func162 (.nil)
/-- slices.Contains[[]int,int] -/
noncomputable def fd149 : FD := ⟨149, bodyF Try.f149, Try.f149.results.toList, Try.f149.ntmps, [.val, .val], [.v (.sl (.int .i64)), .v (.int .i64)], [.v (.bool)], 1, [], 5000, none⟩
noncomputable def h149 : List (En D) := [E162]
noncomputable def G149 : YR D [.v (.sl (.int .i64)), .v (.int .i64)] → Option (YR D [.v (.bool)]) := sealF (Gof D fd149 (tabH D h149))
noncomputable def E149 : En D := en_ fd149 G149
noncomputable def F149 (x0 : List Int) (x1 : Int) : Option (Bool) := G149 (x0, x1)
theorem E149_ok : FnOk D PP E149 := ok_ fd149 (l := h149) Try.func149 (.cons E162_ok .nil)
/-- (*flat.walker).enter -/
noncomputable def fd110 : FD := ⟨110, bodyF Try.f110, Try.f110.results.toList, Try.f110.ntmps, [.ref, .val], [.v (.st 3), .v (.st 1)], [.v (.int .i64), .v (.st 3)], 1, [], 5000, some ⟨[.ref 0 [(1, none)] [(1, none)], .val], []⟩⟩
noncomputable def h110 : List (En D) := [E149]
noncomputable def G110 : YR D [.v (.st 3), .v (.st 1)] → Option (YR D [.v (.int .i64), .v (.st 3)]) := sealF (Gof D fd110 (tabH D h110))
noncomputable def E110 : En D := en_ fd110 G110
noncomputable def F110 (x0 : S99) (x1 : S47) : Option (Int × S99) := G110 (x0, x1)
theorem E110_ok : FnOk D PP E110 := ok_ fd110 (l := h110) Try.func110 (.cons E149_ok .nil)
/-- comp.far -/
noncomputable def fd90 : FD := ⟨90, bodyF Try.f90, Try.f90.results.toList, Try.f90.ntmps, [.val], [.v (.int .i64)], [.v (.bool)], 1, [], 5000, none⟩
noncomputable def h90 : List (En D) := []
noncomputable def G90 : YR D [.v (.int .i64)] → Option (YR D [.v (.bool)]) := sealF (Gof D fd90 (tabH D h90))
noncomputable def E90 : En D := en_ fd90 G90
noncomputable def F90 (x0 : Int) : Option (Bool) := G90 (x0)
theorem E90_ok : FnOk D PP E90 := ok_ fd90 (l := h90) Try.func90 (.nil)
/-- comp.rounded -/
noncomputable def fd91 : FD := ⟨91, bodyF Try.f91, Try.f91.results.toList, Try.f91.ntmps, [.val], [.v (.int .i64)], [.v (.int .i64)], 1, [], 5000, none⟩
noncomputable def h91 : List (En D) := []
noncomputable def G91 : YR D [.v (.int .i64)] → Option (YR D [.v (.int .i64)]) := sealF (Gof D fd91 (tabH D h91))
noncomputable def E91 : En D := en_ fd91 G91
noncomputable def F91 (x0 : Int) : Option (Int) := G91 (x0)
theorem E91_ok : FnOk D PP E91 := ok_ fd91 (l := h91) Try.func91 (.nil)
/-- comp.unit -/
noncomputable def fd92 : FD := ⟨92, bodyF Try.f92, Try.f92.results.toList, Try.f92.ntmps, [.val], [.v (.int .i64)], [.v (.bool)], 1, [], 5000, none⟩
noncomputable def h92 : List (En D) := []
noncomputable def G92 : YR D [.v (.int .i64)] → Option (YR D [.v (.bool)]) := sealF (Gof D fd92 (tabH D h92))
noncomputable def E92 : En D := en_ fd92 G92
noncomputable def F92 (x0 : Int) : Option (Bool) := G92 (x0)
theorem E92_ok : FnOk D PP E92 := ok_ fd92 (l := h92) Try.func92 (.nil)
/-- comp.Move -/
def c42_0 : Cut := ⟨7, [.v 1 (.int .i64), .v 2 (.int .i64), .box 3 3 (.st 1) 0 []]⟩
noncomputable def fd42 : FD := ⟨42, bodyF Try.f42, Try.f42.results.toList, Try.f42.ntmps, [.val, .val, .val], [.v (.st 1), .v (.int .i64), .v (.int .i64)], [.v (.int .i64), .v (.int .i64), .v (.int .i64)], 3, [c42_0], 5000, none⟩
noncomputable def h42 : List (En D) := [E85, E90, E91, E92]
noncomputable def G42 : YR D [.v (.st 1), .v (.int .i64), .v (.int .i64)] → Option (YR D [.v (.int .i64), .v (.int .i64), .v (.int .i64)]) := sealF (Gof D fd42 (tabH D h42))
noncomputable def E42 : En D := en_ fd42 G42
noncomputable def F42 (x0 : S47) (x1 : Int) (x2 : Int) : Option (Int × Int × Int) := G42 (x0, x1, x2)
noncomputable def L42 : LL D (YR D fd42.ts) := sealF (LiF D fd42 (tabH D h42))
noncomputable def L42_0 (v1 : Int) (v2 : Int) (v3 : S47) : Option (Int × Int × Int) := L42 c42_0 (v1, v2, v3, ())
theorem E42_ok : FnOk D PP E42 := ok_ fd42 (l := h42) Try.func42 (.cons E85_ok (.cons E90_ok (.cons E91_ok (.cons E92_ok .nil))))
/-- (*flat.outline).add -/
def c111_0 : Cut := ⟨52, [.box 0 0 (.st 7) 0 [(0, none)], .box 4 4 (.st 1) 0 [], .v 15 (.sl (.sl (.st 0))), .v 16 (.int .i64), .v 17 (.int .i64)]⟩
def c111_1 : Cut := ⟨54068, [.box 0 0 (.st 7) 0 [(0, none)], .box 4 4 (.st 1) 0 [], .own 9 (.st 0), .v 15 (.sl (.sl (.st 0))), .v 16 (.int .i64), .v 17 (.int .i64), .v 24 (.sl (.st 0)), .v 25 (.int .i64), .v 26 (.int .i64)]⟩
noncomputable def fd111 : FD := ⟨111, bodyF Try.f111, Try.f111.results.toList, Try.f111.ntmps, [.ref, .val, .val], [.v (.st 7), .v (.st 1), .v (.sl (.sl (.st 0)))], [.v (.int .i64), .v (.st 7)], 1, [c111_0, c111_1], 5000, some ⟨[.ref 0 [(0, none)] [(0, none)], .val, .val], []⟩⟩
noncomputable def h111 : List (En D) := [E42]
noncomputable def G111 : YR D [.v (.st 7), .v (.st 1), .v (.sl (.sl (.st 0)))] → Option (YR D [.v (.int .i64), .v (.st 7)]) := sealF (Gof D fd111 (tabH D h111))
noncomputable def E111 : En D := en_ fd111 G111
noncomputable def F111 (x0 : S180) (x1 : S47) (x2 : List (List S39)) : Option (Int × S180) := G111 (x0, x1, x2)
noncomputable def L111 : LL D (YR D fd111.ts) := sealF (LiF D fd111 (tabH D h111))
noncomputable def L111_0 (v0 : S180) (v4 : S47) (v15 : List (List S39)) (v16 : Int) (v17 : Int) : Option (Int × S180) := L111 c111_0 (v0, v4, v15, v16, v17, ())
noncomputable def L111_1 (v0 : S180) (v4 : S47) (v9 : List S39) (v15 : List (List S39)) (v16 : Int) (v17 : Int) (v24 : List S39) (v25 : Int) (v26 : Int) : Option (Int × S180) := L111 c111_1 (v0, v4, v9, v15, v16, v17, v24, v25, v26, ())
theorem E111_ok : FnOk D PP E111 := ok_ fd111 (l := h111) Try.func111 (.cons E42_ok .nil)
/-- (*flat.walker).walk -/
def c56_0 : Cut := ⟨1012, [.box 0 0 (.st 3) 0 [(1, none)], .box 7 7 (.st 7) 0 [(0, none)], .v 37 (.sl (.st 1)), .v 38 (.int .i64), .v 39 (.int .i64)]⟩
def c56_1 : Cut := ⟨259279, [.box 0 0 (.st 3) 0 [(1, none)], .box 7 7 (.st 7) 0 [(0, none)], .v 12 (.int .i64), .v 37 (.sl (.st 1)), .v 38 (.int .i64), .v 39 (.int .i64)]⟩
def c56_2 : Cut := ⟨1037114, [.box 0 0 (.st 3) 0 [(1, none)], .box 7 7 (.st 7) 0 [(0, none)], .box 9 9 (.st 1) 0 [], .v 11 (.sl (.sl (.st 0))), .v 37 (.sl (.st 1)), .v 38 (.int .i64), .v 39 (.int .i64)]⟩
noncomputable def fd56 : FD := ⟨56, bodyF Try.f56, Try.f56.results.toList, Try.f56.ntmps, [.ref, .val], [.v (.st 3), .v (.int .i64)], [.v (.sl (.sl (.st 0))), .v (.int .i64), .v (.st 3)], 2, [c56_0, c56_1, c56_2], 5000, some ⟨[.ref 0 [(1, none)] [(1, none)], .val], []⟩⟩
noncomputable def h56 (G : YR D [.v (.st 3), .v (.int .i64)] → Option (YR D [.v (.sl (.sl (.st 0))), .v (.int .i64), .v (.st 3)])) : List (En D) := [⟨56, [.ref, .val], [.v (.st 3), .v (.int .i64)], [.v (.sl (.sl (.st 0))), .v (.int .i64), .v (.st 3)], 2, G⟩, E110, E111]
noncomputable def G56 : YR D [.v (.st 3), .v (.int .i64)] → Option (YR D [.v (.sl (.sl (.st 0))), .v (.int .i64), .v (.st 3)]) := sealF (Gr D fd56 h56)
theorem h56_mono : TMono (f := fd56) h56 := fun G G' h => .cons h (.cons (fun _ _ q => q) (.cons (fun _ _ q => q) .nil))
noncomputable def E56 : En D := en_ fd56 G56
noncomputable def F56 (x0 : S99) (x1 : Int) : Option (List (List S39) × Int × S99) := G56 (x0, x1)
theorem E56_ok : FnOk D PP E56 := Gr_ok lw (f := fd56) (l := h56) (fun G => by kernel_rfl) (fun G hG => .cons hG (.cons E110_ok (.cons E111_ok .nil))) Try.func56 (by kernel_rfl) (by kernel_rfl) (by kernel_rfl) (enters_of (c := bodyF Try.f56) Try.func56 (by kernel_rfl) (by kernel_rfl)) (by kernel_rfl) (by kernel_rfl)
noncomputable def F56r (G : YR D [.v (.st 3), .v (.int .i64)] → Option (YR D [.v (.sl (.sl (.st 0))), .v (.int .i64), .v (.st 3)])) (x0 : S99) (x1 : Int) : Option (List (List S39) × Int × S99) := G (x0, x1)
noncomputable def F56g (G : YR D [.v (.st 3), .v (.int .i64)] → Option (YR D [.v (.sl (.sl (.st 0))), .v (.int .i64), .v (.st 3)])) (x0 : S99) (x1 : Int) : Option (List (List S39) × Int × S99) := sealF (Gof D fd56 (tabH D (h56 G))) (x0, x1)
noncomputable def L56 (G : YR D [.v (.st 3), .v (.int .i64)] → Option (YR D [.v (.sl (.sl (.st 0))), .v (.int .i64), .v (.st 3)])) : LL D (YR D fd56.ts) := sealF (LiF D fd56 (tabH D (h56 G)))
noncomputable def L56_0 (G : YR D [.v (.st 3), .v (.int .i64)] → Option (YR D [.v (.sl (.sl (.st 0))), .v (.int .i64), .v (.st 3)])) (v0 : S99) (v7 : S180) (v37 : List S47) (v38 : Int) (v39 : Int) : Option (List (List S39) × Int × S99) := L56 G c56_0 (v0, v7, v37, v38, v39, ())
noncomputable def L56_1 (G : YR D [.v (.st 3), .v (.int .i64)] → Option (YR D [.v (.sl (.sl (.st 0))), .v (.int .i64), .v (.st 3)])) (v0 : S99) (v7 : S180) (v12 : Int) (v37 : List S47) (v38 : Int) (v39 : Int) : Option (List (List S39) × Int × S99) := L56 G c56_1 (v0, v7, v12, v37, v38, v39, ())
noncomputable def L56_2 (G : YR D [.v (.st 3), .v (.int .i64)] → Option (YR D [.v (.sl (.sl (.st 0))), .v (.int .i64), .v (.st 3)])) (v0 : S99) (v7 : S180) (v9 : S47) (v11 : List (List S39)) (v37 : List S47) (v38 : Int) (v39 : Int) : Option (List (List S39) × Int × S99) := L56 G c56_2 (v0, v7, v9, v11, v37, v38, v39, ())
theorem F56_n (n : Nat) (x0 : S99) (x1 : Int) : F56r (Gn D fd56 h56 (n + 1)) x0 x1 = F56g (Gn D fd56 h56 n) x0 x1 := rfl
theorem F56_of (n : Nat) (x0 : S99) (x1 : Int) (y : List (List S39) × Int × S99) (h : F56r (Gn D fd56 h56 n) x0 x1 = some y) : F56 x0 x1 = some y := (congrFun (sealF_eq _) (x0, x1)).trans (Gr_of h56_mono h)
/-- slices.Clone[[]api.Point,api.Point] -/
noncomputable def fd112 : FD := ⟨112, bodyF Try.f112, Try.f112.results.toList, Try.f112.ntmps, [.val], [.v (.sl (.st 0))], [.v (.sl (.st 0))], 1, [], 5000, some ⟨[.val], [(0, none)]⟩⟩
noncomputable def G112 : YR D [.v (.sl (.st 0))] → Option (YR D [.v (.sl (.st 0))]) := sealF fun x => grd (fit (0 + x.length) 24) (some x)
noncomputable def E112 : En D := ⟨112, [.val], [.v (.sl (.st 0))], [.v (.sl (.st 0))], 1, G112⟩
noncomputable def F112 (x0 : List S39) : Option (List S39) := G112 (x0)
theorem F112_eq (x0 : List S39) : F112 x0 = grd (fit (0 + x0.length) 24) (some x0) := congrFun (sealF_eq _) x0
theorem E112_ok : FnOk D PP E112 := by
  refine FnX.ok (xm := ⟨[.val], [(0, none)]⟩) (FnX.rows (t := .st 0) (fun y hy => ?_) (fun y hy => ?_) (fun a l y hy => ?_)) (by kernel_rfl)
  · obtain rfl : [] = y := Option.some.inj ((show some [] = grd (fit (0 + 0) 24) (some []) by kernel_rfl).trans hy)
    exact fdSX lw fd112 Try.func112 (by kernel_rfl) (by kernel_rfl) (by kernel_rfl) (enters_of (c := bodyF Try.f112) Try.func112 (by kernel_rfl) (by kernel_rfl)) (by kernel_rfl) rfl (by kernel_rfl)
  · obtain rfl : [] = y := Option.some.inj ((show some [] = grd (fit (0 + 0) 24) (some []) by kernel_rfl).trans hy)
    exact fdSX lw fd112 Try.func112 (by kernel_rfl) (by kernel_rfl) (by kernel_rfl) (enters_of (c := bodyF Try.f112) Try.func112 (by kernel_rfl) (by kernel_rfl)) (by kernel_rfl) rfl (by kernel_rfl)
  · exact fdSX lw fd112 Try.func112 (by kernel_rfl) (by kernel_rfl) (by kernel_rfl) (enters_of (c := bodyF Try.f112) Try.func112 (by kernel_rfl) (by kernel_rfl)) (by kernel_rfl) rfl ((show entW D fd112 (tabH D []) (LiF D fd112 (tabH D [])) [.c (.lst (.st 0) (a :: l))] = grd (fit (0 + (a :: l).length) 24) (some (a :: l)) by kernel_rfl).trans hy)
/-- flat.copied -/
def c57_0 : Cut := ⟨116, [.own 3 (.sl (.st 0)), .v 6 (.sl (.sl (.st 0))), .v 7 (.int .i64), .v 8 (.int .i64)]⟩
noncomputable def fd57 : FD := ⟨57, bodyF Try.f57, Try.f57.results.toList, Try.f57.ntmps, [.val], [.v (.sl (.sl (.st 0)))], [.v (.sl (.sl (.st 0)))], 1, [c57_0], 5000, none⟩
noncomputable def h57 : List (En D) := [E112]
noncomputable def G57 : YR D [.v (.sl (.sl (.st 0)))] → Option (YR D [.v (.sl (.sl (.st 0)))]) := sealF (Gof D fd57 (tabH D h57))
noncomputable def E57 : En D := en_ fd57 G57
noncomputable def F57 (x0 : List (List S39)) : Option (List (List S39)) := G57 (x0)
noncomputable def L57 : LL D (YR D fd57.ts) := sealF (LiF D fd57 (tabH D h57))
noncomputable def L57_0 (v3 : List (List S39)) (v6 : List (List S39)) (v7 : Int) (v8 : Int) : Option (List (List S39)) := L57 c57_0 (v3, v6, v7, v8, ())
theorem E57_ok : FnOk D PP E57 := ok_ fd57 (l := h57) Try.func57 (.cons E112_ok .nil)
/-- flat.Outline -/
noncomputable def fd17 : FD := ⟨17, bodyF Try.f17, Try.f17.results.toList, Try.f17.ntmps, [.val, .val], [.v (.sl (.st 2)), .v (.int .i64)], [.v (.sl (.sl (.st 0))), .v (.int .i64)], 2, [], 5000, none⟩
noncomputable def h17 : List (En D) := [E55, E56, E57]
noncomputable def G17 : YR D [.v (.sl (.st 2)), .v (.int .i64)] → Option (YR D [.v (.sl (.sl (.st 0))), .v (.int .i64)]) := sealF (Gof D fd17 (tabH D h17))
noncomputable def E17 : En D := en_ fd17 G17
noncomputable def F17 (x0 : List S43) (x1 : Int) : Option (List (List S39) × Int) := G17 (x0, x1)
theorem E17_ok : FnOk D PP E17 := ok_ fd17 (l := h17) Try.func17 (.cons E55_ok (.cons E56_ok (.cons E57_ok .nil)))
/-- flat.Depth -/
noncomputable def fd19 : FD := ⟨19, bodyF Try.f19, Try.f19.results.toList, Try.f19.ntmps, [.val, .val], [.v (.sl (.st 2)), .v (.int .i64)], [.v (.int .i64), .v (.int .i64)], 2, [], 5000, none⟩
noncomputable def h19 : List (En D) := [E55, E56]
noncomputable def G19 : YR D [.v (.sl (.st 2)), .v (.int .i64)] → Option (YR D [.v (.int .i64), .v (.int .i64)]) := sealF (Gof D fd19 (tabH D h19))
noncomputable def E19 : En D := en_ fd19 G19
noncomputable def F19 (x0 : List S43) (x1 : Int) : Option (Int × Int) := G19 (x0, x1)
theorem E19_ok : FnOk D PP E19 := ok_ fd19 (l := h19) Try.func19 (.cons E55_ok (.cons E56_ok .nil))
/-- pochoirlaw15.awake -/
noncomputable def fd15 : FD := ⟨15, bodyF Try.f15, Try.f15.results.toList, Try.f15.ntmps, [], [], [.v (.bool)], 1, [], 5000, none⟩
noncomputable def h15 : List (En D) := [E17, E19, E22]
noncomputable def G15 : YR D [] → Option (YR D [.v (.bool)]) := sealF (Gof D fd15 (tabH D h15))
noncomputable def E15 : En D := en_ fd15 G15
noncomputable def F15 : Option (Bool) := G15 ()
theorem E15_ok : FnOk D PP E15 := ok_ fd15 (l := h15) Try.func15 (.cons E17_ok (.cons E19_ok (.cons E22_ok .nil)))
/-- cmp.isNaN[int] -/
noncomputable def fd161 : FD := ⟨161, bodyF Try.f161, Try.f161.results.toList, Try.f161.ntmps, [.val], [.v (.int .i64)], [.v (.bool)], 1, [], 5000, none⟩
noncomputable def h161 : List (En D) := []
noncomputable def G161 : YR D [.v (.int .i64)] → Option (YR D [.v (.bool)]) := sealF (Gof D fd161 (tabH D h161))
noncomputable def E161 : En D := en_ fd161 G161
noncomputable def F161 (x0 : Int) : Option (Bool) := G161 (x0)
theorem E161_ok : FnOk D PP E161 := ok_ fd161 (l := h161) Try.func161 (.nil)
/-- cmp.Less[int] -/
noncomputable def fd148 : FD := ⟨148, bodyF Try.f148, Try.f148.results.toList, Try.f148.ntmps, [.val, .val], [.v (.int .i64), .v (.int .i64)], [.v (.bool)], 1, [], 5000, none⟩
noncomputable def h148 : List (En D) := [E161]
noncomputable def G148 : YR D [.v (.int .i64), .v (.int .i64)] → Option (YR D [.v (.bool)]) := sealF (Gof D fd148 (tabH D h148))
noncomputable def E148 : En D := en_ fd148 G148
noncomputable def F148 (x0 : Int) (x1 : Int) : Option (Bool) := G148 (x0, x1)
theorem E148_ok : FnOk D PP E148 := ok_ fd148 (l := h148) Try.func148 (.cons E161_ok .nil)
/-- slices.IsSorted[[]int,int] -/
def c108_0 : Cut := ⟨52, [.v 0 (.sl (.int .i64)), .v 3 (.int .i64)]⟩
noncomputable def fd108 : FD := ⟨108, bodyF Try.f108, Try.f108.results.toList, Try.f108.ntmps, [.val], [.v (.sl (.int .i64))], [.v (.bool)], 1, [c108_0], 5000, none⟩
noncomputable def h108 : List (En D) := [E148]
noncomputable def G108 : YR D [.v (.sl (.int .i64))] → Option (YR D [.v (.bool)]) := sealF (Gof D fd108 (tabH D h108))
noncomputable def E108 : En D := en_ fd108 G108
noncomputable def F108 (x0 : List Int) : Option (Bool) := G108 (x0)
noncomputable def L108 : LL D (YR D fd108.ts) := sealF (LiF D fd108 (tabH D h108))
noncomputable def L108_0 (v0 : List Int) (v3 : Int) : Option (Bool) := L108 c108_0 (v0, v3, ())
theorem E108_ok : FnOk D PP E108 := ok_ fd108 (l := h108) Try.func108 (.cons E148_ok .nil)
/-- octet.Cut -/
def c138_0 : Cut := ⟨7, [.v 0 (.str), .v 1 (.int .i64), .v 2 (.int .i64)]⟩
noncomputable def fd138 : FD := ⟨138, bodyF Try.f138, Try.f138.results.toList, Try.f138.ntmps, [.val, .val, .val], [.v (.str), .v (.int .i64), .v (.int .i64)], [.v (.str), .v (.int .i64)], 2, [c138_0], 5000, none⟩
noncomputable def h138 : List (En D) := []
noncomputable def G138 : YR D [.v (.str), .v (.int .i64), .v (.int .i64)] → Option (YR D [.v (.str), .v (.int .i64)]) := sealF (Gof D fd138 (tabH D h138))
noncomputable def E138 : En D := en_ fd138 G138
noncomputable def F138 (x0 : ByteArray) (x1 : Int) (x2 : Int) : Option (ByteArray × Int) := G138 (x0, x1, x2)
noncomputable def L138 : LL D (YR D fd138.ts) := sealF (LiF D fd138 (tabH D h138))
noncomputable def L138_0 (v0 : ByteArray) (v1 : Int) (v2 : Int) : Option (ByteArray × Int) := L138 c138_0 (v0, v1, v2, ())
theorem E138_ok : FnOk D PP E138 := ok_ fd138 (l := h138) Try.func138 (.nil)
/-- octet.number -/
def c139_0 : Cut := ⟨116, [.v 0 (.str), .v 3 (.int .u32), .v 6 (.int .i64), .v 7 (.int .i64)]⟩
noncomputable def fd139 : FD := ⟨139, bodyF Try.f139, Try.f139.results.toList, Try.f139.ntmps, [.val], [.v (.str)], [.v (.int .u32)], 1, [c139_0], 5000, none⟩
noncomputable def h139 : List (En D) := []
noncomputable def G139 : YR D [.v (.str)] → Option (YR D [.v (.int .u32)]) := sealF (Gof D fd139 (tabH D h139))
noncomputable def E139 : En D := en_ fd139 G139
noncomputable def F139 (x0 : ByteArray) : Option (Int) := G139 (x0)
noncomputable def L139 : LL D (YR D fd139.ts) := sealF (LiF D fd139 (tabH D h139))
noncomputable def L139_0 (v0 : ByteArray) (v3 : Int) (v6 : Int) (v7 : Int) : Option (Int) := L139 c139_0 (v0, v3, v6, v7, ())
theorem E139_ok : FnOk D PP E139 := ok_ fd139 (l := h139) Try.func139 (.nil)
/-- octet.U16 -/
noncomputable def fd88 : FD := ⟨88, bodyF Try.f88, Try.f88.results.toList, Try.f88.ntmps, [.val, .val], [.v (.str), .v (.int .i64)], [.v (.int .u16), .v (.int .i64)], 2, [], 5000, none⟩
noncomputable def h88 : List (En D) := [E138, E139]
noncomputable def G88 : YR D [.v (.str), .v (.int .i64)] → Option (YR D [.v (.int .u16), .v (.int .i64)]) := sealF (Gof D fd88 (tabH D h88))
noncomputable def E88 : En D := en_ fd88 G88
noncomputable def F88 (x0 : ByteArray) (x1 : Int) : Option (Int × Int) := G88 (x0, x1)
theorem E88_ok : FnOk D PP E88 := ok_ fd88 (l := h88) Try.func88 (.cons E138_ok (.cons E139_ok .nil))
/-- comp.Is -/
noncomputable def fd39 : FD := ⟨39, bodyF Try.f39, Try.f39.results.toList, Try.f39.ntmps, [.val], [.v (.str)], [.v (.bool)], 1, [], 5000, none⟩
noncomputable def h39 : List (En D) := [E88]
noncomputable def G39 : YR D [.v (.str)] → Option (YR D [.v (.bool)]) := sealF (Gof D fd39 (tabH D h39))
noncomputable def E39 : En D := en_ fd39 G39
noncomputable def F39 (x0 : ByteArray) : Option (Bool) := G39 (x0)
theorem E39_ok : FnOk D PP E39 := ok_ fd39 (l := h39) Try.func39 (.cons E88_ok .nil)
/-- octet.New -/
noncomputable def fd70 : FD := ⟨70, bodyF Try.f70, Try.f70.results.toList, Try.f70.ntmps, [.val], [.v (.str)], [.v (.ptr (.st 4))], 1, [], 5000, some ⟨[.val], [(0, some (.st 4))]⟩⟩
noncomputable def h70 : List (En D) := []
noncomputable def G70 : YR D [.v (.str)] → Option (YR D [.v (.ptr (.st 4))]) := sealF (Gof D fd70 (tabH D h70))
noncomputable def E70 : En D := en_ fd70 G70
noncomputable def F70 (x0 : ByteArray) : Option (Option S192) := G70 (x0)
theorem E70_ok : FnOk D PP E70 := ok_ fd70 (l := h70) Try.func70 (.nil)
/-- (*octet.Reader).take -/
def c120_0 : Cut := ⟨7, [.box 0 0 (.st 4) 0 [], .v 1 (.int .i64)]⟩
noncomputable def fd120 : FD := ⟨120, bodyF Try.f120, Try.f120.results.toList, Try.f120.ntmps, [.ref, .val], [.v (.st 4), .v (.int .i64)], [.v (.str), .v (.st 4)], 1, [c120_0], 5000, none⟩
noncomputable def h120 : List (En D) := [E138]
noncomputable def G120 : YR D [.v (.st 4), .v (.int .i64)] → Option (YR D [.v (.str), .v (.st 4)]) := sealF (Gof D fd120 (tabH D h120))
noncomputable def E120 : En D := en_ fd120 G120
noncomputable def F120 (x0 : S192) (x1 : Int) : Option (ByteArray × S192) := G120 (x0, x1)
noncomputable def L120 : LL D (YR D fd120.ts) := sealF (LiF D fd120 (tabH D h120))
noncomputable def L120_0 (v0 : S192) (v1 : Int) : Option (ByteArray × S192) := L120 c120_0 (v0, v1, ())
theorem E120_ok : FnOk D PP E120 := ok_ fd120 (l := h120) Try.func120 (.cons E138_ok .nil)
/-- (*octet.Reader).U16 -/
noncomputable def fd119 : FD := ⟨119, bodyF Try.f119, Try.f119.results.toList, Try.f119.ntmps, [.ref], [.v (.st 4)], [.v (.int .u16), .v (.st 4)], 1, [], 5000, none⟩
noncomputable def h119 : List (En D) := [E120, E139]
noncomputable def G119 : YR D [.v (.st 4)] → Option (YR D [.v (.int .u16), .v (.st 4)]) := sealF (Gof D fd119 (tabH D h119))
noncomputable def E119 : En D := en_ fd119 G119
noncomputable def F119 (x0 : S192) : Option (Int × S192) := G119 (x0)
theorem E119_ok : FnOk D PP E119 := ok_ fd119 (l := h119) Try.func119 (.cons E120_ok (.cons E139_ok .nil))
/-- (*octet.Reader).Err -/
noncomputable def fd73 : FD := ⟨73, bodyF Try.f73, Try.f73.results.toList, Try.f73.ntmps, [.ref], [.v (.st 4)], [.v (.int .i64), .v (.st 4)], 1, [], 5000, none⟩
noncomputable def h73 : List (En D) := []
noncomputable def G73 : YR D [.v (.st 4)] → Option (YR D [.v (.int .i64), .v (.st 4)]) := sealF (Gof D fd73 (tabH D h73))
noncomputable def E73 : En D := en_ fd73 G73
noncomputable def F73 (x0 : S192) : Option (Int × S192) := G73 (x0)
theorem E73_ok : FnOk D PP E73 := ok_ fd73 (l := h73) Try.func73 (.nil)
/-- comp.right -/
noncomputable def fd135 : FD := ⟨135, bodyF Try.f135, Try.f135.results.toList, Try.f135.ntmps, [.val], [.v (.int .u16)], [.v (.bool)], 1, [], 5000, none⟩
noncomputable def h135 : List (En D) := []
noncomputable def G135 : YR D [.v (.int .u16)] → Option (YR D [.v (.bool)]) := sealF (Gof D fd135 (tabH D h135))
noncomputable def E135 : En D := en_ fd135 G135
noncomputable def F135 (x0 : Int) : Option (Bool) := G135 (x0)
theorem E135_ok : FnOk D PP E135 := ok_ fd135 (l := h135) Try.func135 (.nil)
/-- (*octet.Reader).I16 -/
noncomputable def fd71 : FD := ⟨71, bodyF Try.f71, Try.f71.results.toList, Try.f71.ntmps, [.ref], [.v (.st 4)], [.v (.int .i16), .v (.st 4)], 1, [], 5000, none⟩
noncomputable def h71 : List (En D) := [E119]
noncomputable def G71 : YR D [.v (.st 4)] → Option (YR D [.v (.int .i16), .v (.st 4)]) := sealF (Gof D fd71 (tabH D h71))
noncomputable def E71 : En D := en_ fd71 G71
noncomputable def F71 (x0 : S192) : Option (Int × S192) := G71 (x0)
theorem E71_ok : FnOk D PP E71 := ok_ fd71 (l := h71) Try.func71 (.cons E119_ok .nil)
/-- (*octet.Reader).U8 -/
noncomputable def fd158 : FD := ⟨158, bodyF Try.f158, Try.f158.results.toList, Try.f158.ntmps, [.ref], [.v (.st 4)], [.v (.int .u8), .v (.st 4)], 1, [], 5000, none⟩
noncomputable def h158 : List (En D) := [E120, E139]
noncomputable def G158 : YR D [.v (.st 4)] → Option (YR D [.v (.int .u8), .v (.st 4)]) := sealF (Gof D fd158 (tabH D h158))
noncomputable def E158 : En D := en_ fd158 G158
noncomputable def F158 (x0 : S192) : Option (Int × S192) := G158 (x0)
theorem E158_ok : FnOk D PP E158 := ok_ fd158 (l := h158) Try.func158 (.cons E120_ok (.cons E139_ok .nil))
/-- comp.place -/
noncomputable def fd136 : FD := ⟨136, bodyF Try.f136, Try.f136.results.toList, Try.f136.ntmps, [.ref, .val], [.v (.st 4), .v (.int .u16)], [.v (.int .i64), .v (.int .i64), .v (.st 4)], 2, [], 5000, none⟩
noncomputable def h136 : List (En D) := [E71, E158]
noncomputable def G136 : YR D [.v (.st 4), .v (.int .u16)] → Option (YR D [.v (.int .i64), .v (.int .i64), .v (.st 4)]) := sealF (Gof D fd136 (tabH D h136))
noncomputable def E136 : En D := en_ fd136 G136
noncomputable def F136 (x0 : S192) (x1 : Int) : Option (Int × Int × S192) := G136 (x0, x1)
theorem E136_ok : FnOk D PP E136 := ok_ fd136 (l := h136) Try.func136 (.cons E71_ok (.cons E158_ok .nil))
/-- comp.turn -/
noncomputable def fd137 : FD := ⟨137, bodyF Try.f137, Try.f137.results.toList, Try.f137.ntmps, [.ref, .val, .ref], [.v (.st 4), .v (.int .u16), .v (.st 1)], [.v (.st 4), .v (.st 1)], 0, [], 5000, none⟩
noncomputable def h137 : List (En D) := [E71]
noncomputable def G137 : YR D [.v (.st 4), .v (.int .u16), .v (.st 1)] → Option (YR D [.v (.st 4), .v (.st 1)]) := sealF (Gof D fd137 (tabH D h137))
noncomputable def E137 : En D := en_ fd137 G137
noncomputable def F137 (x0 : S192) (x1 : Int) (x2 : S47) : Option (S192 × S47) := G137 (x0, x1, x2)
theorem E137_ok : FnOk D PP E137 := ok_ fd137 (l := h137) Try.func137 (.cons E71_ok .nil)
/-- comp.part -/
def c87_0 : Cut := ⟨15, [.box 0 0 (.st 4) 0 [], .box 4 4 (.st 1) 0 [], .v 7 (.int .u16), .v 8 (.int .i64)]⟩
noncomputable def fd87 : FD := ⟨87, bodyF Try.f87, Try.f87.results.toList, Try.f87.ntmps, [.ref, .val], [.v (.st 4), .v (.int .i64)], [.v (.st 1), .v (.bool), .v (.int .i64), .v (.st 4)], 3, [c87_0], 5000, none⟩
noncomputable def h87 : List (En D) := [E73, E119, E135, E136, E137]
noncomputable def G87 : YR D [.v (.st 4), .v (.int .i64)] → Option (YR D [.v (.st 1), .v (.bool), .v (.int .i64), .v (.st 4)]) := sealF (Gof D fd87 (tabH D h87))
noncomputable def E87 : En D := en_ fd87 G87
noncomputable def F87 (x0 : S192) (x1 : Int) : Option (S47 × Bool × Int × S192) := G87 (x0, x1)
noncomputable def L87 : LL D (YR D fd87.ts) := sealF (LiF D fd87 (tabH D h87))
noncomputable def L87_0 (v0 : S192) (v4 : S47) (v7 : Int) (v8 : Int) : Option (S47 × Bool × Int × S192) := L87 c87_0 (v0, v4, v7, v8, ())
theorem E87_ok : FnOk D PP E87 := ok_ fd87 (l := h87) Try.func87 (.cons E73_ok (.cons E119_ok (.cons E135_ok (.cons E136_ok (.cons E137_ok .nil)))))
/-- comp.Parse -/
def c37_0 : Cut := ⟨51, [.v 0 (.str), .v 1 (.int .i64)]⟩
def c37_1 : Cut := ⟨124, [.v 1 (.int .i64), .ob 6 (.st 4), .own 7 (.st 1)]⟩
noncomputable def fd37 : FD := ⟨37, bodyF Try.f37, Try.f37.results.toList, Try.f37.ntmps, [.val, .val], [.v (.str), .v (.int .i64)], [.v (.sl (.st 1)), .v (.int .i64)], 2, [c37_0, c37_1], 5000, none⟩
noncomputable def h37 : List (En D) := [E39, E70, E87]
noncomputable def G37 : YR D [.v (.str), .v (.int .i64)] → Option (YR D [.v (.sl (.st 1)), .v (.int .i64)]) := sealF (Gof D fd37 (tabH D h37))
noncomputable def E37 : En D := en_ fd37 G37
noncomputable def F37 (x0 : ByteArray) (x1 : Int) : Option (List S47 × Int) := G37 (x0, x1)
noncomputable def L37 : LL D (YR D fd37.ts) := sealF (LiF D fd37 (tabH D h37))
noncomputable def L37_0 (v0 : ByteArray) (v1 : Int) : Option (List S47 × Int) := L37 c37_0 (v0, v1, ())
noncomputable def L37_1 (v1 : Int) (v6 : S192) (v7 : List S47) : Option (List S47 × Int) := L37 c37_1 (v1, v6, v7, ())
theorem E37_ok : FnOk D PP E37 := ok_ fd37 (l := h37) Try.func37 (.cons E39_ok (.cons E70_ok (.cons E87_ok .nil)))
/-- (*octet.Reader).Skip -/
noncomputable def fd72 : FD := ⟨72, bodyF Try.f72, Try.f72.results.toList, Try.f72.ntmps, [.ref, .val], [.v (.st 4), .v (.int .i64)], [.v (.st 4)], 0, [], 5000, none⟩
noncomputable def h72 : List (En D) := [E120]
noncomputable def G72 : YR D [.v (.st 4), .v (.int .i64)] → Option (YR D [.v (.st 4)]) := sealF (Gof D fd72 (tabH D h72))
noncomputable def E72 : En D := en_ fd72 G72
noncomputable def F72 (x0 : S192) (x1 : Int) : Option (S192) := G72 (x0, x1)
theorem E72_ok : FnOk D PP E72 := ok_ fd72 (l := h72) Try.func72 (.cons E120_ok .nil)
/-- (*octet.Reader).Left -/
noncomputable def fd151 : FD := ⟨151, bodyF Try.f151, Try.f151.results.toList, Try.f151.ntmps, [.ref], [.v (.st 4)], [.v (.int .i64), .v (.st 4)], 1, [], 5000, none⟩
noncomputable def h151 : List (En D) := []
noncomputable def G151 : YR D [.v (.st 4)] → Option (YR D [.v (.int .i64), .v (.st 4)]) := sealF (Gof D fd151 (tabH D h151))
noncomputable def E151 : En D := en_ fd151 G151
noncomputable def F151 (x0 : S192) : Option (Int × S192) := G151 (x0)
theorem E151_ok : FnOk D PP E151 := ok_ fd151 (l := h151) Try.func151 (.nil)
/-- (*glyf.maker).places -/
def c121_0 : Cut := ⟨244, [.box 0 0 (.st 5) 0 [(0, some (.st 4)), (1, none), (2, none)], .v 5 (.int .i64), .v 15 (.int .i64), .v 16 (.int .i64)]⟩
noncomputable def fd121 : FD := ⟨121, bodyF Try.f121, Try.f121.results.toList, Try.f121.ntmps, [.ref, .val], [.v (.st 5), .v (.int .i64)], [.v (.int .i64), .v (.st 5)], 1, [c121_0], 5000, some ⟨[.ref 0 [(0, some (.st 4)), (1, none), (2, none)] [(0, some (.st 4)), (1, none), (2, none)], .val], []⟩⟩
noncomputable def h121 : List (En D) := [E72, E73, E119, E151]
noncomputable def G121 : YR D [.v (.st 5), .v (.int .i64)] → Option (YR D [.v (.int .i64), .v (.st 5)]) := sealF (Gof D fd121 (tabH D h121))
noncomputable def E121 : En D := en_ fd121 G121
noncomputable def F121 (x0 : S132) (x1 : Int) : Option (Int × S132) := G121 (x0, x1)
noncomputable def L121 : LL D (YR D fd121.ts) := sealF (LiF D fd121 (tabH D h121))
noncomputable def L121_0 (v0 : S132) (v5 : Int) (v15 : Int) (v16 : Int) : Option (Int × S132) := L121 c121_0 (v0, v5, v15, v16, ())
theorem E121_ok : FnOk D PP E121 := ok_ fd121 (l := h121) Try.func121 (.cons E72_ok (.cons E73_ok (.cons E119_ok (.cons E151_ok .nil))))
/-- glyf.form -/
noncomputable def fd163 : FD := ⟨163, bodyF Try.f163, Try.f163.results.toList, Try.f163.ntmps, [.val], [.v (.bool)], [.v (.int .i64)], 1, [], 5000, none⟩
noncomputable def h163 : List (En D) := []
noncomputable def G163 : YR D [.v (.bool)] → Option (YR D [.v (.int .i64)]) := sealF (Gof D fd163 (tabH D h163))
noncomputable def E163 : En D := en_ fd163 G163
noncomputable def F163 (x0 : Bool) : Option (Int) := G163 (x0)
theorem E163_ok : FnOk D PP E163 := ok_ fd163 (l := h163) Try.func163 (.nil)
/-- (*glyf.maker).flag -/
def c152_0 : Cut := ⟨1012, [.box 0 0 (.st 5) 0 [(0, some (.st 4)), (1, none), (2, none)], .v 1 (.int .i64), .v 5 (.int .u8), .v 40 (.int .u8), .v 41 (.int .u8)]⟩
noncomputable def fd152 : FD := ⟨152, bodyF Try.f152, Try.f152.results.toList, Try.f152.ntmps, [.ref, .val], [.v (.st 5), .v (.int .i64)], [.v (.int .i64), .v (.st 5)], 1, [c152_0], 5000, some ⟨[.ref 0 [(0, some (.st 4)), (1, none), (2, none)] [(0, some (.st 4)), (1, none), (2, none)], .val], []⟩⟩
noncomputable def h152 : List (En D) := [E73, E158, E163]
noncomputable def G152 : YR D [.v (.st 5), .v (.int .i64)] → Option (YR D [.v (.int .i64), .v (.st 5)]) := sealF (Gof D fd152 (tabH D h152))
noncomputable def E152 : En D := en_ fd152 G152
noncomputable def F152 (x0 : S132) (x1 : Int) : Option (Int × S132) := G152 (x0, x1)
noncomputable def L152 : LL D (YR D fd152.ts) := sealF (LiF D fd152 (tabH D h152))
noncomputable def L152_0 (v0 : S132) (v1 : Int) (v5 : Int) (v40 : Int) (v41 : Int) : Option (Int × S132) := L152 c152_0 (v0, v1, v5, v40, v41, ())
theorem E152_ok : FnOk D PP E152 := ok_ fd152 (l := h152) Try.func152 (.cons E73_ok (.cons E158_ok (.cons E163_ok .nil)))
/-- (*glyf.maker).allFlags -/
def c122_0 : Cut := ⟨24, [.box 0 0 (.st 5) 0 [(0, some (.st 4)), (1, none), (2, none)], .v 1 (.int .i64)]⟩
noncomputable def fd122 : FD := ⟨122, bodyF Try.f122, Try.f122.results.toList, Try.f122.ntmps, [.ref, .val], [.v (.st 5), .v (.int .i64)], [.v (.int .i64), .v (.st 5)], 1, [c122_0], 5000, some ⟨[.ref 0 [(0, some (.st 4)), (1, none), (2, none)] [(0, some (.st 4)), (1, none), (2, none)], .val], []⟩⟩
noncomputable def h122 : List (En D) := [E152]
noncomputable def G122 : YR D [.v (.st 5), .v (.int .i64)] → Option (YR D [.v (.int .i64), .v (.st 5)]) := sealF (Gof D fd122 (tabH D h122))
noncomputable def E122 : En D := en_ fd122 G122
noncomputable def F122 (x0 : S132) (x1 : Int) : Option (Int × S132) := G122 (x0, x1)
noncomputable def L122 : LL D (YR D fd122.ts) := sealF (LiF D fd122 (tabH D h122))
noncomputable def L122_0 (v0 : S132) (v1 : Int) : Option (Int × S132) := L122 c122_0 (v0, v1, ())
theorem E122_ok : FnOk D PP E122 := ok_ fd122 (l := h122) Try.func122 (.cons E152_ok .nil)
/-- (*glyf.maker).step -/
def c153_0 : Cut := ⟨50, [.box 0 0 (.st 5) 0 [(0, some (.st 4))]]⟩
def c153_1 : Cut := ⟨51, [.box 0 0 (.st 5) 0 [(0, some (.st 4))], .v 1 (.bool), .v 2 (.bool)]⟩
noncomputable def fd153 : FD := ⟨153, bodyF Try.f153, Try.f153.results.toList, Try.f153.ntmps, [.ref, .val, .val], [.v (.st 5), .v (.bool), .v (.bool)], [.v (.int .i64), .v (.st 5)], 1, [c153_0, c153_1], 5000, some ⟨[.ref 0 [(0, some (.st 4))] [(0, some (.st 4))], .val, .val], []⟩⟩
noncomputable def h153 : List (En D) := [E71, E158]
noncomputable def G153 : YR D [.v (.st 5), .v (.bool), .v (.bool)] → Option (YR D [.v (.int .i64), .v (.st 5)]) := sealF (Gof D fd153 (tabH D h153))
noncomputable def E153 : En D := en_ fd153 G153
noncomputable def F153 (x0 : S132) (x1 : Bool) (x2 : Bool) : Option (Int × S132) := G153 (x0, x1, x2)
noncomputable def L153 : LL D (YR D fd153.ts) := sealF (LiF D fd153 (tabH D h153))
noncomputable def L153_0 (v0 : S132) : Option (Int × S132) := L153 c153_0 (v0, ())
noncomputable def L153_1 (v0 : S132) (v1 : Bool) (v2 : Bool) : Option (Int × S132) := L153 c153_1 (v0, v1, v2, ())
theorem E153_ok : FnOk D PP E153 := ok_ fd153 (l := h153) Try.func153 (.cons E71_ok (.cons E158_ok .nil))
/-- (*glyf.maker).along -/
def c123_0 : Cut := ⟨244, [.box 0 0 (.st 5) 0 [(0, some (.st 4))], .v 1 (.int .u8), .v 2 (.int .u8), .own 8 (.int .i64), .v 9 (.int .i64), .v 21 (.sl (.int .u8)), .v 22 (.int .i64), .v 23 (.int .i64)]⟩
noncomputable def fd123 : FD := ⟨123, bodyF Try.f123, Try.f123.results.toList, Try.f123.ntmps, [.ref, .val, .val], [.v (.st 5), .v (.int .u8), .v (.int .u8)], [.v (.sl (.int .i64)), .v (.int .i64), .v (.st 5)], 2, [c123_0], 5000, some ⟨[.ref 0 [(0, some (.st 4))] [(0, some (.st 4))], .val, .val], []⟩⟩
noncomputable def h123 : List (En D) := [E73, E153]
noncomputable def G123 : YR D [.v (.st 5), .v (.int .u8), .v (.int .u8)] → Option (YR D [.v (.sl (.int .i64)), .v (.int .i64), .v (.st 5)]) := sealF (Gof D fd123 (tabH D h123))
noncomputable def E123 : En D := en_ fd123 G123
noncomputable def F123 (x0 : S132) (x1 : Int) (x2 : Int) : Option (List Int × Int × S132) := G123 (x0, x1, x2)
noncomputable def L123 : LL D (YR D fd123.ts) := sealF (LiF D fd123 (tabH D h123))
noncomputable def L123_0 (v0 : S132) (v1 : Int) (v2 : Int) (v8 : List Int) (v9 : Int) (v21 : List Int) (v22 : Int) (v23 : Int) : Option (List Int × Int × S132) := L123 c123_0 (v0, v1, v2, v8, v9, v21, v22, v23, ())
theorem E123_ok : FnOk D PP E123 := ok_ fd123 (l := h123) Try.func123 (.cons E73_ok (.cons E153_ok .nil))
/-- (*glyf.maker).contours -/
def c124_0 : Cut := ⟨244, [.box 0 0 (.st 5) 0 [(0, some (.st 4))], .v 1 (.sl (.int .i64)), .v 2 (.sl (.int .i64)), .own 7 (.sl (.st 0)), .v 8 (.int .i64), .v 16 (.sl (.int .i64)), .v 17 (.int .i64), .v 18 (.int .i64)]⟩
def c124_1 : Cut := ⟨250676, [.box 0 0 (.st 5) 0 [(0, some (.st 4))], .v 1 (.sl (.int .i64)), .v 2 (.sl (.int .i64)), .own 7 (.sl (.st 0)), .v 10 (.int .i64), .own 11 (.st 0), .v 12 (.int .i64), .v 16 (.sl (.int .i64)), .v 17 (.int .i64), .v 18 (.int .i64)]⟩
noncomputable def fd124 : FD := ⟨124, bodyF Try.f124, Try.f124.results.toList, Try.f124.ntmps, [.ref, .val, .val], [.v (.st 5), .v (.sl (.int .i64)), .v (.sl (.int .i64))], [.v (.sl (.sl (.st 0))), .v (.st 5)], 1, [c124_0, c124_1], 5000, some ⟨[.ref 0 [(0, some (.st 4))] [(0, some (.st 4))], .val, .val], []⟩⟩
noncomputable def h124 : List (En D) := []
noncomputable def G124 : YR D [.v (.st 5), .v (.sl (.int .i64)), .v (.sl (.int .i64))] → Option (YR D [.v (.sl (.sl (.st 0))), .v (.st 5)]) := sealF (Gof D fd124 (tabH D h124))
noncomputable def E124 : En D := en_ fd124 G124
noncomputable def F124 (x0 : S132) (x1 : List Int) (x2 : List Int) : Option (List (List S39) × S132) := G124 (x0, x1, x2)
noncomputable def L124 : LL D (YR D fd124.ts) := sealF (LiF D fd124 (tabH D h124))
noncomputable def L124_0 (v0 : S132) (v1 : List Int) (v2 : List Int) (v7 : List (List S39)) (v8 : Int) (v16 : List Int) (v17 : Int) (v18 : Int) : Option (List (List S39) × S132) := L124 c124_0 (v0, v1, v2, v7, v8, v16, v17, v18, ())
noncomputable def L124_1 (v0 : S132) (v1 : List Int) (v2 : List Int) (v7 : List (List S39)) (v10 : Int) (v11 : List S39) (v12 : Int) (v16 : List Int) (v17 : Int) (v18 : Int) : Option (List (List S39) × S132) := L124 c124_1 (v0, v1, v2, v7, v10, v11, v12, v16, v17, v18, ())
theorem E124_ok : FnOk D PP E124 := ok_ fd124 (l := h124) Try.func124 (.nil)
/-- (*glyf.maker).points -/
noncomputable def fd74 : FD := ⟨74, bodyF Try.f74, Try.f74.results.toList, Try.f74.ntmps, [.ref, .val], [.v (.st 5), .v (.int .i64)], [.v (.sl (.sl (.st 0))), .v (.int .i64), .v (.st 5)], 2, [], 5000, some ⟨[.ref 0 [(0, some (.st 4)), (1, none), (2, none)] [(0, some (.st 4))], .val], []⟩⟩
noncomputable def h74 : List (En D) := [E121, E122, E123, E124]
noncomputable def G74 : YR D [.v (.st 5), .v (.int .i64)] → Option (YR D [.v (.sl (.sl (.st 0))), .v (.int .i64), .v (.st 5)]) := sealF (Gof D fd74 (tabH D h74))
noncomputable def E74 : En D := en_ fd74 G74
noncomputable def F74 (x0 : S132) (x1 : Int) : Option (List (List S39) × Int × S132) := G74 (x0, x1)
theorem E74_ok : FnOk D PP E74 := ok_ fd74 (l := h74) Try.func74 (.cons E121_ok (.cons E122_ok (.cons E123_ok (.cons E124_ok .nil))))
/-- glyf.Parse -/
noncomputable def fd30 : FD := ⟨30, bodyF Try.f30, Try.f30.results.toList, Try.f30.ntmps, [.val], [.v (.str)], [.v (.sl (.sl (.st 0))), .v (.int .i64)], 2, [], 5000, none⟩
noncomputable def h30 : List (En D) := [E70, E71, E72, E73, E74]
noncomputable def G30 : YR D [.v (.str)] → Option (YR D [.v (.sl (.sl (.st 0))), .v (.int .i64)]) := sealF (Gof D fd30 (tabH D h30))
noncomputable def E30 : En D := en_ fd30 G30
noncomputable def F30 (x0 : ByteArray) : Option (List (List S39) × Int) := G30 (x0)
theorem E30_ok : FnOk D PP E30 := ok_ fd30 (l := h30) Try.func30 (.cons E70_ok (.cons E71_ok (.cons E72_ok (.cons E73_ok (.cons E74_ok .nil)))))
/-- flat.shape -/
noncomputable def fd109 : FD := ⟨109, bodyF Try.f109, Try.f109.results.toList, Try.f109.ntmps, [.val, .val], [.v (.str), .v (.int .i64)], [.v (.st 2), .v (.int .i64)], 2, [], 5000, none⟩
noncomputable def h109 : List (En D) := [E30, E37, E39]
noncomputable def G109 : YR D [.v (.str), .v (.int .i64)] → Option (YR D [.v (.st 2), .v (.int .i64)]) := sealF (Gof D fd109 (tabH D h109))
noncomputable def E109 : En D := en_ fd109 G109
noncomputable def F109 (x0 : ByteArray) (x1 : Int) : Option (S43 × Int) := G109 (x0, x1)
theorem E109_ok : FnOk D PP E109 := ok_ fd109 (l := h109) Try.func109 (.cons E30_ok (.cons E37_ok (.cons E39_ok .nil)))
/-- flat.Parse -/
def c52_0 : Cut := ⟨7, [.v 0 (.str), .v 1 (.sl (.int .i64))]⟩
def c52_1 : Cut := ⟨244, [.v 0 (.str), .v 1 (.sl (.int .i64)), .own 6 (.st 2), .v 42 (.sl (.int .i64)), .v 43 (.int .i64), .v 44 (.int .i64)]⟩
noncomputable def fd52 : FD := ⟨52, bodyF Try.f52, Try.f52.results.toList, Try.f52.ntmps, [.val, .val], [.v (.str), .v (.sl (.int .i64))], [.v (.sl (.st 2)), .v (.int .i64)], 2, [c52_0, c52_1], 5000, none⟩
noncomputable def h52 : List (En D) := [E108, E109]
noncomputable def G52 : YR D [.v (.str), .v (.sl (.int .i64))] → Option (YR D [.v (.sl (.st 2)), .v (.int .i64)]) := sealF (Gof D fd52 (tabH D h52))
noncomputable def E52 : En D := en_ fd52 G52
noncomputable def F52 (x0 : ByteArray) (x1 : List Int) : Option (List S43 × Int) := G52 (x0, x1)
noncomputable def L52 : LL D (YR D fd52.ts) := sealF (LiF D fd52 (tabH D h52))
noncomputable def L52_0 (v0 : ByteArray) (v1 : List Int) : Option (List S43 × Int) := L52 c52_0 (v0, v1, ())
noncomputable def L52_1 (v0 : ByteArray) (v1 : List Int) (v6 : List S43) (v42 : List Int) (v43 : Int) (v44 : Int) : Option (List S43 × Int) := L52 c52_1 (v0, v1, v6, v42, v43, v44, ())
theorem E52_ok : FnOk D PP E52 := ok_ fd52 (l := h52) Try.func52 (.cons E108_ok (.cons E109_ok .nil))
/-- pochoirref14.Is -/
noncomputable def fd41 : FD := ⟨41, bodyF Try.f41, Try.f41.results.toList, Try.f41.ntmps, [.val], [.v (.str)], [.v (.bool)], 1, [], 5000, none⟩
noncomputable def h41 : List (En D) := []
noncomputable def G41 : YR D [.v (.str)] → Option (YR D [.v (.bool)]) := sealF (Gof D fd41 (tabH D h41))
noncomputable def E41 : En D := en_ fd41 G41
noncomputable def F41 (x0 : ByteArray) : Option (Bool) := G41 (x0)
theorem E41_ok : FnOk D PP E41 := ok_ fd41 (l := h41) Try.func41 (.nil)
/-- pochoirref07.Cut -/
def c125_0 : Cut := ⟨7, [.v 0 (.str), .v 1 (.int .i64), .v 2 (.int .i64)]⟩
noncomputable def fd125 : FD := ⟨125, bodyF Try.f125, Try.f125.results.toList, Try.f125.ntmps, [.val, .val, .val], [.v (.str), .v (.int .i64), .v (.int .i64)], [.v (.str), .v (.int .i64)], 2, [c125_0], 5000, none⟩
noncomputable def h125 : List (En D) := []
noncomputable def G125 : YR D [.v (.str), .v (.int .i64), .v (.int .i64)] → Option (YR D [.v (.str), .v (.int .i64)]) := sealF (Gof D fd125 (tabH D h125))
noncomputable def E125 : En D := en_ fd125 G125
noncomputable def F125 (x0 : ByteArray) (x1 : Int) (x2 : Int) : Option (ByteArray × Int) := G125 (x0, x1, x2)
noncomputable def L125 : LL D (YR D fd125.ts) := sealF (LiF D fd125 (tabH D h125))
noncomputable def L125_0 (v0 : ByteArray) (v1 : Int) (v2 : Int) : Option (ByteArray × Int) := L125 c125_0 (v0, v1, v2, ())
theorem E125_ok : FnOk D PP E125 := ok_ fd125 (l := h125) Try.func125 (.nil)
/-- (*pochoirref07.Reader).Take -/
def c76_0 : Cut := ⟨15, [.box 0 0 (.st 6) 0 [], .v 1 (.int .i64), .v 5 (.str)]⟩
noncomputable def fd76 : FD := ⟨76, bodyF Try.f76, Try.f76.results.toList, Try.f76.ntmps, [.ref, .val], [.v (.st 6), .v (.int .i64)], [.v (.str), .v (.st 6)], 1, [c76_0], 5000, none⟩
noncomputable def h76 : List (En D) := [E125]
noncomputable def G76 : YR D [.v (.st 6), .v (.int .i64)] → Option (YR D [.v (.str), .v (.st 6)]) := sealF (Gof D fd76 (tabH D h76))
noncomputable def E76 : En D := en_ fd76 G76
noncomputable def F76 (x0 : S139) (x1 : Int) : Option (ByteArray × S139) := G76 (x0, x1)
noncomputable def L76 : LL D (YR D fd76.ts) := sealF (LiF D fd76 (tabH D h76))
noncomputable def L76_0 (v0 : S139) (v1 : Int) (v5 : ByteArray) : Option (ByteArray × S139) := L76 c76_0 (v0, v1, v5, ())
theorem E76_ok : FnOk D PP E76 := ok_ fd76 (l := h76) Try.func76 (.cons E125_ok .nil)
/-- pochoirref07.number -/
def c126_0 : Cut := ⟨116, [.v 0 (.str), .v 3 (.int .u32), .v 4 (.int .i64)]⟩
noncomputable def fd126 : FD := ⟨126, bodyF Try.f126, Try.f126.results.toList, Try.f126.ntmps, [.val], [.v (.str)], [.v (.int .u32)], 1, [c126_0], 5000, none⟩
noncomputable def h126 : List (En D) := []
noncomputable def G126 : YR D [.v (.str)] → Option (YR D [.v (.int .u32)]) := sealF (Gof D fd126 (tabH D h126))
noncomputable def E126 : En D := en_ fd126 G126
noncomputable def F126 (x0 : ByteArray) : Option (Int) := G126 (x0)
noncomputable def L126 : LL D (YR D fd126.ts) := sealF (LiF D fd126 (tabH D h126))
noncomputable def L126_0 (v0 : ByteArray) (v3 : Int) (v4 : Int) : Option (Int) := L126 c126_0 (v0, v3, v4, ())
theorem E126_ok : FnOk D PP E126 := ok_ fd126 (l := h126) Try.func126 (.nil)
/-- (*pochoirref07.Reader).Num -/
noncomputable def fd77 : FD := ⟨77, bodyF Try.f77, Try.f77.results.toList, Try.f77.ntmps, [.ref, .val], [.v (.st 6), .v (.int .i64)], [.v (.int .u32), .v (.st 6)], 1, [], 5000, none⟩
noncomputable def h77 : List (En D) := [E76, E126]
noncomputable def G77 : YR D [.v (.st 6), .v (.int .i64)] → Option (YR D [.v (.int .u32), .v (.st 6)]) := sealF (Gof D fd77 (tabH D h77))
noncomputable def E77 : En D := en_ fd77 G77
noncomputable def F77 (x0 : S139) (x1 : Int) : Option (Int × S139) := G77 (x0, x1)
theorem E77_ok : FnOk D PP E77 := ok_ fd77 (l := h77) Try.func77 (.cons E76_ok (.cons E126_ok .nil))
/-- (*pochoirref07.Reader).I16 -/
noncomputable def fd75 : FD := ⟨75, bodyF Try.f75, Try.f75.results.toList, Try.f75.ntmps, [.ref], [.v (.st 6)], [.v (.int .i64), .v (.st 6)], 1, [], 5000, none⟩
noncomputable def h75 : List (En D) := [E77]
noncomputable def G75 : YR D [.v (.st 6)] → Option (YR D [.v (.int .i64), .v (.st 6)]) := sealF (Gof D fd75 (tabH D h75))
noncomputable def E75 : En D := en_ fd75 G75
noncomputable def F75 (x0 : S139) : Option (Int × S139) := G75 (x0)
theorem E75_ok : FnOk D PP E75 := ok_ fd75 (l := h75) Try.func75 (.cons E77_ok .nil)
/-- pochoirref14.byte1 -/
noncomputable def fd140 : FD := ⟨140, bodyF Try.f140, Try.f140.results.toList, Try.f140.ntmps, [.ref], [.v (.st 6)], [.v (.int .i64), .v (.st 6)], 1, [], 5000, none⟩
noncomputable def h140 : List (En D) := [E77]
noncomputable def G140 : YR D [.v (.st 6)] → Option (YR D [.v (.int .i64), .v (.st 6)]) := sealF (Gof D fd140 (tabH D h140))
noncomputable def E140 : En D := en_ fd140 G140
noncomputable def F140 (x0 : S139) : Option (Int × S139) := G140 (x0)
theorem E140_ok : FnOk D PP E140 := ok_ fd140 (l := h140) Try.func140 (.cons E77_ok .nil)
/-- pochoirref14.part -/
def c89_0 : Cut := ⟨127, [.box 0 0 (.st 6) 0 [], .box 4 4 (.st 1) 0 [], .v 7 (.int .u32), .v 8 (.int .i64)]⟩
def c89_1 : Cut := ⟨511, [.box 0 0 (.st 6) 0 [], .box 4 4 (.st 1) 0 [], .v 7 (.int .u32), .box 10 10 (.st 1) 0 []]⟩
def c89_2 : Cut := ⟨1023, [.box 0 0 (.st 6) 0 [], .box 4 4 (.st 1) 0 [], .v 7 (.int .u32), .box 10 10 (.st 1) 0 []]⟩
def c89_3 : Cut := ⟨2047, [.box 0 0 (.st 6) 0 [], .box 4 4 (.st 1) 0 [], .v 7 (.int .u32), .box 10 10 (.st 1) 0 []]⟩
def c89_4 : Cut := ⟨4095, [.box 0 0 (.st 6) 0 [], .box 4 4 (.st 1) 0 [], .v 7 (.int .u32), .box 10 10 (.st 1) 0 []]⟩
noncomputable def fd89 : FD := ⟨89, bodyF Try.f89, Try.f89.results.toList, Try.f89.ntmps, [.ref, .val], [.v (.st 6), .v (.int .i64)], [.v (.st 1), .v (.bool), .v (.int .i64), .v (.st 6)], 3, [c89_0, c89_1, c89_2, c89_3, c89_4], 5000, none⟩
noncomputable def h89 : List (En D) := [E75, E77, E140]
noncomputable def G89 : YR D [.v (.st 6), .v (.int .i64)] → Option (YR D [.v (.st 1), .v (.bool), .v (.int .i64), .v (.st 6)]) := sealF (Gof D fd89 (tabH D h89))
noncomputable def E89 : En D := en_ fd89 G89
noncomputable def F89 (x0 : S139) (x1 : Int) : Option (S47 × Bool × Int × S139) := G89 (x0, x1)
noncomputable def L89 : LL D (YR D fd89.ts) := sealF (LiF D fd89 (tabH D h89))
noncomputable def L89_0 (v0 : S139) (v4 : S47) (v7 : Int) (v8 : Int) : Option (S47 × Bool × Int × S139) := L89 c89_0 (v0, v4, v7, v8, ())
noncomputable def L89_1 (v0 : S139) (v4 : S47) (v7 : Int) (v10 : S47) : Option (S47 × Bool × Int × S139) := L89 c89_1 (v0, v4, v7, v10, ())
noncomputable def L89_2 (v0 : S139) (v4 : S47) (v7 : Int) (v10 : S47) : Option (S47 × Bool × Int × S139) := L89 c89_2 (v0, v4, v7, v10, ())
noncomputable def L89_3 (v0 : S139) (v4 : S47) (v7 : Int) (v10 : S47) : Option (S47 × Bool × Int × S139) := L89 c89_3 (v0, v4, v7, v10, ())
noncomputable def L89_4 (v0 : S139) (v4 : S47) (v7 : Int) (v10 : S47) : Option (S47 × Bool × Int × S139) := L89 c89_4 (v0, v4, v7, v10, ())
theorem E89_ok : FnOk D PP E89 := ok_ fd89 (l := h89) Try.func89 (.cons E75_ok (.cons E77_ok (.cons E140_ok .nil)))
/-- pochoirref14.Parse -/
def c40_0 : Cut := ⟨7, [.v 0 (.str), .v 1 (.int .i64)]⟩
def c40_1 : Cut := ⟨2036, [.v 1 (.int .i64), .box 6 26 (.st 6) 0 [], .own 7 (.st 1), .v 8 (.bool)]⟩
noncomputable def fd40 : FD := ⟨40, bodyF Try.f40, Try.f40.results.toList, Try.f40.ntmps, [.val, .val], [.v (.str), .v (.int .i64)], [.v (.sl (.st 1)), .v (.int .i64)], 2, [c40_0, c40_1], 5000, none⟩
noncomputable def h40 : List (En D) := [E41, E89]
noncomputable def G40 : YR D [.v (.str), .v (.int .i64)] → Option (YR D [.v (.sl (.st 1)), .v (.int .i64)]) := sealF (Gof D fd40 (tabH D h40))
noncomputable def E40 : En D := en_ fd40 G40
noncomputable def F40 (x0 : ByteArray) (x1 : Int) : Option (List S47 × Int) := G40 (x0, x1)
noncomputable def L40 : LL D (YR D fd40.ts) := sealF (LiF D fd40 (tabH D h40))
noncomputable def L40_0 (v0 : ByteArray) (v1 : Int) : Option (List S47 × Int) := L40 c40_0 (v0, v1, ())
noncomputable def L40_1 (v1 : Int) (v6 : S139) (v7 : List S47) (v8 : Bool) : Option (List S47 × Int) := L40 c40_1 (v1, v6, v7, v8, ())
theorem E40_ok : FnOk D PP E40 := ok_ fd40 (l := h40) Try.func40 (.cons E41_ok (.cons E89_ok .nil))
/-- pochoirref13.flags -/
def c78_0 : Cut := ⟨56, [.box 0 0 (.st 6) 0 [], .v 1 (.int .i64), .own 6 (.int .u32)]⟩
def c78_1 : Cut := ⟨929724, [.box 0 0 (.st 6) 0 [], .v 1 (.int .i64), .own 6 (.int .u32), .v 7 (.int .u32), .v 8 (.int .i64), .v 9 (.int .i64)]⟩
noncomputable def fd78 : FD := ⟨78, bodyF Try.f78, Try.f78.results.toList, Try.f78.ntmps, [.ref, .val], [.v (.st 6), .v (.int .i64)], [.v (.sl (.int .u32)), .v (.int .i64), .v (.st 6)], 2, [c78_0, c78_1], 5000, none⟩
noncomputable def h78 : List (En D) := [E77]
noncomputable def G78 : YR D [.v (.st 6), .v (.int .i64)] → Option (YR D [.v (.sl (.int .u32)), .v (.int .i64), .v (.st 6)]) := sealF (Gof D fd78 (tabH D h78))
noncomputable def E78 : En D := en_ fd78 G78
noncomputable def F78 (x0 : S139) (x1 : Int) : Option (List Int × Int × S139) := G78 (x0, x1)
noncomputable def L78 : LL D (YR D fd78.ts) := sealF (LiF D fd78 (tabH D h78))
noncomputable def L78_0 (v0 : S139) (v1 : Int) (v6 : List Int) : Option (List Int × Int × S139) := L78 c78_0 (v0, v1, v6, ())
noncomputable def L78_1 (v0 : S139) (v1 : Int) (v6 : List Int) (v7 : Int) (v8 : Int) (v9 : Int) : Option (List Int × Int × S139) := L78 c78_1 (v0, v1, v6, v7, v8, v9, ())
theorem E78_ok : FnOk D PP E78 := ok_ fd78 (l := h78) Try.func78 (.cons E77_ok .nil)
/-- pochoirref13.along -/
def c79_0 : Cut := ⟨244, [.box 0 0 (.st 6) 0 [], .v 1 (.sl (.int .u32)), .v 2 (.int .u32), .v 3 (.int .u32), .own 10 (.int .i64), .v 11 (.int .i64), .v 12 (.int .i64)]⟩
def c79_1 : Cut := ⟨7827, [.box 0 0 (.st 6) 0 [], .v 1 (.sl (.int .u32)), .v 2 (.int .u32), .v 3 (.int .u32), .own 10 (.int .i64), .v 11 (.int .i64), .v 12 (.int .i64)]⟩
noncomputable def fd79 : FD := ⟨79, bodyF Try.f79, Try.f79.results.toList, Try.f79.ntmps, [.ref, .val, .val, .val], [.v (.st 6), .v (.sl (.int .u32)), .v (.int .u32), .v (.int .u32)], [.v (.sl (.int .i64)), .v (.int .i64), .v (.st 6)], 2, [c79_0, c79_1], 5000, none⟩
noncomputable def h79 : List (En D) := [E75, E77]
noncomputable def G79 : YR D [.v (.st 6), .v (.sl (.int .u32)), .v (.int .u32), .v (.int .u32)] → Option (YR D [.v (.sl (.int .i64)), .v (.int .i64), .v (.st 6)]) := sealF (Gof D fd79 (tabH D h79))
noncomputable def E79 : En D := en_ fd79 G79
noncomputable def F79 (x0 : S139) (x1 : List Int) (x2 : Int) (x3 : Int) : Option (List Int × Int × S139) := G79 (x0, x1, x2, x3)
noncomputable def L79 : LL D (YR D fd79.ts) := sealF (LiF D fd79 (tabH D h79))
noncomputable def L79_0 (v0 : S139) (v1 : List Int) (v2 : Int) (v3 : Int) (v10 : List Int) (v11 : Int) (v12 : Int) : Option (List Int × Int × S139) := L79 c79_0 (v0, v1, v2, v3, v10, v11, v12, ())
noncomputable def L79_1 (v0 : S139) (v1 : List Int) (v2 : Int) (v3 : Int) (v10 : List Int) (v11 : Int) (v12 : Int) : Option (List Int × Int × S139) := L79 c79_1 (v0, v1, v2, v3, v10, v11, v12, ())
theorem E79_ok : FnOk D PP E79 := ok_ fd79 (l := h79) Try.func79 (.cons E75_ok (.cons E77_ok .nil))
/-- pochoirref13.Parse -/
def c31_0 : Cut := ⟨131060, [.box 4 24 (.st 6) 0 [], .v 5 (.int .i64), .own 6 (.int .i64), .v 7 (.int .i64), .v 8 (.int .i64)]⟩
def c31_1 : Cut := ⟨536870900, [.v 5 (.int .i64), .own 6 (.int .i64), .v 10 (.sl (.int .u32)), .v 12 (.sl (.int .i64)), .v 14 (.sl (.int .i64)), .own 16 (.sl (.st 0)), .v 17 (.int .i64), .v 18 (.int .i64)]⟩
def c31_2 : Cut := ⟨68719475272, [.v 5 (.int .i64), .own 6 (.int .i64), .v 10 (.sl (.int .u32)), .v 12 (.sl (.int .i64)), .v 14 (.sl (.int .i64)), .own 16 (.sl (.st 0)), .v 17 (.int .i64), .v 18 (.int .i64), .own 19 (.st 0)]⟩
noncomputable def fd31 : FD := ⟨31, bodyF Try.f31, Try.f31.results.toList, Try.f31.ntmps, [.val], [.v (.str)], [.v (.sl (.sl (.st 0))), .v (.int .i64)], 2, [c31_0, c31_1, c31_2], 5000, none⟩
noncomputable def h31 : List (En D) := [E75, E76, E77, E78, E79]
noncomputable def G31 : YR D [.v (.str)] → Option (YR D [.v (.sl (.sl (.st 0))), .v (.int .i64)]) := sealF (Gof D fd31 (tabH D h31))
noncomputable def E31 : En D := en_ fd31 G31
noncomputable def F31 (x0 : ByteArray) : Option (List (List S39) × Int) := G31 (x0)
noncomputable def L31 : LL D (YR D fd31.ts) := sealF (LiF D fd31 (tabH D h31))
noncomputable def L31_0 (v4 : S139) (v5 : Int) (v6 : List Int) (v7 : Int) (v8 : Int) : Option (List (List S39) × Int) := L31 c31_0 (v4, v5, v6, v7, v8, ())
noncomputable def L31_1 (v5 : Int) (v6 : List Int) (v10 : List Int) (v12 : List Int) (v14 : List Int) (v16 : List (List S39)) (v17 : Int) (v18 : Int) : Option (List (List S39) × Int) := L31 c31_1 (v5, v6, v10, v12, v14, v16, v17, v18, ())
noncomputable def L31_2 (v5 : Int) (v6 : List Int) (v10 : List Int) (v12 : List Int) (v14 : List Int) (v16 : List (List S39)) (v17 : Int) (v18 : Int) (v19 : List S39) : Option (List (List S39) × Int) := L31 c31_2 (v5, v6, v10, v12, v14, v16, v17, v18, v19, ())
theorem E31_ok : FnOk D PP E31 := ok_ fd31 (l := h31) Try.func31 (.cons E75_ok (.cons E76_ok (.cons E77_ok (.cons E78_ok (.cons E79_ok .nil)))))
/-- pochoirref15.Parse -/
def c53_0 : Cut := ⟨7, [.v 0 (.str), .v 1 (.sl (.int .i64))]⟩
def c53_1 : Cut := ⟨244, [.v 0 (.str), .v 1 (.sl (.int .i64)), .v 6 (.int .i64), .v 7 (.int .i64)]⟩
def c53_2 : Cut := ⟨1012, [.v 0 (.str), .v 1 (.sl (.int .i64)), .own 8 (.st 2), .v 9 (.int .i64)]⟩
def c53_3 : Cut := ⟨129615, [.v 0 (.str), .v 1 (.sl (.int .i64)), .own 8 (.st 2), .v 9 (.int .i64), .box 11 11 (.st 2) 0 [], .v 12 (.int .i64)]⟩
noncomputable def fd53 : FD := ⟨53, bodyF Try.f53, Try.f53.results.toList, Try.f53.ntmps, [.val, .val], [.v (.str), .v (.sl (.int .i64))], [.v (.sl (.st 2)), .v (.int .i64)], 2, [c53_0, c53_1, c53_2, c53_3], 5000, none⟩
noncomputable def h53 : List (En D) := [E31, E40, E41]
noncomputable def G53 : YR D [.v (.str), .v (.sl (.int .i64))] → Option (YR D [.v (.sl (.st 2)), .v (.int .i64)]) := sealF (Gof D fd53 (tabH D h53))
noncomputable def E53 : En D := en_ fd53 G53
noncomputable def F53 (x0 : ByteArray) (x1 : List Int) : Option (List S43 × Int) := G53 (x0, x1)
noncomputable def L53 : LL D (YR D fd53.ts) := sealF (LiF D fd53 (tabH D h53))
noncomputable def L53_0 (v0 : ByteArray) (v1 : List Int) : Option (List S43 × Int) := L53 c53_0 (v0, v1, ())
noncomputable def L53_1 (v0 : ByteArray) (v1 : List Int) (v6 : Int) (v7 : Int) : Option (List S43 × Int) := L53 c53_1 (v0, v1, v6, v7, ())
noncomputable def L53_2 (v0 : ByteArray) (v1 : List Int) (v8 : List S43) (v9 : Int) : Option (List S43 × Int) := L53 c53_2 (v0, v1, v8, v9, ())
noncomputable def L53_3 (v0 : ByteArray) (v1 : List Int) (v8 : List S43) (v9 : Int) (v11 : S43) (v12 : Int) : Option (List S43 × Int) := L53 c53_3 (v0, v1, v8, v9, v11, v12, ())
theorem E53_ok : FnOk D PP E53 := ok_ fd53 (l := h53) Try.func53 (.cons E31_ok (.cons E40_ok (.cons E41_ok .nil)))
/-- pochoirref13.Same -/
def c21_0 : Cut := ⟨116, [.v 0 (.sl (.sl (.st 0))), .v 1 (.sl (.sl (.st 0))), .v 5 (.int .i64)]⟩
def c21_1 : Cut := ⟨14924, [.v 0 (.sl (.sl (.st 0))), .v 1 (.sl (.sl (.st 0))), .v 5 (.int .i64), .v 6 (.int .i64)]⟩
noncomputable def fd21 : FD := ⟨21, bodyF Try.f21, Try.f21.results.toList, Try.f21.ntmps, [.val, .val], [.v (.sl (.sl (.st 0))), .v (.sl (.sl (.st 0)))], [.v (.bool)], 1, [c21_0, c21_1], 5000, none⟩
noncomputable def h21 : List (En D) := []
noncomputable def G21 : YR D [.v (.sl (.sl (.st 0))), .v (.sl (.sl (.st 0)))] → Option (YR D [.v (.bool)]) := sealF (Gof D fd21 (tabH D h21))
noncomputable def E21 : En D := en_ fd21 G21
noncomputable def F21 (x0 : List (List S39)) (x1 : List (List S39)) : Option (Bool) := G21 (x0, x1)
noncomputable def L21 : LL D (YR D fd21.ts) := sealF (LiF D fd21 (tabH D h21))
noncomputable def L21_0 (v0 : List (List S39)) (v1 : List (List S39)) (v5 : Int) : Option (Bool) := L21 c21_0 (v0, v1, v5, ())
noncomputable def L21_1 (v0 : List (List S39)) (v1 : List (List S39)) (v5 : Int) (v6 : Int) : Option (Bool) := L21 c21_1 (v0, v1, v5, v6, ())
theorem E21_ok : FnOk D PP E21 := ok_ fd21 (l := h21) Try.func21 (.nil)
/-- pochoirref14.Same -/
def c38_0 : Cut := ⟨116, [.v 0 (.sl (.st 1)), .v 1 (.sl (.st 1)), .v 5 (.int .i64)]⟩
noncomputable def fd38 : FD := ⟨38, bodyF Try.f38, Try.f38.results.toList, Try.f38.ntmps, [.val, .val], [.v (.sl (.st 1)), .v (.sl (.st 1))], [.v (.bool)], 1, [c38_0], 5000, none⟩
noncomputable def h38 : List (En D) := []
noncomputable def G38 : YR D [.v (.sl (.st 1)), .v (.sl (.st 1))] → Option (YR D [.v (.bool)]) := sealF (Gof D fd38 (tabH D h38))
noncomputable def E38 : En D := en_ fd38 G38
noncomputable def F38 (x0 : List S47) (x1 : List S47) : Option (Bool) := G38 (x0, x1)
noncomputable def L38 : LL D (YR D fd38.ts) := sealF (LiF D fd38 (tabH D h38))
noncomputable def L38_0 (v0 : List S47) (v1 : List S47) (v5 : Int) : Option (Bool) := L38 c38_0 (v0, v1, v5, ())
theorem E38_ok : FnOk D PP E38 := ok_ fd38 (l := h38) Try.func38 (.nil)
/-- pochoirref15.Same -/
def c54_0 : Cut := ⟨116, [.v 0 (.sl (.st 2)), .v 1 (.sl (.st 2)), .v 5 (.int .i64)]⟩
noncomputable def fd54 : FD := ⟨54, bodyF Try.f54, Try.f54.results.toList, Try.f54.ntmps, [.val, .val], [.v (.sl (.st 2)), .v (.sl (.st 2))], [.v (.bool)], 1, [c54_0], 5000, none⟩
noncomputable def h54 : List (En D) := [E21, E38]
noncomputable def G54 : YR D [.v (.sl (.st 2)), .v (.sl (.st 2))] → Option (YR D [.v (.bool)]) := sealF (Gof D fd54 (tabH D h54))
noncomputable def E54 : En D := en_ fd54 G54
noncomputable def F54 (x0 : List S43) (x1 : List S43) : Option (Bool) := G54 (x0, x1)
noncomputable def L54 : LL D (YR D fd54.ts) := sealF (LiF D fd54 (tabH D h54))
noncomputable def L54_0 (v0 : List S43) (v1 : List S43) (v5 : Int) : Option (Bool) := L54 c54_0 (v0, v1, v5, ())
theorem E54_ok : FnOk D PP E54 := ok_ fd54 (l := h54) Try.func54 (.cons E21_ok (.cons E38_ok .nil))
/-- pochoirlaw15.FlatParses -/
def c14_0 : Cut := ⟨15, [.v 0 (.str), .v 1 (.sl (.int .i64))]⟩
noncomputable def fd14 : FD := ⟨14, bodyF Try.f14, Try.f14.results.toList, Try.f14.ntmps, [.val, .val], [.v (.str), .v (.sl (.int .i64))], [.v (.bool)], 1, [c14_0], 5000, none⟩
noncomputable def h14 : List (En D) := [E15, E22, E52, E53, E54]
noncomputable def G14 : YR D [.v (.str), .v (.sl (.int .i64))] → Option (YR D [.v (.bool)]) := sealF (Gof D fd14 (tabH D h14))
noncomputable def E14 : En D := en_ fd14 G14
noncomputable def F14 (x0 : ByteArray) (x1 : List Int) : Option (Bool) := G14 (x0, x1)
noncomputable def L14 : LL D (YR D fd14.ts) := sealF (LiF D fd14 (tabH D h14))
noncomputable def L14_0 (v0 : ByteArray) (v1 : List Int) : Option (Bool) := L14 c14_0 (v0, v1, ())
theorem E14_ok : FnOk D PP E14 := ok_ fd14 (l := h14) Try.func14 (.cons E15_ok (.cons E22_ok (.cons E52_ok (.cons E53_ok (.cons E54_ok .nil)))))
end Go.Proofs.Ytalghbndblgndaa.Ev
