/- Printed by a program of this claim: the functions, as they are told. -/
import Derived.Test.YtidiifdiilahdaaDoorEvD
import Derived.Test.YtidiifdiilahdaaDoorEvAe
import Derived.Test.YtidiifdiilahdaaDoorEvY
namespace Go.Proofs.YtidiifdiilahdaaDoor.Ev
open Go
set_option linter.unusedVariables false
noncomputable def bodyF (f : Func) : Code := match f.body with | some c => c | none => .skip
/-- big.trimmed -/
def c61_0 : Cut := ⟨56, [.v 0 (.sl (.int .u32)), .v 3 (.int .i64)]⟩
noncomputable def fd61 : FD := ⟨61, bodyF Tryd.f61, Tryd.f61.results.toList, Tryd.f61.ntmps, [.val], [.v (.sl (.int .u32))], [.v (.sl (.int .u32))], 1, [c61_0], 5000, none⟩
noncomputable def h61 : List (En D) := []
noncomputable def G61 : YR D [.v (.sl (.int .u32))] → Option (YR D [.v (.sl (.int .u32))]) := sealF (Gof D fd61 (tabH D h61))
noncomputable def E61 : En D := ⟨61, [.val], [.v (.sl (.int .u32))], [.v (.sl (.int .u32))], 1, G61⟩
noncomputable def F61 (x0 : List Int) : Option (List Int) := G61 (x0)
noncomputable def L61 : LL D (YR D fd61.ts) := sealF (LiF D fd61 (tabH D h61))
noncomputable def L61_0 (v0 : List Int) (v3 : Int) : Option (List Int) := L61 c61_0 (v0, v3, ())
theorem E61_ok : FnOk D PP E61 := fdS_ok lw fd61 (l := h61) (by kernel_rfl) (.nil) Tryd.func61 (by kernel_rfl) (by kernel_rfl) (by kernel_rfl) (enters_of (c := bodyF Tryd.f61) Tryd.func61 (by kernel_rfl) (by kernel_rfl)) (by kernel_rfl) (by kernel_rfl)
/-- big.form -/
noncomputable def fd69 : FD := ⟨69, bodyF Tryd.f69, Tryd.f69.results.toList, Tryd.f69.ntmps, [.val, .val], [.v (.bool), .v (.sl (.int .u32))], [.v (.st 0)], 1, [], 5000, none⟩
noncomputable def h69 : List (En D) := [E61]
noncomputable def G69 : YR D [.v (.bool), .v (.sl (.int .u32))] → Option (YR D [.v (.st 0)]) := sealF (Gof D fd69 (tabH D h69))
noncomputable def E69 : En D := ⟨69, [.val, .val], [.v (.bool), .v (.sl (.int .u32))], [.v (.st 0)], 1, G69⟩
noncomputable def F69 (x0 : Bool) (x1 : List Int) : Option (S31) := G69 (x0, x1)
theorem E69_ok : FnOk D PP E69 := fdS_ok lw fd69 (l := h69) (by kernel_rfl) (.cons E61_ok .nil) Tryd.func69 (by kernel_rfl) (by kernel_rfl) (by kernel_rfl) (enters_of (c := bodyF Tryd.f69) Tryd.func69 (by kernel_rfl) (by kernel_rfl)) (by kernel_rfl) (by kernel_rfl)
/-- big.Of -/
def c53_0 : Cut := ⟨15, [.v 0 (.int .i64), .box 2 2 (.st 0) 0 [], .v 3 (.int .u64)]⟩
noncomputable def fd53 : FD := ⟨53, bodyF Tryd.f53, Tryd.f53.results.toList, Tryd.f53.ntmps, [.val], [.v (.int .i64)], [.v (.st 0)], 1, [c53_0], 5000, none⟩
noncomputable def h53 : List (En D) := [E69]
noncomputable def G53 : YR D [.v (.int .i64)] → Option (YR D [.v (.st 0)]) := sealF (Gof D fd53 (tabH D h53))
noncomputable def E53 : En D := ⟨53, [.val], [.v (.int .i64)], [.v (.st 0)], 1, G53⟩
noncomputable def F53 (x0 : Int) : Option (S31) := G53 (x0)
noncomputable def L53 : LL D (YR D fd53.ts) := sealF (LiF D fd53 (tabH D h53))
noncomputable def L53_0 (v0 : Int) (v2 : S31) (v3 : Int) : Option (S31) := L53 c53_0 (v0, v2, v3, ())
theorem E53_ok : FnOk D PP E53 := fdS_ok lw fd53 (l := h53) (by kernel_rfl) (.cons E69_ok .nil) Tryd.func53 (by kernel_rfl) (by kernel_rfl) (by kernel_rfl) (enters_of (c := bodyF Tryd.f53) Tryd.func53 (by kernel_rfl) (by kernel_rfl)) (by kernel_rfl) (by kernel_rfl)
/-- big.Sign -/
noncomputable def fd35 : FD := ⟨35, bodyF Tryd.f35, Tryd.f35.results.toList, Tryd.f35.ntmps, [.val], [.v (.st 0)], [.v (.int .i64)], 1, [], 5000, none⟩
noncomputable def h35 : List (En D) := [E61]
noncomputable def G35 : YR D [.v (.st 0)] → Option (YR D [.v (.int .i64)]) := sealF (Gof D fd35 (tabH D h35))
noncomputable def E35 : En D := ⟨35, [.val], [.v (.st 0)], [.v (.int .i64)], 1, G35⟩
noncomputable def F35 (x0 : S31) : Option (Int) := G35 (x0)
theorem E35_ok : FnOk D PP E35 := fdS_ok lw fd35 (l := h35) (by kernel_rfl) (.cons E61_ok .nil) Tryd.func35 (by kernel_rfl) (by kernel_rfl) (by kernel_rfl) (enters_of (c := bodyF Tryd.f35) Tryd.func35 (by kernel_rfl) (by kernel_rfl)) (by kernel_rfl) (by kernel_rfl)
/-- poly.trimmed -/
def c44_0 : Cut := ⟨56, [.v 0 (.sl (.st 0)), .v 3 (.int .i64)]⟩
noncomputable def fd44 : FD := ⟨44, bodyF Tryd.f44, Tryd.f44.results.toList, Tryd.f44.ntmps, [.val], [.v (.sl (.st 0))], [.v (.sl (.st 0))], 1, [c44_0], 5000, none⟩
noncomputable def h44 : List (En D) := [E35]
noncomputable def G44 : YR D [.v (.sl (.st 0))] → Option (YR D [.v (.sl (.st 0))]) := sealF (Gof D fd44 (tabH D h44))
noncomputable def E44 : En D := ⟨44, [.val], [.v (.sl (.st 0))], [.v (.sl (.st 0))], 1, G44⟩
noncomputable def F44 (x0 : List S31) : Option (List S31) := G44 (x0)
noncomputable def L44 : LL D (YR D fd44.ts) := sealF (LiF D fd44 (tabH D h44))
noncomputable def L44_0 (v0 : List S31) (v3 : Int) : Option (List S31) := L44 c44_0 (v0, v3, ())
theorem E44_ok : FnOk D PP E44 := fdS_ok lw fd44 (l := h44) (by kernel_rfl) (.cons E35_ok .nil) Tryd.func44 (by kernel_rfl) (by kernel_rfl) (by kernel_rfl) (enters_of (c := bodyF Tryd.f44) Tryd.func44 (by kernel_rfl) (by kernel_rfl)) (by kernel_rfl) (by kernel_rfl)
/-- poly.Of -/
def c20_0 : Cut := ⟨116, [.own 3 (.st 0), .v 6 (.sl (.int .i64)), .v 7 (.int .i64), .v 8 (.int .i64)]⟩
noncomputable def fd20 : FD := ⟨20, bodyF Tryd.f20, Tryd.f20.results.toList, Tryd.f20.ntmps, [.val], [.v (.sl (.int .i64))], [.v (.sl (.st 0))], 1, [c20_0], 5000, none⟩
noncomputable def h20 : List (En D) := [E44, E53]
noncomputable def G20 : YR D [.v (.sl (.int .i64))] → Option (YR D [.v (.sl (.st 0))]) := sealF (Gof D fd20 (tabH D h20))
noncomputable def E20 : En D := ⟨20, [.val], [.v (.sl (.int .i64))], [.v (.sl (.st 0))], 1, G20⟩
noncomputable def F20 (x0 : List Int) : Option (List S31) := G20 (x0)
noncomputable def L20 : LL D (YR D fd20.ts) := sealF (LiF D fd20 (tabH D h20))
noncomputable def L20_0 (v3 : List S31) (v6 : List Int) (v7 : Int) (v8 : Int) : Option (List S31) := L20 c20_0 (v3, v6, v7, v8, ())
theorem E20_ok : FnOk D PP E20 := fdS_ok lw fd20 (l := h20) (by kernel_rfl) (.cons E44_ok (.cons E53_ok .nil)) Tryd.func20 (by kernel_rfl) (by kernel_rfl) (by kernel_rfl) (enters_of (c := bodyF Tryd.f20) Tryd.func20 (by kernel_rfl) (by kernel_rfl)) (by kernel_rfl) (by kernel_rfl)
/-- poly.at -/
noncomputable def fd49 : FD := ⟨49, bodyF Tryd.f49, Tryd.f49.results.toList, Tryd.f49.ntmps, [.val, .val], [.v (.sl (.st 0)), .v (.int .i64)], [.v (.st 0)], 1, [], 5000, none⟩
noncomputable def h49 : List (En D) := []
noncomputable def G49 : YR D [.v (.sl (.st 0)), .v (.int .i64)] → Option (YR D [.v (.st 0)]) := sealF (Gof D fd49 (tabH D h49))
noncomputable def E49 : En D := ⟨49, [.val, .val], [.v (.sl (.st 0)), .v (.int .i64)], [.v (.st 0)], 1, G49⟩
noncomputable def F49 (x0 : List S31) (x1 : Int) : Option (S31) := G49 (x0, x1)
theorem E49_ok : FnOk D PP E49 := fdS_ok lw fd49 (l := h49) (by kernel_rfl) (.nil) Tryd.func49 (by kernel_rfl) (by kernel_rfl) (by kernel_rfl) (enters_of (c := bodyF Tryd.f49) Tryd.func49 (by kernel_rfl) (by kernel_rfl)) (by kernel_rfl) (by kernel_rfl)
/-- big.at -/
noncomputable def fd81 : FD := ⟨81, bodyF Tryd.f81, Tryd.f81.results.toList, Tryd.f81.ntmps, [.val, .val], [.v (.sl (.int .u32)), .v (.int .i64)], [.v (.int .u64)], 1, [], 5000, none⟩
noncomputable def h81 : List (En D) := []
noncomputable def G81 : YR D [.v (.sl (.int .u32)), .v (.int .i64)] → Option (YR D [.v (.int .u64)]) := sealF (Gof D fd81 (tabH D h81))
noncomputable def E81 : En D := ⟨81, [.val, .val], [.v (.sl (.int .u32)), .v (.int .i64)], [.v (.int .u64)], 1, G81⟩
noncomputable def F81 (x0 : List Int) (x1 : Int) : Option (Int) := G81 (x0, x1)
theorem E81_ok : FnOk D PP E81 := fdS_ok lw fd81 (l := h81) (by kernel_rfl) (.nil) Tryd.func81 (by kernel_rfl) (by kernel_rfl) (by kernel_rfl) (enters_of (c := bodyF Tryd.f81) Tryd.func81 (by kernel_rfl) (by kernel_rfl)) (by kernel_rfl) (by kernel_rfl)
/-- big.plus -/
def c71_0 : Cut := ⟨500, [.v 0 (.sl (.int .u32)), .v 1 (.sl (.int .u32)), .own 6 (.int .u32), .v 7 (.int .u64), .v 20 (.int .i64), .v 21 (.int .i64)]⟩
noncomputable def fd71 : FD := ⟨71, bodyF Tryd.f71, Tryd.f71.results.toList, Tryd.f71.ntmps, [.val, .val], [.v (.sl (.int .u32)), .v (.sl (.int .u32))], [.v (.sl (.int .u32))], 1, [c71_0], 5000, none⟩
noncomputable def h71 : List (En D) := [E81]
noncomputable def G71 : YR D [.v (.sl (.int .u32)), .v (.sl (.int .u32))] → Option (YR D [.v (.sl (.int .u32))]) := sealF (Gof D fd71 (tabH D h71))
noncomputable def E71 : En D := ⟨71, [.val, .val], [.v (.sl (.int .u32)), .v (.sl (.int .u32))], [.v (.sl (.int .u32))], 1, G71⟩
noncomputable def F71 (x0 : List Int) (x1 : List Int) : Option (List Int) := G71 (x0, x1)
noncomputable def L71 : LL D (YR D fd71.ts) := sealF (LiF D fd71 (tabH D h71))
noncomputable def L71_0 (v0 : List Int) (v1 : List Int) (v6 : List Int) (v7 : Int) (v20 : Int) (v21 : Int) : Option (List Int) := L71 c71_0 (v0, v1, v6, v7, v20, v21, ())
theorem E71_ok : FnOk D PP E71 := fdS_ok lw fd71 (l := h71) (by kernel_rfl) (.cons E81_ok .nil) Tryd.func71 (by kernel_rfl) (by kernel_rfl) (by kernel_rfl) (enters_of (c := bodyF Tryd.f71) Tryd.func71 (by kernel_rfl) (by kernel_rfl)) (by kernel_rfl) (by kernel_rfl)
/-- cmp.isNaN[int] -/
noncomputable def fd92 : FD := ⟨92, bodyF Tryd.f92, Tryd.f92.results.toList, Tryd.f92.ntmps, [.val], [.v (.int .i64)], [.v (.bool)], 1, [], 5000, none⟩
noncomputable def h92 : List (En D) := []
noncomputable def G92 : YR D [.v (.int .i64)] → Option (YR D [.v (.bool)]) := sealF (Gof D fd92 (tabH D h92))
noncomputable def E92 : En D := ⟨92, [.val], [.v (.int .i64)], [.v (.bool)], 1, G92⟩
noncomputable def F92 (x0 : Int) : Option (Bool) := G92 (x0)
theorem E92_ok : FnOk D PP E92 := fdS_ok lw fd92 (l := h92) (by kernel_rfl) (.nil) Tryd.func92 (by kernel_rfl) (by kernel_rfl) (by kernel_rfl) (enters_of (c := bodyF Tryd.f92) Tryd.func92 (by kernel_rfl) (by kernel_rfl)) (by kernel_rfl) (by kernel_rfl)
/-- cmp.Compare[int] -/
noncomputable def fd82 : FD := ⟨82, bodyF Tryd.f82, Tryd.f82.results.toList, Tryd.f82.ntmps, [.val, .val], [.v (.int .i64), .v (.int .i64)], [.v (.int .i64)], 1, [], 5000, none⟩
noncomputable def h82 : List (En D) := [E92]
noncomputable def G82 : YR D [.v (.int .i64), .v (.int .i64)] → Option (YR D [.v (.int .i64)]) := sealF (Gof D fd82 (tabH D h82))
noncomputable def E82 : En D := ⟨82, [.val, .val], [.v (.int .i64), .v (.int .i64)], [.v (.int .i64)], 1, G82⟩
noncomputable def F82 (x0 : Int) (x1 : Int) : Option (Int) := G82 (x0, x1)
theorem E82_ok : FnOk D PP E82 := fdS_ok lw fd82 (l := h82) (by kernel_rfl) (.cons E92_ok .nil) Tryd.func82 (by kernel_rfl) (by kernel_rfl) (by kernel_rfl) (enters_of (c := bodyF Tryd.f82) Tryd.func82 (by kernel_rfl) (by kernel_rfl)) (by kernel_rfl) (by kernel_rfl)
/-- cmp.isNaN[uint32] -/
noncomputable def fd93 : FD := ⟨93, bodyF Tryd.f93, Tryd.f93.results.toList, Tryd.f93.ntmps, [.val], [.v (.int .u32)], [.v (.bool)], 1, [], 5000, none⟩
noncomputable def h93 : List (En D) := []
noncomputable def G93 : YR D [.v (.int .u32)] → Option (YR D [.v (.bool)]) := sealF (Gof D fd93 (tabH D h93))
noncomputable def E93 : En D := ⟨93, [.val], [.v (.int .u32)], [.v (.bool)], 1, G93⟩
noncomputable def F93 (x0 : Int) : Option (Bool) := G93 (x0)
theorem E93_ok : FnOk D PP E93 := fdS_ok lw fd93 (l := h93) (by kernel_rfl) (.nil) Tryd.func93 (by kernel_rfl) (by kernel_rfl) (by kernel_rfl) (enters_of (c := bodyF Tryd.f93) Tryd.func93 (by kernel_rfl) (by kernel_rfl)) (by kernel_rfl) (by kernel_rfl)
/-- cmp.Compare[uint32] -/
noncomputable def fd83 : FD := ⟨83, bodyF Tryd.f83, Tryd.f83.results.toList, Tryd.f83.ntmps, [.val, .val], [.v (.int .u32), .v (.int .u32)], [.v (.int .i64)], 1, [], 5000, none⟩
noncomputable def h83 : List (En D) := [E93]
noncomputable def G83 : YR D [.v (.int .u32), .v (.int .u32)] → Option (YR D [.v (.int .i64)]) := sealF (Gof D fd83 (tabH D h83))
noncomputable def E83 : En D := ⟨83, [.val, .val], [.v (.int .u32), .v (.int .u32)], [.v (.int .i64)], 1, G83⟩
noncomputable def F83 (x0 : Int) (x1 : Int) : Option (Int) := G83 (x0, x1)
theorem E83_ok : FnOk D PP E83 := fdS_ok lw fd83 (l := h83) (by kernel_rfl) (.cons E93_ok .nil) Tryd.func83 (by kernel_rfl) (by kernel_rfl) (by kernel_rfl) (enters_of (c := bodyF Tryd.f83) Tryd.func83 (by kernel_rfl) (by kernel_rfl)) (by kernel_rfl) (by kernel_rfl)
/-- big.against -/
def c72_0 : Cut := ⟨116, [.v 0 (.sl (.int .u32)), .v 1 (.sl (.int .u32)), .v 6 (.int .i64)]⟩
noncomputable def fd72 : FD := ⟨72, bodyF Tryd.f72, Tryd.f72.results.toList, Tryd.f72.ntmps, [.val, .val], [.v (.sl (.int .u32)), .v (.sl (.int .u32))], [.v (.int .i64)], 1, [c72_0], 5000, none⟩
noncomputable def h72 : List (En D) := [E82, E83]
noncomputable def G72 : YR D [.v (.sl (.int .u32)), .v (.sl (.int .u32))] → Option (YR D [.v (.int .i64)]) := sealF (Gof D fd72 (tabH D h72))
noncomputable def E72 : En D := ⟨72, [.val, .val], [.v (.sl (.int .u32)), .v (.sl (.int .u32))], [.v (.int .i64)], 1, G72⟩
noncomputable def F72 (x0 : List Int) (x1 : List Int) : Option (Int) := G72 (x0, x1)
noncomputable def L72 : LL D (YR D fd72.ts) := sealF (LiF D fd72 (tabH D h72))
noncomputable def L72_0 (v0 : List Int) (v1 : List Int) (v6 : Int) : Option (Int) := L72 c72_0 (v0, v1, v6, ())
theorem E72_ok : FnOk D PP E72 := fdS_ok lw fd72 (l := h72) (by kernel_rfl) (.cons E82_ok (.cons E83_ok .nil)) Tryd.func72 (by kernel_rfl) (by kernel_rfl) (by kernel_rfl) (enters_of (c := bodyF Tryd.f72) Tryd.func72 (by kernel_rfl) (by kernel_rfl)) (by kernel_rfl) (by kernel_rfl)
/-- big.minus -/
def c73_0 : Cut := ⟨244, [.v 0 (.sl (.int .u32)), .v 1 (.sl (.int .u32)), .own 5 (.int .u32), .v 6 (.int .u64), .v 13 (.int .i64), .v 14 (.int .i64)]⟩
noncomputable def fd73 : FD := ⟨73, bodyF Tryd.f73, Tryd.f73.results.toList, Tryd.f73.ntmps, [.val, .val], [.v (.sl (.int .u32)), .v (.sl (.int .u32))], [.v (.sl (.int .u32))], 1, [c73_0], 5000, none⟩
noncomputable def h73 : List (En D) := [E81]
noncomputable def G73 : YR D [.v (.sl (.int .u32)), .v (.sl (.int .u32))] → Option (YR D [.v (.sl (.int .u32))]) := sealF (Gof D fd73 (tabH D h73))
noncomputable def E73 : En D := ⟨73, [.val, .val], [.v (.sl (.int .u32)), .v (.sl (.int .u32))], [.v (.sl (.int .u32))], 1, G73⟩
noncomputable def F73 (x0 : List Int) (x1 : List Int) : Option (List Int) := G73 (x0, x1)
noncomputable def L73 : LL D (YR D fd73.ts) := sealF (LiF D fd73 (tabH D h73))
noncomputable def L73_0 (v0 : List Int) (v1 : List Int) (v5 : List Int) (v6 : Int) (v13 : Int) (v14 : Int) : Option (List Int) := L73 c73_0 (v0, v1, v5, v6, v13, v14, ())
theorem E73_ok : FnOk D PP E73 := fdS_ok lw fd73 (l := h73) (by kernel_rfl) (.cons E81_ok .nil) Tryd.func73 (by kernel_rfl) (by kernel_rfl) (by kernel_rfl) (enters_of (c := bodyF Tryd.f73) Tryd.func73 (by kernel_rfl) (by kernel_rfl)) (by kernel_rfl) (by kernel_rfl)
/-- big.Add -/
noncomputable def fd54 : FD := ⟨54, bodyF Tryd.f54, Tryd.f54.results.toList, Tryd.f54.ntmps, [.val, .val], [.v (.st 0), .v (.st 0)], [.v (.st 0)], 1, [], 5000, none⟩
noncomputable def h54 : List (En D) := [E61, E69, E71, E72, E73]
noncomputable def G54 : YR D [.v (.st 0), .v (.st 0)] → Option (YR D [.v (.st 0)]) := sealF (Gof D fd54 (tabH D h54))
noncomputable def E54 : En D := ⟨54, [.val, .val], [.v (.st 0), .v (.st 0)], [.v (.st 0)], 1, G54⟩
noncomputable def F54 (x0 : S31) (x1 : S31) : Option (S31) := G54 (x0, x1)
theorem E54_ok : FnOk D PP E54 := fdS_ok lw fd54 (l := h54) (by kernel_rfl) (.cons E61_ok (.cons E69_ok (.cons E71_ok (.cons E72_ok (.cons E73_ok .nil))))) Tryd.func54 (by kernel_rfl) (by kernel_rfl) (by kernel_rfl) (enters_of (c := bodyF Tryd.f54) Tryd.func54 (by kernel_rfl) (by kernel_rfl)) (by kernel_rfl) (by kernel_rfl)
/-- poly.each(big.Add) -/
def c55054_0 : Cut := ⟨116, [.v 0 (.sl (.st 0)), .v 1 (.sl (.st 0)), .fn 2 54, .own 7 (.st 0), .v 13 (.int .i64), .v 14 (.int .i64)]⟩
noncomputable def fd55054 : FD := ⟨55, bodyF Tryd.f55, Tryd.f55.results.toList, Tryd.f55.ntmps, [.val, .val, .val], [.v (.sl (.st 0)), .v (.sl (.st 0)), .fc 54], [.v (.sl (.st 0))], 1, [c55054_0], 5000, none⟩
noncomputable def h55054 : List (En D) := [E44, E49, E54]
noncomputable def G55054 : YR D [.v (.sl (.st 0)), .v (.sl (.st 0)), .fc 54] → Option (YR D [.v (.sl (.st 0))]) := sealF (Gof D fd55054 (tabH D h55054))
noncomputable def E55054 : En D := ⟨55, [.val, .val, .val], [.v (.sl (.st 0)), .v (.sl (.st 0)), .fc 54], [.v (.sl (.st 0))], 1, G55054⟩
noncomputable def F55054 (x0 : List S31) (x1 : List S31) (x2 : Unit) : Option (List S31) := G55054 (x0, x1, x2)
noncomputable def L55054 : LL D (YR D fd55054.ts) := sealF (LiF D fd55054 (tabH D h55054))
noncomputable def L55054_0 (v0 : List S31) (v1 : List S31) (v7 : List S31) (v13 : Int) (v14 : Int) : Option (List S31) := L55054 c55054_0 (v0, v1, v7, v13, v14, ())
theorem E55054_ok : FnOk D PP E55054 := fdS_ok lw fd55054 (l := h55054) (by kernel_rfl) (.cons E44_ok (.cons E49_ok (.cons E54_ok .nil))) Tryd.func55 (by kernel_rfl) (by kernel_rfl) (by kernel_rfl) (enters_of (c := bodyF Tryd.f55) Tryd.func55 (by kernel_rfl) (by kernel_rfl)) (by kernel_rfl) (by kernel_rfl)
/-- poly.Add -/
noncomputable def fd24 : FD := ⟨24, bodyF Tryd.f24, Tryd.f24.results.toList, Tryd.f24.ntmps, [.val, .val], [.v (.sl (.st 0)), .v (.sl (.st 0))], [.v (.sl (.st 0))], 1, [], 5000, none⟩
noncomputable def h24 : List (En D) := [E55054]
noncomputable def G24 : YR D [.v (.sl (.st 0)), .v (.sl (.st 0))] → Option (YR D [.v (.sl (.st 0))]) := sealF (Gof D fd24 (tabH D h24))
noncomputable def E24 : En D := ⟨24, [.val, .val], [.v (.sl (.st 0)), .v (.sl (.st 0))], [.v (.sl (.st 0))], 1, G24⟩
noncomputable def F24 (x0 : List S31) (x1 : List S31) : Option (List S31) := G24 (x0, x1)
theorem E24_ok : FnOk D PP E24 := fdS_ok lw fd24 (l := h24) (by kernel_rfl) (.cons E55054_ok .nil) Tryd.func24 (by kernel_rfl) (by kernel_rfl) (by kernel_rfl) (enters_of (c := bodyF Tryd.f24) Tryd.func24 (by kernel_rfl) (by kernel_rfl)) (by kernel_rfl) (by kernel_rfl)
/-- slices.Clone[[]uint32,uint32] -/
noncomputable def fd70 : FD := ⟨70, bodyF Tryd.f70, Tryd.f70.results.toList, Tryd.f70.ntmps, [.val], [.v (.sl (.int .u32))], [.v (.sl (.int .u32))], 1, [], 5000, some ⟨[.val], [(0, none)]⟩⟩
noncomputable def G70 : YR D [.v (.sl (.int .u32))] → Option (YR D [.v (.sl (.int .u32))]) := sealF fun x => grd (fit (0 + x.length) 4) (some x)
noncomputable def E70 : En D := ⟨70, [.val], [.v (.sl (.int .u32))], [.v (.sl (.int .u32))], 1, G70⟩
noncomputable def F70 (x0 : List Int) : Option (List Int) := G70 (x0)
theorem F70_eq (x0 : List Int) : F70 x0 = grd (fit (0 + x0.length) 4) (some x0) := congrFun (sealF_eq _) x0
theorem E70_ok : FnOk D PP E70 := by
  refine FnX.ok (xm := ⟨[.val], [(0, none)]⟩) (FnX.rows (t := .int .u32) (fun y hy => ?_) (fun y hy => ?_) (fun a l y hy => ?_)) (by kernel_rfl)
  · obtain rfl : [] = y := Option.some.inj ((show some [] = grd (fit (0 + 0) 4) (some []) by kernel_rfl).trans hy)
    exact fdSX lw fd70 Tryd.func70 (by kernel_rfl) (by kernel_rfl) (by kernel_rfl) (enters_of (c := bodyF Tryd.f70) Tryd.func70 (by kernel_rfl) (by kernel_rfl)) (by kernel_rfl) rfl (by kernel_rfl)
  · obtain rfl : [] = y := Option.some.inj ((show some [] = grd (fit (0 + 0) 4) (some []) by kernel_rfl).trans hy)
    exact fdSX lw fd70 Tryd.func70 (by kernel_rfl) (by kernel_rfl) (by kernel_rfl) (enters_of (c := bodyF Tryd.f70) Tryd.func70 (by kernel_rfl) (by kernel_rfl)) (by kernel_rfl) rfl (by kernel_rfl)
  · exact fdSX lw fd70 Tryd.func70 (by kernel_rfl) (by kernel_rfl) (by kernel_rfl) (enters_of (c := bodyF Tryd.f70) Tryd.func70 (by kernel_rfl) (by kernel_rfl)) (by kernel_rfl) rfl ((show entW D fd70 (tabH D []) (LiF D fd70 (tabH D [])) [.c (.lst (.int .u32) (a :: l))] = grd (fit (0 + (a :: l).length) 4) (some (a :: l)) by kernel_rfl).trans hy)
/-- big.Neg -/
noncomputable def fd45 : FD := ⟨45, bodyF Tryd.f45, Tryd.f45.results.toList, Tryd.f45.ntmps, [.val], [.v (.st 0)], [.v (.st 0)], 1, [], 5000, none⟩
noncomputable def h45 : List (En D) := [E69, E70]
noncomputable def G45 : YR D [.v (.st 0)] → Option (YR D [.v (.st 0)]) := sealF (Gof D fd45 (tabH D h45))
noncomputable def E45 : En D := ⟨45, [.val], [.v (.st 0)], [.v (.st 0)], 1, G45⟩
noncomputable def F45 (x0 : S31) : Option (S31) := G45 (x0)
theorem E45_ok : FnOk D PP E45 := fdS_ok lw fd45 (l := h45) (by kernel_rfl) (.cons E69_ok (.cons E70_ok .nil)) Tryd.func45 (by kernel_rfl) (by kernel_rfl) (by kernel_rfl) (enters_of (c := bodyF Tryd.f45) Tryd.func45 (by kernel_rfl) (by kernel_rfl)) (by kernel_rfl) (by kernel_rfl)
/-- poly.sized -/
noncomputable def fd48 : FD := ⟨48, bodyF Tryd.f48, Tryd.f48.results.toList, Tryd.f48.ntmps, [.val], [.v (.st 0)], [.v (.st 0)], 1, [], 5000, none⟩
noncomputable def h48 : List (En D) := [E35, E45]
noncomputable def G48 : YR D [.v (.st 0)] → Option (YR D [.v (.st 0)]) := sealF (Gof D fd48 (tabH D h48))
noncomputable def E48 : En D := ⟨48, [.val], [.v (.st 0)], [.v (.st 0)], 1, G48⟩
noncomputable def F48 (x0 : S31) : Option (S31) := G48 (x0)
theorem E48_ok : FnOk D PP E48 := fdS_ok lw fd48 (l := h48) (by kernel_rfl) (.cons E35_ok (.cons E45_ok .nil)) Tryd.func48 (by kernel_rfl) (by kernel_rfl) (by kernel_rfl) (enters_of (c := bodyF Tryd.f48) Tryd.func48 (by kernel_rfl) (by kernel_rfl)) (by kernel_rfl) (by kernel_rfl)
/-- big.Mul -/
def c47_0 : Cut := ⟨116, [.box 2 2 (.st 0) 0 [], .box 3 3 (.st 0) 0 [], .box 4 4 (.st 0) 0 [], .own 5 (.int .u32), .v 21 (.sl (.int .u32)), .v 22 (.int .i64), .v 23 (.int .i64)]⟩
def c47_1 : Cut := ⟨119604, [.box 2 2 (.st 0) 0 [], .box 3 3 (.st 0) 0 [], .box 4 4 (.st 0) 0 [], .own 5 (.int .u32), .v 6 (.int .i64), .v 7 (.int .u32), .v 8 (.int .u64), .v 21 (.sl (.int .u32)), .v 22 (.int .i64), .v 23 (.int .i64), .v 29 (.sl (.int .u32)), .v 30 (.int .i64), .v 31 (.int .i64)]⟩
noncomputable def fd47 : FD := ⟨47, bodyF Tryd.f47, Tryd.f47.results.toList, Tryd.f47.ntmps, [.val, .val], [.v (.st 0), .v (.st 0)], [.v (.st 0)], 1, [c47_0, c47_1], 5000, none⟩
noncomputable def h47 : List (En D) := [E69]
noncomputable def G47 : YR D [.v (.st 0), .v (.st 0)] → Option (YR D [.v (.st 0)]) := sealF (Gof D fd47 (tabH D h47))
noncomputable def E47 : En D := ⟨47, [.val, .val], [.v (.st 0), .v (.st 0)], [.v (.st 0)], 1, G47⟩
noncomputable def F47 (x0 : S31) (x1 : S31) : Option (S31) := G47 (x0, x1)
noncomputable def L47 : LL D (YR D fd47.ts) := sealF (LiF D fd47 (tabH D h47))
noncomputable def L47_0 (v2 : S31) (v3 : S31) (v4 : S31) (v5 : List Int) (v21 : List Int) (v22 : Int) (v23 : Int) : Option (S31) := L47 c47_0 (v2, v3, v4, v5, v21, v22, v23, ())
noncomputable def L47_1 (v2 : S31) (v3 : S31) (v4 : S31) (v5 : List Int) (v6 : Int) (v7 : Int) (v8 : Int) (v21 : List Int) (v22 : Int) (v23 : Int) (v29 : List Int) (v30 : Int) (v31 : Int) : Option (S31) := L47 c47_1 (v2, v3, v4, v5, v6, v7, v8, v21, v22, v23, v29, v30, v31, ())
theorem E47_ok : FnOk D PP E47 := fdS_ok lw fd47 (l := h47) (by kernel_rfl) (.cons E69_ok .nil) Tryd.func47 (by kernel_rfl) (by kernel_rfl) (by kernel_rfl) (enters_of (c := bodyF Tryd.f47) Tryd.func47 (by kernel_rfl) (by kernel_rfl)) (by kernel_rfl) (by kernel_rfl)
/-- big.Sub -/
noncomputable def fd46 : FD := ⟨46, bodyF Tryd.f46, Tryd.f46.results.toList, Tryd.f46.ntmps, [.val, .val], [.v (.st 0), .v (.st 0)], [.v (.st 0)], 1, [], 5000, none⟩
noncomputable def h46 : List (En D) := [E45, E54]
noncomputable def G46 : YR D [.v (.st 0), .v (.st 0)] → Option (YR D [.v (.st 0)]) := sealF (Gof D fd46 (tabH D h46))
noncomputable def E46 : En D := ⟨46, [.val, .val], [.v (.st 0), .v (.st 0)], [.v (.st 0)], 1, G46⟩
noncomputable def F46 (x0 : S31) (x1 : S31) : Option (S31) := G46 (x0, x1)
theorem E46_ok : FnOk D PP E46 := fdS_ok lw fd46 (l := h46) (by kernel_rfl) (.cons E45_ok (.cons E54_ok .nil)) Tryd.func46 (by kernel_rfl) (by kernel_rfl) (by kernel_rfl) (enters_of (c := bodyF Tryd.f46) Tryd.func46 (by kernel_rfl) (by kernel_rfl)) (by kernel_rfl) (by kernel_rfl)
/-- poly.Rest -/
def c18_0 : Cut := ⟨504, [.v 0 (.sl (.st 0)), .v 1 (.sl (.st 0)), .box 6 6 (.st 0) 0 []]⟩
def c18_1 : Cut := ⟨8075, [.v 0 (.sl (.st 0)), .v 1 (.sl (.st 0)), .box 6 6 (.st 0) 0 [], .box 7 7 (.st 0) 0 []]⟩
def c18_2 : Cut := ⟨516852, [.v 1 (.sl (.st 0)), .box 6 6 (.st 0) 0 [], .box 7 7 (.st 0) 0 [], .v 8 (.int .i64), .own 9 (.st 0), .v 46 (.sl (.st 0)), .v 47 (.int .i64), .v 48 (.int .i64)]⟩
noncomputable def fd18 : FD := ⟨18, bodyF Tryd.f18, Tryd.f18.results.toList, Tryd.f18.ntmps, [.val, .val], [.v (.sl (.st 0)), .v (.sl (.st 0))], [.v (.sl (.st 0)), .v (.int .i64)], 2, [c18_0, c18_1, c18_2], 5000, none⟩
noncomputable def h18 : List (En D) := [E24, E35, E44, E45, E46, E47, E48, E49]
noncomputable def G18 : YR D [.v (.sl (.st 0)), .v (.sl (.st 0))] → Option (YR D [.v (.sl (.st 0)), .v (.int .i64)]) := sealF (Gof D fd18 (tabH D h18))
noncomputable def E18 : En D := ⟨18, [.val, .val], [.v (.sl (.st 0)), .v (.sl (.st 0))], [.v (.sl (.st 0)), .v (.int .i64)], 2, G18⟩
noncomputable def F18 (x0 : List S31) (x1 : List S31) : Option (List S31 × Int) := G18 (x0, x1)
noncomputable def L18 : LL D (YR D fd18.ts) := sealF (LiF D fd18 (tabH D h18))
noncomputable def L18_0 (v0 : List S31) (v1 : List S31) (v6 : S31) : Option (List S31 × Int) := L18 c18_0 (v0, v1, v6, ())
noncomputable def L18_1 (v0 : List S31) (v1 : List S31) (v6 : S31) (v7 : S31) : Option (List S31 × Int) := L18 c18_1 (v0, v1, v6, v7, ())
noncomputable def L18_2 (v1 : List S31) (v6 : S31) (v7 : S31) (v8 : Int) (v9 : List S31) (v46 : List S31) (v47 : Int) (v48 : Int) : Option (List S31 × Int) := L18 c18_2 (v1, v6, v7, v8, v9, v46, v47, v48, ())
theorem E18_ok : FnOk D PP E18 := fdS_ok lw fd18 (l := h18) (by kernel_rfl) (.cons E24_ok (.cons E35_ok (.cons E44_ok (.cons E45_ok (.cons E46_ok (.cons E47_ok (.cons E48_ok (.cons E49_ok .nil)))))))) Tryd.func18 (by kernel_rfl) (by kernel_rfl) (by kernel_rfl) (enters_of (c := bodyF Tryd.f18) Tryd.func18 (by kernel_rfl) (by kernel_rfl)) (by kernel_rfl) (by kernel_rfl)
/-- ratio.size -/
noncomputable def fd60 : FD := ⟨60, bodyF Tryd.f60, Tryd.f60.results.toList, Tryd.f60.ntmps, [.val], [.v (.int .i64)], [.v (.int .u64)], 1, [], 5000, none⟩
noncomputable def h60 : List (En D) := []
noncomputable def G60 : YR D [.v (.int .i64)] → Option (YR D [.v (.int .u64)]) := sealF (Gof D fd60 (tabH D h60))
noncomputable def E60 : En D := ⟨60, [.val], [.v (.int .i64)], [.v (.int .u64)], 1, G60⟩
noncomputable def F60 (x0 : Int) : Option (Int) := G60 (x0)
theorem E60_ok : FnOk D PP E60 := fdS_ok lw fd60 (l := h60) (by kernel_rfl) (.nil) Tryd.func60 (by kernel_rfl) (by kernel_rfl) (by kernel_rfl) (enters_of (c := bodyF Tryd.f60) Tryd.func60 (by kernel_rfl) (by kernel_rfl)) (by kernel_rfl) (by kernel_rfl)
/-- wide.Of -/
noncomputable def fd59 : FD := ⟨59, bodyF Tryd.f59, Tryd.f59.results.toList, Tryd.f59.ntmps, [.val], [.v (.int .u64)], [.v (.st 3)], 1, [], 5000, none⟩
noncomputable def h59 : List (En D) := []
noncomputable def G59 : YR D [.v (.int .u64)] → Option (YR D [.v (.st 3)]) := sealF (Gof D fd59 (tabH D h59))
noncomputable def E59 : En D := ⟨59, [.val], [.v (.int .u64)], [.v (.st 3)], 1, G59⟩
noncomputable def F59 (x0 : Int) : Option (S81) := G59 (x0)
theorem E59_ok : FnOk D PP E59 := fdS_ok lw fd59 (l := h59) (by kernel_rfl) (.nil) Tryd.func59 (by kernel_rfl) (by kernel_rfl) (by kernel_rfl) (enters_of (c := bodyF Tryd.f59) Tryd.func59 (by kernel_rfl) (by kernel_rfl)) (by kernel_rfl) (by kernel_rfl)
/-- math/bits.TrailingZeros64 -/
noncomputable def G84 : YR D [.v (.int .u64)] → Option (YR D [.v (.int .i64)]) := sealF fun x => bits_TrailingZeros64 x
noncomputable def E84 : En D := ⟨84, [.val], [.v (.int .u64)], [.v (.int .i64)], 1, G84⟩
noncomputable def F84 (x0 : Int) : Option (Int) := G84 (x0)
theorem F84_eq (x0 : Int) : F84 x0 = bits_TrailingZeros64 x0 := congrFun (sealF_eq _) (x0)
theorem E84_ok : FnOk D PP E84 := bits_TrailingZeros64_ok
/-- ratio.twos -/
noncomputable def fd75 : FD := ⟨75, bodyF Tryd.f75, Tryd.f75.results.toList, Tryd.f75.ntmps, [.val], [.v (.st 3)], [.v (.int .i64)], 1, [], 5000, none⟩
noncomputable def h75 : List (En D) := [E84]
noncomputable def G75 : YR D [.v (.st 3)] → Option (YR D [.v (.int .i64)]) := sealF (Gof D fd75 (tabH D h75))
noncomputable def E75 : En D := ⟨75, [.val], [.v (.st 3)], [.v (.int .i64)], 1, G75⟩
noncomputable def F75 (x0 : S81) : Option (Int) := G75 (x0)
theorem E75_ok : FnOk D PP E75 := fdS_ok lw fd75 (l := h75) (by kernel_rfl) (.cons E84_ok .nil) Tryd.func75 (by kernel_rfl) (by kernel_rfl) (by kernel_rfl) (enters_of (c := bodyF Tryd.f75) Tryd.func75 (by kernel_rfl) (by kernel_rfl)) (by kernel_rfl) (by kernel_rfl)
/-- wide.right -/
noncomputable def fd85 : FD := ⟨85, bodyF Tryd.f85, Tryd.f85.results.toList, Tryd.f85.ntmps, [.val, .val], [.v (.st 3), .v (.int .u64)], [.v (.st 3)], 1, [], 5000, none⟩
noncomputable def h85 : List (En D) := []
noncomputable def G85 : YR D [.v (.st 3), .v (.int .u64)] → Option (YR D [.v (.st 3)]) := sealF (Gof D fd85 (tabH D h85))
noncomputable def E85 : En D := ⟨85, [.val, .val], [.v (.st 3), .v (.int .u64)], [.v (.st 3)], 1, G85⟩
noncomputable def F85 (x0 : S81) (x1 : Int) : Option (S81) := G85 (x0, x1)
theorem E85_ok : FnOk D PP E85 := fdS_ok lw fd85 (l := h85) (by kernel_rfl) (.nil) Tryd.func85 (by kernel_rfl) (by kernel_rfl) (by kernel_rfl) (enters_of (c := bodyF Tryd.f85) Tryd.func85 (by kernel_rfl) (by kernel_rfl)) (by kernel_rfl) (by kernel_rfl)
/-- math/bits.Len64 -/
def c94_0 : Cut := ⟨7, [.v 0 (.int .u64), .v 2 (.int .i64)]⟩
def c94_1 : Cut := ⟨15, [.v 0 (.int .u64), .v 2 (.int .i64)]⟩
def c94_2 : Cut := ⟨31, [.v 0 (.int .u64), .v 2 (.int .i64)]⟩
noncomputable def fd94 : FD := ⟨94, bodyF Tryd.f94, Tryd.f94.results.toList, Tryd.f94.ntmps, [.val], [.v (.int .u64)], [.v (.int .i64)], 1, [c94_0, c94_1, c94_2], 5000, none⟩
noncomputable def h94 : List (En D) := []
noncomputable def G94 : YR D [.v (.int .u64)] → Option (YR D [.v (.int .i64)]) := sealF (Gof D fd94 (tabH D h94))
noncomputable def E94 : En D := ⟨94, [.val], [.v (.int .u64)], [.v (.int .i64)], 1, G94⟩
noncomputable def F94 (x0 : Int) : Option (Int) := G94 (x0)
noncomputable def L94 : LL D (YR D fd94.ts) := sealF (LiF D fd94 (tabH D h94))
noncomputable def L94_0 (v0 : Int) (v2 : Int) : Option (Int) := L94 c94_0 (v0, v2, ())
noncomputable def L94_1 (v0 : Int) (v2 : Int) : Option (Int) := L94 c94_1 (v0, v2, ())
noncomputable def L94_2 (v0 : Int) (v2 : Int) : Option (Int) := L94 c94_2 (v0, v2, ())
theorem E94_ok : FnOk D PP E94 := fdS_ok lw fd94 (l := h94) (by kernel_rfl) (.nil) Tryd.func94 (by kernel_rfl) (by kernel_rfl) (by kernel_rfl) (enters_of (c := bodyF Tryd.f94) Tryd.func94 (by kernel_rfl) (by kernel_rfl)) (by kernel_rfl) (by kernel_rfl)
/-- wide.Bits -/
noncomputable def fd86 : FD := ⟨86, bodyF Tryd.f86, Tryd.f86.results.toList, Tryd.f86.ntmps, [.val], [.v (.st 3)], [.v (.int .i64)], 1, [], 5000, none⟩
noncomputable def h86 : List (En D) := [E94]
noncomputable def G86 : YR D [.v (.st 3)] → Option (YR D [.v (.int .i64)]) := sealF (Gof D fd86 (tabH D h86))
noncomputable def E86 : En D := ⟨86, [.val], [.v (.st 3)], [.v (.int .i64)], 1, G86⟩
noncomputable def F86 (x0 : S81) : Option (Int) := G86 (x0)
theorem E86_ok : FnOk D PP E86 := fdS_ok lw fd86 (l := h86) (by kernel_rfl) (.cons E94_ok .nil) Tryd.func86 (by kernel_rfl) (by kernel_rfl) (by kernel_rfl) (enters_of (c := bodyF Tryd.f86) Tryd.func86 (by kernel_rfl) (by kernel_rfl)) (by kernel_rfl) (by kernel_rfl)
/-- wide.left -/
noncomputable def fd87 : FD := ⟨87, bodyF Tryd.f87, Tryd.f87.results.toList, Tryd.f87.ntmps, [.val, .val], [.v (.st 3), .v (.int .u64)], [.v (.st 3)], 1, [], 5000, none⟩
noncomputable def h87 : List (En D) := []
noncomputable def G87 : YR D [.v (.st 3), .v (.int .u64)] → Option (YR D [.v (.st 3)]) := sealF (Gof D fd87 (tabH D h87))
noncomputable def E87 : En D := ⟨87, [.val, .val], [.v (.st 3), .v (.int .u64)], [.v (.st 3)], 1, G87⟩
noncomputable def F87 (x0 : S81) (x1 : Int) : Option (S81) := G87 (x0, x1)
theorem E87_ok : FnOk D PP E87 := fdS_ok lw fd87 (l := h87) (by kernel_rfl) (.nil) Tryd.func87 (by kernel_rfl) (by kernel_rfl) (by kernel_rfl) (enters_of (c := bodyF Tryd.f87) Tryd.func87 (by kernel_rfl) (by kernel_rfl)) (by kernel_rfl) (by kernel_rfl)
/-- wide.Shift -/
def c76_0 : Cut := ⟨51, [.v 1 (.int .i64), .box 2 2 (.st 3) 0 [], .box 4 4 (.st 3) 0 []]⟩
noncomputable def fd76 : FD := ⟨76, bodyF Tryd.f76, Tryd.f76.results.toList, Tryd.f76.ntmps, [.val, .val], [.v (.st 3), .v (.int .i64)], [.v (.st 3), .v (.int .i64)], 2, [c76_0], 5000, none⟩
noncomputable def h76 : List (En D) := [E85, E86, E87]
noncomputable def G76 : YR D [.v (.st 3), .v (.int .i64)] → Option (YR D [.v (.st 3), .v (.int .i64)]) := sealF (Gof D fd76 (tabH D h76))
noncomputable def E76 : En D := ⟨76, [.val, .val], [.v (.st 3), .v (.int .i64)], [.v (.st 3), .v (.int .i64)], 2, G76⟩
noncomputable def F76 (x0 : S81) (x1 : Int) : Option (S81 × Int) := G76 (x0, x1)
noncomputable def L76 : LL D (YR D fd76.ts) := sealF (LiF D fd76 (tabH D h76))
noncomputable def L76_0 (v1 : Int) (v2 : S81) (v4 : S81) : Option (S81 × Int) := L76 c76_0 (v1, v2, v4, ())
theorem E76_ok : FnOk D PP E76 := fdS_ok lw fd76 (l := h76) (by kernel_rfl) (.cons E85_ok (.cons E86_ok (.cons E87_ok .nil))) Tryd.func76 (by kernel_rfl) (by kernel_rfl) (by kernel_rfl) (enters_of (c := bodyF Tryd.f76) Tryd.func76 (by kernel_rfl) (by kernel_rfl)) (by kernel_rfl) (by kernel_rfl)
/-- cmp.isNaN[uint64] -/
noncomputable def fd95 : FD := ⟨95, bodyF Tryd.f95, Tryd.f95.results.toList, Tryd.f95.ntmps, [.val], [.v (.int .u64)], [.v (.bool)], 1, [], 5000, none⟩
noncomputable def h95 : List (En D) := []
noncomputable def G95 : YR D [.v (.int .u64)] → Option (YR D [.v (.bool)]) := sealF (Gof D fd95 (tabH D h95))
noncomputable def E95 : En D := ⟨95, [.val], [.v (.int .u64)], [.v (.bool)], 1, G95⟩
noncomputable def F95 (x0 : Int) : Option (Bool) := G95 (x0)
theorem E95_ok : FnOk D PP E95 := fdS_ok lw fd95 (l := h95) (by kernel_rfl) (.nil) Tryd.func95 (by kernel_rfl) (by kernel_rfl) (by kernel_rfl) (enters_of (c := bodyF Tryd.f95) Tryd.func95 (by kernel_rfl) (by kernel_rfl)) (by kernel_rfl) (by kernel_rfl)
/-- cmp.Compare[uint64] -/
noncomputable def fd89 : FD := ⟨89, bodyF Tryd.f89, Tryd.f89.results.toList, Tryd.f89.ntmps, [.val, .val], [.v (.int .u64), .v (.int .u64)], [.v (.int .i64)], 1, [], 5000, none⟩
noncomputable def h89 : List (En D) := [E95]
noncomputable def G89 : YR D [.v (.int .u64), .v (.int .u64)] → Option (YR D [.v (.int .i64)]) := sealF (Gof D fd89 (tabH D h89))
noncomputable def E89 : En D := ⟨89, [.val, .val], [.v (.int .u64), .v (.int .u64)], [.v (.int .i64)], 1, G89⟩
noncomputable def F89 (x0 : Int) (x1 : Int) : Option (Int) := G89 (x0, x1)
theorem E89_ok : FnOk D PP E89 := fdS_ok lw fd89 (l := h89) (by kernel_rfl) (.cons E95_ok .nil) Tryd.func89 (by kernel_rfl) (by kernel_rfl) (by kernel_rfl) (enters_of (c := bodyF Tryd.f89) Tryd.func89 (by kernel_rfl) (by kernel_rfl)) (by kernel_rfl) (by kernel_rfl)
/-- cmp.Or[int] -/
def c88_0 : Cut := ⟨116, [.v 3 (.int .i64), .v 6 (.sl (.int .i64)), .v 7 (.int .i64), .v 8 (.int .i64)]⟩
noncomputable def fd88 : FD := ⟨88, bodyF Tryd.f88, Tryd.f88.results.toList, Tryd.f88.ntmps, [.val], [.v (.sl (.int .i64))], [.v (.int .i64)], 1, [c88_0], 5000, none⟩
noncomputable def h88 : List (En D) := []
noncomputable def G88 : YR D [.v (.sl (.int .i64))] → Option (YR D [.v (.int .i64)]) := sealF (Gof D fd88 (tabH D h88))
noncomputable def E88 : En D := ⟨88, [.val], [.v (.sl (.int .i64))], [.v (.int .i64)], 1, G88⟩
noncomputable def F88 (x0 : List Int) : Option (Int) := G88 (x0)
noncomputable def L88 : LL D (YR D fd88.ts) := sealF (LiF D fd88 (tabH D h88))
noncomputable def L88_0 (v3 : Int) (v6 : List Int) (v7 : Int) (v8 : Int) : Option (Int) := L88 c88_0 (v3, v6, v7, v8, ())
theorem E88_ok : FnOk D PP E88 := fdS_ok lw fd88 (l := h88) (by kernel_rfl) (.nil) Tryd.func88 (by kernel_rfl) (by kernel_rfl) (by kernel_rfl) (enters_of (c := bodyF Tryd.f88) Tryd.func88 (by kernel_rfl) (by kernel_rfl)) (by kernel_rfl) (by kernel_rfl)
/-- wide.Cmp -/
noncomputable def fd77 : FD := ⟨77, bodyF Tryd.f77, Tryd.f77.results.toList, Tryd.f77.ntmps, [.val, .val], [.v (.st 3), .v (.st 3)], [.v (.int .i64)], 1, [], 5000, none⟩
noncomputable def h77 : List (En D) := [E88, E89]
noncomputable def G77 : YR D [.v (.st 3), .v (.st 3)] → Option (YR D [.v (.int .i64)]) := sealF (Gof D fd77 (tabH D h77))
noncomputable def E77 : En D := ⟨77, [.val, .val], [.v (.st 3), .v (.st 3)], [.v (.int .i64)], 1, G77⟩
noncomputable def F77 (x0 : S81) (x1 : S81) : Option (Int) := G77 (x0, x1)
theorem E77_ok : FnOk D PP E77 := fdS_ok lw fd77 (l := h77) (by kernel_rfl) (.cons E88_ok (.cons E89_ok .nil)) Tryd.func77 (by kernel_rfl) (by kernel_rfl) (by kernel_rfl) (enters_of (c := bodyF Tryd.f77) Tryd.func77 (by kernel_rfl) (by kernel_rfl)) (by kernel_rfl) (by kernel_rfl)
/-- math/bits.Sub64 -/
noncomputable def G90 : YR D [.v (.int .u64), .v (.int .u64), .v (.int .u64)] → Option (YR D [.v (.int .u64), .v (.int .u64)]) := sealF fun x => bits_Sub64 x.1 x.2.1 x.2.2
noncomputable def E90 : En D := ⟨90, [.val, .val, .val], [.v (.int .u64), .v (.int .u64), .v (.int .u64)], [.v (.int .u64), .v (.int .u64)], 2, G90⟩
noncomputable def F90 (x0 : Int) (x1 : Int) (x2 : Int) : Option (Int × Int) := G90 (x0, x1, x2)
theorem F90_eq (x0 : Int) (x1 : Int) (x2 : Int) : F90 x0 x1 x2 = bits_Sub64 x0 x1 x2 := congrFun (sealF_eq _) (x0, x1, x2)
theorem E90_ok : FnOk D PP E90 := bits_Sub64_ok Tryd.func90 rfl rfl rfl rfl (by kernel_rfl)
/-- wide.Sub -/
noncomputable def fd78 : FD := ⟨78, bodyF Tryd.f78, Tryd.f78.results.toList, Tryd.f78.ntmps, [.val, .val], [.v (.st 3), .v (.st 3)], [.v (.st 3), .v (.int .i64)], 2, [], 5000, none⟩
noncomputable def h78 : List (En D) := [E90]
noncomputable def G78 : YR D [.v (.st 3), .v (.st 3)] → Option (YR D [.v (.st 3), .v (.int .i64)]) := sealF (Gof D fd78 (tabH D h78))
noncomputable def E78 : En D := ⟨78, [.val, .val], [.v (.st 3), .v (.st 3)], [.v (.st 3), .v (.int .i64)], 2, G78⟩
noncomputable def F78 (x0 : S81) (x1 : S81) : Option (S81 × Int) := G78 (x0, x1)
theorem E78_ok : FnOk D PP E78 := fdS_ok lw fd78 (l := h78) (by kernel_rfl) (.cons E90_ok .nil) Tryd.func78 (by kernel_rfl) (by kernel_rfl) (by kernel_rfl) (enters_of (c := bodyF Tryd.f78) Tryd.func78 (by kernel_rfl) (by kernel_rfl)) (by kernel_rfl) (by kernel_rfl)
/-- ratio.common -/
def c58_0 : Cut := ⟨504, [.box 2 2 (.st 3) 0 [], .box 3 3 (.st 3) 0 [], .box 4 4 (.st 3) 0 [], .v 5 (.int .i64)]⟩
def c58_1 : Cut := ⟨8075, [.box 2 2 (.st 3) 0 [], .box 3 3 (.st 3) 0 [], .box 4 4 (.st 3) 0 [], .v 5 (.int .i64)]⟩
noncomputable def fd58 : FD := ⟨58, bodyF Tryd.f58, Tryd.f58.results.toList, Tryd.f58.ntmps, [.val, .val], [.v (.st 3), .v (.st 3)], [.v (.st 3)], 1, [c58_0, c58_1], 5000, none⟩
noncomputable def h58 : List (En D) := [E75, E76, E77, E78]
noncomputable def G58 : YR D [.v (.st 3), .v (.st 3)] → Option (YR D [.v (.st 3)]) := sealF (Gof D fd58 (tabH D h58))
noncomputable def E58 : En D := ⟨58, [.val, .val], [.v (.st 3), .v (.st 3)], [.v (.st 3)], 1, G58⟩
noncomputable def F58 (x0 : S81) (x1 : S81) : Option (S81) := G58 (x0, x1)
noncomputable def L58 : LL D (YR D fd58.ts) := sealF (LiF D fd58 (tabH D h58))
noncomputable def L58_0 (v2 : S81) (v3 : S81) (v4 : S81) (v5 : Int) : Option (S81) := L58 c58_0 (v2, v3, v4, v5, ())
noncomputable def L58_1 (v2 : S81) (v3 : S81) (v4 : S81) (v5 : Int) : Option (S81) := L58 c58_1 (v2, v3, v4, v5, ())
theorem E58_ok : FnOk D PP E58 := fdS_ok lw fd58 (l := h58) (by kernel_rfl) (.cons E75_ok (.cons E76_ok (.cons E77_ok (.cons E78_ok .nil)))) Tryd.func58 (by kernel_rfl) (by kernel_rfl) (by kernel_rfl) (enters_of (c := bodyF Tryd.f58) Tryd.func58 (by kernel_rfl) (by kernel_rfl)) (by kernel_rfl) (by kernel_rfl)
/-- ratio.May -/
noncomputable def fd33 : FD := ⟨33, bodyF Tryd.f33, Tryd.f33.results.toList, Tryd.f33.ntmps, [.val], [.v (.st 1)], [.v (.bool)], 1, [], 5000, none⟩
noncomputable def h33 : List (En D) := [E58, E59, E60]
noncomputable def G33 : YR D [.v (.st 1)] → Option (YR D [.v (.bool)]) := sealF (Gof D fd33 (tabH D h33))
noncomputable def E33 : En D := ⟨33, [.val], [.v (.st 1)], [.v (.bool)], 1, G33⟩
noncomputable def F33 (x0 : S24) : Option (Bool) := G33 (x0)
theorem E33_ok : FnOk D PP E33 := fdS_ok lw fd33 (l := h33) (by kernel_rfl) (.cons E58_ok (.cons E59_ok (.cons E60_ok .nil))) Tryd.func33 (by kernel_rfl) (by kernel_rfl) (by kernel_rfl) (enters_of (c := bodyF Tryd.f33) Tryd.func33 (by kernel_rfl) (by kernel_rfl)) (by kernel_rfl) (by kernel_rfl)
/-- poly.value -/
def c34_0 : Cut := ⟨500, [.v 0 (.sl (.st 0)), .box 4 4 (.st 0) 0 [], .box 5 5 (.st 0) 0 [], .box 6 6 (.st 0) 0 [], .box 7 7 (.st 0) 0 [], .box 8 8 (.st 0) 0 [], .v 9 (.int .i64)]⟩
noncomputable def fd34 : FD := ⟨34, bodyF Tryd.f34, Tryd.f34.results.toList, Tryd.f34.ntmps, [.val, .val], [.v (.sl (.st 0)), .v (.st 1)], [.v (.st 0)], 1, [c34_0], 5000, none⟩
noncomputable def h34 : List (En D) := [E44, E47, E53, E54]
noncomputable def G34 : YR D [.v (.sl (.st 0)), .v (.st 1)] → Option (YR D [.v (.st 0)]) := sealF (Gof D fd34 (tabH D h34))
noncomputable def E34 : En D := ⟨34, [.val, .val], [.v (.sl (.st 0)), .v (.st 1)], [.v (.st 0)], 1, G34⟩
noncomputable def F34 (x0 : List S31) (x1 : S24) : Option (S31) := G34 (x0, x1)
noncomputable def L34 : LL D (YR D fd34.ts) := sealF (LiF D fd34 (tabH D h34))
noncomputable def L34_0 (v0 : List S31) (v4 : S31) (v5 : S31) (v6 : S31) (v7 : S31) (v8 : S31) (v9 : Int) : Option (S31) := L34 c34_0 (v0, v4, v5, v6, v7, v8, v9, ())
theorem E34_ok : FnOk D PP E34 := fdS_ok lw fd34 (l := h34) (by kernel_rfl) (.cons E44_ok (.cons E47_ok (.cons E53_ok (.cons E54_ok .nil)))) Tryd.func34 (by kernel_rfl) (by kernel_rfl) (by kernel_rfl) (enters_of (c := bodyF Tryd.f34) Tryd.func34 (by kernel_rfl) (by kernel_rfl)) (by kernel_rfl) (by kernel_rfl)
/-- big.size -/
noncomputable def fd80 : FD := ⟨80, bodyF Tryd.f80, Tryd.f80.results.toList, Tryd.f80.ntmps, [.val], [.v (.int .i64)], [.v (.int .u64)], 1, [], 5000, none⟩
noncomputable def h80 : List (En D) := []
noncomputable def G80 : YR D [.v (.int .i64)] → Option (YR D [.v (.int .u64)]) := sealF (Gof D fd80 (tabH D h80))
noncomputable def E80 : En D := ⟨80, [.val], [.v (.int .i64)], [.v (.int .u64)], 1, G80⟩
noncomputable def F80 (x0 : Int) : Option (Int) := G80 (x0)
theorem E80_ok : FnOk D PP E80 := fdS_ok lw fd80 (l := h80) (by kernel_rfl) (.nil) Tryd.func80 (by kernel_rfl) (by kernel_rfl) (by kernel_rfl) (enters_of (c := bodyF Tryd.f80) Tryd.func80 (by kernel_rfl) (by kernel_rfl)) (by kernel_rfl) (by kernel_rfl)
/-- math/bits.LeadingZeros64 -/
noncomputable def fd91 : FD := ⟨91, bodyF Tryd.f91, Tryd.f91.results.toList, Tryd.f91.ntmps, [.val], [.v (.int .u64)], [.v (.int .i64)], 1, [], 5000, none⟩
noncomputable def h91 : List (En D) := [E94]
noncomputable def G91 : YR D [.v (.int .u64)] → Option (YR D [.v (.int .i64)]) := sealF (Gof D fd91 (tabH D h91))
noncomputable def E91 : En D := ⟨91, [.val], [.v (.int .u64)], [.v (.int .i64)], 1, G91⟩
noncomputable def F91 (x0 : Int) : Option (Int) := G91 (x0)
theorem E91_ok : FnOk D PP E91 := fdS_ok lw fd91 (l := h91) (by kernel_rfl) (.cons E94_ok .nil) Tryd.func91 (by kernel_rfl) (by kernel_rfl) (by kernel_rfl) (enters_of (c := bodyF Tryd.f91) Tryd.func91 (by kernel_rfl) (by kernel_rfl)) (by kernel_rfl) (by kernel_rfl)
/-- math/bits.Div64 -/
def c79_0 : Cut := ⟨7, [.v 0 (.int .u64), .v 1 (.int .u64), .v 2 (.int .u64)]⟩
def c79_1 : Cut := ⟨15, [.v 0 (.int .u64), .v 1 (.int .u64), .v 2 (.int .u64)]⟩
def c79_2 : Cut := ⟨65535, [.v 2 (.int .u64), .v 8 (.int .u64), .v 9 (.int .u64), .v 10 (.int .u64), .v 11 (.int .u64), .v 13 (.int .u64), .v 14 (.int .u64), .v 15 (.int .u64)]⟩
def c79_3 : Cut := ⟨262136, [.v 2 (.int .u64), .v 8 (.int .u64), .v 9 (.int .u64), .v 10 (.int .u64), .v 11 (.int .u64), .v 13 (.int .u64), .v 14 (.int .u64), .v 15 (.int .u64), .v 16 (.int .u64)]⟩
def c79_4 : Cut := ⟨524273, [.v 2 (.int .u64), .v 8 (.int .u64), .v 9 (.int .u64), .v 10 (.int .u64), .v 11 (.int .u64), .v 13 (.int .u64), .v 14 (.int .u64), .v 15 (.int .u64), .v 16 (.int .u64)]⟩
def c79_5 : Cut := ⟨1048575, [.v 2 (.int .u64), .v 8 (.int .u64), .v 14 (.int .u64), .v 15 (.int .u64), .v 17 (.int .u64), .v 18 (.int .u64)]⟩
def c79_6 : Cut := ⟨4194296, [.v 2 (.int .u64), .v 8 (.int .u64), .v 9 (.int .u64), .v 10 (.int .u64), .v 14 (.int .u64), .v 15 (.int .u64), .v 16 (.int .u64), .v 17 (.int .u64), .v 18 (.int .u64)]⟩
def c79_7 : Cut := ⟨8388593, [.v 2 (.int .u64), .v 8 (.int .u64), .v 9 (.int .u64), .v 10 (.int .u64), .v 14 (.int .u64), .v 15 (.int .u64), .v 16 (.int .u64), .v 17 (.int .u64), .v 18 (.int .u64)]⟩
noncomputable def fd79 : FD := ⟨79, bodyF Tryd.f79, Tryd.f79.results.toList, Tryd.f79.ntmps, [.val, .val, .val], [.v (.int .u64), .v (.int .u64), .v (.int .u64)], [.v (.int .u64), .v (.int .u64)], 2, [c79_0, c79_1, c79_2, c79_3, c79_4, c79_5, c79_6, c79_7], 5000, none⟩
noncomputable def h79 : List (En D) := [E91]
noncomputable def G79 : YR D [.v (.int .u64), .v (.int .u64), .v (.int .u64)] → Option (YR D [.v (.int .u64), .v (.int .u64)]) := sealF (Gof D fd79 (tabH D h79))
noncomputable def E79 : En D := ⟨79, [.val, .val, .val], [.v (.int .u64), .v (.int .u64), .v (.int .u64)], [.v (.int .u64), .v (.int .u64)], 2, G79⟩
noncomputable def F79 (x0 : Int) (x1 : Int) (x2 : Int) : Option (Int × Int) := G79 (x0, x1, x2)
noncomputable def L79 : LL D (YR D fd79.ts) := sealF (LiF D fd79 (tabH D h79))
noncomputable def L79_0 (v0 : Int) (v1 : Int) (v2 : Int) : Option (Int × Int) := L79 c79_0 (v0, v1, v2, ())
noncomputable def L79_1 (v0 : Int) (v1 : Int) (v2 : Int) : Option (Int × Int) := L79 c79_1 (v0, v1, v2, ())
noncomputable def L79_2 (v2 : Int) (v8 : Int) (v9 : Int) (v10 : Int) (v11 : Int) (v13 : Int) (v14 : Int) (v15 : Int) : Option (Int × Int) := L79 c79_2 (v2, v8, v9, v10, v11, v13, v14, v15, ())
noncomputable def L79_3 (v2 : Int) (v8 : Int) (v9 : Int) (v10 : Int) (v11 : Int) (v13 : Int) (v14 : Int) (v15 : Int) (v16 : Int) : Option (Int × Int) := L79 c79_3 (v2, v8, v9, v10, v11, v13, v14, v15, v16, ())
noncomputable def L79_4 (v2 : Int) (v8 : Int) (v9 : Int) (v10 : Int) (v11 : Int) (v13 : Int) (v14 : Int) (v15 : Int) (v16 : Int) : Option (Int × Int) := L79 c79_4 (v2, v8, v9, v10, v11, v13, v14, v15, v16, ())
noncomputable def L79_5 (v2 : Int) (v8 : Int) (v14 : Int) (v15 : Int) (v17 : Int) (v18 : Int) : Option (Int × Int) := L79 c79_5 (v2, v8, v14, v15, v17, v18, ())
noncomputable def L79_6 (v2 : Int) (v8 : Int) (v9 : Int) (v10 : Int) (v14 : Int) (v15 : Int) (v16 : Int) (v17 : Int) (v18 : Int) : Option (Int × Int) := L79 c79_6 (v2, v8, v9, v10, v14, v15, v16, v17, v18, ())
noncomputable def L79_7 (v2 : Int) (v8 : Int) (v9 : Int) (v10 : Int) (v14 : Int) (v15 : Int) (v16 : Int) (v17 : Int) (v18 : Int) : Option (Int × Int) := L79 c79_7 (v2, v8, v9, v10, v14, v15, v16, v17, v18, ())
theorem E79_ok : FnOk D PP E79 := fdS_ok lw fd79 (l := h79) (by kernel_rfl) (.cons E91_ok .nil) Tryd.func79 (by kernel_rfl) (by kernel_rfl) (by kernel_rfl) (enters_of (c := bodyF Tryd.f79) Tryd.func79 (by kernel_rfl) (by kernel_rfl)) (by kernel_rfl) (by kernel_rfl)
/-- big.Div -/
def c62_0 : Cut := ⟨127, [.v 1 (.int .i64), .box 2 2 (.st 0) 0 [], .box 4 4 (.st 0) 0 [], .own 7 (.int .u32), .v 8 (.int .u64)]⟩
def c62_1 : Cut := ⟨500, [.v 1 (.int .i64), .box 2 2 (.st 0) 0 [], .box 4 4 (.st 0) 0 [], .own 7 (.int .u32), .v 8 (.int .u64), .v 9 (.int .i64)]⟩
noncomputable def fd62 : FD := ⟨62, bodyF Tryd.f62, Tryd.f62.results.toList, Tryd.f62.ntmps, [.val, .val], [.v (.st 0), .v (.int .i64)], [.v (.st 0), .v (.int .i64), .v (.int .i64)], 3, [c62_0, c62_1], 5000, none⟩
noncomputable def h62 : List (En D) := [E69, E70, E79, E80]
noncomputable def G62 : YR D [.v (.st 0), .v (.int .i64)] → Option (YR D [.v (.st 0), .v (.int .i64), .v (.int .i64)]) := sealF (Gof D fd62 (tabH D h62))
noncomputable def E62 : En D := ⟨62, [.val, .val], [.v (.st 0), .v (.int .i64)], [.v (.st 0), .v (.int .i64), .v (.int .i64)], 3, G62⟩
noncomputable def F62 (x0 : S31) (x1 : Int) : Option (S31 × Int × Int) := G62 (x0, x1)
noncomputable def L62 : LL D (YR D fd62.ts) := sealF (LiF D fd62 (tabH D h62))
noncomputable def L62_0 (v1 : Int) (v2 : S31) (v4 : S31) (v7 : List Int) (v8 : Int) : Option (S31 × Int × Int) := L62 c62_0 (v1, v2, v4, v7, v8, ())
noncomputable def L62_1 (v1 : Int) (v2 : S31) (v4 : S31) (v7 : List Int) (v8 : Int) (v9 : Int) : Option (S31 × Int × Int) := L62 c62_1 (v1, v2, v4, v7, v8, v9, ())
theorem E62_ok : FnOk D PP E62 := fdS_ok lw fd62 (l := h62) (by kernel_rfl) (.cons E69_ok (.cons E70_ok (.cons E79_ok (.cons E80_ok .nil)))) Tryd.func62 (by kernel_rfl) (by kernel_rfl) (by kernel_rfl) (enters_of (c := bodyF Tryd.f62) Tryd.func62 (by kernel_rfl) (by kernel_rfl)) (by kernel_rfl) (by kernel_rfl)
/-- poly.parted -/
def c36_0 : Cut := ⟨244, [.v 0 (.sl (.st 0)), .box 3 3 (.st 1) 0 [], .own 5 (.st 0), .box 6 6 (.st 0) 0 [], .v 7 (.int .i64)]⟩
noncomputable def fd36 : FD := ⟨36, bodyF Tryd.f36, Tryd.f36.results.toList, Tryd.f36.ntmps, [.val, .val], [.v (.sl (.st 0)), .v (.st 1)], [.v (.sl (.st 0))], 1, [c36_0], 5000, none⟩
noncomputable def h36 : List (En D) := [E44, E47, E53, E54, E62]
noncomputable def G36 : YR D [.v (.sl (.st 0)), .v (.st 1)] → Option (YR D [.v (.sl (.st 0))]) := sealF (Gof D fd36 (tabH D h36))
noncomputable def E36 : En D := ⟨36, [.val, .val], [.v (.sl (.st 0)), .v (.st 1)], [.v (.sl (.st 0))], 1, G36⟩
noncomputable def F36 (x0 : List S31) (x1 : S24) : Option (List S31) := G36 (x0, x1)
noncomputable def L36 : LL D (YR D fd36.ts) := sealF (LiF D fd36 (tabH D h36))
noncomputable def L36_0 (v0 : List S31) (v3 : S24) (v5 : List S31) (v6 : S31) (v7 : Int) : Option (List S31) := L36 c36_0 (v0, v3, v5, v6, v7, ())
theorem E36_ok : FnOk D PP E36 := fdS_ok lw fd36 (l := h36) (by kernel_rfl) (.cons E44_ok (.cons E47_ok (.cons E53_ok (.cons E54_ok (.cons E62_ok .nil))))) Tryd.func36 (by kernel_rfl) (by kernel_rfl) (by kernel_rfl) (enters_of (c := bodyF Tryd.f36) Tryd.func36 (by kernel_rfl) (by kernel_rfl)) (by kernel_rfl) (by kernel_rfl)
/-- poly.Without -/
def c11_0 : Cut := ⟨248, [.v 0 (.sl (.st 0)), .box 3 3 (.st 1) 0 [], .v 7 (.int .i64)]⟩
def c11_1 : Cut := ⟨497, [.v 0 (.sl (.st 0)), .box 3 3 (.st 1) 0 [], .v 7 (.int .i64)]⟩
noncomputable def fd11 : FD := ⟨11, bodyF Tryd.f11, Tryd.f11.results.toList, Tryd.f11.ntmps, [.val, .val], [.v (.sl (.st 0)), .v (.st 1)], [.v (.sl (.st 0)), .v (.int .i64), .v (.int .i64)], 3, [c11_0, c11_1], 5000, none⟩
noncomputable def h11 : List (En D) := [E24, E33, E34, E35, E36]
noncomputable def G11 : YR D [.v (.sl (.st 0)), .v (.st 1)] → Option (YR D [.v (.sl (.st 0)), .v (.int .i64), .v (.int .i64)]) := sealF (Gof D fd11 (tabH D h11))
noncomputable def E11 : En D := ⟨11, [.val, .val], [.v (.sl (.st 0)), .v (.st 1)], [.v (.sl (.st 0)), .v (.int .i64), .v (.int .i64)], 3, G11⟩
noncomputable def F11 (x0 : List S31) (x1 : S24) : Option (List S31 × Int × Int) := G11 (x0, x1)
noncomputable def L11 : LL D (YR D fd11.ts) := sealF (LiF D fd11 (tabH D h11))
noncomputable def L11_0 (v0 : List S31) (v3 : S24) (v7 : Int) : Option (List S31 × Int × Int) := L11 c11_0 (v0, v3, v7, ())
noncomputable def L11_1 (v0 : List S31) (v3 : S24) (v7 : Int) : Option (List S31 × Int × Int) := L11 c11_1 (v0, v3, v7, ())
theorem E11_ok : FnOk D PP E11 := fdS_ok lw fd11 (l := h11) (by kernel_rfl) (.cons E24_ok (.cons E33_ok (.cons E34_ok (.cons E35_ok (.cons E36_ok .nil))))) Tryd.func11 (by kernel_rfl) (by kernel_rfl) (by kernel_rfl) (enters_of (c := bodyF Tryd.f11) Tryd.func11 (by kernel_rfl) (by kernel_rfl)) (by kernel_rfl) (by kernel_rfl)
/-- poly.At -/
noncomputable def fd10 : FD := ⟨10, bodyF Tryd.f10, Tryd.f10.results.toList, Tryd.f10.ntmps, [.val, .val], [.v (.sl (.st 0)), .v (.st 1)], [.v (.st 0), .v (.int .i64)], 2, [], 5000, none⟩
noncomputable def h10 : List (En D) := [E33, E34]
noncomputable def G10 : YR D [.v (.sl (.st 0)), .v (.st 1)] → Option (YR D [.v (.st 0), .v (.int .i64)]) := sealF (Gof D fd10 (tabH D h10))
noncomputable def E10 : En D := ⟨10, [.val, .val], [.v (.sl (.st 0)), .v (.st 1)], [.v (.st 0), .v (.int .i64)], 2, G10⟩
noncomputable def F10 (x0 : List S31) (x1 : S24) : Option (S31 × Int) := G10 (x0, x1)
theorem E10_ok : FnOk D PP E10 := fdS_ok lw fd10 (l := h10) (by kernel_rfl) (.cons E33_ok (.cons E34_ok .nil)) Tryd.func10 (by kernel_rfl) (by kernel_rfl) (by kernel_rfl) (enters_of (c := bodyF Tryd.f10) Tryd.func10 (by kernel_rfl) (by kernel_rfl)) (by kernel_rfl) (by kernel_rfl)
/-- poly.Degree -/
noncomputable def fd21 : FD := ⟨21, bodyF Tryd.f21, Tryd.f21.results.toList, Tryd.f21.ntmps, [.val], [.v (.sl (.st 0))], [.v (.int .i64)], 1, [], 5000, none⟩
noncomputable def h21 : List (En D) := [E44]
noncomputable def G21 : YR D [.v (.sl (.st 0))] → Option (YR D [.v (.int .i64)]) := sealF (Gof D fd21 (tabH D h21))
noncomputable def E21 : En D := ⟨21, [.val], [.v (.sl (.st 0))], [.v (.int .i64)], 1, G21⟩
noncomputable def F21 (x0 : List S31) : Option (Int) := G21 (x0)
theorem E21_ok : FnOk D PP E21 := fdS_ok lw fd21 (l := h21) (by kernel_rfl) (.cons E44_ok .nil) Tryd.func21 (by kernel_rfl) (by kernel_rfl) (by kernel_rfl) (enters_of (c := bodyF Tryd.f21) Tryd.func21 (by kernel_rfl) (by kernel_rfl)) (by kernel_rfl) (by kernel_rfl)
/-- pochoirlaw05.awake -/
noncomputable def fd7 : FD := ⟨7, bodyF Tryd.f7, Tryd.f7.results.toList, Tryd.f7.ntmps, [], [], [.v (.bool)], 1, [], 5000, none⟩
noncomputable def h7 : List (En D) := [E10, E11, E18, E20, E21]
noncomputable def G7 : YR D [] → Option (YR D [.v (.bool)]) := sealF (Gof D fd7 (tabH D h7))
noncomputable def E7 : En D := ⟨7, [], [], [.v (.bool)], 1, G7⟩
noncomputable def F7 : Option (Bool) := G7 ()
theorem E7_ok : FnOk D PP E7 := fdS_ok lw fd7 (l := h7) (by kernel_rfl) (.cons E10_ok (.cons E11_ok (.cons E18_ok (.cons E20_ok (.cons E21_ok .nil))))) Tryd.func7 (by kernel_rfl) (by kernel_rfl) (by kernel_rfl) (enters_of (c := bodyF Tryd.f7) Tryd.func7 (by kernel_rfl) (by kernel_rfl)) (by kernel_rfl) (by kernel_rfl)
/-- pochoirlaw05.Small -/
def c8_0 : Cut := ⟨116, [.v 8 (.sl (.st 0)), .v 9 (.int .i64), .v 10 (.int .i64)]⟩
noncomputable def fd8 : FD := ⟨8, bodyF Tryd.f8, Tryd.f8.results.toList, Tryd.f8.ntmps, [.val], [.v (.sl (.st 0))], [.v (.bool)], 1, [c8_0], 5000, none⟩
noncomputable def h8 : List (En D) := []
noncomputable def G8 : YR D [.v (.sl (.st 0))] → Option (YR D [.v (.bool)]) := sealF (Gof D fd8 (tabH D h8))
noncomputable def E8 : En D := ⟨8, [.val], [.v (.sl (.st 0))], [.v (.bool)], 1, G8⟩
noncomputable def F8 (x0 : List S31) : Option (Bool) := G8 (x0)
noncomputable def L8 : LL D (YR D fd8.ts) := sealF (LiF D fd8 (tabH D h8))
noncomputable def L8_0 (v8 : List S31) (v9 : Int) (v10 : Int) : Option (Bool) := L8 c8_0 (v8, v9, v10, ())
theorem E8_ok : FnOk D PP E8 := fdS_ok lw fd8 (l := h8) (by kernel_rfl) (.nil) Tryd.func8 (by kernel_rfl) (by kernel_rfl) (by kernel_rfl) (enters_of (c := bodyF Tryd.f8) Tryd.func8 (by kernel_rfl) (by kernel_rfl)) (by kernel_rfl) (by kernel_rfl)
/-- pochoirref02.trim -/
def c74_0 : Cut := ⟨56, [.v 0 (.sl (.int .u64)), .v 3 (.int .i64)]⟩
noncomputable def fd74 : FD := ⟨74, bodyF Tryd.f74, Tryd.f74.results.toList, Tryd.f74.ntmps, [.val], [.v (.sl (.int .u64))], [.v (.sl (.int .u64))], 1, [c74_0], 5000, none⟩
noncomputable def h74 : List (En D) := []
noncomputable def G74 : YR D [.v (.sl (.int .u64))] → Option (YR D [.v (.sl (.int .u64))]) := sealF (Gof D fd74 (tabH D h74))
noncomputable def E74 : En D := ⟨74, [.val], [.v (.sl (.int .u64))], [.v (.sl (.int .u64))], 1, G74⟩
noncomputable def F74 (x0 : List Int) : Option (List Int) := G74 (x0)
noncomputable def L74 : LL D (YR D fd74.ts) := sealF (LiF D fd74 (tabH D h74))
noncomputable def L74_0 (v0 : List Int) (v3 : Int) : Option (List Int) := L74 c74_0 (v0, v3, ())
theorem E74_ok : FnOk D PP E74 := fdS_ok lw fd74 (l := h74) (by kernel_rfl) (.nil) Tryd.func74 (by kernel_rfl) (by kernel_rfl) (by kernel_rfl) (enters_of (c := bodyF Tryd.f74) Tryd.func74 (by kernel_rfl) (by kernel_rfl)) (by kernel_rfl) (by kernel_rfl)
/-- pochoirref02.norm -/
noncomputable def fd57 : FD := ⟨57, bodyF Tryd.f57, Tryd.f57.results.toList, Tryd.f57.ntmps, [.val, .val], [.v (.bool), .v (.sl (.int .u64))], [.v (.st 2)], 1, [], 5000, none⟩
noncomputable def h57 : List (En D) := [E74]
noncomputable def G57 : YR D [.v (.bool), .v (.sl (.int .u64))] → Option (YR D [.v (.st 2)]) := sealF (Gof D fd57 (tabH D h57))
noncomputable def E57 : En D := ⟨57, [.val, .val], [.v (.bool), .v (.sl (.int .u64))], [.v (.st 2)], 1, G57⟩
noncomputable def F57 (x0 : Bool) (x1 : List Int) : Option (S42) := G57 (x0, x1)
theorem E57_ok : FnOk D PP E57 := fdS_ok lw fd57 (l := h57) (by kernel_rfl) (.cons E74_ok .nil) Tryd.func57 (by kernel_rfl) (by kernel_rfl) (by kernel_rfl) (enters_of (c := bodyF Tryd.f57) Tryd.func57 (by kernel_rfl) (by kernel_rfl)) (by kernel_rfl) (by kernel_rfl)
/-- pochoirref02.From -/
def c31_0 : Cut := ⟨116, [.box 1 1 (.st 0) 0 [], .box 2 2 (.st 2) 0 [], .own 3 (.int .u64), .v 4 (.int .i64)]⟩
noncomputable def fd31 : FD := ⟨31, bodyF Tryd.f31, Tryd.f31.results.toList, Tryd.f31.ntmps, [.val], [.v (.st 0)], [.v (.st 2)], 1, [c31_0], 5000, none⟩
noncomputable def h31 : List (En D) := [E57]
noncomputable def G31 : YR D [.v (.st 0)] → Option (YR D [.v (.st 2)]) := sealF (Gof D fd31 (tabH D h31))
noncomputable def E31 : En D := ⟨31, [.val], [.v (.st 0)], [.v (.st 2)], 1, G31⟩
noncomputable def F31 (x0 : S31) : Option (S42) := G31 (x0)
noncomputable def L31 : LL D (YR D fd31.ts) := sealF (LiF D fd31 (tabH D h31))
noncomputable def L31_0 (v1 : S31) (v2 : S42) (v3 : List Int) (v4 : Int) : Option (S42) := L31 c31_0 (v1, v2, v3, v4, ())
theorem E31_ok : FnOk D PP E31 := fdS_ok lw fd31 (l := h31) (by kernel_rfl) (.cons E57_ok .nil) Tryd.func31 (by kernel_rfl) (by kernel_rfl) (by kernel_rfl) (enters_of (c := bodyF Tryd.f31) Tryd.func31 (by kernel_rfl) (by kernel_rfl)) (by kernel_rfl) (by kernel_rfl)
/-- pochoirref02.Sign -/
noncomputable def fd42 : FD := ⟨42, bodyF Tryd.f42, Tryd.f42.results.toList, Tryd.f42.ntmps, [.val], [.v (.st 2)], [.v (.int .i64)], 1, [], 5000, none⟩
noncomputable def h42 : List (En D) := []
noncomputable def G42 : YR D [.v (.st 2)] → Option (YR D [.v (.int .i64)]) := sealF (Gof D fd42 (tabH D h42))
noncomputable def E42 : En D := ⟨42, [.val], [.v (.st 2)], [.v (.int .i64)], 1, G42⟩
noncomputable def F42 (x0 : S42) : Option (Int) := G42 (x0)
theorem E42_ok : FnOk D PP E42 := fdS_ok lw fd42 (l := h42) (by kernel_rfl) (.nil) Tryd.func42 (by kernel_rfl) (by kernel_rfl) (by kernel_rfl) (enters_of (c := bodyF Tryd.f42) Tryd.func42 (by kernel_rfl) (by kernel_rfl)) (by kernel_rfl) (by kernel_rfl)
/-- pochoirref05.Trim -/
def c32_0 : Cut := ⟨56, [.v 0 (.sl (.st 2)), .v 3 (.int .i64)]⟩
noncomputable def fd32 : FD := ⟨32, bodyF Tryd.f32, Tryd.f32.results.toList, Tryd.f32.ntmps, [.val], [.v (.sl (.st 2))], [.v (.sl (.st 2))], 1, [c32_0], 5000, none⟩
noncomputable def h32 : List (En D) := [E42]
noncomputable def G32 : YR D [.v (.sl (.st 2))] → Option (YR D [.v (.sl (.st 2))]) := sealF (Gof D fd32 (tabH D h32))
noncomputable def E32 : En D := ⟨32, [.val], [.v (.sl (.st 2))], [.v (.sl (.st 2))], 1, G32⟩
noncomputable def F32 (x0 : List S42) : Option (List S42) := G32 (x0)
noncomputable def L32 : LL D (YR D fd32.ts) := sealF (LiF D fd32 (tabH D h32))
noncomputable def L32_0 (v0 : List S42) (v3 : Int) : Option (List S42) := L32 c32_0 (v0, v3, ())
theorem E32_ok : FnOk D PP E32 := fdS_ok lw fd32 (l := h32) (by kernel_rfl) (.cons E42_ok .nil) Tryd.func32 (by kernel_rfl) (by kernel_rfl) (by kernel_rfl) (enters_of (c := bodyF Tryd.f32) Tryd.func32 (by kernel_rfl) (by kernel_rfl)) (by kernel_rfl) (by kernel_rfl)
/-- pochoirref05.From -/
def c9_0 : Cut := ⟨116, [.v 0 (.sl (.st 0)), .own 3 (.st 2), .v 4 (.int .i64)]⟩
noncomputable def fd9 : FD := ⟨9, bodyF Tryd.f9, Tryd.f9.results.toList, Tryd.f9.ntmps, [.val], [.v (.sl (.st 0))], [.v (.sl (.st 2))], 1, [c9_0], 5000, none⟩
noncomputable def h9 : List (En D) := [E31, E32]
noncomputable def G9 : YR D [.v (.sl (.st 0))] → Option (YR D [.v (.sl (.st 2))]) := sealF (Gof D fd9 (tabH D h9))
noncomputable def E9 : En D := ⟨9, [.val], [.v (.sl (.st 0))], [.v (.sl (.st 2))], 1, G9⟩
noncomputable def F9 (x0 : List S31) : Option (List S42) := G9 (x0)
noncomputable def L9 : LL D (YR D fd9.ts) := sealF (LiF D fd9 (tabH D h9))
noncomputable def L9_0 (v0 : List S31) (v3 : List S42) (v4 : Int) : Option (List S42) := L9 c9_0 (v0, v3, v4, ())
theorem E9_ok : FnOk D PP E9 := fdS_ok lw fd9 (l := h9) (by kernel_rfl) (.cons E31_ok (.cons E32_ok .nil)) Tryd.func9 (by kernel_rfl) (by kernel_rfl) (by kernel_rfl) (enters_of (c := bodyF Tryd.f9) Tryd.func9 (by kernel_rfl) (by kernel_rfl)) (by kernel_rfl) (by kernel_rfl)
/-- pochoirref03.size -/
noncomputable def fd64 : FD := ⟨64, bodyF Tryd.f64, Tryd.f64.results.toList, Tryd.f64.ntmps, [.val], [.v (.int .i64)], [.v (.int .u64)], 1, [], 5000, none⟩
noncomputable def h64 : List (En D) := []
noncomputable def G64 : YR D [.v (.int .i64)] → Option (YR D [.v (.int .u64)]) := sealF (Gof D fd64 (tabH D h64))
noncomputable def E64 : En D := ⟨64, [.val], [.v (.int .i64)], [.v (.int .u64)], 1, G64⟩
noncomputable def F64 (x0 : Int) : Option (Int) := G64 (x0)
theorem E64_ok : FnOk D PP E64 := fdS_ok lw fd64 (l := h64) (by kernel_rfl) (.nil) Tryd.func64 (by kernel_rfl) (by kernel_rfl) (by kernel_rfl) (enters_of (c := bodyF Tryd.f64) Tryd.func64 (by kernel_rfl) (by kernel_rfl)) (by kernel_rfl) (by kernel_rfl)
/-- pochoirref03.common -/
def c63_0 : Cut := ⟨24, [.v 0 (.int .u64), .v 1 (.int .u64)]⟩
noncomputable def fd63 : FD := ⟨63, bodyF Tryd.f63, Tryd.f63.results.toList, Tryd.f63.ntmps, [.val, .val], [.v (.int .u64), .v (.int .u64)], [.v (.int .u64)], 1, [c63_0], 5000, none⟩
noncomputable def h63 : List (En D) := []
noncomputable def G63 : YR D [.v (.int .u64), .v (.int .u64)] → Option (YR D [.v (.int .u64)]) := sealF (Gof D fd63 (tabH D h63))
noncomputable def E63 : En D := ⟨63, [.val, .val], [.v (.int .u64), .v (.int .u64)], [.v (.int .u64)], 1, G63⟩
noncomputable def F63 (x0 : Int) (x1 : Int) : Option (Int) := G63 (x0, x1)
noncomputable def L63 : LL D (YR D fd63.ts) := sealF (LiF D fd63 (tabH D h63))
noncomputable def L63_0 (v0 : Int) (v1 : Int) : Option (Int) := L63 c63_0 (v0, v1, ())
theorem E63_ok : FnOk D PP E63 := fdS_ok lw fd63 (l := h63) (by kernel_rfl) (.nil) Tryd.func63 (by kernel_rfl) (by kernel_rfl) (by kernel_rfl) (enters_of (c := bodyF Tryd.f63) Tryd.func63 (by kernel_rfl) (by kernel_rfl)) (by kernel_rfl) (by kernel_rfl)
/-- pochoirref03.May -/
noncomputable def fd37 : FD := ⟨37, bodyF Tryd.f37, Tryd.f37.results.toList, Tryd.f37.ntmps, [.val], [.v (.st 1)], [.v (.bool)], 1, [], 5000, none⟩
noncomputable def h37 : List (En D) := [E63, E64]
noncomputable def G37 : YR D [.v (.st 1)] → Option (YR D [.v (.bool)]) := sealF (Gof D fd37 (tabH D h37))
noncomputable def E37 : En D := ⟨37, [.val], [.v (.st 1)], [.v (.bool)], 1, G37⟩
noncomputable def F37 (x0 : S24) : Option (Bool) := G37 (x0)
theorem E37_ok : FnOk D PP E37 := fdS_ok lw fd37 (l := h37) (by kernel_rfl) (.cons E63_ok (.cons E64_ok .nil)) Tryd.func37 (by kernel_rfl) (by kernel_rfl) (by kernel_rfl) (enters_of (c := bodyF Tryd.f37) Tryd.func37 (by kernel_rfl) (by kernel_rfl)) (by kernel_rfl) (by kernel_rfl)
/-- pochoirref05.May -/
noncomputable def fd12 : FD := ⟨12, bodyF Tryd.f12, Tryd.f12.results.toList, Tryd.f12.ntmps, [.val], [.v (.st 1)], [.v (.bool)], 1, [], 5000, none⟩
noncomputable def h12 : List (En D) := [E37]
noncomputable def G12 : YR D [.v (.st 1)] → Option (YR D [.v (.bool)]) := sealF (Gof D fd12 (tabH D h12))
noncomputable def E12 : En D := ⟨12, [.val], [.v (.st 1)], [.v (.bool)], 1, G12⟩
noncomputable def F12 (x0 : S24) : Option (Bool) := G12 (x0)
theorem E12_ok : FnOk D PP E12 := fdS_ok lw fd12 (l := h12) (by kernel_rfl) (.cons E37_ok .nil) Tryd.func12 (by kernel_rfl) (by kernel_rfl) (by kernel_rfl) (enters_of (c := bodyF Tryd.f12) Tryd.func12 (by kernel_rfl) (by kernel_rfl)) (by kernel_rfl) (by kernel_rfl)
/-- pochoirref02.Of -/
def c39_0 : Cut := ⟨15, [.v 0 (.int .i64), .box 2 2 (.st 2) 0 [], .v 3 (.int .u64)]⟩
noncomputable def fd39 : FD := ⟨39, bodyF Tryd.f39, Tryd.f39.results.toList, Tryd.f39.ntmps, [.val], [.v (.int .i64)], [.v (.st 2)], 1, [c39_0], 5000, none⟩
noncomputable def h39 : List (En D) := [E57]
noncomputable def G39 : YR D [.v (.int .i64)] → Option (YR D [.v (.st 2)]) := sealF (Gof D fd39 (tabH D h39))
noncomputable def E39 : En D := ⟨39, [.val], [.v (.int .i64)], [.v (.st 2)], 1, G39⟩
noncomputable def F39 (x0 : Int) : Option (S42) := G39 (x0)
noncomputable def L39 : LL D (YR D fd39.ts) := sealF (LiF D fd39 (tabH D h39))
noncomputable def L39_0 (v0 : Int) (v2 : S42) (v3 : Int) : Option (S42) := L39 c39_0 (v0, v2, v3, ())
theorem E39_ok : FnOk D PP E39 := fdS_ok lw fd39 (l := h39) (by kernel_rfl) (.cons E57_ok .nil) Tryd.func39 (by kernel_rfl) (by kernel_rfl) (by kernel_rfl) (enters_of (c := bodyF Tryd.f39) Tryd.func39 (by kernel_rfl) (by kernel_rfl)) (by kernel_rfl) (by kernel_rfl)
/-- pochoirref02.at -/
noncomputable def fd38 : FD := ⟨38, bodyF Tryd.f38, Tryd.f38.results.toList, Tryd.f38.ntmps, [.val, .val], [.v (.sl (.int .u64)), .v (.int .i64)], [.v (.int .u64)], 1, [], 5000, none⟩
noncomputable def h38 : List (En D) := []
noncomputable def G38 : YR D [.v (.sl (.int .u64)), .v (.int .i64)] → Option (YR D [.v (.int .u64)]) := sealF (Gof D fd38 (tabH D h38))
noncomputable def E38 : En D := ⟨38, [.val, .val], [.v (.sl (.int .u64)), .v (.int .i64)], [.v (.int .u64)], 1, G38⟩
noncomputable def F38 (x0 : List Int) (x1 : Int) : Option (Int) := G38 (x0, x1)
theorem E38_ok : FnOk D PP E38 := fdS_ok lw fd38 (l := h38) (by kernel_rfl) (.nil) Tryd.func38 (by kernel_rfl) (by kernel_rfl) (by kernel_rfl) (enters_of (c := bodyF Tryd.f38) Tryd.func38 (by kernel_rfl) (by kernel_rfl)) (by kernel_rfl) (by kernel_rfl)
/-- pochoirref02.Mul -/
def c41_0 : Cut := ⟨116, [.box 2 2 (.st 2) 0 [], .box 3 3 (.st 2) 0 [], .box 4 4 (.st 2) 0 [], .own 5 (.int .u64), .v 6 (.int .i64)]⟩
def c41_1 : Cut := ⟨14924, [.box 2 2 (.st 2) 0 [], .box 3 3 (.st 2) 0 [], .box 4 4 (.st 2) 0 [], .own 5 (.int .u64), .v 6 (.int .i64), .v 7 (.int .u64), .v 8 (.int .i64)]⟩
def c41_2 : Cut := ⟨29849, [.box 2 2 (.st 2) 0 [], .box 3 3 (.st 2) 0 [], .box 4 4 (.st 2) 0 [], .own 5 (.int .u64), .v 6 (.int .i64), .v 7 (.int .u64), .v 8 (.int .i64)]⟩
noncomputable def fd41 : FD := ⟨41, bodyF Tryd.f41, Tryd.f41.results.toList, Tryd.f41.ntmps, [.val, .val], [.v (.st 2), .v (.st 2)], [.v (.st 2)], 1, [c41_0, c41_1, c41_2], 5000, none⟩
noncomputable def h41 : List (En D) := [E38, E57]
noncomputable def G41 : YR D [.v (.st 2), .v (.st 2)] → Option (YR D [.v (.st 2)]) := sealF (Gof D fd41 (tabH D h41))
noncomputable def E41 : En D := ⟨41, [.val, .val], [.v (.st 2), .v (.st 2)], [.v (.st 2)], 1, G41⟩
noncomputable def F41 (x0 : S42) (x1 : S42) : Option (S42) := G41 (x0, x1)
noncomputable def L41 : LL D (YR D fd41.ts) := sealF (LiF D fd41 (tabH D h41))
noncomputable def L41_0 (v2 : S42) (v3 : S42) (v4 : S42) (v5 : List Int) (v6 : Int) : Option (S42) := L41 c41_0 (v2, v3, v4, v5, v6, ())
noncomputable def L41_1 (v2 : S42) (v3 : S42) (v4 : S42) (v5 : List Int) (v6 : Int) (v7 : Int) (v8 : Int) : Option (S42) := L41 c41_1 (v2, v3, v4, v5, v6, v7, v8, ())
noncomputable def L41_2 (v2 : S42) (v3 : S42) (v4 : S42) (v5 : List Int) (v6 : Int) (v7 : Int) (v8 : Int) : Option (S42) := L41 c41_2 (v2, v3, v4, v5, v6, v7, v8, ())
theorem E41_ok : FnOk D PP E41 := fdS_ok lw fd41 (l := h41) (by kernel_rfl) (.cons E38_ok (.cons E57_ok .nil)) Tryd.func41 (by kernel_rfl) (by kernel_rfl) (by kernel_rfl) (enters_of (c := bodyF Tryd.f41) Tryd.func41 (by kernel_rfl) (by kernel_rfl)) (by kernel_rfl) (by kernel_rfl)
/-- pochoirref02.plus -/
def c65_0 : Cut := ⟨244, [.v 0 (.sl (.int .u64)), .v 1 (.sl (.int .u64)), .own 5 (.int .u64), .v 6 (.int .u64), .v 7 (.int .i64)]⟩
def c65_1 : Cut := ⟨489, [.v 0 (.sl (.int .u64)), .v 1 (.sl (.int .u64)), .own 5 (.int .u64), .v 6 (.int .u64), .v 7 (.int .i64)]⟩
noncomputable def fd65 : FD := ⟨65, bodyF Tryd.f65, Tryd.f65.results.toList, Tryd.f65.ntmps, [.val, .val], [.v (.sl (.int .u64)), .v (.sl (.int .u64))], [.v (.sl (.int .u64))], 1, [c65_0, c65_1], 5000, none⟩
noncomputable def h65 : List (En D) := [E38]
noncomputable def G65 : YR D [.v (.sl (.int .u64)), .v (.sl (.int .u64))] → Option (YR D [.v (.sl (.int .u64))]) := sealF (Gof D fd65 (tabH D h65))
noncomputable def E65 : En D := ⟨65, [.val, .val], [.v (.sl (.int .u64)), .v (.sl (.int .u64))], [.v (.sl (.int .u64))], 1, G65⟩
noncomputable def F65 (x0 : List Int) (x1 : List Int) : Option (List Int) := G65 (x0, x1)
noncomputable def L65 : LL D (YR D fd65.ts) := sealF (LiF D fd65 (tabH D h65))
noncomputable def L65_0 (v0 : List Int) (v1 : List Int) (v5 : List Int) (v6 : Int) (v7 : Int) : Option (List Int) := L65 c65_0 (v0, v1, v5, v6, v7, ())
noncomputable def L65_1 (v0 : List Int) (v1 : List Int) (v5 : List Int) (v6 : Int) (v7 : Int) : Option (List Int) := L65 c65_1 (v0, v1, v5, v6, v7, ())
theorem E65_ok : FnOk D PP E65 := fdS_ok lw fd65 (l := h65) (by kernel_rfl) (.cons E38_ok .nil) Tryd.func65 (by kernel_rfl) (by kernel_rfl) (by kernel_rfl) (enters_of (c := bodyF Tryd.f65) Tryd.func65 (by kernel_rfl) (by kernel_rfl)) (by kernel_rfl) (by kernel_rfl)
/-- pochoirref02.less -/
def c66_0 : Cut := ⟨116, [.v 0 (.sl (.int .u64)), .v 1 (.sl (.int .u64)), .v 5 (.int .i64)]⟩
noncomputable def fd66 : FD := ⟨66, bodyF Tryd.f66, Tryd.f66.results.toList, Tryd.f66.ntmps, [.val, .val], [.v (.sl (.int .u64)), .v (.sl (.int .u64))], [.v (.int .i64)], 1, [c66_0], 5000, none⟩
noncomputable def h66 : List (En D) := []
noncomputable def G66 : YR D [.v (.sl (.int .u64)), .v (.sl (.int .u64))] → Option (YR D [.v (.int .i64)]) := sealF (Gof D fd66 (tabH D h66))
noncomputable def E66 : En D := ⟨66, [.val, .val], [.v (.sl (.int .u64)), .v (.sl (.int .u64))], [.v (.int .i64)], 1, G66⟩
noncomputable def F66 (x0 : List Int) (x1 : List Int) : Option (Int) := G66 (x0, x1)
noncomputable def L66 : LL D (YR D fd66.ts) := sealF (LiF D fd66 (tabH D h66))
noncomputable def L66_0 (v0 : List Int) (v1 : List Int) (v5 : Int) : Option (Int) := L66 c66_0 (v0, v1, v5, ())
theorem E66_ok : FnOk D PP E66 := fdS_ok lw fd66 (l := h66) (by kernel_rfl) (.nil) Tryd.func66 (by kernel_rfl) (by kernel_rfl) (by kernel_rfl) (enters_of (c := bodyF Tryd.f66) Tryd.func66 (by kernel_rfl) (by kernel_rfl)) (by kernel_rfl) (by kernel_rfl)
/-- pochoirref02.minus -/
def c67_0 : Cut := ⟨244, [.v 0 (.sl (.int .u64)), .v 1 (.sl (.int .u64)), .own 5 (.int .u64), .v 6 (.int .u64), .v 7 (.int .i64)]⟩
noncomputable def fd67 : FD := ⟨67, bodyF Tryd.f67, Tryd.f67.results.toList, Tryd.f67.ntmps, [.val, .val], [.v (.sl (.int .u64)), .v (.sl (.int .u64))], [.v (.sl (.int .u64))], 1, [c67_0], 5000, none⟩
noncomputable def h67 : List (En D) := [E38]
noncomputable def G67 : YR D [.v (.sl (.int .u64)), .v (.sl (.int .u64))] → Option (YR D [.v (.sl (.int .u64))]) := sealF (Gof D fd67 (tabH D h67))
noncomputable def E67 : En D := ⟨67, [.val, .val], [.v (.sl (.int .u64)), .v (.sl (.int .u64))], [.v (.sl (.int .u64))], 1, G67⟩
noncomputable def F67 (x0 : List Int) (x1 : List Int) : Option (List Int) := G67 (x0, x1)
noncomputable def L67 : LL D (YR D fd67.ts) := sealF (LiF D fd67 (tabH D h67))
noncomputable def L67_0 (v0 : List Int) (v1 : List Int) (v5 : List Int) (v6 : Int) (v7 : Int) : Option (List Int) := L67 c67_0 (v0, v1, v5, v6, v7, ())
theorem E67_ok : FnOk D PP E67 := fdS_ok lw fd67 (l := h67) (by kernel_rfl) (.cons E38_ok .nil) Tryd.func67 (by kernel_rfl) (by kernel_rfl) (by kernel_rfl) (enters_of (c := bodyF Tryd.f67) Tryd.func67 (by kernel_rfl) (by kernel_rfl)) (by kernel_rfl) (by kernel_rfl)
/-- pochoirref02.Add -/
noncomputable def fd40 : FD := ⟨40, bodyF Tryd.f40, Tryd.f40.results.toList, Tryd.f40.ntmps, [.val, .val], [.v (.st 2), .v (.st 2)], [.v (.st 2)], 1, [], 5000, none⟩
noncomputable def h40 : List (En D) := [E57, E65, E66, E67]
noncomputable def G40 : YR D [.v (.st 2), .v (.st 2)] → Option (YR D [.v (.st 2)]) := sealF (Gof D fd40 (tabH D h40))
noncomputable def E40 : En D := ⟨40, [.val, .val], [.v (.st 2), .v (.st 2)], [.v (.st 2)], 1, G40⟩
noncomputable def F40 (x0 : S42) (x1 : S42) : Option (S42) := G40 (x0, x1)
theorem E40_ok : FnOk D PP E40 := fdS_ok lw fd40 (l := h40) (by kernel_rfl) (.cons E57_ok (.cons E65_ok (.cons E66_ok (.cons E67_ok .nil)))) Tryd.func40 (by kernel_rfl) (by kernel_rfl) (by kernel_rfl) (enters_of (c := bodyF Tryd.f40) Tryd.func40 (by kernel_rfl) (by kernel_rfl)) (by kernel_rfl) (by kernel_rfl)
/-- pochoirref05.At -/
def c15_0 : Cut := ⟨244, [.v 0 (.sl (.st 2)), .box 3 3 (.st 1) 0 [], .box 4 4 (.st 2) 0 [], .box 5 5 (.st 2) 0 [], .box 6 6 (.st 2) 0 [], .v 7 (.int .i64)]⟩
noncomputable def fd15 : FD := ⟨15, bodyF Tryd.f15, Tryd.f15.results.toList, Tryd.f15.ntmps, [.val, .val], [.v (.sl (.st 2)), .v (.st 1)], [.v (.st 2)], 1, [c15_0], 5000, none⟩
noncomputable def h15 : List (En D) := [E39, E40, E41]
noncomputable def G15 : YR D [.v (.sl (.st 2)), .v (.st 1)] → Option (YR D [.v (.st 2)]) := sealF (Gof D fd15 (tabH D h15))
noncomputable def E15 : En D := ⟨15, [.val, .val], [.v (.sl (.st 2)), .v (.st 1)], [.v (.st 2)], 1, G15⟩
noncomputable def F15 (x0 : List S42) (x1 : S24) : Option (S42) := G15 (x0, x1)
noncomputable def L15 : LL D (YR D fd15.ts) := sealF (LiF D fd15 (tabH D h15))
noncomputable def L15_0 (v0 : List S42) (v3 : S24) (v4 : S42) (v5 : S42) (v6 : S42) (v7 : Int) : Option (S42) := L15 c15_0 (v0, v3, v4, v5, v6, v7, ())
theorem E15_ok : FnOk D PP E15 := fdS_ok lw fd15 (l := h15) (by kernel_rfl) (.cons E39_ok (.cons E40_ok (.cons E41_ok .nil))) Tryd.func15 (by kernel_rfl) (by kernel_rfl) (by kernel_rfl) (enters_of (c := bodyF Tryd.f15) Tryd.func15 (by kernel_rfl) (by kernel_rfl)) (by kernel_rfl) (by kernel_rfl)
/-- pochoirref02.To -/
def c14_0 : Cut := ⟨116, [.box 1 1 (.st 2) 0 [], .box 2 2 (.st 0) 0 [], .box 3 3 (.st 0) 0 [(1, none)], .v 4 (.int .i64)]⟩
noncomputable def fd14 : FD := ⟨14, bodyF Tryd.f14, Tryd.f14.results.toList, Tryd.f14.ntmps, [.val], [.v (.st 2)], [.v (.st 0)], 1, [c14_0], 5000, none⟩
noncomputable def h14 : List (En D) := [E38]
noncomputable def G14 : YR D [.v (.st 2)] → Option (YR D [.v (.st 0)]) := sealF (Gof D fd14 (tabH D h14))
noncomputable def E14 : En D := ⟨14, [.val], [.v (.st 2)], [.v (.st 0)], 1, G14⟩
noncomputable def F14 (x0 : S42) : Option (S31) := G14 (x0)
noncomputable def L14 : LL D (YR D fd14.ts) := sealF (LiF D fd14 (tabH D h14))
noncomputable def L14_0 (v1 : S42) (v2 : S31) (v3 : S31) (v4 : Int) : Option (S31) := L14 c14_0 (v1, v2, v3, v4, ())
theorem E14_ok : FnOk D PP E14 := fdS_ok lw fd14 (l := h14) (by kernel_rfl) (.cons E38_ok .nil) Tryd.func14 (by kernel_rfl) (by kernel_rfl) (by kernel_rfl) (enters_of (c := bodyF Tryd.f14) Tryd.func14 (by kernel_rfl) (by kernel_rfl)) (by kernel_rfl) (by kernel_rfl)
/-- pochoirref02.Same -/
def c13_0 : Cut := ⟨116, [.box 2 2 (.st 0) 0 [], .box 3 3 (.st 0) 0 [], .v 5 (.int .i64)]⟩
noncomputable def fd13 : FD := ⟨13, bodyF Tryd.f13, Tryd.f13.results.toList, Tryd.f13.ntmps, [.val, .val], [.v (.st 0), .v (.st 0)], [.v (.bool)], 1, [c13_0], 5000, none⟩
noncomputable def h13 : List (En D) := []
noncomputable def G13 : YR D [.v (.st 0), .v (.st 0)] → Option (YR D [.v (.bool)]) := sealF (Gof D fd13 (tabH D h13))
noncomputable def E13 : En D := ⟨13, [.val, .val], [.v (.st 0), .v (.st 0)], [.v (.bool)], 1, G13⟩
noncomputable def F13 (x0 : S31) (x1 : S31) : Option (Bool) := G13 (x0, x1)
noncomputable def L13 : LL D (YR D fd13.ts) := sealF (LiF D fd13 (tabH D h13))
noncomputable def L13_0 (v2 : S31) (v3 : S31) (v5 : Int) : Option (Bool) := L13 c13_0 (v2, v3, v5, ())
theorem E13_ok : FnOk D PP E13 := fdS_ok lw fd13 (l := h13) (by kernel_rfl) (.nil) Tryd.func13 (by kernel_rfl) (by kernel_rfl) (by kernel_rfl) (enters_of (c := bodyF Tryd.f13) Tryd.func13 (by kernel_rfl) (by kernel_rfl)) (by kernel_rfl) (by kernel_rfl)
/-- pochoirref02.Neg -/
noncomputable def fd51 : FD := ⟨51, bodyF Tryd.f51, Tryd.f51.results.toList, Tryd.f51.ntmps, [.val], [.v (.st 2)], [.v (.st 2)], 1, [], 5000, none⟩
noncomputable def h51 : List (En D) := [E57]
noncomputable def G51 : YR D [.v (.st 2)] → Option (YR D [.v (.st 2)]) := sealF (Gof D fd51 (tabH D h51))
noncomputable def E51 : En D := ⟨51, [.val], [.v (.st 2)], [.v (.st 2)], 1, G51⟩
noncomputable def F51 (x0 : S42) : Option (S42) := G51 (x0)
theorem E51_ok : FnOk D PP E51 := fdS_ok lw fd51 (l := h51) (by kernel_rfl) (.cons E57_ok .nil) Tryd.func51 (by kernel_rfl) (by kernel_rfl) (by kernel_rfl) (enters_of (c := bodyF Tryd.f51) Tryd.func51 (by kernel_rfl) (by kernel_rfl)) (by kernel_rfl) (by kernel_rfl)
/-- pochoirref02.Sub -/
noncomputable def fd52 : FD := ⟨52, bodyF Tryd.f52, Tryd.f52.results.toList, Tryd.f52.ntmps, [.val, .val], [.v (.st 2), .v (.st 2)], [.v (.st 2)], 1, [], 5000, none⟩
noncomputable def h52 : List (En D) := [E40, E51]
noncomputable def G52 : YR D [.v (.st 2), .v (.st 2)] → Option (YR D [.v (.st 2)]) := sealF (Gof D fd52 (tabH D h52))
noncomputable def E52 : En D := ⟨52, [.val, .val], [.v (.st 2), .v (.st 2)], [.v (.st 2)], 1, G52⟩
noncomputable def F52 (x0 : S42) (x1 : S42) : Option (S42) := G52 (x0, x1)
theorem E52_ok : FnOk D PP E52 := fdS_ok lw fd52 (l := h52) (by kernel_rfl) (.cons E40_ok (.cons E51_ok .nil)) Tryd.func52 (by kernel_rfl) (by kernel_rfl) (by kernel_rfl) (enters_of (c := bodyF Tryd.f52) Tryd.func52 (by kernel_rfl) (by kernel_rfl)) (by kernel_rfl) (by kernel_rfl)
/-- pochoirref02.Cmp -/
noncomputable def fd68 : FD := ⟨68, bodyF Tryd.f68, Tryd.f68.results.toList, Tryd.f68.ntmps, [.val, .val], [.v (.st 2), .v (.st 2)], [.v (.int .i64)], 1, [], 5000, none⟩
noncomputable def h68 : List (En D) := [E42, E52]
noncomputable def G68 : YR D [.v (.st 2), .v (.st 2)] → Option (YR D [.v (.int .i64)]) := sealF (Gof D fd68 (tabH D h68))
noncomputable def E68 : En D := ⟨68, [.val, .val], [.v (.st 2), .v (.st 2)], [.v (.int .i64)], 1, G68⟩
noncomputable def F68 (x0 : S42) (x1 : S42) : Option (Int) := G68 (x0, x1)
theorem E68_ok : FnOk D PP E68 := fdS_ok lw fd68 (l := h68) (by kernel_rfl) (.cons E42_ok (.cons E52_ok .nil)) Tryd.func68 (by kernel_rfl) (by kernel_rfl) (by kernel_rfl) (enters_of (c := bodyF Tryd.f68) Tryd.func68 (by kernel_rfl) (by kernel_rfl)) (by kernel_rfl) (by kernel_rfl)
/-- pochoirref02.Div -/
def c43_0 : Cut := ⟨500, [.v 1 (.int .i64), .box 2 2 (.st 2) 0 [], .box 4 4 (.st 2) 0 [], .box 5 5 (.st 2) 0 [], .box 6 6 (.st 2) 0 [], .box 7 7 (.st 2) 0 [], .box 8 8 (.st 2) 0 [], .v 9 (.int .i64)]⟩
def c43_1 : Cut := ⟨32039, [.v 1 (.int .i64), .box 2 2 (.st 2) 0 [], .box 4 4 (.st 2) 0 [], .box 5 5 (.st 2) 0 [], .box 6 6 (.st 2) 0 [], .box 7 7 (.st 2) 0 [], .box 8 8 (.st 2) 0 [], .v 9 (.int .i64)]⟩
noncomputable def fd43 : FD := ⟨43, bodyF Tryd.f43, Tryd.f43.results.toList, Tryd.f43.ntmps, [.val, .val], [.v (.st 2), .v (.int .i64)], [.v (.st 2), .v (.st 2)], 2, [c43_0, c43_1], 5000, none⟩
noncomputable def h43 : List (En D) := [E39, E40, E52, E57, E68]
noncomputable def G43 : YR D [.v (.st 2), .v (.int .i64)] → Option (YR D [.v (.st 2), .v (.st 2)]) := sealF (Gof D fd43 (tabH D h43))
noncomputable def E43 : En D := ⟨43, [.val, .val], [.v (.st 2), .v (.int .i64)], [.v (.st 2), .v (.st 2)], 2, G43⟩
noncomputable def F43 (x0 : S42) (x1 : Int) : Option (S42 × S42) := G43 (x0, x1)
noncomputable def L43 : LL D (YR D fd43.ts) := sealF (LiF D fd43 (tabH D h43))
noncomputable def L43_0 (v1 : Int) (v2 : S42) (v4 : S42) (v5 : S42) (v6 : S42) (v7 : S42) (v8 : S42) (v9 : Int) : Option (S42 × S42) := L43 c43_0 (v1, v2, v4, v5, v6, v7, v8, v9, ())
noncomputable def L43_1 (v1 : Int) (v2 : S42) (v4 : S42) (v5 : S42) (v6 : S42) (v7 : S42) (v8 : S42) (v9 : Int) : Option (S42 × S42) := L43 c43_1 (v1, v2, v4, v5, v6, v7, v8, v9, ())
theorem E43_ok : FnOk D PP E43 := fdS_ok lw fd43 (l := h43) (by kernel_rfl) (.cons E39_ok (.cons E40_ok (.cons E52_ok (.cons E57_ok (.cons E68_ok .nil))))) Tryd.func43 (by kernel_rfl) (by kernel_rfl) (by kernel_rfl) (enters_of (c := bodyF Tryd.f43) Tryd.func43 (by kernel_rfl) (by kernel_rfl)) (by kernel_rfl) (by kernel_rfl)
/-- pochoirref05.Without -/
def c16_0 : Cut := ⟨56, [.v 0 (.sl (.st 2)), .box 3 3 (.st 1) 0 [], .v 6 (.int .i64)]⟩
def c16_1 : Cut := ⟨113, [.v 0 (.sl (.st 2)), .box 3 3 (.st 1) 0 [], .v 6 (.int .i64)]⟩
def c16_2 : Cut := ⟨14516, [.v 0 (.sl (.st 2)), .box 3 3 (.st 1) 0 [], .v 6 (.int .i64), .own 7 (.st 2), .box 8 8 (.st 2) 0 [], .v 9 (.int .i64)]⟩
noncomputable def fd16 : FD := ⟨16, bodyF Tryd.f16, Tryd.f16.results.toList, Tryd.f16.ntmps, [.val, .val], [.v (.sl (.st 2)), .v (.st 1)], [.v (.sl (.st 2)), .v (.int .i64)], 2, [c16_0, c16_1, c16_2], 5000, none⟩
noncomputable def h16 : List (En D) := [E15, E32, E39, E40, E41, E42, E43]
noncomputable def G16 : YR D [.v (.sl (.st 2)), .v (.st 1)] → Option (YR D [.v (.sl (.st 2)), .v (.int .i64)]) := sealF (Gof D fd16 (tabH D h16))
noncomputable def E16 : En D := ⟨16, [.val, .val], [.v (.sl (.st 2)), .v (.st 1)], [.v (.sl (.st 2)), .v (.int .i64)], 2, G16⟩
noncomputable def F16 (x0 : List S42) (x1 : S24) : Option (List S42 × Int) := G16 (x0, x1)
noncomputable def L16 : LL D (YR D fd16.ts) := sealF (LiF D fd16 (tabH D h16))
noncomputable def L16_0 (v0 : List S42) (v3 : S24) (v6 : Int) : Option (List S42 × Int) := L16 c16_0 (v0, v3, v6, ())
noncomputable def L16_1 (v0 : List S42) (v3 : S24) (v6 : Int) : Option (List S42 × Int) := L16 c16_1 (v0, v3, v6, ())
noncomputable def L16_2 (v0 : List S42) (v3 : S24) (v6 : Int) (v7 : List S42) (v8 : S42) (v9 : Int) : Option (List S42 × Int) := L16 c16_2 (v0, v3, v6, v7, v8, v9, ())
theorem E16_ok : FnOk D PP E16 := fdS_ok lw fd16 (l := h16) (by kernel_rfl) (.cons E15_ok (.cons E32_ok (.cons E39_ok (.cons E40_ok (.cons E41_ok (.cons E42_ok (.cons E43_ok .nil))))))) Tryd.func16 (by kernel_rfl) (by kernel_rfl) (by kernel_rfl) (enters_of (c := bodyF Tryd.f16) Tryd.func16 (by kernel_rfl) (by kernel_rfl)) (by kernel_rfl) (by kernel_rfl)
/-- pochoirref05.Same -/
def c17_0 : Cut := ⟨116, [.v 0 (.sl (.st 0)), .v 1 (.sl (.st 2)), .v 5 (.int .i64)]⟩
noncomputable def fd17 : FD := ⟨17, bodyF Tryd.f17, Tryd.f17.results.toList, Tryd.f17.ntmps, [.val, .val], [.v (.sl (.st 0)), .v (.sl (.st 2))], [.v (.bool)], 1, [c17_0], 5000, none⟩
noncomputable def h17 : List (En D) := [E13, E14]
noncomputable def G17 : YR D [.v (.sl (.st 0)), .v (.sl (.st 2))] → Option (YR D [.v (.bool)]) := sealF (Gof D fd17 (tabH D h17))
noncomputable def E17 : En D := ⟨17, [.val, .val], [.v (.sl (.st 0)), .v (.sl (.st 2))], [.v (.bool)], 1, G17⟩
noncomputable def F17 (x0 : List S31) (x1 : List S42) : Option (Bool) := G17 (x0, x1)
noncomputable def L17 : LL D (YR D fd17.ts) := sealF (LiF D fd17 (tabH D h17))
noncomputable def L17_0 (v0 : List S31) (v1 : List S42) (v5 : Int) : Option (Bool) := L17 c17_0 (v0, v1, v5, ())
theorem E17_ok : FnOk D PP E17 := fdS_ok lw fd17 (l := h17) (by kernel_rfl) (.cons E13_ok (.cons E14_ok .nil)) Tryd.func17 (by kernel_rfl) (by kernel_rfl) (by kernel_rfl) (enters_of (c := bodyF Tryd.f17) Tryd.func17 (by kernel_rfl) (by kernel_rfl)) (by kernel_rfl) (by kernel_rfl)
/-- pochoirlaw05.PolyValues -/
def c3_0 : Cut := ⟨511, [.box 3 3 (.st 1) 0 [], .v 5 (.sl (.st 2)), .v 8 (.sl (.st 0)), .v 9 (.int .i64), .v 10 (.int .i64)]⟩
noncomputable def fd3 : FD := ⟨3, bodyF Tryd.f3, Tryd.f3.results.toList, Tryd.f3.ntmps, [.val, .val], [.v (.sl (.st 0)), .v (.st 1)], [.v (.bool)], 1, [c3_0], 5000, none⟩
noncomputable def h3 : List (En D) := [E7, E8, E9, E10, E11, E12, E13, E14, E15, E16, E17]
noncomputable def G3 : YR D [.v (.sl (.st 0)), .v (.st 1)] → Option (YR D [.v (.bool)]) := sealF (Gof D fd3 (tabH D h3))
noncomputable def E3 : En D := ⟨3, [.val, .val], [.v (.sl (.st 0)), .v (.st 1)], [.v (.bool)], 1, G3⟩
noncomputable def F3 (x0 : List S31) (x1 : S24) : Option (Bool) := G3 (x0, x1)
noncomputable def L3 : LL D (YR D fd3.ts) := sealF (LiF D fd3 (tabH D h3))
noncomputable def L3_0 (v3 : S24) (v5 : List S42) (v8 : List S31) (v9 : Int) (v10 : Int) : Option (Bool) := L3 c3_0 (v3, v5, v8, v9, v10, ())
theorem E3_ok : FnOk D PP E3 := fdS_ok lw fd3 (l := h3) (by kernel_rfl) (.cons E7_ok (.cons E8_ok (.cons E9_ok (.cons E10_ok (.cons E11_ok (.cons E12_ok (.cons E13_ok (.cons E14_ok (.cons E15_ok (.cons E16_ok (.cons E17_ok .nil))))))))))) Tryd.func3 (by kernel_rfl) (by kernel_rfl) (by kernel_rfl) (enters_of (c := bodyF Tryd.f3) Tryd.func3 (by kernel_rfl) (by kernel_rfl)) (by kernel_rfl) (by kernel_rfl)
/-- pochoirref05.at -/
noncomputable def fd50 : FD := ⟨50, bodyF Tryd.f50, Tryd.f50.results.toList, Tryd.f50.ntmps, [.val, .val], [.v (.sl (.st 2)), .v (.int .i64)], [.v (.st 2)], 1, [], 5000, none⟩
noncomputable def h50 : List (En D) := []
noncomputable def G50 : YR D [.v (.sl (.st 2)), .v (.int .i64)] → Option (YR D [.v (.st 2)]) := sealF (Gof D fd50 (tabH D h50))
noncomputable def E50 : En D := ⟨50, [.val, .val], [.v (.sl (.st 2)), .v (.int .i64)], [.v (.st 2)], 1, G50⟩
noncomputable def F50 (x0 : List S42) (x1 : Int) : Option (S42) := G50 (x0, x1)
theorem E50_ok : FnOk D PP E50 := fdS_ok lw fd50 (l := h50) (by kernel_rfl) (.nil) Tryd.func50 (by kernel_rfl) (by kernel_rfl) (by kernel_rfl) (enters_of (c := bodyF Tryd.f50) Tryd.func50 (by kernel_rfl) (by kernel_rfl)) (by kernel_rfl) (by kernel_rfl)
/-- pochoirref05.Rest -/
def c19_0 : Cut := ⟨56, [.v 0 (.sl (.st 2)), .v 1 (.sl (.st 2)), .box 5 5 (.st 2) 0 []]⟩
def c19_1 : Cut := ⟨14516, [.v 0 (.sl (.st 2)), .v 1 (.sl (.st 2)), .box 5 5 (.st 2) 0 [], .own 6 (.st 2), .box 7 7 (.st 2) 0 [], .v 8 (.int .i64)]⟩
def c19_2 : Cut := ⟨929063, [.v 0 (.sl (.st 2)), .v 1 (.sl (.st 2)), .box 5 5 (.st 2) 0 [], .own 6 (.st 2), .box 7 7 (.st 2) 0 [], .v 8 (.int .i64), .box 9 9 (.st 2) 0 [], .box 10 10 (.st 2) 0 []]⟩
noncomputable def fd19 : FD := ⟨19, bodyF Tryd.f19, Tryd.f19.results.toList, Tryd.f19.ntmps, [.val, .val], [.v (.sl (.st 2)), .v (.sl (.st 2))], [.v (.sl (.st 2))], 1, [c19_0, c19_1, c19_2], 5000, none⟩
noncomputable def h19 : List (En D) := [E32, E41, E50, E51, E52]
noncomputable def G19 : YR D [.v (.sl (.st 2)), .v (.sl (.st 2))] → Option (YR D [.v (.sl (.st 2))]) := sealF (Gof D fd19 (tabH D h19))
noncomputable def E19 : En D := ⟨19, [.val, .val], [.v (.sl (.st 2)), .v (.sl (.st 2))], [.v (.sl (.st 2))], 1, G19⟩
noncomputable def F19 (x0 : List S42) (x1 : List S42) : Option (List S42) := G19 (x0, x1)
noncomputable def L19 : LL D (YR D fd19.ts) := sealF (LiF D fd19 (tabH D h19))
noncomputable def L19_0 (v0 : List S42) (v1 : List S42) (v5 : S42) : Option (List S42) := L19 c19_0 (v0, v1, v5, ())
noncomputable def L19_1 (v0 : List S42) (v1 : List S42) (v5 : S42) (v6 : List S42) (v7 : S42) (v8 : Int) : Option (List S42) := L19 c19_1 (v0, v1, v5, v6, v7, v8, ())
noncomputable def L19_2 (v0 : List S42) (v1 : List S42) (v5 : S42) (v6 : List S42) (v7 : S42) (v8 : Int) (v9 : S42) (v10 : S42) : Option (List S42) := L19 c19_2 (v0, v1, v5, v6, v7, v8, v9, v10, ())
theorem E19_ok : FnOk D PP E19 := fdS_ok lw fd19 (l := h19) (by kernel_rfl) (.cons E32_ok (.cons E41_ok (.cons E50_ok (.cons E51_ok (.cons E52_ok .nil))))) Tryd.func19 (by kernel_rfl) (by kernel_rfl) (by kernel_rfl) (enters_of (c := bodyF Tryd.f19) Tryd.func19 (by kernel_rfl) (by kernel_rfl)) (by kernel_rfl) (by kernel_rfl)
/-- pochoirlaw05.PolyRests -/
def c4_0 : Cut := ⟨15, [.v 0 (.sl (.st 0)), .v 1 (.sl (.st 0))]⟩
noncomputable def fd4 : FD := ⟨4, bodyF Tryd.f4, Tryd.f4.results.toList, Tryd.f4.ntmps, [.val, .val], [.v (.sl (.st 0)), .v (.sl (.st 0))], [.v (.bool)], 1, [c4_0], 5000, none⟩
noncomputable def h4 : List (En D) := [E7, E8, E9, E17, E18, E19]
noncomputable def G4 : YR D [.v (.sl (.st 0)), .v (.sl (.st 0))] → Option (YR D [.v (.bool)]) := sealF (Gof D fd4 (tabH D h4))
noncomputable def E4 : En D := ⟨4, [.val, .val], [.v (.sl (.st 0)), .v (.sl (.st 0))], [.v (.bool)], 1, G4⟩
noncomputable def F4 (x0 : List S31) (x1 : List S31) : Option (Bool) := G4 (x0, x1)
noncomputable def L4 : LL D (YR D fd4.ts) := sealF (LiF D fd4 (tabH D h4))
noncomputable def L4_0 (v0 : List S31) (v1 : List S31) : Option (Bool) := L4 c4_0 (v0, v1, ())
theorem E4_ok : FnOk D PP E4 := fdS_ok lw fd4 (l := h4) (by kernel_rfl) (.cons E7_ok (.cons E8_ok (.cons E9_ok (.cons E17_ok (.cons E18_ok (.cons E19_ok .nil)))))) Tryd.func4 (by kernel_rfl) (by kernel_rfl) (by kernel_rfl) (enters_of (c := bodyF Tryd.f4) Tryd.func4 (by kernel_rfl) (by kernel_rfl)) (by kernel_rfl) (by kernel_rfl)
/-- pochoirref05.Of -/
def c22_0 : Cut := ⟨116, [.v 0 (.sl (.int .i64)), .own 3 (.st 2), .v 4 (.int .i64)]⟩
noncomputable def fd22 : FD := ⟨22, bodyF Tryd.f22, Tryd.f22.results.toList, Tryd.f22.ntmps, [.val], [.v (.sl (.int .i64))], [.v (.sl (.st 2))], 1, [c22_0], 5000, none⟩
noncomputable def h22 : List (En D) := [E32, E39]
noncomputable def G22 : YR D [.v (.sl (.int .i64))] → Option (YR D [.v (.sl (.st 2))]) := sealF (Gof D fd22 (tabH D h22))
noncomputable def E22 : En D := ⟨22, [.val], [.v (.sl (.int .i64))], [.v (.sl (.st 2))], 1, G22⟩
noncomputable def F22 (x0 : List Int) : Option (List S42) := G22 (x0)
noncomputable def L22 : LL D (YR D fd22.ts) := sealF (LiF D fd22 (tabH D h22))
noncomputable def L22_0 (v0 : List Int) (v3 : List S42) (v4 : Int) : Option (List S42) := L22 c22_0 (v0, v3, v4, ())
theorem E22_ok : FnOk D PP E22 := fdS_ok lw fd22 (l := h22) (by kernel_rfl) (.cons E32_ok (.cons E39_ok .nil)) Tryd.func22 (by kernel_rfl) (by kernel_rfl) (by kernel_rfl) (enters_of (c := bodyF Tryd.f22) Tryd.func22 (by kernel_rfl) (by kernel_rfl)) (by kernel_rfl) (by kernel_rfl)
/-- poly.Mul -/
def c23_0 : Cut := ⟨116, [.v 1 (.sl (.st 0)), .own 5 (.st 0), .v 16 (.sl (.st 0)), .v 17 (.int .i64), .v 18 (.int .i64)]⟩
def c23_1 : Cut := ⟨29900, [.v 1 (.sl (.st 0)), .own 5 (.st 0), .v 6 (.int .i64), .box 7 7 (.st 0) 0 [], .v 16 (.sl (.st 0)), .v 17 (.int .i64), .v 18 (.int .i64), .v 23 (.sl (.st 0)), .v 24 (.int .i64), .v 25 (.int .i64)]⟩
noncomputable def fd23 : FD := ⟨23, bodyF Tryd.f23, Tryd.f23.results.toList, Tryd.f23.ntmps, [.val, .val], [.v (.sl (.st 0)), .v (.sl (.st 0))], [.v (.sl (.st 0))], 1, [c23_0, c23_1], 5000, none⟩
noncomputable def h23 : List (En D) := [E44, E47, E54]
noncomputable def G23 : YR D [.v (.sl (.st 0)), .v (.sl (.st 0))] → Option (YR D [.v (.sl (.st 0))]) := sealF (Gof D fd23 (tabH D h23))
noncomputable def E23 : En D := ⟨23, [.val, .val], [.v (.sl (.st 0)), .v (.sl (.st 0))], [.v (.sl (.st 0))], 1, G23⟩
noncomputable def F23 (x0 : List S31) (x1 : List S31) : Option (List S31) := G23 (x0, x1)
noncomputable def L23 : LL D (YR D fd23.ts) := sealF (LiF D fd23 (tabH D h23))
noncomputable def L23_0 (v1 : List S31) (v5 : List S31) (v16 : List S31) (v17 : Int) (v18 : Int) : Option (List S31) := L23 c23_0 (v1, v5, v16, v17, v18, ())
noncomputable def L23_1 (v1 : List S31) (v5 : List S31) (v6 : Int) (v7 : S31) (v16 : List S31) (v17 : Int) (v18 : Int) (v23 : List S31) (v24 : Int) (v25 : Int) : Option (List S31) := L23 c23_1 (v1, v5, v6, v7, v16, v17, v18, v23, v24, v25, ())
theorem E23_ok : FnOk D PP E23 := fdS_ok lw fd23 (l := h23) (by kernel_rfl) (.cons E44_ok (.cons E47_ok (.cons E54_ok .nil))) Tryd.func23 (by kernel_rfl) (by kernel_rfl) (by kernel_rfl) (enters_of (c := bodyF Tryd.f23) Tryd.func23 (by kernel_rfl) (by kernel_rfl)) (by kernel_rfl) (by kernel_rfl)
/-- pochoirlaw05.PolyRoots -/
def c5_0 : Cut := ⟨15, [.v 0 (.sl (.int .i64)), .box 3 3 (.st 1) 0 []]⟩
noncomputable def fd5 : FD := ⟨5, bodyF Tryd.f5, Tryd.f5.results.toList, Tryd.f5.ntmps, [.val, .val], [.v (.sl (.int .i64)), .v (.st 1)], [.v (.bool)], 1, [c5_0], 5000, none⟩
noncomputable def h5 : List (En D) := [E7, E10, E11, E12, E16, E17, E20, E21, E22, E23]
noncomputable def G5 : YR D [.v (.sl (.int .i64)), .v (.st 1)] → Option (YR D [.v (.bool)]) := sealF (Gof D fd5 (tabH D h5))
noncomputable def E5 : En D := ⟨5, [.val, .val], [.v (.sl (.int .i64)), .v (.st 1)], [.v (.bool)], 1, G5⟩
noncomputable def F5 (x0 : List Int) (x1 : S24) : Option (Bool) := G5 (x0, x1)
noncomputable def L5 : LL D (YR D fd5.ts) := sealF (LiF D fd5 (tabH D h5))
noncomputable def L5_0 (v0 : List Int) (v3 : S24) : Option (Bool) := L5 c5_0 (v0, v3, ())
theorem E5_ok : FnOk D PP E5 := fdS_ok lw fd5 (l := h5) (by kernel_rfl) (.cons E7_ok (.cons E10_ok (.cons E11_ok (.cons E12_ok (.cons E16_ok (.cons E17_ok (.cons E20_ok (.cons E21_ok (.cons E22_ok (.cons E23_ok .nil)))))))))) Tryd.func5 (by kernel_rfl) (by kernel_rfl) (by kernel_rfl) (enters_of (c := bodyF Tryd.f5) Tryd.func5 (by kernel_rfl) (by kernel_rfl)) (by kernel_rfl) (by kernel_rfl)
/-- pochoirref05.Add -/
def c25_0 : Cut := ⟨15, [.own 5 (.st 2)]⟩
def c25_1 : Cut := ⟨116, [.v 0 (.sl (.st 2)), .v 1 (.sl (.st 2)), .own 5 (.st 2), .v 6 (.int .i64)]⟩
def c25_2 : Cut := ⟨233, [.v 0 (.sl (.st 2)), .v 1 (.sl (.st 2)), .own 5 (.st 2), .v 6 (.int .i64)]⟩
noncomputable def fd25 : FD := ⟨25, bodyF Tryd.f25, Tryd.f25.results.toList, Tryd.f25.ntmps, [.val, .val], [.v (.sl (.st 2)), .v (.sl (.st 2))], [.v (.sl (.st 2))], 1, [c25_0, c25_1, c25_2], 5000, none⟩
noncomputable def h25 : List (En D) := [E32, E40, E50]
noncomputable def G25 : YR D [.v (.sl (.st 2)), .v (.sl (.st 2))] → Option (YR D [.v (.sl (.st 2))]) := sealF (Gof D fd25 (tabH D h25))
noncomputable def E25 : En D := ⟨25, [.val, .val], [.v (.sl (.st 2)), .v (.sl (.st 2))], [.v (.sl (.st 2))], 1, G25⟩
noncomputable def F25 (x0 : List S42) (x1 : List S42) : Option (List S42) := G25 (x0, x1)
noncomputable def L25 : LL D (YR D fd25.ts) := sealF (LiF D fd25 (tabH D h25))
noncomputable def L25_0 (v5 : List S42) : Option (List S42) := L25 c25_0 (v5, ())
noncomputable def L25_1 (v0 : List S42) (v1 : List S42) (v5 : List S42) (v6 : Int) : Option (List S42) := L25 c25_1 (v0, v1, v5, v6, ())
noncomputable def L25_2 (v0 : List S42) (v1 : List S42) (v5 : List S42) (v6 : Int) : Option (List S42) := L25 c25_2 (v0, v1, v5, v6, ())
theorem E25_ok : FnOk D PP E25 := fdS_ok lw fd25 (l := h25) (by kernel_rfl) (.cons E32_ok (.cons E40_ok (.cons E50_ok .nil))) Tryd.func25 (by kernel_rfl) (by kernel_rfl) (by kernel_rfl) (enters_of (c := bodyF Tryd.f25) Tryd.func25 (by kernel_rfl) (by kernel_rfl)) (by kernel_rfl) (by kernel_rfl)
/-- poly.each(big.Sub) -/
def c55046_0 : Cut := ⟨116, [.v 0 (.sl (.st 0)), .v 1 (.sl (.st 0)), .fn 2 46, .own 7 (.st 0), .v 13 (.int .i64), .v 14 (.int .i64)]⟩
noncomputable def fd55046 : FD := ⟨55, bodyF Tryd.f55, Tryd.f55.results.toList, Tryd.f55.ntmps, [.val, .val, .val], [.v (.sl (.st 0)), .v (.sl (.st 0)), .fc 46], [.v (.sl (.st 0))], 1, [c55046_0], 5000, none⟩
noncomputable def h55046 : List (En D) := [E44, E46, E49]
noncomputable def G55046 : YR D [.v (.sl (.st 0)), .v (.sl (.st 0)), .fc 46] → Option (YR D [.v (.sl (.st 0))]) := sealF (Gof D fd55046 (tabH D h55046))
noncomputable def E55046 : En D := ⟨55, [.val, .val, .val], [.v (.sl (.st 0)), .v (.sl (.st 0)), .fc 46], [.v (.sl (.st 0))], 1, G55046⟩
noncomputable def F55046 (x0 : List S31) (x1 : List S31) (x2 : Unit) : Option (List S31) := G55046 (x0, x1, x2)
noncomputable def L55046 : LL D (YR D fd55046.ts) := sealF (LiF D fd55046 (tabH D h55046))
noncomputable def L55046_0 (v0 : List S31) (v1 : List S31) (v7 : List S31) (v13 : Int) (v14 : Int) : Option (List S31) := L55046 c55046_0 (v0, v1, v7, v13, v14, ())
theorem E55046_ok : FnOk D PP E55046 := fdS_ok lw fd55046 (l := h55046) (by kernel_rfl) (.cons E44_ok (.cons E46_ok (.cons E49_ok .nil))) Tryd.func55 (by kernel_rfl) (by kernel_rfl) (by kernel_rfl) (enters_of (c := bodyF Tryd.f55) Tryd.func55 (by kernel_rfl) (by kernel_rfl)) (by kernel_rfl) (by kernel_rfl)
/-- poly.Sub -/
noncomputable def fd26 : FD := ⟨26, bodyF Tryd.f26, Tryd.f26.results.toList, Tryd.f26.ntmps, [.val, .val], [.v (.sl (.st 0)), .v (.sl (.st 0))], [.v (.sl (.st 0))], 1, [], 5000, none⟩
noncomputable def h26 : List (En D) := [E55046]
noncomputable def G26 : YR D [.v (.sl (.st 0)), .v (.sl (.st 0))] → Option (YR D [.v (.sl (.st 0))]) := sealF (Gof D fd26 (tabH D h26))
noncomputable def E26 : En D := ⟨26, [.val, .val], [.v (.sl (.st 0)), .v (.sl (.st 0))], [.v (.sl (.st 0))], 1, G26⟩
noncomputable def F26 (x0 : List S31) (x1 : List S31) : Option (List S31) := G26 (x0, x1)
theorem E26_ok : FnOk D PP E26 := fdS_ok lw fd26 (l := h26) (by kernel_rfl) (.cons E55046_ok .nil) Tryd.func26 (by kernel_rfl) (by kernel_rfl) (by kernel_rfl) (enters_of (c := bodyF Tryd.f26) Tryd.func26 (by kernel_rfl) (by kernel_rfl)) (by kernel_rfl) (by kernel_rfl)
/-- pochoirref05.Neg -/
def c56_0 : Cut := ⟨116, [.v 0 (.sl (.st 2)), .own 3 (.st 2), .v 4 (.int .i64)]⟩
noncomputable def fd56 : FD := ⟨56, bodyF Tryd.f56, Tryd.f56.results.toList, Tryd.f56.ntmps, [.val], [.v (.sl (.st 2))], [.v (.sl (.st 2))], 1, [c56_0], 5000, none⟩
noncomputable def h56 : List (En D) := [E51]
noncomputable def G56 : YR D [.v (.sl (.st 2))] → Option (YR D [.v (.sl (.st 2))]) := sealF (Gof D fd56 (tabH D h56))
noncomputable def E56 : En D := ⟨56, [.val], [.v (.sl (.st 2))], [.v (.sl (.st 2))], 1, G56⟩
noncomputable def F56 (x0 : List S42) : Option (List S42) := G56 (x0)
noncomputable def L56 : LL D (YR D fd56.ts) := sealF (LiF D fd56 (tabH D h56))
noncomputable def L56_0 (v0 : List S42) (v3 : List S42) (v4 : Int) : Option (List S42) := L56 c56_0 (v0, v3, v4, ())
theorem E56_ok : FnOk D PP E56 := fdS_ok lw fd56 (l := h56) (by kernel_rfl) (.cons E51_ok .nil) Tryd.func56 (by kernel_rfl) (by kernel_rfl) (by kernel_rfl) (enters_of (c := bodyF Tryd.f56) Tryd.func56 (by kernel_rfl) (by kernel_rfl)) (by kernel_rfl) (by kernel_rfl)
/-- pochoirref05.Sub -/
noncomputable def fd27 : FD := ⟨27, bodyF Tryd.f27, Tryd.f27.results.toList, Tryd.f27.ntmps, [.val, .val], [.v (.sl (.st 2)), .v (.sl (.st 2))], [.v (.sl (.st 2))], 1, [], 5000, none⟩
noncomputable def h27 : List (En D) := [E25, E56]
noncomputable def G27 : YR D [.v (.sl (.st 2)), .v (.sl (.st 2))] → Option (YR D [.v (.sl (.st 2))]) := sealF (Gof D fd27 (tabH D h27))
noncomputable def E27 : En D := ⟨27, [.val, .val], [.v (.sl (.st 2)), .v (.sl (.st 2))], [.v (.sl (.st 2))], 1, G27⟩
noncomputable def F27 (x0 : List S42) (x1 : List S42) : Option (List S42) := G27 (x0, x1)
theorem E27_ok : FnOk D PP E27 := fdS_ok lw fd27 (l := h27) (by kernel_rfl) (.cons E25_ok (.cons E56_ok .nil)) Tryd.func27 (by kernel_rfl) (by kernel_rfl) (by kernel_rfl) (enters_of (c := bodyF Tryd.f27) Tryd.func27 (by kernel_rfl) (by kernel_rfl)) (by kernel_rfl) (by kernel_rfl)
/-- pochoirref05.Mul -/
def c28_0 : Cut := ⟨116, [.v 0 (.sl (.st 2)), .v 1 (.sl (.st 2)), .own 5 (.st 2), .v 6 (.int .i64)]⟩
def c28_1 : Cut := ⟨29844, [.v 0 (.sl (.st 2)), .v 1 (.sl (.st 2)), .own 5 (.st 2), .v 6 (.int .i64), .box 7 7 (.st 2) 0 [], .v 8 (.int .i64)]⟩
noncomputable def fd28 : FD := ⟨28, bodyF Tryd.f28, Tryd.f28.results.toList, Tryd.f28.ntmps, [.val, .val], [.v (.sl (.st 2)), .v (.sl (.st 2))], [.v (.sl (.st 2))], 1, [c28_0, c28_1], 5000, none⟩
noncomputable def h28 : List (En D) := [E32, E40, E41, E50]
noncomputable def G28 : YR D [.v (.sl (.st 2)), .v (.sl (.st 2))] → Option (YR D [.v (.sl (.st 2))]) := sealF (Gof D fd28 (tabH D h28))
noncomputable def E28 : En D := ⟨28, [.val, .val], [.v (.sl (.st 2)), .v (.sl (.st 2))], [.v (.sl (.st 2))], 1, G28⟩
noncomputable def F28 (x0 : List S42) (x1 : List S42) : Option (List S42) := G28 (x0, x1)
noncomputable def L28 : LL D (YR D fd28.ts) := sealF (LiF D fd28 (tabH D h28))
noncomputable def L28_0 (v0 : List S42) (v1 : List S42) (v5 : List S42) (v6 : Int) : Option (List S42) := L28 c28_0 (v0, v1, v5, v6, ())
noncomputable def L28_1 (v0 : List S42) (v1 : List S42) (v5 : List S42) (v6 : Int) (v7 : S42) (v8 : Int) : Option (List S42) := L28 c28_1 (v0, v1, v5, v6, v7, v8, ())
theorem E28_ok : FnOk D PP E28 := fdS_ok lw fd28 (l := h28) (by kernel_rfl) (.cons E32_ok (.cons E40_ok (.cons E41_ok (.cons E50_ok .nil)))) Tryd.func28 (by kernel_rfl) (by kernel_rfl) (by kernel_rfl) (enters_of (c := bodyF Tryd.f28) Tryd.func28 (by kernel_rfl) (by kernel_rfl)) (by kernel_rfl) (by kernel_rfl)
/-- poly.Derive -/
def c29_0 : Cut := ⟨116, [.v 0 (.sl (.st 0)), .own 3 (.st 0), .v 4 (.int .i64)]⟩
noncomputable def fd29 : FD := ⟨29, bodyF Tryd.f29, Tryd.f29.results.toList, Tryd.f29.ntmps, [.val], [.v (.sl (.st 0))], [.v (.sl (.st 0))], 1, [c29_0], 5000, none⟩
noncomputable def h29 : List (En D) := [E44, E47, E53]
noncomputable def G29 : YR D [.v (.sl (.st 0))] → Option (YR D [.v (.sl (.st 0))]) := sealF (Gof D fd29 (tabH D h29))
noncomputable def E29 : En D := ⟨29, [.val], [.v (.sl (.st 0))], [.v (.sl (.st 0))], 1, G29⟩
noncomputable def F29 (x0 : List S31) : Option (List S31) := G29 (x0)
noncomputable def L29 : LL D (YR D fd29.ts) := sealF (LiF D fd29 (tabH D h29))
noncomputable def L29_0 (v0 : List S31) (v3 : List S31) (v4 : Int) : Option (List S31) := L29 c29_0 (v0, v3, v4, ())
theorem E29_ok : FnOk D PP E29 := fdS_ok lw fd29 (l := h29) (by kernel_rfl) (.cons E44_ok (.cons E47_ok (.cons E53_ok .nil))) Tryd.func29 (by kernel_rfl) (by kernel_rfl) (by kernel_rfl) (enters_of (c := bodyF Tryd.f29) Tryd.func29 (by kernel_rfl) (by kernel_rfl)) (by kernel_rfl) (by kernel_rfl)
/-- pochoirref05.Derive -/
def c30_0 : Cut := ⟨116, [.v 0 (.sl (.st 2)), .own 3 (.st 2), .v 4 (.int .i64)]⟩
noncomputable def fd30 : FD := ⟨30, bodyF Tryd.f30, Tryd.f30.results.toList, Tryd.f30.ntmps, [.val], [.v (.sl (.st 2))], [.v (.sl (.st 2))], 1, [c30_0], 5000, none⟩
noncomputable def h30 : List (En D) := [E32, E39, E41]
noncomputable def G30 : YR D [.v (.sl (.st 2))] → Option (YR D [.v (.sl (.st 2))]) := sealF (Gof D fd30 (tabH D h30))
noncomputable def E30 : En D := ⟨30, [.val], [.v (.sl (.st 2))], [.v (.sl (.st 2))], 1, G30⟩
noncomputable def F30 (x0 : List S42) : Option (List S42) := G30 (x0)
noncomputable def L30 : LL D (YR D fd30.ts) := sealF (LiF D fd30 (tabH D h30))
noncomputable def L30_0 (v0 : List S42) (v3 : List S42) (v4 : Int) : Option (List S42) := L30 c30_0 (v0, v3, v4, ())
theorem E30_ok : FnOk D PP E30 := fdS_ok lw fd30 (l := h30) (by kernel_rfl) (.cons E32_ok (.cons E39_ok (.cons E41_ok .nil))) Tryd.func30 (by kernel_rfl) (by kernel_rfl) (by kernel_rfl) (enters_of (c := bodyF Tryd.f30) Tryd.func30 (by kernel_rfl) (by kernel_rfl)) (by kernel_rfl) (by kernel_rfl)
/-- pochoirlaw05.PolySums -/
def c6_0 : Cut := ⟨15, [.v 0 (.sl (.st 0)), .v 1 (.sl (.st 0))]⟩
noncomputable def fd6 : FD := ⟨6, bodyF Tryd.f6, Tryd.f6.results.toList, Tryd.f6.ntmps, [.val, .val], [.v (.sl (.st 0)), .v (.sl (.st 0))], [.v (.bool)], 1, [c6_0], 5000, none⟩
noncomputable def h6 : List (En D) := [E7, E8, E9, E17, E21, E23, E24, E25, E26, E27, E28, E29, E30]
noncomputable def G6 : YR D [.v (.sl (.st 0)), .v (.sl (.st 0))] → Option (YR D [.v (.bool)]) := sealF (Gof D fd6 (tabH D h6))
noncomputable def E6 : En D := ⟨6, [.val, .val], [.v (.sl (.st 0)), .v (.sl (.st 0))], [.v (.bool)], 1, G6⟩
noncomputable def F6 (x0 : List S31) (x1 : List S31) : Option (Bool) := G6 (x0, x1)
noncomputable def L6 : LL D (YR D fd6.ts) := sealF (LiF D fd6 (tabH D h6))
noncomputable def L6_0 (v0 : List S31) (v1 : List S31) : Option (Bool) := L6 c6_0 (v0, v1, ())
theorem E6_ok : FnOk D PP E6 := fdS_ok lw fd6 (l := h6) (by kernel_rfl) (.cons E7_ok (.cons E8_ok (.cons E9_ok (.cons E17_ok (.cons E21_ok (.cons E23_ok (.cons E24_ok (.cons E25_ok (.cons E26_ok (.cons E27_ok (.cons E28_ok (.cons E29_ok (.cons E30_ok .nil))))))))))))) Tryd.func6 (by kernel_rfl) (by kernel_rfl) (by kernel_rfl) (enters_of (c := bodyF Tryd.f6) Tryd.func6 (by kernel_rfl) (by kernel_rfl)) (by kernel_rfl) (by kernel_rfl)
end Go.Proofs.YtidiifdiilahdaaDoor.Ev
