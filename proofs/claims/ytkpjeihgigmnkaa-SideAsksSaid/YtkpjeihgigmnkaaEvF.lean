/- Printed by a program of this claim: the functions, as they are told. -/
import Derived.Test.YtkpjeihgigmnkaaEvD
import Derived.Test.YtkpjeihgigmnkaaEvAe
import Derived.Test.YtkpjeihgigmnkaaEvAd
namespace Go.Proofs.Ytkpjeihgigmnkaa.Ev
open Go
set_option linter.unusedVariables false
noncomputable def bodyF (f : Func) : Code := match f.body with | some c => c | none => .skip
noncomputable def en_ (f : FD) (G : YR D f.as → Option (YR D f.ts)) : En D := ⟨f.g, f.pm, f.as, f.ts, f.nr, G⟩
theorem ok_ (f : FD) {l : List (En D)} {fn : Func} (hf : PP.funcs[f.g]? = some fn) (ha : AllOk D PP l) (hp : pmOk D l = true := by kernel_rfl) (hb : fn.body = some f.body := by kernel_rfl) (hr : fn.results.toList = f.rs := by kernel_rfl) (hn : fn.ntmps = f.nt := by kernel_rfl)
    (hm : (fn.name == "runtime.NumGoroutine") = false := by kernel_rfl) (hok : fdOk f = true := by kernel_rfl) (hw : xmOf D f.g = f.xm := by kernel_rfl) : FnOk D PP ⟨f.g, f.pm, f.as, f.ts, f.nr, sealF (Gof D f (tabH D l))⟩ :=
  fdS_ok lw f hp ha hf hb hr hn (enters_of hf hm hb) hok hw
/-- plane.May -/
noncomputable def fd19 : FD := ⟨19, bodyF Try.f19, Try.f19.results.toList, Try.f19.ntmps, [.val], [.v (.st 0)], [.v (.bool)], 1, [], 5000, none⟩
noncomputable def h19 : List (En D) := []
noncomputable def G19 : YR D [.v (.st 0)] → Option (YR D [.v (.bool)]) := sealF (Gof D fd19 (tabH D h19))
noncomputable def E19 : En D := en_ fd19 G19
noncomputable def F19 (x0 : S23) : Option (Bool) := G19 (x0)
theorem E19_ok : FnOk D PP E19 := ok_ fd19 (l := h19) Try.func19 (.nil)
/-- side.right -/
def c10_0 : Cut := ⟨51, [.box 3 3 (.st 1) 0 []]⟩
noncomputable def fd10 : FD := ⟨10, bodyF Try.f10, Try.f10.results.toList, Try.f10.ntmps, [.val, .val], [.v (.st 0), .v (.st 1)], [.v (.bool)], 1, [c10_0], 5000, none⟩
noncomputable def h10 : List (En D) := [E19]
noncomputable def G10 : YR D [.v (.st 0), .v (.st 1)] → Option (YR D [.v (.bool)]) := sealF (Gof D fd10 (tabH D h10))
noncomputable def E10 : En D := en_ fd10 G10
noncomputable def F10 (x0 : S23) (x1 : S25) : Option (Bool) := G10 (x0, x1)
noncomputable def L10 : LL D (YR D fd10.ts) := sealF (LiF D fd10 (tabH D h10))
noncomputable def L10_0 (v3 : S25) : Option (Bool) := L10 c10_0 (v3, ())
theorem E10_ok : FnOk D PP E10 := ok_ fd10 (l := h10) Try.func10 (.cons E19_ok .nil)
/-- plane.asked -/
def c32_0 : Cut := ⟨52, [.v 5 (.sl (.st 0)), .v 6 (.int .i64), .v 7 (.int .i64)]⟩
noncomputable def fd32 : FD := ⟨32, bodyF Try.f32, Try.f32.results.toList, Try.f32.ntmps, [.val], [.v (.sl (.st 0))], [.v (.int .i64)], 1, [c32_0], 5000, none⟩
noncomputable def h32 : List (En D) := [E19]
noncomputable def G32 : YR D [.v (.sl (.st 0))] → Option (YR D [.v (.int .i64)]) := sealF (Gof D fd32 (tabH D h32))
noncomputable def E32 : En D := en_ fd32 G32
noncomputable def F32 (x0 : List S23) : Option (Int) := G32 (x0)
noncomputable def L32 : LL D (YR D fd32.ts) := sealF (LiF D fd32 (tabH D h32))
noncomputable def L32_0 (v5 : List S23) (v6 : Int) (v7 : Int) : Option (Int) := L32 c32_0 (v5, v6, v7, ())
theorem E32_ok : FnOk D PP E32 := ok_ fd32 (l := h32) Try.func32 (.cons E19_ok .nil)
/-- plane.cross -/
noncomputable def fd33 : FD := ⟨33, bodyF Try.f33, Try.f33.results.toList, Try.f33.ntmps, [.val, .val, .val], [.v (.st 0), .v (.st 0), .v (.st 0)], [.v (.int .i64)], 1, [], 5000, none⟩
noncomputable def h33 : List (En D) := []
noncomputable def G33 : YR D [.v (.st 0), .v (.st 0), .v (.st 0)] → Option (YR D [.v (.int .i64)]) := sealF (Gof D fd33 (tabH D h33))
noncomputable def E33 : En D := en_ fd33 G33
noncomputable def F33 (x0 : S23) (x1 : S23) (x2 : S23) : Option (Int) := G33 (x0, x1, x2)
theorem E33_ok : FnOk D PP E33 := ok_ fd33 (l := h33) Try.func33 (.nil)
/-- plane.Cross -/
noncomputable def fd20 : FD := ⟨20, bodyF Try.f20, Try.f20.results.toList, Try.f20.ntmps, [.val, .val, .val], [.v (.st 0), .v (.st 0), .v (.st 0)], [.v (.int .i64), .v (.int .i64)], 2, [], 5000, none⟩
noncomputable def h20 : List (En D) := [E32, E33]
noncomputable def G20 : YR D [.v (.st 0), .v (.st 0), .v (.st 0)] → Option (YR D [.v (.int .i64), .v (.int .i64)]) := sealF (Gof D fd20 (tabH D h20))
noncomputable def E20 : En D := en_ fd20 G20
noncomputable def F20 (x0 : S23) (x1 : S23) (x2 : S23) : Option (Int × Int) := G20 (x0, x1, x2)
theorem E20_ok : FnOk D PP E20 := ok_ fd20 (l := h20) Try.func20 (.cons E32_ok (.cons E33_ok .nil))
/-- side.cross -/
noncomputable def fd11 : FD := ⟨11, bodyF Try.f11, Try.f11.results.toList, Try.f11.ntmps, [.val, .val, .val], [.v (.st 0), .v (.st 0), .v (.st 0)], [.v (.int .i64)], 1, [], 5000, none⟩
noncomputable def h11 : List (En D) := [E20]
noncomputable def G11 : YR D [.v (.st 0), .v (.st 0), .v (.st 0)] → Option (YR D [.v (.int .i64)]) := sealF (Gof D fd11 (tabH D h11))
noncomputable def E11 : En D := en_ fd11 G11
noncomputable def F11 (x0 : S23) (x1 : S23) (x2 : S23) : Option (Int) := G11 (x0, x1, x2)
theorem E11_ok : FnOk D PP E11 := ok_ fd11 (l := h11) Try.func11 (.cons E20_ok .nil)
/-- side.way -/
noncomputable def fd12 : FD := ⟨12, bodyF Try.f12, Try.f12.results.toList, Try.f12.ntmps, [.val, .val], [.v (.st 0), .v (.st 1)], [.v (.st 3)], 1, [], 5000, none⟩
noncomputable def h12 : List (En D) := []
noncomputable def G12 : YR D [.v (.st 0), .v (.st 1)] → Option (YR D [.v (.st 3)]) := sealF (Gof D fd12 (tabH D h12))
noncomputable def E12 : En D := en_ fd12 G12
noncomputable def F12 (x0 : S23) (x1 : S25) : Option (S37) := G12 (x0, x1)
theorem E12_ok : FnOk D PP E12 := ok_ fd12 (l := h12) Try.func12 (.nil)
/-- (side.line).above$1 -/
noncomputable def fd21 : FD := ⟨21, bodyF Try.f21, Try.f21.results.toList, Try.f21.ntmps, [.val, .ref], [.v (.int .i64), .v (.bool)], [.v (.bool), .v (.bool)], 1, [], 5000, none⟩
noncomputable def h21 : List (En D) := []
noncomputable def G21 : YR D [.v (.int .i64), .v (.bool)] → Option (YR D [.v (.bool), .v (.bool)]) := sealF (Gof D fd21 (tabH D h21))
noncomputable def E21 : En D := en_ fd21 G21
noncomputable def F21 (x0 : Int) (x1 : Bool) : Option (Bool × Bool) := G21 (x0, x1)
theorem E21_ok : FnOk D PP E21 := ok_ fd21 (l := h21) Try.func21 (.nil)
/-- side.size -/
noncomputable def fd24 : FD := ⟨24, bodyF Try.f24, Try.f24.results.toList, Try.f24.ntmps, [.val], [.v (.int .i64)], [.v (.int .u64)], 1, [], 5000, none⟩
noncomputable def h24 : List (En D) := []
noncomputable def G24 : YR D [.v (.int .i64)] → Option (YR D [.v (.int .u64)]) := sealF (Gof D fd24 (tabH D h24))
noncomputable def E24 : En D := en_ fd24 G24
noncomputable def F24 (x0 : Int) : Option (Int) := G24 (x0)
theorem E24_ok : FnOk D PP E24 := ok_ fd24 (l := h24) Try.func24 (.nil)
/-- math/bits.Mul64 -/
noncomputable def fd37 : FD := ⟨37, bodyF Try.f37, Try.f37.results.toList, Try.f37.ntmps, [.val, .val], [.v (.int .u64), .v (.int .u64)], [.v (.int .u64), .v (.int .u64)], 2, [], 5000, none⟩
noncomputable def h37 : List (En D) := []
noncomputable def G37 : YR D [.v (.int .u64), .v (.int .u64)] → Option (YR D [.v (.int .u64), .v (.int .u64)]) := sealF (Gof D fd37 (tabH D h37))
noncomputable def E37 : En D := en_ fd37 G37
noncomputable def F37 (x0 : Int) (x1 : Int) : Option (Int × Int) := G37 (x0, x1)
theorem E37_ok : FnOk D PP E37 := ok_ fd37 (l := h37) Try.func37 (.nil)
/-- wide.Mul -/
noncomputable def fd23 : FD := ⟨23, bodyF Try.f23, Try.f23.results.toList, Try.f23.ntmps, [.val, .val], [.v (.int .u64), .v (.int .u64)], [.v (.st 4)], 1, [], 5000, none⟩
noncomputable def h23 : List (En D) := [E37]
noncomputable def G23 : YR D [.v (.int .u64), .v (.int .u64)] → Option (YR D [.v (.st 4)]) := sealF (Gof D fd23 (tabH D h23))
noncomputable def E23 : En D := en_ fd23 G23
noncomputable def F23 (x0 : Int) (x1 : Int) : Option (S50) := G23 (x0, x1)
theorem E23_ok : FnOk D PP E23 := ok_ fd23 (l := h23) Try.func23 (.cons E37_ok .nil)
/-- wide.right -/
noncomputable def fd34 : FD := ⟨34, bodyF Try.f34, Try.f34.results.toList, Try.f34.ntmps, [.val, .val], [.v (.st 4), .v (.int .u64)], [.v (.st 4)], 1, [], 5000, none⟩
noncomputable def h34 : List (En D) := []
noncomputable def G34 : YR D [.v (.st 4), .v (.int .u64)] → Option (YR D [.v (.st 4)]) := sealF (Gof D fd34 (tabH D h34))
noncomputable def E34 : En D := en_ fd34 G34
noncomputable def F34 (x0 : S50) (x1 : Int) : Option (S50) := G34 (x0, x1)
theorem E34_ok : FnOk D PP E34 := ok_ fd34 (l := h34) Try.func34 (.nil)
/-- math/bits.Len64 -/
def c49_0 : Cut := ⟨7, [.v 0 (.int .u64), .v 2 (.int .i64)]⟩
def c49_1 : Cut := ⟨15, [.v 0 (.int .u64), .v 2 (.int .i64)]⟩
def c49_2 : Cut := ⟨31, [.v 0 (.int .u64), .v 2 (.int .i64)]⟩
noncomputable def fd49 : FD := ⟨49, bodyF Try.f49, Try.f49.results.toList, Try.f49.ntmps, [.val], [.v (.int .u64)], [.v (.int .i64)], 1, [c49_0, c49_1, c49_2], 5000, none⟩
noncomputable def h49 : List (En D) := []
noncomputable def G49 : YR D [.v (.int .u64)] → Option (YR D [.v (.int .i64)]) := sealF (Gof D fd49 (tabH D h49))
noncomputable def E49 : En D := en_ fd49 G49
noncomputable def F49 (x0 : Int) : Option (Int) := G49 (x0)
noncomputable def L49 : LL D (YR D fd49.ts) := sealF (LiF D fd49 (tabH D h49))
noncomputable def L49_0 (v0 : Int) (v2 : Int) : Option (Int) := L49 c49_0 (v0, v2, ())
noncomputable def L49_1 (v0 : Int) (v2 : Int) : Option (Int) := L49 c49_1 (v0, v2, ())
noncomputable def L49_2 (v0 : Int) (v2 : Int) : Option (Int) := L49 c49_2 (v0, v2, ())
theorem E49_ok : FnOk D PP E49 := ok_ fd49 (l := h49) Try.func49 (.nil)
/-- wide.Bits -/
noncomputable def fd35 : FD := ⟨35, bodyF Try.f35, Try.f35.results.toList, Try.f35.ntmps, [.val], [.v (.st 4)], [.v (.int .i64)], 1, [], 5000, none⟩
noncomputable def h35 : List (En D) := [E49]
noncomputable def G35 : YR D [.v (.st 4)] → Option (YR D [.v (.int .i64)]) := sealF (Gof D fd35 (tabH D h35))
noncomputable def E35 : En D := en_ fd35 G35
noncomputable def F35 (x0 : S50) : Option (Int) := G35 (x0)
theorem E35_ok : FnOk D PP E35 := ok_ fd35 (l := h35) Try.func35 (.cons E49_ok .nil)
/-- wide.left -/
noncomputable def fd36 : FD := ⟨36, bodyF Try.f36, Try.f36.results.toList, Try.f36.ntmps, [.val, .val], [.v (.st 4), .v (.int .u64)], [.v (.st 4)], 1, [], 5000, none⟩
noncomputable def h36 : List (En D) := []
noncomputable def G36 : YR D [.v (.st 4), .v (.int .u64)] → Option (YR D [.v (.st 4)]) := sealF (Gof D fd36 (tabH D h36))
noncomputable def E36 : En D := en_ fd36 G36
noncomputable def F36 (x0 : S50) (x1 : Int) : Option (S50) := G36 (x0, x1)
theorem E36_ok : FnOk D PP E36 := ok_ fd36 (l := h36) Try.func36 (.nil)
/-- wide.Shift -/
def c22_0 : Cut := ⟨51, [.v 1 (.int .i64), .box 2 2 (.st 4) 0 [], .box 4 4 (.st 4) 0 []]⟩
noncomputable def fd22 : FD := ⟨22, bodyF Try.f22, Try.f22.results.toList, Try.f22.ntmps, [.val, .val], [.v (.st 4), .v (.int .i64)], [.v (.st 4), .v (.int .i64)], 2, [c22_0], 5000, none⟩
noncomputable def h22 : List (En D) := [E34, E35, E36]
noncomputable def G22 : YR D [.v (.st 4), .v (.int .i64)] → Option (YR D [.v (.st 4), .v (.int .i64)]) := sealF (Gof D fd22 (tabH D h22))
noncomputable def E22 : En D := en_ fd22 G22
noncomputable def F22 (x0 : S50) (x1 : Int) : Option (S50 × Int) := G22 (x0, x1)
noncomputable def L22 : LL D (YR D fd22.ts) := sealF (LiF D fd22 (tabH D h22))
noncomputable def L22_0 (v1 : Int) (v2 : S50) (v4 : S50) : Option (S50 × Int) := L22 c22_0 (v1, v2, v4, ())
theorem E22_ok : FnOk D PP E22 := ok_ fd22 (l := h22) Try.func22 (.cons E34_ok (.cons E35_ok (.cons E36_ok .nil)))
/-- cmp.isNaN[uint64] -/
noncomputable def fd50 : FD := ⟨50, bodyF Try.f50, Try.f50.results.toList, Try.f50.ntmps, [.val], [.v (.int .u64)], [.v (.bool)], 1, [], 5000, none⟩
noncomputable def h50 : List (En D) := []
noncomputable def G50 : YR D [.v (.int .u64)] → Option (YR D [.v (.bool)]) := sealF (Gof D fd50 (tabH D h50))
noncomputable def E50 : En D := en_ fd50 G50
noncomputable def F50 (x0 : Int) : Option (Bool) := G50 (x0)
theorem E50_ok : FnOk D PP E50 := ok_ fd50 (l := h50) Try.func50 (.nil)
/-- cmp.Compare[uint64] -/
noncomputable def fd39 : FD := ⟨39, bodyF Try.f39, Try.f39.results.toList, Try.f39.ntmps, [.val, .val], [.v (.int .u64), .v (.int .u64)], [.v (.int .i64)], 1, [], 5000, none⟩
noncomputable def h39 : List (En D) := [E50]
noncomputable def G39 : YR D [.v (.int .u64), .v (.int .u64)] → Option (YR D [.v (.int .i64)]) := sealF (Gof D fd39 (tabH D h39))
noncomputable def E39 : En D := en_ fd39 G39
noncomputable def F39 (x0 : Int) (x1 : Int) : Option (Int) := G39 (x0, x1)
theorem E39_ok : FnOk D PP E39 := ok_ fd39 (l := h39) Try.func39 (.cons E50_ok .nil)
/-- cmp.Or[int] -/
def c38_0 : Cut := ⟨116, [.v 3 (.int .i64), .v 6 (.sl (.int .i64)), .v 7 (.int .i64), .v 8 (.int .i64)]⟩
noncomputable def fd38 : FD := ⟨38, bodyF Try.f38, Try.f38.results.toList, Try.f38.ntmps, [.val], [.v (.sl (.int .i64))], [.v (.int .i64)], 1, [c38_0], 5000, none⟩
noncomputable def h38 : List (En D) := []
noncomputable def G38 : YR D [.v (.sl (.int .i64))] → Option (YR D [.v (.int .i64)]) := sealF (Gof D fd38 (tabH D h38))
noncomputable def E38 : En D := en_ fd38 G38
noncomputable def F38 (x0 : List Int) : Option (Int) := G38 (x0)
noncomputable def L38 : LL D (YR D fd38.ts) := sealF (LiF D fd38 (tabH D h38))
noncomputable def L38_0 (v3 : Int) (v6 : List Int) (v7 : Int) (v8 : Int) : Option (Int) := L38 c38_0 (v3, v6, v7, v8, ())
theorem E38_ok : FnOk D PP E38 := ok_ fd38 (l := h38) Try.func38 (.nil)
/-- wide.Cmp -/
noncomputable def fd25 : FD := ⟨25, bodyF Try.f25, Try.f25.results.toList, Try.f25.ntmps, [.val, .val], [.v (.st 4), .v (.st 4)], [.v (.int .i64)], 1, [], 5000, none⟩
noncomputable def h25 : List (En D) := [E38, E39]
noncomputable def G25 : YR D [.v (.st 4), .v (.st 4)] → Option (YR D [.v (.int .i64)]) := sealF (Gof D fd25 (tabH D h25))
noncomputable def E25 : En D := en_ fd25 G25
noncomputable def F25 (x0 : S50) (x1 : S50) : Option (Int) := G25 (x0, x1)
theorem E25_ok : FnOk D PP E25 := ok_ fd25 (l := h25) Try.func25 (.cons E38_ok (.cons E39_ok .nil))
/-- (side.line).above -/
def c13_0 : Cut := ⟨15, [.box 2 2 (.st 3) 0 [], .box 3 3 (.bool) 0 []]⟩
def c13_1 : Cut := ⟨31, [.box 2 2 (.st 3) 0 [], .box 3 3 (.bool) 0 []]⟩
noncomputable def fd13 : FD := ⟨13, bodyF Try.f13, Try.f13.results.toList, Try.f13.ntmps, [.val, .val], [.v (.st 3), .v (.bool)], [.v (.bool)], 1, [c13_0, c13_1], 5000, none⟩
noncomputable def h13 : List (En D) := [E21, E22, E23, E24, E25]
noncomputable def G13 : YR D [.v (.st 3), .v (.bool)] → Option (YR D [.v (.bool)]) := sealF (Gof D fd13 (tabH D h13))
noncomputable def E13 : En D := en_ fd13 G13
noncomputable def F13 (x0 : S37) (x1 : Bool) : Option (Bool) := G13 (x0, x1)
noncomputable def L13 : LL D (YR D fd13.ts) := sealF (LiF D fd13 (tabH D h13))
noncomputable def L13_0 (v2 : S37) (v3 : Bool) : Option (Bool) := L13 c13_0 (v2, v3, ())
noncomputable def L13_1 (v2 : S37) (v3 : Bool) : Option (Bool) := L13 c13_1 (v2, v3, ())
theorem E13_ok : FnOk D PP E13 := ok_ fd13 (l := h13) Try.func13 (.cons E21_ok (.cons E22_ok (.cons E23_ok (.cons E24_ok (.cons E25_ok .nil)))))
/-- side.Right -/
def c5_0 : Cut := ⟨31, [.box 2 2 (.st 0) 0 [], .box 3 3 (.st 1) 0 [], .v 6 (.int .i64)]⟩
noncomputable def fd5 : FD := ⟨5, bodyF Try.f5, Try.f5.results.toList, Try.f5.ntmps, [.val, .val], [.v (.st 0), .v (.st 1)], [.v (.bool), .v (.int .i64)], 2, [c5_0], 5000, none⟩
noncomputable def h5 : List (En D) := [E10, E11, E12, E13]
noncomputable def G5 : YR D [.v (.st 0), .v (.st 1)] → Option (YR D [.v (.bool), .v (.int .i64)]) := sealF (Gof D fd5 (tabH D h5))
noncomputable def E5 : En D := en_ fd5 G5
noncomputable def F5 (x0 : S23) (x1 : S25) : Option (Bool × Int) := G5 (x0, x1)
noncomputable def L5 : LL D (YR D fd5.ts) := sealF (LiF D fd5 (tabH D h5))
noncomputable def L5_0 (v2 : S23) (v3 : S25) (v6 : Int) : Option (Bool × Int) := L5 c5_0 (v2, v3, v6, ())
theorem E5_ok : FnOk D PP E5 := ok_ fd5 (l := h5) Try.func5 (.cons E10_ok (.cons E11_ok (.cons E12_ok (.cons E13_ok .nil))))
/-- side.Way -/
noncomputable def fd6 : FD := ⟨6, bodyF Try.f6, Try.f6.results.toList, Try.f6.ntmps, [.val, .val], [.v (.st 0), .v (.st 1)], [.v (.st 2), .v (.int .i64)], 2, [], 5000, none⟩
noncomputable def h6 : List (En D) := [E10, E11, E12]
noncomputable def G6 : YR D [.v (.st 0), .v (.st 1)] → Option (YR D [.v (.st 2), .v (.int .i64)]) := sealF (Gof D fd6 (tabH D h6))
noncomputable def E6 : En D := en_ fd6 G6
noncomputable def F6 (x0 : S23) (x1 : S25) : Option (S30 × Int) := G6 (x0, x1)
theorem E6_ok : FnOk D PP E6 := ok_ fd6 (l := h6) Try.func6 (.cons E10_ok (.cons E11_ok (.cons E12_ok .nil)))
/-- pochoirlaw24.awake -/
noncomputable def fd4 : FD := ⟨4, bodyF Try.f4, Try.f4.results.toList, Try.f4.ntmps, [], [], [.v (.bool)], 1, [], 5000, none⟩
noncomputable def h4 : List (En D) := [E5, E6]
noncomputable def G4 : YR D [] → Option (YR D [.v (.bool)]) := sealF (Gof D fd4 (tabH D h4))
noncomputable def E4 : En D := en_ fd4 G4
noncomputable def F4 : Option (Bool) := G4 ()
theorem E4_ok : FnOk D PP E4 := ok_ fd4 (l := h4) Try.func4 (.cons E5_ok (.cons E6_ok .nil))
/-- pochoirref18.May -/
noncomputable def fd14 : FD := ⟨14, bodyF Try.f14, Try.f14.results.toList, Try.f14.ntmps, [.val], [.v (.st 0)], [.v (.bool)], 1, [], 5000, none⟩
noncomputable def h14 : List (En D) := []
noncomputable def G14 : YR D [.v (.st 0)] → Option (YR D [.v (.bool)]) := sealF (Gof D fd14 (tabH D h14))
noncomputable def E14 : En D := en_ fd14 G14
noncomputable def F14 (x0 : S23) : Option (Bool) := G14 (x0)
theorem E14_ok : FnOk D PP E14 := ok_ fd14 (l := h14) Try.func14 (.nil)
/-- pochoirref16.fine -/
noncomputable def fd26 : FD := ⟨26, bodyF Try.f26, Try.f26.results.toList, Try.f26.ntmps, [.val], [.v (.st 0)], [.v (.bool)], 1, [], 5000, none⟩
noncomputable def h26 : List (En D) := []
noncomputable def G26 : YR D [.v (.st 0)] → Option (YR D [.v (.bool)]) := sealF (Gof D fd26 (tabH D h26))
noncomputable def E26 : En D := en_ fd26 G26
noncomputable def F26 (x0 : S23) : Option (Bool) := G26 (x0)
theorem E26_ok : FnOk D PP E26 := ok_ fd26 (l := h26) Try.func26 (.nil)
/-- pochoirref16.same -/
noncomputable def fd27 : FD := ⟨27, bodyF Try.f27, Try.f27.results.toList, Try.f27.ntmps, [.val], [.v (.st 1)], [.v (.bool)], 1, [], 5000, none⟩
noncomputable def h27 : List (En D) := []
noncomputable def G27 : YR D [.v (.st 1)] → Option (YR D [.v (.bool)]) := sealF (Gof D fd27 (tabH D h27))
noncomputable def E27 : En D := en_ fd27 G27
noncomputable def F27 (x0 : S25) : Option (Bool) := G27 (x0)
theorem E27_ok : FnOk D PP E27 := ok_ fd27 (l := h27) Try.func27 (.nil)
/-- pochoirref16.One -/
noncomputable def fd15 : FD := ⟨15, bodyF Try.f15, Try.f15.results.toList, Try.f15.ntmps, [.val], [.v (.st 1)], [.v (.bool)], 1, [], 5000, none⟩
noncomputable def h15 : List (En D) := [E26, E27]
noncomputable def G15 : YR D [.v (.st 1)] → Option (YR D [.v (.bool)]) := sealF (Gof D fd15 (tabH D h15))
noncomputable def E15 : En D := en_ fd15 G15
noncomputable def F15 (x0 : S25) : Option (Bool) := G15 (x0)
theorem E15_ok : FnOk D PP E15 := ok_ fd15 (l := h15) Try.func15 (.cons E26_ok (.cons E27_ok .nil))
/-- pochoirref24.May -/
noncomputable def fd7 : FD := ⟨7, bodyF Try.f7, Try.f7.results.toList, Try.f7.ntmps, [.val, .val], [.v (.st 0), .v (.st 1)], [.v (.bool)], 1, [], 5000, none⟩
noncomputable def h7 : List (En D) := [E14, E15]
noncomputable def G7 : YR D [.v (.st 0), .v (.st 1)] → Option (YR D [.v (.bool)]) := sealF (Gof D fd7 (tabH D h7))
noncomputable def E7 : En D := en_ fd7 G7
noncomputable def F7 (x0 : S23) (x1 : S25) : Option (Bool) := G7 (x0, x1)
theorem E7_ok : FnOk D PP E7 := ok_ fd7 (l := h7) Try.func7 (.cons E14_ok (.cons E15_ok .nil))
/-- pochoirref18.Cross -/
noncomputable def fd16 : FD := ⟨16, bodyF Try.f16, Try.f16.results.toList, Try.f16.ntmps, [.val, .val, .val], [.v (.st 0), .v (.st 0), .v (.st 0)], [.v (.int .i64)], 1, [], 5000, none⟩
noncomputable def h16 : List (En D) := []
noncomputable def G16 : YR D [.v (.st 0), .v (.st 0), .v (.st 0)] → Option (YR D [.v (.int .i64)]) := sealF (Gof D fd16 (tabH D h16))
noncomputable def E16 : En D := en_ fd16 G16
noncomputable def F16 (x0 : S23) (x1 : S23) (x2 : S23) : Option (Int) := G16 (x0, x1, x2)
theorem E16_ok : FnOk D PP E16 := ok_ fd16 (l := h16) Try.func16 (.nil)
/-- pochoirref18.Sign -/
noncomputable def fd17 : FD := ⟨17, bodyF Try.f17, Try.f17.results.toList, Try.f17.ntmps, [.val], [.v (.int .i64)], [.v (.int .i64)], 1, [], 5000, none⟩
noncomputable def h17 : List (En D) := []
noncomputable def G17 : YR D [.v (.int .i64)] → Option (YR D [.v (.int .i64)]) := sealF (Gof D fd17 (tabH D h17))
noncomputable def E17 : En D := en_ fd17 G17
noncomputable def F17 (x0 : Int) : Option (Int) := G17 (x0)
theorem E17_ok : FnOk D PP E17 := ok_ fd17 (l := h17) Try.func17 (.nil)
/-- pochoirref24.Way -/
noncomputable def fd9 : FD := ⟨9, bodyF Try.f9, Try.f9.results.toList, Try.f9.ntmps, [.val, .val], [.v (.st 0), .v (.st 1)], [.v (.st 2)], 1, [], 5000, none⟩
noncomputable def h9 : List (En D) := [E16]
noncomputable def G9 : YR D [.v (.st 0), .v (.st 1)] → Option (YR D [.v (.st 2)]) := sealF (Gof D fd9 (tabH D h9))
noncomputable def E9 : En D := en_ fd9 G9
noncomputable def F9 (x0 : S23) (x1 : S25) : Option (S30) := G9 (x0, x1)
theorem E9_ok : FnOk D PP E9 := ok_ fd9 (l := h9) Try.func9 (.cons E16_ok .nil)
/-- pochoirref02.trim -/
def c65_0 : Cut := ⟨56, [.v 0 (.sl (.int .u64)), .v 3 (.int .i64)]⟩
noncomputable def fd65 : FD := ⟨65, bodyF Try.f65, Try.f65.results.toList, Try.f65.ntmps, [.val], [.v (.sl (.int .u64))], [.v (.sl (.int .u64))], 1, [c65_0], 5000, none⟩
noncomputable def h65 : List (En D) := []
noncomputable def G65 : YR D [.v (.sl (.int .u64))] → Option (YR D [.v (.sl (.int .u64))]) := sealF (Gof D fd65 (tabH D h65))
noncomputable def E65 : En D := en_ fd65 G65
noncomputable def F65 (x0 : List Int) : Option (List Int) := G65 (x0)
noncomputable def L65 : LL D (YR D fd65.ts) := sealF (LiF D fd65 (tabH D h65))
noncomputable def L65_0 (v0 : List Int) (v3 : Int) : Option (List Int) := L65 c65_0 (v0, v3, ())
theorem E65_ok : FnOk D PP E65 := ok_ fd65 (l := h65) Try.func65 (.nil)
/-- pochoirref02.norm -/
noncomputable def fd51 : FD := ⟨51, bodyF Try.f51, Try.f51.results.toList, Try.f51.ntmps, [.val, .val], [.v (.bool), .v (.sl (.int .u64))], [.v (.st 5)], 1, [], 5000, none⟩
noncomputable def h51 : List (En D) := [E65]
noncomputable def G51 : YR D [.v (.bool), .v (.sl (.int .u64))] → Option (YR D [.v (.st 5)]) := sealF (Gof D fd51 (tabH D h51))
noncomputable def E51 : En D := en_ fd51 G51
noncomputable def F51 (x0 : Bool) (x1 : List Int) : Option (S73) := G51 (x0, x1)
theorem E51_ok : FnOk D PP E51 := ok_ fd51 (l := h51) Try.func51 (.cons E65_ok .nil)
/-- pochoirref02.Of -/
def c40_0 : Cut := ⟨15, [.v 0 (.int .i64), .box 2 2 (.st 5) 0 [], .v 3 (.int .u64)]⟩
noncomputable def fd40 : FD := ⟨40, bodyF Try.f40, Try.f40.results.toList, Try.f40.ntmps, [.val], [.v (.int .i64)], [.v (.st 5)], 1, [c40_0], 5000, none⟩
noncomputable def h40 : List (En D) := [E51]
noncomputable def G40 : YR D [.v (.int .i64)] → Option (YR D [.v (.st 5)]) := sealF (Gof D fd40 (tabH D h40))
noncomputable def E40 : En D := en_ fd40 G40
noncomputable def F40 (x0 : Int) : Option (S73) := G40 (x0)
noncomputable def L40 : LL D (YR D fd40.ts) := sealF (LiF D fd40 (tabH D h40))
noncomputable def L40_0 (v0 : Int) (v2 : S73) (v3 : Int) : Option (S73) := L40 c40_0 (v0, v2, v3, ())
theorem E40_ok : FnOk D PP E40 := ok_ fd40 (l := h40) Try.func40 (.cons E51_ok .nil)
/-- pochoirref02.Sign -/
noncomputable def fd44 : FD := ⟨44, bodyF Try.f44, Try.f44.results.toList, Try.f44.ntmps, [.val], [.v (.st 5)], [.v (.int .i64)], 1, [], 5000, none⟩
noncomputable def h44 : List (En D) := []
noncomputable def G44 : YR D [.v (.st 5)] → Option (YR D [.v (.int .i64)]) := sealF (Gof D fd44 (tabH D h44))
noncomputable def E44 : En D := en_ fd44 G44
noncomputable def F44 (x0 : S73) : Option (Int) := G44 (x0)
theorem E44_ok : FnOk D PP E44 := ok_ fd44 (l := h44) Try.func44 (.nil)
/-- pochoirref05.Trim -/
def c41_0 : Cut := ⟨56, [.v 0 (.sl (.st 5)), .v 3 (.int .i64)]⟩
noncomputable def fd41 : FD := ⟨41, bodyF Try.f41, Try.f41.results.toList, Try.f41.ntmps, [.val], [.v (.sl (.st 5))], [.v (.sl (.st 5))], 1, [c41_0], 5000, none⟩
noncomputable def h41 : List (En D) := [E44]
noncomputable def G41 : YR D [.v (.sl (.st 5))] → Option (YR D [.v (.sl (.st 5))]) := sealF (Gof D fd41 (tabH D h41))
noncomputable def E41 : En D := en_ fd41 G41
noncomputable def F41 (x0 : List S73) : Option (List S73) := G41 (x0)
noncomputable def L41 : LL D (YR D fd41.ts) := sealF (LiF D fd41 (tabH D h41))
noncomputable def L41_0 (v0 : List S73) (v3 : Int) : Option (List S73) := L41 c41_0 (v0, v3, ())
theorem E41_ok : FnOk D PP E41 := ok_ fd41 (l := h41) Try.func41 (.cons E44_ok .nil)
/-- pochoirref05.Of -/
def c28_0 : Cut := ⟨116, [.v 0 (.sl (.int .i64)), .own 3 (.st 5), .v 4 (.int .i64)]⟩
noncomputable def fd28 : FD := ⟨28, bodyF Try.f28, Try.f28.results.toList, Try.f28.ntmps, [.val], [.v (.sl (.int .i64))], [.v (.sl (.st 5))], 1, [c28_0], 5000, none⟩
noncomputable def h28 : List (En D) := [E40, E41]
noncomputable def G28 : YR D [.v (.sl (.int .i64))] → Option (YR D [.v (.sl (.st 5))]) := sealF (Gof D fd28 (tabH D h28))
noncomputable def E28 : En D := en_ fd28 G28
noncomputable def F28 (x0 : List Int) : Option (List S73) := G28 (x0)
noncomputable def L28 : LL D (YR D fd28.ts) := sealF (LiF D fd28 (tabH D h28))
noncomputable def L28_0 (v0 : List Int) (v3 : List S73) (v4 : Int) : Option (List S73) := L28 c28_0 (v0, v3, v4, ())
theorem E28_ok : FnOk D PP E28 := ok_ fd28 (l := h28) Try.func28 (.cons E40_ok (.cons E41_ok .nil))
/-- pochoirref02.at -/
noncomputable def fd66 : FD := ⟨66, bodyF Try.f66, Try.f66.results.toList, Try.f66.ntmps, [.val, .val], [.v (.sl (.int .u64)), .v (.int .i64)], [.v (.int .u64)], 1, [], 5000, none⟩
noncomputable def h66 : List (En D) := []
noncomputable def G66 : YR D [.v (.sl (.int .u64)), .v (.int .i64)] → Option (YR D [.v (.int .u64)]) := sealF (Gof D fd66 (tabH D h66))
noncomputable def E66 : En D := en_ fd66 G66
noncomputable def F66 (x0 : List Int) (x1 : Int) : Option (Int) := G66 (x0, x1)
theorem E66_ok : FnOk D PP E66 := ok_ fd66 (l := h66) Try.func66 (.nil)
/-- pochoirref02.Mul -/
def c55_0 : Cut := ⟨116, [.box 2 2 (.st 5) 0 [], .box 3 3 (.st 5) 0 [], .box 4 4 (.st 5) 0 [], .own 5 (.int .u64), .v 6 (.int .i64)]⟩
def c55_1 : Cut := ⟨14924, [.box 2 2 (.st 5) 0 [], .box 3 3 (.st 5) 0 [], .box 4 4 (.st 5) 0 [], .own 5 (.int .u64), .v 6 (.int .i64), .v 7 (.int .u64), .v 8 (.int .i64)]⟩
def c55_2 : Cut := ⟨29849, [.box 2 2 (.st 5) 0 [], .box 3 3 (.st 5) 0 [], .box 4 4 (.st 5) 0 [], .own 5 (.int .u64), .v 6 (.int .i64), .v 7 (.int .u64), .v 8 (.int .i64)]⟩
noncomputable def fd55 : FD := ⟨55, bodyF Try.f55, Try.f55.results.toList, Try.f55.ntmps, [.val, .val], [.v (.st 5), .v (.st 5)], [.v (.st 5)], 1, [c55_0, c55_1, c55_2], 5000, none⟩
noncomputable def h55 : List (En D) := [E51, E66]
noncomputable def G55 : YR D [.v (.st 5), .v (.st 5)] → Option (YR D [.v (.st 5)]) := sealF (Gof D fd55 (tabH D h55))
noncomputable def E55 : En D := en_ fd55 G55
noncomputable def F55 (x0 : S73) (x1 : S73) : Option (S73) := G55 (x0, x1)
noncomputable def L55 : LL D (YR D fd55.ts) := sealF (LiF D fd55 (tabH D h55))
noncomputable def L55_0 (v2 : S73) (v3 : S73) (v4 : S73) (v5 : List Int) (v6 : Int) : Option (S73) := L55 c55_0 (v2, v3, v4, v5, v6, ())
noncomputable def L55_1 (v2 : S73) (v3 : S73) (v4 : S73) (v5 : List Int) (v6 : Int) (v7 : Int) (v8 : Int) : Option (S73) := L55 c55_1 (v2, v3, v4, v5, v6, v7, v8, ())
noncomputable def L55_2 (v2 : S73) (v3 : S73) (v4 : S73) (v5 : List Int) (v6 : Int) (v7 : Int) (v8 : Int) : Option (S73) := L55 c55_2 (v2, v3, v4, v5, v6, v7, v8, ())
theorem E55_ok : FnOk D PP E55 := ok_ fd55 (l := h55) Try.func55 (.cons E51_ok (.cons E66_ok .nil))
/-- pochoirref02.Neg -/
noncomputable def fd67 : FD := ⟨67, bodyF Try.f67, Try.f67.results.toList, Try.f67.ntmps, [.val], [.v (.st 5)], [.v (.st 5)], 1, [], 5000, none⟩
noncomputable def h67 : List (En D) := [E51]
noncomputable def G67 : YR D [.v (.st 5)] → Option (YR D [.v (.st 5)]) := sealF (Gof D fd67 (tabH D h67))
noncomputable def E67 : En D := en_ fd67 G67
noncomputable def F67 (x0 : S73) : Option (S73) := G67 (x0)
theorem E67_ok : FnOk D PP E67 := ok_ fd67 (l := h67) Try.func67 (.cons E51_ok .nil)
/-- pochoirref02.plus -/
def c69_0 : Cut := ⟨244, [.v 0 (.sl (.int .u64)), .v 1 (.sl (.int .u64)), .own 5 (.int .u64), .v 6 (.int .u64), .v 7 (.int .i64)]⟩
def c69_1 : Cut := ⟨489, [.v 0 (.sl (.int .u64)), .v 1 (.sl (.int .u64)), .own 5 (.int .u64), .v 6 (.int .u64), .v 7 (.int .i64)]⟩
noncomputable def fd69 : FD := ⟨69, bodyF Try.f69, Try.f69.results.toList, Try.f69.ntmps, [.val, .val], [.v (.sl (.int .u64)), .v (.sl (.int .u64))], [.v (.sl (.int .u64))], 1, [c69_0, c69_1], 5000, none⟩
noncomputable def h69 : List (En D) := [E66]
noncomputable def G69 : YR D [.v (.sl (.int .u64)), .v (.sl (.int .u64))] → Option (YR D [.v (.sl (.int .u64))]) := sealF (Gof D fd69 (tabH D h69))
noncomputable def E69 : En D := en_ fd69 G69
noncomputable def F69 (x0 : List Int) (x1 : List Int) : Option (List Int) := G69 (x0, x1)
noncomputable def L69 : LL D (YR D fd69.ts) := sealF (LiF D fd69 (tabH D h69))
noncomputable def L69_0 (v0 : List Int) (v1 : List Int) (v5 : List Int) (v6 : Int) (v7 : Int) : Option (List Int) := L69 c69_0 (v0, v1, v5, v6, v7, ())
noncomputable def L69_1 (v0 : List Int) (v1 : List Int) (v5 : List Int) (v6 : Int) (v7 : Int) : Option (List Int) := L69 c69_1 (v0, v1, v5, v6, v7, ())
theorem E69_ok : FnOk D PP E69 := ok_ fd69 (l := h69) Try.func69 (.cons E66_ok .nil)
/-- pochoirref02.less -/
def c70_0 : Cut := ⟨116, [.v 0 (.sl (.int .u64)), .v 1 (.sl (.int .u64)), .v 5 (.int .i64)]⟩
noncomputable def fd70 : FD := ⟨70, bodyF Try.f70, Try.f70.results.toList, Try.f70.ntmps, [.val, .val], [.v (.sl (.int .u64)), .v (.sl (.int .u64))], [.v (.int .i64)], 1, [c70_0], 5000, none⟩
noncomputable def h70 : List (En D) := []
noncomputable def G70 : YR D [.v (.sl (.int .u64)), .v (.sl (.int .u64))] → Option (YR D [.v (.int .i64)]) := sealF (Gof D fd70 (tabH D h70))
noncomputable def E70 : En D := en_ fd70 G70
noncomputable def F70 (x0 : List Int) (x1 : List Int) : Option (Int) := G70 (x0, x1)
noncomputable def L70 : LL D (YR D fd70.ts) := sealF (LiF D fd70 (tabH D h70))
noncomputable def L70_0 (v0 : List Int) (v1 : List Int) (v5 : Int) : Option (Int) := L70 c70_0 (v0, v1, v5, ())
theorem E70_ok : FnOk D PP E70 := ok_ fd70 (l := h70) Try.func70 (.nil)
/-- pochoirref02.minus -/
def c71_0 : Cut := ⟨244, [.v 0 (.sl (.int .u64)), .v 1 (.sl (.int .u64)), .own 5 (.int .u64), .v 6 (.int .u64), .v 7 (.int .i64)]⟩
noncomputable def fd71 : FD := ⟨71, bodyF Try.f71, Try.f71.results.toList, Try.f71.ntmps, [.val, .val], [.v (.sl (.int .u64)), .v (.sl (.int .u64))], [.v (.sl (.int .u64))], 1, [c71_0], 5000, none⟩
noncomputable def h71 : List (En D) := [E66]
noncomputable def G71 : YR D [.v (.sl (.int .u64)), .v (.sl (.int .u64))] → Option (YR D [.v (.sl (.int .u64))]) := sealF (Gof D fd71 (tabH D h71))
noncomputable def E71 : En D := en_ fd71 G71
noncomputable def F71 (x0 : List Int) (x1 : List Int) : Option (List Int) := G71 (x0, x1)
noncomputable def L71 : LL D (YR D fd71.ts) := sealF (LiF D fd71 (tabH D h71))
noncomputable def L71_0 (v0 : List Int) (v1 : List Int) (v5 : List Int) (v6 : Int) (v7 : Int) : Option (List Int) := L71 c71_0 (v0, v1, v5, v6, v7, ())
theorem E71_ok : FnOk D PP E71 := ok_ fd71 (l := h71) Try.func71 (.cons E66_ok .nil)
/-- pochoirref02.Add -/
noncomputable def fd60 : FD := ⟨60, bodyF Try.f60, Try.f60.results.toList, Try.f60.ntmps, [.val, .val], [.v (.st 5), .v (.st 5)], [.v (.st 5)], 1, [], 5000, none⟩
noncomputable def h60 : List (En D) := [E51, E69, E70, E71]
noncomputable def G60 : YR D [.v (.st 5), .v (.st 5)] → Option (YR D [.v (.st 5)]) := sealF (Gof D fd60 (tabH D h60))
noncomputable def E60 : En D := en_ fd60 G60
noncomputable def F60 (x0 : S73) (x1 : S73) : Option (S73) := G60 (x0, x1)
theorem E60_ok : FnOk D PP E60 := ok_ fd60 (l := h60) Try.func60 (.cons E51_ok (.cons E69_ok (.cons E70_ok (.cons E71_ok .nil))))
/-- pochoirref02.Sub -/
noncomputable def fd56 : FD := ⟨56, bodyF Try.f56, Try.f56.results.toList, Try.f56.ntmps, [.val, .val], [.v (.st 5), .v (.st 5)], [.v (.st 5)], 1, [], 5000, none⟩
noncomputable def h56 : List (En D) := [E60, E67]
noncomputable def G56 : YR D [.v (.st 5), .v (.st 5)] → Option (YR D [.v (.st 5)]) := sealF (Gof D fd56 (tabH D h56))
noncomputable def E56 : En D := en_ fd56 G56
noncomputable def F56 (x0 : S73) (x1 : S73) : Option (S73) := G56 (x0, x1)
theorem E56_ok : FnOk D PP E56 := ok_ fd56 (l := h56) Try.func56 (.cons E60_ok (.cons E67_ok .nil))
/-- pochoirref05.at -/
noncomputable def fd68 : FD := ⟨68, bodyF Try.f68, Try.f68.results.toList, Try.f68.ntmps, [.val, .val], [.v (.sl (.st 5)), .v (.int .i64)], [.v (.st 5)], 1, [], 5000, none⟩
noncomputable def h68 : List (En D) := []
noncomputable def G68 : YR D [.v (.sl (.st 5)), .v (.int .i64)] → Option (YR D [.v (.st 5)]) := sealF (Gof D fd68 (tabH D h68))
noncomputable def E68 : En D := en_ fd68 G68
noncomputable def F68 (x0 : List S73) (x1 : Int) : Option (S73) := G68 (x0, x1)
theorem E68_ok : FnOk D PP E68 := ok_ fd68 (l := h68) Try.func68 (.nil)
/-- pochoirref05.Mul -/
def c57_0 : Cut := ⟨116, [.v 0 (.sl (.st 5)), .v 1 (.sl (.st 5)), .own 5 (.st 5), .v 6 (.int .i64)]⟩
def c57_1 : Cut := ⟨29844, [.v 0 (.sl (.st 5)), .v 1 (.sl (.st 5)), .own 5 (.st 5), .v 6 (.int .i64), .box 7 7 (.st 5) 0 [], .v 8 (.int .i64)]⟩
noncomputable def fd57 : FD := ⟨57, bodyF Try.f57, Try.f57.results.toList, Try.f57.ntmps, [.val, .val], [.v (.sl (.st 5)), .v (.sl (.st 5))], [.v (.sl (.st 5))], 1, [c57_0, c57_1], 5000, none⟩
noncomputable def h57 : List (En D) := [E41, E55, E60, E68]
noncomputable def G57 : YR D [.v (.sl (.st 5)), .v (.sl (.st 5))] → Option (YR D [.v (.sl (.st 5))]) := sealF (Gof D fd57 (tabH D h57))
noncomputable def E57 : En D := en_ fd57 G57
noncomputable def F57 (x0 : List S73) (x1 : List S73) : Option (List S73) := G57 (x0, x1)
noncomputable def L57 : LL D (YR D fd57.ts) := sealF (LiF D fd57 (tabH D h57))
noncomputable def L57_0 (v0 : List S73) (v1 : List S73) (v5 : List S73) (v6 : Int) : Option (List S73) := L57 c57_0 (v0, v1, v5, v6, ())
noncomputable def L57_1 (v0 : List S73) (v1 : List S73) (v5 : List S73) (v6 : Int) (v7 : S73) (v8 : Int) : Option (List S73) := L57 c57_1 (v0, v1, v5, v6, v7, v8, ())
theorem E57_ok : FnOk D PP E57 := ok_ fd57 (l := h57) Try.func57 (.cons E41_ok (.cons E55_ok (.cons E60_ok (.cons E68_ok .nil))))
/-- pochoirref06.power -/
def c58_0 : Cut := ⟨116, [.v 0 (.sl (.st 5)), .v 1 (.int .i64), .v 5 (.sl (.st 5)), .v 6 (.int .i64)]⟩
noncomputable def fd58 : FD := ⟨58, bodyF Try.f58, Try.f58.results.toList, Try.f58.ntmps, [.val, .val], [.v (.sl (.st 5)), .v (.int .i64)], [.v (.sl (.st 5))], 1, [c58_0], 5000, none⟩
noncomputable def h58 : List (En D) := [E28, E57]
noncomputable def G58 : YR D [.v (.sl (.st 5)), .v (.int .i64)] → Option (YR D [.v (.sl (.st 5))]) := sealF (Gof D fd58 (tabH D h58))
noncomputable def E58 : En D := en_ fd58 G58
noncomputable def F58 (x0 : List S73) (x1 : Int) : Option (List S73) := G58 (x0, x1)
noncomputable def L58 : LL D (YR D fd58.ts) := sealF (LiF D fd58 (tabH D h58))
noncomputable def L58_0 (v0 : List S73) (v1 : Int) (v5 : List S73) (v6 : Int) : Option (List S73) := L58 c58_0 (v0, v1, v5, v6, ())
theorem E58_ok : FnOk D PP E58 := ok_ fd58 (l := h58) Try.func58 (.cons E28_ok (.cons E57_ok .nil))
/-- pochoirref05.Add -/
def c59_0 : Cut := ⟨15, [.own 5 (.st 5)]⟩
def c59_1 : Cut := ⟨116, [.v 0 (.sl (.st 5)), .v 1 (.sl (.st 5)), .own 5 (.st 5), .v 6 (.int .i64)]⟩
def c59_2 : Cut := ⟨233, [.v 0 (.sl (.st 5)), .v 1 (.sl (.st 5)), .own 5 (.st 5), .v 6 (.int .i64)]⟩
noncomputable def fd59 : FD := ⟨59, bodyF Try.f59, Try.f59.results.toList, Try.f59.ntmps, [.val, .val], [.v (.sl (.st 5)), .v (.sl (.st 5))], [.v (.sl (.st 5))], 1, [c59_0, c59_1, c59_2], 5000, none⟩
noncomputable def h59 : List (En D) := [E41, E60, E68]
noncomputable def G59 : YR D [.v (.sl (.st 5)), .v (.sl (.st 5))] → Option (YR D [.v (.sl (.st 5))]) := sealF (Gof D fd59 (tabH D h59))
noncomputable def E59 : En D := en_ fd59 G59
noncomputable def F59 (x0 : List S73) (x1 : List S73) : Option (List S73) := G59 (x0, x1)
noncomputable def L59 : LL D (YR D fd59.ts) := sealF (LiF D fd59 (tabH D h59))
noncomputable def L59_0 (v5 : List S73) : Option (List S73) := L59 c59_0 (v5, ())
noncomputable def L59_1 (v0 : List S73) (v1 : List S73) (v5 : List S73) (v6 : Int) : Option (List S73) := L59 c59_1 (v0, v1, v5, v6, ())
noncomputable def L59_2 (v0 : List S73) (v1 : List S73) (v5 : List S73) (v6 : Int) : Option (List S73) := L59 c59_2 (v0, v1, v5, v6, ())
theorem E59_ok : FnOk D PP E59 := ok_ fd59 (l := h59) Try.func59 (.cons E41_ok (.cons E60_ok (.cons E68_ok .nil)))
/-- pochoirref06.unit -/
def c43_0 : Cut := ⟨2036, [.v 0 (.sl (.st 5)), .box 7 7 (.st 5) 0 [], .v 10 (.sl (.st 5)), .v 11 (.sl (.st 5)), .v 12 (.int .i64)]⟩
noncomputable def fd43 : FD := ⟨43, bodyF Try.f43, Try.f43.results.toList, Try.f43.ntmps, [.val, .val, .val], [.v (.sl (.st 5)), .v (.st 6), .v (.st 6)], [.v (.sl (.st 5))], 1, [c43_0], 5000, none⟩
noncomputable def h43 : List (En D) := [E40, E41, E55, E56, E57, E58, E59]
noncomputable def G43 : YR D [.v (.sl (.st 5)), .v (.st 6), .v (.st 6)] → Option (YR D [.v (.sl (.st 5))]) := sealF (Gof D fd43 (tabH D h43))
noncomputable def E43 : En D := en_ fd43 G43
noncomputable def F43 (x0 : List S73) (x1 : S59) (x2 : S59) : Option (List S73) := G43 (x0, x1, x2)
noncomputable def L43 : LL D (YR D fd43.ts) := sealF (LiF D fd43 (tabH D h43))
noncomputable def L43_0 (v0 : List S73) (v7 : S73) (v10 : List S73) (v11 : List S73) (v12 : Int) : Option (List S73) := L43 c43_0 (v0, v7, v10, v11, v12, ())
theorem E43_ok : FnOk D PP E43 := ok_ fd43 (l := h43) Try.func43 (.cons E40_ok (.cons E41_ok (.cons E55_ok (.cons E56_ok (.cons E57_ok (.cons E58_ok (.cons E59_ok .nil)))))))
/-- pochoirref06.none -/
noncomputable def fd53 : FD := ⟨53, bodyF Try.f53, Try.f53.results.toList, Try.f53.ntmps, [], [], [.v (.st 6)], 1, [], 5000, none⟩
noncomputable def h53 : List (En D) := []
noncomputable def G53 : YR D [] → Option (YR D [.v (.st 6)]) := sealF (Gof D fd53 (tabH D h53))
noncomputable def E53 : En D := en_ fd53 G53
noncomputable def F53 : Option (S59) := G53 ()
theorem E53_ok : FnOk D PP E53 := ok_ fd53 (l := h53) Try.func53 (.nil)
/-- pochoirref05.At -/
def c45_0 : Cut := ⟨244, [.v 0 (.sl (.st 5)), .box 3 3 (.st 6) 0 [], .box 4 4 (.st 5) 0 [], .box 5 5 (.st 5) 0 [], .box 6 6 (.st 5) 0 [], .v 7 (.int .i64)]⟩
noncomputable def fd45 : FD := ⟨45, bodyF Try.f45, Try.f45.results.toList, Try.f45.ntmps, [.val, .val], [.v (.sl (.st 5)), .v (.st 6)], [.v (.st 5)], 1, [c45_0], 5000, none⟩
noncomputable def h45 : List (En D) := [E40, E55, E60]
noncomputable def G45 : YR D [.v (.sl (.st 5)), .v (.st 6)] → Option (YR D [.v (.st 5)]) := sealF (Gof D fd45 (tabH D h45))
noncomputable def E45 : En D := en_ fd45 G45
noncomputable def F45 (x0 : List S73) (x1 : S59) : Option (S73) := G45 (x0, x1)
noncomputable def L45 : LL D (YR D fd45.ts) := sealF (LiF D fd45 (tabH D h45))
noncomputable def L45_0 (v0 : List S73) (v3 : S59) (v4 : S73) (v5 : S73) (v6 : S73) (v7 : Int) : Option (S73) := L45 c45_0 (v0, v3, v4, v5, v6, v7, ())
theorem E45_ok : FnOk D PP E45 := ok_ fd45 (l := h45) Try.func45 (.cons E40_ok (.cons E55_ok (.cons E60_ok .nil)))
/-- pochoirref02.Cmp -/
noncomputable def fd73 : FD := ⟨73, bodyF Try.f73, Try.f73.results.toList, Try.f73.ntmps, [.val, .val], [.v (.st 5), .v (.st 5)], [.v (.int .i64)], 1, [], 5000, none⟩
noncomputable def h73 : List (En D) := [E44, E56]
noncomputable def G73 : YR D [.v (.st 5), .v (.st 5)] → Option (YR D [.v (.int .i64)]) := sealF (Gof D fd73 (tabH D h73))
noncomputable def E73 : En D := en_ fd73 G73
noncomputable def F73 (x0 : S73) (x1 : S73) : Option (Int) := G73 (x0, x1)
theorem E73_ok : FnOk D PP E73 := ok_ fd73 (l := h73) Try.func73 (.cons E44_ok (.cons E56_ok .nil))
/-- pochoirref02.Div -/
def c72_0 : Cut := ⟨500, [.v 1 (.int .i64), .box 2 2 (.st 5) 0 [], .box 4 4 (.st 5) 0 [], .box 5 5 (.st 5) 0 [], .box 6 6 (.st 5) 0 [], .box 7 7 (.st 5) 0 [], .box 8 8 (.st 5) 0 [], .v 9 (.int .i64)]⟩
def c72_1 : Cut := ⟨32039, [.v 1 (.int .i64), .box 2 2 (.st 5) 0 [], .box 4 4 (.st 5) 0 [], .box 5 5 (.st 5) 0 [], .box 6 6 (.st 5) 0 [], .box 7 7 (.st 5) 0 [], .box 8 8 (.st 5) 0 [], .v 9 (.int .i64)]⟩
noncomputable def fd72 : FD := ⟨72, bodyF Try.f72, Try.f72.results.toList, Try.f72.ntmps, [.val, .val], [.v (.st 5), .v (.int .i64)], [.v (.st 5), .v (.st 5)], 2, [c72_0, c72_1], 5000, none⟩
noncomputable def h72 : List (En D) := [E40, E51, E56, E60, E73]
noncomputable def G72 : YR D [.v (.st 5), .v (.int .i64)] → Option (YR D [.v (.st 5), .v (.st 5)]) := sealF (Gof D fd72 (tabH D h72))
noncomputable def E72 : En D := en_ fd72 G72
noncomputable def F72 (x0 : S73) (x1 : Int) : Option (S73 × S73) := G72 (x0, x1)
noncomputable def L72 : LL D (YR D fd72.ts) := sealF (LiF D fd72 (tabH D h72))
noncomputable def L72_0 (v1 : Int) (v2 : S73) (v4 : S73) (v5 : S73) (v6 : S73) (v7 : S73) (v8 : S73) (v9 : Int) : Option (S73 × S73) := L72 c72_0 (v1, v2, v4, v5, v6, v7, v8, v9, ())
noncomputable def L72_1 (v1 : Int) (v2 : S73) (v4 : S73) (v5 : S73) (v6 : S73) (v7 : S73) (v8 : S73) (v9 : Int) : Option (S73 × S73) := L72 c72_1 (v1, v2, v4, v5, v6, v7, v8, v9, ())
theorem E72_ok : FnOk D PP E72 := ok_ fd72 (l := h72) Try.func72 (.cons E40_ok (.cons E51_ok (.cons E56_ok (.cons E60_ok (.cons E73_ok .nil)))))
/-- pochoirref05.Without -/
def c64_0 : Cut := ⟨56, [.v 0 (.sl (.st 5)), .box 3 3 (.st 6) 0 [], .v 6 (.int .i64)]⟩
def c64_1 : Cut := ⟨113, [.v 0 (.sl (.st 5)), .box 3 3 (.st 6) 0 [], .v 6 (.int .i64)]⟩
def c64_2 : Cut := ⟨14516, [.v 0 (.sl (.st 5)), .box 3 3 (.st 6) 0 [], .v 6 (.int .i64), .own 7 (.st 5), .box 8 8 (.st 5) 0 [], .v 9 (.int .i64)]⟩
noncomputable def fd64 : FD := ⟨64, bodyF Try.f64, Try.f64.results.toList, Try.f64.ntmps, [.val, .val], [.v (.sl (.st 5)), .v (.st 6)], [.v (.sl (.st 5)), .v (.int .i64)], 2, [c64_0, c64_1, c64_2], 5000, none⟩
noncomputable def h64 : List (En D) := [E40, E41, E44, E45, E55, E60, E72]
noncomputable def G64 : YR D [.v (.sl (.st 5)), .v (.st 6)] → Option (YR D [.v (.sl (.st 5)), .v (.int .i64)]) := sealF (Gof D fd64 (tabH D h64))
noncomputable def E64 : En D := en_ fd64 G64
noncomputable def F64 (x0 : List S73) (x1 : S59) : Option (List S73 × Int) := G64 (x0, x1)
noncomputable def L64 : LL D (YR D fd64.ts) := sealF (LiF D fd64 (tabH D h64))
noncomputable def L64_0 (v0 : List S73) (v3 : S59) (v6 : Int) : Option (List S73 × Int) := L64 c64_0 (v0, v3, v6, ())
noncomputable def L64_1 (v0 : List S73) (v3 : S59) (v6 : Int) : Option (List S73 × Int) := L64 c64_1 (v0, v3, v6, ())
noncomputable def L64_2 (v0 : List S73) (v3 : S59) (v6 : Int) (v7 : List S73) (v8 : S73) (v9 : Int) : Option (List S73 × Int) := L64 c64_2 (v0, v3, v6, v7, v8, v9, ())
theorem E64_ok : FnOk D PP E64 := ok_ fd64 (l := h64) Try.func64 (.cons E40_ok (.cons E41_ok (.cons E44_ok (.cons E45_ok (.cons E55_ok (.cons E60_ok (.cons E72_ok .nil)))))))
/-- pochoirref06.one -/
noncomputable def fd54 : FD := ⟨54, bodyF Try.f54, Try.f54.results.toList, Try.f54.ntmps, [], [], [.v (.st 6)], 1, [], 5000, none⟩
noncomputable def h54 : List (En D) := []
noncomputable def G54 : YR D [] → Option (YR D [.v (.st 6)]) := sealF (Gof D fd54 (tabH D h54))
noncomputable def E54 : En D := en_ fd54 G54
noncomputable def F54 : Option (S59) := G54 ()
theorem E54_ok : FnOk D PP E54 := ok_ fd54 (l := h54) Try.func54 (.nil)
/-- pochoirref05.Neg -/
def c62_0 : Cut := ⟨116, [.v 0 (.sl (.st 5)), .own 3 (.st 5), .v 4 (.int .i64)]⟩
noncomputable def fd62 : FD := ⟨62, bodyF Try.f62, Try.f62.results.toList, Try.f62.ntmps, [.val], [.v (.sl (.st 5))], [.v (.sl (.st 5))], 1, [c62_0], 5000, none⟩
noncomputable def h62 : List (En D) := [E67]
noncomputable def G62 : YR D [.v (.sl (.st 5))] → Option (YR D [.v (.sl (.st 5))]) := sealF (Gof D fd62 (tabH D h62))
noncomputable def E62 : En D := en_ fd62 G62
noncomputable def F62 (x0 : List S73) : Option (List S73) := G62 (x0)
noncomputable def L62 : LL D (YR D fd62.ts) := sealF (LiF D fd62 (tabH D h62))
noncomputable def L62_0 (v0 : List S73) (v3 : List S73) (v4 : Int) : Option (List S73) := L62 c62_0 (v0, v3, v4, ())
theorem E62_ok : FnOk D PP E62 := ok_ fd62 (l := h62) Try.func62 (.cons E67_ok .nil)
/-- pochoirref06.inner -/
noncomputable def fd52 : FD := ⟨52, bodyF Try.f52, Try.f52.results.toList, Try.f52.ntmps, [.val], [.v (.sl (.st 5))], [.v (.sl (.st 5))], 1, [], 5000, none⟩
noncomputable def h52 : List (En D) := [E53, E54, E62, E64]
noncomputable def G52 : YR D [.v (.sl (.st 5))] → Option (YR D [.v (.sl (.st 5))]) := sealF (Gof D fd52 (tabH D h52))
noncomputable def E52 : En D := en_ fd52 G52
noncomputable def F52 (x0 : List S73) : Option (List S73) := G52 (x0)
theorem E52_ok : FnOk D PP E52 := ok_ fd52 (l := h52) Try.func52 (.cons E53_ok (.cons E54_ok (.cons E62_ok (.cons E64_ok .nil))))
/-- pochoirref06.Sign -/
noncomputable def fd30 : FD := ⟨30, bodyF Try.f30, Try.f30.results.toList, Try.f30.ntmps, [.val, .val], [.v (.sl (.st 5)), .v (.st 6)], [.v (.int .i64)], 1, [], 5000, none⟩
noncomputable def h30 : List (En D) := [E44, E45]
noncomputable def G30 : YR D [.v (.sl (.st 5)), .v (.st 6)] → Option (YR D [.v (.int .i64)]) := sealF (Gof D fd30 (tabH D h30))
noncomputable def E30 : En D := en_ fd30 G30
noncomputable def F30 (x0 : List S73) (x1 : S59) : Option (Int) := G30 (x0, x1)
theorem E30_ok : FnOk D PP E30 := ok_ fd30 (l := h30) Try.func30 (.cons E44_ok (.cons E45_ok .nil))
/-- pochoirref05.Derive -/
def c61_0 : Cut := ⟨116, [.v 0 (.sl (.st 5)), .own 3 (.st 5), .v 4 (.int .i64)]⟩
noncomputable def fd61 : FD := ⟨61, bodyF Try.f61, Try.f61.results.toList, Try.f61.ntmps, [.val], [.v (.sl (.st 5))], [.v (.sl (.st 5))], 1, [c61_0], 5000, none⟩
noncomputable def h61 : List (En D) := [E40, E41, E55]
noncomputable def G61 : YR D [.v (.sl (.st 5))] → Option (YR D [.v (.sl (.st 5))]) := sealF (Gof D fd61 (tabH D h61))
noncomputable def E61 : En D := en_ fd61 G61
noncomputable def F61 (x0 : List S73) : Option (List S73) := G61 (x0)
noncomputable def L61 : LL D (YR D fd61.ts) := sealF (LiF D fd61 (tabH D h61))
noncomputable def L61_0 (v0 : List S73) (v3 : List S73) (v4 : Int) : Option (List S73) := L61 c61_0 (v0, v3, v4, ())
theorem E61_ok : FnOk D PP E61 := ok_ fd61 (l := h61) Try.func61 (.cons E40_ok (.cons E41_ok (.cons E55_ok .nil)))
/-- pochoirref05.Rest -/
def c63_0 : Cut := ⟨56, [.v 0 (.sl (.st 5)), .v 1 (.sl (.st 5)), .box 5 5 (.st 5) 0 []]⟩
def c63_1 : Cut := ⟨14516, [.v 0 (.sl (.st 5)), .v 1 (.sl (.st 5)), .box 5 5 (.st 5) 0 [], .own 6 (.st 5), .box 7 7 (.st 5) 0 [], .v 8 (.int .i64)]⟩
def c63_2 : Cut := ⟨929063, [.v 0 (.sl (.st 5)), .v 1 (.sl (.st 5)), .box 5 5 (.st 5) 0 [], .own 6 (.st 5), .box 7 7 (.st 5) 0 [], .v 8 (.int .i64), .box 9 9 (.st 5) 0 [], .box 10 10 (.st 5) 0 []]⟩
noncomputable def fd63 : FD := ⟨63, bodyF Try.f63, Try.f63.results.toList, Try.f63.ntmps, [.val, .val], [.v (.sl (.st 5)), .v (.sl (.st 5))], [.v (.sl (.st 5))], 1, [c63_0, c63_1, c63_2], 5000, none⟩
noncomputable def h63 : List (En D) := [E41, E55, E56, E67, E68]
noncomputable def G63 : YR D [.v (.sl (.st 5)), .v (.sl (.st 5))] → Option (YR D [.v (.sl (.st 5))]) := sealF (Gof D fd63 (tabH D h63))
noncomputable def E63 : En D := en_ fd63 G63
noncomputable def F63 (x0 : List S73) (x1 : List S73) : Option (List S73) := G63 (x0, x1)
noncomputable def L63 : LL D (YR D fd63.ts) := sealF (LiF D fd63 (tabH D h63))
noncomputable def L63_0 (v0 : List S73) (v1 : List S73) (v5 : S73) : Option (List S73) := L63 c63_0 (v0, v1, v5, ())
noncomputable def L63_1 (v0 : List S73) (v1 : List S73) (v5 : S73) (v6 : List S73) (v7 : S73) (v8 : Int) : Option (List S73) := L63 c63_1 (v0, v1, v5, v6, v7, v8, ())
noncomputable def L63_2 (v0 : List S73) (v1 : List S73) (v5 : S73) (v6 : List S73) (v7 : S73) (v8 : Int) (v9 : S73) (v10 : S73) : Option (List S73) := L63 c63_2 (v0, v1, v5, v6, v7, v8, v9, v10, ())
theorem E63_ok : FnOk D PP E63 := ok_ fd63 (l := h63) Try.func63 (.cons E41_ok (.cons E55_ok (.cons E56_ok (.cons E67_ok (.cons E68_ok .nil)))))
/-- pochoirref06.Chain -/
def c46_0 : Cut := ⟨120, [.v 0 (.sl (.st 5)), .own 3 (.sl (.st 5)), .v 4 (.sl (.st 5))]⟩
noncomputable def fd46 : FD := ⟨46, bodyF Try.f46, Try.f46.results.toList, Try.f46.ntmps, [.val], [.v (.sl (.st 5))], [.v (.sl (.sl (.st 5)))], 1, [c46_0], 5000, none⟩
noncomputable def h46 : List (En D) := [E61, E62, E63]
noncomputable def G46 : YR D [.v (.sl (.st 5))] → Option (YR D [.v (.sl (.sl (.st 5)))]) := sealF (Gof D fd46 (tabH D h46))
noncomputable def E46 : En D := en_ fd46 G46
noncomputable def F46 (x0 : List S73) : Option (List (List S73)) := G46 (x0)
noncomputable def L46 : LL D (YR D fd46.ts) := sealF (LiF D fd46 (tabH D h46))
noncomputable def L46_0 (v0 : List S73) (v3 : List (List S73)) (v4 : List S73) : Option (List (List S73)) := L46 c46_0 (v0, v3, v4, ())
theorem E46_ok : FnOk D PP E46 := ok_ fd46 (l := h46) Try.func46 (.cons E61_ok (.cons E62_ok (.cons E63_ok .nil)))
/-- pochoirref06.Changes -/
def c48_0 : Cut := ⟨244, [.v 0 (.sl (.sl (.st 5))), .box 3 3 (.st 6) 0 [], .v 5 (.int .i64), .v 6 (.int .i64), .v 7 (.int .i64)]⟩
noncomputable def fd48 : FD := ⟨48, bodyF Try.f48, Try.f48.results.toList, Try.f48.ntmps, [.val, .val], [.v (.sl (.sl (.st 5))), .v (.st 6)], [.v (.int .i64)], 1, [c48_0], 5000, none⟩
noncomputable def h48 : List (En D) := [E44, E45]
noncomputable def G48 : YR D [.v (.sl (.sl (.st 5))), .v (.st 6)] → Option (YR D [.v (.int .i64)]) := sealF (Gof D fd48 (tabH D h48))
noncomputable def E48 : En D := en_ fd48 G48
noncomputable def F48 (x0 : List (List S73)) (x1 : S59) : Option (Int) := G48 (x0, x1)
noncomputable def L48 : LL D (YR D fd48.ts) := sealF (LiF D fd48 (tabH D h48))
noncomputable def L48_0 (v0 : List (List S73)) (v3 : S59) (v5 : Int) (v6 : Int) (v7 : Int) : Option (Int) := L48 c48_0 (v0, v3, v5, v6, v7, ())
theorem E48_ok : FnOk D PP E48 := ok_ fd48 (l := h48) Try.func48 (.cons E44_ok (.cons E45_ok .nil))
/-- pochoirref06.below -/
def c42_0 : Cut := ⟨15, [.v 0 (.sl (.st 5))]⟩
noncomputable def fd42 : FD := ⟨42, bodyF Try.f42, Try.f42.results.toList, Try.f42.ntmps, [.val], [.v (.sl (.st 5))], [.v (.bool)], 1, [c42_0], 5000, none⟩
noncomputable def h42 (G : YR D [.v (.sl (.st 5))] → Option (YR D [.v (.bool)])) : List (En D) := [E30, ⟨42, [.val], [.v (.sl (.st 5))], [.v (.bool)], 1, G⟩, E43, E46, E48, E52, E53, E54]
noncomputable def G42 : YR D [.v (.sl (.st 5))] → Option (YR D [.v (.bool)]) := sealF (Gr D fd42 h42)
theorem h42_mono : TMono (f := fd42) h42 := fun G G' h => .cons (fun _ _ q => q) (.cons h (.cons (fun _ _ q => q) (.cons (fun _ _ q => q) (.cons (fun _ _ q => q) (.cons (fun _ _ q => q) (.cons (fun _ _ q => q) (.cons (fun _ _ q => q) .nil)))))))
noncomputable def E42 : En D := en_ fd42 G42
noncomputable def F42 (x0 : List S73) : Option (Bool) := G42 (x0)
theorem E42_ok : FnOk D PP E42 := Gr_ok lw (f := fd42) (l := h42) (fun G => by kernel_rfl) (fun G hG => .cons E30_ok (.cons hG (.cons E43_ok (.cons E46_ok (.cons E48_ok (.cons E52_ok (.cons E53_ok (.cons E54_ok .nil)))))))) Try.func42 (by kernel_rfl) (by kernel_rfl) (by kernel_rfl) (enters_of (c := bodyF Try.f42) Try.func42 (by kernel_rfl) (by kernel_rfl)) (by kernel_rfl) (by kernel_rfl)
noncomputable def F42r (G : YR D [.v (.sl (.st 5))] → Option (YR D [.v (.bool)])) (x0 : List S73) : Option (Bool) := G (x0)
noncomputable def F42g (G : YR D [.v (.sl (.st 5))] → Option (YR D [.v (.bool)])) (x0 : List S73) : Option (Bool) := sealF (Gof D fd42 (tabH D (h42 G))) (x0)
noncomputable def L42 (G : YR D [.v (.sl (.st 5))] → Option (YR D [.v (.bool)])) : LL D (YR D fd42.ts) := sealF (LiF D fd42 (tabH D (h42 G)))
noncomputable def L42_0 (G : YR D [.v (.sl (.st 5))] → Option (YR D [.v (.bool)])) (v0 : List S73) : Option (Bool) := L42 G c42_0 (v0, ())
theorem F42_n (n : Nat) (x0 : List S73) : F42r (Gn D fd42 h42 (n + 1)) x0 = F42g (Gn D fd42 h42 n) x0 := rfl
theorem F42_of (n : Nat) (x0 : List S73) (y : Bool) (h : F42r (Gn D fd42 h42 n) x0 = some y) : F42 x0 = some y := (congrFun (sealF_eq _) (x0)).trans (Gr_of h42_mono h)
/-- pochoirref06.Negative -/
noncomputable def fd29 : FD := ⟨29, bodyF Try.f29, Try.f29.results.toList, Try.f29.ntmps, [.val, .val, .val], [.v (.sl (.st 5)), .v (.st 6), .v (.st 6)], [.v (.bool)], 1, [], 5000, none⟩
noncomputable def h29 : List (En D) := [E42, E43]
noncomputable def G29 : YR D [.v (.sl (.st 5)), .v (.st 6), .v (.st 6)] → Option (YR D [.v (.bool)]) := sealF (Gof D fd29 (tabH D h29))
noncomputable def E29 : En D := en_ fd29 G29
noncomputable def F29 (x0 : List S73) (x1 : S59) (x2 : S59) : Option (Bool) := G29 (x0, x1, x2)
theorem E29_ok : FnOk D PP E29 := ok_ fd29 (l := h29) Try.func29 (.cons E42_ok (.cons E43_ok .nil))
/-- pochoirref06.clear -/
noncomputable def fd47 : FD := ⟨47, bodyF Try.f47, Try.f47.results.toList, Try.f47.ntmps, [.val, .val, .val], [.v (.sl (.st 5)), .v (.st 6), .v (.st 6)], [.v (.sl (.st 5))], 1, [], 5000, none⟩
noncomputable def h47 : List (En D) := [E64]
noncomputable def G47 : YR D [.v (.sl (.st 5)), .v (.st 6), .v (.st 6)] → Option (YR D [.v (.sl (.st 5))]) := sealF (Gof D fd47 (tabH D h47))
noncomputable def E47 : En D := en_ fd47 G47
noncomputable def F47 (x0 : List S73) (x1 : S59) (x2 : S59) : Option (List S73) := G47 (x0, x1, x2)
theorem E47_ok : FnOk D PP E47 := ok_ fd47 (l := h47) Try.func47 (.cons E64_ok .nil)
/-- pochoirref06.Count -/
noncomputable def fd31 : FD := ⟨31, bodyF Try.f31, Try.f31.results.toList, Try.f31.ntmps, [.val, .val, .val], [.v (.sl (.st 5)), .v (.st 6), .v (.st 6)], [.v (.int .i64)], 1, [], 5000, none⟩
noncomputable def h31 : List (En D) := [E46, E47, E48]
noncomputable def G31 : YR D [.v (.sl (.st 5)), .v (.st 6), .v (.st 6)] → Option (YR D [.v (.int .i64)]) := sealF (Gof D fd31 (tabH D h31))
noncomputable def E31 : En D := en_ fd31 G31
noncomputable def F31 (x0 : List S73) (x1 : S59) (x2 : S59) : Option (Int) := G31 (x0, x1, x2)
theorem E31_ok : FnOk D PP E31 := ok_ fd31 (l := h31) Try.func31 (.cons E46_ok (.cons E47_ok (.cons E48_ok .nil)))
/-- pochoirref24.everywhere -/
noncomputable def fd18 : FD := ⟨18, bodyF Try.f18, Try.f18.results.toList, Try.f18.ntmps, [.val, .val], [.v (.sl (.int .i64)), .v (.bool)], [.v (.bool)], 1, [], 5000, none⟩
noncomputable def h18 : List (En D) := [E28, E29, E30, E31]
noncomputable def G18 : YR D [.v (.sl (.int .i64)), .v (.bool)] → Option (YR D [.v (.bool)]) := sealF (Gof D fd18 (tabH D h18))
noncomputable def E18 : En D := en_ fd18 G18
noncomputable def F18 (x0 : List Int) (x1 : Bool) : Option (Bool) := G18 (x0, x1)
theorem E18_ok : FnOk D PP E18 := ok_ fd18 (l := h18) Try.func18 (.cons E28_ok (.cons E29_ok (.cons E30_ok (.cons E31_ok .nil))))
/-- pochoirref24.Right -/
noncomputable def fd8 : FD := ⟨8, bodyF Try.f8, Try.f8.results.toList, Try.f8.ntmps, [.val, .val], [.v (.st 0), .v (.st 1)], [.v (.bool)], 1, [], 5000, none⟩
noncomputable def h8 : List (En D) := [E9, E16, E17, E18]
noncomputable def G8 : YR D [.v (.st 0), .v (.st 1)] → Option (YR D [.v (.bool)]) := sealF (Gof D fd8 (tabH D h8))
noncomputable def E8 : En D := en_ fd8 G8
noncomputable def F8 (x0 : S23) (x1 : S25) : Option (Bool) := G8 (x0, x1)
theorem E8_ok : FnOk D PP E8 := ok_ fd8 (l := h8) Try.func8 (.cons E9_ok (.cons E16_ok (.cons E17_ok (.cons E18_ok .nil))))
/-- pochoirlaw24.SideAsks -/
noncomputable def fd3 : FD := ⟨3, bodyF Try.f3, Try.f3.results.toList, Try.f3.ntmps, [.val, .val], [.v (.st 0), .v (.st 1)], [.v (.bool)], 1, [], 5000, none⟩
noncomputable def h3 : List (En D) := [E4, E5, E6, E7, E8, E9]
noncomputable def G3 : YR D [.v (.st 0), .v (.st 1)] → Option (YR D [.v (.bool)]) := sealF (Gof D fd3 (tabH D h3))
noncomputable def E3 : En D := en_ fd3 G3
noncomputable def F3 (x0 : S23) (x1 : S25) : Option (Bool) := G3 (x0, x1)
theorem E3_ok : FnOk D PP E3 := ok_ fd3 (l := h3) Try.func3 (.cons E4_ok (.cons E5_ok (.cons E6_ok (.cons E7_ok (.cons E8_ok (.cons E9_ok .nil))))))
end Go.Proofs.Ytkpjeihgigmnkaa.Ev
