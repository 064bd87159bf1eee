/- Printed by a program of this claim: the functions, as they are told. -/
import Derived.Test.YtjodbccjechgpaaEvD
import Derived.Test.YtjodbccjechgpaaEvX
namespace Go.Proofs.Ytjodbccjechgpaa.Ev
open Go
set_option linter.unusedVariables false
noncomputable def bodyF (f : Func) : Code := match f.body with | some c => c | none => .skip
/-- plane.May -/
noncomputable def fd12 : FD := ⟨12, bodyF Try.f12, Try.f12.results.toList, Try.f12.ntmps, [.val], [.v (.st 0)], [.v (.bool)], 1, [], 5000⟩
noncomputable def h12 : List (En D) := []
noncomputable def G12 : YR D [.v (.st 0)] → Option (YR D [.v (.bool)]) := sealF (Gof D fd12 (tabH D h12))
noncomputable def E12 : En D := ⟨12, [.val], [.v (.st 0)], [.v (.bool)], 1, G12⟩
noncomputable def F12 (x0 : S23) : Option (Bool) := G12 (x0)
theorem E12_ok : FnOk D PP E12 := fdS_ok lw fd12 (l := h12) (by kernel_rfl) (.nil) Try.func12 (by kernel_rfl) (by kernel_rfl) (by kernel_rfl) (enters_of (c := bodyF Try.f12) Try.func12 (by kernel_rfl) (by kernel_rfl)) (by kernel_rfl)
/-- plane.asked -/
def c19_0 : Cut := ⟨52, [.v 5 (.sl (.st 0)), .v 6 (.int .i64), .v 7 (.int .i64)]⟩
noncomputable def fd19 : FD := ⟨19, bodyF Try.f19, Try.f19.results.toList, Try.f19.ntmps, [.val], [.v (.sl (.st 0))], [.v (.int .i64)], 1, [c19_0], 5000⟩
noncomputable def h19 : List (En D) := [E12]
noncomputable def G19 : YR D [.v (.sl (.st 0))] → Option (YR D [.v (.int .i64)]) := sealF (Gof D fd19 (tabH D h19))
noncomputable def E19 : En D := ⟨19, [.val], [.v (.sl (.st 0))], [.v (.int .i64)], 1, G19⟩
noncomputable def F19 (x0 : List S23) : Option (Int) := G19 (x0)
noncomputable def L19 : LL D (YR D fd19.ts) := sealF (LiF D fd19 (tabH D h19))
noncomputable def L19_0 (v5 : List S23) (v6 : Int) (v7 : Int) : Option (Int) := L19 c19_0 (v5, v6, v7, ())
theorem E19_ok : FnOk D PP E19 := fdS_ok lw fd19 (l := h19) (by kernel_rfl) (.cons E12_ok .nil) Try.func19 (by kernel_rfl) (by kernel_rfl) (by kernel_rfl) (enters_of (c := bodyF Try.f19) Try.func19 (by kernel_rfl) (by kernel_rfl)) (by kernel_rfl)
/-- plane.cross -/
noncomputable def fd20 : FD := ⟨20, bodyF Try.f20, Try.f20.results.toList, Try.f20.ntmps, [.val, .val, .val], [.v (.st 0), .v (.st 0), .v (.st 0)], [.v (.int .i64)], 1, [], 5000⟩
noncomputable def h20 : List (En D) := []
noncomputable def G20 : YR D [.v (.st 0), .v (.st 0), .v (.st 0)] → Option (YR D [.v (.int .i64)]) := sealF (Gof D fd20 (tabH D h20))
noncomputable def E20 : En D := ⟨20, [.val, .val, .val], [.v (.st 0), .v (.st 0), .v (.st 0)], [.v (.int .i64)], 1, G20⟩
noncomputable def F20 (x0 : S23) (x1 : S23) (x2 : S23) : Option (Int) := G20 (x0, x1, x2)
theorem E20_ok : FnOk D PP E20 := fdS_ok lw fd20 (l := h20) (by kernel_rfl) (.nil) Try.func20 (by kernel_rfl) (by kernel_rfl) (by kernel_rfl) (enters_of (c := bodyF Try.f20) Try.func20 (by kernel_rfl) (by kernel_rfl)) (by kernel_rfl)
/-- cmp.isNaN[int64] -/
noncomputable def fd26 : FD := ⟨26, bodyF Try.f26, Try.f26.results.toList, Try.f26.ntmps, [.val], [.v (.int .i64)], [.v (.bool)], 1, [], 5000⟩
noncomputable def h26 : List (En D) := []
noncomputable def G26 : YR D [.v (.int .i64)] → Option (YR D [.v (.bool)]) := sealF (Gof D fd26 (tabH D h26))
noncomputable def E26 : En D := ⟨26, [.val], [.v (.int .i64)], [.v (.bool)], 1, G26⟩
noncomputable def F26 (x0 : Int) : Option (Bool) := G26 (x0)
theorem E26_ok : FnOk D PP E26 := fdS_ok lw fd26 (l := h26) (by kernel_rfl) (.nil) Try.func26 (by kernel_rfl) (by kernel_rfl) (by kernel_rfl) (enters_of (c := bodyF Try.f26) Try.func26 (by kernel_rfl) (by kernel_rfl)) (by kernel_rfl)
/-- cmp.Compare[int64] -/
noncomputable def fd25 : FD := ⟨25, bodyF Try.f25, Try.f25.results.toList, Try.f25.ntmps, [.val, .val], [.v (.int .i64), .v (.int .i64)], [.v (.int .i64)], 1, [], 5000⟩
noncomputable def h25 : List (En D) := [E26]
noncomputable def G25 : YR D [.v (.int .i64), .v (.int .i64)] → Option (YR D [.v (.int .i64)]) := sealF (Gof D fd25 (tabH D h25))
noncomputable def E25 : En D := ⟨25, [.val, .val], [.v (.int .i64), .v (.int .i64)], [.v (.int .i64)], 1, G25⟩
noncomputable def F25 (x0 : Int) (x1 : Int) : Option (Int) := G25 (x0, x1)
theorem E25_ok : FnOk D PP E25 := fdS_ok lw fd25 (l := h25) (by kernel_rfl) (.cons E26_ok .nil) Try.func25 (by kernel_rfl) (by kernel_rfl) (by kernel_rfl) (enters_of (c := bodyF Try.f25) Try.func25 (by kernel_rfl) (by kernel_rfl)) (by kernel_rfl)
/-- plane.turn -/
noncomputable def fd22 : FD := ⟨22, bodyF Try.f22, Try.f22.results.toList, Try.f22.ntmps, [.val, .val, .val], [.v (.st 0), .v (.st 0), .v (.st 0)], [.v (.int .i64)], 1, [], 5000⟩
noncomputable def h22 : List (En D) := [E20, E25]
noncomputable def G22 : YR D [.v (.st 0), .v (.st 0), .v (.st 0)] → Option (YR D [.v (.int .i64)]) := sealF (Gof D fd22 (tabH D h22))
noncomputable def E22 : En D := ⟨22, [.val, .val, .val], [.v (.st 0), .v (.st 0), .v (.st 0)], [.v (.int .i64)], 1, G22⟩
noncomputable def F22 (x0 : S23) (x1 : S23) (x2 : S23) : Option (Int) := G22 (x0, x1, x2)
theorem E22_ok : FnOk D PP E22 := fdS_ok lw fd22 (l := h22) (by kernel_rfl) (.cons E20_ok (.cons E25_ok .nil)) Try.func22 (by kernel_rfl) (by kernel_rfl) (by kernel_rfl) (enters_of (c := bodyF Try.f22) Try.func22 (by kernel_rfl) (by kernel_rfl)) (by kernel_rfl)
/-- plane.Turn -/
noncomputable def fd7 : FD := ⟨7, bodyF Try.f7, Try.f7.results.toList, Try.f7.ntmps, [.val, .val, .val], [.v (.st 0), .v (.st 0), .v (.st 0)], [.v (.int .i64), .v (.int .i64)], 2, [], 5000⟩
noncomputable def h7 : List (En D) := [E19, E22]
noncomputable def G7 : YR D [.v (.st 0), .v (.st 0), .v (.st 0)] → Option (YR D [.v (.int .i64), .v (.int .i64)]) := sealF (Gof D fd7 (tabH D h7))
noncomputable def E7 : En D := ⟨7, [.val, .val, .val], [.v (.st 0), .v (.st 0), .v (.st 0)], [.v (.int .i64), .v (.int .i64)], 2, G7⟩
noncomputable def F7 (x0 : S23) (x1 : S23) (x2 : S23) : Option (Int × Int) := G7 (x0, x1, x2)
theorem E7_ok : FnOk D PP E7 := fdS_ok lw fd7 (l := h7) (by kernel_rfl) (.cons E19_ok (.cons E22_ok .nil)) Try.func7 (by kernel_rfl) (by kernel_rfl) (by kernel_rfl) (enters_of (c := bodyF Try.f7) Try.func7 (by kernel_rfl) (by kernel_rfl)) (by kernel_rfl)
/-- plane.dot -/
noncomputable def fd21 : FD := ⟨21, bodyF Try.f21, Try.f21.results.toList, Try.f21.ntmps, [.val, .val, .val], [.v (.st 0), .v (.st 0), .v (.st 0)], [.v (.int .i64)], 1, [], 5000⟩
noncomputable def h21 : List (En D) := []
noncomputable def G21 : YR D [.v (.st 0), .v (.st 0), .v (.st 0)] → Option (YR D [.v (.int .i64)]) := sealF (Gof D fd21 (tabH D h21))
noncomputable def E21 : En D := ⟨21, [.val, .val, .val], [.v (.st 0), .v (.st 0), .v (.st 0)], [.v (.int .i64)], 1, G21⟩
noncomputable def F21 (x0 : S23) (x1 : S23) (x2 : S23) : Option (Int) := G21 (x0, x1, x2)
theorem E21_ok : FnOk D PP E21 := fdS_ok lw fd21 (l := h21) (by kernel_rfl) (.nil) Try.func21 (by kernel_rfl) (by kernel_rfl) (by kernel_rfl) (enters_of (c := bodyF Try.f21) Try.func21 (by kernel_rfl) (by kernel_rfl)) (by kernel_rfl)
/-- plane.Dot -/
noncomputable def fd6 : FD := ⟨6, bodyF Try.f6, Try.f6.results.toList, Try.f6.ntmps, [.val, .val, .val], [.v (.st 0), .v (.st 0), .v (.st 0)], [.v (.int .i64), .v (.int .i64)], 2, [], 5000⟩
noncomputable def h6 : List (En D) := [E19, E21]
noncomputable def G6 : YR D [.v (.st 0), .v (.st 0), .v (.st 0)] → Option (YR D [.v (.int .i64), .v (.int .i64)]) := sealF (Gof D fd6 (tabH D h6))
noncomputable def E6 : En D := ⟨6, [.val, .val, .val], [.v (.st 0), .v (.st 0), .v (.st 0)], [.v (.int .i64), .v (.int .i64)], 2, G6⟩
noncomputable def F6 (x0 : S23) (x1 : S23) (x2 : S23) : Option (Int × Int) := G6 (x0, x1, x2)
theorem E6_ok : FnOk D PP E6 := fdS_ok lw fd6 (l := h6) (by kernel_rfl) (.cons E19_ok (.cons E21_ok .nil)) Try.func6 (by kernel_rfl) (by kernel_rfl) (by kernel_rfl) (enters_of (c := bodyF Try.f6) Try.func6 (by kernel_rfl) (by kernel_rfl)) (by kernel_rfl)
/-- plane.Far -/
noncomputable def fd9 : FD := ⟨9, bodyF Try.f9, Try.f9.results.toList, Try.f9.ntmps, [.val, .val], [.v (.st 0), .v (.st 0)], [.v (.int .i64), .v (.int .i64)], 2, [], 5000⟩
noncomputable def h9 : List (En D) := [E6]
noncomputable def G9 : YR D [.v (.st 0), .v (.st 0)] → Option (YR D [.v (.int .i64), .v (.int .i64)]) := sealF (Gof D fd9 (tabH D h9))
noncomputable def E9 : En D := ⟨9, [.val, .val], [.v (.st 0), .v (.st 0)], [.v (.int .i64), .v (.int .i64)], 2, G9⟩
noncomputable def F9 (x0 : S23) (x1 : S23) : Option (Int × Int) := G9 (x0, x1)
theorem E9_ok : FnOk D PP E9 := fdS_ok lw fd9 (l := h9) (by kernel_rfl) (.cons E6_ok .nil) Try.func9 (by kernel_rfl) (by kernel_rfl) (by kernel_rfl) (enters_of (c := bodyF Try.f9) Try.func9 (by kernel_rfl) (by kernel_rfl)) (by kernel_rfl)
/-- pochoirlaw18.awake -/
noncomputable def fd4 : FD := ⟨4, bodyF Try.f4, Try.f4.results.toList, Try.f4.ntmps, [], [], [.v (.bool)], 1, [], 5000⟩
noncomputable def h4 : List (En D) := [E7, E9, E12]
noncomputable def G4 : YR D [] → Option (YR D [.v (.bool)]) := sealF (Gof D fd4 (tabH D h4))
noncomputable def E4 : En D := ⟨4, [], [], [.v (.bool)], 1, G4⟩
noncomputable def F4 : Option (Bool) := G4 ()
theorem E4_ok : FnOk D PP E4 := fdS_ok lw fd4 (l := h4) (by kernel_rfl) (.cons E7_ok (.cons E9_ok (.cons E12_ok .nil))) Try.func4 (by kernel_rfl) (by kernel_rfl) (by kernel_rfl) (enters_of (c := bodyF Try.f4) Try.func4 (by kernel_rfl) (by kernel_rfl)) (by kernel_rfl)
/-- plane.Cross -/
noncomputable def fd5 : FD := ⟨5, bodyF Try.f5, Try.f5.results.toList, Try.f5.ntmps, [.val, .val, .val], [.v (.st 0), .v (.st 0), .v (.st 0)], [.v (.int .i64), .v (.int .i64)], 2, [], 5000⟩
noncomputable def h5 : List (En D) := [E19, E20]
noncomputable def G5 : YR D [.v (.st 0), .v (.st 0), .v (.st 0)] → Option (YR D [.v (.int .i64), .v (.int .i64)]) := sealF (Gof D fd5 (tabH D h5))
noncomputable def E5 : En D := ⟨5, [.val, .val, .val], [.v (.st 0), .v (.st 0), .v (.st 0)], [.v (.int .i64), .v (.int .i64)], 2, G5⟩
noncomputable def F5 (x0 : S23) (x1 : S23) (x2 : S23) : Option (Int × Int) := G5 (x0, x1, x2)
theorem E5_ok : FnOk D PP E5 := fdS_ok lw fd5 (l := h5) (by kernel_rfl) (.cons E19_ok (.cons E20_ok .nil)) Try.func5 (by kernel_rfl) (by kernel_rfl) (by kernel_rfl) (enters_of (c := bodyF Try.f5) Try.func5 (by kernel_rfl) (by kernel_rfl)) (by kernel_rfl)
/-- plane.between -/
noncomputable def fd23 : FD := ⟨23, bodyF Try.f23, Try.f23.results.toList, Try.f23.ntmps, [.val, .val, .val], [.v (.st 0), .v (.st 0), .v (.st 0)], [.v (.bool)], 1, [], 5000⟩
noncomputable def h23 : List (En D) := [E20, E21]
noncomputable def G23 : YR D [.v (.st 0), .v (.st 0), .v (.st 0)] → Option (YR D [.v (.bool)]) := sealF (Gof D fd23 (tabH D h23))
noncomputable def E23 : En D := ⟨23, [.val, .val, .val], [.v (.st 0), .v (.st 0), .v (.st 0)], [.v (.bool)], 1, G23⟩
noncomputable def F23 (x0 : S23) (x1 : S23) (x2 : S23) : Option (Bool) := G23 (x0, x1, x2)
theorem E23_ok : FnOk D PP E23 := fdS_ok lw fd23 (l := h23) (by kernel_rfl) (.cons E20_ok (.cons E21_ok .nil)) Try.func23 (by kernel_rfl) (by kernel_rfl) (by kernel_rfl) (enters_of (c := bodyF Try.f23) Try.func23 (by kernel_rfl) (by kernel_rfl)) (by kernel_rfl)
/-- plane.Between -/
noncomputable def fd8 : FD := ⟨8, bodyF Try.f8, Try.f8.results.toList, Try.f8.ntmps, [.val, .val, .val], [.v (.st 0), .v (.st 0), .v (.st 0)], [.v (.bool), .v (.int .i64)], 2, [], 5000⟩
noncomputable def h8 : List (En D) := [E19, E23]
noncomputable def G8 : YR D [.v (.st 0), .v (.st 0), .v (.st 0)] → Option (YR D [.v (.bool), .v (.int .i64)]) := sealF (Gof D fd8 (tabH D h8))
noncomputable def E8 : En D := ⟨8, [.val, .val, .val], [.v (.st 0), .v (.st 0), .v (.st 0)], [.v (.bool), .v (.int .i64)], 2, G8⟩
noncomputable def F8 (x0 : S23) (x1 : S23) (x2 : S23) : Option (Bool × Int) := G8 (x0, x1, x2)
theorem E8_ok : FnOk D PP E8 := fdS_ok lw fd8 (l := h8) (by kernel_rfl) (.cons E19_ok (.cons E23_ok .nil)) Try.func8 (by kernel_rfl) (by kernel_rfl) (by kernel_rfl) (enters_of (c := bodyF Try.f8) Try.func8 (by kernel_rfl) (by kernel_rfl)) (by kernel_rfl)
/-- plane.Meet -/
def c10_0 : Cut := ⟨15, [.box 4 4 (.st 0), .box 5 5 (.st 0), .box 6 6 (.st 0), .box 7 7 (.st 0)]⟩
noncomputable def fd10 : FD := ⟨10, bodyF Try.f10, Try.f10.results.toList, Try.f10.ntmps, [.val, .val, .val, .val], [.v (.st 0), .v (.st 0), .v (.st 0), .v (.st 0)], [.v (.bool), .v (.int .i64)], 2, [c10_0], 5000⟩
noncomputable def h10 : List (En D) := [E19, E22, E23]
noncomputable def G10 : YR D [.v (.st 0), .v (.st 0), .v (.st 0), .v (.st 0)] → Option (YR D [.v (.bool), .v (.int .i64)]) := sealF (Gof D fd10 (tabH D h10))
noncomputable def E10 : En D := ⟨10, [.val, .val, .val, .val], [.v (.st 0), .v (.st 0), .v (.st 0), .v (.st 0)], [.v (.bool), .v (.int .i64)], 2, G10⟩
noncomputable def F10 (x0 : S23) (x1 : S23) (x2 : S23) (x3 : S23) : Option (Bool × Int) := G10 (x0, x1, x2, x3)
noncomputable def L10 : LL D (YR D fd10.ts) := sealF (LiF D fd10 (tabH D h10))
noncomputable def L10_0 (v4 : S23) (v5 : S23) (v6 : S23) (v7 : S23) : Option (Bool × Int) := L10 c10_0 (v4, v5, v6, v7, ())
theorem E10_ok : FnOk D PP E10 := fdS_ok lw fd10 (l := h10) (by kernel_rfl) (.cons E19_ok (.cons E22_ok (.cons E23_ok .nil))) Try.func10 (by kernel_rfl) (by kernel_rfl) (by kernel_rfl) (enters_of (c := bodyF Try.f10) Try.func10 (by kernel_rfl) (by kernel_rfl)) (by kernel_rfl)
/-- pochoirref18.May -/
noncomputable def fd13 : FD := ⟨13, bodyF Try.f13, Try.f13.results.toList, Try.f13.ntmps, [.val], [.v (.st 0)], [.v (.bool)], 1, [], 5000⟩
noncomputable def h13 : List (En D) := []
noncomputable def G13 : YR D [.v (.st 0)] → Option (YR D [.v (.bool)]) := sealF (Gof D fd13 (tabH D h13))
noncomputable def E13 : En D := ⟨13, [.val], [.v (.st 0)], [.v (.bool)], 1, G13⟩
noncomputable def F13 (x0 : S23) : Option (Bool) := G13 (x0)
theorem E13_ok : FnOk D PP E13 := fdS_ok lw fd13 (l := h13) (by kernel_rfl) (.nil) Try.func13 (by kernel_rfl) (by kernel_rfl) (by kernel_rfl) (enters_of (c := bodyF Try.f13) Try.func13 (by kernel_rfl) (by kernel_rfl)) (by kernel_rfl)
/-- pochoirref18.all -/
def c24_0 : Cut := ⟨52, [.v 0 (.sl (.st 0)), .v 3 (.int .i64)]⟩
noncomputable def fd24 : FD := ⟨24, bodyF Try.f24, Try.f24.results.toList, Try.f24.ntmps, [.val], [.v (.sl (.st 0))], [.v (.bool)], 1, [c24_0], 5000⟩
noncomputable def h24 : List (En D) := [E13]
noncomputable def G24 : YR D [.v (.sl (.st 0))] → Option (YR D [.v (.bool)]) := sealF (Gof D fd24 (tabH D h24))
noncomputable def E24 : En D := ⟨24, [.val], [.v (.sl (.st 0))], [.v (.bool)], 1, G24⟩
noncomputable def F24 (x0 : List S23) : Option (Bool) := G24 (x0)
noncomputable def L24 : LL D (YR D fd24.ts) := sealF (LiF D fd24 (tabH D h24))
noncomputable def L24_0 (v0 : List S23) (v3 : Int) : Option (Bool) := L24 c24_0 (v0, v3, ())
theorem E24_ok : FnOk D PP E24 := fdS_ok lw fd24 (l := h24) (by kernel_rfl) (.cons E13_ok .nil) Try.func24 (by kernel_rfl) (by kernel_rfl) (by kernel_rfl) (enters_of (c := bodyF Try.f24) Try.func24 (by kernel_rfl) (by kernel_rfl)) (by kernel_rfl)
/-- pochoirref18.Asked -/
noncomputable def fd11 : FD := ⟨11, bodyF Try.f11, Try.f11.results.toList, Try.f11.ntmps, [.val], [.v (.sl (.st 0))], [.v (.int .i64)], 1, [], 5000⟩
noncomputable def h11 : List (En D) := [E24]
noncomputable def G11 : YR D [.v (.sl (.st 0))] → Option (YR D [.v (.int .i64)]) := sealF (Gof D fd11 (tabH D h11))
noncomputable def E11 : En D := ⟨11, [.val], [.v (.sl (.st 0))], [.v (.int .i64)], 1, G11⟩
noncomputable def F11 (x0 : List S23) : Option (Int) := G11 (x0)
theorem E11_ok : FnOk D PP E11 := fdS_ok lw fd11 (l := h11) (by kernel_rfl) (.cons E24_ok .nil) Try.func11 (by kernel_rfl) (by kernel_rfl) (by kernel_rfl) (enters_of (c := bodyF Try.f11) Try.func11 (by kernel_rfl) (by kernel_rfl)) (by kernel_rfl)
/-- pochoirref18.Dot -/
noncomputable def fd14 : FD := ⟨14, bodyF Try.f14, Try.f14.results.toList, Try.f14.ntmps, [.val, .val, .val], [.v (.st 0), .v (.st 0), .v (.st 0)], [.v (.int .i64)], 1, [], 5000⟩
noncomputable def h14 : List (En D) := []
noncomputable def G14 : YR D [.v (.st 0), .v (.st 0), .v (.st 0)] → Option (YR D [.v (.int .i64)]) := sealF (Gof D fd14 (tabH D h14))
noncomputable def E14 : En D := ⟨14, [.val, .val, .val], [.v (.st 0), .v (.st 0), .v (.st 0)], [.v (.int .i64)], 1, G14⟩
noncomputable def F14 (x0 : S23) (x1 : S23) (x2 : S23) : Option (Int) := G14 (x0, x1, x2)
theorem E14_ok : FnOk D PP E14 := fdS_ok lw fd14 (l := h14) (by kernel_rfl) (.nil) Try.func14 (by kernel_rfl) (by kernel_rfl) (by kernel_rfl) (enters_of (c := bodyF Try.f14) Try.func14 (by kernel_rfl) (by kernel_rfl)) (by kernel_rfl)
/-- pochoirref18.Cross -/
noncomputable def fd15 : FD := ⟨15, bodyF Try.f15, Try.f15.results.toList, Try.f15.ntmps, [.val, .val, .val], [.v (.st 0), .v (.st 0), .v (.st 0)], [.v (.int .i64)], 1, [], 5000⟩
noncomputable def h15 : List (En D) := []
noncomputable def G15 : YR D [.v (.st 0), .v (.st 0), .v (.st 0)] → Option (YR D [.v (.int .i64)]) := sealF (Gof D fd15 (tabH D h15))
noncomputable def E15 : En D := ⟨15, [.val, .val, .val], [.v (.st 0), .v (.st 0), .v (.st 0)], [.v (.int .i64)], 1, G15⟩
noncomputable def F15 (x0 : S23) (x1 : S23) (x2 : S23) : Option (Int) := G15 (x0, x1, x2)
theorem E15_ok : FnOk D PP E15 := fdS_ok lw fd15 (l := h15) (by kernel_rfl) (.nil) Try.func15 (by kernel_rfl) (by kernel_rfl) (by kernel_rfl) (enters_of (c := bodyF Try.f15) Try.func15 (by kernel_rfl) (by kernel_rfl)) (by kernel_rfl)
/-- pochoirref18.Sign -/
noncomputable def fd16 : FD := ⟨16, bodyF Try.f16, Try.f16.results.toList, Try.f16.ntmps, [.val], [.v (.int .i64)], [.v (.int .i64)], 1, [], 5000⟩
noncomputable def h16 : List (En D) := []
noncomputable def G16 : YR D [.v (.int .i64)] → Option (YR D [.v (.int .i64)]) := sealF (Gof D fd16 (tabH D h16))
noncomputable def E16 : En D := ⟨16, [.val], [.v (.int .i64)], [.v (.int .i64)], 1, G16⟩
noncomputable def F16 (x0 : Int) : Option (Int) := G16 (x0)
theorem E16_ok : FnOk D PP E16 := fdS_ok lw fd16 (l := h16) (by kernel_rfl) (.nil) Try.func16 (by kernel_rfl) (by kernel_rfl) (by kernel_rfl) (enters_of (c := bodyF Try.f16) Try.func16 (by kernel_rfl) (by kernel_rfl)) (by kernel_rfl)
/-- pochoirref18.Between -/
noncomputable def fd17 : FD := ⟨17, bodyF Try.f17, Try.f17.results.toList, Try.f17.ntmps, [.val, .val, .val], [.v (.st 0), .v (.st 0), .v (.st 0)], [.v (.bool)], 1, [], 5000⟩
noncomputable def h17 : List (En D) := [E15]
noncomputable def G17 : YR D [.v (.st 0), .v (.st 0), .v (.st 0)] → Option (YR D [.v (.bool)]) := sealF (Gof D fd17 (tabH D h17))
noncomputable def E17 : En D := ⟨17, [.val, .val, .val], [.v (.st 0), .v (.st 0), .v (.st 0)], [.v (.bool)], 1, G17⟩
noncomputable def F17 (x0 : S23) (x1 : S23) (x2 : S23) : Option (Bool) := G17 (x0, x1, x2)
theorem E17_ok : FnOk D PP E17 := fdS_ok lw fd17 (l := h17) (by kernel_rfl) (.cons E15_ok .nil) Try.func17 (by kernel_rfl) (by kernel_rfl) (by kernel_rfl) (enters_of (c := bodyF Try.f17) Try.func17 (by kernel_rfl) (by kernel_rfl)) (by kernel_rfl)
/-- pochoirref18.Meet -/
def c18_0 : Cut := ⟨7, [.box 4 4 (.st 0), .box 5 5 (.st 0), .box 6 6 (.st 0), .box 7 7 (.st 0)]⟩
noncomputable def fd18 : FD := ⟨18, bodyF Try.f18, Try.f18.results.toList, Try.f18.ntmps, [.val, .val, .val, .val], [.v (.st 0), .v (.st 0), .v (.st 0), .v (.st 0)], [.v (.bool)], 1, [c18_0], 5000⟩
noncomputable def h18 : List (En D) := [E15, E16, E17]
noncomputable def G18 : YR D [.v (.st 0), .v (.st 0), .v (.st 0), .v (.st 0)] → Option (YR D [.v (.bool)]) := sealF (Gof D fd18 (tabH D h18))
noncomputable def E18 : En D := ⟨18, [.val, .val, .val, .val], [.v (.st 0), .v (.st 0), .v (.st 0), .v (.st 0)], [.v (.bool)], 1, G18⟩
noncomputable def F18 (x0 : S23) (x1 : S23) (x2 : S23) (x3 : S23) : Option (Bool) := G18 (x0, x1, x2, x3)
noncomputable def L18 : LL D (YR D fd18.ts) := sealF (LiF D fd18 (tabH D h18))
noncomputable def L18_0 (v4 : S23) (v5 : S23) (v6 : S23) (v7 : S23) : Option (Bool) := L18 c18_0 (v4, v5, v6, v7, ())
theorem E18_ok : FnOk D PP E18 := fdS_ok lw fd18 (l := h18) (by kernel_rfl) (.cons E15_ok (.cons E16_ok (.cons E17_ok .nil))) Try.func18 (by kernel_rfl) (by kernel_rfl) (by kernel_rfl) (enters_of (c := bodyF Try.f18) Try.func18 (by kernel_rfl) (by kernel_rfl)) (by kernel_rfl)
/-- pochoirlaw18.PlaneAsks -/
def c3_0 : Cut := ⟨4095, [.box 3 3 (.st 0), .box 4 4 (.st 0), .box 7 7 (.st 0), .box 8 8 (.st 0), .v 9 (.int .i64), .v 11 (.int .i64), .v 13 (.int .i64), .v 15 (.bool), .v 17 (.int .i64), .v 19 (.bool), .v 21 (.int .i64), .v 22 (.int .i64), .v 23 (.int .i64)]⟩
def c3_1 : Cut := ⟨8191, [.box 3 3 (.st 0), .box 4 4 (.st 0), .box 7 7 (.st 0), .box 8 8 (.st 0), .v 9 (.int .i64), .v 11 (.int .i64), .v 13 (.int .i64), .v 15 (.bool), .v 17 (.int .i64), .v 19 (.bool), .v 21 (.int .i64), .v 22 (.int .i64), .v 23 (.int .i64)]⟩
def c3_2 : Cut := ⟨16383, [.box 3 3 (.st 0), .box 4 4 (.st 0), .box 7 7 (.st 0), .box 8 8 (.st 0), .v 9 (.int .i64), .v 11 (.int .i64), .v 13 (.int .i64), .v 15 (.bool), .v 19 (.bool), .v 21 (.int .i64), .v 23 (.int .i64)]⟩
def c3_3 : Cut := ⟨32767, [.box 3 3 (.st 0), .box 4 4 (.st 0), .box 7 7 (.st 0), .box 8 8 (.st 0), .v 19 (.bool), .v 23 (.int .i64)]⟩
noncomputable def fd3 : FD := ⟨3, bodyF Try.f3, Try.f3.results.toList, Try.f3.ntmps, [.val, .val, .val], [.v (.st 0), .v (.st 0), .v (.st 1)], [.v (.bool)], 1, [c3_0, c3_1, c3_2, c3_3], 5000⟩
noncomputable def h3 : List (En D) := [E4, E5, E6, E7, E8, E9, E10, E11, E12, E13, E14, E15, E16, E17, E18]
noncomputable def G3 : YR D [.v (.st 0), .v (.st 0), .v (.st 1)] → Option (YR D [.v (.bool)]) := sealF (Gof D fd3 (tabH D h3))
noncomputable def E3 : En D := ⟨3, [.val, .val, .val], [.v (.st 0), .v (.st 0), .v (.st 1)], [.v (.bool)], 1, G3⟩
noncomputable def F3 (x0 : S23) (x1 : S23) (x2 : S24) : Option (Bool) := G3 (x0, x1, x2)
noncomputable def L3 : LL D (YR D fd3.ts) := sealF (LiF D fd3 (tabH D h3))
noncomputable def L3_0 (v3 : S23) (v4 : S23) (v7 : S23) (v8 : S23) (v9 : Int) (v11 : Int) (v13 : Int) (v15 : Bool) (v17 : Int) (v19 : Bool) (v21 : Int) (v22 : Int) (v23 : Int) : Option (Bool) := L3 c3_0 (v3, v4, v7, v8, v9, v11, v13, v15, v17, v19, v21, v22, v23, ())
noncomputable def L3_1 (v3 : S23) (v4 : S23) (v7 : S23) (v8 : S23) (v9 : Int) (v11 : Int) (v13 : Int) (v15 : Bool) (v17 : Int) (v19 : Bool) (v21 : Int) (v22 : Int) (v23 : Int) : Option (Bool) := L3 c3_1 (v3, v4, v7, v8, v9, v11, v13, v15, v17, v19, v21, v22, v23, ())
noncomputable def L3_2 (v3 : S23) (v4 : S23) (v7 : S23) (v8 : S23) (v9 : Int) (v11 : Int) (v13 : Int) (v15 : Bool) (v19 : Bool) (v21 : Int) (v23 : Int) : Option (Bool) := L3 c3_2 (v3, v4, v7, v8, v9, v11, v13, v15, v19, v21, v23, ())
noncomputable def L3_3 (v3 : S23) (v4 : S23) (v7 : S23) (v8 : S23) (v19 : Bool) (v23 : Int) : Option (Bool) := L3 c3_3 (v3, v4, v7, v8, v19, v23, ())
theorem E3_ok : FnOk D PP E3 := fdS_ok lw fd3 (l := h3) (by kernel_rfl) (.cons E4_ok (.cons E5_ok (.cons E6_ok (.cons E7_ok (.cons E8_ok (.cons E9_ok (.cons E10_ok (.cons E11_ok (.cons E12_ok (.cons E13_ok (.cons E14_ok (.cons E15_ok (.cons E16_ok (.cons E17_ok (.cons E18_ok .nil))))))))))))))) Try.func3 (by kernel_rfl) (by kernel_rfl) (by kernel_rfl) (enters_of (c := bodyF Try.f3) Try.func3 (by kernel_rfl) (by kernel_rfl)) (by kernel_rfl)
end Go.Proofs.Ytjodbccjechgpaa.Ev
