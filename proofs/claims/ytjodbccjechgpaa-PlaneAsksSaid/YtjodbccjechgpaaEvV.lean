/- Printed by a program of this claim: functions that take nothing, run by the kernel. -/
import Derived.Test.YtjodbccjechgpaaEvF
import Derived.Test.YtjodbccjechgpaaEv33
namespace Go.Proofs.Ytjodbccjechgpaa.Ev
open Go
set_option linter.unusedVariables false
set_option maxRecDepth 100000
noncomputable def v12 : List (En D) := []
noncomputable def V12 : YR D [.v (.st 0)] → Option (YR D [.v (.bool)]) := evF D fd12 (tabH D v12) 200
theorem V12_le (x : _) (y : _) (h : V12 x = some y) : G12 x = some y := evF_le (f := fd12) (tabH_nat v12) (tabH_nat h12) (tabH_le (.nil)) 200 x y h
noncomputable def v19 : List (En D) := [⟨12, [.val], [.v (.st 0)], [.v (.bool)], 1, V12⟩]
noncomputable def V19 : YR D [.v (.sl (.st 0))] → Option (YR D [.v (.int .i64)]) := evF D fd19 (tabH D v19) 200
theorem V19_le (x : _) (y : _) (h : V19 x = some y) : G19 x = some y := evF_le (f := fd19) (tabH_nat v19) (tabH_nat h19) (tabH_le (.cons V12_le .nil)) 200 x y h
noncomputable def v20 : List (En D) := []
noncomputable def V20 : YR D [.v (.st 0), .v (.st 0), .v (.st 0)] → Option (YR D [.v (.int .i64)]) := evF D fd20 (tabH D v20) 200
theorem V20_le (x : _) (y : _) (h : V20 x = some y) : G20 x = some y := evF_le (f := fd20) (tabH_nat v20) (tabH_nat h20) (tabH_le (.nil)) 200 x y h
noncomputable def v26 : List (En D) := []
noncomputable def V26 : YR D [.v (.int .i64)] → Option (YR D [.v (.bool)]) := evF D fd26 (tabH D v26) 200
theorem V26_le (x : _) (y : _) (h : V26 x = some y) : G26 x = some y := evF_le (f := fd26) (tabH_nat v26) (tabH_nat h26) (tabH_le (.nil)) 200 x y h
noncomputable def v25 : List (En D) := [⟨26, [.val], [.v (.int .i64)], [.v (.bool)], 1, V26⟩]
noncomputable def V25 : YR D [.v (.int .i64), .v (.int .i64)] → Option (YR D [.v (.int .i64)]) := evF D fd25 (tabH D v25) 200
theorem V25_le (x : _) (y : _) (h : V25 x = some y) : G25 x = some y := evF_le (f := fd25) (tabH_nat v25) (tabH_nat h25) (tabH_le (.cons V26_le .nil)) 200 x y h
noncomputable def v22 : List (En D) := [⟨20, [.val, .val, .val], [.v (.st 0), .v (.st 0), .v (.st 0)], [.v (.int .i64)], 1, V20⟩, ⟨25, [.val, .val], [.v (.int .i64), .v (.int .i64)], [.v (.int .i64)], 1, V25⟩]
noncomputable def V22 : YR D [.v (.st 0), .v (.st 0), .v (.st 0)] → Option (YR D [.v (.int .i64)]) := evF D fd22 (tabH D v22) 200
theorem V22_le (x : _) (y : _) (h : V22 x = some y) : G22 x = some y := evF_le (f := fd22) (tabH_nat v22) (tabH_nat h22) (tabH_le (.cons V20_le (.cons V25_le .nil))) 200 x y h
noncomputable def v7 : List (En D) := [⟨19, [.val], [.v (.sl (.st 0))], [.v (.int .i64)], 1, V19⟩, ⟨22, [.val, .val, .val], [.v (.st 0), .v (.st 0), .v (.st 0)], [.v (.int .i64)], 1, V22⟩]
noncomputable def V7 : YR D [.v (.st 0), .v (.st 0), .v (.st 0)] → Option (YR D [.v (.int .i64), .v (.int .i64)]) := evF D fd7 (tabH D v7) 200
theorem V7_le (x : _) (y : _) (h : V7 x = some y) : G7 x = some y := evF_le (f := fd7) (tabH_nat v7) (tabH_nat h7) (tabH_le (.cons V19_le (.cons V22_le .nil))) 200 x y h
noncomputable def v21 : List (En D) := []
noncomputable def V21 : YR D [.v (.st 0), .v (.st 0), .v (.st 0)] → Option (YR D [.v (.int .i64)]) := evF D fd21 (tabH D v21) 200
theorem V21_le (x : _) (y : _) (h : V21 x = some y) : G21 x = some y := evF_le (f := fd21) (tabH_nat v21) (tabH_nat h21) (tabH_le (.nil)) 200 x y h
noncomputable def v6 : List (En D) := [⟨19, [.val], [.v (.sl (.st 0))], [.v (.int .i64)], 1, V19⟩, ⟨21, [.val, .val, .val], [.v (.st 0), .v (.st 0), .v (.st 0)], [.v (.int .i64)], 1, V21⟩]
noncomputable def V6 : YR D [.v (.st 0), .v (.st 0), .v (.st 0)] → Option (YR D [.v (.int .i64), .v (.int .i64)]) := evF D fd6 (tabH D v6) 200
theorem V6_le (x : _) (y : _) (h : V6 x = some y) : G6 x = some y := evF_le (f := fd6) (tabH_nat v6) (tabH_nat h6) (tabH_le (.cons V19_le (.cons V21_le .nil))) 200 x y h
noncomputable def v9 : List (En D) := [⟨6, [.val, .val, .val], [.v (.st 0), .v (.st 0), .v (.st 0)], [.v (.int .i64), .v (.int .i64)], 2, V6⟩]
noncomputable def V9 : YR D [.v (.st 0), .v (.st 0)] → Option (YR D [.v (.int .i64), .v (.int .i64)]) := evF D fd9 (tabH D v9) 200
theorem V9_le (x : _) (y : _) (h : V9 x = some y) : G9 x = some y := evF_le (f := fd9) (tabH_nat v9) (tabH_nat h9) (tabH_le (.cons V6_le .nil)) 200 x y h
noncomputable def v4 : List (En D) := [⟨7, [.val, .val, .val], [.v (.st 0), .v (.st 0), .v (.st 0)], [.v (.int .i64), .v (.int .i64)], 2, V7⟩, ⟨9, [.val, .val], [.v (.st 0), .v (.st 0)], [.v (.int .i64), .v (.int .i64)], 2, V9⟩, ⟨12, [.val], [.v (.st 0)], [.v (.bool)], 1, V12⟩]
noncomputable def V4 : YR D [] → Option (YR D [.v (.bool)]) := evF D fd4 (tabH D v4) 200
theorem V4_le (x : _) (y : _) (h : V4 x = some y) : G4 x = some y := evF_le (f := fd4) (tabH_nat v4) (tabH_nat h4) (tabH_le (.cons V7_le (.cons V9_le (.cons V12_le .nil)))) 200 x y h
theorem F4_true : F4 = some true := V4_le () true (by kernel_rfl)
end Go.Proofs.Ytjodbccjechgpaa.Ev
