/- Printed by a program of this claim: functions that take nothing, run by the kernel. -/
import Derived.Test.YtidiifdiilahdaaDoorEvF
import Derived.Test.YtidiifdiilahdaaDoorEvAe
namespace Go.Proofs.YtidiifdiilahdaaDoor.Ev
open Go
set_option linter.unusedVariables false
set_option maxRecDepth 100000
def V84 : YR D [.v (.int .u64)] → Option (YR D [.v (.int .i64)]) := fun x => bits_TrailingZeros64 x
theorem V84_le (x : _) (y : _) (h : V84 x = some y) : G84 x = some y := (congrFun (sealF_eq _) x).trans h
noncomputable def v75 : List (En D) := [⟨84, [.val], [.v (.int .u64)], [.v (.int .i64)], 1, V84⟩]
noncomputable def V75 : YR D [.v (.st 3)] → Option (YR D [.v (.int .i64)]) := evF D fd75 (tabH D v75) 200
theorem V75_le (x : _) (y : _) (h : V75 x = some y) : G75 x = some y := evF_le (f := fd75) (tabH_nat v75) (tabH_nat h75) (tabH_le (.cons V84_le .nil)) 200 x y h
noncomputable def v85 : List (En D) := []
noncomputable def V85 : YR D [.v (.st 3), .v (.int .u64)] → Option (YR D [.v (.st 3)]) := evF D fd85 (tabH D v85) 200
theorem V85_le (x : _) (y : _) (h : V85 x = some y) : G85 x = some y := evF_le (f := fd85) (tabH_nat v85) (tabH_nat h85) (tabH_le (.nil)) 200 x y h
noncomputable def v94 : List (En D) := []
noncomputable def V94 : YR D [.v (.int .u64)] → Option (YR D [.v (.int .i64)]) := evF D fd94 (tabH D v94) 200
theorem V94_le (x : _) (y : _) (h : V94 x = some y) : G94 x = some y := evF_le (f := fd94) (tabH_nat v94) (tabH_nat h94) (tabH_le (.nil)) 200 x y h
noncomputable def v86 : List (En D) := [⟨94, [.val], [.v (.int .u64)], [.v (.int .i64)], 1, V94⟩]
noncomputable def V86 : YR D [.v (.st 3)] → Option (YR D [.v (.int .i64)]) := evF D fd86 (tabH D v86) 200
theorem V86_le (x : _) (y : _) (h : V86 x = some y) : G86 x = some y := evF_le (f := fd86) (tabH_nat v86) (tabH_nat h86) (tabH_le (.cons V94_le .nil)) 200 x y h
noncomputable def v87 : List (En D) := []
noncomputable def V87 : YR D [.v (.st 3), .v (.int .u64)] → Option (YR D [.v (.st 3)]) := evF D fd87 (tabH D v87) 200
theorem V87_le (x : _) (y : _) (h : V87 x = some y) : G87 x = some y := evF_le (f := fd87) (tabH_nat v87) (tabH_nat h87) (tabH_le (.nil)) 200 x y h
noncomputable def v76 : List (En D) := [⟨85, [.val, .val], [.v (.st 3), .v (.int .u64)], [.v (.st 3)], 1, V85⟩, ⟨86, [.val], [.v (.st 3)], [.v (.int .i64)], 1, V86⟩, ⟨87, [.val, .val], [.v (.st 3), .v (.int .u64)], [.v (.st 3)], 1, V87⟩]
noncomputable def V76 : YR D [.v (.st 3), .v (.int .i64)] → Option (YR D [.v (.st 3), .v (.int .i64)]) := evF D fd76 (tabH D v76) 200
theorem V76_le (x : _) (y : _) (h : V76 x = some y) : G76 x = some y := evF_le (f := fd76) (tabH_nat v76) (tabH_nat h76) (tabH_le (.cons V85_le (.cons V86_le (.cons V87_le .nil)))) 200 x y h
noncomputable def v88 : List (En D) := []
noncomputable def V88 : YR D [.v (.sl (.int .i64))] → Option (YR D [.v (.int .i64)]) := evF D fd88 (tabH D v88) 200
theorem V88_le (x : _) (y : _) (h : V88 x = some y) : G88 x = some y := evF_le (f := fd88) (tabH_nat v88) (tabH_nat h88) (tabH_le (.nil)) 200 x y h
noncomputable def v95 : List (En D) := []
noncomputable def V95 : YR D [.v (.int .u64)] → Option (YR D [.v (.bool)]) := evF D fd95 (tabH D v95) 200
theorem V95_le (x : _) (y : _) (h : V95 x = some y) : G95 x = some y := evF_le (f := fd95) (tabH_nat v95) (tabH_nat h95) (tabH_le (.nil)) 200 x y h
noncomputable def v89 : List (En D) := [⟨95, [.val], [.v (.int .u64)], [.v (.bool)], 1, V95⟩]
noncomputable def V89 : YR D [.v (.int .u64), .v (.int .u64)] → Option (YR D [.v (.int .i64)]) := evF D fd89 (tabH D v89) 200
theorem V89_le (x : _) (y : _) (h : V89 x = some y) : G89 x = some y := evF_le (f := fd89) (tabH_nat v89) (tabH_nat h89) (tabH_le (.cons V95_le .nil)) 200 x y h
noncomputable def v77 : List (En D) := [⟨88, [.val], [.v (.sl (.int .i64))], [.v (.int .i64)], 1, V88⟩, ⟨89, [.val, .val], [.v (.int .u64), .v (.int .u64)], [.v (.int .i64)], 1, V89⟩]
noncomputable def V77 : YR D [.v (.st 3), .v (.st 3)] → Option (YR D [.v (.int .i64)]) := evF D fd77 (tabH D v77) 200
theorem V77_le (x : _) (y : _) (h : V77 x = some y) : G77 x = some y := evF_le (f := fd77) (tabH_nat v77) (tabH_nat h77) (tabH_le (.cons V88_le (.cons V89_le .nil))) 200 x y h
def V90 : YR D [.v (.int .u64), .v (.int .u64), .v (.int .u64)] → Option (YR D [.v (.int .u64), .v (.int .u64)]) := fun x => bits_Sub64 x.1 x.2.1 x.2.2
theorem V90_le (x : _) (y : _) (h : V90 x = some y) : G90 x = some y := (congrFun (sealF_eq _) x).trans h
noncomputable def v78 : List (En D) := [⟨90, [.val, .val, .val], [.v (.int .u64), .v (.int .u64), .v (.int .u64)], [.v (.int .u64), .v (.int .u64)], 2, V90⟩]
noncomputable def V78 : YR D [.v (.st 3), .v (.st 3)] → Option (YR D [.v (.st 3), .v (.int .i64)]) := evF D fd78 (tabH D v78) 200
theorem V78_le (x : _) (y : _) (h : V78 x = some y) : G78 x = some y := evF_le (f := fd78) (tabH_nat v78) (tabH_nat h78) (tabH_le (.cons V90_le .nil)) 200 x y h
noncomputable def v58 : List (En D) := [⟨75, [.val], [.v (.st 3)], [.v (.int .i64)], 1, V75⟩, ⟨76, [.val, .val], [.v (.st 3), .v (.int .i64)], [.v (.st 3), .v (.int .i64)], 2, V76⟩, ⟨77, [.val, .val], [.v (.st 3), .v (.st 3)], [.v (.int .i64)], 1, V77⟩, ⟨78, [.val, .val], [.v (.st 3), .v (.st 3)], [.v (.st 3), .v (.int .i64)], 2, V78⟩]
noncomputable def V58 : YR D [.v (.st 3), .v (.st 3)] → Option (YR D [.v (.st 3)]) := evF D fd58 (tabH D v58) 200
theorem V58_le (x : _) (y : _) (h : V58 x = some y) : G58 x = some y := evF_le (f := fd58) (tabH_nat v58) (tabH_nat h58) (tabH_le (.cons V75_le (.cons V76_le (.cons V77_le (.cons V78_le .nil))))) 200 x y h
noncomputable def v59 : List (En D) := []
noncomputable def V59 : YR D [.v (.int .u64)] → Option (YR D [.v (.st 3)]) := evF D fd59 (tabH D v59) 200
theorem V59_le (x : _) (y : _) (h : V59 x = some y) : G59 x = some y := evF_le (f := fd59) (tabH_nat v59) (tabH_nat h59) (tabH_le (.nil)) 200 x y h
noncomputable def v60 : List (En D) := []
noncomputable def V60 : YR D [.v (.int .i64)] → Option (YR D [.v (.int .u64)]) := evF D fd60 (tabH D v60) 200
theorem V60_le (x : _) (y : _) (h : V60 x = some y) : G60 x = some y := evF_le (f := fd60) (tabH_nat v60) (tabH_nat h60) (tabH_le (.nil)) 200 x y h
noncomputable def v33 : List (En D) := [⟨58, [.val, .val], [.v (.st 3), .v (.st 3)], [.v (.st 3)], 1, V58⟩, ⟨59, [.val], [.v (.int .u64)], [.v (.st 3)], 1, V59⟩, ⟨60, [.val], [.v (.int .i64)], [.v (.int .u64)], 1, V60⟩]
noncomputable def V33 : YR D [.v (.st 1)] → Option (YR D [.v (.bool)]) := evF D fd33 (tabH D v33) 200
theorem V33_le (x : _) (y : _) (h : V33 x = some y) : G33 x = some y := evF_le (f := fd33) (tabH_nat v33) (tabH_nat h33) (tabH_le (.cons V58_le (.cons V59_le (.cons V60_le .nil)))) 200 x y h
noncomputable def v61 : List (En D) := []
noncomputable def V61 : YR D [.v (.sl (.int .u32))] → Option (YR D [.v (.sl (.int .u32))]) := evF D fd61 (tabH D v61) 200
theorem V61_le (x : _) (y : _) (h : V61 x = some y) : G61 x = some y := evF_le (f := fd61) (tabH_nat v61) (tabH_nat h61) (tabH_le (.nil)) 200 x y h
noncomputable def v35 : List (En D) := [⟨61, [.val], [.v (.sl (.int .u32))], [.v (.sl (.int .u32))], 1, V61⟩]
noncomputable def V35 : YR D [.v (.st 0)] → Option (YR D [.v (.int .i64)]) := evF D fd35 (tabH D v35) 200
theorem V35_le (x : _) (y : _) (h : V35 x = some y) : G35 x = some y := evF_le (f := fd35) (tabH_nat v35) (tabH_nat h35) (tabH_le (.cons V61_le .nil)) 200 x y h
noncomputable def v44 : List (En D) := [⟨35, [.val], [.v (.st 0)], [.v (.int .i64)], 1, V35⟩]
noncomputable def V44 : YR D [.v (.sl (.st 0))] → Option (YR D [.v (.sl (.st 0))]) := evF D fd44 (tabH D v44) 200
theorem V44_le (x : _) (y : _) (h : V44 x = some y) : G44 x = some y := evF_le (f := fd44) (tabH_nat v44) (tabH_nat h44) (tabH_le (.cons V35_le .nil)) 200 x y h
noncomputable def v69 : List (En D) := [⟨61, [.val], [.v (.sl (.int .u32))], [.v (.sl (.int .u32))], 1, V61⟩]
noncomputable def V69 : YR D [.v (.bool), .v (.sl (.int .u32))] → Option (YR D [.v (.st 0)]) := evF D fd69 (tabH D v69) 200
theorem V69_le (x : _) (y : _) (h : V69 x = some y) : G69 x = some y := evF_le (f := fd69) (tabH_nat v69) (tabH_nat h69) (tabH_le (.cons V61_le .nil)) 200 x y h
noncomputable def v47 : List (En D) := [⟨69, [.val, .val], [.v (.bool), .v (.sl (.int .u32))], [.v (.st 0)], 1, V69⟩]
noncomputable def V47 : YR D [.v (.st 0), .v (.st 0)] → Option (YR D [.v (.st 0)]) := evF D fd47 (tabH D v47) 200
theorem V47_le (x : _) (y : _) (h : V47 x = some y) : G47 x = some y := evF_le (f := fd47) (tabH_nat v47) (tabH_nat h47) (tabH_le (.cons V69_le .nil)) 200 x y h
noncomputable def v53 : List (En D) := [⟨69, [.val, .val], [.v (.bool), .v (.sl (.int .u32))], [.v (.st 0)], 1, V69⟩]
noncomputable def V53 : YR D [.v (.int .i64)] → Option (YR D [.v (.st 0)]) := evF D fd53 (tabH D v53) 200
theorem V53_le (x : _) (y : _) (h : V53 x = some y) : G53 x = some y := evF_le (f := fd53) (tabH_nat v53) (tabH_nat h53) (tabH_le (.cons V69_le .nil)) 200 x y h
noncomputable def v81 : List (En D) := []
noncomputable def V81 : YR D [.v (.sl (.int .u32)), .v (.int .i64)] → Option (YR D [.v (.int .u64)]) := evF D fd81 (tabH D v81) 200
theorem V81_le (x : _) (y : _) (h : V81 x = some y) : G81 x = some y := evF_le (f := fd81) (tabH_nat v81) (tabH_nat h81) (tabH_le (.nil)) 200 x y h
noncomputable def v71 : List (En D) := [⟨81, [.val, .val], [.v (.sl (.int .u32)), .v (.int .i64)], [.v (.int .u64)], 1, V81⟩]
noncomputable def V71 : YR D [.v (.sl (.int .u32)), .v (.sl (.int .u32))] → Option (YR D [.v (.sl (.int .u32))]) := evF D fd71 (tabH D v71) 200
theorem V71_le (x : _) (y : _) (h : V71 x = some y) : G71 x = some y := evF_le (f := fd71) (tabH_nat v71) (tabH_nat h71) (tabH_le (.cons V81_le .nil)) 200 x y h
noncomputable def v92 : List (En D) := []
noncomputable def V92 : YR D [.v (.int .i64)] → Option (YR D [.v (.bool)]) := evF D fd92 (tabH D v92) 200
theorem V92_le (x : _) (y : _) (h : V92 x = some y) : G92 x = some y := evF_le (f := fd92) (tabH_nat v92) (tabH_nat h92) (tabH_le (.nil)) 200 x y h
noncomputable def v82 : List (En D) := [⟨92, [.val], [.v (.int .i64)], [.v (.bool)], 1, V92⟩]
noncomputable def V82 : YR D [.v (.int .i64), .v (.int .i64)] → Option (YR D [.v (.int .i64)]) := evF D fd82 (tabH D v82) 200
theorem V82_le (x : _) (y : _) (h : V82 x = some y) : G82 x = some y := evF_le (f := fd82) (tabH_nat v82) (tabH_nat h82) (tabH_le (.cons V92_le .nil)) 200 x y h
noncomputable def v93 : List (En D) := []
noncomputable def V93 : YR D [.v (.int .u32)] → Option (YR D [.v (.bool)]) := evF D fd93 (tabH D v93) 200
theorem V93_le (x : _) (y : _) (h : V93 x = some y) : G93 x = some y := evF_le (f := fd93) (tabH_nat v93) (tabH_nat h93) (tabH_le (.nil)) 200 x y h
noncomputable def v83 : List (En D) := [⟨93, [.val], [.v (.int .u32)], [.v (.bool)], 1, V93⟩]
noncomputable def V83 : YR D [.v (.int .u32), .v (.int .u32)] → Option (YR D [.v (.int .i64)]) := evF D fd83 (tabH D v83) 200
theorem V83_le (x : _) (y : _) (h : V83 x = some y) : G83 x = some y := evF_le (f := fd83) (tabH_nat v83) (tabH_nat h83) (tabH_le (.cons V93_le .nil)) 200 x y h
noncomputable def v72 : List (En D) := [⟨82, [.val, .val], [.v (.int .i64), .v (.int .i64)], [.v (.int .i64)], 1, V82⟩, ⟨83, [.val, .val], [.v (.int .u32), .v (.int .u32)], [.v (.int .i64)], 1, V83⟩]
noncomputable def V72 : YR D [.v (.sl (.int .u32)), .v (.sl (.int .u32))] → Option (YR D [.v (.int .i64)]) := evF D fd72 (tabH D v72) 200
theorem V72_le (x : _) (y : _) (h : V72 x = some y) : G72 x = some y := evF_le (f := fd72) (tabH_nat v72) (tabH_nat h72) (tabH_le (.cons V82_le (.cons V83_le .nil))) 200 x y h
noncomputable def v73 : List (En D) := [⟨81, [.val, .val], [.v (.sl (.int .u32)), .v (.int .i64)], [.v (.int .u64)], 1, V81⟩]
noncomputable def V73 : YR D [.v (.sl (.int .u32)), .v (.sl (.int .u32))] → Option (YR D [.v (.sl (.int .u32))]) := evF D fd73 (tabH D v73) 200
theorem V73_le (x : _) (y : _) (h : V73 x = some y) : G73 x = some y := evF_le (f := fd73) (tabH_nat v73) (tabH_nat h73) (tabH_le (.cons V81_le .nil)) 200 x y h
noncomputable def v54 : List (En D) := [⟨61, [.val], [.v (.sl (.int .u32))], [.v (.sl (.int .u32))], 1, V61⟩, ⟨69, [.val, .val], [.v (.bool), .v (.sl (.int .u32))], [.v (.st 0)], 1, V69⟩, ⟨71, [.val, .val], [.v (.sl (.int .u32)), .v (.sl (.int .u32))], [.v (.sl (.int .u32))], 1, V71⟩, ⟨72, [.val, .val], [.v (.sl (.int .u32)), .v (.sl (.int .u32))], [.v (.int .i64)], 1, V72⟩, ⟨73, [.val, .val], [.v (.sl (.int .u32)), .v (.sl (.int .u32))], [.v (.sl (.int .u32))], 1, V73⟩]
noncomputable def V54 : YR D [.v (.st 0), .v (.st 0)] → Option (YR D [.v (.st 0)]) := evF D fd54 (tabH D v54) 200
theorem V54_le (x : _) (y : _) (h : V54 x = some y) : G54 x = some y := evF_le (f := fd54) (tabH_nat v54) (tabH_nat h54) (tabH_le (.cons V61_le (.cons V69_le (.cons V71_le (.cons V72_le (.cons V73_le .nil)))))) 200 x y h
noncomputable def v34 : List (En D) := [⟨44, [.val], [.v (.sl (.st 0))], [.v (.sl (.st 0))], 1, V44⟩, ⟨47, [.val, .val], [.v (.st 0), .v (.st 0)], [.v (.st 0)], 1, V47⟩, ⟨53, [.val], [.v (.int .i64)], [.v (.st 0)], 1, V53⟩, ⟨54, [.val, .val], [.v (.st 0), .v (.st 0)], [.v (.st 0)], 1, V54⟩]
noncomputable def V34 : YR D [.v (.sl (.st 0)), .v (.st 1)] → Option (YR D [.v (.st 0)]) := evF D fd34 (tabH D v34) 200
theorem V34_le (x : _) (y : _) (h : V34 x = some y) : G34 x = some y := evF_le (f := fd34) (tabH_nat v34) (tabH_nat h34) (tabH_le (.cons V44_le (.cons V47_le (.cons V53_le (.cons V54_le .nil))))) 200 x y h
noncomputable def v10 : List (En D) := [⟨33, [.val], [.v (.st 1)], [.v (.bool)], 1, V33⟩, ⟨34, [.val, .val], [.v (.sl (.st 0)), .v (.st 1)], [.v (.st 0)], 1, V34⟩]
noncomputable def V10 : YR D [.v (.sl (.st 0)), .v (.st 1)] → Option (YR D [.v (.st 0), .v (.int .i64)]) := evF D fd10 (tabH D v10) 200
theorem V10_le (x : _) (y : _) (h : V10 x = some y) : G10 x = some y := evF_le (f := fd10) (tabH_nat v10) (tabH_nat h10) (tabH_le (.cons V33_le (.cons V34_le .nil))) 200 x y h
noncomputable def v49 : List (En D) := []
noncomputable def V49 : YR D [.v (.sl (.st 0)), .v (.int .i64)] → Option (YR D [.v (.st 0)]) := evF D fd49 (tabH D v49) 200
theorem V49_le (x : _) (y : _) (h : V49 x = some y) : G49 x = some y := evF_le (f := fd49) (tabH_nat v49) (tabH_nat h49) (tabH_le (.nil)) 200 x y h
noncomputable def v55054 : List (En D) := [⟨44, [.val], [.v (.sl (.st 0))], [.v (.sl (.st 0))], 1, V44⟩, ⟨49, [.val, .val], [.v (.sl (.st 0)), .v (.int .i64)], [.v (.st 0)], 1, V49⟩, ⟨54, [.val, .val], [.v (.st 0), .v (.st 0)], [.v (.st 0)], 1, V54⟩]
noncomputable def V55054 : YR D [.v (.sl (.st 0)), .v (.sl (.st 0)), .fc 54] → Option (YR D [.v (.sl (.st 0))]) := evF D fd55054 (tabH D v55054) 200
theorem V55054_le (x : _) (y : _) (h : V55054 x = some y) : G55054 x = some y := evF_le (f := fd55054) (tabH_nat v55054) (tabH_nat h55054) (tabH_le (.cons V44_le (.cons V49_le (.cons V54_le .nil)))) 200 x y h
noncomputable def v24 : List (En D) := [⟨55, [.val, .val, .val], [.v (.sl (.st 0)), .v (.sl (.st 0)), .fc 54], [.v (.sl (.st 0))], 1, V55054⟩]
noncomputable def V24 : YR D [.v (.sl (.st 0)), .v (.sl (.st 0))] → Option (YR D [.v (.sl (.st 0))]) := evF D fd24 (tabH D v24) 200
theorem V24_le (x : _) (y : _) (h : V24 x = some y) : G24 x = some y := evF_le (f := fd24) (tabH_nat v24) (tabH_nat h24) (tabH_le (.cons V55054_le .nil)) 200 x y h
def V70 : YR D [.v (.sl (.int .u32))] → Option (YR D [.v (.sl (.int .u32))]) := fun x => grd (fit (0 + x.length) 4) (some x)
theorem V70_le (x : _) (y : _) (h : V70 x = some y) : G70 x = some y := (congrFun (sealF_eq _) x).trans h
noncomputable def v91 : List (En D) := [⟨94, [.val], [.v (.int .u64)], [.v (.int .i64)], 1, V94⟩]
noncomputable def V91 : YR D [.v (.int .u64)] → Option (YR D [.v (.int .i64)]) := evF D fd91 (tabH D v91) 200
theorem V91_le (x : _) (y : _) (h : V91 x = some y) : G91 x = some y := evF_le (f := fd91) (tabH_nat v91) (tabH_nat h91) (tabH_le (.cons V94_le .nil)) 200 x y h
noncomputable def v79 : List (En D) := [⟨91, [.val], [.v (.int .u64)], [.v (.int .i64)], 1, V91⟩]
noncomputable def V79 : YR D [.v (.int .u64), .v (.int .u64), .v (.int .u64)] → Option (YR D [.v (.int .u64), .v (.int .u64)]) := evF D fd79 (tabH D v79) 200
theorem V79_le (x : _) (y : _) (h : V79 x = some y) : G79 x = some y := evF_le (f := fd79) (tabH_nat v79) (tabH_nat h79) (tabH_le (.cons V91_le .nil)) 200 x y h
noncomputable def v80 : List (En D) := []
noncomputable def V80 : YR D [.v (.int .i64)] → Option (YR D [.v (.int .u64)]) := evF D fd80 (tabH D v80) 200
theorem V80_le (x : _) (y : _) (h : V80 x = some y) : G80 x = some y := evF_le (f := fd80) (tabH_nat v80) (tabH_nat h80) (tabH_le (.nil)) 200 x y h
noncomputable def v62 : List (En D) := [⟨69, [.val, .val], [.v (.bool), .v (.sl (.int .u32))], [.v (.st 0)], 1, V69⟩, ⟨70, [.val], [.v (.sl (.int .u32))], [.v (.sl (.int .u32))], 1, V70⟩, ⟨79, [.val, .val, .val], [.v (.int .u64), .v (.int .u64), .v (.int .u64)], [.v (.int .u64), .v (.int .u64)], 2, V79⟩, ⟨80, [.val], [.v (.int .i64)], [.v (.int .u64)], 1, V80⟩]
noncomputable def V62 : YR D [.v (.st 0), .v (.int .i64)] → Option (YR D [.v (.st 0), .v (.int .i64), .v (.int .i64)]) := evF D fd62 (tabH D v62) 200
theorem V62_le (x : _) (y : _) (h : V62 x = some y) : G62 x = some y := evF_le (f := fd62) (tabH_nat v62) (tabH_nat h62) (tabH_le (.cons V69_le (.cons V70_le (.cons V79_le (.cons V80_le .nil))))) 200 x y h
noncomputable def v36 : List (En D) := [⟨44, [.val], [.v (.sl (.st 0))], [.v (.sl (.st 0))], 1, V44⟩, ⟨47, [.val, .val], [.v (.st 0), .v (.st 0)], [.v (.st 0)], 1, V47⟩, ⟨53, [.val], [.v (.int .i64)], [.v (.st 0)], 1, V53⟩, ⟨54, [.val, .val], [.v (.st 0), .v (.st 0)], [.v (.st 0)], 1, V54⟩, ⟨62, [.val, .val], [.v (.st 0), .v (.int .i64)], [.v (.st 0), .v (.int .i64), .v (.int .i64)], 3, V62⟩]
noncomputable def V36 : YR D [.v (.sl (.st 0)), .v (.st 1)] → Option (YR D [.v (.sl (.st 0))]) := evF D fd36 (tabH D v36) 200
theorem V36_le (x : _) (y : _) (h : V36 x = some y) : G36 x = some y := evF_le (f := fd36) (tabH_nat v36) (tabH_nat h36) (tabH_le (.cons V44_le (.cons V47_le (.cons V53_le (.cons V54_le (.cons V62_le .nil)))))) 200 x y h
noncomputable def v11 : List (En D) := [⟨24, [.val, .val], [.v (.sl (.st 0)), .v (.sl (.st 0))], [.v (.sl (.st 0))], 1, V24⟩, ⟨33, [.val], [.v (.st 1)], [.v (.bool)], 1, V33⟩, ⟨34, [.val, .val], [.v (.sl (.st 0)), .v (.st 1)], [.v (.st 0)], 1, V34⟩, ⟨35, [.val], [.v (.st 0)], [.v (.int .i64)], 1, V35⟩, ⟨36, [.val, .val], [.v (.sl (.st 0)), .v (.st 1)], [.v (.sl (.st 0))], 1, V36⟩]
noncomputable def V11 : YR D [.v (.sl (.st 0)), .v (.st 1)] → Option (YR D [.v (.sl (.st 0)), .v (.int .i64), .v (.int .i64)]) := evF D fd11 (tabH D v11) 200
theorem V11_le (x : _) (y : _) (h : V11 x = some y) : G11 x = some y := evF_le (f := fd11) (tabH_nat v11) (tabH_nat h11) (tabH_le (.cons V24_le (.cons V33_le (.cons V34_le (.cons V35_le (.cons V36_le .nil)))))) 200 x y h
noncomputable def v45 : List (En D) := [⟨69, [.val, .val], [.v (.bool), .v (.sl (.int .u32))], [.v (.st 0)], 1, V69⟩, ⟨70, [.val], [.v (.sl (.int .u32))], [.v (.sl (.int .u32))], 1, V70⟩]
noncomputable def V45 : YR D [.v (.st 0)] → Option (YR D [.v (.st 0)]) := evF D fd45 (tabH D v45) 200
theorem V45_le (x : _) (y : _) (h : V45 x = some y) : G45 x = some y := evF_le (f := fd45) (tabH_nat v45) (tabH_nat h45) (tabH_le (.cons V69_le (.cons V70_le .nil))) 200 x y h
noncomputable def v46 : List (En D) := [⟨45, [.val], [.v (.st 0)], [.v (.st 0)], 1, V45⟩, ⟨54, [.val, .val], [.v (.st 0), .v (.st 0)], [.v (.st 0)], 1, V54⟩]
noncomputable def V46 : YR D [.v (.st 0), .v (.st 0)] → Option (YR D [.v (.st 0)]) := evF D fd46 (tabH D v46) 200
theorem V46_le (x : _) (y : _) (h : V46 x = some y) : G46 x = some y := evF_le (f := fd46) (tabH_nat v46) (tabH_nat h46) (tabH_le (.cons V45_le (.cons V54_le .nil))) 200 x y h
noncomputable def v48 : List (En D) := [⟨35, [.val], [.v (.st 0)], [.v (.int .i64)], 1, V35⟩, ⟨45, [.val], [.v (.st 0)], [.v (.st 0)], 1, V45⟩]
noncomputable def V48 : YR D [.v (.st 0)] → Option (YR D [.v (.st 0)]) := evF D fd48 (tabH D v48) 200
theorem V48_le (x : _) (y : _) (h : V48 x = some y) : G48 x = some y := evF_le (f := fd48) (tabH_nat v48) (tabH_nat h48) (tabH_le (.cons V35_le (.cons V45_le .nil))) 200 x y h
noncomputable def v18 : List (En D) := [⟨24, [.val, .val], [.v (.sl (.st 0)), .v (.sl (.st 0))], [.v (.sl (.st 0))], 1, V24⟩, ⟨35, [.val], [.v (.st 0)], [.v (.int .i64)], 1, V35⟩, ⟨44, [.val], [.v (.sl (.st 0))], [.v (.sl (.st 0))], 1, V44⟩, ⟨45, [.val], [.v (.st 0)], [.v (.st 0)], 1, V45⟩, ⟨46, [.val, .val], [.v (.st 0), .v (.st 0)], [.v (.st 0)], 1, V46⟩, ⟨47, [.val, .val], [.v (.st 0), .v (.st 0)], [.v (.st 0)], 1, V47⟩, ⟨48, [.val], [.v (.st 0)], [.v (.st 0)], 1, V48⟩, ⟨49, [.val, .val], [.v (.sl (.st 0)), .v (.int .i64)], [.v (.st 0)], 1, V49⟩]
noncomputable def V18 : YR D [.v (.sl (.st 0)), .v (.sl (.st 0))] → Option (YR D [.v (.sl (.st 0)), .v (.int .i64)]) := evF D fd18 (tabH D v18) 200
theorem V18_le (x : _) (y : _) (h : V18 x = some y) : G18 x = some y := evF_le (f := fd18) (tabH_nat v18) (tabH_nat h18) (tabH_le (.cons V24_le (.cons V35_le (.cons V44_le (.cons V45_le (.cons V46_le (.cons V47_le (.cons V48_le (.cons V49_le .nil))))))))) 200 x y h
noncomputable def v20 : List (En D) := [⟨44, [.val], [.v (.sl (.st 0))], [.v (.sl (.st 0))], 1, V44⟩, ⟨53, [.val], [.v (.int .i64)], [.v (.st 0)], 1, V53⟩]
noncomputable def V20 : YR D [.v (.sl (.int .i64))] → Option (YR D [.v (.sl (.st 0))]) := evF D fd20 (tabH D v20) 200
theorem V20_le (x : _) (y : _) (h : V20 x = some y) : G20 x = some y := evF_le (f := fd20) (tabH_nat v20) (tabH_nat h20) (tabH_le (.cons V44_le (.cons V53_le .nil))) 200 x y h
noncomputable def v21 : List (En D) := [⟨44, [.val], [.v (.sl (.st 0))], [.v (.sl (.st 0))], 1, V44⟩]
noncomputable def V21 : YR D [.v (.sl (.st 0))] → Option (YR D [.v (.int .i64)]) := evF D fd21 (tabH D v21) 200
theorem V21_le (x : _) (y : _) (h : V21 x = some y) : G21 x = some y := evF_le (f := fd21) (tabH_nat v21) (tabH_nat h21) (tabH_le (.cons V44_le .nil)) 200 x y h
noncomputable def v7 : List (En D) := [⟨10, [.val, .val], [.v (.sl (.st 0)), .v (.st 1)], [.v (.st 0), .v (.int .i64)], 2, V10⟩, ⟨11, [.val, .val], [.v (.sl (.st 0)), .v (.st 1)], [.v (.sl (.st 0)), .v (.int .i64), .v (.int .i64)], 3, V11⟩, ⟨18, [.val, .val], [.v (.sl (.st 0)), .v (.sl (.st 0))], [.v (.sl (.st 0)), .v (.int .i64)], 2, V18⟩, ⟨20, [.val], [.v (.sl (.int .i64))], [.v (.sl (.st 0))], 1, V20⟩, ⟨21, [.val], [.v (.sl (.st 0))], [.v (.int .i64)], 1, V21⟩]
noncomputable def V7 : YR D [] → Option (YR D [.v (.bool)]) := evF D fd7 (tabH D v7) 200
theorem V7_le (x : _) (y : _) (h : V7 x = some y) : G7 x = some y := evF_le (f := fd7) (tabH_nat v7) (tabH_nat h7) (tabH_le (.cons V10_le (.cons V11_le (.cons V18_le (.cons V20_le (.cons V21_le .nil)))))) 200 x y h
theorem F7_true : F7 = some true := V7_le () true (by kernel_rfl)
end Go.Proofs.YtidiifdiilahdaaDoor.Ev
