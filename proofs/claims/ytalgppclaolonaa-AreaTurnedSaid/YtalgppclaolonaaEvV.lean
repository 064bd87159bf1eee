/- Printed by a program of this claim: functions that take nothing, run by the kernel. -/
import Derived.Test.YtalgppclaolonaaEvF
import Derived.Test.YtalgppclaolonaaEv33
namespace Go.Proofs.Ytalgppclaolonaa.Ev
open Go
set_option linter.unusedVariables false
set_option maxRecDepth 100000
noncomputable def v86 : List (En D) := []
noncomputable def V86 : YR D [.v (.sl (.st 1))] → Option (YR D [.v (.bool)]) := evF D fd86 (tabH D v86) 200
theorem V86_le (x : _) (y : _) (h : V86 x = some y) : G86 x = some y := evF_le (f := fd86) (tabH_nat v86) (tabH_nat h86) (tabH_le (.nil)) 200 x y h
noncomputable def v87 : List (En D) := []
noncomputable def V87 : YR D [.v (.sl (.st 0))] → Option (YR D [.v (.bool)]) := evF D fd87 (tabH D v87) 200
theorem V87_le (x : _) (y : _) (h : V87 x = some y) : G87 x = some y := evF_le (f := fd87) (tabH_nat v87) (tabH_nat h87) (tabH_le (.nil)) 200 x y h
noncomputable def v88 : List (En D) := []
noncomputable def V88 : YR D [.v (.st 1)] → Option (YR D [.v (.bool)]) := evF D fd88 (tabH D v88) 200
theorem V88_le (x : _) (y : _) (h : V88 x = some y) : G88 x = some y := evF_le (f := fd88) (tabH_nat v88) (tabH_nat h88) (tabH_le (.nil)) 200 x y h
noncomputable def v52 : List (En D) := [⟨86, [.val], [.v (.sl (.st 1))], [.v (.bool)], 1, V86⟩, ⟨87, [.val], [.v (.sl (.st 0))], [.v (.bool)], 1, V87⟩, ⟨88, [.val], [.v (.st 1)], [.v (.bool)], 1, V88⟩]
noncomputable def V52 : YR D [.v (.sl (.st 1))] → Option (YR D [.v (.bool)]) := evF D fd52 (tabH D v52) 200
theorem V52_le (x : _) (y : _) (h : V52 x = some y) : G52 x = some y := evF_le (f := fd52) (tabH_nat v52) (tabH_nat h52) (tabH_le (.cons V86_le (.cons V87_le (.cons V88_le .nil)))) 200 x y h
noncomputable def v102 : List (En D) := []
noncomputable def V102 : YR D [.v (.st 0), .v (.st 0)] → Option (YR D [.v (.st 0)]) := evF D fd102 (tabH D v102) 200
theorem V102_le (x : _) (y : _) (h : V102 x = some y) : G102 x = some y := evF_le (f := fd102) (tabH_nat v102) (tabH_nat h102) (tabH_le (.nil)) 200 x y h
noncomputable def v66 : List (En D) := [⟨102, [.val, .val], [.v (.st 0), .v (.st 0)], [.v (.st 0)], 1, V102⟩]
noncomputable def V66 : YR D [.v (.st 1)] → Option (YR D [.v (.st 0)]) := evF D fd66 (tabH D v66) 200
theorem V66_le (x : _) (y : _) (h : V66 x = some y) : G66 x = some y := evF_le (f := fd66) (tabH_nat v66) (tabH_nat h66) (tabH_le (.cons V102_le .nil)) 200 x y h
noncomputable def v67 : List (En D) := [⟨102, [.val, .val], [.v (.st 0), .v (.st 0)], [.v (.st 0)], 1, V102⟩]
noncomputable def V67 : YR D [.v (.st 1)] → Option (YR D [.v (.st 0)]) := evF D fd67 (tabH D v67) 200
theorem V67_le (x : _) (y : _) (h : V67 x = some y) : G67 x = some y := evF_le (f := fd67) (tabH_nat v67) (tabH_nat h67) (tabH_le (.cons V102_le .nil)) 200 x y h
noncomputable def v89 : List (En D) := []
noncomputable def V89 : YR D [.v (.st 0), .v (.st 0)] → Option (YR D [.v (.int .i64)]) := evF D fd89 (tabH D v89) 200
theorem V89_le (x : _) (y : _) (h : V89 x = some y) : G89 x = some y := evF_le (f := fd89) (tabH_nat v89) (tabH_nat h89) (tabH_le (.nil)) 200 x y h
noncomputable def v121 : List (En D) := []
noncomputable def V121 : YR D [.v (.int .u64), .v (.int .u64)] → Option (YR D [.v (.int .u64), .v (.int .u64)]) := evF D fd121 (tabH D v121) 200
theorem V121_le (x : _) (y : _) (h : V121 x = some y) : G121 x = some y := evF_le (f := fd121) (tabH_nat v121) (tabH_nat h121) (tabH_le (.nil)) 200 x y h
noncomputable def v91 : List (En D) := [⟨121, [.val, .val], [.v (.int .u64), .v (.int .u64)], [.v (.int .u64), .v (.int .u64)], 2, V121⟩]
noncomputable def V91 : YR D [.v (.int .u64), .v (.int .u64)] → Option (YR D [.v (.st 8)]) := evF D fd91 (tabH D v91) 200
theorem V91_le (x : _) (y : _) (h : V91 x = some y) : G91 x = some y := evF_le (f := fd91) (tabH_nat v91) (tabH_nat h91) (tabH_le (.cons V121_le .nil)) 200 x y h
def V142 : YR D [.v (.int .u64), .v (.int .u64), .v (.int .u64)] → Option (YR D [.v (.int .u64), .v (.int .u64)]) := fun x => bits_Add64 x.1 x.2.1 x.2.2
theorem V142_le (x : _) (y : _) (h : V142 x = some y) : G142 x = some y := (congrFun (sealF_eq _) x).trans h
noncomputable def v120 : List (En D) := [⟨142, [.val, .val, .val], [.v (.int .u64), .v (.int .u64), .v (.int .u64)], [.v (.int .u64), .v (.int .u64)], 2, V142⟩]
noncomputable def V120 : YR D [.v (.st 8), .v (.st 8)] → Option (YR D [.v (.st 8), .v (.int .i64)]) := evF D fd120 (tabH D v120) 200
theorem V120_le (x : _) (y : _) (h : V120 x = some y) : G120 x = some y := evF_le (f := fd120) (tabH_nat v120) (tabH_nat h120) (tabH_le (.cons V142_le .nil)) 200 x y h
noncomputable def v90 : List (En D) := [⟨91, [.val, .val], [.v (.int .u64), .v (.int .u64)], [.v (.st 8)], 1, V91⟩, ⟨120, [.val, .val], [.v (.st 8), .v (.st 8)], [.v (.st 8), .v (.int .i64)], 2, V120⟩]
noncomputable def V90 : YR D [.v (.st 8), .v (.int .u64)] → Option (YR D [.v (.st 8), .v (.int .i64)]) := evF D fd90 (tabH D v90) 200
theorem V90_le (x : _) (y : _) (h : V90 x = some y) : G90 x = some y := evF_le (f := fd90) (tabH_nat v90) (tabH_nat h90) (tabH_le (.cons V91_le (.cons V120_le .nil))) 200 x y h
noncomputable def v122 : List (En D) := []
noncomputable def V122 : YR D [.v (.sl (.int .i64))] → Option (YR D [.v (.int .i64)]) := evF D fd122 (tabH D v122) 200
theorem V122_le (x : _) (y : _) (h : V122 x = some y) : G122 x = some y := evF_le (f := fd122) (tabH_nat v122) (tabH_nat h122) (tabH_le (.nil)) 200 x y h
noncomputable def v143 : List (En D) := []
noncomputable def V143 : YR D [.v (.int .u64)] → Option (YR D [.v (.bool)]) := evF D fd143 (tabH D v143) 200
theorem V143_le (x : _) (y : _) (h : V143 x = some y) : G143 x = some y := evF_le (f := fd143) (tabH_nat v143) (tabH_nat h143) (tabH_le (.nil)) 200 x y h
noncomputable def v123 : List (En D) := [⟨143, [.val], [.v (.int .u64)], [.v (.bool)], 1, V143⟩]
noncomputable def V123 : YR D [.v (.int .u64), .v (.int .u64)] → Option (YR D [.v (.int .i64)]) := evF D fd123 (tabH D v123) 200
theorem V123_le (x : _) (y : _) (h : V123 x = some y) : G123 x = some y := evF_le (f := fd123) (tabH_nat v123) (tabH_nat h123) (tabH_le (.cons V143_le .nil)) 200 x y h
noncomputable def v92 : List (En D) := [⟨122, [.val], [.v (.sl (.int .i64))], [.v (.int .i64)], 1, V122⟩, ⟨123, [.val, .val], [.v (.int .u64), .v (.int .u64)], [.v (.int .i64)], 1, V123⟩]
noncomputable def V92 : YR D [.v (.st 8), .v (.st 8)] → Option (YR D [.v (.int .i64)]) := evF D fd92 (tabH D v92) 200
theorem V92_le (x : _) (y : _) (h : V92 x = some y) : G92 x = some y := evF_le (f := fd92) (tabH_nat v92) (tabH_nat h92) (tabH_le (.cons V122_le (.cons V123_le .nil))) 200 x y h
noncomputable def v53 : List (En D) := [⟨66, [.val], [.v (.st 1)], [.v (.st 0)], 1, V66⟩, ⟨67, [.val], [.v (.st 1)], [.v (.st 0)], 1, V67⟩, ⟨89, [.val, .val], [.v (.st 0), .v (.st 0)], [.v (.int .i64)], 1, V89⟩, ⟨90, [.val, .val], [.v (.st 8), .v (.int .u64)], [.v (.st 8), .v (.int .i64)], 2, V90⟩, ⟨91, [.val, .val], [.v (.int .u64), .v (.int .u64)], [.v (.st 8)], 1, V91⟩, ⟨92, [.val, .val], [.v (.st 8), .v (.st 8)], [.v (.int .i64)], 1, V92⟩]
noncomputable def V53 : YR D [.v (.st 1), .v (.st 1)] → Option (YR D [.v (.bool)]) := evF D fd53 (tabH D v53) 200
theorem V53_le (x : _) (y : _) (h : V53 x = some y) : G53 x = some y := evF_le (f := fd53) (tabH_nat v53) (tabH_nat h53) (tabH_le (.cons V66_le (.cons V67_le (.cons V89_le (.cons V90_le (.cons V91_le (.cons V92_le .nil))))))) 200 x y h
noncomputable def v13 : List (En D) := [⟨52, [.val], [.v (.sl (.st 1))], [.v (.bool)], 1, V52⟩, ⟨53, [.val, .val], [.v (.st 1), .v (.st 1)], [.v (.bool)], 1, V53⟩]
noncomputable def V13 : YR D [.v (.sl (.st 1))] → Option (YR D [.v (.sl (.int .i64)), .v (.int .i64)]) := evF D fd13 (tabH D v13) 200
theorem V13_le (x : _) (y : _) (h : V13 x = some y) : G13 x = some y := evF_le (f := fd13) (tabH_nat v13) (tabH_nat h13) (tabH_le (.cons V52_le (.cons V53_le .nil))) 200 x y h
noncomputable def v56 : List (En D) := [⟨52, [.val], [.v (.sl (.st 1))], [.v (.bool)], 1, V52⟩]
noncomputable def V56 : YR D [.v (.st 1)] → Option (YR D [.v (.bool)]) := evF D fd56 (tabH D v56) 200
theorem V56_le (x : _) (y : _) (h : V56 x = some y) : G56 x = some y := evF_le (f := fd56) (tabH_nat v56) (tabH_nat h56) (tabH_le (.cons V52_le .nil)) 200 x y h
noncomputable def v18 : List (En D) := [⟨53, [.val, .val], [.v (.st 1), .v (.st 1)], [.v (.bool)], 1, V53⟩, ⟨56, [.val], [.v (.st 1)], [.v (.bool)], 1, V56⟩]
noncomputable def V18 : YR D [.v (.st 1), .v (.st 1)] → Option (YR D [.v (.bool), .v (.int .i64)]) := evF D fd18 (tabH D v18) 200
theorem V18_le (x : _) (y : _) (h : V18 x = some y) : G18 x = some y := evF_le (f := fd18) (tabH_nat v18) (tabH_nat h18) (tabH_le (.cons V53_le (.cons V56_le .nil))) 200 x y h
noncomputable def v27 : List (En D) := [⟨56, [.val], [.v (.st 1)], [.v (.bool)], 1, V56⟩, ⟨67, [.val], [.v (.st 1)], [.v (.st 0)], 1, V67⟩]
noncomputable def V27 : YR D [.v (.st 1)] → Option (YR D [.v (.st 0), .v (.int .i64)]) := evF D fd27 (tabH D v27) 200
theorem V27_le (x : _) (y : _) (h : V27 x = some y) : G27 x = some y := evF_le (f := fd27) (tabH_nat v27) (tabH_nat h27) (tabH_le (.cons V56_le (.cons V67_le .nil))) 200 x y h
noncomputable def v12 : List (En D) := [⟨13, [.val], [.v (.sl (.st 1))], [.v (.sl (.int .i64)), .v (.int .i64)], 2, V13⟩, ⟨18, [.val, .val], [.v (.st 1), .v (.st 1)], [.v (.bool), .v (.int .i64)], 2, V18⟩, ⟨27, [.val], [.v (.st 1)], [.v (.st 0), .v (.int .i64)], 2, V27⟩]
noncomputable def V12 : YR D [] → Option (YR D [.v (.bool)]) := evF D fd12 (tabH D v12) 200
theorem V12_le (x : _) (y : _) (h : V12 x = some y) : G12 x = some y := evF_le (f := fd12) (tabH_nat v12) (tabH_nat h12) (tabH_le (.cons V13_le (.cons V18_le (.cons V27_le .nil)))) 200 x y h
noncomputable def v105 : List (En D) := []
noncomputable def V105 : YR D [.v (.sl (.int .u32))] → Option (YR D [.v (.sl (.int .u32))]) := evF D fd105 (tabH D v105) 200
theorem V105_le (x : _) (y : _) (h : V105 x = some y) : G105 x = some y := evF_le (f := fd105) (tabH_nat v105) (tabH_nat h105) (tabH_le (.nil)) 200 x y h
noncomputable def v106 : List (En D) := [⟨105, [.val], [.v (.sl (.int .u32))], [.v (.sl (.int .u32))], 1, V105⟩]
noncomputable def V106 : YR D [.v (.bool), .v (.sl (.int .u32))] → Option (YR D [.v (.st 5)]) := evF D fd106 (tabH D v106) 200
theorem V106_le (x : _) (y : _) (h : V106 x = some y) : G106 x = some y := evF_le (f := fd106) (tabH_nat v106) (tabH_nat h106) (tabH_le (.cons V105_le .nil)) 200 x y h
noncomputable def v137 : List (En D) := []
noncomputable def V137 : YR D [.v (.sl (.int .u32)), .v (.int .i64)] → Option (YR D [.v (.int .u64)]) := evF D fd137 (tabH D v137) 200
theorem V137_le (x : _) (y : _) (h : V137 x = some y) : G137 x = some y := evF_le (f := fd137) (tabH_nat v137) (tabH_nat h137) (tabH_le (.nil)) 200 x y h
noncomputable def v107 : List (En D) := [⟨137, [.val, .val], [.v (.sl (.int .u32)), .v (.int .i64)], [.v (.int .u64)], 1, V137⟩]
noncomputable def V107 : YR D [.v (.sl (.int .u32)), .v (.sl (.int .u32))] → Option (YR D [.v (.sl (.int .u32))]) := evF D fd107 (tabH D v107) 200
theorem V107_le (x : _) (y : _) (h : V107 x = some y) : G107 x = some y := evF_le (f := fd107) (tabH_nat v107) (tabH_nat h107) (tabH_le (.cons V137_le .nil)) 200 x y h
noncomputable def v155 : List (En D) := []
noncomputable def V155 : YR D [.v (.int .i64)] → Option (YR D [.v (.bool)]) := evF D fd155 (tabH D v155) 200
theorem V155_le (x : _) (y : _) (h : V155 x = some y) : G155 x = some y := evF_le (f := fd155) (tabH_nat v155) (tabH_nat h155) (tabH_le (.nil)) 200 x y h
noncomputable def v138 : List (En D) := [⟨155, [.val], [.v (.int .i64)], [.v (.bool)], 1, V155⟩]
noncomputable def V138 : YR D [.v (.int .i64), .v (.int .i64)] → Option (YR D [.v (.int .i64)]) := evF D fd138 (tabH D v138) 200
theorem V138_le (x : _) (y : _) (h : V138 x = some y) : G138 x = some y := evF_le (f := fd138) (tabH_nat v138) (tabH_nat h138) (tabH_le (.cons V155_le .nil)) 200 x y h
noncomputable def v156 : List (En D) := []
noncomputable def V156 : YR D [.v (.int .u32)] → Option (YR D [.v (.bool)]) := evF D fd156 (tabH D v156) 200
theorem V156_le (x : _) (y : _) (h : V156 x = some y) : G156 x = some y := evF_le (f := fd156) (tabH_nat v156) (tabH_nat h156) (tabH_le (.nil)) 200 x y h
noncomputable def v139 : List (En D) := [⟨156, [.val], [.v (.int .u32)], [.v (.bool)], 1, V156⟩]
noncomputable def V139 : YR D [.v (.int .u32), .v (.int .u32)] → Option (YR D [.v (.int .i64)]) := evF D fd139 (tabH D v139) 200
theorem V139_le (x : _) (y : _) (h : V139 x = some y) : G139 x = some y := evF_le (f := fd139) (tabH_nat v139) (tabH_nat h139) (tabH_le (.cons V156_le .nil)) 200 x y h
noncomputable def v108 : List (En D) := [⟨138, [.val, .val], [.v (.int .i64), .v (.int .i64)], [.v (.int .i64)], 1, V138⟩, ⟨139, [.val, .val], [.v (.int .u32), .v (.int .u32)], [.v (.int .i64)], 1, V139⟩]
noncomputable def V108 : YR D [.v (.sl (.int .u32)), .v (.sl (.int .u32))] → Option (YR D [.v (.int .i64)]) := evF D fd108 (tabH D v108) 200
theorem V108_le (x : _) (y : _) (h : V108 x = some y) : G108 x = some y := evF_le (f := fd108) (tabH_nat v108) (tabH_nat h108) (tabH_le (.cons V138_le (.cons V139_le .nil))) 200 x y h
noncomputable def v109 : List (En D) := [⟨137, [.val, .val], [.v (.sl (.int .u32)), .v (.int .i64)], [.v (.int .u64)], 1, V137⟩]
noncomputable def V109 : YR D [.v (.sl (.int .u32)), .v (.sl (.int .u32))] → Option (YR D [.v (.sl (.int .u32))]) := evF D fd109 (tabH D v109) 200
theorem V109_le (x : _) (y : _) (h : V109 x = some y) : G109 x = some y := evF_le (f := fd109) (tabH_nat v109) (tabH_nat h109) (tabH_le (.cons V137_le .nil)) 200 x y h
noncomputable def v74 : List (En D) := [⟨105, [.val], [.v (.sl (.int .u32))], [.v (.sl (.int .u32))], 1, V105⟩, ⟨106, [.val, .val], [.v (.bool), .v (.sl (.int .u32))], [.v (.st 5)], 1, V106⟩, ⟨107, [.val, .val], [.v (.sl (.int .u32)), .v (.sl (.int .u32))], [.v (.sl (.int .u32))], 1, V107⟩, ⟨108, [.val, .val], [.v (.sl (.int .u32)), .v (.sl (.int .u32))], [.v (.int .i64)], 1, V108⟩, ⟨109, [.val, .val], [.v (.sl (.int .u32)), .v (.sl (.int .u32))], [.v (.sl (.int .u32))], 1, V109⟩]
noncomputable def V74 : YR D [.v (.st 5), .v (.st 5)] → Option (YR D [.v (.st 5)]) := evF D fd74 (tabH D v74) 200
theorem V74_le (x : _) (y : _) (h : V74 x = some y) : G74 x = some y := evF_le (f := fd74) (tabH_nat v74) (tabH_nat h74) (tabH_le (.cons V105_le (.cons V106_le (.cons V107_le (.cons V108_le (.cons V109_le .nil)))))) 200 x y h
noncomputable def v75 : List (En D) := [⟨106, [.val, .val], [.v (.bool), .v (.sl (.int .u32))], [.v (.st 5)], 1, V106⟩]
noncomputable def V75 : YR D [.v (.int .i64)] → Option (YR D [.v (.st 5)]) := evF D fd75 (tabH D v75) 200
theorem V75_le (x : _) (y : _) (h : V75 x = some y) : G75 x = some y := evF_le (f := fd75) (tabH_nat v75) (tabH_nat h75) (tabH_le (.cons V106_le .nil)) 200 x y h
noncomputable def v110 : List (En D) := []
noncomputable def V110 : YR D [.v (.st 0), .v (.st 0)] → Option (YR D [.v (.int .i64)]) := evF D fd110 (tabH D v110) 200
theorem V110_le (x : _) (y : _) (h : V110 x = some y) : G110 x = some y := evF_le (f := fd110) (tabH_nat v110) (tabH_nat h110) (tabH_le (.nil)) 200 x y h
noncomputable def v76 : List (En D) := [⟨110, [.val, .val], [.v (.st 0), .v (.st 0)], [.v (.int .i64)], 1, V110⟩]
noncomputable def V76 : YR D [.v (.st 1)] → Option (YR D [.v (.int .i64)]) := evF D fd76 (tabH D v76) 200
theorem V76_le (x : _) (y : _) (h : V76 x = some y) : G76 x = some y := evF_le (f := fd76) (tabH_nat v76) (tabH_nat h76) (tabH_le (.cons V110_le .nil)) 200 x y h
noncomputable def v32 : List (En D) := [⟨52, [.val], [.v (.sl (.st 1))], [.v (.bool)], 1, V52⟩, ⟨74, [.val, .val], [.v (.st 5), .v (.st 5)], [.v (.st 5)], 1, V74⟩, ⟨75, [.val], [.v (.int .i64)], [.v (.st 5)], 1, V75⟩, ⟨76, [.val], [.v (.st 1)], [.v (.int .i64)], 1, V76⟩]
noncomputable def V32 : YR D [.v (.sl (.st 1))] → Option (YR D [.v (.st 5), .v (.int .i64)]) := evF D fd32 (tabH D v32) 200
theorem V32_le (x : _) (y : _) (h : V32 x = some y) : G32 x = some y := evF_le (f := fd32) (tabH_nat v32) (tabH_nat h32) (tabH_le (.cons V52_le (.cons V74_le (.cons V75_le (.cons V76_le .nil))))) 200 x y h
noncomputable def v77 : List (En D) := [⟨74, [.val, .val], [.v (.st 5), .v (.st 5)], [.v (.st 5)], 1, V74⟩, ⟨75, [.val], [.v (.int .i64)], [.v (.st 5)], 1, V75⟩, ⟨76, [.val], [.v (.st 1)], [.v (.int .i64)], 1, V76⟩]
noncomputable def V77 : YR D [.v (.sl (.st 1))] → Option (YR D [.v (.sl (.int .i64)), .v (.sl (.st 5))]) := evF D fd77 (tabH D v77) 200
theorem V77_le (x : _) (y : _) (h : V77 x = some y) : G77 x = some y := evF_le (f := fd77) (tabH_nat v77) (tabH_nat h77) (tabH_le (.cons V74_le (.cons V75_le (.cons V76_le .nil)))) 200 x y h
noncomputable def v33 : List (En D) := [⟨52, [.val], [.v (.sl (.st 1))], [.v (.bool)], 1, V52⟩, ⟨77, [.val], [.v (.sl (.st 1))], [.v (.sl (.int .i64)), .v (.sl (.st 5))], 2, V77⟩]
noncomputable def V33 : YR D [.v (.sl (.st 1))] → Option (YR D [.v (.sl (.st 5)), .v (.int .i64)]) := evF D fd33 (tabH D v33) 200
theorem V33_le (x : _) (y : _) (h : V33 x = some y) : G33 x = some y := evF_le (f := fd33) (tabH_nat v33) (tabH_nat h33) (tabH_le (.cons V52_le (.cons V77_le .nil))) 200 x y h
noncomputable def v78 : List (En D) := [⟨105, [.val], [.v (.sl (.int .u32))], [.v (.sl (.int .u32))], 1, V105⟩]
noncomputable def V78 : YR D [.v (.st 5)] → Option (YR D [.v (.int .i64)]) := evF D fd78 (tabH D v78) 200
theorem V78_le (x : _) (y : _) (h : V78 x = some y) : G78 x = some y := evF_le (f := fd78) (tabH_nat v78) (tabH_nat h78) (tabH_le (.cons V105_le .nil)) 200 x y h
noncomputable def v34 : List (En D) := [⟨52, [.val], [.v (.sl (.st 1))], [.v (.bool)], 1, V52⟩, ⟨77, [.val], [.v (.sl (.st 1))], [.v (.sl (.int .i64)), .v (.sl (.st 5))], 2, V77⟩, ⟨78, [.val], [.v (.st 5)], [.v (.int .i64)], 1, V78⟩]
noncomputable def V34 : YR D [.v (.sl (.st 1))] → Option (YR D [.v (.sl (.int .i64)), .v (.int .i64)]) := evF D fd34 (tabH D v34) 200
theorem V34_le (x : _) (y : _) (h : V34 x = some y) : G34 x = some y := evF_le (f := fd34) (tabH_nat v34) (tabH_nat h34) (tabH_le (.cons V52_le (.cons V77_le (.cons V78_le .nil)))) 200 x y h
noncomputable def v31 : List (En D) := [⟨32, [.val], [.v (.sl (.st 1))], [.v (.st 5), .v (.int .i64)], 2, V32⟩, ⟨33, [.val], [.v (.sl (.st 1))], [.v (.sl (.st 5)), .v (.int .i64)], 2, V33⟩, ⟨34, [.val], [.v (.sl (.st 1))], [.v (.sl (.int .i64)), .v (.int .i64)], 2, V34⟩]
noncomputable def V31 : YR D [] → Option (YR D [.v (.bool)]) := evF D fd31 (tabH D v31) 200
theorem V31_le (x : _) (y : _) (h : V31 x = some y) : G31 x = some y := evF_le (f := fd31) (tabH_nat v31) (tabH_nat h31) (tabH_le (.cons V32_le (.cons V33_le (.cons V34_le .nil)))) 200 x y h
theorem F12_true : F12 = some true := V12_le () true (by kernel_rfl)
theorem F31_true : F31 = some true := V31_le () true (by kernel_rfl)
end Go.Proofs.Ytalgppclaolonaa.Ev
