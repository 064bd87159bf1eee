/- Printed by a program of this claim: functions that take nothing, run by the kernel. -/
import Derived.Test.YtkpjeihgigmnkaaEvN
namespace Go.Proofs.Ytkpjeihgigmnkaa.Ev
open Go
set_option maxRecDepth 100000
theorem F4_true : F4 = some true := Nn4_le true (by kernel_rfl)
end Go.Proofs.Ytkpjeihgigmnkaa.Ev
