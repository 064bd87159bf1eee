/- Printed by a program of this claim: functions that take nothing, run by the kernel. -/
import Derived.Test.YtalghbndblgndaaEvN
namespace Go.Proofs.Ytalghbndblgndaa.Ev
open Go
set_option maxRecDepth 100000
theorem F15_true : F15 = some true := N15_le true (by kernel_rfl)
end Go.Proofs.Ytalghbndblgndaa.Ev
