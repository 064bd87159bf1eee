/- Printed by a program of this claim: functions that take nothing, run by the kernel. -/
import Derived.Test.YtnikppnfkjogdaaGreatDoorEvN
namespace Go.Proofs.YtnikppnfkjogdaaGreatDoor.Ev
open Go
set_option maxRecDepth 100000
theorem F18_true : F18 = some true := N18_le true (by kernel_rfl)
end Go.Proofs.YtnikppnfkjogdaaGreatDoor.Ev
