/- Printed by a program of this claim: functions that take nothing, run by the kernel. -/
import Derived.Test.YtidiifdiilahdaaGreatDoorEvN
namespace Go.Proofs.YtidiifdiilahdaaGreatDoor.Ev
open Go
set_option maxRecDepth 100000
theorem F6_true : F6 = some true := N6_le true (by kernel_rfl)
end Go.Proofs.YtidiifdiilahdaaGreatDoor.Ev
