/- Printed by a program of this claim: what a law's argument is, once it can be read. -/
import Derived.Test.YtalghbndblgndaaEvD
import Derived.Test.YtalghbndblgndaaEvAe
namespace Go.Proofs.Ytalghbndblgndaa.Ev
open Go
set_option linter.unusedVariables false

end Go.Proofs.Ytalghbndblgndaa.Ev
