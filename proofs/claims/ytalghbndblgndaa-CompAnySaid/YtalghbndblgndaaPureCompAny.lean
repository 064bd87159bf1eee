/- The pure law CompAny: of any bytes the parts, or the error that is met first, are the reference's; what is parsed may be. -/
import Derived.Test.YtalghbndblgndaaEvCompL
import Derived.Test.YtalghbndblgndaaEvV
import Derived.Test.YtalghbndblgndaaEvW
namespace Go.Proofs.Ytalghbndblgndaa.Ev
open Go
set_option linter.unusedVariables false
set_option linter.unusedSimpArgs false
theorem Pure.CompAny (x0 : ByteArray) (x1 : Int) : x0.size ≤ 140737488351232 → (Lit.int .i64 x1).wf = true → F9 x0 x1 = some true := by
  intro _ _
  rw [F9_eq, bnd F32_true, Bool.not_true, cond_false]
  by_cases h : (x0.size : Int) > 1000
  · rw [cT h]
  have hs : x0.size ≤ 1000000000 := by omega
  have hl := sParse_len (strBytes x0) x1
  rw [cF h, bnd (f37 hs x1), bnd (f40 hs x1), bnd (f38 (by omega)), cond_true, beq_self_eq_true, cond_true, bnd (f39 hs), bnd (f41 hs), beq_self_eq_true, cond_true]
  by_cases he : (sParse (strBytes x0) x1).2 = 0
  · rw [cnF he, bnd (f35 _ _), sParse_r (Byt.of x0) he]
  · rw [cnT he]
end Go.Proofs.Ytalghbndblgndaa.Ev
