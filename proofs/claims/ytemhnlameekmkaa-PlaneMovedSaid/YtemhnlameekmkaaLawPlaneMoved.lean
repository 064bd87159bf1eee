-- Printed by a program of this claim. Not trusted: Lean checks it.
import Derived.Test.YtemhnlameekmkaaRows
import Derived.Test.YtemhnlameekmkaaXPlanx2
import Derived.Test.YtemhnlameekmkaaPurePlaneMoved
import Derived.Test.YtemhnlameekmkaaXOpen
import Derived.WalkKit
import Derived.ProofKit
import Derived.OpenShut
import Derived.ShutString
import Derived.ChangeOld
import Derived.Below
import Derived.SizedLaws
namespace Go.Proofs.Ytemhnlameekmkaa.planeMoved
open Go.ChangeShapes Go.WideShapes Go.ChangeAt Go.RowKit Go.Proofs.Ytemhnlameekmkaa.XPlan Go.Proofs.YtemhnlameekmkaaW.PrintWords Go.Proofs.YtemhnlameekmkaaW.PrintLast
open Go.ChangeMaps (open_string shut_string)
set_option linter.unusedVariables false
theorem own : ownKnob Try.prog.godebug = none := by kernel_rfl
theorem laidOut : laidOutB Try.prog = true := by kernel_rfl
theorem opens22 : XOpen.Opens Try.prog 22 k22 wf22 := XOpen.Opens.iso (XOpen.Opens.array Try.underlying22 (by rw [show Try.prog.cellsOf 21 = 1 from by kernel_rfl]; rfl) (XOpen.OpensF.cons (XOpen.Opens.int Try.underlying21) (by kernel_rfl) (XOpen.OpensF.one (XOpen.Opens.int Try.underlying21) (by kernel_rfl)) rfl) (by kernel_rfl)) (fun x : S22 => (x.f0, x.f1)) (fun y => ⟨y.1, y.2⟩) (fun _ => rfl)
theorem opens23 : XOpen.Opens Try.prog 23 k23 wf23 := XOpen.Opens.iso (XOpen.Opens.array Try.underlying23 (by rw [show Try.prog.cellsOf 22 = 2 from by kernel_rfl]; rfl) (XOpen.OpensF.cons opens22 (by kernel_rfl) (XOpen.OpensF.cons opens22 (by kernel_rfl) (XOpen.OpensF.one opens22 (by kernel_rfl)) rfl) rfl) (by kernel_rfl)) (fun x : S23 => (x.f0, x.f1, x.f2)) (fun y => ⟨y.1, y.2.1, y.2.2⟩) (fun _ => rfl)
set_option maxRecDepth 100000 in
set_option maxHeartbeats 1000000 in
theorem lifted (os : Os) (started : os.Started) (H : Type) (enc : TypeId × Value → H) :
    ReturnsInHanded {} Try.checked os 3 .any (Rows.planeMovedSpec.pre6 enc Try.prog Try.f3 Rows.planeMovedRow.domain false) (Rows.planeMovedSpec.post enc Try.prog Try.f3 false true false false) := by
  refine returnsInHanded_of_change_sized (C := Try.checked) own started (by kernel_rfl) Try.func3
    (ChangeSpec.witness6 (enc := enc) (C := Try.checked) false ⟨#[], #[(.agg #[(.int .i32 0), (.int .i32 0), (.int .i32 0), (.int .i32 0), (.int .i32 0), (.int .i32 0)]), (.agg #[(.int .i32 0), (.int .i32 0)])], []⟩ 8 (by kernel_rfl) (by kernel_rfl) (by kernel_rfl) (by kernel_rfl)) ?_
  intro W base args ds gs before hval0 hW hcnd hsz0 _
  have hsz : (DataW.weightsEach Try.prog (Try.f3.params.toList ++ Rows.planeMovedSpec.plain.varTypes Try.prog) (ds ++ gs)).all (· ≤ reachBytes) = true := hsz0
  have hval : ∀ (j : Nat) t v, Try.f3.params[j]? = some t → args[j]? = some v → Value.okWide Try.prog W .any base t v := hval0
  have hW' := hW
  obtain ⟨p, q, hA0, hV, rfl, hfz, hnd⟩ := hW
  have hA : DataW.TrodAll enc Try.prog W 0 (fun _ => true) true Try.f3.params.toList args.toList ds p := hA0
  rw [Try.params3] at hA hval hsz
  obtain ⟨v0, vs0, d0, ds0, p0, q0, hargs, rfl, rfl, h0, r0⟩ := trodAll_cons hA
  obtain ⟨v1, vs1, d1, ds1, p1, q1, rfl, rfl, rfl, h1, r1⟩ := trodAll_cons r0
  obtain ⟨rfl, rfl, rfl⟩ := trodAll_nil r1
  obtain rfl : args = #[v0, v1] := by cases args; simp_all
  obtain ⟨rfl, rfl⟩ := trodVars_none hV
  obtain ⟨cs0, rfl⟩ := XOpen.okWide_agg (hval 0 23 v0 rfl rfl) (.inr ⟨_, _, Try.underlying23⟩)
  have k0 := h0
  have lt0 : ∀ x ∈ p0, x.block < W.heap.size := by obtain ⟨m, hm⟩ := k0; exact DataW.trod_lt m _ _ _ hm
  obtain ⟨x0, hK0, w0⟩ := XOpen.Opens.at (j := 0) opens23 hsz rfl rfl h0
  have hk0 : k23.K W x0 cs0.toList := hK0
  have he0 := k23_open hk0
  obtain rfl : cs0 = #[.int .i32 x0.f0.f0, .int .i32 x0.f0.f1, .int .i32 x0.f1.f0, .int .i32 x0.f1.f1, .int .i32 x0.f2.f0, .int .i32 x0.f2.f1] := Array.ext' he0
  obtain ⟨cs1, rfl⟩ := XOpen.okWide_agg (hval 1 22 v1 rfl rfl) (.inr ⟨_, _, Try.underlying22⟩)
  have k1 := h1
  have lt1 : ∀ x ∈ p1, x.block < W.heap.size := by obtain ⟨m, hm⟩ := k1; exact DataW.trod_lt m _ _ _ hm
  obtain ⟨x1, hK1, w1⟩ := XOpen.Opens.at (j := 1) opens22 hsz rfl rfl h1
  have hk1 : k22.K W x1 cs1.toList := hK1
  have he1 := k22_open hk1
  obtain rfl : cs1 = #[.int .i32 x1.f0, .int .i32 x1.f1] := Array.ext' he1
  clear hA0 hval0 hsz0 hsz
  obtain ⟨kk, hp⟩ := Pure.PlaneMoved x0 x1 w0 w1
  refine (pochoirlaw18_PlaneMoved.calls kk x0.f0.f0 x0.f0.f1 x0.f1.f0 x0.f1.f1 x0.f2.f0 x0.f2.f1 x1.f0 x1.f1 true W  rfl hp).mono fun e W' ⟨he, bel0⟩ => ?_
  have bel : Below W.heap.size W W' := bel0
  subst he
  exact ⟨_, rfl, _, _, _, [], _, [], hW', trodAll_mk1 (shut_bool Try.underlying4 _), (trodAll_cons_mk (Below.trod laidOut (by kernel_rfl) (of_decide_eq_true (by kernel_rfl)) k0 bel lt0) (trodAll_cons_mk (Below.trod laidOut (by kernel_rfl) (of_decide_eq_true (by kernel_rfl)) k1 bel lt1) trodAll_mk0)), rfl, bel.frame _, fun h => by cases h⟩
theorem over : Rows.planeMovedRow.holds Try.pinned (OpenSpec.ofChange Rows.planeMovedSpec) :=
  OpenClaim.holds_of_wide 3 Try.f3 rfl rfl rfl rfl rfl rfl rfl ⟨rfl, rfl, rfl, rfl, rfl⟩ rfl rfl rfl rfl rfl (by kernel_rfl) Try.func3 (by kernel_rfl)
    (of_decide_eq_true (by kernel_rfl)) (by unfold Func.isWrapper; first | (rw [if_pos (by decide +kernel)]; kernel_rfl) | (rw [if_neg (by decide +kernel)]; exact ⟨rfl, rfl⟩))
    (fun os started H enc _ => lifted os started H enc)
theorem proved : Rows.PlaneMovedSaid := over
#print axioms proved
end Go.Proofs.Ytemhnlameekmkaa.planeMoved
namespace Go.Proofs.Ytemhnlameekmkaa
/-- The row, under a short name, for the claim. -/
theorem planeMoved_holds : Rows.PlaneMovedSaid := planeMoved.proved
end Go.Proofs.Ytemhnlameekmkaa
