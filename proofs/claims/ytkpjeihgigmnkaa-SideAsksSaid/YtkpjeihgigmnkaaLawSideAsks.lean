/- The law SideAsks: whatever the input, the law answers true and its arguments read as before. Printed by a program of this claim; Lean checks it. -/
import Derived.Test.YtkpjeihgigmnkaaRows
import Derived.Test.YtkpjeihgigmnkaaPureSideAsks
import Derived.Test.YtkpjeihgigmnkaaEvW
import Derived.WalkKit
import Derived.ProofKit
import Derived.OpenShut
import Derived.ShutString
import Derived.ChangeOld
import Derived.Below
import Derived.SizedLaws
namespace Go.Proofs.Ytkpjeihgigmnkaa.sideAsks
open Go.ChangeShapes Go.WideShapes Go.ChangeAt Go.RowKit Go.Proofs.Ytkpjeihgigmnkaa.Ev
open Go.ChangeMaps (open_string shut_string)
set_option linter.unusedVariables false
theorem own : ownKnob Try.prog.godebug = none := by kernel_rfl
theorem laidOut : laidOutB Try.prog = true := by kernel_rfl
set_option maxRecDepth 100000 in
set_option maxHeartbeats 1000000 in
theorem lifted (os : Os) (started : os.Started) (H : Type) (enc : TypeId × Value → H) :
    ReturnsInHanded {} Try.checked os 3 .any (Rows.sideAsksSpec.pre6 enc Try.prog Try.f3 Rows.sideAsksRow.domain false) (Rows.sideAsksSpec.post enc Try.prog Try.f3 false true false false) := by
  refine returnsInHanded_of_change_sized (C := Try.checked) own started (by kernel_rfl) Try.func3
    (ChangeSpec.witness6 (enc := enc) (C := Try.checked) false ⟨#[], #[(.agg #[(.int .i64 0), (.int .i64 0)]), (.agg #[(.int .i64 0), (.bool false), (.int .i64 0), (.int .i64 0), (.int .i64 0), (.int .i64 0), (.int .i64 0), (.int .i64 0)])], []⟩ 8 (by kernel_rfl) (by kernel_rfl) (by kernel_rfl) (by kernel_rfl)) ?_
  intro W base args ds gs before hval0 hW hcnd hsz0 _
  have hsz : (DataW.weightsEach Try.prog (Try.f3.params.toList ++ Rows.sideAsksSpec.plain.varTypes Try.prog) (ds ++ gs)).all (· ≤ reachBytes) = true := hsz0
  have hval : ∀ (j : Nat) t v, Try.f3.params[j]? = some t → args[j]? = some v → Value.okWide Try.prog W .any base t v := hval0
  have hW' := hW
  obtain ⟨p, q, hA0, hV, rfl, hfz, hnd⟩ := hW
  have hA : DataW.TrodAll enc Try.prog W 0 (fun _ => true) true Try.f3.params.toList args.toList ds p := hA0
  rw [Try.params3] at hA hval hsz
  obtain ⟨v0, vs0, d0, ds0, p0, q0, hargs, rfl, rfl, h0, r0⟩ := trodAll_cons hA
  obtain ⟨v1, vs1, d1, ds1, p1, q1, rfl, rfl, rfl, h1, r1⟩ := trodAll_cons r0
  obtain ⟨rfl, rfl, rfl⟩ := trodAll_nil r1
  obtain rfl : args = #[v0, v1] := by cases args; simp_all
  obtain ⟨rfl, rfl⟩ := trodVars_none hV
  have lt0 : ∀ x ∈ p0, x.block < W.heap.size := by obtain ⟨m, hm⟩ := h0; exact DataW.trod_lt m _ _ _ hm
  obtain ⟨cs0, rfl⟩ := ok_agg (hval 0 23 v0 rfl rfl) (.inl ⟨_, Try.underlying23⟩)
  obtain ⟨x0, pl0, w0⟩ := OpG.at (j := 0) opens23 hsz rfl rfl h0
  have ra0 := rpa_agg pl0
  have lt1 : ∀ x ∈ p1, x.block < W.heap.size := by obtain ⟨m, hm⟩ := h1; exact DataW.trod_lt m _ _ _ hm
  obtain ⟨cs1, rfl⟩ := ok_agg (hval 1 25 v1 rfl rfl) (.inl ⟨_, Try.underlying25⟩)
  obtain ⟨x1, pl1, w1⟩ := OpG.at (j := 1) opens25 hsz rfl rfl h1
  have ra1 := rpa_agg pl1
  have hp := Pure.SideAsks x0 x1 w0 w1
  rcases E3_ok.1 rfl (x0, x1) true hp W (old W) _ [] (fun b h => h) (fun _ h => by cases h) (fun _ _ _ h => by cases h) (.val _ _ ra0 (.val _ _ ra1 .nil)) with ⟨_, hc⟩ | ⟨v, hc, _⟩
  case inr => exact absurd ((enters_of (c := bodyF Try.f3) Try.func3 (by kernel_rfl) (by kernel_rfl) _ _).symm.trans hc) (fun h => by cases h)
  refine hc.mono fun e W' ⟨rvs, F', he, hb, _, _, hres, _⟩ => ?_
  have bel : Below W.heap.size W W' := hb.below
  rw [law_res hres] at he
  subst he
  exact ⟨_, rfl, _, _, _, [], _, [], hW', trodAll_mk1 (shut_bool Try.underlying4 _), (trodAll_cons_mk (Below.trod laidOut (by kernel_rfl) (of_decide_eq_true (by kernel_rfl)) h0 bel lt0) (trodAll_cons_mk (Below.trod laidOut (by kernel_rfl) (of_decide_eq_true (by kernel_rfl)) h1 bel lt1) trodAll_mk0)), rfl, bel.frame _, fun h => by cases h⟩
theorem over : Rows.sideAsksRow.holds Try.pinned (OpenSpec.ofChange Rows.sideAsksSpec) :=
  OpenClaim.holds_of_wide 3 Try.f3 rfl rfl rfl rfl rfl rfl rfl ⟨rfl, rfl, rfl, rfl, rfl⟩ rfl rfl rfl rfl rfl (by kernel_rfl) Try.func3 (by kernel_rfl)
    (of_decide_eq_true (by kernel_rfl)) (by unfold Func.isWrapper; first | (rw [if_pos (by decide +kernel)]; kernel_rfl) | (rw [if_neg (by decide +kernel)]; exact ⟨rfl, rfl⟩))
    (fun os started H enc _ => lifted os started H enc)
theorem proved : Rows.SideAsksSaid := over
#print axioms proved
end Go.Proofs.Ytkpjeihgigmnkaa.sideAsks
namespace Go.Proofs.Ytkpjeihgigmnkaa
/-- The row, under a short name, for the claim. -/
theorem sideAsks_holds : Rows.SideAsksSaid := sideAsks.proved
end Go.Proofs.Ytkpjeihgigmnkaa
