-- Printed by a program of this claim. Not trusted: Lean checks it.
import Derived.Test.YtalgppclaolonaaRows
import Derived.Test.YtalgppclaolonaaXCornx15
import Derived.Test.YtalgppclaolonaaPureCornerAsks
import Derived.Test.YtalgppclaolonaaXOpen
import Derived.WalkKit
import Derived.ProofKit
import Derived.OpenShut
import Derived.ShutString
import Derived.ChangeOld
import Derived.Below
import Derived.SizedLaws
namespace Go.Proofs.Ytalgppclaolonaa.cornerAsks
open Go.ChangeShapes Go.WideShapes Go.ChangeAt Go.RowKit Go.Proofs.Ytalgppclaolonaa.XCorn Go.Proofs.YtalgppclaolonaaW.PrintWords Go.Proofs.YtalgppclaolonaaW.PrintLast
open Go.ChangeMaps (open_string shut_string)
set_option linter.unusedVariables false
theorem own : ownKnob Try.prog.godebug = none := by kernel_rfl
theorem laidOut : laidOutB Try.prog = true := by kernel_rfl
theorem opens36 : XOpen.Opens Try.prog 36 k36 wf36 := XOpen.Opens.iso (XOpen.Opens.struct Try.underlying36 rfl (XOpen.OpensF.cons (XOpen.Opens.int Try.underlying3) (by kernel_rfl) (XOpen.OpensF.one (XOpen.Opens.int Try.underlying3) (by kernel_rfl)) rfl) (by kernel_rfl)) (fun x : S36 => (x.f0, x.f1)) (fun y => ⟨y.1, y.2⟩) (fun _ => rfl)
theorem opens38 : XOpen.Opens Try.prog 38 k38 wf38 := XOpen.Opens.iso (XOpen.Opens.struct Try.underlying38 rfl (XOpen.OpensF.cons (XOpen.Opens.int Try.underlying3) (by kernel_rfl) (XOpen.OpensF.cons (XOpen.Opens.bool Try.underlying4) (by kernel_rfl) (XOpen.OpensF.cons opens36 (by kernel_rfl) (XOpen.OpensF.cons opens36 (by kernel_rfl) (XOpen.OpensF.one opens36 (by kernel_rfl)) rfl) rfl) rfl) rfl) (by kernel_rfl)) (fun x : S38 => (x.f0, x.f1, x.f2, x.f3, x.f4)) (fun y => ⟨y.1, y.2.1, y.2.2.1, y.2.2.2.1, y.2.2.2.2⟩) (fun _ => rfl)
set_option maxRecDepth 100000 in
set_option maxHeartbeats 1000000 in
theorem lifted (os : Os) (started : os.Started) (H : Type) (enc : TypeId × Value → H) :
    ReturnsInHanded {} Try.checked os 6 .any (Rows.cornerAsksSpec.pre6 enc Try.prog Try.f6 Rows.cornerAsksRow.domain false) (Rows.cornerAsksSpec.post enc Try.prog Try.f6 false true false false) := by
  refine returnsInHanded_of_change_sized (C := Try.checked) own started (by kernel_rfl) Try.func6
    (ChangeSpec.witness6 (enc := enc) (C := Try.checked) false ⟨#[], #[(.agg #[(.int .i64 0), (.bool false), (.int .i64 0), (.int .i64 0), (.int .i64 0), (.int .i64 0), (.int .i64 0), (.int .i64 0)]), (.agg #[(.int .i64 0), (.bool false), (.int .i64 0), (.int .i64 0), (.int .i64 0), (.int .i64 0), (.int .i64 0), (.int .i64 0)])], []⟩ 8 (by kernel_rfl) (by kernel_rfl) (by kernel_rfl) (by kernel_rfl)) ?_
  intro W base args ds gs before hval0 hW hcnd hsz0 _
  have hsz : (DataW.weightsEach Try.prog (Try.f6.params.toList ++ Rows.cornerAsksSpec.plain.varTypes Try.prog) (ds ++ gs)).all (· ≤ reachBytes) = true := hsz0
  have hval : ∀ (j : Nat) t v, Try.f6.params[j]? = some t → args[j]? = some v → Value.okWide Try.prog W .any base t v := hval0
  have hW' := hW
  obtain ⟨p, q, hA0, hV, rfl, hfz, hnd⟩ := hW
  have hA : DataW.TrodAll enc Try.prog W 0 (fun _ => true) true Try.f6.params.toList args.toList ds p := hA0
  rw [Try.params6] at hA hval hsz
  obtain ⟨v0, vs0, d0, ds0, p0, q0, hargs, rfl, rfl, h0, r0⟩ := trodAll_cons hA
  obtain ⟨v1, vs1, d1, ds1, p1, q1, rfl, rfl, rfl, h1, r1⟩ := trodAll_cons r0
  obtain ⟨rfl, rfl, rfl⟩ := trodAll_nil r1
  obtain rfl : args = #[v0, v1] := by cases args; simp_all
  obtain ⟨rfl, rfl⟩ := trodVars_none hV
  obtain ⟨cs0, rfl⟩ := XOpen.okWide_agg (hval 0 38 v0 rfl rfl) (.inl ⟨_, Try.underlying38⟩)
  have k0 := h0
  have lt0 : ∀ x ∈ p0, x.block < W.heap.size := by obtain ⟨m, hm⟩ := k0; exact DataW.trod_lt m _ _ _ hm
  obtain ⟨x0, hK0, w0⟩ := XOpen.Opens.at (j := 0) opens38 hsz rfl rfl h0
  have hk0 : k38.K W x0 cs0.toList := hK0
  have he0 := k38_open hk0
  obtain rfl : cs0 = #[.int .i64 x0.f0, .bool x0.f1, .int .i64 x0.f2.f0, .int .i64 x0.f2.f1, .int .i64 x0.f3.f0, .int .i64 x0.f3.f1, .int .i64 x0.f4.f0, .int .i64 x0.f4.f1] := Array.ext' he0
  obtain ⟨cs1, rfl⟩ := XOpen.okWide_agg (hval 1 38 v1 rfl rfl) (.inl ⟨_, Try.underlying38⟩)
  have k1 := h1
  have lt1 : ∀ x ∈ p1, x.block < W.heap.size := by obtain ⟨m, hm⟩ := k1; exact DataW.trod_lt m _ _ _ hm
  obtain ⟨x1, hK1, w1⟩ := XOpen.Opens.at (j := 1) opens38 hsz rfl rfl h1
  have hk1 : k38.K W x1 cs1.toList := hK1
  have he1 := k38_open hk1
  obtain rfl : cs1 = #[.int .i64 x1.f0, .bool x1.f1, .int .i64 x1.f2.f0, .int .i64 x1.f2.f1, .int .i64 x1.f3.f0, .int .i64 x1.f3.f1, .int .i64 x1.f4.f0, .int .i64 x1.f4.f1] := Array.ext' he1
  clear hA0 hval0 hsz0 hsz
  obtain ⟨kk, hp⟩ := Pure.CornerAsks x0 x1 w0 w1
  refine (pochoirlaw22_CornerAsks.calls kk x0.f0 x0.f1 x0.f2.f0 x0.f2.f1 x0.f3.f0 x0.f3.f1 x0.f4.f0 x0.f4.f1 x1.f0 x1.f1 x1.f2.f0 x1.f2.f1 x1.f3.f0 x1.f3.f1 x1.f4.f0 x1.f4.f1 true W  rfl hp).mono fun e W' ⟨he, bel0⟩ => ?_
  have bel : Below W.heap.size W W' := bel0
  subst he
  exact ⟨_, rfl, _, _, _, [], _, [], hW', trodAll_mk1 (shut_bool Try.underlying4 _), (trodAll_cons_mk (Below.trod laidOut (by kernel_rfl) (of_decide_eq_true (by kernel_rfl)) k0 bel lt0) (trodAll_cons_mk (Below.trod laidOut (by kernel_rfl) (of_decide_eq_true (by kernel_rfl)) k1 bel lt1) trodAll_mk0)), rfl, bel.frame _, fun h => by cases h⟩
theorem over : Rows.cornerAsksRow.holds Try.pinned (OpenSpec.ofChange Rows.cornerAsksSpec) :=
  OpenClaim.holds_of_wide 6 Try.f6 rfl rfl rfl rfl rfl rfl rfl ⟨rfl, rfl, rfl, rfl, rfl⟩ rfl rfl rfl rfl rfl (by kernel_rfl) Try.func6 (by kernel_rfl)
    (of_decide_eq_true (by kernel_rfl)) (by unfold Func.isWrapper; first | (rw [if_pos (by decide +kernel)]; kernel_rfl) | (rw [if_neg (by decide +kernel)]; exact ⟨rfl, rfl⟩))
    (fun os started H enc _ => lifted os started H enc)
theorem proved : Rows.CornerAsksSaid := over
#print axioms proved
end Go.Proofs.Ytalgppclaolonaa.cornerAsks
namespace Go.Proofs.Ytalgppclaolonaa
/-- The row, under a short name, for the claim. -/
theorem cornerAsks_holds : Rows.CornerAsksSaid := cornerAsks.proved
end Go.Proofs.Ytalgppclaolonaa
