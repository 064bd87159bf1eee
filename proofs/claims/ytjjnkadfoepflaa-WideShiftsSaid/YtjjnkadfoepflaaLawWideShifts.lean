-- Printed by a program of this claim. Not trusted: Lean checks it.
import Derived.Test.YtjjnkadfoepflaaRows
import Derived.Test.YtjjnkadfoepflaaXWidex15
import Derived.Test.YtjjnkadfoepflaaPureWideShifts
import Derived.Test.YtjjnkadfoepflaaXOpen
import Derived.WalkKit
import Derived.ProofKit
import Derived.OpenShut
import Derived.ShutString
import Derived.ChangeOld
import Derived.Below
import Derived.SizedLaws
namespace Go.Proofs.Ytjjnkadfoepflaa.wideShifts
open Go.ChangeShapes Go.WideShapes Go.ChangeAt Go.RowKit Go.Proofs.Ytjjnkadfoepflaa.XWide Go.Proofs.YtjjnkadfoepflaaW.PrintWords Go.Proofs.YtjjnkadfoepflaaW.PrintLast
open Go.ChangeMaps (open_string shut_string)
set_option linter.unusedVariables false
theorem own : ownKnob Try.prog.godebug = none := by kernel_rfl
theorem laidOut : laidOutB Try.prog = true := by kernel_rfl
theorem opens24 : XOpen.Opens Try.prog 24 k24 wf24 := XOpen.Opens.iso (XOpen.Opens.struct Try.underlying24 rfl (XOpen.OpensF.cons (XOpen.Opens.int Try.underlying22) (by kernel_rfl) (XOpen.OpensF.one (XOpen.Opens.int Try.underlying22) (by kernel_rfl)) rfl) (by kernel_rfl)) (fun x : S24 => (x.f0, x.f1)) (fun y => ⟨y.1, y.2⟩) (fun _ => rfl)
set_option maxRecDepth 100000 in
set_option maxHeartbeats 1000000 in
theorem lifted (os : Os) (started : os.Started) (H : Type) (enc : TypeId × Value → H) :
    ReturnsInHanded {} Try.checked os 6 .any (Rows.wideShiftsSpec.pre6 enc Try.prog Try.f6 Rows.wideShiftsRow.domain false) (Rows.wideShiftsSpec.post enc Try.prog Try.f6 false true false false) := by
  refine returnsInHanded_of_change_sized (C := Try.checked) own started (by kernel_rfl) Try.func6
    (ChangeSpec.witness6 (enc := enc) (C := Try.checked) false ⟨#[], #[(.agg #[(.int .u64 0), (.int .u64 0)]), (.agg #[(.int .u64 0), (.int .u64 0)]), (.int .i64 0)], []⟩ 8 (by kernel_rfl) (by kernel_rfl) (by kernel_rfl) (by kernel_rfl)) ?_
  intro W base args ds gs before hval0 hW hcnd hsz0 _
  have hsz : (DataW.weightsEach Try.prog (Try.f6.params.toList ++ Rows.wideShiftsSpec.plain.varTypes Try.prog) (ds ++ gs)).all (· ≤ reachBytes) = true := hsz0
  have hval : ∀ (j : Nat) t v, Try.f6.params[j]? = some t → args[j]? = some v → Value.okWide Try.prog W .any base t v := hval0
  have hW' := hW
  obtain ⟨p, q, hA0, hV, rfl, hfz, hnd⟩ := hW
  have hA : DataW.TrodAll enc Try.prog W 0 (fun _ => true) true Try.f6.params.toList args.toList ds p := hA0
  rw [Try.params6] at hA hval hsz
  obtain ⟨v0, vs0, d0, ds0, p0, q0, hargs, rfl, rfl, h0, r0⟩ := trodAll_cons hA
  obtain ⟨v1, vs1, d1, ds1, p1, q1, rfl, rfl, rfl, h1, r1⟩ := trodAll_cons r0
  obtain ⟨v2, vs2, d2, ds2, p2, q2, rfl, rfl, rfl, h2, r2⟩ := trodAll_cons r1
  obtain ⟨rfl, rfl, rfl⟩ := trodAll_nil r2
  obtain rfl : args = #[v0, v1, v2] := by cases args; simp_all
  obtain ⟨rfl, rfl⟩ := trodVars_none hV
  obtain ⟨cs0, rfl⟩ := XOpen.okWide_agg (hval 0 24 v0 rfl rfl) (.inl ⟨_, Try.underlying24⟩)
  have k0 := h0
  have lt0 : ∀ x ∈ p0, x.block < W.heap.size := by obtain ⟨m, hm⟩ := k0; exact DataW.trod_lt m _ _ _ hm
  obtain ⟨x0, hK0, w0⟩ := XOpen.Opens.at (j := 0) opens24 hsz rfl rfl h0
  have hk0 : k24.K W x0 cs0.toList := hK0
  have he0 := k24_open hk0
  obtain rfl : cs0 = #[.int .u64 x0.f0, .int .u64 x0.f1] := Array.ext' he0
  obtain ⟨cs1, rfl⟩ := XOpen.okWide_agg (hval 1 24 v1 rfl rfl) (.inl ⟨_, Try.underlying24⟩)
  have k1 := h1
  have lt1 : ∀ x ∈ p1, x.block < W.heap.size := by obtain ⟨m, hm⟩ := k1; exact DataW.trod_lt m _ _ _ hm
  obtain ⟨x1, hK1, w1⟩ := XOpen.Opens.at (j := 1) opens24 hsz rfl rfl h1
  have hk1 : k24.K W x1 cs1.toList := hK1
  have he1 := k24_open hk1
  obtain rfl : cs1 = #[.int .u64 x1.f0, .int .u64 x1.f1] := Array.ext' he1
  obtain ⟨x2, rfl, rfl, rfl, w2⟩ := open_int Try.underlying3 (hval 2 3 v2 rfl rfl) h2
  clear hA0 hval0 hsz0 hsz
  obtain ⟨kk, hp⟩ := Pure.WideShifts x0 x1 x2 w0 w1 w2
  refine (pochoirlaw01_WideShifts.calls kk x0.f0 x0.f1 x1.f0 x1.f1 x2 true W  rfl hp).mono fun e W' ⟨he, bel0⟩ => ?_
  have bel : Below W.heap.size W W' := bel0
  subst he
  exact ⟨_, rfl, _, _, _, [], _, [], hW', trodAll_mk1 (shut_bool Try.underlying4 _), (trodAll_cons_mk (Below.trod laidOut (by kernel_rfl) (of_decide_eq_true (by kernel_rfl)) k0 bel lt0) (trodAll_cons_mk (Below.trod laidOut (by kernel_rfl) (of_decide_eq_true (by kernel_rfl)) k1 bel lt1) (trodAll_cons_mk (shut_int Try.underlying3 w2) trodAll_mk0))), rfl, bel.frame _, fun h => by cases h⟩
theorem over : Rows.wideShiftsRow.holds Try.pinned (OpenSpec.ofChange Rows.wideShiftsSpec) :=
  OpenClaim.holds_of_wide 6 Try.f6 rfl rfl rfl rfl rfl rfl rfl ⟨rfl, rfl, rfl, rfl, rfl⟩ rfl rfl rfl rfl rfl (by kernel_rfl) Try.func6 (by kernel_rfl)
    (of_decide_eq_true (by kernel_rfl)) (by unfold Func.isWrapper; first | (rw [if_pos (by decide +kernel)]; kernel_rfl) | (rw [if_neg (by decide +kernel)]; exact ⟨rfl, rfl⟩))
    (fun os started H enc _ => lifted os started H enc)
theorem proved : Rows.WideShiftsSaid := over
#print axioms proved
end Go.Proofs.Ytjjnkadfoepflaa.wideShifts
namespace Go.Proofs.Ytjjnkadfoepflaa
/-- The row, under a short name, for the claim. -/
theorem wideShifts_holds : Rows.WideShiftsSaid := wideShifts.proved
end Go.Proofs.Ytjjnkadfoepflaa
