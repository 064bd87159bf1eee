-- Printed by a program of this claim. Not trusted: Lean checks it.
import Derived.Test.YtalgppclaolonaaRows
import Derived.Test.YtalgppclaolonaaXColrx20
import Derived.Test.YtalgppclaolonaaPureColorApart
import Derived.Test.YtalgppclaolonaaXOpen
import Derived.WalkKit
import Derived.ProofKit
import Derived.OpenShut
import Derived.ShutString
import Derived.ChangeOld
import Derived.Below
import Derived.SizedLaws
namespace Go.Proofs.Ytalgppclaolonaa.colorApart
open Go.ChangeShapes Go.WideShapes Go.ChangeAt Go.RowKit Go.Proofs.Ytalgppclaolonaa.XColr Go.Proofs.YtalgppclaolonaaW.PrintWords Go.Proofs.YtalgppclaolonaaW.PrintLast
open Go.ChangeMaps (open_string shut_string)
set_option linter.unusedVariables false
theorem own : ownKnob Try.prog.godebug = none := by kernel_rfl
theorem laidOut : laidOutB Try.prog = true := by kernel_rfl
theorem opens36 : XOpen.Opens Try.prog 36 k36 wf36 := XOpen.Opens.iso (XOpen.Opens.struct Try.underlying36 rfl (XOpen.OpensF.cons (XOpen.Opens.int Try.underlying3) (by kernel_rfl) (XOpen.OpensF.one (XOpen.Opens.int Try.underlying3) (by kernel_rfl)) rfl) (by kernel_rfl)) (fun x : S36 => (x.f0, x.f1)) (fun y => ⟨y.1, y.2⟩) (fun _ => rfl)
theorem opens38 : XOpen.Opens Try.prog 38 k38 wf38 := XOpen.Opens.iso (XOpen.Opens.struct Try.underlying38 rfl (XOpen.OpensF.cons (XOpen.Opens.int Try.underlying3) (by kernel_rfl) (XOpen.OpensF.cons (XOpen.Opens.bool Try.underlying4) (by kernel_rfl) (XOpen.OpensF.cons opens36 (by kernel_rfl) (XOpen.OpensF.cons opens36 (by kernel_rfl) (XOpen.OpensF.one opens36 (by kernel_rfl)) rfl) rfl) rfl) rfl) (by kernel_rfl)) (fun x : S38 => (x.f0, x.f1, x.f2, x.f3, x.f4)) (fun y => ⟨y.1, y.2.1, y.2.2.1, y.2.2.2.1, y.2.2.2.2⟩) (fun _ => rfl)
set_option maxRecDepth 100000 in
set_option maxHeartbeats 1000000 in
theorem lifted (os : Os) (started : os.Started) (H : Type) (enc : TypeId × Value → H) :
    ReturnsInHanded {} Try.checked os 11 .any (Rows.colorApartSpec.pre6 enc Try.prog Try.f11 Rows.colorApartRow.domain false) (Rows.colorApartSpec.post enc Try.prog Try.f11 false true false false) := by
  refine returnsInHanded_of_change_sized (C := Try.checked) own started (by kernel_rfl) Try.func11
    (ChangeSpec.witness6 (enc := enc) (C := Try.checked) false ⟨#[], #[(.slice none 0 0)], []⟩ 8 (by kernel_rfl) (by kernel_rfl) (by kernel_rfl) (by kernel_rfl)) ?_
  intro W base args ds gs before hval0 hW hcnd hsz0 _
  have hsz : (DataW.weightsEach Try.prog (Try.f11.params.toList ++ Rows.colorApartSpec.plain.varTypes Try.prog) (ds ++ gs)).all (· ≤ reachBytes) = true := hsz0
  have hval : ∀ (j : Nat) t v, Try.f11.params[j]? = some t → args[j]? = some v → Value.okWide Try.prog W .any base t v := hval0
  have hW' := hW
  obtain ⟨p, q, hA0, hV, rfl, hfz, hnd⟩ := hW
  have hA : DataW.TrodAll enc Try.prog W 0 (fun _ => true) true Try.f11.params.toList args.toList ds p := hA0
  rw [Try.params11] at hA hval hsz
  obtain ⟨v0, vs0, d0, ds0, p0, q0, hargs, rfl, rfl, h0, r0⟩ := trodAll_cons hA
  obtain ⟨rfl, rfl, rfl⟩ := trodAll_nil r0
  obtain rfl : args = #[v0] := by cases args; simp_all
  obtain ⟨rfl, rfl⟩ := trodVars_none hV
  obtain ⟨a0, len0, cap0, rfl⟩ := okWide_slice Try.underlying22 (hval 0 22 v0 rfl rfl)
  have k0 := h0
  have lt0 : ∀ x ∈ p0, x.block < W.heap.size := by obtain ⟨m, hm⟩ := k0; exact DataW.trod_lt m _ _ _ hm
  obtain ⟨x0, ⟨A0, c0, he0, hc0, hr0⟩, w0⟩ := XOpen.Opens.at (j := 0) (XOpen.Opens.slice Try.underlying22 opens38 (by kernel_rfl) (by kernel_rfl)) hsz rfl rfl h0
  simp [Value.cells] at he0
  obtain ⟨rfl, rfl, rfl⟩ := he0
  try clear hA0 hval0 hsz0 hsz
  obtain ⟨kk, hp⟩ := Pure.ColorApart x0 w0
  refine (pochoirlaw23_ColorApart.calls kk _ _ x0 true W hr0 hc0 rfl hp).mono fun e W' ⟨he, bel0⟩ => ?_
  have bel : Below W.heap.size W W' := bel0
  subst he
  exact ⟨_, rfl, _, _, _, [], _, [], hW', trodAll_mk1 (shut_bool Try.underlying4 _), (trodAll_cons_mk (Below.trod laidOut (by kernel_rfl) (of_decide_eq_true (by kernel_rfl)) k0 bel lt0) trodAll_mk0), rfl, bel.frame _, fun h => by cases h⟩
theorem over : Rows.colorApartRow.holds Try.pinned (OpenSpec.ofChange Rows.colorApartSpec) :=
  OpenClaim.holds_of_wide 11 Try.f11 rfl rfl rfl rfl rfl rfl rfl ⟨rfl, rfl, rfl, rfl, rfl⟩ rfl rfl rfl rfl rfl (by kernel_rfl) Try.func11 (by kernel_rfl)
    (of_decide_eq_true (by kernel_rfl)) (by unfold Func.isWrapper; first | (rw [if_pos (by decide +kernel)]; kernel_rfl) | (rw [if_neg (by decide +kernel)]; exact ⟨rfl, rfl⟩))
    (fun os started H enc _ => lifted os started H enc)
theorem proved : Rows.ColorApartSaid := over
#print axioms proved
end Go.Proofs.Ytalgppclaolonaa.colorApart
namespace Go.Proofs.Ytalgppclaolonaa
/-- The row, under a short name, for the claim. -/
theorem colorApart_holds : Rows.ColorApartSaid := colorApart.proved
end Go.Proofs.Ytalgppclaolonaa
