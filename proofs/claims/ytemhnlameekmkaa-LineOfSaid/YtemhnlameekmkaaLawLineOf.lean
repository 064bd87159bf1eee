-- Printed by a program of this claim. Not trusted: Lean checks it.
import Derived.Test.YtemhnlameekmkaaRows
import Derived.Test.YtemhnlameekmkaaXLinex9
import Derived.Test.YtemhnlameekmkaaPureLineOf
import Derived.Test.YtemhnlameekmkaaXOpen
import Derived.WalkKit
import Derived.ProofKit
import Derived.OpenShut
import Derived.ShutString
import Derived.ChangeOld
import Derived.Below
import Derived.SizedLaws
namespace Go.Proofs.Ytemhnlameekmkaa.lineOf
open Go.ChangeShapes Go.WideShapes Go.ChangeAt Go.RowKit Go.Proofs.Ytemhnlameekmkaa.XLine Go.Proofs.YtemhnlameekmkaaW.PrintWords Go.Proofs.YtemhnlameekmkaaW.PrintLast
open Go.ChangeMaps (open_string shut_string)
set_option linter.unusedVariables false
theorem own : ownKnob Try.prog.godebug = none := by kernel_rfl
theorem laidOut : laidOutB Try.prog = true := by kernel_rfl
theorem opens49 : XOpen.Opens Try.prog 49 k49 wf49 := XOpen.Opens.iso (XOpen.Opens.struct Try.underlying49 rfl (XOpen.OpensF.cons (XOpen.Opens.int Try.underlying47) (by kernel_rfl) (XOpen.OpensF.one (XOpen.Opens.int Try.underlying47) (by kernel_rfl)) rfl) (by kernel_rfl)) (fun x : S49 => (x.f0, x.f1)) (fun y => ⟨y.1, y.2⟩) (fun _ => rfl)
theorem opens60 : XOpen.Opens Try.prog 60 k60 wf60 := XOpen.Opens.iso (XOpen.Opens.array Try.underlying60 (by rw [show Try.prog.cellsOf 3 = 1 from by kernel_rfl]; rfl) (XOpen.OpensF.cons (XOpen.Opens.int Try.underlying3) (by kernel_rfl) (XOpen.OpensF.one (XOpen.Opens.int Try.underlying3) (by kernel_rfl)) rfl) (by kernel_rfl)) (fun x : S60 => (x.f0, x.f1)) (fun y => ⟨y.1, y.2⟩) (fun _ => rfl)
set_option maxRecDepth 100000 in
set_option maxHeartbeats 1000000 in
theorem lifted (os : Os) (started : os.Started) (H : Type) (enc : TypeId × Value → H) :
    ReturnsInHanded {} Try.checked os 9 .any (Rows.lineOfSpec.pre6 enc Try.prog Try.f9 Rows.lineOfRow.domain false) (Rows.lineOfSpec.post enc Try.prog Try.f9 false true false false) := by
  refine returnsInHanded_of_change_sized (C := Try.checked) own started (by kernel_rfl) Try.func9
    (ChangeSpec.witness6 (enc := enc) (C := Try.checked) false ⟨#[], #[(.agg #[(.int .u64 0), (.int .u64 0)]), (.agg #[(.int .u64 0), (.int .u64 0)]), (.agg #[(.int .i64 0), (.int .i64 0)])], []⟩ 8 (by kernel_rfl) (by kernel_rfl) (by kernel_rfl) (by kernel_rfl)) ?_
  intro W base args ds gs before hval0 hW hcnd hsz0 _
  have hsz : (DataW.weightsEach Try.prog (Try.f9.params.toList ++ Rows.lineOfSpec.plain.varTypes Try.prog) (ds ++ gs)).all (· ≤ reachBytes) = true := hsz0
  have hval : ∀ (j : Nat) t v, Try.f9.params[j]? = some t → args[j]? = some v → Value.okWide Try.prog W .any base t v := hval0
  have hW' := hW
  obtain ⟨p, q, hA0, hV, rfl, hfz, hnd⟩ := hW
  have hA : DataW.TrodAll enc Try.prog W 0 (fun _ => true) true Try.f9.params.toList args.toList ds p := hA0
  rw [Try.params9] at hA hval hsz
  obtain ⟨v0, vs0, d0, ds0, p0, q0, hargs, rfl, rfl, h0, r0⟩ := trodAll_cons hA
  obtain ⟨v1, vs1, d1, ds1, p1, q1, rfl, rfl, rfl, h1, r1⟩ := trodAll_cons r0
  obtain ⟨v2, vs2, d2, ds2, p2, q2, rfl, rfl, rfl, h2, r2⟩ := trodAll_cons r1
  obtain ⟨rfl, rfl, rfl⟩ := trodAll_nil r2
  obtain rfl : args = #[v0, v1, v2] := by cases args; simp_all
  obtain ⟨rfl, rfl⟩ := trodVars_none hV
  obtain ⟨cs0, rfl⟩ := XOpen.okWide_agg (hval 0 49 v0 rfl rfl) (.inl ⟨_, Try.underlying49⟩)
  have k0 := h0
  have lt0 : ∀ x ∈ p0, x.block < W.heap.size := by obtain ⟨m, hm⟩ := k0; exact DataW.trod_lt m _ _ _ hm
  obtain ⟨x0, hK0, w0⟩ := XOpen.Opens.at (j := 0) opens49 hsz rfl rfl h0
  have hk0 : k49.K W x0 cs0.toList := hK0
  have he0 := k49_open hk0
  obtain rfl : cs0 = #[.int .u64 x0.f0, .int .u64 x0.f1] := Array.ext' he0
  obtain ⟨cs1, rfl⟩ := XOpen.okWide_agg (hval 1 49 v1 rfl rfl) (.inl ⟨_, Try.underlying49⟩)
  have k1 := h1
  have lt1 : ∀ x ∈ p1, x.block < W.heap.size := by obtain ⟨m, hm⟩ := k1; exact DataW.trod_lt m _ _ _ hm
  obtain ⟨x1, hK1, w1⟩ := XOpen.Opens.at (j := 1) opens49 hsz rfl rfl h1
  have hk1 : k49.K W x1 cs1.toList := hK1
  have he1 := k49_open hk1
  obtain rfl : cs1 = #[.int .u64 x1.f0, .int .u64 x1.f1] := Array.ext' he1
  obtain ⟨cs2, rfl⟩ := XOpen.okWide_agg (hval 2 60 v2 rfl rfl) (.inr ⟨_, _, Try.underlying60⟩)
  have k2 := h2
  have lt2 : ∀ x ∈ p2, x.block < W.heap.size := by obtain ⟨m, hm⟩ := k2; exact DataW.trod_lt m _ _ _ hm
  obtain ⟨x2, hK2, w2⟩ := XOpen.Opens.at (j := 2) opens60 hsz rfl rfl h2
  have hk2 : k60.K W x2 cs2.toList := hK2
  have he2 := k60_open hk2
  obtain rfl : cs2 = #[.int .i64 x2.f0, .int .i64 x2.f1] := Array.ext' he2
  clear hA0 hval0 hsz0 hsz
  obtain ⟨kk, hp⟩ := Pure.LineOf x0 x1 x2 w0 w1 w2
  refine (pochoirlaw19_LineOf.calls kk x0.f0 x0.f1 x1.f0 x1.f1 x2.f0 x2.f1 true W  rfl hp).mono fun e W' ⟨he, bel0⟩ => ?_
  have bel : Below W.heap.size W W' := bel0
  subst he
  exact ⟨_, rfl, _, _, _, [], _, [], hW', trodAll_mk1 (shut_bool Try.underlying4 _), (trodAll_cons_mk (Below.trod laidOut (by kernel_rfl) (of_decide_eq_true (by kernel_rfl)) k0 bel lt0) (trodAll_cons_mk (Below.trod laidOut (by kernel_rfl) (of_decide_eq_true (by kernel_rfl)) k1 bel lt1) (trodAll_cons_mk (Below.trod laidOut (by kernel_rfl) (of_decide_eq_true (by kernel_rfl)) k2 bel lt2) trodAll_mk0))), rfl, bel.frame _, fun h => by cases h⟩
theorem over : Rows.lineOfRow.holds Try.pinned (OpenSpec.ofChange Rows.lineOfSpec) :=
  OpenClaim.holds_of_wide 9 Try.f9 rfl rfl rfl rfl rfl rfl rfl ⟨rfl, rfl, rfl, rfl, rfl⟩ rfl rfl rfl rfl rfl (by kernel_rfl) Try.func9 (by kernel_rfl)
    (of_decide_eq_true (by kernel_rfl)) (by unfold Func.isWrapper; first | (rw [if_pos (by decide +kernel)]; kernel_rfl) | (rw [if_neg (by decide +kernel)]; exact ⟨rfl, rfl⟩))
    (fun os started H enc _ => lifted os started H enc)
theorem proved : Rows.LineOfSaid := over
#print axioms proved
end Go.Proofs.Ytemhnlameekmkaa.lineOf
namespace Go.Proofs.Ytemhnlameekmkaa
/-- The row, under a short name, for the claim. -/
theorem lineOf_holds : Rows.LineOfSaid := lineOf.proved
end Go.Proofs.Ytemhnlameekmkaa
