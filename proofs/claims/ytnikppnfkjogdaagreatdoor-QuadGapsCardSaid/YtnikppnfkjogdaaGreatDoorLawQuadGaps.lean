/- The law QuadGaps: whatever the input, the law answers true and its arguments read as before, where the package variable that the row lists reads as the text lays it, which the card ties to the text. Printed by a program of this claim; Lean checks it. -/
import Derived.Test.YtnikppnfkjogdaaGreatDoorRows
import Derived.Test.YtnikppnfkjogdaaGreatDoorPureQuadGaps
import Derived.Test.YtnikppnfkjogdaaGreatDoorEvW
import Derived.WalkKit
import Derived.ProofKit
import Derived.OpenShut
import Derived.ShutString
import Derived.ChangeOld
import Derived.Below
import Derived.SizedLaws
import Derived.LaidMore
import Derived.Lib.LaidTab
import Derived.MakeChecks
import Derived.Stop.Joined
import Derived.Test.YtnikppnfkjogdaaGreatDoorCards
import Derived.Test.YtnikppnfkjogdaaGreatDoorTie
import Derived.SevenTiedAt
namespace Go.Proofs.YtnikppnfkjogdaaGreatDoor.quadGaps
open Go.ChangeShapes Go.WideShapes Go.ChangeAt Go.RowKit Go.Proofs.YtnikppnfkjogdaaGreatDoor.Ev
open Go.ChangeMaps (open_string shut_string)
set_option linter.unusedVariables false
theorem own : ownKnob Tryz.prog.godebug = none := by kernel_rfl
theorem laidOut : laidOutB Tryz.prog = true := by kernel_rfl
def laidL : List (String × DataW Unit) := [("math/bits.deBruijn64tab", Rows.laid_math_bits_deBruijn64tab)]
theorem of_laid {W : World} (h : laidMetH Tryz.prog laidL W) : GlAt D.gl W := by
  rw [MakeChecks.laidMetH_plain _ _ _ (by kernel_rfl)] at h
  have hl : laidL = [("math/bits.deBruijn64tab", Lib.tabData .u8 (Lib.deBruijn64tab.map fun (n : Nat) => (n : Int)))] := by kernel_rfl
  rw [hl] at h
  have TT := Lib.tabIs_of_head (g := 0) (t := 247) (e := 5) (n := 64) (by kernel_rfl) (by kernel_rfl) Tryz.underlying247 Tryz.underlying5 (by kernel_rfl) (by kernel_rfl) h
  have ll : (Lib.deBruijn64tab.map fun (n : Nat) => (n : Int)).length = 64 := by kernel_rfl
  have key : ∀ i, i < 64 → W.cell? ⟨0, i, none⟩ = some (.int .u8 ((Lib.deBruijn64tab.map fun (n : Nat) => (n : Int)).getD i 0)) := fun i hi => TT.cell (g := 0) (by kernel_rfl) i (by rw [ll]; exact hi)
  intro x hx
  have hx' : x ∈ [(0, Lib.deBruijn64tab.map fun (n : Nat) => Value.int .u8 (n : Int))] := hx
  obtain rfl := List.mem_singleton.1 hx'
  refine ⟨World.block_lt_of_cell? W _ (key 0 (by omega)), fun j v hj => ?_⟩
  have hj2 : j < 64 := by
    have := (List.getElem?_eq_some_iff.1 hj).1
    simpa [Lib.deBruijn64tab] using this
  have hj' : (Lib.deBruijn64tab.map fun (n : Nat) => Value.int .u8 (n : Int))[j]? = some v := hj
  rw [key j hj2]
  rw [List.getElem?_map] at hj'
  obtain ⟨n, hn, rfl⟩ := Option.map_eq_some_iff.1 hj'
  congr 2
  simp [List.getD, List.getElem?_map, hn]
set_option maxRecDepth 100000 in
theorem door_met (os : Os) (args : Array Value) : laidMetH Tryz.prog laidL ((World.doorLaid Tryz.prog 600 os).forCall (fun _ _ => 0) ⟨#[], args, []⟩).memory :=
  laidMetH_of_parts3 (fuel := 8) (laidMet_of_run' 8 (by kernel_rfl) (by kernel_rfl)) (by kernel_rfl) (by kernel_rfl)
set_option maxRecDepth 100000 in
set_option maxHeartbeats 1000000 in
theorem lifted (os : Os) (started : os.Started) (H : Type) (enc : TypeId × Value → H) :
    ReturnsInHanded {} Tryz.checked os 9 .any (fun w args => (Rows.quadGapsSpec.pre enc Tryz.prog Tryz.f9 [] false w args ∧ laidMetH Tryz.prog laidL w) ∧ sizedMet enc Tryz.prog Tryz.f9 (OpenSpec.ofChange Rows.quadGapsSpec) false w args) (Rows.quadGapsSpec.post enc Tryz.prog Tryz.f9 false true false false) := by
  refine returnsInHanded_of_change_and (C := Tryz.checked) (X := fun w _ => laidMetH Tryz.prog laidL w) (fun _ _ _ hh h => h.of_heap hh) own started (by kernel_rfl) Tryz.func9
    (ChangeSpec.witness_shaped (enc := enc) (C := Tryz.checked) (os := os) (X := fun w _ => laidMetH Tryz.prog laidL w) false (World.doorLaid Tryz.prog 600 os) #[(.agg #[(.int .i64 0), (.int .i64 0)]), (.agg #[(.int .i64 0), (.bool false), (.int .i64 0), (.int .i64 0), (.int .i64 0), (.int .i64 0), (.int .i64 0), (.int .i64 0)]), (.agg #[(.int .i64 0), (.int .i64 0), (.int .i64 0)])] 8 rfl (World.shaped_of_RefB (by kernel_rfl) (by kernel_rfl)) (by kernel_rfl) (by kernel_rfl) (by kernel_rfl) (door_met os _)) ?_
  intro W base args ds gs before hval0 hW hcnd hsz0 hL _
  have hsz : (DataW.weightsEach Tryz.prog (Tryz.f9.params.toList ++ Rows.quadGapsSpec.plain.varTypes Tryz.prog) (ds ++ gs)).all (· ≤ reachBytes) = true := hsz0
  have hval : ∀ (j : Nat) t v, Tryz.f9.params[j]? = some t → args[j]? = some v → Value.okWide Tryz.prog W .any base t v := hval0
  have hW' := hW
  obtain ⟨p, q, hA0, hV, rfl, hfz, hnd⟩ := hW
  have hA : DataW.TrodAll enc Tryz.prog W 0 (fun _ => true) true Tryz.f9.params.toList args.toList ds p := hA0
  rw [Tryz.params9] at hA hval hsz
  obtain ⟨v0, vs0, d0, ds0, p0, q0, hargs, rfl, rfl, h0, r0⟩ := trodAll_cons hA
  obtain ⟨v1, vs1, d1, ds1, p1, q1, rfl, rfl, rfl, h1, r1⟩ := trodAll_cons r0
  obtain ⟨v2, vs2, d2, ds2, p2, q2, rfl, rfl, rfl, h2, r2⟩ := trodAll_cons r1
  obtain ⟨rfl, rfl, rfl⟩ := trodAll_nil r2
  obtain rfl : args = #[v0, v1, v2] := by cases args; simp_all
  obtain ⟨rfl, rfl⟩ := trodVars_none hV
  have lt0 : ∀ x ∈ p0, x.block < W.heap.size := by obtain ⟨m, hm⟩ := h0; exact DataW.trod_lt m _ _ _ hm
  obtain ⟨cs0, rfl⟩ := ok_agg (hval 0 24 v0 rfl rfl) (.inl ⟨_, Tryz.underlying24⟩)
  obtain ⟨x0, pl0, w0⟩ := OpG.at (j := 0) opens24 hsz rfl rfl h0
  have ra0 := rpa_agg pl0
  have lt1 : ∀ x ∈ p1, x.block < W.heap.size := by obtain ⟨m, hm⟩ := h1; exact DataW.trod_lt m _ _ _ hm
  obtain ⟨cs1, rfl⟩ := ok_agg (hval 1 34 v1 rfl rfl) (.inl ⟨_, Tryz.underlying34⟩)
  obtain ⟨x1, pl1, w1⟩ := OpG.at (j := 1) opens34 hsz rfl rfl h1
  have ra1 := rpa_agg pl1
  have lt2 : ∀ x ∈ p2, x.block < W.heap.size := by obtain ⟨m, hm⟩ := h2; exact DataW.trod_lt m _ _ _ hm
  obtain ⟨cs2, rfl⟩ := ok_agg (hval 2 51 v2 rfl rfl) (.inr ⟨_, _, Tryz.underlying51⟩)
  obtain ⟨x2, pl2, w2⟩ := OpG.at (j := 2) opens51 hsz rfl rfl h2
  have ra2 := rpa_agg pl2
  have hp := Pure.QuadGaps x0 x1 x2 w0 w1 w2
  rcases E9_ok.1 rfl (x0, x1, x2) true hp W (old W) _ [] (fun b h => h) (of_laid hL) (fun _ _ _ h => by cases h) (.val _ _ ra0 (.val _ _ ra1 (.val _ _ ra2 .nil))) with ⟨_, hc⟩ | ⟨v, hc, _⟩
  case inr => exact absurd ((enters_of (c := bodyF Tryz.f9) Tryz.func9 (by kernel_rfl) (by kernel_rfl) _ _).symm.trans hc) (fun h => by cases h)
  refine hc.mono fun e W' ⟨rvs, F', he, hb, _, _, hres, _⟩ => ?_
  have bel : Below W.heap.size W W' := hb.below
  rw [law_res hres] at he
  subst he
  exact ⟨_, rfl, _, _, _, [], _, [], hW', trodAll_mk1 (shut_bool Tryz.underlying4 _), (trodAll_cons_mk (Below.trod laidOut (by kernel_rfl) (of_decide_eq_true (by kernel_rfl)) h0 bel lt0) (trodAll_cons_mk (Below.trod laidOut (by kernel_rfl) (of_decide_eq_true (by kernel_rfl)) h1 bel lt1) (trodAll_cons_mk (Below.trod laidOut (by kernel_rfl) (of_decide_eq_true (by kernel_rfl)) h2 bel lt2) trodAll_mk0))), rfl, bel.frame _, fun h => by cases h⟩
theorem over : Rows.quadGapsRow.holds Tryz.pinned (OpenSpec.ofChange Rows.quadGapsSpec) :=
  OpenClaim.holds_of_wide 9 Tryz.f9 rfl rfl rfl rfl rfl rfl rfl ⟨rfl, rfl, rfl, rfl, rfl⟩ rfl rfl rfl rfl rfl (by kernel_rfl) Tryz.func9 (by kernel_rfl)
    (of_decide_eq_true (by kernel_rfl)) (by unfold Func.isWrapper; first | (rw [if_pos (by decide +kernel)]; kernel_rfl) | (rw [if_neg (by decide +kernel)]; exact ⟨rfl, rfl⟩))
    (fun os started H enc _ => lifted os started H enc)
theorem proved : Rows.QuadGapsSaid := over
theorem card_proved : Rows.QuadGapsCardSaid :=
  Claim7.holds_tied_plain_at .later [] [.data] true (true, "142d5c3b5cf9e1df8afa8acc0cc25bac98bd9af2571d28f2a3c88c6d7228039c") false
    proved (fun _ h => by cases h) (by kernel_rfl) (fun _ h => by cases h) quadGaps_row_tie rfl ⟨rfl, rfl⟩ (by kernel_rfl) rfl
    (fun f fn hf hfn => by
      obtain rfl : f = 9 := Option.some.inj ((show Tryz.prog.funcNamed "pochoir/pochoirlaw20.QuadGaps" = some 9 by kernel_rfl).symm.trans hf) |>.symm
      obtain rfl : fn = Tryz.f9 := (Option.some.inj (Tryz.func9.symm.trans hfn)).symm
      exact ⟨by kernel_rfl, fun j t ht => by
        rw [Tryz.params9] at ht
        have hm : t ∈ [24, 34, 51] := by simpa using Array.mem_of_getElem? ht
        have hall : ([24, 34, 51].all fun u => !Tryz.prog.wantsStandIn u) = true := by kernel_rfl
        exact (show Tryz.prog.wantsStandIn t = false by simpa using List.all_eq_true.1 hall t hm)⟩)
    (by kernel_rfl)
#print axioms card_proved
#print axioms proved
end Go.Proofs.YtnikppnfkjogdaaGreatDoor.quadGaps
namespace Go.Proofs.YtnikppnfkjogdaaGreatDoor
/-- The row, under a short name, for the claim. -/
theorem quadGaps_holds : Rows.QuadGapsCardSaid := quadGaps.card_proved
end Go.Proofs.YtnikppnfkjogdaaGreatDoor
