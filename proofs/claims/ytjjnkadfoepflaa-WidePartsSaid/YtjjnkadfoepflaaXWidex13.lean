-- Printed by a program of this claim. Not trusted: Lean checks it.
import Derived.Test.YtjjnkadfoepflaaXWidex0
import Derived.Test.YtjjnkadfoepflaaXWidex1
import Derived.Test.YtjjnkadfoepflaaXWidex2
import Derived.Test.YtjjnkadfoepflaaXWidex3
import Derived.Test.YtjjnkadfoepflaaXWidex4
import Derived.Test.YtjjnkadfoepflaaXWidex7
import Derived.Test.YtjjnkadfoepflaaXWidex8
namespace Go.Proofs.Ytjjnkadfoepflaa.XWide
open Go.RowKit Go.Proofs.YtjjnkadfoepflaaW.PrintWords Go.Proofs.YtjjnkadfoepflaaW.PrintLast Go.Proofs.YtjjnkadfoepflaaW.PrintMore
attribute [local go_sem] max2_int min2_int max_two min_two max_three min_three max_four min_four   -- for this text's walks alone
set_option linter.unusedVariables false
set_option linter.unusedSimpArgs false
open XOpen

attribute [local go_sem high] eqA24
/-! ### pochoirlaw01_WideParts: function 4 -/
def pochoirlaw01_WideParts.j0 : Nat → Int → Int → Int → Bool → Int → Int → Int → Int → Option (Bool)
 | 0, _, _, _, _, _, _, _, _ => none
 | k + 1, x1, x6, x10, x43, x348000, x348001, x354000, x354001 => if x43 = true then (some false) else (if x10 = 0 then ((wide_Scale.f x354000 x354001 x1).bind fun bt359 => ((wide_Of.f x6).bind fun bt363 => ((wide_Add.f bt359.1 bt359.2.1 bt363.1 bt363.2).bind fun bt365 => (if bt359.2.2 = 0 then (if bt365.2.2 = 0 then (if (bt365.1 == x348000 && (bt365.2.1 == x348001)) = true then (some (decide (x6 < x1))) else (some false)) else (some false)) else (some false))))) else (some true))
def pochoirlaw01_WideParts.f (k : Nat) (a0_0 : Int) (a0_1 : Int) (a1 : Int) : Option (Bool) := (pochoirlaw01_awake.f k).bind fun t348 => (if t348 = true then ((wide_Div.f k a0_0 a0_1 a1).bind fun bt349 => ((pochoirref01_Div.f k a0_0 a0_1 a1).bind fun bt354 => (if (!(bt349.1 == bt354.1) || (!(bt349.2.1 == bt354.2.1))) = true then (pochoirlaw01_WideParts.j0 k a1 bt349.2.2.1 bt354.2.2.2 true a0_0 a0_1 bt349.1 bt349.2.1) else (if bt349.2.2.1 = bt354.2.2.1 then (pochoirlaw01_WideParts.j0 k a1 bt349.2.2.1 bt354.2.2.2 (bt349.2.2.2 != bt354.2.2.2) a0_0 a0_1 bt349.1 bt349.2.1) else (pochoirlaw01_WideParts.j0 k a1 bt349.2.2.1 bt354.2.2.2 true a0_0 a0_1 bt349.1 bt349.2.1))))) else (some false))
theorem pochoirlaw01_WideParts.mono_l : ∀ k, (∀ y0 y1 y2 y3 y4 y5 y6 y7, LeO (pochoirlaw01_WideParts.j0 k y0 y1 y2 y3 y4 y5 y6 y7) (pochoirlaw01_WideParts.j0 (k + 1) y0 y1 y2 y3 y4 y5 y6 y7))
 | 0 => fun _ _ _ _ _ _ _ _ r h => by simp [pochoirlaw01_WideParts.j0] at h
 | k + 1 => by
  have ih0 := pochoirlaw01_WideParts.mono_l k
  ·intro y0 y1 y2 y3 y4 y5 y6 y7
   unfold pochoirlaw01_WideParts.j0
   repeat' first
   | (with_reducible exact ih0 _ _ _ _ _ _ _ _)
   | (with_reducible exact pochoirlaw01_awake.mono _)
   | (with_reducible exact pochoirref01_Div.mono _ _ _ _)
   | (with_reducible exact wide_Div.mono _ _ _ _)
   | (with_reducible exact LeO.refl _)
   | (with_reducible exact LeO.none _)
   | (with_reducible refine LeO.ite ?_ ?_)
   | (with_reducible refine LeO.bind ?_ (fun _ => ?_))
   | exact ih0 _ _ _ _ _ _ _ _
   | exact pochoirlaw01_awake.mono _
   | exact pochoirref01_Div.mono _ _ _ _
   | exact wide_Div.mono _ _ _ _
   | exact LeO.none _
   | refine LeO.ite ?_ ?_
   | refine LeO.bind ?_ (fun _ => ?_)
theorem pochoirlaw01_WideParts.mono : ∀ a0 a1 a2 k, LeO (pochoirlaw01_WideParts.f k a0 a1 a2) (pochoirlaw01_WideParts.f (k + 1) a0 a1 a2) := by
 intro a0 a1 a2 k
 have ih0 := pochoirlaw01_WideParts.mono_l k
 unfold pochoirlaw01_WideParts.f
 repeat' first
   | (with_reducible exact ih0 _ _ _ _ _ _ _ _)
   | (with_reducible exact pochoirlaw01_awake.mono _)
   | (with_reducible exact pochoirref01_Div.mono _ _ _ _)
   | (with_reducible exact wide_Div.mono _ _ _ _)
   | (with_reducible exact LeO.refl _)
   | (with_reducible exact LeO.none _)
   | (with_reducible refine LeO.ite ?_ ?_)
   | (with_reducible refine LeO.bind ?_ (fun _ => ?_))
   | exact ih0 _ _ _ _ _ _ _ _
   | exact pochoirlaw01_awake.mono _
   | exact pochoirref01_Div.mono _ _ _ _
   | exact wide_Div.mono _ _ _ _
   | exact LeO.none _
   | refine LeO.ite ?_ ?_
   | refine LeO.bind ?_ (fun _ => ?_)
def pochoirlaw01_WideParts.T10 : Bool × List (List Nat × List Nat) := (true, [([], []), ([], []), ([1], [1]), ([0, 2, 2], [0, 2]), ([3], [3]), ([4], [4]), ([4], [4]), ([], []), ([7, 5, 3, 0, 1, 2, 3, 4, 5, 7], [5, 7]), ([6, 8, 0, 1, 2, 3, 4, 5, 6, 7, 8], [6])])
def pochoirlaw01_WideParts.B10 : List Nat := [0, 0, 2, 7, 15, 31, 31, 0, 191, 511]
theorem pochoirlaw01_WideParts.tab10 : rtab .any (opsOf Try.f4 10) = pochoirlaw01_WideParts.T10 := by kernel_rfl
theorem pochoirlaw01_WideParts.bits10 : waitsOk pochoirlaw01_WideParts.T10.2 pochoirlaw01_WideParts.B10 = true := by kernel_rfl
set_option maxHeartbeats 8000000 in
set_option maxRecDepth 100000 in
theorem pochoirlaw01_WideParts.calls (k : Nat) (a0_0 : Int) (a0_1 : Int) (a1 : Int) (r : Bool) (w : World) (hq_ : r = true) (h : pochoirlaw01_WideParts.f k a0_0 a0_1 a1 = some r) :
  Calls Try.prog 4 #[.agg #[.int .u64 a0_0, .int .u64 a0_1], .int .u64 a1] w fun e w' => e = .returned (.bool r) ∧ Below w.heap.size w w' := by
 have hu24 := Try.underlying24
 have HB := Aside0.mk (Below.refl w.heap.size w)
 have HQ := Aside0.mk hq_
 clear hq_
 have H : ((pochoirlaw01_awake.f k).bind fun t348 => (if t348 = true then ((wide_Div.f k a0_0 a0_1 a1).bind fun bt349 => ((pochoirref01_Div.f k a0_0 a0_1 a1).bind fun bt354 => (if (!(bt349.1 == bt354.1) || (!(bt349.2.1 == bt354.2.1))) = true then (pochoirlaw01_WideParts.j0 k a1 bt349.2.2.1 bt354.2.2.2 true a0_0 a0_1 bt349.1 bt349.2.1) else (if bt349.2.2.1 = bt354.2.2.1 then (pochoirlaw01_WideParts.j0 k a1 bt349.2.2.1 bt354.2.2.2 (bt349.2.2.2 != bt354.2.2.2) a0_0 a0_1 bt349.1 bt349.2.1) else (pochoirlaw01_WideParts.j0 k a1 bt349.2.2.1 bt354.2.2.2 true a0_0 a0_1 bt349.1 bt349.2.1))))) else (some false))) = some r := h
 clear h
 replace H := Option.bind_eq_some_iff.mp H
 obtain ⟨t348, A30, H⟩ := H
 replace H : (if t348 = true then ((wide_Div.f k a0_0 a0_1 a1).bind fun bt349 => ((pochoirref01_Div.f k a0_0 a0_1 a1).bind fun bt354 => (if (!(bt349.1 == bt354.1) || (!(bt349.2.1 == bt354.2.1))) = true then (pochoirlaw01_WideParts.j0 k a1 bt349.2.2.1 bt354.2.2.2 true a0_0 a0_1 bt349.1 bt349.2.1) else (if bt349.2.2.1 = bt354.2.2.1 then (pochoirlaw01_WideParts.j0 k a1 bt349.2.2.1 bt354.2.2.2 (bt349.2.2.2 != bt354.2.2.2) a0_0 a0_1 bt349.1 bt349.2.1) else (pochoirlaw01_WideParts.j0 k a1 bt349.2.2.1 bt354.2.2.2 true a0_0 a0_1 bt349.1 bt349.2.1))))) else (some false)) = some r := H
 have A3 := Aside0.mk A30
 clear A30
 by_cases c4 : t348 = true
 ·subst c4
  have H1 : ((wide_Div.f k a0_0 a0_1 a1).bind fun bt349 => ((pochoirref01_Div.f k a0_0 a0_1 a1).bind fun bt354 => (if (!(bt349.1 == bt354.1) || (!(bt349.2.1 == bt354.2.1))) = true then (pochoirlaw01_WideParts.j0 k a1 bt349.2.2.1 bt354.2.2.2 true a0_0 a0_1 bt349.1 bt349.2.1) else (if bt349.2.2.1 = bt354.2.2.1 then (pochoirlaw01_WideParts.j0 k a1 bt349.2.2.1 bt354.2.2.2 (bt349.2.2.2 != bt354.2.2.2) a0_0 a0_1 bt349.1 bt349.2.1) else (pochoirlaw01_WideParts.j0 k a1 bt349.2.2.1 bt354.2.2.2 true a0_0 a0_1 bt349.1 bt349.2.1))))) = some r := by rw [if_pos rfl] at H; exact H
  clear H
  have H := H1
  clear H1
  replace H := Option.bind_eq_some_iff.mp H
  obtain ⟨⟨t349, t350, t351, t352⟩, A50, H⟩ := H
  replace H : ((pochoirref01_Div.f k a0_0 a0_1 a1).bind fun bt354 => (if (!(t349 == bt354.1) || (!(t350 == bt354.2.1))) = true then (pochoirlaw01_WideParts.j0 k a1 t351 bt354.2.2.2 true a0_0 a0_1 t349 t350) else (if t351 = bt354.2.2.1 then (pochoirlaw01_WideParts.j0 k a1 t351 bt354.2.2.2 (t352 != bt354.2.2.2) a0_0 a0_1 t349 t350) else (pochoirlaw01_WideParts.j0 k a1 t351 bt354.2.2.2 true a0_0 a0_1 t349 t350)))) = some r := H
  have A5 := Aside0.mk A50
  clear A50
  replace H := Option.bind_eq_some_iff.mp H
  obtain ⟨⟨t354, t355, t356, t357⟩, A60, H⟩ := H
  replace H : (if (!(t349 == t354) || (!(t350 == t355))) = true then (pochoirlaw01_WideParts.j0 k a1 t351 t357 true a0_0 a0_1 t349 t350) else (if t351 = t356 then (pochoirlaw01_WideParts.j0 k a1 t351 t357 (t352 != t357) a0_0 a0_1 t349 t350) else (pochoirlaw01_WideParts.j0 k a1 t351 t357 true a0_0 a0_1 t349 t350))) = some r := H
  have A6 := Aside0.mk A60
  clear A60
  have HC7 := Aside0.mk H
  clear H
  go_enter Try.func4, Try.ntmps4
  go_upto_region 5 with (first | ((with_reducible refine gate_dst (N := 2) rfl ?_); refine be 2 (#[.int .u64 a0_0, .int .u64 a0_1]) 24 ?_; intro gb347 hg w8 hbox hb; have BK347 := Aside0.mk (hbox); have GW347 := Aside0.mk ((by rw [hg]; exact (below_size (bl0 HB.out)) : w.heap.size ≤ gb347)); have GE347 := GW347; replace HB := Aside0.mk (below_step (bl0 HB.out) hb); clear hb hbox hg) | ((with_reducible refine gate_callee (f := 7) rfl ?_); refine goesL_ (some 15) rfl rfl Try.func7 (by kernel_rfl) rfl #[] rfl am ?_; (with_reducible refine (pochoirlaw01_awake.calls k  true _ A3.out).mono ?_); rintro e w9 ⟨rfl, hb⟩; refine ⟨_, rfl, ?_⟩; replace BK347 := Aside0.mk (bb BK347.out hb); replace HB := Aside0.mk (below_step (bl1 HB.out GE347.out) hb); (try clear hb); (try clear hb2); (try clear hk); (try clear hi); have hcz10_0 : w9.cell? ⟨gb347, 0, none⟩ = some (.int .u64 a0_0) := (blk_cell BK347.out 0).trans rfl; have hcz10_1 : w9.cell? ⟨gb347, 1, none⟩ = some (.int .u64 a0_1) := (blk_cell BK347.out 1).trans rfl; have hfz10_0 := blk_frozen BK347.out 0; have hfz10_1 := blk_frozen BK347.out 1) | ((with_reducible refine gate_callee (f := 10) rfl ?_); refine goesL_ (some 20) rfl rfl Try.func10 (by kernel_rfl) rfl #[.agg #[.int .u64 a0_0, .int .u64 a0_1], .int .u64 a1] rfl am ?_; (with_reducible refine (wide_Div.calls k a0_0 a0_1 a1 t349 t350 t351 t352 _ A5.out).mono ?_); rintro e w11 ⟨rfl, hb⟩; refine ⟨_, rfl, ?_⟩; replace BK347 := Aside0.mk (bb BK347.out hb); replace HB := Aside0.mk (below_step (bl1 HB.out GE347.out) hb); (try clear hb); (try clear hb2); (try clear hk); (try clear hi)) | ((with_reducible refine gate_dst (N := 5) rfl ?_); refine be 5 (#[.int .u64 0, .int .u64 0]) 24 ?_; intro gb353 hg w12 hbox hb; have BK353 := Aside0.mk (hbox); have GW353 := Aside0.mk ((by rw [hg]; exact (below_size (bl1 HB.out GE347.out)) : w.heap.size ≤ gb353)); have GE353 := GW353; have NB347_353 := Aside0.mk ((by rw [hg]; exact Nat.ne_of_lt (lt_ BK347.out) : gb347 ≠ gb353)); have NB353_347 := Aside0.mk ((by rw [hg]; exact Nat.ne_of_gt (lt_ BK347.out) : gb353 ≠ gb347)); replace BK347 := Aside0.mk (bb BK347.out hb); replace HB := Aside0.mk (below_step (bl1 HB.out GE347.out) hb); clear hb hbox hg; have hnb13 := NB353_347.out; have hnc13 := NB347_353.out; have hcz14_0 : w12.cell? ⟨gb353, 0, none⟩ = some (.int .u64 0) := (blk_cell BK353.out 0).trans rfl; have hcz14_1 : w12.cell? ⟨gb353, 1, none⟩ = some (.int .u64 0) := (blk_cell BK353.out 1).trans rfl; have hfz14_0 := blk_frozen BK353.out 0; have hfz14_1 := blk_frozen BK353.out 1; have hcz15_0 : w12.cell? ⟨gb347, 0, none⟩ = some (.int .u64 a0_0) := (blk_cell BK347.out 0).trans rfl; have hcz15_1 : w12.cell? ⟨gb347, 1, none⟩ = some (.int .u64 a0_1) := (blk_cell BK347.out 1).trans rfl; have hfz15_0 := blk_frozen BK347.out 0; have hfz15_1 := blk_frozen BK347.out 1) | ((with_reducible refine gate_callee (f := 11) rfl ?_); refine goesL_ (some 27) rfl rfl Try.func11 (by kernel_rfl) rfl #[.agg #[.int .u64 a0_0, .int .u64 a0_1], .int .u64 a1] rfl am ?_; (with_reducible refine (pochoirref01_Div.calls k a0_0 a0_1 a1 t354 t355 t356 t357 _ A6.out).mono ?_); rintro e w16 ⟨rfl, hb⟩; refine ⟨_, rfl, ?_⟩; replace BK347 := Aside0.mk (blk_below (g := gb347) (o := .cells #[.int .u64 a0_0, .int .u64 a0_1] 24 (0, 0)) (by (with_reducible repeat (first | refine blk_drewN ?_ _ | refine blk_drew ?_ | refine blk_alloc ?_ _)); refine blk_far ?_ NB347_353.out _; (with_reducible repeat (first | refine blk_drewN ?_ _ | refine blk_drew ?_ | refine blk_alloc ?_ _)); refine blk_far ?_ NB347_353.out _; (with_reducible repeat (first | refine blk_drewN ?_ _ | refine blk_drew ?_ | refine blk_alloc ?_ _)); exact BK347.out) hb); replace BK353 := Aside0.mk (blk_below (g := gb353) (o := .cells #[.int .u64 t349, .int .u64 t350] 24 (0, 0)) (bk (blk_put (cs := #[.int .u64 t349, .int .u64 0]) (bk (blk_put (cs := #[.int .u64 0, .int .u64 0]) (bk BK353.out) 0 _ rfl)) 1 _ rfl)) hb); replace HB := Aside0.mk (below_step (bl2 HB.out GE347.out GE353.out) hb); (try clear hb); (try clear hb2); (try clear hk); (try clear hi)) | ((with_reducible refine gate_dst (N := 8) rfl ?_); refine be 8 (#[.int .u64 0, .int .u64 0]) 24 ?_; intro gb358 hg w17 hbox hb; have BK358 := Aside0.mk (hbox); have GW358 := Aside0.mk ((by rw [hg]; exact (below_size (bl2 HB.out GE347.out GE353.out)) : w.heap.size ≤ gb358)); have GE358 := GW358; have NB347_358 := Aside0.mk ((by rw [hg]; exact Nat.ne_of_lt (lt_ BK347.out) : gb347 ≠ gb358)); have NB358_347 := Aside0.mk ((by rw [hg]; exact Nat.ne_of_gt (lt_ BK347.out) : gb358 ≠ gb347)); have NB353_358 := Aside0.mk ((by rw [hg]; exact Nat.ne_of_lt (lt_ BK353.out) : gb353 ≠ gb358)); have NB358_353 := Aside0.mk ((by rw [hg]; exact Nat.ne_of_gt (lt_ BK353.out) : gb358 ≠ gb353)); replace BK347 := Aside0.mk (bb BK347.out hb); replace BK353 := Aside0.mk (bb BK353.out hb); replace HB := Aside0.mk (below_step (bl2 HB.out GE347.out GE353.out) hb); clear hb hbox hg; have hnb18 := NB358_347.out; have hnc18 := NB347_358.out; have hnb19 := NB358_353.out; have hnc19 := NB353_358.out; have hcz20_0 : w17.cell? ⟨gb358, 0, none⟩ = some (.int .u64 0) := (blk_cell BK358.out 0).trans rfl; have hcz20_1 : w17.cell? ⟨gb358, 1, none⟩ = some (.int .u64 0) := (blk_cell BK358.out 1).trans rfl; have hfz20_0 := blk_frozen BK358.out 0; have hfz20_1 := blk_frozen BK358.out 1))
  (try simp only [Act.put, List.setIfInBounds_toArray, List.set_cons_zero, List.set_cons_succ])
  go_cut [43] (fun v43 wc => ∃ (kq : Nat) (x43_6 : Bool), v43 = .bool x43_6 ∧ Aside0 (pochoirlaw01_WideParts.j0 kq a1 t351 t357 x43_6 a0_0 a0_1 t349 t350 = some r) ∧ Aside0 (kq ≤ k) ∧ Aside0 (wc.heap[gb347]? = some (.cells #[.int .u64 a0_0, .int .u64 a0_1] 24 (0, 0))) ∧ Aside0 (wc.heap[gb353]? = some (.cells #[.int .u64 t349, .int .u64 t350] 24 (0, 0))) ∧ Aside0 (wc.heap[gb358]? = some (.cells #[.int .u64 t354, .int .u64 t355] 24 (0, 0))) ∧ Aside0 (Below w.heap.size w wc))
  case first =>
   have H := HC7.out
   clear HC7
   by_cases c21 : (!(t349 == t354) || (!(t350 == t355))) = true
   ·rw [if_pos c21] at H
    have c21b0 : (!(t349 == t354) || (!(t350 == t355))) = true := c21
    clear c21
    (first | rw [c21b0] | (simp only [i64_w, i32_w]; rw [c21b0]) | skip)
    exact absurd (HQ.out ▸ H) (by cases k <;> (rw [pochoirlaw01_WideParts.j0]; simp))
   ·rw [if_neg c21] at H
    have c21b0 : (!(t349 == t354) || (!(t350 == t355))) = false := by simpa using c21
    clear c21
    (first | rw [c21b0] | (simp only [i64_w, i32_w]; rw [c21b0]) | skip)
    by_cases c22 : t351 = t356
    ·rw [if_pos c22] at H
     have c22b0 : (t351 == t356) = true := beq_iff_eq.mpr c22
     have c22b1 : (t351 != t356) = false := bne_eq_false_iff_eq.mpr c22
     clear c22
     have H' := Aside0.mk H
     clear H
     have hnb23 := NB353_347.out
     have hnc23 := NB347_353.out
     have hnb24 := NB353_358.out
     have hnc24 := NB358_353.out
     have hcz25_0 : w17.cell? ⟨gb353, 0, none⟩ = some (.int .u64 t349) := (blk_cell BK353.out 0).trans rfl
     have hcz25_1 : w17.cell? ⟨gb353, 1, none⟩ = some (.int .u64 t350) := (blk_cell BK353.out 1).trans rfl
     have hfz25_0 := blk_frozen BK353.out 0
     have hfz25_1 := blk_frozen BK353.out 1
     have hnb26 := NB358_347.out
     have hnc26 := NB347_358.out
     have hcz27_0 : w17.cell? ⟨gb358, 0, none⟩ = some (.int .u64 0) := (blk_cell BK358.out 0).trans rfl
     have hcz27_1 : w17.cell? ⟨gb358, 1, none⟩ = some (.int .u64 0) := (blk_cell BK358.out 1).trans rfl
     have hfz27_0 := blk_frozen BK358.out 0
     have hfz27_1 := blk_frozen BK358.out 1
     go_wp2
     go_meet
     case rel => exact ⟨_, ((t352 != t357)), fr, H', ⟨by first | omega | exact Nat.le_refl _⟩, ⟨by (with_reducible repeat (first | refine blk_drewN ?_ _ | refine blk_drew ?_ | refine blk_alloc ?_ _)); refine blk_far ?_ NB347_358.out _; (with_reducible repeat (first | refine blk_drewN ?_ _ | refine blk_drew ?_ | refine blk_alloc ?_ _)); refine blk_far ?_ NB347_358.out _; (with_reducible repeat (first | refine blk_drewN ?_ _ | refine blk_drew ?_ | refine blk_alloc ?_ _)); exact BK347.out⟩, ⟨by (with_reducible repeat (first | refine blk_drewN ?_ _ | refine blk_drew ?_ | refine blk_alloc ?_ _)); refine blk_far ?_ NB353_358.out _; (with_reducible repeat (first | refine blk_drewN ?_ _ | refine blk_drew ?_ | refine blk_alloc ?_ _)); refine blk_far ?_ NB353_358.out _; (with_reducible repeat (first | refine blk_drewN ?_ _ | refine blk_drew ?_ | refine blk_alloc ?_ _)); exact BK353.out⟩, ⟨by (with_reducible repeat (first | refine blk_drewN ?_ _ | refine blk_drew ?_ | refine blk_alloc ?_ _)); refine blk_put (cs := #[.int .u64 t354, .int .u64 0]) ?_ 1 _ rfl; (with_reducible repeat (first | refine blk_drewN ?_ _ | refine blk_drew ?_ | refine blk_alloc ?_ _)); refine blk_put (cs := #[.int .u64 0, .int .u64 0]) ?_ 0 _ rfl; (with_reducible repeat (first | refine blk_drewN ?_ _ | refine blk_drew ?_ | refine blk_alloc ?_ _)); exact BK358.out⟩, ⟨bl3 HB.out GE347.out GE353.out GE358.out⟩⟩
    ·rw [if_neg c22] at H
     have c22b0 : (t351 == t356) = false := beq_eq_false_iff_ne.mpr c22
     have c22b1 : (t351 != t356) = true := bne_iff_ne.mpr c22
     exact absurd (HQ.out ▸ H) (by cases k <;> (rw [pochoirlaw01_WideParts.j0]; simp))
  case rest =>
   clear HC7
   try clear c1
   try clear c2
   try clear p2
   try clear c4
   try clear c7
   try clear c10
   try clear c11
   try clear c13
   try clear c18
   try clear c19
   try clear c21
   try clear c21b0
   try clear c22
   try clear c22b0
   try clear c22b1
   try clear c23
   try clear c24
   try clear c26
   try clear hcz10_0
   try clear hcz10_1
   try clear hcz14_0
   try clear hcz14_1
   try clear hcz15_0
   try clear hcz15_1
   try clear hcz20_0
   try clear hcz20_1
   try clear hcz25_0
   try clear hcz25_1
   try clear hcz27_0
   try clear hcz27_1
   try clear hfz10_0
   try clear hfz10_1
   try clear hfz14_0
   try clear hfz14_1
   try clear hfz15_0
   try clear hfz15_1
   try clear hfz20_0
   try clear hfz20_1
   try clear hfz25_0
   try clear hfz25_1
   try clear hfz27_0
   try clear hfz27_1
   obtain ⟨kq, x43_6, rfl, HA, HJ6, BK347, BK353, BK358, HB⟩ := hcut
   cases kq with
   | zero => exact absurd HA.out (by simp [pochoirlaw01_WideParts.j0])
   | succ kj6 =>
    have H := HA.out
    clear HA
    simp only [pochoirlaw01_WideParts.j0] at H
    by_cases c28 : x43_6 = true
    ·subst c28
     have H1 : (some false) = some r := by rw [if_pos rfl] at H; exact H
     clear H
     have H := H1
     clear H1
     exact absurd (HQ.out ▸ H) (by simp)
    ·replace c28 := Bool.eq_false_iff.mpr c28
     subst c28
     have H1 : (if t357 = 0 then ((wide_Scale.f t349 t350 a1).bind fun bt359 => ((wide_Of.f t351).bind fun bt363 => ((wide_Add.f bt359.1 bt359.2.1 bt363.1 bt363.2).bind fun bt365 => (if bt359.2.2 = 0 then (if bt365.2.2 = 0 then (if (bt365.1 == a0_0 && (bt365.2.1 == a0_1)) = true then (some (decide (t351 < a1))) else (some false)) else (some false)) else (some false))))) else (some true)) = some r := by rw [if_neg (show ¬ (false = true) by decide)] at H; exact H
     clear H
     have H := H1
     clear H1
     by_cases c29 : t357 = 0
     ·rw [if_pos c29] at H
      have c29b0 : (t357 == 0) = true := beq_iff_eq.mpr c29
      have c29b1 : (t357 != 0) = false := bne_eq_false_iff_eq.mpr c29
      clear c29
      replace H := Option.bind_eq_some_iff.mp H
      obtain ⟨⟨t359, t360, t361⟩, A300, H⟩ := H
      replace H : ((wide_Of.f t351).bind fun bt363 => ((wide_Add.f t359 t360 bt363.1 bt363.2).bind fun bt365 => (if t361 = 0 then (if bt365.2.2 = 0 then (if (bt365.1 == a0_0 && (bt365.2.1 == a0_1)) = true then (some (decide (t351 < a1))) else (some false)) else (some false)) else (some false)))) = some r := H
      have A30 := Aside0.mk A300
      clear A300
      replace H := Option.bind_eq_some_iff.mp H
      obtain ⟨⟨t363, t364⟩, A310, H⟩ := H
      replace H : ((wide_Add.f t359 t360 t363 t364).bind fun bt365 => (if t361 = 0 then (if bt365.2.2 = 0 then (if (bt365.1 == a0_0 && (bt365.2.1 == a0_1)) = true then (some (decide (t351 < a1))) else (some false)) else (some false)) else (some false))) = some r := H
      have A31 := Aside0.mk A310
      clear A310
      replace H := Option.bind_eq_some_iff.mp H
      obtain ⟨⟨t365, t366, t367⟩, A320, H⟩ := H
      replace H : (if t361 = 0 then (if t367 = 0 then (if (t365 == a0_0 && (t366 == a0_1)) = true then (some (decide (t351 < a1))) else (some false)) else (some false)) else (some false)) = some r := H
      have A32 := Aside0.mk A320
      clear A320
      by_cases c33 : t361 = 0
      ·rw [if_pos c33] at H
       have c33b0 : (t361 == 0) = true := beq_iff_eq.mpr c33
       have c33b1 : (t361 != 0) = false := bne_eq_false_iff_eq.mpr c33
       clear c33
       by_cases c34 : t367 = 0
       ·rw [if_pos c34] at H
        have c34b0 : (t367 == 0) = true := beq_iff_eq.mpr c34
        have c34b1 : (t367 != 0) = false := bne_eq_false_iff_eq.mpr c34
        clear c34
        by_cases c35 : (t365 == a0_0 && (t366 == a0_1)) = true
        ·rw [if_pos c35] at H
         have c35b0 : (t365 == a0_0 && (t366 == a0_1)) = true := c35
         (try (have c35b1 : decide (t365 = a0_0 && (t366 == a0_1)) = true := by simpa using c35))
         (try (have c35b2 : (t365 == a0_0 && (t366 == a0_1)) = true := by simpa using c35))
         clear c35
         obtain rfl := Option.some.inj H
         have hnb36 := NB353_347.out
         have hnc36 := NB347_353.out
         have hnb37 := NB353_358.out
         have hnc37 := NB358_353.out
         have hcz38_0 : wc.cell? ⟨gb353, 0, none⟩ = some (.int .u64 t349) := (blk_cell BK353.out 0).trans rfl
         have hcz38_1 : wc.cell? ⟨gb353, 1, none⟩ = some (.int .u64 t350) := (blk_cell BK353.out 1).trans rfl
         have hfz38_0 := blk_frozen BK353.out 0
         have hfz38_1 := blk_frozen BK353.out 1
         try go_wp2_with (first | ((with_reducible refine gate_callee (f := 12) rfl ?_); refine goesL_ (some 49) rfl rfl Try.func12 (by kernel_rfl) rfl #[.agg #[.int .u64 t349, .int .u64 t350], .int .u64 a1] rfl am ?_; (with_reducible refine (wide_Scale.calls t349 t350 a1 t359 t360 t361 _ A30.out).mono ?_); rintro e w39 ⟨rfl, hb⟩; refine ⟨_, rfl, ?_⟩; replace BK347 := Aside0.mk (bb BK347.out hb); replace BK353 := Aside0.mk (bb BK353.out hb); replace BK358 := Aside0.mk (bb BK358.out hb); replace HB := Aside0.mk (below_step (bl3 HB.out GE347.out GE353.out GE358.out) hb); (try clear hb); (try clear hb2); (try clear hk); (try clear hi)) | ((with_reducible refine gate_dst (N := 11) rfl ?_); refine be 11 (#[.int .u64 0, .int .u64 0]) 24 ?_; intro gb362 hg w40 hbox hb; have BK362 := Aside0.mk (hbox); have GW362 := Aside0.mk ((by rw [hg]; exact (below_size (bl3 HB.out GE347.out GE353.out GE358.out)) : w.heap.size ≤ gb362)); have GE362 := GW362; have NB347_362 := Aside0.mk ((by rw [hg]; exact Nat.ne_of_lt (lt_ BK347.out) : gb347 ≠ gb362)); have NB362_347 := Aside0.mk ((by rw [hg]; exact Nat.ne_of_gt (lt_ BK347.out) : gb362 ≠ gb347)); have NB353_362 := Aside0.mk ((by rw [hg]; exact Nat.ne_of_lt (lt_ BK353.out) : gb353 ≠ gb362)); have NB362_353 := Aside0.mk ((by rw [hg]; exact Nat.ne_of_gt (lt_ BK353.out) : gb362 ≠ gb353)); have NB358_362 := Aside0.mk ((by rw [hg]; exact Nat.ne_of_lt (lt_ BK358.out) : gb358 ≠ gb362)); have NB362_358 := Aside0.mk ((by rw [hg]; exact Nat.ne_of_gt (lt_ BK358.out) : gb362 ≠ gb358)); replace BK347 := Aside0.mk (bb BK347.out hb); replace BK353 := Aside0.mk (bb BK353.out hb); replace BK358 := Aside0.mk (bb BK358.out hb); replace HB := Aside0.mk (below_step (bl3 HB.out GE347.out GE353.out GE358.out) hb); clear hb hbox hg; have hnb41 := NB362_347.out; have hnc41 := NB347_362.out; have hnb42 := NB362_353.out; have hnc42 := NB353_362.out; have hnb43 := NB362_358.out; have hnc43 := NB358_362.out; have hcz44_0 : w40.cell? ⟨gb362, 0, none⟩ = some (.int .u64 0) := (blk_cell BK362.out 0).trans rfl; have hcz44_1 : w40.cell? ⟨gb362, 1, none⟩ = some (.int .u64 0) := (blk_cell BK362.out 1).trans rfl; have hfz44_0 := blk_frozen BK362.out 0; have hfz44_1 := blk_frozen BK362.out 1))
         have n0_ : Aside0 (((w40.setCell ⟨gb362, 0, none⟩ (.int .u64 t359)).setCell ⟨gb362, 1, none⟩ (.int .u64 t360)).heap[gb347]? = some (.cells #[.int .u64 a0_0, .int .u64 a0_1] 24 (0, 0))) := ⟨by (with_reducible repeat (first | refine blk_drewN ?_ _ | refine blk_drew ?_ | refine blk_alloc ?_ _)); refine blk_far ?_ NB347_362.out _; (with_reducible repeat (first | refine blk_drewN ?_ _ | refine blk_drew ?_ | refine blk_alloc ?_ _)); refine blk_far ?_ NB347_362.out _; (with_reducible repeat (first | refine blk_drewN ?_ _ | refine blk_drew ?_ | refine blk_alloc ?_ _)); exact BK347.out⟩
         have n1_ : Aside0 (((w40.setCell ⟨gb362, 0, none⟩ (.int .u64 t359)).setCell ⟨gb362, 1, none⟩ (.int .u64 t360)).heap[gb353]? = some (.cells #[.int .u64 t349, .int .u64 t350] 24 (0, 0))) := ⟨by (with_reducible repeat (first | refine blk_drewN ?_ _ | refine blk_drew ?_ | refine blk_alloc ?_ _)); refine blk_far ?_ NB353_362.out _; (with_reducible repeat (first | refine blk_drewN ?_ _ | refine blk_drew ?_ | refine blk_alloc ?_ _)); refine blk_far ?_ NB353_362.out _; (with_reducible repeat (first | refine blk_drewN ?_ _ | refine blk_drew ?_ | refine blk_alloc ?_ _)); exact BK353.out⟩
         have n2_ : Aside0 (((w40.setCell ⟨gb362, 0, none⟩ (.int .u64 t359)).setCell ⟨gb362, 1, none⟩ (.int .u64 t360)).heap[gb358]? = some (.cells #[.int .u64 t354, .int .u64 t355] 24 (0, 0))) := ⟨by (with_reducible repeat (first | refine blk_drewN ?_ _ | refine blk_drew ?_ | refine blk_alloc ?_ _)); refine blk_far ?_ NB358_362.out _; (with_reducible repeat (first | refine blk_drewN ?_ _ | refine blk_drew ?_ | refine blk_alloc ?_ _)); refine blk_far ?_ NB358_362.out _; (with_reducible repeat (first | refine blk_drewN ?_ _ | refine blk_drew ?_ | refine blk_alloc ?_ _)); exact BK358.out⟩
         have n3_ : Aside0 (((w40.setCell ⟨gb362, 0, none⟩ (.int .u64 t359)).setCell ⟨gb362, 1, none⟩ (.int .u64 t360)).heap[gb362]? = some (.cells #[.int .u64 t359, .int .u64 t360] 24 (0, 0))) := ⟨by (with_reducible repeat (first | refine blk_drewN ?_ _ | refine blk_drew ?_ | refine blk_alloc ?_ _)); refine blk_put (cs := #[.int .u64 t359, .int .u64 0]) ?_ 1 _ rfl; (with_reducible repeat (first | refine blk_drewN ?_ _ | refine blk_drew ?_ | refine blk_alloc ?_ _)); refine blk_put (cs := #[.int .u64 0, .int .u64 0]) ?_ 0 _ rfl; (with_reducible repeat (first | refine blk_drewN ?_ _ | refine blk_drew ?_ | refine blk_alloc ?_ _)); exact BK362.out⟩
         have n4_ : Aside0 (Below w.heap.size w ((w40.setCell ⟨gb362, 0, none⟩ (.int .u64 t359)).setCell ⟨gb362, 1, none⟩ (.int .u64 t360))) := ⟨bl4 HB.out GE347.out GE353.out GE358.out GE362.out⟩
         (try clear BK347)
         (try clear BK353)
         (try clear BK358)
         (try clear BK362)
         (try clear HB)
         generalize ((w40.setCell ⟨gb362, 0, none⟩ (.int .u64 t359)).setCell ⟨gb362, 1, none⟩ (.int .u64 t360)) = w45 at n0_ n1_ n2_ n3_ n4_ ⊢
         have BK347 := n0_
         have BK353 := n1_
         have BK358 := n2_
         have BK362 := n3_
         have HB := n4_
         clear n0_ n1_ n2_ n3_ n4_
         replace BK347 := Aside0.mk (blk_drew BK347.out)
         replace BK353 := Aside0.mk (blk_drew BK353.out)
         replace BK358 := Aside0.mk (blk_drew BK358.out)
         replace BK362 := Aside0.mk (blk_drew BK362.out)
         replace HB := Aside0.mk (below_drew1 HB.out)
         refine start_ (n := 10) (S := fun w' => w'.cell? ⟨gb362, 0, none⟩ = some (.int .u64 t359) ∧ w'.cell? ⟨gb362, 1, none⟩ = some (.int .u64 t360)) (ds := []) (ba 10 0) (by kernel_rfl) rfl rfl ⟨(blk_cell BK362.out 0).trans rfl, (blk_cell BK362.out 1).trans rfl⟩ (fun hHeld => ?_); refine with_tabW pochoirlaw01_WideParts.tab10 pochoirlaw01_WideParts.bits10 (fun HT_ HW_ => ?_)
         generalize w45.drew = w46 at BK347 BK353 BK358 BK362 HB hHeld ⊢
         refine pI 1 54 (ba 10 2) HT_.out ?_
         refine take_ (i := 0) (N := some 53) (v := ?_) (a' := ?_) (ba 10 3) rfl rfl (take_ofW HT_.out HW_.out (by kernel_rfl)) (fun _ _ _ h => h) (Or.inl ⟨by rfl, ?_⟩) hHeld ?_ ?_
         rotate_left
         ·rintro w' ⟨s0, s1⟩
          go_simp
          with_reducible rfl
         rotate_left
         ·simp only [Act.put, List.setIfInBounds_toArray, List.set_cons_zero, List.set_cons_succ, i64_w, i32_w]
          rfl
         refine join_ (σ := Nat) 2 (ba 10 255) (fun s_ => [(55, .agg #[.int .u64 t363, .int .u64 t364]), (56, .tuple #[.agg #[.int .u64 t365, .int .u64 t366], .int .i64 t367]), (13, .pointer (some ⟨s_, 0, none⟩)), (52, .tuple #[.agg #[.int .u64 t365, .int .u64 t366], .int .i64 t367]), (57, .agg #[.int .u64 t365, .int .u64 t366]), (58, .int .i64 t367)]) (fun s_ w' => (w'.cell? ⟨gb362, 0, none⟩ = some (.int .u64 t359) ∧ w'.cell? ⟨gb362, 1, none⟩ = some (.int .u64 t360)) ∧ (w'.heap[gb347]? = some (.cells #[.int .u64 a0_0, .int .u64 a0_1] 24 (0, 0))) ∧ (w'.heap[gb353]? = some (.cells #[.int .u64 t349, .int .u64 t350] 24 (0, 0))) ∧ (w'.heap[gb358]? = some (.cells #[.int .u64 t354, .int .u64 t355] 24 (0, 0))) ∧ (w'.heap[gb362]? = some (.cells #[.int .u64 t359, .int .u64 t360] 24 (0, 0))) ∧ (w'.heap[s_]? = some (.cells #[.int .u64 0, .int .u64 0] 24 (0, 0))) ∧ (w.heap.size ≤ s_) ∧ (w.heap.size ≤ s_) ∧ (gb347 ≠ s_) ∧ (s_ ≠ gb347) ∧ (gb353 ≠ s_) ∧ (s_ ≠ gb353) ∧ (gb358 ≠ s_) ∧ (s_ ≠ gb358) ∧ (gb362 ≠ s_) ∧ (s_ ≠ gb362) ∧ (Below w.heap.size w w')) ?_ ?_
         rotate_left
         ·intro hCont
          refine two_ (i := 2) (j := 7) (Ni := some 55) (Nj := some 13) (ba 10 7) (ba 10 131) rfl rfl rfl rfl (two_of HT_.out (by kernel_rfl)) (by decide) (by decide) (fun K hK => ?_) (fun K hK => ?_)
          ·skip
           refine goes_ Try.func14 (by kernel_rfl) rfl #[.int .u64 t351] (by rfl) rfl rfl am ?_
           with_reducible refine (wide_Of.calls t351 t363 t364 _ A31.out).mono ?_
           rintro e w47 ⟨rfl, hb⟩
           refine ⟨_, rfl, ?_⟩
           replace BK347 := Aside0.mk (bb BK347.out hb)
           replace BK353 := Aside0.mk (bb BK353.out hb)
           replace BK358 := Aside0.mk (bb BK358.out hb)
           replace BK362 := Aside0.mk (bb BK362.out hb)
           replace HB := Aside0.mk (below_step (bl4 HB.out GE347.out GE353.out GE358.out GE362.out) hb)
           (try clear hb)
           (try clear hb2)
           (try clear hk)
           (try clear hi)
           refine hK.out _ _ ⟨(blk_cell BK362.out 0).trans rfl, (blk_cell BK362.out 1).trans rfl⟩ (fun hHeld => ?_)
           clear hK K
           refine norm_ (a' := ?_) ?_ ?_
           rotate_left
           ·show Act.put _ (some 55) _ = _
            simp only [Act.put, List.setIfInBounds_toArray, List.set_cons_zero, List.set_cons_succ, i64_w, i32_w]
            rfl
           refine two_ (i := 3) (j := 7) (Ni := some 56) (Nj := some 13) (ba 10 15) (ba 10 135) rfl rfl rfl rfl (two_of HT_.out (by kernel_rfl)) (by decide) (by decide) (fun K hK => ?_) (fun K hK => ?_)
           ·skip
            refine goes_ Try.func13 (by kernel_rfl) rfl #[.agg #[.int .u64 t359, .int .u64 t360], .agg #[.int .u64 t363, .int .u64 t364]] (by rfl) rfl rfl am ?_
            with_reducible refine (wide_Add.calls t359 t360 t363 t364 t365 t366 t367 _ A32.out).mono ?_
            rintro e w48 ⟨rfl, hb⟩
            refine ⟨_, rfl, ?_⟩
            replace BK347 := Aside0.mk (bb BK347.out hb)
            replace BK353 := Aside0.mk (bb BK353.out hb)
            replace BK358 := Aside0.mk (bb BK358.out hb)
            replace BK362 := Aside0.mk (bb BK362.out hb)
            replace HB := Aside0.mk (below_step (bl4 HB.out GE347.out GE353.out GE358.out GE362.out) hb)
            (try clear hb)
            (try clear hb2)
            (try clear hk)
            (try clear hi)
            refine hK.out _ _ ⟨(blk_cell BK362.out 0).trans rfl, (blk_cell BK362.out 1).trans rfl⟩ (fun hHeld => ?_)
            clear hK K
            refine norm_ (a' := ?_) ?_ ?_
            rotate_left
            ·show Act.put _ (some 56) _ = _
             simp only [Act.put, List.setIfInBounds_toArray, List.set_cons_zero, List.set_cons_succ, i64_w, i32_w]
             rfl
            refine pI 4 52 (ba 10 31) HT_.out ?_
            refine pI 5 57 (ba 10 63) HT_.out ?_
            refine pI 6 58 (ba 10 127) HT_.out ?_
            refine one_ (i := 7) (N := some 13) (ba 10 255) rfl rfl (one_of HT_.out (by kernel_rfl)) (by decide) (fun K hK => ?_)
            refine box_step ?hg (N := 13) ?hd (cs := #[.int .u64 0, .int .u64 0]) (t := 24) ?hr ?_; (case hd => rfl); (case hg => rfl); (case hr => first | (go_simp; done) | (go_simp; rfl))
            intro gb368 hg w49 hbox hb
            have BK368 := Aside0.mk (hbox)
            have GW368 := Aside0.mk ((by rw [hg]; exact (below_size (bl4 HB.out GE347.out GE353.out GE358.out GE362.out)) : w.heap.size ≤ gb368))
            have GE368 := Aside0.mk ((by rw [hg]; exact (below_size (bl4 HB.out GE347.out GE353.out GE358.out GE362.out)) : w.heap.size ≤ gb368))
            have NB347_368 := Aside0.mk ((by rw [hg]; exact Nat.ne_of_lt (lt_ BK347.out) : gb347 ≠ gb368))
            have NB368_347 := Aside0.mk ((by rw [hg]; exact Nat.ne_of_gt (lt_ BK347.out) : gb368 ≠ gb347))
            have NB353_368 := Aside0.mk ((by rw [hg]; exact Nat.ne_of_lt (lt_ BK353.out) : gb353 ≠ gb368))
            have NB368_353 := Aside0.mk ((by rw [hg]; exact Nat.ne_of_gt (lt_ BK353.out) : gb368 ≠ gb353))
            have NB358_368 := Aside0.mk ((by rw [hg]; exact Nat.ne_of_lt (lt_ BK358.out) : gb358 ≠ gb368))
            have NB368_358 := Aside0.mk ((by rw [hg]; exact Nat.ne_of_gt (lt_ BK358.out) : gb368 ≠ gb358))
            have NB362_368 := Aside0.mk ((by rw [hg]; exact Nat.ne_of_lt (lt_ BK362.out) : gb362 ≠ gb368))
            have NB368_362 := Aside0.mk ((by rw [hg]; exact Nat.ne_of_gt (lt_ BK362.out) : gb368 ≠ gb362))
            replace BK347 := Aside0.mk (bb BK347.out hb)
            replace BK353 := Aside0.mk (bb BK353.out hb)
            replace BK358 := Aside0.mk (bb BK358.out hb)
            replace BK362 := Aside0.mk (bb BK362.out hb)
            replace HB := Aside0.mk (below_step (bl4 HB.out GE347.out GE353.out GE358.out GE362.out) hb)
            clear hb hbox hg
            refine hK.out _ _ ⟨(blk_cell BK362.out 0).trans rfl, (blk_cell BK362.out 1).trans rfl⟩ (fun hHeld => ?_)
            clear hK K
            refine norm_ (a' := ?_) ?_ ?_
            rotate_left
            ·show Act.put _ (some 13) _ = _
             simp only [Act.put, List.setIfInBounds_toArray, List.set_cons_zero, List.set_cons_succ, i64_w, i32_w]
             rfl
            exact norm_ (by simp only [putAll, Act.put, List.setIfInBounds_toArray, List.set_cons_zero, List.set_cons_succ]) (hCont (gb368) _ ⟨hHeld, (bk BK347.out), (bk BK353.out), (bk BK358.out), (bk BK362.out), (bk BK368.out), GW368.out, GE368.out, NB347_368.out, NB368_347.out, NB353_368.out, NB368_353.out, NB358_368.out, NB368_358.out, NB362_368.out, NB368_362.out, (bl5 HB.out GE347.out GE353.out GE358.out GE362.out GE368.out)⟩)
           ·skip
            refine box_step ?hg (N := 13) ?hd (cs := #[.int .u64 0, .int .u64 0]) (t := 24) ?hr ?_; (case hd => rfl); (case hg => rfl); (case hr => first | (go_simp; done) | (go_simp; rfl))
            intro gb368 hg w48 hbox hb
            have BK368 := Aside0.mk (hbox)
            have GW368 := Aside0.mk ((by rw [hg]; exact (below_size (bl4 HB.out GE347.out GE353.out GE358.out GE362.out)) : w.heap.size ≤ gb368))
            have GE368 := Aside0.mk ((by rw [hg]; exact (below_size (bl4 HB.out GE347.out GE353.out GE358.out GE362.out)) : w.heap.size ≤ gb368))
            have NB347_368 := Aside0.mk ((by rw [hg]; exact Nat.ne_of_lt (lt_ BK347.out) : gb347 ≠ gb368))
            have NB368_347 := Aside0.mk ((by rw [hg]; exact Nat.ne_of_gt (lt_ BK347.out) : gb368 ≠ gb347))
            have NB353_368 := Aside0.mk ((by rw [hg]; exact Nat.ne_of_lt (lt_ BK353.out) : gb353 ≠ gb368))
            have NB368_353 := Aside0.mk ((by rw [hg]; exact Nat.ne_of_gt (lt_ BK353.out) : gb368 ≠ gb353))
            have NB358_368 := Aside0.mk ((by rw [hg]; exact Nat.ne_of_lt (lt_ BK358.out) : gb358 ≠ gb368))
            have NB368_358 := Aside0.mk ((by rw [hg]; exact Nat.ne_of_gt (lt_ BK358.out) : gb368 ≠ gb358))
            have NB362_368 := Aside0.mk ((by rw [hg]; exact Nat.ne_of_lt (lt_ BK362.out) : gb362 ≠ gb368))
            have NB368_362 := Aside0.mk ((by rw [hg]; exact Nat.ne_of_gt (lt_ BK362.out) : gb368 ≠ gb362))
            replace BK347 := Aside0.mk (bb BK347.out hb)
            replace BK353 := Aside0.mk (bb BK353.out hb)
            replace BK358 := Aside0.mk (bb BK358.out hb)
            replace BK362 := Aside0.mk (bb BK362.out hb)
            replace HB := Aside0.mk (below_step (bl4 HB.out GE347.out GE353.out GE358.out GE362.out) hb)
            clear hb hbox hg
            refine hK.out _ _ ⟨(blk_cell BK362.out 0).trans rfl, (blk_cell BK362.out 1).trans rfl⟩ (fun hHeld => ?_)
            clear hK K
            refine norm_ (a' := ?_) ?_ ?_
            rotate_left
            ·show Act.put _ (some 13) _ = _
             simp only [Act.put, List.setIfInBounds_toArray, List.set_cons_zero, List.set_cons_succ, i64_w, i32_w]
             rfl
            refine one_ (i := 3) (N := some 56) (ba 10 143) rfl rfl (one_of HT_.out (by kernel_rfl)) (by decide) (fun K hK => ?_)
            refine goes_ Try.func13 (by kernel_rfl) rfl #[.agg #[.int .u64 t359, .int .u64 t360], .agg #[.int .u64 t363, .int .u64 t364]] (by rfl) rfl rfl am ?_
            with_reducible refine (wide_Add.calls t359 t360 t363 t364 t365 t366 t367 _ A32.out).mono ?_
            rintro e w49 ⟨rfl, hb⟩
            refine ⟨_, rfl, ?_⟩
            replace BK347 := Aside0.mk (bb BK347.out hb)
            replace BK353 := Aside0.mk (bb BK353.out hb)
            replace BK358 := Aside0.mk (bb BK358.out hb)
            replace BK362 := Aside0.mk (bb BK362.out hb)
            replace BK368 := Aside0.mk (bb BK368.out hb)
            replace HB := Aside0.mk (below_step (bl5 HB.out GE347.out GE353.out GE358.out GE362.out GE368.out) hb)
            (try clear hb)
            (try clear hb2)
            (try clear hk)
            (try clear hi)
            refine hK.out _ _ ⟨(blk_cell BK362.out 0).trans rfl, (blk_cell BK362.out 1).trans rfl⟩ (fun hHeld => ?_)
            clear hK K
            refine norm_ (a' := ?_) ?_ ?_
            rotate_left
            ·show Act.put _ (some 56) _ = _
             simp only [Act.put, List.setIfInBounds_toArray, List.set_cons_zero, List.set_cons_succ, i64_w, i32_w]
             rfl
            refine pI 4 52 (ba 10 159) HT_.out ?_
            refine pI 5 57 (ba 10 191) HT_.out ?_
            refine pI 6 58 (ba 10 255) HT_.out ?_
            exact norm_ (by simp only [putAll, Act.put, List.setIfInBounds_toArray, List.set_cons_zero, List.set_cons_succ]) (hCont (gb368) _ ⟨hHeld, (bk BK347.out), (bk BK353.out), (bk BK358.out), (bk BK362.out), (bk BK368.out), GW368.out, GE368.out, NB347_368.out, NB368_347.out, NB353_368.out, NB368_353.out, NB358_368.out, NB368_358.out, NB362_368.out, NB368_362.out, (bl5 HB.out GE347.out GE353.out GE358.out GE362.out GE368.out)⟩)
          ·skip
           refine box_step ?hg (N := 13) ?hd (cs := #[.int .u64 0, .int .u64 0]) (t := 24) ?hr ?_; (case hd => rfl); (case hg => rfl); (case hr => first | (go_simp; done) | (go_simp; rfl))
           intro gb368 hg w47 hbox hb
           have BK368 := Aside0.mk (hbox)
           have GW368 := Aside0.mk ((by rw [hg]; exact (below_size (bl4 HB.out GE347.out GE353.out GE358.out GE362.out)) : w.heap.size ≤ gb368))
           have GE368 := Aside0.mk ((by rw [hg]; exact (below_size (bl4 HB.out GE347.out GE353.out GE358.out GE362.out)) : w.heap.size ≤ gb368))
           have NB347_368 := Aside0.mk ((by rw [hg]; exact Nat.ne_of_lt (lt_ BK347.out) : gb347 ≠ gb368))
           have NB368_347 := Aside0.mk ((by rw [hg]; exact Nat.ne_of_gt (lt_ BK347.out) : gb368 ≠ gb347))
           have NB353_368 := Aside0.mk ((by rw [hg]; exact Nat.ne_of_lt (lt_ BK353.out) : gb353 ≠ gb368))
           have NB368_353 := Aside0.mk ((by rw [hg]; exact Nat.ne_of_gt (lt_ BK353.out) : gb368 ≠ gb353))
           have NB358_368 := Aside0.mk ((by rw [hg]; exact Nat.ne_of_lt (lt_ BK358.out) : gb358 ≠ gb368))
           have NB368_358 := Aside0.mk ((by rw [hg]; exact Nat.ne_of_gt (lt_ BK358.out) : gb368 ≠ gb358))
           have NB362_368 := Aside0.mk ((by rw [hg]; exact Nat.ne_of_lt (lt_ BK362.out) : gb362 ≠ gb368))
           have NB368_362 := Aside0.mk ((by rw [hg]; exact Nat.ne_of_gt (lt_ BK362.out) : gb368 ≠ gb362))
           replace BK347 := Aside0.mk (bb BK347.out hb)
           replace BK353 := Aside0.mk (bb BK353.out hb)
           replace BK358 := Aside0.mk (bb BK358.out hb)
           replace BK362 := Aside0.mk (bb BK362.out hb)
           replace HB := Aside0.mk (below_step (bl4 HB.out GE347.out GE353.out GE358.out GE362.out) hb)
           clear hb hbox hg
           refine hK.out _ _ ⟨(blk_cell BK362.out 0).trans rfl, (blk_cell BK362.out 1).trans rfl⟩ (fun hHeld => ?_)
           clear hK K
           refine norm_ (a' := ?_) ?_ ?_
           rotate_left
           ·show Act.put _ (some 13) _ = _
            simp only [Act.put, List.setIfInBounds_toArray, List.set_cons_zero, List.set_cons_succ, i64_w, i32_w]
            rfl
           refine one_ (i := 2) (N := some 55) (ba 10 135) rfl rfl (one_of HT_.out (by kernel_rfl)) (by decide) (fun K hK => ?_)
           refine goes_ Try.func14 (by kernel_rfl) rfl #[.int .u64 t351] (by rfl) rfl rfl am ?_
           with_reducible refine (wide_Of.calls t351 t363 t364 _ A31.out).mono ?_
           rintro e w48 ⟨rfl, hb⟩
           refine ⟨_, rfl, ?_⟩
           replace BK347 := Aside0.mk (bb BK347.out hb)
           replace BK353 := Aside0.mk (bb BK353.out hb)
           replace BK358 := Aside0.mk (bb BK358.out hb)
           replace BK362 := Aside0.mk (bb BK362.out hb)
           replace BK368 := Aside0.mk (bb BK368.out hb)
           replace HB := Aside0.mk (below_step (bl5 HB.out GE347.out GE353.out GE358.out GE362.out GE368.out) hb)
           (try clear hb)
           (try clear hb2)
           (try clear hk)
           (try clear hi)
           refine hK.out _ _ ⟨(blk_cell BK362.out 0).trans rfl, (blk_cell BK362.out 1).trans rfl⟩ (fun hHeld => ?_)
           clear hK K
           refine norm_ (a' := ?_) ?_ ?_
           rotate_left
           ·show Act.put _ (some 55) _ = _
            simp only [Act.put, List.setIfInBounds_toArray, List.set_cons_zero, List.set_cons_succ, i64_w, i32_w]
            rfl
           refine one_ (i := 3) (N := some 56) (ba 10 143) rfl rfl (one_of HT_.out (by kernel_rfl)) (by decide) (fun K hK => ?_)
           refine goes_ Try.func13 (by kernel_rfl) rfl #[.agg #[.int .u64 t359, .int .u64 t360], .agg #[.int .u64 t363, .int .u64 t364]] (by rfl) rfl rfl am ?_
           with_reducible refine (wide_Add.calls t359 t360 t363 t364 t365 t366 t367 _ A32.out).mono ?_
           rintro e w49 ⟨rfl, hb⟩
           refine ⟨_, rfl, ?_⟩
           replace BK347 := Aside0.mk (bb BK347.out hb)
           replace BK353 := Aside0.mk (bb BK353.out hb)
           replace BK358 := Aside0.mk (bb BK358.out hb)
           replace BK362 := Aside0.mk (bb BK362.out hb)
           replace BK368 := Aside0.mk (bb BK368.out hb)
           replace HB := Aside0.mk (below_step (bl5 HB.out GE347.out GE353.out GE358.out GE362.out GE368.out) hb)
           (try clear hb)
           (try clear hb2)
           (try clear hk)
           (try clear hi)
           refine hK.out _ _ ⟨(blk_cell BK362.out 0).trans rfl, (blk_cell BK362.out 1).trans rfl⟩ (fun hHeld => ?_)
           clear hK K
           refine norm_ (a' := ?_) ?_ ?_
           rotate_left
           ·show Act.put _ (some 56) _ = _
            simp only [Act.put, List.setIfInBounds_toArray, List.set_cons_zero, List.set_cons_succ, i64_w, i32_w]
            rfl
           refine pI 4 52 (ba 10 159) HT_.out ?_
           refine pI 5 57 (ba 10 191) HT_.out ?_
           refine pI 6 58 (ba 10 255) HT_.out ?_
           exact norm_ (by simp only [putAll, Act.put, List.setIfInBounds_toArray, List.set_cons_zero, List.set_cons_succ]) (hCont (gb368) _ ⟨hHeld, (bk BK347.out), (bk BK353.out), (bk BK358.out), (bk BK362.out), (bk BK368.out), GW368.out, GE368.out, NB347_368.out, NB368_347.out, NB353_368.out, NB368_353.out, NB358_368.out, NB368_358.out, NB362_368.out, NB368_362.out, (bl5 HB.out GE347.out GE353.out GE358.out GE362.out GE368.out)⟩)
         rintro gb368 w50 ⟨hS_, h0_, h1_, h2_, h3_, h4_, h5_, h6_, h7_, h8_, h9_, h10_, h11_, h12_, h13_, h14_, h15_⟩
         have BK368 : Aside0 (w50.heap[gb368]? = some (.cells #[.int .u64 0, .int .u64 0] 24 (0, 0))) := ⟨h4_⟩
         have GW368 : Aside0 (w.heap.size ≤ gb368) := ⟨h5_⟩
         have GE368 : Aside0 (w.heap.size ≤ gb368) := ⟨h6_⟩
         have NB347_368 : Aside0 (gb347 ≠ gb368) := ⟨h7_⟩
         have NB368_347 : Aside0 (gb368 ≠ gb347) := ⟨h8_⟩
         have NB353_368 : Aside0 (gb353 ≠ gb368) := ⟨h9_⟩
         have NB368_353 : Aside0 (gb368 ≠ gb353) := ⟨h10_⟩
         have NB358_368 : Aside0 (gb358 ≠ gb368) := ⟨h11_⟩
         have NB368_358 : Aside0 (gb368 ≠ gb358) := ⟨h12_⟩
         have NB362_368 : Aside0 (gb362 ≠ gb368) := ⟨h13_⟩
         have NB368_362 : Aside0 (gb368 ≠ gb362) := ⟨h14_⟩
         replace BK347 : Aside0 (w50.heap[gb347]? = some (.cells #[.int .u64 a0_0, .int .u64 a0_1] 24 (0, 0))) := ⟨h0_⟩
         replace BK353 : Aside0 (w50.heap[gb353]? = some (.cells #[.int .u64 t349, .int .u64 t350] 24 (0, 0))) := ⟨h1_⟩
         replace BK358 : Aside0 (w50.heap[gb358]? = some (.cells #[.int .u64 t354, .int .u64 t355] 24 (0, 0))) := ⟨h2_⟩
         replace BK362 : Aside0 (w50.heap[gb362]? = some (.cells #[.int .u64 t359, .int .u64 t360] 24 (0, 0))) := ⟨h3_⟩
         replace HB : Aside0 (Below w.heap.size w w50) := ⟨h15_⟩
         clear h0_ h1_ h2_ h3_ h4_ h5_ h6_ h7_ h8_ h9_ h10_ h11_ h12_ h13_ h14_ h15_
         have hHeld : w50.cell? ⟨gb362, 0, none⟩ = some (.int .u64 t359) ∧ w50.cell? ⟨gb362, 1, none⟩ = some (.int .u64 t360) := hS_
         refine norm_ (a' := ?_) ?_ ?_
         rotate_left
         ·simp only [putAll, Act.put, List.setIfInBounds_toArray, List.set_cons_zero, List.set_cons_succ]
          rfl
         refine one_ (i := 8) (N := none) (ba 10 511) rfl rfl (one_of HT_.out (by kernel_rfl)) (by decide) (fun K hK => ?_)
         have hs51 : w50.cell? ⟨gb368, 0, none⟩ = some (.int .u64 0) := (blk_cell BK368.out 0).trans rfl
         have hfs51 := blk_frozen BK368.out 0
         have hns51_0 := NB347_368.out
         have hns51_1 := NB353_368.out
         have hns51_2 := NB358_368.out
         have hns51_3 := NB362_368.out
         have hms51_0 := NB368_347.out
         have hms51_1 := NB368_353.out
         have hms51_2 := NB368_358.out
         have hms51_3 := NB368_362.out
         have hs52 : w50.cell? ⟨gb368, 1, none⟩ = some (.int .u64 0) := (blk_cell BK368.out 1).trans rfl
         have hfs52 := blk_frozen BK368.out 1
         have hns52_0 := NB347_368.out
         have hns52_1 := NB353_368.out
         have hns52_2 := NB358_368.out
         have hns52_3 := NB362_368.out
         have hms52_0 := NB368_347.out
         have hms52_1 := NB368_353.out
         have hms52_2 := NB368_358.out
         have hms52_3 := NB368_362.out
         refine skip_ (w1 := ?_) (by rfl) rfl ?_ ?_
         rotate_left
         ·go_simp
          rfl
         refine hK.out _ _ ⟨((cell_far (p := ⟨gb368, _, none⟩) NB362_368.out _).trans (((cell_far (p := ⟨gb368, _, none⟩) NB362_368.out _).trans (hHeld.1)))), ((cell_far (p := ⟨gb368, _, none⟩) NB362_368.out _).trans (((cell_far (p := ⟨gb368, _, none⟩) NB362_368.out _).trans (hHeld.2))))⟩ (fun hHeld => ?_)
         clear hK K
         refine pI 9 14 (ba 10 1023) HT_.out ?_
         refine done_ (done_of HT_.out (by kernel_rfl)) ?_
         have hnb53 := NB368_347.out
         have hnc53 := NB347_368.out
         have hnb54 := NB368_353.out
         have hnc54 := NB353_368.out
         have hnb55 := NB368_358.out
         have hnc55 := NB358_368.out
         have hnb56 := NB368_362.out
         have hnc56 := NB362_368.out
         have hcz57_0 : w50.cell? ⟨gb368, 0, none⟩ = some (.int .u64 0) := (blk_cell BK368.out 0).trans rfl
         have hcz57_1 : w50.cell? ⟨gb368, 1, none⟩ = some (.int .u64 0) := (blk_cell BK368.out 1).trans rfl
         have hfz57_0 := blk_frozen BK368.out 0
         have hfz57_1 := blk_frozen BK368.out 1
         have hnb58 := NB347_358.out
         have hnc58 := NB358_347.out
         have hcz59_0 : w50.cell? ⟨gb347, 0, none⟩ = some (.int .u64 a0_0) := (blk_cell BK347.out 0).trans rfl
         have hcz59_1 : w50.cell? ⟨gb347, 1, none⟩ = some (.int .u64 a0_1) := (blk_cell BK347.out 1).trans rfl
         have hfz59_0 := blk_frozen BK347.out 0
         have hfz59_1 := blk_frozen BK347.out 1
         try go_wp2
         go_ret
         exact ⟨by first | rfl | (simp [errW_none, errW_some] <;> rfl) | (simp [*, errW_none, errW_some] <;> rfl), bl5 HB.out GE347.out GE353.out GE358.out GE362.out GE368.out⟩
        ·rw [if_neg c35] at H
         have c35b0 : (t365 == a0_0 && (t366 == a0_1)) = false := by simpa using c35
         (try (have c35b1 : decide (t365 = a0_0 && (t366 == a0_1)) = false := by simpa using c35))
         (try (have c35b2 : (t365 == a0_0 && (t366 == a0_1)) = false := by simpa using c35))
         (try (have c35b3 : ¬ (t365 = a0_0 && (t366 == a0_1)) := by simpa using c35))
         clear c35
         exact absurd (HQ.out ▸ H) (by simp)
       ·rw [if_neg c34] at H
        have c34b0 : (t367 == 0) = false := beq_eq_false_iff_ne.mpr c34
        have c34b1 : (t367 != 0) = true := bne_iff_ne.mpr c34
        exact absurd (HQ.out ▸ H) (by simp)
      ·rw [if_neg c33] at H
       have c33b0 : (t361 == 0) = false := beq_eq_false_iff_ne.mpr c33
       have c33b1 : (t361 != 0) = true := bne_iff_ne.mpr c33
       exact absurd (HQ.out ▸ H) (by simp)
     ·rw [if_neg c29] at H
      have c29b0 : (t357 == 0) = false := beq_eq_false_iff_ne.mpr c29
      have c29b1 : (t357 != 0) = true := bne_iff_ne.mpr c29
      obtain rfl := Option.some.inj H
      go_wp2
      go_ret
      exact ⟨by first | rfl | (simp [errW_none, errW_some] <;> rfl) | (simp [*, errW_none, errW_some] <;> rfl), bl3 HB.out GE347.out GE353.out GE358.out⟩
 ·replace c4 := Bool.eq_false_iff.mpr c4
  subst c4
  have H1 : (some false) = some r := by rw [if_neg (show ¬ (false = true) by decide)] at H; exact H
  clear H
  have H := H1
  clear H1
  exact absurd (HQ.out ▸ H) (by simp)

/-- THE ONE PURE STATEMENT of pochoirlaw01_WideParts. -/
def pochoirlaw01_WideParts.Pure : Prop := ∀ (x0 : S24) (x1 : Int), wf24 x0 → (Lit.int .u64 x1).wf = true → ∃ k, pochoirlaw01_WideParts.f k x0.f0 x0.f1 x1 = some true

/-! ### wide_right: function 37 -/
def wide_right.f (a0_0 : Int) (a0_1 : Int) (a1 : Int) : Option (Int × Int) := if a1 ≥ 64 then (if 0 ≤ (IntKind.u64.wrap (a1 - 64)) then (some (0, shr .u64 a0_0 (IntKind.u64.wrap (a1 - 64)))) else (none)) else (if 0 ≤ a1 then (if 0 ≤ (IntKind.u64.wrap (64 - a1)) then (some (shr .u64 a0_0 a1, Go.bits .or .u64 (shr .u64 a0_1 a1) (shl .u64 a0_0 (IntKind.u64.wrap (64 - a1))))) else (none)) else (none))
set_option maxHeartbeats 8000000 in
set_option maxRecDepth 100000 in
theorem wide_right.calls (a0_0 : Int) (a0_1 : Int) (a1 : Int) (r1 : Int) (r2 : Int) (w : World) (h : wide_right.f a0_0 a0_1 a1 = some (r1, r2)) :
  Calls Try.prog 37 #[.agg #[.int .u64 a0_0, .int .u64 a0_1], .int .u64 a1] w fun e w' => e = .returned (.agg #[.int .u64 r1, .int .u64 r2]) ∧ Below w.heap.size w w' := by
 have hu24 := Try.underlying24
 have HB := Aside0.mk (Below.refl w.heap.size w)
 have H : (if a1 ≥ 64 then (if 0 ≤ (IntKind.u64.wrap (a1 - 64)) then (some (0, shr .u64 a0_0 (IntKind.u64.wrap (a1 - 64)))) else (none)) else (if 0 ≤ a1 then (if 0 ≤ (IntKind.u64.wrap (64 - a1)) then (some (shr .u64 a0_0 a1, Go.bits .or .u64 (shr .u64 a0_1 a1) (shl .u64 a0_0 (IntKind.u64.wrap (64 - a1))))) else (none)) else (none))) = some (r1, r2) := h
 clear h
 by_cases c3 : a1 ≥ 64
 ·rw [if_pos c3] at H
  have c3b0 : decide (64 ≤ a1) = true := decide_eq_true c3
  clear c3
  obtain ⟨ji4, hji4⟩ : ∃ j_ : Int, (IntKind.u64.wrap (a1 - 64)) = j_ := ⟨_, rfl⟩
  replace H : (if 0 ≤ (ji4) then (some (0, shr .u64 a0_0 (ji4))) else (none)) = some (r1, r2) := by first | (rw [hji4] at H; exact H) | (simp only [hji4] at H ⊢; exact H)
  by_cases c5 : 0 ≤ (ji4)
  ·rw [if_pos c5] at H
   have c5b0 := eq_true c5
   have c5b1 : decide (0 ≤ (ji4)) = true := decide_eq_true c5
   clear c5
   obtain ⟨ji6, hji6⟩ : ∃ j_ : Int, (shr .u64 a0_0 (ji4)) = j_ := ⟨_, rfl⟩
   replace H : (some (0, ji6)) = some (r1, r2) := by first | (rw [hji6] at H; exact H) | (simp only [hji6] at H ⊢; exact H)
   have hji6_ : (a0_0 / 2 ^ min (ji4).toNat 64) = ji6 := hji6
   have hji6z : (ji4) ≤ 64 → (a0_0 / 2 ^ (ji4).toNat) = ji6 := shr_small hji6
   simp only [Option.some.injEq, Prod.mk.injEq] at H
   obtain ⟨rfl, rfl⟩ := H
   go_enter Try.func37, Try.ntmps37
   go_wp2_with (first | ((with_reducible refine gate_dst (N := 2) rfl ?_); refine be 2 (#[.int .u64 a0_0, .int .u64 a0_1]) 24 ?_; intro gb369 hg w7 hbox hb; have BK369 := Aside0.mk (hbox); have GW369 := Aside0.mk ((by rw [hg]; exact (below_size (bl0 HB.out)) : w.heap.size ≤ gb369)); have GE369 := GW369; replace HB := Aside0.mk (below_step (bl0 HB.out) hb); clear hb hbox hg) | ((with_reducible refine gate_dst (N := 4) rfl ?_); refine be 4 (#[.int .u64 0, .int .u64 0]) 24 ?_; intro gb370 hg w8 hbox hb; have BK370 := Aside0.mk (hbox); have GW370 := Aside0.mk ((by rw [hg]; exact (below_size (bl1 HB.out GE369.out)) : w.heap.size ≤ gb370)); have GE370 := GW370; have NB369_370 := Aside0.mk ((by rw [hg]; exact Nat.ne_of_lt (lt_ BK369.out) : gb369 ≠ gb370)); have NB370_369 := Aside0.mk ((by rw [hg]; exact Nat.ne_of_gt (lt_ BK369.out) : gb370 ≠ gb369)); replace BK369 := Aside0.mk (bb BK369.out hb); replace HB := Aside0.mk (below_step (bl1 HB.out GE369.out) hb); clear hb hbox hg; have hnb9 := NB369_370.out; have hnc9 := NB370_369.out; have hcz10_0 : w8.cell? ⟨gb369, 0, none⟩ = some (.int .u64 a0_0) := (blk_cell BK369.out 0).trans rfl; have hcz10_1 : w8.cell? ⟨gb369, 1, none⟩ = some (.int .u64 a0_1) := (blk_cell BK369.out 1).trans rfl; have hfz10_0 := blk_frozen BK369.out 0; have hfz10_1 := blk_frozen BK369.out 1; have hcz11_0 : w8.cell? ⟨gb370, 0, none⟩ = some (.int .u64 0) := (blk_cell BK370.out 0).trans rfl; have hcz11_1 : w8.cell? ⟨gb370, 1, none⟩ = some (.int .u64 0) := (blk_cell BK370.out 1).trans rfl; have hfz11_0 := blk_frozen BK370.out 0; have hfz11_1 := blk_frozen BK370.out 1))
   refine bodyPost_ret (results_cell_row rfl _ _ gb370 24 #[.int .u64 0, .int .u64 ji6] (0, 0) _ rfl (bk (blk_put (cs := #[.int .u64 0, .int .u64 0]) (bk (blk_put (cs := #[.int .u64 0, .int .u64 0]) (bk BK370.out) 0 _ rfl)) 1 _ rfl)) Try.underlying24 rfl (by kernel_rfl)) rfl ?_
   exact ⟨by first | rfl | (simp [errW_none, errW_some] <;> rfl) | (simp only [← hji4, ← hji6]; first | rfl | (simp [errW_none, errW_some] <;> rfl)) | (simp [*, errW_none, errW_some] <;> rfl), bl2 HB.out GE369.out GE370.out⟩
  ·rw [if_neg c5] at H
   exact absurd H (by simp)
 ·rw [if_neg c3] at H
  have c3b0 : decide (64 ≤ a1) = false := decide_eq_false c3
  clear c3
  by_cases c12 : 0 ≤ a1
  ·rw [if_pos c12] at H
   have c12b0 := eq_true c12
   have c12b1 : decide (0 ≤ a1) = true := decide_eq_true c12
   clear c12
   obtain ⟨ji13, hji13⟩ : ∃ j_ : Int, (shr .u64 a0_0 a1) = j_ := ⟨_, rfl⟩
   replace H : (if 0 ≤ (IntKind.u64.wrap (64 - a1)) then (some (ji13, Go.bits .or .u64 (shr .u64 a0_1 a1) (shl .u64 a0_0 (IntKind.u64.wrap (64 - a1))))) else (none)) = some (r1, r2) := by first | (rw [hji13] at H; exact H) | (simp only [hji13] at H ⊢; exact H)
   have hji13_ : (a0_0 / 2 ^ min a1.toNat 64) = ji13 := hji13
   have hji13z : a1 ≤ 64 → (a0_0 / 2 ^ a1.toNat) = ji13 := shr_small hji13
   have c14b0 := eq_true (of_decide_eq_true (by first | (with_reducible assumption) | assumption) : 0 ≤ a1)
   obtain ⟨ji15, hji15⟩ : ∃ j_ : Int, (shr .u64 a0_1 a1) = j_ := ⟨_, rfl⟩
   replace H : (if 0 ≤ (IntKind.u64.wrap (64 - a1)) then (some (ji13, Go.bits .or .u64 (ji15) (shl .u64 a0_0 (IntKind.u64.wrap (64 - a1))))) else (none)) = some (r1, r2) := by first | (rw [hji15] at H; exact H) | (simp only [hji15] at H ⊢; exact H)
   have hji15_ : (a0_1 / 2 ^ min a1.toNat 64) = ji15 := hji15
   have hji15z : a1 ≤ 64 → (a0_1 / 2 ^ a1.toNat) = ji15 := shr_small hji15
   obtain ⟨ji16, hji16⟩ : ∃ j_ : Int, (IntKind.u64.wrap (64 - a1)) = j_ := ⟨_, rfl⟩
   replace H : (if 0 ≤ (ji16) then (some (ji13, Go.bits .or .u64 (ji15) (shl .u64 a0_0 (ji16)))) else (none)) = some (r1, r2) := by first | (rw [hji16] at H; exact H) | (simp only [hji16] at H ⊢; exact H)
   by_cases c17 : 0 ≤ (ji16)
   ·rw [if_pos c17] at H
    have c17b0 := eq_true c17
    have c17b1 : decide (0 ≤ (ji16)) = true := decide_eq_true c17
    clear c17
    obtain ⟨ji18, hji18⟩ : ∃ j_ : Int, (shl .u64 a0_0 (ji16)) = j_ := ⟨_, rfl⟩
    replace H : (some (ji13, Go.bits .or .u64 (ji15) (ji18))) = some (r1, r2) := by first | (rw [hji18] at H; exact H) | (simp only [hji18] at H ⊢; exact H)
    have hji18_ : (IntKind.u64.wrap (a0_0 * 2 ^ min (ji16).toNat 64)) = ji18 := hji18
    have hji18z : (ji16) ≤ 64 → (IntKind.u64.wrap (a0_0 * 2 ^ (ji16).toNat)) = ji18 := shl_small hji18
    simp only [Option.some.injEq, Prod.mk.injEq] at H
    obtain ⟨rfl, rfl⟩ := H
    go_enter Try.func37, Try.ntmps37
    go_wp2_with (first | ((with_reducible refine gate_dst (N := 2) rfl ?_); refine be 2 (#[.int .u64 a0_0, .int .u64 a0_1]) 24 ?_; intro gb369 hg w19 hbox hb; have BK369 := Aside0.mk (hbox); have GW369 := Aside0.mk ((by rw [hg]; exact (below_size (bl0 HB.out)) : w.heap.size ≤ gb369)); have GE369 := GW369; replace HB := Aside0.mk (below_step (bl0 HB.out) hb); clear hb hbox hg) | ((with_reducible refine gate_dst (N := 4) rfl ?_); refine be 4 (#[.int .u64 0, .int .u64 0]) 24 ?_; intro gb370 hg w20 hbox hb; have BK370 := Aside0.mk (hbox); have GW370 := Aside0.mk ((by rw [hg]; exact (below_size (bl1 HB.out GE369.out)) : w.heap.size ≤ gb370)); have GE370 := GW370; have NB369_370 := Aside0.mk ((by rw [hg]; exact Nat.ne_of_lt (lt_ BK369.out) : gb369 ≠ gb370)); have NB370_369 := Aside0.mk ((by rw [hg]; exact Nat.ne_of_gt (lt_ BK369.out) : gb370 ≠ gb369)); replace BK369 := Aside0.mk (bb BK369.out hb); replace HB := Aside0.mk (below_step (bl1 HB.out GE369.out) hb); clear hb hbox hg; have hnb21 := NB369_370.out; have hnc21 := NB370_369.out; have hcz22_0 : w20.cell? ⟨gb369, 0, none⟩ = some (.int .u64 a0_0) := (blk_cell BK369.out 0).trans rfl; have hcz22_1 : w20.cell? ⟨gb369, 1, none⟩ = some (.int .u64 a0_1) := (blk_cell BK369.out 1).trans rfl; have hfz22_0 := blk_frozen BK369.out 0; have hfz22_1 := blk_frozen BK369.out 1; have hcz23_0 : w20.cell? ⟨gb370, 0, none⟩ = some (.int .u64 0) := (blk_cell BK370.out 0).trans rfl; have hcz23_1 : w20.cell? ⟨gb370, 1, none⟩ = some (.int .u64 0) := (blk_cell BK370.out 1).trans rfl; have hfz23_0 := blk_frozen BK370.out 0; have hfz23_1 := blk_frozen BK370.out 1))
    refine bodyPost_ret (results_cell_row rfl _ _ gb370 24 #[.int .u64 ji13, .int .u64 (Go.bits .or .u64 (ji15) (ji18))] (0, 0) _ rfl (bk (blk_put (cs := #[.int .u64 ji13, .int .u64 0]) (bk (blk_put (cs := #[.int .u64 0, .int .u64 0]) (bk BK370.out) 0 _ rfl)) 1 _ rfl)) Try.underlying24 rfl (by kernel_rfl)) rfl ?_
    exact ⟨by first | rfl | (simp [errW_none, errW_some] <;> rfl) | (simp only [← hji13, ← hji15, ← hji16, ← hji18]; first | rfl | (simp [errW_none, errW_some] <;> rfl)) | (simp [*, errW_none, errW_some] <;> rfl), bl2 HB.out GE369.out GE370.out⟩
   ·rw [if_neg c17] at H
    exact absurd H (by simp)
  ·rw [if_neg c12] at H
   exact absurd H (by simp)

end Go.Proofs.Ytjjnkadfoepflaa.XWide
