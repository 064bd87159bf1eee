-- Printed by a program of this claim. Not trusted: Lean checks it.
import Derived.Test.YtemhnlameekmkaaXPlanx0
import Derived.Test.YtemhnlameekmkaaXPlanx1
namespace Go.Proofs.Ytemhnlameekmkaa.XPlan
open Go.RowKit Go.Proofs.YtemhnlameekmkaaW.PrintWords Go.Proofs.YtemhnlameekmkaaW.PrintLast Go.Proofs.YtemhnlameekmkaaW.PrintMore
attribute [local go_sem] max2_int min2_int max_two min_two max_three min_three max_four min_four   -- for this text's walks alone
set_option linter.unusedVariables false
set_option linter.unusedSimpArgs false
open XOpen

/-! ### pochoirlaw18_PlaneMoved: function 3 -/
set_option maxHeartbeats 8000000 in
set_option maxRecDepth 100000 in
theorem pochoirlaw18_PlaneMoved.calls (k : Nat) (a0_0 : Int) (a0_1 : Int) (a0_2 : Int) (a0_3 : Int) (a0_4 : Int) (a0_5 : Int) (a1_0 : Int) (a1_1 : Int) (r : Bool) (w : World) (hq_ : r = true) (h : pochoirlaw18_PlaneMoved.f k a0_0 a0_1 a0_2 a0_3 a0_4 a0_5 a1_0 a1_1 = some r) :
  Calls Try.prog 3 #[.agg #[.int .i32 a0_0, .int .i32 a0_1, .int .i32 a0_2, .int .i32 a0_3, .int .i32 a0_4, .int .i32 a0_5], .agg #[.int .i32 a1_0, .int .i32 a1_1]] w fun e w' => e = .returned (.bool r) ∧ Below w.heap.size w w' := by
 have hu23 := Try.underlying23
 have hu22 := Try.underlying22
 have hu27 := Try.underlying27
 have hu26 := Try.underlying26
 have hix23_0 : ∀ (v0_ v1_ v2_ v3_ v4_ v5_ : Value) (W : World), (Instr.index 23 (.agg #[v0_, v1_, v2_, v3_, v4_, v5_]) (.int .i64 0)).run Try.prog W = .ok (.agg #[v0_, v1_]) W := fun v0_ v1_ v2_ v3_ v4_ v5_ W => by rfl
 have hix23_1 : ∀ (v0_ v1_ v2_ v3_ v4_ v5_ : Value) (W : World), (Instr.index 23 (.agg #[v0_, v1_, v2_, v3_, v4_, v5_]) (.int .i64 1)).run Try.prog W = .ok (.agg #[v2_, v3_]) W := fun v0_ v1_ v2_ v3_ v4_ v5_ W => by rfl
 have hix23_2 : ∀ (v0_ v1_ v2_ v3_ v4_ v5_ : Value) (W : World), (Instr.index 23 (.agg #[v0_, v1_, v2_, v3_, v4_, v5_]) (.int .i64 2)).run Try.prog W = .ok (.agg #[v4_, v5_]) W := fun v0_ v1_ v2_ v3_ v4_ v5_ W => by rfl
 have HB := Aside0.mk (Below.refl w.heap.size w)
 have HQ := Aside0.mk hq_
 clear hq_
 have H : ((pochoirlaw18_awake.f k).bind fun t155 => (pochoirlaw18_PlaneMoved.j0 k (!t155) a0_0 a0_1 a0_2 a0_3 a0_4 a0_5 a1_0 a1_1)) = some r := h
 clear h
 have HC3 := Aside0.mk H
 clear H
 go_enter Try.func3, Try.ntmps3
 go_upto_region 1 with (first | ((with_reducible refine gate_dst (N := 2) rfl ?_); refine be 2 (#[.int .i32 a0_0, .int .i32 a0_1, .int .i32 a0_2, .int .i32 a0_3, .int .i32 a0_4, .int .i32 a0_5]) 23 ?_; intro gb153 hg w4 hbox hb; have BK153 := Aside0.mk (hbox); have GW153 := Aside0.mk ((by rw [hg]; exact (below_size (bl0 HB.out)) : w.heap.size ≤ gb153)); have GE153 := GW153; replace HB := Aside0.mk (below_step (bl0 HB.out) hb); clear hb hbox hg) | ((with_reducible refine gate_dst (N := 3) rfl ?_); refine be 3 (#[.int .i32 a1_0, .int .i32 a1_1]) 22 ?_; intro gb154 hg w5 hbox hb; have BK154 := Aside0.mk (hbox); have GW154 := Aside0.mk ((by rw [hg]; exact (below_size (bl1 HB.out GE153.out)) : w.heap.size ≤ gb154)); have GE154 := GW154; have NB153_154 := Aside0.mk ((by rw [hg]; exact Nat.ne_of_lt (lt_ BK153.out) : gb153 ≠ gb154)); have NB154_153 := Aside0.mk ((by rw [hg]; exact Nat.ne_of_gt (lt_ BK153.out) : gb154 ≠ gb153)); replace BK153 := Aside0.mk (bb BK153.out hb); replace HB := Aside0.mk (below_step (bl1 HB.out GE153.out) hb); clear hb hbox hg))
 (try simp only [Act.put, List.setIfInBounds_toArray, List.set_cons_zero, List.set_cons_succ])
 go_cut [23] (fun v23 wc => ∃ (kq : Nat) (x23_2 : Bool), v23 = .bool x23_2 ∧ Aside0 (pochoirlaw18_PlaneMoved.j0 kq x23_2 a0_0 a0_1 a0_2 a0_3 a0_4 a0_5 a1_0 a1_1 = some r) ∧ Aside0 (kq ≤ k) ∧ Aside0 (wc.heap[gb153]? = some (.cells #[.int .i32 a0_0, .int .i32 a0_1, .int .i32 a0_2, .int .i32 a0_3, .int .i32 a0_4, .int .i32 a0_5] 23 (0, 0))) ∧ Aside0 (wc.heap[gb154]? = some (.cells #[.int .i32 a1_0, .int .i32 a1_1] 22 (0, 0))) ∧ Aside0 (Below w.heap.size w wc))
 case first =>
  have H := HC3.out
  clear HC3
  replace H := Option.bind_eq_some_iff.mp H
  obtain ⟨t155, A60, H⟩ := H
  replace H : (pochoirlaw18_PlaneMoved.j0 k (!t155) a0_0 a0_1 a0_2 a0_3 a0_4 a0_5 a1_0 a1_1) = some r := H
  have A6 := Aside0.mk A60
  clear A60
  have H' := Aside0.mk H
  clear H
  go_wp2_with (first | ((with_reducible refine gate_callee (f := 12) rfl ?_); refine goesL_ (some 22) rfl rfl Try.func12 (by kernel_rfl) rfl #[] rfl am ?_; (with_reducible refine (pochoirlaw18_awake.calls k  t155 _ A6.out).mono ?_); rintro e w7 ⟨rfl, hb⟩; refine ⟨_, rfl, ?_⟩; replace BK153 := Aside0.mk (bb BK153.out hb); replace BK154 := Aside0.mk (bb BK154.out hb); replace HB := Aside0.mk (below_step (bl2 HB.out GE153.out GE154.out) hb); (try clear hb); (try clear hb2); (try clear hk); (try clear hi)))
  go_meet
  case rel => exact ⟨_, (!t155), fr, H', ⟨by first | omega | exact Nat.le_refl _⟩, ⟨bk BK153.out⟩, ⟨bk BK154.out⟩, ⟨bl2 HB.out GE153.out GE154.out⟩⟩
 case rest =>
  clear HC3
  try clear c1
  try clear p2
  try clear c3
  obtain ⟨kq, x23_2, rfl, HA, HJ2, BK153, BK154, HB⟩ := hcut
  cases kq with
  | zero => exact absurd HA.out (by simp [pochoirlaw18_PlaneMoved.j0])
  | succ kj2 =>
   have H := HA.out
   clear HA
   simp only [pochoirlaw18_PlaneMoved.j0] at H
   by_cases c8 : x23_2 = true
   ·subst c8
    have H1 : (some false) = some r := by rw [if_pos rfl] at H; exact H
    clear H
    have H := H1
    clear H1
    exact absurd (HQ.out ▸ H) (by simp)
   ·replace c8 := Bool.eq_false_iff.mpr c8
    subst c8
    have H1 : ((plane_Cross.f kj2 (Int.tmod (wrap64 (a0_0)) 1048576) (Int.tmod (wrap64 (a0_1)) 1048576) (Int.tmod (wrap64 (a0_2)) 1048576) (Int.tmod (wrap64 (a0_3)) 1048576) (Int.tmod (wrap64 (a0_4)) 1048576) (Int.tmod (wrap64 (a0_5)) 1048576)).bind fun bt162 => (pochoirlaw18_PlaneMoved.j1 kj2 bt162.1 bt162.2 (Int.tmod (wrap64 (a0_0)) 1048576) (Int.tmod (wrap64 (a0_1)) 1048576) (Int.tmod (wrap64 (a0_2)) 1048576) (Int.tmod (wrap64 (a0_3)) 1048576) (Int.tmod (wrap64 (a0_4)) 1048576) (Int.tmod (wrap64 (a0_5)) 1048576) (wrap64 ((Int.tmod (wrap64 (a0_0)) 1048576) + (Int.tmod (wrap64 (a1_0)) 1048576))) (wrap64 ((Int.tmod (wrap64 (a0_1)) 1048576) + (Int.tmod (wrap64 (a1_1)) 1048576))) (wrap64 ((Int.tmod (wrap64 (a0_2)) 1048576) + (Int.tmod (wrap64 (a1_0)) 1048576))) (wrap64 ((Int.tmod (wrap64 (a0_3)) 1048576) + (Int.tmod (wrap64 (a1_1)) 1048576))) (wrap64 ((Int.tmod (wrap64 (a0_4)) 1048576) + (Int.tmod (wrap64 (a1_0)) 1048576))) (wrap64 ((Int.tmod (wrap64 (a0_5)) 1048576) + (Int.tmod (wrap64 (a1_1)) 1048576))) (wrap64 (-(Int.tmod (wrap64 (a0_1)) 1048576))) (Int.tmod (wrap64 (a0_0)) 1048576) (wrap64 (-(Int.tmod (wrap64 (a0_3)) 1048576))) (Int.tmod (wrap64 (a0_2)) 1048576) (wrap64 (-(Int.tmod (wrap64 (a0_5)) 1048576))) (Int.tmod (wrap64 (a0_4)) 1048576))) = some r := by rw [if_neg (show ¬ (false = true) by decide)] at H; exact H
    clear H
    have H := H1
    clear H1
    go_wp2_with (first | ((with_reducible refine gate_dst (N := 5) rfl ?_); refine be 5 (#[.int .i64 0, .int .i64 0, .int .i64 0, .int .i64 0, .int .i64 0, .int .i64 0]) 27 ?_; intro gb156 hg w9 hbox hb; have BK156 := Aside0.mk (hbox); have GW156 := Aside0.mk ((by rw [hg]; exact (below_size (bl2 HB.out GE153.out GE154.out)) : w.heap.size ≤ gb156)); have GE156 := GW156; have NB153_156 := Aside0.mk ((by rw [hg]; exact Nat.ne_of_lt (lt_ BK153.out) : gb153 ≠ gb156)); have NB156_153 := Aside0.mk ((by rw [hg]; exact Nat.ne_of_gt (lt_ BK153.out) : gb156 ≠ gb153)); have NB154_156 := Aside0.mk ((by rw [hg]; exact Nat.ne_of_lt (lt_ BK154.out) : gb154 ≠ gb156)); have NB156_154 := Aside0.mk ((by rw [hg]; exact Nat.ne_of_gt (lt_ BK154.out) : gb156 ≠ gb154)); replace BK153 := Aside0.mk (bb BK153.out hb); replace BK154 := Aside0.mk (bb BK154.out hb); replace HB := Aside0.mk (below_step (bl2 HB.out GE153.out GE154.out) hb); clear hb hbox hg) | ((with_reducible refine gate_dst (N := 6) rfl ?_); refine be 6 (#[.int .i64 0, .int .i64 0, .int .i64 0, .int .i64 0, .int .i64 0, .int .i64 0]) 27 ?_; intro gb157 hg w10 hbox hb; have BK157 := Aside0.mk (hbox); have GW157 := Aside0.mk ((by rw [hg]; exact (below_size (bl3 HB.out GE153.out GE154.out GE156.out)) : w.heap.size ≤ gb157)); have GE157 := GW157; have NB153_157 := Aside0.mk ((by rw [hg]; exact Nat.ne_of_lt (lt_ BK153.out) : gb153 ≠ gb157)); have NB157_153 := Aside0.mk ((by rw [hg]; exact Nat.ne_of_gt (lt_ BK153.out) : gb157 ≠ gb153)); have NB154_157 := Aside0.mk ((by rw [hg]; exact Nat.ne_of_lt (lt_ BK154.out) : gb154 ≠ gb157)); have NB157_154 := Aside0.mk ((by rw [hg]; exact Nat.ne_of_gt (lt_ BK154.out) : gb157 ≠ gb154)); have NB156_157 := Aside0.mk ((by rw [hg]; exact Nat.ne_of_lt (lt_ BK156.out) : gb156 ≠ gb157)); have NB157_156 := Aside0.mk ((by rw [hg]; exact Nat.ne_of_gt (lt_ BK156.out) : gb157 ≠ gb156)); replace BK153 := Aside0.mk (bb BK153.out hb); replace BK154 := Aside0.mk (bb BK154.out hb); replace BK156 := Aside0.mk (bb BK156.out hb); replace HB := Aside0.mk (below_step (bl3 HB.out GE153.out GE154.out GE156.out) hb); clear hb hbox hg) | ((with_reducible refine gate_dst (N := 7) rfl ?_); refine be 7 (#[.int .i64 0, .int .i64 0, .int .i64 0, .int .i64 0, .int .i64 0, .int .i64 0]) 27 ?_; intro gb158 hg w11 hbox hb; have BK158 := Aside0.mk (hbox); have GW158 := Aside0.mk ((by rw [hg]; exact (below_size (bl4 HB.out GE153.out GE154.out GE156.out GE157.out)) : w.heap.size ≤ gb158)); have GE158 := GW158; have NB153_158 := Aside0.mk ((by rw [hg]; exact Nat.ne_of_lt (lt_ BK153.out) : gb153 ≠ gb158)); have NB158_153 := Aside0.mk ((by rw [hg]; exact Nat.ne_of_gt (lt_ BK153.out) : gb158 ≠ gb153)); have NB154_158 := Aside0.mk ((by rw [hg]; exact Nat.ne_of_lt (lt_ BK154.out) : gb154 ≠ gb158)); have NB158_154 := Aside0.mk ((by rw [hg]; exact Nat.ne_of_gt (lt_ BK154.out) : gb158 ≠ gb154)); have NB156_158 := Aside0.mk ((by rw [hg]; exact Nat.ne_of_lt (lt_ BK156.out) : gb156 ≠ gb158)); have NB158_156 := Aside0.mk ((by rw [hg]; exact Nat.ne_of_gt (lt_ BK156.out) : gb158 ≠ gb156)); have NB157_158 := Aside0.mk ((by rw [hg]; exact Nat.ne_of_lt (lt_ BK157.out) : gb157 ≠ gb158)); have NB158_157 := Aside0.mk ((by rw [hg]; exact Nat.ne_of_gt (lt_ BK157.out) : gb158 ≠ gb157)); replace BK153 := Aside0.mk (bb BK153.out hb); replace BK154 := Aside0.mk (bb BK154.out hb); replace BK156 := Aside0.mk (bb BK156.out hb); replace BK157 := Aside0.mk (bb BK157.out hb); replace HB := Aside0.mk (below_step (bl4 HB.out GE153.out GE154.out GE156.out GE157.out) hb); clear hb hbox hg; have hnb12 := NB153_154.out; have hnc12 := NB154_153.out; have hnb13 := NB153_156.out; have hnc13 := NB156_153.out; have hnb14 := NB153_157.out; have hnc14 := NB157_153.out; have hnb15 := NB153_158.out; have hnc15 := NB158_153.out; have hcz16_0 : w11.cell? ⟨gb153, 0, none⟩ = some (.int .i32 a0_0) := (blk_cell BK153.out 0).trans rfl; have hcz16_1 : w11.cell? ⟨gb153, 1, none⟩ = some (.int .i32 a0_1) := (blk_cell BK153.out 1).trans rfl; have hcz16_2 : w11.cell? ⟨gb153, 2, none⟩ = some (.int .i32 a0_2) := (blk_cell BK153.out 2).trans rfl; have hcz16_3 : w11.cell? ⟨gb153, 3, none⟩ = some (.int .i32 a0_3) := (blk_cell BK153.out 3).trans rfl; have hcz16_4 : w11.cell? ⟨gb153, 4, none⟩ = some (.int .i32 a0_4) := (blk_cell BK153.out 4).trans rfl; have hcz16_5 : w11.cell? ⟨gb153, 5, none⟩ = some (.int .i32 a0_5) := (blk_cell BK153.out 5).trans rfl; have hfz16_0 := blk_frozen BK153.out 0; have hfz16_1 := blk_frozen BK153.out 1; have hfz16_2 := blk_frozen BK153.out 2; have hfz16_3 := blk_frozen BK153.out 3; have hfz16_4 := blk_frozen BK153.out 4; have hfz16_5 := blk_frozen BK153.out 5))
    refine wp_loop_rounds 9 ?_
    go_wp2
    rw [rounds_succ]
    try go_wp2_with (first | ((with_reducible refine gate_dst (N := 9) rfl ?_); refine be 9 (#[.int .i32 0, .int .i32 0]) 22 ?_; intro gb159 hg w17 hbox hb; have BK159 := Aside0.mk (hbox); have GW159 := Aside0.mk ((by rw [hg]; exact (below_size (bl5 HB.out GE153.out GE154.out GE156.out GE157.out GE158.out)) : w.heap.size ≤ gb159)); have GE159 := GW159; have NB153_159 := Aside0.mk ((by rw [hg]; exact Nat.ne_of_lt (lt_ BK153.out) : gb153 ≠ gb159)); have NB159_153 := Aside0.mk ((by rw [hg]; exact Nat.ne_of_gt (lt_ BK153.out) : gb159 ≠ gb153)); have NB154_159 := Aside0.mk ((by rw [hg]; exact Nat.ne_of_lt (lt_ BK154.out) : gb154 ≠ gb159)); have NB159_154 := Aside0.mk ((by rw [hg]; exact Nat.ne_of_gt (lt_ BK154.out) : gb159 ≠ gb154)); have NB156_159 := Aside0.mk ((by rw [hg]; exact Nat.ne_of_lt (lt_ BK156.out) : gb156 ≠ gb159)); have NB159_156 := Aside0.mk ((by rw [hg]; exact Nat.ne_of_gt (lt_ BK156.out) : gb159 ≠ gb156)); have NB157_159 := Aside0.mk ((by rw [hg]; exact Nat.ne_of_lt (lt_ BK157.out) : gb157 ≠ gb159)); have NB159_157 := Aside0.mk ((by rw [hg]; exact Nat.ne_of_gt (lt_ BK157.out) : gb159 ≠ gb157)); have NB158_159 := Aside0.mk ((by rw [hg]; exact Nat.ne_of_lt (lt_ BK158.out) : gb158 ≠ gb159)); have NB159_158 := Aside0.mk ((by rw [hg]; exact Nat.ne_of_gt (lt_ BK158.out) : gb159 ≠ gb158)); replace BK153 := Aside0.mk (bb BK153.out hb); replace BK154 := Aside0.mk (bb BK154.out hb); replace BK156 := Aside0.mk (bb BK156.out hb); replace BK157 := Aside0.mk (bb BK157.out hb); replace BK158 := Aside0.mk (bb BK158.out hb); replace HB := Aside0.mk (below_step (bl5 HB.out GE153.out GE154.out GE156.out GE157.out GE158.out) hb); clear hb hbox hg; have hnb18 := NB159_153.out; have hnc18 := NB153_159.out; have hnb19 := NB159_154.out; have hnc19 := NB154_159.out; have hnb20 := NB159_156.out; have hnc20 := NB156_159.out; have hnb21 := NB159_157.out; have hnc21 := NB157_159.out; have hnb22 := NB159_158.out; have hnc22 := NB158_159.out; have hcz23_0 : w17.cell? ⟨gb159, 0, none⟩ = some (.int .i32 0) := (blk_cell BK159.out 0).trans rfl; have hcz23_1 : w17.cell? ⟨gb159, 1, none⟩ = some (.int .i32 0) := (blk_cell BK159.out 1).trans rfl; have hfz23_0 := blk_frozen BK159.out 0; have hfz23_1 := blk_frozen BK159.out 1; have hnb24 := NB156_153.out; have hnc24 := NB153_156.out; have hnb25 := NB156_154.out; have hnc25 := NB154_156.out; have hnb26 := NB156_157.out; have hnc26 := NB157_156.out; have hnb27 := NB156_158.out; have hnc27 := NB158_156.out; have hcz28_0 : w17.cell? ⟨gb156, 0, none⟩ = some (.int .i64 0) := (blk_cell BK156.out 0).trans rfl; have hcz28_1 : w17.cell? ⟨gb156, 1, none⟩ = some (.int .i64 0) := (blk_cell BK156.out 1).trans rfl; have hcz28_2 : w17.cell? ⟨gb156, 2, none⟩ = some (.int .i64 0) := (blk_cell BK156.out 2).trans rfl; have hcz28_3 : w17.cell? ⟨gb156, 3, none⟩ = some (.int .i64 0) := (blk_cell BK156.out 3).trans rfl; have hcz28_4 : w17.cell? ⟨gb156, 4, none⟩ = some (.int .i64 0) := (blk_cell BK156.out 4).trans rfl; have hcz28_5 : w17.cell? ⟨gb156, 5, none⟩ = some (.int .i64 0) := (blk_cell BK156.out 5).trans rfl; have hfz28_0 := blk_frozen BK156.out 0; have hfz28_1 := blk_frozen BK156.out 1; have hfz28_2 := blk_frozen BK156.out 2; have hfz28_3 := blk_frozen BK156.out 3; have hfz28_4 := blk_frozen BK156.out 4; have hfz28_5 := blk_frozen BK156.out 5))
    have n0_ : Aside0 (((((w17.setCell ⟨gb159, 0, none⟩ (.int .i32 a0_0)).setCell ⟨gb159, 1, none⟩ (.int .i32 a0_1)).setCell ⟨gb156, 0, none⟩ (.int .i64 (Int.tmod (wrap64 (a0_0)) 1048576))).setCell ⟨gb156, 1, none⟩ (.int .i64 (Int.tmod (wrap64 (a0_1)) 1048576))).heap[gb153]? = some (.cells #[.int .i32 a0_0, .int .i32 a0_1, .int .i32 a0_2, .int .i32 a0_3, .int .i32 a0_4, .int .i32 a0_5] 23 (0, 0))) := ⟨by (with_reducible repeat (first | refine blk_drewN ?_ _ | refine blk_drew ?_ | refine blk_alloc ?_ _)); refine blk_far ?_ NB153_156.out _; (with_reducible repeat (first | refine blk_drewN ?_ _ | refine blk_drew ?_ | refine blk_alloc ?_ _)); refine blk_far ?_ NB153_156.out _; (with_reducible repeat (first | refine blk_drewN ?_ _ | refine blk_drew ?_ | refine blk_alloc ?_ _)); refine blk_far ?_ NB153_159.out _; (with_reducible repeat (first | refine blk_drewN ?_ _ | refine blk_drew ?_ | refine blk_alloc ?_ _)); refine blk_far ?_ NB153_159.out _; (with_reducible repeat (first | refine blk_drewN ?_ _ | refine blk_drew ?_ | refine blk_alloc ?_ _)); exact BK153.out⟩
    have n1_ : Aside0 (((((w17.setCell ⟨gb159, 0, none⟩ (.int .i32 a0_0)).setCell ⟨gb159, 1, none⟩ (.int .i32 a0_1)).setCell ⟨gb156, 0, none⟩ (.int .i64 (Int.tmod (wrap64 (a0_0)) 1048576))).setCell ⟨gb156, 1, none⟩ (.int .i64 (Int.tmod (wrap64 (a0_1)) 1048576))).heap[gb154]? = some (.cells #[.int .i32 a1_0, .int .i32 a1_1] 22 (0, 0))) := ⟨by (with_reducible repeat (first | refine blk_drewN ?_ _ | refine blk_drew ?_ | refine blk_alloc ?_ _)); refine blk_far ?_ NB154_156.out _; (with_reducible repeat (first | refine blk_drewN ?_ _ | refine blk_drew ?_ | refine blk_alloc ?_ _)); refine blk_far ?_ NB154_156.out _; (with_reducible repeat (first | refine blk_drewN ?_ _ | refine blk_drew ?_ | refine blk_alloc ?_ _)); refine blk_far ?_ NB154_159.out _; (with_reducible repeat (first | refine blk_drewN ?_ _ | refine blk_drew ?_ | refine blk_alloc ?_ _)); refine blk_far ?_ NB154_159.out _; (with_reducible repeat (first | refine blk_drewN ?_ _ | refine blk_drew ?_ | refine blk_alloc ?_ _)); exact BK154.out⟩
    have n2_ : Aside0 (((((w17.setCell ⟨gb159, 0, none⟩ (.int .i32 a0_0)).setCell ⟨gb159, 1, none⟩ (.int .i32 a0_1)).setCell ⟨gb156, 0, none⟩ (.int .i64 (Int.tmod (wrap64 (a0_0)) 1048576))).setCell ⟨gb156, 1, none⟩ (.int .i64 (Int.tmod (wrap64 (a0_1)) 1048576))).heap[gb156]? = some (.cells #[.int .i64 (Int.tmod (wrap64 (a0_0)) 1048576), .int .i64 (Int.tmod (wrap64 (a0_1)) 1048576), .int .i64 0, .int .i64 0, .int .i64 0, .int .i64 0] 27 (0, 0))) := ⟨by (with_reducible repeat (first | refine blk_drewN ?_ _ | refine blk_drew ?_ | refine blk_alloc ?_ _)); refine blk_put (cs := #[.int .i64 (Int.tmod (wrap64 (a0_0)) 1048576), .int .i64 0, .int .i64 0, .int .i64 0, .int .i64 0, .int .i64 0]) ?_ 1 _ rfl; (with_reducible repeat (first | refine blk_drewN ?_ _ | refine blk_drew ?_ | refine blk_alloc ?_ _)); refine blk_put (cs := #[.int .i64 0, .int .i64 0, .int .i64 0, .int .i64 0, .int .i64 0, .int .i64 0]) ?_ 0 _ rfl; (with_reducible repeat (first | refine blk_drewN ?_ _ | refine blk_drew ?_ | refine blk_alloc ?_ _)); refine blk_far ?_ NB156_159.out _; (with_reducible repeat (first | refine blk_drewN ?_ _ | refine blk_drew ?_ | refine blk_alloc ?_ _)); refine blk_far ?_ NB156_159.out _; (with_reducible repeat (first | refine blk_drewN ?_ _ | refine blk_drew ?_ | refine blk_alloc ?_ _)); exact BK156.out⟩
    have n3_ : Aside0 (((((w17.setCell ⟨gb159, 0, none⟩ (.int .i32 a0_0)).setCell ⟨gb159, 1, none⟩ (.int .i32 a0_1)).setCell ⟨gb156, 0, none⟩ (.int .i64 (Int.tmod (wrap64 (a0_0)) 1048576))).setCell ⟨gb156, 1, none⟩ (.int .i64 (Int.tmod (wrap64 (a0_1)) 1048576))).heap[gb157]? = some (.cells #[.int .i64 0, .int .i64 0, .int .i64 0, .int .i64 0, .int .i64 0, .int .i64 0] 27 (0, 0))) := ⟨by (with_reducible repeat (first | refine blk_drewN ?_ _ | refine blk_drew ?_ | refine blk_alloc ?_ _)); refine blk_far ?_ NB157_156.out _; (with_reducible repeat (first | refine blk_drewN ?_ _ | refine blk_drew ?_ | refine blk_alloc ?_ _)); refine blk_far ?_ NB157_156.out _; (with_reducible repeat (first | refine blk_drewN ?_ _ | refine blk_drew ?_ | refine blk_alloc ?_ _)); refine blk_far ?_ NB157_159.out _; (with_reducible repeat (first | refine blk_drewN ?_ _ | refine blk_drew ?_ | refine blk_alloc ?_ _)); refine blk_far ?_ NB157_159.out _; (with_reducible repeat (first | refine blk_drewN ?_ _ | refine blk_drew ?_ | refine blk_alloc ?_ _)); exact BK157.out⟩
    have n4_ : Aside0 (((((w17.setCell ⟨gb159, 0, none⟩ (.int .i32 a0_0)).setCell ⟨gb159, 1, none⟩ (.int .i32 a0_1)).setCell ⟨gb156, 0, none⟩ (.int .i64 (Int.tmod (wrap64 (a0_0)) 1048576))).setCell ⟨gb156, 1, none⟩ (.int .i64 (Int.tmod (wrap64 (a0_1)) 1048576))).heap[gb158]? = some (.cells #[.int .i64 0, .int .i64 0, .int .i64 0, .int .i64 0, .int .i64 0, .int .i64 0] 27 (0, 0))) := ⟨by (with_reducible repeat (first | refine blk_drewN ?_ _ | refine blk_drew ?_ | refine blk_alloc ?_ _)); refine blk_far ?_ NB158_156.out _; (with_reducible repeat (first | refine blk_drewN ?_ _ | refine blk_drew ?_ | refine blk_alloc ?_ _)); refine blk_far ?_ NB158_156.out _; (with_reducible repeat (first | refine blk_drewN ?_ _ | refine blk_drew ?_ | refine blk_alloc ?_ _)); refine blk_far ?_ NB158_159.out _; (with_reducible repeat (first | refine blk_drewN ?_ _ | refine blk_drew ?_ | refine blk_alloc ?_ _)); refine blk_far ?_ NB158_159.out _; (with_reducible repeat (first | refine blk_drewN ?_ _ | refine blk_drew ?_ | refine blk_alloc ?_ _)); exact BK158.out⟩
    have n5_ : Aside0 (((((w17.setCell ⟨gb159, 0, none⟩ (.int .i32 a0_0)).setCell ⟨gb159, 1, none⟩ (.int .i32 a0_1)).setCell ⟨gb156, 0, none⟩ (.int .i64 (Int.tmod (wrap64 (a0_0)) 1048576))).setCell ⟨gb156, 1, none⟩ (.int .i64 (Int.tmod (wrap64 (a0_1)) 1048576))).heap[gb159]? = some (.cells #[.int .i32 a0_0, .int .i32 a0_1] 22 (0, 0))) := ⟨by (with_reducible repeat (first | refine blk_drewN ?_ _ | refine blk_drew ?_ | refine blk_alloc ?_ _)); refine blk_far ?_ NB159_156.out _; (with_reducible repeat (first | refine blk_drewN ?_ _ | refine blk_drew ?_ | refine blk_alloc ?_ _)); refine blk_far ?_ NB159_156.out _; (with_reducible repeat (first | refine blk_drewN ?_ _ | refine blk_drew ?_ | refine blk_alloc ?_ _)); refine blk_put (cs := #[.int .i32 a0_0, .int .i32 0]) ?_ 1 _ rfl; (with_reducible repeat (first | refine blk_drewN ?_ _ | refine blk_drew ?_ | refine blk_alloc ?_ _)); refine blk_put (cs := #[.int .i32 0, .int .i32 0]) ?_ 0 _ rfl; (with_reducible repeat (first | refine blk_drewN ?_ _ | refine blk_drew ?_ | refine blk_alloc ?_ _)); exact BK159.out⟩
    have n6_ : Aside0 (Below w.heap.size w ((((w17.setCell ⟨gb159, 0, none⟩ (.int .i32 a0_0)).setCell ⟨gb159, 1, none⟩ (.int .i32 a0_1)).setCell ⟨gb156, 0, none⟩ (.int .i64 (Int.tmod (wrap64 (a0_0)) 1048576))).setCell ⟨gb156, 1, none⟩ (.int .i64 (Int.tmod (wrap64 (a0_1)) 1048576)))) := ⟨bl6 HB.out GE153.out GE154.out GE156.out GE157.out GE158.out GE159.out⟩
    (try clear BK153)
    (try clear BK154)
    (try clear BK156)
    (try clear BK157)
    (try clear BK158)
    (try clear BK159)
    (try clear HB)
    generalize ((((w17.setCell ⟨gb159, 0, none⟩ (.int .i32 a0_0)).setCell ⟨gb159, 1, none⟩ (.int .i32 a0_1)).setCell ⟨gb156, 0, none⟩ (.int .i64 (Int.tmod (wrap64 (a0_0)) 1048576))).setCell ⟨gb156, 1, none⟩ (.int .i64 (Int.tmod (wrap64 (a0_1)) 1048576))) = w29 at n0_ n1_ n2_ n3_ n4_ n5_ n6_ ⊢
    have BK153 := n0_
    have BK154 := n1_
    have BK156 := n2_
    have BK157 := n3_
    have BK158 := n4_
    have BK159 := n5_
    have HB := n6_
    clear n0_ n1_ n2_ n3_ n4_ n5_ n6_
    replace BK153 := Aside0.mk (blk_drew BK153.out)
    replace BK154 := Aside0.mk (blk_drew BK154.out)
    replace BK156 := Aside0.mk (blk_drew BK156.out)
    replace BK157 := Aside0.mk (blk_drew BK157.out)
    replace BK158 := Aside0.mk (blk_drew BK158.out)
    replace BK159 := Aside0.mk (blk_drew BK159.out)
    replace HB := Aside0.mk (below_drew1 HB.out)
    refine start_ (n := 22) (S := fun w' => w'.cell? ⟨gb156, 0, none⟩ = some (.int .i64 (Int.tmod (wrap64 (a0_0)) 1048576)) ∧ w'.cell? ⟨gb156, 1, none⟩ = some (.int .i64 (Int.tmod (wrap64 (a0_1)) 1048576)) ∧ w'.cell? ⟨gb156, 2, none⟩ = some (.int .i64 0) ∧ w'.cell? ⟨gb156, 3, none⟩ = some (.int .i64 0) ∧ w'.cell? ⟨gb156, 4, none⟩ = some (.int .i64 0) ∧ w'.cell? ⟨gb156, 5, none⟩ = some (.int .i64 0) ∧ w'.cell? ⟨gb154, 0, none⟩ = some (.int .i32 a1_0) ∧ w'.cell? ⟨gb154, 1, none⟩ = some (.int .i32 a1_1)) (ds := []) (ba 22 0) (by kernel_rfl) rfl rfl ⟨(blk_cell BK156.out 0).trans rfl, (blk_cell BK156.out 1).trans rfl, (blk_cell BK156.out 2).trans rfl, (blk_cell BK156.out 3).trans rfl, (blk_cell BK156.out 4).trans rfl, (blk_cell BK156.out 5).trans rfl, (blk_cell BK154.out 0).trans rfl, (blk_cell BK154.out 1).trans rfl⟩ (fun hHeld => ?_); refine with_tabW pochoirlaw18_PlaneMoved.tab8 pochoirlaw18_PlaneMoved.bits8 (fun HT_ HW_ => ?_)
    generalize w29.drew = w30 at BK153 BK154 BK156 BK157 BK158 BK159 HB hHeld ⊢
    refine pI 0 40 (ba 22 1) HT_.out ?_
    refine pI 1 41 (ba 22 3) HT_.out ?_
    refine pI 2 42 (ba 22 7) HT_.out ?_
    refine pI 3 43 (ba 22 15) HT_.out ?_
    refine pI 5 45 (ba 22 47) HT_.out ?_
    refine pI 10 50 (ba 22 1071) HT_.out ?_
    refine pI 11 51 (ba 22 3119) HT_.out ?_
    refine pI 12 52 (ba 22 7215) HT_.out ?_
    refine pI 14 54 (ba 22 23599) HT_.out ?_
    refine take_ (i := 4) (N := some 44) (v := ?_) (a' := ?_) (ba 22 23615) rfl rfl (take_ofW HT_.out HW_.out (by kernel_rfl)) (fun _ _ _ h => h) (Or.inl ⟨by rfl, ?_⟩) hHeld ?_ ?_
    rotate_left
    ·rintro w' ⟨s0, s1, s2, s3, s4, s5, s6, s7⟩
     go_simp
     with_reducible rfl
    rotate_left
    ·simp only [Act.put, List.setIfInBounds_toArray, List.set_cons_zero, List.set_cons_succ, i64_w, i32_w]
     rfl
    refine take_ (i := 6) (N := some 46) (v := ?_) (a' := ?_) (ba 22 23679) rfl rfl (take_ofW HT_.out HW_.out (by kernel_rfl)) (fun _ _ _ h => h) (Or.inl ⟨by rfl, ?_⟩) hHeld ?_ ?_
    rotate_left
    ·rintro w' ⟨s0, s1, s2, s3, s4, s5, s6, s7⟩
     go_simp
     with_reducible rfl
    rotate_left
    ·simp only [Act.put, List.setIfInBounds_toArray, List.set_cons_zero, List.set_cons_succ, i64_w, i32_w]
     rfl
    refine pI 7 47 (ba 22 23807) HT_.out ?_
    refine pI 8 48 (ba 22 24063) HT_.out ?_
    refine pI 9 49 (ba 22 24575) HT_.out ?_
    refine take_ (i := 13) (N := some 53) (v := ?_) (a' := ?_) (ba 22 32767) rfl rfl (take_ofW HT_.out HW_.out (by kernel_rfl)) (fun _ _ _ h => h) (Or.inl ⟨by rfl, ?_⟩) hHeld ?_ ?_
    rotate_left
    ·rintro w' ⟨s0, s1, s2, s3, s4, s5, s6, s7⟩
     go_simp
     with_reducible rfl
    rotate_left
    ·simp only [Act.put, List.setIfInBounds_toArray, List.set_cons_zero, List.set_cons_succ, i64_w, i32_w]
     rfl
    refine take_ (i := 15) (N := some 55) (v := ?_) (a' := ?_) (ba 22 65535) rfl rfl (take_ofW HT_.out HW_.out (by kernel_rfl)) (fun _ _ _ h => h) (Or.inl ⟨by rfl, ?_⟩) hHeld ?_ ?_
    rotate_left
    ·rintro w' ⟨s0, s1, s2, s3, s4, s5, s6, s7⟩
     go_simp
     with_reducible rfl
    rotate_left
    ·simp only [Act.put, List.setIfInBounds_toArray, List.set_cons_zero, List.set_cons_succ, i64_w, i32_w]
     rfl
    refine pI 16 56 (ba 22 131071) HT_.out ?_
    refine pI 17 57 (ba 22 262143) HT_.out ?_
    refine pI 18 58 (ba 22 524287) HT_.out ?_
    refine pI 19 59 (ba 22 1048575) HT_.out ?_
    refine pI 20 60 (ba 22 2097151) HT_.out ?_
    refine one_ (i := 21) (N := none) (ba 22 4194303) rfl rfl (one_of HT_.out (by kernel_rfl)) (by decide) (fun K hK => ?_)
    have hs31 : w30.cell? ⟨gb157, 0, none⟩ = some (.int .i64 0) := (blk_cell BK157.out 0).trans rfl
    have hfs31 := blk_frozen BK157.out 0
    have hns31_0 := NB153_157.out
    have hns31_1 := NB154_157.out
    have hns31_2 := NB156_157.out
    have hns31_4 := NB158_157.out
    have hns31_5 := NB159_157.out
    have hms31_0 := NB157_153.out
    have hms31_1 := NB157_154.out
    have hms31_2 := NB157_156.out
    have hms31_4 := NB157_158.out
    have hms31_5 := NB157_159.out
    have hs32 : w30.cell? ⟨gb157, 1, none⟩ = some (.int .i64 0) := (blk_cell BK157.out 1).trans rfl
    have hfs32 := blk_frozen BK157.out 1
    have hns32_0 := NB153_157.out
    have hns32_1 := NB154_157.out
    have hns32_2 := NB156_157.out
    have hns32_4 := NB158_157.out
    have hns32_5 := NB159_157.out
    have hms32_0 := NB157_153.out
    have hms32_1 := NB157_154.out
    have hms32_2 := NB157_156.out
    have hms32_4 := NB157_158.out
    have hms32_5 := NB157_159.out
    refine skip_ (w1 := ?_) (by rfl) rfl ?_ ?_
    rotate_left
    ·go_simp
     rfl
    refine hK.out _ _ ⟨((cell_far (p := ⟨gb157, _, none⟩) NB156_157.out _).trans (((cell_far (p := ⟨gb157, _, none⟩) NB156_157.out _).trans (hHeld.1)))), ((cell_far (p := ⟨gb157, _, none⟩) NB156_157.out _).trans (((cell_far (p := ⟨gb157, _, none⟩) NB156_157.out _).trans (hHeld.2.1)))), ((cell_far (p := ⟨gb157, _, none⟩) NB156_157.out _).trans (((cell_far (p := ⟨gb157, _, none⟩) NB156_157.out _).trans (hHeld.2.2.1)))), ((cell_far (p := ⟨gb157, _, none⟩) NB156_157.out _).trans (((cell_far (p := ⟨gb157, _, none⟩) NB156_157.out _).trans (hHeld.2.2.2.1)))), ((cell_far (p := ⟨gb157, _, none⟩) NB156_157.out _).trans (((cell_far (p := ⟨gb157, _, none⟩) NB156_157.out _).trans (hHeld.2.2.2.2.1)))), ((cell_far (p := ⟨gb157, _, none⟩) NB156_157.out _).trans (((cell_far (p := ⟨gb157, _, none⟩) NB156_157.out _).trans (hHeld.2.2.2.2.2.1)))), ((cell_far (p := ⟨gb157, _, none⟩) NB154_157.out _).trans (((cell_far (p := ⟨gb157, _, none⟩) NB154_157.out _).trans (hHeld.2.2.2.2.2.2.1)))), ((cell_far (p := ⟨gb157, _, none⟩) NB154_157.out _).trans (((cell_far (p := ⟨gb157, _, none⟩) NB154_157.out _).trans (hHeld.2.2.2.2.2.2.2))))⟩ (fun hHeld => ?_)
    clear hK K
    refine done_ (done_of HT_.out (by kernel_rfl)) ?_
    try go_wp2
    have n0_ : Aside0 (((w30.setCell ⟨gb157, 0, none⟩ (.int .i64 (wrap64 ((Int.tmod (wrap64 (a0_0)) 1048576) + (Int.tmod (wrap64 (a1_0)) 1048576))))).setCell ⟨gb157, 1, none⟩ (.int .i64 (wrap64 ((Int.tmod (wrap64 (a0_1)) 1048576) + (Int.tmod (wrap64 (a1_1)) 1048576))))).heap[gb153]? = some (.cells #[.int .i32 a0_0, .int .i32 a0_1, .int .i32 a0_2, .int .i32 a0_3, .int .i32 a0_4, .int .i32 a0_5] 23 (0, 0))) := ⟨by (with_reducible repeat (first | refine blk_drewN ?_ _ | refine blk_drew ?_ | refine blk_alloc ?_ _)); refine blk_far ?_ NB153_157.out _; (with_reducible repeat (first | refine blk_drewN ?_ _ | refine blk_drew ?_ | refine blk_alloc ?_ _)); refine blk_far ?_ NB153_157.out _; (with_reducible repeat (first | refine blk_drewN ?_ _ | refine blk_drew ?_ | refine blk_alloc ?_ _)); exact BK153.out⟩
    have n1_ : Aside0 (((w30.setCell ⟨gb157, 0, none⟩ (.int .i64 (wrap64 ((Int.tmod (wrap64 (a0_0)) 1048576) + (Int.tmod (wrap64 (a1_0)) 1048576))))).setCell ⟨gb157, 1, none⟩ (.int .i64 (wrap64 ((Int.tmod (wrap64 (a0_1)) 1048576) + (Int.tmod (wrap64 (a1_1)) 1048576))))).heap[gb154]? = some (.cells #[.int .i32 a1_0, .int .i32 a1_1] 22 (0, 0))) := ⟨by (with_reducible repeat (first | refine blk_drewN ?_ _ | refine blk_drew ?_ | refine blk_alloc ?_ _)); refine blk_far ?_ NB154_157.out _; (with_reducible repeat (first | refine blk_drewN ?_ _ | refine blk_drew ?_ | refine blk_alloc ?_ _)); refine blk_far ?_ NB154_157.out _; (with_reducible repeat (first | refine blk_drewN ?_ _ | refine blk_drew ?_ | refine blk_alloc ?_ _)); exact BK154.out⟩
    have n2_ : Aside0 (((w30.setCell ⟨gb157, 0, none⟩ (.int .i64 (wrap64 ((Int.tmod (wrap64 (a0_0)) 1048576) + (Int.tmod (wrap64 (a1_0)) 1048576))))).setCell ⟨gb157, 1, none⟩ (.int .i64 (wrap64 ((Int.tmod (wrap64 (a0_1)) 1048576) + (Int.tmod (wrap64 (a1_1)) 1048576))))).heap[gb156]? = some (.cells #[.int .i64 (Int.tmod (wrap64 (a0_0)) 1048576), .int .i64 (Int.tmod (wrap64 (a0_1)) 1048576), .int .i64 0, .int .i64 0, .int .i64 0, .int .i64 0] 27 (0, 0))) := ⟨by (with_reducible repeat (first | refine blk_drewN ?_ _ | refine blk_drew ?_ | refine blk_alloc ?_ _)); refine blk_far ?_ NB156_157.out _; (with_reducible repeat (first | refine blk_drewN ?_ _ | refine blk_drew ?_ | refine blk_alloc ?_ _)); refine blk_far ?_ NB156_157.out _; (with_reducible repeat (first | refine blk_drewN ?_ _ | refine blk_drew ?_ | refine blk_alloc ?_ _)); exact BK156.out⟩
    have n3_ : Aside0 (((w30.setCell ⟨gb157, 0, none⟩ (.int .i64 (wrap64 ((Int.tmod (wrap64 (a0_0)) 1048576) + (Int.tmod (wrap64 (a1_0)) 1048576))))).setCell ⟨gb157, 1, none⟩ (.int .i64 (wrap64 ((Int.tmod (wrap64 (a0_1)) 1048576) + (Int.tmod (wrap64 (a1_1)) 1048576))))).heap[gb157]? = some (.cells #[.int .i64 (wrap64 ((Int.tmod (wrap64 (a0_0)) 1048576) + (Int.tmod (wrap64 (a1_0)) 1048576))), .int .i64 (wrap64 ((Int.tmod (wrap64 (a0_1)) 1048576) + (Int.tmod (wrap64 (a1_1)) 1048576))), .int .i64 0, .int .i64 0, .int .i64 0, .int .i64 0] 27 (0, 0))) := ⟨by (with_reducible repeat (first | refine blk_drewN ?_ _ | refine blk_drew ?_ | refine blk_alloc ?_ _)); refine blk_put (cs := #[.int .i64 (wrap64 ((Int.tmod (wrap64 (a0_0)) 1048576) + (Int.tmod (wrap64 (a1_0)) 1048576))), .int .i64 0, .int .i64 0, .int .i64 0, .int .i64 0, .int .i64 0]) ?_ 1 _ rfl; (with_reducible repeat (first | refine blk_drewN ?_ _ | refine blk_drew ?_ | refine blk_alloc ?_ _)); refine blk_put (cs := #[.int .i64 0, .int .i64 0, .int .i64 0, .int .i64 0, .int .i64 0, .int .i64 0]) ?_ 0 _ rfl; (with_reducible repeat (first | refine blk_drewN ?_ _ | refine blk_drew ?_ | refine blk_alloc ?_ _)); exact BK157.out⟩
    have n4_ : Aside0 (((w30.setCell ⟨gb157, 0, none⟩ (.int .i64 (wrap64 ((Int.tmod (wrap64 (a0_0)) 1048576) + (Int.tmod (wrap64 (a1_0)) 1048576))))).setCell ⟨gb157, 1, none⟩ (.int .i64 (wrap64 ((Int.tmod (wrap64 (a0_1)) 1048576) + (Int.tmod (wrap64 (a1_1)) 1048576))))).heap[gb158]? = some (.cells #[.int .i64 0, .int .i64 0, .int .i64 0, .int .i64 0, .int .i64 0, .int .i64 0] 27 (0, 0))) := ⟨by (with_reducible repeat (first | refine blk_drewN ?_ _ | refine blk_drew ?_ | refine blk_alloc ?_ _)); refine blk_far ?_ NB158_157.out _; (with_reducible repeat (first | refine blk_drewN ?_ _ | refine blk_drew ?_ | refine blk_alloc ?_ _)); refine blk_far ?_ NB158_157.out _; (with_reducible repeat (first | refine blk_drewN ?_ _ | refine blk_drew ?_ | refine blk_alloc ?_ _)); exact BK158.out⟩
    have n5_ : Aside0 (((w30.setCell ⟨gb157, 0, none⟩ (.int .i64 (wrap64 ((Int.tmod (wrap64 (a0_0)) 1048576) + (Int.tmod (wrap64 (a1_0)) 1048576))))).setCell ⟨gb157, 1, none⟩ (.int .i64 (wrap64 ((Int.tmod (wrap64 (a0_1)) 1048576) + (Int.tmod (wrap64 (a1_1)) 1048576))))).heap[gb159]? = some (.cells #[.int .i32 a0_0, .int .i32 a0_1] 22 (0, 0))) := ⟨by (with_reducible repeat (first | refine blk_drewN ?_ _ | refine blk_drew ?_ | refine blk_alloc ?_ _)); refine blk_far ?_ NB159_157.out _; (with_reducible repeat (first | refine blk_drewN ?_ _ | refine blk_drew ?_ | refine blk_alloc ?_ _)); refine blk_far ?_ NB159_157.out _; (with_reducible repeat (first | refine blk_drewN ?_ _ | refine blk_drew ?_ | refine blk_alloc ?_ _)); exact BK159.out⟩
    have n6_ : Aside0 (Below w.heap.size w ((w30.setCell ⟨gb157, 0, none⟩ (.int .i64 (wrap64 ((Int.tmod (wrap64 (a0_0)) 1048576) + (Int.tmod (wrap64 (a1_0)) 1048576))))).setCell ⟨gb157, 1, none⟩ (.int .i64 (wrap64 ((Int.tmod (wrap64 (a0_1)) 1048576) + (Int.tmod (wrap64 (a1_1)) 1048576)))))) := ⟨bl6 HB.out GE153.out GE154.out GE156.out GE157.out GE158.out GE159.out⟩
    (try clear BK153)
    (try clear BK154)
    (try clear BK156)
    (try clear BK157)
    (try clear BK158)
    (try clear BK159)
    (try clear HB)
    generalize ((w30.setCell ⟨gb157, 0, none⟩ (.int .i64 (wrap64 ((Int.tmod (wrap64 (a0_0)) 1048576) + (Int.tmod (wrap64 (a1_0)) 1048576))))).setCell ⟨gb157, 1, none⟩ (.int .i64 (wrap64 ((Int.tmod (wrap64 (a0_1)) 1048576) + (Int.tmod (wrap64 (a1_1)) 1048576))))) = w33 at n0_ n1_ n2_ n3_ n4_ n5_ n6_ ⊢
    have BK153 := n0_
    have BK154 := n1_
    have BK156 := n2_
    have BK157 := n3_
    have BK158 := n4_
    have BK159 := n5_
    have HB := n6_
    clear n0_ n1_ n2_ n3_ n4_ n5_ n6_
    replace BK153 := Aside0.mk (blk_drew BK153.out)
    replace BK154 := Aside0.mk (blk_drew BK154.out)
    replace BK156 := Aside0.mk (blk_drew BK156.out)
    replace BK157 := Aside0.mk (blk_drew BK157.out)
    replace BK158 := Aside0.mk (blk_drew BK158.out)
    replace BK159 := Aside0.mk (blk_drew BK159.out)
    replace HB := Aside0.mk (below_drew1 HB.out)
    refine start_ (n := 13) (S := fun w' => w'.cell? ⟨gb156, 0, none⟩ = some (.int .i64 (Int.tmod (wrap64 (a0_0)) 1048576)) ∧ w'.cell? ⟨gb156, 1, none⟩ = some (.int .i64 (Int.tmod (wrap64 (a0_1)) 1048576)) ∧ w'.cell? ⟨gb156, 2, none⟩ = some (.int .i64 0) ∧ w'.cell? ⟨gb156, 3, none⟩ = some (.int .i64 0) ∧ w'.cell? ⟨gb156, 4, none⟩ = some (.int .i64 0) ∧ w'.cell? ⟨gb156, 5, none⟩ = some (.int .i64 0)) (ds := []) (ba 13 0) (by kernel_rfl) rfl rfl ⟨(blk_cell BK156.out 0).trans rfl, (blk_cell BK156.out 1).trans rfl, (blk_cell BK156.out 2).trans rfl, (blk_cell BK156.out 3).trans rfl, (blk_cell BK156.out 4).trans rfl, (blk_cell BK156.out 5).trans rfl⟩ (fun hHeld => ?_); refine with_tabW pochoirlaw18_PlaneMoved.tab9 pochoirlaw18_PlaneMoved.bits9 (fun HT_ HW_ => ?_)
    generalize w33.drew = w34 at BK153 BK154 BK156 BK157 BK158 BK159 HB hHeld ⊢
    refine pI 0 61 (ba 13 1) HT_.out ?_
    refine pI 1 62 (ba 13 3) HT_.out ?_
    refine pI 2 63 (ba 13 7) HT_.out ?_
    refine pI 3 64 (ba 13 15) HT_.out ?_
    refine pI 6 67 (ba 13 79) HT_.out ?_
    refine pI 7 68 (ba 13 207) HT_.out ?_
    refine pI 8 69 (ba 13 463) HT_.out ?_
    refine take_ (i := 4) (N := some 65) (v := ?_) (a' := ?_) (ba 13 479) rfl rfl (take_ofW HT_.out HW_.out (by kernel_rfl)) (fun _ _ _ h => h) (Or.inl ⟨by rfl, ?_⟩) hHeld ?_ ?_
    rotate_left
    ·rintro w' ⟨s0, s1, s2, s3, s4, s5⟩
     go_simp
     with_reducible rfl
    rotate_left
    ·simp only [Act.put, List.setIfInBounds_toArray, List.set_cons_zero, List.set_cons_succ, i64_w, i32_w]
     rfl
    refine pI 5 66 (ba 13 511) HT_.out ?_
    refine take_ (i := 9) (N := some 70) (v := ?_) (a' := ?_) (ba 13 1023) rfl rfl (take_ofW HT_.out HW_.out (by kernel_rfl)) (fun _ _ _ h => h) (Or.inl ⟨by rfl, ?_⟩) hHeld ?_ ?_
    rotate_left
    ·rintro w' ⟨s0, s1, s2, s3, s4, s5⟩
     go_simp
     with_reducible rfl
    rotate_left
    ·simp only [Act.put, List.setIfInBounds_toArray, List.set_cons_zero, List.set_cons_succ, i64_w, i32_w]
     rfl
    refine pI 10 71 (ba 13 2047) HT_.out ?_
    refine pI 11 72 (ba 13 4095) HT_.out ?_
    refine one_ (i := 12) (N := none) (ba 13 8191) rfl rfl (one_of HT_.out (by kernel_rfl)) (by decide) (fun K hK => ?_)
    have hs35 : w34.cell? ⟨gb158, 0, none⟩ = some (.int .i64 0) := (blk_cell BK158.out 0).trans rfl
    have hfs35 := blk_frozen BK158.out 0
    have hns35_0 := NB153_158.out
    have hns35_1 := NB154_158.out
    have hns35_2 := NB156_158.out
    have hns35_3 := NB157_158.out
    have hns35_5 := NB159_158.out
    have hms35_0 := NB158_153.out
    have hms35_1 := NB158_154.out
    have hms35_2 := NB158_156.out
    have hms35_3 := NB158_157.out
    have hms35_5 := NB158_159.out
    have hs36 : w34.cell? ⟨gb158, 1, none⟩ = some (.int .i64 0) := (blk_cell BK158.out 1).trans rfl
    have hfs36 := blk_frozen BK158.out 1
    have hns36_0 := NB153_158.out
    have hns36_1 := NB154_158.out
    have hns36_2 := NB156_158.out
    have hns36_3 := NB157_158.out
    have hns36_5 := NB159_158.out
    have hms36_0 := NB158_153.out
    have hms36_1 := NB158_154.out
    have hms36_2 := NB158_156.out
    have hms36_3 := NB158_157.out
    have hms36_5 := NB158_159.out
    refine skip_ (w1 := ?_) (by rfl) rfl ?_ ?_
    rotate_left
    ·go_simp
     rfl
    refine hK.out _ _ ⟨((cell_far (p := ⟨gb158, _, none⟩) NB156_158.out _).trans (((cell_far (p := ⟨gb158, _, none⟩) NB156_158.out _).trans (hHeld.1)))), ((cell_far (p := ⟨gb158, _, none⟩) NB156_158.out _).trans (((cell_far (p := ⟨gb158, _, none⟩) NB156_158.out _).trans (hHeld.2.1)))), ((cell_far (p := ⟨gb158, _, none⟩) NB156_158.out _).trans (((cell_far (p := ⟨gb158, _, none⟩) NB156_158.out _).trans (hHeld.2.2.1)))), ((cell_far (p := ⟨gb158, _, none⟩) NB156_158.out _).trans (((cell_far (p := ⟨gb158, _, none⟩) NB156_158.out _).trans (hHeld.2.2.2.1)))), ((cell_far (p := ⟨gb158, _, none⟩) NB156_158.out _).trans (((cell_far (p := ⟨gb158, _, none⟩) NB156_158.out _).trans (hHeld.2.2.2.2.1)))), ((cell_far (p := ⟨gb158, _, none⟩) NB156_158.out _).trans (((cell_far (p := ⟨gb158, _, none⟩) NB156_158.out _).trans (hHeld.2.2.2.2.2))))⟩ (fun hHeld => ?_)
    clear hK K
    refine done_ (done_of HT_.out (by kernel_rfl)) ?_
    try go_wp2
    rw [rounds_succ]
    try go_wp2_with (first | ((with_reducible refine gate_dst (N := 9) rfl ?_); refine be 9 (#[.int .i32 0, .int .i32 0]) 22 ?_; intro gb160 hg w37 hbox hb; have BK160 := Aside0.mk (hbox); have GW160 := Aside0.mk ((by rw [hg]; exact (below_size (bl6 HB.out GE153.out GE154.out GE156.out GE157.out GE158.out GE159.out)) : w.heap.size ≤ gb160)); have GE160 := GW160; have NB153_160 := Aside0.mk ((by rw [hg]; exact Nat.ne_of_lt (blk_lt (g := gb153) (o := .cells #[.int .i32 a0_0, .int .i32 a0_1, .int .i32 a0_2, .int .i32 a0_3, .int .i32 a0_4, .int .i32 a0_5] 23 (0, 0)) (by (with_reducible repeat (first | refine blk_drewN ?_ _ | refine blk_drew ?_ | refine blk_alloc ?_ _)); refine blk_far ?_ NB153_158.out _; (with_reducible repeat (first | refine blk_drewN ?_ _ | refine blk_drew ?_ | refine blk_alloc ?_ _)); refine blk_far ?_ NB153_158.out _; (with_reducible repeat (first | refine blk_drewN ?_ _ | refine blk_drew ?_ | refine blk_alloc ?_ _)); exact BK153.out)) : gb153 ≠ gb160)); have NB160_153 := Aside0.mk ((by rw [hg]; exact Nat.ne_of_gt (blk_lt (g := gb153) (o := .cells #[.int .i32 a0_0, .int .i32 a0_1, .int .i32 a0_2, .int .i32 a0_3, .int .i32 a0_4, .int .i32 a0_5] 23 (0, 0)) (by (with_reducible repeat (first | refine blk_drewN ?_ _ | refine blk_drew ?_ | refine blk_alloc ?_ _)); refine blk_far ?_ NB153_158.out _; (with_reducible repeat (first | refine blk_drewN ?_ _ | refine blk_drew ?_ | refine blk_alloc ?_ _)); refine blk_far ?_ NB153_158.out _; (with_reducible repeat (first | refine blk_drewN ?_ _ | refine blk_drew ?_ | refine blk_alloc ?_ _)); exact BK153.out)) : gb160 ≠ gb153)); have NB154_160 := Aside0.mk ((by rw [hg]; exact Nat.ne_of_lt (blk_lt (g := gb154) (o := .cells #[.int .i32 a1_0, .int .i32 a1_1] 22 (0, 0)) (by (with_reducible repeat (first | refine blk_drewN ?_ _ | refine blk_drew ?_ | refine blk_alloc ?_ _)); refine blk_far ?_ NB154_158.out _; (with_reducible repeat (first | refine blk_drewN ?_ _ | refine blk_drew ?_ | refine blk_alloc ?_ _)); refine blk_far ?_ NB154_158.out _; (with_reducible repeat (first | refine blk_drewN ?_ _ | refine blk_drew ?_ | refine blk_alloc ?_ _)); exact BK154.out)) : gb154 ≠ gb160)); have NB160_154 := Aside0.mk ((by rw [hg]; exact Nat.ne_of_gt (blk_lt (g := gb154) (o := .cells #[.int .i32 a1_0, .int .i32 a1_1] 22 (0, 0)) (by (with_reducible repeat (first | refine blk_drewN ?_ _ | refine blk_drew ?_ | refine blk_alloc ?_ _)); refine blk_far ?_ NB154_158.out _; (with_reducible repeat (first | refine blk_drewN ?_ _ | refine blk_drew ?_ | refine blk_alloc ?_ _)); refine blk_far ?_ NB154_158.out _; (with_reducible repeat (first | refine blk_drewN ?_ _ | refine blk_drew ?_ | refine blk_alloc ?_ _)); exact BK154.out)) : gb160 ≠ gb154)); have NB156_160 := Aside0.mk ((by rw [hg]; exact Nat.ne_of_lt (blk_lt (g := gb156) (o := .cells #[.int .i64 (Int.tmod (wrap64 (a0_0)) 1048576), .int .i64 (Int.tmod (wrap64 (a0_1)) 1048576), .int .i64 0, .int .i64 0, .int .i64 0, .int .i64 0] 27 (0, 0)) (by (with_reducible repeat (first | refine blk_drewN ?_ _ | refine blk_drew ?_ | refine blk_alloc ?_ _)); refine blk_far ?_ NB156_158.out _; (with_reducible repeat (first | refine blk_drewN ?_ _ | refine blk_drew ?_ | refine blk_alloc ?_ _)); refine blk_far ?_ NB156_158.out _; (with_reducible repeat (first | refine blk_drewN ?_ _ | refine blk_drew ?_ | refine blk_alloc ?_ _)); exact BK156.out)) : gb156 ≠ gb160)); have NB160_156 := Aside0.mk ((by rw [hg]; exact Nat.ne_of_gt (blk_lt (g := gb156) (o := .cells #[.int .i64 (Int.tmod (wrap64 (a0_0)) 1048576), .int .i64 (Int.tmod (wrap64 (a0_1)) 1048576), .int .i64 0, .int .i64 0, .int .i64 0, .int .i64 0] 27 (0, 0)) (by (with_reducible repeat (first | refine blk_drewN ?_ _ | refine blk_drew ?_ | refine blk_alloc ?_ _)); refine blk_far ?_ NB156_158.out _; (with_reducible repeat (first | refine blk_drewN ?_ _ | refine blk_drew ?_ | refine blk_alloc ?_ _)); refine blk_far ?_ NB156_158.out _; (with_reducible repeat (first | refine blk_drewN ?_ _ | refine blk_drew ?_ | refine blk_alloc ?_ _)); exact BK156.out)) : gb160 ≠ gb156)); have NB157_160 := Aside0.mk ((by rw [hg]; exact Nat.ne_of_lt (blk_lt (g := gb157) (o := .cells #[.int .i64 (wrap64 ((Int.tmod (wrap64 (a0_0)) 1048576) + (Int.tmod (wrap64 (a1_0)) 1048576))), .int .i64 (wrap64 ((Int.tmod (wrap64 (a0_1)) 1048576) + (Int.tmod (wrap64 (a1_1)) 1048576))), .int .i64 0, .int .i64 0, .int .i64 0, .int .i64 0] 27 (0, 0)) (by (with_reducible repeat (first | refine blk_drewN ?_ _ | refine blk_drew ?_ | refine blk_alloc ?_ _)); refine blk_far ?_ NB157_158.out _; (with_reducible repeat (first | refine blk_drewN ?_ _ | refine blk_drew ?_ | refine blk_alloc ?_ _)); refine blk_far ?_ NB157_158.out _; (with_reducible repeat (first | refine blk_drewN ?_ _ | refine blk_drew ?_ | refine blk_alloc ?_ _)); exact BK157.out)) : gb157 ≠ gb160)); have NB160_157 := Aside0.mk ((by rw [hg]; exact Nat.ne_of_gt (blk_lt (g := gb157) (o := .cells #[.int .i64 (wrap64 ((Int.tmod (wrap64 (a0_0)) 1048576) + (Int.tmod (wrap64 (a1_0)) 1048576))), .int .i64 (wrap64 ((Int.tmod (wrap64 (a0_1)) 1048576) + (Int.tmod (wrap64 (a1_1)) 1048576))), .int .i64 0, .int .i64 0, .int .i64 0, .int .i64 0] 27 (0, 0)) (by (with_reducible repeat (first | refine blk_drewN ?_ _ | refine blk_drew ?_ | refine blk_alloc ?_ _)); refine blk_far ?_ NB157_158.out _; (with_reducible repeat (first | refine blk_drewN ?_ _ | refine blk_drew ?_ | refine blk_alloc ?_ _)); refine blk_far ?_ NB157_158.out _; (with_reducible repeat (first | refine blk_drewN ?_ _ | refine blk_drew ?_ | refine blk_alloc ?_ _)); exact BK157.out)) : gb160 ≠ gb157)); have NB158_160 := Aside0.mk ((by rw [hg]; exact Nat.ne_of_lt (blk_lt (g := gb158) (o := .cells #[.int .i64 (wrap64 (-(Int.tmod (wrap64 (a0_1)) 1048576))), .int .i64 (Int.tmod (wrap64 (a0_0)) 1048576), .int .i64 0, .int .i64 0, .int .i64 0, .int .i64 0] 27 (0, 0)) (by (with_reducible repeat (first | refine blk_drewN ?_ _ | refine blk_drew ?_ | refine blk_alloc ?_ _)); refine blk_put (cs := #[.int .i64 (wrap64 (-(Int.tmod (wrap64 (a0_1)) 1048576))), .int .i64 0, .int .i64 0, .int .i64 0, .int .i64 0, .int .i64 0]) ?_ 1 _ rfl; (with_reducible repeat (first | refine blk_drewN ?_ _ | refine blk_drew ?_ | refine blk_alloc ?_ _)); refine blk_put (cs := #[.int .i64 0, .int .i64 0, .int .i64 0, .int .i64 0, .int .i64 0, .int .i64 0]) ?_ 0 _ rfl; (with_reducible repeat (first | refine blk_drewN ?_ _ | refine blk_drew ?_ | refine blk_alloc ?_ _)); exact BK158.out)) : gb158 ≠ gb160)); have NB160_158 := Aside0.mk ((by rw [hg]; exact Nat.ne_of_gt (blk_lt (g := gb158) (o := .cells #[.int .i64 (wrap64 (-(Int.tmod (wrap64 (a0_1)) 1048576))), .int .i64 (Int.tmod (wrap64 (a0_0)) 1048576), .int .i64 0, .int .i64 0, .int .i64 0, .int .i64 0] 27 (0, 0)) (by (with_reducible repeat (first | refine blk_drewN ?_ _ | refine blk_drew ?_ | refine blk_alloc ?_ _)); refine blk_put (cs := #[.int .i64 (wrap64 (-(Int.tmod (wrap64 (a0_1)) 1048576))), .int .i64 0, .int .i64 0, .int .i64 0, .int .i64 0, .int .i64 0]) ?_ 1 _ rfl; (with_reducible repeat (first | refine blk_drewN ?_ _ | refine blk_drew ?_ | refine blk_alloc ?_ _)); refine blk_put (cs := #[.int .i64 0, .int .i64 0, .int .i64 0, .int .i64 0, .int .i64 0, .int .i64 0]) ?_ 0 _ rfl; (with_reducible repeat (first | refine blk_drewN ?_ _ | refine blk_drew ?_ | refine blk_alloc ?_ _)); exact BK158.out)) : gb160 ≠ gb158)); have NB159_160 := Aside0.mk ((by rw [hg]; exact Nat.ne_of_lt (blk_lt (g := gb159) (o := .cells #[.int .i32 a0_0, .int .i32 a0_1] 22 (0, 0)) (by (with_reducible repeat (first | refine blk_drewN ?_ _ | refine blk_drew ?_ | refine blk_alloc ?_ _)); refine blk_far ?_ NB159_158.out _; (with_reducible repeat (first | refine blk_drewN ?_ _ | refine blk_drew ?_ | refine blk_alloc ?_ _)); refine blk_far ?_ NB159_158.out _; (with_reducible repeat (first | refine blk_drewN ?_ _ | refine blk_drew ?_ | refine blk_alloc ?_ _)); exact BK159.out)) : gb159 ≠ gb160)); have NB160_159 := Aside0.mk ((by rw [hg]; exact Nat.ne_of_gt (blk_lt (g := gb159) (o := .cells #[.int .i32 a0_0, .int .i32 a0_1] 22 (0, 0)) (by (with_reducible repeat (first | refine blk_drewN ?_ _ | refine blk_drew ?_ | refine blk_alloc ?_ _)); refine blk_far ?_ NB159_158.out _; (with_reducible repeat (first | refine blk_drewN ?_ _ | refine blk_drew ?_ | refine blk_alloc ?_ _)); refine blk_far ?_ NB159_158.out _; (with_reducible repeat (first | refine blk_drewN ?_ _ | refine blk_drew ?_ | refine blk_alloc ?_ _)); exact BK159.out)) : gb160 ≠ gb159)); replace BK153 := Aside0.mk (blk_below (g := gb153) (o := .cells #[.int .i32 a0_0, .int .i32 a0_1, .int .i32 a0_2, .int .i32 a0_3, .int .i32 a0_4, .int .i32 a0_5] 23 (0, 0)) (by (with_reducible repeat (first | refine blk_drewN ?_ _ | refine blk_drew ?_ | refine blk_alloc ?_ _)); refine blk_far ?_ NB153_158.out _; (with_reducible repeat (first | refine blk_drewN ?_ _ | refine blk_drew ?_ | refine blk_alloc ?_ _)); refine blk_far ?_ NB153_158.out _; (with_reducible repeat (first | refine blk_drewN ?_ _ | refine blk_drew ?_ | refine blk_alloc ?_ _)); exact BK153.out) hb); replace BK154 := Aside0.mk (blk_below (g := gb154) (o := .cells #[.int .i32 a1_0, .int .i32 a1_1] 22 (0, 0)) (by (with_reducible repeat (first | refine blk_drewN ?_ _ | refine blk_drew ?_ | refine blk_alloc ?_ _)); refine blk_far ?_ NB154_158.out _; (with_reducible repeat (first | refine blk_drewN ?_ _ | refine blk_drew ?_ | refine blk_alloc ?_ _)); refine blk_far ?_ NB154_158.out _; (with_reducible repeat (first | refine blk_drewN ?_ _ | refine blk_drew ?_ | refine blk_alloc ?_ _)); exact BK154.out) hb); replace BK156 := Aside0.mk (blk_below (g := gb156) (o := .cells #[.int .i64 (Int.tmod (wrap64 (a0_0)) 1048576), .int .i64 (Int.tmod (wrap64 (a0_1)) 1048576), .int .i64 0, .int .i64 0, .int .i64 0, .int .i64 0] 27 (0, 0)) (by (with_reducible repeat (first | refine blk_drewN ?_ _ | refine blk_drew ?_ | refine blk_alloc ?_ _)); refine blk_far ?_ NB156_158.out _; (with_reducible repeat (first | refine blk_drewN ?_ _ | refine blk_drew ?_ | refine blk_alloc ?_ _)); refine blk_far ?_ NB156_158.out _; (with_reducible repeat (first | refine blk_drewN ?_ _ | refine blk_drew ?_ | refine blk_alloc ?_ _)); exact BK156.out) hb); replace BK157 := Aside0.mk (blk_below (g := gb157) (o := .cells #[.int .i64 (wrap64 ((Int.tmod (wrap64 (a0_0)) 1048576) + (Int.tmod (wrap64 (a1_0)) 1048576))), .int .i64 (wrap64 ((Int.tmod (wrap64 (a0_1)) 1048576) + (Int.tmod (wrap64 (a1_1)) 1048576))), .int .i64 0, .int .i64 0, .int .i64 0, .int .i64 0] 27 (0, 0)) (by (with_reducible repeat (first | refine blk_drewN ?_ _ | refine blk_drew ?_ | refine blk_alloc ?_ _)); refine blk_far ?_ NB157_158.out _; (with_reducible repeat (first | refine blk_drewN ?_ _ | refine blk_drew ?_ | refine blk_alloc ?_ _)); refine blk_far ?_ NB157_158.out _; (with_reducible repeat (first | refine blk_drewN ?_ _ | refine blk_drew ?_ | refine blk_alloc ?_ _)); exact BK157.out) hb); replace BK158 := Aside0.mk (blk_below (g := gb158) (o := .cells #[.int .i64 (wrap64 (-(Int.tmod (wrap64 (a0_1)) 1048576))), .int .i64 (Int.tmod (wrap64 (a0_0)) 1048576), .int .i64 0, .int .i64 0, .int .i64 0, .int .i64 0] 27 (0, 0)) (by (with_reducible repeat (first | refine blk_drewN ?_ _ | refine blk_drew ?_ | refine blk_alloc ?_ _)); refine blk_put (cs := #[.int .i64 (wrap64 (-(Int.tmod (wrap64 (a0_1)) 1048576))), .int .i64 0, .int .i64 0, .int .i64 0, .int .i64 0, .int .i64 0]) ?_ 1 _ rfl; (with_reducible repeat (first | refine blk_drewN ?_ _ | refine blk_drew ?_ | refine blk_alloc ?_ _)); refine blk_put (cs := #[.int .i64 0, .int .i64 0, .int .i64 0, .int .i64 0, .int .i64 0, .int .i64 0]) ?_ 0 _ rfl; (with_reducible repeat (first | refine blk_drewN ?_ _ | refine blk_drew ?_ | refine blk_alloc ?_ _)); exact BK158.out) hb); replace BK159 := Aside0.mk (blk_below (g := gb159) (o := .cells #[.int .i32 a0_0, .int .i32 a0_1] 22 (0, 0)) (by (with_reducible repeat (first | refine blk_drewN ?_ _ | refine blk_drew ?_ | refine blk_alloc ?_ _)); refine blk_far ?_ NB159_158.out _; (with_reducible repeat (first | refine blk_drewN ?_ _ | refine blk_drew ?_ | refine blk_alloc ?_ _)); refine blk_far ?_ NB159_158.out _; (with_reducible repeat (first | refine blk_drewN ?_ _ | refine blk_drew ?_ | refine blk_alloc ?_ _)); exact BK159.out) hb); replace HB := Aside0.mk (below_step (bl6 HB.out GE153.out GE154.out GE156.out GE157.out GE158.out GE159.out) hb); clear hb hbox hg; have hnb38 := NB160_153.out; have hnc38 := NB153_160.out; have hnb39 := NB160_154.out; have hnc39 := NB154_160.out; have hnb40 := NB160_156.out; have hnc40 := NB156_160.out; have hnb41 := NB160_157.out; have hnc41 := NB157_160.out; have hnb42 := NB160_158.out; have hnc42 := NB158_160.out; have hnb43 := NB160_159.out; have hnc43 := NB159_160.out; have hcz44_0 : w37.cell? ⟨gb160, 0, none⟩ = some (.int .i32 0) := (blk_cell BK160.out 0).trans rfl; have hcz44_1 : w37.cell? ⟨gb160, 1, none⟩ = some (.int .i32 0) := (blk_cell BK160.out 1).trans rfl; have hfz44_0 := blk_frozen BK160.out 0; have hfz44_1 := blk_frozen BK160.out 1; have hnb45 := NB156_153.out; have hnc45 := NB153_156.out; have hnb46 := NB156_154.out; have hnc46 := NB154_156.out; have hnb47 := NB156_157.out; have hnc47 := NB157_156.out; have hnb48 := NB156_158.out; have hnc48 := NB158_156.out; have hnb49 := NB156_159.out; have hnc49 := NB159_156.out; have hcz50_0 : w37.cell? ⟨gb156, 0, none⟩ = some (.int .i64 (Int.tmod (wrap64 (a0_0)) 1048576)) := (blk_cell BK156.out 0).trans rfl; have hcz50_1 : w37.cell? ⟨gb156, 1, none⟩ = some (.int .i64 (Int.tmod (wrap64 (a0_1)) 1048576)) := (blk_cell BK156.out 1).trans rfl; have hcz50_2 : w37.cell? ⟨gb156, 2, none⟩ = some (.int .i64 0) := (blk_cell BK156.out 2).trans rfl; have hcz50_3 : w37.cell? ⟨gb156, 3, none⟩ = some (.int .i64 0) := (blk_cell BK156.out 3).trans rfl; have hcz50_4 : w37.cell? ⟨gb156, 4, none⟩ = some (.int .i64 0) := (blk_cell BK156.out 4).trans rfl; have hcz50_5 : w37.cell? ⟨gb156, 5, none⟩ = some (.int .i64 0) := (blk_cell BK156.out 5).trans rfl; have hfz50_0 := blk_frozen BK156.out 0; have hfz50_1 := blk_frozen BK156.out 1; have hfz50_2 := blk_frozen BK156.out 2; have hfz50_3 := blk_frozen BK156.out 3; have hfz50_4 := blk_frozen BK156.out 4; have hfz50_5 := blk_frozen BK156.out 5))
    have n0_ : Aside0 (((((w37.setCell ⟨gb160, 0, none⟩ (.int .i32 a0_2)).setCell ⟨gb160, 1, none⟩ (.int .i32 a0_3)).setCell ⟨gb156, 2, none⟩ (.int .i64 (Int.tmod (wrap64 (a0_2)) 1048576))).setCell ⟨gb156, 3, none⟩ (.int .i64 (Int.tmod (wrap64 (a0_3)) 1048576))).heap[gb153]? = some (.cells #[.int .i32 a0_0, .int .i32 a0_1, .int .i32 a0_2, .int .i32 a0_3, .int .i32 a0_4, .int .i32 a0_5] 23 (0, 0))) := ⟨by (with_reducible repeat (first | refine blk_drewN ?_ _ | refine blk_drew ?_ | refine blk_alloc ?_ _)); refine blk_far ?_ NB153_156.out _; (with_reducible repeat (first | refine blk_drewN ?_ _ | refine blk_drew ?_ | refine blk_alloc ?_ _)); refine blk_far ?_ NB153_156.out _; (with_reducible repeat (first | refine blk_drewN ?_ _ | refine blk_drew ?_ | refine blk_alloc ?_ _)); refine blk_far ?_ NB153_160.out _; (with_reducible repeat (first | refine blk_drewN ?_ _ | refine blk_drew ?_ | refine blk_alloc ?_ _)); refine blk_far ?_ NB153_160.out _; (with_reducible repeat (first | refine blk_drewN ?_ _ | refine blk_drew ?_ | refine blk_alloc ?_ _)); exact BK153.out⟩
    have n1_ : Aside0 (((((w37.setCell ⟨gb160, 0, none⟩ (.int .i32 a0_2)).setCell ⟨gb160, 1, none⟩ (.int .i32 a0_3)).setCell ⟨gb156, 2, none⟩ (.int .i64 (Int.tmod (wrap64 (a0_2)) 1048576))).setCell ⟨gb156, 3, none⟩ (.int .i64 (Int.tmod (wrap64 (a0_3)) 1048576))).heap[gb154]? = some (.cells #[.int .i32 a1_0, .int .i32 a1_1] 22 (0, 0))) := ⟨by (with_reducible repeat (first | refine blk_drewN ?_ _ | refine blk_drew ?_ | refine blk_alloc ?_ _)); refine blk_far ?_ NB154_156.out _; (with_reducible repeat (first | refine blk_drewN ?_ _ | refine blk_drew ?_ | refine blk_alloc ?_ _)); refine blk_far ?_ NB154_156.out _; (with_reducible repeat (first | refine blk_drewN ?_ _ | refine blk_drew ?_ | refine blk_alloc ?_ _)); refine blk_far ?_ NB154_160.out _; (with_reducible repeat (first | refine blk_drewN ?_ _ | refine blk_drew ?_ | refine blk_alloc ?_ _)); refine blk_far ?_ NB154_160.out _; (with_reducible repeat (first | refine blk_drewN ?_ _ | refine blk_drew ?_ | refine blk_alloc ?_ _)); exact BK154.out⟩
    have n2_ : Aside0 (((((w37.setCell ⟨gb160, 0, none⟩ (.int .i32 a0_2)).setCell ⟨gb160, 1, none⟩ (.int .i32 a0_3)).setCell ⟨gb156, 2, none⟩ (.int .i64 (Int.tmod (wrap64 (a0_2)) 1048576))).setCell ⟨gb156, 3, none⟩ (.int .i64 (Int.tmod (wrap64 (a0_3)) 1048576))).heap[gb156]? = some (.cells #[.int .i64 (Int.tmod (wrap64 (a0_0)) 1048576), .int .i64 (Int.tmod (wrap64 (a0_1)) 1048576), .int .i64 (Int.tmod (wrap64 (a0_2)) 1048576), .int .i64 (Int.tmod (wrap64 (a0_3)) 1048576), .int .i64 0, .int .i64 0] 27 (0, 0))) := ⟨by (with_reducible repeat (first | refine blk_drewN ?_ _ | refine blk_drew ?_ | refine blk_alloc ?_ _)); refine blk_put (cs := #[.int .i64 (Int.tmod (wrap64 (a0_0)) 1048576), .int .i64 (Int.tmod (wrap64 (a0_1)) 1048576), .int .i64 (Int.tmod (wrap64 (a0_2)) 1048576), .int .i64 0, .int .i64 0, .int .i64 0]) ?_ 3 _ rfl; (with_reducible repeat (first | refine blk_drewN ?_ _ | refine blk_drew ?_ | refine blk_alloc ?_ _)); refine blk_put (cs := #[.int .i64 (Int.tmod (wrap64 (a0_0)) 1048576), .int .i64 (Int.tmod (wrap64 (a0_1)) 1048576), .int .i64 0, .int .i64 0, .int .i64 0, .int .i64 0]) ?_ 2 _ rfl; (with_reducible repeat (first | refine blk_drewN ?_ _ | refine blk_drew ?_ | refine blk_alloc ?_ _)); refine blk_far ?_ NB156_160.out _; (with_reducible repeat (first | refine blk_drewN ?_ _ | refine blk_drew ?_ | refine blk_alloc ?_ _)); refine blk_far ?_ NB156_160.out _; (with_reducible repeat (first | refine blk_drewN ?_ _ | refine blk_drew ?_ | refine blk_alloc ?_ _)); exact BK156.out⟩
    have n3_ : Aside0 (((((w37.setCell ⟨gb160, 0, none⟩ (.int .i32 a0_2)).setCell ⟨gb160, 1, none⟩ (.int .i32 a0_3)).setCell ⟨gb156, 2, none⟩ (.int .i64 (Int.tmod (wrap64 (a0_2)) 1048576))).setCell ⟨gb156, 3, none⟩ (.int .i64 (Int.tmod (wrap64 (a0_3)) 1048576))).heap[gb157]? = some (.cells #[.int .i64 (wrap64 ((Int.tmod (wrap64 (a0_0)) 1048576) + (Int.tmod (wrap64 (a1_0)) 1048576))), .int .i64 (wrap64 ((Int.tmod (wrap64 (a0_1)) 1048576) + (Int.tmod (wrap64 (a1_1)) 1048576))), .int .i64 0, .int .i64 0, .int .i64 0, .int .i64 0] 27 (0, 0))) := ⟨by (with_reducible repeat (first | refine blk_drewN ?_ _ | refine blk_drew ?_ | refine blk_alloc ?_ _)); refine blk_far ?_ NB157_156.out _; (with_reducible repeat (first | refine blk_drewN ?_ _ | refine blk_drew ?_ | refine blk_alloc ?_ _)); refine blk_far ?_ NB157_156.out _; (with_reducible repeat (first | refine blk_drewN ?_ _ | refine blk_drew ?_ | refine blk_alloc ?_ _)); refine blk_far ?_ NB157_160.out _; (with_reducible repeat (first | refine blk_drewN ?_ _ | refine blk_drew ?_ | refine blk_alloc ?_ _)); refine blk_far ?_ NB157_160.out _; (with_reducible repeat (first | refine blk_drewN ?_ _ | refine blk_drew ?_ | refine blk_alloc ?_ _)); exact BK157.out⟩
    have n4_ : Aside0 (((((w37.setCell ⟨gb160, 0, none⟩ (.int .i32 a0_2)).setCell ⟨gb160, 1, none⟩ (.int .i32 a0_3)).setCell ⟨gb156, 2, none⟩ (.int .i64 (Int.tmod (wrap64 (a0_2)) 1048576))).setCell ⟨gb156, 3, none⟩ (.int .i64 (Int.tmod (wrap64 (a0_3)) 1048576))).heap[gb158]? = some (.cells #[.int .i64 (wrap64 (-(Int.tmod (wrap64 (a0_1)) 1048576))), .int .i64 (Int.tmod (wrap64 (a0_0)) 1048576), .int .i64 0, .int .i64 0, .int .i64 0, .int .i64 0] 27 (0, 0))) := ⟨by (with_reducible repeat (first | refine blk_drewN ?_ _ | refine blk_drew ?_ | refine blk_alloc ?_ _)); refine blk_far ?_ NB158_156.out _; (with_reducible repeat (first | refine blk_drewN ?_ _ | refine blk_drew ?_ | refine blk_alloc ?_ _)); refine blk_far ?_ NB158_156.out _; (with_reducible repeat (first | refine blk_drewN ?_ _ | refine blk_drew ?_ | refine blk_alloc ?_ _)); refine blk_far ?_ NB158_160.out _; (with_reducible repeat (first | refine blk_drewN ?_ _ | refine blk_drew ?_ | refine blk_alloc ?_ _)); refine blk_far ?_ NB158_160.out _; (with_reducible repeat (first | refine blk_drewN ?_ _ | refine blk_drew ?_ | refine blk_alloc ?_ _)); exact BK158.out⟩
    have n5_ : Aside0 (((((w37.setCell ⟨gb160, 0, none⟩ (.int .i32 a0_2)).setCell ⟨gb160, 1, none⟩ (.int .i32 a0_3)).setCell ⟨gb156, 2, none⟩ (.int .i64 (Int.tmod (wrap64 (a0_2)) 1048576))).setCell ⟨gb156, 3, none⟩ (.int .i64 (Int.tmod (wrap64 (a0_3)) 1048576))).heap[gb159]? = some (.cells #[.int .i32 a0_0, .int .i32 a0_1] 22 (0, 0))) := ⟨by (with_reducible repeat (first | refine blk_drewN ?_ _ | refine blk_drew ?_ | refine blk_alloc ?_ _)); refine blk_far ?_ NB159_156.out _; (with_reducible repeat (first | refine blk_drewN ?_ _ | refine blk_drew ?_ | refine blk_alloc ?_ _)); refine blk_far ?_ NB159_156.out _; (with_reducible repeat (first | refine blk_drewN ?_ _ | refine blk_drew ?_ | refine blk_alloc ?_ _)); refine blk_far ?_ NB159_160.out _; (with_reducible repeat (first | refine blk_drewN ?_ _ | refine blk_drew ?_ | refine blk_alloc ?_ _)); refine blk_far ?_ NB159_160.out _; (with_reducible repeat (first | refine blk_drewN ?_ _ | refine blk_drew ?_ | refine blk_alloc ?_ _)); exact BK159.out⟩
    have n6_ : Aside0 (((((w37.setCell ⟨gb160, 0, none⟩ (.int .i32 a0_2)).setCell ⟨gb160, 1, none⟩ (.int .i32 a0_3)).setCell ⟨gb156, 2, none⟩ (.int .i64 (Int.tmod (wrap64 (a0_2)) 1048576))).setCell ⟨gb156, 3, none⟩ (.int .i64 (Int.tmod (wrap64 (a0_3)) 1048576))).heap[gb160]? = some (.cells #[.int .i32 a0_2, .int .i32 a0_3] 22 (0, 0))) := ⟨by (with_reducible repeat (first | refine blk_drewN ?_ _ | refine blk_drew ?_ | refine blk_alloc ?_ _)); refine blk_far ?_ NB160_156.out _; (with_reducible repeat (first | refine blk_drewN ?_ _ | refine blk_drew ?_ | refine blk_alloc ?_ _)); refine blk_far ?_ NB160_156.out _; (with_reducible repeat (first | refine blk_drewN ?_ _ | refine blk_drew ?_ | refine blk_alloc ?_ _)); refine blk_put (cs := #[.int .i32 a0_2, .int .i32 0]) ?_ 1 _ rfl; (with_reducible repeat (first | refine blk_drewN ?_ _ | refine blk_drew ?_ | refine blk_alloc ?_ _)); refine blk_put (cs := #[.int .i32 0, .int .i32 0]) ?_ 0 _ rfl; (with_reducible repeat (first | refine blk_drewN ?_ _ | refine blk_drew ?_ | refine blk_alloc ?_ _)); exact BK160.out⟩
    have n7_ : Aside0 (Below w.heap.size w ((((w37.setCell ⟨gb160, 0, none⟩ (.int .i32 a0_2)).setCell ⟨gb160, 1, none⟩ (.int .i32 a0_3)).setCell ⟨gb156, 2, none⟩ (.int .i64 (Int.tmod (wrap64 (a0_2)) 1048576))).setCell ⟨gb156, 3, none⟩ (.int .i64 (Int.tmod (wrap64 (a0_3)) 1048576)))) := ⟨bl7 HB.out GE153.out GE154.out GE156.out GE157.out GE158.out GE159.out GE160.out⟩
    (try clear BK153)
    (try clear BK154)
    (try clear BK156)
    (try clear BK157)
    (try clear BK158)
    (try clear BK159)
    (try clear BK160)
    (try clear HB)
    generalize ((((w37.setCell ⟨gb160, 0, none⟩ (.int .i32 a0_2)).setCell ⟨gb160, 1, none⟩ (.int .i32 a0_3)).setCell ⟨gb156, 2, none⟩ (.int .i64 (Int.tmod (wrap64 (a0_2)) 1048576))).setCell ⟨gb156, 3, none⟩ (.int .i64 (Int.tmod (wrap64 (a0_3)) 1048576))) = w51 at n0_ n1_ n2_ n3_ n4_ n5_ n6_ n7_ ⊢
    have BK153 := n0_
    have BK154 := n1_
    have BK156 := n2_
    have BK157 := n3_
    have BK158 := n4_
    have BK159 := n5_
    have BK160 := n6_
    have HB := n7_
    clear n0_ n1_ n2_ n3_ n4_ n5_ n6_ n7_
    replace BK153 := Aside0.mk (blk_drew BK153.out)
    replace BK154 := Aside0.mk (blk_drew BK154.out)
    replace BK156 := Aside0.mk (blk_drew BK156.out)
    replace BK157 := Aside0.mk (blk_drew BK157.out)
    replace BK158 := Aside0.mk (blk_drew BK158.out)
    replace BK159 := Aside0.mk (blk_drew BK159.out)
    replace BK160 := Aside0.mk (blk_drew BK160.out)
    replace HB := Aside0.mk (below_drew1 HB.out)
    refine start_ (n := 22) (S := fun w' => w'.cell? ⟨gb156, 0, none⟩ = some (.int .i64 (Int.tmod (wrap64 (a0_0)) 1048576)) ∧ w'.cell? ⟨gb156, 1, none⟩ = some (.int .i64 (Int.tmod (wrap64 (a0_1)) 1048576)) ∧ w'.cell? ⟨gb156, 2, none⟩ = some (.int .i64 (Int.tmod (wrap64 (a0_2)) 1048576)) ∧ w'.cell? ⟨gb156, 3, none⟩ = some (.int .i64 (Int.tmod (wrap64 (a0_3)) 1048576)) ∧ w'.cell? ⟨gb156, 4, none⟩ = some (.int .i64 0) ∧ w'.cell? ⟨gb156, 5, none⟩ = some (.int .i64 0) ∧ w'.cell? ⟨gb154, 0, none⟩ = some (.int .i32 a1_0) ∧ w'.cell? ⟨gb154, 1, none⟩ = some (.int .i32 a1_1)) (ds := []) (ba 22 0) (by kernel_rfl) rfl rfl ⟨(blk_cell BK156.out 0).trans rfl, (blk_cell BK156.out 1).trans rfl, (blk_cell BK156.out 2).trans rfl, (blk_cell BK156.out 3).trans rfl, (blk_cell BK156.out 4).trans rfl, (blk_cell BK156.out 5).trans rfl, (blk_cell BK154.out 0).trans rfl, (blk_cell BK154.out 1).trans rfl⟩ (fun hHeld => ?_); refine with_tabW pochoirlaw18_PlaneMoved.tab8 pochoirlaw18_PlaneMoved.bits8 (fun HT_ HW_ => ?_)
    generalize w51.drew = w52 at BK153 BK154 BK156 BK157 BK158 BK159 BK160 HB hHeld ⊢
    refine pI 0 40 (ba 22 1) HT_.out ?_
    refine pI 1 41 (ba 22 3) HT_.out ?_
    refine pI 2 42 (ba 22 7) HT_.out ?_
    refine pI 3 43 (ba 22 15) HT_.out ?_
    refine pI 5 45 (ba 22 47) HT_.out ?_
    refine pI 10 50 (ba 22 1071) HT_.out ?_
    refine pI 11 51 (ba 22 3119) HT_.out ?_
    refine pI 12 52 (ba 22 7215) HT_.out ?_
    refine pI 14 54 (ba 22 23599) HT_.out ?_
    refine take_ (i := 4) (N := some 44) (v := ?_) (a' := ?_) (ba 22 23615) rfl rfl (take_ofW HT_.out HW_.out (by kernel_rfl)) (fun _ _ _ h => h) (Or.inl ⟨by rfl, ?_⟩) hHeld ?_ ?_
    rotate_left
    ·rintro w' ⟨s0, s1, s2, s3, s4, s5, s6, s7⟩
     go_simp
     with_reducible rfl
    rotate_left
    ·simp only [Act.put, List.setIfInBounds_toArray, List.set_cons_zero, List.set_cons_succ, i64_w, i32_w]
     rfl
    refine take_ (i := 6) (N := some 46) (v := ?_) (a' := ?_) (ba 22 23679) rfl rfl (take_ofW HT_.out HW_.out (by kernel_rfl)) (fun _ _ _ h => h) (Or.inl ⟨by rfl, ?_⟩) hHeld ?_ ?_
    rotate_left
    ·rintro w' ⟨s0, s1, s2, s3, s4, s5, s6, s7⟩
     go_simp
     with_reducible rfl
    rotate_left
    ·simp only [Act.put, List.setIfInBounds_toArray, List.set_cons_zero, List.set_cons_succ, i64_w, i32_w]
     rfl
    refine pI 7 47 (ba 22 23807) HT_.out ?_
    refine pI 8 48 (ba 22 24063) HT_.out ?_
    refine pI 9 49 (ba 22 24575) HT_.out ?_
    refine take_ (i := 13) (N := some 53) (v := ?_) (a' := ?_) (ba 22 32767) rfl rfl (take_ofW HT_.out HW_.out (by kernel_rfl)) (fun _ _ _ h => h) (Or.inl ⟨by rfl, ?_⟩) hHeld ?_ ?_
    rotate_left
    ·rintro w' ⟨s0, s1, s2, s3, s4, s5, s6, s7⟩
     go_simp
     with_reducible rfl
    rotate_left
    ·simp only [Act.put, List.setIfInBounds_toArray, List.set_cons_zero, List.set_cons_succ, i64_w, i32_w]
     rfl
    refine take_ (i := 15) (N := some 55) (v := ?_) (a' := ?_) (ba 22 65535) rfl rfl (take_ofW HT_.out HW_.out (by kernel_rfl)) (fun _ _ _ h => h) (Or.inl ⟨by rfl, ?_⟩) hHeld ?_ ?_
    rotate_left
    ·rintro w' ⟨s0, s1, s2, s3, s4, s5, s6, s7⟩
     go_simp
     with_reducible rfl
    rotate_left
    ·simp only [Act.put, List.setIfInBounds_toArray, List.set_cons_zero, List.set_cons_succ, i64_w, i32_w]
     rfl
    refine pI 16 56 (ba 22 131071) HT_.out ?_
    refine pI 17 57 (ba 22 262143) HT_.out ?_
    refine pI 18 58 (ba 22 524287) HT_.out ?_
    refine pI 19 59 (ba 22 1048575) HT_.out ?_
    refine pI 20 60 (ba 22 2097151) HT_.out ?_
    refine one_ (i := 21) (N := none) (ba 22 4194303) rfl rfl (one_of HT_.out (by kernel_rfl)) (by decide) (fun K hK => ?_)
    have hs53 : w52.cell? ⟨gb157, 2, none⟩ = some (.int .i64 0) := (blk_cell BK157.out 2).trans rfl
    have hfs53 := blk_frozen BK157.out 2
    have hns53_0 := NB153_157.out
    have hns53_1 := NB154_157.out
    have hns53_2 := NB156_157.out
    have hns53_4 := NB158_157.out
    have hns53_5 := NB159_157.out
    have hns53_6 := NB160_157.out
    have hms53_0 := NB157_153.out
    have hms53_1 := NB157_154.out
    have hms53_2 := NB157_156.out
    have hms53_4 := NB157_158.out
    have hms53_5 := NB157_159.out
    have hms53_6 := NB157_160.out
    have hs54 : w52.cell? ⟨gb157, 3, none⟩ = some (.int .i64 0) := (blk_cell BK157.out 3).trans rfl
    have hfs54 := blk_frozen BK157.out 3
    have hns54_0 := NB153_157.out
    have hns54_1 := NB154_157.out
    have hns54_2 := NB156_157.out
    have hns54_4 := NB158_157.out
    have hns54_5 := NB159_157.out
    have hns54_6 := NB160_157.out
    have hms54_0 := NB157_153.out
    have hms54_1 := NB157_154.out
    have hms54_2 := NB157_156.out
    have hms54_4 := NB157_158.out
    have hms54_5 := NB157_159.out
    have hms54_6 := NB157_160.out
    refine skip_ (w1 := ?_) (by rfl) rfl ?_ ?_
    rotate_left
    ·go_simp
     rfl
    refine hK.out _ _ ⟨((cell_far (p := ⟨gb157, _, none⟩) NB156_157.out _).trans (((cell_far (p := ⟨gb157, _, none⟩) NB156_157.out _).trans (hHeld.1)))), ((cell_far (p := ⟨gb157, _, none⟩) NB156_157.out _).trans (((cell_far (p := ⟨gb157, _, none⟩) NB156_157.out _).trans (hHeld.2.1)))), ((cell_far (p := ⟨gb157, _, none⟩) NB156_157.out _).trans (((cell_far (p := ⟨gb157, _, none⟩) NB156_157.out _).trans (hHeld.2.2.1)))), ((cell_far (p := ⟨gb157, _, none⟩) NB156_157.out _).trans (((cell_far (p := ⟨gb157, _, none⟩) NB156_157.out _).trans (hHeld.2.2.2.1)))), ((cell_far (p := ⟨gb157, _, none⟩) NB156_157.out _).trans (((cell_far (p := ⟨gb157, _, none⟩) NB156_157.out _).trans (hHeld.2.2.2.2.1)))), ((cell_far (p := ⟨gb157, _, none⟩) NB156_157.out _).trans (((cell_far (p := ⟨gb157, _, none⟩) NB156_157.out _).trans (hHeld.2.2.2.2.2.1)))), ((cell_far (p := ⟨gb157, _, none⟩) NB154_157.out _).trans (((cell_far (p := ⟨gb157, _, none⟩) NB154_157.out _).trans (hHeld.2.2.2.2.2.2.1)))), ((cell_far (p := ⟨gb157, _, none⟩) NB154_157.out _).trans (((cell_far (p := ⟨gb157, _, none⟩) NB154_157.out _).trans (hHeld.2.2.2.2.2.2.2))))⟩ (fun hHeld => ?_)
    clear hK K
    refine done_ (done_of HT_.out (by kernel_rfl)) ?_
    try go_wp2
    have n0_ : Aside0 (((w52.setCell ⟨gb157, 2, none⟩ (.int .i64 (wrap64 ((Int.tmod (wrap64 (a0_2)) 1048576) + (Int.tmod (wrap64 (a1_0)) 1048576))))).setCell ⟨gb157, 3, none⟩ (.int .i64 (wrap64 ((Int.tmod (wrap64 (a0_3)) 1048576) + (Int.tmod (wrap64 (a1_1)) 1048576))))).heap[gb153]? = some (.cells #[.int .i32 a0_0, .int .i32 a0_1, .int .i32 a0_2, .int .i32 a0_3, .int .i32 a0_4, .int .i32 a0_5] 23 (0, 0))) := ⟨by (with_reducible repeat (first | refine blk_drewN ?_ _ | refine blk_drew ?_ | refine blk_alloc ?_ _)); refine blk_far ?_ NB153_157.out _; (with_reducible repeat (first | refine blk_drewN ?_ _ | refine blk_drew ?_ | refine blk_alloc ?_ _)); refine blk_far ?_ NB153_157.out _; (with_reducible repeat (first | refine blk_drewN ?_ _ | refine blk_drew ?_ | refine blk_alloc ?_ _)); exact BK153.out⟩
    have n1_ : Aside0 (((w52.setCell ⟨gb157, 2, none⟩ (.int .i64 (wrap64 ((Int.tmod (wrap64 (a0_2)) 1048576) + (Int.tmod (wrap64 (a1_0)) 1048576))))).setCell ⟨gb157, 3, none⟩ (.int .i64 (wrap64 ((Int.tmod (wrap64 (a0_3)) 1048576) + (Int.tmod (wrap64 (a1_1)) 1048576))))).heap[gb154]? = some (.cells #[.int .i32 a1_0, .int .i32 a1_1] 22 (0, 0))) := ⟨by (with_reducible repeat (first | refine blk_drewN ?_ _ | refine blk_drew ?_ | refine blk_alloc ?_ _)); refine blk_far ?_ NB154_157.out _; (with_reducible repeat (first | refine blk_drewN ?_ _ | refine blk_drew ?_ | refine blk_alloc ?_ _)); refine blk_far ?_ NB154_157.out _; (with_reducible repeat (first | refine blk_drewN ?_ _ | refine blk_drew ?_ | refine blk_alloc ?_ _)); exact BK154.out⟩
    have n2_ : Aside0 (((w52.setCell ⟨gb157, 2, none⟩ (.int .i64 (wrap64 ((Int.tmod (wrap64 (a0_2)) 1048576) + (Int.tmod (wrap64 (a1_0)) 1048576))))).setCell ⟨gb157, 3, none⟩ (.int .i64 (wrap64 ((Int.tmod (wrap64 (a0_3)) 1048576) + (Int.tmod (wrap64 (a1_1)) 1048576))))).heap[gb156]? = some (.cells #[.int .i64 (Int.tmod (wrap64 (a0_0)) 1048576), .int .i64 (Int.tmod (wrap64 (a0_1)) 1048576), .int .i64 (Int.tmod (wrap64 (a0_2)) 1048576), .int .i64 (Int.tmod (wrap64 (a0_3)) 1048576), .int .i64 0, .int .i64 0] 27 (0, 0))) := ⟨by (with_reducible repeat (first | refine blk_drewN ?_ _ | refine blk_drew ?_ | refine blk_alloc ?_ _)); refine blk_far ?_ NB156_157.out _; (with_reducible repeat (first | refine blk_drewN ?_ _ | refine blk_drew ?_ | refine blk_alloc ?_ _)); refine blk_far ?_ NB156_157.out _; (with_reducible repeat (first | refine blk_drewN ?_ _ | refine blk_drew ?_ | refine blk_alloc ?_ _)); exact BK156.out⟩
    have n3_ : Aside0 (((w52.setCell ⟨gb157, 2, none⟩ (.int .i64 (wrap64 ((Int.tmod (wrap64 (a0_2)) 1048576) + (Int.tmod (wrap64 (a1_0)) 1048576))))).setCell ⟨gb157, 3, none⟩ (.int .i64 (wrap64 ((Int.tmod (wrap64 (a0_3)) 1048576) + (Int.tmod (wrap64 (a1_1)) 1048576))))).heap[gb157]? = some (.cells #[.int .i64 (wrap64 ((Int.tmod (wrap64 (a0_0)) 1048576) + (Int.tmod (wrap64 (a1_0)) 1048576))), .int .i64 (wrap64 ((Int.tmod (wrap64 (a0_1)) 1048576) + (Int.tmod (wrap64 (a1_1)) 1048576))), .int .i64 (wrap64 ((Int.tmod (wrap64 (a0_2)) 1048576) + (Int.tmod (wrap64 (a1_0)) 1048576))), .int .i64 (wrap64 ((Int.tmod (wrap64 (a0_3)) 1048576) + (Int.tmod (wrap64 (a1_1)) 1048576))), .int .i64 0, .int .i64 0] 27 (0, 0))) := ⟨by (with_reducible repeat (first | refine blk_drewN ?_ _ | refine blk_drew ?_ | refine blk_alloc ?_ _)); refine blk_put (cs := #[.int .i64 (wrap64 ((Int.tmod (wrap64 (a0_0)) 1048576) + (Int.tmod (wrap64 (a1_0)) 1048576))), .int .i64 (wrap64 ((Int.tmod (wrap64 (a0_1)) 1048576) + (Int.tmod (wrap64 (a1_1)) 1048576))), .int .i64 (wrap64 ((Int.tmod (wrap64 (a0_2)) 1048576) + (Int.tmod (wrap64 (a1_0)) 1048576))), .int .i64 0, .int .i64 0, .int .i64 0]) ?_ 3 _ rfl; (with_reducible repeat (first | refine blk_drewN ?_ _ | refine blk_drew ?_ | refine blk_alloc ?_ _)); refine blk_put (cs := #[.int .i64 (wrap64 ((Int.tmod (wrap64 (a0_0)) 1048576) + (Int.tmod (wrap64 (a1_0)) 1048576))), .int .i64 (wrap64 ((Int.tmod (wrap64 (a0_1)) 1048576) + (Int.tmod (wrap64 (a1_1)) 1048576))), .int .i64 0, .int .i64 0, .int .i64 0, .int .i64 0]) ?_ 2 _ rfl; (with_reducible repeat (first | refine blk_drewN ?_ _ | refine blk_drew ?_ | refine blk_alloc ?_ _)); exact BK157.out⟩
    have n4_ : Aside0 (((w52.setCell ⟨gb157, 2, none⟩ (.int .i64 (wrap64 ((Int.tmod (wrap64 (a0_2)) 1048576) + (Int.tmod (wrap64 (a1_0)) 1048576))))).setCell ⟨gb157, 3, none⟩ (.int .i64 (wrap64 ((Int.tmod (wrap64 (a0_3)) 1048576) + (Int.tmod (wrap64 (a1_1)) 1048576))))).heap[gb158]? = some (.cells #[.int .i64 (wrap64 (-(Int.tmod (wrap64 (a0_1)) 1048576))), .int .i64 (Int.tmod (wrap64 (a0_0)) 1048576), .int .i64 0, .int .i64 0, .int .i64 0, .int .i64 0] 27 (0, 0))) := ⟨by (with_reducible repeat (first | refine blk_drewN ?_ _ | refine blk_drew ?_ | refine blk_alloc ?_ _)); refine blk_far ?_ NB158_157.out _; (with_reducible repeat (first | refine blk_drewN ?_ _ | refine blk_drew ?_ | refine blk_alloc ?_ _)); refine blk_far ?_ NB158_157.out _; (with_reducible repeat (first | refine blk_drewN ?_ _ | refine blk_drew ?_ | refine blk_alloc ?_ _)); exact BK158.out⟩
    have n5_ : Aside0 (((w52.setCell ⟨gb157, 2, none⟩ (.int .i64 (wrap64 ((Int.tmod (wrap64 (a0_2)) 1048576) + (Int.tmod (wrap64 (a1_0)) 1048576))))).setCell ⟨gb157, 3, none⟩ (.int .i64 (wrap64 ((Int.tmod (wrap64 (a0_3)) 1048576) + (Int.tmod (wrap64 (a1_1)) 1048576))))).heap[gb159]? = some (.cells #[.int .i32 a0_0, .int .i32 a0_1] 22 (0, 0))) := ⟨by (with_reducible repeat (first | refine blk_drewN ?_ _ | refine blk_drew ?_ | refine blk_alloc ?_ _)); refine blk_far ?_ NB159_157.out _; (with_reducible repeat (first | refine blk_drewN ?_ _ | refine blk_drew ?_ | refine blk_alloc ?_ _)); refine blk_far ?_ NB159_157.out _; (with_reducible repeat (first | refine blk_drewN ?_ _ | refine blk_drew ?_ | refine blk_alloc ?_ _)); exact BK159.out⟩
    have n6_ : Aside0 (((w52.setCell ⟨gb157, 2, none⟩ (.int .i64 (wrap64 ((Int.tmod (wrap64 (a0_2)) 1048576) + (Int.tmod (wrap64 (a1_0)) 1048576))))).setCell ⟨gb157, 3, none⟩ (.int .i64 (wrap64 ((Int.tmod (wrap64 (a0_3)) 1048576) + (Int.tmod (wrap64 (a1_1)) 1048576))))).heap[gb160]? = some (.cells #[.int .i32 a0_2, .int .i32 a0_3] 22 (0, 0))) := ⟨by (with_reducible repeat (first | refine blk_drewN ?_ _ | refine blk_drew ?_ | refine blk_alloc ?_ _)); refine blk_far ?_ NB160_157.out _; (with_reducible repeat (first | refine blk_drewN ?_ _ | refine blk_drew ?_ | refine blk_alloc ?_ _)); refine blk_far ?_ NB160_157.out _; (with_reducible repeat (first | refine blk_drewN ?_ _ | refine blk_drew ?_ | refine blk_alloc ?_ _)); exact BK160.out⟩
    have n7_ : Aside0 (Below w.heap.size w ((w52.setCell ⟨gb157, 2, none⟩ (.int .i64 (wrap64 ((Int.tmod (wrap64 (a0_2)) 1048576) + (Int.tmod (wrap64 (a1_0)) 1048576))))).setCell ⟨gb157, 3, none⟩ (.int .i64 (wrap64 ((Int.tmod (wrap64 (a0_3)) 1048576) + (Int.tmod (wrap64 (a1_1)) 1048576)))))) := ⟨bl7 HB.out GE153.out GE154.out GE156.out GE157.out GE158.out GE159.out GE160.out⟩
    (try clear BK153)
    (try clear BK154)
    (try clear BK156)
    (try clear BK157)
    (try clear BK158)
    (try clear BK159)
    (try clear BK160)
    (try clear HB)
    generalize ((w52.setCell ⟨gb157, 2, none⟩ (.int .i64 (wrap64 ((Int.tmod (wrap64 (a0_2)) 1048576) + (Int.tmod (wrap64 (a1_0)) 1048576))))).setCell ⟨gb157, 3, none⟩ (.int .i64 (wrap64 ((Int.tmod (wrap64 (a0_3)) 1048576) + (Int.tmod (wrap64 (a1_1)) 1048576))))) = w55 at n0_ n1_ n2_ n3_ n4_ n5_ n6_ n7_ ⊢
    have BK153 := n0_
    have BK154 := n1_
    have BK156 := n2_
    have BK157 := n3_
    have BK158 := n4_
    have BK159 := n5_
    have BK160 := n6_
    have HB := n7_
    clear n0_ n1_ n2_ n3_ n4_ n5_ n6_ n7_
    replace BK153 := Aside0.mk (blk_drew BK153.out)
    replace BK154 := Aside0.mk (blk_drew BK154.out)
    replace BK156 := Aside0.mk (blk_drew BK156.out)
    replace BK157 := Aside0.mk (blk_drew BK157.out)
    replace BK158 := Aside0.mk (blk_drew BK158.out)
    replace BK159 := Aside0.mk (blk_drew BK159.out)
    replace BK160 := Aside0.mk (blk_drew BK160.out)
    replace HB := Aside0.mk (below_drew1 HB.out)
    refine start_ (n := 13) (S := fun w' => w'.cell? ⟨gb156, 0, none⟩ = some (.int .i64 (Int.tmod (wrap64 (a0_0)) 1048576)) ∧ w'.cell? ⟨gb156, 1, none⟩ = some (.int .i64 (Int.tmod (wrap64 (a0_1)) 1048576)) ∧ w'.cell? ⟨gb156, 2, none⟩ = some (.int .i64 (Int.tmod (wrap64 (a0_2)) 1048576)) ∧ w'.cell? ⟨gb156, 3, none⟩ = some (.int .i64 (Int.tmod (wrap64 (a0_3)) 1048576)) ∧ w'.cell? ⟨gb156, 4, none⟩ = some (.int .i64 0) ∧ w'.cell? ⟨gb156, 5, none⟩ = some (.int .i64 0)) (ds := []) (ba 13 0) (by kernel_rfl) rfl rfl ⟨(blk_cell BK156.out 0).trans rfl, (blk_cell BK156.out 1).trans rfl, (blk_cell BK156.out 2).trans rfl, (blk_cell BK156.out 3).trans rfl, (blk_cell BK156.out 4).trans rfl, (blk_cell BK156.out 5).trans rfl⟩ (fun hHeld => ?_); refine with_tabW pochoirlaw18_PlaneMoved.tab9 pochoirlaw18_PlaneMoved.bits9 (fun HT_ HW_ => ?_)
    generalize w55.drew = w56 at BK153 BK154 BK156 BK157 BK158 BK159 BK160 HB hHeld ⊢
    refine pI 0 61 (ba 13 1) HT_.out ?_
    refine pI 1 62 (ba 13 3) HT_.out ?_
    refine pI 2 63 (ba 13 7) HT_.out ?_
    refine pI 3 64 (ba 13 15) HT_.out ?_
    refine pI 6 67 (ba 13 79) HT_.out ?_
    refine pI 7 68 (ba 13 207) HT_.out ?_
    refine pI 8 69 (ba 13 463) HT_.out ?_
    refine take_ (i := 4) (N := some 65) (v := ?_) (a' := ?_) (ba 13 479) rfl rfl (take_ofW HT_.out HW_.out (by kernel_rfl)) (fun _ _ _ h => h) (Or.inl ⟨by rfl, ?_⟩) hHeld ?_ ?_
    rotate_left
    ·rintro w' ⟨s0, s1, s2, s3, s4, s5⟩
     go_simp
     with_reducible rfl
    rotate_left
    ·simp only [Act.put, List.setIfInBounds_toArray, List.set_cons_zero, List.set_cons_succ, i64_w, i32_w]
     rfl
    refine pI 5 66 (ba 13 511) HT_.out ?_
    refine take_ (i := 9) (N := some 70) (v := ?_) (a' := ?_) (ba 13 1023) rfl rfl (take_ofW HT_.out HW_.out (by kernel_rfl)) (fun _ _ _ h => h) (Or.inl ⟨by rfl, ?_⟩) hHeld ?_ ?_
    rotate_left
    ·rintro w' ⟨s0, s1, s2, s3, s4, s5⟩
     go_simp
     with_reducible rfl
    rotate_left
    ·simp only [Act.put, List.setIfInBounds_toArray, List.set_cons_zero, List.set_cons_succ, i64_w, i32_w]
     rfl
    refine pI 10 71 (ba 13 2047) HT_.out ?_
    refine pI 11 72 (ba 13 4095) HT_.out ?_
    refine one_ (i := 12) (N := none) (ba 13 8191) rfl rfl (one_of HT_.out (by kernel_rfl)) (by decide) (fun K hK => ?_)
    have hs57 : w56.cell? ⟨gb158, 2, none⟩ = some (.int .i64 0) := (blk_cell BK158.out 2).trans rfl
    have hfs57 := blk_frozen BK158.out 2
    have hns57_0 := NB153_158.out
    have hns57_1 := NB154_158.out
    have hns57_2 := NB156_158.out
    have hns57_3 := NB157_158.out
    have hns57_5 := NB159_158.out
    have hns57_6 := NB160_158.out
    have hms57_0 := NB158_153.out
    have hms57_1 := NB158_154.out
    have hms57_2 := NB158_156.out
    have hms57_3 := NB158_157.out
    have hms57_5 := NB158_159.out
    have hms57_6 := NB158_160.out
    have hs58 : w56.cell? ⟨gb158, 3, none⟩ = some (.int .i64 0) := (blk_cell BK158.out 3).trans rfl
    have hfs58 := blk_frozen BK158.out 3
    have hns58_0 := NB153_158.out
    have hns58_1 := NB154_158.out
    have hns58_2 := NB156_158.out
    have hns58_3 := NB157_158.out
    have hns58_5 := NB159_158.out
    have hns58_6 := NB160_158.out
    have hms58_0 := NB158_153.out
    have hms58_1 := NB158_154.out
    have hms58_2 := NB158_156.out
    have hms58_3 := NB158_157.out
    have hms58_5 := NB158_159.out
    have hms58_6 := NB158_160.out
    refine skip_ (w1 := ?_) (by rfl) rfl ?_ ?_
    rotate_left
    ·go_simp
     rfl
    refine hK.out _ _ ⟨((cell_far (p := ⟨gb158, _, none⟩) NB156_158.out _).trans (((cell_far (p := ⟨gb158, _, none⟩) NB156_158.out _).trans (hHeld.1)))), ((cell_far (p := ⟨gb158, _, none⟩) NB156_158.out _).trans (((cell_far (p := ⟨gb158, _, none⟩) NB156_158.out _).trans (hHeld.2.1)))), ((cell_far (p := ⟨gb158, _, none⟩) NB156_158.out _).trans (((cell_far (p := ⟨gb158, _, none⟩) NB156_158.out _).trans (hHeld.2.2.1)))), ((cell_far (p := ⟨gb158, _, none⟩) NB156_158.out _).trans (((cell_far (p := ⟨gb158, _, none⟩) NB156_158.out _).trans (hHeld.2.2.2.1)))), ((cell_far (p := ⟨gb158, _, none⟩) NB156_158.out _).trans (((cell_far (p := ⟨gb158, _, none⟩) NB156_158.out _).trans (hHeld.2.2.2.2.1)))), ((cell_far (p := ⟨gb158, _, none⟩) NB156_158.out _).trans (((cell_far (p := ⟨gb158, _, none⟩) NB156_158.out _).trans (hHeld.2.2.2.2.2))))⟩ (fun hHeld => ?_)
    clear hK K
    refine done_ (done_of HT_.out (by kernel_rfl)) ?_
    try go_wp2
    rw [rounds_succ]
    try go_wp2_with (first | ((with_reducible refine gate_dst (N := 9) rfl ?_); refine be 9 (#[.int .i32 0, .int .i32 0]) 22 ?_; intro gb161 hg w59 hbox hb; have BK161 := Aside0.mk (hbox); have GW161 := Aside0.mk ((by rw [hg]; exact (below_size (bl7 HB.out GE153.out GE154.out GE156.out GE157.out GE158.out GE159.out GE160.out)) : w.heap.size ≤ gb161)); have GE161 := GW161; have NB153_161 := Aside0.mk ((by rw [hg]; exact Nat.ne_of_lt (blk_lt (g := gb153) (o := .cells #[.int .i32 a0_0, .int .i32 a0_1, .int .i32 a0_2, .int .i32 a0_3, .int .i32 a0_4, .int .i32 a0_5] 23 (0, 0)) (by (with_reducible repeat (first | refine blk_drewN ?_ _ | refine blk_drew ?_ | refine blk_alloc ?_ _)); refine blk_far ?_ NB153_158.out _; (with_reducible repeat (first | refine blk_drewN ?_ _ | refine blk_drew ?_ | refine blk_alloc ?_ _)); refine blk_far ?_ NB153_158.out _; (with_reducible repeat (first | refine blk_drewN ?_ _ | refine blk_drew ?_ | refine blk_alloc ?_ _)); exact BK153.out)) : gb153 ≠ gb161)); have NB161_153 := Aside0.mk ((by rw [hg]; exact Nat.ne_of_gt (blk_lt (g := gb153) (o := .cells #[.int .i32 a0_0, .int .i32 a0_1, .int .i32 a0_2, .int .i32 a0_3, .int .i32 a0_4, .int .i32 a0_5] 23 (0, 0)) (by (with_reducible repeat (first | refine blk_drewN ?_ _ | refine blk_drew ?_ | refine blk_alloc ?_ _)); refine blk_far ?_ NB153_158.out _; (with_reducible repeat (first | refine blk_drewN ?_ _ | refine blk_drew ?_ | refine blk_alloc ?_ _)); refine blk_far ?_ NB153_158.out _; (with_reducible repeat (first | refine blk_drewN ?_ _ | refine blk_drew ?_ | refine blk_alloc ?_ _)); exact BK153.out)) : gb161 ≠ gb153)); have NB154_161 := Aside0.mk ((by rw [hg]; exact Nat.ne_of_lt (blk_lt (g := gb154) (o := .cells #[.int .i32 a1_0, .int .i32 a1_1] 22 (0, 0)) (by (with_reducible repeat (first | refine blk_drewN ?_ _ | refine blk_drew ?_ | refine blk_alloc ?_ _)); refine blk_far ?_ NB154_158.out _; (with_reducible repeat (first | refine blk_drewN ?_ _ | refine blk_drew ?_ | refine blk_alloc ?_ _)); refine blk_far ?_ NB154_158.out _; (with_reducible repeat (first | refine blk_drewN ?_ _ | refine blk_drew ?_ | refine blk_alloc ?_ _)); exact BK154.out)) : gb154 ≠ gb161)); have NB161_154 := Aside0.mk ((by rw [hg]; exact Nat.ne_of_gt (blk_lt (g := gb154) (o := .cells #[.int .i32 a1_0, .int .i32 a1_1] 22 (0, 0)) (by (with_reducible repeat (first | refine blk_drewN ?_ _ | refine blk_drew ?_ | refine blk_alloc ?_ _)); refine blk_far ?_ NB154_158.out _; (with_reducible repeat (first | refine blk_drewN ?_ _ | refine blk_drew ?_ | refine blk_alloc ?_ _)); refine blk_far ?_ NB154_158.out _; (with_reducible repeat (first | refine blk_drewN ?_ _ | refine blk_drew ?_ | refine blk_alloc ?_ _)); exact BK154.out)) : gb161 ≠ gb154)); have NB156_161 := Aside0.mk ((by rw [hg]; exact Nat.ne_of_lt (blk_lt (g := gb156) (o := .cells #[.int .i64 (Int.tmod (wrap64 (a0_0)) 1048576), .int .i64 (Int.tmod (wrap64 (a0_1)) 1048576), .int .i64 (Int.tmod (wrap64 (a0_2)) 1048576), .int .i64 (Int.tmod (wrap64 (a0_3)) 1048576), .int .i64 0, .int .i64 0] 27 (0, 0)) (by (with_reducible repeat (first | refine blk_drewN ?_ _ | refine blk_drew ?_ | refine blk_alloc ?_ _)); refine blk_far ?_ NB156_158.out _; (with_reducible repeat (first | refine blk_drewN ?_ _ | refine blk_drew ?_ | refine blk_alloc ?_ _)); refine blk_far ?_ NB156_158.out _; (with_reducible repeat (first | refine blk_drewN ?_ _ | refine blk_drew ?_ | refine blk_alloc ?_ _)); exact BK156.out)) : gb156 ≠ gb161)); have NB161_156 := Aside0.mk ((by rw [hg]; exact Nat.ne_of_gt (blk_lt (g := gb156) (o := .cells #[.int .i64 (Int.tmod (wrap64 (a0_0)) 1048576), .int .i64 (Int.tmod (wrap64 (a0_1)) 1048576), .int .i64 (Int.tmod (wrap64 (a0_2)) 1048576), .int .i64 (Int.tmod (wrap64 (a0_3)) 1048576), .int .i64 0, .int .i64 0] 27 (0, 0)) (by (with_reducible repeat (first | refine blk_drewN ?_ _ | refine blk_drew ?_ | refine blk_alloc ?_ _)); refine blk_far ?_ NB156_158.out _; (with_reducible repeat (first | refine blk_drewN ?_ _ | refine blk_drew ?_ | refine blk_alloc ?_ _)); refine blk_far ?_ NB156_158.out _; (with_reducible repeat (first | refine blk_drewN ?_ _ | refine blk_drew ?_ | refine blk_alloc ?_ _)); exact BK156.out)) : gb161 ≠ gb156)); have NB157_161 := Aside0.mk ((by rw [hg]; exact Nat.ne_of_lt (blk_lt (g := gb157) (o := .cells #[.int .i64 (wrap64 ((Int.tmod (wrap64 (a0_0)) 1048576) + (Int.tmod (wrap64 (a1_0)) 1048576))), .int .i64 (wrap64 ((Int.tmod (wrap64 (a0_1)) 1048576) + (Int.tmod (wrap64 (a1_1)) 1048576))), .int .i64 (wrap64 ((Int.tmod (wrap64 (a0_2)) 1048576) + (Int.tmod (wrap64 (a1_0)) 1048576))), .int .i64 (wrap64 ((Int.tmod (wrap64 (a0_3)) 1048576) + (Int.tmod (wrap64 (a1_1)) 1048576))), .int .i64 0, .int .i64 0] 27 (0, 0)) (by (with_reducible repeat (first | refine blk_drewN ?_ _ | refine blk_drew ?_ | refine blk_alloc ?_ _)); refine blk_far ?_ NB157_158.out _; (with_reducible repeat (first | refine blk_drewN ?_ _ | refine blk_drew ?_ | refine blk_alloc ?_ _)); refine blk_far ?_ NB157_158.out _; (with_reducible repeat (first | refine blk_drewN ?_ _ | refine blk_drew ?_ | refine blk_alloc ?_ _)); exact BK157.out)) : gb157 ≠ gb161)); have NB161_157 := Aside0.mk ((by rw [hg]; exact Nat.ne_of_gt (blk_lt (g := gb157) (o := .cells #[.int .i64 (wrap64 ((Int.tmod (wrap64 (a0_0)) 1048576) + (Int.tmod (wrap64 (a1_0)) 1048576))), .int .i64 (wrap64 ((Int.tmod (wrap64 (a0_1)) 1048576) + (Int.tmod (wrap64 (a1_1)) 1048576))), .int .i64 (wrap64 ((Int.tmod (wrap64 (a0_2)) 1048576) + (Int.tmod (wrap64 (a1_0)) 1048576))), .int .i64 (wrap64 ((Int.tmod (wrap64 (a0_3)) 1048576) + (Int.tmod (wrap64 (a1_1)) 1048576))), .int .i64 0, .int .i64 0] 27 (0, 0)) (by (with_reducible repeat (first | refine blk_drewN ?_ _ | refine blk_drew ?_ | refine blk_alloc ?_ _)); refine blk_far ?_ NB157_158.out _; (with_reducible repeat (first | refine blk_drewN ?_ _ | refine blk_drew ?_ | refine blk_alloc ?_ _)); refine blk_far ?_ NB157_158.out _; (with_reducible repeat (first | refine blk_drewN ?_ _ | refine blk_drew ?_ | refine blk_alloc ?_ _)); exact BK157.out)) : gb161 ≠ gb157)); have NB158_161 := Aside0.mk ((by rw [hg]; exact Nat.ne_of_lt (blk_lt (g := gb158) (o := .cells #[.int .i64 (wrap64 (-(Int.tmod (wrap64 (a0_1)) 1048576))), .int .i64 (Int.tmod (wrap64 (a0_0)) 1048576), .int .i64 (wrap64 (-(Int.tmod (wrap64 (a0_3)) 1048576))), .int .i64 (Int.tmod (wrap64 (a0_2)) 1048576), .int .i64 0, .int .i64 0] 27 (0, 0)) (by (with_reducible repeat (first | refine blk_drewN ?_ _ | refine blk_drew ?_ | refine blk_alloc ?_ _)); refine blk_put (cs := #[.int .i64 (wrap64 (-(Int.tmod (wrap64 (a0_1)) 1048576))), .int .i64 (Int.tmod (wrap64 (a0_0)) 1048576), .int .i64 (wrap64 (-(Int.tmod (wrap64 (a0_3)) 1048576))), .int .i64 0, .int .i64 0, .int .i64 0]) ?_ 3 _ rfl; (with_reducible repeat (first | refine blk_drewN ?_ _ | refine blk_drew ?_ | refine blk_alloc ?_ _)); refine blk_put (cs := #[.int .i64 (wrap64 (-(Int.tmod (wrap64 (a0_1)) 1048576))), .int .i64 (Int.tmod (wrap64 (a0_0)) 1048576), .int .i64 0, .int .i64 0, .int .i64 0, .int .i64 0]) ?_ 2 _ rfl; (with_reducible repeat (first | refine blk_drewN ?_ _ | refine blk_drew ?_ | refine blk_alloc ?_ _)); exact BK158.out)) : gb158 ≠ gb161)); have NB161_158 := Aside0.mk ((by rw [hg]; exact Nat.ne_of_gt (blk_lt (g := gb158) (o := .cells #[.int .i64 (wrap64 (-(Int.tmod (wrap64 (a0_1)) 1048576))), .int .i64 (Int.tmod (wrap64 (a0_0)) 1048576), .int .i64 (wrap64 (-(Int.tmod (wrap64 (a0_3)) 1048576))), .int .i64 (Int.tmod (wrap64 (a0_2)) 1048576), .int .i64 0, .int .i64 0] 27 (0, 0)) (by (with_reducible repeat (first | refine blk_drewN ?_ _ | refine blk_drew ?_ | refine blk_alloc ?_ _)); refine blk_put (cs := #[.int .i64 (wrap64 (-(Int.tmod (wrap64 (a0_1)) 1048576))), .int .i64 (Int.tmod (wrap64 (a0_0)) 1048576), .int .i64 (wrap64 (-(Int.tmod (wrap64 (a0_3)) 1048576))), .int .i64 0, .int .i64 0, .int .i64 0]) ?_ 3 _ rfl; (with_reducible repeat (first | refine blk_drewN ?_ _ | refine blk_drew ?_ | refine blk_alloc ?_ _)); refine blk_put (cs := #[.int .i64 (wrap64 (-(Int.tmod (wrap64 (a0_1)) 1048576))), .int .i64 (Int.tmod (wrap64 (a0_0)) 1048576), .int .i64 0, .int .i64 0, .int .i64 0, .int .i64 0]) ?_ 2 _ rfl; (with_reducible repeat (first | refine blk_drewN ?_ _ | refine blk_drew ?_ | refine blk_alloc ?_ _)); exact BK158.out)) : gb161 ≠ gb158)); have NB159_161 := Aside0.mk ((by rw [hg]; exact Nat.ne_of_lt (blk_lt (g := gb159) (o := .cells #[.int .i32 a0_0, .int .i32 a0_1] 22 (0, 0)) (by (with_reducible repeat (first | refine blk_drewN ?_ _ | refine blk_drew ?_ | refine blk_alloc ?_ _)); refine blk_far ?_ NB159_158.out _; (with_reducible repeat (first | refine blk_drewN ?_ _ | refine blk_drew ?_ | refine blk_alloc ?_ _)); refine blk_far ?_ NB159_158.out _; (with_reducible repeat (first | refine blk_drewN ?_ _ | refine blk_drew ?_ | refine blk_alloc ?_ _)); exact BK159.out)) : gb159 ≠ gb161)); have NB161_159 := Aside0.mk ((by rw [hg]; exact Nat.ne_of_gt (blk_lt (g := gb159) (o := .cells #[.int .i32 a0_0, .int .i32 a0_1] 22 (0, 0)) (by (with_reducible repeat (first | refine blk_drewN ?_ _ | refine blk_drew ?_ | refine blk_alloc ?_ _)); refine blk_far ?_ NB159_158.out _; (with_reducible repeat (first | refine blk_drewN ?_ _ | refine blk_drew ?_ | refine blk_alloc ?_ _)); refine blk_far ?_ NB159_158.out _; (with_reducible repeat (first | refine blk_drewN ?_ _ | refine blk_drew ?_ | refine blk_alloc ?_ _)); exact BK159.out)) : gb161 ≠ gb159)); have NB160_161 := Aside0.mk ((by rw [hg]; exact Nat.ne_of_lt (blk_lt (g := gb160) (o := .cells #[.int .i32 a0_2, .int .i32 a0_3] 22 (0, 0)) (by (with_reducible repeat (first | refine blk_drewN ?_ _ | refine blk_drew ?_ | refine blk_alloc ?_ _)); refine blk_far ?_ NB160_158.out _; (with_reducible repeat (first | refine blk_drewN ?_ _ | refine blk_drew ?_ | refine blk_alloc ?_ _)); refine blk_far ?_ NB160_158.out _; (with_reducible repeat (first | refine blk_drewN ?_ _ | refine blk_drew ?_ | refine blk_alloc ?_ _)); exact BK160.out)) : gb160 ≠ gb161)); have NB161_160 := Aside0.mk ((by rw [hg]; exact Nat.ne_of_gt (blk_lt (g := gb160) (o := .cells #[.int .i32 a0_2, .int .i32 a0_3] 22 (0, 0)) (by (with_reducible repeat (first | refine blk_drewN ?_ _ | refine blk_drew ?_ | refine blk_alloc ?_ _)); refine blk_far ?_ NB160_158.out _; (with_reducible repeat (first | refine blk_drewN ?_ _ | refine blk_drew ?_ | refine blk_alloc ?_ _)); refine blk_far ?_ NB160_158.out _; (with_reducible repeat (first | refine blk_drewN ?_ _ | refine blk_drew ?_ | refine blk_alloc ?_ _)); exact BK160.out)) : gb161 ≠ gb160)); replace BK153 := Aside0.mk (blk_below (g := gb153) (o := .cells #[.int .i32 a0_0, .int .i32 a0_1, .int .i32 a0_2, .int .i32 a0_3, .int .i32 a0_4, .int .i32 a0_5] 23 (0, 0)) (by (with_reducible repeat (first | refine blk_drewN ?_ _ | refine blk_drew ?_ | refine blk_alloc ?_ _)); refine blk_far ?_ NB153_158.out _; (with_reducible repeat (first | refine blk_drewN ?_ _ | refine blk_drew ?_ | refine blk_alloc ?_ _)); refine blk_far ?_ NB153_158.out _; (with_reducible repeat (first | refine blk_drewN ?_ _ | refine blk_drew ?_ | refine blk_alloc ?_ _)); exact BK153.out) hb); replace BK154 := Aside0.mk (blk_below (g := gb154) (o := .cells #[.int .i32 a1_0, .int .i32 a1_1] 22 (0, 0)) (by (with_reducible repeat (first | refine blk_drewN ?_ _ | refine blk_drew ?_ | refine blk_alloc ?_ _)); refine blk_far ?_ NB154_158.out _; (with_reducible repeat (first | refine blk_drewN ?_ _ | refine blk_drew ?_ | refine blk_alloc ?_ _)); refine blk_far ?_ NB154_158.out _; (with_reducible repeat (first | refine blk_drewN ?_ _ | refine blk_drew ?_ | refine blk_alloc ?_ _)); exact BK154.out) hb); replace BK156 := Aside0.mk (blk_below (g := gb156) (o := .cells #[.int .i64 (Int.tmod (wrap64 (a0_0)) 1048576), .int .i64 (Int.tmod (wrap64 (a0_1)) 1048576), .int .i64 (Int.tmod (wrap64 (a0_2)) 1048576), .int .i64 (Int.tmod (wrap64 (a0_3)) 1048576), .int .i64 0, .int .i64 0] 27 (0, 0)) (by (with_reducible repeat (first | refine blk_drewN ?_ _ | refine blk_drew ?_ | refine blk_alloc ?_ _)); refine blk_far ?_ NB156_158.out _; (with_reducible repeat (first | refine blk_drewN ?_ _ | refine blk_drew ?_ | refine blk_alloc ?_ _)); refine blk_far ?_ NB156_158.out _; (with_reducible repeat (first | refine blk_drewN ?_ _ | refine blk_drew ?_ | refine blk_alloc ?_ _)); exact BK156.out) hb); replace BK157 := Aside0.mk (blk_below (g := gb157) (o := .cells #[.int .i64 (wrap64 ((Int.tmod (wrap64 (a0_0)) 1048576) + (Int.tmod (wrap64 (a1_0)) 1048576))), .int .i64 (wrap64 ((Int.tmod (wrap64 (a0_1)) 1048576) + (Int.tmod (wrap64 (a1_1)) 1048576))), .int .i64 (wrap64 ((Int.tmod (wrap64 (a0_2)) 1048576) + (Int.tmod (wrap64 (a1_0)) 1048576))), .int .i64 (wrap64 ((Int.tmod (wrap64 (a0_3)) 1048576) + (Int.tmod (wrap64 (a1_1)) 1048576))), .int .i64 0, .int .i64 0] 27 (0, 0)) (by (with_reducible repeat (first | refine blk_drewN ?_ _ | refine blk_drew ?_ | refine blk_alloc ?_ _)); refine blk_far ?_ NB157_158.out _; (with_reducible repeat (first | refine blk_drewN ?_ _ | refine blk_drew ?_ | refine blk_alloc ?_ _)); refine blk_far ?_ NB157_158.out _; (with_reducible repeat (first | refine blk_drewN ?_ _ | refine blk_drew ?_ | refine blk_alloc ?_ _)); exact BK157.out) hb); replace BK158 := Aside0.mk (blk_below (g := gb158) (o := .cells #[.int .i64 (wrap64 (-(Int.tmod (wrap64 (a0_1)) 1048576))), .int .i64 (Int.tmod (wrap64 (a0_0)) 1048576), .int .i64 (wrap64 (-(Int.tmod (wrap64 (a0_3)) 1048576))), .int .i64 (Int.tmod (wrap64 (a0_2)) 1048576), .int .i64 0, .int .i64 0] 27 (0, 0)) (by (with_reducible repeat (first | refine blk_drewN ?_ _ | refine blk_drew ?_ | refine blk_alloc ?_ _)); refine blk_put (cs := #[.int .i64 (wrap64 (-(Int.tmod (wrap64 (a0_1)) 1048576))), .int .i64 (Int.tmod (wrap64 (a0_0)) 1048576), .int .i64 (wrap64 (-(Int.tmod (wrap64 (a0_3)) 1048576))), .int .i64 0, .int .i64 0, .int .i64 0]) ?_ 3 _ rfl; (with_reducible repeat (first | refine blk_drewN ?_ _ | refine blk_drew ?_ | refine blk_alloc ?_ _)); refine blk_put (cs := #[.int .i64 (wrap64 (-(Int.tmod (wrap64 (a0_1)) 1048576))), .int .i64 (Int.tmod (wrap64 (a0_0)) 1048576), .int .i64 0, .int .i64 0, .int .i64 0, .int .i64 0]) ?_ 2 _ rfl; (with_reducible repeat (first | refine blk_drewN ?_ _ | refine blk_drew ?_ | refine blk_alloc ?_ _)); exact BK158.out) hb); replace BK159 := Aside0.mk (blk_below (g := gb159) (o := .cells #[.int .i32 a0_0, .int .i32 a0_1] 22 (0, 0)) (by (with_reducible repeat (first | refine blk_drewN ?_ _ | refine blk_drew ?_ | refine blk_alloc ?_ _)); refine blk_far ?_ NB159_158.out _; (with_reducible repeat (first | refine blk_drewN ?_ _ | refine blk_drew ?_ | refine blk_alloc ?_ _)); refine blk_far ?_ NB159_158.out _; (with_reducible repeat (first | refine blk_drewN ?_ _ | refine blk_drew ?_ | refine blk_alloc ?_ _)); exact BK159.out) hb); replace BK160 := Aside0.mk (blk_below (g := gb160) (o := .cells #[.int .i32 a0_2, .int .i32 a0_3] 22 (0, 0)) (by (with_reducible repeat (first | refine blk_drewN ?_ _ | refine blk_drew ?_ | refine blk_alloc ?_ _)); refine blk_far ?_ NB160_158.out _; (with_reducible repeat (first | refine blk_drewN ?_ _ | refine blk_drew ?_ | refine blk_alloc ?_ _)); refine blk_far ?_ NB160_158.out _; (with_reducible repeat (first | refine blk_drewN ?_ _ | refine blk_drew ?_ | refine blk_alloc ?_ _)); exact BK160.out) hb); replace HB := Aside0.mk (below_step (bl7 HB.out GE153.out GE154.out GE156.out GE157.out GE158.out GE159.out GE160.out) hb); clear hb hbox hg; have hnb60 := NB161_153.out; have hnc60 := NB153_161.out; have hnb61 := NB161_154.out; have hnc61 := NB154_161.out; have hnb62 := NB161_156.out; have hnc62 := NB156_161.out; have hnb63 := NB161_157.out; have hnc63 := NB157_161.out; have hnb64 := NB161_158.out; have hnc64 := NB158_161.out; have hnb65 := NB161_159.out; have hnc65 := NB159_161.out; have hnb66 := NB161_160.out; have hnc66 := NB160_161.out; have hcz67_0 : w59.cell? ⟨gb161, 0, none⟩ = some (.int .i32 0) := (blk_cell BK161.out 0).trans rfl; have hcz67_1 : w59.cell? ⟨gb161, 1, none⟩ = some (.int .i32 0) := (blk_cell BK161.out 1).trans rfl; have hfz67_0 := blk_frozen BK161.out 0; have hfz67_1 := blk_frozen BK161.out 1; have hnb68 := NB156_153.out; have hnc68 := NB153_156.out; have hnb69 := NB156_154.out; have hnc69 := NB154_156.out; have hnb70 := NB156_157.out; have hnc70 := NB157_156.out; have hnb71 := NB156_158.out; have hnc71 := NB158_156.out; have hnb72 := NB156_159.out; have hnc72 := NB159_156.out; have hnb73 := NB156_160.out; have hnc73 := NB160_156.out; have hcz74_0 : w59.cell? ⟨gb156, 0, none⟩ = some (.int .i64 (Int.tmod (wrap64 (a0_0)) 1048576)) := (blk_cell BK156.out 0).trans rfl; have hcz74_1 : w59.cell? ⟨gb156, 1, none⟩ = some (.int .i64 (Int.tmod (wrap64 (a0_1)) 1048576)) := (blk_cell BK156.out 1).trans rfl; have hcz74_2 : w59.cell? ⟨gb156, 2, none⟩ = some (.int .i64 (Int.tmod (wrap64 (a0_2)) 1048576)) := (blk_cell BK156.out 2).trans rfl; have hcz74_3 : w59.cell? ⟨gb156, 3, none⟩ = some (.int .i64 (Int.tmod (wrap64 (a0_3)) 1048576)) := (blk_cell BK156.out 3).trans rfl; have hcz74_4 : w59.cell? ⟨gb156, 4, none⟩ = some (.int .i64 0) := (blk_cell BK156.out 4).trans rfl; have hcz74_5 : w59.cell? ⟨gb156, 5, none⟩ = some (.int .i64 0) := (blk_cell BK156.out 5).trans rfl; have hfz74_0 := blk_frozen BK156.out 0; have hfz74_1 := blk_frozen BK156.out 1; have hfz74_2 := blk_frozen BK156.out 2; have hfz74_3 := blk_frozen BK156.out 3; have hfz74_4 := blk_frozen BK156.out 4; have hfz74_5 := blk_frozen BK156.out 5))
    have n0_ : Aside0 (((((w59.setCell ⟨gb161, 0, none⟩ (.int .i32 a0_4)).setCell ⟨gb161, 1, none⟩ (.int .i32 a0_5)).setCell ⟨gb156, 4, none⟩ (.int .i64 (Int.tmod (wrap64 (a0_4)) 1048576))).setCell ⟨gb156, 5, none⟩ (.int .i64 (Int.tmod (wrap64 (a0_5)) 1048576))).heap[gb153]? = some (.cells #[.int .i32 a0_0, .int .i32 a0_1, .int .i32 a0_2, .int .i32 a0_3, .int .i32 a0_4, .int .i32 a0_5] 23 (0, 0))) := ⟨by (with_reducible repeat (first | refine blk_drewN ?_ _ | refine blk_drew ?_ | refine blk_alloc ?_ _)); refine blk_far ?_ NB153_156.out _; (with_reducible repeat (first | refine blk_drewN ?_ _ | refine blk_drew ?_ | refine blk_alloc ?_ _)); refine blk_far ?_ NB153_156.out _; (with_reducible repeat (first | refine blk_drewN ?_ _ | refine blk_drew ?_ | refine blk_alloc ?_ _)); refine blk_far ?_ NB153_161.out _; (with_reducible repeat (first | refine blk_drewN ?_ _ | refine blk_drew ?_ | refine blk_alloc ?_ _)); refine blk_far ?_ NB153_161.out _; (with_reducible repeat (first | refine blk_drewN ?_ _ | refine blk_drew ?_ | refine blk_alloc ?_ _)); exact BK153.out⟩
    have n1_ : Aside0 (((((w59.setCell ⟨gb161, 0, none⟩ (.int .i32 a0_4)).setCell ⟨gb161, 1, none⟩ (.int .i32 a0_5)).setCell ⟨gb156, 4, none⟩ (.int .i64 (Int.tmod (wrap64 (a0_4)) 1048576))).setCell ⟨gb156, 5, none⟩ (.int .i64 (Int.tmod (wrap64 (a0_5)) 1048576))).heap[gb154]? = some (.cells #[.int .i32 a1_0, .int .i32 a1_1] 22 (0, 0))) := ⟨by (with_reducible repeat (first | refine blk_drewN ?_ _ | refine blk_drew ?_ | refine blk_alloc ?_ _)); refine blk_far ?_ NB154_156.out _; (with_reducible repeat (first | refine blk_drewN ?_ _ | refine blk_drew ?_ | refine blk_alloc ?_ _)); refine blk_far ?_ NB154_156.out _; (with_reducible repeat (first | refine blk_drewN ?_ _ | refine blk_drew ?_ | refine blk_alloc ?_ _)); refine blk_far ?_ NB154_161.out _; (with_reducible repeat (first | refine blk_drewN ?_ _ | refine blk_drew ?_ | refine blk_alloc ?_ _)); refine blk_far ?_ NB154_161.out _; (with_reducible repeat (first | refine blk_drewN ?_ _ | refine blk_drew ?_ | refine blk_alloc ?_ _)); exact BK154.out⟩
    have n2_ : Aside0 (((((w59.setCell ⟨gb161, 0, none⟩ (.int .i32 a0_4)).setCell ⟨gb161, 1, none⟩ (.int .i32 a0_5)).setCell ⟨gb156, 4, none⟩ (.int .i64 (Int.tmod (wrap64 (a0_4)) 1048576))).setCell ⟨gb156, 5, none⟩ (.int .i64 (Int.tmod (wrap64 (a0_5)) 1048576))).heap[gb156]? = some (.cells #[.int .i64 (Int.tmod (wrap64 (a0_0)) 1048576), .int .i64 (Int.tmod (wrap64 (a0_1)) 1048576), .int .i64 (Int.tmod (wrap64 (a0_2)) 1048576), .int .i64 (Int.tmod (wrap64 (a0_3)) 1048576), .int .i64 (Int.tmod (wrap64 (a0_4)) 1048576), .int .i64 (Int.tmod (wrap64 (a0_5)) 1048576)] 27 (0, 0))) := ⟨by (with_reducible repeat (first | refine blk_drewN ?_ _ | refine blk_drew ?_ | refine blk_alloc ?_ _)); refine blk_put (cs := #[.int .i64 (Int.tmod (wrap64 (a0_0)) 1048576), .int .i64 (Int.tmod (wrap64 (a0_1)) 1048576), .int .i64 (Int.tmod (wrap64 (a0_2)) 1048576), .int .i64 (Int.tmod (wrap64 (a0_3)) 1048576), .int .i64 (Int.tmod (wrap64 (a0_4)) 1048576), .int .i64 0]) ?_ 5 _ rfl; (with_reducible repeat (first | refine blk_drewN ?_ _ | refine blk_drew ?_ | refine blk_alloc ?_ _)); refine blk_put (cs := #[.int .i64 (Int.tmod (wrap64 (a0_0)) 1048576), .int .i64 (Int.tmod (wrap64 (a0_1)) 1048576), .int .i64 (Int.tmod (wrap64 (a0_2)) 1048576), .int .i64 (Int.tmod (wrap64 (a0_3)) 1048576), .int .i64 0, .int .i64 0]) ?_ 4 _ rfl; (with_reducible repeat (first | refine blk_drewN ?_ _ | refine blk_drew ?_ | refine blk_alloc ?_ _)); refine blk_far ?_ NB156_161.out _; (with_reducible repeat (first | refine blk_drewN ?_ _ | refine blk_drew ?_ | refine blk_alloc ?_ _)); refine blk_far ?_ NB156_161.out _; (with_reducible repeat (first | refine blk_drewN ?_ _ | refine blk_drew ?_ | refine blk_alloc ?_ _)); exact BK156.out⟩
    have n3_ : Aside0 (((((w59.setCell ⟨gb161, 0, none⟩ (.int .i32 a0_4)).setCell ⟨gb161, 1, none⟩ (.int .i32 a0_5)).setCell ⟨gb156, 4, none⟩ (.int .i64 (Int.tmod (wrap64 (a0_4)) 1048576))).setCell ⟨gb156, 5, none⟩ (.int .i64 (Int.tmod (wrap64 (a0_5)) 1048576))).heap[gb157]? = some (.cells #[.int .i64 (wrap64 ((Int.tmod (wrap64 (a0_0)) 1048576) + (Int.tmod (wrap64 (a1_0)) 1048576))), .int .i64 (wrap64 ((Int.tmod (wrap64 (a0_1)) 1048576) + (Int.tmod (wrap64 (a1_1)) 1048576))), .int .i64 (wrap64 ((Int.tmod (wrap64 (a0_2)) 1048576) + (Int.tmod (wrap64 (a1_0)) 1048576))), .int .i64 (wrap64 ((Int.tmod (wrap64 (a0_3)) 1048576) + (Int.tmod (wrap64 (a1_1)) 1048576))), .int .i64 0, .int .i64 0] 27 (0, 0))) := ⟨by (with_reducible repeat (first | refine blk_drewN ?_ _ | refine blk_drew ?_ | refine blk_alloc ?_ _)); refine blk_far ?_ NB157_156.out _; (with_reducible repeat (first | refine blk_drewN ?_ _ | refine blk_drew ?_ | refine blk_alloc ?_ _)); refine blk_far ?_ NB157_156.out _; (with_reducible repeat (first | refine blk_drewN ?_ _ | refine blk_drew ?_ | refine blk_alloc ?_ _)); refine blk_far ?_ NB157_161.out _; (with_reducible repeat (first | refine blk_drewN ?_ _ | refine blk_drew ?_ | refine blk_alloc ?_ _)); refine blk_far ?_ NB157_161.out _; (with_reducible repeat (first | refine blk_drewN ?_ _ | refine blk_drew ?_ | refine blk_alloc ?_ _)); exact BK157.out⟩
    have n4_ : Aside0 (((((w59.setCell ⟨gb161, 0, none⟩ (.int .i32 a0_4)).setCell ⟨gb161, 1, none⟩ (.int .i32 a0_5)).setCell ⟨gb156, 4, none⟩ (.int .i64 (Int.tmod (wrap64 (a0_4)) 1048576))).setCell ⟨gb156, 5, none⟩ (.int .i64 (Int.tmod (wrap64 (a0_5)) 1048576))).heap[gb158]? = some (.cells #[.int .i64 (wrap64 (-(Int.tmod (wrap64 (a0_1)) 1048576))), .int .i64 (Int.tmod (wrap64 (a0_0)) 1048576), .int .i64 (wrap64 (-(Int.tmod (wrap64 (a0_3)) 1048576))), .int .i64 (Int.tmod (wrap64 (a0_2)) 1048576), .int .i64 0, .int .i64 0] 27 (0, 0))) := ⟨by (with_reducible repeat (first | refine blk_drewN ?_ _ | refine blk_drew ?_ | refine blk_alloc ?_ _)); refine blk_far ?_ NB158_156.out _; (with_reducible repeat (first | refine blk_drewN ?_ _ | refine blk_drew ?_ | refine blk_alloc ?_ _)); refine blk_far ?_ NB158_156.out _; (with_reducible repeat (first | refine blk_drewN ?_ _ | refine blk_drew ?_ | refine blk_alloc ?_ _)); refine blk_far ?_ NB158_161.out _; (with_reducible repeat (first | refine blk_drewN ?_ _ | refine blk_drew ?_ | refine blk_alloc ?_ _)); refine blk_far ?_ NB158_161.out _; (with_reducible repeat (first | refine blk_drewN ?_ _ | refine blk_drew ?_ | refine blk_alloc ?_ _)); exact BK158.out⟩
    have n5_ : Aside0 (((((w59.setCell ⟨gb161, 0, none⟩ (.int .i32 a0_4)).setCell ⟨gb161, 1, none⟩ (.int .i32 a0_5)).setCell ⟨gb156, 4, none⟩ (.int .i64 (Int.tmod (wrap64 (a0_4)) 1048576))).setCell ⟨gb156, 5, none⟩ (.int .i64 (Int.tmod (wrap64 (a0_5)) 1048576))).heap[gb159]? = some (.cells #[.int .i32 a0_0, .int .i32 a0_1] 22 (0, 0))) := ⟨by (with_reducible repeat (first | refine blk_drewN ?_ _ | refine blk_drew ?_ | refine blk_alloc ?_ _)); refine blk_far ?_ NB159_156.out _; (with_reducible repeat (first | refine blk_drewN ?_ _ | refine blk_drew ?_ | refine blk_alloc ?_ _)); refine blk_far ?_ NB159_156.out _; (with_reducible repeat (first | refine blk_drewN ?_ _ | refine blk_drew ?_ | refine blk_alloc ?_ _)); refine blk_far ?_ NB159_161.out _; (with_reducible repeat (first | refine blk_drewN ?_ _ | refine blk_drew ?_ | refine blk_alloc ?_ _)); refine blk_far ?_ NB159_161.out _; (with_reducible repeat (first | refine blk_drewN ?_ _ | refine blk_drew ?_ | refine blk_alloc ?_ _)); exact BK159.out⟩
    have n6_ : Aside0 (((((w59.setCell ⟨gb161, 0, none⟩ (.int .i32 a0_4)).setCell ⟨gb161, 1, none⟩ (.int .i32 a0_5)).setCell ⟨gb156, 4, none⟩ (.int .i64 (Int.tmod (wrap64 (a0_4)) 1048576))).setCell ⟨gb156, 5, none⟩ (.int .i64 (Int.tmod (wrap64 (a0_5)) 1048576))).heap[gb160]? = some (.cells #[.int .i32 a0_2, .int .i32 a0_3] 22 (0, 0))) := ⟨by (with_reducible repeat (first | refine blk_drewN ?_ _ | refine blk_drew ?_ | refine blk_alloc ?_ _)); refine blk_far ?_ NB160_156.out _; (with_reducible repeat (first | refine blk_drewN ?_ _ | refine blk_drew ?_ | refine blk_alloc ?_ _)); refine blk_far ?_ NB160_156.out _; (with_reducible repeat (first | refine blk_drewN ?_ _ | refine blk_drew ?_ | refine blk_alloc ?_ _)); refine blk_far ?_ NB160_161.out _; (with_reducible repeat (first | refine blk_drewN ?_ _ | refine blk_drew ?_ | refine blk_alloc ?_ _)); refine blk_far ?_ NB160_161.out _; (with_reducible repeat (first | refine blk_drewN ?_ _ | refine blk_drew ?_ | refine blk_alloc ?_ _)); exact BK160.out⟩
    have n7_ : Aside0 (((((w59.setCell ⟨gb161, 0, none⟩ (.int .i32 a0_4)).setCell ⟨gb161, 1, none⟩ (.int .i32 a0_5)).setCell ⟨gb156, 4, none⟩ (.int .i64 (Int.tmod (wrap64 (a0_4)) 1048576))).setCell ⟨gb156, 5, none⟩ (.int .i64 (Int.tmod (wrap64 (a0_5)) 1048576))).heap[gb161]? = some (.cells #[.int .i32 a0_4, .int .i32 a0_5] 22 (0, 0))) := ⟨by (with_reducible repeat (first | refine blk_drewN ?_ _ | refine blk_drew ?_ | refine blk_alloc ?_ _)); refine blk_far ?_ NB161_156.out _; (with_reducible repeat (first | refine blk_drewN ?_ _ | refine blk_drew ?_ | refine blk_alloc ?_ _)); refine blk_far ?_ NB161_156.out _; (with_reducible repeat (first | refine blk_drewN ?_ _ | refine blk_drew ?_ | refine blk_alloc ?_ _)); refine blk_put (cs := #[.int .i32 a0_4, .int .i32 0]) ?_ 1 _ rfl; (with_reducible repeat (first | refine blk_drewN ?_ _ | refine blk_drew ?_ | refine blk_alloc ?_ _)); refine blk_put (cs := #[.int .i32 0, .int .i32 0]) ?_ 0 _ rfl; (with_reducible repeat (first | refine blk_drewN ?_ _ | refine blk_drew ?_ | refine blk_alloc ?_ _)); exact BK161.out⟩
    have n8_ : Aside0 (Below w.heap.size w ((((w59.setCell ⟨gb161, 0, none⟩ (.int .i32 a0_4)).setCell ⟨gb161, 1, none⟩ (.int .i32 a0_5)).setCell ⟨gb156, 4, none⟩ (.int .i64 (Int.tmod (wrap64 (a0_4)) 1048576))).setCell ⟨gb156, 5, none⟩ (.int .i64 (Int.tmod (wrap64 (a0_5)) 1048576)))) := ⟨bl8 HB.out GE153.out GE154.out GE156.out GE157.out GE158.out GE159.out GE160.out GE161.out⟩
    (try clear BK153)
    (try clear BK154)
    (try clear BK156)
    (try clear BK157)
    (try clear BK158)
    (try clear BK159)
    (try clear BK160)
    (try clear BK161)
    (try clear HB)
    generalize ((((w59.setCell ⟨gb161, 0, none⟩ (.int .i32 a0_4)).setCell ⟨gb161, 1, none⟩ (.int .i32 a0_5)).setCell ⟨gb156, 4, none⟩ (.int .i64 (Int.tmod (wrap64 (a0_4)) 1048576))).setCell ⟨gb156, 5, none⟩ (.int .i64 (Int.tmod (wrap64 (a0_5)) 1048576))) = w75 at n0_ n1_ n2_ n3_ n4_ n5_ n6_ n7_ n8_ ⊢
    have BK153 := n0_
    have BK154 := n1_
    have BK156 := n2_
    have BK157 := n3_
    have BK158 := n4_
    have BK159 := n5_
    have BK160 := n6_
    have BK161 := n7_
    have HB := n8_
    clear n0_ n1_ n2_ n3_ n4_ n5_ n6_ n7_ n8_
    replace BK153 := Aside0.mk (blk_drew BK153.out)
    replace BK154 := Aside0.mk (blk_drew BK154.out)
    replace BK156 := Aside0.mk (blk_drew BK156.out)
    replace BK157 := Aside0.mk (blk_drew BK157.out)
    replace BK158 := Aside0.mk (blk_drew BK158.out)
    replace BK159 := Aside0.mk (blk_drew BK159.out)
    replace BK160 := Aside0.mk (blk_drew BK160.out)
    replace BK161 := Aside0.mk (blk_drew BK161.out)
    replace HB := Aside0.mk (below_drew1 HB.out)
    refine start_ (n := 22) (S := fun w' => w'.cell? ⟨gb156, 0, none⟩ = some (.int .i64 (Int.tmod (wrap64 (a0_0)) 1048576)) ∧ w'.cell? ⟨gb156, 1, none⟩ = some (.int .i64 (Int.tmod (wrap64 (a0_1)) 1048576)) ∧ w'.cell? ⟨gb156, 2, none⟩ = some (.int .i64 (Int.tmod (wrap64 (a0_2)) 1048576)) ∧ w'.cell? ⟨gb156, 3, none⟩ = some (.int .i64 (Int.tmod (wrap64 (a0_3)) 1048576)) ∧ w'.cell? ⟨gb156, 4, none⟩ = some (.int .i64 (Int.tmod (wrap64 (a0_4)) 1048576)) ∧ w'.cell? ⟨gb156, 5, none⟩ = some (.int .i64 (Int.tmod (wrap64 (a0_5)) 1048576)) ∧ w'.cell? ⟨gb154, 0, none⟩ = some (.int .i32 a1_0) ∧ w'.cell? ⟨gb154, 1, none⟩ = some (.int .i32 a1_1)) (ds := []) (ba 22 0) (by kernel_rfl) rfl rfl ⟨(blk_cell BK156.out 0).trans rfl, (blk_cell BK156.out 1).trans rfl, (blk_cell BK156.out 2).trans rfl, (blk_cell BK156.out 3).trans rfl, (blk_cell BK156.out 4).trans rfl, (blk_cell BK156.out 5).trans rfl, (blk_cell BK154.out 0).trans rfl, (blk_cell BK154.out 1).trans rfl⟩ (fun hHeld => ?_); refine with_tabW pochoirlaw18_PlaneMoved.tab8 pochoirlaw18_PlaneMoved.bits8 (fun HT_ HW_ => ?_)
    generalize w75.drew = w76 at BK153 BK154 BK156 BK157 BK158 BK159 BK160 BK161 HB hHeld ⊢
    refine pI 0 40 (ba 22 1) HT_.out ?_
    refine pI 1 41 (ba 22 3) HT_.out ?_
    refine pI 2 42 (ba 22 7) HT_.out ?_
    refine pI 3 43 (ba 22 15) HT_.out ?_
    refine pI 5 45 (ba 22 47) HT_.out ?_
    refine pI 10 50 (ba 22 1071) HT_.out ?_
    refine pI 11 51 (ba 22 3119) HT_.out ?_
    refine pI 12 52 (ba 22 7215) HT_.out ?_
    refine pI 14 54 (ba 22 23599) HT_.out ?_
    refine take_ (i := 4) (N := some 44) (v := ?_) (a' := ?_) (ba 22 23615) rfl rfl (take_ofW HT_.out HW_.out (by kernel_rfl)) (fun _ _ _ h => h) (Or.inl ⟨by rfl, ?_⟩) hHeld ?_ ?_
    rotate_left
    ·rintro w' ⟨s0, s1, s2, s3, s4, s5, s6, s7⟩
     go_simp
     with_reducible rfl
    rotate_left
    ·simp only [Act.put, List.setIfInBounds_toArray, List.set_cons_zero, List.set_cons_succ, i64_w, i32_w]
     rfl
    refine take_ (i := 6) (N := some 46) (v := ?_) (a' := ?_) (ba 22 23679) rfl rfl (take_ofW HT_.out HW_.out (by kernel_rfl)) (fun _ _ _ h => h) (Or.inl ⟨by rfl, ?_⟩) hHeld ?_ ?_
    rotate_left
    ·rintro w' ⟨s0, s1, s2, s3, s4, s5, s6, s7⟩
     go_simp
     with_reducible rfl
    rotate_left
    ·simp only [Act.put, List.setIfInBounds_toArray, List.set_cons_zero, List.set_cons_succ, i64_w, i32_w]
     rfl
    refine pI 7 47 (ba 22 23807) HT_.out ?_
    refine pI 8 48 (ba 22 24063) HT_.out ?_
    refine pI 9 49 (ba 22 24575) HT_.out ?_
    refine take_ (i := 13) (N := some 53) (v := ?_) (a' := ?_) (ba 22 32767) rfl rfl (take_ofW HT_.out HW_.out (by kernel_rfl)) (fun _ _ _ h => h) (Or.inl ⟨by rfl, ?_⟩) hHeld ?_ ?_
    rotate_left
    ·rintro w' ⟨s0, s1, s2, s3, s4, s5, s6, s7⟩
     go_simp
     with_reducible rfl
    rotate_left
    ·simp only [Act.put, List.setIfInBounds_toArray, List.set_cons_zero, List.set_cons_succ, i64_w, i32_w]
     rfl
    refine take_ (i := 15) (N := some 55) (v := ?_) (a' := ?_) (ba 22 65535) rfl rfl (take_ofW HT_.out HW_.out (by kernel_rfl)) (fun _ _ _ h => h) (Or.inl ⟨by rfl, ?_⟩) hHeld ?_ ?_
    rotate_left
    ·rintro w' ⟨s0, s1, s2, s3, s4, s5, s6, s7⟩
     go_simp
     with_reducible rfl
    rotate_left
    ·simp only [Act.put, List.setIfInBounds_toArray, List.set_cons_zero, List.set_cons_succ, i64_w, i32_w]
     rfl
    refine pI 16 56 (ba 22 131071) HT_.out ?_
    refine pI 17 57 (ba 22 262143) HT_.out ?_
    refine pI 18 58 (ba 22 524287) HT_.out ?_
    refine pI 19 59 (ba 22 1048575) HT_.out ?_
    refine pI 20 60 (ba 22 2097151) HT_.out ?_
    refine one_ (i := 21) (N := none) (ba 22 4194303) rfl rfl (one_of HT_.out (by kernel_rfl)) (by decide) (fun K hK => ?_)
    have hs77 : w76.cell? ⟨gb157, 4, none⟩ = some (.int .i64 0) := (blk_cell BK157.out 4).trans rfl
    have hfs77 := blk_frozen BK157.out 4
    have hns77_0 := NB153_157.out
    have hns77_1 := NB154_157.out
    have hns77_2 := NB156_157.out
    have hns77_4 := NB158_157.out
    have hns77_5 := NB159_157.out
    have hns77_6 := NB160_157.out
    have hns77_7 := NB161_157.out
    have hms77_0 := NB157_153.out
    have hms77_1 := NB157_154.out
    have hms77_2 := NB157_156.out
    have hms77_4 := NB157_158.out
    have hms77_5 := NB157_159.out
    have hms77_6 := NB157_160.out
    have hms77_7 := NB157_161.out
    have hs78 : w76.cell? ⟨gb157, 5, none⟩ = some (.int .i64 0) := (blk_cell BK157.out 5).trans rfl
    have hfs78 := blk_frozen BK157.out 5
    have hns78_0 := NB153_157.out
    have hns78_1 := NB154_157.out
    have hns78_2 := NB156_157.out
    have hns78_4 := NB158_157.out
    have hns78_5 := NB159_157.out
    have hns78_6 := NB160_157.out
    have hns78_7 := NB161_157.out
    have hms78_0 := NB157_153.out
    have hms78_1 := NB157_154.out
    have hms78_2 := NB157_156.out
    have hms78_4 := NB157_158.out
    have hms78_5 := NB157_159.out
    have hms78_6 := NB157_160.out
    have hms78_7 := NB157_161.out
    refine skip_ (w1 := ?_) (by rfl) rfl ?_ ?_
    rotate_left
    ·go_simp
     rfl
    refine hK.out _ _ ⟨((cell_far (p := ⟨gb157, _, none⟩) NB156_157.out _).trans (((cell_far (p := ⟨gb157, _, none⟩) NB156_157.out _).trans (hHeld.1)))), ((cell_far (p := ⟨gb157, _, none⟩) NB156_157.out _).trans (((cell_far (p := ⟨gb157, _, none⟩) NB156_157.out _).trans (hHeld.2.1)))), ((cell_far (p := ⟨gb157, _, none⟩) NB156_157.out _).trans (((cell_far (p := ⟨gb157, _, none⟩) NB156_157.out _).trans (hHeld.2.2.1)))), ((cell_far (p := ⟨gb157, _, none⟩) NB156_157.out _).trans (((cell_far (p := ⟨gb157, _, none⟩) NB156_157.out _).trans (hHeld.2.2.2.1)))), ((cell_far (p := ⟨gb157, _, none⟩) NB156_157.out _).trans (((cell_far (p := ⟨gb157, _, none⟩) NB156_157.out _).trans (hHeld.2.2.2.2.1)))), ((cell_far (p := ⟨gb157, _, none⟩) NB156_157.out _).trans (((cell_far (p := ⟨gb157, _, none⟩) NB156_157.out _).trans (hHeld.2.2.2.2.2.1)))), ((cell_far (p := ⟨gb157, _, none⟩) NB154_157.out _).trans (((cell_far (p := ⟨gb157, _, none⟩) NB154_157.out _).trans (hHeld.2.2.2.2.2.2.1)))), ((cell_far (p := ⟨gb157, _, none⟩) NB154_157.out _).trans (((cell_far (p := ⟨gb157, _, none⟩) NB154_157.out _).trans (hHeld.2.2.2.2.2.2.2))))⟩ (fun hHeld => ?_)
    clear hK K
    refine done_ (done_of HT_.out (by kernel_rfl)) ?_
    try go_wp2
    have n0_ : Aside0 (((w76.setCell ⟨gb157, 4, none⟩ (.int .i64 (wrap64 ((Int.tmod (wrap64 (a0_4)) 1048576) + (Int.tmod (wrap64 (a1_0)) 1048576))))).setCell ⟨gb157, 5, none⟩ (.int .i64 (wrap64 ((Int.tmod (wrap64 (a0_5)) 1048576) + (Int.tmod (wrap64 (a1_1)) 1048576))))).heap[gb153]? = some (.cells #[.int .i32 a0_0, .int .i32 a0_1, .int .i32 a0_2, .int .i32 a0_3, .int .i32 a0_4, .int .i32 a0_5] 23 (0, 0))) := ⟨by (with_reducible repeat (first | refine blk_drewN ?_ _ | refine blk_drew ?_ | refine blk_alloc ?_ _)); refine blk_far ?_ NB153_157.out _; (with_reducible repeat (first | refine blk_drewN ?_ _ | refine blk_drew ?_ | refine blk_alloc ?_ _)); refine blk_far ?_ NB153_157.out _; (with_reducible repeat (first | refine blk_drewN ?_ _ | refine blk_drew ?_ | refine blk_alloc ?_ _)); exact BK153.out⟩
    have n1_ : Aside0 (((w76.setCell ⟨gb157, 4, none⟩ (.int .i64 (wrap64 ((Int.tmod (wrap64 (a0_4)) 1048576) + (Int.tmod (wrap64 (a1_0)) 1048576))))).setCell ⟨gb157, 5, none⟩ (.int .i64 (wrap64 ((Int.tmod (wrap64 (a0_5)) 1048576) + (Int.tmod (wrap64 (a1_1)) 1048576))))).heap[gb154]? = some (.cells #[.int .i32 a1_0, .int .i32 a1_1] 22 (0, 0))) := ⟨by (with_reducible repeat (first | refine blk_drewN ?_ _ | refine blk_drew ?_ | refine blk_alloc ?_ _)); refine blk_far ?_ NB154_157.out _; (with_reducible repeat (first | refine blk_drewN ?_ _ | refine blk_drew ?_ | refine blk_alloc ?_ _)); refine blk_far ?_ NB154_157.out _; (with_reducible repeat (first | refine blk_drewN ?_ _ | refine blk_drew ?_ | refine blk_alloc ?_ _)); exact BK154.out⟩
    have n2_ : Aside0 (((w76.setCell ⟨gb157, 4, none⟩ (.int .i64 (wrap64 ((Int.tmod (wrap64 (a0_4)) 1048576) + (Int.tmod (wrap64 (a1_0)) 1048576))))).setCell ⟨gb157, 5, none⟩ (.int .i64 (wrap64 ((Int.tmod (wrap64 (a0_5)) 1048576) + (Int.tmod (wrap64 (a1_1)) 1048576))))).heap[gb156]? = some (.cells #[.int .i64 (Int.tmod (wrap64 (a0_0)) 1048576), .int .i64 (Int.tmod (wrap64 (a0_1)) 1048576), .int .i64 (Int.tmod (wrap64 (a0_2)) 1048576), .int .i64 (Int.tmod (wrap64 (a0_3)) 1048576), .int .i64 (Int.tmod (wrap64 (a0_4)) 1048576), .int .i64 (Int.tmod (wrap64 (a0_5)) 1048576)] 27 (0, 0))) := ⟨by (with_reducible repeat (first | refine blk_drewN ?_ _ | refine blk_drew ?_ | refine blk_alloc ?_ _)); refine blk_far ?_ NB156_157.out _; (with_reducible repeat (first | refine blk_drewN ?_ _ | refine blk_drew ?_ | refine blk_alloc ?_ _)); refine blk_far ?_ NB156_157.out _; (with_reducible repeat (first | refine blk_drewN ?_ _ | refine blk_drew ?_ | refine blk_alloc ?_ _)); exact BK156.out⟩
    have n3_ : Aside0 (((w76.setCell ⟨gb157, 4, none⟩ (.int .i64 (wrap64 ((Int.tmod (wrap64 (a0_4)) 1048576) + (Int.tmod (wrap64 (a1_0)) 1048576))))).setCell ⟨gb157, 5, none⟩ (.int .i64 (wrap64 ((Int.tmod (wrap64 (a0_5)) 1048576) + (Int.tmod (wrap64 (a1_1)) 1048576))))).heap[gb157]? = some (.cells #[.int .i64 (wrap64 ((Int.tmod (wrap64 (a0_0)) 1048576) + (Int.tmod (wrap64 (a1_0)) 1048576))), .int .i64 (wrap64 ((Int.tmod (wrap64 (a0_1)) 1048576) + (Int.tmod (wrap64 (a1_1)) 1048576))), .int .i64 (wrap64 ((Int.tmod (wrap64 (a0_2)) 1048576) + (Int.tmod (wrap64 (a1_0)) 1048576))), .int .i64 (wrap64 ((Int.tmod (wrap64 (a0_3)) 1048576) + (Int.tmod (wrap64 (a1_1)) 1048576))), .int .i64 (wrap64 ((Int.tmod (wrap64 (a0_4)) 1048576) + (Int.tmod (wrap64 (a1_0)) 1048576))), .int .i64 (wrap64 ((Int.tmod (wrap64 (a0_5)) 1048576) + (Int.tmod (wrap64 (a1_1)) 1048576)))] 27 (0, 0))) := ⟨by (with_reducible repeat (first | refine blk_drewN ?_ _ | refine blk_drew ?_ | refine blk_alloc ?_ _)); refine blk_put (cs := #[.int .i64 (wrap64 ((Int.tmod (wrap64 (a0_0)) 1048576) + (Int.tmod (wrap64 (a1_0)) 1048576))), .int .i64 (wrap64 ((Int.tmod (wrap64 (a0_1)) 1048576) + (Int.tmod (wrap64 (a1_1)) 1048576))), .int .i64 (wrap64 ((Int.tmod (wrap64 (a0_2)) 1048576) + (Int.tmod (wrap64 (a1_0)) 1048576))), .int .i64 (wrap64 ((Int.tmod (wrap64 (a0_3)) 1048576) + (Int.tmod (wrap64 (a1_1)) 1048576))), .int .i64 (wrap64 ((Int.tmod (wrap64 (a0_4)) 1048576) + (Int.tmod (wrap64 (a1_0)) 1048576))), .int .i64 0]) ?_ 5 _ rfl; (with_reducible repeat (first | refine blk_drewN ?_ _ | refine blk_drew ?_ | refine blk_alloc ?_ _)); refine blk_put (cs := #[.int .i64 (wrap64 ((Int.tmod (wrap64 (a0_0)) 1048576) + (Int.tmod (wrap64 (a1_0)) 1048576))), .int .i64 (wrap64 ((Int.tmod (wrap64 (a0_1)) 1048576) + (Int.tmod (wrap64 (a1_1)) 1048576))), .int .i64 (wrap64 ((Int.tmod (wrap64 (a0_2)) 1048576) + (Int.tmod (wrap64 (a1_0)) 1048576))), .int .i64 (wrap64 ((Int.tmod (wrap64 (a0_3)) 1048576) + (Int.tmod (wrap64 (a1_1)) 1048576))), .int .i64 0, .int .i64 0]) ?_ 4 _ rfl; (with_reducible repeat (first | refine blk_drewN ?_ _ | refine blk_drew ?_ | refine blk_alloc ?_ _)); exact BK157.out⟩
    have n4_ : Aside0 (((w76.setCell ⟨gb157, 4, none⟩ (.int .i64 (wrap64 ((Int.tmod (wrap64 (a0_4)) 1048576) + (Int.tmod (wrap64 (a1_0)) 1048576))))).setCell ⟨gb157, 5, none⟩ (.int .i64 (wrap64 ((Int.tmod (wrap64 (a0_5)) 1048576) + (Int.tmod (wrap64 (a1_1)) 1048576))))).heap[gb158]? = some (.cells #[.int .i64 (wrap64 (-(Int.tmod (wrap64 (a0_1)) 1048576))), .int .i64 (Int.tmod (wrap64 (a0_0)) 1048576), .int .i64 (wrap64 (-(Int.tmod (wrap64 (a0_3)) 1048576))), .int .i64 (Int.tmod (wrap64 (a0_2)) 1048576), .int .i64 0, .int .i64 0] 27 (0, 0))) := ⟨by (with_reducible repeat (first | refine blk_drewN ?_ _ | refine blk_drew ?_ | refine blk_alloc ?_ _)); refine blk_far ?_ NB158_157.out _; (with_reducible repeat (first | refine blk_drewN ?_ _ | refine blk_drew ?_ | refine blk_alloc ?_ _)); refine blk_far ?_ NB158_157.out _; (with_reducible repeat (first | refine blk_drewN ?_ _ | refine blk_drew ?_ | refine blk_alloc ?_ _)); exact BK158.out⟩
    have n5_ : Aside0 (((w76.setCell ⟨gb157, 4, none⟩ (.int .i64 (wrap64 ((Int.tmod (wrap64 (a0_4)) 1048576) + (Int.tmod (wrap64 (a1_0)) 1048576))))).setCell ⟨gb157, 5, none⟩ (.int .i64 (wrap64 ((Int.tmod (wrap64 (a0_5)) 1048576) + (Int.tmod (wrap64 (a1_1)) 1048576))))).heap[gb159]? = some (.cells #[.int .i32 a0_0, .int .i32 a0_1] 22 (0, 0))) := ⟨by (with_reducible repeat (first | refine blk_drewN ?_ _ | refine blk_drew ?_ | refine blk_alloc ?_ _)); refine blk_far ?_ NB159_157.out _; (with_reducible repeat (first | refine blk_drewN ?_ _ | refine blk_drew ?_ | refine blk_alloc ?_ _)); refine blk_far ?_ NB159_157.out _; (with_reducible repeat (first | refine blk_drewN ?_ _ | refine blk_drew ?_ | refine blk_alloc ?_ _)); exact BK159.out⟩
    have n6_ : Aside0 (((w76.setCell ⟨gb157, 4, none⟩ (.int .i64 (wrap64 ((Int.tmod (wrap64 (a0_4)) 1048576) + (Int.tmod (wrap64 (a1_0)) 1048576))))).setCell ⟨gb157, 5, none⟩ (.int .i64 (wrap64 ((Int.tmod (wrap64 (a0_5)) 1048576) + (Int.tmod (wrap64 (a1_1)) 1048576))))).heap[gb160]? = some (.cells #[.int .i32 a0_2, .int .i32 a0_3] 22 (0, 0))) := ⟨by (with_reducible repeat (first | refine blk_drewN ?_ _ | refine blk_drew ?_ | refine blk_alloc ?_ _)); refine blk_far ?_ NB160_157.out _; (with_reducible repeat (first | refine blk_drewN ?_ _ | refine blk_drew ?_ | refine blk_alloc ?_ _)); refine blk_far ?_ NB160_157.out _; (with_reducible repeat (first | refine blk_drewN ?_ _ | refine blk_drew ?_ | refine blk_alloc ?_ _)); exact BK160.out⟩
    have n7_ : Aside0 (((w76.setCell ⟨gb157, 4, none⟩ (.int .i64 (wrap64 ((Int.tmod (wrap64 (a0_4)) 1048576) + (Int.tmod (wrap64 (a1_0)) 1048576))))).setCell ⟨gb157, 5, none⟩ (.int .i64 (wrap64 ((Int.tmod (wrap64 (a0_5)) 1048576) + (Int.tmod (wrap64 (a1_1)) 1048576))))).heap[gb161]? = some (.cells #[.int .i32 a0_4, .int .i32 a0_5] 22 (0, 0))) := ⟨by (with_reducible repeat (first | refine blk_drewN ?_ _ | refine blk_drew ?_ | refine blk_alloc ?_ _)); refine blk_far ?_ NB161_157.out _; (with_reducible repeat (first | refine blk_drewN ?_ _ | refine blk_drew ?_ | refine blk_alloc ?_ _)); refine blk_far ?_ NB161_157.out _; (with_reducible repeat (first | refine blk_drewN ?_ _ | refine blk_drew ?_ | refine blk_alloc ?_ _)); exact BK161.out⟩
    have n8_ : Aside0 (Below w.heap.size w ((w76.setCell ⟨gb157, 4, none⟩ (.int .i64 (wrap64 ((Int.tmod (wrap64 (a0_4)) 1048576) + (Int.tmod (wrap64 (a1_0)) 1048576))))).setCell ⟨gb157, 5, none⟩ (.int .i64 (wrap64 ((Int.tmod (wrap64 (a0_5)) 1048576) + (Int.tmod (wrap64 (a1_1)) 1048576)))))) := ⟨bl8 HB.out GE153.out GE154.out GE156.out GE157.out GE158.out GE159.out GE160.out GE161.out⟩
    (try clear BK153)
    (try clear BK154)
    (try clear BK156)
    (try clear BK157)
    (try clear BK158)
    (try clear BK159)
    (try clear BK160)
    (try clear BK161)
    (try clear HB)
    generalize ((w76.setCell ⟨gb157, 4, none⟩ (.int .i64 (wrap64 ((Int.tmod (wrap64 (a0_4)) 1048576) + (Int.tmod (wrap64 (a1_0)) 1048576))))).setCell ⟨gb157, 5, none⟩ (.int .i64 (wrap64 ((Int.tmod (wrap64 (a0_5)) 1048576) + (Int.tmod (wrap64 (a1_1)) 1048576))))) = w79 at n0_ n1_ n2_ n3_ n4_ n5_ n6_ n7_ n8_ ⊢
    have BK153 := n0_
    have BK154 := n1_
    have BK156 := n2_
    have BK157 := n3_
    have BK158 := n4_
    have BK159 := n5_
    have BK160 := n6_
    have BK161 := n7_
    have HB := n8_
    clear n0_ n1_ n2_ n3_ n4_ n5_ n6_ n7_ n8_
    replace BK153 := Aside0.mk (blk_drew BK153.out)
    replace BK154 := Aside0.mk (blk_drew BK154.out)
    replace BK156 := Aside0.mk (blk_drew BK156.out)
    replace BK157 := Aside0.mk (blk_drew BK157.out)
    replace BK158 := Aside0.mk (blk_drew BK158.out)
    replace BK159 := Aside0.mk (blk_drew BK159.out)
    replace BK160 := Aside0.mk (blk_drew BK160.out)
    replace BK161 := Aside0.mk (blk_drew BK161.out)
    replace HB := Aside0.mk (below_drew1 HB.out)
    refine start_ (n := 13) (S := fun w' => w'.cell? ⟨gb156, 0, none⟩ = some (.int .i64 (Int.tmod (wrap64 (a0_0)) 1048576)) ∧ w'.cell? ⟨gb156, 1, none⟩ = some (.int .i64 (Int.tmod (wrap64 (a0_1)) 1048576)) ∧ w'.cell? ⟨gb156, 2, none⟩ = some (.int .i64 (Int.tmod (wrap64 (a0_2)) 1048576)) ∧ w'.cell? ⟨gb156, 3, none⟩ = some (.int .i64 (Int.tmod (wrap64 (a0_3)) 1048576)) ∧ w'.cell? ⟨gb156, 4, none⟩ = some (.int .i64 (Int.tmod (wrap64 (a0_4)) 1048576)) ∧ w'.cell? ⟨gb156, 5, none⟩ = some (.int .i64 (Int.tmod (wrap64 (a0_5)) 1048576))) (ds := []) (ba 13 0) (by kernel_rfl) rfl rfl ⟨(blk_cell BK156.out 0).trans rfl, (blk_cell BK156.out 1).trans rfl, (blk_cell BK156.out 2).trans rfl, (blk_cell BK156.out 3).trans rfl, (blk_cell BK156.out 4).trans rfl, (blk_cell BK156.out 5).trans rfl⟩ (fun hHeld => ?_); refine with_tabW pochoirlaw18_PlaneMoved.tab9 pochoirlaw18_PlaneMoved.bits9 (fun HT_ HW_ => ?_)
    generalize w79.drew = w80 at BK153 BK154 BK156 BK157 BK158 BK159 BK160 BK161 HB hHeld ⊢
    refine pI 0 61 (ba 13 1) HT_.out ?_
    refine pI 1 62 (ba 13 3) HT_.out ?_
    refine pI 2 63 (ba 13 7) HT_.out ?_
    refine pI 3 64 (ba 13 15) HT_.out ?_
    refine pI 6 67 (ba 13 79) HT_.out ?_
    refine pI 7 68 (ba 13 207) HT_.out ?_
    refine pI 8 69 (ba 13 463) HT_.out ?_
    refine take_ (i := 4) (N := some 65) (v := ?_) (a' := ?_) (ba 13 479) rfl rfl (take_ofW HT_.out HW_.out (by kernel_rfl)) (fun _ _ _ h => h) (Or.inl ⟨by rfl, ?_⟩) hHeld ?_ ?_
    rotate_left
    ·rintro w' ⟨s0, s1, s2, s3, s4, s5⟩
     go_simp
     with_reducible rfl
    rotate_left
    ·simp only [Act.put, List.setIfInBounds_toArray, List.set_cons_zero, List.set_cons_succ, i64_w, i32_w]
     rfl
    refine pI 5 66 (ba 13 511) HT_.out ?_
    refine take_ (i := 9) (N := some 70) (v := ?_) (a' := ?_) (ba 13 1023) rfl rfl (take_ofW HT_.out HW_.out (by kernel_rfl)) (fun _ _ _ h => h) (Or.inl ⟨by rfl, ?_⟩) hHeld ?_ ?_
    rotate_left
    ·rintro w' ⟨s0, s1, s2, s3, s4, s5⟩
     go_simp
     with_reducible rfl
    rotate_left
    ·simp only [Act.put, List.setIfInBounds_toArray, List.set_cons_zero, List.set_cons_succ, i64_w, i32_w]
     rfl
    refine pI 10 71 (ba 13 2047) HT_.out ?_
    refine pI 11 72 (ba 13 4095) HT_.out ?_
    refine one_ (i := 12) (N := none) (ba 13 8191) rfl rfl (one_of HT_.out (by kernel_rfl)) (by decide) (fun K hK => ?_)
    have hs81 : w80.cell? ⟨gb158, 4, none⟩ = some (.int .i64 0) := (blk_cell BK158.out 4).trans rfl
    have hfs81 := blk_frozen BK158.out 4
    have hns81_0 := NB153_158.out
    have hns81_1 := NB154_158.out
    have hns81_2 := NB156_158.out
    have hns81_3 := NB157_158.out
    have hns81_5 := NB159_158.out
    have hns81_6 := NB160_158.out
    have hns81_7 := NB161_158.out
    have hms81_0 := NB158_153.out
    have hms81_1 := NB158_154.out
    have hms81_2 := NB158_156.out
    have hms81_3 := NB158_157.out
    have hms81_5 := NB158_159.out
    have hms81_6 := NB158_160.out
    have hms81_7 := NB158_161.out
    have hs82 : w80.cell? ⟨gb158, 5, none⟩ = some (.int .i64 0) := (blk_cell BK158.out 5).trans rfl
    have hfs82 := blk_frozen BK158.out 5
    have hns82_0 := NB153_158.out
    have hns82_1 := NB154_158.out
    have hns82_2 := NB156_158.out
    have hns82_3 := NB157_158.out
    have hns82_5 := NB159_158.out
    have hns82_6 := NB160_158.out
    have hns82_7 := NB161_158.out
    have hms82_0 := NB158_153.out
    have hms82_1 := NB158_154.out
    have hms82_2 := NB158_156.out
    have hms82_3 := NB158_157.out
    have hms82_5 := NB158_159.out
    have hms82_6 := NB158_160.out
    have hms82_7 := NB158_161.out
    refine skip_ (w1 := ?_) (by rfl) rfl ?_ ?_
    rotate_left
    ·go_simp
     rfl
    refine hK.out _ _ ⟨((cell_far (p := ⟨gb158, _, none⟩) NB156_158.out _).trans (((cell_far (p := ⟨gb158, _, none⟩) NB156_158.out _).trans (hHeld.1)))), ((cell_far (p := ⟨gb158, _, none⟩) NB156_158.out _).trans (((cell_far (p := ⟨gb158, _, none⟩) NB156_158.out _).trans (hHeld.2.1)))), ((cell_far (p := ⟨gb158, _, none⟩) NB156_158.out _).trans (((cell_far (p := ⟨gb158, _, none⟩) NB156_158.out _).trans (hHeld.2.2.1)))), ((cell_far (p := ⟨gb158, _, none⟩) NB156_158.out _).trans (((cell_far (p := ⟨gb158, _, none⟩) NB156_158.out _).trans (hHeld.2.2.2.1)))), ((cell_far (p := ⟨gb158, _, none⟩) NB156_158.out _).trans (((cell_far (p := ⟨gb158, _, none⟩) NB156_158.out _).trans (hHeld.2.2.2.2.1)))), ((cell_far (p := ⟨gb158, _, none⟩) NB156_158.out _).trans (((cell_far (p := ⟨gb158, _, none⟩) NB156_158.out _).trans (hHeld.2.2.2.2.2))))⟩ (fun hHeld => ?_)
    clear hK K
    refine done_ (done_of HT_.out (by kernel_rfl)) ?_
    try go_wp2
    rw [rounds_succ]
    have HC83 := Aside0.mk H
    clear H
    go_upto_region 11 with (fail)
    go_cut [10, 11] (fun v10 v11 wc => ∃ (kq : Nat) (x10_82 : Int) (x11_82 : Int), v10 = .int .i64 x10_82 ∧ v11 = .int .i64 x11_82 ∧ Aside0 (pochoirlaw18_PlaneMoved.j1 kq x10_82 x11_82 (Int.tmod (wrap64 (a0_0)) 1048576) (Int.tmod (wrap64 (a0_1)) 1048576) (Int.tmod (wrap64 (a0_2)) 1048576) (Int.tmod (wrap64 (a0_3)) 1048576) (Int.tmod (wrap64 (a0_4)) 1048576) (Int.tmod (wrap64 (a0_5)) 1048576) (wrap64 ((Int.tmod (wrap64 (a0_0)) 1048576) + (Int.tmod (wrap64 (a1_0)) 1048576))) (wrap64 ((Int.tmod (wrap64 (a0_1)) 1048576) + (Int.tmod (wrap64 (a1_1)) 1048576))) (wrap64 ((Int.tmod (wrap64 (a0_2)) 1048576) + (Int.tmod (wrap64 (a1_0)) 1048576))) (wrap64 ((Int.tmod (wrap64 (a0_3)) 1048576) + (Int.tmod (wrap64 (a1_1)) 1048576))) (wrap64 ((Int.tmod (wrap64 (a0_4)) 1048576) + (Int.tmod (wrap64 (a1_0)) 1048576))) (wrap64 ((Int.tmod (wrap64 (a0_5)) 1048576) + (Int.tmod (wrap64 (a1_1)) 1048576))) (wrap64 (-(Int.tmod (wrap64 (a0_1)) 1048576))) (Int.tmod (wrap64 (a0_0)) 1048576) (wrap64 (-(Int.tmod (wrap64 (a0_3)) 1048576))) (Int.tmod (wrap64 (a0_2)) 1048576) (wrap64 (-(Int.tmod (wrap64 (a0_5)) 1048576))) (Int.tmod (wrap64 (a0_4)) 1048576) = some r) ∧ Aside0 (kq ≤ kj2) ∧ Aside0 (wc.heap[gb153]? = some (.cells #[.int .i32 a0_0, .int .i32 a0_1, .int .i32 a0_2, .int .i32 a0_3, .int .i32 a0_4, .int .i32 a0_5] 23 (0, 0))) ∧ Aside0 (wc.heap[gb154]? = some (.cells #[.int .i32 a1_0, .int .i32 a1_1] 22 (0, 0))) ∧ Aside0 (wc.heap[gb156]? = some (.cells #[.int .i64 (Int.tmod (wrap64 (a0_0)) 1048576), .int .i64 (Int.tmod (wrap64 (a0_1)) 1048576), .int .i64 (Int.tmod (wrap64 (a0_2)) 1048576), .int .i64 (Int.tmod (wrap64 (a0_3)) 1048576), .int .i64 (Int.tmod (wrap64 (a0_4)) 1048576), .int .i64 (Int.tmod (wrap64 (a0_5)) 1048576)] 27 (0, 0))) ∧ Aside0 (wc.heap[gb157]? = some (.cells #[.int .i64 (wrap64 ((Int.tmod (wrap64 (a0_0)) 1048576) + (Int.tmod (wrap64 (a1_0)) 1048576))), .int .i64 (wrap64 ((Int.tmod (wrap64 (a0_1)) 1048576) + (Int.tmod (wrap64 (a1_1)) 1048576))), .int .i64 (wrap64 ((Int.tmod (wrap64 (a0_2)) 1048576) + (Int.tmod (wrap64 (a1_0)) 1048576))), .int .i64 (wrap64 ((Int.tmod (wrap64 (a0_3)) 1048576) + (Int.tmod (wrap64 (a1_1)) 1048576))), .int .i64 (wrap64 ((Int.tmod (wrap64 (a0_4)) 1048576) + (Int.tmod (wrap64 (a1_0)) 1048576))), .int .i64 (wrap64 ((Int.tmod (wrap64 (a0_5)) 1048576) + (Int.tmod (wrap64 (a1_1)) 1048576)))] 27 (0, 0))) ∧ Aside0 (wc.heap[gb158]? = some (.cells #[.int .i64 (wrap64 (-(Int.tmod (wrap64 (a0_1)) 1048576))), .int .i64 (Int.tmod (wrap64 (a0_0)) 1048576), .int .i64 (wrap64 (-(Int.tmod (wrap64 (a0_3)) 1048576))), .int .i64 (Int.tmod (wrap64 (a0_2)) 1048576), .int .i64 (wrap64 (-(Int.tmod (wrap64 (a0_5)) 1048576))), .int .i64 (Int.tmod (wrap64 (a0_4)) 1048576)] 27 (0, 0))) ∧ Aside0 (wc.heap[gb159]? = some (.cells #[.int .i32 a0_0, .int .i32 a0_1] 22 (0, 0))) ∧ Aside0 (wc.heap[gb160]? = some (.cells #[.int .i32 a0_2, .int .i32 a0_3] 22 (0, 0))) ∧ Aside0 (wc.heap[gb161]? = some (.cells #[.int .i32 a0_4, .int .i32 a0_5] 22 (0, 0))) ∧ Aside0 (Below w.heap.size w wc))
    case first =>
     have H := HC83.out
     clear HC83
     replace H := Option.bind_eq_some_iff.mp H
     obtain ⟨⟨t162, t163⟩, A840, H⟩ := H
     replace H : (pochoirlaw18_PlaneMoved.j1 kj2 t162 t163 (Int.tmod (wrap64 (a0_0)) 1048576) (Int.tmod (wrap64 (a0_1)) 1048576) (Int.tmod (wrap64 (a0_2)) 1048576) (Int.tmod (wrap64 (a0_3)) 1048576) (Int.tmod (wrap64 (a0_4)) 1048576) (Int.tmod (wrap64 (a0_5)) 1048576) (wrap64 ((Int.tmod (wrap64 (a0_0)) 1048576) + (Int.tmod (wrap64 (a1_0)) 1048576))) (wrap64 ((Int.tmod (wrap64 (a0_1)) 1048576) + (Int.tmod (wrap64 (a1_1)) 1048576))) (wrap64 ((Int.tmod (wrap64 (a0_2)) 1048576) + (Int.tmod (wrap64 (a1_0)) 1048576))) (wrap64 ((Int.tmod (wrap64 (a0_3)) 1048576) + (Int.tmod (wrap64 (a1_1)) 1048576))) (wrap64 ((Int.tmod (wrap64 (a0_4)) 1048576) + (Int.tmod (wrap64 (a1_0)) 1048576))) (wrap64 ((Int.tmod (wrap64 (a0_5)) 1048576) + (Int.tmod (wrap64 (a1_1)) 1048576))) (wrap64 (-(Int.tmod (wrap64 (a0_1)) 1048576))) (Int.tmod (wrap64 (a0_0)) 1048576) (wrap64 (-(Int.tmod (wrap64 (a0_3)) 1048576))) (Int.tmod (wrap64 (a0_2)) 1048576) (wrap64 (-(Int.tmod (wrap64 (a0_5)) 1048576))) (Int.tmod (wrap64 (a0_4)) 1048576)) = some r := H
     have A84 := Aside0.mk A840
     clear A840
     have H' := Aside0.mk H
     clear H
     have hnb85 := NB156_153.out
     have hnc85 := NB153_156.out
     have hnb86 := NB156_154.out
     have hnc86 := NB154_156.out
     have hnb87 := NB156_157.out
     have hnc87 := NB157_156.out
     have hnb88 := NB156_158.out
     have hnc88 := NB158_156.out
     have hnb89 := NB156_159.out
     have hnc89 := NB159_156.out
     have hnb90 := NB156_160.out
     have hnc90 := NB160_156.out
     have hnb91 := NB156_161.out
     have hnc91 := NB161_156.out
     have hcz92_0 : w80.cell? ⟨gb156, 0, none⟩ = some (.int .i64 (Int.tmod (wrap64 (a0_0)) 1048576)) := (blk_cell BK156.out 0).trans rfl
     have hcz92_1 : w80.cell? ⟨gb156, 1, none⟩ = some (.int .i64 (Int.tmod (wrap64 (a0_1)) 1048576)) := (blk_cell BK156.out 1).trans rfl
     have hcz92_2 : w80.cell? ⟨gb156, 2, none⟩ = some (.int .i64 (Int.tmod (wrap64 (a0_2)) 1048576)) := (blk_cell BK156.out 2).trans rfl
     have hcz92_3 : w80.cell? ⟨gb156, 3, none⟩ = some (.int .i64 (Int.tmod (wrap64 (a0_3)) 1048576)) := (blk_cell BK156.out 3).trans rfl
     have hcz92_4 : w80.cell? ⟨gb156, 4, none⟩ = some (.int .i64 (Int.tmod (wrap64 (a0_4)) 1048576)) := (blk_cell BK156.out 4).trans rfl
     have hcz92_5 : w80.cell? ⟨gb156, 5, none⟩ = some (.int .i64 (Int.tmod (wrap64 (a0_5)) 1048576)) := (blk_cell BK156.out 5).trans rfl
     have hfz92_0 := blk_frozen BK156.out 0
     have hfz92_1 := blk_frozen BK156.out 1
     have hfz92_2 := blk_frozen BK156.out 2
     have hfz92_3 := blk_frozen BK156.out 3
     have hfz92_4 := blk_frozen BK156.out 4
     have hfz92_5 := blk_frozen BK156.out 5
     go_wp2_with (first | ((with_reducible refine gate_callee (f := 13) rfl ?_); refine goesL_ (some 81) rfl rfl Try.func13 (by kernel_rfl) rfl #[.agg #[.int .i64 (Int.tmod (wrap64 (a0_0)) 1048576), .int .i64 (Int.tmod (wrap64 (a0_1)) 1048576)], .agg #[.int .i64 (Int.tmod (wrap64 (a0_2)) 1048576), .int .i64 (Int.tmod (wrap64 (a0_3)) 1048576)], .agg #[.int .i64 (Int.tmod (wrap64 (a0_4)) 1048576), .int .i64 (Int.tmod (wrap64 (a0_5)) 1048576)]] rfl am ?_; (with_reducible refine (plane_Cross.calls kj2 (Int.tmod (wrap64 (a0_0)) 1048576) (Int.tmod (wrap64 (a0_1)) 1048576) (Int.tmod (wrap64 (a0_2)) 1048576) (Int.tmod (wrap64 (a0_3)) 1048576) (Int.tmod (wrap64 (a0_4)) 1048576) (Int.tmod (wrap64 (a0_5)) 1048576) t162 t163 _ A84.out).mono ?_); rintro e w93 ⟨rfl, hb⟩; refine ⟨_, rfl, ?_⟩; replace BK153 := Aside0.mk (blk_below (g := gb153) (o := .cells #[.int .i32 a0_0, .int .i32 a0_1, .int .i32 a0_2, .int .i32 a0_3, .int .i32 a0_4, .int .i32 a0_5] 23 (0, 0)) (by (with_reducible repeat (first | refine blk_drewN ?_ _ | refine blk_drew ?_ | refine blk_alloc ?_ _)); refine blk_far ?_ NB153_158.out _; (with_reducible repeat (first | refine blk_drewN ?_ _ | refine blk_drew ?_ | refine blk_alloc ?_ _)); refine blk_far ?_ NB153_158.out _; (with_reducible repeat (first | refine blk_drewN ?_ _ | refine blk_drew ?_ | refine blk_alloc ?_ _)); exact BK153.out) hb); replace BK154 := Aside0.mk (blk_below (g := gb154) (o := .cells #[.int .i32 a1_0, .int .i32 a1_1] 22 (0, 0)) (by (with_reducible repeat (first | refine blk_drewN ?_ _ | refine blk_drew ?_ | refine blk_alloc ?_ _)); refine blk_far ?_ NB154_158.out _; (with_reducible repeat (first | refine blk_drewN ?_ _ | refine blk_drew ?_ | refine blk_alloc ?_ _)); refine blk_far ?_ NB154_158.out _; (with_reducible repeat (first | refine blk_drewN ?_ _ | refine blk_drew ?_ | refine blk_alloc ?_ _)); exact BK154.out) hb); replace BK156 := Aside0.mk (blk_below (g := gb156) (o := .cells #[.int .i64 (Int.tmod (wrap64 (a0_0)) 1048576), .int .i64 (Int.tmod (wrap64 (a0_1)) 1048576), .int .i64 (Int.tmod (wrap64 (a0_2)) 1048576), .int .i64 (Int.tmod (wrap64 (a0_3)) 1048576), .int .i64 (Int.tmod (wrap64 (a0_4)) 1048576), .int .i64 (Int.tmod (wrap64 (a0_5)) 1048576)] 27 (0, 0)) (by (with_reducible repeat (first | refine blk_drewN ?_ _ | refine blk_drew ?_ | refine blk_alloc ?_ _)); refine blk_far ?_ NB156_158.out _; (with_reducible repeat (first | refine blk_drewN ?_ _ | refine blk_drew ?_ | refine blk_alloc ?_ _)); refine blk_far ?_ NB156_158.out _; (with_reducible repeat (first | refine blk_drewN ?_ _ | refine blk_drew ?_ | refine blk_alloc ?_ _)); exact BK156.out) hb); replace BK157 := Aside0.mk (blk_below (g := gb157) (o := .cells #[.int .i64 (wrap64 ((Int.tmod (wrap64 (a0_0)) 1048576) + (Int.tmod (wrap64 (a1_0)) 1048576))), .int .i64 (wrap64 ((Int.tmod (wrap64 (a0_1)) 1048576) + (Int.tmod (wrap64 (a1_1)) 1048576))), .int .i64 (wrap64 ((Int.tmod (wrap64 (a0_2)) 1048576) + (Int.tmod (wrap64 (a1_0)) 1048576))), .int .i64 (wrap64 ((Int.tmod (wrap64 (a0_3)) 1048576) + (Int.tmod (wrap64 (a1_1)) 1048576))), .int .i64 (wrap64 ((Int.tmod (wrap64 (a0_4)) 1048576) + (Int.tmod (wrap64 (a1_0)) 1048576))), .int .i64 (wrap64 ((Int.tmod (wrap64 (a0_5)) 1048576) + (Int.tmod (wrap64 (a1_1)) 1048576)))] 27 (0, 0)) (by (with_reducible repeat (first | refine blk_drewN ?_ _ | refine blk_drew ?_ | refine blk_alloc ?_ _)); refine blk_far ?_ NB157_158.out _; (with_reducible repeat (first | refine blk_drewN ?_ _ | refine blk_drew ?_ | refine blk_alloc ?_ _)); refine blk_far ?_ NB157_158.out _; (with_reducible repeat (first | refine blk_drewN ?_ _ | refine blk_drew ?_ | refine blk_alloc ?_ _)); exact BK157.out) hb); replace BK158 := Aside0.mk (blk_below (g := gb158) (o := .cells #[.int .i64 (wrap64 (-(Int.tmod (wrap64 (a0_1)) 1048576))), .int .i64 (Int.tmod (wrap64 (a0_0)) 1048576), .int .i64 (wrap64 (-(Int.tmod (wrap64 (a0_3)) 1048576))), .int .i64 (Int.tmod (wrap64 (a0_2)) 1048576), .int .i64 (wrap64 (-(Int.tmod (wrap64 (a0_5)) 1048576))), .int .i64 (Int.tmod (wrap64 (a0_4)) 1048576)] 27 (0, 0)) (by (with_reducible repeat (first | refine blk_drewN ?_ _ | refine blk_drew ?_ | refine blk_alloc ?_ _)); refine blk_put (cs := #[.int .i64 (wrap64 (-(Int.tmod (wrap64 (a0_1)) 1048576))), .int .i64 (Int.tmod (wrap64 (a0_0)) 1048576), .int .i64 (wrap64 (-(Int.tmod (wrap64 (a0_3)) 1048576))), .int .i64 (Int.tmod (wrap64 (a0_2)) 1048576), .int .i64 (wrap64 (-(Int.tmod (wrap64 (a0_5)) 1048576))), .int .i64 0]) ?_ 5 _ rfl; (with_reducible repeat (first | refine blk_drewN ?_ _ | refine blk_drew ?_ | refine blk_alloc ?_ _)); refine blk_put (cs := #[.int .i64 (wrap64 (-(Int.tmod (wrap64 (a0_1)) 1048576))), .int .i64 (Int.tmod (wrap64 (a0_0)) 1048576), .int .i64 (wrap64 (-(Int.tmod (wrap64 (a0_3)) 1048576))), .int .i64 (Int.tmod (wrap64 (a0_2)) 1048576), .int .i64 0, .int .i64 0]) ?_ 4 _ rfl; (with_reducible repeat (first | refine blk_drewN ?_ _ | refine blk_drew ?_ | refine blk_alloc ?_ _)); exact BK158.out) hb); replace BK159 := Aside0.mk (blk_below (g := gb159) (o := .cells #[.int .i32 a0_0, .int .i32 a0_1] 22 (0, 0)) (by (with_reducible repeat (first | refine blk_drewN ?_ _ | refine blk_drew ?_ | refine blk_alloc ?_ _)); refine blk_far ?_ NB159_158.out _; (with_reducible repeat (first | refine blk_drewN ?_ _ | refine blk_drew ?_ | refine blk_alloc ?_ _)); refine blk_far ?_ NB159_158.out _; (with_reducible repeat (first | refine blk_drewN ?_ _ | refine blk_drew ?_ | refine blk_alloc ?_ _)); exact BK159.out) hb); replace BK160 := Aside0.mk (blk_below (g := gb160) (o := .cells #[.int .i32 a0_2, .int .i32 a0_3] 22 (0, 0)) (by (with_reducible repeat (first | refine blk_drewN ?_ _ | refine blk_drew ?_ | refine blk_alloc ?_ _)); refine blk_far ?_ NB160_158.out _; (with_reducible repeat (first | refine blk_drewN ?_ _ | refine blk_drew ?_ | refine blk_alloc ?_ _)); refine blk_far ?_ NB160_158.out _; (with_reducible repeat (first | refine blk_drewN ?_ _ | refine blk_drew ?_ | refine blk_alloc ?_ _)); exact BK160.out) hb); replace BK161 := Aside0.mk (blk_below (g := gb161) (o := .cells #[.int .i32 a0_4, .int .i32 a0_5] 22 (0, 0)) (by (with_reducible repeat (first | refine blk_drewN ?_ _ | refine blk_drew ?_ | refine blk_alloc ?_ _)); refine blk_far ?_ NB161_158.out _; (with_reducible repeat (first | refine blk_drewN ?_ _ | refine blk_drew ?_ | refine blk_alloc ?_ _)); refine blk_far ?_ NB161_158.out _; (with_reducible repeat (first | refine blk_drewN ?_ _ | refine blk_drew ?_ | refine blk_alloc ?_ _)); exact BK161.out) hb); replace HB := Aside0.mk (below_step (bl8 HB.out GE153.out GE154.out GE156.out GE157.out GE158.out GE159.out GE160.out GE161.out) hb); (try clear hb); (try clear hb2); (try clear hk); (try clear hi)))
     go_meet
     case rel => exact ⟨_, (t162), (t163), fr, fr, H', ⟨by have := HJ2.out; first | omega | exact Nat.le_refl _⟩, ⟨bk BK153.out⟩, ⟨bk BK154.out⟩, ⟨bk BK156.out⟩, ⟨bk BK157.out⟩, ⟨bk BK158.out⟩, ⟨bk BK159.out⟩, ⟨bk BK160.out⟩, ⟨bk BK161.out⟩, ⟨bl8 HB.out GE153.out GE154.out GE156.out GE157.out GE158.out GE159.out GE160.out GE161.out⟩⟩
    case rest =>
     clear HC83
     try clear c1
     try clear p2
     try clear c6
     try clear p6
     try clear c7
     try clear c8
     try clear c9
     try clear c13
     try clear c60
     try clear c61
     try clear c62
     try clear c63
     try clear c64
     try clear p64
     try clear c65
     try clear c66
     try clear c68
     try clear c69
     try clear c70
     try clear c71
     try clear c72
     try clear c73
     try clear c85
     try clear c86
     try clear c87
     try clear c88
     try clear c89
     try clear c90
     try clear c91
     try clear hcz67_0
     try clear hcz67_1
     try clear hcz74_0
     try clear hcz74_1
     try clear hcz74_2
     try clear hcz74_3
     try clear hcz74_4
     try clear hcz74_5
     try clear hcz92_0
     try clear hcz92_1
     try clear hcz92_2
     try clear hcz92_3
     try clear hcz92_4
     try clear hcz92_5
     try clear hfz67_0
     try clear hfz67_1
     try clear hfz74_0
     try clear hfz74_1
     try clear hfz74_2
     try clear hfz74_3
     try clear hfz74_4
     try clear hfz74_5
     try clear hfz92_0
     try clear hfz92_1
     try clear hfz92_2
     try clear hfz92_3
     try clear hfz92_4
     try clear hfz92_5
     obtain ⟨kq, x10_82, x11_82, rfl, rfl, HA, HJ82, BK153, BK154, BK156, BK157, BK158, BK159, BK160, BK161, HB⟩ := hcut
     cases kq with
     | zero => exact absurd HA.out (by simp [pochoirlaw18_PlaneMoved.j1])
     | succ kj82 =>
      have H := HA.out
      clear HA
      simp only [pochoirlaw18_PlaneMoved.j1] at H
      have HC94 := Aside0.mk H
      clear H
      go_upto_region 12 with (fail)
      go_cut [12, 13] (fun v12 v13 wc => ∃ (kq : Nat) (x12_93 : Int) (x13_93 : Int), v12 = .int .i64 x12_93 ∧ v13 = .int .i64 x13_93 ∧ Aside0 (pochoirlaw18_PlaneMoved.j2 kq x10_82 x11_82 x12_93 x13_93 (Int.tmod (wrap64 (a0_0)) 1048576) (Int.tmod (wrap64 (a0_1)) 1048576) (Int.tmod (wrap64 (a0_2)) 1048576) (Int.tmod (wrap64 (a0_3)) 1048576) (Int.tmod (wrap64 (a0_4)) 1048576) (Int.tmod (wrap64 (a0_5)) 1048576) (wrap64 (-(Int.tmod (wrap64 (a0_1)) 1048576))) (Int.tmod (wrap64 (a0_0)) 1048576) (wrap64 (-(Int.tmod (wrap64 (a0_3)) 1048576))) (Int.tmod (wrap64 (a0_2)) 1048576) (wrap64 (-(Int.tmod (wrap64 (a0_5)) 1048576))) (Int.tmod (wrap64 (a0_4)) 1048576) = some r) ∧ Aside0 (kq ≤ kj82) ∧ Aside0 (wc.heap[gb153]? = some (.cells #[.int .i32 a0_0, .int .i32 a0_1, .int .i32 a0_2, .int .i32 a0_3, .int .i32 a0_4, .int .i32 a0_5] 23 (0, 0))) ∧ Aside0 (wc.heap[gb154]? = some (.cells #[.int .i32 a1_0, .int .i32 a1_1] 22 (0, 0))) ∧ Aside0 (wc.heap[gb156]? = some (.cells #[.int .i64 (Int.tmod (wrap64 (a0_0)) 1048576), .int .i64 (Int.tmod (wrap64 (a0_1)) 1048576), .int .i64 (Int.tmod (wrap64 (a0_2)) 1048576), .int .i64 (Int.tmod (wrap64 (a0_3)) 1048576), .int .i64 (Int.tmod (wrap64 (a0_4)) 1048576), .int .i64 (Int.tmod (wrap64 (a0_5)) 1048576)] 27 (0, 0))) ∧ Aside0 (wc.heap[gb157]? = some (.cells #[.int .i64 (wrap64 ((Int.tmod (wrap64 (a0_0)) 1048576) + (Int.tmod (wrap64 (a1_0)) 1048576))), .int .i64 (wrap64 ((Int.tmod (wrap64 (a0_1)) 1048576) + (Int.tmod (wrap64 (a1_1)) 1048576))), .int .i64 (wrap64 ((Int.tmod (wrap64 (a0_2)) 1048576) + (Int.tmod (wrap64 (a1_0)) 1048576))), .int .i64 (wrap64 ((Int.tmod (wrap64 (a0_3)) 1048576) + (Int.tmod (wrap64 (a1_1)) 1048576))), .int .i64 (wrap64 ((Int.tmod (wrap64 (a0_4)) 1048576) + (Int.tmod (wrap64 (a1_0)) 1048576))), .int .i64 (wrap64 ((Int.tmod (wrap64 (a0_5)) 1048576) + (Int.tmod (wrap64 (a1_1)) 1048576)))] 27 (0, 0))) ∧ Aside0 (wc.heap[gb158]? = some (.cells #[.int .i64 (wrap64 (-(Int.tmod (wrap64 (a0_1)) 1048576))), .int .i64 (Int.tmod (wrap64 (a0_0)) 1048576), .int .i64 (wrap64 (-(Int.tmod (wrap64 (a0_3)) 1048576))), .int .i64 (Int.tmod (wrap64 (a0_2)) 1048576), .int .i64 (wrap64 (-(Int.tmod (wrap64 (a0_5)) 1048576))), .int .i64 (Int.tmod (wrap64 (a0_4)) 1048576)] 27 (0, 0))) ∧ Aside0 (wc.heap[gb159]? = some (.cells #[.int .i32 a0_0, .int .i32 a0_1] 22 (0, 0))) ∧ Aside0 (wc.heap[gb160]? = some (.cells #[.int .i32 a0_2, .int .i32 a0_3] 22 (0, 0))) ∧ Aside0 (wc.heap[gb161]? = some (.cells #[.int .i32 a0_4, .int .i32 a0_5] 22 (0, 0))) ∧ Aside0 (Below w.heap.size w wc))
      case first =>
       have H := HC94.out
       clear HC94
       replace H := Option.bind_eq_some_iff.mp H
       obtain ⟨⟨t164, t165⟩, A950, H⟩ := H
       replace H : (pochoirlaw18_PlaneMoved.j2 kj82 x10_82 x11_82 t164 t165 (Int.tmod (wrap64 (a0_0)) 1048576) (Int.tmod (wrap64 (a0_1)) 1048576) (Int.tmod (wrap64 (a0_2)) 1048576) (Int.tmod (wrap64 (a0_3)) 1048576) (Int.tmod (wrap64 (a0_4)) 1048576) (Int.tmod (wrap64 (a0_5)) 1048576) (wrap64 (-(Int.tmod (wrap64 (a0_1)) 1048576))) (Int.tmod (wrap64 (a0_0)) 1048576) (wrap64 (-(Int.tmod (wrap64 (a0_3)) 1048576))) (Int.tmod (wrap64 (a0_2)) 1048576) (wrap64 (-(Int.tmod (wrap64 (a0_5)) 1048576))) (Int.tmod (wrap64 (a0_4)) 1048576)) = some r := H
       have A95 := Aside0.mk A950
       clear A950
       have H' := Aside0.mk H
       clear H
       have hnb96 := NB157_153.out
       have hnc96 := NB153_157.out
       have hnb97 := NB157_154.out
       have hnc97 := NB154_157.out
       have hnb98 := NB157_156.out
       have hnc98 := NB156_157.out
       have hnb99 := NB157_158.out
       have hnc99 := NB158_157.out
       have hnb100 := NB157_159.out
       have hnc100 := NB159_157.out
       have hnb101 := NB157_160.out
       have hnc101 := NB160_157.out
       have hnb102 := NB157_161.out
       have hnc102 := NB161_157.out
       have hcz103_0 : wc.cell? ⟨gb157, 0, none⟩ = some (.int .i64 (wrap64 ((Int.tmod (wrap64 (a0_0)) 1048576) + (Int.tmod (wrap64 (a1_0)) 1048576)))) := (blk_cell BK157.out 0).trans rfl
       have hcz103_1 : wc.cell? ⟨gb157, 1, none⟩ = some (.int .i64 (wrap64 ((Int.tmod (wrap64 (a0_1)) 1048576) + (Int.tmod (wrap64 (a1_1)) 1048576)))) := (blk_cell BK157.out 1).trans rfl
       have hcz103_2 : wc.cell? ⟨gb157, 2, none⟩ = some (.int .i64 (wrap64 ((Int.tmod (wrap64 (a0_2)) 1048576) + (Int.tmod (wrap64 (a1_0)) 1048576)))) := (blk_cell BK157.out 2).trans rfl
       have hcz103_3 : wc.cell? ⟨gb157, 3, none⟩ = some (.int .i64 (wrap64 ((Int.tmod (wrap64 (a0_3)) 1048576) + (Int.tmod (wrap64 (a1_1)) 1048576)))) := (blk_cell BK157.out 3).trans rfl
       have hcz103_4 : wc.cell? ⟨gb157, 4, none⟩ = some (.int .i64 (wrap64 ((Int.tmod (wrap64 (a0_4)) 1048576) + (Int.tmod (wrap64 (a1_0)) 1048576)))) := (blk_cell BK157.out 4).trans rfl
       have hcz103_5 : wc.cell? ⟨gb157, 5, none⟩ = some (.int .i64 (wrap64 ((Int.tmod (wrap64 (a0_5)) 1048576) + (Int.tmod (wrap64 (a1_1)) 1048576)))) := (blk_cell BK157.out 5).trans rfl
       have hfz103_0 := blk_frozen BK157.out 0
       have hfz103_1 := blk_frozen BK157.out 1
       have hfz103_2 := blk_frozen BK157.out 2
       have hfz103_3 := blk_frozen BK157.out 3
       have hfz103_4 := blk_frozen BK157.out 4
       have hfz103_5 := blk_frozen BK157.out 5
       go_wp2_with (first | ((with_reducible refine gate_callee (f := 13) rfl ?_); refine goesL_ (some 91) rfl rfl Try.func13 (by kernel_rfl) rfl #[.agg #[.int .i64 (wrap64 ((Int.tmod (wrap64 (a0_0)) 1048576) + (Int.tmod (wrap64 (a1_0)) 1048576))), .int .i64 (wrap64 ((Int.tmod (wrap64 (a0_1)) 1048576) + (Int.tmod (wrap64 (a1_1)) 1048576)))], .agg #[.int .i64 (wrap64 ((Int.tmod (wrap64 (a0_2)) 1048576) + (Int.tmod (wrap64 (a1_0)) 1048576))), .int .i64 (wrap64 ((Int.tmod (wrap64 (a0_3)) 1048576) + (Int.tmod (wrap64 (a1_1)) 1048576)))], .agg #[.int .i64 (wrap64 ((Int.tmod (wrap64 (a0_4)) 1048576) + (Int.tmod (wrap64 (a1_0)) 1048576))), .int .i64 (wrap64 ((Int.tmod (wrap64 (a0_5)) 1048576) + (Int.tmod (wrap64 (a1_1)) 1048576)))]] rfl am ?_; (with_reducible refine (plane_Cross.calls kj82 (wrap64 ((Int.tmod (wrap64 (a0_0)) 1048576) + (Int.tmod (wrap64 (a1_0)) 1048576))) (wrap64 ((Int.tmod (wrap64 (a0_1)) 1048576) + (Int.tmod (wrap64 (a1_1)) 1048576))) (wrap64 ((Int.tmod (wrap64 (a0_2)) 1048576) + (Int.tmod (wrap64 (a1_0)) 1048576))) (wrap64 ((Int.tmod (wrap64 (a0_3)) 1048576) + (Int.tmod (wrap64 (a1_1)) 1048576))) (wrap64 ((Int.tmod (wrap64 (a0_4)) 1048576) + (Int.tmod (wrap64 (a1_0)) 1048576))) (wrap64 ((Int.tmod (wrap64 (a0_5)) 1048576) + (Int.tmod (wrap64 (a1_1)) 1048576))) t164 t165 _ A95.out).mono ?_); rintro e w104 ⟨rfl, hb⟩; refine ⟨_, rfl, ?_⟩; replace BK153 := Aside0.mk (bb BK153.out hb); replace BK154 := Aside0.mk (bb BK154.out hb); replace BK156 := Aside0.mk (bb BK156.out hb); replace BK157 := Aside0.mk (bb BK157.out hb); replace BK158 := Aside0.mk (bb BK158.out hb); replace BK159 := Aside0.mk (bb BK159.out hb); replace BK160 := Aside0.mk (bb BK160.out hb); replace BK161 := Aside0.mk (bb BK161.out hb); replace HB := Aside0.mk (below_step (bl8 HB.out GE153.out GE154.out GE156.out GE157.out GE158.out GE159.out GE160.out GE161.out) hb); (try clear hb); (try clear hb2); (try clear hk); (try clear hi)))
       go_meet
       case rel => exact ⟨_, (t164), (t165), fr, fr, H', ⟨by have := HJ2.out; have := HJ82.out; first | omega | exact Nat.le_refl _⟩, ⟨bk BK153.out⟩, ⟨bk BK154.out⟩, ⟨bk BK156.out⟩, ⟨bk BK157.out⟩, ⟨bk BK158.out⟩, ⟨bk BK159.out⟩, ⟨bk BK160.out⟩, ⟨bk BK161.out⟩, ⟨bl8 HB.out GE153.out GE154.out GE156.out GE157.out GE158.out GE159.out GE160.out GE161.out⟩⟩
      case rest =>
       clear HC94
       try clear c1
       try clear p2
       try clear c6
       try clear p6
       try clear c7
       try clear c8
       try clear c9
       try clear c10
       try clear c13
       try clear c60
       try clear c61
       try clear c62
       try clear c63
       try clear c64
       try clear p64
       try clear c65
       try clear c66
       try clear c68
       try clear c69
       try clear c70
       try clear c71
       try clear c72
       try clear c73
       try clear c85
       try clear c86
       try clear c87
       try clear c88
       try clear c89
       try clear c90
       try clear c91
       try clear c96
       try clear c97
       try clear c98
       try clear c99
       try clear c100
       try clear c101
       try clear c102
       try clear hcz103_0
       try clear hcz103_1
       try clear hcz103_2
       try clear hcz103_3
       try clear hcz103_4
       try clear hcz103_5
       try clear hcz67_0
       try clear hcz67_1
       try clear hcz74_0
       try clear hcz74_1
       try clear hcz74_2
       try clear hcz74_3
       try clear hcz74_4
       try clear hcz74_5
       try clear hcz92_0
       try clear hcz92_1
       try clear hcz92_2
       try clear hcz92_3
       try clear hcz92_4
       try clear hcz92_5
       try clear hfz103_0
       try clear hfz103_1
       try clear hfz103_2
       try clear hfz103_3
       try clear hfz103_4
       try clear hfz103_5
       try clear hfz67_0
       try clear hfz67_1
       try clear hfz74_0
       try clear hfz74_1
       try clear hfz74_2
       try clear hfz74_3
       try clear hfz74_4
       try clear hfz74_5
       try clear hfz92_0
       try clear hfz92_1
       try clear hfz92_2
       try clear hfz92_3
       try clear hfz92_4
       try clear hfz92_5
       try clear p2
       try clear p6
       try clear p64
       obtain ⟨kq, x12_93, x13_93, rfl, rfl, HA, HJ93, BK153, BK154, BK156, BK157, BK158, BK159, BK160, BK161, HB⟩ := hcut
       cases kq with
       | zero => exact absurd HA.out (by simp [pochoirlaw18_PlaneMoved.j2])
       | succ kj93 =>
        have H := HA.out
        clear HA
        simp only [pochoirlaw18_PlaneMoved.j2] at H
        replace H := Option.bind_eq_some_iff.mp H
        obtain ⟨⟨t166, t167⟩, A1050, H⟩ := H
        replace H : ((plane_Cross.f kj93 (Int.tmod (wrap64 (a0_2)) 1048576) (Int.tmod (wrap64 (a0_3)) 1048576) (Int.tmod (wrap64 (a0_4)) 1048576) (Int.tmod (wrap64 (a0_5)) 1048576) (Int.tmod (wrap64 (a0_0)) 1048576) (Int.tmod (wrap64 (a0_1)) 1048576)).bind fun bt168 => ((plane_Far.f kj93 (Int.tmod (wrap64 (a0_0)) 1048576) (Int.tmod (wrap64 (a0_1)) 1048576) (Int.tmod (wrap64 (a0_2)) 1048576) (Int.tmod (wrap64 (a0_3)) 1048576)).bind fun bt170 => ((plane_Far.f kj93 (wrap64 (-(Int.tmod (wrap64 (a0_3)) 1048576))) (Int.tmod (wrap64 (a0_2)) 1048576) (wrap64 (-(Int.tmod (wrap64 (a0_1)) 1048576))) (Int.tmod (wrap64 (a0_0)) 1048576)).bind fun bt172 => (if x11_82 = 0 then (if x13_93 = 0 then (if t167 = 0 then (if bt168.2 = 0 then (if bt170.2 = 0 then (if bt172.2 = 0 then (if x10_82 = x12_93 then (if x10_82 = t166 then (if x10_82 = bt168.1 then (some (bt170.1 == bt172.1)) else (some false)) else (some false)) else (some false)) else (some false)) else (some false)) else (some false)) else (some false)) else (some false)) else (some false))))) = some r := H
        have A105 := Aside0.mk A1050
        clear A1050
        replace H := Option.bind_eq_some_iff.mp H
        obtain ⟨⟨t168, t169⟩, A1060, H⟩ := H
        replace H : ((plane_Far.f kj93 (Int.tmod (wrap64 (a0_0)) 1048576) (Int.tmod (wrap64 (a0_1)) 1048576) (Int.tmod (wrap64 (a0_2)) 1048576) (Int.tmod (wrap64 (a0_3)) 1048576)).bind fun bt170 => ((plane_Far.f kj93 (wrap64 (-(Int.tmod (wrap64 (a0_3)) 1048576))) (Int.tmod (wrap64 (a0_2)) 1048576) (wrap64 (-(Int.tmod (wrap64 (a0_1)) 1048576))) (Int.tmod (wrap64 (a0_0)) 1048576)).bind fun bt172 => (if x11_82 = 0 then (if x13_93 = 0 then (if t167 = 0 then (if t169 = 0 then (if bt170.2 = 0 then (if bt172.2 = 0 then (if x10_82 = x12_93 then (if x10_82 = t166 then (if x10_82 = t168 then (some (bt170.1 == bt172.1)) else (some false)) else (some false)) else (some false)) else (some false)) else (some false)) else (some false)) else (some false)) else (some false)) else (some false)))) = some r := H
        have A106 := Aside0.mk A1060
        clear A1060
        replace H := Option.bind_eq_some_iff.mp H
        obtain ⟨⟨t170, t171⟩, A1070, H⟩ := H
        replace H : ((plane_Far.f kj93 (wrap64 (-(Int.tmod (wrap64 (a0_3)) 1048576))) (Int.tmod (wrap64 (a0_2)) 1048576) (wrap64 (-(Int.tmod (wrap64 (a0_1)) 1048576))) (Int.tmod (wrap64 (a0_0)) 1048576)).bind fun bt172 => (if x11_82 = 0 then (if x13_93 = 0 then (if t167 = 0 then (if t169 = 0 then (if t171 = 0 then (if bt172.2 = 0 then (if x10_82 = x12_93 then (if x10_82 = t166 then (if x10_82 = t168 then (some (t170 == bt172.1)) else (some false)) else (some false)) else (some false)) else (some false)) else (some false)) else (some false)) else (some false)) else (some false)) else (some false))) = some r := H
        have A107 := Aside0.mk A1070
        clear A1070
        replace H := Option.bind_eq_some_iff.mp H
        obtain ⟨⟨t172, t173⟩, A1080, H⟩ := H
        replace H : (if x11_82 = 0 then (if x13_93 = 0 then (if t167 = 0 then (if t169 = 0 then (if t171 = 0 then (if t173 = 0 then (if x10_82 = x12_93 then (if x10_82 = t166 then (if x10_82 = t168 then (some (t170 == t172)) else (some false)) else (some false)) else (some false)) else (some false)) else (some false)) else (some false)) else (some false)) else (some false)) else (some false)) = some r := H
        have A108 := Aside0.mk A1080
        clear A1080
        by_cases c109 : x11_82 = 0
        ·rw [if_pos c109] at H
         have c109b0 : (x11_82 == 0) = true := beq_iff_eq.mpr c109
         have c109b1 : (x11_82 != 0) = false := bne_eq_false_iff_eq.mpr c109
         clear c109
         by_cases c110 : x13_93 = 0
         ·rw [if_pos c110] at H
          have c110b0 : (x13_93 == 0) = true := beq_iff_eq.mpr c110
          have c110b1 : (x13_93 != 0) = false := bne_eq_false_iff_eq.mpr c110
          clear c110
          by_cases c111 : t167 = 0
          ·rw [if_pos c111] at H
           have c111b0 : (t167 == 0) = true := beq_iff_eq.mpr c111
           have c111b1 : (t167 != 0) = false := bne_eq_false_iff_eq.mpr c111
           clear c111
           by_cases c112 : t169 = 0
           ·rw [if_pos c112] at H
            have c112b0 : (t169 == 0) = true := beq_iff_eq.mpr c112
            have c112b1 : (t169 != 0) = false := bne_eq_false_iff_eq.mpr c112
            clear c112
            by_cases c113 : t171 = 0
            ·rw [if_pos c113] at H
             have c113b0 : (t171 == 0) = true := beq_iff_eq.mpr c113
             have c113b1 : (t171 != 0) = false := bne_eq_false_iff_eq.mpr c113
             clear c113
             by_cases c114 : t173 = 0
             ·rw [if_pos c114] at H
              have c114b0 : (t173 == 0) = true := beq_iff_eq.mpr c114
              have c114b1 : (t173 != 0) = false := bne_eq_false_iff_eq.mpr c114
              clear c114
              by_cases c115 : x10_82 = x12_93
              ·rw [if_pos c115] at H
               have c115b0 : (x10_82 == x12_93) = true := beq_iff_eq.mpr c115
               have c115b1 : (x10_82 != x12_93) = false := bne_eq_false_iff_eq.mpr c115
               clear c115
               by_cases c116 : x10_82 = t166
               ·rw [if_pos c116] at H
                have c116b0 : (x10_82 == t166) = true := beq_iff_eq.mpr c116
                have c116b1 : (x10_82 != t166) = false := bne_eq_false_iff_eq.mpr c116
                clear c116
                by_cases c117 : x10_82 = t168
                ·rw [if_pos c117] at H
                 have c117b0 : (x10_82 == t168) = true := beq_iff_eq.mpr c117
                 have c117b1 : (x10_82 != t168) = false := bne_eq_false_iff_eq.mpr c117
                 clear c117
                 obtain rfl := Option.some.inj H
                 have hnb118 := NB158_153.out
                 have hnc118 := NB153_158.out
                 have hnb119 := NB158_154.out
                 have hnc119 := NB154_158.out
                 have hnb120 := NB158_156.out
                 have hnc120 := NB156_158.out
                 have hnb121 := NB158_157.out
                 have hnc121 := NB157_158.out
                 have hnb122 := NB158_159.out
                 have hnc122 := NB159_158.out
                 have hnb123 := NB158_160.out
                 have hnc123 := NB160_158.out
                 have hnb124 := NB158_161.out
                 have hnc124 := NB161_158.out
                 have hcz125_0 : wc.cell? ⟨gb158, 0, none⟩ = some (.int .i64 (wrap64 (-(Int.tmod (wrap64 (a0_1)) 1048576)))) := (blk_cell BK158.out 0).trans rfl
                 have hcz125_1 : wc.cell? ⟨gb158, 1, none⟩ = some (.int .i64 (Int.tmod (wrap64 (a0_0)) 1048576)) := (blk_cell BK158.out 1).trans rfl
                 have hcz125_2 : wc.cell? ⟨gb158, 2, none⟩ = some (.int .i64 (wrap64 (-(Int.tmod (wrap64 (a0_3)) 1048576)))) := (blk_cell BK158.out 2).trans rfl
                 have hcz125_3 : wc.cell? ⟨gb158, 3, none⟩ = some (.int .i64 (Int.tmod (wrap64 (a0_2)) 1048576)) := (blk_cell BK158.out 3).trans rfl
                 have hcz125_4 : wc.cell? ⟨gb158, 4, none⟩ = some (.int .i64 (wrap64 (-(Int.tmod (wrap64 (a0_5)) 1048576)))) := (blk_cell BK158.out 4).trans rfl
                 have hcz125_5 : wc.cell? ⟨gb158, 5, none⟩ = some (.int .i64 (Int.tmod (wrap64 (a0_4)) 1048576)) := (blk_cell BK158.out 5).trans rfl
                 have hfz125_0 := blk_frozen BK158.out 0
                 have hfz125_1 := blk_frozen BK158.out 1
                 have hfz125_2 := blk_frozen BK158.out 2
                 have hfz125_3 := blk_frozen BK158.out 3
                 have hfz125_4 := blk_frozen BK158.out 4
                 have hfz125_5 := blk_frozen BK158.out 5
                 go_wp2_with (first | ((with_reducible refine gate_callee (f := 13) rfl ?_); refine goesL_ (some 101) rfl rfl Try.func13 (by kernel_rfl) rfl #[.agg #[.int .i64 (wrap64 (-(Int.tmod (wrap64 (a0_1)) 1048576))), .int .i64 (Int.tmod (wrap64 (a0_0)) 1048576)], .agg #[.int .i64 (wrap64 (-(Int.tmod (wrap64 (a0_3)) 1048576))), .int .i64 (Int.tmod (wrap64 (a0_2)) 1048576)], .agg #[.int .i64 (wrap64 (-(Int.tmod (wrap64 (a0_5)) 1048576))), .int .i64 (Int.tmod (wrap64 (a0_4)) 1048576)]] rfl am ?_; (with_reducible refine (plane_Cross.calls kj93 (wrap64 (-(Int.tmod (wrap64 (a0_1)) 1048576))) (Int.tmod (wrap64 (a0_0)) 1048576) (wrap64 (-(Int.tmod (wrap64 (a0_3)) 1048576))) (Int.tmod (wrap64 (a0_2)) 1048576) (wrap64 (-(Int.tmod (wrap64 (a0_5)) 1048576))) (Int.tmod (wrap64 (a0_4)) 1048576) t166 t167 _ A105.out).mono ?_); rintro e w126 ⟨rfl, hb⟩; refine ⟨_, rfl, ?_⟩; replace BK153 := Aside0.mk (bb BK153.out hb); replace BK154 := Aside0.mk (bb BK154.out hb); replace BK156 := Aside0.mk (bb BK156.out hb); replace BK157 := Aside0.mk (bb BK157.out hb); replace BK158 := Aside0.mk (bb BK158.out hb); replace BK159 := Aside0.mk (bb BK159.out hb); replace BK160 := Aside0.mk (bb BK160.out hb); replace BK161 := Aside0.mk (bb BK161.out hb); replace HB := Aside0.mk (below_step (bl8 HB.out GE153.out GE154.out GE156.out GE157.out GE158.out GE159.out GE160.out GE161.out) hb); (try clear hb); (try clear hb2); (try clear hk); (try clear hi); have hnb127 := NB156_153.out; have hnc127 := NB153_156.out; have hnb128 := NB156_154.out; have hnc128 := NB154_156.out; have hnb129 := NB156_157.out; have hnc129 := NB157_156.out; have hnb130 := NB156_159.out; have hnc130 := NB159_156.out; have hnb131 := NB156_160.out; have hnc131 := NB160_156.out; have hnb132 := NB156_161.out; have hnc132 := NB161_156.out; have hcz133_0 : w126.cell? ⟨gb156, 0, none⟩ = some (.int .i64 (Int.tmod (wrap64 (a0_0)) 1048576)) := (blk_cell BK156.out 0).trans rfl; have hcz133_1 : w126.cell? ⟨gb156, 1, none⟩ = some (.int .i64 (Int.tmod (wrap64 (a0_1)) 1048576)) := (blk_cell BK156.out 1).trans rfl; have hcz133_2 : w126.cell? ⟨gb156, 2, none⟩ = some (.int .i64 (Int.tmod (wrap64 (a0_2)) 1048576)) := (blk_cell BK156.out 2).trans rfl; have hcz133_3 : w126.cell? ⟨gb156, 3, none⟩ = some (.int .i64 (Int.tmod (wrap64 (a0_3)) 1048576)) := (blk_cell BK156.out 3).trans rfl; have hcz133_4 : w126.cell? ⟨gb156, 4, none⟩ = some (.int .i64 (Int.tmod (wrap64 (a0_4)) 1048576)) := (blk_cell BK156.out 4).trans rfl; have hcz133_5 : w126.cell? ⟨gb156, 5, none⟩ = some (.int .i64 (Int.tmod (wrap64 (a0_5)) 1048576)) := (blk_cell BK156.out 5).trans rfl; have hfz133_0 := blk_frozen BK156.out 0; have hfz133_1 := blk_frozen BK156.out 1; have hfz133_2 := blk_frozen BK156.out 2; have hfz133_3 := blk_frozen BK156.out 3; have hfz133_4 := blk_frozen BK156.out 4; have hfz133_5 := blk_frozen BK156.out 5) | ((with_reducible refine gate_callee (f := 13) rfl ?_); refine goesL_ (some 111) rfl rfl Try.func13 (by kernel_rfl) rfl #[.agg #[.int .i64 (Int.tmod (wrap64 (a0_2)) 1048576), .int .i64 (Int.tmod (wrap64 (a0_3)) 1048576)], .agg #[.int .i64 (Int.tmod (wrap64 (a0_4)) 1048576), .int .i64 (Int.tmod (wrap64 (a0_5)) 1048576)], .agg #[.int .i64 (Int.tmod (wrap64 (a0_0)) 1048576), .int .i64 (Int.tmod (wrap64 (a0_1)) 1048576)]] rfl am ?_; (with_reducible refine (plane_Cross.calls kj93 (Int.tmod (wrap64 (a0_2)) 1048576) (Int.tmod (wrap64 (a0_3)) 1048576) (Int.tmod (wrap64 (a0_4)) 1048576) (Int.tmod (wrap64 (a0_5)) 1048576) (Int.tmod (wrap64 (a0_0)) 1048576) (Int.tmod (wrap64 (a0_1)) 1048576) t168 t169 _ A106.out).mono ?_); rintro e w134 ⟨rfl, hb⟩; refine ⟨_, rfl, ?_⟩; replace BK153 := Aside0.mk (bb BK153.out hb); replace BK154 := Aside0.mk (bb BK154.out hb); replace BK156 := Aside0.mk (bb BK156.out hb); replace BK157 := Aside0.mk (bb BK157.out hb); replace BK158 := Aside0.mk (bb BK158.out hb); replace BK159 := Aside0.mk (bb BK159.out hb); replace BK160 := Aside0.mk (bb BK160.out hb); replace BK161 := Aside0.mk (bb BK161.out hb); replace HB := Aside0.mk (below_step (bl8 HB.out GE153.out GE154.out GE156.out GE157.out GE158.out GE159.out GE160.out GE161.out) hb); (try clear hb); (try clear hb2); (try clear hk); (try clear hi); have hcz135_0 : w134.cell? ⟨gb156, 0, none⟩ = some (.int .i64 (Int.tmod (wrap64 (a0_0)) 1048576)) := (blk_cell BK156.out 0).trans rfl; have hcz135_1 : w134.cell? ⟨gb156, 1, none⟩ = some (.int .i64 (Int.tmod (wrap64 (a0_1)) 1048576)) := (blk_cell BK156.out 1).trans rfl; have hcz135_2 : w134.cell? ⟨gb156, 2, none⟩ = some (.int .i64 (Int.tmod (wrap64 (a0_2)) 1048576)) := (blk_cell BK156.out 2).trans rfl; have hcz135_3 : w134.cell? ⟨gb156, 3, none⟩ = some (.int .i64 (Int.tmod (wrap64 (a0_3)) 1048576)) := (blk_cell BK156.out 3).trans rfl; have hcz135_4 : w134.cell? ⟨gb156, 4, none⟩ = some (.int .i64 (Int.tmod (wrap64 (a0_4)) 1048576)) := (blk_cell BK156.out 4).trans rfl; have hcz135_5 : w134.cell? ⟨gb156, 5, none⟩ = some (.int .i64 (Int.tmod (wrap64 (a0_5)) 1048576)) := (blk_cell BK156.out 5).trans rfl; have hfz135_0 := blk_frozen BK156.out 0; have hfz135_1 := blk_frozen BK156.out 1; have hfz135_2 := blk_frozen BK156.out 2; have hfz135_3 := blk_frozen BK156.out 3; have hfz135_4 := blk_frozen BK156.out 4; have hfz135_5 := blk_frozen BK156.out 5) | ((with_reducible refine gate_callee (f := 14) rfl ?_); refine goesL_ (some 119) rfl rfl Try.func14 (by kernel_rfl) rfl #[.agg #[.int .i64 (Int.tmod (wrap64 (a0_0)) 1048576), .int .i64 (Int.tmod (wrap64 (a0_1)) 1048576)], .agg #[.int .i64 (Int.tmod (wrap64 (a0_2)) 1048576), .int .i64 (Int.tmod (wrap64 (a0_3)) 1048576)]] rfl am ?_; (with_reducible refine (plane_Far.calls kj93 (Int.tmod (wrap64 (a0_0)) 1048576) (Int.tmod (wrap64 (a0_1)) 1048576) (Int.tmod (wrap64 (a0_2)) 1048576) (Int.tmod (wrap64 (a0_3)) 1048576) t170 t171 _ A107.out).mono ?_); rintro e w136 ⟨rfl, hb⟩; refine ⟨_, rfl, ?_⟩; replace BK153 := Aside0.mk (bb BK153.out hb); replace BK154 := Aside0.mk (bb BK154.out hb); replace BK156 := Aside0.mk (bb BK156.out hb); replace BK157 := Aside0.mk (bb BK157.out hb); replace BK158 := Aside0.mk (bb BK158.out hb); replace BK159 := Aside0.mk (bb BK159.out hb); replace BK160 := Aside0.mk (bb BK160.out hb); replace BK161 := Aside0.mk (bb BK161.out hb); replace HB := Aside0.mk (below_step (bl8 HB.out GE153.out GE154.out GE156.out GE157.out GE158.out GE159.out GE160.out GE161.out) hb); (try clear hb); (try clear hb2); (try clear hk); (try clear hi); have hcz137_0 : w136.cell? ⟨gb158, 0, none⟩ = some (.int .i64 (wrap64 (-(Int.tmod (wrap64 (a0_1)) 1048576)))) := (blk_cell BK158.out 0).trans rfl; have hcz137_1 : w136.cell? ⟨gb158, 1, none⟩ = some (.int .i64 (Int.tmod (wrap64 (a0_0)) 1048576)) := (blk_cell BK158.out 1).trans rfl; have hcz137_2 : w136.cell? ⟨gb158, 2, none⟩ = some (.int .i64 (wrap64 (-(Int.tmod (wrap64 (a0_3)) 1048576)))) := (blk_cell BK158.out 2).trans rfl; have hcz137_3 : w136.cell? ⟨gb158, 3, none⟩ = some (.int .i64 (Int.tmod (wrap64 (a0_2)) 1048576)) := (blk_cell BK158.out 3).trans rfl; have hcz137_4 : w136.cell? ⟨gb158, 4, none⟩ = some (.int .i64 (wrap64 (-(Int.tmod (wrap64 (a0_5)) 1048576)))) := (blk_cell BK158.out 4).trans rfl; have hcz137_5 : w136.cell? ⟨gb158, 5, none⟩ = some (.int .i64 (Int.tmod (wrap64 (a0_4)) 1048576)) := (blk_cell BK158.out 5).trans rfl; have hfz137_0 := blk_frozen BK158.out 0; have hfz137_1 := blk_frozen BK158.out 1; have hfz137_2 := blk_frozen BK158.out 2; have hfz137_3 := blk_frozen BK158.out 3; have hfz137_4 := blk_frozen BK158.out 4; have hfz137_5 := blk_frozen BK158.out 5) | ((with_reducible refine gate_callee (f := 14) rfl ?_); refine goesL_ (some 127) rfl rfl Try.func14 (by kernel_rfl) rfl #[.agg #[.int .i64 (wrap64 (-(Int.tmod (wrap64 (a0_3)) 1048576))), .int .i64 (Int.tmod (wrap64 (a0_2)) 1048576)], .agg #[.int .i64 (wrap64 (-(Int.tmod (wrap64 (a0_1)) 1048576))), .int .i64 (Int.tmod (wrap64 (a0_0)) 1048576)]] rfl am ?_; (with_reducible refine (plane_Far.calls kj93 (wrap64 (-(Int.tmod (wrap64 (a0_3)) 1048576))) (Int.tmod (wrap64 (a0_2)) 1048576) (wrap64 (-(Int.tmod (wrap64 (a0_1)) 1048576))) (Int.tmod (wrap64 (a0_0)) 1048576) t172 t173 _ A108.out).mono ?_); rintro e w138 ⟨rfl, hb⟩; refine ⟨_, rfl, ?_⟩; replace BK153 := Aside0.mk (bb BK153.out hb); replace BK154 := Aside0.mk (bb BK154.out hb); replace BK156 := Aside0.mk (bb BK156.out hb); replace BK157 := Aside0.mk (bb BK157.out hb); replace BK158 := Aside0.mk (bb BK158.out hb); replace BK159 := Aside0.mk (bb BK159.out hb); replace BK160 := Aside0.mk (bb BK160.out hb); replace BK161 := Aside0.mk (bb BK161.out hb); replace HB := Aside0.mk (below_step (bl8 HB.out GE153.out GE154.out GE156.out GE157.out GE158.out GE159.out GE160.out GE161.out) hb); (try clear hb); (try clear hb2); (try clear hk); (try clear hi)))
                 go_ret
                 exact ⟨by first | rfl | (simp [errW_none, errW_some] <;> rfl) | (simp [*, errW_none, errW_some] <;> rfl), bl8 HB.out GE153.out GE154.out GE156.out GE157.out GE158.out GE159.out GE160.out GE161.out⟩
                ·rw [if_neg c117] at H
                 have c117b0 : (x10_82 == t168) = false := beq_eq_false_iff_ne.mpr c117
                 have c117b1 : (x10_82 != t168) = true := bne_iff_ne.mpr c117
                 exact absurd (HQ.out ▸ H) (by simp)
               ·rw [if_neg c116] at H
                have c116b0 : (x10_82 == t166) = false := beq_eq_false_iff_ne.mpr c116
                have c116b1 : (x10_82 != t166) = true := bne_iff_ne.mpr c116
                exact absurd (HQ.out ▸ H) (by simp)
              ·rw [if_neg c115] at H
               have c115b0 : (x10_82 == x12_93) = false := beq_eq_false_iff_ne.mpr c115
               have c115b1 : (x10_82 != x12_93) = true := bne_iff_ne.mpr c115
               exact absurd (HQ.out ▸ H) (by simp)
             ·rw [if_neg c114] at H
              have c114b0 : (t173 == 0) = false := beq_eq_false_iff_ne.mpr c114
              have c114b1 : (t173 != 0) = true := bne_iff_ne.mpr c114
              exact absurd (HQ.out ▸ H) (by simp)
            ·rw [if_neg c113] at H
             have c113b0 : (t171 == 0) = false := beq_eq_false_iff_ne.mpr c113
             have c113b1 : (t171 != 0) = true := bne_iff_ne.mpr c113
             exact absurd (HQ.out ▸ H) (by simp)
           ·rw [if_neg c112] at H
            have c112b0 : (t169 == 0) = false := beq_eq_false_iff_ne.mpr c112
            have c112b1 : (t169 != 0) = true := bne_iff_ne.mpr c112
            exact absurd (HQ.out ▸ H) (by simp)
          ·rw [if_neg c111] at H
           have c111b0 : (t167 == 0) = false := beq_eq_false_iff_ne.mpr c111
           have c111b1 : (t167 != 0) = true := bne_iff_ne.mpr c111
           exact absurd (HQ.out ▸ H) (by simp)
         ·rw [if_neg c110] at H
          have c110b0 : (x13_93 == 0) = false := beq_eq_false_iff_ne.mpr c110
          have c110b1 : (x13_93 != 0) = true := bne_iff_ne.mpr c110
          exact absurd (HQ.out ▸ H) (by simp)
        ·rw [if_neg c109] at H
         have c109b0 : (x11_82 == 0) = false := beq_eq_false_iff_ne.mpr c109
         have c109b1 : (x11_82 != 0) = true := bne_iff_ne.mpr c109
         exact absurd (HQ.out ▸ H) (by simp)

/-- THE ONE PURE STATEMENT of pochoirlaw18_PlaneMoved. -/
def pochoirlaw18_PlaneMoved.Pure : Prop := ∀ (x0 : S23) (x1 : S22), wf23 x0 → wf22 x1 → ∃ k, pochoirlaw18_PlaneMoved.f k x0.f0.f0 x0.f0.f1 x0.f1.f0 x0.f1.f1 x0.f2.f0 x0.f2.f1 x1.f0 x1.f1 = some true

end Go.Proofs.Ytemhnlameekmkaa.XPlan
