-- Printed by a program of this claim. Not trusted: Lean checks it.
import Derived.Test.YtalgppclaolonaaXCornx0
import Derived.Test.YtalgppclaolonaaXCornx1
import Derived.Test.YtalgppclaolonaaXCornx3
import Derived.Test.YtalgppclaolonaaXCornx9
namespace Go.Proofs.Ytalgppclaolonaa.XCorn
open Go.RowKit Go.Proofs.YtalgppclaolonaaW.PrintWords Go.Proofs.YtalgppclaolonaaW.PrintLast Go.Proofs.YtalgppclaolonaaW.PrintMore
attribute [local go_sem] max2_int min2_int max_two min_two max_three min_three max_four min_four   -- for this text's walks alone
set_option linter.unusedVariables false
set_option linter.unusedSimpArgs false
open XOpen

/-! ### corner_First: function 26 -/
def corner_First.f (k : Nat) (a0_0 : Int) (a0_1 : Bool) (a0_2 : Int) (a0_3 : Int) (a0_4 : Int) (a0_5 : Int) (a0_6 : Int) (a0_7 : Int) : Option (Int × Int × Int) := (corner_right.f k a0_0 a0_1 a0_2 a0_3 a0_4 a0_5 a0_6 a0_7).bind fun t376 => (if t376 = true then ((corner_first.f k a0_0 a0_1 a0_2 a0_3 a0_4 a0_5 a0_6 a0_7).bind fun bt377 => (some (bt377.1, bt377.2, 0))) else (some (0, 0, 1)))
theorem corner_First.mono : ∀ a0 a1 a2 a3 a4 a5 a6 a7 k, LeO (corner_First.f k a0 a1 a2 a3 a4 a5 a6 a7) (corner_First.f (k + 1) a0 a1 a2 a3 a4 a5 a6 a7) := by
 intro a0 a1 a2 a3 a4 a5 a6 a7 k
 unfold corner_First.f
 repeat' first
   | (with_reducible exact corner_first.mono _ _ _ _ _ _ _ _ _)
   | (with_reducible exact corner_right.mono _ _ _ _ _ _ _ _ _)
   | (with_reducible exact LeO.refl _)
   | (with_reducible exact LeO.none _)
   | (with_reducible refine LeO.ite ?_ ?_)
   | (with_reducible refine LeO.bind ?_ (fun _ => ?_))
   | exact corner_first.mono _ _ _ _ _ _ _ _ _
   | exact corner_right.mono _ _ _ _ _ _ _ _ _
   | exact LeO.none _
   | refine LeO.ite ?_ ?_
   | refine LeO.bind ?_ (fun _ => ?_)
set_option maxHeartbeats 8000000 in
set_option maxRecDepth 100000 in
theorem corner_First.calls (k : Nat) (a0_0 : Int) (a0_1 : Bool) (a0_2 : Int) (a0_3 : Int) (a0_4 : Int) (a0_5 : Int) (a0_6 : Int) (a0_7 : Int) (r1 : Int) (r2 : Int) (r3 : Int) (w : World) (h : corner_First.f k a0_0 a0_1 a0_2 a0_3 a0_4 a0_5 a0_6 a0_7 = some (r1, r2, r3)) :
  Calls Try.prog 26 #[.agg #[.int .i64 a0_0, .bool a0_1, .int .i64 a0_2, .int .i64 a0_3, .int .i64 a0_4, .int .i64 a0_5, .int .i64 a0_6, .int .i64 a0_7]] w fun e w' => e = .returned (.tuple #[.agg #[.int .i64 r1, .int .i64 r2], .int .i64 r3]) ∧ Below w.heap.size w w' := by
 have hu38 := Try.underlying38
 have hu36 := Try.underlying36
 have HB := Aside0.mk (Below.refl w.heap.size w)
 have H : ((corner_right.f k a0_0 a0_1 a0_2 a0_3 a0_4 a0_5 a0_6 a0_7).bind fun t376 => (if t376 = true then ((corner_first.f k a0_0 a0_1 a0_2 a0_3 a0_4 a0_5 a0_6 a0_7).bind fun bt377 => (some (bt377.1, bt377.2, 0))) else (some (0, 0, 1)))) = some (r1, r2, r3) := h
 clear h
 replace H := Option.bind_eq_some_iff.mp H
 obtain ⟨t376, A20, H⟩ := H
 replace H : (if t376 = true then ((corner_first.f k a0_0 a0_1 a0_2 a0_3 a0_4 a0_5 a0_6 a0_7).bind fun bt377 => (some (bt377.1, bt377.2, 0))) else (some (0, 0, 1))) = some (r1, r2, r3) := H
 have A2 := Aside0.mk A20
 clear A20
 by_cases c3 : t376 = true
 ·subst c3
  have H1 : ((corner_first.f k a0_0 a0_1 a0_2 a0_3 a0_4 a0_5 a0_6 a0_7).bind fun bt377 => (some (bt377.1, bt377.2, 0))) = some (r1, r2, r3) := by rw [if_pos rfl] at H; exact H
  clear H
  have H := H1
  clear H1
  replace H := Option.bind_eq_some_iff.mp H
  obtain ⟨⟨t377, t378⟩, A40, H⟩ := H
  replace H : (some (t377, t378, 0)) = some (r1, r2, r3) := H
  have A4 := Aside0.mk A40
  clear A40
  simp only [Option.some.injEq, Prod.mk.injEq] at H
  obtain ⟨rfl, rfl, rfl⟩ := H
  go_enter Try.func26, Try.ntmps26
  go_wp2_with (first | ((with_reducible refine gate_dst (N := 1) rfl ?_); refine be 1 (#[.int .i64 a0_0, .bool a0_1, .int .i64 a0_2, .int .i64 a0_3, .int .i64 a0_4, .int .i64 a0_5, .int .i64 a0_6, .int .i64 a0_7]) 38 ?_; intro gb374 hg w5 hbox hb; have BK374 := Aside0.mk (hbox); have GW374 := Aside0.mk ((by rw [hg]; exact (below_size (bl0 HB.out)) : w.heap.size ≤ gb374)); have GE374 := GW374; replace HB := Aside0.mk (below_step (bl0 HB.out) hb); clear hb hbox hg) | ((with_reducible refine gate_dst (N := 2) rfl ?_); refine be 2 (#[.int .i64 0, .int .i64 0]) 36 ?_; intro gb375 hg w6 hbox hb; have BK375 := Aside0.mk (hbox); have GW375 := Aside0.mk ((by rw [hg]; exact (below_size (bl1 HB.out GE374.out)) : w.heap.size ≤ gb375)); have GE375 := GW375; have NB374_375 := Aside0.mk ((by rw [hg]; exact Nat.ne_of_lt (lt_ BK374.out) : gb374 ≠ gb375)); have NB375_374 := Aside0.mk ((by rw [hg]; exact Nat.ne_of_gt (lt_ BK374.out) : gb375 ≠ gb374)); replace BK374 := Aside0.mk (bb BK374.out hb); replace HB := Aside0.mk (below_step (bl1 HB.out GE374.out) hb); clear hb hbox hg; have hnb7 := NB374_375.out; have hnc7 := NB375_374.out; have hcz8_0 : w6.cell? ⟨gb374, 0, none⟩ = some (.int .i64 a0_0) := (blk_cell BK374.out 0).trans rfl; have hcz8_1 : w6.cell? ⟨gb374, 1, none⟩ = some (.bool a0_1) := (blk_cell BK374.out 1).trans rfl; have hcz8_2 : w6.cell? ⟨gb374, 2, none⟩ = some (.int .i64 a0_2) := (blk_cell BK374.out 2).trans rfl; have hcz8_3 : w6.cell? ⟨gb374, 3, none⟩ = some (.int .i64 a0_3) := (blk_cell BK374.out 3).trans rfl; have hcz8_4 : w6.cell? ⟨gb374, 4, none⟩ = some (.int .i64 a0_4) := (blk_cell BK374.out 4).trans rfl; have hcz8_5 : w6.cell? ⟨gb374, 5, none⟩ = some (.int .i64 a0_5) := (blk_cell BK374.out 5).trans rfl; have hcz8_6 : w6.cell? ⟨gb374, 6, none⟩ = some (.int .i64 a0_6) := (blk_cell BK374.out 6).trans rfl; have hcz8_7 : w6.cell? ⟨gb374, 7, none⟩ = some (.int .i64 a0_7) := (blk_cell BK374.out 7).trans rfl; have hfz8_0 := blk_frozen BK374.out 0; have hfz8_1 := blk_frozen BK374.out 1; have hfz8_2 := blk_frozen BK374.out 2; have hfz8_3 := blk_frozen BK374.out 3; have hfz8_4 := blk_frozen BK374.out 4; have hfz8_5 := blk_frozen BK374.out 5; have hfz8_6 := blk_frozen BK374.out 6; have hfz8_7 := blk_frozen BK374.out 7) | ((with_reducible refine gate_callee (f := 56) rfl ?_); refine goesL_ (some 5) rfl rfl Try.func56 (by kernel_rfl) rfl #[.agg #[.int .i64 a0_0, .bool a0_1, .int .i64 a0_2, .int .i64 a0_3, .int .i64 a0_4, .int .i64 a0_5, .int .i64 a0_6, .int .i64 a0_7]] rfl am ?_; (with_reducible refine (corner_right.calls k a0_0 a0_1 a0_2 a0_3 a0_4 a0_5 a0_6 a0_7 true _ A2.out).mono ?_); rintro e w9 ⟨rfl, hb⟩; refine ⟨_, rfl, ?_⟩; replace BK374 := Aside0.mk (bb BK374.out hb); replace BK375 := Aside0.mk (bb BK375.out hb); replace HB := Aside0.mk (below_step (bl2 HB.out GE374.out GE375.out) hb); (try clear hb); (try clear hb2); (try clear hk); (try clear hi); have hcz10_0 : w9.cell? ⟨gb374, 0, none⟩ = some (.int .i64 a0_0) := (blk_cell BK374.out 0).trans rfl; have hcz10_1 : w9.cell? ⟨gb374, 1, none⟩ = some (.bool a0_1) := (blk_cell BK374.out 1).trans rfl; have hcz10_2 : w9.cell? ⟨gb374, 2, none⟩ = some (.int .i64 a0_2) := (blk_cell BK374.out 2).trans rfl; have hcz10_3 : w9.cell? ⟨gb374, 3, none⟩ = some (.int .i64 a0_3) := (blk_cell BK374.out 3).trans rfl; have hcz10_4 : w9.cell? ⟨gb374, 4, none⟩ = some (.int .i64 a0_4) := (blk_cell BK374.out 4).trans rfl; have hcz10_5 : w9.cell? ⟨gb374, 5, none⟩ = some (.int .i64 a0_5) := (blk_cell BK374.out 5).trans rfl; have hcz10_6 : w9.cell? ⟨gb374, 6, none⟩ = some (.int .i64 a0_6) := (blk_cell BK374.out 6).trans rfl; have hcz10_7 : w9.cell? ⟨gb374, 7, none⟩ = some (.int .i64 a0_7) := (blk_cell BK374.out 7).trans rfl; have hfz10_0 := blk_frozen BK374.out 0; have hfz10_1 := blk_frozen BK374.out 1; have hfz10_2 := blk_frozen BK374.out 2; have hfz10_3 := blk_frozen BK374.out 3; have hfz10_4 := blk_frozen BK374.out 4; have hfz10_5 := blk_frozen BK374.out 5; have hfz10_6 := blk_frozen BK374.out 6; have hfz10_7 := blk_frozen BK374.out 7) | ((with_reducible refine gate_callee (f := 66) rfl ?_); refine goesL_ (some 9) rfl rfl Try.func66 (by kernel_rfl) rfl #[.agg #[.int .i64 a0_0, .bool a0_1, .int .i64 a0_2, .int .i64 a0_3, .int .i64 a0_4, .int .i64 a0_5, .int .i64 a0_6, .int .i64 a0_7]] rfl am ?_; (with_reducible refine (corner_first.calls k a0_0 a0_1 a0_2 a0_3 a0_4 a0_5 a0_6 a0_7 t377 t378 _ A4.out).mono ?_); rintro e w11 ⟨rfl, hb⟩; refine ⟨_, rfl, ?_⟩; replace BK374 := Aside0.mk (bb BK374.out hb); replace BK375 := Aside0.mk (bb BK375.out hb); replace HB := Aside0.mk (below_step (bl2 HB.out GE374.out GE375.out) hb); (try clear hb); (try clear hb2); (try clear hk); (try clear hi); have hcz12_0 : w11.cell? ⟨gb375, 0, none⟩ = some (.int .i64 0) := (blk_cell BK375.out 0).trans rfl; have hcz12_1 : w11.cell? ⟨gb375, 1, none⟩ = some (.int .i64 0) := (blk_cell BK375.out 1).trans rfl; have hfz12_0 := blk_frozen BK375.out 0; have hfz12_1 := blk_frozen BK375.out 1))
  refine bodyPost_ret (results_ct rfl _ _ gb375 36 #[.int .i64 t377, .int .i64 t378] (0, 0) _ rfl (by (with_reducible repeat (first | refine blk_drewN ?_ _ | refine blk_drew ?_ | refine blk_alloc ?_ _)); refine blk_put (cs := #[.int .i64 t377, .int .i64 0]) ?_ 1 _ rfl; (with_reducible repeat (first | refine blk_drewN ?_ _ | refine blk_drew ?_ | refine blk_alloc ?_ _)); refine blk_put (cs := #[.int .i64 0, .int .i64 0]) ?_ 0 _ rfl; (with_reducible repeat (first | refine blk_drewN ?_ _ | refine blk_drew ?_ | refine blk_alloc ?_ _)); exact BK375.out) Try.underlying36 rfl (by kernel_rfl)) rfl ?_
  exact ⟨by first | rfl | (simp [errW_none, errW_some] <;> rfl) | (simp [*, errW_none, errW_some] <;> rfl), bl2 HB.out GE374.out GE375.out⟩
 ·replace c3 := Bool.eq_false_iff.mpr c3
  subst c3
  have H1 : (some (0, 0, 1)) = some (r1, r2, r3) := by rw [if_neg (show ¬ (false = true) by decide)] at H; exact H
  clear H
  have H := H1
  clear H1
  simp only [Option.some.injEq, Prod.mk.injEq] at H
  obtain ⟨rfl, rfl, rfl⟩ := H
  go_enter Try.func26, Try.ntmps26
  go_wp2_with (first | ((with_reducible refine gate_dst (N := 1) rfl ?_); refine be 1 (#[.int .i64 a0_0, .bool a0_1, .int .i64 a0_2, .int .i64 a0_3, .int .i64 a0_4, .int .i64 a0_5, .int .i64 a0_6, .int .i64 a0_7]) 38 ?_; intro gb374 hg w13 hbox hb; have BK374 := Aside0.mk (hbox); have GW374 := Aside0.mk ((by rw [hg]; exact (below_size (bl0 HB.out)) : w.heap.size ≤ gb374)); have GE374 := GW374; replace HB := Aside0.mk (below_step (bl0 HB.out) hb); clear hb hbox hg) | ((with_reducible refine gate_dst (N := 2) rfl ?_); refine be 2 (#[.int .i64 0, .int .i64 0]) 36 ?_; intro gb375 hg w14 hbox hb; have BK375 := Aside0.mk (hbox); have GW375 := Aside0.mk ((by rw [hg]; exact (below_size (bl1 HB.out GE374.out)) : w.heap.size ≤ gb375)); have GE375 := GW375; have NB374_375 := Aside0.mk ((by rw [hg]; exact Nat.ne_of_lt (lt_ BK374.out) : gb374 ≠ gb375)); have NB375_374 := Aside0.mk ((by rw [hg]; exact Nat.ne_of_gt (lt_ BK374.out) : gb375 ≠ gb374)); replace BK374 := Aside0.mk (bb BK374.out hb); replace HB := Aside0.mk (below_step (bl1 HB.out GE374.out) hb); clear hb hbox hg; have hnb15 := NB374_375.out; have hnc15 := NB375_374.out; have hcz16_0 : w14.cell? ⟨gb374, 0, none⟩ = some (.int .i64 a0_0) := (blk_cell BK374.out 0).trans rfl; have hcz16_1 : w14.cell? ⟨gb374, 1, none⟩ = some (.bool a0_1) := (blk_cell BK374.out 1).trans rfl; have hcz16_2 : w14.cell? ⟨gb374, 2, none⟩ = some (.int .i64 a0_2) := (blk_cell BK374.out 2).trans rfl; have hcz16_3 : w14.cell? ⟨gb374, 3, none⟩ = some (.int .i64 a0_3) := (blk_cell BK374.out 3).trans rfl; have hcz16_4 : w14.cell? ⟨gb374, 4, none⟩ = some (.int .i64 a0_4) := (blk_cell BK374.out 4).trans rfl; have hcz16_5 : w14.cell? ⟨gb374, 5, none⟩ = some (.int .i64 a0_5) := (blk_cell BK374.out 5).trans rfl; have hcz16_6 : w14.cell? ⟨gb374, 6, none⟩ = some (.int .i64 a0_6) := (blk_cell BK374.out 6).trans rfl; have hcz16_7 : w14.cell? ⟨gb374, 7, none⟩ = some (.int .i64 a0_7) := (blk_cell BK374.out 7).trans rfl; have hfz16_0 := blk_frozen BK374.out 0; have hfz16_1 := blk_frozen BK374.out 1; have hfz16_2 := blk_frozen BK374.out 2; have hfz16_3 := blk_frozen BK374.out 3; have hfz16_4 := blk_frozen BK374.out 4; have hfz16_5 := blk_frozen BK374.out 5; have hfz16_6 := blk_frozen BK374.out 6; have hfz16_7 := blk_frozen BK374.out 7) | ((with_reducible refine gate_callee (f := 56) rfl ?_); refine goesL_ (some 5) rfl rfl Try.func56 (by kernel_rfl) rfl #[.agg #[.int .i64 a0_0, .bool a0_1, .int .i64 a0_2, .int .i64 a0_3, .int .i64 a0_4, .int .i64 a0_5, .int .i64 a0_6, .int .i64 a0_7]] rfl am ?_; (with_reducible refine (corner_right.calls k a0_0 a0_1 a0_2 a0_3 a0_4 a0_5 a0_6 a0_7 false _ A2.out).mono ?_); rintro e w17 ⟨rfl, hb⟩; refine ⟨_, rfl, ?_⟩; replace BK374 := Aside0.mk (bb BK374.out hb); replace BK375 := Aside0.mk (bb BK375.out hb); replace HB := Aside0.mk (below_step (bl2 HB.out GE374.out GE375.out) hb); (try clear hb); (try clear hb2); (try clear hk); (try clear hi); have hcz18_0 : w17.cell? ⟨gb375, 0, none⟩ = some (.int .i64 0) := (blk_cell BK375.out 0).trans rfl; have hcz18_1 : w17.cell? ⟨gb375, 1, none⟩ = some (.int .i64 0) := (blk_cell BK375.out 1).trans rfl; have hfz18_0 := blk_frozen BK375.out 0; have hfz18_1 := blk_frozen BK375.out 1))
  refine bodyPost_ret (results_ct rfl _ _ gb375 36 #[.int .i64 0, .int .i64 0] (0, 0) _ rfl (by (with_reducible repeat (first | refine blk_drewN ?_ _ | refine blk_drew ?_ | refine blk_alloc ?_ _)); refine blk_put (cs := #[.int .i64 0, .int .i64 0]) ?_ 1 _ rfl; (with_reducible repeat (first | refine blk_drewN ?_ _ | refine blk_drew ?_ | refine blk_alloc ?_ _)); refine blk_put (cs := #[.int .i64 0, .int .i64 0]) ?_ 0 _ rfl; (with_reducible repeat (first | refine blk_drewN ?_ _ | refine blk_drew ?_ | refine blk_alloc ?_ _)); exact BK375.out) Try.underlying36 rfl (by kernel_rfl)) rfl ?_
  exact ⟨by first | rfl | (simp [errW_none, errW_some] <;> rfl) | (simp [*, errW_none, errW_some] <;> rfl), bl2 HB.out GE374.out GE375.out⟩

end Go.Proofs.Ytalgppclaolonaa.XCorn
