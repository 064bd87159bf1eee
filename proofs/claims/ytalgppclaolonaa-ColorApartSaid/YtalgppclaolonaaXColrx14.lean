-- Printed by a program of this claim. Not trusted: Lean checks it.
import Derived.Test.YtalgppclaolonaaXColrx0
import Derived.Test.YtalgppclaolonaaXColrx1
namespace Go.Proofs.Ytalgppclaolonaa.XColr
open Go.RowKit Go.Proofs.YtalgppclaolonaaW.PrintWords Go.Proofs.YtalgppclaolonaaW.PrintLast Go.Proofs.YtalgppclaolonaaW.PrintMore
attribute [local go_sem] max2_int min2_int max_two min_two max_three min_three max_four min_four   -- for this text's walks alone
set_option linter.unusedVariables false
set_option linter.unusedSimpArgs false
open XOpen

attribute [local go_sem high] eqA36
/-! ### pochoirref22_way: function 68 -/
def pochoirref22_way.f (a0_0 : Int) (a0_1 : Int) (a1_0 : Int) (a1_1 : Int) : Option (Int × Int) := some (wrap64 (a1_0 - a0_0), wrap64 (a1_1 - a0_1))
set_option maxHeartbeats 8000000 in
set_option maxRecDepth 100000 in
theorem pochoirref22_way.calls (a0_0 : Int) (a0_1 : Int) (a1_0 : Int) (a1_1 : Int) (r1 : Int) (r2 : Int) (w : World) (h : pochoirref22_way.f a0_0 a0_1 a1_0 a1_1 = some (r1, r2)) :
  Calls Try.prog 68 #[.agg #[.int .i64 a0_0, .int .i64 a0_1], .agg #[.int .i64 a1_0, .int .i64 a1_1]] w fun e w' => e = .returned (.agg #[.int .i64 r1, .int .i64 r2]) ∧ Below w.heap.size w w' := by
 have hu36 := Try.underlying36
 have HB := Aside0.mk (Below.refl w.heap.size w)
 have H := h
 clear h; unfold pochoirref22_way.f at H
 simp only [Option.some.injEq, Prod.mk.injEq] at H
 obtain ⟨rfl, rfl⟩ := H
 go_enter Try.func68, Try.ntmps68
 go_wp2_with (first | ((with_reducible refine gate_dst (N := 2) rfl ?_); refine be 2 (#[.int .i64 a0_0, .int .i64 a0_1]) 36 ?_; intro gb323 hg w3 hbox hb; have BK323 := Aside0.mk (hbox); have GW323 := Aside0.mk (gz (w := w) hg (bl0 HB.out)); have GE323 := GW323; replace HB := Aside0.mk (below_step (bl0 HB.out) hb); clear hb hbox hg) | ((with_reducible refine gate_dst (N := 3) rfl ?_); refine be 3 (#[.int .i64 a1_0, .int .i64 a1_1]) 36 ?_; intro gb324 hg w4 hbox hb; have BK324 := Aside0.mk (hbox); have GW324 := Aside0.mk (gz (w := w) hg (bl1 HB.out GE323.out)); have GE324 := GW324; have NB323_324 := Aside0.mk (nl hg BK323.out); have NB324_323 := Aside0.mk (nr hg BK323.out); replace BK323 := Aside0.mk (bb BK323.out hb); replace HB := Aside0.mk (below_step (bl1 HB.out GE323.out) hb); clear hb hbox hg) | ((with_reducible refine gate_dst (N := 4) rfl ?_); refine be 4 (#[.int .i64 0, .int .i64 0]) 36 ?_; intro gb325 hg w5 hbox hb; have BK325 := Aside0.mk (hbox); have GW325 := Aside0.mk (gz (w := w) hg (bl2 HB.out GE323.out GE324.out)); have GE325 := GW325; have NB323_325 := Aside0.mk (nl hg BK323.out); have NB325_323 := Aside0.mk (nr hg BK323.out); have NB324_325 := Aside0.mk (nl hg BK324.out); have NB325_324 := Aside0.mk (nr hg BK324.out); replace BK323 := Aside0.mk (bb BK323.out hb); replace BK324 := Aside0.mk (bb BK324.out hb); replace HB := Aside0.mk (below_step (bl2 HB.out GE323.out GE324.out) hb); clear hb hbox hg; have hnb6 := NB324_323.out; have hnc6 := NB323_324.out; have hnb7 := NB324_325.out; have hnc7 := NB325_324.out; have hcz8_0 : w5.cell? ⟨gb324, 0, none⟩ = some (.int .i64 a1_0) := (blk_cell BK324.out 0).trans rfl; have hcz8_1 : w5.cell? ⟨gb324, 1, none⟩ = some (.int .i64 a1_1) := (blk_cell BK324.out 1).trans rfl; have hfz8_0 := blk_frozen BK324.out 0; have hfz8_1 := blk_frozen BK324.out 1; have hnb9 := NB323_325.out; have hnc9 := NB325_323.out; have hcz10_0 : w5.cell? ⟨gb323, 0, none⟩ = some (.int .i64 a0_0) := (blk_cell BK323.out 0).trans rfl; have hcz10_1 : w5.cell? ⟨gb323, 1, none⟩ = some (.int .i64 a0_1) := (blk_cell BK323.out 1).trans rfl; have hfz10_0 := blk_frozen BK323.out 0; have hfz10_1 := blk_frozen BK323.out 1; have hcz11_0 : w5.cell? ⟨gb325, 0, none⟩ = some (.int .i64 0) := (blk_cell BK325.out 0).trans rfl; have hcz11_1 : w5.cell? ⟨gb325, 1, none⟩ = some (.int .i64 0) := (blk_cell BK325.out 1).trans rfl; have hfz11_0 := blk_frozen BK325.out 0; have hfz11_1 := blk_frozen BK325.out 1))
 refine bodyPost_ret (results_cell_row rfl _ _ gb325 36 #[.int .i64 (wrap64 (a1_0 - a0_0)), .int .i64 (wrap64 (a1_1 - a0_1))] (0, 0) _ rfl (by (with_reducible repeat (first | refine blk_drewN ?_ _ | refine blk_drew ?_ | refine blk_alloc ?_ _)); refine blk_put (cs := #[.int .i64 (wrap64 (a1_0 - a0_0)), .int .i64 0]) ?_ 1 _ rfl; (with_reducible repeat (first | refine blk_drewN ?_ _ | refine blk_drew ?_ | refine blk_alloc ?_ _)); refine blk_put (cs := #[.int .i64 0, .int .i64 0]) ?_ 0 _ rfl; (with_reducible repeat (first | refine blk_drewN ?_ _ | refine blk_drew ?_ | refine blk_alloc ?_ _)); exact BK325.out) Try.underlying36 rfl (by kernel_rfl)) rfl ?_
 exact ⟨by first | rfl | (simp [errW_none, errW_some] <;> rfl) | (simp [*, errW_none, errW_some] <;> rfl), bl3 HB.out GE323.out GE324.out GE325.out⟩

/-! ### pochoirref20_Next: function 69 -/
def pochoirref20_Next.f (a0_0 : Int) (a0_1 : Bool) (a0_2 : Int) (a0_3 : Int) (a0_4 : Int) (a0_5 : Int) (a0_6 : Int) (a0_7 : Int) : Option (Int × Int) := if a0_1 = true then (if (!(a0_4 == a0_2) || (!(a0_5 == a0_3))) = true then (some (a0_4, a0_5)) else (some (a0_6, a0_7))) else (some (a0_6, a0_7))
set_option maxHeartbeats 8000000 in
set_option maxRecDepth 100000 in
theorem pochoirref20_Next.calls (a0_0 : Int) (a0_1 : Bool) (a0_2 : Int) (a0_3 : Int) (a0_4 : Int) (a0_5 : Int) (a0_6 : Int) (a0_7 : Int) (r1 : Int) (r2 : Int) (w : World) (h : pochoirref20_Next.f a0_0 a0_1 a0_2 a0_3 a0_4 a0_5 a0_6 a0_7 = some (r1, r2)) :
  Calls Try.prog 69 #[.agg #[.int .i64 a0_0, .bool a0_1, .int .i64 a0_2, .int .i64 a0_3, .int .i64 a0_4, .int .i64 a0_5, .int .i64 a0_6, .int .i64 a0_7]] w fun e w' => e = .returned (.agg #[.int .i64 r1, .int .i64 r2]) ∧ Below w.heap.size w w' := by
 have hu38 := Try.underlying38
 have hu36 := Try.underlying36
 have HB := Aside0.mk (Below.refl w.heap.size w)
 have H := h
 clear h; unfold pochoirref20_Next.f at H
 by_cases c2 : a0_1 = true
 ·subst c2
  rw [if_pos rfl] at H
  by_cases c3 : (!(a0_4 == a0_2) || (!(a0_5 == a0_3))) = true
  ·rw [if_pos c3] at H
   have c3b0 : (!(a0_4 == a0_2) || (!(a0_5 == a0_3))) = true := c3
   clear c3
   simp only [Option.some.injEq, Prod.mk.injEq] at H
   obtain ⟨rfl, rfl⟩ := H
   go_enter Try.func69, Try.ntmps69
   go_wp2_with (first | ((with_reducible refine gate_dst (N := 1) rfl ?_); refine be 1 (#[.int .i64 a0_0, .bool true, .int .i64 a0_2, .int .i64 a0_3, .int .i64 a0_4, .int .i64 a0_5, .int .i64 a0_6, .int .i64 a0_7]) 38 ?_; intro gb326 hg w4 hbox hb; have BK326 := Aside0.mk (hbox); have GW326 := Aside0.mk (gz (w := w) hg (bl0 HB.out)); have GE326 := GW326; replace HB := Aside0.mk (below_step (bl0 HB.out) hb); clear hb hbox hg) | ((with_reducible refine gate_dst (N := 2) rfl ?_); refine be 2 (#[.int .i64 0, .int .i64 0]) 36 ?_; intro gb327 hg w5 hbox hb; have BK327 := Aside0.mk (hbox); have GW327 := Aside0.mk (gz (w := w) hg (bl1 HB.out GE326.out)); have GE327 := GW327; have NB326_327 := Aside0.mk (nl hg BK326.out); have NB327_326 := Aside0.mk (nr hg BK326.out); replace BK326 := Aside0.mk (bb BK326.out hb); replace HB := Aside0.mk (below_step (bl1 HB.out GE326.out) hb); clear hb hbox hg; have hnb6 := NB326_327.out; have hnc6 := NB327_326.out; have hcz7_0 : w5.cell? ⟨gb326, 0, none⟩ = some (.int .i64 a0_0) := (blk_cell BK326.out 0).trans rfl; have hcz7_1 : w5.cell? ⟨gb326, 1, none⟩ = some (.bool true) := (blk_cell BK326.out 1).trans rfl; have hcz7_2 : w5.cell? ⟨gb326, 2, none⟩ = some (.int .i64 a0_2) := (blk_cell BK326.out 2).trans rfl; have hcz7_3 : w5.cell? ⟨gb326, 3, none⟩ = some (.int .i64 a0_3) := (blk_cell BK326.out 3).trans rfl; have hcz7_4 : w5.cell? ⟨gb326, 4, none⟩ = some (.int .i64 a0_4) := (blk_cell BK326.out 4).trans rfl; have hcz7_5 : w5.cell? ⟨gb326, 5, none⟩ = some (.int .i64 a0_5) := (blk_cell BK326.out 5).trans rfl; have hcz7_6 : w5.cell? ⟨gb326, 6, none⟩ = some (.int .i64 a0_6) := (blk_cell BK326.out 6).trans rfl; have hcz7_7 : w5.cell? ⟨gb326, 7, none⟩ = some (.int .i64 a0_7) := (blk_cell BK326.out 7).trans rfl; have hfz7_0 := blk_frozen BK326.out 0; have hfz7_1 := blk_frozen BK326.out 1; have hfz7_2 := blk_frozen BK326.out 2; have hfz7_3 := blk_frozen BK326.out 3; have hfz7_4 := blk_frozen BK326.out 4; have hfz7_5 := blk_frozen BK326.out 5; have hfz7_6 := blk_frozen BK326.out 6; have hfz7_7 := blk_frozen BK326.out 7; have hcz8_0 : w5.cell? ⟨gb327, 0, none⟩ = some (.int .i64 0) := (blk_cell BK327.out 0).trans rfl; have hcz8_1 : w5.cell? ⟨gb327, 1, none⟩ = some (.int .i64 0) := (blk_cell BK327.out 1).trans rfl; have hfz8_0 := blk_frozen BK327.out 0; have hfz8_1 := blk_frozen BK327.out 1))
   refine bodyPost_ret (results_cell_row rfl _ _ gb327 36 #[.int .i64 a0_4, .int .i64 a0_5] (0, 0) _ rfl (by (with_reducible repeat (first | refine blk_drewN ?_ _ | refine blk_drew ?_ | refine blk_alloc ?_ _)); refine blk_put (cs := #[.int .i64 a0_4, .int .i64 0]) ?_ 1 _ rfl; (with_reducible repeat (first | refine blk_drewN ?_ _ | refine blk_drew ?_ | refine blk_alloc ?_ _)); refine blk_put (cs := #[.int .i64 0, .int .i64 0]) ?_ 0 _ rfl; (with_reducible repeat (first | refine blk_drewN ?_ _ | refine blk_drew ?_ | refine blk_alloc ?_ _)); exact BK327.out) Try.underlying36 rfl (by kernel_rfl)) rfl ?_
   exact ⟨by first | rfl | (simp [errW_none, errW_some] <;> rfl) | (simp [*, errW_none, errW_some] <;> rfl), bl2 HB.out GE326.out GE327.out⟩
  rw [if_neg c3] at H
  have c3b0 : (!(a0_4 == a0_2) || (!(a0_5 == a0_3))) = false := by simpa using c3
  clear c3
  simp only [Option.some.injEq, Prod.mk.injEq] at H
  obtain ⟨rfl, rfl⟩ := H
  go_enter Try.func69, Try.ntmps69
  go_wp2_with (first | ((with_reducible refine gate_dst (N := 1) rfl ?_); refine be 1 (#[.int .i64 a0_0, .bool true, .int .i64 a0_2, .int .i64 a0_3, .int .i64 a0_4, .int .i64 a0_5, .int .i64 a0_6, .int .i64 a0_7]) 38 ?_; intro gb326 hg w9 hbox hb; have BK326 := Aside0.mk (hbox); have GW326 := Aside0.mk (gz (w := w) hg (bl0 HB.out)); have GE326 := GW326; replace HB := Aside0.mk (below_step (bl0 HB.out) hb); clear hb hbox hg) | ((with_reducible refine gate_dst (N := 2) rfl ?_); refine be 2 (#[.int .i64 0, .int .i64 0]) 36 ?_; intro gb327 hg w10 hbox hb; have BK327 := Aside0.mk (hbox); have GW327 := Aside0.mk (gz (w := w) hg (bl1 HB.out GE326.out)); have GE327 := GW327; have NB326_327 := Aside0.mk (nl hg BK326.out); have NB327_326 := Aside0.mk (nr hg BK326.out); replace BK326 := Aside0.mk (bb BK326.out hb); replace HB := Aside0.mk (below_step (bl1 HB.out GE326.out) hb); clear hb hbox hg; have hnb11 := NB326_327.out; have hnc11 := NB327_326.out; have hcz12_0 : w10.cell? ⟨gb326, 0, none⟩ = some (.int .i64 a0_0) := (blk_cell BK326.out 0).trans rfl; have hcz12_1 : w10.cell? ⟨gb326, 1, none⟩ = some (.bool true) := (blk_cell BK326.out 1).trans rfl; have hcz12_2 : w10.cell? ⟨gb326, 2, none⟩ = some (.int .i64 a0_2) := (blk_cell BK326.out 2).trans rfl; have hcz12_3 : w10.cell? ⟨gb326, 3, none⟩ = some (.int .i64 a0_3) := (blk_cell BK326.out 3).trans rfl; have hcz12_4 : w10.cell? ⟨gb326, 4, none⟩ = some (.int .i64 a0_4) := (blk_cell BK326.out 4).trans rfl; have hcz12_5 : w10.cell? ⟨gb326, 5, none⟩ = some (.int .i64 a0_5) := (blk_cell BK326.out 5).trans rfl; have hcz12_6 : w10.cell? ⟨gb326, 6, none⟩ = some (.int .i64 a0_6) := (blk_cell BK326.out 6).trans rfl; have hcz12_7 : w10.cell? ⟨gb326, 7, none⟩ = some (.int .i64 a0_7) := (blk_cell BK326.out 7).trans rfl; have hfz12_0 := blk_frozen BK326.out 0; have hfz12_1 := blk_frozen BK326.out 1; have hfz12_2 := blk_frozen BK326.out 2; have hfz12_3 := blk_frozen BK326.out 3; have hfz12_4 := blk_frozen BK326.out 4; have hfz12_5 := blk_frozen BK326.out 5; have hfz12_6 := blk_frozen BK326.out 6; have hfz12_7 := blk_frozen BK326.out 7; have hcz13_0 : w10.cell? ⟨gb327, 0, none⟩ = some (.int .i64 0) := (blk_cell BK327.out 0).trans rfl; have hcz13_1 : w10.cell? ⟨gb327, 1, none⟩ = some (.int .i64 0) := (blk_cell BK327.out 1).trans rfl; have hfz13_0 := blk_frozen BK327.out 0; have hfz13_1 := blk_frozen BK327.out 1))
  refine bodyPost_ret (results_cell_row rfl _ _ gb327 36 #[.int .i64 a0_6, .int .i64 a0_7] (0, 0) _ rfl (by (with_reducible repeat (first | refine blk_drewN ?_ _ | refine blk_drew ?_ | refine blk_alloc ?_ _)); refine blk_put (cs := #[.int .i64 a0_6, .int .i64 0]) ?_ 1 _ rfl; (with_reducible repeat (first | refine blk_drewN ?_ _ | refine blk_drew ?_ | refine blk_alloc ?_ _)); refine blk_put (cs := #[.int .i64 0, .int .i64 0]) ?_ 0 _ rfl; (with_reducible repeat (first | refine blk_drewN ?_ _ | refine blk_drew ?_ | refine blk_alloc ?_ _)); exact BK327.out) Try.underlying36 rfl (by kernel_rfl)) rfl ?_
  exact ⟨by first | rfl | (simp [errW_none, errW_some] <;> rfl) | (simp [*, errW_none, errW_some] <;> rfl), bl2 HB.out GE326.out GE327.out⟩
 replace c2 := Bool.eq_false_iff.mpr c2
 subst c2
 rw [if_neg (show ¬ (false = true) by decide)] at H
 simp only [Option.some.injEq, Prod.mk.injEq] at H
 obtain ⟨rfl, rfl⟩ := H
 go_enter Try.func69, Try.ntmps69
 go_wp2_with (first | ((with_reducible refine gate_dst (N := 1) rfl ?_); refine be 1 (#[.int .i64 a0_0, .bool false, .int .i64 a0_2, .int .i64 a0_3, .int .i64 a0_4, .int .i64 a0_5, .int .i64 a0_6, .int .i64 a0_7]) 38 ?_; intro gb326 hg w14 hbox hb; have BK326 := Aside0.mk (hbox); have GW326 := Aside0.mk (gz (w := w) hg (bl0 HB.out)); have GE326 := GW326; replace HB := Aside0.mk (below_step (bl0 HB.out) hb); clear hb hbox hg) | ((with_reducible refine gate_dst (N := 2) rfl ?_); refine be 2 (#[.int .i64 0, .int .i64 0]) 36 ?_; intro gb327 hg w15 hbox hb; have BK327 := Aside0.mk (hbox); have GW327 := Aside0.mk (gz (w := w) hg (bl1 HB.out GE326.out)); have GE327 := GW327; have NB326_327 := Aside0.mk (nl hg BK326.out); have NB327_326 := Aside0.mk (nr hg BK326.out); replace BK326 := Aside0.mk (bb BK326.out hb); replace HB := Aside0.mk (below_step (bl1 HB.out GE326.out) hb); clear hb hbox hg; have hnb16 := NB326_327.out; have hnc16 := NB327_326.out; have hcz17_0 : w15.cell? ⟨gb326, 0, none⟩ = some (.int .i64 a0_0) := (blk_cell BK326.out 0).trans rfl; have hcz17_1 : w15.cell? ⟨gb326, 1, none⟩ = some (.bool false) := (blk_cell BK326.out 1).trans rfl; have hcz17_2 : w15.cell? ⟨gb326, 2, none⟩ = some (.int .i64 a0_2) := (blk_cell BK326.out 2).trans rfl; have hcz17_3 : w15.cell? ⟨gb326, 3, none⟩ = some (.int .i64 a0_3) := (blk_cell BK326.out 3).trans rfl; have hcz17_4 : w15.cell? ⟨gb326, 4, none⟩ = some (.int .i64 a0_4) := (blk_cell BK326.out 4).trans rfl; have hcz17_5 : w15.cell? ⟨gb326, 5, none⟩ = some (.int .i64 a0_5) := (blk_cell BK326.out 5).trans rfl; have hcz17_6 : w15.cell? ⟨gb326, 6, none⟩ = some (.int .i64 a0_6) := (blk_cell BK326.out 6).trans rfl; have hcz17_7 : w15.cell? ⟨gb326, 7, none⟩ = some (.int .i64 a0_7) := (blk_cell BK326.out 7).trans rfl; have hfz17_0 := blk_frozen BK326.out 0; have hfz17_1 := blk_frozen BK326.out 1; have hfz17_2 := blk_frozen BK326.out 2; have hfz17_3 := blk_frozen BK326.out 3; have hfz17_4 := blk_frozen BK326.out 4; have hfz17_5 := blk_frozen BK326.out 5; have hfz17_6 := blk_frozen BK326.out 6; have hfz17_7 := blk_frozen BK326.out 7; have hcz18_0 : w15.cell? ⟨gb327, 0, none⟩ = some (.int .i64 0) := (blk_cell BK327.out 0).trans rfl; have hcz18_1 : w15.cell? ⟨gb327, 1, none⟩ = some (.int .i64 0) := (blk_cell BK327.out 1).trans rfl; have hfz18_0 := blk_frozen BK327.out 0; have hfz18_1 := blk_frozen BK327.out 1))
 refine bodyPost_ret (results_cell_row rfl _ _ gb327 36 #[.int .i64 a0_6, .int .i64 a0_7] (0, 0) _ rfl (by (with_reducible repeat (first | refine blk_drewN ?_ _ | refine blk_drew ?_ | refine blk_alloc ?_ _)); refine blk_put (cs := #[.int .i64 a0_6, .int .i64 0]) ?_ 1 _ rfl; (with_reducible repeat (first | refine blk_drewN ?_ _ | refine blk_drew ?_ | refine blk_alloc ?_ _)); refine blk_put (cs := #[.int .i64 0, .int .i64 0]) ?_ 0 _ rfl; (with_reducible repeat (first | refine blk_drewN ?_ _ | refine blk_drew ?_ | refine blk_alloc ?_ _)); exact BK327.out) Try.underlying36 rfl (by kernel_rfl)) rfl ?_
 exact ⟨by first | rfl | (simp [errW_none, errW_some] <;> rfl) | (simp [*, errW_none, errW_some] <;> rfl), bl2 HB.out GE326.out GE327.out⟩

/-! ### pochoirref22_First: function 28 -/
def pochoirref22_First.f (a0_0 : Int) (a0_1 : Bool) (a0_2 : Int) (a0_3 : Int) (a0_4 : Int) (a0_5 : Int) (a0_6 : Int) (a0_7 : Int) : Option (Int × Int) := (pochoirref20_Next.f a0_0 a0_1 a0_2 a0_3 a0_4 a0_5 a0_6 a0_7).bind fun bt330 => ((pochoirref22_way.f a0_2 a0_3 bt330.1 bt330.2).bind fun bt332 => (some (bt332.1, bt332.2)))
set_option maxHeartbeats 8000000 in
set_option maxRecDepth 100000 in
theorem pochoirref22_First.calls (a0_0 : Int) (a0_1 : Bool) (a0_2 : Int) (a0_3 : Int) (a0_4 : Int) (a0_5 : Int) (a0_6 : Int) (a0_7 : Int) (r1 : Int) (r2 : Int) (w : World) (h : pochoirref22_First.f a0_0 a0_1 a0_2 a0_3 a0_4 a0_5 a0_6 a0_7 = some (r1, r2)) :
  Calls Try.prog 28 #[.agg #[.int .i64 a0_0, .bool a0_1, .int .i64 a0_2, .int .i64 a0_3, .int .i64 a0_4, .int .i64 a0_5, .int .i64 a0_6, .int .i64 a0_7]] w fun e w' => e = .returned (.agg #[.int .i64 r1, .int .i64 r2]) ∧ Below w.heap.size w w' := by
 have hu38 := Try.underlying38
 have hu36 := Try.underlying36
 have HB := Aside0.mk (Below.refl w.heap.size w)
 have H := h
 clear h; unfold pochoirref22_First.f at H
 replace H := Option.bind_eq_some_iff.mp H
 obtain ⟨⟨t330, t331⟩, A20, H⟩ := H
 replace H : ((pochoirref22_way.f a0_2 a0_3 t330 t331).bind fun bt332 => (some (bt332.1, bt332.2))) = some (r1, r2) := H
 have A2 := Aside0.mk A20
 clear A20
 replace H := Option.bind_eq_some_iff.mp H
 obtain ⟨⟨t332, t333⟩, A30, H⟩ := H
 replace H : (some (t332, t333)) = some (r1, r2) := H
 have A3 := Aside0.mk A30
 clear A30
 simp only [Option.some.injEq, Prod.mk.injEq] at H
 obtain ⟨rfl, rfl⟩ := H
 go_enter Try.func28, Try.ntmps28
 try go_wp2_with (first | ((with_reducible refine gate_dst (N := 1) rfl ?_); refine be 1 (#[.int .i64 a0_0, .bool a0_1, .int .i64 a0_2, .int .i64 a0_3, .int .i64 a0_4, .int .i64 a0_5, .int .i64 a0_6, .int .i64 a0_7]) 38 ?_; intro gb328 hg w4 hbox hb; have BK328 := Aside0.mk (hbox); have GW328 := Aside0.mk (gz (w := w) hg (bl0 HB.out)); have GE328 := GW328; replace HB := Aside0.mk (below_step (bl0 HB.out) hb); clear hb hbox hg) | ((with_reducible refine gate_dst (N := 2) rfl ?_); refine be 2 (#[.int .i64 0, .int .i64 0]) 36 ?_; intro gb329 hg w5 hbox hb; have BK329 := Aside0.mk (hbox); have GW329 := Aside0.mk (gz (w := w) hg (bl1 HB.out GE328.out)); have GE329 := GW329; have NB328_329 := Aside0.mk (nl hg BK328.out); have NB329_328 := Aside0.mk (nr hg BK328.out); replace BK328 := Aside0.mk (bb BK328.out hb); replace HB := Aside0.mk (below_step (bl1 HB.out GE328.out) hb); clear hb hbox hg))
 replace BK328 := Aside0.mk (blk_drew BK328.out)
 replace BK329 := Aside0.mk (blk_drew BK329.out)
 replace HB := Aside0.mk (below_drew1 HB.out)
 refine start_ (n := 6) (S := fun w' => w'.cell? ⟨gb328, 0, none⟩ = some (.int .i64 a0_0) ∧ w'.cell? ⟨gb328, 1, none⟩ = some (.bool a0_1) ∧ w'.cell? ⟨gb328, 2, none⟩ = some (.int .i64 a0_2) ∧ w'.cell? ⟨gb328, 3, none⟩ = some (.int .i64 a0_3) ∧ w'.cell? ⟨gb328, 4, none⟩ = some (.int .i64 a0_4) ∧ w'.cell? ⟨gb328, 5, none⟩ = some (.int .i64 a0_5) ∧ w'.cell? ⟨gb328, 6, none⟩ = some (.int .i64 a0_6) ∧ w'.cell? ⟨gb328, 7, none⟩ = some (.int .i64 a0_7)) (ds := []) (ba 6 0) (by kernel_rfl) rfl rfl ⟨(blk_cell BK328.out 0).trans rfl, (blk_cell BK328.out 1).trans rfl, (blk_cell BK328.out 2).trans rfl, (blk_cell BK328.out 3).trans rfl, (blk_cell BK328.out 4).trans rfl, (blk_cell BK328.out 5).trans rfl, (blk_cell BK328.out 6).trans rfl, (blk_cell BK328.out 7).trans rfl⟩ (fun hHeld => ?_)
 generalize w5.drew = w6 at BK328 BK329 HB hHeld ⊢
 refine pure_ (i := 0) (N := some 3) (v := ?_) (a' := ?_) (ba 6 1) rfl rfl (by kernel_rfl) (fun _ _ _ h => h) (Or.inl ⟨by rfl, ?_⟩) ?_ ?_
 rotate_left
 ·intro w'
  go_simp
  with_reducible rfl
 rotate_left
 ·exact pa
 refine take_ (i := 1) (N := some 4) (v := ?_) (a' := ?_) (ba 6 3) rfl rfl (by kernel_rfl) (fun _ _ _ h => h) (Or.inl ⟨by rfl, ?_⟩) hHeld ?_ ?_
 rotate_left
 ·rintro w' ⟨s0, s1, s2, s3, s4, s5, s6, s7⟩
  go_simp
  with_reducible rfl
 rotate_left
 ·exact pa
 refine take_ (i := 2) (N := some 5) (v := ?_) (a' := ?_) (ba 6 7) rfl rfl (by kernel_rfl) (fun _ _ _ h => h) (Or.inl ⟨by rfl, ?_⟩) hHeld ?_ ?_
 rotate_left
 ·rintro w' ⟨s0, s1, s2, s3, s4, s5, s6, s7⟩
  go_simp
  with_reducible rfl
 rotate_left
 ·exact pa
 refine one_ (i := 3) (N := some 6) (ba 6 15) rfl rfl (by kernel_rfl) (by decide) (fun K hK => ?_)
 refine goes_ Try.func69 (by kernel_rfl) rfl #[.agg #[.int .i64 a0_0, .bool a0_1, .int .i64 a0_2, .int .i64 a0_3, .int .i64 a0_4, .int .i64 a0_5, .int .i64 a0_6, .int .i64 a0_7]] (by rfl) rfl rfl am ?_
 with_reducible refine (pochoirref20_Next.calls a0_0 a0_1 a0_2 a0_3 a0_4 a0_5 a0_6 a0_7 t330 t331 _ A2.out).mono ?_
 rintro e w7 ⟨rfl, hb⟩
 refine ⟨_, rfl, ?_⟩
 replace BK328 := Aside0.mk (bb BK328.out hb)
 replace BK329 := Aside0.mk (bb BK329.out hb)
 replace HB := Aside0.mk (below_step (bl2 HB.out GE328.out GE329.out) hb)
 (try clear hb)
 (try clear hb2)
 (try clear hk)
 (try clear hi)
 refine hK.out _ _ ⟨(blk_cell BK328.out 0).trans rfl, (blk_cell BK328.out 1).trans rfl, (blk_cell BK328.out 2).trans rfl, (blk_cell BK328.out 3).trans rfl, (blk_cell BK328.out 4).trans rfl, (blk_cell BK328.out 5).trans rfl, (blk_cell BK328.out 6).trans rfl, (blk_cell BK328.out 7).trans rfl⟩ (fun hHeld => ?_)
 clear hK K
 refine np 6 ?_
 refine one_ (i := 4) (N := some 7) (ba 6 31) rfl rfl (by kernel_rfl) (by decide) (fun K hK => ?_)
 refine goes_ Try.func68 (by kernel_rfl) rfl #[.agg #[.int .i64 a0_2, .int .i64 a0_3], .agg #[.int .i64 t330, .int .i64 t331]] (by rfl) rfl rfl am ?_
 with_reducible refine (pochoirref22_way.calls a0_2 a0_3 t330 t331 t332 t333 _ A3.out).mono ?_
 rintro e w8 ⟨rfl, hb⟩
 refine ⟨_, rfl, ?_⟩
 replace BK328 := Aside0.mk (bb BK328.out hb)
 replace BK329 := Aside0.mk (bb BK329.out hb)
 replace HB := Aside0.mk (below_step (bl2 HB.out GE328.out GE329.out) hb)
 (try clear hb)
 (try clear hb2)
 (try clear hk)
 (try clear hi)
 refine hK.out _ _ ⟨(blk_cell BK328.out 0).trans rfl, (blk_cell BK328.out 1).trans rfl, (blk_cell BK328.out 2).trans rfl, (blk_cell BK328.out 3).trans rfl, (blk_cell BK328.out 4).trans rfl, (blk_cell BK328.out 5).trans rfl, (blk_cell BK328.out 6).trans rfl, (blk_cell BK328.out 7).trans rfl⟩ (fun hHeld => ?_)
 clear hK K
 refine np 7 ?_
 refine one_ (i := 5) (N := none) (ba 6 63) rfl rfl (by kernel_rfl) (by decide) (fun K hK => ?_)
 have hs9 : w8.cell? ⟨gb329, 0, none⟩ = some (.int .i64 0) := (blk_cell BK329.out 0).trans rfl
 have hfs9 := blk_frozen BK329.out 0
 have hns9_0 := NB328_329.out
 have hms9_0 := NB329_328.out
 have hs10 : w8.cell? ⟨gb329, 1, none⟩ = some (.int .i64 0) := (blk_cell BK329.out 1).trans rfl
 have hfs10 := blk_frozen BK329.out 1
 have hns10_0 := NB328_329.out
 have hms10_0 := NB329_328.out
 refine skip_ (w1 := ?_) (by rfl) rfl ?_ ?_
 rotate_left
 ·go_simp
  rfl
 refine hK.out _ _ ⟨((cell_far (p := ⟨gb329, _, none⟩) NB328_329.out _).trans (((cell_far (p := ⟨gb329, _, none⟩) NB328_329.out _).trans (hHeld.1)))), ((cell_far (p := ⟨gb329, _, none⟩) NB328_329.out _).trans (((cell_far (p := ⟨gb329, _, none⟩) NB328_329.out _).trans (hHeld.2.1)))), ((cell_far (p := ⟨gb329, _, none⟩) NB328_329.out _).trans (((cell_far (p := ⟨gb329, _, none⟩) NB328_329.out _).trans (hHeld.2.2.1)))), ((cell_far (p := ⟨gb329, _, none⟩) NB328_329.out _).trans (((cell_far (p := ⟨gb329, _, none⟩) NB328_329.out _).trans (hHeld.2.2.2.1)))), ((cell_far (p := ⟨gb329, _, none⟩) NB328_329.out _).trans (((cell_far (p := ⟨gb329, _, none⟩) NB328_329.out _).trans (hHeld.2.2.2.2.1)))), ((cell_far (p := ⟨gb329, _, none⟩) NB328_329.out _).trans (((cell_far (p := ⟨gb329, _, none⟩) NB328_329.out _).trans (hHeld.2.2.2.2.2.1)))), ((cell_far (p := ⟨gb329, _, none⟩) NB328_329.out _).trans (((cell_far (p := ⟨gb329, _, none⟩) NB328_329.out _).trans (hHeld.2.2.2.2.2.2.1)))), ((cell_far (p := ⟨gb329, _, none⟩) NB328_329.out _).trans (((cell_far (p := ⟨gb329, _, none⟩) NB328_329.out _).trans (hHeld.2.2.2.2.2.2.2))))⟩ (fun hHeld => ?_)
 clear hK K
 refine done_ (by kernel_rfl) ?_
 try go_wp2
 refine bodyPost_ret (results_cell_row rfl _ _ gb329 36 #[.int .i64 t332, .int .i64 t333] (0, 0) _ rfl (by (with_reducible repeat (first | refine blk_drewN ?_ _ | refine blk_drew ?_ | refine blk_alloc ?_ _)); refine blk_put (cs := #[.int .i64 t332, .int .i64 0]) ?_ 1 _ rfl; (with_reducible repeat (first | refine blk_drewN ?_ _ | refine blk_drew ?_ | refine blk_alloc ?_ _)); refine blk_put (cs := #[.int .i64 0, .int .i64 0]) ?_ 0 _ rfl; (with_reducible repeat (first | refine blk_drewN ?_ _ | refine blk_drew ?_ | refine blk_alloc ?_ _)); exact BK329.out) Try.underlying36 rfl (by kernel_rfl)) rfl ?_
 exact ⟨by first | rfl | (simp [errW_none, errW_some] <;> rfl) | (simp [*, errW_none, errW_some] <;> rfl), bl2 HB.out GE328.out GE329.out⟩

/-! ### pochoirref20_Ahead: function 70 -/
def pochoirref20_Ahead.f (a0_0 : Int) (a0_1 : Bool) (a0_2 : Int) (a0_3 : Int) (a0_4 : Int) (a0_5 : Int) (a0_6 : Int) (a0_7 : Int) : Option (Int × Int) := if a0_1 = true then (if (!(a0_4 == a0_6) || (!(a0_5 == a0_7))) = true then (some (a0_4, a0_5)) else (some (a0_2, a0_3))) else (some (a0_2, a0_3))
set_option maxHeartbeats 8000000 in
set_option maxRecDepth 100000 in
theorem pochoirref20_Ahead.calls (a0_0 : Int) (a0_1 : Bool) (a0_2 : Int) (a0_3 : Int) (a0_4 : Int) (a0_5 : Int) (a0_6 : Int) (a0_7 : Int) (r1 : Int) (r2 : Int) (w : World) (h : pochoirref20_Ahead.f a0_0 a0_1 a0_2 a0_3 a0_4 a0_5 a0_6 a0_7 = some (r1, r2)) :
  Calls Try.prog 70 #[.agg #[.int .i64 a0_0, .bool a0_1, .int .i64 a0_2, .int .i64 a0_3, .int .i64 a0_4, .int .i64 a0_5, .int .i64 a0_6, .int .i64 a0_7]] w fun e w' => e = .returned (.agg #[.int .i64 r1, .int .i64 r2]) ∧ Below w.heap.size w w' := by
 have hu38 := Try.underlying38
 have hu36 := Try.underlying36
 have HB := Aside0.mk (Below.refl w.heap.size w)
 have H := h
 clear h; unfold pochoirref20_Ahead.f at H
 by_cases c2 : a0_1 = true
 ·subst c2
  rw [if_pos rfl] at H
  by_cases c3 : (!(a0_4 == a0_6) || (!(a0_5 == a0_7))) = true
  ·rw [if_pos c3] at H
   have c3b0 : (!(a0_4 == a0_6) || (!(a0_5 == a0_7))) = true := c3
   clear c3
   simp only [Option.some.injEq, Prod.mk.injEq] at H
   obtain ⟨rfl, rfl⟩ := H
   go_enter Try.func70, Try.ntmps70
   go_wp2_with (first | ((with_reducible refine gate_dst (N := 1) rfl ?_); refine be 1 (#[.int .i64 a0_0, .bool true, .int .i64 a0_2, .int .i64 a0_3, .int .i64 a0_4, .int .i64 a0_5, .int .i64 a0_6, .int .i64 a0_7]) 38 ?_; intro gb334 hg w4 hbox hb; have BK334 := Aside0.mk (hbox); have GW334 := Aside0.mk (gz (w := w) hg (bl0 HB.out)); have GE334 := GW334; replace HB := Aside0.mk (below_step (bl0 HB.out) hb); clear hb hbox hg) | ((with_reducible refine gate_dst (N := 2) rfl ?_); refine be 2 (#[.int .i64 0, .int .i64 0]) 36 ?_; intro gb335 hg w5 hbox hb; have BK335 := Aside0.mk (hbox); have GW335 := Aside0.mk (gz (w := w) hg (bl1 HB.out GE334.out)); have GE335 := GW335; have NB334_335 := Aside0.mk (nl hg BK334.out); have NB335_334 := Aside0.mk (nr hg BK334.out); replace BK334 := Aside0.mk (bb BK334.out hb); replace HB := Aside0.mk (below_step (bl1 HB.out GE334.out) hb); clear hb hbox hg; have hnb6 := NB334_335.out; have hnc6 := NB335_334.out; have hcz7_0 : w5.cell? ⟨gb334, 0, none⟩ = some (.int .i64 a0_0) := (blk_cell BK334.out 0).trans rfl; have hcz7_1 : w5.cell? ⟨gb334, 1, none⟩ = some (.bool true) := (blk_cell BK334.out 1).trans rfl; have hcz7_2 : w5.cell? ⟨gb334, 2, none⟩ = some (.int .i64 a0_2) := (blk_cell BK334.out 2).trans rfl; have hcz7_3 : w5.cell? ⟨gb334, 3, none⟩ = some (.int .i64 a0_3) := (blk_cell BK334.out 3).trans rfl; have hcz7_4 : w5.cell? ⟨gb334, 4, none⟩ = some (.int .i64 a0_4) := (blk_cell BK334.out 4).trans rfl; have hcz7_5 : w5.cell? ⟨gb334, 5, none⟩ = some (.int .i64 a0_5) := (blk_cell BK334.out 5).trans rfl; have hcz7_6 : w5.cell? ⟨gb334, 6, none⟩ = some (.int .i64 a0_6) := (blk_cell BK334.out 6).trans rfl; have hcz7_7 : w5.cell? ⟨gb334, 7, none⟩ = some (.int .i64 a0_7) := (blk_cell BK334.out 7).trans rfl; have hfz7_0 := blk_frozen BK334.out 0; have hfz7_1 := blk_frozen BK334.out 1; have hfz7_2 := blk_frozen BK334.out 2; have hfz7_3 := blk_frozen BK334.out 3; have hfz7_4 := blk_frozen BK334.out 4; have hfz7_5 := blk_frozen BK334.out 5; have hfz7_6 := blk_frozen BK334.out 6; have hfz7_7 := blk_frozen BK334.out 7; have hcz8_0 : w5.cell? ⟨gb335, 0, none⟩ = some (.int .i64 0) := (blk_cell BK335.out 0).trans rfl; have hcz8_1 : w5.cell? ⟨gb335, 1, none⟩ = some (.int .i64 0) := (blk_cell BK335.out 1).trans rfl; have hfz8_0 := blk_frozen BK335.out 0; have hfz8_1 := blk_frozen BK335.out 1))
   refine bodyPost_ret (results_cell_row rfl _ _ gb335 36 #[.int .i64 a0_4, .int .i64 a0_5] (0, 0) _ rfl (by (with_reducible repeat (first | refine blk_drewN ?_ _ | refine blk_drew ?_ | refine blk_alloc ?_ _)); refine blk_put (cs := #[.int .i64 a0_4, .int .i64 0]) ?_ 1 _ rfl; (with_reducible repeat (first | refine blk_drewN ?_ _ | refine blk_drew ?_ | refine blk_alloc ?_ _)); refine blk_put (cs := #[.int .i64 0, .int .i64 0]) ?_ 0 _ rfl; (with_reducible repeat (first | refine blk_drewN ?_ _ | refine blk_drew ?_ | refine blk_alloc ?_ _)); exact BK335.out) Try.underlying36 rfl (by kernel_rfl)) rfl ?_
   exact ⟨by first | rfl | (simp [errW_none, errW_some] <;> rfl) | (simp [*, errW_none, errW_some] <;> rfl), bl2 HB.out GE334.out GE335.out⟩
  rw [if_neg c3] at H
  have c3b0 : (!(a0_4 == a0_6) || (!(a0_5 == a0_7))) = false := by simpa using c3
  clear c3
  simp only [Option.some.injEq, Prod.mk.injEq] at H
  obtain ⟨rfl, rfl⟩ := H
  go_enter Try.func70, Try.ntmps70
  go_wp2_with (first | ((with_reducible refine gate_dst (N := 1) rfl ?_); refine be 1 (#[.int .i64 a0_0, .bool true, .int .i64 a0_2, .int .i64 a0_3, .int .i64 a0_4, .int .i64 a0_5, .int .i64 a0_6, .int .i64 a0_7]) 38 ?_; intro gb334 hg w9 hbox hb; have BK334 := Aside0.mk (hbox); have GW334 := Aside0.mk (gz (w := w) hg (bl0 HB.out)); have GE334 := GW334; replace HB := Aside0.mk (below_step (bl0 HB.out) hb); clear hb hbox hg) | ((with_reducible refine gate_dst (N := 2) rfl ?_); refine be 2 (#[.int .i64 0, .int .i64 0]) 36 ?_; intro gb335 hg w10 hbox hb; have BK335 := Aside0.mk (hbox); have GW335 := Aside0.mk (gz (w := w) hg (bl1 HB.out GE334.out)); have GE335 := GW335; have NB334_335 := Aside0.mk (nl hg BK334.out); have NB335_334 := Aside0.mk (nr hg BK334.out); replace BK334 := Aside0.mk (bb BK334.out hb); replace HB := Aside0.mk (below_step (bl1 HB.out GE334.out) hb); clear hb hbox hg; have hnb11 := NB334_335.out; have hnc11 := NB335_334.out; have hcz12_0 : w10.cell? ⟨gb334, 0, none⟩ = some (.int .i64 a0_0) := (blk_cell BK334.out 0).trans rfl; have hcz12_1 : w10.cell? ⟨gb334, 1, none⟩ = some (.bool true) := (blk_cell BK334.out 1).trans rfl; have hcz12_2 : w10.cell? ⟨gb334, 2, none⟩ = some (.int .i64 a0_2) := (blk_cell BK334.out 2).trans rfl; have hcz12_3 : w10.cell? ⟨gb334, 3, none⟩ = some (.int .i64 a0_3) := (blk_cell BK334.out 3).trans rfl; have hcz12_4 : w10.cell? ⟨gb334, 4, none⟩ = some (.int .i64 a0_4) := (blk_cell BK334.out 4).trans rfl; have hcz12_5 : w10.cell? ⟨gb334, 5, none⟩ = some (.int .i64 a0_5) := (blk_cell BK334.out 5).trans rfl; have hcz12_6 : w10.cell? ⟨gb334, 6, none⟩ = some (.int .i64 a0_6) := (blk_cell BK334.out 6).trans rfl; have hcz12_7 : w10.cell? ⟨gb334, 7, none⟩ = some (.int .i64 a0_7) := (blk_cell BK334.out 7).trans rfl; have hfz12_0 := blk_frozen BK334.out 0; have hfz12_1 := blk_frozen BK334.out 1; have hfz12_2 := blk_frozen BK334.out 2; have hfz12_3 := blk_frozen BK334.out 3; have hfz12_4 := blk_frozen BK334.out 4; have hfz12_5 := blk_frozen BK334.out 5; have hfz12_6 := blk_frozen BK334.out 6; have hfz12_7 := blk_frozen BK334.out 7; have hcz13_0 : w10.cell? ⟨gb335, 0, none⟩ = some (.int .i64 0) := (blk_cell BK335.out 0).trans rfl; have hcz13_1 : w10.cell? ⟨gb335, 1, none⟩ = some (.int .i64 0) := (blk_cell BK335.out 1).trans rfl; have hfz13_0 := blk_frozen BK335.out 0; have hfz13_1 := blk_frozen BK335.out 1))
  refine bodyPost_ret (results_cell_row rfl _ _ gb335 36 #[.int .i64 a0_2, .int .i64 a0_3] (0, 0) _ rfl (by (with_reducible repeat (first | refine blk_drewN ?_ _ | refine blk_drew ?_ | refine blk_alloc ?_ _)); refine blk_put (cs := #[.int .i64 a0_2, .int .i64 0]) ?_ 1 _ rfl; (with_reducible repeat (first | refine blk_drewN ?_ _ | refine blk_drew ?_ | refine blk_alloc ?_ _)); refine blk_put (cs := #[.int .i64 0, .int .i64 0]) ?_ 0 _ rfl; (with_reducible repeat (first | refine blk_drewN ?_ _ | refine blk_drew ?_ | refine blk_alloc ?_ _)); exact BK335.out) Try.underlying36 rfl (by kernel_rfl)) rfl ?_
  exact ⟨by first | rfl | (simp [errW_none, errW_some] <;> rfl) | (simp [*, errW_none, errW_some] <;> rfl), bl2 HB.out GE334.out GE335.out⟩
 replace c2 := Bool.eq_false_iff.mpr c2
 subst c2
 rw [if_neg (show ¬ (false = true) by decide)] at H
 simp only [Option.some.injEq, Prod.mk.injEq] at H
 obtain ⟨rfl, rfl⟩ := H
 go_enter Try.func70, Try.ntmps70
 go_wp2_with (first | ((with_reducible refine gate_dst (N := 1) rfl ?_); refine be 1 (#[.int .i64 a0_0, .bool false, .int .i64 a0_2, .int .i64 a0_3, .int .i64 a0_4, .int .i64 a0_5, .int .i64 a0_6, .int .i64 a0_7]) 38 ?_; intro gb334 hg w14 hbox hb; have BK334 := Aside0.mk (hbox); have GW334 := Aside0.mk (gz (w := w) hg (bl0 HB.out)); have GE334 := GW334; replace HB := Aside0.mk (below_step (bl0 HB.out) hb); clear hb hbox hg) | ((with_reducible refine gate_dst (N := 2) rfl ?_); refine be 2 (#[.int .i64 0, .int .i64 0]) 36 ?_; intro gb335 hg w15 hbox hb; have BK335 := Aside0.mk (hbox); have GW335 := Aside0.mk (gz (w := w) hg (bl1 HB.out GE334.out)); have GE335 := GW335; have NB334_335 := Aside0.mk (nl hg BK334.out); have NB335_334 := Aside0.mk (nr hg BK334.out); replace BK334 := Aside0.mk (bb BK334.out hb); replace HB := Aside0.mk (below_step (bl1 HB.out GE334.out) hb); clear hb hbox hg; have hnb16 := NB334_335.out; have hnc16 := NB335_334.out; have hcz17_0 : w15.cell? ⟨gb334, 0, none⟩ = some (.int .i64 a0_0) := (blk_cell BK334.out 0).trans rfl; have hcz17_1 : w15.cell? ⟨gb334, 1, none⟩ = some (.bool false) := (blk_cell BK334.out 1).trans rfl; have hcz17_2 : w15.cell? ⟨gb334, 2, none⟩ = some (.int .i64 a0_2) := (blk_cell BK334.out 2).trans rfl; have hcz17_3 : w15.cell? ⟨gb334, 3, none⟩ = some (.int .i64 a0_3) := (blk_cell BK334.out 3).trans rfl; have hcz17_4 : w15.cell? ⟨gb334, 4, none⟩ = some (.int .i64 a0_4) := (blk_cell BK334.out 4).trans rfl; have hcz17_5 : w15.cell? ⟨gb334, 5, none⟩ = some (.int .i64 a0_5) := (blk_cell BK334.out 5).trans rfl; have hcz17_6 : w15.cell? ⟨gb334, 6, none⟩ = some (.int .i64 a0_6) := (blk_cell BK334.out 6).trans rfl; have hcz17_7 : w15.cell? ⟨gb334, 7, none⟩ = some (.int .i64 a0_7) := (blk_cell BK334.out 7).trans rfl; have hfz17_0 := blk_frozen BK334.out 0; have hfz17_1 := blk_frozen BK334.out 1; have hfz17_2 := blk_frozen BK334.out 2; have hfz17_3 := blk_frozen BK334.out 3; have hfz17_4 := blk_frozen BK334.out 4; have hfz17_5 := blk_frozen BK334.out 5; have hfz17_6 := blk_frozen BK334.out 6; have hfz17_7 := blk_frozen BK334.out 7; have hcz18_0 : w15.cell? ⟨gb335, 0, none⟩ = some (.int .i64 0) := (blk_cell BK335.out 0).trans rfl; have hcz18_1 : w15.cell? ⟨gb335, 1, none⟩ = some (.int .i64 0) := (blk_cell BK335.out 1).trans rfl; have hfz18_0 := blk_frozen BK335.out 0; have hfz18_1 := blk_frozen BK335.out 1))
 refine bodyPost_ret (results_cell_row rfl _ _ gb335 36 #[.int .i64 a0_2, .int .i64 a0_3] (0, 0) _ rfl (by (with_reducible repeat (first | refine blk_drewN ?_ _ | refine blk_drew ?_ | refine blk_alloc ?_ _)); refine blk_put (cs := #[.int .i64 a0_2, .int .i64 0]) ?_ 1 _ rfl; (with_reducible repeat (first | refine blk_drewN ?_ _ | refine blk_drew ?_ | refine blk_alloc ?_ _)); refine blk_put (cs := #[.int .i64 0, .int .i64 0]) ?_ 0 _ rfl; (with_reducible repeat (first | refine blk_drewN ?_ _ | refine blk_drew ?_ | refine blk_alloc ?_ _)); exact BK335.out) Try.underlying36 rfl (by kernel_rfl)) rfl ?_
 exact ⟨by first | rfl | (simp [errW_none, errW_some] <;> rfl) | (simp [*, errW_none, errW_some] <;> rfl), bl2 HB.out GE334.out GE335.out⟩

/-! ### pochoirref22_Last: function 29 -/
def pochoirref22_Last.f (a0_0 : Int) (a0_1 : Bool) (a0_2 : Int) (a0_3 : Int) (a0_4 : Int) (a0_5 : Int) (a0_6 : Int) (a0_7 : Int) : Option (Int × Int) := (pochoirref20_Ahead.f a0_0 a0_1 a0_2 a0_3 a0_4 a0_5 a0_6 a0_7).bind fun bt338 => ((pochoirref22_way.f bt338.1 bt338.2 a0_6 a0_7).bind fun bt340 => (some (bt340.1, bt340.2)))
set_option maxHeartbeats 8000000 in
set_option maxRecDepth 100000 in
theorem pochoirref22_Last.calls (a0_0 : Int) (a0_1 : Bool) (a0_2 : Int) (a0_3 : Int) (a0_4 : Int) (a0_5 : Int) (a0_6 : Int) (a0_7 : Int) (r1 : Int) (r2 : Int) (w : World) (h : pochoirref22_Last.f a0_0 a0_1 a0_2 a0_3 a0_4 a0_5 a0_6 a0_7 = some (r1, r2)) :
  Calls Try.prog 29 #[.agg #[.int .i64 a0_0, .bool a0_1, .int .i64 a0_2, .int .i64 a0_3, .int .i64 a0_4, .int .i64 a0_5, .int .i64 a0_6, .int .i64 a0_7]] w fun e w' => e = .returned (.agg #[.int .i64 r1, .int .i64 r2]) ∧ Below w.heap.size w w' := by
 have hu38 := Try.underlying38
 have hu36 := Try.underlying36
 have HB := Aside0.mk (Below.refl w.heap.size w)
 have H := h
 clear h; unfold pochoirref22_Last.f at H
 replace H := Option.bind_eq_some_iff.mp H
 obtain ⟨⟨t338, t339⟩, A20, H⟩ := H
 replace H : ((pochoirref22_way.f t338 t339 a0_6 a0_7).bind fun bt340 => (some (bt340.1, bt340.2))) = some (r1, r2) := H
 have A2 := Aside0.mk A20
 clear A20
 replace H := Option.bind_eq_some_iff.mp H
 obtain ⟨⟨t340, t341⟩, A30, H⟩ := H
 replace H : (some (t340, t341)) = some (r1, r2) := H
 have A3 := Aside0.mk A30
 clear A30
 simp only [Option.some.injEq, Prod.mk.injEq] at H
 obtain ⟨rfl, rfl⟩ := H
 go_enter Try.func29, Try.ntmps29
 try go_wp2_with (first | ((with_reducible refine gate_dst (N := 1) rfl ?_); refine be 1 (#[.int .i64 a0_0, .bool a0_1, .int .i64 a0_2, .int .i64 a0_3, .int .i64 a0_4, .int .i64 a0_5, .int .i64 a0_6, .int .i64 a0_7]) 38 ?_; intro gb336 hg w4 hbox hb; have BK336 := Aside0.mk (hbox); have GW336 := Aside0.mk (gz (w := w) hg (bl0 HB.out)); have GE336 := GW336; replace HB := Aside0.mk (below_step (bl0 HB.out) hb); clear hb hbox hg) | ((with_reducible refine gate_dst (N := 2) rfl ?_); refine be 2 (#[.int .i64 0, .int .i64 0]) 36 ?_; intro gb337 hg w5 hbox hb; have BK337 := Aside0.mk (hbox); have GW337 := Aside0.mk (gz (w := w) hg (bl1 HB.out GE336.out)); have GE337 := GW337; have NB336_337 := Aside0.mk (nl hg BK336.out); have NB337_336 := Aside0.mk (nr hg BK336.out); replace BK336 := Aside0.mk (bb BK336.out hb); replace HB := Aside0.mk (below_step (bl1 HB.out GE336.out) hb); clear hb hbox hg))
 replace BK336 := Aside0.mk (blk_drew BK336.out)
 replace BK337 := Aside0.mk (blk_drew BK337.out)
 replace HB := Aside0.mk (below_drew1 HB.out)
 refine start_ (n := 6) (S := fun w' => w'.cell? ⟨gb336, 0, none⟩ = some (.int .i64 a0_0) ∧ w'.cell? ⟨gb336, 1, none⟩ = some (.bool a0_1) ∧ w'.cell? ⟨gb336, 2, none⟩ = some (.int .i64 a0_2) ∧ w'.cell? ⟨gb336, 3, none⟩ = some (.int .i64 a0_3) ∧ w'.cell? ⟨gb336, 4, none⟩ = some (.int .i64 a0_4) ∧ w'.cell? ⟨gb336, 5, none⟩ = some (.int .i64 a0_5) ∧ w'.cell? ⟨gb336, 6, none⟩ = some (.int .i64 a0_6) ∧ w'.cell? ⟨gb336, 7, none⟩ = some (.int .i64 a0_7)) (ds := []) (ba 6 0) (by kernel_rfl) rfl rfl ⟨(blk_cell BK336.out 0).trans rfl, (blk_cell BK336.out 1).trans rfl, (blk_cell BK336.out 2).trans rfl, (blk_cell BK336.out 3).trans rfl, (blk_cell BK336.out 4).trans rfl, (blk_cell BK336.out 5).trans rfl, (blk_cell BK336.out 6).trans rfl, (blk_cell BK336.out 7).trans rfl⟩ (fun hHeld => ?_)
 generalize w5.drew = w6 at BK336 BK337 HB hHeld ⊢
 refine pure_ (i := 2) (N := some 5) (v := ?_) (a' := ?_) (ba 6 4) rfl rfl (by kernel_rfl) (fun _ _ _ h => h) (Or.inl ⟨by rfl, ?_⟩) ?_ ?_
 rotate_left
 ·intro w'
  go_simp
  with_reducible rfl
 rotate_left
 ·exact pa
 refine take_ (i := 0) (N := some 3) (v := ?_) (a' := ?_) (ba 6 5) rfl rfl (by kernel_rfl) (fun _ _ _ h => h) (Or.inl ⟨by rfl, ?_⟩) hHeld ?_ ?_
 rotate_left
 ·rintro w' ⟨s0, s1, s2, s3, s4, s5, s6, s7⟩
  go_simp
  with_reducible rfl
 rotate_left
 ·exact pa
 refine take_ (i := 3) (N := some 6) (v := ?_) (a' := ?_) (ba 6 13) rfl rfl (by kernel_rfl) (fun _ _ _ h => h) (Or.inl ⟨by rfl, ?_⟩) hHeld ?_ ?_
 rotate_left
 ·rintro w' ⟨s0, s1, s2, s3, s4, s5, s6, s7⟩
  go_simp
  with_reducible rfl
 rotate_left
 ·exact pa
 refine one_ (i := 1) (N := some 4) (ba 6 15) rfl rfl (by kernel_rfl) (by decide) (fun K hK => ?_)
 refine goes_ Try.func70 (by kernel_rfl) rfl #[.agg #[.int .i64 a0_0, .bool a0_1, .int .i64 a0_2, .int .i64 a0_3, .int .i64 a0_4, .int .i64 a0_5, .int .i64 a0_6, .int .i64 a0_7]] (by rfl) rfl rfl am ?_
 with_reducible refine (pochoirref20_Ahead.calls a0_0 a0_1 a0_2 a0_3 a0_4 a0_5 a0_6 a0_7 t338 t339 _ A2.out).mono ?_
 rintro e w7 ⟨rfl, hb⟩
 refine ⟨_, rfl, ?_⟩
 replace BK336 := Aside0.mk (bb BK336.out hb)
 replace BK337 := Aside0.mk (bb BK337.out hb)
 replace HB := Aside0.mk (below_step (bl2 HB.out GE336.out GE337.out) hb)
 (try clear hb)
 (try clear hb2)
 (try clear hk)
 (try clear hi)
 refine hK.out _ _ ⟨(blk_cell BK336.out 0).trans rfl, (blk_cell BK336.out 1).trans rfl, (blk_cell BK336.out 2).trans rfl, (blk_cell BK336.out 3).trans rfl, (blk_cell BK336.out 4).trans rfl, (blk_cell BK336.out 5).trans rfl, (blk_cell BK336.out 6).trans rfl, (blk_cell BK336.out 7).trans rfl⟩ (fun hHeld => ?_)
 clear hK K
 refine np 4 ?_
 refine one_ (i := 4) (N := some 7) (ba 6 31) rfl rfl (by kernel_rfl) (by decide) (fun K hK => ?_)
 refine goes_ Try.func68 (by kernel_rfl) rfl #[.agg #[.int .i64 t338, .int .i64 t339], .agg #[.int .i64 a0_6, .int .i64 a0_7]] (by rfl) rfl rfl am ?_
 with_reducible refine (pochoirref22_way.calls t338 t339 a0_6 a0_7 t340 t341 _ A3.out).mono ?_
 rintro e w8 ⟨rfl, hb⟩
 refine ⟨_, rfl, ?_⟩
 replace BK336 := Aside0.mk (bb BK336.out hb)
 replace BK337 := Aside0.mk (bb BK337.out hb)
 replace HB := Aside0.mk (below_step (bl2 HB.out GE336.out GE337.out) hb)
 (try clear hb)
 (try clear hb2)
 (try clear hk)
 (try clear hi)
 refine hK.out _ _ ⟨(blk_cell BK336.out 0).trans rfl, (blk_cell BK336.out 1).trans rfl, (blk_cell BK336.out 2).trans rfl, (blk_cell BK336.out 3).trans rfl, (blk_cell BK336.out 4).trans rfl, (blk_cell BK336.out 5).trans rfl, (blk_cell BK336.out 6).trans rfl, (blk_cell BK336.out 7).trans rfl⟩ (fun hHeld => ?_)
 clear hK K
 refine np 7 ?_
 refine one_ (i := 5) (N := none) (ba 6 63) rfl rfl (by kernel_rfl) (by decide) (fun K hK => ?_)
 have hs9 : w8.cell? ⟨gb337, 0, none⟩ = some (.int .i64 0) := (blk_cell BK337.out 0).trans rfl
 have hfs9 := blk_frozen BK337.out 0
 have hns9_0 := NB336_337.out
 have hms9_0 := NB337_336.out
 have hs10 : w8.cell? ⟨gb337, 1, none⟩ = some (.int .i64 0) := (blk_cell BK337.out 1).trans rfl
 have hfs10 := blk_frozen BK337.out 1
 have hns10_0 := NB336_337.out
 have hms10_0 := NB337_336.out
 refine skip_ (w1 := ?_) (by rfl) rfl ?_ ?_
 rotate_left
 ·go_simp
  rfl
 refine hK.out _ _ ⟨((cell_far (p := ⟨gb337, _, none⟩) NB336_337.out _).trans (((cell_far (p := ⟨gb337, _, none⟩) NB336_337.out _).trans (hHeld.1)))), ((cell_far (p := ⟨gb337, _, none⟩) NB336_337.out _).trans (((cell_far (p := ⟨gb337, _, none⟩) NB336_337.out _).trans (hHeld.2.1)))), ((cell_far (p := ⟨gb337, _, none⟩) NB336_337.out _).trans (((cell_far (p := ⟨gb337, _, none⟩) NB336_337.out _).trans (hHeld.2.2.1)))), ((cell_far (p := ⟨gb337, _, none⟩) NB336_337.out _).trans (((cell_far (p := ⟨gb337, _, none⟩) NB336_337.out _).trans (hHeld.2.2.2.1)))), ((cell_far (p := ⟨gb337, _, none⟩) NB336_337.out _).trans (((cell_far (p := ⟨gb337, _, none⟩) NB336_337.out _).trans (hHeld.2.2.2.2.1)))), ((cell_far (p := ⟨gb337, _, none⟩) NB336_337.out _).trans (((cell_far (p := ⟨gb337, _, none⟩) NB336_337.out _).trans (hHeld.2.2.2.2.2.1)))), ((cell_far (p := ⟨gb337, _, none⟩) NB336_337.out _).trans (((cell_far (p := ⟨gb337, _, none⟩) NB336_337.out _).trans (hHeld.2.2.2.2.2.2.1)))), ((cell_far (p := ⟨gb337, _, none⟩) NB336_337.out _).trans (((cell_far (p := ⟨gb337, _, none⟩) NB336_337.out _).trans (hHeld.2.2.2.2.2.2.2))))⟩ (fun hHeld => ?_)
 clear hK K
 refine done_ (by kernel_rfl) ?_
 try go_wp2
 refine bodyPost_ret (results_cell_row rfl _ _ gb337 36 #[.int .i64 t340, .int .i64 t341] (0, 0) _ rfl (by (with_reducible repeat (first | refine blk_drewN ?_ _ | refine blk_drew ?_ | refine blk_alloc ?_ _)); refine blk_put (cs := #[.int .i64 t340, .int .i64 0]) ?_ 1 _ rfl; (with_reducible repeat (first | refine blk_drewN ?_ _ | refine blk_drew ?_ | refine blk_alloc ?_ _)); refine blk_put (cs := #[.int .i64 0, .int .i64 0]) ?_ 0 _ rfl; (with_reducible repeat (first | refine blk_drewN ?_ _ | refine blk_drew ?_ | refine blk_alloc ?_ _)); exact BK337.out) Try.underlying36 rfl (by kernel_rfl)) rfl ?_
 exact ⟨by first | rfl | (simp [errW_none, errW_some] <;> rfl) | (simp [*, errW_none, errW_some] <;> rfl), bl2 HB.out GE336.out GE337.out⟩

/-! ### pochoirref01_Digits: function 103 -/
mutual
def pochoirref01_Digits.l0 : Nat → List Int → Int → Int → Int → Option (List Int)
 | 0, _, _, _, _ => none
 | k + 1, x3, x4, x343000, x343001 => if x4 < 4 then (if 0 ≤ (wrap64 (16 * x4)) then (if x3.length < 17592186044416 then (pochoirref01_Digits.l0 k (x3 ++ [Int.tmod (shr .u64 x343001 (wrap64 (16 * x4))) 65536]) (wrap64 (x4 + 1)) x343000 x343001) else (none)) else (none)) else (pochoirref01_Digits.l1 k x3 0 x343000 x343001)
def pochoirref01_Digits.l1 : Nat → List Int → Int → Int → Int → Option (List Int)
 | 0, _, _, _, _ => none
 | k + 1, x3, x5, x343000, x343001 => if x5 < 4 then (if 0 ≤ (wrap64 (16 * x5)) then (if x3.length < 17592186044416 then (pochoirref01_Digits.l1 k (x3 ++ [Int.tmod (shr .u64 x343000 (wrap64 (16 * x5))) 65536]) (wrap64 (x5 + 1)) x343000 x343001) else (none)) else (none)) else (some x3)
end
def pochoirref01_Digits.f (k : Nat) (a0_0 : Int) (a0_1 : Int) : Option (List Int) := pochoirref01_Digits.l0 k ([] : List Int) 0 a0_0 a0_1
theorem pochoirref01_Digits.mono_l : ∀ k, (∀ y0 y1 y2 y3, LeO (pochoirref01_Digits.l0 k y0 y1 y2 y3) (pochoirref01_Digits.l0 (k + 1) y0 y1 y2 y3)) ∧ (∀ y0 y1 y2 y3, LeO (pochoirref01_Digits.l1 k y0 y1 y2 y3) (pochoirref01_Digits.l1 (k + 1) y0 y1 y2 y3))
 | 0 => ⟨fun _ _ _ _ r h => by simp [pochoirref01_Digits.l0] at h, fun _ _ _ _ r h => by simp [pochoirref01_Digits.l1] at h⟩
 | k + 1 => by
  obtain ⟨ih0, ih1⟩ := pochoirref01_Digits.mono_l k
  refine ⟨?_, ?_⟩
  ·intro y0 y1 y2 y3
   unfold pochoirref01_Digits.l0
   repeat' first | (with_reducible first | exact ih0 _ _ _ _ | exact ih1 _ _ _ _ | exact LeO.refl _ | exact LeO.none _ | refine LeO.ite ?_ ?_ | refine LeO.bind ?_ (fun _ => ?_)) | exact ih0 _ _ _ _ | exact ih1 _ _ _ _ | exact LeO.none _ | refine LeO.ite ?_ ?_ | refine LeO.bind ?_ (fun _ => ?_)
  ·intro y0 y1 y2 y3
   unfold pochoirref01_Digits.l1
   repeat' first | (with_reducible first | exact ih0 _ _ _ _ | exact ih1 _ _ _ _ | exact LeO.refl _ | exact LeO.none _ | refine LeO.ite ?_ ?_ | refine LeO.bind ?_ (fun _ => ?_)) | exact ih0 _ _ _ _ | exact ih1 _ _ _ _ | exact LeO.none _ | refine LeO.ite ?_ ?_ | refine LeO.bind ?_ (fun _ => ?_)
theorem pochoirref01_Digits.mono : ∀ a0 a1 k, LeO (pochoirref01_Digits.f k a0 a1) (pochoirref01_Digits.f (k + 1) a0 a1) := by
 intro a0 a1 k
 obtain ⟨ih0, ih1⟩ := pochoirref01_Digits.mono_l k
 unfold pochoirref01_Digits.f
 repeat' first | (with_reducible first | exact ih0 _ _ _ _ | exact ih1 _ _ _ _ | exact LeO.refl _ | exact LeO.none _ | refine LeO.ite ?_ ?_ | refine LeO.bind ?_ (fun _ => ?_)) | exact ih0 _ _ _ _ | exact ih1 _ _ _ _ | exact LeO.none _ | refine LeO.ite ?_ ?_ | refine LeO.bind ?_ (fun _ => ?_)
set_option maxHeartbeats 8000000 in
set_option maxRecDepth 100000 in
theorem pochoirref01_Digits.calls (k : Nat) (a0_0 : Int) (a0_1 : Int) (r : List Int) (w : World) (h : pochoirref01_Digits.f k a0_0 a0_1 = some r) :
  Calls Try.prog 103 #[.agg #[.int .u64 a0_0, .int .u64 a0_1]] w fun e w' => ∃ v0_ : Value, e = .returned (v0_) ∧ Kd.R (Kd.int .u64) 104 w' w.heap.size (fun _ => True) v0_ r ∧ Below w.heap.size w w' := by
 have hu112 := Try.underlying112
 have HB := Aside0.mk (Below.refl w.heap.size w)
 have H := h
 clear h; unfold pochoirref01_Digits.f at H
 have H' := Aside0.mk H
 clear H
 go_enter Try.func103, Try.ntmps103
 go_wp2_with (first | ((with_reducible refine gate_dst (N := 1) rfl ?_); refine be 1 (#[.int .u64 a0_0, .int .u64 a0_1]) 112 ?_; intro gb342 hg w2 hbox hb; have BK342 := Aside0.mk (hbox); have GW342 := Aside0.mk (gz (w := w) hg (bl0 HB.out)); have GE342 := GW342; replace HB := Aside0.mk (below_step (bl0 HB.out) hb); clear hb hbox hg))
 go_loopg [3, 4] k (fun kq v3 v4 w' => ∃ (x3_1 : List Int) (x4_1 : Int), v4 = .int .i64 x4_1 ∧ Aside0 (pochoirref01_Digits.l0 kq x3_1 x4_1 a0_0 a0_1 = some r) ∧ Aside0 (kq ≤ k) ∧ Aside0 (Kd.R (Kd.int .u64) 104 w' w.heap.size (fun _ => True) v3 x3_1) ∧ Aside0 (w'.heap[gb342]? = some (.cells #[.int .u64 a0_0, .int .u64 a0_1] 112 (0, 0))) ∧ Aside0 (Below w.heap.size w w'))
 case atStart => exact ⟨(([] : List Int)), (0), fr, H', ⟨Nat.le_refl _⟩, ⟨by first | exact Kd.R_nil _ _ _ _ _ | exact Kd.N_nil _ _ _ _ _ | exact Kd.V_nil _ _ _ _ _ | exact Kd.Q_nil _ _ _ _ _ | exact Kd.S_nil _ _ _ _ _⟩, ⟨bk BK342.out⟩, ⟨bl1 HB.out GE342.out⟩⟩
 case round =>
  clear H'
  try clear c1
  try clear p2
  obtain ⟨x3_1, x4_1, rfl, HA, HK1, HO_3, BK342, HB⟩ := hrel
  cases gk with
  | zero => exact absurd HA.out (by simp [pochoirref01_Digits.l0])
  | succ k1 =>
   have H := HA.out
   clear HA
   simp only [pochoirref01_Digits.l0] at H
   by_cases c3 : x4_1 < 4
   ·rw [if_pos c3] at H
    have c3b0 := decide_eq_true c3
    clear c3
    obtain ⟨ji4, hji4⟩ : ∃ j_ : Int, (wrap64 (16 * x4_1)) = j_ := ⟨_, rfl⟩
    replace H : (if 0 ≤ (ji4) then (if x3_1.length < 17592186044416 then (pochoirref01_Digits.l0 k1 (x3_1 ++ [Int.tmod (shr .u64 a0_1 (ji4)) 65536]) (wrap64 (x4_1 + 1)) a0_0 a0_1) else (none)) else (none)) = some r := by first | (rw [hji4] at H; exact H) | (simp only [hji4] at H ⊢; exact H)
    have hji4w : (IntKind.i64.wrap (16 * x4_1)) = ji4 := (i64_w _).trans hji4
    refine ifk H ?_; clear H; intro c5 H
    have c5b0 := eq_true c5
    have c5b1 : decide (0 ≤ (ji4)) = true := decide_eq_true c5
    clear c5
    obtain ⟨ji6, hji6⟩ : ∃ j_ : Int, (shr .u64 a0_1 (ji4)) = j_ := ⟨_, rfl⟩
    replace H : (if x3_1.length < 17592186044416 then (pochoirref01_Digits.l0 k1 (x3_1 ++ [Int.tmod (ji6) 65536]) (wrap64 (x4_1 + 1)) a0_0 a0_1) else (none)) = some r := by first | (rw [hji6] at H; exact H) | (simp only [hji6] at H ⊢; exact H)
    have hji6_ : (a0_1 / 2 ^ min (ji4).toNat 64) = ji6 := hji6
    have hji6z : (ji4) ≤ 64 → (a0_1 / 2 ^ (ji4).toNat) = ji6 := shr_small hji6
    refine ifk H ?_; clear H; intro c7 H
    have LMc7 := Aside0.mk c7
    clear c7
    obtain ⟨y343, hy343⟩ : ∃ y_ : List Int, y_ = (x3_1 ++ [Int.tmod (ji6) 65536]) := ⟨_, rfl⟩
    replace H : (pochoirref01_Digits.l0 k1 y343 (wrap64 (x4_1 + 1)) a0_0 a0_1) = some r := by (try rw [hy343]); first | with_reducible exact H | (have H2_ := (Option.bind_some _ _).symm.trans H; with_reducible exact H2_) | exact H
    have Ny343 := Aside0.mk hy343
    clear hy343
    have H' := Aside0.mk H
    clear H
    have hcz8_0 : wr.cell? ⟨gb342, 0, none⟩ = some (.int .u64 a0_0) := (blk_cell BK342.out 0).trans rfl
    have hcz8_1 : wr.cell? ⟨gb342, 1, none⟩ = some (.int .u64 a0_1) := (blk_cell BK342.out 1).trans rfl
    have hfz8_0 := blk_frozen BK342.out 0
    have hfz8_1 := blk_frozen BK342.out 1
    go_wp2_with (first | ((with_reducible refine gate_builtin (b := .append) (xs := #[.tmp 10, .tmp 17]) rfl ?_); at_builtin; refine Kd.R_append (Kd.int .u64) (w0 := w) w.heap.size rfl (.tmp 10) (.tmp 17) 69 104 (.int .u64 0) 8 rfl Try.underlying69 info104 rfl (by decide) (by omega) u3 x3_1 (Int.tmod (ji6) 65536) [.int .u64 (Int.tmod (ji6) 65536)] (fun _ => True) (fun _ => False) rfl rfl ?aP (fun _ hk => hk.elim) ?aF ?aO ?aB ?aS ?aL ?_; (case aP => exact rfl); (case aB => exact (bl1 HB.out GE342.out)); (case aF => exact (fun _ _ => trivial)); (case aO => exact (kr HO_3.out)); (case aS => exact (below_size (bl1 HB.out GE342.out))); (case aL => have := LMc7.out; omega); intro v344 w9 ho hb hg hat; rw [← Ny343.out] at ho; have HO345 := Aside0.mk (ho); replace BK342 := Aside0.mk (blk_grown (g := gb342) (o := .cells #[.int .u64 a0_0, .int .u64 a0_1] 112 (0, 0)) (bk BK342.out) hg (Kd.R_ne HO_3.out BK342.out (by decide))); replace HB := Aside0.mk (hb); clear HO_3 ho hb hg hat))
    go_roundg k1
    case measure => have := HK1.out; omega
    case rel => exact ⟨(y343), (wrap64 (x4_1 + 1)), fr, H', ⟨by have := HK1.out; omega⟩, ⟨kr HO345.out⟩, ⟨bk BK342.out⟩, ⟨bl1 HB.out GE342.out⟩⟩
   rw [if_neg c3] at H
   have c3b0 := decide_eq_false c3
   clear c3
   have H' := Aside0.mk H
   clear H
   go_wp2
   go_loopg [3, 5] k1 (fun kq v3 v5 w' => ∃ (x3_2 : List Int) (x5_2 : Int), v5 = .int .i64 x5_2 ∧ Aside0 (pochoirref01_Digits.l1 kq x3_2 x5_2 a0_0 a0_1 = some r) ∧ Aside0 (kq ≤ k1) ∧ Aside0 (Kd.R (Kd.int .u64) 104 w' w.heap.size (fun _ => True) v3 x3_2) ∧ Aside0 (w'.heap[gb342]? = some (.cells #[.int .u64 a0_0, .int .u64 a0_1] 112 (0, 0))) ∧ Aside0 (Below w.heap.size w w'))
   case atStart => exact ⟨(x3_1), (0), fr, H', ⟨Nat.le_refl _⟩, ⟨kr HO_3.out⟩, ⟨bk BK342.out⟩, ⟨bl1 HB.out GE342.out⟩⟩
   case round =>
    clear H'
    try clear c1
    try clear p2
    try clear c3b0
    try clear c5b0
    try clear c5b1
    try clear p6
    try clear hcz8_0
    try clear hcz8_1
    try clear hfz8_0
    try clear hfz8_1
    try clear p2
    obtain ⟨x3_2, x5_2, rfl, HA, HK2, HO_3, BK342, HB⟩ := hrel
    cases gk with
    | zero => exact absurd HA.out (by simp [pochoirref01_Digits.l1])
    | succ k2 =>
     have H := HA.out
     clear HA
     simp only [pochoirref01_Digits.l1] at H
     by_cases c10 : x5_2 < 4
     ·rw [if_pos c10] at H
      have c10b0 := decide_eq_true c10
      clear c10
      obtain ⟨ji11, hji11⟩ : ∃ j_ : Int, (wrap64 (16 * x5_2)) = j_ := ⟨_, rfl⟩
      replace H : (if 0 ≤ (ji11) then (if x3_2.length < 17592186044416 then (pochoirref01_Digits.l1 k2 (x3_2 ++ [Int.tmod (shr .u64 a0_0 (ji11)) 65536]) (wrap64 (x5_2 + 1)) a0_0 a0_1) else (none)) else (none)) = some r := by first | (rw [hji11] at H; exact H) | (simp only [hji11] at H ⊢; exact H)
      have hji11w : (IntKind.i64.wrap (16 * x5_2)) = ji11 := (i64_w _).trans hji11
      refine ifk H ?_; clear H; intro c12 H
      have c12b0 := eq_true c12
      have c12b1 : decide (0 ≤ (ji11)) = true := decide_eq_true c12
      clear c12
      obtain ⟨ji13, hji13⟩ : ∃ j_ : Int, (shr .u64 a0_0 (ji11)) = j_ := ⟨_, rfl⟩
      replace H : (if x3_2.length < 17592186044416 then (pochoirref01_Digits.l1 k2 (x3_2 ++ [Int.tmod (ji13) 65536]) (wrap64 (x5_2 + 1)) a0_0 a0_1) else (none)) = some r := by first | (rw [hji13] at H; exact H) | (simp only [hji13] at H ⊢; exact H)
      have hji13_ : (a0_0 / 2 ^ min (ji11).toNat 64) = ji13 := hji13
      have hji13z : (ji11) ≤ 64 → (a0_0 / 2 ^ (ji11).toNat) = ji13 := shr_small hji13
      refine ifk H ?_; clear H; intro c14 H
      have LMc14 := Aside0.mk c14
      clear c14
      obtain ⟨y346, hy346⟩ : ∃ y_ : List Int, y_ = (x3_2 ++ [Int.tmod (ji13) 65536]) := ⟨_, rfl⟩
      replace H : (pochoirref01_Digits.l1 k2 y346 (wrap64 (x5_2 + 1)) a0_0 a0_1) = some r := by (try rw [hy346]); first | with_reducible exact H | (have H2_ := (Option.bind_some _ _).symm.trans H; with_reducible exact H2_) | exact H
      have Ny346 := Aside0.mk hy346
      clear hy346
      have H' := Aside0.mk H
      clear H
      have hcz15_0 : wr.cell? ⟨gb342, 0, none⟩ = some (.int .u64 a0_0) := (blk_cell BK342.out 0).trans rfl
      have hcz15_1 : wr.cell? ⟨gb342, 1, none⟩ = some (.int .u64 a0_1) := (blk_cell BK342.out 1).trans rfl
      have hfz15_0 := blk_frozen BK342.out 0
      have hfz15_1 := blk_frozen BK342.out 1
      go_wp2_with (first | ((with_reducible refine gate_builtin (b := .append) (xs := #[.tmp 23, .tmp 30]) rfl ?_); at_builtin; refine Kd.R_append (Kd.int .u64) (w0 := w) w.heap.size rfl (.tmp 23) (.tmp 30) 69 104 (.int .u64 0) 8 rfl Try.underlying69 info104 rfl (by decide) (by omega) u3 x3_2 (Int.tmod (ji13) 65536) [.int .u64 (Int.tmod (ji13) 65536)] (fun _ => True) (fun _ => False) rfl rfl ?aP (fun _ hk => hk.elim) ?aF ?aO ?aB ?aS ?aL ?_; (case aP => exact rfl); (case aB => exact (bl1 HB.out GE342.out)); (case aF => exact (fun _ _ => trivial)); (case aO => exact (kr HO_3.out)); (case aS => exact (below_size (bl1 HB.out GE342.out))); (case aL => have := LMc14.out; omega); intro v347 w16 ho hb hg hat; rw [← Ny346.out] at ho; have HO348 := Aside0.mk (ho); replace BK342 := Aside0.mk (blk_grown (g := gb342) (o := .cells #[.int .u64 a0_0, .int .u64 a0_1] 112 (0, 0)) (bk BK342.out) hg (Kd.R_ne HO_3.out BK342.out (by decide))); replace HB := Aside0.mk (hb); clear HO_3 ho hb hg hat))
      go_roundg k2
      case measure => have := HK1.out; have := HK2.out; omega
      case rel => exact ⟨(y346), (wrap64 (x5_2 + 1)), fr, H', ⟨by have := HK1.out; have := HK2.out; omega⟩, ⟨kr HO348.out⟩, ⟨bk BK342.out⟩, ⟨bl1 HB.out GE342.out⟩⟩
     rw [if_neg c10] at H
     have c10b0 := decide_eq_false c10
     clear c10
     obtain rfl := Option.some.inj H
     go_wp2
     go_ret
     exact ⟨_, by first | rfl | (simp [errW_none, errW_some] <;> rfl) | (simp [*, errW_none, errW_some] <;> rfl), kr HO_3.out, bl1 HB.out GE342.out⟩

/-! ### pochoirref22_digits: function 71 -/
def pochoirref22_digits.f (k : Nat) (a0 : Int) : Option (List Int) := if a0 < 0 then ((pochoirref01_Digits.f k 0 (IntKind.u64.wrap (wrap64 (-a0)))).bind fun t349 => (some t349)) else ((pochoirref01_Digits.f k 0 (IntKind.u64.wrap (a0))).bind fun t352 => (some t352))
theorem pochoirref22_digits.mono : ∀ a0 k, LeO (pochoirref22_digits.f k a0) (pochoirref22_digits.f (k + 1) a0) := by
 intro a0 k
 unfold pochoirref22_digits.f
 repeat' first | (with_reducible first | exact pochoirref01_Digits.mono _ _ _ | exact LeO.refl _ | exact LeO.none _ | refine LeO.ite ?_ ?_ | refine LeO.bind ?_ (fun _ => ?_)) | exact pochoirref01_Digits.mono _ _ _ | exact LeO.none _ | refine LeO.ite ?_ ?_ | refine LeO.bind ?_ (fun _ => ?_)
set_option maxHeartbeats 8000000 in
set_option maxRecDepth 100000 in
theorem pochoirref22_digits.calls (k : Nat) (a0 : Int) (r : List Int) (w : World) (h : pochoirref22_digits.f k a0 = some r) :
  Calls Try.prog 71 #[.int .i64 a0] w fun e w' => ∃ v0_ : Value, e = .returned (v0_) ∧ Kd.R (Kd.int .u64) 104 w' w.heap.size (fun _ => True) v0_ r ∧ Below w.heap.size w w' := by
 have hu112 := Try.underlying112
 have HB := Aside0.mk (Below.refl w.heap.size w)
 have H := h
 clear h; unfold pochoirref22_digits.f at H
 by_cases c2 : a0 < 0
 ·rw [if_pos c2] at H
  have c2b0 := decide_eq_true c2
  clear c2
  replace H := Option.bind_eq_some_iff.mp H
  obtain ⟨t349, A30, H⟩ := H
  replace H : (some t349) = some r := H
  have A3 := Aside0.mk A30
  clear A30
  obtain rfl := Option.some.inj H
  go_enter Try.func71, Try.ntmps71
  go_wp2_with (first | ((with_reducible refine gate_callee (f := 103) rfl ?_); refine goesL_ (some 10) rfl rfl Try.func103 (by kernel_rfl) rfl #[.agg #[.int .u64 0, .int .u64 (IntKind.u64.wrap (wrap64 (-a0)))]] rfl am ?_; (with_reducible refine (pochoirref01_Digits.calls k 0 (IntKind.u64.wrap (wrap64 (-a0))) t349 _ A3.out).mono ?_); rintro e w4 ⟨v350, rfl, ho0, hb⟩; refine ⟨_, rfl, ?_⟩; have HO351 := Aside0.mk (Kd.R_lower ho0 (below_size (bl0 HB.out))); replace HB := Aside0.mk (below_step (bl0 HB.out) hb); (try clear hb); (try clear ho0)))
  go_ret
  exact ⟨_, by first | rfl | (simp [errW_none, errW_some] <;> rfl) | (simp [*, errW_none, errW_some] <;> rfl), kr HO351.out, bl0 HB.out⟩
 rw [if_neg c2] at H
 have c2b0 := decide_eq_false c2
 clear c2
 replace H := Option.bind_eq_some_iff.mp H
 obtain ⟨t352, A50, H⟩ := H
 replace H : (some t352) = some r := H
 have A5 := Aside0.mk A50
 clear A50
 obtain rfl := Option.some.inj H
 go_enter Try.func71, Try.ntmps71
 go_wp2_with (first | ((with_reducible refine gate_callee (f := 103) rfl ?_); refine goesL_ (some 10) rfl rfl Try.func103 (by kernel_rfl) rfl #[.agg #[.int .u64 0, .int .u64 (IntKind.u64.wrap (a0))]] rfl am ?_; (with_reducible refine (pochoirref01_Digits.calls k 0 (IntKind.u64.wrap (a0)) t352 _ A5.out).mono ?_); rintro e w6 ⟨v353, rfl, ho0, hb⟩; refine ⟨_, rfl, ?_⟩; have HO354 := Aside0.mk (Kd.R_lower ho0 (below_size (bl0 HB.out))); replace HB := Aside0.mk (below_step (bl0 HB.out) hb); (try clear hb); (try clear ho0)))
 go_ret
 exact ⟨_, by first | rfl | (simp [errW_none, errW_some] <;> rfl) | (simp [*, errW_none, errW_some] <;> rfl), kr HO354.out, bl0 HB.out⟩

/-! ### pochoirref01_at: function 104 -/
def pochoirref01_at.f (l0 : List Int) (a1 : Int) : Option (Int) := if a1 < (l0.length : Int) then (if 0 ≤ a1 then (some (rd l0 a1)) else (none)) else (some 0)
set_option maxHeartbeats 8000000 in
set_option maxRecDepth 100000 in
theorem pochoirref01_at.calls (A0 : Option Addr) (c0 : Nat) (l0 : List Int) (a1 : Int) (r : Int) (w : World) (hr0 : Kd.C (Kd.int .u64) w A0 l0.length l0) (hc0 : l0.length ≤ c0) (h : pochoirref01_at.f l0 a1 = some r) :
  Calls Try.prog 104 #[.slice A0 l0.length c0, .int .i64 a1] w fun e w' => e = .returned (.int .u64 r) ∧ Drawn0 w w' := by
 have HR0 := Aside0.mk hr0
 have HC0 := Aside0.mk hc0
 clear hr0 hc0
 have H := h
 clear h; unfold pochoirref01_at.f at H
 by_cases c3 : a1 < (l0.length : Int)
 ·rw [if_pos c3] at H
  have c3b0 := decide_eq_true c3
  clear c3
  refine ifk H ?_; clear H; intro c4 H
  have c4b0 := decide_eq_true c4
  clear c4
  obtain rfl := Option.some.inj H
  have p355 : 0 ≤ (a1 : Int) := od
  have q355 : a1 < (l0.length : Int) := od
  obtain ⟨ad355, e355, hx355_0⟩ := Kd.at_int HR0.out a1 p355 q355
  cases e355
  replace p355 := eq_true p355
  replace q355 := eq_true q355
  go_enter Try.func104, Try.ntmps104
  go_wp2
  go_ret
  exact ⟨fr, dr⟩
 rw [if_neg c3] at H
 have c3b0 := decide_eq_false c3
 clear c3
 obtain rfl := Option.some.inj H
 go_enter Try.func104, Try.ntmps104
 go_wp2
 go_ret
 exact ⟨fr, dr⟩

end Go.Proofs.Ytalgppclaolonaa.XColr
