-- Printed by a program of this claim. Not trusted: Lean checks it.
import Derived.Test.YtemhnlameekmkaaXLinex0
import Derived.Test.YtemhnlameekmkaaXLinex2
import Derived.Test.YtemhnlameekmkaaXLinex3
import Derived.Test.YtemhnlameekmkaaXLinex4
namespace Go.Proofs.Ytemhnlameekmkaa.XLine
open Go.RowKit Go.Proofs.YtemhnlameekmkaaW.PrintWords Go.Proofs.YtemhnlameekmkaaW.PrintLast Go.Proofs.YtemhnlameekmkaaW.PrintMore
attribute [local go_sem] max2_int min2_int max_two min_two max_three min_three max_four min_four   -- for this text's walks alone
set_option linter.unusedVariables false
set_option linter.unusedSimpArgs false
open XOpen

attribute [local go_sem high] eqA49
/-! ### line_digits_atMost: function 81 -/
def line_digits_atMost.f (a0_0 : Int) (a0_1 : Int) (a0_2 : Int) (a1_0 : Int) (a1_1 : Int) (a1_2 : Int) : Option (Bool) := if a0_2 = a1_2 then (if a0_1 = a1_1 then (if a0_0 = a1_0 then (some true) else (some (decide (a0_0 < a1_0)))) else (some (decide (a0_1 < a1_1)))) else (some (decide (a0_2 < a1_2)))
set_option maxHeartbeats 8000000 in
set_option maxRecDepth 100000 in
theorem line_digits_atMost.calls (a0_0 : Int) (a0_1 : Int) (a0_2 : Int) (a1_0 : Int) (a1_1 : Int) (a1_2 : Int) (r : Bool) (w : World) (h : line_digits_atMost.f a0_0 a0_1 a0_2 a1_0 a1_1 a1_2 = some r) :
  Calls Try.prog 81 #[.agg #[.int .u64 a0_0, .int .u64 a0_1, .int .u64 a0_2], .agg #[.int .u64 a1_0, .int .u64 a1_1, .int .u64 a1_2]] w fun e w' => e = .returned (.bool r) ∧ Below w.heap.size w w' := by
 have hu102 := Try.underlying102
 have HB := Aside0.mk (Below.refl w.heap.size w)
 have H : (if a0_2 = a1_2 then (if a0_1 = a1_1 then (if a0_0 = a1_0 then (some true) else (some (decide (a0_0 < a1_0)))) else (some (decide (a0_1 < a1_1)))) else (some (decide (a0_2 < a1_2)))) = some r := h
 clear h
 go_enter Try.func81, Try.ntmps81
 go_wp2_with (first | ((with_reducible refine gate_dst (N := 2) rfl ?_); refine be 2 (#[.int .u64 a0_0, .int .u64 a0_1, .int .u64 a0_2]) 102 ?_; intro gb127 hg w3 hbox hb; have BK127 := Aside0.mk (hbox); have GW127 := Aside0.mk ((by rw [hg]; exact (below_size (bl0 HB.out)) : w.heap.size ≤ gb127)); have GE127 := GW127; replace HB := Aside0.mk (below_step (bl0 HB.out) hb); clear hb hbox hg) | ((with_reducible refine gate_dst (N := 3) rfl ?_); refine be 3 (#[.int .u64 a1_0, .int .u64 a1_1, .int .u64 a1_2]) 102 ?_; intro gb128 hg w4 hbox hb; have BK128 := Aside0.mk (hbox); have GW128 := Aside0.mk ((by rw [hg]; exact (below_size (bl1 HB.out GE127.out)) : w.heap.size ≤ gb128)); have GE128 := GW128; have NB127_128 := Aside0.mk ((by rw [hg]; exact Nat.ne_of_lt (lt_ BK127.out) : gb127 ≠ gb128)); have NB128_127 := Aside0.mk ((by rw [hg]; exact Nat.ne_of_gt (lt_ BK127.out) : gb128 ≠ gb127)); replace BK127 := Aside0.mk (bb BK127.out hb); replace HB := Aside0.mk (below_step (bl1 HB.out GE127.out) hb); clear hb hbox hg))
 repeat (go_quiet (first | ((with_reducible refine gate_dst (N := 2) rfl ?_); refine be 2 (#[.int .u64 a0_0, .int .u64 a0_1, .int .u64 a0_2]) 102 ?_; intro gb127 hg w3 hbox hb; have BK127 := Aside0.mk (hbox); have GW127 := Aside0.mk ((by rw [hg]; exact (below_size (bl0 HB.out)) : w.heap.size ≤ gb127)); have GE127 := GW127; replace HB := Aside0.mk (below_step (bl0 HB.out) hb); clear hb hbox hg) | ((with_reducible refine gate_dst (N := 3) rfl ?_); refine be 3 (#[.int .u64 a1_0, .int .u64 a1_1, .int .u64 a1_2]) 102 ?_; intro gb128 hg w4 hbox hb; have BK128 := Aside0.mk (hbox); have GW128 := Aside0.mk ((by rw [hg]; exact (below_size (bl1 HB.out GE127.out)) : w.heap.size ≤ gb128)); have GE128 := GW128; have NB127_128 := Aside0.mk ((by rw [hg]; exact Nat.ne_of_lt (lt_ BK127.out) : gb127 ≠ gb128)); have NB128_127 := Aside0.mk ((by rw [hg]; exact Nat.ne_of_gt (lt_ BK127.out) : gb128 ≠ gb127)); replace BK127 := Aside0.mk (bb BK127.out hb); replace HB := Aside0.mk (below_step (bl1 HB.out GE127.out) hb); clear hb hbox hg)); try go_wp2_with (first | ((with_reducible refine gate_dst (N := 2) rfl ?_); refine be 2 (#[.int .u64 a0_0, .int .u64 a0_1, .int .u64 a0_2]) 102 ?_; intro gb127 hg w3 hbox hb; have BK127 := Aside0.mk (hbox); have GW127 := Aside0.mk ((by rw [hg]; exact (below_size (bl0 HB.out)) : w.heap.size ≤ gb127)); have GE127 := GW127; replace HB := Aside0.mk (below_step (bl0 HB.out) hb); clear hb hbox hg) | ((with_reducible refine gate_dst (N := 3) rfl ?_); refine be 3 (#[.int .u64 a1_0, .int .u64 a1_1, .int .u64 a1_2]) 102 ?_; intro gb128 hg w4 hbox hb; have BK128 := Aside0.mk (hbox); have GW128 := Aside0.mk ((by rw [hg]; exact (below_size (bl1 HB.out GE127.out)) : w.heap.size ≤ gb128)); have GE128 := GW128; have NB127_128 := Aside0.mk ((by rw [hg]; exact Nat.ne_of_lt (lt_ BK127.out) : gb127 ≠ gb128)); have NB128_127 := Aside0.mk ((by rw [hg]; exact Nat.ne_of_gt (lt_ BK127.out) : gb128 ≠ gb127)); replace BK127 := Aside0.mk (bb BK127.out hb); replace HB := Aside0.mk (below_step (bl1 HB.out GE127.out) hb); clear hb hbox hg)))
 refine wp_loop_rounds 9 ?_
 go_wp2
 repeat (go_quiet (fail); try go_wp2)
 rw [rounds_succ]
 by_cases c5 : a0_2 = a1_2
 ·rw [if_pos c5] at H
  have c5b0 : (a0_2 == a1_2) = true := beq_iff_eq.mpr c5
  have c5b1 : (a0_2 != a1_2) = false := bne_eq_false_iff_eq.mpr c5
  clear c5
  have hnb6 := NB127_128.out
  have hnc6 := NB128_127.out
  have hcz7_0 : w4.cell? ⟨gb127, 0, none⟩ = some (.int .u64 a0_0) := (blk_cell BK127.out 0).trans rfl
  have hcz7_1 : w4.cell? ⟨gb127, 1, none⟩ = some (.int .u64 a0_1) := (blk_cell BK127.out 1).trans rfl
  have hcz7_2 : w4.cell? ⟨gb127, 2, none⟩ = some (.int .u64 a0_2) := (blk_cell BK127.out 2).trans rfl
  have hfz7_0 := blk_frozen BK127.out 0
  have hfz7_1 := blk_frozen BK127.out 1
  have hfz7_2 := blk_frozen BK127.out 2
  have hcz8_0 : w4.cell? ⟨gb128, 0, none⟩ = some (.int .u64 a1_0) := (blk_cell BK128.out 0).trans rfl
  have hcz8_1 : w4.cell? ⟨gb128, 1, none⟩ = some (.int .u64 a1_1) := (blk_cell BK128.out 1).trans rfl
  have hcz8_2 : w4.cell? ⟨gb128, 2, none⟩ = some (.int .u64 a1_2) := (blk_cell BK128.out 2).trans rfl
  have hfz8_0 := blk_frozen BK128.out 0
  have hfz8_1 := blk_frozen BK128.out 1
  have hfz8_2 := blk_frozen BK128.out 2
  go_wp2
  repeat (go_quiet (fail); try go_wp2)
  rw [rounds_succ]
  by_cases c9 : a0_1 = a1_1
  ·rw [if_pos c9] at H
   have c9b0 : (a0_1 == a1_1) = true := beq_iff_eq.mpr c9
   have c9b1 : (a0_1 != a1_1) = false := bne_eq_false_iff_eq.mpr c9
   clear c9
   have hnb10 := NB127_128.out
   have hnc10 := NB128_127.out
   have hcz11_0 : w4.cell? ⟨gb127, 0, none⟩ = some (.int .u64 a0_0) := (blk_cell BK127.out 0).trans rfl
   have hcz11_1 : w4.cell? ⟨gb127, 1, none⟩ = some (.int .u64 a0_1) := (blk_cell BK127.out 1).trans rfl
   have hcz11_2 : w4.cell? ⟨gb127, 2, none⟩ = some (.int .u64 a0_2) := (blk_cell BK127.out 2).trans rfl
   have hfz11_0 := blk_frozen BK127.out 0
   have hfz11_1 := blk_frozen BK127.out 1
   have hfz11_2 := blk_frozen BK127.out 2
   have hcz12_0 : w4.cell? ⟨gb128, 0, none⟩ = some (.int .u64 a1_0) := (blk_cell BK128.out 0).trans rfl
   have hcz12_1 : w4.cell? ⟨gb128, 1, none⟩ = some (.int .u64 a1_1) := (blk_cell BK128.out 1).trans rfl
   have hcz12_2 : w4.cell? ⟨gb128, 2, none⟩ = some (.int .u64 a1_2) := (blk_cell BK128.out 2).trans rfl
   have hfz12_0 := blk_frozen BK128.out 0
   have hfz12_1 := blk_frozen BK128.out 1
   have hfz12_2 := blk_frozen BK128.out 2
   go_wp2
   repeat (go_quiet (fail); try go_wp2)
   rw [rounds_succ]
   by_cases c13 : a0_0 = a1_0
   ·rw [if_pos c13] at H
    have c13b0 : (a0_0 == a1_0) = true := beq_iff_eq.mpr c13
    have c13b1 : (a0_0 != a1_0) = false := bne_eq_false_iff_eq.mpr c13
    clear c13
    have hnb14 := NB127_128.out
    have hnc14 := NB128_127.out
    have hcz15_0 : w4.cell? ⟨gb127, 0, none⟩ = some (.int .u64 a0_0) := (blk_cell BK127.out 0).trans rfl
    have hcz15_1 : w4.cell? ⟨gb127, 1, none⟩ = some (.int .u64 a0_1) := (blk_cell BK127.out 1).trans rfl
    have hcz15_2 : w4.cell? ⟨gb127, 2, none⟩ = some (.int .u64 a0_2) := (blk_cell BK127.out 2).trans rfl
    have hfz15_0 := blk_frozen BK127.out 0
    have hfz15_1 := blk_frozen BK127.out 1
    have hfz15_2 := blk_frozen BK127.out 2
    have hcz16_0 : w4.cell? ⟨gb128, 0, none⟩ = some (.int .u64 a1_0) := (blk_cell BK128.out 0).trans rfl
    have hcz16_1 : w4.cell? ⟨gb128, 1, none⟩ = some (.int .u64 a1_1) := (blk_cell BK128.out 1).trans rfl
    have hcz16_2 : w4.cell? ⟨gb128, 2, none⟩ = some (.int .u64 a1_2) := (blk_cell BK128.out 2).trans rfl
    have hfz16_0 := blk_frozen BK128.out 0
    have hfz16_1 := blk_frozen BK128.out 1
    have hfz16_2 := blk_frozen BK128.out 2
    go_wp2
    repeat (go_quiet (fail); try go_wp2)
    rw [rounds_succ]
    obtain rfl := Option.some.inj H
    go_wp2
    repeat (go_quiet (fail); try go_wp2)
    go_ret
    exact ⟨by first | rfl | (simp [errW_none, errW_some] <;> rfl) | (simp [*, errW_none, errW_some] <;> rfl), bl2 HB.out GE127.out GE128.out⟩
   ·rw [if_neg c13] at H
    have c13b0 : (a0_0 == a1_0) = false := beq_eq_false_iff_ne.mpr c13
    have c13b1 : (a0_0 != a1_0) = true := bne_iff_ne.mpr c13
    obtain rfl := Option.some.inj H
    have hnb17 := NB127_128.out
    have hnc17 := NB128_127.out
    have hcz18_0 : w4.cell? ⟨gb127, 0, none⟩ = some (.int .u64 a0_0) := (blk_cell BK127.out 0).trans rfl
    have hcz18_1 : w4.cell? ⟨gb127, 1, none⟩ = some (.int .u64 a0_1) := (blk_cell BK127.out 1).trans rfl
    have hcz18_2 : w4.cell? ⟨gb127, 2, none⟩ = some (.int .u64 a0_2) := (blk_cell BK127.out 2).trans rfl
    have hfz18_0 := blk_frozen BK127.out 0
    have hfz18_1 := blk_frozen BK127.out 1
    have hfz18_2 := blk_frozen BK127.out 2
    have hcz19_0 : w4.cell? ⟨gb128, 0, none⟩ = some (.int .u64 a1_0) := (blk_cell BK128.out 0).trans rfl
    have hcz19_1 : w4.cell? ⟨gb128, 1, none⟩ = some (.int .u64 a1_1) := (blk_cell BK128.out 1).trans rfl
    have hcz19_2 : w4.cell? ⟨gb128, 2, none⟩ = some (.int .u64 a1_2) := (blk_cell BK128.out 2).trans rfl
    have hfz19_0 := blk_frozen BK128.out 0
    have hfz19_1 := blk_frozen BK128.out 1
    have hfz19_2 := blk_frozen BK128.out 2
    go_wp2
    repeat (go_quiet (fail); try go_wp2)
    go_ret
    exact ⟨by first | rfl | (simp [errW_none, errW_some] <;> rfl) | (simp [*, errW_none, errW_some] <;> rfl), bl2 HB.out GE127.out GE128.out⟩
  ·rw [if_neg c9] at H
   have c9b0 : (a0_1 == a1_1) = false := beq_eq_false_iff_ne.mpr c9
   have c9b1 : (a0_1 != a1_1) = true := bne_iff_ne.mpr c9
   obtain rfl := Option.some.inj H
   have hnb20 := NB127_128.out
   have hnc20 := NB128_127.out
   have hcz21_0 : w4.cell? ⟨gb127, 0, none⟩ = some (.int .u64 a0_0) := (blk_cell BK127.out 0).trans rfl
   have hcz21_1 : w4.cell? ⟨gb127, 1, none⟩ = some (.int .u64 a0_1) := (blk_cell BK127.out 1).trans rfl
   have hcz21_2 : w4.cell? ⟨gb127, 2, none⟩ = some (.int .u64 a0_2) := (blk_cell BK127.out 2).trans rfl
   have hfz21_0 := blk_frozen BK127.out 0
   have hfz21_1 := blk_frozen BK127.out 1
   have hfz21_2 := blk_frozen BK127.out 2
   have hcz22_0 : w4.cell? ⟨gb128, 0, none⟩ = some (.int .u64 a1_0) := (blk_cell BK128.out 0).trans rfl
   have hcz22_1 : w4.cell? ⟨gb128, 1, none⟩ = some (.int .u64 a1_1) := (blk_cell BK128.out 1).trans rfl
   have hcz22_2 : w4.cell? ⟨gb128, 2, none⟩ = some (.int .u64 a1_2) := (blk_cell BK128.out 2).trans rfl
   have hfz22_0 := blk_frozen BK128.out 0
   have hfz22_1 := blk_frozen BK128.out 1
   have hfz22_2 := blk_frozen BK128.out 2
   go_wp2
   repeat (go_quiet (fail); try go_wp2)
   go_ret
   exact ⟨by first | rfl | (simp [errW_none, errW_some] <;> rfl) | (simp [*, errW_none, errW_some] <;> rfl), bl2 HB.out GE127.out GE128.out⟩
 ·rw [if_neg c5] at H
  have c5b0 : (a0_2 == a1_2) = false := beq_eq_false_iff_ne.mpr c5
  have c5b1 : (a0_2 != a1_2) = true := bne_iff_ne.mpr c5
  obtain rfl := Option.some.inj H
  have hnb23 := NB127_128.out
  have hnc23 := NB128_127.out
  have hcz24_0 : w4.cell? ⟨gb127, 0, none⟩ = some (.int .u64 a0_0) := (blk_cell BK127.out 0).trans rfl
  have hcz24_1 : w4.cell? ⟨gb127, 1, none⟩ = some (.int .u64 a0_1) := (blk_cell BK127.out 1).trans rfl
  have hcz24_2 : w4.cell? ⟨gb127, 2, none⟩ = some (.int .u64 a0_2) := (blk_cell BK127.out 2).trans rfl
  have hfz24_0 := blk_frozen BK127.out 0
  have hfz24_1 := blk_frozen BK127.out 1
  have hfz24_2 := blk_frozen BK127.out 2
  have hcz25_0 : w4.cell? ⟨gb128, 0, none⟩ = some (.int .u64 a1_0) := (blk_cell BK128.out 0).trans rfl
  have hcz25_1 : w4.cell? ⟨gb128, 1, none⟩ = some (.int .u64 a1_1) := (blk_cell BK128.out 1).trans rfl
  have hcz25_2 : w4.cell? ⟨gb128, 2, none⟩ = some (.int .u64 a1_2) := (blk_cell BK128.out 2).trans rfl
  have hfz25_0 := blk_frozen BK128.out 0
  have hfz25_1 := blk_frozen BK128.out 1
  have hfz25_2 := blk_frozen BK128.out 2
  go_wp2
  repeat (go_quiet (fail); try go_wp2)
  go_ret
  exact ⟨by first | rfl | (simp [errW_none, errW_some] <;> rfl) | (simp [*, errW_none, errW_some] <;> rfl), bl2 HB.out GE127.out GE128.out⟩

/-! ### line_scale_level: function 64 -/
def line_scale_level.l0 : Nat → Int → Int → Int → Int → Int → Int → Int → Int → Int → Option (Int)
 | 0, _, _, _, _, _, _, _, _, _ => none
 | k + 1, x9, x10, x130000, x130001, x132000, x132001, x136000, x136001, x136002 => if (wrap64 (x10 - x9)) > 1 then ((line_times.f x132000 x132001 (IntKind.u64.wrap ((IntKind.u64.wrap ((IntKind.u64.wrap (wrap64 (Int.tdiv (wrap64 (x9 + x10)) 2))) * (IntKind.u64.wrap (x130000)))) * (IntKind.u64.wrap ((IntKind.u64.wrap (wrap64 (Int.tdiv (wrap64 (x9 + x10)) 2))) * (IntKind.u64.wrap (x130000))))))).bind fun bt136 => ((line_digits_atMost.f bt136.1 bt136.2.1 bt136.2.2 x136000 x136001 x136002).bind fun t139 => (if t139 = true then (line_scale_level.l0 k (wrap64 (Int.tdiv (wrap64 (x9 + x10)) 2)) x10 x130000 x130001 x132000 x132001 x136000 x136001 x136002) else (line_scale_level.l0 k x9 (wrap64 (Int.tdiv (wrap64 (x9 + x10)) 2)) x130000 x130001 x132000 x132001 x136000 x136001 x136002)))) else (some x9)
def line_scale_level.f (k : Nat) (a0_0 : Int) (a0_1 : Int) (a1_0 : Int) (a1_1 : Int) (a2_0 : Int) (a2_1 : Int) : Option (Int) := (line_times.f a1_0 a1_1 (IntKind.u64.wrap ((IntKind.u64.wrap (a0_1)) * (IntKind.u64.wrap (a0_1))))).bind fun bt132 => (line_scale_level.l0 k 0 (wrap64 (a0_1 + 1)) a0_0 a0_1 a2_0 a2_1 bt132.1 bt132.2.1 bt132.2.2)
theorem line_scale_level.mono_l : ∀ k, (∀ y0 y1 y2 y3 y4 y5 y6 y7 y8, LeO (line_scale_level.l0 k y0 y1 y2 y3 y4 y5 y6 y7 y8) (line_scale_level.l0 (k + 1) y0 y1 y2 y3 y4 y5 y6 y7 y8))
 | 0 => fun _ _ _ _ _ _ _ _ _ r h => by simp [line_scale_level.l0] at h
 | k + 1 => by
  have ih0 := line_scale_level.mono_l k
  ·intro y0 y1 y2 y3 y4 y5 y6 y7 y8
   unfold line_scale_level.l0
   repeat' first
   | (with_reducible exact ih0 _ _ _ _ _ _ _ _ _)
   | (with_reducible exact LeO.refl _)
   | (with_reducible exact LeO.none _)
   | (with_reducible refine LeO.ite ?_ ?_)
   | (with_reducible refine LeO.bind ?_ (fun _ => ?_))
   | exact ih0 _ _ _ _ _ _ _ _ _
   | exact LeO.none _
   | refine LeO.ite ?_ ?_
   | refine LeO.bind ?_ (fun _ => ?_)
theorem line_scale_level.mono : ∀ a0 a1 a2 a3 a4 a5 k, LeO (line_scale_level.f k a0 a1 a2 a3 a4 a5) (line_scale_level.f (k + 1) a0 a1 a2 a3 a4 a5) := by
 intro a0 a1 a2 a3 a4 a5 k
 have ih0 := line_scale_level.mono_l k
 unfold line_scale_level.f
 repeat' first
   | (with_reducible exact ih0 _ _ _ _ _ _ _ _ _)
   | (with_reducible exact LeO.refl _)
   | (with_reducible exact LeO.none _)
   | (with_reducible refine LeO.ite ?_ ?_)
   | (with_reducible refine LeO.bind ?_ (fun _ => ?_))
   | exact ih0 _ _ _ _ _ _ _ _ _
   | exact LeO.none _
   | refine LeO.ite ?_ ?_
   | refine LeO.bind ?_ (fun _ => ?_)
set_option maxHeartbeats 8000000 in
set_option maxRecDepth 100000 in
theorem line_scale_level.calls (k : Nat) (a0_0 : Int) (a0_1 : Int) (a1_0 : Int) (a1_1 : Int) (a2_0 : Int) (a2_1 : Int) (r : Int) (w : World) (h : line_scale_level.f k a0_0 a0_1 a1_0 a1_1 a2_0 a2_1 = some r) :
  Calls Try.prog 64 #[.agg #[.int .i64 a0_0, .int .i64 a0_1], .agg #[.int .u64 a1_0, .int .u64 a1_1], .agg #[.int .u64 a2_0, .int .u64 a2_1]] w fun e w' => e = .returned (.int .i64 r) ∧ Below w.heap.size w w' := by
 have hu89 := Try.underlying89
 have hu49 := Try.underlying49
 have hu102 := Try.underlying102
 have HB := Aside0.mk (Below.refl w.heap.size w)
 have H : ((line_times.f a1_0 a1_1 (IntKind.u64.wrap ((IntKind.u64.wrap (a0_1)) * (IntKind.u64.wrap (a0_1))))).bind fun bt132 => (line_scale_level.l0 k 0 (wrap64 (a0_1 + 1)) a0_0 a0_1 a2_0 a2_1 bt132.1 bt132.2.1 bt132.2.2)) = some r := h
 clear h
 replace H := Option.bind_eq_some_iff.mp H
 obtain ⟨⟨t132, t133, t134⟩, A40, H⟩ := H
 replace H : (line_scale_level.l0 k 0 (wrap64 (a0_1 + 1)) a0_0 a0_1 a2_0 a2_1 t132 t133 t134) = some r := H
 have A4 := Aside0.mk A40
 clear A40
 have H' := Aside0.mk H
 clear H
 go_enter Try.func64, Try.ntmps64
 try go_wp2_with (first | ((with_reducible refine gate_dst (N := 3) rfl ?_); refine be 3 (#[.int .i64 a0_0, .int .i64 a0_1]) 89 ?_; intro gb129 hg w5 hbox hb; have BK129 := Aside0.mk (hbox); have GW129 := Aside0.mk ((by rw [hg]; exact (below_size (bl0 HB.out)) : w.heap.size ≤ gb129)); have GE129 := GW129; replace HB := Aside0.mk (below_step (bl0 HB.out) hb); clear hb hbox hg) | ((with_reducible refine gate_dst (N := 4) rfl ?_); refine be 4 (#[.int .u64 a1_0, .int .u64 a1_1]) 49 ?_; intro gb130 hg w6 hbox hb; have BK130 := Aside0.mk (hbox); have GW130 := Aside0.mk ((by rw [hg]; exact (below_size (bl1 HB.out GE129.out)) : w.heap.size ≤ gb130)); have GE130 := GW130; have NB129_130 := Aside0.mk ((by rw [hg]; exact Nat.ne_of_lt (lt_ BK129.out) : gb129 ≠ gb130)); have NB130_129 := Aside0.mk ((by rw [hg]; exact Nat.ne_of_gt (lt_ BK129.out) : gb130 ≠ gb129)); replace BK129 := Aside0.mk (bb BK129.out hb); replace HB := Aside0.mk (below_step (bl1 HB.out GE129.out) hb); clear hb hbox hg) | ((with_reducible refine gate_dst (N := 5) rfl ?_); refine be 5 (#[.int .u64 a2_0, .int .u64 a2_1]) 49 ?_; intro gb131 hg w7 hbox hb; have BK131 := Aside0.mk (hbox); have GW131 := Aside0.mk ((by rw [hg]; exact (below_size (bl2 HB.out GE129.out GE130.out)) : w.heap.size ≤ gb131)); have GE131 := GW131; have NB129_131 := Aside0.mk ((by rw [hg]; exact Nat.ne_of_lt (lt_ BK129.out) : gb129 ≠ gb131)); have NB131_129 := Aside0.mk ((by rw [hg]; exact Nat.ne_of_gt (lt_ BK129.out) : gb131 ≠ gb129)); have NB130_131 := Aside0.mk ((by rw [hg]; exact Nat.ne_of_lt (lt_ BK130.out) : gb130 ≠ gb131)); have NB131_130 := Aside0.mk ((by rw [hg]; exact Nat.ne_of_gt (lt_ BK130.out) : gb131 ≠ gb130)); replace BK129 := Aside0.mk (bb BK129.out hb); replace BK130 := Aside0.mk (bb BK130.out hb); replace HB := Aside0.mk (below_step (bl2 HB.out GE129.out GE130.out) hb); clear hb hbox hg; have hnb8 := NB129_130.out; have hnc8 := NB130_129.out; have hnb9 := NB129_131.out; have hnc9 := NB131_129.out; have hcz10_0 : w7.cell? ⟨gb129, 0, none⟩ = some (.int .i64 a0_0) := (blk_cell BK129.out 0).trans rfl; have hcz10_1 : w7.cell? ⟨gb129, 1, none⟩ = some (.int .i64 a0_1) := (blk_cell BK129.out 1).trans rfl; have hfz10_0 := blk_frozen BK129.out 0; have hfz10_1 := blk_frozen BK129.out 1; have hnb11 := NB130_131.out; have hnc11 := NB131_130.out; have hcz12_0 : w7.cell? ⟨gb130, 0, none⟩ = some (.int .u64 a1_0) := (blk_cell BK130.out 0).trans rfl; have hcz12_1 : w7.cell? ⟨gb130, 1, none⟩ = some (.int .u64 a1_1) := (blk_cell BK130.out 1).trans rfl; have hfz12_0 := blk_frozen BK130.out 0; have hfz12_1 := blk_frozen BK130.out 1) | ((with_reducible refine gate_callee (f := 80) rfl ?_); refine goesL_ (some 20) rfl rfl Try.func80 (by kernel_rfl) rfl #[.agg #[.int .u64 a1_0, .int .u64 a1_1], .int .u64 (IntKind.u64.wrap ((IntKind.u64.wrap (a0_1)) * (IntKind.u64.wrap (a0_1))))] rfl am ?_; (with_reducible refine (line_times.calls a1_0 a1_1 (IntKind.u64.wrap ((IntKind.u64.wrap (a0_1)) * (IntKind.u64.wrap (a0_1)))) t132 t133 t134 _ A4.out).mono ?_); rintro e w13 ⟨rfl, hb⟩; refine ⟨_, rfl, ?_⟩; replace BK129 := Aside0.mk (bb BK129.out hb); replace BK130 := Aside0.mk (bb BK130.out hb); replace BK131 := Aside0.mk (bb BK131.out hb); replace HB := Aside0.mk (below_step (bl3 HB.out GE129.out GE130.out GE131.out) hb); (try clear hb); (try clear hb2); (try clear hk); (try clear hi)) | ((with_reducible refine gate_dst (N := 8) rfl ?_); refine be 8 (#[.int .u64 0, .int .u64 0, .int .u64 0]) 102 ?_; intro gb135 hg w14 hbox hb; have BK135 := Aside0.mk (hbox); have GW135 := Aside0.mk ((by rw [hg]; exact (below_size (bl3 HB.out GE129.out GE130.out GE131.out)) : w.heap.size ≤ gb135)); have GE135 := GW135; have NB129_135 := Aside0.mk ((by rw [hg]; exact Nat.ne_of_lt (lt_ BK129.out) : gb129 ≠ gb135)); have NB135_129 := Aside0.mk ((by rw [hg]; exact Nat.ne_of_gt (lt_ BK129.out) : gb135 ≠ gb129)); have NB130_135 := Aside0.mk ((by rw [hg]; exact Nat.ne_of_lt (lt_ BK130.out) : gb130 ≠ gb135)); have NB135_130 := Aside0.mk ((by rw [hg]; exact Nat.ne_of_gt (lt_ BK130.out) : gb135 ≠ gb130)); have NB131_135 := Aside0.mk ((by rw [hg]; exact Nat.ne_of_lt (lt_ BK131.out) : gb131 ≠ gb135)); have NB135_131 := Aside0.mk ((by rw [hg]; exact Nat.ne_of_gt (lt_ BK131.out) : gb135 ≠ gb131)); replace BK129 := Aside0.mk (bb BK129.out hb); replace BK130 := Aside0.mk (bb BK130.out hb); replace BK131 := Aside0.mk (bb BK131.out hb); replace HB := Aside0.mk (below_step (bl3 HB.out GE129.out GE130.out GE131.out) hb); clear hb hbox hg; have hnb15 := NB135_129.out; have hnc15 := NB129_135.out; have hnb16 := NB135_130.out; have hnc16 := NB130_135.out; have hnb17 := NB135_131.out; have hnc17 := NB131_135.out; have hcz18_0 : w14.cell? ⟨gb135, 0, none⟩ = some (.int .u64 0) := (blk_cell BK135.out 0).trans rfl; have hcz18_1 : w14.cell? ⟨gb135, 1, none⟩ = some (.int .u64 0) := (blk_cell BK135.out 1).trans rfl; have hcz18_2 : w14.cell? ⟨gb135, 2, none⟩ = some (.int .u64 0) := (blk_cell BK135.out 2).trans rfl; have hfz18_0 := blk_frozen BK135.out 0; have hfz18_1 := blk_frozen BK135.out 1; have hfz18_2 := blk_frozen BK135.out 2))
 have n0_ : Aside0 ((((w14.setCell ⟨gb135, 0, none⟩ (.int .u64 t132)).setCell ⟨gb135, 1, none⟩ (.int .u64 t133)).setCell ⟨gb135, 2, none⟩ (.int .u64 t134)).heap[gb129]? = some (.cells #[.int .i64 a0_0, .int .i64 a0_1] 89 (0, 0))) := ⟨by (with_reducible repeat (first | refine blk_drewN ?_ _ | refine blk_drew ?_ | refine blk_alloc ?_ _)); refine blk_far ?_ NB129_135.out _; (with_reducible repeat (first | refine blk_drewN ?_ _ | refine blk_drew ?_ | refine blk_alloc ?_ _)); refine blk_far ?_ NB129_135.out _; (with_reducible repeat (first | refine blk_drewN ?_ _ | refine blk_drew ?_ | refine blk_alloc ?_ _)); refine blk_far ?_ NB129_135.out _; (with_reducible repeat (first | refine blk_drewN ?_ _ | refine blk_drew ?_ | refine blk_alloc ?_ _)); exact BK129.out⟩
 have n1_ : Aside0 ((((w14.setCell ⟨gb135, 0, none⟩ (.int .u64 t132)).setCell ⟨gb135, 1, none⟩ (.int .u64 t133)).setCell ⟨gb135, 2, none⟩ (.int .u64 t134)).heap[gb130]? = some (.cells #[.int .u64 a1_0, .int .u64 a1_1] 49 (0, 0))) := ⟨by (with_reducible repeat (first | refine blk_drewN ?_ _ | refine blk_drew ?_ | refine blk_alloc ?_ _)); refine blk_far ?_ NB130_135.out _; (with_reducible repeat (first | refine blk_drewN ?_ _ | refine blk_drew ?_ | refine blk_alloc ?_ _)); refine blk_far ?_ NB130_135.out _; (with_reducible repeat (first | refine blk_drewN ?_ _ | refine blk_drew ?_ | refine blk_alloc ?_ _)); refine blk_far ?_ NB130_135.out _; (with_reducible repeat (first | refine blk_drewN ?_ _ | refine blk_drew ?_ | refine blk_alloc ?_ _)); exact BK130.out⟩
 have n2_ : Aside0 ((((w14.setCell ⟨gb135, 0, none⟩ (.int .u64 t132)).setCell ⟨gb135, 1, none⟩ (.int .u64 t133)).setCell ⟨gb135, 2, none⟩ (.int .u64 t134)).heap[gb131]? = some (.cells #[.int .u64 a2_0, .int .u64 a2_1] 49 (0, 0))) := ⟨by (with_reducible repeat (first | refine blk_drewN ?_ _ | refine blk_drew ?_ | refine blk_alloc ?_ _)); refine blk_far ?_ NB131_135.out _; (with_reducible repeat (first | refine blk_drewN ?_ _ | refine blk_drew ?_ | refine blk_alloc ?_ _)); refine blk_far ?_ NB131_135.out _; (with_reducible repeat (first | refine blk_drewN ?_ _ | refine blk_drew ?_ | refine blk_alloc ?_ _)); refine blk_far ?_ NB131_135.out _; (with_reducible repeat (first | refine blk_drewN ?_ _ | refine blk_drew ?_ | refine blk_alloc ?_ _)); exact BK131.out⟩
 have n3_ : Aside0 ((((w14.setCell ⟨gb135, 0, none⟩ (.int .u64 t132)).setCell ⟨gb135, 1, none⟩ (.int .u64 t133)).setCell ⟨gb135, 2, none⟩ (.int .u64 t134)).heap[gb135]? = some (.cells #[.int .u64 t132, .int .u64 t133, .int .u64 t134] 102 (0, 0))) := ⟨by (with_reducible repeat (first | refine blk_drewN ?_ _ | refine blk_drew ?_ | refine blk_alloc ?_ _)); refine blk_put (cs := #[.int .u64 t132, .int .u64 t133, .int .u64 0]) ?_ 2 _ rfl; (with_reducible repeat (first | refine blk_drewN ?_ _ | refine blk_drew ?_ | refine blk_alloc ?_ _)); refine blk_put (cs := #[.int .u64 t132, .int .u64 0, .int .u64 0]) ?_ 1 _ rfl; (with_reducible repeat (first | refine blk_drewN ?_ _ | refine blk_drew ?_ | refine blk_alloc ?_ _)); refine blk_put (cs := #[.int .u64 0, .int .u64 0, .int .u64 0]) ?_ 0 _ rfl; (with_reducible repeat (first | refine blk_drewN ?_ _ | refine blk_drew ?_ | refine blk_alloc ?_ _)); exact BK135.out⟩
 have n4_ : Aside0 (Below w.heap.size w (((w14.setCell ⟨gb135, 0, none⟩ (.int .u64 t132)).setCell ⟨gb135, 1, none⟩ (.int .u64 t133)).setCell ⟨gb135, 2, none⟩ (.int .u64 t134))) := ⟨bl4 HB.out GE129.out GE130.out GE131.out GE135.out⟩
 (try clear BK129)
 (try clear BK130)
 (try clear BK131)
 (try clear BK135)
 (try clear HB)
 generalize (((w14.setCell ⟨gb135, 0, none⟩ (.int .u64 t132)).setCell ⟨gb135, 1, none⟩ (.int .u64 t133)).setCell ⟨gb135, 2, none⟩ (.int .u64 t134)) = w19 at n0_ n1_ n2_ n3_ n4_ ⊢
 have BK129 := n0_
 have BK130 := n1_
 have BK131 := n2_
 have BK135 := n3_
 have HB := n4_
 clear n0_ n1_ n2_ n3_ n4_
 replace BK129 := Aside0.mk (blk_drew BK129.out)
 replace BK130 := Aside0.mk (blk_drew BK130.out)
 replace BK131 := Aside0.mk (blk_drew BK131.out)
 replace BK135 := Aside0.mk (blk_drew BK135.out)
 replace HB := Aside0.mk (below_drew1 HB.out)
 refine start_ (n := 5) (S := fun w' => w'.cell? ⟨gb129, 0, none⟩ = some (.int .i64 a0_0) ∧ w'.cell? ⟨gb129, 1, none⟩ = some (.int .i64 a0_1)) (ds := []) (ba 5 0) (by kernel_rfl) rfl rfl ⟨(blk_cell BK129.out 0).trans rfl, (blk_cell BK129.out 1).trans rfl⟩ (fun hHeld => ?_)
 generalize w19.drew = w20 at BK129 BK130 BK131 BK135 HB hHeld ⊢
 refine pure_ (i := 0) (N := some 21) (v := ?_) (a' := ?_) (ba 5 1) rfl rfl (by kernel_rfl) (fun _ _ _ h => h) (Or.inl ⟨by rfl, ?_⟩) ?_ ?_
 rotate_left
 ·intro w'
  go_simp
  with_reducible rfl
 rotate_left
 ·simp only [Act.put, List.setIfInBounds_toArray, List.set_cons_zero, List.set_cons_succ, i64_w, i32_w]
  rfl
 refine pure_ (i := 3) (N := some 9) (v := ?_) (a' := ?_) (ba 5 9) rfl rfl (by kernel_rfl) (fun _ _ _ h => h) (Or.inl ⟨by rfl, ?_⟩) ?_ ?_
 rotate_left
 ·intro w'
  go_simp
  with_reducible rfl
 rotate_left
 ·simp only [Act.put, List.setIfInBounds_toArray, List.set_cons_zero, List.set_cons_succ, i64_w, i32_w]
  rfl
 refine take_ (i := 1) (N := some 22) (v := ?_) (a' := ?_) (ba 5 11) rfl rfl (by kernel_rfl) (fun _ _ _ h => h) (Or.inl ⟨by rfl, ?_⟩) hHeld ?_ ?_
 rotate_left
 ·rintro w' ⟨s0, s1⟩
  go_simp
  with_reducible rfl
 rotate_left
 ·simp only [Act.put, List.setIfInBounds_toArray, List.set_cons_zero, List.set_cons_succ, i64_w, i32_w]
  rfl
 refine pure_ (i := 2) (N := some 23) (v := ?_) (a' := ?_) (ba 5 15) rfl rfl (by kernel_rfl) (fun _ _ _ h => h) (Or.inl ⟨by rfl, ?_⟩) ?_ ?_
 rotate_left
 ·intro w'
  go_simp
  with_reducible rfl
 rotate_left
 ·simp only [Act.put, List.setIfInBounds_toArray, List.set_cons_zero, List.set_cons_succ, i64_w, i32_w]
  rfl
 refine pure_ (i := 4) (N := some 10) (v := ?_) (a' := ?_) (ba 5 31) rfl rfl (by kernel_rfl) (fun _ _ _ h => h) (Or.inl ⟨by rfl, ?_⟩) ?_ ?_
 rotate_left
 ·intro w'
  go_simp
  with_reducible rfl
 rotate_left
 ·simp only [Act.put, List.setIfInBounds_toArray, List.set_cons_zero, List.set_cons_succ, i64_w, i32_w]
  rfl
 refine done_ (by kernel_rfl) ?_
 try go_wp2
 go_loopg [9, 10] k (fun kq v9 v10 w' => ∃ (x9_1 : Int) (x10_1 : Int), v9 = .int .i64 x9_1 ∧ v10 = .int .i64 x10_1 ∧ Aside0 (line_scale_level.l0 kq x9_1 x10_1 a0_0 a0_1 a2_0 a2_1 t132 t133 t134 = some r) ∧ Aside0 (kq ≤ k) ∧ Aside0 (w'.heap[gb129]? = some (.cells #[.int .i64 a0_0, .int .i64 a0_1] 89 (0, 0))) ∧ Aside0 (w'.heap[gb130]? = some (.cells #[.int .u64 a1_0, .int .u64 a1_1] 49 (0, 0))) ∧ Aside0 (w'.heap[gb131]? = some (.cells #[.int .u64 a2_0, .int .u64 a2_1] 49 (0, 0))) ∧ Aside0 (w'.heap[gb135]? = some (.cells #[.int .u64 t132, .int .u64 t133, .int .u64 t134] 102 (0, 0))) ∧ Aside0 (Below w.heap.size w w'))
 case atStart => exact ⟨(0), (wrap64 (a0_1 + 1)), fr, fr, H', ⟨Nat.le_refl _⟩, ⟨bk BK129.out⟩, ⟨bk BK130.out⟩, ⟨bk BK131.out⟩, ⟨bk BK135.out⟩, ⟨bl4 HB.out GE129.out GE130.out GE131.out GE135.out⟩⟩
 case round =>
  clear H'
  try clear c1
  try clear p2
  try clear c6
  try clear p6
  try clear c8
  try clear c9
  try clear c11
  try clear c15
  try clear c16
  try clear c17
  try clear hcz10_0
  try clear hcz10_1
  try clear hcz12_0
  try clear hcz12_1
  try clear hcz18_0
  try clear hcz18_1
  try clear hcz18_2
  try clear hfz10_0
  try clear hfz10_1
  try clear hfz12_0
  try clear hfz12_1
  try clear hfz18_0
  try clear hfz18_1
  try clear hfz18_2
  obtain ⟨x9_1, x10_1, rfl, rfl, HA, HK1, BK129, BK130, BK131, BK135, HB⟩ := hrel
  cases gk with
  | zero => exact absurd HA.out (by simp [line_scale_level.l0])
  | succ k1 =>
   have H := HA.out
   clear HA
   simp only [line_scale_level.l0] at H
   by_cases c21 : (wrap64 (x10_1 - x9_1)) > 1
   ·rw [if_pos c21] at H
    have c21b0 : decide (1 < (wrap64 (x10_1 - x9_1))) = true := decide_eq_true c21
    clear c21
    replace H := Option.bind_eq_some_iff.mp H
    obtain ⟨⟨t136, t137, t138⟩, A220, H⟩ := H
    replace H : ((line_digits_atMost.f t136 t137 t138 t132 t133 t134).bind fun t139 => (if t139 = true then (line_scale_level.l0 k1 (wrap64 (Int.tdiv (wrap64 (x9_1 + x10_1)) 2)) x10_1 a0_0 a0_1 a2_0 a2_1 t132 t133 t134) else (line_scale_level.l0 k1 x9_1 (wrap64 (Int.tdiv (wrap64 (x9_1 + x10_1)) 2)) a0_0 a0_1 a2_0 a2_1 t132 t133 t134))) = some r := H
    have A22 := Aside0.mk A220
    clear A220
    replace H := Option.bind_eq_some_iff.mp H
    obtain ⟨t139, A230, H⟩ := H
    replace H : (if t139 = true then (line_scale_level.l0 k1 (wrap64 (Int.tdiv (wrap64 (x9_1 + x10_1)) 2)) x10_1 a0_0 a0_1 a2_0 a2_1 t132 t133 t134) else (line_scale_level.l0 k1 x9_1 (wrap64 (Int.tdiv (wrap64 (x9_1 + x10_1)) 2)) a0_0 a0_1 a2_0 a2_1 t132 t133 t134)) = some r := H
    have A23 := Aside0.mk A230
    clear A230
    by_cases c24 : t139 = true
    ·subst c24
     have H1 : (line_scale_level.l0 k1 (wrap64 (Int.tdiv (wrap64 (x9_1 + x10_1)) 2)) x10_1 a0_0 a0_1 a2_0 a2_1 t132 t133 t134) = some r := by rw [if_pos rfl] at H; exact H
     clear H
     have H := H1
     clear H1
     have H' := Aside0.mk H
     clear H
     have hnb25 := NB129_130.out
     have hnc25 := NB130_129.out
     have hnb26 := NB129_131.out
     have hnc26 := NB131_129.out
     have hnb27 := NB129_135.out
     have hnc27 := NB135_129.out
     have hcz28_0 : wr.cell? ⟨gb129, 0, none⟩ = some (.int .i64 a0_0) := (blk_cell BK129.out 0).trans rfl
     have hcz28_1 : wr.cell? ⟨gb129, 1, none⟩ = some (.int .i64 a0_1) := (blk_cell BK129.out 1).trans rfl
     have hfz28_0 := blk_frozen BK129.out 0
     have hfz28_1 := blk_frozen BK129.out 1
     try go_wp2
     replace BK129 := Aside0.mk (blk_drew BK129.out)
     replace BK130 := Aside0.mk (blk_drew BK130.out)
     replace BK131 := Aside0.mk (blk_drew BK131.out)
     replace BK135 := Aside0.mk (blk_drew BK135.out)
     replace HB := Aside0.mk (below_drew1 HB.out)
     refine start_ (n := 7) (S := fun w' => w'.cell? ⟨gb131, 0, none⟩ = some (.int .u64 a2_0) ∧ w'.cell? ⟨gb131, 1, none⟩ = some (.int .u64 a2_1) ∧ w'.cell? ⟨gb135, 0, none⟩ = some (.int .u64 t132) ∧ w'.cell? ⟨gb135, 1, none⟩ = some (.int .u64 t133) ∧ w'.cell? ⟨gb135, 2, none⟩ = some (.int .u64 t134)) (ds := []) (ba 7 0) (by kernel_rfl) rfl rfl ⟨(blk_cell BK131.out 0).trans rfl, (blk_cell BK131.out 1).trans rfl, (blk_cell BK135.out 0).trans rfl, (blk_cell BK135.out 1).trans rfl, (blk_cell BK135.out 2).trans rfl⟩ (fun hHeld => ?_)
     generalize wr.drew = w29 at BK129 BK130 BK131 BK135 HB hHeld ⊢
     refine pure_ (i := 1) (N := some 39) (v := ?_) (a' := ?_) (ba 7 2) rfl rfl (by kernel_rfl) (fun _ _ _ h => h) (Or.inl ⟨by rfl, ?_⟩) ?_ ?_
     rotate_left
     ·intro w'
      go_simp
      with_reducible rfl
     rotate_left
     ·simp only [Act.put, List.setIfInBounds_toArray, List.set_cons_zero, List.set_cons_succ, i64_w, i32_w]
      rfl
     refine pure_ (i := 2) (N := some 40) (v := ?_) (a' := ?_) (ba 7 6) rfl rfl (by kernel_rfl) (fun _ _ _ h => h) (Or.inl ⟨by rfl, ?_⟩) ?_ ?_
     rotate_left
     ·intro w'
      go_simp
      with_reducible rfl
     rotate_left
     ·simp only [Act.put, List.setIfInBounds_toArray, List.set_cons_zero, List.set_cons_succ, i64_w, i32_w]
      rfl
     refine pure_ (i := 3) (N := some 41) (v := ?_) (a' := ?_) (ba 7 14) rfl rfl (by kernel_rfl) (fun _ _ _ h => h) (Or.inl ⟨by rfl, ?_⟩) ?_ ?_
     rotate_left
     ·intro w'
      go_simp
      with_reducible rfl
     rotate_left
     ·simp only [Act.put, List.setIfInBounds_toArray, List.set_cons_zero, List.set_cons_succ, i64_w, i32_w]
      rfl
     refine take_ (i := 0) (N := some 38) (v := ?_) (a' := ?_) (ba 7 15) rfl rfl (by kernel_rfl) (fun _ _ _ h => h) (Or.inl ⟨by rfl, ?_⟩) hHeld ?_ ?_
     rotate_left
     ·rintro w' ⟨s0, s1, s2, s3, s4⟩
      go_simp
      with_reducible rfl
     rotate_left
     ·simp only [Act.put, List.setIfInBounds_toArray, List.set_cons_zero, List.set_cons_succ, i64_w, i32_w]
      rfl
     refine take_ (i := 5) (N := some 43) (v := ?_) (a' := ?_) (ba 7 47) rfl rfl (by kernel_rfl) (fun _ _ _ h => h) (Or.inl ⟨by rfl, ?_⟩) hHeld ?_ ?_
     rotate_left
     ·rintro w' ⟨s0, s1, s2, s3, s4⟩
      go_simp
      with_reducible rfl
     rotate_left
     ·simp only [Act.put, List.setIfInBounds_toArray, List.set_cons_zero, List.set_cons_succ, i64_w, i32_w]
      rfl
     refine one_ (i := 4) (N := some 42) (ba 7 63) rfl rfl (by kernel_rfl) (by decide) (fun K hK => ?_)
     refine goes_ Try.func80 (by kernel_rfl) rfl #[.agg #[.int .u64 a2_0, .int .u64 a2_1], .int .u64 (IntKind.u64.wrap ((IntKind.u64.wrap ((IntKind.u64.wrap (wrap64 (Int.tdiv (wrap64 (x9_1 + x10_1)) 2))) * (IntKind.u64.wrap (a0_0)))) * (IntKind.u64.wrap ((IntKind.u64.wrap (wrap64 (Int.tdiv (wrap64 (x9_1 + x10_1)) 2))) * (IntKind.u64.wrap (a0_0))))))] (by rfl) rfl rfl am ?_
     with_reducible refine (line_times.calls a2_0 a2_1 (IntKind.u64.wrap ((IntKind.u64.wrap ((IntKind.u64.wrap (wrap64 (Int.tdiv (wrap64 (x9_1 + x10_1)) 2))) * (IntKind.u64.wrap (a0_0)))) * (IntKind.u64.wrap ((IntKind.u64.wrap (wrap64 (Int.tdiv (wrap64 (x9_1 + x10_1)) 2))) * (IntKind.u64.wrap (a0_0)))))) t136 t137 t138 _ A22.out).mono ?_
     rintro e w30 ⟨rfl, hb⟩
     refine ⟨_, rfl, ?_⟩
     replace BK129 := Aside0.mk (bb BK129.out hb)
     replace BK130 := Aside0.mk (bb BK130.out hb)
     replace BK131 := Aside0.mk (bb BK131.out hb)
     replace BK135 := Aside0.mk (bb BK135.out hb)
     replace HB := Aside0.mk (below_step (bl4 HB.out GE129.out GE130.out GE131.out GE135.out) hb)
     (try clear hb)
     (try clear hb2)
     (try clear hk)
     (try clear hi)
     refine hK.out _ _ ⟨(blk_cell BK131.out 0).trans rfl, (blk_cell BK131.out 1).trans rfl, (blk_cell BK135.out 0).trans rfl, (blk_cell BK135.out 1).trans rfl, (blk_cell BK135.out 2).trans rfl⟩ (fun hHeld => ?_)
     clear hK K
     refine norm_ (a' := ?_) ?_ ?_
     rotate_left
     ·show Act.put _ (some 42) _ = _
      simp only [Act.put, List.setIfInBounds_toArray, List.set_cons_zero, List.set_cons_succ, i64_w, i32_w]
      rfl
     refine one_ (i := 6) (N := some 44) (ba 7 127) rfl rfl (by kernel_rfl) (by decide) (fun K hK => ?_)
     refine goes_ Try.func81 (by kernel_rfl) rfl #[.agg #[.int .u64 t136, .int .u64 t137, .int .u64 t138], .agg #[.int .u64 t132, .int .u64 t133, .int .u64 t134]] (by rfl) rfl rfl am ?_
     with_reducible refine (line_digits_atMost.calls t136 t137 t138 t132 t133 t134 true _ A23.out).mono ?_
     rintro e w31 ⟨rfl, hb⟩
     refine ⟨_, rfl, ?_⟩
     replace BK129 := Aside0.mk (bb BK129.out hb)
     replace BK130 := Aside0.mk (bb BK130.out hb)
     replace BK131 := Aside0.mk (bb BK131.out hb)
     replace BK135 := Aside0.mk (bb BK135.out hb)
     replace HB := Aside0.mk (below_step (bl4 HB.out GE129.out GE130.out GE131.out GE135.out) hb)
     (try clear hb)
     (try clear hb2)
     (try clear hk)
     (try clear hi)
     refine hK.out _ _ ⟨(blk_cell BK131.out 0).trans rfl, (blk_cell BK131.out 1).trans rfl, (blk_cell BK135.out 0).trans rfl, (blk_cell BK135.out 1).trans rfl, (blk_cell BK135.out 2).trans rfl⟩ (fun hHeld => ?_)
     clear hK K
     refine norm_ (a' := ?_) ?_ ?_
     rotate_left
     ·show Act.put _ (some 44) _ = _
      simp only [Act.put, List.setIfInBounds_toArray, List.set_cons_zero, List.set_cons_succ, i64_w, i32_w]
      rfl
     refine done_ (by kernel_rfl) ?_
     try go_wp2
     go_roundg k1
     case measure => have := HK1.out; omega
     case rel => exact ⟨(wrap64 (Int.tdiv (wrap64 (x9_1 + x10_1)) 2)), (x10_1), fr, fr, H', ⟨by have := HK1.out; omega⟩, ⟨bk BK129.out⟩, ⟨bk BK130.out⟩, ⟨bk BK131.out⟩, ⟨bk BK135.out⟩, ⟨bl4 HB.out GE129.out GE130.out GE131.out GE135.out⟩⟩
    ·replace c24 := Bool.eq_false_iff.mpr c24
     subst c24
     have H1 : (line_scale_level.l0 k1 x9_1 (wrap64 (Int.tdiv (wrap64 (x9_1 + x10_1)) 2)) a0_0 a0_1 a2_0 a2_1 t132 t133 t134) = some r := by rw [if_neg (show ¬ (false = true) by decide)] at H; exact H
     clear H
     have H := H1
     clear H1
     have H' := Aside0.mk H
     clear H
     have hnb32 := NB129_130.out
     have hnc32 := NB130_129.out
     have hnb33 := NB129_131.out
     have hnc33 := NB131_129.out
     have hnb34 := NB129_135.out
     have hnc34 := NB135_129.out
     have hcz35_0 : wr.cell? ⟨gb129, 0, none⟩ = some (.int .i64 a0_0) := (blk_cell BK129.out 0).trans rfl
     have hcz35_1 : wr.cell? ⟨gb129, 1, none⟩ = some (.int .i64 a0_1) := (blk_cell BK129.out 1).trans rfl
     have hfz35_0 := blk_frozen BK129.out 0
     have hfz35_1 := blk_frozen BK129.out 1
     try go_wp2
     replace BK129 := Aside0.mk (blk_drew BK129.out)
     replace BK130 := Aside0.mk (blk_drew BK130.out)
     replace BK131 := Aside0.mk (blk_drew BK131.out)
     replace BK135 := Aside0.mk (blk_drew BK135.out)
     replace HB := Aside0.mk (below_drew1 HB.out)
     refine start_ (n := 7) (S := fun w' => w'.cell? ⟨gb131, 0, none⟩ = some (.int .u64 a2_0) ∧ w'.cell? ⟨gb131, 1, none⟩ = some (.int .u64 a2_1) ∧ w'.cell? ⟨gb135, 0, none⟩ = some (.int .u64 t132) ∧ w'.cell? ⟨gb135, 1, none⟩ = some (.int .u64 t133) ∧ w'.cell? ⟨gb135, 2, none⟩ = some (.int .u64 t134)) (ds := []) (ba 7 0) (by kernel_rfl) rfl rfl ⟨(blk_cell BK131.out 0).trans rfl, (blk_cell BK131.out 1).trans rfl, (blk_cell BK135.out 0).trans rfl, (blk_cell BK135.out 1).trans rfl, (blk_cell BK135.out 2).trans rfl⟩ (fun hHeld => ?_)
     generalize wr.drew = w36 at BK129 BK130 BK131 BK135 HB hHeld ⊢
     refine pure_ (i := 1) (N := some 39) (v := ?_) (a' := ?_) (ba 7 2) rfl rfl (by kernel_rfl) (fun _ _ _ h => h) (Or.inl ⟨by rfl, ?_⟩) ?_ ?_
     rotate_left
     ·intro w'
      go_simp
      with_reducible rfl
     rotate_left
     ·simp only [Act.put, List.setIfInBounds_toArray, List.set_cons_zero, List.set_cons_succ, i64_w, i32_w]
      rfl
     refine pure_ (i := 2) (N := some 40) (v := ?_) (a' := ?_) (ba 7 6) rfl rfl (by kernel_rfl) (fun _ _ _ h => h) (Or.inl ⟨by rfl, ?_⟩) ?_ ?_
     rotate_left
     ·intro w'
      go_simp
      with_reducible rfl
     rotate_left
     ·simp only [Act.put, List.setIfInBounds_toArray, List.set_cons_zero, List.set_cons_succ, i64_w, i32_w]
      rfl
     refine pure_ (i := 3) (N := some 41) (v := ?_) (a' := ?_) (ba 7 14) rfl rfl (by kernel_rfl) (fun _ _ _ h => h) (Or.inl ⟨by rfl, ?_⟩) ?_ ?_
     rotate_left
     ·intro w'
      go_simp
      with_reducible rfl
     rotate_left
     ·simp only [Act.put, List.setIfInBounds_toArray, List.set_cons_zero, List.set_cons_succ, i64_w, i32_w]
      rfl
     refine take_ (i := 0) (N := some 38) (v := ?_) (a' := ?_) (ba 7 15) rfl rfl (by kernel_rfl) (fun _ _ _ h => h) (Or.inl ⟨by rfl, ?_⟩) hHeld ?_ ?_
     rotate_left
     ·rintro w' ⟨s0, s1, s2, s3, s4⟩
      go_simp
      with_reducible rfl
     rotate_left
     ·simp only [Act.put, List.setIfInBounds_toArray, List.set_cons_zero, List.set_cons_succ, i64_w, i32_w]
      rfl
     refine take_ (i := 5) (N := some 43) (v := ?_) (a' := ?_) (ba 7 47) rfl rfl (by kernel_rfl) (fun _ _ _ h => h) (Or.inl ⟨by rfl, ?_⟩) hHeld ?_ ?_
     rotate_left
     ·rintro w' ⟨s0, s1, s2, s3, s4⟩
      go_simp
      with_reducible rfl
     rotate_left
     ·simp only [Act.put, List.setIfInBounds_toArray, List.set_cons_zero, List.set_cons_succ, i64_w, i32_w]
      rfl
     refine one_ (i := 4) (N := some 42) (ba 7 63) rfl rfl (by kernel_rfl) (by decide) (fun K hK => ?_)
     refine goes_ Try.func80 (by kernel_rfl) rfl #[.agg #[.int .u64 a2_0, .int .u64 a2_1], .int .u64 (IntKind.u64.wrap ((IntKind.u64.wrap ((IntKind.u64.wrap (wrap64 (Int.tdiv (wrap64 (x9_1 + x10_1)) 2))) * (IntKind.u64.wrap (a0_0)))) * (IntKind.u64.wrap ((IntKind.u64.wrap (wrap64 (Int.tdiv (wrap64 (x9_1 + x10_1)) 2))) * (IntKind.u64.wrap (a0_0))))))] (by rfl) rfl rfl am ?_
     with_reducible refine (line_times.calls a2_0 a2_1 (IntKind.u64.wrap ((IntKind.u64.wrap ((IntKind.u64.wrap (wrap64 (Int.tdiv (wrap64 (x9_1 + x10_1)) 2))) * (IntKind.u64.wrap (a0_0)))) * (IntKind.u64.wrap ((IntKind.u64.wrap (wrap64 (Int.tdiv (wrap64 (x9_1 + x10_1)) 2))) * (IntKind.u64.wrap (a0_0)))))) t136 t137 t138 _ A22.out).mono ?_
     rintro e w37 ⟨rfl, hb⟩
     refine ⟨_, rfl, ?_⟩
     replace BK129 := Aside0.mk (bb BK129.out hb)
     replace BK130 := Aside0.mk (bb BK130.out hb)
     replace BK131 := Aside0.mk (bb BK131.out hb)
     replace BK135 := Aside0.mk (bb BK135.out hb)
     replace HB := Aside0.mk (below_step (bl4 HB.out GE129.out GE130.out GE131.out GE135.out) hb)
     (try clear hb)
     (try clear hb2)
     (try clear hk)
     (try clear hi)
     refine hK.out _ _ ⟨(blk_cell BK131.out 0).trans rfl, (blk_cell BK131.out 1).trans rfl, (blk_cell BK135.out 0).trans rfl, (blk_cell BK135.out 1).trans rfl, (blk_cell BK135.out 2).trans rfl⟩ (fun hHeld => ?_)
     clear hK K
     refine norm_ (a' := ?_) ?_ ?_
     rotate_left
     ·show Act.put _ (some 42) _ = _
      simp only [Act.put, List.setIfInBounds_toArray, List.set_cons_zero, List.set_cons_succ, i64_w, i32_w]
      rfl
     refine one_ (i := 6) (N := some 44) (ba 7 127) rfl rfl (by kernel_rfl) (by decide) (fun K hK => ?_)
     refine goes_ Try.func81 (by kernel_rfl) rfl #[.agg #[.int .u64 t136, .int .u64 t137, .int .u64 t138], .agg #[.int .u64 t132, .int .u64 t133, .int .u64 t134]] (by rfl) rfl rfl am ?_
     with_reducible refine (line_digits_atMost.calls t136 t137 t138 t132 t133 t134 false _ A23.out).mono ?_
     rintro e w38 ⟨rfl, hb⟩
     refine ⟨_, rfl, ?_⟩
     replace BK129 := Aside0.mk (bb BK129.out hb)
     replace BK130 := Aside0.mk (bb BK130.out hb)
     replace BK131 := Aside0.mk (bb BK131.out hb)
     replace BK135 := Aside0.mk (bb BK135.out hb)
     replace HB := Aside0.mk (below_step (bl4 HB.out GE129.out GE130.out GE131.out GE135.out) hb)
     (try clear hb)
     (try clear hb2)
     (try clear hk)
     (try clear hi)
     refine hK.out _ _ ⟨(blk_cell BK131.out 0).trans rfl, (blk_cell BK131.out 1).trans rfl, (blk_cell BK135.out 0).trans rfl, (blk_cell BK135.out 1).trans rfl, (blk_cell BK135.out 2).trans rfl⟩ (fun hHeld => ?_)
     clear hK K
     refine norm_ (a' := ?_) ?_ ?_
     rotate_left
     ·show Act.put _ (some 44) _ = _
      simp only [Act.put, List.setIfInBounds_toArray, List.set_cons_zero, List.set_cons_succ, i64_w, i32_w]
      rfl
     refine done_ (by kernel_rfl) ?_
     try go_wp2
     go_roundg k1
     case measure => have := HK1.out; omega
     case rel => exact ⟨(x9_1), (wrap64 (Int.tdiv (wrap64 (x9_1 + x10_1)) 2)), fr, fr, H', ⟨by have := HK1.out; omega⟩, ⟨bk BK129.out⟩, ⟨bk BK130.out⟩, ⟨bk BK131.out⟩, ⟨bk BK135.out⟩, ⟨bl4 HB.out GE129.out GE130.out GE131.out GE135.out⟩⟩
   ·rw [if_neg c21] at H
    have c21b0 : decide (1 < (wrap64 (x10_1 - x9_1))) = false := decide_eq_false c21
    clear c21
    obtain rfl := Option.some.inj H
    go_wp2
    go_ret
    exact ⟨by first | rfl | (simp [errW_none, errW_some] <;> rfl) | (simp [*, errW_none, errW_some] <;> rfl), bl4 HB.out GE129.out GE130.out GE131.out GE135.out⟩

/-! ### line_Of: function 38 -/
def line_Of.f (k : Nat) (a0_0 : Int) (a0_1 : Int) (a1_0 : Int) (a1_1 : Int) (a2 : Int) (a3 : Int) : Option (Int × Int) := (line_scale_right.f a2 a3).bind fun t143 => (if t143 = true then (if (a1_0 == 0 && (a1_1 == 0)) = true then (some (0, 13)) else ((line_scale_level.f k a2 a3 a0_0 a0_1 a1_0 a1_1).bind fun t144 => (some (t144, 0)))) else (some (0, 1)))
theorem line_Of.mono : ∀ a0 a1 a2 a3 a4 a5 k, LeO (line_Of.f k a0 a1 a2 a3 a4 a5) (line_Of.f (k + 1) a0 a1 a2 a3 a4 a5) := by
 intro a0 a1 a2 a3 a4 a5 k
 unfold line_Of.f
 repeat' first
   | (with_reducible exact line_scale_level.mono _ _ _ _ _ _ _)
   | (with_reducible exact LeO.refl _)
   | (with_reducible exact LeO.none _)
   | (with_reducible refine LeO.ite ?_ ?_)
   | (with_reducible refine LeO.bind ?_ (fun _ => ?_))
   | exact line_scale_level.mono _ _ _ _ _ _ _
   | exact LeO.none _
   | refine LeO.ite ?_ ?_
   | refine LeO.bind ?_ (fun _ => ?_)
set_option maxHeartbeats 8000000 in
set_option maxRecDepth 100000 in
theorem line_Of.calls (k : Nat) (a0_0 : Int) (a0_1 : Int) (a1_0 : Int) (a1_1 : Int) (a2 : Int) (a3 : Int) (r1 : Int) (r2 : Int) (w : World) (h : line_Of.f k a0_0 a0_1 a1_0 a1_1 a2 a3 = some (r1, r2)) :
  Calls Try.prog 38 #[.agg #[.int .u64 a0_0, .int .u64 a0_1], .agg #[.int .u64 a1_0, .int .u64 a1_1], .int .i64 a2, .int .i64 a3] w fun e w' => e = .returned (.tuple #[.int .i64 r1, .int .i64 r2]) ∧ Below w.heap.size w w' := by
 have hu49 := Try.underlying49
 have hu89 := Try.underlying89
 have HB := Aside0.mk (Below.refl w.heap.size w)
 have H : ((line_scale_right.f a2 a3).bind fun t143 => (if t143 = true then (if (a1_0 == 0 && (a1_1 == 0)) = true then (some (0, 13)) else ((line_scale_level.f k a2 a3 a0_0 a0_1 a1_0 a1_1).bind fun t144 => (some (t144, 0)))) else (some (0, 1)))) = some (r1, r2) := h
 clear h
 replace H := Option.bind_eq_some_iff.mp H
 obtain ⟨t143, A50, H⟩ := H
 replace H : (if t143 = true then (if (a1_0 == 0 && (a1_1 == 0)) = true then (some (0, 13)) else ((line_scale_level.f k a2 a3 a0_0 a0_1 a1_0 a1_1).bind fun t144 => (some (t144, 0)))) else (some (0, 1))) = some (r1, r2) := H
 have A5 := Aside0.mk A50
 clear A50
 by_cases c6 : t143 = true
 ·subst c6
  have H1 : (if (a1_0 == 0 && (a1_1 == 0)) = true then (some (0, 13)) else ((line_scale_level.f k a2 a3 a0_0 a0_1 a1_0 a1_1).bind fun t144 => (some (t144, 0)))) = some (r1, r2) := by rw [if_pos rfl] at H; exact H
  clear H
  have H := H1
  clear H1
  by_cases c7 : (a1_0 == 0 && (a1_1 == 0)) = true
  ·rw [if_pos c7] at H
   have c7b0 : (a1_0 == 0 && (a1_1 == 0)) = true := c7
   (try (have c7b1 : decide (a1_0 = 0 && (a1_1 == 0)) = true := by simpa using c7))
   (try (have c7b2 : (a1_0 == 0 && (a1_1 == 0)) = true := by simpa using c7))
   clear c7
   simp only [Option.some.injEq, Prod.mk.injEq] at H
   obtain ⟨rfl, rfl⟩ := H
   go_enter Try.func38, Try.ntmps38
   go_wp2_with (first | ((with_reducible refine gate_dst (N := 4) rfl ?_); refine be 4 (#[.int .u64 a0_0, .int .u64 a0_1]) 49 ?_; intro gb140 hg w8 hbox hb; have BK140 := Aside0.mk (hbox); have GW140 := Aside0.mk ((by rw [hg]; exact (below_size (bl0 HB.out)) : w.heap.size ≤ gb140)); have GE140 := GW140; replace HB := Aside0.mk (below_step (bl0 HB.out) hb); clear hb hbox hg) | ((with_reducible refine gate_dst (N := 5) rfl ?_); refine be 5 (#[.int .u64 a1_0, .int .u64 a1_1]) 49 ?_; intro gb141 hg w9 hbox hb; have BK141 := Aside0.mk (hbox); have GW141 := Aside0.mk ((by rw [hg]; exact (below_size (bl1 HB.out GE140.out)) : w.heap.size ≤ gb141)); have GE141 := GW141; have NB140_141 := Aside0.mk ((by rw [hg]; exact Nat.ne_of_lt (lt_ BK140.out) : gb140 ≠ gb141)); have NB141_140 := Aside0.mk ((by rw [hg]; exact Nat.ne_of_gt (lt_ BK140.out) : gb141 ≠ gb140)); replace BK140 := Aside0.mk (bb BK140.out hb); replace HB := Aside0.mk (below_step (bl1 HB.out GE140.out) hb); clear hb hbox hg) | ((with_reducible refine gate_dst (N := 10) rfl ?_); refine be 10 (#[.int .i64 0, .int .i64 0]) 89 ?_; intro gb142 hg w10 hbox hb; have BK142 := Aside0.mk (hbox); have GW142 := Aside0.mk ((by rw [hg]; exact (below_size (bl2 HB.out GE140.out GE141.out)) : w.heap.size ≤ gb142)); have GE142 := GW142; have NB140_142 := Aside0.mk ((by rw [hg]; exact Nat.ne_of_lt (lt_ BK140.out) : gb140 ≠ gb142)); have NB142_140 := Aside0.mk ((by rw [hg]; exact Nat.ne_of_gt (lt_ BK140.out) : gb142 ≠ gb140)); have NB141_142 := Aside0.mk ((by rw [hg]; exact Nat.ne_of_lt (lt_ BK141.out) : gb141 ≠ gb142)); have NB142_141 := Aside0.mk ((by rw [hg]; exact Nat.ne_of_gt (lt_ BK141.out) : gb142 ≠ gb141)); replace BK140 := Aside0.mk (bb BK140.out hb); replace BK141 := Aside0.mk (bb BK141.out hb); replace HB := Aside0.mk (below_step (bl2 HB.out GE140.out GE141.out) hb); clear hb hbox hg; have hnb11 := NB142_140.out; have hnc11 := NB140_142.out; have hnb12 := NB142_141.out; have hnc12 := NB141_142.out; have hcz13_0 : w10.cell? ⟨gb142, 0, none⟩ = some (.int .i64 0) := (blk_cell BK142.out 0).trans rfl; have hcz13_1 : w10.cell? ⟨gb142, 1, none⟩ = some (.int .i64 0) := (blk_cell BK142.out 1).trans rfl; have hfz13_0 := blk_frozen BK142.out 0; have hfz13_1 := blk_frozen BK142.out 1) | ((with_reducible refine gate_callee (f := 63) rfl ?_); refine goesL_ (some 16) rfl rfl Try.func63 (by kernel_rfl) rfl #[.agg #[.int .i64 a2, .int .i64 a3]] rfl am ?_; (with_reducible refine (line_scale_right.calls a2 a3 true _ A5.out).mono ?_); rintro e w14 ⟨rfl, hb⟩; refine ⟨_, rfl, ?_⟩; replace BK140 := Aside0.mk (blk_below (g := gb140) (o := .cells #[.int .u64 a0_0, .int .u64 a0_1] 49 (0, 0)) (by (with_reducible repeat (first | refine blk_drewN ?_ _ | refine blk_drew ?_ | refine blk_alloc ?_ _)); refine blk_far ?_ NB140_142.out _; (with_reducible repeat (first | refine blk_drewN ?_ _ | refine blk_drew ?_ | refine blk_alloc ?_ _)); refine blk_far ?_ NB140_142.out _; (with_reducible repeat (first | refine blk_drewN ?_ _ | refine blk_drew ?_ | refine blk_alloc ?_ _)); exact BK140.out) hb); replace BK141 := Aside0.mk (blk_below (g := gb141) (o := .cells #[.int .u64 a1_0, .int .u64 a1_1] 49 (0, 0)) (by (with_reducible repeat (first | refine blk_drewN ?_ _ | refine blk_drew ?_ | refine blk_alloc ?_ _)); refine blk_far ?_ NB141_142.out _; (with_reducible repeat (first | refine blk_drewN ?_ _ | refine blk_drew ?_ | refine blk_alloc ?_ _)); refine blk_far ?_ NB141_142.out _; (with_reducible repeat (first | refine blk_drewN ?_ _ | refine blk_drew ?_ | refine blk_alloc ?_ _)); exact BK141.out) hb); replace BK142 := Aside0.mk (blk_below (g := gb142) (o := .cells #[.int .i64 a2, .int .i64 a3] 89 (0, 0)) (bk (blk_put (cs := #[.int .i64 a2, .int .i64 0]) (bk (blk_put (cs := #[.int .i64 0, .int .i64 0]) (bk BK142.out) 0 _ rfl)) 1 _ rfl)) hb); replace HB := Aside0.mk (below_step (bl3 HB.out GE140.out GE141.out GE142.out) hb); (try clear hb); (try clear hb2); (try clear hk); (try clear hi); have hnb15 := NB141_140.out; have hnc15 := NB140_141.out; have hcz16_0 : w14.cell? ⟨gb141, 0, none⟩ = some (.int .u64 a1_0) := (blk_cell BK141.out 0).trans rfl; have hcz16_1 : w14.cell? ⟨gb141, 1, none⟩ = some (.int .u64 a1_1) := (blk_cell BK141.out 1).trans rfl; have hfz16_0 := blk_frozen BK141.out 0; have hfz16_1 := blk_frozen BK141.out 1))
   go_ret2
   exact ⟨by first | rfl | (simp [errW_none, errW_some] <;> rfl) | (simp [*, errW_none, errW_some] <;> rfl), bl3 HB.out GE140.out GE141.out GE142.out⟩
  ·rw [if_neg c7] at H
   have c7b0 : (a1_0 == 0 && (a1_1 == 0)) = false := by simpa using c7
   (try (have c7b1 : decide (a1_0 = 0 && (a1_1 == 0)) = false := by simpa using c7))
   (try (have c7b2 : (a1_0 == 0 && (a1_1 == 0)) = false := by simpa using c7))
   (try (have c7b3 : ¬ (a1_0 = 0 && (a1_1 == 0)) := by simpa using c7))
   clear c7
   replace H := Option.bind_eq_some_iff.mp H
   obtain ⟨t144, A170, H⟩ := H
   replace H : (some (t144, 0)) = some (r1, r2) := H
   have A17 := Aside0.mk A170
   clear A170
   simp only [Option.some.injEq, Prod.mk.injEq] at H
   obtain ⟨rfl, rfl⟩ := H
   go_enter Try.func38, Try.ntmps38
   go_wp2_with (first | ((with_reducible refine gate_dst (N := 4) rfl ?_); refine be 4 (#[.int .u64 a0_0, .int .u64 a0_1]) 49 ?_; intro gb140 hg w18 hbox hb; have BK140 := Aside0.mk (hbox); have GW140 := Aside0.mk ((by rw [hg]; exact (below_size (bl0 HB.out)) : w.heap.size ≤ gb140)); have GE140 := GW140; replace HB := Aside0.mk (below_step (bl0 HB.out) hb); clear hb hbox hg) | ((with_reducible refine gate_dst (N := 5) rfl ?_); refine be 5 (#[.int .u64 a1_0, .int .u64 a1_1]) 49 ?_; intro gb141 hg w19 hbox hb; have BK141 := Aside0.mk (hbox); have GW141 := Aside0.mk ((by rw [hg]; exact (below_size (bl1 HB.out GE140.out)) : w.heap.size ≤ gb141)); have GE141 := GW141; have NB140_141 := Aside0.mk ((by rw [hg]; exact Nat.ne_of_lt (lt_ BK140.out) : gb140 ≠ gb141)); have NB141_140 := Aside0.mk ((by rw [hg]; exact Nat.ne_of_gt (lt_ BK140.out) : gb141 ≠ gb140)); replace BK140 := Aside0.mk (bb BK140.out hb); replace HB := Aside0.mk (below_step (bl1 HB.out GE140.out) hb); clear hb hbox hg) | ((with_reducible refine gate_dst (N := 10) rfl ?_); refine be 10 (#[.int .i64 0, .int .i64 0]) 89 ?_; intro gb142 hg w20 hbox hb; have BK142 := Aside0.mk (hbox); have GW142 := Aside0.mk ((by rw [hg]; exact (below_size (bl2 HB.out GE140.out GE141.out)) : w.heap.size ≤ gb142)); have GE142 := GW142; have NB140_142 := Aside0.mk ((by rw [hg]; exact Nat.ne_of_lt (lt_ BK140.out) : gb140 ≠ gb142)); have NB142_140 := Aside0.mk ((by rw [hg]; exact Nat.ne_of_gt (lt_ BK140.out) : gb142 ≠ gb140)); have NB141_142 := Aside0.mk ((by rw [hg]; exact Nat.ne_of_lt (lt_ BK141.out) : gb141 ≠ gb142)); have NB142_141 := Aside0.mk ((by rw [hg]; exact Nat.ne_of_gt (lt_ BK141.out) : gb142 ≠ gb141)); replace BK140 := Aside0.mk (bb BK140.out hb); replace BK141 := Aside0.mk (bb BK141.out hb); replace HB := Aside0.mk (below_step (bl2 HB.out GE140.out GE141.out) hb); clear hb hbox hg; have hnb21 := NB142_140.out; have hnc21 := NB140_142.out; have hnb22 := NB142_141.out; have hnc22 := NB141_142.out; have hcz23_0 : w20.cell? ⟨gb142, 0, none⟩ = some (.int .i64 0) := (blk_cell BK142.out 0).trans rfl; have hcz23_1 : w20.cell? ⟨gb142, 1, none⟩ = some (.int .i64 0) := (blk_cell BK142.out 1).trans rfl; have hfz23_0 := blk_frozen BK142.out 0; have hfz23_1 := blk_frozen BK142.out 1) | ((with_reducible refine gate_callee (f := 63) rfl ?_); refine goesL_ (some 16) rfl rfl Try.func63 (by kernel_rfl) rfl #[.agg #[.int .i64 a2, .int .i64 a3]] rfl am ?_; (with_reducible refine (line_scale_right.calls a2 a3 true _ A5.out).mono ?_); rintro e w24 ⟨rfl, hb⟩; refine ⟨_, rfl, ?_⟩; replace BK140 := Aside0.mk (blk_below (g := gb140) (o := .cells #[.int .u64 a0_0, .int .u64 a0_1] 49 (0, 0)) (by (with_reducible repeat (first | refine blk_drewN ?_ _ | refine blk_drew ?_ | refine blk_alloc ?_ _)); refine blk_far ?_ NB140_142.out _; (with_reducible repeat (first | refine blk_drewN ?_ _ | refine blk_drew ?_ | refine blk_alloc ?_ _)); refine blk_far ?_ NB140_142.out _; (with_reducible repeat (first | refine blk_drewN ?_ _ | refine blk_drew ?_ | refine blk_alloc ?_ _)); exact BK140.out) hb); replace BK141 := Aside0.mk (blk_below (g := gb141) (o := .cells #[.int .u64 a1_0, .int .u64 a1_1] 49 (0, 0)) (by (with_reducible repeat (first | refine blk_drewN ?_ _ | refine blk_drew ?_ | refine blk_alloc ?_ _)); refine blk_far ?_ NB141_142.out _; (with_reducible repeat (first | refine blk_drewN ?_ _ | refine blk_drew ?_ | refine blk_alloc ?_ _)); refine blk_far ?_ NB141_142.out _; (with_reducible repeat (first | refine blk_drewN ?_ _ | refine blk_drew ?_ | refine blk_alloc ?_ _)); exact BK141.out) hb); replace BK142 := Aside0.mk (blk_below (g := gb142) (o := .cells #[.int .i64 a2, .int .i64 a3] 89 (0, 0)) (bk (blk_put (cs := #[.int .i64 a2, .int .i64 0]) (bk (blk_put (cs := #[.int .i64 0, .int .i64 0]) (bk BK142.out) 0 _ rfl)) 1 _ rfl)) hb); replace HB := Aside0.mk (below_step (bl3 HB.out GE140.out GE141.out GE142.out) hb); (try clear hb); (try clear hb2); (try clear hk); (try clear hi); have hnb25 := NB141_140.out; have hnc25 := NB140_141.out; have hcz26_0 : w24.cell? ⟨gb141, 0, none⟩ = some (.int .u64 a1_0) := (blk_cell BK141.out 0).trans rfl; have hcz26_1 : w24.cell? ⟨gb141, 1, none⟩ = some (.int .u64 a1_1) := (blk_cell BK141.out 1).trans rfl; have hfz26_0 := blk_frozen BK141.out 0; have hfz26_1 := blk_frozen BK141.out 1; have hcz27_0 : w24.cell? ⟨gb142, 0, none⟩ = some (.int .i64 a2) := (blk_cell BK142.out 0).trans rfl; have hcz27_1 : w24.cell? ⟨gb142, 1, none⟩ = some (.int .i64 a3) := (blk_cell BK142.out 1).trans rfl; have hfz27_0 := blk_frozen BK142.out 0; have hfz27_1 := blk_frozen BK142.out 1; have hcz28_0 : w24.cell? ⟨gb140, 0, none⟩ = some (.int .u64 a0_0) := (blk_cell BK140.out 0).trans rfl; have hcz28_1 : w24.cell? ⟨gb140, 1, none⟩ = some (.int .u64 a0_1) := (blk_cell BK140.out 1).trans rfl; have hfz28_0 := blk_frozen BK140.out 0; have hfz28_1 := blk_frozen BK140.out 1) | ((with_reducible refine gate_callee (f := 64) rfl ?_); refine goesL_ (some 25) rfl rfl Try.func64 (by kernel_rfl) rfl #[.agg #[.int .i64 a2, .int .i64 a3], .agg #[.int .u64 a0_0, .int .u64 a0_1], .agg #[.int .u64 a1_0, .int .u64 a1_1]] rfl am ?_; (with_reducible refine (line_scale_level.calls k a2 a3 a0_0 a0_1 a1_0 a1_1 t144 _ A17.out).mono ?_); rintro e w29 ⟨rfl, hb⟩; refine ⟨_, rfl, ?_⟩; replace BK140 := Aside0.mk (bb BK140.out hb); replace BK141 := Aside0.mk (bb BK141.out hb); replace BK142 := Aside0.mk (bb BK142.out hb); replace HB := Aside0.mk (below_step (bl3 HB.out GE140.out GE141.out GE142.out) hb); (try clear hb); (try clear hb2); (try clear hk); (try clear hi)))
   go_ret2
   exact ⟨by first | rfl | (simp [errW_none, errW_some] <;> rfl) | (simp [*, errW_none, errW_some] <;> rfl), bl3 HB.out GE140.out GE141.out GE142.out⟩
 ·replace c6 := Bool.eq_false_iff.mpr c6
  subst c6
  have H1 : (some (0, 1)) = some (r1, r2) := by rw [if_neg (show ¬ (false = true) by decide)] at H; exact H
  clear H
  have H := H1
  clear H1
  simp only [Option.some.injEq, Prod.mk.injEq] at H
  obtain ⟨rfl, rfl⟩ := H
  go_enter Try.func38, Try.ntmps38
  go_wp2_with (first | ((with_reducible refine gate_dst (N := 4) rfl ?_); refine be 4 (#[.int .u64 a0_0, .int .u64 a0_1]) 49 ?_; intro gb140 hg w30 hbox hb; have BK140 := Aside0.mk (hbox); have GW140 := Aside0.mk ((by rw [hg]; exact (below_size (bl0 HB.out)) : w.heap.size ≤ gb140)); have GE140 := GW140; replace HB := Aside0.mk (below_step (bl0 HB.out) hb); clear hb hbox hg) | ((with_reducible refine gate_dst (N := 5) rfl ?_); refine be 5 (#[.int .u64 a1_0, .int .u64 a1_1]) 49 ?_; intro gb141 hg w31 hbox hb; have BK141 := Aside0.mk (hbox); have GW141 := Aside0.mk ((by rw [hg]; exact (below_size (bl1 HB.out GE140.out)) : w.heap.size ≤ gb141)); have GE141 := GW141; have NB140_141 := Aside0.mk ((by rw [hg]; exact Nat.ne_of_lt (lt_ BK140.out) : gb140 ≠ gb141)); have NB141_140 := Aside0.mk ((by rw [hg]; exact Nat.ne_of_gt (lt_ BK140.out) : gb141 ≠ gb140)); replace BK140 := Aside0.mk (bb BK140.out hb); replace HB := Aside0.mk (below_step (bl1 HB.out GE140.out) hb); clear hb hbox hg) | ((with_reducible refine gate_dst (N := 10) rfl ?_); refine be 10 (#[.int .i64 0, .int .i64 0]) 89 ?_; intro gb142 hg w32 hbox hb; have BK142 := Aside0.mk (hbox); have GW142 := Aside0.mk ((by rw [hg]; exact (below_size (bl2 HB.out GE140.out GE141.out)) : w.heap.size ≤ gb142)); have GE142 := GW142; have NB140_142 := Aside0.mk ((by rw [hg]; exact Nat.ne_of_lt (lt_ BK140.out) : gb140 ≠ gb142)); have NB142_140 := Aside0.mk ((by rw [hg]; exact Nat.ne_of_gt (lt_ BK140.out) : gb142 ≠ gb140)); have NB141_142 := Aside0.mk ((by rw [hg]; exact Nat.ne_of_lt (lt_ BK141.out) : gb141 ≠ gb142)); have NB142_141 := Aside0.mk ((by rw [hg]; exact Nat.ne_of_gt (lt_ BK141.out) : gb142 ≠ gb141)); replace BK140 := Aside0.mk (bb BK140.out hb); replace BK141 := Aside0.mk (bb BK141.out hb); replace HB := Aside0.mk (below_step (bl2 HB.out GE140.out GE141.out) hb); clear hb hbox hg; have hnb33 := NB142_140.out; have hnc33 := NB140_142.out; have hnb34 := NB142_141.out; have hnc34 := NB141_142.out; have hcz35_0 : w32.cell? ⟨gb142, 0, none⟩ = some (.int .i64 0) := (blk_cell BK142.out 0).trans rfl; have hcz35_1 : w32.cell? ⟨gb142, 1, none⟩ = some (.int .i64 0) := (blk_cell BK142.out 1).trans rfl; have hfz35_0 := blk_frozen BK142.out 0; have hfz35_1 := blk_frozen BK142.out 1) | ((with_reducible refine gate_callee (f := 63) rfl ?_); refine goesL_ (some 16) rfl rfl Try.func63 (by kernel_rfl) rfl #[.agg #[.int .i64 a2, .int .i64 a3]] rfl am ?_; (with_reducible refine (line_scale_right.calls a2 a3 false _ A5.out).mono ?_); rintro e w36 ⟨rfl, hb⟩; refine ⟨_, rfl, ?_⟩; replace BK140 := Aside0.mk (blk_below (g := gb140) (o := .cells #[.int .u64 a0_0, .int .u64 a0_1] 49 (0, 0)) (by (with_reducible repeat (first | refine blk_drewN ?_ _ | refine blk_drew ?_ | refine blk_alloc ?_ _)); refine blk_far ?_ NB140_142.out _; (with_reducible repeat (first | refine blk_drewN ?_ _ | refine blk_drew ?_ | refine blk_alloc ?_ _)); refine blk_far ?_ NB140_142.out _; (with_reducible repeat (first | refine blk_drewN ?_ _ | refine blk_drew ?_ | refine blk_alloc ?_ _)); exact BK140.out) hb); replace BK141 := Aside0.mk (blk_below (g := gb141) (o := .cells #[.int .u64 a1_0, .int .u64 a1_1] 49 (0, 0)) (by (with_reducible repeat (first | refine blk_drewN ?_ _ | refine blk_drew ?_ | refine blk_alloc ?_ _)); refine blk_far ?_ NB141_142.out _; (with_reducible repeat (first | refine blk_drewN ?_ _ | refine blk_drew ?_ | refine blk_alloc ?_ _)); refine blk_far ?_ NB141_142.out _; (with_reducible repeat (first | refine blk_drewN ?_ _ | refine blk_drew ?_ | refine blk_alloc ?_ _)); exact BK141.out) hb); replace BK142 := Aside0.mk (blk_below (g := gb142) (o := .cells #[.int .i64 a2, .int .i64 a3] 89 (0, 0)) (bk (blk_put (cs := #[.int .i64 a2, .int .i64 0]) (bk (blk_put (cs := #[.int .i64 0, .int .i64 0]) (bk BK142.out) 0 _ rfl)) 1 _ rfl)) hb); replace HB := Aside0.mk (below_step (bl3 HB.out GE140.out GE141.out GE142.out) hb); (try clear hb); (try clear hb2); (try clear hk); (try clear hi)))
  go_ret2
  exact ⟨by first | rfl | (simp [errW_none, errW_some] <;> rfl) | (simp [*, errW_none, errW_some] <;> rfl), bl3 HB.out GE140.out GE141.out GE142.out⟩

/-! ### plane_May: function 20 -/
def plane_May.f (a0_0 : Int) (a0_1 : Int) : Option (Bool) := if a0_0 ≥ (-33554432) then (if a0_0 ≤ 33554432 then (if a0_1 ≥ (-33554432) then (some (decide (a0_1 ≤ 33554432))) else (some false)) else (some false)) else (some false)
set_option maxHeartbeats 8000000 in
set_option maxRecDepth 100000 in
theorem plane_May.calls (a0_0 : Int) (a0_1 : Int) (r : Bool) (w : World) (h : plane_May.f a0_0 a0_1 = some r) :
  Calls Try.prog 20 #[.agg #[.int .i64 a0_0, .int .i64 a0_1]] w fun e w' => e = .returned (.bool r) ∧ Below w.heap.size w w' := by
 have hu26 := Try.underlying26
 have HB := Aside0.mk (Below.refl w.heap.size w)
 have H : (if a0_0 ≥ (-33554432) then (if a0_0 ≤ 33554432 then (if a0_1 ≥ (-33554432) then (some (decide (a0_1 ≤ 33554432))) else (some false)) else (some false)) else (some false)) = some r := h
 clear h
 by_cases c2 : a0_0 ≥ (-33554432)
 ·rw [if_pos c2] at H
  have c2b0 : decide ((-33554432) ≤ a0_0) = true := decide_eq_true c2
  clear c2
  by_cases c3 : a0_0 ≤ 33554432
  ·rw [if_pos c3] at H
   have c3b0 : decide (a0_0 ≤ 33554432) = true := decide_eq_true c3
   clear c3
   by_cases c4 : a0_1 ≥ (-33554432)
   ·rw [if_pos c4] at H
    have c4b0 : decide ((-33554432) ≤ a0_1) = true := decide_eq_true c4
    clear c4
    obtain rfl := Option.some.inj H
    go_enter Try.func20, Try.ntmps20
    go_wp2_with (first | ((with_reducible refine gate_dst (N := 1) rfl ?_); refine be 1 (#[.int .i64 a0_0, .int .i64 a0_1]) 26 ?_; intro gb145 hg w5 hbox hb; have BK145 := Aside0.mk (hbox); have GW145 := Aside0.mk ((by rw [hg]; exact (below_size (bl0 HB.out)) : w.heap.size ≤ gb145)); have GE145 := GW145; replace HB := Aside0.mk (below_step (bl0 HB.out) hb); clear hb hbox hg; have hcz6_0 : w5.cell? ⟨gb145, 0, none⟩ = some (.int .i64 a0_0) := (blk_cell BK145.out 0).trans rfl; have hcz6_1 : w5.cell? ⟨gb145, 1, none⟩ = some (.int .i64 a0_1) := (blk_cell BK145.out 1).trans rfl; have hfz6_0 := blk_frozen BK145.out 0; have hfz6_1 := blk_frozen BK145.out 1))
    go_ret
    exact ⟨by first | rfl | (simp [errW_none, errW_some] <;> rfl) | (simp [*, errW_none, errW_some] <;> rfl), bl1 HB.out GE145.out⟩
   ·rw [if_neg c4] at H
    have c4b0 : decide ((-33554432) ≤ a0_1) = false := decide_eq_false c4
    clear c4
    obtain rfl := Option.some.inj H
    go_enter Try.func20, Try.ntmps20
    go_wp2_with (first | ((with_reducible refine gate_dst (N := 1) rfl ?_); refine be 1 (#[.int .i64 a0_0, .int .i64 a0_1]) 26 ?_; intro gb145 hg w7 hbox hb; have BK145 := Aside0.mk (hbox); have GW145 := Aside0.mk ((by rw [hg]; exact (below_size (bl0 HB.out)) : w.heap.size ≤ gb145)); have GE145 := GW145; replace HB := Aside0.mk (below_step (bl0 HB.out) hb); clear hb hbox hg; have hcz8_0 : w7.cell? ⟨gb145, 0, none⟩ = some (.int .i64 a0_0) := (blk_cell BK145.out 0).trans rfl; have hcz8_1 : w7.cell? ⟨gb145, 1, none⟩ = some (.int .i64 a0_1) := (blk_cell BK145.out 1).trans rfl; have hfz8_0 := blk_frozen BK145.out 0; have hfz8_1 := blk_frozen BK145.out 1))
    go_ret
    exact ⟨by first | rfl | (simp [errW_none, errW_some] <;> rfl) | (simp [*, errW_none, errW_some] <;> rfl), bl1 HB.out GE145.out⟩
  ·rw [if_neg c3] at H
   have c3b0 : decide (a0_0 ≤ 33554432) = false := decide_eq_false c3
   clear c3
   obtain rfl := Option.some.inj H
   go_enter Try.func20, Try.ntmps20
   go_wp2_with (first | ((with_reducible refine gate_dst (N := 1) rfl ?_); refine be 1 (#[.int .i64 a0_0, .int .i64 a0_1]) 26 ?_; intro gb145 hg w9 hbox hb; have BK145 := Aside0.mk (hbox); have GW145 := Aside0.mk ((by rw [hg]; exact (below_size (bl0 HB.out)) : w.heap.size ≤ gb145)); have GE145 := GW145; replace HB := Aside0.mk (below_step (bl0 HB.out) hb); clear hb hbox hg; have hcz10_0 : w9.cell? ⟨gb145, 0, none⟩ = some (.int .i64 a0_0) := (blk_cell BK145.out 0).trans rfl; have hcz10_1 : w9.cell? ⟨gb145, 1, none⟩ = some (.int .i64 a0_1) := (blk_cell BK145.out 1).trans rfl; have hfz10_0 := blk_frozen BK145.out 0; have hfz10_1 := blk_frozen BK145.out 1))
   go_ret
   exact ⟨by first | rfl | (simp [errW_none, errW_some] <;> rfl) | (simp [*, errW_none, errW_some] <;> rfl), bl1 HB.out GE145.out⟩
 ·rw [if_neg c2] at H
  have c2b0 : decide ((-33554432) ≤ a0_0) = false := decide_eq_false c2
  clear c2
  obtain rfl := Option.some.inj H
  go_enter Try.func20, Try.ntmps20
  go_wp2_with (first | ((with_reducible refine gate_dst (N := 1) rfl ?_); refine be 1 (#[.int .i64 a0_0, .int .i64 a0_1]) 26 ?_; intro gb145 hg w11 hbox hb; have BK145 := Aside0.mk (hbox); have GW145 := Aside0.mk ((by rw [hg]; exact (below_size (bl0 HB.out)) : w.heap.size ≤ gb145)); have GE145 := GW145; replace HB := Aside0.mk (below_step (bl0 HB.out) hb); clear hb hbox hg; have hcz12_0 : w11.cell? ⟨gb145, 0, none⟩ = some (.int .i64 a0_0) := (blk_cell BK145.out 0).trans rfl; have hcz12_1 : w11.cell? ⟨gb145, 1, none⟩ = some (.int .i64 a0_1) := (blk_cell BK145.out 1).trans rfl; have hfz12_0 := blk_frozen BK145.out 0; have hfz12_1 := blk_frozen BK145.out 1))
  go_ret
  exact ⟨by first | rfl | (simp [errW_none, errW_some] <;> rfl) | (simp [*, errW_none, errW_some] <;> rfl), bl1 HB.out GE145.out⟩

end Go.Proofs.Ytemhnlameekmkaa.XLine
