-- Printed by a program of this claim. Not trusted: Lean checks it.
import Derived.Test.YtemhnlameekmkaaXPlanx0
namespace Go.Proofs.Ytemhnlameekmkaa.XPlan
open Go.RowKit Go.Proofs.YtemhnlameekmkaaW.PrintWords Go.Proofs.YtemhnlameekmkaaW.PrintLast Go.Proofs.YtemhnlameekmkaaW.PrintMore
attribute [local go_sem] max2_int min2_int max_two min_two max_three min_three max_four min_four   -- for this text's walks alone
set_option linter.unusedVariables false
set_option linter.unusedSimpArgs false
open XOpen

/-! ### plane_May: function 20 -/
def plane_May.f (a0_0 : Int) (a0_1 : Int) : Option (Bool) := if a0_0 ≥ (-33554432) then (if a0_0 ≤ 33554432 then (if a0_1 ≥ (-33554432) then (some (decide (a0_1 ≤ 33554432))) else (some false)) else (some false)) else (some false)
set_option maxHeartbeats 8000000 in
set_option maxRecDepth 100000 in
theorem plane_May.calls (a0_0 : Int) (a0_1 : Int) (r : Bool) (w : World) (h : plane_May.f a0_0 a0_1 = some r) :
  Calls Try.prog 20 #[.agg #[.int .i64 a0_0, .int .i64 a0_1]] w fun e w' => e = .returned (.bool r) ∧ Below w.heap.size w w' := by
 have hu26 := Try.underlying26
 have HB := Aside0.mk (Below.refl w.heap.size w)
 have H : (if a0_0 ≥ (-33554432) then (if a0_0 ≤ 33554432 then (if a0_1 ≥ (-33554432) then (some (decide (a0_1 ≤ 33554432))) else (some false)) else (some false)) else (some false)) = some r := h
 clear h
 by_cases c2 : a0_0 ≥ (-33554432)
 ·rw [if_pos c2] at H
  have c2b0 : decide ((-33554432) ≤ a0_0) = true := decide_eq_true c2
  clear c2
  by_cases c3 : a0_0 ≤ 33554432
  ·rw [if_pos c3] at H
   have c3b0 : decide (a0_0 ≤ 33554432) = true := decide_eq_true c3
   clear c3
   by_cases c4 : a0_1 ≥ (-33554432)
   ·rw [if_pos c4] at H
    have c4b0 : decide ((-33554432) ≤ a0_1) = true := decide_eq_true c4
    clear c4
    obtain rfl := Option.some.inj H
    go_enter Try.func20, Try.ntmps20
    go_wp2_with (first | ((with_reducible refine gate_dst (N := 1) rfl ?_); refine be 1 (#[.int .i64 a0_0, .int .i64 a0_1]) 26 ?_; intro gb101 hg w5 hbox hb; have BK101 := Aside0.mk (hbox); have GW101 := Aside0.mk ((by rw [hg]; exact (below_size (bl0 HB.out)) : w.heap.size ≤ gb101)); have GE101 := GW101; replace HB := Aside0.mk (below_step (bl0 HB.out) hb); clear hb hbox hg; have hcz6_0 : w5.cell? ⟨gb101, 0, none⟩ = some (.int .i64 a0_0) := (blk_cell BK101.out 0).trans rfl; have hcz6_1 : w5.cell? ⟨gb101, 1, none⟩ = some (.int .i64 a0_1) := (blk_cell BK101.out 1).trans rfl; have hfz6_0 := blk_frozen BK101.out 0; have hfz6_1 := blk_frozen BK101.out 1))
    go_ret
    exact ⟨by first | rfl | (simp [errW_none, errW_some] <;> rfl) | (simp [*, errW_none, errW_some] <;> rfl), bl1 HB.out GE101.out⟩
   ·rw [if_neg c4] at H
    have c4b0 : decide ((-33554432) ≤ a0_1) = false := decide_eq_false c4
    clear c4
    obtain rfl := Option.some.inj H
    go_enter Try.func20, Try.ntmps20
    go_wp2_with (first | ((with_reducible refine gate_dst (N := 1) rfl ?_); refine be 1 (#[.int .i64 a0_0, .int .i64 a0_1]) 26 ?_; intro gb101 hg w7 hbox hb; have BK101 := Aside0.mk (hbox); have GW101 := Aside0.mk ((by rw [hg]; exact (below_size (bl0 HB.out)) : w.heap.size ≤ gb101)); have GE101 := GW101; replace HB := Aside0.mk (below_step (bl0 HB.out) hb); clear hb hbox hg; have hcz8_0 : w7.cell? ⟨gb101, 0, none⟩ = some (.int .i64 a0_0) := (blk_cell BK101.out 0).trans rfl; have hcz8_1 : w7.cell? ⟨gb101, 1, none⟩ = some (.int .i64 a0_1) := (blk_cell BK101.out 1).trans rfl; have hfz8_0 := blk_frozen BK101.out 0; have hfz8_1 := blk_frozen BK101.out 1))
    go_ret
    exact ⟨by first | rfl | (simp [errW_none, errW_some] <;> rfl) | (simp [*, errW_none, errW_some] <;> rfl), bl1 HB.out GE101.out⟩
  ·rw [if_neg c3] at H
   have c3b0 : decide (a0_0 ≤ 33554432) = false := decide_eq_false c3
   clear c3
   obtain rfl := Option.some.inj H
   go_enter Try.func20, Try.ntmps20
   go_wp2_with (first | ((with_reducible refine gate_dst (N := 1) rfl ?_); refine be 1 (#[.int .i64 a0_0, .int .i64 a0_1]) 26 ?_; intro gb101 hg w9 hbox hb; have BK101 := Aside0.mk (hbox); have GW101 := Aside0.mk ((by rw [hg]; exact (below_size (bl0 HB.out)) : w.heap.size ≤ gb101)); have GE101 := GW101; replace HB := Aside0.mk (below_step (bl0 HB.out) hb); clear hb hbox hg; have hcz10_0 : w9.cell? ⟨gb101, 0, none⟩ = some (.int .i64 a0_0) := (blk_cell BK101.out 0).trans rfl; have hcz10_1 : w9.cell? ⟨gb101, 1, none⟩ = some (.int .i64 a0_1) := (blk_cell BK101.out 1).trans rfl; have hfz10_0 := blk_frozen BK101.out 0; have hfz10_1 := blk_frozen BK101.out 1))
   go_ret
   exact ⟨by first | rfl | (simp [errW_none, errW_some] <;> rfl) | (simp [*, errW_none, errW_some] <;> rfl), bl1 HB.out GE101.out⟩
 ·rw [if_neg c2] at H
  have c2b0 : decide ((-33554432) ≤ a0_0) = false := decide_eq_false c2
  clear c2
  obtain rfl := Option.some.inj H
  go_enter Try.func20, Try.ntmps20
  go_wp2_with (first | ((with_reducible refine gate_dst (N := 1) rfl ?_); refine be 1 (#[.int .i64 a0_0, .int .i64 a0_1]) 26 ?_; intro gb101 hg w11 hbox hb; have BK101 := Aside0.mk (hbox); have GW101 := Aside0.mk ((by rw [hg]; exact (below_size (bl0 HB.out)) : w.heap.size ≤ gb101)); have GE101 := GW101; replace HB := Aside0.mk (below_step (bl0 HB.out) hb); clear hb hbox hg; have hcz12_0 : w11.cell? ⟨gb101, 0, none⟩ = some (.int .i64 a0_0) := (blk_cell BK101.out 0).trans rfl; have hcz12_1 : w11.cell? ⟨gb101, 1, none⟩ = some (.int .i64 a0_1) := (blk_cell BK101.out 1).trans rfl; have hfz12_0 := blk_frozen BK101.out 0; have hfz12_1 := blk_frozen BK101.out 1))
  go_ret
  exact ⟨by first | rfl | (simp [errW_none, errW_some] <;> rfl) | (simp [*, errW_none, errW_some] <;> rfl), bl1 HB.out GE101.out⟩

/-! ### plane_asked: function 47 -/
def plane_asked.l0 : Nat → List (S26) → Int → Int → Option (Int)
 | 0, _, _, _ => none
 | k + 1, x5, x6, x7 => if x7 < x6 then (if 0 ≤ x7 then (if x7 < (x5.length : Int) then ((plane_May.f ((rd_T26 x5 x7).f0) ((rd_T26 x5 x7).f1)).bind fun t104 => (if t104 = true then (plane_asked.l0 k x5 x6 (wrap64 (x7 + 1))) else (some 1))) else (none)) else (none)) else (some 0)
def plane_asked.f (k : Nat) (l0 : List (S26)) : Option (Int) := plane_asked.l0 k l0 (l0.length : Int) 0
theorem plane_asked.mono_l : ∀ k, (∀ y0 y1 y2, LeO (plane_asked.l0 k y0 y1 y2) (plane_asked.l0 (k + 1) y0 y1 y2))
 | 0 => fun _ _ _ r h => by simp [plane_asked.l0] at h
 | k + 1 => by
  have ih0 := plane_asked.mono_l k
  ·intro y0 y1 y2
   unfold plane_asked.l0
   repeat' first
   | (with_reducible exact ih0 _ _ _)
   | (with_reducible exact LeO.refl _)
   | (with_reducible exact LeO.none _)
   | (with_reducible refine LeO.ite ?_ ?_)
   | (with_reducible refine LeO.bind ?_ (fun _ => ?_))
   | exact ih0 _ _ _
   | exact LeO.none _
   | refine LeO.ite ?_ ?_
   | refine LeO.bind ?_ (fun _ => ?_)
theorem plane_asked.mono : ∀ a0 k, LeO (plane_asked.f k a0) (plane_asked.f (k + 1) a0) := by
 intro a0 k
 have ih0 := plane_asked.mono_l k
 unfold plane_asked.f
 repeat' first
   | (with_reducible exact ih0 _ _ _)
   | (with_reducible exact LeO.refl _)
   | (with_reducible exact LeO.none _)
   | (with_reducible refine LeO.ite ?_ ?_)
   | (with_reducible refine LeO.bind ?_ (fun _ => ?_))
   | exact ih0 _ _ _
   | exact LeO.none _
   | refine LeO.ite ?_ ?_
   | refine LeO.bind ?_ (fun _ => ?_)
set_option maxHeartbeats 8000000 in
set_option maxRecDepth 100000 in
theorem plane_asked.calls (k : Nat) (A0 : Option Addr) (c0 : Nat) (l0 : List (S26)) (r : Int) (w : World) (hr0 : Kd.C k26 w A0 l0.length l0) (hc0 : l0.length ≤ c0) (h : plane_asked.f k l0 = some r) :
  Calls Try.prog 47 #[.slice A0 l0.length c0] w fun e w' => e = .returned (.int .i64 r) ∧ Below w.heap.size w w' := by
 have hu26 := Try.underlying26
 have HR0 := Aside0.mk hr0
 have HC0 := Aside0.mk hc0
 clear hr0 hc0
 have HB := Aside0.mk (Below.refl w.heap.size w)
 have H : (plane_asked.l0 k l0 (l0.length : Int) 0) = some r := h
 clear h
 have H' := Aside0.mk H
 clear H
 go_enter Try.func47, Try.ntmps47
 go_wp2
 go_loopg [7] k (fun kq v7 w' => ∃ (x7_1 : Int), v7 = .int .i64 x7_1 ∧ Aside0 (plane_asked.l0 kq l0 (l0.length : Int) x7_1 = some r) ∧ Aside0 (kq ≤ k) ∧ Aside0 (Below w.heap.size w w'))
 case atStart => exact ⟨(0), fr, H', ⟨Nat.le_refl _⟩, ⟨bl0 HB.out⟩⟩
 case round =>
  clear H'
  obtain ⟨x7_1, rfl, HA, HK1, HB⟩ := hrel
  cases gk with
  | zero => exact absurd HA.out (by simp [plane_asked.l0])
  | succ k1 =>
   have H := HA.out
   clear HA
   simp only [plane_asked.l0] at H
   by_cases c2 : x7_1 < (l0.length : Int)
   ·rw [if_pos c2] at H
    have c2b0 : decide (x7_1 < (l0.length : Int)) = true := decide_eq_true c2
    clear c2
    by_cases c3 : 0 ≤ x7_1
    ·rw [if_pos c3] at H
     have c3b0 : decide (0 ≤ x7_1) = true := decide_eq_true c3
     clear c3
     by_cases c4 : x7_1 < (l0.length : Int)
     ·rw [if_pos c4] at H
      have c4b0 : decide (x7_1 < (l0.length : Int)) = true := decide_eq_true c4
      clear c4
      replace H := Option.bind_eq_some_iff.mp H
      obtain ⟨t104, A50, H⟩ := H
      replace H : (if t104 = true then (plane_asked.l0 k1 l0 (l0.length : Int) (wrap64 (x7_1 + 1))) else (some 1)) = some r := H
      have A5 := Aside0.mk A50
      clear A50
      by_cases c6 : t104 = true
      ·subst c6
       have H1 : (plane_asked.l0 k1 l0 (l0.length : Int) (wrap64 (x7_1 + 1))) = some r := by rw [if_pos rfl] at H; exact H
       clear H
       have H := H1
       clear H1
       have H' := Aside0.mk H
       clear H
       have p102 : 0 ≤ (x7_1 : Int) := of_decide_eq_true (by first | (with_reducible assumption) | assumption)
       have q102 : x7_1 < (l0.length : Int) := of_decide_eq_true (by first | (with_reducible assumption) | assumption)
       obtain ⟨ad102, e102, hx102_0, hx102_1⟩ := at_T26 HR0.out x7_1 p102 q102
       cases e102
       replace hx102_0 := (HB.out.cell (World.block_lt_of_cell? w _ hx102_0)).trans hx102_0
       replace hx102_1 := (HB.out.cell (World.block_lt_of_cell? w _ hx102_1)).trans hx102_1
       replace p102 := eq_true p102
       replace q102 := eq_true q102
       go_wp2_with (first | ((with_reducible refine gate_dst (N := 4) rfl ?_); refine be 4 (#[.int .i64 0, .int .i64 0]) 26 ?_; intro gb103 hg w7 hbox hb; have BK103 := Aside0.mk (hbox); have GW103 := Aside0.mk ((by rw [hg]; exact (below_size (bl0 HB.out)) : w.heap.size ≤ gb103)); have GE103 := GW103; replace HB := Aside0.mk (below_step (bl0 HB.out) hb); clear hb hbox hg; have hcz8_0 : w7.cell? ⟨gb103, 0, none⟩ = some (.int .i64 0) := (blk_cell BK103.out 0).trans rfl; have hcz8_1 : w7.cell? ⟨gb103, 1, none⟩ = some (.int .i64 0) := (blk_cell BK103.out 1).trans rfl; have hfz8_0 := blk_frozen BK103.out 0; have hfz8_1 := blk_frozen BK103.out 1) | ((with_reducible refine gate_callee (f := 20) rfl ?_); refine goesL_ (some 12) rfl rfl Try.func20 (by kernel_rfl) rfl #[.agg #[.int .i64 ((rd_T26 l0 x7_1).f0), .int .i64 ((rd_T26 l0 x7_1).f1)]] rfl am ?_; (with_reducible refine (plane_May.calls ((rd_T26 l0 x7_1).f0) ((rd_T26 l0 x7_1).f1) true _ A5.out).mono ?_); rintro e w9 ⟨rfl, hb⟩; refine ⟨_, rfl, ?_⟩; replace BK103 := Aside0.mk (blk_below (g := gb103) (o := .cells #[.int .i64 ((rd_T26 l0 x7_1).f0), .int .i64 ((rd_T26 l0 x7_1).f1)] 26 (0, 0)) (bk (blk_put (cs := #[.int .i64 ((rd_T26 l0 x7_1).f0), .int .i64 0]) (bk (blk_put (cs := #[.int .i64 0, .int .i64 0]) (bk BK103.out) 0 _ rfl)) 1 _ rfl)) hb); replace HB := Aside0.mk (below_step (bl1 HB.out GE103.out) hb); (try clear hb); (try clear hb2); (try clear hk); (try clear hi)))
       go_roundg k1
       case measure => have := HK1.out; omega
       case rel => exact ⟨(wrap64 (x7_1 + 1)), fr, H', ⟨by have := HK1.out; omega⟩, ⟨bl1 HB.out GE103.out⟩⟩
      ·replace c6 := Bool.eq_false_iff.mpr c6
       subst c6
       have H1 : (some 1) = some r := by rw [if_neg (show ¬ (false = true) by decide)] at H; exact H
       clear H
       have H := H1
       clear H1
       obtain rfl := Option.some.inj H
       have p102 : 0 ≤ (x7_1 : Int) := of_decide_eq_true (by first | (with_reducible assumption) | assumption)
       have q102 : x7_1 < (l0.length : Int) := of_decide_eq_true (by first | (with_reducible assumption) | assumption)
       obtain ⟨ad102, e102, hx102_0, hx102_1⟩ := at_T26 HR0.out x7_1 p102 q102
       cases e102
       replace hx102_0 := (HB.out.cell (World.block_lt_of_cell? w _ hx102_0)).trans hx102_0
       replace hx102_1 := (HB.out.cell (World.block_lt_of_cell? w _ hx102_1)).trans hx102_1
       replace p102 := eq_true p102
       replace q102 := eq_true q102
       go_wp2_with (first | ((with_reducible refine gate_dst (N := 4) rfl ?_); refine be 4 (#[.int .i64 0, .int .i64 0]) 26 ?_; intro gb103 hg w10 hbox hb; have BK103 := Aside0.mk (hbox); have GW103 := Aside0.mk ((by rw [hg]; exact (below_size (bl0 HB.out)) : w.heap.size ≤ gb103)); have GE103 := GW103; replace HB := Aside0.mk (below_step (bl0 HB.out) hb); clear hb hbox hg; have hcz11_0 : w10.cell? ⟨gb103, 0, none⟩ = some (.int .i64 0) := (blk_cell BK103.out 0).trans rfl; have hcz11_1 : w10.cell? ⟨gb103, 1, none⟩ = some (.int .i64 0) := (blk_cell BK103.out 1).trans rfl; have hfz11_0 := blk_frozen BK103.out 0; have hfz11_1 := blk_frozen BK103.out 1) | ((with_reducible refine gate_callee (f := 20) rfl ?_); refine goesL_ (some 12) rfl rfl Try.func20 (by kernel_rfl) rfl #[.agg #[.int .i64 ((rd_T26 l0 x7_1).f0), .int .i64 ((rd_T26 l0 x7_1).f1)]] rfl am ?_; (with_reducible refine (plane_May.calls ((rd_T26 l0 x7_1).f0) ((rd_T26 l0 x7_1).f1) false _ A5.out).mono ?_); rintro e w12 ⟨rfl, hb⟩; refine ⟨_, rfl, ?_⟩; replace BK103 := Aside0.mk (blk_below (g := gb103) (o := .cells #[.int .i64 ((rd_T26 l0 x7_1).f0), .int .i64 ((rd_T26 l0 x7_1).f1)] 26 (0, 0)) (bk (blk_put (cs := #[.int .i64 ((rd_T26 l0 x7_1).f0), .int .i64 0]) (bk (blk_put (cs := #[.int .i64 0, .int .i64 0]) (bk BK103.out) 0 _ rfl)) 1 _ rfl)) hb); replace HB := Aside0.mk (below_step (bl1 HB.out GE103.out) hb); (try clear hb); (try clear hb2); (try clear hk); (try clear hi)))
       go_ret
       exact ⟨by first | rfl | (simp [errW_none, errW_some] <;> rfl) | (simp [*, errW_none, errW_some] <;> rfl), bl1 HB.out GE103.out⟩
     ·rw [if_neg c4] at H
      exact absurd H (by simp)
    ·rw [if_neg c3] at H
     exact absurd H (by simp)
   ·rw [if_neg c2] at H
    have c2b0 : decide (x7_1 < (l0.length : Int)) = false := decide_eq_false c2
    clear c2
    obtain rfl := Option.some.inj H
    go_wp2
    go_ret
    exact ⟨by first | rfl | (simp [errW_none, errW_some] <;> rfl) | (simp [*, errW_none, errW_some] <;> rfl), bl0 HB.out⟩

/-! ### plane_dot: function 52 -/
def plane_dot.f (a0_0 : Int) (a0_1 : Int) (a1_0 : Int) (a1_1 : Int) (a2_0 : Int) (a2_1 : Int) : Option (Int) := some (wrap64 ((wrap64 ((wrap64 (a1_0 - a0_0)) * (wrap64 (a2_0 - a0_0)))) + (wrap64 ((wrap64 (a1_1 - a0_1)) * (wrap64 (a2_1 - a0_1))))))
set_option maxHeartbeats 8000000 in
set_option maxRecDepth 100000 in
theorem plane_dot.calls (a0_0 : Int) (a0_1 : Int) (a1_0 : Int) (a1_1 : Int) (a2_0 : Int) (a2_1 : Int) (r : Int) (w : World) (h : plane_dot.f a0_0 a0_1 a1_0 a1_1 a2_0 a2_1 = some r) :
  Calls Try.prog 52 #[.agg #[.int .i64 a0_0, .int .i64 a0_1], .agg #[.int .i64 a1_0, .int .i64 a1_1], .agg #[.int .i64 a2_0, .int .i64 a2_1]] w fun e w' => e = .returned (.int .i64 r) ∧ Below w.heap.size w w' := by
 have hu26 := Try.underlying26
 have HB := Aside0.mk (Below.refl w.heap.size w)
 have H : (some (wrap64 ((wrap64 ((wrap64 (a1_0 - a0_0)) * (wrap64 (a2_0 - a0_0)))) + (wrap64 ((wrap64 (a1_1 - a0_1)) * (wrap64 (a2_1 - a0_1))))))) = some r := h
 clear h
 obtain rfl := Option.some.inj H
 go_enter Try.func52, Try.ntmps52
 go_wp2_with (first | ((with_reducible refine gate_dst (N := 3) rfl ?_); refine be 3 (#[.int .i64 a0_0, .int .i64 a0_1]) 26 ?_; intro gb105 hg w4 hbox hb; have BK105 := Aside0.mk (hbox); have GW105 := Aside0.mk ((by rw [hg]; exact (below_size (bl0 HB.out)) : w.heap.size ≤ gb105)); have GE105 := GW105; replace HB := Aside0.mk (below_step (bl0 HB.out) hb); clear hb hbox hg) | ((with_reducible refine gate_dst (N := 4) rfl ?_); refine be 4 (#[.int .i64 a1_0, .int .i64 a1_1]) 26 ?_; intro gb106 hg w5 hbox hb; have BK106 := Aside0.mk (hbox); have GW106 := Aside0.mk ((by rw [hg]; exact (below_size (bl1 HB.out GE105.out)) : w.heap.size ≤ gb106)); have GE106 := GW106; have NB105_106 := Aside0.mk ((by rw [hg]; exact Nat.ne_of_lt (lt_ BK105.out) : gb105 ≠ gb106)); have NB106_105 := Aside0.mk ((by rw [hg]; exact Nat.ne_of_gt (lt_ BK105.out) : gb106 ≠ gb105)); replace BK105 := Aside0.mk (bb BK105.out hb); replace HB := Aside0.mk (below_step (bl1 HB.out GE105.out) hb); clear hb hbox hg) | ((with_reducible refine gate_dst (N := 5) rfl ?_); refine be 5 (#[.int .i64 a2_0, .int .i64 a2_1]) 26 ?_; intro gb107 hg w6 hbox hb; have BK107 := Aside0.mk (hbox); have GW107 := Aside0.mk ((by rw [hg]; exact (below_size (bl2 HB.out GE105.out GE106.out)) : w.heap.size ≤ gb107)); have GE107 := GW107; have NB105_107 := Aside0.mk ((by rw [hg]; exact Nat.ne_of_lt (lt_ BK105.out) : gb105 ≠ gb107)); have NB107_105 := Aside0.mk ((by rw [hg]; exact Nat.ne_of_gt (lt_ BK105.out) : gb107 ≠ gb105)); have NB106_107 := Aside0.mk ((by rw [hg]; exact Nat.ne_of_lt (lt_ BK106.out) : gb106 ≠ gb107)); have NB107_106 := Aside0.mk ((by rw [hg]; exact Nat.ne_of_gt (lt_ BK106.out) : gb107 ≠ gb106)); replace BK105 := Aside0.mk (bb BK105.out hb); replace BK106 := Aside0.mk (bb BK106.out hb); replace HB := Aside0.mk (below_step (bl2 HB.out GE105.out GE106.out) hb); clear hb hbox hg; have hnb7 := NB106_105.out; have hnc7 := NB105_106.out; have hnb8 := NB106_107.out; have hnc8 := NB107_106.out; have hcz9_0 : w6.cell? ⟨gb106, 0, none⟩ = some (.int .i64 a1_0) := (blk_cell BK106.out 0).trans rfl; have hcz9_1 : w6.cell? ⟨gb106, 1, none⟩ = some (.int .i64 a1_1) := (blk_cell BK106.out 1).trans rfl; have hfz9_0 := blk_frozen BK106.out 0; have hfz9_1 := blk_frozen BK106.out 1; have hnb10 := NB105_107.out; have hnc10 := NB107_105.out; have hcz11_0 : w6.cell? ⟨gb105, 0, none⟩ = some (.int .i64 a0_0) := (blk_cell BK105.out 0).trans rfl; have hcz11_1 : w6.cell? ⟨gb105, 1, none⟩ = some (.int .i64 a0_1) := (blk_cell BK105.out 1).trans rfl; have hfz11_0 := blk_frozen BK105.out 0; have hfz11_1 := blk_frozen BK105.out 1; have hcz12_0 : w6.cell? ⟨gb107, 0, none⟩ = some (.int .i64 a2_0) := (blk_cell BK107.out 0).trans rfl; have hcz12_1 : w6.cell? ⟨gb107, 1, none⟩ = some (.int .i64 a2_1) := (blk_cell BK107.out 1).trans rfl; have hfz12_0 := blk_frozen BK107.out 0; have hfz12_1 := blk_frozen BK107.out 1))
 go_ret
 exact ⟨by first | rfl | (simp [errW_none, errW_some] <;> rfl) | (simp [*, errW_none, errW_some] <;> rfl), bl3 HB.out GE105.out GE106.out GE107.out⟩

/-! ### plane_Dot: function 17 -/
def plane_Dot.f (k : Nat) (a0_0 : Int) (a0_1 : Int) (a1_0 : Int) (a1_1 : Int) (a2_0 : Int) (a2_1 : Int) : Option (Int × Int) := (plane_asked.f k (([(⟨a0_0, a0_1⟩ : S26), (⟨a1_0, a1_1⟩ : S26), (⟨a2_0, a2_1⟩ : S26)] : List (S26)))).bind fun t114 => (if t114 = 0 then ((plane_dot.f a0_0 a0_1 a1_0 a1_1 a2_0 a2_1).bind fun t115 => (some (t115, 0))) else (some (0, t114)))
theorem plane_Dot.mono : ∀ a0 a1 a2 a3 a4 a5 k, LeO (plane_Dot.f k a0 a1 a2 a3 a4 a5) (plane_Dot.f (k + 1) a0 a1 a2 a3 a4 a5) := by
 intro a0 a1 a2 a3 a4 a5 k
 unfold plane_Dot.f
 repeat' first
   | (with_reducible exact plane_asked.mono _ _)
   | (with_reducible exact LeO.refl _)
   | (with_reducible exact LeO.none _)
   | (with_reducible refine LeO.ite ?_ ?_)
   | (with_reducible refine LeO.bind ?_ (fun _ => ?_))
   | exact plane_asked.mono _ _
   | exact LeO.none _
   | refine LeO.ite ?_ ?_
   | refine LeO.bind ?_ (fun _ => ?_)
set_option maxHeartbeats 8000000 in
set_option maxRecDepth 100000 in
theorem plane_Dot.calls (k : Nat) (a0_0 : Int) (a0_1 : Int) (a1_0 : Int) (a1_1 : Int) (a2_0 : Int) (a2_1 : Int) (r1 : Int) (r2 : Int) (w : World) (h : plane_Dot.f k a0_0 a0_1 a1_0 a1_1 a2_0 a2_1 = some (r1, r2)) :
  Calls Try.prog 17 #[.agg #[.int .i64 a0_0, .int .i64 a0_1], .agg #[.int .i64 a1_0, .int .i64 a1_1], .agg #[.int .i64 a2_0, .int .i64 a2_1]] w fun e w' => e = .returned (.tuple #[.int .i64 r1, .int .i64 r2]) ∧ Below w.heap.size w w' := by
 have hu26 := Try.underlying26
 have HB := Aside0.mk (Below.refl w.heap.size w)
 have H : ((plane_asked.f k (([(⟨a0_0, a0_1⟩ : S26), (⟨a1_0, a1_1⟩ : S26), (⟨a2_0, a2_1⟩ : S26)] : List (S26)))).bind fun t114 => (if t114 = 0 then ((plane_dot.f a0_0 a0_1 a1_0 a1_1 a2_0 a2_1).bind fun t115 => (some (t115, 0))) else (some (0, t114)))) = some (r1, r2) := h
 clear h
 obtain ⟨y111, hy111⟩ : ∃ y_ : List (S26), y_ = (([(⟨a0_0, a0_1⟩ : S26), (⟨a1_0, a1_1⟩ : S26), (⟨a2_0, a2_1⟩ : S26)] : List (S26))) := ⟨_, rfl⟩
 replace H : ((plane_asked.f k y111).bind fun t114 => (if t114 = 0 then ((plane_dot.f a0_0 a0_1 a1_0 a1_1 a2_0 a2_1).bind fun t115 => (some (t115, 0))) else (some (0, t114)))) = some (r1, r2) := by first | (rw [hy111]; with_reducible exact H) | (have H2_ := (Option.bind_some _ _).symm.trans H; rw [hy111]; with_reducible exact H2_) | (have H2_ := (Option.bind_some _ _).symm.trans H; with_reducible exact H2_) | with_reducible exact H | (rw [hy111]; exact H) | exact H
 have Ny111 := Aside0.mk hy111
 clear hy111
 replace H := Option.bind_eq_some_iff.mp H
 obtain ⟨t114, A40, H⟩ := H
 replace H : (if t114 = 0 then ((plane_dot.f a0_0 a0_1 a1_0 a1_1 a2_0 a2_1).bind fun t115 => (some (t115, 0))) else (some (0, t114))) = some (r1, r2) := H
 have A4 := Aside0.mk A40
 clear A40
 by_cases c5 : t114 = 0
 ·rw [if_pos c5] at H
  have c5b0 : (t114 == 0) = true := beq_iff_eq.mpr c5
  have c5b1 : (t114 != 0) = false := bne_eq_false_iff_eq.mpr c5
  clear c5
  replace H := Option.bind_eq_some_iff.mp H
  obtain ⟨t115, A60, H⟩ := H
  replace H : (some (t115, 0)) = some (r1, r2) := H
  have A6 := Aside0.mk A60
  clear A60
  simp only [Option.some.injEq, Prod.mk.injEq] at H
  obtain ⟨rfl, rfl⟩ := H
  go_enter Try.func17, Try.ntmps17
  go_wp2_with (first | ((with_reducible refine gate_dst (N := 3) rfl ?_); refine be 3 (#[.int .i64 a0_0, .int .i64 a0_1]) 26 ?_; intro gb108 hg w7 hbox hb; have BK108 := Aside0.mk (hbox); have GW108 := Aside0.mk ((by rw [hg]; exact (below_size (bl0 HB.out)) : w.heap.size ≤ gb108)); have GE108 := GW108; replace HB := Aside0.mk (below_step (bl0 HB.out) hb); clear hb hbox hg) | ((with_reducible refine gate_dst (N := 4) rfl ?_); refine be 4 (#[.int .i64 a1_0, .int .i64 a1_1]) 26 ?_; intro gb109 hg w8 hbox hb; have BK109 := Aside0.mk (hbox); have GW109 := Aside0.mk ((by rw [hg]; exact (below_size (bl1 HB.out GE108.out)) : w.heap.size ≤ gb109)); have GE109 := GW109; have NB108_109 := Aside0.mk ((by rw [hg]; exact Nat.ne_of_lt (lt_ BK108.out) : gb108 ≠ gb109)); have NB109_108 := Aside0.mk ((by rw [hg]; exact Nat.ne_of_gt (lt_ BK108.out) : gb109 ≠ gb108)); replace BK108 := Aside0.mk (bb BK108.out hb); replace HB := Aside0.mk (below_step (bl1 HB.out GE108.out) hb); clear hb hbox hg) | ((with_reducible refine gate_dst (N := 5) rfl ?_); refine be 5 (#[.int .i64 a2_0, .int .i64 a2_1]) 26 ?_; intro gb110 hg w9 hbox hb; have BK110 := Aside0.mk (hbox); have GW110 := Aside0.mk ((by rw [hg]; exact (below_size (bl2 HB.out GE108.out GE109.out)) : w.heap.size ≤ gb110)); have GE110 := GW110; have NB108_110 := Aside0.mk ((by rw [hg]; exact Nat.ne_of_lt (lt_ BK108.out) : gb108 ≠ gb110)); have NB110_108 := Aside0.mk ((by rw [hg]; exact Nat.ne_of_gt (lt_ BK108.out) : gb110 ≠ gb108)); have NB109_110 := Aside0.mk ((by rw [hg]; exact Nat.ne_of_lt (lt_ BK109.out) : gb109 ≠ gb110)); have NB110_109 := Aside0.mk ((by rw [hg]; exact Nat.ne_of_gt (lt_ BK109.out) : gb110 ≠ gb109)); replace BK108 := Aside0.mk (bb BK108.out hb); replace BK109 := Aside0.mk (bb BK109.out hb); replace HB := Aside0.mk (below_step (bl2 HB.out GE108.out GE109.out) hb); clear hb hbox hg; have hnb10 := NB108_109.out; have hnc10 := NB109_108.out; have hnb11 := NB108_110.out; have hnc11 := NB110_108.out; have hcz12_0 : w9.cell? ⟨gb108, 0, none⟩ = some (.int .i64 a0_0) := (blk_cell BK108.out 0).trans rfl; have hcz12_1 : w9.cell? ⟨gb108, 1, none⟩ = some (.int .i64 a0_1) := (blk_cell BK108.out 1).trans rfl; have hfz12_0 := blk_frozen BK108.out 0; have hfz12_1 := blk_frozen BK108.out 1; have hnb13 := NB109_110.out; have hnc13 := NB110_109.out; have hcz14_0 : w9.cell? ⟨gb109, 0, none⟩ = some (.int .i64 a1_0) := (blk_cell BK109.out 0).trans rfl; have hcz14_1 : w9.cell? ⟨gb109, 1, none⟩ = some (.int .i64 a1_1) := (blk_cell BK109.out 1).trans rfl; have hfz14_0 := blk_frozen BK109.out 0; have hfz14_1 := blk_frozen BK109.out 1; have hcz15_0 : w9.cell? ⟨gb110, 0, none⟩ = some (.int .i64 a2_0) := (blk_cell BK110.out 0).trans rfl; have hcz15_1 : w9.cell? ⟨gb110, 1, none⟩ = some (.int .i64 a2_1) := (blk_cell BK110.out 1).trans rfl; have hfz15_0 := blk_frozen BK110.out 0; have hfz15_1 := blk_frozen BK110.out 1) | ((with_reducible refine gate_dst (N := 12) rfl ?_); refine Kd.R_lit k26 _ 26 ?hg (N := 12) ?hd (xs := ([(⟨a0_0, a0_1⟩ : S26), (⟨a1_0, a1_1⟩ : S26), (⟨a2_0, a2_1⟩ : S26)] : List (S26))) (inner := [.int .i64 a0_0, .int .i64 a0_1, .int .i64 a1_0, .int .i64 a1_1, .int .i64 a2_0, .int .i64 a2_1]) (ok := fun _ => True) (okp := fun _ => True) ?hr ?hp (fun _ hk => hk) trivial (Below.refl _ _) (Nat.le_refl _) (by simp) ?_; (case hd => rfl); (case hg => rfl); (case hr => first | (go_simp; done) | (go_simp; rfl)); (case hp => exact (Reps.c2 (show Kd.M k26 _ _ _ (⟨a0_0, a0_1⟩ : S26) [.int .i64 a0_0, .int .i64 a0_1] from (k26_mkM _ _ _ (⟨a0_0, a0_1⟩ : S26) )) (Reps.c2 (show Kd.M k26 _ _ _ (⟨a1_0, a1_1⟩ : S26) [.int .i64 a1_0, .int .i64 a1_1] from (k26_mkM _ _ _ (⟨a1_0, a1_1⟩ : S26) )) (Reps.c2 (show Kd.M k26 _ _ _ (⟨a2_0, a2_1⟩ : S26) [.int .i64 a2_0, .int .i64 a2_1] from (k26_mkM _ _ _ (⟨a2_0, a2_1⟩ : S26) )) (Reps.none _ _))))); intro v112 w16 ho17 hb hg_ hnew_; clear hg_ hnew_; (first | rw [← Ny111.out] at ho17 | (simp only [Int.reduceToNat] at ho17; rw [← Ny111.out] at ho17)); have HO113 := Aside0.mk (Kd.R_lower (Kd.R_newB (Kd.R_newB (Kd.R_newB ho17 (g := gb108) (o := .cells #[.int .i64 a0_0, .int .i64 a0_1] 26 (0, 0)) (bk BK108.out)) (g := gb109) (o := .cells #[.int .i64 a1_0, .int .i64 a1_1] 26 (0, 0)) (bk BK109.out)) (g := gb110) (o := .cells #[.int .i64 a2_0, .int .i64 a2_1] 26 (0, 0)) (bk BK110.out)) (below_size (bl3 HB.out GE108.out GE109.out GE110.out))); replace BK108 := Aside0.mk (bb BK108.out hb); replace BK109 := Aside0.mk (bb BK109.out hb); replace BK110 := Aside0.mk (bb BK110.out hb); replace HB := Aside0.mk (below_step (bl3 HB.out GE108.out GE109.out GE110.out) hb); clear hb ho17; obtain ⟨Ao18, co18, eo18⟩ := Kd.R_slice HO113.out; subst eo18) | ((with_reducible refine gate_callee (f := 47) rfl ?_); refine goesL_ (some 13) rfl rfl Try.func47 (by kernel_rfl) rfl #[.slice Ao18 y111.length co18] rfl am ?_; (with_reducible refine (plane_asked.calls k _ _ y111 t114 _ ?side1 ?side2 A4.out).mono ?_); (case side1 => repeat (first | exact (Kd.R_reads' HO113.out).2.2 | (with_reducible refine Kd.C_alloc ?_ _) | (with_reducible refine Kd.C_drewN ?_ _) | (with_reducible refine Kd.C_drew ?_))); (case side2 => exact (Kd.R_reads' HO113.out).2.1); rintro e w19 ⟨rfl, hb⟩; refine ⟨_, rfl, ?_⟩; replace HO113 := Aside0.mk (Kd.R_below (by (with_reducible repeat (first | apply Kd.R_alloc | apply Kd.R_drewN | apply Kd.R_drew)); exact HO113.out) hb); replace BK108 := Aside0.mk (bb BK108.out hb); replace BK109 := Aside0.mk (bb BK109.out hb); replace BK110 := Aside0.mk (bb BK110.out hb); replace HB := Aside0.mk (below_step (bl3 HB.out GE108.out GE109.out GE110.out) hb); (try clear hb); (try clear hb2); (try clear hk); (try clear hi); have hcz20_0 : w19.cell? ⟨gb108, 0, none⟩ = some (.int .i64 a0_0) := (blk_cell BK108.out 0).trans rfl; have hcz20_1 : w19.cell? ⟨gb108, 1, none⟩ = some (.int .i64 a0_1) := (blk_cell BK108.out 1).trans rfl; have hfz20_0 := blk_frozen BK108.out 0; have hfz20_1 := blk_frozen BK108.out 1; have hcz21_0 : w19.cell? ⟨gb109, 0, none⟩ = some (.int .i64 a1_0) := (blk_cell BK109.out 0).trans rfl; have hcz21_1 : w19.cell? ⟨gb109, 1, none⟩ = some (.int .i64 a1_1) := (blk_cell BK109.out 1).trans rfl; have hfz21_0 := blk_frozen BK109.out 0; have hfz21_1 := blk_frozen BK109.out 1; have hcz22_0 : w19.cell? ⟨gb110, 0, none⟩ = some (.int .i64 a2_0) := (blk_cell BK110.out 0).trans rfl; have hcz22_1 : w19.cell? ⟨gb110, 1, none⟩ = some (.int .i64 a2_1) := (blk_cell BK110.out 1).trans rfl; have hfz22_0 := blk_frozen BK110.out 0; have hfz22_1 := blk_frozen BK110.out 1) | ((with_reducible refine gate_callee (f := 52) rfl ?_); refine goesL_ (some 20) rfl rfl Try.func52 (by kernel_rfl) rfl #[.agg #[.int .i64 a0_0, .int .i64 a0_1], .agg #[.int .i64 a1_0, .int .i64 a1_1], .agg #[.int .i64 a2_0, .int .i64 a2_1]] rfl am ?_; (with_reducible refine (plane_dot.calls a0_0 a0_1 a1_0 a1_1 a2_0 a2_1 t115 _ A6.out).mono ?_); rintro e w23 ⟨rfl, hb⟩; refine ⟨_, rfl, ?_⟩; replace HO113 := Aside0.mk (Kd.R_below (by (with_reducible repeat (first | apply Kd.R_alloc | apply Kd.R_drewN | apply Kd.R_drew)); exact HO113.out) hb); replace BK108 := Aside0.mk (bb BK108.out hb); replace BK109 := Aside0.mk (bb BK109.out hb); replace BK110 := Aside0.mk (bb BK110.out hb); replace HB := Aside0.mk (below_step (bl3 HB.out GE108.out GE109.out GE110.out) hb); (try clear hb); (try clear hb2); (try clear hk); (try clear hi)))
  go_ret2
  exact ⟨by first | rfl | (simp [errW_none, errW_some] <;> rfl) | (simp [*, errW_none, errW_some] <;> rfl), bl3 HB.out GE108.out GE109.out GE110.out⟩
 ·rw [if_neg c5] at H
  have c5b0 : (t114 == 0) = false := beq_eq_false_iff_ne.mpr c5
  have c5b1 : (t114 != 0) = true := bne_iff_ne.mpr c5
  simp only [Option.some.injEq, Prod.mk.injEq] at H
  obtain ⟨rfl, rfl⟩ := H
  go_enter Try.func17, Try.ntmps17
  go_wp2_with (first | ((with_reducible refine gate_dst (N := 3) rfl ?_); refine be 3 (#[.int .i64 a0_0, .int .i64 a0_1]) 26 ?_; intro gb108 hg w24 hbox hb; have BK108 := Aside0.mk (hbox); have GW108 := Aside0.mk ((by rw [hg]; exact (below_size (bl0 HB.out)) : w.heap.size ≤ gb108)); have GE108 := GW108; replace HB := Aside0.mk (below_step (bl0 HB.out) hb); clear hb hbox hg) | ((with_reducible refine gate_dst (N := 4) rfl ?_); refine be 4 (#[.int .i64 a1_0, .int .i64 a1_1]) 26 ?_; intro gb109 hg w25 hbox hb; have BK109 := Aside0.mk (hbox); have GW109 := Aside0.mk ((by rw [hg]; exact (below_size (bl1 HB.out GE108.out)) : w.heap.size ≤ gb109)); have GE109 := GW109; have NB108_109 := Aside0.mk ((by rw [hg]; exact Nat.ne_of_lt (lt_ BK108.out) : gb108 ≠ gb109)); have NB109_108 := Aside0.mk ((by rw [hg]; exact Nat.ne_of_gt (lt_ BK108.out) : gb109 ≠ gb108)); replace BK108 := Aside0.mk (bb BK108.out hb); replace HB := Aside0.mk (below_step (bl1 HB.out GE108.out) hb); clear hb hbox hg) | ((with_reducible refine gate_dst (N := 5) rfl ?_); refine be 5 (#[.int .i64 a2_0, .int .i64 a2_1]) 26 ?_; intro gb110 hg w26 hbox hb; have BK110 := Aside0.mk (hbox); have GW110 := Aside0.mk ((by rw [hg]; exact (below_size (bl2 HB.out GE108.out GE109.out)) : w.heap.size ≤ gb110)); have GE110 := GW110; have NB108_110 := Aside0.mk ((by rw [hg]; exact Nat.ne_of_lt (lt_ BK108.out) : gb108 ≠ gb110)); have NB110_108 := Aside0.mk ((by rw [hg]; exact Nat.ne_of_gt (lt_ BK108.out) : gb110 ≠ gb108)); have NB109_110 := Aside0.mk ((by rw [hg]; exact Nat.ne_of_lt (lt_ BK109.out) : gb109 ≠ gb110)); have NB110_109 := Aside0.mk ((by rw [hg]; exact Nat.ne_of_gt (lt_ BK109.out) : gb110 ≠ gb109)); replace BK108 := Aside0.mk (bb BK108.out hb); replace BK109 := Aside0.mk (bb BK109.out hb); replace HB := Aside0.mk (below_step (bl2 HB.out GE108.out GE109.out) hb); clear hb hbox hg; have hnb27 := NB108_109.out; have hnc27 := NB109_108.out; have hnb28 := NB108_110.out; have hnc28 := NB110_108.out; have hcz29_0 : w26.cell? ⟨gb108, 0, none⟩ = some (.int .i64 a0_0) := (blk_cell BK108.out 0).trans rfl; have hcz29_1 : w26.cell? ⟨gb108, 1, none⟩ = some (.int .i64 a0_1) := (blk_cell BK108.out 1).trans rfl; have hfz29_0 := blk_frozen BK108.out 0; have hfz29_1 := blk_frozen BK108.out 1; have hnb30 := NB109_110.out; have hnc30 := NB110_109.out; have hcz31_0 : w26.cell? ⟨gb109, 0, none⟩ = some (.int .i64 a1_0) := (blk_cell BK109.out 0).trans rfl; have hcz31_1 : w26.cell? ⟨gb109, 1, none⟩ = some (.int .i64 a1_1) := (blk_cell BK109.out 1).trans rfl; have hfz31_0 := blk_frozen BK109.out 0; have hfz31_1 := blk_frozen BK109.out 1; have hcz32_0 : w26.cell? ⟨gb110, 0, none⟩ = some (.int .i64 a2_0) := (blk_cell BK110.out 0).trans rfl; have hcz32_1 : w26.cell? ⟨gb110, 1, none⟩ = some (.int .i64 a2_1) := (blk_cell BK110.out 1).trans rfl; have hfz32_0 := blk_frozen BK110.out 0; have hfz32_1 := blk_frozen BK110.out 1) | ((with_reducible refine gate_dst (N := 12) rfl ?_); refine Kd.R_lit k26 _ 26 ?hg (N := 12) ?hd (xs := ([(⟨a0_0, a0_1⟩ : S26), (⟨a1_0, a1_1⟩ : S26), (⟨a2_0, a2_1⟩ : S26)] : List (S26))) (inner := [.int .i64 a0_0, .int .i64 a0_1, .int .i64 a1_0, .int .i64 a1_1, .int .i64 a2_0, .int .i64 a2_1]) (ok := fun _ => True) (okp := fun _ => True) ?hr ?hp (fun _ hk => hk) trivial (Below.refl _ _) (Nat.le_refl _) (by simp) ?_; (case hd => rfl); (case hg => rfl); (case hr => first | (go_simp; done) | (go_simp; rfl)); (case hp => exact (Reps.c2 (show Kd.M k26 _ _ _ (⟨a0_0, a0_1⟩ : S26) [.int .i64 a0_0, .int .i64 a0_1] from (k26_mkM _ _ _ (⟨a0_0, a0_1⟩ : S26) )) (Reps.c2 (show Kd.M k26 _ _ _ (⟨a1_0, a1_1⟩ : S26) [.int .i64 a1_0, .int .i64 a1_1] from (k26_mkM _ _ _ (⟨a1_0, a1_1⟩ : S26) )) (Reps.c2 (show Kd.M k26 _ _ _ (⟨a2_0, a2_1⟩ : S26) [.int .i64 a2_0, .int .i64 a2_1] from (k26_mkM _ _ _ (⟨a2_0, a2_1⟩ : S26) )) (Reps.none _ _))))); intro v112 w33 ho34 hb hg_ hnew_; clear hg_ hnew_; (first | rw [← Ny111.out] at ho34 | (simp only [Int.reduceToNat] at ho34; rw [← Ny111.out] at ho34)); have HO113 := Aside0.mk (Kd.R_lower (Kd.R_newB (Kd.R_newB (Kd.R_newB ho34 (g := gb108) (o := .cells #[.int .i64 a0_0, .int .i64 a0_1] 26 (0, 0)) (bk BK108.out)) (g := gb109) (o := .cells #[.int .i64 a1_0, .int .i64 a1_1] 26 (0, 0)) (bk BK109.out)) (g := gb110) (o := .cells #[.int .i64 a2_0, .int .i64 a2_1] 26 (0, 0)) (bk BK110.out)) (below_size (bl3 HB.out GE108.out GE109.out GE110.out))); replace BK108 := Aside0.mk (bb BK108.out hb); replace BK109 := Aside0.mk (bb BK109.out hb); replace BK110 := Aside0.mk (bb BK110.out hb); replace HB := Aside0.mk (below_step (bl3 HB.out GE108.out GE109.out GE110.out) hb); clear hb ho34; obtain ⟨Ao35, co35, eo35⟩ := Kd.R_slice HO113.out; subst eo35) | ((with_reducible refine gate_callee (f := 47) rfl ?_); refine goesL_ (some 13) rfl rfl Try.func47 (by kernel_rfl) rfl #[.slice Ao35 y111.length co35] rfl am ?_; (with_reducible refine (plane_asked.calls k _ _ y111 t114 _ ?side1 ?side2 A4.out).mono ?_); (case side1 => repeat (first | exact (Kd.R_reads' HO113.out).2.2 | (with_reducible refine Kd.C_alloc ?_ _) | (with_reducible refine Kd.C_drewN ?_ _) | (with_reducible refine Kd.C_drew ?_))); (case side2 => exact (Kd.R_reads' HO113.out).2.1); rintro e w36 ⟨rfl, hb⟩; refine ⟨_, rfl, ?_⟩; replace HO113 := Aside0.mk (Kd.R_below (by (with_reducible repeat (first | apply Kd.R_alloc | apply Kd.R_drewN | apply Kd.R_drew)); exact HO113.out) hb); replace BK108 := Aside0.mk (bb BK108.out hb); replace BK109 := Aside0.mk (bb BK109.out hb); replace BK110 := Aside0.mk (bb BK110.out hb); replace HB := Aside0.mk (below_step (bl3 HB.out GE108.out GE109.out GE110.out) hb); (try clear hb); (try clear hb2); (try clear hk); (try clear hi)))
  go_ret2
  exact ⟨by first | rfl | (simp [errW_none, errW_some] <;> rfl) | (simp [*, errW_none, errW_some] <;> rfl), bl3 HB.out GE108.out GE109.out GE110.out⟩

/-! ### plane_Far: function 14 -/
def plane_Far.f (k : Nat) (a0_0 : Int) (a0_1 : Int) (a1_0 : Int) (a1_1 : Int) : Option (Int × Int) := (plane_Dot.f k a0_0 a0_1 a1_0 a1_1 a1_0 a1_1).bind fun bt118 => (some (bt118.1, bt118.2))
theorem plane_Far.mono : ∀ a0 a1 a2 a3 k, LeO (plane_Far.f k a0 a1 a2 a3) (plane_Far.f (k + 1) a0 a1 a2 a3) := by
 intro a0 a1 a2 a3 k
 unfold plane_Far.f
 repeat' first
   | (with_reducible exact plane_Dot.mono _ _ _ _ _ _ _)
   | (with_reducible exact LeO.refl _)
   | (with_reducible exact LeO.none _)
   | (with_reducible refine LeO.ite ?_ ?_)
   | (with_reducible refine LeO.bind ?_ (fun _ => ?_))
   | exact plane_Dot.mono _ _ _ _ _ _ _
   | exact LeO.none _
   | refine LeO.ite ?_ ?_
   | refine LeO.bind ?_ (fun _ => ?_)
set_option maxHeartbeats 8000000 in
set_option maxRecDepth 100000 in
theorem plane_Far.calls (k : Nat) (a0_0 : Int) (a0_1 : Int) (a1_0 : Int) (a1_1 : Int) (r1 : Int) (r2 : Int) (w : World) (h : plane_Far.f k a0_0 a0_1 a1_0 a1_1 = some (r1, r2)) :
  Calls Try.prog 14 #[.agg #[.int .i64 a0_0, .int .i64 a0_1], .agg #[.int .i64 a1_0, .int .i64 a1_1]] w fun e w' => e = .returned (.tuple #[.int .i64 r1, .int .i64 r2]) ∧ Below w.heap.size w w' := by
 have hu26 := Try.underlying26
 have HB := Aside0.mk (Below.refl w.heap.size w)
 have H : ((plane_Dot.f k a0_0 a0_1 a1_0 a1_1 a1_0 a1_1).bind fun bt118 => (some (bt118.1, bt118.2))) = some (r1, r2) := h
 clear h
 replace H := Option.bind_eq_some_iff.mp H
 obtain ⟨⟨t118, t119⟩, A30, H⟩ := H
 replace H : (some (t118, t119)) = some (r1, r2) := H
 have A3 := Aside0.mk A30
 clear A30
 simp only [Option.some.injEq, Prod.mk.injEq] at H
 obtain ⟨rfl, rfl⟩ := H
 go_enter Try.func14, Try.ntmps14
 go_wp2_with (first | ((with_reducible refine gate_dst (N := 2) rfl ?_); refine be 2 (#[.int .i64 a0_0, .int .i64 a0_1]) 26 ?_; intro gb116 hg w4 hbox hb; have BK116 := Aside0.mk (hbox); have GW116 := Aside0.mk ((by rw [hg]; exact (below_size (bl0 HB.out)) : w.heap.size ≤ gb116)); have GE116 := GW116; replace HB := Aside0.mk (below_step (bl0 HB.out) hb); clear hb hbox hg) | ((with_reducible refine gate_dst (N := 3) rfl ?_); refine be 3 (#[.int .i64 a1_0, .int .i64 a1_1]) 26 ?_; intro gb117 hg w5 hbox hb; have BK117 := Aside0.mk (hbox); have GW117 := Aside0.mk ((by rw [hg]; exact (below_size (bl1 HB.out GE116.out)) : w.heap.size ≤ gb117)); have GE117 := GW117; have NB116_117 := Aside0.mk ((by rw [hg]; exact Nat.ne_of_lt (lt_ BK116.out) : gb116 ≠ gb117)); have NB117_116 := Aside0.mk ((by rw [hg]; exact Nat.ne_of_gt (lt_ BK116.out) : gb117 ≠ gb116)); replace BK116 := Aside0.mk (bb BK116.out hb); replace HB := Aside0.mk (below_step (bl1 HB.out GE116.out) hb); clear hb hbox hg; have hnb6 := NB116_117.out; have hnc6 := NB117_116.out; have hcz7_0 : w5.cell? ⟨gb116, 0, none⟩ = some (.int .i64 a0_0) := (blk_cell BK116.out 0).trans rfl; have hcz7_1 : w5.cell? ⟨gb116, 1, none⟩ = some (.int .i64 a0_1) := (blk_cell BK116.out 1).trans rfl; have hfz7_0 := blk_frozen BK116.out 0; have hfz7_1 := blk_frozen BK116.out 1; have hcz8_0 : w5.cell? ⟨gb117, 0, none⟩ = some (.int .i64 a1_0) := (blk_cell BK117.out 0).trans rfl; have hcz8_1 : w5.cell? ⟨gb117, 1, none⟩ = some (.int .i64 a1_1) := (blk_cell BK117.out 1).trans rfl; have hfz8_0 := blk_frozen BK117.out 0; have hfz8_1 := blk_frozen BK117.out 1) | ((with_reducible refine gate_callee (f := 17) rfl ?_); refine goesL_ (some 9) rfl rfl Try.func17 (by kernel_rfl) rfl #[.agg #[.int .i64 a0_0, .int .i64 a0_1], .agg #[.int .i64 a1_0, .int .i64 a1_1], .agg #[.int .i64 a1_0, .int .i64 a1_1]] rfl am ?_; (with_reducible refine (plane_Dot.calls k a0_0 a0_1 a1_0 a1_1 a1_0 a1_1 t118 t119 _ A3.out).mono ?_); rintro e w9 ⟨rfl, hb⟩; refine ⟨_, rfl, ?_⟩; replace BK116 := Aside0.mk (bb BK116.out hb); replace BK117 := Aside0.mk (bb BK117.out hb); replace HB := Aside0.mk (below_step (bl2 HB.out GE116.out GE117.out) hb); (try clear hb); (try clear hb2); (try clear hk); (try clear hi)))
 go_ret2
 exact ⟨by first | rfl | (simp [errW_none, errW_some] <;> rfl) | (simp [*, errW_none, errW_some] <;> rfl), bl2 HB.out GE116.out GE117.out⟩

/-! ### plane_cross: function 48 -/
def plane_cross.f (a0_0 : Int) (a0_1 : Int) (a1_0 : Int) (a1_1 : Int) (a2_0 : Int) (a2_1 : Int) : Option (Int) := some (wrap64 ((wrap64 ((wrap64 (a1_0 - a0_0)) * (wrap64 (a2_1 - a0_1)))) - (wrap64 ((wrap64 (a1_1 - a0_1)) * (wrap64 (a2_0 - a0_0))))))
set_option maxHeartbeats 8000000 in
set_option maxRecDepth 100000 in
theorem plane_cross.calls (a0_0 : Int) (a0_1 : Int) (a1_0 : Int) (a1_1 : Int) (a2_0 : Int) (a2_1 : Int) (r : Int) (w : World) (h : plane_cross.f a0_0 a0_1 a1_0 a1_1 a2_0 a2_1 = some r) :
  Calls Try.prog 48 #[.agg #[.int .i64 a0_0, .int .i64 a0_1], .agg #[.int .i64 a1_0, .int .i64 a1_1], .agg #[.int .i64 a2_0, .int .i64 a2_1]] w fun e w' => e = .returned (.int .i64 r) ∧ Below w.heap.size w w' := by
 have hu26 := Try.underlying26
 have HB := Aside0.mk (Below.refl w.heap.size w)
 have H : (some (wrap64 ((wrap64 ((wrap64 (a1_0 - a0_0)) * (wrap64 (a2_1 - a0_1)))) - (wrap64 ((wrap64 (a1_1 - a0_1)) * (wrap64 (a2_0 - a0_0))))))) = some r := h
 clear h
 obtain rfl := Option.some.inj H
 go_enter Try.func48, Try.ntmps48
 go_wp2_with (first | ((with_reducible refine gate_dst (N := 3) rfl ?_); refine be 3 (#[.int .i64 a0_0, .int .i64 a0_1]) 26 ?_; intro gb120 hg w4 hbox hb; have BK120 := Aside0.mk (hbox); have GW120 := Aside0.mk ((by rw [hg]; exact (below_size (bl0 HB.out)) : w.heap.size ≤ gb120)); have GE120 := GW120; replace HB := Aside0.mk (below_step (bl0 HB.out) hb); clear hb hbox hg) | ((with_reducible refine gate_dst (N := 4) rfl ?_); refine be 4 (#[.int .i64 a1_0, .int .i64 a1_1]) 26 ?_; intro gb121 hg w5 hbox hb; have BK121 := Aside0.mk (hbox); have GW121 := Aside0.mk ((by rw [hg]; exact (below_size (bl1 HB.out GE120.out)) : w.heap.size ≤ gb121)); have GE121 := GW121; have NB120_121 := Aside0.mk ((by rw [hg]; exact Nat.ne_of_lt (lt_ BK120.out) : gb120 ≠ gb121)); have NB121_120 := Aside0.mk ((by rw [hg]; exact Nat.ne_of_gt (lt_ BK120.out) : gb121 ≠ gb120)); replace BK120 := Aside0.mk (bb BK120.out hb); replace HB := Aside0.mk (below_step (bl1 HB.out GE120.out) hb); clear hb hbox hg) | ((with_reducible refine gate_dst (N := 5) rfl ?_); refine be 5 (#[.int .i64 a2_0, .int .i64 a2_1]) 26 ?_; intro gb122 hg w6 hbox hb; have BK122 := Aside0.mk (hbox); have GW122 := Aside0.mk ((by rw [hg]; exact (below_size (bl2 HB.out GE120.out GE121.out)) : w.heap.size ≤ gb122)); have GE122 := GW122; have NB120_122 := Aside0.mk ((by rw [hg]; exact Nat.ne_of_lt (lt_ BK120.out) : gb120 ≠ gb122)); have NB122_120 := Aside0.mk ((by rw [hg]; exact Nat.ne_of_gt (lt_ BK120.out) : gb122 ≠ gb120)); have NB121_122 := Aside0.mk ((by rw [hg]; exact Nat.ne_of_lt (lt_ BK121.out) : gb121 ≠ gb122)); have NB122_121 := Aside0.mk ((by rw [hg]; exact Nat.ne_of_gt (lt_ BK121.out) : gb122 ≠ gb121)); replace BK120 := Aside0.mk (bb BK120.out hb); replace BK121 := Aside0.mk (bb BK121.out hb); replace HB := Aside0.mk (below_step (bl2 HB.out GE120.out GE121.out) hb); clear hb hbox hg; have hnb7 := NB121_120.out; have hnc7 := NB120_121.out; have hnb8 := NB121_122.out; have hnc8 := NB122_121.out; have hcz9_0 : w6.cell? ⟨gb121, 0, none⟩ = some (.int .i64 a1_0) := (blk_cell BK121.out 0).trans rfl; have hcz9_1 : w6.cell? ⟨gb121, 1, none⟩ = some (.int .i64 a1_1) := (blk_cell BK121.out 1).trans rfl; have hfz9_0 := blk_frozen BK121.out 0; have hfz9_1 := blk_frozen BK121.out 1; have hnb10 := NB120_122.out; have hnc10 := NB122_120.out; have hcz11_0 : w6.cell? ⟨gb120, 0, none⟩ = some (.int .i64 a0_0) := (blk_cell BK120.out 0).trans rfl; have hcz11_1 : w6.cell? ⟨gb120, 1, none⟩ = some (.int .i64 a0_1) := (blk_cell BK120.out 1).trans rfl; have hfz11_0 := blk_frozen BK120.out 0; have hfz11_1 := blk_frozen BK120.out 1; have hcz12_0 : w6.cell? ⟨gb122, 0, none⟩ = some (.int .i64 a2_0) := (blk_cell BK122.out 0).trans rfl; have hcz12_1 : w6.cell? ⟨gb122, 1, none⟩ = some (.int .i64 a2_1) := (blk_cell BK122.out 1).trans rfl; have hfz12_0 := blk_frozen BK122.out 0; have hfz12_1 := blk_frozen BK122.out 1))
 go_ret
 exact ⟨by first | rfl | (simp [errW_none, errW_some] <;> rfl) | (simp [*, errW_none, errW_some] <;> rfl), bl3 HB.out GE120.out GE121.out GE122.out⟩

/-! ### cmp_isNaN_int64: function 84 -/
def cmp_isNaN_int64.f (a0 : Int) : Option (Bool) := some (a0 != a0)
set_option maxHeartbeats 8000000 in
set_option maxRecDepth 100000 in
theorem cmp_isNaN_int64.calls (a0 : Int) (r : Bool) (w : World) (h : cmp_isNaN_int64.f a0 = some r) :
  Calls Try.prog 84 #[.int .i64 a0] w fun e w' => e = .returned (.bool r) ∧ Drawn0 w w' := by
 have H : (some (a0 != a0)) = some r := h
 clear h
 obtain rfl := Option.some.inj H
 go_enter Try.func84, Try.ntmps84
 go_wp2
 go_ret
 exact ⟨by first | rfl | (simp; done) | (simp [*]; done), by repeat (first | exact Drawn0.refl _ | apply Drawn0.step)⟩

/-! ### cmp_Compare_int64: function 73 -/
def cmp_Compare_int64.f (a0 : Int) (a1 : Int) : Option (Int) := (cmp_isNaN_int64.f a0).bind fun t123 => ((cmp_isNaN_int64.f a1).bind fun t124 => (if t123 = true then (if t124 = true then (some 0) else (some (-1))) else (if t124 = true then (some 1) else (if a0 < a1 then (some (-1)) else (if a0 > a1 then (some 1) else (some 0))))))
set_option maxHeartbeats 8000000 in
set_option maxRecDepth 100000 in
theorem cmp_Compare_int64.calls (a0 : Int) (a1 : Int) (r : Int) (w : World) (h : cmp_Compare_int64.f a0 a1 = some r) :
  Calls Try.prog 73 #[.int .i64 a0, .int .i64 a1] w fun e w' => e = .returned (.int .i64 r) ∧ Drawn0 w w' := by
 have H : ((cmp_isNaN_int64.f a0).bind fun t123 => ((cmp_isNaN_int64.f a1).bind fun t124 => (if t123 = true then (if t124 = true then (some 0) else (some (-1))) else (if t124 = true then (some 1) else (if a0 < a1 then (some (-1)) else (if a0 > a1 then (some 1) else (some 0))))))) = some r := h
 clear h
 replace H := Option.bind_eq_some_iff.mp H
 obtain ⟨t123, A30, H⟩ := H
 replace H : ((cmp_isNaN_int64.f a1).bind fun t124 => (if t123 = true then (if t124 = true then (some 0) else (some (-1))) else (if t124 = true then (some 1) else (if a0 < a1 then (some (-1)) else (if a0 > a1 then (some 1) else (some 0)))))) = some r := H
 have A3 := Aside0.mk A30
 clear A30
 replace H := Option.bind_eq_some_iff.mp H
 obtain ⟨t124, A40, H⟩ := H
 replace H : (if t123 = true then (if t124 = true then (some 0) else (some (-1))) else (if t124 = true then (some 1) else (if a0 < a1 then (some (-1)) else (if a0 > a1 then (some 1) else (some 0))))) = some r := H
 have A4 := Aside0.mk A40
 clear A40
 by_cases c5 : t123 = true
 ·subst c5
  have H1 : (if t124 = true then (some 0) else (some (-1))) = some r := by rw [if_pos rfl] at H; exact H
  clear H
  have H := H1
  clear H1
  by_cases c6 : t124 = true
  ·subst c6
   have H1 : (some 0) = some r := by rw [if_pos rfl] at H; exact H
   clear H
   have H := H1
   clear H1
   obtain rfl := Option.some.inj H
   go_enter Try.func73, Try.ntmps73
   go_wp2_with (first | ((with_reducible refine gate_callee (f := 84) rfl ?_); refine goesL_ (some 8) rfl rfl Try.func84 (by kernel_rfl) rfl #[.int .i64 a0] rfl am ?_; (with_reducible refine (cmp_isNaN_int64.calls a0 true _ A3.out).mono ?_); rintro e w' ⟨rfl, ⟨nd, rfl⟩⟩; refine ⟨_, rfl, ?_⟩) | ((with_reducible refine gate_callee (f := 84) rfl ?_); refine goesL_ (some 10) rfl rfl Try.func84 (by kernel_rfl) rfl #[.int .i64 a1] rfl am ?_; (with_reducible refine (cmp_isNaN_int64.calls a1 true _ A4.out).mono ?_); rintro e w' ⟨rfl, ⟨nd, rfl⟩⟩; refine ⟨_, rfl, ?_⟩))
   go_ret
   exact ⟨by first | rfl | (simp; done) | (simp [*]; done), by repeat (first | exact Drawn0.refl _ | apply Drawn0.step)⟩
  ·replace c6 := Bool.eq_false_iff.mpr c6
   subst c6
   have H1 : (some (-1)) = some r := by rw [if_neg (show ¬ (false = true) by decide)] at H; exact H
   clear H
   have H := H1
   clear H1
   obtain rfl := Option.some.inj H
   go_enter Try.func73, Try.ntmps73
   go_wp2_with (first | ((with_reducible refine gate_callee (f := 84) rfl ?_); refine goesL_ (some 8) rfl rfl Try.func84 (by kernel_rfl) rfl #[.int .i64 a0] rfl am ?_; (with_reducible refine (cmp_isNaN_int64.calls a0 true _ A3.out).mono ?_); rintro e w' ⟨rfl, ⟨nd, rfl⟩⟩; refine ⟨_, rfl, ?_⟩) | ((with_reducible refine gate_callee (f := 84) rfl ?_); refine goesL_ (some 10) rfl rfl Try.func84 (by kernel_rfl) rfl #[.int .i64 a1] rfl am ?_; (with_reducible refine (cmp_isNaN_int64.calls a1 false _ A4.out).mono ?_); rintro e w' ⟨rfl, ⟨nd, rfl⟩⟩; refine ⟨_, rfl, ?_⟩))
   go_ret
   exact ⟨by first | rfl | (simp; done) | (simp [*]; done), by repeat (first | exact Drawn0.refl _ | apply Drawn0.step)⟩
 ·replace c5 := Bool.eq_false_iff.mpr c5
  subst c5
  have H1 : (if t124 = true then (some 1) else (if a0 < a1 then (some (-1)) else (if a0 > a1 then (some 1) else (some 0)))) = some r := by rw [if_neg (show ¬ (false = true) by decide)] at H; exact H
  clear H
  have H := H1
  clear H1
  by_cases c7 : t124 = true
  ·subst c7
   have H1 : (some 1) = some r := by rw [if_pos rfl] at H; exact H
   clear H
   have H := H1
   clear H1
   obtain rfl := Option.some.inj H
   go_enter Try.func73, Try.ntmps73
   go_wp2_with (first | ((with_reducible refine gate_callee (f := 84) rfl ?_); refine goesL_ (some 8) rfl rfl Try.func84 (by kernel_rfl) rfl #[.int .i64 a0] rfl am ?_; (with_reducible refine (cmp_isNaN_int64.calls a0 false _ A3.out).mono ?_); rintro e w' ⟨rfl, ⟨nd, rfl⟩⟩; refine ⟨_, rfl, ?_⟩) | ((with_reducible refine gate_callee (f := 84) rfl ?_); refine goesL_ (some 10) rfl rfl Try.func84 (by kernel_rfl) rfl #[.int .i64 a1] rfl am ?_; (with_reducible refine (cmp_isNaN_int64.calls a1 true _ A4.out).mono ?_); rintro e w' ⟨rfl, ⟨nd, rfl⟩⟩; refine ⟨_, rfl, ?_⟩))
   go_ret
   exact ⟨by first | rfl | (simp; done) | (simp [*]; done), by repeat (first | exact Drawn0.refl _ | apply Drawn0.step)⟩
  ·replace c7 := Bool.eq_false_iff.mpr c7
   subst c7
   have H1 : (if a0 < a1 then (some (-1)) else (if a0 > a1 then (some 1) else (some 0))) = some r := by rw [if_neg (show ¬ (false = true) by decide)] at H; exact H
   clear H
   have H := H1
   clear H1
   by_cases c8 : a0 < a1
   ·rw [if_pos c8] at H
    have c8b0 : decide (a0 < a1) = true := decide_eq_true c8
    clear c8
    obtain rfl := Option.some.inj H
    go_enter Try.func73, Try.ntmps73
    go_wp2_with (first | ((with_reducible refine gate_callee (f := 84) rfl ?_); refine goesL_ (some 8) rfl rfl Try.func84 (by kernel_rfl) rfl #[.int .i64 a0] rfl am ?_; (with_reducible refine (cmp_isNaN_int64.calls a0 false _ A3.out).mono ?_); rintro e w' ⟨rfl, ⟨nd, rfl⟩⟩; refine ⟨_, rfl, ?_⟩) | ((with_reducible refine gate_callee (f := 84) rfl ?_); refine goesL_ (some 10) rfl rfl Try.func84 (by kernel_rfl) rfl #[.int .i64 a1] rfl am ?_; (with_reducible refine (cmp_isNaN_int64.calls a1 false _ A4.out).mono ?_); rintro e w' ⟨rfl, ⟨nd, rfl⟩⟩; refine ⟨_, rfl, ?_⟩))
    go_ret
    exact ⟨by first | rfl | (simp; done) | (simp [*]; done), by repeat (first | exact Drawn0.refl _ | apply Drawn0.step)⟩
   ·rw [if_neg c8] at H
    have c8b0 : decide (a0 < a1) = false := decide_eq_false c8
    clear c8
    by_cases c9 : a0 > a1
    ·rw [if_pos c9] at H
     have c9b0 : decide (a1 < a0) = true := decide_eq_true c9
     clear c9
     obtain rfl := Option.some.inj H
     go_enter Try.func73, Try.ntmps73
     go_wp2_with (first | ((with_reducible refine gate_callee (f := 84) rfl ?_); refine goesL_ (some 8) rfl rfl Try.func84 (by kernel_rfl) rfl #[.int .i64 a0] rfl am ?_; (with_reducible refine (cmp_isNaN_int64.calls a0 false _ A3.out).mono ?_); rintro e w' ⟨rfl, ⟨nd, rfl⟩⟩; refine ⟨_, rfl, ?_⟩) | ((with_reducible refine gate_callee (f := 84) rfl ?_); refine goesL_ (some 10) rfl rfl Try.func84 (by kernel_rfl) rfl #[.int .i64 a1] rfl am ?_; (with_reducible refine (cmp_isNaN_int64.calls a1 false _ A4.out).mono ?_); rintro e w' ⟨rfl, ⟨nd, rfl⟩⟩; refine ⟨_, rfl, ?_⟩))
     go_ret
     exact ⟨by first | rfl | (simp; done) | (simp [*]; done), by repeat (first | exact Drawn0.refl _ | apply Drawn0.step)⟩
    ·rw [if_neg c9] at H
     have c9b0 : decide (a1 < a0) = false := decide_eq_false c9
     clear c9
     obtain rfl := Option.some.inj H
     go_enter Try.func73, Try.ntmps73
     go_wp2_with (first | ((with_reducible refine gate_callee (f := 84) rfl ?_); refine goesL_ (some 8) rfl rfl Try.func84 (by kernel_rfl) rfl #[.int .i64 a0] rfl am ?_; (with_reducible refine (cmp_isNaN_int64.calls a0 false _ A3.out).mono ?_); rintro e w' ⟨rfl, ⟨nd, rfl⟩⟩; refine ⟨_, rfl, ?_⟩) | ((with_reducible refine gate_callee (f := 84) rfl ?_); refine goesL_ (some 10) rfl rfl Try.func84 (by kernel_rfl) rfl #[.int .i64 a1] rfl am ?_; (with_reducible refine (cmp_isNaN_int64.calls a1 false _ A4.out).mono ?_); rintro e w' ⟨rfl, ⟨nd, rfl⟩⟩; refine ⟨_, rfl, ?_⟩))
     go_ret
     exact ⟨by first | rfl | (simp; done) | (simp [*]; done), by repeat (first | exact Drawn0.refl _ | apply Drawn0.step)⟩

/-! ### plane_turn: function 51 -/
def plane_turn.f (a0_0 : Int) (a0_1 : Int) (a1_0 : Int) (a1_1 : Int) (a2_0 : Int) (a2_1 : Int) : Option (Int) := (plane_cross.f a0_0 a0_1 a1_0 a1_1 a2_0 a2_1).bind fun t128 => ((cmp_Compare_int64.f t128 0).bind fun t129 => (some t129))
set_option maxHeartbeats 8000000 in
set_option maxRecDepth 100000 in
theorem plane_turn.calls (a0_0 : Int) (a0_1 : Int) (a1_0 : Int) (a1_1 : Int) (a2_0 : Int) (a2_1 : Int) (r : Int) (w : World) (h : plane_turn.f a0_0 a0_1 a1_0 a1_1 a2_0 a2_1 = some r) :
  Calls Try.prog 51 #[.agg #[.int .i64 a0_0, .int .i64 a0_1], .agg #[.int .i64 a1_0, .int .i64 a1_1], .agg #[.int .i64 a2_0, .int .i64 a2_1]] w fun e w' => e = .returned (.int .i64 r) ∧ Below w.heap.size w w' := by
 have hu26 := Try.underlying26
 have HB := Aside0.mk (Below.refl w.heap.size w)
 have H : ((plane_cross.f a0_0 a0_1 a1_0 a1_1 a2_0 a2_1).bind fun t128 => ((cmp_Compare_int64.f t128 0).bind fun t129 => (some t129))) = some r := h
 clear h
 replace H := Option.bind_eq_some_iff.mp H
 obtain ⟨t128, A40, H⟩ := H
 replace H : ((cmp_Compare_int64.f t128 0).bind fun t129 => (some t129)) = some r := H
 have A4 := Aside0.mk A40
 clear A40
 replace H := Option.bind_eq_some_iff.mp H
 obtain ⟨t129, A50, H⟩ := H
 replace H : (some t129) = some r := H
 have A5 := Aside0.mk A50
 clear A50
 obtain rfl := Option.some.inj H
 go_enter Try.func51, Try.ntmps51
 go_wp2_with (first | ((with_reducible refine gate_dst (N := 3) rfl ?_); refine be 3 (#[.int .i64 a0_0, .int .i64 a0_1]) 26 ?_; intro gb125 hg w6 hbox hb; have BK125 := Aside0.mk (hbox); have GW125 := Aside0.mk ((by rw [hg]; exact (below_size (bl0 HB.out)) : w.heap.size ≤ gb125)); have GE125 := GW125; replace HB := Aside0.mk (below_step (bl0 HB.out) hb); clear hb hbox hg) | ((with_reducible refine gate_dst (N := 4) rfl ?_); refine be 4 (#[.int .i64 a1_0, .int .i64 a1_1]) 26 ?_; intro gb126 hg w7 hbox hb; have BK126 := Aside0.mk (hbox); have GW126 := Aside0.mk ((by rw [hg]; exact (below_size (bl1 HB.out GE125.out)) : w.heap.size ≤ gb126)); have GE126 := GW126; have NB125_126 := Aside0.mk ((by rw [hg]; exact Nat.ne_of_lt (lt_ BK125.out) : gb125 ≠ gb126)); have NB126_125 := Aside0.mk ((by rw [hg]; exact Nat.ne_of_gt (lt_ BK125.out) : gb126 ≠ gb125)); replace BK125 := Aside0.mk (bb BK125.out hb); replace HB := Aside0.mk (below_step (bl1 HB.out GE125.out) hb); clear hb hbox hg) | ((with_reducible refine gate_dst (N := 5) rfl ?_); refine be 5 (#[.int .i64 a2_0, .int .i64 a2_1]) 26 ?_; intro gb127 hg w8 hbox hb; have BK127 := Aside0.mk (hbox); have GW127 := Aside0.mk ((by rw [hg]; exact (below_size (bl2 HB.out GE125.out GE126.out)) : w.heap.size ≤ gb127)); have GE127 := GW127; have NB125_127 := Aside0.mk ((by rw [hg]; exact Nat.ne_of_lt (lt_ BK125.out) : gb125 ≠ gb127)); have NB127_125 := Aside0.mk ((by rw [hg]; exact Nat.ne_of_gt (lt_ BK125.out) : gb127 ≠ gb125)); have NB126_127 := Aside0.mk ((by rw [hg]; exact Nat.ne_of_lt (lt_ BK126.out) : gb126 ≠ gb127)); have NB127_126 := Aside0.mk ((by rw [hg]; exact Nat.ne_of_gt (lt_ BK126.out) : gb127 ≠ gb126)); replace BK125 := Aside0.mk (bb BK125.out hb); replace BK126 := Aside0.mk (bb BK126.out hb); replace HB := Aside0.mk (below_step (bl2 HB.out GE125.out GE126.out) hb); clear hb hbox hg; have hnb9 := NB125_126.out; have hnc9 := NB126_125.out; have hnb10 := NB125_127.out; have hnc10 := NB127_125.out; have hcz11_0 : w8.cell? ⟨gb125, 0, none⟩ = some (.int .i64 a0_0) := (blk_cell BK125.out 0).trans rfl; have hcz11_1 : w8.cell? ⟨gb125, 1, none⟩ = some (.int .i64 a0_1) := (blk_cell BK125.out 1).trans rfl; have hfz11_0 := blk_frozen BK125.out 0; have hfz11_1 := blk_frozen BK125.out 1; have hnb12 := NB126_127.out; have hnc12 := NB127_126.out; have hcz13_0 : w8.cell? ⟨gb126, 0, none⟩ = some (.int .i64 a1_0) := (blk_cell BK126.out 0).trans rfl; have hcz13_1 : w8.cell? ⟨gb126, 1, none⟩ = some (.int .i64 a1_1) := (blk_cell BK126.out 1).trans rfl; have hfz13_0 := blk_frozen BK126.out 0; have hfz13_1 := blk_frozen BK126.out 1; have hcz14_0 : w8.cell? ⟨gb127, 0, none⟩ = some (.int .i64 a2_0) := (blk_cell BK127.out 0).trans rfl; have hcz14_1 : w8.cell? ⟨gb127, 1, none⟩ = some (.int .i64 a2_1) := (blk_cell BK127.out 1).trans rfl; have hfz14_0 := blk_frozen BK127.out 0; have hfz14_1 := blk_frozen BK127.out 1) | ((with_reducible refine gate_callee (f := 48) rfl ?_); refine goesL_ (some 10) rfl rfl Try.func48 (by kernel_rfl) rfl #[.agg #[.int .i64 a0_0, .int .i64 a0_1], .agg #[.int .i64 a1_0, .int .i64 a1_1], .agg #[.int .i64 a2_0, .int .i64 a2_1]] rfl am ?_; (with_reducible refine (plane_cross.calls a0_0 a0_1 a1_0 a1_1 a2_0 a2_1 t128 _ A4.out).mono ?_); rintro e w15 ⟨rfl, hb⟩; refine ⟨_, rfl, ?_⟩; replace BK125 := Aside0.mk (bb BK125.out hb); replace BK126 := Aside0.mk (bb BK126.out hb); replace BK127 := Aside0.mk (bb BK127.out hb); replace HB := Aside0.mk (below_step (bl3 HB.out GE125.out GE126.out GE127.out) hb); (try clear hb); (try clear hb2); (try clear hk); (try clear hi)) | ((with_reducible refine gate_callee (f := 73) rfl ?_); refine goesL_ (some 11) rfl rfl Try.func73 (by kernel_rfl) rfl #[.int .i64 t128, .int .i64 0] rfl am ?_; (with_reducible refine (cmp_Compare_int64.calls t128 0 t129 _ A5.out).mono ?_); rintro e w' ⟨rfl, ⟨nd, rfl⟩⟩; refine ⟨_, rfl, ?_⟩))
 go_ret
 exact ⟨by first | rfl | (simp [errW_none, errW_some] <;> rfl) | (simp [*, errW_none, errW_some] <;> rfl), bl3 HB.out GE125.out GE126.out GE127.out⟩

/-! ### plane_Turn: function 18 -/
def plane_Turn.f (k : Nat) (a0_0 : Int) (a0_1 : Int) (a1_0 : Int) (a1_1 : Int) (a2_0 : Int) (a2_1 : Int) : Option (Int × Int) := (plane_asked.f k (([(⟨a0_0, a0_1⟩ : S26), (⟨a1_0, a1_1⟩ : S26), (⟨a2_0, a2_1⟩ : S26)] : List (S26)))).bind fun t136 => (if t136 = 0 then ((plane_turn.f a0_0 a0_1 a1_0 a1_1 a2_0 a2_1).bind fun t137 => (some (t137, 0))) else (some (0, t136)))
theorem plane_Turn.mono : ∀ a0 a1 a2 a3 a4 a5 k, LeO (plane_Turn.f k a0 a1 a2 a3 a4 a5) (plane_Turn.f (k + 1) a0 a1 a2 a3 a4 a5) := by
 intro a0 a1 a2 a3 a4 a5 k
 unfold plane_Turn.f
 repeat' first
   | (with_reducible exact plane_asked.mono _ _)
   | (with_reducible exact LeO.refl _)
   | (with_reducible exact LeO.none _)
   | (with_reducible refine LeO.ite ?_ ?_)
   | (with_reducible refine LeO.bind ?_ (fun _ => ?_))
   | exact plane_asked.mono _ _
   | exact LeO.none _
   | refine LeO.ite ?_ ?_
   | refine LeO.bind ?_ (fun _ => ?_)
set_option maxHeartbeats 8000000 in
set_option maxRecDepth 100000 in
theorem plane_Turn.calls (k : Nat) (a0_0 : Int) (a0_1 : Int) (a1_0 : Int) (a1_1 : Int) (a2_0 : Int) (a2_1 : Int) (r1 : Int) (r2 : Int) (w : World) (h : plane_Turn.f k a0_0 a0_1 a1_0 a1_1 a2_0 a2_1 = some (r1, r2)) :
  Calls Try.prog 18 #[.agg #[.int .i64 a0_0, .int .i64 a0_1], .agg #[.int .i64 a1_0, .int .i64 a1_1], .agg #[.int .i64 a2_0, .int .i64 a2_1]] w fun e w' => e = .returned (.tuple #[.int .i64 r1, .int .i64 r2]) ∧ Below w.heap.size w w' := by
 have hu26 := Try.underlying26
 have HB := Aside0.mk (Below.refl w.heap.size w)
 have H : ((plane_asked.f k (([(⟨a0_0, a0_1⟩ : S26), (⟨a1_0, a1_1⟩ : S26), (⟨a2_0, a2_1⟩ : S26)] : List (S26)))).bind fun t136 => (if t136 = 0 then ((plane_turn.f a0_0 a0_1 a1_0 a1_1 a2_0 a2_1).bind fun t137 => (some (t137, 0))) else (some (0, t136)))) = some (r1, r2) := h
 clear h
 obtain ⟨y133, hy133⟩ : ∃ y_ : List (S26), y_ = (([(⟨a0_0, a0_1⟩ : S26), (⟨a1_0, a1_1⟩ : S26), (⟨a2_0, a2_1⟩ : S26)] : List (S26))) := ⟨_, rfl⟩
 replace H : ((plane_asked.f k y133).bind fun t136 => (if t136 = 0 then ((plane_turn.f a0_0 a0_1 a1_0 a1_1 a2_0 a2_1).bind fun t137 => (some (t137, 0))) else (some (0, t136)))) = some (r1, r2) := by first | (rw [hy133]; with_reducible exact H) | (have H2_ := (Option.bind_some _ _).symm.trans H; rw [hy133]; with_reducible exact H2_) | (have H2_ := (Option.bind_some _ _).symm.trans H; with_reducible exact H2_) | with_reducible exact H | (rw [hy133]; exact H) | exact H
 have Ny133 := Aside0.mk hy133
 clear hy133
 replace H := Option.bind_eq_some_iff.mp H
 obtain ⟨t136, A40, H⟩ := H
 replace H : (if t136 = 0 then ((plane_turn.f a0_0 a0_1 a1_0 a1_1 a2_0 a2_1).bind fun t137 => (some (t137, 0))) else (some (0, t136))) = some (r1, r2) := H
 have A4 := Aside0.mk A40
 clear A40
 by_cases c5 : t136 = 0
 ·rw [if_pos c5] at H
  have c5b0 : (t136 == 0) = true := beq_iff_eq.mpr c5
  have c5b1 : (t136 != 0) = false := bne_eq_false_iff_eq.mpr c5
  clear c5
  replace H := Option.bind_eq_some_iff.mp H
  obtain ⟨t137, A60, H⟩ := H
  replace H : (some (t137, 0)) = some (r1, r2) := H
  have A6 := Aside0.mk A60
  clear A60
  simp only [Option.some.injEq, Prod.mk.injEq] at H
  obtain ⟨rfl, rfl⟩ := H
  go_enter Try.func18, Try.ntmps18
  go_wp2_with (first | ((with_reducible refine gate_dst (N := 3) rfl ?_); refine be 3 (#[.int .i64 a0_0, .int .i64 a0_1]) 26 ?_; intro gb130 hg w7 hbox hb; have BK130 := Aside0.mk (hbox); have GW130 := Aside0.mk ((by rw [hg]; exact (below_size (bl0 HB.out)) : w.heap.size ≤ gb130)); have GE130 := GW130; replace HB := Aside0.mk (below_step (bl0 HB.out) hb); clear hb hbox hg) | ((with_reducible refine gate_dst (N := 4) rfl ?_); refine be 4 (#[.int .i64 a1_0, .int .i64 a1_1]) 26 ?_; intro gb131 hg w8 hbox hb; have BK131 := Aside0.mk (hbox); have GW131 := Aside0.mk ((by rw [hg]; exact (below_size (bl1 HB.out GE130.out)) : w.heap.size ≤ gb131)); have GE131 := GW131; have NB130_131 := Aside0.mk ((by rw [hg]; exact Nat.ne_of_lt (lt_ BK130.out) : gb130 ≠ gb131)); have NB131_130 := Aside0.mk ((by rw [hg]; exact Nat.ne_of_gt (lt_ BK130.out) : gb131 ≠ gb130)); replace BK130 := Aside0.mk (bb BK130.out hb); replace HB := Aside0.mk (below_step (bl1 HB.out GE130.out) hb); clear hb hbox hg) | ((with_reducible refine gate_dst (N := 5) rfl ?_); refine be 5 (#[.int .i64 a2_0, .int .i64 a2_1]) 26 ?_; intro gb132 hg w9 hbox hb; have BK132 := Aside0.mk (hbox); have GW132 := Aside0.mk ((by rw [hg]; exact (below_size (bl2 HB.out GE130.out GE131.out)) : w.heap.size ≤ gb132)); have GE132 := GW132; have NB130_132 := Aside0.mk ((by rw [hg]; exact Nat.ne_of_lt (lt_ BK130.out) : gb130 ≠ gb132)); have NB132_130 := Aside0.mk ((by rw [hg]; exact Nat.ne_of_gt (lt_ BK130.out) : gb132 ≠ gb130)); have NB131_132 := Aside0.mk ((by rw [hg]; exact Nat.ne_of_lt (lt_ BK131.out) : gb131 ≠ gb132)); have NB132_131 := Aside0.mk ((by rw [hg]; exact Nat.ne_of_gt (lt_ BK131.out) : gb132 ≠ gb131)); replace BK130 := Aside0.mk (bb BK130.out hb); replace BK131 := Aside0.mk (bb BK131.out hb); replace HB := Aside0.mk (below_step (bl2 HB.out GE130.out GE131.out) hb); clear hb hbox hg; have hnb10 := NB130_131.out; have hnc10 := NB131_130.out; have hnb11 := NB130_132.out; have hnc11 := NB132_130.out; have hcz12_0 : w9.cell? ⟨gb130, 0, none⟩ = some (.int .i64 a0_0) := (blk_cell BK130.out 0).trans rfl; have hcz12_1 : w9.cell? ⟨gb130, 1, none⟩ = some (.int .i64 a0_1) := (blk_cell BK130.out 1).trans rfl; have hfz12_0 := blk_frozen BK130.out 0; have hfz12_1 := blk_frozen BK130.out 1; have hnb13 := NB131_132.out; have hnc13 := NB132_131.out; have hcz14_0 : w9.cell? ⟨gb131, 0, none⟩ = some (.int .i64 a1_0) := (blk_cell BK131.out 0).trans rfl; have hcz14_1 : w9.cell? ⟨gb131, 1, none⟩ = some (.int .i64 a1_1) := (blk_cell BK131.out 1).trans rfl; have hfz14_0 := blk_frozen BK131.out 0; have hfz14_1 := blk_frozen BK131.out 1; have hcz15_0 : w9.cell? ⟨gb132, 0, none⟩ = some (.int .i64 a2_0) := (blk_cell BK132.out 0).trans rfl; have hcz15_1 : w9.cell? ⟨gb132, 1, none⟩ = some (.int .i64 a2_1) := (blk_cell BK132.out 1).trans rfl; have hfz15_0 := blk_frozen BK132.out 0; have hfz15_1 := blk_frozen BK132.out 1) | ((with_reducible refine gate_dst (N := 12) rfl ?_); refine Kd.R_lit k26 _ 26 ?hg (N := 12) ?hd (xs := ([(⟨a0_0, a0_1⟩ : S26), (⟨a1_0, a1_1⟩ : S26), (⟨a2_0, a2_1⟩ : S26)] : List (S26))) (inner := [.int .i64 a0_0, .int .i64 a0_1, .int .i64 a1_0, .int .i64 a1_1, .int .i64 a2_0, .int .i64 a2_1]) (ok := fun _ => True) (okp := fun _ => True) ?hr ?hp (fun _ hk => hk) trivial (Below.refl _ _) (Nat.le_refl _) (by simp) ?_; (case hd => rfl); (case hg => rfl); (case hr => first | (go_simp; done) | (go_simp; rfl)); (case hp => exact (Reps.c2 (show Kd.M k26 _ _ _ (⟨a0_0, a0_1⟩ : S26) [.int .i64 a0_0, .int .i64 a0_1] from (k26_mkM _ _ _ (⟨a0_0, a0_1⟩ : S26) )) (Reps.c2 (show Kd.M k26 _ _ _ (⟨a1_0, a1_1⟩ : S26) [.int .i64 a1_0, .int .i64 a1_1] from (k26_mkM _ _ _ (⟨a1_0, a1_1⟩ : S26) )) (Reps.c2 (show Kd.M k26 _ _ _ (⟨a2_0, a2_1⟩ : S26) [.int .i64 a2_0, .int .i64 a2_1] from (k26_mkM _ _ _ (⟨a2_0, a2_1⟩ : S26) )) (Reps.none _ _))))); intro v134 w16 ho17 hb hg_ hnew_; clear hg_ hnew_; (first | rw [← Ny133.out] at ho17 | (simp only [Int.reduceToNat] at ho17; rw [← Ny133.out] at ho17)); have HO135 := Aside0.mk (Kd.R_lower (Kd.R_newB (Kd.R_newB (Kd.R_newB ho17 (g := gb130) (o := .cells #[.int .i64 a0_0, .int .i64 a0_1] 26 (0, 0)) (bk BK130.out)) (g := gb131) (o := .cells #[.int .i64 a1_0, .int .i64 a1_1] 26 (0, 0)) (bk BK131.out)) (g := gb132) (o := .cells #[.int .i64 a2_0, .int .i64 a2_1] 26 (0, 0)) (bk BK132.out)) (below_size (bl3 HB.out GE130.out GE131.out GE132.out))); replace BK130 := Aside0.mk (bb BK130.out hb); replace BK131 := Aside0.mk (bb BK131.out hb); replace BK132 := Aside0.mk (bb BK132.out hb); replace HB := Aside0.mk (below_step (bl3 HB.out GE130.out GE131.out GE132.out) hb); clear hb ho17; obtain ⟨Ao18, co18, eo18⟩ := Kd.R_slice HO135.out; subst eo18) | ((with_reducible refine gate_callee (f := 47) rfl ?_); refine goesL_ (some 13) rfl rfl Try.func47 (by kernel_rfl) rfl #[.slice Ao18 y133.length co18] rfl am ?_; (with_reducible refine (plane_asked.calls k _ _ y133 t136 _ ?side1 ?side2 A4.out).mono ?_); (case side1 => repeat (first | exact (Kd.R_reads' HO135.out).2.2 | (with_reducible refine Kd.C_alloc ?_ _) | (with_reducible refine Kd.C_drewN ?_ _) | (with_reducible refine Kd.C_drew ?_))); (case side2 => exact (Kd.R_reads' HO135.out).2.1); rintro e w19 ⟨rfl, hb⟩; refine ⟨_, rfl, ?_⟩; replace HO135 := Aside0.mk (Kd.R_below (by (with_reducible repeat (first | apply Kd.R_alloc | apply Kd.R_drewN | apply Kd.R_drew)); exact HO135.out) hb); replace BK130 := Aside0.mk (bb BK130.out hb); replace BK131 := Aside0.mk (bb BK131.out hb); replace BK132 := Aside0.mk (bb BK132.out hb); replace HB := Aside0.mk (below_step (bl3 HB.out GE130.out GE131.out GE132.out) hb); (try clear hb); (try clear hb2); (try clear hk); (try clear hi); have hcz20_0 : w19.cell? ⟨gb130, 0, none⟩ = some (.int .i64 a0_0) := (blk_cell BK130.out 0).trans rfl; have hcz20_1 : w19.cell? ⟨gb130, 1, none⟩ = some (.int .i64 a0_1) := (blk_cell BK130.out 1).trans rfl; have hfz20_0 := blk_frozen BK130.out 0; have hfz20_1 := blk_frozen BK130.out 1; have hcz21_0 : w19.cell? ⟨gb131, 0, none⟩ = some (.int .i64 a1_0) := (blk_cell BK131.out 0).trans rfl; have hcz21_1 : w19.cell? ⟨gb131, 1, none⟩ = some (.int .i64 a1_1) := (blk_cell BK131.out 1).trans rfl; have hfz21_0 := blk_frozen BK131.out 0; have hfz21_1 := blk_frozen BK131.out 1; have hcz22_0 : w19.cell? ⟨gb132, 0, none⟩ = some (.int .i64 a2_0) := (blk_cell BK132.out 0).trans rfl; have hcz22_1 : w19.cell? ⟨gb132, 1, none⟩ = some (.int .i64 a2_1) := (blk_cell BK132.out 1).trans rfl; have hfz22_0 := blk_frozen BK132.out 0; have hfz22_1 := blk_frozen BK132.out 1) | ((with_reducible refine gate_callee (f := 51) rfl ?_); refine goesL_ (some 20) rfl rfl Try.func51 (by kernel_rfl) rfl #[.agg #[.int .i64 a0_0, .int .i64 a0_1], .agg #[.int .i64 a1_0, .int .i64 a1_1], .agg #[.int .i64 a2_0, .int .i64 a2_1]] rfl am ?_; (with_reducible refine (plane_turn.calls a0_0 a0_1 a1_0 a1_1 a2_0 a2_1 t137 _ A6.out).mono ?_); rintro e w23 ⟨rfl, hb⟩; refine ⟨_, rfl, ?_⟩; replace HO135 := Aside0.mk (Kd.R_below (by (with_reducible repeat (first | apply Kd.R_alloc | apply Kd.R_drewN | apply Kd.R_drew)); exact HO135.out) hb); replace BK130 := Aside0.mk (bb BK130.out hb); replace BK131 := Aside0.mk (bb BK131.out hb); replace BK132 := Aside0.mk (bb BK132.out hb); replace HB := Aside0.mk (below_step (bl3 HB.out GE130.out GE131.out GE132.out) hb); (try clear hb); (try clear hb2); (try clear hk); (try clear hi)))
  go_ret2
  exact ⟨by first | rfl | (simp [errW_none, errW_some] <;> rfl) | (simp [*, errW_none, errW_some] <;> rfl), bl3 HB.out GE130.out GE131.out GE132.out⟩
 ·rw [if_neg c5] at H
  have c5b0 : (t136 == 0) = false := beq_eq_false_iff_ne.mpr c5
  have c5b1 : (t136 != 0) = true := bne_iff_ne.mpr c5
  simp only [Option.some.injEq, Prod.mk.injEq] at H
  obtain ⟨rfl, rfl⟩ := H
  go_enter Try.func18, Try.ntmps18
  go_wp2_with (first | ((with_reducible refine gate_dst (N := 3) rfl ?_); refine be 3 (#[.int .i64 a0_0, .int .i64 a0_1]) 26 ?_; intro gb130 hg w24 hbox hb; have BK130 := Aside0.mk (hbox); have GW130 := Aside0.mk ((by rw [hg]; exact (below_size (bl0 HB.out)) : w.heap.size ≤ gb130)); have GE130 := GW130; replace HB := Aside0.mk (below_step (bl0 HB.out) hb); clear hb hbox hg) | ((with_reducible refine gate_dst (N := 4) rfl ?_); refine be 4 (#[.int .i64 a1_0, .int .i64 a1_1]) 26 ?_; intro gb131 hg w25 hbox hb; have BK131 := Aside0.mk (hbox); have GW131 := Aside0.mk ((by rw [hg]; exact (below_size (bl1 HB.out GE130.out)) : w.heap.size ≤ gb131)); have GE131 := GW131; have NB130_131 := Aside0.mk ((by rw [hg]; exact Nat.ne_of_lt (lt_ BK130.out) : gb130 ≠ gb131)); have NB131_130 := Aside0.mk ((by rw [hg]; exact Nat.ne_of_gt (lt_ BK130.out) : gb131 ≠ gb130)); replace BK130 := Aside0.mk (bb BK130.out hb); replace HB := Aside0.mk (below_step (bl1 HB.out GE130.out) hb); clear hb hbox hg) | ((with_reducible refine gate_dst (N := 5) rfl ?_); refine be 5 (#[.int .i64 a2_0, .int .i64 a2_1]) 26 ?_; intro gb132 hg w26 hbox hb; have BK132 := Aside0.mk (hbox); have GW132 := Aside0.mk ((by rw [hg]; exact (below_size (bl2 HB.out GE130.out GE131.out)) : w.heap.size ≤ gb132)); have GE132 := GW132; have NB130_132 := Aside0.mk ((by rw [hg]; exact Nat.ne_of_lt (lt_ BK130.out) : gb130 ≠ gb132)); have NB132_130 := Aside0.mk ((by rw [hg]; exact Nat.ne_of_gt (lt_ BK130.out) : gb132 ≠ gb130)); have NB131_132 := Aside0.mk ((by rw [hg]; exact Nat.ne_of_lt (lt_ BK131.out) : gb131 ≠ gb132)); have NB132_131 := Aside0.mk ((by rw [hg]; exact Nat.ne_of_gt (lt_ BK131.out) : gb132 ≠ gb131)); replace BK130 := Aside0.mk (bb BK130.out hb); replace BK131 := Aside0.mk (bb BK131.out hb); replace HB := Aside0.mk (below_step (bl2 HB.out GE130.out GE131.out) hb); clear hb hbox hg; have hnb27 := NB130_131.out; have hnc27 := NB131_130.out; have hnb28 := NB130_132.out; have hnc28 := NB132_130.out; have hcz29_0 : w26.cell? ⟨gb130, 0, none⟩ = some (.int .i64 a0_0) := (blk_cell BK130.out 0).trans rfl; have hcz29_1 : w26.cell? ⟨gb130, 1, none⟩ = some (.int .i64 a0_1) := (blk_cell BK130.out 1).trans rfl; have hfz29_0 := blk_frozen BK130.out 0; have hfz29_1 := blk_frozen BK130.out 1; have hnb30 := NB131_132.out; have hnc30 := NB132_131.out; have hcz31_0 : w26.cell? ⟨gb131, 0, none⟩ = some (.int .i64 a1_0) := (blk_cell BK131.out 0).trans rfl; have hcz31_1 : w26.cell? ⟨gb131, 1, none⟩ = some (.int .i64 a1_1) := (blk_cell BK131.out 1).trans rfl; have hfz31_0 := blk_frozen BK131.out 0; have hfz31_1 := blk_frozen BK131.out 1; have hcz32_0 : w26.cell? ⟨gb132, 0, none⟩ = some (.int .i64 a2_0) := (blk_cell BK132.out 0).trans rfl; have hcz32_1 : w26.cell? ⟨gb132, 1, none⟩ = some (.int .i64 a2_1) := (blk_cell BK132.out 1).trans rfl; have hfz32_0 := blk_frozen BK132.out 0; have hfz32_1 := blk_frozen BK132.out 1) | ((with_reducible refine gate_dst (N := 12) rfl ?_); refine Kd.R_lit k26 _ 26 ?hg (N := 12) ?hd (xs := ([(⟨a0_0, a0_1⟩ : S26), (⟨a1_0, a1_1⟩ : S26), (⟨a2_0, a2_1⟩ : S26)] : List (S26))) (inner := [.int .i64 a0_0, .int .i64 a0_1, .int .i64 a1_0, .int .i64 a1_1, .int .i64 a2_0, .int .i64 a2_1]) (ok := fun _ => True) (okp := fun _ => True) ?hr ?hp (fun _ hk => hk) trivial (Below.refl _ _) (Nat.le_refl _) (by simp) ?_; (case hd => rfl); (case hg => rfl); (case hr => first | (go_simp; done) | (go_simp; rfl)); (case hp => exact (Reps.c2 (show Kd.M k26 _ _ _ (⟨a0_0, a0_1⟩ : S26) [.int .i64 a0_0, .int .i64 a0_1] from (k26_mkM _ _ _ (⟨a0_0, a0_1⟩ : S26) )) (Reps.c2 (show Kd.M k26 _ _ _ (⟨a1_0, a1_1⟩ : S26) [.int .i64 a1_0, .int .i64 a1_1] from (k26_mkM _ _ _ (⟨a1_0, a1_1⟩ : S26) )) (Reps.c2 (show Kd.M k26 _ _ _ (⟨a2_0, a2_1⟩ : S26) [.int .i64 a2_0, .int .i64 a2_1] from (k26_mkM _ _ _ (⟨a2_0, a2_1⟩ : S26) )) (Reps.none _ _))))); intro v134 w33 ho34 hb hg_ hnew_; clear hg_ hnew_; (first | rw [← Ny133.out] at ho34 | (simp only [Int.reduceToNat] at ho34; rw [← Ny133.out] at ho34)); have HO135 := Aside0.mk (Kd.R_lower (Kd.R_newB (Kd.R_newB (Kd.R_newB ho34 (g := gb130) (o := .cells #[.int .i64 a0_0, .int .i64 a0_1] 26 (0, 0)) (bk BK130.out)) (g := gb131) (o := .cells #[.int .i64 a1_0, .int .i64 a1_1] 26 (0, 0)) (bk BK131.out)) (g := gb132) (o := .cells #[.int .i64 a2_0, .int .i64 a2_1] 26 (0, 0)) (bk BK132.out)) (below_size (bl3 HB.out GE130.out GE131.out GE132.out))); replace BK130 := Aside0.mk (bb BK130.out hb); replace BK131 := Aside0.mk (bb BK131.out hb); replace BK132 := Aside0.mk (bb BK132.out hb); replace HB := Aside0.mk (below_step (bl3 HB.out GE130.out GE131.out GE132.out) hb); clear hb ho34; obtain ⟨Ao35, co35, eo35⟩ := Kd.R_slice HO135.out; subst eo35) | ((with_reducible refine gate_callee (f := 47) rfl ?_); refine goesL_ (some 13) rfl rfl Try.func47 (by kernel_rfl) rfl #[.slice Ao35 y133.length co35] rfl am ?_; (with_reducible refine (plane_asked.calls k _ _ y133 t136 _ ?side1 ?side2 A4.out).mono ?_); (case side1 => repeat (first | exact (Kd.R_reads' HO135.out).2.2 | (with_reducible refine Kd.C_alloc ?_ _) | (with_reducible refine Kd.C_drewN ?_ _) | (with_reducible refine Kd.C_drew ?_))); (case side2 => exact (Kd.R_reads' HO135.out).2.1); rintro e w36 ⟨rfl, hb⟩; refine ⟨_, rfl, ?_⟩; replace HO135 := Aside0.mk (Kd.R_below (by (with_reducible repeat (first | apply Kd.R_alloc | apply Kd.R_drewN | apply Kd.R_drew)); exact HO135.out) hb); replace BK130 := Aside0.mk (bb BK130.out hb); replace BK131 := Aside0.mk (bb BK131.out hb); replace BK132 := Aside0.mk (bb BK132.out hb); replace HB := Aside0.mk (below_step (bl3 HB.out GE130.out GE131.out GE132.out) hb); (try clear hb); (try clear hb2); (try clear hk); (try clear hi)))
  go_ret2
  exact ⟨by first | rfl | (simp [errW_none, errW_some] <;> rfl) | (simp [*, errW_none, errW_some] <;> rfl), bl3 HB.out GE130.out GE131.out GE132.out⟩

/-! ### pochoirlaw18_awake: function 12 -/
def pochoirlaw18_awake.f (k : Nat)  : Option (Bool) := (plane_Turn.f k 0 0 5 0 0 5).bind fun bt138 => ((plane_Far.f k 0 0 3 4).bind fun bt140 => ((plane_Far.f k 0 0 33554433 0).bind fun bt142 => (if bt138.1 = 1 then (if bt138.2 = 0 then (if bt140.1 = 25 then (if bt140.2 = 0 then (if bt142.2 = 1 then ((plane_May.f 33554432 0).bind fun t144 => (some t144)) else (some false)) else (some false)) else (some false)) else (some false)) else (some false))))
theorem pochoirlaw18_awake.mono : ∀ k, LeO (pochoirlaw18_awake.f k ) (pochoirlaw18_awake.f (k + 1) ) := by
 intro  k
 unfold pochoirlaw18_awake.f
 repeat' first
   | (with_reducible exact plane_Far.mono _ _ _ _ _)
   | (with_reducible exact plane_Turn.mono _ _ _ _ _ _ _)
   | (with_reducible exact LeO.refl _)
   | (with_reducible exact LeO.none _)
   | (with_reducible refine LeO.ite ?_ ?_)
   | (with_reducible refine LeO.bind ?_ (fun _ => ?_))
   | exact plane_Far.mono _ _ _ _ _
   | exact plane_Turn.mono _ _ _ _ _ _ _
   | exact LeO.none _
   | refine LeO.ite ?_ ?_
   | refine LeO.bind ?_ (fun _ => ?_)
set_option maxHeartbeats 8000000 in
set_option maxRecDepth 100000 in
theorem pochoirlaw18_awake.calls (k : Nat)  (r : Bool) (w : World) (h : pochoirlaw18_awake.f k  = some r) :
  Calls Try.prog 12 #[] w fun e w' => e = .returned (.bool r) ∧ Below w.heap.size w w' := by
 have hu26 := Try.underlying26
 have HB := Aside0.mk (Below.refl w.heap.size w)
 have H : ((plane_Turn.f k 0 0 5 0 0 5).bind fun bt138 => ((plane_Far.f k 0 0 3 4).bind fun bt140 => ((plane_Far.f k 0 0 33554433 0).bind fun bt142 => (if bt138.1 = 1 then (if bt138.2 = 0 then (if bt140.1 = 25 then (if bt140.2 = 0 then (if bt142.2 = 1 then ((plane_May.f 33554432 0).bind fun t144 => (some t144)) else (some false)) else (some false)) else (some false)) else (some false)) else (some false))))) = some r := h
 clear h
 replace H := Option.bind_eq_some_iff.mp H
 obtain ⟨⟨t138, t139⟩, A10, H⟩ := H
 replace H : ((plane_Far.f k 0 0 3 4).bind fun bt140 => ((plane_Far.f k 0 0 33554433 0).bind fun bt142 => (if t138 = 1 then (if t139 = 0 then (if bt140.1 = 25 then (if bt140.2 = 0 then (if bt142.2 = 1 then ((plane_May.f 33554432 0).bind fun t144 => (some t144)) else (some false)) else (some false)) else (some false)) else (some false)) else (some false)))) = some r := H
 have A1 := Aside0.mk A10
 clear A10
 replace H := Option.bind_eq_some_iff.mp H
 obtain ⟨⟨t140, t141⟩, A20, H⟩ := H
 replace H : ((plane_Far.f k 0 0 33554433 0).bind fun bt142 => (if t138 = 1 then (if t139 = 0 then (if t140 = 25 then (if t141 = 0 then (if bt142.2 = 1 then ((plane_May.f 33554432 0).bind fun t144 => (some t144)) else (some false)) else (some false)) else (some false)) else (some false)) else (some false))) = some r := H
 have A2 := Aside0.mk A20
 clear A20
 replace H := Option.bind_eq_some_iff.mp H
 obtain ⟨⟨t142, t143⟩, A30, H⟩ := H
 replace H : (if t138 = 1 then (if t139 = 0 then (if t140 = 25 then (if t141 = 0 then (if t143 = 1 then ((plane_May.f 33554432 0).bind fun t144 => (some t144)) else (some false)) else (some false)) else (some false)) else (some false)) else (some false)) = some r := H
 have A3 := Aside0.mk A30
 clear A30
 by_cases c4 : t138 = 1
 ·rw [if_pos c4] at H
  have c4b0 : (t138 == 1) = true := beq_iff_eq.mpr c4
  have c4b1 : (t138 != 1) = false := bne_eq_false_iff_eq.mpr c4
  clear c4
  by_cases c5 : t139 = 0
  ·rw [if_pos c5] at H
   have c5b0 : (t139 == 0) = true := beq_iff_eq.mpr c5
   have c5b1 : (t139 != 0) = false := bne_eq_false_iff_eq.mpr c5
   clear c5
   by_cases c6 : t140 = 25
   ·rw [if_pos c6] at H
    have c6b0 : (t140 == 25) = true := beq_iff_eq.mpr c6
    have c6b1 : (t140 != 25) = false := bne_eq_false_iff_eq.mpr c6
    clear c6
    by_cases c7 : t141 = 0
    ·rw [if_pos c7] at H
     have c7b0 : (t141 == 0) = true := beq_iff_eq.mpr c7
     have c7b1 : (t141 != 0) = false := bne_eq_false_iff_eq.mpr c7
     clear c7
     by_cases c8 : t143 = 1
     ·rw [if_pos c8] at H
      have c8b0 : (t143 == 1) = true := beq_iff_eq.mpr c8
      have c8b1 : (t143 != 1) = false := bne_eq_false_iff_eq.mpr c8
      clear c8
      replace H := Option.bind_eq_some_iff.mp H
      obtain ⟨t144, A90, H⟩ := H
      replace H : (some t144) = some r := H
      have A9 := Aside0.mk A90
      clear A90
      obtain rfl := Option.some.inj H
      go_enter Try.func12, Try.ntmps12
      go_wp2_with (first | ((with_reducible refine gate_callee (f := 18) rfl ?_); refine goesL_ (some 11) rfl rfl Try.func18 (by kernel_rfl) rfl #[.agg #[.int .i64 0, .int .i64 0], .agg #[.int .i64 5, .int .i64 0], .agg #[.int .i64 0, .int .i64 5]] rfl am ?_; (with_reducible refine (plane_Turn.calls k 0 0 5 0 0 5 t138 t139 _ A1.out).mono ?_); rintro e w10 ⟨rfl, hb⟩; refine ⟨_, rfl, ?_⟩; replace HB := Aside0.mk (below_step (bl0 HB.out) hb); (try clear hb); (try clear hb2); (try clear hk); (try clear hi)) | ((with_reducible refine gate_callee (f := 14) rfl ?_); refine goesL_ (some 17) rfl rfl Try.func14 (by kernel_rfl) rfl #[.agg #[.int .i64 0, .int .i64 0], .agg #[.int .i64 3, .int .i64 4]] rfl am ?_; (with_reducible refine (plane_Far.calls k 0 0 3 4 t140 t141 _ A2.out).mono ?_); rintro e w11 ⟨rfl, hb⟩; refine ⟨_, rfl, ?_⟩; replace HB := Aside0.mk (below_step (bl0 HB.out) hb); (try clear hb); (try clear hb2); (try clear hk); (try clear hi)) | ((with_reducible refine gate_callee (f := 14) rfl ?_); refine goesL_ (some 23) rfl rfl Try.func14 (by kernel_rfl) rfl #[.agg #[.int .i64 0, .int .i64 0], .agg #[.int .i64 33554433, .int .i64 0]] rfl am ?_; (with_reducible refine (plane_Far.calls k 0 0 33554433 0 t142 t143 _ A3.out).mono ?_); rintro e w12 ⟨rfl, hb⟩; refine ⟨_, rfl, ?_⟩; replace HB := Aside0.mk (below_step (bl0 HB.out) hb); (try clear hb); (try clear hb2); (try clear hk); (try clear hi)) | (go_at_call 20; (with_reducible refine (plane_May.calls 33554432 0 t144 _ A9.out).mono ?_); rintro e w13 ⟨rfl, hb⟩; replace HB := Aside0.mk (below_step (bl0 HB.out) hb); (try clear hb); (try clear hb2); (try clear hk); (try clear hi)))
      go_ret
      exact ⟨by first | rfl | (simp [errW_none, errW_some] <;> rfl) | (simp [*, errW_none, errW_some] <;> rfl), bl0 HB.out⟩
     ·rw [if_neg c8] at H
      have c8b0 : (t143 == 1) = false := beq_eq_false_iff_ne.mpr c8
      have c8b1 : (t143 != 1) = true := bne_iff_ne.mpr c8
      obtain rfl := Option.some.inj H
      go_enter Try.func12, Try.ntmps12
      go_wp2_with (first | ((with_reducible refine gate_callee (f := 18) rfl ?_); refine goesL_ (some 11) rfl rfl Try.func18 (by kernel_rfl) rfl #[.agg #[.int .i64 0, .int .i64 0], .agg #[.int .i64 5, .int .i64 0], .agg #[.int .i64 0, .int .i64 5]] rfl am ?_; (with_reducible refine (plane_Turn.calls k 0 0 5 0 0 5 t138 t139 _ A1.out).mono ?_); rintro e w14 ⟨rfl, hb⟩; refine ⟨_, rfl, ?_⟩; replace HB := Aside0.mk (below_step (bl0 HB.out) hb); (try clear hb); (try clear hb2); (try clear hk); (try clear hi)) | ((with_reducible refine gate_callee (f := 14) rfl ?_); refine goesL_ (some 17) rfl rfl Try.func14 (by kernel_rfl) rfl #[.agg #[.int .i64 0, .int .i64 0], .agg #[.int .i64 3, .int .i64 4]] rfl am ?_; (with_reducible refine (plane_Far.calls k 0 0 3 4 t140 t141 _ A2.out).mono ?_); rintro e w15 ⟨rfl, hb⟩; refine ⟨_, rfl, ?_⟩; replace HB := Aside0.mk (below_step (bl0 HB.out) hb); (try clear hb); (try clear hb2); (try clear hk); (try clear hi)) | ((with_reducible refine gate_callee (f := 14) rfl ?_); refine goesL_ (some 23) rfl rfl Try.func14 (by kernel_rfl) rfl #[.agg #[.int .i64 0, .int .i64 0], .agg #[.int .i64 33554433, .int .i64 0]] rfl am ?_; (with_reducible refine (plane_Far.calls k 0 0 33554433 0 t142 t143 _ A3.out).mono ?_); rintro e w16 ⟨rfl, hb⟩; refine ⟨_, rfl, ?_⟩; replace HB := Aside0.mk (below_step (bl0 HB.out) hb); (try clear hb); (try clear hb2); (try clear hk); (try clear hi)))
      go_ret
      exact ⟨by first | rfl | (simp [errW_none, errW_some] <;> rfl) | (simp [*, errW_none, errW_some] <;> rfl), bl0 HB.out⟩
    ·rw [if_neg c7] at H
     have c7b0 : (t141 == 0) = false := beq_eq_false_iff_ne.mpr c7
     have c7b1 : (t141 != 0) = true := bne_iff_ne.mpr c7
     obtain rfl := Option.some.inj H
     go_enter Try.func12, Try.ntmps12
     go_wp2_with (first | ((with_reducible refine gate_callee (f := 18) rfl ?_); refine goesL_ (some 11) rfl rfl Try.func18 (by kernel_rfl) rfl #[.agg #[.int .i64 0, .int .i64 0], .agg #[.int .i64 5, .int .i64 0], .agg #[.int .i64 0, .int .i64 5]] rfl am ?_; (with_reducible refine (plane_Turn.calls k 0 0 5 0 0 5 t138 t139 _ A1.out).mono ?_); rintro e w17 ⟨rfl, hb⟩; refine ⟨_, rfl, ?_⟩; replace HB := Aside0.mk (below_step (bl0 HB.out) hb); (try clear hb); (try clear hb2); (try clear hk); (try clear hi)) | ((with_reducible refine gate_callee (f := 14) rfl ?_); refine goesL_ (some 17) rfl rfl Try.func14 (by kernel_rfl) rfl #[.agg #[.int .i64 0, .int .i64 0], .agg #[.int .i64 3, .int .i64 4]] rfl am ?_; (with_reducible refine (plane_Far.calls k 0 0 3 4 t140 t141 _ A2.out).mono ?_); rintro e w18 ⟨rfl, hb⟩; refine ⟨_, rfl, ?_⟩; replace HB := Aside0.mk (below_step (bl0 HB.out) hb); (try clear hb); (try clear hb2); (try clear hk); (try clear hi)) | ((with_reducible refine gate_callee (f := 14) rfl ?_); refine goesL_ (some 23) rfl rfl Try.func14 (by kernel_rfl) rfl #[.agg #[.int .i64 0, .int .i64 0], .agg #[.int .i64 33554433, .int .i64 0]] rfl am ?_; (with_reducible refine (plane_Far.calls k 0 0 33554433 0 t142 t143 _ A3.out).mono ?_); rintro e w19 ⟨rfl, hb⟩; refine ⟨_, rfl, ?_⟩; replace HB := Aside0.mk (below_step (bl0 HB.out) hb); (try clear hb); (try clear hb2); (try clear hk); (try clear hi)))
     go_ret
     exact ⟨by first | rfl | (simp [errW_none, errW_some] <;> rfl) | (simp [*, errW_none, errW_some] <;> rfl), bl0 HB.out⟩
   ·rw [if_neg c6] at H
    have c6b0 : (t140 == 25) = false := beq_eq_false_iff_ne.mpr c6
    have c6b1 : (t140 != 25) = true := bne_iff_ne.mpr c6
    obtain rfl := Option.some.inj H
    go_enter Try.func12, Try.ntmps12
    go_wp2_with (first | ((with_reducible refine gate_callee (f := 18) rfl ?_); refine goesL_ (some 11) rfl rfl Try.func18 (by kernel_rfl) rfl #[.agg #[.int .i64 0, .int .i64 0], .agg #[.int .i64 5, .int .i64 0], .agg #[.int .i64 0, .int .i64 5]] rfl am ?_; (with_reducible refine (plane_Turn.calls k 0 0 5 0 0 5 t138 t139 _ A1.out).mono ?_); rintro e w20 ⟨rfl, hb⟩; refine ⟨_, rfl, ?_⟩; replace HB := Aside0.mk (below_step (bl0 HB.out) hb); (try clear hb); (try clear hb2); (try clear hk); (try clear hi)) | ((with_reducible refine gate_callee (f := 14) rfl ?_); refine goesL_ (some 17) rfl rfl Try.func14 (by kernel_rfl) rfl #[.agg #[.int .i64 0, .int .i64 0], .agg #[.int .i64 3, .int .i64 4]] rfl am ?_; (with_reducible refine (plane_Far.calls k 0 0 3 4 t140 t141 _ A2.out).mono ?_); rintro e w21 ⟨rfl, hb⟩; refine ⟨_, rfl, ?_⟩; replace HB := Aside0.mk (below_step (bl0 HB.out) hb); (try clear hb); (try clear hb2); (try clear hk); (try clear hi)) | ((with_reducible refine gate_callee (f := 14) rfl ?_); refine goesL_ (some 23) rfl rfl Try.func14 (by kernel_rfl) rfl #[.agg #[.int .i64 0, .int .i64 0], .agg #[.int .i64 33554433, .int .i64 0]] rfl am ?_; (with_reducible refine (plane_Far.calls k 0 0 33554433 0 t142 t143 _ A3.out).mono ?_); rintro e w22 ⟨rfl, hb⟩; refine ⟨_, rfl, ?_⟩; replace HB := Aside0.mk (below_step (bl0 HB.out) hb); (try clear hb); (try clear hb2); (try clear hk); (try clear hi)))
    go_ret
    exact ⟨by first | rfl | (simp [errW_none, errW_some] <;> rfl) | (simp [*, errW_none, errW_some] <;> rfl), bl0 HB.out⟩
  ·rw [if_neg c5] at H
   have c5b0 : (t139 == 0) = false := beq_eq_false_iff_ne.mpr c5
   have c5b1 : (t139 != 0) = true := bne_iff_ne.mpr c5
   obtain rfl := Option.some.inj H
   go_enter Try.func12, Try.ntmps12
   go_wp2_with (first | ((with_reducible refine gate_callee (f := 18) rfl ?_); refine goesL_ (some 11) rfl rfl Try.func18 (by kernel_rfl) rfl #[.agg #[.int .i64 0, .int .i64 0], .agg #[.int .i64 5, .int .i64 0], .agg #[.int .i64 0, .int .i64 5]] rfl am ?_; (with_reducible refine (plane_Turn.calls k 0 0 5 0 0 5 t138 t139 _ A1.out).mono ?_); rintro e w23 ⟨rfl, hb⟩; refine ⟨_, rfl, ?_⟩; replace HB := Aside0.mk (below_step (bl0 HB.out) hb); (try clear hb); (try clear hb2); (try clear hk); (try clear hi)) | ((with_reducible refine gate_callee (f := 14) rfl ?_); refine goesL_ (some 17) rfl rfl Try.func14 (by kernel_rfl) rfl #[.agg #[.int .i64 0, .int .i64 0], .agg #[.int .i64 3, .int .i64 4]] rfl am ?_; (with_reducible refine (plane_Far.calls k 0 0 3 4 t140 t141 _ A2.out).mono ?_); rintro e w24 ⟨rfl, hb⟩; refine ⟨_, rfl, ?_⟩; replace HB := Aside0.mk (below_step (bl0 HB.out) hb); (try clear hb); (try clear hb2); (try clear hk); (try clear hi)) | ((with_reducible refine gate_callee (f := 14) rfl ?_); refine goesL_ (some 23) rfl rfl Try.func14 (by kernel_rfl) rfl #[.agg #[.int .i64 0, .int .i64 0], .agg #[.int .i64 33554433, .int .i64 0]] rfl am ?_; (with_reducible refine (plane_Far.calls k 0 0 33554433 0 t142 t143 _ A3.out).mono ?_); rintro e w25 ⟨rfl, hb⟩; refine ⟨_, rfl, ?_⟩; replace HB := Aside0.mk (below_step (bl0 HB.out) hb); (try clear hb); (try clear hb2); (try clear hk); (try clear hi)))
   go_ret
   exact ⟨by first | rfl | (simp [errW_none, errW_some] <;> rfl) | (simp [*, errW_none, errW_some] <;> rfl), bl0 HB.out⟩
 ·rw [if_neg c4] at H
  have c4b0 : (t138 == 1) = false := beq_eq_false_iff_ne.mpr c4
  have c4b1 : (t138 != 1) = true := bne_iff_ne.mpr c4
  obtain rfl := Option.some.inj H
  go_enter Try.func12, Try.ntmps12
  go_wp2_with (first | ((with_reducible refine gate_callee (f := 18) rfl ?_); refine goesL_ (some 11) rfl rfl Try.func18 (by kernel_rfl) rfl #[.agg #[.int .i64 0, .int .i64 0], .agg #[.int .i64 5, .int .i64 0], .agg #[.int .i64 0, .int .i64 5]] rfl am ?_; (with_reducible refine (plane_Turn.calls k 0 0 5 0 0 5 t138 t139 _ A1.out).mono ?_); rintro e w26 ⟨rfl, hb⟩; refine ⟨_, rfl, ?_⟩; replace HB := Aside0.mk (below_step (bl0 HB.out) hb); (try clear hb); (try clear hb2); (try clear hk); (try clear hi)) | ((with_reducible refine gate_callee (f := 14) rfl ?_); refine goesL_ (some 17) rfl rfl Try.func14 (by kernel_rfl) rfl #[.agg #[.int .i64 0, .int .i64 0], .agg #[.int .i64 3, .int .i64 4]] rfl am ?_; (with_reducible refine (plane_Far.calls k 0 0 3 4 t140 t141 _ A2.out).mono ?_); rintro e w27 ⟨rfl, hb⟩; refine ⟨_, rfl, ?_⟩; replace HB := Aside0.mk (below_step (bl0 HB.out) hb); (try clear hb); (try clear hb2); (try clear hk); (try clear hi)) | ((with_reducible refine gate_callee (f := 14) rfl ?_); refine goesL_ (some 23) rfl rfl Try.func14 (by kernel_rfl) rfl #[.agg #[.int .i64 0, .int .i64 0], .agg #[.int .i64 33554433, .int .i64 0]] rfl am ?_; (with_reducible refine (plane_Far.calls k 0 0 33554433 0 t142 t143 _ A3.out).mono ?_); rintro e w28 ⟨rfl, hb⟩; refine ⟨_, rfl, ?_⟩; replace HB := Aside0.mk (below_step (bl0 HB.out) hb); (try clear hb); (try clear hb2); (try clear hk); (try clear hi)))
  go_ret
  exact ⟨by first | rfl | (simp [errW_none, errW_some] <;> rfl) | (simp [*, errW_none, errW_some] <;> rfl), bl0 HB.out⟩

/-! ### plane_Cross: function 13 -/
def plane_Cross.f (k : Nat) (a0_0 : Int) (a0_1 : Int) (a1_0 : Int) (a1_1 : Int) (a2_0 : Int) (a2_1 : Int) : Option (Int × Int) := (plane_asked.f k (([(⟨a0_0, a0_1⟩ : S26), (⟨a1_0, a1_1⟩ : S26), (⟨a2_0, a2_1⟩ : S26)] : List (S26)))).bind fun t151 => (if t151 = 0 then ((plane_cross.f a0_0 a0_1 a1_0 a1_1 a2_0 a2_1).bind fun t152 => (some (t152, 0))) else (some (0, t151)))
theorem plane_Cross.mono : ∀ a0 a1 a2 a3 a4 a5 k, LeO (plane_Cross.f k a0 a1 a2 a3 a4 a5) (plane_Cross.f (k + 1) a0 a1 a2 a3 a4 a5) := by
 intro a0 a1 a2 a3 a4 a5 k
 unfold plane_Cross.f
 repeat' first
   | (with_reducible exact plane_asked.mono _ _)
   | (with_reducible exact LeO.refl _)
   | (with_reducible exact LeO.none _)
   | (with_reducible refine LeO.ite ?_ ?_)
   | (with_reducible refine LeO.bind ?_ (fun _ => ?_))
   | exact plane_asked.mono _ _
   | exact LeO.none _
   | refine LeO.ite ?_ ?_
   | refine LeO.bind ?_ (fun _ => ?_)
set_option maxHeartbeats 8000000 in
set_option maxRecDepth 100000 in
theorem plane_Cross.calls (k : Nat) (a0_0 : Int) (a0_1 : Int) (a1_0 : Int) (a1_1 : Int) (a2_0 : Int) (a2_1 : Int) (r1 : Int) (r2 : Int) (w : World) (h : plane_Cross.f k a0_0 a0_1 a1_0 a1_1 a2_0 a2_1 = some (r1, r2)) :
  Calls Try.prog 13 #[.agg #[.int .i64 a0_0, .int .i64 a0_1], .agg #[.int .i64 a1_0, .int .i64 a1_1], .agg #[.int .i64 a2_0, .int .i64 a2_1]] w fun e w' => e = .returned (.tuple #[.int .i64 r1, .int .i64 r2]) ∧ Below w.heap.size w w' := by
 have hu26 := Try.underlying26
 have HB := Aside0.mk (Below.refl w.heap.size w)
 have H : ((plane_asked.f k (([(⟨a0_0, a0_1⟩ : S26), (⟨a1_0, a1_1⟩ : S26), (⟨a2_0, a2_1⟩ : S26)] : List (S26)))).bind fun t151 => (if t151 = 0 then ((plane_cross.f a0_0 a0_1 a1_0 a1_1 a2_0 a2_1).bind fun t152 => (some (t152, 0))) else (some (0, t151)))) = some (r1, r2) := h
 clear h
 obtain ⟨y148, hy148⟩ : ∃ y_ : List (S26), y_ = (([(⟨a0_0, a0_1⟩ : S26), (⟨a1_0, a1_1⟩ : S26), (⟨a2_0, a2_1⟩ : S26)] : List (S26))) := ⟨_, rfl⟩
 replace H : ((plane_asked.f k y148).bind fun t151 => (if t151 = 0 then ((plane_cross.f a0_0 a0_1 a1_0 a1_1 a2_0 a2_1).bind fun t152 => (some (t152, 0))) else (some (0, t151)))) = some (r1, r2) := by first | (rw [hy148]; with_reducible exact H) | (have H2_ := (Option.bind_some _ _).symm.trans H; rw [hy148]; with_reducible exact H2_) | (have H2_ := (Option.bind_some _ _).symm.trans H; with_reducible exact H2_) | with_reducible exact H | (rw [hy148]; exact H) | exact H
 have Ny148 := Aside0.mk hy148
 clear hy148
 replace H := Option.bind_eq_some_iff.mp H
 obtain ⟨t151, A40, H⟩ := H
 replace H : (if t151 = 0 then ((plane_cross.f a0_0 a0_1 a1_0 a1_1 a2_0 a2_1).bind fun t152 => (some (t152, 0))) else (some (0, t151))) = some (r1, r2) := H
 have A4 := Aside0.mk A40
 clear A40
 by_cases c5 : t151 = 0
 ·rw [if_pos c5] at H
  have c5b0 : (t151 == 0) = true := beq_iff_eq.mpr c5
  have c5b1 : (t151 != 0) = false := bne_eq_false_iff_eq.mpr c5
  clear c5
  replace H := Option.bind_eq_some_iff.mp H
  obtain ⟨t152, A60, H⟩ := H
  replace H : (some (t152, 0)) = some (r1, r2) := H
  have A6 := Aside0.mk A60
  clear A60
  simp only [Option.some.injEq, Prod.mk.injEq] at H
  obtain ⟨rfl, rfl⟩ := H
  go_enter Try.func13, Try.ntmps13
  go_wp2_with (first | ((with_reducible refine gate_dst (N := 3) rfl ?_); refine be 3 (#[.int .i64 a0_0, .int .i64 a0_1]) 26 ?_; intro gb145 hg w7 hbox hb; have BK145 := Aside0.mk (hbox); have GW145 := Aside0.mk ((by rw [hg]; exact (below_size (bl0 HB.out)) : w.heap.size ≤ gb145)); have GE145 := GW145; replace HB := Aside0.mk (below_step (bl0 HB.out) hb); clear hb hbox hg) | ((with_reducible refine gate_dst (N := 4) rfl ?_); refine be 4 (#[.int .i64 a1_0, .int .i64 a1_1]) 26 ?_; intro gb146 hg w8 hbox hb; have BK146 := Aside0.mk (hbox); have GW146 := Aside0.mk ((by rw [hg]; exact (below_size (bl1 HB.out GE145.out)) : w.heap.size ≤ gb146)); have GE146 := GW146; have NB145_146 := Aside0.mk ((by rw [hg]; exact Nat.ne_of_lt (lt_ BK145.out) : gb145 ≠ gb146)); have NB146_145 := Aside0.mk ((by rw [hg]; exact Nat.ne_of_gt (lt_ BK145.out) : gb146 ≠ gb145)); replace BK145 := Aside0.mk (bb BK145.out hb); replace HB := Aside0.mk (below_step (bl1 HB.out GE145.out) hb); clear hb hbox hg) | ((with_reducible refine gate_dst (N := 5) rfl ?_); refine be 5 (#[.int .i64 a2_0, .int .i64 a2_1]) 26 ?_; intro gb147 hg w9 hbox hb; have BK147 := Aside0.mk (hbox); have GW147 := Aside0.mk ((by rw [hg]; exact (below_size (bl2 HB.out GE145.out GE146.out)) : w.heap.size ≤ gb147)); have GE147 := GW147; have NB145_147 := Aside0.mk ((by rw [hg]; exact Nat.ne_of_lt (lt_ BK145.out) : gb145 ≠ gb147)); have NB147_145 := Aside0.mk ((by rw [hg]; exact Nat.ne_of_gt (lt_ BK145.out) : gb147 ≠ gb145)); have NB146_147 := Aside0.mk ((by rw [hg]; exact Nat.ne_of_lt (lt_ BK146.out) : gb146 ≠ gb147)); have NB147_146 := Aside0.mk ((by rw [hg]; exact Nat.ne_of_gt (lt_ BK146.out) : gb147 ≠ gb146)); replace BK145 := Aside0.mk (bb BK145.out hb); replace BK146 := Aside0.mk (bb BK146.out hb); replace HB := Aside0.mk (below_step (bl2 HB.out GE145.out GE146.out) hb); clear hb hbox hg; have hnb10 := NB145_146.out; have hnc10 := NB146_145.out; have hnb11 := NB145_147.out; have hnc11 := NB147_145.out; have hcz12_0 : w9.cell? ⟨gb145, 0, none⟩ = some (.int .i64 a0_0) := (blk_cell BK145.out 0).trans rfl; have hcz12_1 : w9.cell? ⟨gb145, 1, none⟩ = some (.int .i64 a0_1) := (blk_cell BK145.out 1).trans rfl; have hfz12_0 := blk_frozen BK145.out 0; have hfz12_1 := blk_frozen BK145.out 1; have hnb13 := NB146_147.out; have hnc13 := NB147_146.out; have hcz14_0 : w9.cell? ⟨gb146, 0, none⟩ = some (.int .i64 a1_0) := (blk_cell BK146.out 0).trans rfl; have hcz14_1 : w9.cell? ⟨gb146, 1, none⟩ = some (.int .i64 a1_1) := (blk_cell BK146.out 1).trans rfl; have hfz14_0 := blk_frozen BK146.out 0; have hfz14_1 := blk_frozen BK146.out 1; have hcz15_0 : w9.cell? ⟨gb147, 0, none⟩ = some (.int .i64 a2_0) := (blk_cell BK147.out 0).trans rfl; have hcz15_1 : w9.cell? ⟨gb147, 1, none⟩ = some (.int .i64 a2_1) := (blk_cell BK147.out 1).trans rfl; have hfz15_0 := blk_frozen BK147.out 0; have hfz15_1 := blk_frozen BK147.out 1) | ((with_reducible refine gate_dst (N := 12) rfl ?_); refine Kd.R_lit k26 _ 26 ?hg (N := 12) ?hd (xs := ([(⟨a0_0, a0_1⟩ : S26), (⟨a1_0, a1_1⟩ : S26), (⟨a2_0, a2_1⟩ : S26)] : List (S26))) (inner := [.int .i64 a0_0, .int .i64 a0_1, .int .i64 a1_0, .int .i64 a1_1, .int .i64 a2_0, .int .i64 a2_1]) (ok := fun _ => True) (okp := fun _ => True) ?hr ?hp (fun _ hk => hk) trivial (Below.refl _ _) (Nat.le_refl _) (by simp) ?_; (case hd => rfl); (case hg => rfl); (case hr => first | (go_simp; done) | (go_simp; rfl)); (case hp => exact (Reps.c2 (show Kd.M k26 _ _ _ (⟨a0_0, a0_1⟩ : S26) [.int .i64 a0_0, .int .i64 a0_1] from (k26_mkM _ _ _ (⟨a0_0, a0_1⟩ : S26) )) (Reps.c2 (show Kd.M k26 _ _ _ (⟨a1_0, a1_1⟩ : S26) [.int .i64 a1_0, .int .i64 a1_1] from (k26_mkM _ _ _ (⟨a1_0, a1_1⟩ : S26) )) (Reps.c2 (show Kd.M k26 _ _ _ (⟨a2_0, a2_1⟩ : S26) [.int .i64 a2_0, .int .i64 a2_1] from (k26_mkM _ _ _ (⟨a2_0, a2_1⟩ : S26) )) (Reps.none _ _))))); intro v149 w16 ho17 hb hg_ hnew_; clear hg_ hnew_; (first | rw [← Ny148.out] at ho17 | (simp only [Int.reduceToNat] at ho17; rw [← Ny148.out] at ho17)); have HO150 := Aside0.mk (Kd.R_lower (Kd.R_newB (Kd.R_newB (Kd.R_newB ho17 (g := gb145) (o := .cells #[.int .i64 a0_0, .int .i64 a0_1] 26 (0, 0)) (bk BK145.out)) (g := gb146) (o := .cells #[.int .i64 a1_0, .int .i64 a1_1] 26 (0, 0)) (bk BK146.out)) (g := gb147) (o := .cells #[.int .i64 a2_0, .int .i64 a2_1] 26 (0, 0)) (bk BK147.out)) (below_size (bl3 HB.out GE145.out GE146.out GE147.out))); replace BK145 := Aside0.mk (bb BK145.out hb); replace BK146 := Aside0.mk (bb BK146.out hb); replace BK147 := Aside0.mk (bb BK147.out hb); replace HB := Aside0.mk (below_step (bl3 HB.out GE145.out GE146.out GE147.out) hb); clear hb ho17; obtain ⟨Ao18, co18, eo18⟩ := Kd.R_slice HO150.out; subst eo18) | ((with_reducible refine gate_callee (f := 47) rfl ?_); refine goesL_ (some 13) rfl rfl Try.func47 (by kernel_rfl) rfl #[.slice Ao18 y148.length co18] rfl am ?_; (with_reducible refine (plane_asked.calls k _ _ y148 t151 _ ?side1 ?side2 A4.out).mono ?_); (case side1 => repeat (first | exact (Kd.R_reads' HO150.out).2.2 | (with_reducible refine Kd.C_alloc ?_ _) | (with_reducible refine Kd.C_drewN ?_ _) | (with_reducible refine Kd.C_drew ?_))); (case side2 => exact (Kd.R_reads' HO150.out).2.1); rintro e w19 ⟨rfl, hb⟩; refine ⟨_, rfl, ?_⟩; replace HO150 := Aside0.mk (Kd.R_below (by (with_reducible repeat (first | apply Kd.R_alloc | apply Kd.R_drewN | apply Kd.R_drew)); exact HO150.out) hb); replace BK145 := Aside0.mk (bb BK145.out hb); replace BK146 := Aside0.mk (bb BK146.out hb); replace BK147 := Aside0.mk (bb BK147.out hb); replace HB := Aside0.mk (below_step (bl3 HB.out GE145.out GE146.out GE147.out) hb); (try clear hb); (try clear hb2); (try clear hk); (try clear hi); have hcz20_0 : w19.cell? ⟨gb145, 0, none⟩ = some (.int .i64 a0_0) := (blk_cell BK145.out 0).trans rfl; have hcz20_1 : w19.cell? ⟨gb145, 1, none⟩ = some (.int .i64 a0_1) := (blk_cell BK145.out 1).trans rfl; have hfz20_0 := blk_frozen BK145.out 0; have hfz20_1 := blk_frozen BK145.out 1; have hcz21_0 : w19.cell? ⟨gb146, 0, none⟩ = some (.int .i64 a1_0) := (blk_cell BK146.out 0).trans rfl; have hcz21_1 : w19.cell? ⟨gb146, 1, none⟩ = some (.int .i64 a1_1) := (blk_cell BK146.out 1).trans rfl; have hfz21_0 := blk_frozen BK146.out 0; have hfz21_1 := blk_frozen BK146.out 1; have hcz22_0 : w19.cell? ⟨gb147, 0, none⟩ = some (.int .i64 a2_0) := (blk_cell BK147.out 0).trans rfl; have hcz22_1 : w19.cell? ⟨gb147, 1, none⟩ = some (.int .i64 a2_1) := (blk_cell BK147.out 1).trans rfl; have hfz22_0 := blk_frozen BK147.out 0; have hfz22_1 := blk_frozen BK147.out 1) | ((with_reducible refine gate_callee (f := 48) rfl ?_); refine goesL_ (some 20) rfl rfl Try.func48 (by kernel_rfl) rfl #[.agg #[.int .i64 a0_0, .int .i64 a0_1], .agg #[.int .i64 a1_0, .int .i64 a1_1], .agg #[.int .i64 a2_0, .int .i64 a2_1]] rfl am ?_; (with_reducible refine (plane_cross.calls a0_0 a0_1 a1_0 a1_1 a2_0 a2_1 t152 _ A6.out).mono ?_); rintro e w23 ⟨rfl, hb⟩; refine ⟨_, rfl, ?_⟩; replace HO150 := Aside0.mk (Kd.R_below (by (with_reducible repeat (first | apply Kd.R_alloc | apply Kd.R_drewN | apply Kd.R_drew)); exact HO150.out) hb); replace BK145 := Aside0.mk (bb BK145.out hb); replace BK146 := Aside0.mk (bb BK146.out hb); replace BK147 := Aside0.mk (bb BK147.out hb); replace HB := Aside0.mk (below_step (bl3 HB.out GE145.out GE146.out GE147.out) hb); (try clear hb); (try clear hb2); (try clear hk); (try clear hi)))
  go_ret2
  exact ⟨by first | rfl | (simp [errW_none, errW_some] <;> rfl) | (simp [*, errW_none, errW_some] <;> rfl), bl3 HB.out GE145.out GE146.out GE147.out⟩
 ·rw [if_neg c5] at H
  have c5b0 : (t151 == 0) = false := beq_eq_false_iff_ne.mpr c5
  have c5b1 : (t151 != 0) = true := bne_iff_ne.mpr c5
  simp only [Option.some.injEq, Prod.mk.injEq] at H
  obtain ⟨rfl, rfl⟩ := H
  go_enter Try.func13, Try.ntmps13
  go_wp2_with (first | ((with_reducible refine gate_dst (N := 3) rfl ?_); refine be 3 (#[.int .i64 a0_0, .int .i64 a0_1]) 26 ?_; intro gb145 hg w24 hbox hb; have BK145 := Aside0.mk (hbox); have GW145 := Aside0.mk ((by rw [hg]; exact (below_size (bl0 HB.out)) : w.heap.size ≤ gb145)); have GE145 := GW145; replace HB := Aside0.mk (below_step (bl0 HB.out) hb); clear hb hbox hg) | ((with_reducible refine gate_dst (N := 4) rfl ?_); refine be 4 (#[.int .i64 a1_0, .int .i64 a1_1]) 26 ?_; intro gb146 hg w25 hbox hb; have BK146 := Aside0.mk (hbox); have GW146 := Aside0.mk ((by rw [hg]; exact (below_size (bl1 HB.out GE145.out)) : w.heap.size ≤ gb146)); have GE146 := GW146; have NB145_146 := Aside0.mk ((by rw [hg]; exact Nat.ne_of_lt (lt_ BK145.out) : gb145 ≠ gb146)); have NB146_145 := Aside0.mk ((by rw [hg]; exact Nat.ne_of_gt (lt_ BK145.out) : gb146 ≠ gb145)); replace BK145 := Aside0.mk (bb BK145.out hb); replace HB := Aside0.mk (below_step (bl1 HB.out GE145.out) hb); clear hb hbox hg) | ((with_reducible refine gate_dst (N := 5) rfl ?_); refine be 5 (#[.int .i64 a2_0, .int .i64 a2_1]) 26 ?_; intro gb147 hg w26 hbox hb; have BK147 := Aside0.mk (hbox); have GW147 := Aside0.mk ((by rw [hg]; exact (below_size (bl2 HB.out GE145.out GE146.out)) : w.heap.size ≤ gb147)); have GE147 := GW147; have NB145_147 := Aside0.mk ((by rw [hg]; exact Nat.ne_of_lt (lt_ BK145.out) : gb145 ≠ gb147)); have NB147_145 := Aside0.mk ((by rw [hg]; exact Nat.ne_of_gt (lt_ BK145.out) : gb147 ≠ gb145)); have NB146_147 := Aside0.mk ((by rw [hg]; exact Nat.ne_of_lt (lt_ BK146.out) : gb146 ≠ gb147)); have NB147_146 := Aside0.mk ((by rw [hg]; exact Nat.ne_of_gt (lt_ BK146.out) : gb147 ≠ gb146)); replace BK145 := Aside0.mk (bb BK145.out hb); replace BK146 := Aside0.mk (bb BK146.out hb); replace HB := Aside0.mk (below_step (bl2 HB.out GE145.out GE146.out) hb); clear hb hbox hg; have hnb27 := NB145_146.out; have hnc27 := NB146_145.out; have hnb28 := NB145_147.out; have hnc28 := NB147_145.out; have hcz29_0 : w26.cell? ⟨gb145, 0, none⟩ = some (.int .i64 a0_0) := (blk_cell BK145.out 0).trans rfl; have hcz29_1 : w26.cell? ⟨gb145, 1, none⟩ = some (.int .i64 a0_1) := (blk_cell BK145.out 1).trans rfl; have hfz29_0 := blk_frozen BK145.out 0; have hfz29_1 := blk_frozen BK145.out 1; have hnb30 := NB146_147.out; have hnc30 := NB147_146.out; have hcz31_0 : w26.cell? ⟨gb146, 0, none⟩ = some (.int .i64 a1_0) := (blk_cell BK146.out 0).trans rfl; have hcz31_1 : w26.cell? ⟨gb146, 1, none⟩ = some (.int .i64 a1_1) := (blk_cell BK146.out 1).trans rfl; have hfz31_0 := blk_frozen BK146.out 0; have hfz31_1 := blk_frozen BK146.out 1; have hcz32_0 : w26.cell? ⟨gb147, 0, none⟩ = some (.int .i64 a2_0) := (blk_cell BK147.out 0).trans rfl; have hcz32_1 : w26.cell? ⟨gb147, 1, none⟩ = some (.int .i64 a2_1) := (blk_cell BK147.out 1).trans rfl; have hfz32_0 := blk_frozen BK147.out 0; have hfz32_1 := blk_frozen BK147.out 1) | ((with_reducible refine gate_dst (N := 12) rfl ?_); refine Kd.R_lit k26 _ 26 ?hg (N := 12) ?hd (xs := ([(⟨a0_0, a0_1⟩ : S26), (⟨a1_0, a1_1⟩ : S26), (⟨a2_0, a2_1⟩ : S26)] : List (S26))) (inner := [.int .i64 a0_0, .int .i64 a0_1, .int .i64 a1_0, .int .i64 a1_1, .int .i64 a2_0, .int .i64 a2_1]) (ok := fun _ => True) (okp := fun _ => True) ?hr ?hp (fun _ hk => hk) trivial (Below.refl _ _) (Nat.le_refl _) (by simp) ?_; (case hd => rfl); (case hg => rfl); (case hr => first | (go_simp; done) | (go_simp; rfl)); (case hp => exact (Reps.c2 (show Kd.M k26 _ _ _ (⟨a0_0, a0_1⟩ : S26) [.int .i64 a0_0, .int .i64 a0_1] from (k26_mkM _ _ _ (⟨a0_0, a0_1⟩ : S26) )) (Reps.c2 (show Kd.M k26 _ _ _ (⟨a1_0, a1_1⟩ : S26) [.int .i64 a1_0, .int .i64 a1_1] from (k26_mkM _ _ _ (⟨a1_0, a1_1⟩ : S26) )) (Reps.c2 (show Kd.M k26 _ _ _ (⟨a2_0, a2_1⟩ : S26) [.int .i64 a2_0, .int .i64 a2_1] from (k26_mkM _ _ _ (⟨a2_0, a2_1⟩ : S26) )) (Reps.none _ _))))); intro v149 w33 ho34 hb hg_ hnew_; clear hg_ hnew_; (first | rw [← Ny148.out] at ho34 | (simp only [Int.reduceToNat] at ho34; rw [← Ny148.out] at ho34)); have HO150 := Aside0.mk (Kd.R_lower (Kd.R_newB (Kd.R_newB (Kd.R_newB ho34 (g := gb145) (o := .cells #[.int .i64 a0_0, .int .i64 a0_1] 26 (0, 0)) (bk BK145.out)) (g := gb146) (o := .cells #[.int .i64 a1_0, .int .i64 a1_1] 26 (0, 0)) (bk BK146.out)) (g := gb147) (o := .cells #[.int .i64 a2_0, .int .i64 a2_1] 26 (0, 0)) (bk BK147.out)) (below_size (bl3 HB.out GE145.out GE146.out GE147.out))); replace BK145 := Aside0.mk (bb BK145.out hb); replace BK146 := Aside0.mk (bb BK146.out hb); replace BK147 := Aside0.mk (bb BK147.out hb); replace HB := Aside0.mk (below_step (bl3 HB.out GE145.out GE146.out GE147.out) hb); clear hb ho34; obtain ⟨Ao35, co35, eo35⟩ := Kd.R_slice HO150.out; subst eo35) | ((with_reducible refine gate_callee (f := 47) rfl ?_); refine goesL_ (some 13) rfl rfl Try.func47 (by kernel_rfl) rfl #[.slice Ao35 y148.length co35] rfl am ?_; (with_reducible refine (plane_asked.calls k _ _ y148 t151 _ ?side1 ?side2 A4.out).mono ?_); (case side1 => repeat (first | exact (Kd.R_reads' HO150.out).2.2 | (with_reducible refine Kd.C_alloc ?_ _) | (with_reducible refine Kd.C_drewN ?_ _) | (with_reducible refine Kd.C_drew ?_))); (case side2 => exact (Kd.R_reads' HO150.out).2.1); rintro e w36 ⟨rfl, hb⟩; refine ⟨_, rfl, ?_⟩; replace HO150 := Aside0.mk (Kd.R_below (by (with_reducible repeat (first | apply Kd.R_alloc | apply Kd.R_drewN | apply Kd.R_drew)); exact HO150.out) hb); replace BK145 := Aside0.mk (bb BK145.out hb); replace BK146 := Aside0.mk (bb BK146.out hb); replace BK147 := Aside0.mk (bb BK147.out hb); replace HB := Aside0.mk (below_step (bl3 HB.out GE145.out GE146.out GE147.out) hb); (try clear hb); (try clear hb2); (try clear hk); (try clear hi)))
  go_ret2
  exact ⟨by first | rfl | (simp [errW_none, errW_some] <;> rfl) | (simp [*, errW_none, errW_some] <;> rfl), bl3 HB.out GE145.out GE146.out GE147.out⟩

/-! ### pochoirlaw18_PlaneMoved: function 3 -/
mutual
def pochoirlaw18_PlaneMoved.j0 : Nat → Bool → Int → Int → Int → Int → Int → Int → Int → Int → Option (Bool)
 | 0, _, _, _, _, _, _, _, _, _ => none
 | k + 1, x23, x154000, x154001, x154002, x154003, x154004, x154005, x155000, x155001 => if x23 = true then (some false) else ((plane_Cross.f k (Int.tmod (wrap64 (x154000)) 1048576) (Int.tmod (wrap64 (x154001)) 1048576) (Int.tmod (wrap64 (x154002)) 1048576) (Int.tmod (wrap64 (x154003)) 1048576) (Int.tmod (wrap64 (x154004)) 1048576) (Int.tmod (wrap64 (x154005)) 1048576)).bind fun bt162 => (pochoirlaw18_PlaneMoved.j1 k bt162.1 bt162.2 (Int.tmod (wrap64 (x154000)) 1048576) (Int.tmod (wrap64 (x154001)) 1048576) (Int.tmod (wrap64 (x154002)) 1048576) (Int.tmod (wrap64 (x154003)) 1048576) (Int.tmod (wrap64 (x154004)) 1048576) (Int.tmod (wrap64 (x154005)) 1048576) (wrap64 ((Int.tmod (wrap64 (x154000)) 1048576) + (Int.tmod (wrap64 (x155000)) 1048576))) (wrap64 ((Int.tmod (wrap64 (x154001)) 1048576) + (Int.tmod (wrap64 (x155001)) 1048576))) (wrap64 ((Int.tmod (wrap64 (x154002)) 1048576) + (Int.tmod (wrap64 (x155000)) 1048576))) (wrap64 ((Int.tmod (wrap64 (x154003)) 1048576) + (Int.tmod (wrap64 (x155001)) 1048576))) (wrap64 ((Int.tmod (wrap64 (x154004)) 1048576) + (Int.tmod (wrap64 (x155000)) 1048576))) (wrap64 ((Int.tmod (wrap64 (x154005)) 1048576) + (Int.tmod (wrap64 (x155001)) 1048576))) (wrap64 (-(Int.tmod (wrap64 (x154001)) 1048576))) (Int.tmod (wrap64 (x154000)) 1048576) (wrap64 (-(Int.tmod (wrap64 (x154003)) 1048576))) (Int.tmod (wrap64 (x154002)) 1048576) (wrap64 (-(Int.tmod (wrap64 (x154005)) 1048576))) (Int.tmod (wrap64 (x154004)) 1048576)))
def pochoirlaw18_PlaneMoved.j1 : Nat → Int → Int → Int → Int → Int → Int → Int → Int → Int → Int → Int → Int → Int → Int → Int → Int → Int → Int → Int → Int → Option (Bool)
 | 0, _, _, _, _, _, _, _, _, _, _, _, _, _, _, _, _, _, _, _, _ => none
 | k + 1, x10, x11, x157000, x157001, x157002, x157003, x157004, x157005, x158000, x158001, x158002, x158003, x158004, x158005, x159000, x159001, x159002, x159003, x159004, x159005 => (plane_Cross.f k x158000 x158001 x158002 x158003 x158004 x158005).bind fun bt164 => (pochoirlaw18_PlaneMoved.j2 k x10 x11 bt164.1 bt164.2 x157000 x157001 x157002 x157003 x157004 x157005 x159000 x159001 x159002 x159003 x159004 x159005)
def pochoirlaw18_PlaneMoved.j2 : Nat → Int → Int → Int → Int → Int → Int → Int → Int → Int → Int → Int → Int → Int → Int → Int → Int → Option (Bool)
 | 0, _, _, _, _, _, _, _, _, _, _, _, _, _, _, _, _ => none
 | k + 1, x10, x11, x12, x13, x157000, x157001, x157002, x157003, x157004, x157005, x159000, x159001, x159002, x159003, x159004, x159005 => (plane_Cross.f k x159000 x159001 x159002 x159003 x159004 x159005).bind fun bt166 => ((plane_Cross.f k x157002 x157003 x157004 x157005 x157000 x157001).bind fun bt168 => ((plane_Far.f k x157000 x157001 x157002 x157003).bind fun bt170 => ((plane_Far.f k x159002 x159003 x159000 x159001).bind fun bt172 => (if x11 = 0 then (if x13 = 0 then (if bt166.2 = 0 then (if bt168.2 = 0 then (if bt170.2 = 0 then (if bt172.2 = 0 then (if x10 = x12 then (if x10 = bt166.1 then (if x10 = bt168.1 then (some (bt170.1 == bt172.1)) else (some false)) else (some false)) else (some false)) else (some false)) else (some false)) else (some false)) else (some false)) else (some false)) else (some false)))))
end
def pochoirlaw18_PlaneMoved.f (k : Nat) (a0_0 : Int) (a0_1 : Int) (a0_2 : Int) (a0_3 : Int) (a0_4 : Int) (a0_5 : Int) (a1_0 : Int) (a1_1 : Int) : Option (Bool) := (pochoirlaw18_awake.f k).bind fun t155 => (pochoirlaw18_PlaneMoved.j0 k (!t155) a0_0 a0_1 a0_2 a0_3 a0_4 a0_5 a1_0 a1_1)
theorem pochoirlaw18_PlaneMoved.mono_l : ∀ k, (∀ y0 y1 y2 y3 y4 y5 y6 y7 y8, LeO (pochoirlaw18_PlaneMoved.j0 k y0 y1 y2 y3 y4 y5 y6 y7 y8) (pochoirlaw18_PlaneMoved.j0 (k + 1) y0 y1 y2 y3 y4 y5 y6 y7 y8)) ∧ (∀ y0 y1 y2 y3 y4 y5 y6 y7 y8 y9 y10 y11 y12 y13 y14 y15 y16 y17 y18 y19, LeO (pochoirlaw18_PlaneMoved.j1 k y0 y1 y2 y3 y4 y5 y6 y7 y8 y9 y10 y11 y12 y13 y14 y15 y16 y17 y18 y19) (pochoirlaw18_PlaneMoved.j1 (k + 1) y0 y1 y2 y3 y4 y5 y6 y7 y8 y9 y10 y11 y12 y13 y14 y15 y16 y17 y18 y19)) ∧ (∀ y0 y1 y2 y3 y4 y5 y6 y7 y8 y9 y10 y11 y12 y13 y14 y15, LeO (pochoirlaw18_PlaneMoved.j2 k y0 y1 y2 y3 y4 y5 y6 y7 y8 y9 y10 y11 y12 y13 y14 y15) (pochoirlaw18_PlaneMoved.j2 (k + 1) y0 y1 y2 y3 y4 y5 y6 y7 y8 y9 y10 y11 y12 y13 y14 y15))
 | 0 => ⟨fun _ _ _ _ _ _ _ _ _ r h => by simp [pochoirlaw18_PlaneMoved.j0] at h, fun _ _ _ _ _ _ _ _ _ _ _ _ _ _ _ _ _ _ _ _ r h => by simp [pochoirlaw18_PlaneMoved.j1] at h, fun _ _ _ _ _ _ _ _ _ _ _ _ _ _ _ _ r h => by simp [pochoirlaw18_PlaneMoved.j2] at h⟩
 | k + 1 => by
  obtain ⟨ih0, ih1, ih2⟩ := pochoirlaw18_PlaneMoved.mono_l k
  refine ⟨?_, ?_, ?_⟩
  ·intro y0 y1 y2 y3 y4 y5 y6 y7 y8
   unfold pochoirlaw18_PlaneMoved.j0
   repeat' first
   | (with_reducible exact ih0 _ _ _ _ _ _ _ _ _)
   | (with_reducible exact ih1 _ _ _ _ _ _ _ _ _ _ _ _ _ _ _ _ _ _ _ _)
   | (with_reducible exact ih2 _ _ _ _ _ _ _ _ _ _ _ _ _ _ _ _)
   | (with_reducible exact plane_Cross.mono _ _ _ _ _ _ _)
   | (with_reducible exact plane_Far.mono _ _ _ _ _)
   | (with_reducible exact pochoirlaw18_awake.mono _)
   | (with_reducible exact LeO.refl _)
   | (with_reducible exact LeO.none _)
   | (with_reducible refine LeO.ite ?_ ?_)
   | (with_reducible refine LeO.bind ?_ (fun _ => ?_))
   | exact ih0 _ _ _ _ _ _ _ _ _
   | exact ih1 _ _ _ _ _ _ _ _ _ _ _ _ _ _ _ _ _ _ _ _
   | exact ih2 _ _ _ _ _ _ _ _ _ _ _ _ _ _ _ _
   | exact plane_Cross.mono _ _ _ _ _ _ _
   | exact plane_Far.mono _ _ _ _ _
   | exact pochoirlaw18_awake.mono _
   | exact LeO.none _
   | refine LeO.ite ?_ ?_
   | refine LeO.bind ?_ (fun _ => ?_)
  ·intro y0 y1 y2 y3 y4 y5 y6 y7 y8 y9 y10 y11 y12 y13 y14 y15 y16 y17 y18 y19
   unfold pochoirlaw18_PlaneMoved.j1
   repeat' first
   | (with_reducible exact ih0 _ _ _ _ _ _ _ _ _)
   | (with_reducible exact ih1 _ _ _ _ _ _ _ _ _ _ _ _ _ _ _ _ _ _ _ _)
   | (with_reducible exact ih2 _ _ _ _ _ _ _ _ _ _ _ _ _ _ _ _)
   | (with_reducible exact plane_Cross.mono _ _ _ _ _ _ _)
   | (with_reducible exact plane_Far.mono _ _ _ _ _)
   | (with_reducible exact pochoirlaw18_awake.mono _)
   | (with_reducible exact LeO.refl _)
   | (with_reducible exact LeO.none _)
   | (with_reducible refine LeO.ite ?_ ?_)
   | (with_reducible refine LeO.bind ?_ (fun _ => ?_))
   | exact ih0 _ _ _ _ _ _ _ _ _
   | exact ih1 _ _ _ _ _ _ _ _ _ _ _ _ _ _ _ _ _ _ _ _
   | exact ih2 _ _ _ _ _ _ _ _ _ _ _ _ _ _ _ _
   | exact plane_Cross.mono _ _ _ _ _ _ _
   | exact plane_Far.mono _ _ _ _ _
   | exact pochoirlaw18_awake.mono _
   | exact LeO.none _
   | refine LeO.ite ?_ ?_
   | refine LeO.bind ?_ (fun _ => ?_)
  ·intro y0 y1 y2 y3 y4 y5 y6 y7 y8 y9 y10 y11 y12 y13 y14 y15
   unfold pochoirlaw18_PlaneMoved.j2
   repeat' first
   | (with_reducible exact ih0 _ _ _ _ _ _ _ _ _)
   | (with_reducible exact ih1 _ _ _ _ _ _ _ _ _ _ _ _ _ _ _ _ _ _ _ _)
   | (with_reducible exact ih2 _ _ _ _ _ _ _ _ _ _ _ _ _ _ _ _)
   | (with_reducible exact plane_Cross.mono _ _ _ _ _ _ _)
   | (with_reducible exact plane_Far.mono _ _ _ _ _)
   | (with_reducible exact pochoirlaw18_awake.mono _)
   | (with_reducible exact LeO.refl _)
   | (with_reducible exact LeO.none _)
   | (with_reducible refine LeO.ite ?_ ?_)
   | (with_reducible refine LeO.bind ?_ (fun _ => ?_))
   | exact ih0 _ _ _ _ _ _ _ _ _
   | exact ih1 _ _ _ _ _ _ _ _ _ _ _ _ _ _ _ _ _ _ _ _
   | exact ih2 _ _ _ _ _ _ _ _ _ _ _ _ _ _ _ _
   | exact plane_Cross.mono _ _ _ _ _ _ _
   | exact plane_Far.mono _ _ _ _ _
   | exact pochoirlaw18_awake.mono _
   | exact LeO.none _
   | refine LeO.ite ?_ ?_
   | refine LeO.bind ?_ (fun _ => ?_)
theorem pochoirlaw18_PlaneMoved.mono : ∀ a0 a1 a2 a3 a4 a5 a6 a7 k, LeO (pochoirlaw18_PlaneMoved.f k a0 a1 a2 a3 a4 a5 a6 a7) (pochoirlaw18_PlaneMoved.f (k + 1) a0 a1 a2 a3 a4 a5 a6 a7) := by
 intro a0 a1 a2 a3 a4 a5 a6 a7 k
 obtain ⟨ih0, ih1, ih2⟩ := pochoirlaw18_PlaneMoved.mono_l k
 unfold pochoirlaw18_PlaneMoved.f
 repeat' first
   | (with_reducible exact ih0 _ _ _ _ _ _ _ _ _)
   | (with_reducible exact ih1 _ _ _ _ _ _ _ _ _ _ _ _ _ _ _ _ _ _ _ _)
   | (with_reducible exact ih2 _ _ _ _ _ _ _ _ _ _ _ _ _ _ _ _)
   | (with_reducible exact plane_Cross.mono _ _ _ _ _ _ _)
   | (with_reducible exact plane_Far.mono _ _ _ _ _)
   | (with_reducible exact pochoirlaw18_awake.mono _)
   | (with_reducible exact LeO.refl _)
   | (with_reducible exact LeO.none _)
   | (with_reducible refine LeO.ite ?_ ?_)
   | (with_reducible refine LeO.bind ?_ (fun _ => ?_))
   | exact ih0 _ _ _ _ _ _ _ _ _
   | exact ih1 _ _ _ _ _ _ _ _ _ _ _ _ _ _ _ _ _ _ _ _
   | exact ih2 _ _ _ _ _ _ _ _ _ _ _ _ _ _ _ _
   | exact plane_Cross.mono _ _ _ _ _ _ _
   | exact plane_Far.mono _ _ _ _ _
   | exact pochoirlaw18_awake.mono _
   | exact LeO.none _
   | refine LeO.ite ?_ ?_
   | refine LeO.bind ?_ (fun _ => ?_)
def pochoirlaw18_PlaneMoved.T8 : Bool × List (List Nat × List Nat) := (true, [([], []), ([], []), ([1], [1]), ([2], [2]), ([3], [3]), ([], []), ([5], [5]), ([6], [6]), ([7], [7]), ([4, 8], [4, 8]), ([], []), ([10], [10]), ([11], [11]), ([12], [12]), ([], []), ([14], [14]), ([15], [15]), ([16], [16]), ([13, 17], [13, 17]), ([9, 18], [9, 18]), ([0, 0, 1, 2, 3, 4, 5, 6, 7, 8, 9, 10, 11, 12, 13, 14, 15, 16, 17, 18, 19], [0]), ([20, 19, 0, 1, 2, 3, 4, 5, 6, 7, 8, 9, 10, 11, 12, 13, 14, 15, 16, 17, 18, 19], [19, 20])])
def pochoirlaw18_PlaneMoved.B8 : List Nat := [0, 0, 2, 6, 14, 0, 32, 96, 224, 510, 0, 1024, 3072, 7168, 0, 16384, 49152, 114688, 261120, 524286, 1048575, 2097151]
theorem pochoirlaw18_PlaneMoved.tab8 : rtab .any (opsOf Try.f3 8) = pochoirlaw18_PlaneMoved.T8 := by kernel_rfl
theorem pochoirlaw18_PlaneMoved.bits8 : waitsOk pochoirlaw18_PlaneMoved.T8.2 pochoirlaw18_PlaneMoved.B8 = true := by kernel_rfl
def pochoirlaw18_PlaneMoved.T9 : Bool × List (List Nat × List Nat) := (true, [([], []), ([], []), ([1], [1]), ([2], [2]), ([3], [3]), ([4], [4]), ([], []), ([6], [6]), ([7], [7]), ([8], [8]), ([5, 9], [5, 9]), ([0, 0, 1, 2, 3, 4, 5, 6, 7, 8, 9, 10], [0]), ([11, 10, 0, 1, 2, 3, 4, 5, 6, 7, 8, 9, 10], [10, 11])])
def pochoirlaw18_PlaneMoved.B9 : List Nat := [0, 0, 2, 6, 14, 30, 0, 64, 192, 448, 1022, 2047, 4095]
theorem pochoirlaw18_PlaneMoved.tab9 : rtab .any (opsOf Try.f3 9) = pochoirlaw18_PlaneMoved.T9 := by kernel_rfl
theorem pochoirlaw18_PlaneMoved.bits9 : waitsOk pochoirlaw18_PlaneMoved.T9.2 pochoirlaw18_PlaneMoved.B9 = true := by kernel_rfl

end Go.Proofs.Ytemhnlameekmkaa.XPlan
