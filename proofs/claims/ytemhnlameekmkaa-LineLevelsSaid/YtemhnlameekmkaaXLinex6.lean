-- Printed by a program of this claim. Not trusted: Lean checks it.
import Derived.Test.YtemhnlameekmkaaXLinex0
import Derived.Test.YtemhnlameekmkaaXLinex3
import Derived.Test.YtemhnlameekmkaaXLinex5
namespace Go.Proofs.Ytemhnlameekmkaa.XLine
open Go.RowKit Go.Proofs.YtemhnlameekmkaaW.PrintWords Go.Proofs.YtemhnlameekmkaaW.PrintLast Go.Proofs.YtemhnlameekmkaaW.PrintMore
attribute [local go_sem] max2_int min2_int max_two min_two max_three min_three max_four min_four   -- for this text's walks alone
set_option linter.unusedVariables false
set_option linter.unusedSimpArgs false
open XOpen

/-! ### line_scale_asked: function 67 -/
def line_scale_asked.l0 : Nat → List (S26) → Int → Int → Option (Int)
 | 0, _, _, _ => none
 | k + 1, x10, x11, x12 => if x12 < x11 then (if 0 ≤ x12 then (if x12 < (x10.length : Int) then ((plane_May.f ((rd_T26 x10 x12).f0) ((rd_T26 x10 x12).f1)).bind fun t150 => (if t150 = true then (line_scale_asked.l0 k x10 x11 (wrap64 (x12 + 1))) else (some 1))) else (none)) else (none)) else (some 0)
def line_scale_asked.f (k : Nat) (a0_0 : Int) (a0_1 : Int) (l1 : List (S26)) : Option (Int) := (line_scale_right.f a0_0 a0_1).bind fun t147 => (if t147 = true then (line_scale_asked.l0 k l1 (l1.length : Int) 0) else (some 1))
theorem line_scale_asked.mono_l : ∀ k, (∀ y0 y1 y2, LeO (line_scale_asked.l0 k y0 y1 y2) (line_scale_asked.l0 (k + 1) y0 y1 y2))
 | 0 => fun _ _ _ r h => by simp [line_scale_asked.l0] at h
 | k + 1 => by
  have ih0 := line_scale_asked.mono_l k
  ·intro y0 y1 y2
   unfold line_scale_asked.l0
   repeat' first
   | (with_reducible exact ih0 _ _ _)
   | (with_reducible exact LeO.refl _)
   | (with_reducible exact LeO.none _)
   | (with_reducible refine LeO.ite ?_ ?_)
   | (with_reducible refine LeO.bind ?_ (fun _ => ?_))
   | exact ih0 _ _ _
   | exact LeO.none _
   | refine LeO.ite ?_ ?_
   | refine LeO.bind ?_ (fun _ => ?_)
theorem line_scale_asked.mono : ∀ a0 a1 a2 k, LeO (line_scale_asked.f k a0 a1 a2) (line_scale_asked.f (k + 1) a0 a1 a2) := by
 intro a0 a1 a2 k
 have ih0 := line_scale_asked.mono_l k
 unfold line_scale_asked.f
 repeat' first
   | (with_reducible exact ih0 _ _ _)
   | (with_reducible exact LeO.refl _)
   | (with_reducible exact LeO.none _)
   | (with_reducible refine LeO.ite ?_ ?_)
   | (with_reducible refine LeO.bind ?_ (fun _ => ?_))
   | exact ih0 _ _ _
   | exact LeO.none _
   | refine LeO.ite ?_ ?_
   | refine LeO.bind ?_ (fun _ => ?_)
set_option maxHeartbeats 8000000 in
set_option maxRecDepth 100000 in
theorem line_scale_asked.calls (k : Nat) (a0_0 : Int) (a0_1 : Int) (A1 : Option Addr) (c1 : Nat) (l1 : List (S26)) (r : Int) (w : World) (hr1 : Kd.C k26 w A1 l1.length l1) (hc1 : l1.length ≤ c1) (h : line_scale_asked.f k a0_0 a0_1 l1 = some r) :
  Calls Try.prog 67 #[.agg #[.int .i64 a0_0, .int .i64 a0_1], .slice A1 l1.length c1] w fun e w' => e = .returned (.int .i64 r) ∧ Below w.heap.size w w' := by
 have hu89 := Try.underlying89
 have hu26 := Try.underlying26
 have HR1 := Aside0.mk hr1
 have HC1 := Aside0.mk hc1
 clear hr1 hc1
 have HB := Aside0.mk (Below.refl w.heap.size w)
 have H : ((line_scale_right.f a0_0 a0_1).bind fun t147 => (if t147 = true then (line_scale_asked.l0 k l1 (l1.length : Int) 0) else (some 1))) = some r := h
 clear h
 replace H := Option.bind_eq_some_iff.mp H
 obtain ⟨t147, A30, H⟩ := H
 replace H : (if t147 = true then (line_scale_asked.l0 k l1 (l1.length : Int) 0) else (some 1)) = some r := H
 have A3 := Aside0.mk A30
 clear A30
 by_cases c4 : t147 = true
 ·subst c4
  have H1 : (line_scale_asked.l0 k l1 (l1.length : Int) 0) = some r := by rw [if_pos rfl] at H; exact H
  clear H
  have H := H1
  clear H1
  have H' := Aside0.mk H
  clear H
  go_enter Try.func67, Try.ntmps67
  go_wp2_with (first | ((with_reducible refine gate_dst (N := 2) rfl ?_); refine be 2 (#[.int .i64 a0_0, .int .i64 a0_1]) 89 ?_; intro gb146 hg w5 hbox hb; have BK146 := Aside0.mk (hbox); have GW146 := Aside0.mk ((by rw [hg]; exact (below_size (bl0 HB.out)) : w.heap.size ≤ gb146)); have GE146 := GW146; replace HB := Aside0.mk (below_step (bl0 HB.out) hb); clear hb hbox hg; have hcz6_0 : w5.cell? ⟨gb146, 0, none⟩ = some (.int .i64 a0_0) := (blk_cell BK146.out 0).trans rfl; have hcz6_1 : w5.cell? ⟨gb146, 1, none⟩ = some (.int .i64 a0_1) := (blk_cell BK146.out 1).trans rfl; have hfz6_0 := blk_frozen BK146.out 0; have hfz6_1 := blk_frozen BK146.out 1) | ((with_reducible refine gate_callee (f := 63) rfl ?_); refine goesL_ (some 8) rfl rfl Try.func63 (by kernel_rfl) rfl #[.agg #[.int .i64 a0_0, .int .i64 a0_1]] rfl am ?_; (with_reducible refine (line_scale_right.calls a0_0 a0_1 true _ A3.out).mono ?_); rintro e w7 ⟨rfl, hb⟩; refine ⟨_, rfl, ?_⟩; replace BK146 := Aside0.mk (bb BK146.out hb); replace HB := Aside0.mk (below_step (bl1 HB.out GE146.out) hb); (try clear hb); (try clear hb2); (try clear hk); (try clear hi)))
  go_loopg [12] k (fun kq v12 w' => ∃ (x12_1 : Int), v12 = .int .i64 x12_1 ∧ Aside0 (line_scale_asked.l0 kq l1 (l1.length : Int) x12_1 = some r) ∧ Aside0 (kq ≤ k) ∧ Aside0 (w'.heap[gb146]? = some (.cells #[.int .i64 a0_0, .int .i64 a0_1] 89 (0, 0))) ∧ Aside0 (Below w.heap.size w w'))
  case atStart => exact ⟨(0), fr, H', ⟨Nat.le_refl _⟩, ⟨bk BK146.out⟩, ⟨bl1 HB.out GE146.out⟩⟩
  case round =>
   clear H'
   try clear c1
   try clear p2
   try clear c4
   try clear c6
   try clear hcz6_0
   try clear hcz6_1
   try clear hfz6_0
   try clear hfz6_1
   obtain ⟨x12_1, rfl, HA, HK1, BK146, HB⟩ := hrel
   cases gk with
   | zero => exact absurd HA.out (by simp [line_scale_asked.l0])
   | succ k1 =>
    have H := HA.out
    clear HA
    simp only [line_scale_asked.l0] at H
    by_cases c8 : x12_1 < (l1.length : Int)
    ·rw [if_pos c8] at H
     have c8b0 : decide (x12_1 < (l1.length : Int)) = true := decide_eq_true c8
     clear c8
     by_cases c9 : 0 ≤ x12_1
     ·rw [if_pos c9] at H
      have c9b0 : decide (0 ≤ x12_1) = true := decide_eq_true c9
      clear c9
      by_cases c10 : x12_1 < (l1.length : Int)
      ·rw [if_pos c10] at H
       have c10b0 : decide (x12_1 < (l1.length : Int)) = true := decide_eq_true c10
       clear c10
       replace H := Option.bind_eq_some_iff.mp H
       obtain ⟨t150, A110, H⟩ := H
       replace H : (if t150 = true then (line_scale_asked.l0 k1 l1 (l1.length : Int) (wrap64 (x12_1 + 1))) else (some 1)) = some r := H
       have A11 := Aside0.mk A110
       clear A110
       by_cases c12 : t150 = true
       ·subst c12
        have H1 : (line_scale_asked.l0 k1 l1 (l1.length : Int) (wrap64 (x12_1 + 1))) = some r := by rw [if_pos rfl] at H; exact H
        clear H
        have H := H1
        clear H1
        have H' := Aside0.mk H
        clear H
        have p148 : 0 ≤ (x12_1 : Int) := of_decide_eq_true (by first | (with_reducible assumption) | assumption)
        have q148 : x12_1 < (l1.length : Int) := of_decide_eq_true (by first | (with_reducible assumption) | assumption)
        obtain ⟨ad148, e148, hx148_0, hx148_1⟩ := at_T26 HR1.out x12_1 p148 q148
        cases e148
        replace hx148_0 := (HB.out.cell (World.block_lt_of_cell? w _ hx148_0)).trans hx148_0
        replace hx148_1 := (HB.out.cell (World.block_lt_of_cell? w _ hx148_1)).trans hx148_1
        replace p148 := eq_true p148
        replace q148 := eq_true q148
        go_wp2_with (first | ((with_reducible refine gate_dst (N := 6) rfl ?_); refine be 6 (#[.int .i64 0, .int .i64 0]) 26 ?_; intro gb149 hg w13 hbox hb; have BK149 := Aside0.mk (hbox); have GW149 := Aside0.mk ((by rw [hg]; exact (below_size (bl1 HB.out GE146.out)) : w.heap.size ≤ gb149)); have GE149 := GW149; have NB146_149 := Aside0.mk ((by rw [hg]; exact Nat.ne_of_lt (lt_ BK146.out) : gb146 ≠ gb149)); have NB149_146 := Aside0.mk ((by rw [hg]; exact Nat.ne_of_gt (lt_ BK146.out) : gb149 ≠ gb146)); replace BK146 := Aside0.mk (bb BK146.out hb); replace HB := Aside0.mk (below_step (bl1 HB.out GE146.out) hb); clear hb hbox hg; have hnb14 := NB149_146.out; have hnc14 := NB146_149.out; have hcz15_0 : w13.cell? ⟨gb149, 0, none⟩ = some (.int .i64 0) := (blk_cell BK149.out 0).trans rfl; have hcz15_1 : w13.cell? ⟨gb149, 1, none⟩ = some (.int .i64 0) := (blk_cell BK149.out 1).trans rfl; have hfz15_0 := blk_frozen BK149.out 0; have hfz15_1 := blk_frozen BK149.out 1) | ((with_reducible refine gate_callee (f := 20) rfl ?_); refine goesL_ (some 17) rfl rfl Try.func20 (by kernel_rfl) rfl #[.agg #[.int .i64 ((rd_T26 l1 x12_1).f0), .int .i64 ((rd_T26 l1 x12_1).f1)]] rfl am ?_; (with_reducible refine (plane_May.calls ((rd_T26 l1 x12_1).f0) ((rd_T26 l1 x12_1).f1) true _ A11.out).mono ?_); rintro e w16 ⟨rfl, hb⟩; refine ⟨_, rfl, ?_⟩; replace BK146 := Aside0.mk (blk_below (g := gb146) (o := .cells #[.int .i64 a0_0, .int .i64 a0_1] 89 (0, 0)) (by (with_reducible repeat (first | refine blk_drewN ?_ _ | refine blk_drew ?_ | refine blk_alloc ?_ _)); refine blk_far ?_ NB146_149.out _; (with_reducible repeat (first | refine blk_drewN ?_ _ | refine blk_drew ?_ | refine blk_alloc ?_ _)); refine blk_far ?_ NB146_149.out _; (with_reducible repeat (first | refine blk_drewN ?_ _ | refine blk_drew ?_ | refine blk_alloc ?_ _)); exact BK146.out) hb); replace BK149 := Aside0.mk (blk_below (g := gb149) (o := .cells #[.int .i64 ((rd_T26 l1 x12_1).f0), .int .i64 ((rd_T26 l1 x12_1).f1)] 26 (0, 0)) (bk (blk_put (cs := #[.int .i64 ((rd_T26 l1 x12_1).f0), .int .i64 0]) (bk (blk_put (cs := #[.int .i64 0, .int .i64 0]) (bk BK149.out) 0 _ rfl)) 1 _ rfl)) hb); replace HB := Aside0.mk (below_step (bl2 HB.out GE146.out GE149.out) hb); (try clear hb); (try clear hb2); (try clear hk); (try clear hi)))
        go_roundg k1
        case measure => have := HK1.out; omega
        case rel => exact ⟨(wrap64 (x12_1 + 1)), fr, H', ⟨by have := HK1.out; omega⟩, ⟨bk BK146.out⟩, ⟨bl2 HB.out GE146.out GE149.out⟩⟩
       ·replace c12 := Bool.eq_false_iff.mpr c12
        subst c12
        have H1 : (some 1) = some r := by rw [if_neg (show ¬ (false = true) by decide)] at H; exact H
        clear H
        have H := H1
        clear H1
        obtain rfl := Option.some.inj H
        have p148 : 0 ≤ (x12_1 : Int) := of_decide_eq_true (by first | (with_reducible assumption) | assumption)
        have q148 : x12_1 < (l1.length : Int) := of_decide_eq_true (by first | (with_reducible assumption) | assumption)
        obtain ⟨ad148, e148, hx148_0, hx148_1⟩ := at_T26 HR1.out x12_1 p148 q148
        cases e148
        replace hx148_0 := (HB.out.cell (World.block_lt_of_cell? w _ hx148_0)).trans hx148_0
        replace hx148_1 := (HB.out.cell (World.block_lt_of_cell? w _ hx148_1)).trans hx148_1
        replace p148 := eq_true p148
        replace q148 := eq_true q148
        go_wp2_with (first | ((with_reducible refine gate_dst (N := 6) rfl ?_); refine be 6 (#[.int .i64 0, .int .i64 0]) 26 ?_; intro gb149 hg w17 hbox hb; have BK149 := Aside0.mk (hbox); have GW149 := Aside0.mk ((by rw [hg]; exact (below_size (bl1 HB.out GE146.out)) : w.heap.size ≤ gb149)); have GE149 := GW149; have NB146_149 := Aside0.mk ((by rw [hg]; exact Nat.ne_of_lt (lt_ BK146.out) : gb146 ≠ gb149)); have NB149_146 := Aside0.mk ((by rw [hg]; exact Nat.ne_of_gt (lt_ BK146.out) : gb149 ≠ gb146)); replace BK146 := Aside0.mk (bb BK146.out hb); replace HB := Aside0.mk (below_step (bl1 HB.out GE146.out) hb); clear hb hbox hg; have hnb18 := NB149_146.out; have hnc18 := NB146_149.out; have hcz19_0 : w17.cell? ⟨gb149, 0, none⟩ = some (.int .i64 0) := (blk_cell BK149.out 0).trans rfl; have hcz19_1 : w17.cell? ⟨gb149, 1, none⟩ = some (.int .i64 0) := (blk_cell BK149.out 1).trans rfl; have hfz19_0 := blk_frozen BK149.out 0; have hfz19_1 := blk_frozen BK149.out 1) | ((with_reducible refine gate_callee (f := 20) rfl ?_); refine goesL_ (some 17) rfl rfl Try.func20 (by kernel_rfl) rfl #[.agg #[.int .i64 ((rd_T26 l1 x12_1).f0), .int .i64 ((rd_T26 l1 x12_1).f1)]] rfl am ?_; (with_reducible refine (plane_May.calls ((rd_T26 l1 x12_1).f0) ((rd_T26 l1 x12_1).f1) false _ A11.out).mono ?_); rintro e w20 ⟨rfl, hb⟩; refine ⟨_, rfl, ?_⟩; replace BK146 := Aside0.mk (blk_below (g := gb146) (o := .cells #[.int .i64 a0_0, .int .i64 a0_1] 89 (0, 0)) (by (with_reducible repeat (first | refine blk_drewN ?_ _ | refine blk_drew ?_ | refine blk_alloc ?_ _)); refine blk_far ?_ NB146_149.out _; (with_reducible repeat (first | refine blk_drewN ?_ _ | refine blk_drew ?_ | refine blk_alloc ?_ _)); refine blk_far ?_ NB146_149.out _; (with_reducible repeat (first | refine blk_drewN ?_ _ | refine blk_drew ?_ | refine blk_alloc ?_ _)); exact BK146.out) hb); replace BK149 := Aside0.mk (blk_below (g := gb149) (o := .cells #[.int .i64 ((rd_T26 l1 x12_1).f0), .int .i64 ((rd_T26 l1 x12_1).f1)] 26 (0, 0)) (bk (blk_put (cs := #[.int .i64 ((rd_T26 l1 x12_1).f0), .int .i64 0]) (bk (blk_put (cs := #[.int .i64 0, .int .i64 0]) (bk BK149.out) 0 _ rfl)) 1 _ rfl)) hb); replace HB := Aside0.mk (below_step (bl2 HB.out GE146.out GE149.out) hb); (try clear hb); (try clear hb2); (try clear hk); (try clear hi)))
        go_ret
        exact ⟨by first | rfl | (simp [errW_none, errW_some] <;> rfl) | (simp [*, errW_none, errW_some] <;> rfl), bl2 HB.out GE146.out GE149.out⟩
      ·rw [if_neg c10] at H
       exact absurd H (by simp)
     ·rw [if_neg c9] at H
      exact absurd H (by simp)
    ·rw [if_neg c8] at H
     have c8b0 : decide (x12_1 < (l1.length : Int)) = false := decide_eq_false c8
     clear c8
     obtain rfl := Option.some.inj H
     go_wp2
     go_ret
     exact ⟨by first | rfl | (simp [errW_none, errW_some] <;> rfl) | (simp [*, errW_none, errW_some] <;> rfl), bl1 HB.out GE146.out⟩
 ·replace c4 := Bool.eq_false_iff.mpr c4
  subst c4
  have H1 : (some 1) = some r := by rw [if_neg (show ¬ (false = true) by decide)] at H; exact H
  clear H
  have H := H1
  clear H1
  obtain rfl := Option.some.inj H
  go_enter Try.func67, Try.ntmps67
  go_wp2_with (first | ((with_reducible refine gate_dst (N := 2) rfl ?_); refine be 2 (#[.int .i64 a0_0, .int .i64 a0_1]) 89 ?_; intro gb146 hg w21 hbox hb; have BK146 := Aside0.mk (hbox); have GW146 := Aside0.mk ((by rw [hg]; exact (below_size (bl0 HB.out)) : w.heap.size ≤ gb146)); have GE146 := GW146; replace HB := Aside0.mk (below_step (bl0 HB.out) hb); clear hb hbox hg; have hcz22_0 : w21.cell? ⟨gb146, 0, none⟩ = some (.int .i64 a0_0) := (blk_cell BK146.out 0).trans rfl; have hcz22_1 : w21.cell? ⟨gb146, 1, none⟩ = some (.int .i64 a0_1) := (blk_cell BK146.out 1).trans rfl; have hfz22_0 := blk_frozen BK146.out 0; have hfz22_1 := blk_frozen BK146.out 1) | ((with_reducible refine gate_callee (f := 63) rfl ?_); refine goesL_ (some 8) rfl rfl Try.func63 (by kernel_rfl) rfl #[.agg #[.int .i64 a0_0, .int .i64 a0_1]] rfl am ?_; (with_reducible refine (line_scale_right.calls a0_0 a0_1 false _ A3.out).mono ?_); rintro e w23 ⟨rfl, hb⟩; refine ⟨_, rfl, ?_⟩; replace BK146 := Aside0.mk (bb BK146.out hb); replace HB := Aside0.mk (below_step (bl1 HB.out GE146.out) hb); (try clear hb); (try clear hb2); (try clear hk); (try clear hi)))
  go_ret
  exact ⟨by first | rfl | (simp [errW_none, errW_some] <;> rfl) | (simp [*, errW_none, errW_some] <;> rfl), bl1 HB.out GE146.out⟩

/-! ### plane_asked: function 47 -/
def plane_asked.l0 : Nat → List (S26) → Int → Int → Option (Int)
 | 0, _, _, _ => none
 | k + 1, x5, x6, x7 => if x7 < x6 then (if 0 ≤ x7 then (if x7 < (x5.length : Int) then ((plane_May.f ((rd_T26 x5 x7).f0) ((rd_T26 x5 x7).f1)).bind fun t153 => (if t153 = true then (plane_asked.l0 k x5 x6 (wrap64 (x7 + 1))) else (some 1))) else (none)) else (none)) else (some 0)
def plane_asked.f (k : Nat) (l0 : List (S26)) : Option (Int) := plane_asked.l0 k l0 (l0.length : Int) 0
theorem plane_asked.mono_l : ∀ k, (∀ y0 y1 y2, LeO (plane_asked.l0 k y0 y1 y2) (plane_asked.l0 (k + 1) y0 y1 y2))
 | 0 => fun _ _ _ r h => by simp [plane_asked.l0] at h
 | k + 1 => by
  have ih0 := plane_asked.mono_l k
  ·intro y0 y1 y2
   unfold plane_asked.l0
   repeat' first
   | (with_reducible exact ih0 _ _ _)
   | (with_reducible exact LeO.refl _)
   | (with_reducible exact LeO.none _)
   | (with_reducible refine LeO.ite ?_ ?_)
   | (with_reducible refine LeO.bind ?_ (fun _ => ?_))
   | exact ih0 _ _ _
   | exact LeO.none _
   | refine LeO.ite ?_ ?_
   | refine LeO.bind ?_ (fun _ => ?_)
theorem plane_asked.mono : ∀ a0 k, LeO (plane_asked.f k a0) (plane_asked.f (k + 1) a0) := by
 intro a0 k
 have ih0 := plane_asked.mono_l k
 unfold plane_asked.f
 repeat' first
   | (with_reducible exact ih0 _ _ _)
   | (with_reducible exact LeO.refl _)
   | (with_reducible exact LeO.none _)
   | (with_reducible refine LeO.ite ?_ ?_)
   | (with_reducible refine LeO.bind ?_ (fun _ => ?_))
   | exact ih0 _ _ _
   | exact LeO.none _
   | refine LeO.ite ?_ ?_
   | refine LeO.bind ?_ (fun _ => ?_)
set_option maxHeartbeats 8000000 in
set_option maxRecDepth 100000 in
theorem plane_asked.calls (k : Nat) (A0 : Option Addr) (c0 : Nat) (l0 : List (S26)) (r : Int) (w : World) (hr0 : Kd.C k26 w A0 l0.length l0) (hc0 : l0.length ≤ c0) (h : plane_asked.f k l0 = some r) :
  Calls Try.prog 47 #[.slice A0 l0.length c0] w fun e w' => e = .returned (.int .i64 r) ∧ Below w.heap.size w w' := by
 have hu26 := Try.underlying26
 have HR0 := Aside0.mk hr0
 have HC0 := Aside0.mk hc0
 clear hr0 hc0
 have HB := Aside0.mk (Below.refl w.heap.size w)
 have H : (plane_asked.l0 k l0 (l0.length : Int) 0) = some r := h
 clear h
 have H' := Aside0.mk H
 clear H
 go_enter Try.func47, Try.ntmps47
 go_wp2
 go_loopg [7] k (fun kq v7 w' => ∃ (x7_1 : Int), v7 = .int .i64 x7_1 ∧ Aside0 (plane_asked.l0 kq l0 (l0.length : Int) x7_1 = some r) ∧ Aside0 (kq ≤ k) ∧ Aside0 (Below w.heap.size w w'))
 case atStart => exact ⟨(0), fr, H', ⟨Nat.le_refl _⟩, ⟨bl0 HB.out⟩⟩
 case round =>
  clear H'
  obtain ⟨x7_1, rfl, HA, HK1, HB⟩ := hrel
  cases gk with
  | zero => exact absurd HA.out (by simp [plane_asked.l0])
  | succ k1 =>
   have H := HA.out
   clear HA
   simp only [plane_asked.l0] at H
   by_cases c2 : x7_1 < (l0.length : Int)
   ·rw [if_pos c2] at H
    have c2b0 : decide (x7_1 < (l0.length : Int)) = true := decide_eq_true c2
    clear c2
    by_cases c3 : 0 ≤ x7_1
    ·rw [if_pos c3] at H
     have c3b0 : decide (0 ≤ x7_1) = true := decide_eq_true c3
     clear c3
     by_cases c4 : x7_1 < (l0.length : Int)
     ·rw [if_pos c4] at H
      have c4b0 : decide (x7_1 < (l0.length : Int)) = true := decide_eq_true c4
      clear c4
      replace H := Option.bind_eq_some_iff.mp H
      obtain ⟨t153, A50, H⟩ := H
      replace H : (if t153 = true then (plane_asked.l0 k1 l0 (l0.length : Int) (wrap64 (x7_1 + 1))) else (some 1)) = some r := H
      have A5 := Aside0.mk A50
      clear A50
      by_cases c6 : t153 = true
      ·subst c6
       have H1 : (plane_asked.l0 k1 l0 (l0.length : Int) (wrap64 (x7_1 + 1))) = some r := by rw [if_pos rfl] at H; exact H
       clear H
       have H := H1
       clear H1
       have H' := Aside0.mk H
       clear H
       have p151 : 0 ≤ (x7_1 : Int) := of_decide_eq_true (by first | (with_reducible assumption) | assumption)
       have q151 : x7_1 < (l0.length : Int) := of_decide_eq_true (by first | (with_reducible assumption) | assumption)
       obtain ⟨ad151, e151, hx151_0, hx151_1⟩ := at_T26 HR0.out x7_1 p151 q151
       cases e151
       replace hx151_0 := (HB.out.cell (World.block_lt_of_cell? w _ hx151_0)).trans hx151_0
       replace hx151_1 := (HB.out.cell (World.block_lt_of_cell? w _ hx151_1)).trans hx151_1
       replace p151 := eq_true p151
       replace q151 := eq_true q151
       go_wp2_with (first | ((with_reducible refine gate_dst (N := 4) rfl ?_); refine be 4 (#[.int .i64 0, .int .i64 0]) 26 ?_; intro gb152 hg w7 hbox hb; have BK152 := Aside0.mk (hbox); have GW152 := Aside0.mk ((by rw [hg]; exact (below_size (bl0 HB.out)) : w.heap.size ≤ gb152)); have GE152 := GW152; replace HB := Aside0.mk (below_step (bl0 HB.out) hb); clear hb hbox hg; have hcz8_0 : w7.cell? ⟨gb152, 0, none⟩ = some (.int .i64 0) := (blk_cell BK152.out 0).trans rfl; have hcz8_1 : w7.cell? ⟨gb152, 1, none⟩ = some (.int .i64 0) := (blk_cell BK152.out 1).trans rfl; have hfz8_0 := blk_frozen BK152.out 0; have hfz8_1 := blk_frozen BK152.out 1) | ((with_reducible refine gate_callee (f := 20) rfl ?_); refine goesL_ (some 12) rfl rfl Try.func20 (by kernel_rfl) rfl #[.agg #[.int .i64 ((rd_T26 l0 x7_1).f0), .int .i64 ((rd_T26 l0 x7_1).f1)]] rfl am ?_; (with_reducible refine (plane_May.calls ((rd_T26 l0 x7_1).f0) ((rd_T26 l0 x7_1).f1) true _ A5.out).mono ?_); rintro e w9 ⟨rfl, hb⟩; refine ⟨_, rfl, ?_⟩; replace BK152 := Aside0.mk (blk_below (g := gb152) (o := .cells #[.int .i64 ((rd_T26 l0 x7_1).f0), .int .i64 ((rd_T26 l0 x7_1).f1)] 26 (0, 0)) (bk (blk_put (cs := #[.int .i64 ((rd_T26 l0 x7_1).f0), .int .i64 0]) (bk (blk_put (cs := #[.int .i64 0, .int .i64 0]) (bk BK152.out) 0 _ rfl)) 1 _ rfl)) hb); replace HB := Aside0.mk (below_step (bl1 HB.out GE152.out) hb); (try clear hb); (try clear hb2); (try clear hk); (try clear hi)))
       go_roundg k1
       case measure => have := HK1.out; omega
       case rel => exact ⟨(wrap64 (x7_1 + 1)), fr, H', ⟨by have := HK1.out; omega⟩, ⟨bl1 HB.out GE152.out⟩⟩
      ·replace c6 := Bool.eq_false_iff.mpr c6
       subst c6
       have H1 : (some 1) = some r := by rw [if_neg (show ¬ (false = true) by decide)] at H; exact H
       clear H
       have H := H1
       clear H1
       obtain rfl := Option.some.inj H
       have p151 : 0 ≤ (x7_1 : Int) := of_decide_eq_true (by first | (with_reducible assumption) | assumption)
       have q151 : x7_1 < (l0.length : Int) := of_decide_eq_true (by first | (with_reducible assumption) | assumption)
       obtain ⟨ad151, e151, hx151_0, hx151_1⟩ := at_T26 HR0.out x7_1 p151 q151
       cases e151
       replace hx151_0 := (HB.out.cell (World.block_lt_of_cell? w _ hx151_0)).trans hx151_0
       replace hx151_1 := (HB.out.cell (World.block_lt_of_cell? w _ hx151_1)).trans hx151_1
       replace p151 := eq_true p151
       replace q151 := eq_true q151
       go_wp2_with (first | ((with_reducible refine gate_dst (N := 4) rfl ?_); refine be 4 (#[.int .i64 0, .int .i64 0]) 26 ?_; intro gb152 hg w10 hbox hb; have BK152 := Aside0.mk (hbox); have GW152 := Aside0.mk ((by rw [hg]; exact (below_size (bl0 HB.out)) : w.heap.size ≤ gb152)); have GE152 := GW152; replace HB := Aside0.mk (below_step (bl0 HB.out) hb); clear hb hbox hg; have hcz11_0 : w10.cell? ⟨gb152, 0, none⟩ = some (.int .i64 0) := (blk_cell BK152.out 0).trans rfl; have hcz11_1 : w10.cell? ⟨gb152, 1, none⟩ = some (.int .i64 0) := (blk_cell BK152.out 1).trans rfl; have hfz11_0 := blk_frozen BK152.out 0; have hfz11_1 := blk_frozen BK152.out 1) | ((with_reducible refine gate_callee (f := 20) rfl ?_); refine goesL_ (some 12) rfl rfl Try.func20 (by kernel_rfl) rfl #[.agg #[.int .i64 ((rd_T26 l0 x7_1).f0), .int .i64 ((rd_T26 l0 x7_1).f1)]] rfl am ?_; (with_reducible refine (plane_May.calls ((rd_T26 l0 x7_1).f0) ((rd_T26 l0 x7_1).f1) false _ A5.out).mono ?_); rintro e w12 ⟨rfl, hb⟩; refine ⟨_, rfl, ?_⟩; replace BK152 := Aside0.mk (blk_below (g := gb152) (o := .cells #[.int .i64 ((rd_T26 l0 x7_1).f0), .int .i64 ((rd_T26 l0 x7_1).f1)] 26 (0, 0)) (bk (blk_put (cs := #[.int .i64 ((rd_T26 l0 x7_1).f0), .int .i64 0]) (bk (blk_put (cs := #[.int .i64 0, .int .i64 0]) (bk BK152.out) 0 _ rfl)) 1 _ rfl)) hb); replace HB := Aside0.mk (below_step (bl1 HB.out GE152.out) hb); (try clear hb); (try clear hb2); (try clear hk); (try clear hi)))
       go_ret
       exact ⟨by first | rfl | (simp [errW_none, errW_some] <;> rfl) | (simp [*, errW_none, errW_some] <;> rfl), bl1 HB.out GE152.out⟩
     ·rw [if_neg c4] at H
      exact absurd H (by simp)
    ·rw [if_neg c3] at H
     exact absurd H (by simp)
   ·rw [if_neg c2] at H
    have c2b0 : decide (x7_1 < (l0.length : Int)) = false := decide_eq_false c2
    clear c2
    obtain rfl := Option.some.inj H
    go_wp2
    go_ret
    exact ⟨by first | rfl | (simp [errW_none, errW_some] <;> rfl) | (simp [*, errW_none, errW_some] <;> rfl), bl0 HB.out⟩

/-! ### plane_dot: function 52 -/
def plane_dot.f (a0_0 : Int) (a0_1 : Int) (a1_0 : Int) (a1_1 : Int) (a2_0 : Int) (a2_1 : Int) : Option (Int) := some (wrap64 ((wrap64 ((wrap64 (a1_0 - a0_0)) * (wrap64 (a2_0 - a0_0)))) + (wrap64 ((wrap64 (a1_1 - a0_1)) * (wrap64 (a2_1 - a0_1))))))
set_option maxHeartbeats 8000000 in
set_option maxRecDepth 100000 in
theorem plane_dot.calls (a0_0 : Int) (a0_1 : Int) (a1_0 : Int) (a1_1 : Int) (a2_0 : Int) (a2_1 : Int) (r : Int) (w : World) (h : plane_dot.f a0_0 a0_1 a1_0 a1_1 a2_0 a2_1 = some r) :
  Calls Try.prog 52 #[.agg #[.int .i64 a0_0, .int .i64 a0_1], .agg #[.int .i64 a1_0, .int .i64 a1_1], .agg #[.int .i64 a2_0, .int .i64 a2_1]] w fun e w' => e = .returned (.int .i64 r) ∧ Below w.heap.size w w' := by
 have hu26 := Try.underlying26
 have HB := Aside0.mk (Below.refl w.heap.size w)
 have H : (some (wrap64 ((wrap64 ((wrap64 (a1_0 - a0_0)) * (wrap64 (a2_0 - a0_0)))) + (wrap64 ((wrap64 (a1_1 - a0_1)) * (wrap64 (a2_1 - a0_1))))))) = some r := h
 clear h
 obtain rfl := Option.some.inj H
 go_enter Try.func52, Try.ntmps52
 go_wp2_with (first | ((with_reducible refine gate_dst (N := 3) rfl ?_); refine be 3 (#[.int .i64 a0_0, .int .i64 a0_1]) 26 ?_; intro gb154 hg w4 hbox hb; have BK154 := Aside0.mk (hbox); have GW154 := Aside0.mk ((by rw [hg]; exact (below_size (bl0 HB.out)) : w.heap.size ≤ gb154)); have GE154 := GW154; replace HB := Aside0.mk (below_step (bl0 HB.out) hb); clear hb hbox hg) | ((with_reducible refine gate_dst (N := 4) rfl ?_); refine be 4 (#[.int .i64 a1_0, .int .i64 a1_1]) 26 ?_; intro gb155 hg w5 hbox hb; have BK155 := Aside0.mk (hbox); have GW155 := Aside0.mk ((by rw [hg]; exact (below_size (bl1 HB.out GE154.out)) : w.heap.size ≤ gb155)); have GE155 := GW155; have NB154_155 := Aside0.mk ((by rw [hg]; exact Nat.ne_of_lt (lt_ BK154.out) : gb154 ≠ gb155)); have NB155_154 := Aside0.mk ((by rw [hg]; exact Nat.ne_of_gt (lt_ BK154.out) : gb155 ≠ gb154)); replace BK154 := Aside0.mk (bb BK154.out hb); replace HB := Aside0.mk (below_step (bl1 HB.out GE154.out) hb); clear hb hbox hg) | ((with_reducible refine gate_dst (N := 5) rfl ?_); refine be 5 (#[.int .i64 a2_0, .int .i64 a2_1]) 26 ?_; intro gb156 hg w6 hbox hb; have BK156 := Aside0.mk (hbox); have GW156 := Aside0.mk ((by rw [hg]; exact (below_size (bl2 HB.out GE154.out GE155.out)) : w.heap.size ≤ gb156)); have GE156 := GW156; have NB154_156 := Aside0.mk ((by rw [hg]; exact Nat.ne_of_lt (lt_ BK154.out) : gb154 ≠ gb156)); have NB156_154 := Aside0.mk ((by rw [hg]; exact Nat.ne_of_gt (lt_ BK154.out) : gb156 ≠ gb154)); have NB155_156 := Aside0.mk ((by rw [hg]; exact Nat.ne_of_lt (lt_ BK155.out) : gb155 ≠ gb156)); have NB156_155 := Aside0.mk ((by rw [hg]; exact Nat.ne_of_gt (lt_ BK155.out) : gb156 ≠ gb155)); replace BK154 := Aside0.mk (bb BK154.out hb); replace BK155 := Aside0.mk (bb BK155.out hb); replace HB := Aside0.mk (below_step (bl2 HB.out GE154.out GE155.out) hb); clear hb hbox hg; have hnb7 := NB155_154.out; have hnc7 := NB154_155.out; have hnb8 := NB155_156.out; have hnc8 := NB156_155.out; have hcz9_0 : w6.cell? ⟨gb155, 0, none⟩ = some (.int .i64 a1_0) := (blk_cell BK155.out 0).trans rfl; have hcz9_1 : w6.cell? ⟨gb155, 1, none⟩ = some (.int .i64 a1_1) := (blk_cell BK155.out 1).trans rfl; have hfz9_0 := blk_frozen BK155.out 0; have hfz9_1 := blk_frozen BK155.out 1; have hnb10 := NB154_156.out; have hnc10 := NB156_154.out; have hcz11_0 : w6.cell? ⟨gb154, 0, none⟩ = some (.int .i64 a0_0) := (blk_cell BK154.out 0).trans rfl; have hcz11_1 : w6.cell? ⟨gb154, 1, none⟩ = some (.int .i64 a0_1) := (blk_cell BK154.out 1).trans rfl; have hfz11_0 := blk_frozen BK154.out 0; have hfz11_1 := blk_frozen BK154.out 1; have hcz12_0 : w6.cell? ⟨gb156, 0, none⟩ = some (.int .i64 a2_0) := (blk_cell BK156.out 0).trans rfl; have hcz12_1 : w6.cell? ⟨gb156, 1, none⟩ = some (.int .i64 a2_1) := (blk_cell BK156.out 1).trans rfl; have hfz12_0 := blk_frozen BK156.out 0; have hfz12_1 := blk_frozen BK156.out 1))
 go_ret
 exact ⟨by first | rfl | (simp [errW_none, errW_some] <;> rfl) | (simp [*, errW_none, errW_some] <;> rfl), bl3 HB.out GE154.out GE155.out GE156.out⟩

/-! ### plane_Dot: function 17 -/
def plane_Dot.f (k : Nat) (a0_0 : Int) (a0_1 : Int) (a1_0 : Int) (a1_1 : Int) (a2_0 : Int) (a2_1 : Int) : Option (Int × Int) := (plane_asked.f k (([(⟨a0_0, a0_1⟩ : S26), (⟨a1_0, a1_1⟩ : S26), (⟨a2_0, a2_1⟩ : S26)] : List (S26)))).bind fun t163 => (if t163 = 0 then ((plane_dot.f a0_0 a0_1 a1_0 a1_1 a2_0 a2_1).bind fun t164 => (some (t164, 0))) else (some (0, t163)))
theorem plane_Dot.mono : ∀ a0 a1 a2 a3 a4 a5 k, LeO (plane_Dot.f k a0 a1 a2 a3 a4 a5) (plane_Dot.f (k + 1) a0 a1 a2 a3 a4 a5) := by
 intro a0 a1 a2 a3 a4 a5 k
 unfold plane_Dot.f
 repeat' first
   | (with_reducible exact plane_asked.mono _ _)
   | (with_reducible exact LeO.refl _)
   | (with_reducible exact LeO.none _)
   | (with_reducible refine LeO.ite ?_ ?_)
   | (with_reducible refine LeO.bind ?_ (fun _ => ?_))
   | exact plane_asked.mono _ _
   | exact LeO.none _
   | refine LeO.ite ?_ ?_
   | refine LeO.bind ?_ (fun _ => ?_)
set_option maxHeartbeats 8000000 in
set_option maxRecDepth 100000 in
theorem plane_Dot.calls (k : Nat) (a0_0 : Int) (a0_1 : Int) (a1_0 : Int) (a1_1 : Int) (a2_0 : Int) (a2_1 : Int) (r1 : Int) (r2 : Int) (w : World) (h : plane_Dot.f k a0_0 a0_1 a1_0 a1_1 a2_0 a2_1 = some (r1, r2)) :
  Calls Try.prog 17 #[.agg #[.int .i64 a0_0, .int .i64 a0_1], .agg #[.int .i64 a1_0, .int .i64 a1_1], .agg #[.int .i64 a2_0, .int .i64 a2_1]] w fun e w' => e = .returned (.tuple #[.int .i64 r1, .int .i64 r2]) ∧ Below w.heap.size w w' := by
 have hu26 := Try.underlying26
 have HB := Aside0.mk (Below.refl w.heap.size w)
 have H : ((plane_asked.f k (([(⟨a0_0, a0_1⟩ : S26), (⟨a1_0, a1_1⟩ : S26), (⟨a2_0, a2_1⟩ : S26)] : List (S26)))).bind fun t163 => (if t163 = 0 then ((plane_dot.f a0_0 a0_1 a1_0 a1_1 a2_0 a2_1).bind fun t164 => (some (t164, 0))) else (some (0, t163)))) = some (r1, r2) := h
 clear h
 obtain ⟨y160, hy160⟩ : ∃ y_ : List (S26), y_ = (([(⟨a0_0, a0_1⟩ : S26), (⟨a1_0, a1_1⟩ : S26), (⟨a2_0, a2_1⟩ : S26)] : List (S26))) := ⟨_, rfl⟩
 replace H : ((plane_asked.f k y160).bind fun t163 => (if t163 = 0 then ((plane_dot.f a0_0 a0_1 a1_0 a1_1 a2_0 a2_1).bind fun t164 => (some (t164, 0))) else (some (0, t163)))) = some (r1, r2) := by first | (rw [hy160]; with_reducible exact H) | (have H2_ := (Option.bind_some _ _).symm.trans H; rw [hy160]; with_reducible exact H2_) | (have H2_ := (Option.bind_some _ _).symm.trans H; with_reducible exact H2_) | with_reducible exact H | (rw [hy160]; exact H) | exact H
 have Ny160 := Aside0.mk hy160
 clear hy160
 replace H := Option.bind_eq_some_iff.mp H
 obtain ⟨t163, A40, H⟩ := H
 replace H : (if t163 = 0 then ((plane_dot.f a0_0 a0_1 a1_0 a1_1 a2_0 a2_1).bind fun t164 => (some (t164, 0))) else (some (0, t163))) = some (r1, r2) := H
 have A4 := Aside0.mk A40
 clear A40
 by_cases c5 : t163 = 0
 ·rw [if_pos c5] at H
  have c5b0 : (t163 == 0) = true := beq_iff_eq.mpr c5
  have c5b1 : (t163 != 0) = false := bne_eq_false_iff_eq.mpr c5
  clear c5
  replace H := Option.bind_eq_some_iff.mp H
  obtain ⟨t164, A60, H⟩ := H
  replace H : (some (t164, 0)) = some (r1, r2) := H
  have A6 := Aside0.mk A60
  clear A60
  simp only [Option.some.injEq, Prod.mk.injEq] at H
  obtain ⟨rfl, rfl⟩ := H
  go_enter Try.func17, Try.ntmps17
  go_wp2_with (first | ((with_reducible refine gate_dst (N := 3) rfl ?_); refine be 3 (#[.int .i64 a0_0, .int .i64 a0_1]) 26 ?_; intro gb157 hg w7 hbox hb; have BK157 := Aside0.mk (hbox); have GW157 := Aside0.mk ((by rw [hg]; exact (below_size (bl0 HB.out)) : w.heap.size ≤ gb157)); have GE157 := GW157; replace HB := Aside0.mk (below_step (bl0 HB.out) hb); clear hb hbox hg) | ((with_reducible refine gate_dst (N := 4) rfl ?_); refine be 4 (#[.int .i64 a1_0, .int .i64 a1_1]) 26 ?_; intro gb158 hg w8 hbox hb; have BK158 := Aside0.mk (hbox); have GW158 := Aside0.mk ((by rw [hg]; exact (below_size (bl1 HB.out GE157.out)) : w.heap.size ≤ gb158)); have GE158 := GW158; have NB157_158 := Aside0.mk ((by rw [hg]; exact Nat.ne_of_lt (lt_ BK157.out) : gb157 ≠ gb158)); have NB158_157 := Aside0.mk ((by rw [hg]; exact Nat.ne_of_gt (lt_ BK157.out) : gb158 ≠ gb157)); replace BK157 := Aside0.mk (bb BK157.out hb); replace HB := Aside0.mk (below_step (bl1 HB.out GE157.out) hb); clear hb hbox hg) | ((with_reducible refine gate_dst (N := 5) rfl ?_); refine be 5 (#[.int .i64 a2_0, .int .i64 a2_1]) 26 ?_; intro gb159 hg w9 hbox hb; have BK159 := Aside0.mk (hbox); have GW159 := Aside0.mk ((by rw [hg]; exact (below_size (bl2 HB.out GE157.out GE158.out)) : w.heap.size ≤ gb159)); have GE159 := GW159; have NB157_159 := Aside0.mk ((by rw [hg]; exact Nat.ne_of_lt (lt_ BK157.out) : gb157 ≠ gb159)); have NB159_157 := Aside0.mk ((by rw [hg]; exact Nat.ne_of_gt (lt_ BK157.out) : gb159 ≠ gb157)); have NB158_159 := Aside0.mk ((by rw [hg]; exact Nat.ne_of_lt (lt_ BK158.out) : gb158 ≠ gb159)); have NB159_158 := Aside0.mk ((by rw [hg]; exact Nat.ne_of_gt (lt_ BK158.out) : gb159 ≠ gb158)); replace BK157 := Aside0.mk (bb BK157.out hb); replace BK158 := Aside0.mk (bb BK158.out hb); replace HB := Aside0.mk (below_step (bl2 HB.out GE157.out GE158.out) hb); clear hb hbox hg; have hnb10 := NB157_158.out; have hnc10 := NB158_157.out; have hnb11 := NB157_159.out; have hnc11 := NB159_157.out; have hcz12_0 : w9.cell? ⟨gb157, 0, none⟩ = some (.int .i64 a0_0) := (blk_cell BK157.out 0).trans rfl; have hcz12_1 : w9.cell? ⟨gb157, 1, none⟩ = some (.int .i64 a0_1) := (blk_cell BK157.out 1).trans rfl; have hfz12_0 := blk_frozen BK157.out 0; have hfz12_1 := blk_frozen BK157.out 1; have hnb13 := NB158_159.out; have hnc13 := NB159_158.out; have hcz14_0 : w9.cell? ⟨gb158, 0, none⟩ = some (.int .i64 a1_0) := (blk_cell BK158.out 0).trans rfl; have hcz14_1 : w9.cell? ⟨gb158, 1, none⟩ = some (.int .i64 a1_1) := (blk_cell BK158.out 1).trans rfl; have hfz14_0 := blk_frozen BK158.out 0; have hfz14_1 := blk_frozen BK158.out 1; have hcz15_0 : w9.cell? ⟨gb159, 0, none⟩ = some (.int .i64 a2_0) := (blk_cell BK159.out 0).trans rfl; have hcz15_1 : w9.cell? ⟨gb159, 1, none⟩ = some (.int .i64 a2_1) := (blk_cell BK159.out 1).trans rfl; have hfz15_0 := blk_frozen BK159.out 0; have hfz15_1 := blk_frozen BK159.out 1) | ((with_reducible refine gate_dst (N := 12) rfl ?_); refine Kd.R_lit k26 _ 26 ?hg (N := 12) ?hd (xs := ([(⟨a0_0, a0_1⟩ : S26), (⟨a1_0, a1_1⟩ : S26), (⟨a2_0, a2_1⟩ : S26)] : List (S26))) (inner := [.int .i64 a0_0, .int .i64 a0_1, .int .i64 a1_0, .int .i64 a1_1, .int .i64 a2_0, .int .i64 a2_1]) (ok := fun _ => True) (okp := fun _ => True) ?hr ?hp (fun _ hk => hk) trivial (Below.refl _ _) (Nat.le_refl _) (by simp) ?_; (case hd => rfl); (case hg => rfl); (case hr => first | (go_simp; done) | (go_simp; rfl)); (case hp => exact (Reps.c2 (show Kd.M k26 _ _ _ (⟨a0_0, a0_1⟩ : S26) [.int .i64 a0_0, .int .i64 a0_1] from (k26_mkM _ _ _ (⟨a0_0, a0_1⟩ : S26) )) (Reps.c2 (show Kd.M k26 _ _ _ (⟨a1_0, a1_1⟩ : S26) [.int .i64 a1_0, .int .i64 a1_1] from (k26_mkM _ _ _ (⟨a1_0, a1_1⟩ : S26) )) (Reps.c2 (show Kd.M k26 _ _ _ (⟨a2_0, a2_1⟩ : S26) [.int .i64 a2_0, .int .i64 a2_1] from (k26_mkM _ _ _ (⟨a2_0, a2_1⟩ : S26) )) (Reps.none _ _))))); intro v161 w16 ho17 hb hg_ hnew_; clear hg_ hnew_; (first | rw [← Ny160.out] at ho17 | (simp only [Int.reduceToNat] at ho17; rw [← Ny160.out] at ho17)); have HO162 := Aside0.mk (Kd.R_lower (Kd.R_newB (Kd.R_newB (Kd.R_newB ho17 (g := gb157) (o := .cells #[.int .i64 a0_0, .int .i64 a0_1] 26 (0, 0)) (bk BK157.out)) (g := gb158) (o := .cells #[.int .i64 a1_0, .int .i64 a1_1] 26 (0, 0)) (bk BK158.out)) (g := gb159) (o := .cells #[.int .i64 a2_0, .int .i64 a2_1] 26 (0, 0)) (bk BK159.out)) (below_size (bl3 HB.out GE157.out GE158.out GE159.out))); replace BK157 := Aside0.mk (bb BK157.out hb); replace BK158 := Aside0.mk (bb BK158.out hb); replace BK159 := Aside0.mk (bb BK159.out hb); replace HB := Aside0.mk (below_step (bl3 HB.out GE157.out GE158.out GE159.out) hb); clear hb ho17; obtain ⟨Ao18, co18, eo18⟩ := Kd.R_slice HO162.out; subst eo18) | ((with_reducible refine gate_callee (f := 47) rfl ?_); refine goesL_ (some 13) rfl rfl Try.func47 (by kernel_rfl) rfl #[.slice Ao18 y160.length co18] rfl am ?_; (with_reducible refine (plane_asked.calls k _ _ y160 t163 _ ?side1 ?side2 A4.out).mono ?_); (case side1 => repeat (first | exact (Kd.R_reads' HO162.out).2.2 | (with_reducible refine Kd.C_alloc ?_ _) | (with_reducible refine Kd.C_drewN ?_ _) | (with_reducible refine Kd.C_drew ?_))); (case side2 => exact (Kd.R_reads' HO162.out).2.1); rintro e w19 ⟨rfl, hb⟩; refine ⟨_, rfl, ?_⟩; replace HO162 := Aside0.mk (Kd.R_below (by (with_reducible repeat (first | apply Kd.R_alloc | apply Kd.R_drewN | apply Kd.R_drew)); exact HO162.out) hb); replace BK157 := Aside0.mk (bb BK157.out hb); replace BK158 := Aside0.mk (bb BK158.out hb); replace BK159 := Aside0.mk (bb BK159.out hb); replace HB := Aside0.mk (below_step (bl3 HB.out GE157.out GE158.out GE159.out) hb); (try clear hb); (try clear hb2); (try clear hk); (try clear hi); have hcz20_0 : w19.cell? ⟨gb157, 0, none⟩ = some (.int .i64 a0_0) := (blk_cell BK157.out 0).trans rfl; have hcz20_1 : w19.cell? ⟨gb157, 1, none⟩ = some (.int .i64 a0_1) := (blk_cell BK157.out 1).trans rfl; have hfz20_0 := blk_frozen BK157.out 0; have hfz20_1 := blk_frozen BK157.out 1; have hcz21_0 : w19.cell? ⟨gb158, 0, none⟩ = some (.int .i64 a1_0) := (blk_cell BK158.out 0).trans rfl; have hcz21_1 : w19.cell? ⟨gb158, 1, none⟩ = some (.int .i64 a1_1) := (blk_cell BK158.out 1).trans rfl; have hfz21_0 := blk_frozen BK158.out 0; have hfz21_1 := blk_frozen BK158.out 1; have hcz22_0 : w19.cell? ⟨gb159, 0, none⟩ = some (.int .i64 a2_0) := (blk_cell BK159.out 0).trans rfl; have hcz22_1 : w19.cell? ⟨gb159, 1, none⟩ = some (.int .i64 a2_1) := (blk_cell BK159.out 1).trans rfl; have hfz22_0 := blk_frozen BK159.out 0; have hfz22_1 := blk_frozen BK159.out 1) | ((with_reducible refine gate_callee (f := 52) rfl ?_); refine goesL_ (some 20) rfl rfl Try.func52 (by kernel_rfl) rfl #[.agg #[.int .i64 a0_0, .int .i64 a0_1], .agg #[.int .i64 a1_0, .int .i64 a1_1], .agg #[.int .i64 a2_0, .int .i64 a2_1]] rfl am ?_; (with_reducible refine (plane_dot.calls a0_0 a0_1 a1_0 a1_1 a2_0 a2_1 t164 _ A6.out).mono ?_); rintro e w23 ⟨rfl, hb⟩; refine ⟨_, rfl, ?_⟩; replace HO162 := Aside0.mk (Kd.R_below (by (with_reducible repeat (first | apply Kd.R_alloc | apply Kd.R_drewN | apply Kd.R_drew)); exact HO162.out) hb); replace BK157 := Aside0.mk (bb BK157.out hb); replace BK158 := Aside0.mk (bb BK158.out hb); replace BK159 := Aside0.mk (bb BK159.out hb); replace HB := Aside0.mk (below_step (bl3 HB.out GE157.out GE158.out GE159.out) hb); (try clear hb); (try clear hb2); (try clear hk); (try clear hi)))
  go_ret2
  exact ⟨by first | rfl | (simp [errW_none, errW_some] <;> rfl) | (simp [*, errW_none, errW_some] <;> rfl), bl3 HB.out GE157.out GE158.out GE159.out⟩
 ·rw [if_neg c5] at H
  have c5b0 : (t163 == 0) = false := beq_eq_false_iff_ne.mpr c5
  have c5b1 : (t163 != 0) = true := bne_iff_ne.mpr c5
  simp only [Option.some.injEq, Prod.mk.injEq] at H
  obtain ⟨rfl, rfl⟩ := H
  go_enter Try.func17, Try.ntmps17
  go_wp2_with (first | ((with_reducible refine gate_dst (N := 3) rfl ?_); refine be 3 (#[.int .i64 a0_0, .int .i64 a0_1]) 26 ?_; intro gb157 hg w24 hbox hb; have BK157 := Aside0.mk (hbox); have GW157 := Aside0.mk ((by rw [hg]; exact (below_size (bl0 HB.out)) : w.heap.size ≤ gb157)); have GE157 := GW157; replace HB := Aside0.mk (below_step (bl0 HB.out) hb); clear hb hbox hg) | ((with_reducible refine gate_dst (N := 4) rfl ?_); refine be 4 (#[.int .i64 a1_0, .int .i64 a1_1]) 26 ?_; intro gb158 hg w25 hbox hb; have BK158 := Aside0.mk (hbox); have GW158 := Aside0.mk ((by rw [hg]; exact (below_size (bl1 HB.out GE157.out)) : w.heap.size ≤ gb158)); have GE158 := GW158; have NB157_158 := Aside0.mk ((by rw [hg]; exact Nat.ne_of_lt (lt_ BK157.out) : gb157 ≠ gb158)); have NB158_157 := Aside0.mk ((by rw [hg]; exact Nat.ne_of_gt (lt_ BK157.out) : gb158 ≠ gb157)); replace BK157 := Aside0.mk (bb BK157.out hb); replace HB := Aside0.mk (below_step (bl1 HB.out GE157.out) hb); clear hb hbox hg) | ((with_reducible refine gate_dst (N := 5) rfl ?_); refine be 5 (#[.int .i64 a2_0, .int .i64 a2_1]) 26 ?_; intro gb159 hg w26 hbox hb; have BK159 := Aside0.mk (hbox); have GW159 := Aside0.mk ((by rw [hg]; exact (below_size (bl2 HB.out GE157.out GE158.out)) : w.heap.size ≤ gb159)); have GE159 := GW159; have NB157_159 := Aside0.mk ((by rw [hg]; exact Nat.ne_of_lt (lt_ BK157.out) : gb157 ≠ gb159)); have NB159_157 := Aside0.mk ((by rw [hg]; exact Nat.ne_of_gt (lt_ BK157.out) : gb159 ≠ gb157)); have NB158_159 := Aside0.mk ((by rw [hg]; exact Nat.ne_of_lt (lt_ BK158.out) : gb158 ≠ gb159)); have NB159_158 := Aside0.mk ((by rw [hg]; exact Nat.ne_of_gt (lt_ BK158.out) : gb159 ≠ gb158)); replace BK157 := Aside0.mk (bb BK157.out hb); replace BK158 := Aside0.mk (bb BK158.out hb); replace HB := Aside0.mk (below_step (bl2 HB.out GE157.out GE158.out) hb); clear hb hbox hg; have hnb27 := NB157_158.out; have hnc27 := NB158_157.out; have hnb28 := NB157_159.out; have hnc28 := NB159_157.out; have hcz29_0 : w26.cell? ⟨gb157, 0, none⟩ = some (.int .i64 a0_0) := (blk_cell BK157.out 0).trans rfl; have hcz29_1 : w26.cell? ⟨gb157, 1, none⟩ = some (.int .i64 a0_1) := (blk_cell BK157.out 1).trans rfl; have hfz29_0 := blk_frozen BK157.out 0; have hfz29_1 := blk_frozen BK157.out 1; have hnb30 := NB158_159.out; have hnc30 := NB159_158.out; have hcz31_0 : w26.cell? ⟨gb158, 0, none⟩ = some (.int .i64 a1_0) := (blk_cell BK158.out 0).trans rfl; have hcz31_1 : w26.cell? ⟨gb158, 1, none⟩ = some (.int .i64 a1_1) := (blk_cell BK158.out 1).trans rfl; have hfz31_0 := blk_frozen BK158.out 0; have hfz31_1 := blk_frozen BK158.out 1; have hcz32_0 : w26.cell? ⟨gb159, 0, none⟩ = some (.int .i64 a2_0) := (blk_cell BK159.out 0).trans rfl; have hcz32_1 : w26.cell? ⟨gb159, 1, none⟩ = some (.int .i64 a2_1) := (blk_cell BK159.out 1).trans rfl; have hfz32_0 := blk_frozen BK159.out 0; have hfz32_1 := blk_frozen BK159.out 1) | ((with_reducible refine gate_dst (N := 12) rfl ?_); refine Kd.R_lit k26 _ 26 ?hg (N := 12) ?hd (xs := ([(⟨a0_0, a0_1⟩ : S26), (⟨a1_0, a1_1⟩ : S26), (⟨a2_0, a2_1⟩ : S26)] : List (S26))) (inner := [.int .i64 a0_0, .int .i64 a0_1, .int .i64 a1_0, .int .i64 a1_1, .int .i64 a2_0, .int .i64 a2_1]) (ok := fun _ => True) (okp := fun _ => True) ?hr ?hp (fun _ hk => hk) trivial (Below.refl _ _) (Nat.le_refl _) (by simp) ?_; (case hd => rfl); (case hg => rfl); (case hr => first | (go_simp; done) | (go_simp; rfl)); (case hp => exact (Reps.c2 (show Kd.M k26 _ _ _ (⟨a0_0, a0_1⟩ : S26) [.int .i64 a0_0, .int .i64 a0_1] from (k26_mkM _ _ _ (⟨a0_0, a0_1⟩ : S26) )) (Reps.c2 (show Kd.M k26 _ _ _ (⟨a1_0, a1_1⟩ : S26) [.int .i64 a1_0, .int .i64 a1_1] from (k26_mkM _ _ _ (⟨a1_0, a1_1⟩ : S26) )) (Reps.c2 (show Kd.M k26 _ _ _ (⟨a2_0, a2_1⟩ : S26) [.int .i64 a2_0, .int .i64 a2_1] from (k26_mkM _ _ _ (⟨a2_0, a2_1⟩ : S26) )) (Reps.none _ _))))); intro v161 w33 ho34 hb hg_ hnew_; clear hg_ hnew_; (first | rw [← Ny160.out] at ho34 | (simp only [Int.reduceToNat] at ho34; rw [← Ny160.out] at ho34)); have HO162 := Aside0.mk (Kd.R_lower (Kd.R_newB (Kd.R_newB (Kd.R_newB ho34 (g := gb157) (o := .cells #[.int .i64 a0_0, .int .i64 a0_1] 26 (0, 0)) (bk BK157.out)) (g := gb158) (o := .cells #[.int .i64 a1_0, .int .i64 a1_1] 26 (0, 0)) (bk BK158.out)) (g := gb159) (o := .cells #[.int .i64 a2_0, .int .i64 a2_1] 26 (0, 0)) (bk BK159.out)) (below_size (bl3 HB.out GE157.out GE158.out GE159.out))); replace BK157 := Aside0.mk (bb BK157.out hb); replace BK158 := Aside0.mk (bb BK158.out hb); replace BK159 := Aside0.mk (bb BK159.out hb); replace HB := Aside0.mk (below_step (bl3 HB.out GE157.out GE158.out GE159.out) hb); clear hb ho34; obtain ⟨Ao35, co35, eo35⟩ := Kd.R_slice HO162.out; subst eo35) | ((with_reducible refine gate_callee (f := 47) rfl ?_); refine goesL_ (some 13) rfl rfl Try.func47 (by kernel_rfl) rfl #[.slice Ao35 y160.length co35] rfl am ?_; (with_reducible refine (plane_asked.calls k _ _ y160 t163 _ ?side1 ?side2 A4.out).mono ?_); (case side1 => repeat (first | exact (Kd.R_reads' HO162.out).2.2 | (with_reducible refine Kd.C_alloc ?_ _) | (with_reducible refine Kd.C_drewN ?_ _) | (with_reducible refine Kd.C_drew ?_))); (case side2 => exact (Kd.R_reads' HO162.out).2.1); rintro e w36 ⟨rfl, hb⟩; refine ⟨_, rfl, ?_⟩; replace HO162 := Aside0.mk (Kd.R_below (by (with_reducible repeat (first | apply Kd.R_alloc | apply Kd.R_drewN | apply Kd.R_drew)); exact HO162.out) hb); replace BK157 := Aside0.mk (bb BK157.out hb); replace BK158 := Aside0.mk (bb BK158.out hb); replace BK159 := Aside0.mk (bb BK159.out hb); replace HB := Aside0.mk (below_step (bl3 HB.out GE157.out GE158.out GE159.out) hb); (try clear hb); (try clear hb2); (try clear hk); (try clear hi)))
  go_ret2
  exact ⟨by first | rfl | (simp [errW_none, errW_some] <;> rfl) | (simp [*, errW_none, errW_some] <;> rfl), bl3 HB.out GE157.out GE158.out GE159.out⟩

/-! ### plane_Far: function 14 -/
def plane_Far.f (k : Nat) (a0_0 : Int) (a0_1 : Int) (a1_0 : Int) (a1_1 : Int) : Option (Int × Int) := (plane_Dot.f k a0_0 a0_1 a1_0 a1_1 a1_0 a1_1).bind fun bt167 => (some (bt167.1, bt167.2))
theorem plane_Far.mono : ∀ a0 a1 a2 a3 k, LeO (plane_Far.f k a0 a1 a2 a3) (plane_Far.f (k + 1) a0 a1 a2 a3) := by
 intro a0 a1 a2 a3 k
 unfold plane_Far.f
 repeat' first
   | (with_reducible exact plane_Dot.mono _ _ _ _ _ _ _)
   | (with_reducible exact LeO.refl _)
   | (with_reducible exact LeO.none _)
   | (with_reducible refine LeO.ite ?_ ?_)
   | (with_reducible refine LeO.bind ?_ (fun _ => ?_))
   | exact plane_Dot.mono _ _ _ _ _ _ _
   | exact LeO.none _
   | refine LeO.ite ?_ ?_
   | refine LeO.bind ?_ (fun _ => ?_)
set_option maxHeartbeats 8000000 in
set_option maxRecDepth 100000 in
theorem plane_Far.calls (k : Nat) (a0_0 : Int) (a0_1 : Int) (a1_0 : Int) (a1_1 : Int) (r1 : Int) (r2 : Int) (w : World) (h : plane_Far.f k a0_0 a0_1 a1_0 a1_1 = some (r1, r2)) :
  Calls Try.prog 14 #[.agg #[.int .i64 a0_0, .int .i64 a0_1], .agg #[.int .i64 a1_0, .int .i64 a1_1]] w fun e w' => e = .returned (.tuple #[.int .i64 r1, .int .i64 r2]) ∧ Below w.heap.size w w' := by
 have hu26 := Try.underlying26
 have HB := Aside0.mk (Below.refl w.heap.size w)
 have H : ((plane_Dot.f k a0_0 a0_1 a1_0 a1_1 a1_0 a1_1).bind fun bt167 => (some (bt167.1, bt167.2))) = some (r1, r2) := h
 clear h
 replace H := Option.bind_eq_some_iff.mp H
 obtain ⟨⟨t167, t168⟩, A30, H⟩ := H
 replace H : (some (t167, t168)) = some (r1, r2) := H
 have A3 := Aside0.mk A30
 clear A30
 simp only [Option.some.injEq, Prod.mk.injEq] at H
 obtain ⟨rfl, rfl⟩ := H
 go_enter Try.func14, Try.ntmps14
 go_wp2_with (first | ((with_reducible refine gate_dst (N := 2) rfl ?_); refine be 2 (#[.int .i64 a0_0, .int .i64 a0_1]) 26 ?_; intro gb165 hg w4 hbox hb; have BK165 := Aside0.mk (hbox); have GW165 := Aside0.mk ((by rw [hg]; exact (below_size (bl0 HB.out)) : w.heap.size ≤ gb165)); have GE165 := GW165; replace HB := Aside0.mk (below_step (bl0 HB.out) hb); clear hb hbox hg) | ((with_reducible refine gate_dst (N := 3) rfl ?_); refine be 3 (#[.int .i64 a1_0, .int .i64 a1_1]) 26 ?_; intro gb166 hg w5 hbox hb; have BK166 := Aside0.mk (hbox); have GW166 := Aside0.mk ((by rw [hg]; exact (below_size (bl1 HB.out GE165.out)) : w.heap.size ≤ gb166)); have GE166 := GW166; have NB165_166 := Aside0.mk ((by rw [hg]; exact Nat.ne_of_lt (lt_ BK165.out) : gb165 ≠ gb166)); have NB166_165 := Aside0.mk ((by rw [hg]; exact Nat.ne_of_gt (lt_ BK165.out) : gb166 ≠ gb165)); replace BK165 := Aside0.mk (bb BK165.out hb); replace HB := Aside0.mk (below_step (bl1 HB.out GE165.out) hb); clear hb hbox hg; have hnb6 := NB165_166.out; have hnc6 := NB166_165.out; have hcz7_0 : w5.cell? ⟨gb165, 0, none⟩ = some (.int .i64 a0_0) := (blk_cell BK165.out 0).trans rfl; have hcz7_1 : w5.cell? ⟨gb165, 1, none⟩ = some (.int .i64 a0_1) := (blk_cell BK165.out 1).trans rfl; have hfz7_0 := blk_frozen BK165.out 0; have hfz7_1 := blk_frozen BK165.out 1; have hcz8_0 : w5.cell? ⟨gb166, 0, none⟩ = some (.int .i64 a1_0) := (blk_cell BK166.out 0).trans rfl; have hcz8_1 : w5.cell? ⟨gb166, 1, none⟩ = some (.int .i64 a1_1) := (blk_cell BK166.out 1).trans rfl; have hfz8_0 := blk_frozen BK166.out 0; have hfz8_1 := blk_frozen BK166.out 1) | ((with_reducible refine gate_callee (f := 17) rfl ?_); refine goesL_ (some 9) rfl rfl Try.func17 (by kernel_rfl) rfl #[.agg #[.int .i64 a0_0, .int .i64 a0_1], .agg #[.int .i64 a1_0, .int .i64 a1_1], .agg #[.int .i64 a1_0, .int .i64 a1_1]] rfl am ?_; (with_reducible refine (plane_Dot.calls k a0_0 a0_1 a1_0 a1_1 a1_0 a1_1 t167 t168 _ A3.out).mono ?_); rintro e w9 ⟨rfl, hb⟩; refine ⟨_, rfl, ?_⟩; replace BK165 := Aside0.mk (bb BK165.out hb); replace BK166 := Aside0.mk (bb BK166.out hb); replace HB := Aside0.mk (below_step (bl2 HB.out GE165.out GE166.out) hb); (try clear hb); (try clear hb2); (try clear hk); (try clear hi)))
 go_ret2
 exact ⟨by first | rfl | (simp [errW_none, errW_some] <;> rfl) | (simp [*, errW_none, errW_some] <;> rfl), bl2 HB.out GE165.out GE166.out⟩

/-! ### line_scale_point: function 68 -/
def line_scale_point.f (k : Nat) (a0_0 : Int) (a0_1 : Int) (a1_0 : Int) (a1_1 : Int) (a2_0 : Int) (a2_1 : Int) : Option (Int) := (plane_Far.f k a1_0 a1_1 a2_0 a2_1).bind fun bt172 => ((wide_Of.f (IntKind.u64.wrap (bt172.1))).bind fun bt174 => ((wide_Of.f 1).bind fun bt176 => ((line_scale_level.f k a0_0 a0_1 bt174.1 bt174.2 bt176.1 bt176.2).bind fun t178 => (some t178))))
theorem line_scale_point.mono : ∀ a0 a1 a2 a3 a4 a5 k, LeO (line_scale_point.f k a0 a1 a2 a3 a4 a5) (line_scale_point.f (k + 1) a0 a1 a2 a3 a4 a5) := by
 intro a0 a1 a2 a3 a4 a5 k
 unfold line_scale_point.f
 repeat' first
   | (with_reducible exact line_scale_level.mono _ _ _ _ _ _ _)
   | (with_reducible exact plane_Far.mono _ _ _ _ _)
   | (with_reducible exact LeO.refl _)
   | (with_reducible exact LeO.none _)
   | (with_reducible refine LeO.ite ?_ ?_)
   | (with_reducible refine LeO.bind ?_ (fun _ => ?_))
   | exact line_scale_level.mono _ _ _ _ _ _ _
   | exact plane_Far.mono _ _ _ _ _
   | exact LeO.none _
   | refine LeO.ite ?_ ?_
   | refine LeO.bind ?_ (fun _ => ?_)
set_option maxHeartbeats 8000000 in
set_option maxRecDepth 100000 in
theorem line_scale_point.calls (k : Nat) (a0_0 : Int) (a0_1 : Int) (a1_0 : Int) (a1_1 : Int) (a2_0 : Int) (a2_1 : Int) (r : Int) (w : World) (h : line_scale_point.f k a0_0 a0_1 a1_0 a1_1 a2_0 a2_1 = some r) :
  Calls Try.prog 68 #[.agg #[.int .i64 a0_0, .int .i64 a0_1], .agg #[.int .i64 a1_0, .int .i64 a1_1], .agg #[.int .i64 a2_0, .int .i64 a2_1]] w fun e w' => e = .returned (.int .i64 r) ∧ Below w.heap.size w w' := by
 have hu89 := Try.underlying89
 have hu26 := Try.underlying26
 have HB := Aside0.mk (Below.refl w.heap.size w)
 have H : ((plane_Far.f k a1_0 a1_1 a2_0 a2_1).bind fun bt172 => ((wide_Of.f (IntKind.u64.wrap (bt172.1))).bind fun bt174 => ((wide_Of.f 1).bind fun bt176 => ((line_scale_level.f k a0_0 a0_1 bt174.1 bt174.2 bt176.1 bt176.2).bind fun t178 => (some t178))))) = some r := h
 clear h
 replace H := Option.bind_eq_some_iff.mp H
 obtain ⟨⟨t172, t173⟩, A40, H⟩ := H
 replace H : ((wide_Of.f (IntKind.u64.wrap (t172))).bind fun bt174 => ((wide_Of.f 1).bind fun bt176 => ((line_scale_level.f k a0_0 a0_1 bt174.1 bt174.2 bt176.1 bt176.2).bind fun t178 => (some t178)))) = some r := H
 have A4 := Aside0.mk A40
 clear A40
 replace H := Option.bind_eq_some_iff.mp H
 obtain ⟨⟨t174, t175⟩, A50, H⟩ := H
 replace H : ((wide_Of.f 1).bind fun bt176 => ((line_scale_level.f k a0_0 a0_1 t174 t175 bt176.1 bt176.2).bind fun t178 => (some t178))) = some r := H
 have A5 := Aside0.mk A50
 clear A50
 replace H := Option.bind_eq_some_iff.mp H
 obtain ⟨⟨t176, t177⟩, A60, H⟩ := H
 replace H : ((line_scale_level.f k a0_0 a0_1 t174 t175 t176 t177).bind fun t178 => (some t178)) = some r := H
 have A6 := Aside0.mk A60
 clear A60
 replace H := Option.bind_eq_some_iff.mp H
 obtain ⟨t178, A70, H⟩ := H
 replace H : (some t178) = some r := H
 have A7 := Aside0.mk A70
 clear A70
 obtain rfl := Option.some.inj H
 go_enter Try.func68, Try.ntmps68
 try go_wp2_with (first | ((with_reducible refine gate_dst (N := 3) rfl ?_); refine be 3 (#[.int .i64 a0_0, .int .i64 a0_1]) 89 ?_; intro gb169 hg w8 hbox hb; have BK169 := Aside0.mk (hbox); have GW169 := Aside0.mk ((by rw [hg]; exact (below_size (bl0 HB.out)) : w.heap.size ≤ gb169)); have GE169 := GW169; replace HB := Aside0.mk (below_step (bl0 HB.out) hb); clear hb hbox hg) | ((with_reducible refine gate_dst (N := 4) rfl ?_); refine be 4 (#[.int .i64 a1_0, .int .i64 a1_1]) 26 ?_; intro gb170 hg w9 hbox hb; have BK170 := Aside0.mk (hbox); have GW170 := Aside0.mk ((by rw [hg]; exact (below_size (bl1 HB.out GE169.out)) : w.heap.size ≤ gb170)); have GE170 := GW170; have NB169_170 := Aside0.mk ((by rw [hg]; exact Nat.ne_of_lt (lt_ BK169.out) : gb169 ≠ gb170)); have NB170_169 := Aside0.mk ((by rw [hg]; exact Nat.ne_of_gt (lt_ BK169.out) : gb170 ≠ gb169)); replace BK169 := Aside0.mk (bb BK169.out hb); replace HB := Aside0.mk (below_step (bl1 HB.out GE169.out) hb); clear hb hbox hg) | ((with_reducible refine gate_dst (N := 5) rfl ?_); refine be 5 (#[.int .i64 a2_0, .int .i64 a2_1]) 26 ?_; intro gb171 hg w10 hbox hb; have BK171 := Aside0.mk (hbox); have GW171 := Aside0.mk ((by rw [hg]; exact (below_size (bl2 HB.out GE169.out GE170.out)) : w.heap.size ≤ gb171)); have GE171 := GW171; have NB169_171 := Aside0.mk ((by rw [hg]; exact Nat.ne_of_lt (lt_ BK169.out) : gb169 ≠ gb171)); have NB171_169 := Aside0.mk ((by rw [hg]; exact Nat.ne_of_gt (lt_ BK169.out) : gb171 ≠ gb169)); have NB170_171 := Aside0.mk ((by rw [hg]; exact Nat.ne_of_lt (lt_ BK170.out) : gb170 ≠ gb171)); have NB171_170 := Aside0.mk ((by rw [hg]; exact Nat.ne_of_gt (lt_ BK170.out) : gb171 ≠ gb170)); replace BK169 := Aside0.mk (bb BK169.out hb); replace BK170 := Aside0.mk (bb BK170.out hb); replace HB := Aside0.mk (below_step (bl2 HB.out GE169.out GE170.out) hb); clear hb hbox hg; have hnb11 := NB170_169.out; have hnc11 := NB169_170.out; have hnb12 := NB170_171.out; have hnc12 := NB171_170.out; have hcz13_0 : w10.cell? ⟨gb170, 0, none⟩ = some (.int .i64 a1_0) := (blk_cell BK170.out 0).trans rfl; have hcz13_1 : w10.cell? ⟨gb170, 1, none⟩ = some (.int .i64 a1_1) := (blk_cell BK170.out 1).trans rfl; have hfz13_0 := blk_frozen BK170.out 0; have hfz13_1 := blk_frozen BK170.out 1; have hnb14 := NB171_169.out; have hnc14 := NB169_171.out; have hcz15_0 : w10.cell? ⟨gb171, 0, none⟩ = some (.int .i64 a2_0) := (blk_cell BK171.out 0).trans rfl; have hcz15_1 : w10.cell? ⟨gb171, 1, none⟩ = some (.int .i64 a2_1) := (blk_cell BK171.out 1).trans rfl; have hfz15_0 := blk_frozen BK171.out 0; have hfz15_1 := blk_frozen BK171.out 1) | ((with_reducible refine gate_callee (f := 14) rfl ?_); refine goesL_ (some 12) rfl rfl Try.func14 (by kernel_rfl) rfl #[.agg #[.int .i64 a1_0, .int .i64 a1_1], .agg #[.int .i64 a2_0, .int .i64 a2_1]] rfl am ?_; (with_reducible refine (plane_Far.calls k a1_0 a1_1 a2_0 a2_1 t172 t173 _ A4.out).mono ?_); rintro e w16 ⟨rfl, hb⟩; refine ⟨_, rfl, ?_⟩; replace BK169 := Aside0.mk (bb BK169.out hb); replace BK170 := Aside0.mk (bb BK170.out hb); replace BK171 := Aside0.mk (bb BK171.out hb); replace HB := Aside0.mk (below_step (bl3 HB.out GE169.out GE170.out GE171.out) hb); (try clear hb); (try clear hb2); (try clear hk); (try clear hi)))
 replace BK169 := Aside0.mk (blk_drew BK169.out)
 replace BK170 := Aside0.mk (blk_drew BK170.out)
 replace BK171 := Aside0.mk (blk_drew BK171.out)
 replace HB := Aside0.mk (below_drew1 HB.out)
 refine start_ (n := 7) (S := fun w' => w'.cell? ⟨gb169, 0, none⟩ = some (.int .i64 a0_0) ∧ w'.cell? ⟨gb169, 1, none⟩ = some (.int .i64 a0_1)) (ds := []) (ba 7 0) (by kernel_rfl) rfl rfl ⟨(blk_cell BK169.out 0).trans rfl, (blk_cell BK169.out 1).trans rfl⟩ (fun hHeld => ?_)
 generalize w16.drew = w17 at BK169 BK170 BK171 HB hHeld ⊢
 refine pure_ (i := 1) (N := some 16) (v := ?_) (a' := ?_) (ba 7 2) rfl rfl (by kernel_rfl) (fun _ _ _ h => h) (Or.inl ⟨by rfl, ?_⟩) ?_ ?_
 rotate_left
 ·intro w'
  go_simp
  with_reducible rfl
 rotate_left
 ·simp only [Act.put, List.setIfInBounds_toArray, List.set_cons_zero, List.set_cons_succ, i64_w, i32_w]
  rfl
 refine pure_ (i := 2) (N := some 17) (v := ?_) (a' := ?_) (ba 7 6) rfl rfl (by kernel_rfl) (fun _ _ _ h => h) (Or.inl ⟨by rfl, ?_⟩) ?_ ?_
 rotate_left
 ·intro w'
  go_simp
  with_reducible rfl
 rotate_left
 ·simp only [Act.put, List.setIfInBounds_toArray, List.set_cons_zero, List.set_cons_succ, i64_w, i32_w]
  rfl
 refine take_ (i := 0) (N := some 15) (v := ?_) (a' := ?_) (ba 7 7) rfl rfl (by kernel_rfl) (fun _ _ _ h => h) (Or.inl ⟨by rfl, ?_⟩) hHeld ?_ ?_
 rotate_left
 ·rintro w' ⟨s0, s1⟩
  go_simp
  with_reducible rfl
 rotate_left
 ·simp only [Act.put, List.setIfInBounds_toArray, List.set_cons_zero, List.set_cons_succ, i64_w, i32_w]
  rfl
 refine one_ (i := 3) (N := some 18) (ba 7 15) rfl rfl (by kernel_rfl) (by decide) (fun K hK => ?_)
 refine goes_ Try.func58 (by kernel_rfl) rfl #[.int .u64 (IntKind.u64.wrap (t172))] (by rfl) rfl rfl am ?_
 with_reducible refine (wide_Of.calls (IntKind.u64.wrap (t172)) t174 t175 _ A5.out).mono ?_
 rintro e w18 ⟨rfl, hb⟩
 refine ⟨_, rfl, ?_⟩
 replace BK169 := Aside0.mk (bb BK169.out hb)
 replace BK170 := Aside0.mk (bb BK170.out hb)
 replace BK171 := Aside0.mk (bb BK171.out hb)
 replace HB := Aside0.mk (below_step (bl3 HB.out GE169.out GE170.out GE171.out) hb)
 (try clear hb)
 (try clear hb2)
 (try clear hk)
 (try clear hi)
 refine hK.out _ _ ⟨(blk_cell BK169.out 0).trans rfl, (blk_cell BK169.out 1).trans rfl⟩ (fun hHeld => ?_)
 clear hK K
 refine norm_ (a' := ?_) ?_ ?_
 rotate_left
 ·show Act.put _ (some 18) _ = _
  simp only [Act.put, List.setIfInBounds_toArray, List.set_cons_zero, List.set_cons_succ, i64_w, i32_w]
  rfl
 refine one_ (i := 4) (N := some 19) (ba 7 31) rfl rfl (by kernel_rfl) (by decide) (fun K hK => ?_)
 refine goes_ Try.func58 (by kernel_rfl) rfl #[.int .u64 1] (by rfl) rfl rfl am ?_
 with_reducible refine (wide_Of.calls 1 t176 t177 _ A6.out).mono ?_
 rintro e w19 ⟨rfl, hb⟩
 refine ⟨_, rfl, ?_⟩
 replace BK169 := Aside0.mk (bb BK169.out hb)
 replace BK170 := Aside0.mk (bb BK170.out hb)
 replace BK171 := Aside0.mk (bb BK171.out hb)
 replace HB := Aside0.mk (below_step (bl3 HB.out GE169.out GE170.out GE171.out) hb)
 (try clear hb)
 (try clear hb2)
 (try clear hk)
 (try clear hi)
 refine hK.out _ _ ⟨(blk_cell BK169.out 0).trans rfl, (blk_cell BK169.out 1).trans rfl⟩ (fun hHeld => ?_)
 clear hK K
 refine norm_ (a' := ?_) ?_ ?_
 rotate_left
 ·show Act.put _ (some 19) _ = _
  simp only [Act.put, List.setIfInBounds_toArray, List.set_cons_zero, List.set_cons_succ, i64_w, i32_w]
  rfl
 refine one_ (i := 5) (N := some 20) (ba 7 63) rfl rfl (by kernel_rfl) (by decide) (fun K hK => ?_)
 refine goes_ Try.func64 (by kernel_rfl) rfl #[.agg #[.int .i64 a0_0, .int .i64 a0_1], .agg #[.int .u64 t174, .int .u64 t175], .agg #[.int .u64 t176, .int .u64 t177]] (by rfl) rfl rfl am ?_
 with_reducible refine (line_scale_level.calls k a0_0 a0_1 t174 t175 t176 t177 t178 _ A7.out).mono ?_
 rintro e w20 ⟨rfl, hb⟩
 refine ⟨_, rfl, ?_⟩
 replace BK169 := Aside0.mk (bb BK169.out hb)
 replace BK170 := Aside0.mk (bb BK170.out hb)
 replace BK171 := Aside0.mk (bb BK171.out hb)
 replace HB := Aside0.mk (below_step (bl3 HB.out GE169.out GE170.out GE171.out) hb)
 (try clear hb)
 (try clear hb2)
 (try clear hk)
 (try clear hi)
 refine hK.out _ _ ⟨(blk_cell BK169.out 0).trans rfl, (blk_cell BK169.out 1).trans rfl⟩ (fun hHeld => ?_)
 clear hK K
 refine norm_ (a' := ?_) ?_ ?_
 rotate_left
 ·show Act.put _ (some 20) _ = _
  simp only [Act.put, List.setIfInBounds_toArray, List.set_cons_zero, List.set_cons_succ, i64_w, i32_w]
  rfl
 refine pure_ (i := 6) (N := some 6) (v := ?_) (a' := ?_) (ba 7 127) rfl rfl (by kernel_rfl) (fun _ _ _ h => h) (Or.inl ⟨by rfl, ?_⟩) ?_ ?_
 rotate_left
 ·intro w'
  go_simp
  with_reducible rfl
 rotate_left
 ·simp only [Act.put, List.setIfInBounds_toArray, List.set_cons_zero, List.set_cons_succ, i64_w, i32_w]
  rfl
 refine done_ (by kernel_rfl) ?_
 try go_wp2
 go_ret
 exact ⟨by first | rfl | (simp [errW_none, errW_some] <;> rfl) | (simp [*, errW_none, errW_some] <;> rfl), bl3 HB.out GE169.out GE170.out GE171.out⟩

/-! ### line_Point: function 40 -/
def line_Point.f (k : Nat) (a0_0 : Int) (a0_1 : Int) (a1_0 : Int) (a1_1 : Int) (a2 : Int) (a3 : Int) : Option (Int × Int) := (line_scale_asked.f k a2 a3 (([(⟨a0_0, a0_1⟩ : S26), (⟨a1_0, a1_1⟩ : S26)] : List (S26)))).bind fun t185 => (if t185 = 0 then ((line_scale_point.f k a2 a3 a0_0 a0_1 a1_0 a1_1).bind fun t186 => (some (t186, 0))) else (some (0, t185)))
theorem line_Point.mono : ∀ a0 a1 a2 a3 a4 a5 k, LeO (line_Point.f k a0 a1 a2 a3 a4 a5) (line_Point.f (k + 1) a0 a1 a2 a3 a4 a5) := by
 intro a0 a1 a2 a3 a4 a5 k
 unfold line_Point.f
 repeat' first
   | (with_reducible exact line_scale_asked.mono _ _ _ _)
   | (with_reducible exact line_scale_point.mono _ _ _ _ _ _ _)
   | (with_reducible exact LeO.refl _)
   | (with_reducible exact LeO.none _)
   | (with_reducible refine LeO.ite ?_ ?_)
   | (with_reducible refine LeO.bind ?_ (fun _ => ?_))
   | exact line_scale_asked.mono _ _ _ _
   | exact line_scale_point.mono _ _ _ _ _ _ _
   | exact LeO.none _
   | refine LeO.ite ?_ ?_
   | refine LeO.bind ?_ (fun _ => ?_)
set_option maxHeartbeats 8000000 in
set_option maxRecDepth 100000 in
theorem line_Point.calls (k : Nat) (a0_0 : Int) (a0_1 : Int) (a1_0 : Int) (a1_1 : Int) (a2 : Int) (a3 : Int) (r1 : Int) (r2 : Int) (w : World) (h : line_Point.f k a0_0 a0_1 a1_0 a1_1 a2 a3 = some (r1, r2)) :
  Calls Try.prog 40 #[.agg #[.int .i64 a0_0, .int .i64 a0_1], .agg #[.int .i64 a1_0, .int .i64 a1_1], .int .i64 a2, .int .i64 a3] w fun e w' => e = .returned (.tuple #[.int .i64 r1, .int .i64 r2]) ∧ Below w.heap.size w w' := by
 have hu26 := Try.underlying26
 have hu89 := Try.underlying89
 have HB := Aside0.mk (Below.refl w.heap.size w)
 have H : ((line_scale_asked.f k a2 a3 (([(⟨a0_0, a0_1⟩ : S26), (⟨a1_0, a1_1⟩ : S26)] : List (S26)))).bind fun t185 => (if t185 = 0 then ((line_scale_point.f k a2 a3 a0_0 a0_1 a1_0 a1_1).bind fun t186 => (some (t186, 0))) else (some (0, t185)))) = some (r1, r2) := h
 clear h
 obtain ⟨y182, hy182⟩ : ∃ y_ : List (S26), y_ = (([(⟨a0_0, a0_1⟩ : S26), (⟨a1_0, a1_1⟩ : S26)] : List (S26))) := ⟨_, rfl⟩
 replace H : ((line_scale_asked.f k a2 a3 y182).bind fun t185 => (if t185 = 0 then ((line_scale_point.f k a2 a3 a0_0 a0_1 a1_0 a1_1).bind fun t186 => (some (t186, 0))) else (some (0, t185)))) = some (r1, r2) := by first | (rw [hy182]; with_reducible exact H) | (have H2_ := (Option.bind_some _ _).symm.trans H; rw [hy182]; with_reducible exact H2_) | (have H2_ := (Option.bind_some _ _).symm.trans H; with_reducible exact H2_) | with_reducible exact H | (rw [hy182]; exact H) | exact H
 have Ny182 := Aside0.mk hy182
 clear hy182
 replace H := Option.bind_eq_some_iff.mp H
 obtain ⟨t185, A50, H⟩ := H
 replace H : (if t185 = 0 then ((line_scale_point.f k a2 a3 a0_0 a0_1 a1_0 a1_1).bind fun t186 => (some (t186, 0))) else (some (0, t185))) = some (r1, r2) := H
 have A5 := Aside0.mk A50
 clear A50
 by_cases c6 : t185 = 0
 ·rw [if_pos c6] at H
  have c6b0 : (t185 == 0) = true := beq_iff_eq.mpr c6
  have c6b1 : (t185 != 0) = false := bne_eq_false_iff_eq.mpr c6
  clear c6
  replace H := Option.bind_eq_some_iff.mp H
  obtain ⟨t186, A70, H⟩ := H
  replace H : (some (t186, 0)) = some (r1, r2) := H
  have A7 := Aside0.mk A70
  clear A70
  simp only [Option.some.injEq, Prod.mk.injEq] at H
  obtain ⟨rfl, rfl⟩ := H
  go_enter Try.func40, Try.ntmps40
  go_wp2_with (first | ((with_reducible refine gate_dst (N := 4) rfl ?_); refine be 4 (#[.int .i64 a0_0, .int .i64 a0_1]) 26 ?_; intro gb179 hg w8 hbox hb; have BK179 := Aside0.mk (hbox); have GW179 := Aside0.mk ((by rw [hg]; exact (below_size (bl0 HB.out)) : w.heap.size ≤ gb179)); have GE179 := GW179; replace HB := Aside0.mk (below_step (bl0 HB.out) hb); clear hb hbox hg) | ((with_reducible refine gate_dst (N := 5) rfl ?_); refine be 5 (#[.int .i64 a1_0, .int .i64 a1_1]) 26 ?_; intro gb180 hg w9 hbox hb; have BK180 := Aside0.mk (hbox); have GW180 := Aside0.mk ((by rw [hg]; exact (below_size (bl1 HB.out GE179.out)) : w.heap.size ≤ gb180)); have GE180 := GW180; have NB179_180 := Aside0.mk ((by rw [hg]; exact Nat.ne_of_lt (lt_ BK179.out) : gb179 ≠ gb180)); have NB180_179 := Aside0.mk ((by rw [hg]; exact Nat.ne_of_gt (lt_ BK179.out) : gb180 ≠ gb179)); replace BK179 := Aside0.mk (bb BK179.out hb); replace HB := Aside0.mk (below_step (bl1 HB.out GE179.out) hb); clear hb hbox hg) | ((with_reducible refine gate_dst (N := 10) rfl ?_); refine be 10 (#[.int .i64 0, .int .i64 0]) 89 ?_; intro gb181 hg w10 hbox hb; have BK181 := Aside0.mk (hbox); have GW181 := Aside0.mk ((by rw [hg]; exact (below_size (bl2 HB.out GE179.out GE180.out)) : w.heap.size ≤ gb181)); have GE181 := GW181; have NB179_181 := Aside0.mk ((by rw [hg]; exact Nat.ne_of_lt (lt_ BK179.out) : gb179 ≠ gb181)); have NB181_179 := Aside0.mk ((by rw [hg]; exact Nat.ne_of_gt (lt_ BK179.out) : gb181 ≠ gb179)); have NB180_181 := Aside0.mk ((by rw [hg]; exact Nat.ne_of_lt (lt_ BK180.out) : gb180 ≠ gb181)); have NB181_180 := Aside0.mk ((by rw [hg]; exact Nat.ne_of_gt (lt_ BK180.out) : gb181 ≠ gb180)); replace BK179 := Aside0.mk (bb BK179.out hb); replace BK180 := Aside0.mk (bb BK180.out hb); replace HB := Aside0.mk (below_step (bl2 HB.out GE179.out GE180.out) hb); clear hb hbox hg; have hnb11 := NB181_179.out; have hnc11 := NB179_181.out; have hnb12 := NB181_180.out; have hnc12 := NB180_181.out; have hcz13_0 : w10.cell? ⟨gb181, 0, none⟩ = some (.int .i64 0) := (blk_cell BK181.out 0).trans rfl; have hcz13_1 : w10.cell? ⟨gb181, 1, none⟩ = some (.int .i64 0) := (blk_cell BK181.out 1).trans rfl; have hfz13_0 := blk_frozen BK181.out 0; have hfz13_1 := blk_frozen BK181.out 1; have hnb14 := NB179_180.out; have hnc14 := NB180_179.out; have hcz15_0 : w10.cell? ⟨gb179, 0, none⟩ = some (.int .i64 a0_0) := (blk_cell BK179.out 0).trans rfl; have hcz15_1 : w10.cell? ⟨gb179, 1, none⟩ = some (.int .i64 a0_1) := (blk_cell BK179.out 1).trans rfl; have hfz15_0 := blk_frozen BK179.out 0; have hfz15_1 := blk_frozen BK179.out 1; have hcz16_0 : w10.cell? ⟨gb180, 0, none⟩ = some (.int .i64 a1_0) := (blk_cell BK180.out 0).trans rfl; have hcz16_1 : w10.cell? ⟨gb180, 1, none⟩ = some (.int .i64 a1_1) := (blk_cell BK180.out 1).trans rfl; have hfz16_0 := blk_frozen BK180.out 0; have hfz16_1 := blk_frozen BK180.out 1) | ((with_reducible refine gate_dst (N := 18) rfl ?_); refine Kd.R_lit k26 _ 26 ?hg (N := 18) ?hd (xs := ([(⟨a0_0, a0_1⟩ : S26), (⟨a1_0, a1_1⟩ : S26)] : List (S26))) (inner := [.int .i64 a0_0, .int .i64 a0_1, .int .i64 a1_0, .int .i64 a1_1]) (ok := fun _ => True) (okp := fun _ => True) ?hr ?hp (fun _ hk => hk) trivial (Below.refl _ _) (Nat.le_refl _) (by simp) ?_; (case hd => rfl); (case hg => rfl); (case hr => first | (go_simp; done) | (go_simp; rfl)); (case hp => exact (Reps.c2 (show Kd.M k26 _ _ _ (⟨a0_0, a0_1⟩ : S26) [.int .i64 a0_0, .int .i64 a0_1] from (k26_mkM _ _ _ (⟨a0_0, a0_1⟩ : S26) )) (Reps.c2 (show Kd.M k26 _ _ _ (⟨a1_0, a1_1⟩ : S26) [.int .i64 a1_0, .int .i64 a1_1] from (k26_mkM _ _ _ (⟨a1_0, a1_1⟩ : S26) )) (Reps.none _ _)))); intro v183 w17 ho18 hb hg_ hnew_; clear hg_ hnew_; (first | rw [← Ny182.out] at ho18 | (simp only [Int.reduceToNat] at ho18; rw [← Ny182.out] at ho18)); have HO184 := Aside0.mk (Kd.R_lower (Kd.R_newB (Kd.R_newB ho18 (g := gb179) (o := .cells #[.int .i64 a0_0, .int .i64 a0_1] 26 (0, 0)) (by (with_reducible repeat (first | refine blk_drewN ?_ _ | refine blk_drew ?_ | refine blk_alloc ?_ _)); refine blk_far ?_ NB179_181.out _; (with_reducible repeat (first | refine blk_drewN ?_ _ | refine blk_drew ?_ | refine blk_alloc ?_ _)); refine blk_far ?_ NB179_181.out _; (with_reducible repeat (first | refine blk_drewN ?_ _ | refine blk_drew ?_ | refine blk_alloc ?_ _)); exact BK179.out)) (g := gb180) (o := .cells #[.int .i64 a1_0, .int .i64 a1_1] 26 (0, 0)) (by (with_reducible repeat (first | refine blk_drewN ?_ _ | refine blk_drew ?_ | refine blk_alloc ?_ _)); refine blk_far ?_ NB180_181.out _; (with_reducible repeat (first | refine blk_drewN ?_ _ | refine blk_drew ?_ | refine blk_alloc ?_ _)); refine blk_far ?_ NB180_181.out _; (with_reducible repeat (first | refine blk_drewN ?_ _ | refine blk_drew ?_ | refine blk_alloc ?_ _)); exact BK180.out)) (below_size (bl3 HB.out GE179.out GE180.out GE181.out))); replace BK179 := Aside0.mk (blk_below (g := gb179) (o := .cells #[.int .i64 a0_0, .int .i64 a0_1] 26 (0, 0)) (by (with_reducible repeat (first | refine blk_drewN ?_ _ | refine blk_drew ?_ | refine blk_alloc ?_ _)); refine blk_far ?_ NB179_181.out _; (with_reducible repeat (first | refine blk_drewN ?_ _ | refine blk_drew ?_ | refine blk_alloc ?_ _)); refine blk_far ?_ NB179_181.out _; (with_reducible repeat (first | refine blk_drewN ?_ _ | refine blk_drew ?_ | refine blk_alloc ?_ _)); exact BK179.out) hb); replace BK180 := Aside0.mk (blk_below (g := gb180) (o := .cells #[.int .i64 a1_0, .int .i64 a1_1] 26 (0, 0)) (by (with_reducible repeat (first | refine blk_drewN ?_ _ | refine blk_drew ?_ | refine blk_alloc ?_ _)); refine blk_far ?_ NB180_181.out _; (with_reducible repeat (first | refine blk_drewN ?_ _ | refine blk_drew ?_ | refine blk_alloc ?_ _)); refine blk_far ?_ NB180_181.out _; (with_reducible repeat (first | refine blk_drewN ?_ _ | refine blk_drew ?_ | refine blk_alloc ?_ _)); exact BK180.out) hb); replace BK181 := Aside0.mk (blk_below (g := gb181) (o := .cells #[.int .i64 a2, .int .i64 a3] 89 (0, 0)) (bk (blk_put (cs := #[.int .i64 a2, .int .i64 0]) (bk (blk_put (cs := #[.int .i64 0, .int .i64 0]) (bk BK181.out) 0 _ rfl)) 1 _ rfl)) hb); replace HB := Aside0.mk (below_step (bl3 HB.out GE179.out GE180.out GE181.out) hb); clear hb ho18; obtain ⟨Ao19, co19, eo19⟩ := Kd.R_slice HO184.out; subst eo19) | ((with_reducible refine gate_callee (f := 67) rfl ?_); refine goesL_ (some 19) rfl rfl Try.func67 (by kernel_rfl) rfl #[.agg #[.int .i64 a2, .int .i64 a3], .slice Ao19 y182.length co19] rfl am ?_; (with_reducible refine (line_scale_asked.calls k a2 a3 _ _ y182 t185 _ ?side1 ?side2 A5.out).mono ?_); (case side1 => repeat (first | exact (Kd.R_reads' HO184.out).2.2 | (with_reducible refine Kd.C_alloc ?_ _) | (with_reducible refine Kd.C_drewN ?_ _) | (with_reducible refine Kd.C_drew ?_))); (case side2 => exact (Kd.R_reads' HO184.out).2.1); rintro e w20 ⟨rfl, hb⟩; refine ⟨_, rfl, ?_⟩; replace HO184 := Aside0.mk (Kd.R_below (by (with_reducible repeat (first | apply Kd.R_alloc | apply Kd.R_drewN | apply Kd.R_drew)); exact HO184.out) hb); replace BK179 := Aside0.mk (bb BK179.out hb); replace BK180 := Aside0.mk (bb BK180.out hb); replace BK181 := Aside0.mk (bb BK181.out hb); replace HB := Aside0.mk (below_step (bl3 HB.out GE179.out GE180.out GE181.out) hb); (try clear hb); (try clear hb2); (try clear hk); (try clear hi); have hcz21_0 : w20.cell? ⟨gb181, 0, none⟩ = some (.int .i64 a2) := (blk_cell BK181.out 0).trans rfl; have hcz21_1 : w20.cell? ⟨gb181, 1, none⟩ = some (.int .i64 a3) := (blk_cell BK181.out 1).trans rfl; have hfz21_0 := blk_frozen BK181.out 0; have hfz21_1 := blk_frozen BK181.out 1; have hcz22_0 : w20.cell? ⟨gb179, 0, none⟩ = some (.int .i64 a0_0) := (blk_cell BK179.out 0).trans rfl; have hcz22_1 : w20.cell? ⟨gb179, 1, none⟩ = some (.int .i64 a0_1) := (blk_cell BK179.out 1).trans rfl; have hfz22_0 := blk_frozen BK179.out 0; have hfz22_1 := blk_frozen BK179.out 1; have hcz23_0 : w20.cell? ⟨gb180, 0, none⟩ = some (.int .i64 a1_0) := (blk_cell BK180.out 0).trans rfl; have hcz23_1 : w20.cell? ⟨gb180, 1, none⟩ = some (.int .i64 a1_1) := (blk_cell BK180.out 1).trans rfl; have hfz23_0 := blk_frozen BK180.out 0; have hfz23_1 := blk_frozen BK180.out 1) | ((with_reducible refine gate_callee (f := 68) rfl ?_); refine goesL_ (some 26) rfl rfl Try.func68 (by kernel_rfl) rfl #[.agg #[.int .i64 a2, .int .i64 a3], .agg #[.int .i64 a0_0, .int .i64 a0_1], .agg #[.int .i64 a1_0, .int .i64 a1_1]] rfl am ?_; (with_reducible refine (line_scale_point.calls k a2 a3 a0_0 a0_1 a1_0 a1_1 t186 _ A7.out).mono ?_); rintro e w24 ⟨rfl, hb⟩; refine ⟨_, rfl, ?_⟩; replace HO184 := Aside0.mk (Kd.R_below (by (with_reducible repeat (first | apply Kd.R_alloc | apply Kd.R_drewN | apply Kd.R_drew)); exact HO184.out) hb); replace BK179 := Aside0.mk (bb BK179.out hb); replace BK180 := Aside0.mk (bb BK180.out hb); replace BK181 := Aside0.mk (bb BK181.out hb); replace HB := Aside0.mk (below_step (bl3 HB.out GE179.out GE180.out GE181.out) hb); (try clear hb); (try clear hb2); (try clear hk); (try clear hi)))
  go_ret2
  exact ⟨by first | rfl | (simp [errW_none, errW_some] <;> rfl) | (simp [*, errW_none, errW_some] <;> rfl), bl3 HB.out GE179.out GE180.out GE181.out⟩
 ·rw [if_neg c6] at H
  have c6b0 : (t185 == 0) = false := beq_eq_false_iff_ne.mpr c6
  have c6b1 : (t185 != 0) = true := bne_iff_ne.mpr c6
  simp only [Option.some.injEq, Prod.mk.injEq] at H
  obtain ⟨rfl, rfl⟩ := H
  go_enter Try.func40, Try.ntmps40
  go_wp2_with (first | ((with_reducible refine gate_dst (N := 4) rfl ?_); refine be 4 (#[.int .i64 a0_0, .int .i64 a0_1]) 26 ?_; intro gb179 hg w25 hbox hb; have BK179 := Aside0.mk (hbox); have GW179 := Aside0.mk ((by rw [hg]; exact (below_size (bl0 HB.out)) : w.heap.size ≤ gb179)); have GE179 := GW179; replace HB := Aside0.mk (below_step (bl0 HB.out) hb); clear hb hbox hg) | ((with_reducible refine gate_dst (N := 5) rfl ?_); refine be 5 (#[.int .i64 a1_0, .int .i64 a1_1]) 26 ?_; intro gb180 hg w26 hbox hb; have BK180 := Aside0.mk (hbox); have GW180 := Aside0.mk ((by rw [hg]; exact (below_size (bl1 HB.out GE179.out)) : w.heap.size ≤ gb180)); have GE180 := GW180; have NB179_180 := Aside0.mk ((by rw [hg]; exact Nat.ne_of_lt (lt_ BK179.out) : gb179 ≠ gb180)); have NB180_179 := Aside0.mk ((by rw [hg]; exact Nat.ne_of_gt (lt_ BK179.out) : gb180 ≠ gb179)); replace BK179 := Aside0.mk (bb BK179.out hb); replace HB := Aside0.mk (below_step (bl1 HB.out GE179.out) hb); clear hb hbox hg) | ((with_reducible refine gate_dst (N := 10) rfl ?_); refine be 10 (#[.int .i64 0, .int .i64 0]) 89 ?_; intro gb181 hg w27 hbox hb; have BK181 := Aside0.mk (hbox); have GW181 := Aside0.mk ((by rw [hg]; exact (below_size (bl2 HB.out GE179.out GE180.out)) : w.heap.size ≤ gb181)); have GE181 := GW181; have NB179_181 := Aside0.mk ((by rw [hg]; exact Nat.ne_of_lt (lt_ BK179.out) : gb179 ≠ gb181)); have NB181_179 := Aside0.mk ((by rw [hg]; exact Nat.ne_of_gt (lt_ BK179.out) : gb181 ≠ gb179)); have NB180_181 := Aside0.mk ((by rw [hg]; exact Nat.ne_of_lt (lt_ BK180.out) : gb180 ≠ gb181)); have NB181_180 := Aside0.mk ((by rw [hg]; exact Nat.ne_of_gt (lt_ BK180.out) : gb181 ≠ gb180)); replace BK179 := Aside0.mk (bb BK179.out hb); replace BK180 := Aside0.mk (bb BK180.out hb); replace HB := Aside0.mk (below_step (bl2 HB.out GE179.out GE180.out) hb); clear hb hbox hg; have hnb28 := NB181_179.out; have hnc28 := NB179_181.out; have hnb29 := NB181_180.out; have hnc29 := NB180_181.out; have hcz30_0 : w27.cell? ⟨gb181, 0, none⟩ = some (.int .i64 0) := (blk_cell BK181.out 0).trans rfl; have hcz30_1 : w27.cell? ⟨gb181, 1, none⟩ = some (.int .i64 0) := (blk_cell BK181.out 1).trans rfl; have hfz30_0 := blk_frozen BK181.out 0; have hfz30_1 := blk_frozen BK181.out 1; have hnb31 := NB179_180.out; have hnc31 := NB180_179.out; have hcz32_0 : w27.cell? ⟨gb179, 0, none⟩ = some (.int .i64 a0_0) := (blk_cell BK179.out 0).trans rfl; have hcz32_1 : w27.cell? ⟨gb179, 1, none⟩ = some (.int .i64 a0_1) := (blk_cell BK179.out 1).trans rfl; have hfz32_0 := blk_frozen BK179.out 0; have hfz32_1 := blk_frozen BK179.out 1; have hcz33_0 : w27.cell? ⟨gb180, 0, none⟩ = some (.int .i64 a1_0) := (blk_cell BK180.out 0).trans rfl; have hcz33_1 : w27.cell? ⟨gb180, 1, none⟩ = some (.int .i64 a1_1) := (blk_cell BK180.out 1).trans rfl; have hfz33_0 := blk_frozen BK180.out 0; have hfz33_1 := blk_frozen BK180.out 1) | ((with_reducible refine gate_dst (N := 18) rfl ?_); refine Kd.R_lit k26 _ 26 ?hg (N := 18) ?hd (xs := ([(⟨a0_0, a0_1⟩ : S26), (⟨a1_0, a1_1⟩ : S26)] : List (S26))) (inner := [.int .i64 a0_0, .int .i64 a0_1, .int .i64 a1_0, .int .i64 a1_1]) (ok := fun _ => True) (okp := fun _ => True) ?hr ?hp (fun _ hk => hk) trivial (Below.refl _ _) (Nat.le_refl _) (by simp) ?_; (case hd => rfl); (case hg => rfl); (case hr => first | (go_simp; done) | (go_simp; rfl)); (case hp => exact (Reps.c2 (show Kd.M k26 _ _ _ (⟨a0_0, a0_1⟩ : S26) [.int .i64 a0_0, .int .i64 a0_1] from (k26_mkM _ _ _ (⟨a0_0, a0_1⟩ : S26) )) (Reps.c2 (show Kd.M k26 _ _ _ (⟨a1_0, a1_1⟩ : S26) [.int .i64 a1_0, .int .i64 a1_1] from (k26_mkM _ _ _ (⟨a1_0, a1_1⟩ : S26) )) (Reps.none _ _)))); intro v183 w34 ho35 hb hg_ hnew_; clear hg_ hnew_; (first | rw [← Ny182.out] at ho35 | (simp only [Int.reduceToNat] at ho35; rw [← Ny182.out] at ho35)); have HO184 := Aside0.mk (Kd.R_lower (Kd.R_newB (Kd.R_newB ho35 (g := gb179) (o := .cells #[.int .i64 a0_0, .int .i64 a0_1] 26 (0, 0)) (by (with_reducible repeat (first | refine blk_drewN ?_ _ | refine blk_drew ?_ | refine blk_alloc ?_ _)); refine blk_far ?_ NB179_181.out _; (with_reducible repeat (first | refine blk_drewN ?_ _ | refine blk_drew ?_ | refine blk_alloc ?_ _)); refine blk_far ?_ NB179_181.out _; (with_reducible repeat (first | refine blk_drewN ?_ _ | refine blk_drew ?_ | refine blk_alloc ?_ _)); exact BK179.out)) (g := gb180) (o := .cells #[.int .i64 a1_0, .int .i64 a1_1] 26 (0, 0)) (by (with_reducible repeat (first | refine blk_drewN ?_ _ | refine blk_drew ?_ | refine blk_alloc ?_ _)); refine blk_far ?_ NB180_181.out _; (with_reducible repeat (first | refine blk_drewN ?_ _ | refine blk_drew ?_ | refine blk_alloc ?_ _)); refine blk_far ?_ NB180_181.out _; (with_reducible repeat (first | refine blk_drewN ?_ _ | refine blk_drew ?_ | refine blk_alloc ?_ _)); exact BK180.out)) (below_size (bl3 HB.out GE179.out GE180.out GE181.out))); replace BK179 := Aside0.mk (blk_below (g := gb179) (o := .cells #[.int .i64 a0_0, .int .i64 a0_1] 26 (0, 0)) (by (with_reducible repeat (first | refine blk_drewN ?_ _ | refine blk_drew ?_ | refine blk_alloc ?_ _)); refine blk_far ?_ NB179_181.out _; (with_reducible repeat (first | refine blk_drewN ?_ _ | refine blk_drew ?_ | refine blk_alloc ?_ _)); refine blk_far ?_ NB179_181.out _; (with_reducible repeat (first | refine blk_drewN ?_ _ | refine blk_drew ?_ | refine blk_alloc ?_ _)); exact BK179.out) hb); replace BK180 := Aside0.mk (blk_below (g := gb180) (o := .cells #[.int .i64 a1_0, .int .i64 a1_1] 26 (0, 0)) (by (with_reducible repeat (first | refine blk_drewN ?_ _ | refine blk_drew ?_ | refine blk_alloc ?_ _)); refine blk_far ?_ NB180_181.out _; (with_reducible repeat (first | refine blk_drewN ?_ _ | refine blk_drew ?_ | refine blk_alloc ?_ _)); refine blk_far ?_ NB180_181.out _; (with_reducible repeat (first | refine blk_drewN ?_ _ | refine blk_drew ?_ | refine blk_alloc ?_ _)); exact BK180.out) hb); replace BK181 := Aside0.mk (blk_below (g := gb181) (o := .cells #[.int .i64 a2, .int .i64 a3] 89 (0, 0)) (bk (blk_put (cs := #[.int .i64 a2, .int .i64 0]) (bk (blk_put (cs := #[.int .i64 0, .int .i64 0]) (bk BK181.out) 0 _ rfl)) 1 _ rfl)) hb); replace HB := Aside0.mk (below_step (bl3 HB.out GE179.out GE180.out GE181.out) hb); clear hb ho35; obtain ⟨Ao36, co36, eo36⟩ := Kd.R_slice HO184.out; subst eo36) | ((with_reducible refine gate_callee (f := 67) rfl ?_); refine goesL_ (some 19) rfl rfl Try.func67 (by kernel_rfl) rfl #[.agg #[.int .i64 a2, .int .i64 a3], .slice Ao36 y182.length co36] rfl am ?_; (with_reducible refine (line_scale_asked.calls k a2 a3 _ _ y182 t185 _ ?side1 ?side2 A5.out).mono ?_); (case side1 => repeat (first | exact (Kd.R_reads' HO184.out).2.2 | (with_reducible refine Kd.C_alloc ?_ _) | (with_reducible refine Kd.C_drewN ?_ _) | (with_reducible refine Kd.C_drew ?_))); (case side2 => exact (Kd.R_reads' HO184.out).2.1); rintro e w37 ⟨rfl, hb⟩; refine ⟨_, rfl, ?_⟩; replace HO184 := Aside0.mk (Kd.R_below (by (with_reducible repeat (first | apply Kd.R_alloc | apply Kd.R_drewN | apply Kd.R_drew)); exact HO184.out) hb); replace BK179 := Aside0.mk (bb BK179.out hb); replace BK180 := Aside0.mk (bb BK180.out hb); replace BK181 := Aside0.mk (bb BK181.out hb); replace HB := Aside0.mk (below_step (bl3 HB.out GE179.out GE180.out GE181.out) hb); (try clear hb); (try clear hb2); (try clear hk); (try clear hi)))
  go_ret2
  exact ⟨by first | rfl | (simp [errW_none, errW_some] <;> rfl) | (simp [*, errW_none, errW_some] <;> rfl), bl3 HB.out GE179.out GE180.out GE181.out⟩

/-! ### line_ahead: function 69 -/
def line_ahead.f (k : Nat) (a0_0 : Int) (a0_1 : Int) (a1_0 : Int) (a1_1 : Int) (a2_0 : Int) (a2_1 : Int) : Option (Bool) := (plane_Dot.f k a0_0 a0_1 a1_0 a1_1 a2_0 a2_1).bind fun bt190 => (some (decide (bt190.1 ≤ 0)))
theorem line_ahead.mono : ∀ a0 a1 a2 a3 a4 a5 k, LeO (line_ahead.f k a0 a1 a2 a3 a4 a5) (line_ahead.f (k + 1) a0 a1 a2 a3 a4 a5) := by
 intro a0 a1 a2 a3 a4 a5 k
 unfold line_ahead.f
 repeat' first
   | (with_reducible exact plane_Dot.mono _ _ _ _ _ _ _)
   | (with_reducible exact LeO.refl _)
   | (with_reducible exact LeO.none _)
   | (with_reducible refine LeO.ite ?_ ?_)
   | (with_reducible refine LeO.bind ?_ (fun _ => ?_))
   | exact plane_Dot.mono _ _ _ _ _ _ _
   | exact LeO.none _
   | refine LeO.ite ?_ ?_
   | refine LeO.bind ?_ (fun _ => ?_)
set_option maxHeartbeats 8000000 in
set_option maxRecDepth 100000 in
theorem line_ahead.calls (k : Nat) (a0_0 : Int) (a0_1 : Int) (a1_0 : Int) (a1_1 : Int) (a2_0 : Int) (a2_1 : Int) (r : Bool) (w : World) (h : line_ahead.f k a0_0 a0_1 a1_0 a1_1 a2_0 a2_1 = some r) :
  Calls Try.prog 69 #[.agg #[.int .i64 a0_0, .int .i64 a0_1], .agg #[.int .i64 a1_0, .int .i64 a1_1], .agg #[.int .i64 a2_0, .int .i64 a2_1]] w fun e w' => e = .returned (.bool r) ∧ Below w.heap.size w w' := by
 have hu26 := Try.underlying26
 have HB := Aside0.mk (Below.refl w.heap.size w)
 have H : ((plane_Dot.f k a0_0 a0_1 a1_0 a1_1 a2_0 a2_1).bind fun bt190 => (some (decide (bt190.1 ≤ 0)))) = some r := h
 clear h
 replace H := Option.bind_eq_some_iff.mp H
 obtain ⟨⟨t190, t191⟩, A40, H⟩ := H
 replace H : (some (decide (t190 ≤ 0))) = some r := H
 have A4 := Aside0.mk A40
 clear A40
 obtain rfl := Option.some.inj H
 go_enter Try.func69, Try.ntmps69
 go_wp2_with (first | ((with_reducible refine gate_dst (N := 3) rfl ?_); refine be 3 (#[.int .i64 a0_0, .int .i64 a0_1]) 26 ?_; intro gb187 hg w5 hbox hb; have BK187 := Aside0.mk (hbox); have GW187 := Aside0.mk ((by rw [hg]; exact (below_size (bl0 HB.out)) : w.heap.size ≤ gb187)); have GE187 := GW187; replace HB := Aside0.mk (below_step (bl0 HB.out) hb); clear hb hbox hg) | ((with_reducible refine gate_dst (N := 4) rfl ?_); refine be 4 (#[.int .i64 a1_0, .int .i64 a1_1]) 26 ?_; intro gb188 hg w6 hbox hb; have BK188 := Aside0.mk (hbox); have GW188 := Aside0.mk ((by rw [hg]; exact (below_size (bl1 HB.out GE187.out)) : w.heap.size ≤ gb188)); have GE188 := GW188; have NB187_188 := Aside0.mk ((by rw [hg]; exact Nat.ne_of_lt (lt_ BK187.out) : gb187 ≠ gb188)); have NB188_187 := Aside0.mk ((by rw [hg]; exact Nat.ne_of_gt (lt_ BK187.out) : gb188 ≠ gb187)); replace BK187 := Aside0.mk (bb BK187.out hb); replace HB := Aside0.mk (below_step (bl1 HB.out GE187.out) hb); clear hb hbox hg) | ((with_reducible refine gate_dst (N := 5) rfl ?_); refine be 5 (#[.int .i64 a2_0, .int .i64 a2_1]) 26 ?_; intro gb189 hg w7 hbox hb; have BK189 := Aside0.mk (hbox); have GW189 := Aside0.mk ((by rw [hg]; exact (below_size (bl2 HB.out GE187.out GE188.out)) : w.heap.size ≤ gb189)); have GE189 := GW189; have NB187_189 := Aside0.mk ((by rw [hg]; exact Nat.ne_of_lt (lt_ BK187.out) : gb187 ≠ gb189)); have NB189_187 := Aside0.mk ((by rw [hg]; exact Nat.ne_of_gt (lt_ BK187.out) : gb189 ≠ gb187)); have NB188_189 := Aside0.mk ((by rw [hg]; exact Nat.ne_of_lt (lt_ BK188.out) : gb188 ≠ gb189)); have NB189_188 := Aside0.mk ((by rw [hg]; exact Nat.ne_of_gt (lt_ BK188.out) : gb189 ≠ gb188)); replace BK187 := Aside0.mk (bb BK187.out hb); replace BK188 := Aside0.mk (bb BK188.out hb); replace HB := Aside0.mk (below_step (bl2 HB.out GE187.out GE188.out) hb); clear hb hbox hg; have hnb8 := NB187_188.out; have hnc8 := NB188_187.out; have hnb9 := NB187_189.out; have hnc9 := NB189_187.out; have hcz10_0 : w7.cell? ⟨gb187, 0, none⟩ = some (.int .i64 a0_0) := (blk_cell BK187.out 0).trans rfl; have hcz10_1 : w7.cell? ⟨gb187, 1, none⟩ = some (.int .i64 a0_1) := (blk_cell BK187.out 1).trans rfl; have hfz10_0 := blk_frozen BK187.out 0; have hfz10_1 := blk_frozen BK187.out 1; have hnb11 := NB188_189.out; have hnc11 := NB189_188.out; have hcz12_0 : w7.cell? ⟨gb188, 0, none⟩ = some (.int .i64 a1_0) := (blk_cell BK188.out 0).trans rfl; have hcz12_1 : w7.cell? ⟨gb188, 1, none⟩ = some (.int .i64 a1_1) := (blk_cell BK188.out 1).trans rfl; have hfz12_0 := blk_frozen BK188.out 0; have hfz12_1 := blk_frozen BK188.out 1; have hcz13_0 : w7.cell? ⟨gb189, 0, none⟩ = some (.int .i64 a2_0) := (blk_cell BK189.out 0).trans rfl; have hcz13_1 : w7.cell? ⟨gb189, 1, none⟩ = some (.int .i64 a2_1) := (blk_cell BK189.out 1).trans rfl; have hfz13_0 := blk_frozen BK189.out 0; have hfz13_1 := blk_frozen BK189.out 1) | ((with_reducible refine gate_callee (f := 17) rfl ?_); refine goesL_ (some 13) rfl rfl Try.func17 (by kernel_rfl) rfl #[.agg #[.int .i64 a0_0, .int .i64 a0_1], .agg #[.int .i64 a1_0, .int .i64 a1_1], .agg #[.int .i64 a2_0, .int .i64 a2_1]] rfl am ?_; (with_reducible refine (plane_Dot.calls k a0_0 a0_1 a1_0 a1_1 a2_0 a2_1 t190 t191 _ A4.out).mono ?_); rintro e w14 ⟨rfl, hb⟩; refine ⟨_, rfl, ?_⟩; replace BK187 := Aside0.mk (bb BK187.out hb); replace BK188 := Aside0.mk (bb BK188.out hb); replace BK189 := Aside0.mk (bb BK189.out hb); replace HB := Aside0.mk (below_step (bl3 HB.out GE187.out GE188.out GE189.out) hb); (try clear hb); (try clear hb2); (try clear hk); (try clear hi)))
 go_ret
 exact ⟨by first | rfl | (simp [errW_none, errW_some] <;> rfl) | (simp [*, errW_none, errW_some] <;> rfl), bl3 HB.out GE187.out GE188.out GE189.out⟩

/-! ### plane_cross: function 48 -/
def plane_cross.f (a0_0 : Int) (a0_1 : Int) (a1_0 : Int) (a1_1 : Int) (a2_0 : Int) (a2_1 : Int) : Option (Int) := some (wrap64 ((wrap64 ((wrap64 (a1_0 - a0_0)) * (wrap64 (a2_1 - a0_1)))) - (wrap64 ((wrap64 (a1_1 - a0_1)) * (wrap64 (a2_0 - a0_0))))))
set_option maxHeartbeats 8000000 in
set_option maxRecDepth 100000 in
theorem plane_cross.calls (a0_0 : Int) (a0_1 : Int) (a1_0 : Int) (a1_1 : Int) (a2_0 : Int) (a2_1 : Int) (r : Int) (w : World) (h : plane_cross.f a0_0 a0_1 a1_0 a1_1 a2_0 a2_1 = some r) :
  Calls Try.prog 48 #[.agg #[.int .i64 a0_0, .int .i64 a0_1], .agg #[.int .i64 a1_0, .int .i64 a1_1], .agg #[.int .i64 a2_0, .int .i64 a2_1]] w fun e w' => e = .returned (.int .i64 r) ∧ Below w.heap.size w w' := by
 have hu26 := Try.underlying26
 have HB := Aside0.mk (Below.refl w.heap.size w)
 have H : (some (wrap64 ((wrap64 ((wrap64 (a1_0 - a0_0)) * (wrap64 (a2_1 - a0_1)))) - (wrap64 ((wrap64 (a1_1 - a0_1)) * (wrap64 (a2_0 - a0_0))))))) = some r := h
 clear h
 obtain rfl := Option.some.inj H
 go_enter Try.func48, Try.ntmps48
 go_wp2_with (first | ((with_reducible refine gate_dst (N := 3) rfl ?_); refine be 3 (#[.int .i64 a0_0, .int .i64 a0_1]) 26 ?_; intro gb192 hg w4 hbox hb; have BK192 := Aside0.mk (hbox); have GW192 := Aside0.mk ((by rw [hg]; exact (below_size (bl0 HB.out)) : w.heap.size ≤ gb192)); have GE192 := GW192; replace HB := Aside0.mk (below_step (bl0 HB.out) hb); clear hb hbox hg) | ((with_reducible refine gate_dst (N := 4) rfl ?_); refine be 4 (#[.int .i64 a1_0, .int .i64 a1_1]) 26 ?_; intro gb193 hg w5 hbox hb; have BK193 := Aside0.mk (hbox); have GW193 := Aside0.mk ((by rw [hg]; exact (below_size (bl1 HB.out GE192.out)) : w.heap.size ≤ gb193)); have GE193 := GW193; have NB192_193 := Aside0.mk ((by rw [hg]; exact Nat.ne_of_lt (lt_ BK192.out) : gb192 ≠ gb193)); have NB193_192 := Aside0.mk ((by rw [hg]; exact Nat.ne_of_gt (lt_ BK192.out) : gb193 ≠ gb192)); replace BK192 := Aside0.mk (bb BK192.out hb); replace HB := Aside0.mk (below_step (bl1 HB.out GE192.out) hb); clear hb hbox hg) | ((with_reducible refine gate_dst (N := 5) rfl ?_); refine be 5 (#[.int .i64 a2_0, .int .i64 a2_1]) 26 ?_; intro gb194 hg w6 hbox hb; have BK194 := Aside0.mk (hbox); have GW194 := Aside0.mk ((by rw [hg]; exact (below_size (bl2 HB.out GE192.out GE193.out)) : w.heap.size ≤ gb194)); have GE194 := GW194; have NB192_194 := Aside0.mk ((by rw [hg]; exact Nat.ne_of_lt (lt_ BK192.out) : gb192 ≠ gb194)); have NB194_192 := Aside0.mk ((by rw [hg]; exact Nat.ne_of_gt (lt_ BK192.out) : gb194 ≠ gb192)); have NB193_194 := Aside0.mk ((by rw [hg]; exact Nat.ne_of_lt (lt_ BK193.out) : gb193 ≠ gb194)); have NB194_193 := Aside0.mk ((by rw [hg]; exact Nat.ne_of_gt (lt_ BK193.out) : gb194 ≠ gb193)); replace BK192 := Aside0.mk (bb BK192.out hb); replace BK193 := Aside0.mk (bb BK193.out hb); replace HB := Aside0.mk (below_step (bl2 HB.out GE192.out GE193.out) hb); clear hb hbox hg; have hnb7 := NB193_192.out; have hnc7 := NB192_193.out; have hnb8 := NB193_194.out; have hnc8 := NB194_193.out; have hcz9_0 : w6.cell? ⟨gb193, 0, none⟩ = some (.int .i64 a1_0) := (blk_cell BK193.out 0).trans rfl; have hcz9_1 : w6.cell? ⟨gb193, 1, none⟩ = some (.int .i64 a1_1) := (blk_cell BK193.out 1).trans rfl; have hfz9_0 := blk_frozen BK193.out 0; have hfz9_1 := blk_frozen BK193.out 1; have hnb10 := NB192_194.out; have hnc10 := NB194_192.out; have hcz11_0 : w6.cell? ⟨gb192, 0, none⟩ = some (.int .i64 a0_0) := (blk_cell BK192.out 0).trans rfl; have hcz11_1 : w6.cell? ⟨gb192, 1, none⟩ = some (.int .i64 a0_1) := (blk_cell BK192.out 1).trans rfl; have hfz11_0 := blk_frozen BK192.out 0; have hfz11_1 := blk_frozen BK192.out 1; have hcz12_0 : w6.cell? ⟨gb194, 0, none⟩ = some (.int .i64 a2_0) := (blk_cell BK194.out 0).trans rfl; have hcz12_1 : w6.cell? ⟨gb194, 1, none⟩ = some (.int .i64 a2_1) := (blk_cell BK194.out 1).trans rfl; have hfz12_0 := blk_frozen BK194.out 0; have hfz12_1 := blk_frozen BK194.out 1))
 go_ret
 exact ⟨by first | rfl | (simp [errW_none, errW_some] <;> rfl) | (simp [*, errW_none, errW_some] <;> rfl), bl3 HB.out GE192.out GE193.out GE194.out⟩

/-! ### plane_Cross: function 13 -/
def plane_Cross.f (k : Nat) (a0_0 : Int) (a0_1 : Int) (a1_0 : Int) (a1_1 : Int) (a2_0 : Int) (a2_1 : Int) : Option (Int × Int) := (plane_asked.f k (([(⟨a0_0, a0_1⟩ : S26), (⟨a1_0, a1_1⟩ : S26), (⟨a2_0, a2_1⟩ : S26)] : List (S26)))).bind fun t201 => (if t201 = 0 then ((plane_cross.f a0_0 a0_1 a1_0 a1_1 a2_0 a2_1).bind fun t202 => (some (t202, 0))) else (some (0, t201)))
theorem plane_Cross.mono : ∀ a0 a1 a2 a3 a4 a5 k, LeO (plane_Cross.f k a0 a1 a2 a3 a4 a5) (plane_Cross.f (k + 1) a0 a1 a2 a3 a4 a5) := by
 intro a0 a1 a2 a3 a4 a5 k
 unfold plane_Cross.f
 repeat' first
   | (with_reducible exact plane_asked.mono _ _)
   | (with_reducible exact LeO.refl _)
   | (with_reducible exact LeO.none _)
   | (with_reducible refine LeO.ite ?_ ?_)
   | (with_reducible refine LeO.bind ?_ (fun _ => ?_))
   | exact plane_asked.mono _ _
   | exact LeO.none _
   | refine LeO.ite ?_ ?_
   | refine LeO.bind ?_ (fun _ => ?_)
set_option maxHeartbeats 8000000 in
set_option maxRecDepth 100000 in
theorem plane_Cross.calls (k : Nat) (a0_0 : Int) (a0_1 : Int) (a1_0 : Int) (a1_1 : Int) (a2_0 : Int) (a2_1 : Int) (r1 : Int) (r2 : Int) (w : World) (h : plane_Cross.f k a0_0 a0_1 a1_0 a1_1 a2_0 a2_1 = some (r1, r2)) :
  Calls Try.prog 13 #[.agg #[.int .i64 a0_0, .int .i64 a0_1], .agg #[.int .i64 a1_0, .int .i64 a1_1], .agg #[.int .i64 a2_0, .int .i64 a2_1]] w fun e w' => e = .returned (.tuple #[.int .i64 r1, .int .i64 r2]) ∧ Below w.heap.size w w' := by
 have hu26 := Try.underlying26
 have HB := Aside0.mk (Below.refl w.heap.size w)
 have H : ((plane_asked.f k (([(⟨a0_0, a0_1⟩ : S26), (⟨a1_0, a1_1⟩ : S26), (⟨a2_0, a2_1⟩ : S26)] : List (S26)))).bind fun t201 => (if t201 = 0 then ((plane_cross.f a0_0 a0_1 a1_0 a1_1 a2_0 a2_1).bind fun t202 => (some (t202, 0))) else (some (0, t201)))) = some (r1, r2) := h
 clear h
 obtain ⟨y198, hy198⟩ : ∃ y_ : List (S26), y_ = (([(⟨a0_0, a0_1⟩ : S26), (⟨a1_0, a1_1⟩ : S26), (⟨a2_0, a2_1⟩ : S26)] : List (S26))) := ⟨_, rfl⟩
 replace H : ((plane_asked.f k y198).bind fun t201 => (if t201 = 0 then ((plane_cross.f a0_0 a0_1 a1_0 a1_1 a2_0 a2_1).bind fun t202 => (some (t202, 0))) else (some (0, t201)))) = some (r1, r2) := by first | (rw [hy198]; with_reducible exact H) | (have H2_ := (Option.bind_some _ _).symm.trans H; rw [hy198]; with_reducible exact H2_) | (have H2_ := (Option.bind_some _ _).symm.trans H; with_reducible exact H2_) | with_reducible exact H | (rw [hy198]; exact H) | exact H
 have Ny198 := Aside0.mk hy198
 clear hy198
 replace H := Option.bind_eq_some_iff.mp H
 obtain ⟨t201, A40, H⟩ := H
 replace H : (if t201 = 0 then ((plane_cross.f a0_0 a0_1 a1_0 a1_1 a2_0 a2_1).bind fun t202 => (some (t202, 0))) else (some (0, t201))) = some (r1, r2) := H
 have A4 := Aside0.mk A40
 clear A40
 by_cases c5 : t201 = 0
 ·rw [if_pos c5] at H
  have c5b0 : (t201 == 0) = true := beq_iff_eq.mpr c5
  have c5b1 : (t201 != 0) = false := bne_eq_false_iff_eq.mpr c5
  clear c5
  replace H := Option.bind_eq_some_iff.mp H
  obtain ⟨t202, A60, H⟩ := H
  replace H : (some (t202, 0)) = some (r1, r2) := H
  have A6 := Aside0.mk A60
  clear A60
  simp only [Option.some.injEq, Prod.mk.injEq] at H
  obtain ⟨rfl, rfl⟩ := H
  go_enter Try.func13, Try.ntmps13
  go_wp2_with (first | ((with_reducible refine gate_dst (N := 3) rfl ?_); refine be 3 (#[.int .i64 a0_0, .int .i64 a0_1]) 26 ?_; intro gb195 hg w7 hbox hb; have BK195 := Aside0.mk (hbox); have GW195 := Aside0.mk ((by rw [hg]; exact (below_size (bl0 HB.out)) : w.heap.size ≤ gb195)); have GE195 := GW195; replace HB := Aside0.mk (below_step (bl0 HB.out) hb); clear hb hbox hg) | ((with_reducible refine gate_dst (N := 4) rfl ?_); refine be 4 (#[.int .i64 a1_0, .int .i64 a1_1]) 26 ?_; intro gb196 hg w8 hbox hb; have BK196 := Aside0.mk (hbox); have GW196 := Aside0.mk ((by rw [hg]; exact (below_size (bl1 HB.out GE195.out)) : w.heap.size ≤ gb196)); have GE196 := GW196; have NB195_196 := Aside0.mk ((by rw [hg]; exact Nat.ne_of_lt (lt_ BK195.out) : gb195 ≠ gb196)); have NB196_195 := Aside0.mk ((by rw [hg]; exact Nat.ne_of_gt (lt_ BK195.out) : gb196 ≠ gb195)); replace BK195 := Aside0.mk (bb BK195.out hb); replace HB := Aside0.mk (below_step (bl1 HB.out GE195.out) hb); clear hb hbox hg) | ((with_reducible refine gate_dst (N := 5) rfl ?_); refine be 5 (#[.int .i64 a2_0, .int .i64 a2_1]) 26 ?_; intro gb197 hg w9 hbox hb; have BK197 := Aside0.mk (hbox); have GW197 := Aside0.mk ((by rw [hg]; exact (below_size (bl2 HB.out GE195.out GE196.out)) : w.heap.size ≤ gb197)); have GE197 := GW197; have NB195_197 := Aside0.mk ((by rw [hg]; exact Nat.ne_of_lt (lt_ BK195.out) : gb195 ≠ gb197)); have NB197_195 := Aside0.mk ((by rw [hg]; exact Nat.ne_of_gt (lt_ BK195.out) : gb197 ≠ gb195)); have NB196_197 := Aside0.mk ((by rw [hg]; exact Nat.ne_of_lt (lt_ BK196.out) : gb196 ≠ gb197)); have NB197_196 := Aside0.mk ((by rw [hg]; exact Nat.ne_of_gt (lt_ BK196.out) : gb197 ≠ gb196)); replace BK195 := Aside0.mk (bb BK195.out hb); replace BK196 := Aside0.mk (bb BK196.out hb); replace HB := Aside0.mk (below_step (bl2 HB.out GE195.out GE196.out) hb); clear hb hbox hg; have hnb10 := NB195_196.out; have hnc10 := NB196_195.out; have hnb11 := NB195_197.out; have hnc11 := NB197_195.out; have hcz12_0 : w9.cell? ⟨gb195, 0, none⟩ = some (.int .i64 a0_0) := (blk_cell BK195.out 0).trans rfl; have hcz12_1 : w9.cell? ⟨gb195, 1, none⟩ = some (.int .i64 a0_1) := (blk_cell BK195.out 1).trans rfl; have hfz12_0 := blk_frozen BK195.out 0; have hfz12_1 := blk_frozen BK195.out 1; have hnb13 := NB196_197.out; have hnc13 := NB197_196.out; have hcz14_0 : w9.cell? ⟨gb196, 0, none⟩ = some (.int .i64 a1_0) := (blk_cell BK196.out 0).trans rfl; have hcz14_1 : w9.cell? ⟨gb196, 1, none⟩ = some (.int .i64 a1_1) := (blk_cell BK196.out 1).trans rfl; have hfz14_0 := blk_frozen BK196.out 0; have hfz14_1 := blk_frozen BK196.out 1; have hcz15_0 : w9.cell? ⟨gb197, 0, none⟩ = some (.int .i64 a2_0) := (blk_cell BK197.out 0).trans rfl; have hcz15_1 : w9.cell? ⟨gb197, 1, none⟩ = some (.int .i64 a2_1) := (blk_cell BK197.out 1).trans rfl; have hfz15_0 := blk_frozen BK197.out 0; have hfz15_1 := blk_frozen BK197.out 1) | ((with_reducible refine gate_dst (N := 12) rfl ?_); refine Kd.R_lit k26 _ 26 ?hg (N := 12) ?hd (xs := ([(⟨a0_0, a0_1⟩ : S26), (⟨a1_0, a1_1⟩ : S26), (⟨a2_0, a2_1⟩ : S26)] : List (S26))) (inner := [.int .i64 a0_0, .int .i64 a0_1, .int .i64 a1_0, .int .i64 a1_1, .int .i64 a2_0, .int .i64 a2_1]) (ok := fun _ => True) (okp := fun _ => True) ?hr ?hp (fun _ hk => hk) trivial (Below.refl _ _) (Nat.le_refl _) (by simp) ?_; (case hd => rfl); (case hg => rfl); (case hr => first | (go_simp; done) | (go_simp; rfl)); (case hp => exact (Reps.c2 (show Kd.M k26 _ _ _ (⟨a0_0, a0_1⟩ : S26) [.int .i64 a0_0, .int .i64 a0_1] from (k26_mkM _ _ _ (⟨a0_0, a0_1⟩ : S26) )) (Reps.c2 (show Kd.M k26 _ _ _ (⟨a1_0, a1_1⟩ : S26) [.int .i64 a1_0, .int .i64 a1_1] from (k26_mkM _ _ _ (⟨a1_0, a1_1⟩ : S26) )) (Reps.c2 (show Kd.M k26 _ _ _ (⟨a2_0, a2_1⟩ : S26) [.int .i64 a2_0, .int .i64 a2_1] from (k26_mkM _ _ _ (⟨a2_0, a2_1⟩ : S26) )) (Reps.none _ _))))); intro v199 w16 ho17 hb hg_ hnew_; clear hg_ hnew_; (first | rw [← Ny198.out] at ho17 | (simp only [Int.reduceToNat] at ho17; rw [← Ny198.out] at ho17)); have HO200 := Aside0.mk (Kd.R_lower (Kd.R_newB (Kd.R_newB (Kd.R_newB ho17 (g := gb195) (o := .cells #[.int .i64 a0_0, .int .i64 a0_1] 26 (0, 0)) (bk BK195.out)) (g := gb196) (o := .cells #[.int .i64 a1_0, .int .i64 a1_1] 26 (0, 0)) (bk BK196.out)) (g := gb197) (o := .cells #[.int .i64 a2_0, .int .i64 a2_1] 26 (0, 0)) (bk BK197.out)) (below_size (bl3 HB.out GE195.out GE196.out GE197.out))); replace BK195 := Aside0.mk (bb BK195.out hb); replace BK196 := Aside0.mk (bb BK196.out hb); replace BK197 := Aside0.mk (bb BK197.out hb); replace HB := Aside0.mk (below_step (bl3 HB.out GE195.out GE196.out GE197.out) hb); clear hb ho17; obtain ⟨Ao18, co18, eo18⟩ := Kd.R_slice HO200.out; subst eo18) | ((with_reducible refine gate_callee (f := 47) rfl ?_); refine goesL_ (some 13) rfl rfl Try.func47 (by kernel_rfl) rfl #[.slice Ao18 y198.length co18] rfl am ?_; (with_reducible refine (plane_asked.calls k _ _ y198 t201 _ ?side1 ?side2 A4.out).mono ?_); (case side1 => repeat (first | exact (Kd.R_reads' HO200.out).2.2 | (with_reducible refine Kd.C_alloc ?_ _) | (with_reducible refine Kd.C_drewN ?_ _) | (with_reducible refine Kd.C_drew ?_))); (case side2 => exact (Kd.R_reads' HO200.out).2.1); rintro e w19 ⟨rfl, hb⟩; refine ⟨_, rfl, ?_⟩; replace HO200 := Aside0.mk (Kd.R_below (by (with_reducible repeat (first | apply Kd.R_alloc | apply Kd.R_drewN | apply Kd.R_drew)); exact HO200.out) hb); replace BK195 := Aside0.mk (bb BK195.out hb); replace BK196 := Aside0.mk (bb BK196.out hb); replace BK197 := Aside0.mk (bb BK197.out hb); replace HB := Aside0.mk (below_step (bl3 HB.out GE195.out GE196.out GE197.out) hb); (try clear hb); (try clear hb2); (try clear hk); (try clear hi); have hcz20_0 : w19.cell? ⟨gb195, 0, none⟩ = some (.int .i64 a0_0) := (blk_cell BK195.out 0).trans rfl; have hcz20_1 : w19.cell? ⟨gb195, 1, none⟩ = some (.int .i64 a0_1) := (blk_cell BK195.out 1).trans rfl; have hfz20_0 := blk_frozen BK195.out 0; have hfz20_1 := blk_frozen BK195.out 1; have hcz21_0 : w19.cell? ⟨gb196, 0, none⟩ = some (.int .i64 a1_0) := (blk_cell BK196.out 0).trans rfl; have hcz21_1 : w19.cell? ⟨gb196, 1, none⟩ = some (.int .i64 a1_1) := (blk_cell BK196.out 1).trans rfl; have hfz21_0 := blk_frozen BK196.out 0; have hfz21_1 := blk_frozen BK196.out 1; have hcz22_0 : w19.cell? ⟨gb197, 0, none⟩ = some (.int .i64 a2_0) := (blk_cell BK197.out 0).trans rfl; have hcz22_1 : w19.cell? ⟨gb197, 1, none⟩ = some (.int .i64 a2_1) := (blk_cell BK197.out 1).trans rfl; have hfz22_0 := blk_frozen BK197.out 0; have hfz22_1 := blk_frozen BK197.out 1) | ((with_reducible refine gate_callee (f := 48) rfl ?_); refine goesL_ (some 20) rfl rfl Try.func48 (by kernel_rfl) rfl #[.agg #[.int .i64 a0_0, .int .i64 a0_1], .agg #[.int .i64 a1_0, .int .i64 a1_1], .agg #[.int .i64 a2_0, .int .i64 a2_1]] rfl am ?_; (with_reducible refine (plane_cross.calls a0_0 a0_1 a1_0 a1_1 a2_0 a2_1 t202 _ A6.out).mono ?_); rintro e w23 ⟨rfl, hb⟩; refine ⟨_, rfl, ?_⟩; replace HO200 := Aside0.mk (Kd.R_below (by (with_reducible repeat (first | apply Kd.R_alloc | apply Kd.R_drewN | apply Kd.R_drew)); exact HO200.out) hb); replace BK195 := Aside0.mk (bb BK195.out hb); replace BK196 := Aside0.mk (bb BK196.out hb); replace BK197 := Aside0.mk (bb BK197.out hb); replace HB := Aside0.mk (below_step (bl3 HB.out GE195.out GE196.out GE197.out) hb); (try clear hb); (try clear hb2); (try clear hk); (try clear hi)))
  go_ret2
  exact ⟨by first | rfl | (simp [errW_none, errW_some] <;> rfl) | (simp [*, errW_none, errW_some] <;> rfl), bl3 HB.out GE195.out GE196.out GE197.out⟩
 ·rw [if_neg c5] at H
  have c5b0 : (t201 == 0) = false := beq_eq_false_iff_ne.mpr c5
  have c5b1 : (t201 != 0) = true := bne_iff_ne.mpr c5
  simp only [Option.some.injEq, Prod.mk.injEq] at H
  obtain ⟨rfl, rfl⟩ := H
  go_enter Try.func13, Try.ntmps13
  go_wp2_with (first | ((with_reducible refine gate_dst (N := 3) rfl ?_); refine be 3 (#[.int .i64 a0_0, .int .i64 a0_1]) 26 ?_; intro gb195 hg w24 hbox hb; have BK195 := Aside0.mk (hbox); have GW195 := Aside0.mk ((by rw [hg]; exact (below_size (bl0 HB.out)) : w.heap.size ≤ gb195)); have GE195 := GW195; replace HB := Aside0.mk (below_step (bl0 HB.out) hb); clear hb hbox hg) | ((with_reducible refine gate_dst (N := 4) rfl ?_); refine be 4 (#[.int .i64 a1_0, .int .i64 a1_1]) 26 ?_; intro gb196 hg w25 hbox hb; have BK196 := Aside0.mk (hbox); have GW196 := Aside0.mk ((by rw [hg]; exact (below_size (bl1 HB.out GE195.out)) : w.heap.size ≤ gb196)); have GE196 := GW196; have NB195_196 := Aside0.mk ((by rw [hg]; exact Nat.ne_of_lt (lt_ BK195.out) : gb195 ≠ gb196)); have NB196_195 := Aside0.mk ((by rw [hg]; exact Nat.ne_of_gt (lt_ BK195.out) : gb196 ≠ gb195)); replace BK195 := Aside0.mk (bb BK195.out hb); replace HB := Aside0.mk (below_step (bl1 HB.out GE195.out) hb); clear hb hbox hg) | ((with_reducible refine gate_dst (N := 5) rfl ?_); refine be 5 (#[.int .i64 a2_0, .int .i64 a2_1]) 26 ?_; intro gb197 hg w26 hbox hb; have BK197 := Aside0.mk (hbox); have GW197 := Aside0.mk ((by rw [hg]; exact (below_size (bl2 HB.out GE195.out GE196.out)) : w.heap.size ≤ gb197)); have GE197 := GW197; have NB195_197 := Aside0.mk ((by rw [hg]; exact Nat.ne_of_lt (lt_ BK195.out) : gb195 ≠ gb197)); have NB197_195 := Aside0.mk ((by rw [hg]; exact Nat.ne_of_gt (lt_ BK195.out) : gb197 ≠ gb195)); have NB196_197 := Aside0.mk ((by rw [hg]; exact Nat.ne_of_lt (lt_ BK196.out) : gb196 ≠ gb197)); have NB197_196 := Aside0.mk ((by rw [hg]; exact Nat.ne_of_gt (lt_ BK196.out) : gb197 ≠ gb196)); replace BK195 := Aside0.mk (bb BK195.out hb); replace BK196 := Aside0.mk (bb BK196.out hb); replace HB := Aside0.mk (below_step (bl2 HB.out GE195.out GE196.out) hb); clear hb hbox hg; have hnb27 := NB195_196.out; have hnc27 := NB196_195.out; have hnb28 := NB195_197.out; have hnc28 := NB197_195.out; have hcz29_0 : w26.cell? ⟨gb195, 0, none⟩ = some (.int .i64 a0_0) := (blk_cell BK195.out 0).trans rfl; have hcz29_1 : w26.cell? ⟨gb195, 1, none⟩ = some (.int .i64 a0_1) := (blk_cell BK195.out 1).trans rfl; have hfz29_0 := blk_frozen BK195.out 0; have hfz29_1 := blk_frozen BK195.out 1; have hnb30 := NB196_197.out; have hnc30 := NB197_196.out; have hcz31_0 : w26.cell? ⟨gb196, 0, none⟩ = some (.int .i64 a1_0) := (blk_cell BK196.out 0).trans rfl; have hcz31_1 : w26.cell? ⟨gb196, 1, none⟩ = some (.int .i64 a1_1) := (blk_cell BK196.out 1).trans rfl; have hfz31_0 := blk_frozen BK196.out 0; have hfz31_1 := blk_frozen BK196.out 1; have hcz32_0 : w26.cell? ⟨gb197, 0, none⟩ = some (.int .i64 a2_0) := (blk_cell BK197.out 0).trans rfl; have hcz32_1 : w26.cell? ⟨gb197, 1, none⟩ = some (.int .i64 a2_1) := (blk_cell BK197.out 1).trans rfl; have hfz32_0 := blk_frozen BK197.out 0; have hfz32_1 := blk_frozen BK197.out 1) | ((with_reducible refine gate_dst (N := 12) rfl ?_); refine Kd.R_lit k26 _ 26 ?hg (N := 12) ?hd (xs := ([(⟨a0_0, a0_1⟩ : S26), (⟨a1_0, a1_1⟩ : S26), (⟨a2_0, a2_1⟩ : S26)] : List (S26))) (inner := [.int .i64 a0_0, .int .i64 a0_1, .int .i64 a1_0, .int .i64 a1_1, .int .i64 a2_0, .int .i64 a2_1]) (ok := fun _ => True) (okp := fun _ => True) ?hr ?hp (fun _ hk => hk) trivial (Below.refl _ _) (Nat.le_refl _) (by simp) ?_; (case hd => rfl); (case hg => rfl); (case hr => first | (go_simp; done) | (go_simp; rfl)); (case hp => exact (Reps.c2 (show Kd.M k26 _ _ _ (⟨a0_0, a0_1⟩ : S26) [.int .i64 a0_0, .int .i64 a0_1] from (k26_mkM _ _ _ (⟨a0_0, a0_1⟩ : S26) )) (Reps.c2 (show Kd.M k26 _ _ _ (⟨a1_0, a1_1⟩ : S26) [.int .i64 a1_0, .int .i64 a1_1] from (k26_mkM _ _ _ (⟨a1_0, a1_1⟩ : S26) )) (Reps.c2 (show Kd.M k26 _ _ _ (⟨a2_0, a2_1⟩ : S26) [.int .i64 a2_0, .int .i64 a2_1] from (k26_mkM _ _ _ (⟨a2_0, a2_1⟩ : S26) )) (Reps.none _ _))))); intro v199 w33 ho34 hb hg_ hnew_; clear hg_ hnew_; (first | rw [← Ny198.out] at ho34 | (simp only [Int.reduceToNat] at ho34; rw [← Ny198.out] at ho34)); have HO200 := Aside0.mk (Kd.R_lower (Kd.R_newB (Kd.R_newB (Kd.R_newB ho34 (g := gb195) (o := .cells #[.int .i64 a0_0, .int .i64 a0_1] 26 (0, 0)) (bk BK195.out)) (g := gb196) (o := .cells #[.int .i64 a1_0, .int .i64 a1_1] 26 (0, 0)) (bk BK196.out)) (g := gb197) (o := .cells #[.int .i64 a2_0, .int .i64 a2_1] 26 (0, 0)) (bk BK197.out)) (below_size (bl3 HB.out GE195.out GE196.out GE197.out))); replace BK195 := Aside0.mk (bb BK195.out hb); replace BK196 := Aside0.mk (bb BK196.out hb); replace BK197 := Aside0.mk (bb BK197.out hb); replace HB := Aside0.mk (below_step (bl3 HB.out GE195.out GE196.out GE197.out) hb); clear hb ho34; obtain ⟨Ao35, co35, eo35⟩ := Kd.R_slice HO200.out; subst eo35) | ((with_reducible refine gate_callee (f := 47) rfl ?_); refine goesL_ (some 13) rfl rfl Try.func47 (by kernel_rfl) rfl #[.slice Ao35 y198.length co35] rfl am ?_; (with_reducible refine (plane_asked.calls k _ _ y198 t201 _ ?side1 ?side2 A4.out).mono ?_); (case side1 => repeat (first | exact (Kd.R_reads' HO200.out).2.2 | (with_reducible refine Kd.C_alloc ?_ _) | (with_reducible refine Kd.C_drewN ?_ _) | (with_reducible refine Kd.C_drew ?_))); (case side2 => exact (Kd.R_reads' HO200.out).2.1); rintro e w36 ⟨rfl, hb⟩; refine ⟨_, rfl, ?_⟩; replace HO200 := Aside0.mk (Kd.R_below (by (with_reducible repeat (first | apply Kd.R_alloc | apply Kd.R_drewN | apply Kd.R_drew)); exact HO200.out) hb); replace BK195 := Aside0.mk (bb BK195.out hb); replace BK196 := Aside0.mk (bb BK196.out hb); replace BK197 := Aside0.mk (bb BK197.out hb); replace HB := Aside0.mk (below_step (bl3 HB.out GE195.out GE196.out GE197.out) hb); (try clear hb); (try clear hb2); (try clear hk); (try clear hi)))
  go_ret2
  exact ⟨by first | rfl | (simp [errW_none, errW_some] <;> rfl) | (simp [*, errW_none, errW_some] <;> rfl), bl3 HB.out GE195.out GE196.out GE197.out⟩

/-! ### line_size: function 83 -/
def line_size.f (a0 : Int) : Option (Int) := some (IntKind.u64.wrap (mx a0 (wrap64 (-a0))))
set_option maxHeartbeats 8000000 in
set_option maxRecDepth 100000 in
theorem line_size.calls (a0 : Int) (r : Int) (w : World) (h : line_size.f a0 = some r) :
  Calls Try.prog 83 #[.int .i64 a0] w fun e w' => e = .returned (.int .u64 r) ∧ Below w.heap.size w w' := by
 have HB := Aside0.mk (Below.refl w.heap.size w)
 have H : (some (IntKind.u64.wrap (mx a0 (wrap64 (-a0))))) = some r := h
 clear h
 obtain ⟨ji2, hji2⟩ : ∃ j_ : Int, (mx a0 (wrap64 (-a0))) = j_ := ⟨_, rfl⟩
 replace H : (some (IntKind.u64.wrap (ji2))) = some r := by first | (rw [hji2] at H; exact H) | (simp only [hji2] at H ⊢; exact H)
 have hji2_ : (if a0 < (wrap64 (-a0)) then (wrap64 (-a0)) else a0) = ji2 := hji2
 obtain rfl := Option.some.inj H
 go_enter Try.func83, Try.ntmps83
 go_wp2
 go_ret
 exact ⟨by first | rfl | (simp [errW_none, errW_some] <;> rfl) | (simp only [← hji2]; first | rfl | (simp [errW_none, errW_some] <;> rfl)) | (simp [*, errW_none, errW_some] <;> rfl), bl0 HB.out⟩

end Go.Proofs.Ytemhnlameekmkaa.XLine
