-- Printed by a program of this claim. Not trusted: Lean checks it.
import Derived.Test.YtemhnlameekmkaaXPlanx0
import Derived.Test.YtemhnlameekmkaaXPlanx1
namespace Go.Proofs.Ytemhnlameekmkaa.XPlan
open Go.RowKit Go.Proofs.YtemhnlameekmkaaW.PrintWords Go.Proofs.YtemhnlameekmkaaW.PrintLast Go.Proofs.YtemhnlameekmkaaW.PrintMore
attribute [local go_sem] max2_int min2_int max_two min_two max_three min_three max_four min_four   -- for this text's walks alone
set_option linter.unusedVariables false
set_option linter.unusedSimpArgs false
open XOpen

/-! ### pochoirref18_May: function 21 -/
def pochoirref18_May.f (a0_0 : Int) (a0_1 : Int) : Option (Bool) := if a0_0 ≥ (-33554432) then (if a0_0 ≤ 33554432 then (if a0_1 ≥ (-33554432) then (some (decide (a0_1 ≤ 33554432))) else (some false)) else (some false)) else (some false)
set_option maxHeartbeats 8000000 in
set_option maxRecDepth 100000 in
theorem pochoirref18_May.calls (a0_0 : Int) (a0_1 : Int) (r : Bool) (w : World) (h : pochoirref18_May.f a0_0 a0_1 = some r) :
  Calls Try.prog 21 #[.agg #[.int .i64 a0_0, .int .i64 a0_1]] w fun e w' => e = .returned (.bool r) ∧ Below w.heap.size w w' := by
 have hu26 := Try.underlying26
 have HB := Aside0.mk (Below.refl w.heap.size w)
 have H : (if a0_0 ≥ (-33554432) then (if a0_0 ≤ 33554432 then (if a0_1 ≥ (-33554432) then (some (decide (a0_1 ≤ 33554432))) else (some false)) else (some false)) else (some false)) = some r := h
 clear h
 by_cases c2 : a0_0 ≥ (-33554432)
 ·rw [if_pos c2] at H
  have c2b0 : decide ((-33554432) ≤ a0_0) = true := decide_eq_true c2
  clear c2
  by_cases c3 : a0_0 ≤ 33554432
  ·rw [if_pos c3] at H
   have c3b0 : decide (a0_0 ≤ 33554432) = true := decide_eq_true c3
   clear c3
   by_cases c4 : a0_1 ≥ (-33554432)
   ·rw [if_pos c4] at H
    have c4b0 : decide ((-33554432) ≤ a0_1) = true := decide_eq_true c4
    clear c4
    obtain rfl := Option.some.inj H
    go_enter Try.func21, Try.ntmps21
    go_wp2_with (first | ((with_reducible refine gate_dst (N := 1) rfl ?_); refine be 1 (#[.int .i64 a0_0, .int .i64 a0_1]) 26 ?_; intro gb174 hg w5 hbox hb; have BK174 := Aside0.mk (hbox); have GW174 := Aside0.mk ((by rw [hg]; exact (below_size (bl0 HB.out)) : w.heap.size ≤ gb174)); have GE174 := GW174; replace HB := Aside0.mk (below_step (bl0 HB.out) hb); clear hb hbox hg; have hcz6_0 : w5.cell? ⟨gb174, 0, none⟩ = some (.int .i64 a0_0) := (blk_cell BK174.out 0).trans rfl; have hcz6_1 : w5.cell? ⟨gb174, 1, none⟩ = some (.int .i64 a0_1) := (blk_cell BK174.out 1).trans rfl; have hfz6_0 := blk_frozen BK174.out 0; have hfz6_1 := blk_frozen BK174.out 1))
    go_ret
    exact ⟨by first | rfl | (simp [errW_none, errW_some] <;> rfl) | (simp [*, errW_none, errW_some] <;> rfl), bl1 HB.out GE174.out⟩
   ·rw [if_neg c4] at H
    have c4b0 : decide ((-33554432) ≤ a0_1) = false := decide_eq_false c4
    clear c4
    obtain rfl := Option.some.inj H
    go_enter Try.func21, Try.ntmps21
    go_wp2_with (first | ((with_reducible refine gate_dst (N := 1) rfl ?_); refine be 1 (#[.int .i64 a0_0, .int .i64 a0_1]) 26 ?_; intro gb174 hg w7 hbox hb; have BK174 := Aside0.mk (hbox); have GW174 := Aside0.mk ((by rw [hg]; exact (below_size (bl0 HB.out)) : w.heap.size ≤ gb174)); have GE174 := GW174; replace HB := Aside0.mk (below_step (bl0 HB.out) hb); clear hb hbox hg; have hcz8_0 : w7.cell? ⟨gb174, 0, none⟩ = some (.int .i64 a0_0) := (blk_cell BK174.out 0).trans rfl; have hcz8_1 : w7.cell? ⟨gb174, 1, none⟩ = some (.int .i64 a0_1) := (blk_cell BK174.out 1).trans rfl; have hfz8_0 := blk_frozen BK174.out 0; have hfz8_1 := blk_frozen BK174.out 1))
    go_ret
    exact ⟨by first | rfl | (simp [errW_none, errW_some] <;> rfl) | (simp [*, errW_none, errW_some] <;> rfl), bl1 HB.out GE174.out⟩
  ·rw [if_neg c3] at H
   have c3b0 : decide (a0_0 ≤ 33554432) = false := decide_eq_false c3
   clear c3
   obtain rfl := Option.some.inj H
   go_enter Try.func21, Try.ntmps21
   go_wp2_with (first | ((with_reducible refine gate_dst (N := 1) rfl ?_); refine be 1 (#[.int .i64 a0_0, .int .i64 a0_1]) 26 ?_; intro gb174 hg w9 hbox hb; have BK174 := Aside0.mk (hbox); have GW174 := Aside0.mk ((by rw [hg]; exact (below_size (bl0 HB.out)) : w.heap.size ≤ gb174)); have GE174 := GW174; replace HB := Aside0.mk (below_step (bl0 HB.out) hb); clear hb hbox hg; have hcz10_0 : w9.cell? ⟨gb174, 0, none⟩ = some (.int .i64 a0_0) := (blk_cell BK174.out 0).trans rfl; have hcz10_1 : w9.cell? ⟨gb174, 1, none⟩ = some (.int .i64 a0_1) := (blk_cell BK174.out 1).trans rfl; have hfz10_0 := blk_frozen BK174.out 0; have hfz10_1 := blk_frozen BK174.out 1))
   go_ret
   exact ⟨by first | rfl | (simp [errW_none, errW_some] <;> rfl) | (simp [*, errW_none, errW_some] <;> rfl), bl1 HB.out GE174.out⟩
 ·rw [if_neg c2] at H
  have c2b0 : decide ((-33554432) ≤ a0_0) = false := decide_eq_false c2
  clear c2
  obtain rfl := Option.some.inj H
  go_enter Try.func21, Try.ntmps21
  go_wp2_with (first | ((with_reducible refine gate_dst (N := 1) rfl ?_); refine be 1 (#[.int .i64 a0_0, .int .i64 a0_1]) 26 ?_; intro gb174 hg w11 hbox hb; have BK174 := Aside0.mk (hbox); have GW174 := Aside0.mk ((by rw [hg]; exact (below_size (bl0 HB.out)) : w.heap.size ≤ gb174)); have GE174 := GW174; replace HB := Aside0.mk (below_step (bl0 HB.out) hb); clear hb hbox hg; have hcz12_0 : w11.cell? ⟨gb174, 0, none⟩ = some (.int .i64 a0_0) := (blk_cell BK174.out 0).trans rfl; have hcz12_1 : w11.cell? ⟨gb174, 1, none⟩ = some (.int .i64 a0_1) := (blk_cell BK174.out 1).trans rfl; have hfz12_0 := blk_frozen BK174.out 0; have hfz12_1 := blk_frozen BK174.out 1))
  go_ret
  exact ⟨by first | rfl | (simp [errW_none, errW_some] <;> rfl) | (simp [*, errW_none, errW_some] <;> rfl), bl1 HB.out GE174.out⟩

/-! ### pochoirref18_all: function 49 -/
def pochoirref18_all.l0 : Nat → List (S26) → Int → Option (Bool)
 | 0, _, _ => none
 | k + 1, x0, x3 => if x3 < (x0.length : Int) then (if 0 ≤ x3 then ((pochoirref18_May.f ((rd_T26 x0 x3).f0) ((rd_T26 x0 x3).f1)).bind fun t176 => (if t176 = true then (pochoirref18_all.l0 k x0 (wrap64 (x3 + 1))) else (some false))) else (none)) else (some true)
def pochoirref18_all.f (k : Nat) (l0 : List (S26)) : Option (Bool) := pochoirref18_all.l0 k l0 0
theorem pochoirref18_all.mono_l : ∀ k, (∀ y0 y1, LeO (pochoirref18_all.l0 k y0 y1) (pochoirref18_all.l0 (k + 1) y0 y1))
 | 0 => fun _ _ r h => by simp [pochoirref18_all.l0] at h
 | k + 1 => by
  have ih0 := pochoirref18_all.mono_l k
  ·intro y0 y1
   unfold pochoirref18_all.l0
   repeat' first
   | (with_reducible exact ih0 _ _)
   | (with_reducible exact LeO.refl _)
   | (with_reducible exact LeO.none _)
   | (with_reducible refine LeO.ite ?_ ?_)
   | (with_reducible refine LeO.bind ?_ (fun _ => ?_))
   | exact ih0 _ _
   | exact LeO.none _
   | refine LeO.ite ?_ ?_
   | refine LeO.bind ?_ (fun _ => ?_)
theorem pochoirref18_all.mono : ∀ a0 k, LeO (pochoirref18_all.f k a0) (pochoirref18_all.f (k + 1) a0) := by
 intro a0 k
 have ih0 := pochoirref18_all.mono_l k
 unfold pochoirref18_all.f
 repeat' first
   | (with_reducible exact ih0 _ _)
   | (with_reducible exact LeO.refl _)
   | (with_reducible exact LeO.none _)
   | (with_reducible refine LeO.ite ?_ ?_)
   | (with_reducible refine LeO.bind ?_ (fun _ => ?_))
   | exact ih0 _ _
   | exact LeO.none _
   | refine LeO.ite ?_ ?_
   | refine LeO.bind ?_ (fun _ => ?_)
set_option maxHeartbeats 8000000 in
set_option maxRecDepth 100000 in
theorem pochoirref18_all.calls (k : Nat) (A0 : Option Addr) (c0 : Nat) (l0 : List (S26)) (r : Bool) (w : World) (hr0 : Kd.C k26 w A0 l0.length l0) (hc0 : l0.length ≤ c0) (h : pochoirref18_all.f k l0 = some r) :
  Calls Try.prog 49 #[.slice A0 l0.length c0] w fun e w' => e = .returned (.bool r) ∧ Below w.heap.size w w' := by
 have hu26 := Try.underlying26
 have HR0 := Aside0.mk hr0
 have HC0 := Aside0.mk hc0
 clear hr0 hc0
 have HB := Aside0.mk (Below.refl w.heap.size w)
 have H : (pochoirref18_all.l0 k l0 0) = some r := h
 clear h
 have H' := Aside0.mk H
 clear H
 go_enter Try.func49, Try.ntmps49
 go_wp2
 go_loopg [3] k (fun kq v3 w' => ∃ (x3_1 : Int), v3 = .int .i64 x3_1 ∧ Aside0 (pochoirref18_all.l0 kq l0 x3_1 = some r) ∧ Aside0 (kq ≤ k) ∧ Aside0 (Below w.heap.size w w'))
 case atStart => exact ⟨(0), fr, H', ⟨Nat.le_refl _⟩, ⟨bl0 HB.out⟩⟩
 case round =>
  clear H'
  obtain ⟨x3_1, rfl, HA, HK1, HB⟩ := hrel
  cases gk with
  | zero => exact absurd HA.out (by simp [pochoirref18_all.l0])
  | succ k1 =>
   have H := HA.out
   clear HA
   simp only [pochoirref18_all.l0] at H
   by_cases c2 : x3_1 < (l0.length : Int)
   ·rw [if_pos c2] at H
    have c2b0 : decide (x3_1 < (l0.length : Int)) = true := decide_eq_true c2
    clear c2
    by_cases c3 : 0 ≤ x3_1
    ·rw [if_pos c3] at H
     have c3b0 : decide (0 ≤ x3_1) = true := decide_eq_true c3
     clear c3
     replace H := Option.bind_eq_some_iff.mp H
     obtain ⟨t176, A40, H⟩ := H
     replace H : (if t176 = true then (pochoirref18_all.l0 k1 l0 (wrap64 (x3_1 + 1))) else (some false)) = some r := H
     have A4 := Aside0.mk A40
     clear A40
     by_cases c5 : t176 = true
     ·subst c5
      have H1 : (pochoirref18_all.l0 k1 l0 (wrap64 (x3_1 + 1))) = some r := by rw [if_pos rfl] at H; exact H
      clear H
      have H := H1
      clear H1
      have H' := Aside0.mk H
      clear H
      have p175 : 0 ≤ (x3_1 : Int) := of_decide_eq_true (by first | (with_reducible assumption) | assumption)
      have q175 : x3_1 < (l0.length : Int) := of_decide_eq_true (by first | (with_reducible assumption) | assumption)
      obtain ⟨ad175, e175, hx175_0, hx175_1⟩ := at_T26 HR0.out x3_1 p175 q175
      cases e175
      replace hx175_0 := (HB.out.cell (World.block_lt_of_cell? w _ hx175_0)).trans hx175_0
      replace hx175_1 := (HB.out.cell (World.block_lt_of_cell? w _ hx175_1)).trans hx175_1
      replace p175 := eq_true p175
      replace q175 := eq_true q175
      go_wp2_with (first | ((with_reducible refine gate_callee (f := 21) rfl ?_); refine goesL_ (some 14) rfl rfl Try.func21 (by kernel_rfl) rfl #[.agg #[.int .i64 ((rd_T26 l0 x3_1).f0), .int .i64 ((rd_T26 l0 x3_1).f1)]] rfl am ?_; (with_reducible refine (pochoirref18_May.calls ((rd_T26 l0 x3_1).f0) ((rd_T26 l0 x3_1).f1) true _ A4.out).mono ?_); rintro e w6 ⟨rfl, hb⟩; refine ⟨_, rfl, ?_⟩; replace HB := Aside0.mk (below_step (bl0 HB.out) hb); (try clear hb); (try clear hb2); (try clear hk); (try clear hi)))
      go_roundg k1
      case measure => have := HK1.out; omega
      case rel => exact ⟨(wrap64 (x3_1 + 1)), fr, H', ⟨by have := HK1.out; omega⟩, ⟨bl0 HB.out⟩⟩
     ·replace c5 := Bool.eq_false_iff.mpr c5
      subst c5
      have H1 : (some false) = some r := by rw [if_neg (show ¬ (false = true) by decide)] at H; exact H
      clear H
      have H := H1
      clear H1
      obtain rfl := Option.some.inj H
      have p175 : 0 ≤ (x3_1 : Int) := of_decide_eq_true (by first | (with_reducible assumption) | assumption)
      have q175 : x3_1 < (l0.length : Int) := of_decide_eq_true (by first | (with_reducible assumption) | assumption)
      obtain ⟨ad175, e175, hx175_0, hx175_1⟩ := at_T26 HR0.out x3_1 p175 q175
      cases e175
      replace hx175_0 := (HB.out.cell (World.block_lt_of_cell? w _ hx175_0)).trans hx175_0
      replace hx175_1 := (HB.out.cell (World.block_lt_of_cell? w _ hx175_1)).trans hx175_1
      replace p175 := eq_true p175
      replace q175 := eq_true q175
      go_wp2_with (first | ((with_reducible refine gate_callee (f := 21) rfl ?_); refine goesL_ (some 14) rfl rfl Try.func21 (by kernel_rfl) rfl #[.agg #[.int .i64 ((rd_T26 l0 x3_1).f0), .int .i64 ((rd_T26 l0 x3_1).f1)]] rfl am ?_; (with_reducible refine (pochoirref18_May.calls ((rd_T26 l0 x3_1).f0) ((rd_T26 l0 x3_1).f1) false _ A4.out).mono ?_); rintro e w7 ⟨rfl, hb⟩; refine ⟨_, rfl, ?_⟩; replace HB := Aside0.mk (below_step (bl0 HB.out) hb); (try clear hb); (try clear hb2); (try clear hk); (try clear hi)))
      go_ret
      exact ⟨by first | rfl | (simp [errW_none, errW_some] <;> rfl) | (simp [*, errW_none, errW_some] <;> rfl), bl0 HB.out⟩
    ·rw [if_neg c3] at H
     exact absurd H (by simp)
   ·rw [if_neg c2] at H
    have c2b0 : decide (x3_1 < (l0.length : Int)) = false := decide_eq_false c2
    clear c2
    obtain rfl := Option.some.inj H
    go_wp2
    go_ret
    exact ⟨by first | rfl | (simp [errW_none, errW_some] <;> rfl) | (simp [*, errW_none, errW_some] <;> rfl), bl0 HB.out⟩

/-! ### pochoirref18_Asked: function 15 -/
def pochoirref18_Asked.f (k : Nat) (l0 : List (S26)) : Option (Int) := (pochoirref18_all.f k l0).bind fun t177 => (if t177 = true then (some 0) else (some 1))
theorem pochoirref18_Asked.mono : ∀ a0 k, LeO (pochoirref18_Asked.f k a0) (pochoirref18_Asked.f (k + 1) a0) := by
 intro a0 k
 unfold pochoirref18_Asked.f
 repeat' first
   | (with_reducible exact pochoirref18_all.mono _ _)
   | (with_reducible exact LeO.refl _)
   | (with_reducible exact LeO.none _)
   | (with_reducible refine LeO.ite ?_ ?_)
   | (with_reducible refine LeO.bind ?_ (fun _ => ?_))
   | exact pochoirref18_all.mono _ _
   | exact LeO.none _
   | refine LeO.ite ?_ ?_
   | refine LeO.bind ?_ (fun _ => ?_)
set_option maxHeartbeats 8000000 in
set_option maxRecDepth 100000 in
theorem pochoirref18_Asked.calls (k : Nat) (A0 : Option Addr) (c0 : Nat) (l0 : List (S26)) (r : Int) (w : World) (hr0 : Kd.C k26 w A0 l0.length l0) (hc0 : l0.length ≤ c0) (h : pochoirref18_Asked.f k l0 = some r) :
  Calls Try.prog 15 #[.slice A0 l0.length c0] w fun e w' => e = .returned (.int .i64 r) ∧ Below w.heap.size w w' := by
 have HR0 := Aside0.mk hr0
 have HC0 := Aside0.mk hc0
 clear hr0 hc0
 have HB := Aside0.mk (Below.refl w.heap.size w)
 have H : ((pochoirref18_all.f k l0).bind fun t177 => (if t177 = true then (some 0) else (some 1))) = some r := h
 clear h
 replace H := Option.bind_eq_some_iff.mp H
 obtain ⟨t177, A20, H⟩ := H
 replace H : (if t177 = true then (some 0) else (some 1)) = some r := H
 have A2 := Aside0.mk A20
 clear A20
 by_cases c3 : t177 = true
 ·subst c3
  have H1 : (some 0) = some r := by rw [if_pos rfl] at H; exact H
  clear H
  have H := H1
  clear H1
  obtain rfl := Option.some.inj H
  go_enter Try.func15, Try.ntmps15
  go_wp2_with (first | ((with_reducible refine gate_callee (f := 49) rfl ?_); refine goesL_ (some 4) rfl rfl Try.func49 (by kernel_rfl) rfl #[.slice A0 l0.length c0] rfl am ?_; (with_reducible refine (pochoirref18_all.calls k _ _ l0 true _ ?side1 ?side2 A2.out).mono ?_); (case side1 => repeat (first | exact HR0.out | (with_reducible refine Kd.C_alloc ?_ _) | (with_reducible refine Kd.C_drewN ?_ _) | (with_reducible refine Kd.C_drew ?_))); (case side2 => exact HC0.out); rintro e w4 ⟨rfl, hb⟩; refine ⟨_, rfl, ?_⟩; replace HB := Aside0.mk (below_step (bl0 HB.out) hb); (try clear hb); (try clear hb2); (try clear hk); (try clear hi)))
  go_ret
  exact ⟨by first | rfl | (simp [errW_none, errW_some] <;> rfl) | (simp [*, errW_none, errW_some] <;> rfl), bl0 HB.out⟩
 ·replace c3 := Bool.eq_false_iff.mpr c3
  subst c3
  have H1 : (some 1) = some r := by rw [if_neg (show ¬ (false = true) by decide)] at H; exact H
  clear H
  have H := H1
  clear H1
  obtain rfl := Option.some.inj H
  go_enter Try.func15, Try.ntmps15
  go_wp2_with (first | ((with_reducible refine gate_callee (f := 49) rfl ?_); refine goesL_ (some 4) rfl rfl Try.func49 (by kernel_rfl) rfl #[.slice A0 l0.length c0] rfl am ?_; (with_reducible refine (pochoirref18_all.calls k _ _ l0 false _ ?side1 ?side2 A2.out).mono ?_); (case side1 => repeat (first | exact HR0.out | (with_reducible refine Kd.C_alloc ?_ _) | (with_reducible refine Kd.C_drewN ?_ _) | (with_reducible refine Kd.C_drew ?_))); (case side2 => exact HC0.out); rintro e w5 ⟨rfl, hb⟩; refine ⟨_, rfl, ?_⟩; replace HB := Aside0.mk (below_step (bl0 HB.out) hb); (try clear hb); (try clear hb2); (try clear hk); (try clear hi)))
  go_ret
  exact ⟨by first | rfl | (simp [errW_none, errW_some] <;> rfl) | (simp [*, errW_none, errW_some] <;> rfl), bl0 HB.out⟩

/-! ### plane_between: function 50 -/
def plane_between.f (a0_0 : Int) (a0_1 : Int) (a1_0 : Int) (a1_1 : Int) (a2_0 : Int) (a2_1 : Int) : Option (Bool) := (plane_cross.f a0_0 a0_1 a1_0 a1_1 a2_0 a2_1).bind fun t181 => (if t181 = 0 then ((plane_dot.f a2_0 a2_1 a0_0 a0_1 a1_0 a1_1).bind fun t182 => (some (decide (t182 ≤ 0)))) else (some false))
set_option maxHeartbeats 8000000 in
set_option maxRecDepth 100000 in
theorem plane_between.calls (a0_0 : Int) (a0_1 : Int) (a1_0 : Int) (a1_1 : Int) (a2_0 : Int) (a2_1 : Int) (r : Bool) (w : World) (h : plane_between.f a0_0 a0_1 a1_0 a1_1 a2_0 a2_1 = some r) :
  Calls Try.prog 50 #[.agg #[.int .i64 a0_0, .int .i64 a0_1], .agg #[.int .i64 a1_0, .int .i64 a1_1], .agg #[.int .i64 a2_0, .int .i64 a2_1]] w fun e w' => e = .returned (.bool r) ∧ Below w.heap.size w w' := by
 have hu26 := Try.underlying26
 have HB := Aside0.mk (Below.refl w.heap.size w)
 have H : ((plane_cross.f a0_0 a0_1 a1_0 a1_1 a2_0 a2_1).bind fun t181 => (if t181 = 0 then ((plane_dot.f a2_0 a2_1 a0_0 a0_1 a1_0 a1_1).bind fun t182 => (some (decide (t182 ≤ 0)))) else (some false))) = some r := h
 clear h
 replace H := Option.bind_eq_some_iff.mp H
 obtain ⟨t181, A40, H⟩ := H
 replace H : (if t181 = 0 then ((plane_dot.f a2_0 a2_1 a0_0 a0_1 a1_0 a1_1).bind fun t182 => (some (decide (t182 ≤ 0)))) else (some false)) = some r := H
 have A4 := Aside0.mk A40
 clear A40
 by_cases c5 : t181 = 0
 ·rw [if_pos c5] at H
  have c5b0 : (t181 == 0) = true := beq_iff_eq.mpr c5
  have c5b1 : (t181 != 0) = false := bne_eq_false_iff_eq.mpr c5
  clear c5
  replace H := Option.bind_eq_some_iff.mp H
  obtain ⟨t182, A60, H⟩ := H
  replace H : (some (decide (t182 ≤ 0))) = some r := H
  have A6 := Aside0.mk A60
  clear A60
  obtain rfl := Option.some.inj H
  go_enter Try.func50, Try.ntmps50
  go_wp2_with (first | ((with_reducible refine gate_dst (N := 3) rfl ?_); refine be 3 (#[.int .i64 a0_0, .int .i64 a0_1]) 26 ?_; intro gb178 hg w7 hbox hb; have BK178 := Aside0.mk (hbox); have GW178 := Aside0.mk ((by rw [hg]; exact (below_size (bl0 HB.out)) : w.heap.size ≤ gb178)); have GE178 := GW178; replace HB := Aside0.mk (below_step (bl0 HB.out) hb); clear hb hbox hg) | ((with_reducible refine gate_dst (N := 4) rfl ?_); refine be 4 (#[.int .i64 a1_0, .int .i64 a1_1]) 26 ?_; intro gb179 hg w8 hbox hb; have BK179 := Aside0.mk (hbox); have GW179 := Aside0.mk ((by rw [hg]; exact (below_size (bl1 HB.out GE178.out)) : w.heap.size ≤ gb179)); have GE179 := GW179; have NB178_179 := Aside0.mk ((by rw [hg]; exact Nat.ne_of_lt (lt_ BK178.out) : gb178 ≠ gb179)); have NB179_178 := Aside0.mk ((by rw [hg]; exact Nat.ne_of_gt (lt_ BK178.out) : gb179 ≠ gb178)); replace BK178 := Aside0.mk (bb BK178.out hb); replace HB := Aside0.mk (below_step (bl1 HB.out GE178.out) hb); clear hb hbox hg) | ((with_reducible refine gate_dst (N := 5) rfl ?_); refine be 5 (#[.int .i64 a2_0, .int .i64 a2_1]) 26 ?_; intro gb180 hg w9 hbox hb; have BK180 := Aside0.mk (hbox); have GW180 := Aside0.mk ((by rw [hg]; exact (below_size (bl2 HB.out GE178.out GE179.out)) : w.heap.size ≤ gb180)); have GE180 := GW180; have NB178_180 := Aside0.mk ((by rw [hg]; exact Nat.ne_of_lt (lt_ BK178.out) : gb178 ≠ gb180)); have NB180_178 := Aside0.mk ((by rw [hg]; exact Nat.ne_of_gt (lt_ BK178.out) : gb180 ≠ gb178)); have NB179_180 := Aside0.mk ((by rw [hg]; exact Nat.ne_of_lt (lt_ BK179.out) : gb179 ≠ gb180)); have NB180_179 := Aside0.mk ((by rw [hg]; exact Nat.ne_of_gt (lt_ BK179.out) : gb180 ≠ gb179)); replace BK178 := Aside0.mk (bb BK178.out hb); replace BK179 := Aside0.mk (bb BK179.out hb); replace HB := Aside0.mk (below_step (bl2 HB.out GE178.out GE179.out) hb); clear hb hbox hg; have hnb10 := NB178_179.out; have hnc10 := NB179_178.out; have hnb11 := NB178_180.out; have hnc11 := NB180_178.out; have hcz12_0 : w9.cell? ⟨gb178, 0, none⟩ = some (.int .i64 a0_0) := (blk_cell BK178.out 0).trans rfl; have hcz12_1 : w9.cell? ⟨gb178, 1, none⟩ = some (.int .i64 a0_1) := (blk_cell BK178.out 1).trans rfl; have hfz12_0 := blk_frozen BK178.out 0; have hfz12_1 := blk_frozen BK178.out 1; have hnb13 := NB179_180.out; have hnc13 := NB180_179.out; have hcz14_0 : w9.cell? ⟨gb179, 0, none⟩ = some (.int .i64 a1_0) := (blk_cell BK179.out 0).trans rfl; have hcz14_1 : w9.cell? ⟨gb179, 1, none⟩ = some (.int .i64 a1_1) := (blk_cell BK179.out 1).trans rfl; have hfz14_0 := blk_frozen BK179.out 0; have hfz14_1 := blk_frozen BK179.out 1; have hcz15_0 : w9.cell? ⟨gb180, 0, none⟩ = some (.int .i64 a2_0) := (blk_cell BK180.out 0).trans rfl; have hcz15_1 : w9.cell? ⟨gb180, 1, none⟩ = some (.int .i64 a2_1) := (blk_cell BK180.out 1).trans rfl; have hfz15_0 := blk_frozen BK180.out 0; have hfz15_1 := blk_frozen BK180.out 1) | ((with_reducible refine gate_callee (f := 48) rfl ?_); refine goesL_ (some 10) rfl rfl Try.func48 (by kernel_rfl) rfl #[.agg #[.int .i64 a0_0, .int .i64 a0_1], .agg #[.int .i64 a1_0, .int .i64 a1_1], .agg #[.int .i64 a2_0, .int .i64 a2_1]] rfl am ?_; (with_reducible refine (plane_cross.calls a0_0 a0_1 a1_0 a1_1 a2_0 a2_1 t181 _ A4.out).mono ?_); rintro e w16 ⟨rfl, hb⟩; refine ⟨_, rfl, ?_⟩; replace BK178 := Aside0.mk (bb BK178.out hb); replace BK179 := Aside0.mk (bb BK179.out hb); replace BK180 := Aside0.mk (bb BK180.out hb); replace HB := Aside0.mk (below_step (bl3 HB.out GE178.out GE179.out GE180.out) hb); (try clear hb); (try clear hb2); (try clear hk); (try clear hi); have hcz17_0 : w16.cell? ⟨gb180, 0, none⟩ = some (.int .i64 a2_0) := (blk_cell BK180.out 0).trans rfl; have hcz17_1 : w16.cell? ⟨gb180, 1, none⟩ = some (.int .i64 a2_1) := (blk_cell BK180.out 1).trans rfl; have hfz17_0 := blk_frozen BK180.out 0; have hfz17_1 := blk_frozen BK180.out 1; have hcz18_0 : w16.cell? ⟨gb178, 0, none⟩ = some (.int .i64 a0_0) := (blk_cell BK178.out 0).trans rfl; have hcz18_1 : w16.cell? ⟨gb178, 1, none⟩ = some (.int .i64 a0_1) := (blk_cell BK178.out 1).trans rfl; have hfz18_0 := blk_frozen BK178.out 0; have hfz18_1 := blk_frozen BK178.out 1; have hcz19_0 : w16.cell? ⟨gb179, 0, none⟩ = some (.int .i64 a1_0) := (blk_cell BK179.out 0).trans rfl; have hcz19_1 : w16.cell? ⟨gb179, 1, none⟩ = some (.int .i64 a1_1) := (blk_cell BK179.out 1).trans rfl; have hfz19_0 := blk_frozen BK179.out 0; have hfz19_1 := blk_frozen BK179.out 1) | (go_at_call 52; (with_reducible refine (plane_dot.calls a2_0 a2_1 a0_0 a0_1 a1_0 a1_1 t182 _ A6.out).mono ?_); rintro e w20 ⟨rfl, hb⟩; replace BK178 := Aside0.mk (bb BK178.out hb); replace BK179 := Aside0.mk (bb BK179.out hb); replace BK180 := Aside0.mk (bb BK180.out hb); replace HB := Aside0.mk (below_step (bl3 HB.out GE178.out GE179.out GE180.out) hb); (try clear hb); (try clear hb2); (try clear hk); (try clear hi)))
  go_ret
  exact ⟨by first | rfl | (simp [errW_none, errW_some] <;> rfl) | (simp [*, errW_none, errW_some] <;> rfl), bl3 HB.out GE178.out GE179.out GE180.out⟩
 ·rw [if_neg c5] at H
  have c5b0 : (t181 == 0) = false := beq_eq_false_iff_ne.mpr c5
  have c5b1 : (t181 != 0) = true := bne_iff_ne.mpr c5
  obtain rfl := Option.some.inj H
  go_enter Try.func50, Try.ntmps50
  go_wp2_with (first | ((with_reducible refine gate_dst (N := 3) rfl ?_); refine be 3 (#[.int .i64 a0_0, .int .i64 a0_1]) 26 ?_; intro gb178 hg w21 hbox hb; have BK178 := Aside0.mk (hbox); have GW178 := Aside0.mk ((by rw [hg]; exact (below_size (bl0 HB.out)) : w.heap.size ≤ gb178)); have GE178 := GW178; replace HB := Aside0.mk (below_step (bl0 HB.out) hb); clear hb hbox hg) | ((with_reducible refine gate_dst (N := 4) rfl ?_); refine be 4 (#[.int .i64 a1_0, .int .i64 a1_1]) 26 ?_; intro gb179 hg w22 hbox hb; have BK179 := Aside0.mk (hbox); have GW179 := Aside0.mk ((by rw [hg]; exact (below_size (bl1 HB.out GE178.out)) : w.heap.size ≤ gb179)); have GE179 := GW179; have NB178_179 := Aside0.mk ((by rw [hg]; exact Nat.ne_of_lt (lt_ BK178.out) : gb178 ≠ gb179)); have NB179_178 := Aside0.mk ((by rw [hg]; exact Nat.ne_of_gt (lt_ BK178.out) : gb179 ≠ gb178)); replace BK178 := Aside0.mk (bb BK178.out hb); replace HB := Aside0.mk (below_step (bl1 HB.out GE178.out) hb); clear hb hbox hg) | ((with_reducible refine gate_dst (N := 5) rfl ?_); refine be 5 (#[.int .i64 a2_0, .int .i64 a2_1]) 26 ?_; intro gb180 hg w23 hbox hb; have BK180 := Aside0.mk (hbox); have GW180 := Aside0.mk ((by rw [hg]; exact (below_size (bl2 HB.out GE178.out GE179.out)) : w.heap.size ≤ gb180)); have GE180 := GW180; have NB178_180 := Aside0.mk ((by rw [hg]; exact Nat.ne_of_lt (lt_ BK178.out) : gb178 ≠ gb180)); have NB180_178 := Aside0.mk ((by rw [hg]; exact Nat.ne_of_gt (lt_ BK178.out) : gb180 ≠ gb178)); have NB179_180 := Aside0.mk ((by rw [hg]; exact Nat.ne_of_lt (lt_ BK179.out) : gb179 ≠ gb180)); have NB180_179 := Aside0.mk ((by rw [hg]; exact Nat.ne_of_gt (lt_ BK179.out) : gb180 ≠ gb179)); replace BK178 := Aside0.mk (bb BK178.out hb); replace BK179 := Aside0.mk (bb BK179.out hb); replace HB := Aside0.mk (below_step (bl2 HB.out GE178.out GE179.out) hb); clear hb hbox hg; have hnb24 := NB178_179.out; have hnc24 := NB179_178.out; have hnb25 := NB178_180.out; have hnc25 := NB180_178.out; have hcz26_0 : w23.cell? ⟨gb178, 0, none⟩ = some (.int .i64 a0_0) := (blk_cell BK178.out 0).trans rfl; have hcz26_1 : w23.cell? ⟨gb178, 1, none⟩ = some (.int .i64 a0_1) := (blk_cell BK178.out 1).trans rfl; have hfz26_0 := blk_frozen BK178.out 0; have hfz26_1 := blk_frozen BK178.out 1; have hnb27 := NB179_180.out; have hnc27 := NB180_179.out; have hcz28_0 : w23.cell? ⟨gb179, 0, none⟩ = some (.int .i64 a1_0) := (blk_cell BK179.out 0).trans rfl; have hcz28_1 : w23.cell? ⟨gb179, 1, none⟩ = some (.int .i64 a1_1) := (blk_cell BK179.out 1).trans rfl; have hfz28_0 := blk_frozen BK179.out 0; have hfz28_1 := blk_frozen BK179.out 1; have hcz29_0 : w23.cell? ⟨gb180, 0, none⟩ = some (.int .i64 a2_0) := (blk_cell BK180.out 0).trans rfl; have hcz29_1 : w23.cell? ⟨gb180, 1, none⟩ = some (.int .i64 a2_1) := (blk_cell BK180.out 1).trans rfl; have hfz29_0 := blk_frozen BK180.out 0; have hfz29_1 := blk_frozen BK180.out 1) | ((with_reducible refine gate_callee (f := 48) rfl ?_); refine goesL_ (some 10) rfl rfl Try.func48 (by kernel_rfl) rfl #[.agg #[.int .i64 a0_0, .int .i64 a0_1], .agg #[.int .i64 a1_0, .int .i64 a1_1], .agg #[.int .i64 a2_0, .int .i64 a2_1]] rfl am ?_; (with_reducible refine (plane_cross.calls a0_0 a0_1 a1_0 a1_1 a2_0 a2_1 t181 _ A4.out).mono ?_); rintro e w30 ⟨rfl, hb⟩; refine ⟨_, rfl, ?_⟩; replace BK178 := Aside0.mk (bb BK178.out hb); replace BK179 := Aside0.mk (bb BK179.out hb); replace BK180 := Aside0.mk (bb BK180.out hb); replace HB := Aside0.mk (below_step (bl3 HB.out GE178.out GE179.out GE180.out) hb); (try clear hb); (try clear hb2); (try clear hk); (try clear hi)))
  go_ret
  exact ⟨by first | rfl | (simp [errW_none, errW_some] <;> rfl) | (simp [*, errW_none, errW_some] <;> rfl), bl3 HB.out GE178.out GE179.out GE180.out⟩

end Go.Proofs.Ytemhnlameekmkaa.XPlan
