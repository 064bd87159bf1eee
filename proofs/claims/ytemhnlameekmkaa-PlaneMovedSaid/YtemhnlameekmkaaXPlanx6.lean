-- Printed by a program of this claim. Not trusted: Lean checks it.
import Derived.Test.YtemhnlameekmkaaXPlanx0
import Derived.Test.YtemhnlameekmkaaXPlanx5
namespace Go.Proofs.Ytemhnlameekmkaa.XPlan
open Go.RowKit Go.Proofs.YtemhnlameekmkaaW.PrintWords Go.Proofs.YtemhnlameekmkaaW.PrintLast Go.Proofs.YtemhnlameekmkaaW.PrintMore
attribute [local go_sem] max2_int min2_int max_two min_two max_three min_three max_four min_four   -- for this text's walks alone
set_option linter.unusedVariables false
set_option linter.unusedSimpArgs false
open XOpen

/-! ### pochoirref18_Meet: function 26 -/
def pochoirref18_Meet.j0 : Nat → Bool → Int → Int → Int → Int → Int → Int → Int → Int → Option (Bool)
 | 0, _, _, _, _, _, _, _, _, _ => none
 | k + 1, x30, x218000, x218001, x219000, x219001, x220000, x220001, x221000, x221001 => if x30 = true then (some true) else ((pochoirref18_Cross.f x218000 x218001 x219000 x219001 x220000 x220001).bind fun t225 => ((pochoirref18_Sign.f t225).bind fun t226 => ((pochoirref18_Cross.f x218000 x218001 x219000 x219001 x221000 x221001).bind fun t227 => ((pochoirref18_Sign.f t227).bind fun t228 => (if (wrap64 (t226 * t228)) < 0 then ((pochoirref18_Cross.f x220000 x220001 x221000 x221001 x218000 x218001).bind fun t229 => ((pochoirref18_Sign.f t229).bind fun t230 => ((pochoirref18_Cross.f x220000 x220001 x221000 x221001 x219000 x219001).bind fun t231 => ((pochoirref18_Sign.f t231).bind fun t232 => (some (decide ((wrap64 (t230 * t232)) < 0))))))) else (some false))))))
def pochoirref18_Meet.f (k : Nat) (a0_0 : Int) (a0_1 : Int) (a1_0 : Int) (a1_1 : Int) (a2_0 : Int) (a2_1 : Int) (a3_0 : Int) (a3_1 : Int) : Option (Bool) := (pochoirref18_Between.f a0_0 a0_1 a1_0 a1_1 a2_0 a2_1).bind fun t221 => (if t221 = true then (pochoirref18_Meet.j0 k true a0_0 a0_1 a1_0 a1_1 a2_0 a2_1 a3_0 a3_1) else ((pochoirref18_Between.f a0_0 a0_1 a1_0 a1_1 a3_0 a3_1).bind fun t222 => (if t222 = true then (pochoirref18_Meet.j0 k true a0_0 a0_1 a1_0 a1_1 a2_0 a2_1 a3_0 a3_1) else ((pochoirref18_Between.f a2_0 a2_1 a3_0 a3_1 a0_0 a0_1).bind fun t223 => (if t223 = true then (pochoirref18_Meet.j0 k true a0_0 a0_1 a1_0 a1_1 a2_0 a2_1 a3_0 a3_1) else ((pochoirref18_Between.f a2_0 a2_1 a3_0 a3_1 a1_0 a1_1).bind fun t224 => (pochoirref18_Meet.j0 k t224 a0_0 a0_1 a1_0 a1_1 a2_0 a2_1 a3_0 a3_1)))))))
theorem pochoirref18_Meet.mono_l : ∀ k, (∀ y0 y1 y2 y3 y4 y5 y6 y7 y8, LeO (pochoirref18_Meet.j0 k y0 y1 y2 y3 y4 y5 y6 y7 y8) (pochoirref18_Meet.j0 (k + 1) y0 y1 y2 y3 y4 y5 y6 y7 y8))
 | 0 => fun _ _ _ _ _ _ _ _ _ r h => by simp [pochoirref18_Meet.j0] at h
 | k + 1 => by
  have ih0 := pochoirref18_Meet.mono_l k
  ·intro y0 y1 y2 y3 y4 y5 y6 y7 y8
   unfold pochoirref18_Meet.j0
   repeat' first
   | (with_reducible exact ih0 _ _ _ _ _ _ _ _ _)
   | (with_reducible exact LeO.refl _)
   | (with_reducible exact LeO.none _)
   | (with_reducible refine LeO.ite ?_ ?_)
   | (with_reducible refine LeO.bind ?_ (fun _ => ?_))
   | exact ih0 _ _ _ _ _ _ _ _ _
   | exact LeO.none _
   | refine LeO.ite ?_ ?_
   | refine LeO.bind ?_ (fun _ => ?_)
theorem pochoirref18_Meet.mono : ∀ a0 a1 a2 a3 a4 a5 a6 a7 k, LeO (pochoirref18_Meet.f k a0 a1 a2 a3 a4 a5 a6 a7) (pochoirref18_Meet.f (k + 1) a0 a1 a2 a3 a4 a5 a6 a7) := by
 intro a0 a1 a2 a3 a4 a5 a6 a7 k
 have ih0 := pochoirref18_Meet.mono_l k
 unfold pochoirref18_Meet.f
 repeat' first
   | (with_reducible exact ih0 _ _ _ _ _ _ _ _ _)
   | (with_reducible exact LeO.refl _)
   | (with_reducible exact LeO.none _)
   | (with_reducible refine LeO.ite ?_ ?_)
   | (with_reducible refine LeO.bind ?_ (fun _ => ?_))
   | exact ih0 _ _ _ _ _ _ _ _ _
   | exact LeO.none _
   | refine LeO.ite ?_ ?_
   | refine LeO.bind ?_ (fun _ => ?_)
def pochoirref18_Meet.T3 : Bool × List (List Nat × List Nat) := (true, [([], []), ([], []), ([], []), ([0, 1, 2], [0, 1, 2]), ([3, 3], [3]), ([], []), ([], []), ([], []), ([5, 6, 7, 4], [5, 6, 7]), ([8, 8], [8]), ([4, 9], [4, 9]), ([10], [10]), ([11, 9], [11]), ([12], [12]), ([12], [12]), ([12], [12]), ([13, 14, 15, 12, 12], [12, 13, 14, 15]), ([16, 16, 12], [12, 16]), ([12], [12]), ([12], [12]), ([12], [12]), ([18, 19, 20, 17, 12], [12, 18, 19, 20]), ([21, 21, 12], [12, 21]), ([17, 22, 12], [12, 17, 22]), ([23, 12], [12, 23]), ([12, 24], [12, 24]), ([25, 22, 0, 1, 2, 3, 4, 5, 6, 7, 8, 9, 10, 11, 12, 13, 14, 15, 16, 17, 18, 19, 20, 21, 22, 23, 24, 25], [25])])
def pochoirref18_Meet.B3 : List Nat := [0, 0, 0, 7, 15, 0, 0, 0, 255, 511, 1023, 2047, 4095, 8191, 8191, 8191, 65535, 131071, 8191, 8191, 8191, 2097151, 4194303, 8388607, 16777215, 33554431, 67108863]
theorem pochoirref18_Meet.tab3 : rtab .any (opsOf Try.f26 3) = pochoirref18_Meet.T3 := by kernel_rfl
theorem pochoirref18_Meet.bits3 : waitsOk pochoirref18_Meet.T3.2 pochoirref18_Meet.B3 = true := by kernel_rfl
set_option maxHeartbeats 8000000 in
set_option maxRecDepth 100000 in
theorem pochoirref18_Meet.calls (k : Nat) (a0_0 : Int) (a0_1 : Int) (a1_0 : Int) (a1_1 : Int) (a2_0 : Int) (a2_1 : Int) (a3_0 : Int) (a3_1 : Int) (r : Bool) (w : World) (h : pochoirref18_Meet.f k a0_0 a0_1 a1_0 a1_1 a2_0 a2_1 a3_0 a3_1 = some r) :
  Calls Try.prog 26 #[.agg #[.int .i64 a0_0, .int .i64 a0_1], .agg #[.int .i64 a1_0, .int .i64 a1_1], .agg #[.int .i64 a2_0, .int .i64 a2_1], .agg #[.int .i64 a3_0, .int .i64 a3_1]] w fun e w' => e = .returned (.bool r) ∧ Below w.heap.size w w' := by
 have hu26 := Try.underlying26
 have HB := Aside0.mk (Below.refl w.heap.size w)
 have H : ((pochoirref18_Between.f a0_0 a0_1 a1_0 a1_1 a2_0 a2_1).bind fun t221 => (if t221 = true then (pochoirref18_Meet.j0 k true a0_0 a0_1 a1_0 a1_1 a2_0 a2_1 a3_0 a3_1) else ((pochoirref18_Between.f a0_0 a0_1 a1_0 a1_1 a3_0 a3_1).bind fun t222 => (if t222 = true then (pochoirref18_Meet.j0 k true a0_0 a0_1 a1_0 a1_1 a2_0 a2_1 a3_0 a3_1) else ((pochoirref18_Between.f a2_0 a2_1 a3_0 a3_1 a0_0 a0_1).bind fun t223 => (if t223 = true then (pochoirref18_Meet.j0 k true a0_0 a0_1 a1_0 a1_1 a2_0 a2_1 a3_0 a3_1) else ((pochoirref18_Between.f a2_0 a2_1 a3_0 a3_1 a1_0 a1_1).bind fun t224 => (pochoirref18_Meet.j0 k t224 a0_0 a0_1 a1_0 a1_1 a2_0 a2_1 a3_0 a3_1)))))))) = some r := h
 clear h
 have HC5 := Aside0.mk H
 clear H
 go_enter Try.func26, Try.ntmps26
 go_upto_region 1 with (first | ((with_reducible refine gate_dst (N := 4) rfl ?_); refine be 4 (#[.int .i64 a0_0, .int .i64 a0_1]) 26 ?_; intro gb217 hg w6 hbox hb; have BK217 := Aside0.mk (hbox); have GW217 := Aside0.mk ((by rw [hg]; exact (below_size (bl0 HB.out)) : w.heap.size ≤ gb217)); have GE217 := GW217; replace HB := Aside0.mk (below_step (bl0 HB.out) hb); clear hb hbox hg) | ((with_reducible refine gate_dst (N := 5) rfl ?_); refine be 5 (#[.int .i64 a1_0, .int .i64 a1_1]) 26 ?_; intro gb218 hg w7 hbox hb; have BK218 := Aside0.mk (hbox); have GW218 := Aside0.mk ((by rw [hg]; exact (below_size (bl1 HB.out GE217.out)) : w.heap.size ≤ gb218)); have GE218 := GW218; have NB217_218 := Aside0.mk ((by rw [hg]; exact Nat.ne_of_lt (lt_ BK217.out) : gb217 ≠ gb218)); have NB218_217 := Aside0.mk ((by rw [hg]; exact Nat.ne_of_gt (lt_ BK217.out) : gb218 ≠ gb217)); replace BK217 := Aside0.mk (bb BK217.out hb); replace HB := Aside0.mk (below_step (bl1 HB.out GE217.out) hb); clear hb hbox hg) | ((with_reducible refine gate_dst (N := 6) rfl ?_); refine be 6 (#[.int .i64 a2_0, .int .i64 a2_1]) 26 ?_; intro gb219 hg w8 hbox hb; have BK219 := Aside0.mk (hbox); have GW219 := Aside0.mk ((by rw [hg]; exact (below_size (bl2 HB.out GE217.out GE218.out)) : w.heap.size ≤ gb219)); have GE219 := GW219; have NB217_219 := Aside0.mk ((by rw [hg]; exact Nat.ne_of_lt (lt_ BK217.out) : gb217 ≠ gb219)); have NB219_217 := Aside0.mk ((by rw [hg]; exact Nat.ne_of_gt (lt_ BK217.out) : gb219 ≠ gb217)); have NB218_219 := Aside0.mk ((by rw [hg]; exact Nat.ne_of_lt (lt_ BK218.out) : gb218 ≠ gb219)); have NB219_218 := Aside0.mk ((by rw [hg]; exact Nat.ne_of_gt (lt_ BK218.out) : gb219 ≠ gb218)); replace BK217 := Aside0.mk (bb BK217.out hb); replace BK218 := Aside0.mk (bb BK218.out hb); replace HB := Aside0.mk (below_step (bl2 HB.out GE217.out GE218.out) hb); clear hb hbox hg) | ((with_reducible refine gate_dst (N := 7) rfl ?_); refine be 7 (#[.int .i64 a3_0, .int .i64 a3_1]) 26 ?_; intro gb220 hg w9 hbox hb; have BK220 := Aside0.mk (hbox); have GW220 := Aside0.mk ((by rw [hg]; exact (below_size (bl3 HB.out GE217.out GE218.out GE219.out)) : w.heap.size ≤ gb220)); have GE220 := GW220; have NB217_220 := Aside0.mk ((by rw [hg]; exact Nat.ne_of_lt (lt_ BK217.out) : gb217 ≠ gb220)); have NB220_217 := Aside0.mk ((by rw [hg]; exact Nat.ne_of_gt (lt_ BK217.out) : gb220 ≠ gb217)); have NB218_220 := Aside0.mk ((by rw [hg]; exact Nat.ne_of_lt (lt_ BK218.out) : gb218 ≠ gb220)); have NB220_218 := Aside0.mk ((by rw [hg]; exact Nat.ne_of_gt (lt_ BK218.out) : gb220 ≠ gb218)); have NB219_220 := Aside0.mk ((by rw [hg]; exact Nat.ne_of_lt (lt_ BK219.out) : gb219 ≠ gb220)); have NB220_219 := Aside0.mk ((by rw [hg]; exact Nat.ne_of_gt (lt_ BK219.out) : gb220 ≠ gb219)); replace BK217 := Aside0.mk (bb BK217.out hb); replace BK218 := Aside0.mk (bb BK218.out hb); replace BK219 := Aside0.mk (bb BK219.out hb); replace HB := Aside0.mk (below_step (bl3 HB.out GE217.out GE218.out GE219.out) hb); clear hb hbox hg))
 (try simp only [Act.put, List.setIfInBounds_toArray, List.set_cons_zero, List.set_cons_succ])
 go_cut [30] (fun v30 wc => ∃ (kq : Nat) (x30_4 : Bool), v30 = .bool x30_4 ∧ Aside0 (pochoirref18_Meet.j0 kq x30_4 a0_0 a0_1 a1_0 a1_1 a2_0 a2_1 a3_0 a3_1 = some r) ∧ Aside0 (kq ≤ k) ∧ Aside0 (wc.heap[gb217]? = some (.cells #[.int .i64 a0_0, .int .i64 a0_1] 26 (0, 0))) ∧ Aside0 (wc.heap[gb218]? = some (.cells #[.int .i64 a1_0, .int .i64 a1_1] 26 (0, 0))) ∧ Aside0 (wc.heap[gb219]? = some (.cells #[.int .i64 a2_0, .int .i64 a2_1] 26 (0, 0))) ∧ Aside0 (wc.heap[gb220]? = some (.cells #[.int .i64 a3_0, .int .i64 a3_1] 26 (0, 0))) ∧ Aside0 (Below w.heap.size w wc))
 case first =>
  have H := HC5.out
  clear HC5
  replace H := Option.bind_eq_some_iff.mp H
  obtain ⟨t221, A100, H⟩ := H
  replace H : (if t221 = true then (pochoirref18_Meet.j0 k true a0_0 a0_1 a1_0 a1_1 a2_0 a2_1 a3_0 a3_1) else ((pochoirref18_Between.f a0_0 a0_1 a1_0 a1_1 a3_0 a3_1).bind fun t222 => (if t222 = true then (pochoirref18_Meet.j0 k true a0_0 a0_1 a1_0 a1_1 a2_0 a2_1 a3_0 a3_1) else ((pochoirref18_Between.f a2_0 a2_1 a3_0 a3_1 a0_0 a0_1).bind fun t223 => (if t223 = true then (pochoirref18_Meet.j0 k true a0_0 a0_1 a1_0 a1_1 a2_0 a2_1 a3_0 a3_1) else ((pochoirref18_Between.f a2_0 a2_1 a3_0 a3_1 a1_0 a1_1).bind fun t224 => (pochoirref18_Meet.j0 k t224 a0_0 a0_1 a1_0 a1_1 a2_0 a2_1 a3_0 a3_1))))))) = some r := H
  have A10 := Aside0.mk A100
  clear A100
  by_cases c11 : t221 = true
  ·subst c11
   have H1 : (pochoirref18_Meet.j0 k true a0_0 a0_1 a1_0 a1_1 a2_0 a2_1 a3_0 a3_1) = some r := by rw [if_pos rfl] at H; exact H
   clear H
   have H := H1
   clear H1
   have H' := Aside0.mk H
   clear H
   have hnb12 := NB217_218.out
   have hnc12 := NB218_217.out
   have hnb13 := NB217_219.out
   have hnc13 := NB219_217.out
   have hnb14 := NB217_220.out
   have hnc14 := NB220_217.out
   have hcz15_0 : w9.cell? ⟨gb217, 0, none⟩ = some (.int .i64 a0_0) := (blk_cell BK217.out 0).trans rfl
   have hcz15_1 : w9.cell? ⟨gb217, 1, none⟩ = some (.int .i64 a0_1) := (blk_cell BK217.out 1).trans rfl
   have hfz15_0 := blk_frozen BK217.out 0
   have hfz15_1 := blk_frozen BK217.out 1
   have hnb16 := NB218_219.out
   have hnc16 := NB219_218.out
   have hnb17 := NB218_220.out
   have hnc17 := NB220_218.out
   have hcz18_0 : w9.cell? ⟨gb218, 0, none⟩ = some (.int .i64 a1_0) := (blk_cell BK218.out 0).trans rfl
   have hcz18_1 : w9.cell? ⟨gb218, 1, none⟩ = some (.int .i64 a1_1) := (blk_cell BK218.out 1).trans rfl
   have hfz18_0 := blk_frozen BK218.out 0
   have hfz18_1 := blk_frozen BK218.out 1
   have hnb19 := NB219_220.out
   have hnc19 := NB220_219.out
   have hcz20_0 : w9.cell? ⟨gb219, 0, none⟩ = some (.int .i64 a2_0) := (blk_cell BK219.out 0).trans rfl
   have hcz20_1 : w9.cell? ⟨gb219, 1, none⟩ = some (.int .i64 a2_1) := (blk_cell BK219.out 1).trans rfl
   have hfz20_0 := blk_frozen BK219.out 0
   have hfz20_1 := blk_frozen BK219.out 1
   go_wp2_with (first | ((with_reducible refine gate_callee (f := 25) rfl ?_); refine goesL_ (some 12) rfl rfl Try.func25 (by kernel_rfl) rfl #[.agg #[.int .i64 a0_0, .int .i64 a0_1], .agg #[.int .i64 a1_0, .int .i64 a1_1], .agg #[.int .i64 a2_0, .int .i64 a2_1]] rfl am ?_; (with_reducible refine (pochoirref18_Between.calls a0_0 a0_1 a1_0 a1_1 a2_0 a2_1 true _ A10.out).mono ?_); rintro e w21 ⟨rfl, hb⟩; refine ⟨_, rfl, ?_⟩; replace BK217 := Aside0.mk (bb BK217.out hb); replace BK218 := Aside0.mk (bb BK218.out hb); replace BK219 := Aside0.mk (bb BK219.out hb); replace BK220 := Aside0.mk (bb BK220.out hb); replace HB := Aside0.mk (below_step (bl4 HB.out GE217.out GE218.out GE219.out GE220.out) hb); (try clear hb); (try clear hb2); (try clear hk); (try clear hi)))
   go_meet
   case rel => exact ⟨_, (true), fr, H', ⟨by first | omega | exact Nat.le_refl _⟩, ⟨bk BK217.out⟩, ⟨bk BK218.out⟩, ⟨bk BK219.out⟩, ⟨bk BK220.out⟩, ⟨bl4 HB.out GE217.out GE218.out GE219.out GE220.out⟩⟩
  ·replace c11 := Bool.eq_false_iff.mpr c11
   subst c11
   have H1 : ((pochoirref18_Between.f a0_0 a0_1 a1_0 a1_1 a3_0 a3_1).bind fun t222 => (if t222 = true then (pochoirref18_Meet.j0 k true a0_0 a0_1 a1_0 a1_1 a2_0 a2_1 a3_0 a3_1) else ((pochoirref18_Between.f a2_0 a2_1 a3_0 a3_1 a0_0 a0_1).bind fun t223 => (if t223 = true then (pochoirref18_Meet.j0 k true a0_0 a0_1 a1_0 a1_1 a2_0 a2_1 a3_0 a3_1) else ((pochoirref18_Between.f a2_0 a2_1 a3_0 a3_1 a1_0 a1_1).bind fun t224 => (pochoirref18_Meet.j0 k t224 a0_0 a0_1 a1_0 a1_1 a2_0 a2_1 a3_0 a3_1)))))) = some r := by rw [if_neg (show ¬ (false = true) by decide)] at H; exact H
   clear H
   have H := H1
   clear H1
   replace H := Option.bind_eq_some_iff.mp H
   obtain ⟨t222, A220, H⟩ := H
   replace H : (if t222 = true then (pochoirref18_Meet.j0 k true a0_0 a0_1 a1_0 a1_1 a2_0 a2_1 a3_0 a3_1) else ((pochoirref18_Between.f a2_0 a2_1 a3_0 a3_1 a0_0 a0_1).bind fun t223 => (if t223 = true then (pochoirref18_Meet.j0 k true a0_0 a0_1 a1_0 a1_1 a2_0 a2_1 a3_0 a3_1) else ((pochoirref18_Between.f a2_0 a2_1 a3_0 a3_1 a1_0 a1_1).bind fun t224 => (pochoirref18_Meet.j0 k t224 a0_0 a0_1 a1_0 a1_1 a2_0 a2_1 a3_0 a3_1))))) = some r := H
   have A22 := Aside0.mk A220
   clear A220
   by_cases c23 : t222 = true
   ·subst c23
    have H1 : (pochoirref18_Meet.j0 k true a0_0 a0_1 a1_0 a1_1 a2_0 a2_1 a3_0 a3_1) = some r := by rw [if_pos rfl] at H; exact H
    clear H
    have H := H1
    clear H1
    have H' := Aside0.mk H
    clear H
    have hnb24 := NB217_218.out
    have hnc24 := NB218_217.out
    have hnb25 := NB217_219.out
    have hnc25 := NB219_217.out
    have hnb26 := NB217_220.out
    have hnc26 := NB220_217.out
    have hcz27_0 : w9.cell? ⟨gb217, 0, none⟩ = some (.int .i64 a0_0) := (blk_cell BK217.out 0).trans rfl
    have hcz27_1 : w9.cell? ⟨gb217, 1, none⟩ = some (.int .i64 a0_1) := (blk_cell BK217.out 1).trans rfl
    have hfz27_0 := blk_frozen BK217.out 0
    have hfz27_1 := blk_frozen BK217.out 1
    have hnb28 := NB218_219.out
    have hnc28 := NB219_218.out
    have hnb29 := NB218_220.out
    have hnc29 := NB220_218.out
    have hcz30_0 : w9.cell? ⟨gb218, 0, none⟩ = some (.int .i64 a1_0) := (blk_cell BK218.out 0).trans rfl
    have hcz30_1 : w9.cell? ⟨gb218, 1, none⟩ = some (.int .i64 a1_1) := (blk_cell BK218.out 1).trans rfl
    have hfz30_0 := blk_frozen BK218.out 0
    have hfz30_1 := blk_frozen BK218.out 1
    have hnb31 := NB219_220.out
    have hnc31 := NB220_219.out
    have hcz32_0 : w9.cell? ⟨gb219, 0, none⟩ = some (.int .i64 a2_0) := (blk_cell BK219.out 0).trans rfl
    have hcz32_1 : w9.cell? ⟨gb219, 1, none⟩ = some (.int .i64 a2_1) := (blk_cell BK219.out 1).trans rfl
    have hfz32_0 := blk_frozen BK219.out 0
    have hfz32_1 := blk_frozen BK219.out 1
    go_wp2_with (first | ((with_reducible refine gate_callee (f := 25) rfl ?_); refine goesL_ (some 12) rfl rfl Try.func25 (by kernel_rfl) rfl #[.agg #[.int .i64 a0_0, .int .i64 a0_1], .agg #[.int .i64 a1_0, .int .i64 a1_1], .agg #[.int .i64 a2_0, .int .i64 a2_1]] rfl am ?_; (with_reducible refine (pochoirref18_Between.calls a0_0 a0_1 a1_0 a1_1 a2_0 a2_1 false _ A10.out).mono ?_); rintro e w33 ⟨rfl, hb⟩; refine ⟨_, rfl, ?_⟩; replace BK217 := Aside0.mk (bb BK217.out hb); replace BK218 := Aside0.mk (bb BK218.out hb); replace BK219 := Aside0.mk (bb BK219.out hb); replace BK220 := Aside0.mk (bb BK220.out hb); replace HB := Aside0.mk (below_step (bl4 HB.out GE217.out GE218.out GE219.out GE220.out) hb); (try clear hb); (try clear hb2); (try clear hk); (try clear hi); have hcz34_0 : w33.cell? ⟨gb217, 0, none⟩ = some (.int .i64 a0_0) := (blk_cell BK217.out 0).trans rfl; have hcz34_1 : w33.cell? ⟨gb217, 1, none⟩ = some (.int .i64 a0_1) := (blk_cell BK217.out 1).trans rfl; have hfz34_0 := blk_frozen BK217.out 0; have hfz34_1 := blk_frozen BK217.out 1; have hcz35_0 : w33.cell? ⟨gb218, 0, none⟩ = some (.int .i64 a1_0) := (blk_cell BK218.out 0).trans rfl; have hcz35_1 : w33.cell? ⟨gb218, 1, none⟩ = some (.int .i64 a1_1) := (blk_cell BK218.out 1).trans rfl; have hfz35_0 := blk_frozen BK218.out 0; have hfz35_1 := blk_frozen BK218.out 1; have hcz36_0 : w33.cell? ⟨gb220, 0, none⟩ = some (.int .i64 a3_0) := (blk_cell BK220.out 0).trans rfl; have hcz36_1 : w33.cell? ⟨gb220, 1, none⟩ = some (.int .i64 a3_1) := (blk_cell BK220.out 1).trans rfl; have hfz36_0 := blk_frozen BK220.out 0; have hfz36_1 := blk_frozen BK220.out 1) | (go_at_call 25; (with_reducible refine (pochoirref18_Between.calls a0_0 a0_1 a1_0 a1_1 a3_0 a3_1 true _ A22.out).mono ?_); rintro e w37 ⟨rfl, hb⟩; replace BK217 := Aside0.mk (bb BK217.out hb); replace BK218 := Aside0.mk (bb BK218.out hb); replace BK219 := Aside0.mk (bb BK219.out hb); replace BK220 := Aside0.mk (bb BK220.out hb); replace HB := Aside0.mk (below_step (bl4 HB.out GE217.out GE218.out GE219.out GE220.out) hb); (try clear hb); (try clear hb2); (try clear hk); (try clear hi)))
    go_meet
    case rel => exact ⟨_, (true), fr, H', ⟨by first | omega | exact Nat.le_refl _⟩, ⟨bk BK217.out⟩, ⟨bk BK218.out⟩, ⟨bk BK219.out⟩, ⟨bk BK220.out⟩, ⟨bl4 HB.out GE217.out GE218.out GE219.out GE220.out⟩⟩
   ·replace c23 := Bool.eq_false_iff.mpr c23
    subst c23
    have H1 : ((pochoirref18_Between.f a2_0 a2_1 a3_0 a3_1 a0_0 a0_1).bind fun t223 => (if t223 = true then (pochoirref18_Meet.j0 k true a0_0 a0_1 a1_0 a1_1 a2_0 a2_1 a3_0 a3_1) else ((pochoirref18_Between.f a2_0 a2_1 a3_0 a3_1 a1_0 a1_1).bind fun t224 => (pochoirref18_Meet.j0 k t224 a0_0 a0_1 a1_0 a1_1 a2_0 a2_1 a3_0 a3_1)))) = some r := by rw [if_neg (show ¬ (false = true) by decide)] at H; exact H
    clear H
    have H := H1
    clear H1
    replace H := Option.bind_eq_some_iff.mp H
    obtain ⟨t223, A380, H⟩ := H
    replace H : (if t223 = true then (pochoirref18_Meet.j0 k true a0_0 a0_1 a1_0 a1_1 a2_0 a2_1 a3_0 a3_1) else ((pochoirref18_Between.f a2_0 a2_1 a3_0 a3_1 a1_0 a1_1).bind fun t224 => (pochoirref18_Meet.j0 k t224 a0_0 a0_1 a1_0 a1_1 a2_0 a2_1 a3_0 a3_1))) = some r := H
    have A38 := Aside0.mk A380
    clear A380
    by_cases c39 : t223 = true
    ·subst c39
     have H1 : (pochoirref18_Meet.j0 k true a0_0 a0_1 a1_0 a1_1 a2_0 a2_1 a3_0 a3_1) = some r := by rw [if_pos rfl] at H; exact H
     clear H
     have H := H1
     clear H1
     have H' := Aside0.mk H
     clear H
     have hnb40 := NB217_218.out
     have hnc40 := NB218_217.out
     have hnb41 := NB217_219.out
     have hnc41 := NB219_217.out
     have hnb42 := NB217_220.out
     have hnc42 := NB220_217.out
     have hcz43_0 : w9.cell? ⟨gb217, 0, none⟩ = some (.int .i64 a0_0) := (blk_cell BK217.out 0).trans rfl
     have hcz43_1 : w9.cell? ⟨gb217, 1, none⟩ = some (.int .i64 a0_1) := (blk_cell BK217.out 1).trans rfl
     have hfz43_0 := blk_frozen BK217.out 0
     have hfz43_1 := blk_frozen BK217.out 1
     have hnb44 := NB218_219.out
     have hnc44 := NB219_218.out
     have hnb45 := NB218_220.out
     have hnc45 := NB220_218.out
     have hcz46_0 : w9.cell? ⟨gb218, 0, none⟩ = some (.int .i64 a1_0) := (blk_cell BK218.out 0).trans rfl
     have hcz46_1 : w9.cell? ⟨gb218, 1, none⟩ = some (.int .i64 a1_1) := (blk_cell BK218.out 1).trans rfl
     have hfz46_0 := blk_frozen BK218.out 0
     have hfz46_1 := blk_frozen BK218.out 1
     have hnb47 := NB219_220.out
     have hnc47 := NB220_219.out
     have hcz48_0 : w9.cell? ⟨gb219, 0, none⟩ = some (.int .i64 a2_0) := (blk_cell BK219.out 0).trans rfl
     have hcz48_1 : w9.cell? ⟨gb219, 1, none⟩ = some (.int .i64 a2_1) := (blk_cell BK219.out 1).trans rfl
     have hfz48_0 := blk_frozen BK219.out 0
     have hfz48_1 := blk_frozen BK219.out 1
     go_wp2_with (first | ((with_reducible refine gate_callee (f := 25) rfl ?_); refine goesL_ (some 12) rfl rfl Try.func25 (by kernel_rfl) rfl #[.agg #[.int .i64 a0_0, .int .i64 a0_1], .agg #[.int .i64 a1_0, .int .i64 a1_1], .agg #[.int .i64 a2_0, .int .i64 a2_1]] rfl am ?_; (with_reducible refine (pochoirref18_Between.calls a0_0 a0_1 a1_0 a1_1 a2_0 a2_1 false _ A10.out).mono ?_); rintro e w49 ⟨rfl, hb⟩; refine ⟨_, rfl, ?_⟩; replace BK217 := Aside0.mk (bb BK217.out hb); replace BK218 := Aside0.mk (bb BK218.out hb); replace BK219 := Aside0.mk (bb BK219.out hb); replace BK220 := Aside0.mk (bb BK220.out hb); replace HB := Aside0.mk (below_step (bl4 HB.out GE217.out GE218.out GE219.out GE220.out) hb); (try clear hb); (try clear hb2); (try clear hk); (try clear hi); have hcz50_0 : w49.cell? ⟨gb217, 0, none⟩ = some (.int .i64 a0_0) := (blk_cell BK217.out 0).trans rfl; have hcz50_1 : w49.cell? ⟨gb217, 1, none⟩ = some (.int .i64 a0_1) := (blk_cell BK217.out 1).trans rfl; have hfz50_0 := blk_frozen BK217.out 0; have hfz50_1 := blk_frozen BK217.out 1; have hcz51_0 : w49.cell? ⟨gb218, 0, none⟩ = some (.int .i64 a1_0) := (blk_cell BK218.out 0).trans rfl; have hcz51_1 : w49.cell? ⟨gb218, 1, none⟩ = some (.int .i64 a1_1) := (blk_cell BK218.out 1).trans rfl; have hfz51_0 := blk_frozen BK218.out 0; have hfz51_1 := blk_frozen BK218.out 1; have hcz52_0 : w49.cell? ⟨gb220, 0, none⟩ = some (.int .i64 a3_0) := (blk_cell BK220.out 0).trans rfl; have hcz52_1 : w49.cell? ⟨gb220, 1, none⟩ = some (.int .i64 a3_1) := (blk_cell BK220.out 1).trans rfl; have hfz52_0 := blk_frozen BK220.out 0; have hfz52_1 := blk_frozen BK220.out 1) | (go_at_call 25; (with_reducible refine (pochoirref18_Between.calls a0_0 a0_1 a1_0 a1_1 a3_0 a3_1 false _ A22.out).mono ?_); rintro e w53 ⟨rfl, hb⟩; replace BK217 := Aside0.mk (bb BK217.out hb); replace BK218 := Aside0.mk (bb BK218.out hb); replace BK219 := Aside0.mk (bb BK219.out hb); replace BK220 := Aside0.mk (bb BK220.out hb); replace HB := Aside0.mk (below_step (bl4 HB.out GE217.out GE218.out GE219.out GE220.out) hb); (try clear hb); (try clear hb2); (try clear hk); (try clear hi); have hcz54_0 : w53.cell? ⟨gb219, 0, none⟩ = some (.int .i64 a2_0) := (blk_cell BK219.out 0).trans rfl; have hcz54_1 : w53.cell? ⟨gb219, 1, none⟩ = some (.int .i64 a2_1) := (blk_cell BK219.out 1).trans rfl; have hfz54_0 := blk_frozen BK219.out 0; have hfz54_1 := blk_frozen BK219.out 1; have hcz55_0 : w53.cell? ⟨gb220, 0, none⟩ = some (.int .i64 a3_0) := (blk_cell BK220.out 0).trans rfl; have hcz55_1 : w53.cell? ⟨gb220, 1, none⟩ = some (.int .i64 a3_1) := (blk_cell BK220.out 1).trans rfl; have hfz55_0 := blk_frozen BK220.out 0; have hfz55_1 := blk_frozen BK220.out 1; have hcz56_0 : w53.cell? ⟨gb217, 0, none⟩ = some (.int .i64 a0_0) := (blk_cell BK217.out 0).trans rfl; have hcz56_1 : w53.cell? ⟨gb217, 1, none⟩ = some (.int .i64 a0_1) := (blk_cell BK217.out 1).trans rfl; have hfz56_0 := blk_frozen BK217.out 0; have hfz56_1 := blk_frozen BK217.out 1) | (go_at_call 25; (with_reducible refine (pochoirref18_Between.calls a2_0 a2_1 a3_0 a3_1 a0_0 a0_1 true _ A38.out).mono ?_); rintro e w57 ⟨rfl, hb⟩; replace BK217 := Aside0.mk (bb BK217.out hb); replace BK218 := Aside0.mk (bb BK218.out hb); replace BK219 := Aside0.mk (bb BK219.out hb); replace BK220 := Aside0.mk (bb BK220.out hb); replace HB := Aside0.mk (below_step (bl4 HB.out GE217.out GE218.out GE219.out GE220.out) hb); (try clear hb); (try clear hb2); (try clear hk); (try clear hi)))
     go_meet
     case rel => exact ⟨_, (true), fr, H', ⟨by first | omega | exact Nat.le_refl _⟩, ⟨bk BK217.out⟩, ⟨bk BK218.out⟩, ⟨bk BK219.out⟩, ⟨bk BK220.out⟩, ⟨bl4 HB.out GE217.out GE218.out GE219.out GE220.out⟩⟩
    ·replace c39 := Bool.eq_false_iff.mpr c39
     subst c39
     have H1 : ((pochoirref18_Between.f a2_0 a2_1 a3_0 a3_1 a1_0 a1_1).bind fun t224 => (pochoirref18_Meet.j0 k t224 a0_0 a0_1 a1_0 a1_1 a2_0 a2_1 a3_0 a3_1)) = some r := by rw [if_neg (show ¬ (false = true) by decide)] at H; exact H
     clear H
     have H := H1
     clear H1
     replace H := Option.bind_eq_some_iff.mp H
     obtain ⟨t224, A580, H⟩ := H
     replace H : (pochoirref18_Meet.j0 k t224 a0_0 a0_1 a1_0 a1_1 a2_0 a2_1 a3_0 a3_1) = some r := H
     have A58 := Aside0.mk A580
     clear A580
     have H' := Aside0.mk H
     clear H
     have hnb59 := NB217_218.out
     have hnc59 := NB218_217.out
     have hnb60 := NB217_219.out
     have hnc60 := NB219_217.out
     have hnb61 := NB217_220.out
     have hnc61 := NB220_217.out
     have hcz62_0 : w9.cell? ⟨gb217, 0, none⟩ = some (.int .i64 a0_0) := (blk_cell BK217.out 0).trans rfl
     have hcz62_1 : w9.cell? ⟨gb217, 1, none⟩ = some (.int .i64 a0_1) := (blk_cell BK217.out 1).trans rfl
     have hfz62_0 := blk_frozen BK217.out 0
     have hfz62_1 := blk_frozen BK217.out 1
     have hnb63 := NB218_219.out
     have hnc63 := NB219_218.out
     have hnb64 := NB218_220.out
     have hnc64 := NB220_218.out
     have hcz65_0 : w9.cell? ⟨gb218, 0, none⟩ = some (.int .i64 a1_0) := (blk_cell BK218.out 0).trans rfl
     have hcz65_1 : w9.cell? ⟨gb218, 1, none⟩ = some (.int .i64 a1_1) := (blk_cell BK218.out 1).trans rfl
     have hfz65_0 := blk_frozen BK218.out 0
     have hfz65_1 := blk_frozen BK218.out 1
     have hnb66 := NB219_220.out
     have hnc66 := NB220_219.out
     have hcz67_0 : w9.cell? ⟨gb219, 0, none⟩ = some (.int .i64 a2_0) := (blk_cell BK219.out 0).trans rfl
     have hcz67_1 : w9.cell? ⟨gb219, 1, none⟩ = some (.int .i64 a2_1) := (blk_cell BK219.out 1).trans rfl
     have hfz67_0 := blk_frozen BK219.out 0
     have hfz67_1 := blk_frozen BK219.out 1
     go_wp2_with (first | ((with_reducible refine gate_callee (f := 25) rfl ?_); refine goesL_ (some 12) rfl rfl Try.func25 (by kernel_rfl) rfl #[.agg #[.int .i64 a0_0, .int .i64 a0_1], .agg #[.int .i64 a1_0, .int .i64 a1_1], .agg #[.int .i64 a2_0, .int .i64 a2_1]] rfl am ?_; (with_reducible refine (pochoirref18_Between.calls a0_0 a0_1 a1_0 a1_1 a2_0 a2_1 false _ A10.out).mono ?_); rintro e w68 ⟨rfl, hb⟩; refine ⟨_, rfl, ?_⟩; replace BK217 := Aside0.mk (bb BK217.out hb); replace BK218 := Aside0.mk (bb BK218.out hb); replace BK219 := Aside0.mk (bb BK219.out hb); replace BK220 := Aside0.mk (bb BK220.out hb); replace HB := Aside0.mk (below_step (bl4 HB.out GE217.out GE218.out GE219.out GE220.out) hb); (try clear hb); (try clear hb2); (try clear hk); (try clear hi); have hcz69_0 : w68.cell? ⟨gb217, 0, none⟩ = some (.int .i64 a0_0) := (blk_cell BK217.out 0).trans rfl; have hcz69_1 : w68.cell? ⟨gb217, 1, none⟩ = some (.int .i64 a0_1) := (blk_cell BK217.out 1).trans rfl; have hfz69_0 := blk_frozen BK217.out 0; have hfz69_1 := blk_frozen BK217.out 1; have hcz70_0 : w68.cell? ⟨gb218, 0, none⟩ = some (.int .i64 a1_0) := (blk_cell BK218.out 0).trans rfl; have hcz70_1 : w68.cell? ⟨gb218, 1, none⟩ = some (.int .i64 a1_1) := (blk_cell BK218.out 1).trans rfl; have hfz70_0 := blk_frozen BK218.out 0; have hfz70_1 := blk_frozen BK218.out 1; have hcz71_0 : w68.cell? ⟨gb220, 0, none⟩ = some (.int .i64 a3_0) := (blk_cell BK220.out 0).trans rfl; have hcz71_1 : w68.cell? ⟨gb220, 1, none⟩ = some (.int .i64 a3_1) := (blk_cell BK220.out 1).trans rfl; have hfz71_0 := blk_frozen BK220.out 0; have hfz71_1 := blk_frozen BK220.out 1) | (go_at_call 25; (with_reducible refine (pochoirref18_Between.calls a0_0 a0_1 a1_0 a1_1 a3_0 a3_1 false _ A22.out).mono ?_); rintro e w72 ⟨rfl, hb⟩; replace BK217 := Aside0.mk (bb BK217.out hb); replace BK218 := Aside0.mk (bb BK218.out hb); replace BK219 := Aside0.mk (bb BK219.out hb); replace BK220 := Aside0.mk (bb BK220.out hb); replace HB := Aside0.mk (below_step (bl4 HB.out GE217.out GE218.out GE219.out GE220.out) hb); (try clear hb); (try clear hb2); (try clear hk); (try clear hi); have hcz73_0 : w72.cell? ⟨gb219, 0, none⟩ = some (.int .i64 a2_0) := (blk_cell BK219.out 0).trans rfl; have hcz73_1 : w72.cell? ⟨gb219, 1, none⟩ = some (.int .i64 a2_1) := (blk_cell BK219.out 1).trans rfl; have hfz73_0 := blk_frozen BK219.out 0; have hfz73_1 := blk_frozen BK219.out 1; have hcz74_0 : w72.cell? ⟨gb220, 0, none⟩ = some (.int .i64 a3_0) := (blk_cell BK220.out 0).trans rfl; have hcz74_1 : w72.cell? ⟨gb220, 1, none⟩ = some (.int .i64 a3_1) := (blk_cell BK220.out 1).trans rfl; have hfz74_0 := blk_frozen BK220.out 0; have hfz74_1 := blk_frozen BK220.out 1; have hcz75_0 : w72.cell? ⟨gb217, 0, none⟩ = some (.int .i64 a0_0) := (blk_cell BK217.out 0).trans rfl; have hcz75_1 : w72.cell? ⟨gb217, 1, none⟩ = some (.int .i64 a0_1) := (blk_cell BK217.out 1).trans rfl; have hfz75_0 := blk_frozen BK217.out 0; have hfz75_1 := blk_frozen BK217.out 1) | (go_at_call 25; (with_reducible refine (pochoirref18_Between.calls a2_0 a2_1 a3_0 a3_1 a0_0 a0_1 false _ A38.out).mono ?_); rintro e w76 ⟨rfl, hb⟩; replace BK217 := Aside0.mk (bb BK217.out hb); replace BK218 := Aside0.mk (bb BK218.out hb); replace BK219 := Aside0.mk (bb BK219.out hb); replace BK220 := Aside0.mk (bb BK220.out hb); replace HB := Aside0.mk (below_step (bl4 HB.out GE217.out GE218.out GE219.out GE220.out) hb); (try clear hb); (try clear hb2); (try clear hk); (try clear hi); have hcz77_0 : w76.cell? ⟨gb219, 0, none⟩ = some (.int .i64 a2_0) := (blk_cell BK219.out 0).trans rfl; have hcz77_1 : w76.cell? ⟨gb219, 1, none⟩ = some (.int .i64 a2_1) := (blk_cell BK219.out 1).trans rfl; have hfz77_0 := blk_frozen BK219.out 0; have hfz77_1 := blk_frozen BK219.out 1; have hcz78_0 : w76.cell? ⟨gb220, 0, none⟩ = some (.int .i64 a3_0) := (blk_cell BK220.out 0).trans rfl; have hcz78_1 : w76.cell? ⟨gb220, 1, none⟩ = some (.int .i64 a3_1) := (blk_cell BK220.out 1).trans rfl; have hfz78_0 := blk_frozen BK220.out 0; have hfz78_1 := blk_frozen BK220.out 1; have hcz79_0 : w76.cell? ⟨gb218, 0, none⟩ = some (.int .i64 a1_0) := (blk_cell BK218.out 0).trans rfl; have hcz79_1 : w76.cell? ⟨gb218, 1, none⟩ = some (.int .i64 a1_1) := (blk_cell BK218.out 1).trans rfl; have hfz79_0 := blk_frozen BK218.out 0; have hfz79_1 := blk_frozen BK218.out 1) | (go_at_call 25; (with_reducible refine (pochoirref18_Between.calls a2_0 a2_1 a3_0 a3_1 a1_0 a1_1 t224 _ A58.out).mono ?_); rintro e w80 ⟨rfl, hb⟩; replace BK217 := Aside0.mk (bb BK217.out hb); replace BK218 := Aside0.mk (bb BK218.out hb); replace BK219 := Aside0.mk (bb BK219.out hb); replace BK220 := Aside0.mk (bb BK220.out hb); replace HB := Aside0.mk (below_step (bl4 HB.out GE217.out GE218.out GE219.out GE220.out) hb); (try clear hb); (try clear hb2); (try clear hk); (try clear hi)))
     go_meet
     case rel => exact ⟨_, (t224), fr, H', ⟨by first | omega | exact Nat.le_refl _⟩, ⟨bk BK217.out⟩, ⟨bk BK218.out⟩, ⟨bk BK219.out⟩, ⟨bk BK220.out⟩, ⟨bl4 HB.out GE217.out GE218.out GE219.out GE220.out⟩⟩
 case rest =>
  clear HC5
  try clear c1
  try clear c2
  try clear p2
  try clear c3
  try clear c4
  try clear c5
  try clear c6
  try clear c11
  try clear c12
  try clear c13
  try clear c14
  try clear c16
  try clear c17
  try clear c19
  try clear c23
  try clear c24
  try clear c25
  try clear c26
  try clear c28
  try clear c29
  try clear c31
  try clear c39
  try clear c40
  try clear c41
  try clear c42
  try clear c44
  try clear c45
  try clear c47
  try clear c59
  try clear c60
  try clear c61
  try clear c63
  try clear c64
  try clear c66
  try clear hcz15_0
  try clear hcz15_1
  try clear hcz18_0
  try clear hcz18_1
  try clear hcz20_0
  try clear hcz20_1
  try clear hcz27_0
  try clear hcz27_1
  try clear hcz30_0
  try clear hcz30_1
  try clear hcz32_0
  try clear hcz32_1
  try clear hcz34_0
  try clear hcz34_1
  try clear hcz35_0
  try clear hcz35_1
  try clear hcz36_0
  try clear hcz36_1
  try clear hcz43_0
  try clear hcz43_1
  try clear hcz46_0
  try clear hcz46_1
  try clear hcz48_0
  try clear hcz48_1
  try clear hcz50_0
  try clear hcz50_1
  try clear hcz51_0
  try clear hcz51_1
  try clear hcz52_0
  try clear hcz52_1
  try clear hcz54_0
  try clear hcz54_1
  try clear hcz55_0
  try clear hcz55_1
  try clear hcz56_0
  try clear hcz56_1
  try clear hcz62_0
  try clear hcz62_1
  try clear hcz65_0
  try clear hcz65_1
  try clear hcz67_0
  try clear hcz67_1
  try clear hcz69_0
  try clear hcz69_1
  try clear hcz70_0
  try clear hcz70_1
  try clear hcz71_0
  try clear hcz71_1
  try clear hcz73_0
  try clear hcz73_1
  try clear hcz74_0
  try clear hcz74_1
  try clear hcz75_0
  try clear hcz75_1
  try clear hcz77_0
  try clear hcz77_1
  try clear hcz78_0
  try clear hcz78_1
  try clear hcz79_0
  try clear hcz79_1
  try clear hfz15_0
  try clear hfz15_1
  try clear hfz18_0
  try clear hfz18_1
  try clear hfz20_0
  try clear hfz20_1
  try clear hfz27_0
  try clear hfz27_1
  try clear hfz30_0
  try clear hfz30_1
  try clear hfz32_0
  try clear hfz32_1
  try clear hfz34_0
  try clear hfz34_1
  try clear hfz35_0
  try clear hfz35_1
  try clear hfz36_0
  try clear hfz36_1
  try clear hfz43_0
  try clear hfz43_1
  try clear hfz46_0
  try clear hfz46_1
  try clear hfz48_0
  try clear hfz48_1
  try clear hfz50_0
  try clear hfz50_1
  try clear hfz51_0
  try clear hfz51_1
  try clear hfz52_0
  try clear hfz52_1
  try clear hfz54_0
  try clear hfz54_1
  try clear hfz55_0
  try clear hfz55_1
  try clear hfz56_0
  try clear hfz56_1
  try clear hfz62_0
  try clear hfz62_1
  try clear hfz65_0
  try clear hfz65_1
  try clear hfz67_0
  try clear hfz67_1
  try clear hfz69_0
  try clear hfz69_1
  try clear hfz70_0
  try clear hfz70_1
  try clear hfz71_0
  try clear hfz71_1
  try clear hfz73_0
  try clear hfz73_1
  try clear hfz74_0
  try clear hfz74_1
  try clear hfz75_0
  try clear hfz75_1
  try clear hfz77_0
  try clear hfz77_1
  try clear hfz78_0
  try clear hfz78_1
  try clear hfz79_0
  try clear hfz79_1
  obtain ⟨kq, x30_4, rfl, HA, HJ4, BK217, BK218, BK219, BK220, HB⟩ := hcut
  cases kq with
  | zero => exact absurd HA.out (by simp [pochoirref18_Meet.j0])
  | succ kj4 =>
   have H := HA.out
   clear HA
   simp only [pochoirref18_Meet.j0] at H
   by_cases c81 : x30_4 = true
   ·subst c81
    have H1 : (some true) = some r := by rw [if_pos rfl] at H; exact H
    clear H
    have H := H1
    clear H1
    obtain rfl := Option.some.inj H
    go_wp2
    go_ret
    exact ⟨by first | rfl | (simp [errW_none, errW_some] <;> rfl) | (simp [*, errW_none, errW_some] <;> rfl), bl4 HB.out GE217.out GE218.out GE219.out GE220.out⟩
   ·replace c81 := Bool.eq_false_iff.mpr c81
    subst c81
    have H1 : ((pochoirref18_Cross.f a0_0 a0_1 a1_0 a1_1 a2_0 a2_1).bind fun t225 => ((pochoirref18_Sign.f t225).bind fun t226 => ((pochoirref18_Cross.f a0_0 a0_1 a1_0 a1_1 a3_0 a3_1).bind fun t227 => ((pochoirref18_Sign.f t227).bind fun t228 => (if (wrap64 (t226 * t228)) < 0 then ((pochoirref18_Cross.f a2_0 a2_1 a3_0 a3_1 a0_0 a0_1).bind fun t229 => ((pochoirref18_Sign.f t229).bind fun t230 => ((pochoirref18_Cross.f a2_0 a2_1 a3_0 a3_1 a1_0 a1_1).bind fun t231 => ((pochoirref18_Sign.f t231).bind fun t232 => (some (decide ((wrap64 (t230 * t232)) < 0))))))) else (some false)))))) = some r := by rw [if_neg (show ¬ (false = true) by decide)] at H; exact H
    clear H
    have H := H1
    clear H1
    replace H := Option.bind_eq_some_iff.mp H
    obtain ⟨t225, A820, H⟩ := H
    replace H : ((pochoirref18_Sign.f t225).bind fun t226 => ((pochoirref18_Cross.f a0_0 a0_1 a1_0 a1_1 a3_0 a3_1).bind fun t227 => ((pochoirref18_Sign.f t227).bind fun t228 => (if (wrap64 (t226 * t228)) < 0 then ((pochoirref18_Cross.f a2_0 a2_1 a3_0 a3_1 a0_0 a0_1).bind fun t229 => ((pochoirref18_Sign.f t229).bind fun t230 => ((pochoirref18_Cross.f a2_0 a2_1 a3_0 a3_1 a1_0 a1_1).bind fun t231 => ((pochoirref18_Sign.f t231).bind fun t232 => (some (decide ((wrap64 (t230 * t232)) < 0))))))) else (some false))))) = some r := H
    have A82 := Aside0.mk A820
    clear A820
    replace H := Option.bind_eq_some_iff.mp H
    obtain ⟨t226, A830, H⟩ := H
    replace H : ((pochoirref18_Cross.f a0_0 a0_1 a1_0 a1_1 a3_0 a3_1).bind fun t227 => ((pochoirref18_Sign.f t227).bind fun t228 => (if (wrap64 (t226 * t228)) < 0 then ((pochoirref18_Cross.f a2_0 a2_1 a3_0 a3_1 a0_0 a0_1).bind fun t229 => ((pochoirref18_Sign.f t229).bind fun t230 => ((pochoirref18_Cross.f a2_0 a2_1 a3_0 a3_1 a1_0 a1_1).bind fun t231 => ((pochoirref18_Sign.f t231).bind fun t232 => (some (decide ((wrap64 (t230 * t232)) < 0))))))) else (some false)))) = some r := H
    have A83 := Aside0.mk A830
    clear A830
    replace H := Option.bind_eq_some_iff.mp H
    obtain ⟨t227, A840, H⟩ := H
    replace H : ((pochoirref18_Sign.f t227).bind fun t228 => (if (wrap64 (t226 * t228)) < 0 then ((pochoirref18_Cross.f a2_0 a2_1 a3_0 a3_1 a0_0 a0_1).bind fun t229 => ((pochoirref18_Sign.f t229).bind fun t230 => ((pochoirref18_Cross.f a2_0 a2_1 a3_0 a3_1 a1_0 a1_1).bind fun t231 => ((pochoirref18_Sign.f t231).bind fun t232 => (some (decide ((wrap64 (t230 * t232)) < 0))))))) else (some false))) = some r := H
    have A84 := Aside0.mk A840
    clear A840
    replace H := Option.bind_eq_some_iff.mp H
    obtain ⟨t228, A850, H⟩ := H
    replace H : (if (wrap64 (t226 * t228)) < 0 then ((pochoirref18_Cross.f a2_0 a2_1 a3_0 a3_1 a0_0 a0_1).bind fun t229 => ((pochoirref18_Sign.f t229).bind fun t230 => ((pochoirref18_Cross.f a2_0 a2_1 a3_0 a3_1 a1_0 a1_1).bind fun t231 => ((pochoirref18_Sign.f t231).bind fun t232 => (some (decide ((wrap64 (t230 * t232)) < 0))))))) else (some false)) = some r := H
    have A85 := Aside0.mk A850
    clear A850
    by_cases c86 : (wrap64 (t226 * t228)) < 0
    ·rw [if_pos c86] at H
     have c86b0 : decide ((wrap64 (t226 * t228)) < 0) = true := decide_eq_true c86
     clear c86
     replace H := Option.bind_eq_some_iff.mp H
     obtain ⟨t229, A870, H⟩ := H
     replace H : ((pochoirref18_Sign.f t229).bind fun t230 => ((pochoirref18_Cross.f a2_0 a2_1 a3_0 a3_1 a1_0 a1_1).bind fun t231 => ((pochoirref18_Sign.f t231).bind fun t232 => (some (decide ((wrap64 (t230 * t232)) < 0)))))) = some r := H
     have A87 := Aside0.mk A870
     clear A870
     replace H := Option.bind_eq_some_iff.mp H
     obtain ⟨t230, A880, H⟩ := H
     replace H : ((pochoirref18_Cross.f a2_0 a2_1 a3_0 a3_1 a1_0 a1_1).bind fun t231 => ((pochoirref18_Sign.f t231).bind fun t232 => (some (decide ((wrap64 (t230 * t232)) < 0))))) = some r := H
     have A88 := Aside0.mk A880
     clear A880
     replace H := Option.bind_eq_some_iff.mp H
     obtain ⟨t231, A890, H⟩ := H
     replace H : ((pochoirref18_Sign.f t231).bind fun t232 => (some (decide ((wrap64 (t230 * t232)) < 0)))) = some r := H
     have A89 := Aside0.mk A890
     clear A890
     replace H := Option.bind_eq_some_iff.mp H
     obtain ⟨t232, A900, H⟩ := H
     replace H : (some (decide ((wrap64 (t230 * t232)) < 0))) = some r := H
     have A90 := Aside0.mk A900
     clear A900
     obtain rfl := Option.some.inj H
     try go_wp2
     replace BK217 := Aside0.mk (blk_drew BK217.out)
     replace BK218 := Aside0.mk (blk_drew BK218.out)
     replace BK219 := Aside0.mk (blk_drew BK219.out)
     replace BK220 := Aside0.mk (blk_drew BK220.out)
     replace HB := Aside0.mk (below_drew1 HB.out)
     refine start_ (n := 27) (S := fun w' => w'.cell? ⟨gb217, 0, none⟩ = some (.int .i64 a0_0) ∧ w'.cell? ⟨gb217, 1, none⟩ = some (.int .i64 a0_1) ∧ w'.cell? ⟨gb218, 0, none⟩ = some (.int .i64 a1_0) ∧ w'.cell? ⟨gb218, 1, none⟩ = some (.int .i64 a1_1) ∧ w'.cell? ⟨gb219, 0, none⟩ = some (.int .i64 a2_0) ∧ w'.cell? ⟨gb219, 1, none⟩ = some (.int .i64 a2_1) ∧ w'.cell? ⟨gb220, 0, none⟩ = some (.int .i64 a3_0) ∧ w'.cell? ⟨gb220, 1, none⟩ = some (.int .i64 a3_1)) (ds := []) (ba 27 0) (by kernel_rfl) rfl rfl ⟨(blk_cell BK217.out 0).trans rfl, (blk_cell BK217.out 1).trans rfl, (blk_cell BK218.out 0).trans rfl, (blk_cell BK218.out 1).trans rfl, (blk_cell BK219.out 0).trans rfl, (blk_cell BK219.out 1).trans rfl, (blk_cell BK220.out 0).trans rfl, (blk_cell BK220.out 1).trans rfl⟩ (fun hHeld => ?_); refine with_tabW pochoirref18_Meet.tab3 pochoirref18_Meet.bits3 (fun HT_ HW_ => ?_)
     generalize wc.drew = w91 at BK217 BK218 BK219 BK220 HB hHeld ⊢
     refine take_ (i := 0) (N := some 31) (v := ?_) (a' := ?_) (ba 27 1) rfl rfl (take_ofW HT_.out HW_.out (by kernel_rfl)) (fun _ _ _ h => h) (Or.inl ⟨by rfl, ?_⟩) hHeld ?_ ?_
     rotate_left
     ·rintro w' ⟨s0, s1, s2, s3, s4, s5, s6, s7⟩
      go_simp
      with_reducible rfl
     rotate_left
     ·simp only [Act.put, List.setIfInBounds_toArray, List.set_cons_zero, List.set_cons_succ, i64_w, i32_w]
      rfl
     refine take_ (i := 1) (N := some 32) (v := ?_) (a' := ?_) (ba 27 3) rfl rfl (take_ofW HT_.out HW_.out (by kernel_rfl)) (fun _ _ _ h => h) (Or.inl ⟨by rfl, ?_⟩) hHeld ?_ ?_
     rotate_left
     ·rintro w' ⟨s0, s1, s2, s3, s4, s5, s6, s7⟩
      go_simp
      with_reducible rfl
     rotate_left
     ·simp only [Act.put, List.setIfInBounds_toArray, List.set_cons_zero, List.set_cons_succ, i64_w, i32_w]
      rfl
     refine take_ (i := 2) (N := some 33) (v := ?_) (a' := ?_) (ba 27 7) rfl rfl (take_ofW HT_.out HW_.out (by kernel_rfl)) (fun _ _ _ h => h) (Or.inl ⟨by rfl, ?_⟩) hHeld ?_ ?_
     rotate_left
     ·rintro w' ⟨s0, s1, s2, s3, s4, s5, s6, s7⟩
      go_simp
      with_reducible rfl
     rotate_left
     ·simp only [Act.put, List.setIfInBounds_toArray, List.set_cons_zero, List.set_cons_succ, i64_w, i32_w]
      rfl
     refine take_ (i := 5) (N := some 36) (v := ?_) (a' := ?_) (ba 27 39) rfl rfl (take_ofW HT_.out HW_.out (by kernel_rfl)) (fun _ _ _ h => h) (Or.inl ⟨by rfl, ?_⟩) hHeld ?_ ?_
     rotate_left
     ·rintro w' ⟨s0, s1, s2, s3, s4, s5, s6, s7⟩
      go_simp
      with_reducible rfl
     rotate_left
     ·simp only [Act.put, List.setIfInBounds_toArray, List.set_cons_zero, List.set_cons_succ, i64_w, i32_w]
      rfl
     refine take_ (i := 6) (N := some 37) (v := ?_) (a' := ?_) (ba 27 103) rfl rfl (take_ofW HT_.out HW_.out (by kernel_rfl)) (fun _ _ _ h => h) (Or.inl ⟨by rfl, ?_⟩) hHeld ?_ ?_
     rotate_left
     ·rintro w' ⟨s0, s1, s2, s3, s4, s5, s6, s7⟩
      go_simp
      with_reducible rfl
     rotate_left
     ·simp only [Act.put, List.setIfInBounds_toArray, List.set_cons_zero, List.set_cons_succ, i64_w, i32_w]
      rfl
     refine take_ (i := 7) (N := some 38) (v := ?_) (a' := ?_) (ba 27 231) rfl rfl (take_ofW HT_.out HW_.out (by kernel_rfl)) (fun _ _ _ h => h) (Or.inl ⟨by rfl, ?_⟩) hHeld ?_ ?_
     rotate_left
     ·rintro w' ⟨s0, s1, s2, s3, s4, s5, s6, s7⟩
      go_simp
      with_reducible rfl
     rotate_left
     ·simp only [Act.put, List.setIfInBounds_toArray, List.set_cons_zero, List.set_cons_succ, i64_w, i32_w]
      rfl
     refine one_ (i := 3) (N := some 34) (ba 27 239) rfl rfl (one_of HT_.out (by kernel_rfl)) (by decide) (fun K hK => ?_)
     refine goes_ Try.func23 (by kernel_rfl) rfl #[.agg #[.int .i64 a0_0, .int .i64 a0_1], .agg #[.int .i64 a1_0, .int .i64 a1_1], .agg #[.int .i64 a2_0, .int .i64 a2_1]] (by rfl) rfl rfl am ?_
     with_reducible refine (pochoirref18_Cross.calls a0_0 a0_1 a1_0 a1_1 a2_0 a2_1 t225 _ A82.out).mono ?_
     rintro e w92 ⟨rfl, hb⟩
     refine ⟨_, rfl, ?_⟩
     replace BK217 := Aside0.mk (bb BK217.out hb)
     replace BK218 := Aside0.mk (bb BK218.out hb)
     replace BK219 := Aside0.mk (bb BK219.out hb)
     replace BK220 := Aside0.mk (bb BK220.out hb)
     replace HB := Aside0.mk (below_step (bl4 HB.out GE217.out GE218.out GE219.out GE220.out) hb)
     (try clear hb)
     (try clear hb2)
     (try clear hk)
     (try clear hi)
     refine hK.out _ _ ⟨(blk_cell BK217.out 0).trans rfl, (blk_cell BK217.out 1).trans rfl, (blk_cell BK218.out 0).trans rfl, (blk_cell BK218.out 1).trans rfl, (blk_cell BK219.out 0).trans rfl, (blk_cell BK219.out 1).trans rfl, (blk_cell BK220.out 0).trans rfl, (blk_cell BK220.out 1).trans rfl⟩ (fun hHeld => ?_)
     clear hK K
     refine norm_ (a' := ?_) ?_ ?_
     rotate_left
     ·show Act.put _ (some 34) _ = _
      simp only [Act.put, List.setIfInBounds_toArray, List.set_cons_zero, List.set_cons_succ, i64_w, i32_w]
      rfl
     refine one_ (i := 4) (N := some 35) (ba 27 255) rfl rfl (one_of HT_.out (by kernel_rfl)) (by decide) (fun K hK => ?_)
     refine goes_ Try.func24 (by kernel_rfl) rfl #[.int .i64 t225] (by rfl) rfl rfl am ?_
     with_reducible refine (pochoirref18_Sign.calls t225 t226 _ A83.out).mono ?_
     rintro e w' ⟨rfl, ⟨nd, rfl⟩⟩
     refine ⟨_, rfl, ?_⟩
     refine hK.out _ _ ⟨(blk_cell BK217.out 0).trans rfl, (blk_cell BK217.out 1).trans rfl, (blk_cell BK218.out 0).trans rfl, (blk_cell BK218.out 1).trans rfl, (blk_cell BK219.out 0).trans rfl, (blk_cell BK219.out 1).trans rfl, (blk_cell BK220.out 0).trans rfl, (blk_cell BK220.out 1).trans rfl⟩ (fun hHeld => ?_)
     clear hK K
     refine norm_ (a' := ?_) ?_ ?_
     rotate_left
     ·show Act.put _ (some 35) _ = _
      simp only [Act.put, List.setIfInBounds_toArray, List.set_cons_zero, List.set_cons_succ, i64_w, i32_w]
      rfl
     refine one_ (i := 8) (N := some 39) (ba 27 511) rfl rfl (one_of HT_.out (by kernel_rfl)) (by decide) (fun K hK => ?_)
     refine goes_ Try.func23 (by kernel_rfl) rfl #[.agg #[.int .i64 a0_0, .int .i64 a0_1], .agg #[.int .i64 a1_0, .int .i64 a1_1], .agg #[.int .i64 a3_0, .int .i64 a3_1]] (by rfl) rfl rfl am ?_
     with_reducible refine (pochoirref18_Cross.calls a0_0 a0_1 a1_0 a1_1 a3_0 a3_1 t227 _ A84.out).mono ?_
     rintro e w93 ⟨rfl, hb⟩
     refine ⟨_, rfl, ?_⟩
     replace BK217 := Aside0.mk (bb BK217.out hb)
     replace BK218 := Aside0.mk (bb BK218.out hb)
     replace BK219 := Aside0.mk (bb BK219.out hb)
     replace BK220 := Aside0.mk (bb BK220.out hb)
     replace HB := Aside0.mk (below_step (bl4 HB.out GE217.out GE218.out GE219.out GE220.out) hb)
     (try clear hb)
     (try clear hb2)
     (try clear hk)
     (try clear hi)
     refine hK.out _ _ ⟨(blk_cell BK217.out 0).trans rfl, (blk_cell BK217.out 1).trans rfl, (blk_cell BK218.out 0).trans rfl, (blk_cell BK218.out 1).trans rfl, (blk_cell BK219.out 0).trans rfl, (blk_cell BK219.out 1).trans rfl, (blk_cell BK220.out 0).trans rfl, (blk_cell BK220.out 1).trans rfl⟩ (fun hHeld => ?_)
     clear hK K
     refine norm_ (a' := ?_) ?_ ?_
     rotate_left
     ·show Act.put _ (some 39) _ = _
      simp only [Act.put, List.setIfInBounds_toArray, List.set_cons_zero, List.set_cons_succ, i64_w, i32_w]
      rfl
     refine one_ (i := 9) (N := some 40) (ba 27 1023) rfl rfl (one_of HT_.out (by kernel_rfl)) (by decide) (fun K hK => ?_)
     refine goes_ Try.func24 (by kernel_rfl) rfl #[.int .i64 t227] (by rfl) rfl rfl am ?_
     with_reducible refine (pochoirref18_Sign.calls t227 t228 _ A85.out).mono ?_
     rintro e w' ⟨rfl, ⟨nd, rfl⟩⟩
     refine ⟨_, rfl, ?_⟩
     refine hK.out _ _ ⟨(blk_cell BK217.out 0).trans rfl, (blk_cell BK217.out 1).trans rfl, (blk_cell BK218.out 0).trans rfl, (blk_cell BK218.out 1).trans rfl, (blk_cell BK219.out 0).trans rfl, (blk_cell BK219.out 1).trans rfl, (blk_cell BK220.out 0).trans rfl, (blk_cell BK220.out 1).trans rfl⟩ (fun hHeld => ?_)
     clear hK K
     refine norm_ (a' := ?_) ?_ ?_
     rotate_left
     ·show Act.put _ (some 40) _ = _
      simp only [Act.put, List.setIfInBounds_toArray, List.set_cons_zero, List.set_cons_succ, i64_w, i32_w]
      rfl
     refine pI 10 41 (ba 27 2047) HT_.out ?_
     refine pI 11 42 (ba 27 4095) HT_.out ?_
     refine pI 12 43 (ba 27 8191) HT_.out ?_
     refine take_ (i := 13) (N := some 44) (v := ?_) (a' := ?_) (ba 27 16383) rfl rfl (take_ofW HT_.out HW_.out (by kernel_rfl)) (fun _ _ _ h => h) (Or.inl ⟨by rfl, ?_⟩) hHeld ?_ ?_
     rotate_left
     ·rintro w' ⟨s0, s1, s2, s3, s4, s5, s6, s7⟩
      go_simp
      with_reducible rfl
     rotate_left
     ·simp only [Act.put, List.setIfInBounds_toArray, List.set_cons_zero, List.set_cons_succ, i64_w, i32_w]
      rfl
     refine take_ (i := 14) (N := some 45) (v := ?_) (a' := ?_) (ba 27 32767) rfl rfl (take_ofW HT_.out HW_.out (by kernel_rfl)) (fun _ _ _ h => h) (Or.inl ⟨by rfl, ?_⟩) hHeld ?_ ?_
     rotate_left
     ·rintro w' ⟨s0, s1, s2, s3, s4, s5, s6, s7⟩
      go_simp
      with_reducible rfl
     rotate_left
     ·simp only [Act.put, List.setIfInBounds_toArray, List.set_cons_zero, List.set_cons_succ, i64_w, i32_w]
      rfl
     refine take_ (i := 15) (N := some 46) (v := ?_) (a' := ?_) (ba 27 65535) rfl rfl (take_ofW HT_.out HW_.out (by kernel_rfl)) (fun _ _ _ h => h) (Or.inl ⟨by rfl, ?_⟩) hHeld ?_ ?_
     rotate_left
     ·rintro w' ⟨s0, s1, s2, s3, s4, s5, s6, s7⟩
      go_simp
      with_reducible rfl
     rotate_left
     ·simp only [Act.put, List.setIfInBounds_toArray, List.set_cons_zero, List.set_cons_succ, i64_w, i32_w]
      rfl
     refine take_ (i := 18) (N := some 49) (v := ?_) (a' := ?_) (ba 27 327679) rfl rfl (take_ofW HT_.out HW_.out (by kernel_rfl)) (fun _ _ _ h => h) (Or.inl ⟨by rfl, ?_⟩) hHeld ?_ ?_
     rotate_left
     ·rintro w' ⟨s0, s1, s2, s3, s4, s5, s6, s7⟩
      go_simp
      with_reducible rfl
     rotate_left
     ·simp only [Act.put, List.setIfInBounds_toArray, List.set_cons_zero, List.set_cons_succ, i64_w, i32_w]
      rfl
     refine take_ (i := 19) (N := some 50) (v := ?_) (a' := ?_) (ba 27 851967) rfl rfl (take_ofW HT_.out HW_.out (by kernel_rfl)) (fun _ _ _ h => h) (Or.inl ⟨by rfl, ?_⟩) hHeld ?_ ?_
     rotate_left
     ·rintro w' ⟨s0, s1, s2, s3, s4, s5, s6, s7⟩
      go_simp
      with_reducible rfl
     rotate_left
     ·simp only [Act.put, List.setIfInBounds_toArray, List.set_cons_zero, List.set_cons_succ, i64_w, i32_w]
      rfl
     refine take_ (i := 20) (N := some 51) (v := ?_) (a' := ?_) (ba 27 1900543) rfl rfl (take_ofW HT_.out HW_.out (by kernel_rfl)) (fun _ _ _ h => h) (Or.inl ⟨by rfl, ?_⟩) hHeld ?_ ?_
     rotate_left
     ·rintro w' ⟨s0, s1, s2, s3, s4, s5, s6, s7⟩
      go_simp
      with_reducible rfl
     rotate_left
     ·simp only [Act.put, List.setIfInBounds_toArray, List.set_cons_zero, List.set_cons_succ, i64_w, i32_w]
      rfl
     refine one_ (i := 16) (N := some 47) (ba 27 1966079) rfl rfl (one_of HT_.out (by kernel_rfl)) (by decide) (fun K hK => ?_)
     refine goes_ Try.func23 (by kernel_rfl) rfl #[.agg #[.int .i64 a2_0, .int .i64 a2_1], .agg #[.int .i64 a3_0, .int .i64 a3_1], .agg #[.int .i64 a0_0, .int .i64 a0_1]] (by rfl) rfl rfl am ?_
     with_reducible refine (pochoirref18_Cross.calls a2_0 a2_1 a3_0 a3_1 a0_0 a0_1 t229 _ A87.out).mono ?_
     rintro e w94 ⟨rfl, hb⟩
     refine ⟨_, rfl, ?_⟩
     replace BK217 := Aside0.mk (bb BK217.out hb)
     replace BK218 := Aside0.mk (bb BK218.out hb)
     replace BK219 := Aside0.mk (bb BK219.out hb)
     replace BK220 := Aside0.mk (bb BK220.out hb)
     replace HB := Aside0.mk (below_step (bl4 HB.out GE217.out GE218.out GE219.out GE220.out) hb)
     (try clear hb)
     (try clear hb2)
     (try clear hk)
     (try clear hi)
     refine hK.out _ _ ⟨(blk_cell BK217.out 0).trans rfl, (blk_cell BK217.out 1).trans rfl, (blk_cell BK218.out 0).trans rfl, (blk_cell BK218.out 1).trans rfl, (blk_cell BK219.out 0).trans rfl, (blk_cell BK219.out 1).trans rfl, (blk_cell BK220.out 0).trans rfl, (blk_cell BK220.out 1).trans rfl⟩ (fun hHeld => ?_)
     clear hK K
     refine norm_ (a' := ?_) ?_ ?_
     rotate_left
     ·show Act.put _ (some 47) _ = _
      simp only [Act.put, List.setIfInBounds_toArray, List.set_cons_zero, List.set_cons_succ, i64_w, i32_w]
      rfl
     refine one_ (i := 17) (N := some 48) (ba 27 2097151) rfl rfl (one_of HT_.out (by kernel_rfl)) (by decide) (fun K hK => ?_)
     refine goes_ Try.func24 (by kernel_rfl) rfl #[.int .i64 t229] (by rfl) rfl rfl am ?_
     with_reducible refine (pochoirref18_Sign.calls t229 t230 _ A88.out).mono ?_
     rintro e w' ⟨rfl, ⟨nd, rfl⟩⟩
     refine ⟨_, rfl, ?_⟩
     refine hK.out _ _ ⟨(blk_cell BK217.out 0).trans rfl, (blk_cell BK217.out 1).trans rfl, (blk_cell BK218.out 0).trans rfl, (blk_cell BK218.out 1).trans rfl, (blk_cell BK219.out 0).trans rfl, (blk_cell BK219.out 1).trans rfl, (blk_cell BK220.out 0).trans rfl, (blk_cell BK220.out 1).trans rfl⟩ (fun hHeld => ?_)
     clear hK K
     refine norm_ (a' := ?_) ?_ ?_
     rotate_left
     ·show Act.put _ (some 48) _ = _
      simp only [Act.put, List.setIfInBounds_toArray, List.set_cons_zero, List.set_cons_succ, i64_w, i32_w]
      rfl
     refine one_ (i := 21) (N := some 52) (ba 27 4194303) rfl rfl (one_of HT_.out (by kernel_rfl)) (by decide) (fun K hK => ?_)
     refine goes_ Try.func23 (by kernel_rfl) rfl #[.agg #[.int .i64 a2_0, .int .i64 a2_1], .agg #[.int .i64 a3_0, .int .i64 a3_1], .agg #[.int .i64 a1_0, .int .i64 a1_1]] (by rfl) rfl rfl am ?_
     with_reducible refine (pochoirref18_Cross.calls a2_0 a2_1 a3_0 a3_1 a1_0 a1_1 t231 _ A89.out).mono ?_
     rintro e w95 ⟨rfl, hb⟩
     refine ⟨_, rfl, ?_⟩
     replace BK217 := Aside0.mk (bb BK217.out hb)
     replace BK218 := Aside0.mk (bb BK218.out hb)
     replace BK219 := Aside0.mk (bb BK219.out hb)
     replace BK220 := Aside0.mk (bb BK220.out hb)
     replace HB := Aside0.mk (below_step (bl4 HB.out GE217.out GE218.out GE219.out GE220.out) hb)
     (try clear hb)
     (try clear hb2)
     (try clear hk)
     (try clear hi)
     refine hK.out _ _ ⟨(blk_cell BK217.out 0).trans rfl, (blk_cell BK217.out 1).trans rfl, (blk_cell BK218.out 0).trans rfl, (blk_cell BK218.out 1).trans rfl, (blk_cell BK219.out 0).trans rfl, (blk_cell BK219.out 1).trans rfl, (blk_cell BK220.out 0).trans rfl, (blk_cell BK220.out 1).trans rfl⟩ (fun hHeld => ?_)
     clear hK K
     refine norm_ (a' := ?_) ?_ ?_
     rotate_left
     ·show Act.put _ (some 52) _ = _
      simp only [Act.put, List.setIfInBounds_toArray, List.set_cons_zero, List.set_cons_succ, i64_w, i32_w]
      rfl
     refine one_ (i := 22) (N := some 53) (ba 27 8388607) rfl rfl (one_of HT_.out (by kernel_rfl)) (by decide) (fun K hK => ?_)
     refine goes_ Try.func24 (by kernel_rfl) rfl #[.int .i64 t231] (by rfl) rfl rfl am ?_
     with_reducible refine (pochoirref18_Sign.calls t231 t232 _ A90.out).mono ?_
     rintro e w' ⟨rfl, ⟨nd, rfl⟩⟩
     refine ⟨_, rfl, ?_⟩
     refine hK.out _ _ ⟨(blk_cell BK217.out 0).trans rfl, (blk_cell BK217.out 1).trans rfl, (blk_cell BK218.out 0).trans rfl, (blk_cell BK218.out 1).trans rfl, (blk_cell BK219.out 0).trans rfl, (blk_cell BK219.out 1).trans rfl, (blk_cell BK220.out 0).trans rfl, (blk_cell BK220.out 1).trans rfl⟩ (fun hHeld => ?_)
     clear hK K
     refine norm_ (a' := ?_) ?_ ?_
     rotate_left
     ·show Act.put _ (some 53) _ = _
      simp only [Act.put, List.setIfInBounds_toArray, List.set_cons_zero, List.set_cons_succ, i64_w, i32_w]
      rfl
     refine pI 23 54 (ba 27 16777215) HT_.out ?_
     refine pI 24 55 (ba 27 33554431) HT_.out ?_
     refine pI 25 56 (ba 27 67108863) HT_.out ?_
     refine pI 26 8 (ba 27 134217727) HT_.out ?_
     refine done_ (done_of HT_.out (by kernel_rfl)) ?_
     try go_wp2
     go_ret
     exact ⟨by first | rfl | (simp [errW_none, errW_some] <;> rfl) | (simp [*, errW_none, errW_some] <;> rfl), bl4 HB.out GE217.out GE218.out GE219.out GE220.out⟩
    ·rw [if_neg c86] at H
     have c86b0 : decide ((wrap64 (t226 * t228)) < 0) = false := decide_eq_false c86
     clear c86
     obtain rfl := Option.some.inj H
     try go_wp2
     replace BK217 := Aside0.mk (blk_drew BK217.out)
     replace BK218 := Aside0.mk (blk_drew BK218.out)
     replace BK219 := Aside0.mk (blk_drew BK219.out)
     replace BK220 := Aside0.mk (blk_drew BK220.out)
     replace HB := Aside0.mk (below_drew1 HB.out)
     refine start_ (n := 27) (S := fun w' => w'.cell? ⟨gb217, 0, none⟩ = some (.int .i64 a0_0) ∧ w'.cell? ⟨gb217, 1, none⟩ = some (.int .i64 a0_1) ∧ w'.cell? ⟨gb218, 0, none⟩ = some (.int .i64 a1_0) ∧ w'.cell? ⟨gb218, 1, none⟩ = some (.int .i64 a1_1) ∧ w'.cell? ⟨gb219, 0, none⟩ = some (.int .i64 a2_0) ∧ w'.cell? ⟨gb219, 1, none⟩ = some (.int .i64 a2_1) ∧ w'.cell? ⟨gb220, 0, none⟩ = some (.int .i64 a3_0) ∧ w'.cell? ⟨gb220, 1, none⟩ = some (.int .i64 a3_1)) (ds := []) (ba 27 0) (by kernel_rfl) rfl rfl ⟨(blk_cell BK217.out 0).trans rfl, (blk_cell BK217.out 1).trans rfl, (blk_cell BK218.out 0).trans rfl, (blk_cell BK218.out 1).trans rfl, (blk_cell BK219.out 0).trans rfl, (blk_cell BK219.out 1).trans rfl, (blk_cell BK220.out 0).trans rfl, (blk_cell BK220.out 1).trans rfl⟩ (fun hHeld => ?_); refine with_tabW pochoirref18_Meet.tab3 pochoirref18_Meet.bits3 (fun HT_ HW_ => ?_)
     generalize wc.drew = w96 at BK217 BK218 BK219 BK220 HB hHeld ⊢
     refine take_ (i := 0) (N := some 31) (v := ?_) (a' := ?_) (ba 27 1) rfl rfl (take_ofW HT_.out HW_.out (by kernel_rfl)) (fun _ _ _ h => h) (Or.inl ⟨by rfl, ?_⟩) hHeld ?_ ?_
     rotate_left
     ·rintro w' ⟨s0, s1, s2, s3, s4, s5, s6, s7⟩
      go_simp
      with_reducible rfl
     rotate_left
     ·simp only [Act.put, List.setIfInBounds_toArray, List.set_cons_zero, List.set_cons_succ, i64_w, i32_w]
      rfl
     refine take_ (i := 1) (N := some 32) (v := ?_) (a' := ?_) (ba 27 3) rfl rfl (take_ofW HT_.out HW_.out (by kernel_rfl)) (fun _ _ _ h => h) (Or.inl ⟨by rfl, ?_⟩) hHeld ?_ ?_
     rotate_left
     ·rintro w' ⟨s0, s1, s2, s3, s4, s5, s6, s7⟩
      go_simp
      with_reducible rfl
     rotate_left
     ·simp only [Act.put, List.setIfInBounds_toArray, List.set_cons_zero, List.set_cons_succ, i64_w, i32_w]
      rfl
     refine take_ (i := 2) (N := some 33) (v := ?_) (a' := ?_) (ba 27 7) rfl rfl (take_ofW HT_.out HW_.out (by kernel_rfl)) (fun _ _ _ h => h) (Or.inl ⟨by rfl, ?_⟩) hHeld ?_ ?_
     rotate_left
     ·rintro w' ⟨s0, s1, s2, s3, s4, s5, s6, s7⟩
      go_simp
      with_reducible rfl
     rotate_left
     ·simp only [Act.put, List.setIfInBounds_toArray, List.set_cons_zero, List.set_cons_succ, i64_w, i32_w]
      rfl
     refine take_ (i := 5) (N := some 36) (v := ?_) (a' := ?_) (ba 27 39) rfl rfl (take_ofW HT_.out HW_.out (by kernel_rfl)) (fun _ _ _ h => h) (Or.inl ⟨by rfl, ?_⟩) hHeld ?_ ?_
     rotate_left
     ·rintro w' ⟨s0, s1, s2, s3, s4, s5, s6, s7⟩
      go_simp
      with_reducible rfl
     rotate_left
     ·simp only [Act.put, List.setIfInBounds_toArray, List.set_cons_zero, List.set_cons_succ, i64_w, i32_w]
      rfl
     refine take_ (i := 6) (N := some 37) (v := ?_) (a' := ?_) (ba 27 103) rfl rfl (take_ofW HT_.out HW_.out (by kernel_rfl)) (fun _ _ _ h => h) (Or.inl ⟨by rfl, ?_⟩) hHeld ?_ ?_
     rotate_left
     ·rintro w' ⟨s0, s1, s2, s3, s4, s5, s6, s7⟩
      go_simp
      with_reducible rfl
     rotate_left
     ·simp only [Act.put, List.setIfInBounds_toArray, List.set_cons_zero, List.set_cons_succ, i64_w, i32_w]
      rfl
     refine take_ (i := 7) (N := some 38) (v := ?_) (a' := ?_) (ba 27 231) rfl rfl (take_ofW HT_.out HW_.out (by kernel_rfl)) (fun _ _ _ h => h) (Or.inl ⟨by rfl, ?_⟩) hHeld ?_ ?_
     rotate_left
     ·rintro w' ⟨s0, s1, s2, s3, s4, s5, s6, s7⟩
      go_simp
      with_reducible rfl
     rotate_left
     ·simp only [Act.put, List.setIfInBounds_toArray, List.set_cons_zero, List.set_cons_succ, i64_w, i32_w]
      rfl
     refine one_ (i := 3) (N := some 34) (ba 27 239) rfl rfl (one_of HT_.out (by kernel_rfl)) (by decide) (fun K hK => ?_)
     refine goes_ Try.func23 (by kernel_rfl) rfl #[.agg #[.int .i64 a0_0, .int .i64 a0_1], .agg #[.int .i64 a1_0, .int .i64 a1_1], .agg #[.int .i64 a2_0, .int .i64 a2_1]] (by rfl) rfl rfl am ?_
     with_reducible refine (pochoirref18_Cross.calls a0_0 a0_1 a1_0 a1_1 a2_0 a2_1 t225 _ A82.out).mono ?_
     rintro e w97 ⟨rfl, hb⟩
     refine ⟨_, rfl, ?_⟩
     replace BK217 := Aside0.mk (bb BK217.out hb)
     replace BK218 := Aside0.mk (bb BK218.out hb)
     replace BK219 := Aside0.mk (bb BK219.out hb)
     replace BK220 := Aside0.mk (bb BK220.out hb)
     replace HB := Aside0.mk (below_step (bl4 HB.out GE217.out GE218.out GE219.out GE220.out) hb)
     (try clear hb)
     (try clear hb2)
     (try clear hk)
     (try clear hi)
     refine hK.out _ _ ⟨(blk_cell BK217.out 0).trans rfl, (blk_cell BK217.out 1).trans rfl, (blk_cell BK218.out 0).trans rfl, (blk_cell BK218.out 1).trans rfl, (blk_cell BK219.out 0).trans rfl, (blk_cell BK219.out 1).trans rfl, (blk_cell BK220.out 0).trans rfl, (blk_cell BK220.out 1).trans rfl⟩ (fun hHeld => ?_)
     clear hK K
     refine norm_ (a' := ?_) ?_ ?_
     rotate_left
     ·show Act.put _ (some 34) _ = _
      simp only [Act.put, List.setIfInBounds_toArray, List.set_cons_zero, List.set_cons_succ, i64_w, i32_w]
      rfl
     refine one_ (i := 4) (N := some 35) (ba 27 255) rfl rfl (one_of HT_.out (by kernel_rfl)) (by decide) (fun K hK => ?_)
     refine goes_ Try.func24 (by kernel_rfl) rfl #[.int .i64 t225] (by rfl) rfl rfl am ?_
     with_reducible refine (pochoirref18_Sign.calls t225 t226 _ A83.out).mono ?_
     rintro e w' ⟨rfl, ⟨nd, rfl⟩⟩
     refine ⟨_, rfl, ?_⟩
     refine hK.out _ _ ⟨(blk_cell BK217.out 0).trans rfl, (blk_cell BK217.out 1).trans rfl, (blk_cell BK218.out 0).trans rfl, (blk_cell BK218.out 1).trans rfl, (blk_cell BK219.out 0).trans rfl, (blk_cell BK219.out 1).trans rfl, (blk_cell BK220.out 0).trans rfl, (blk_cell BK220.out 1).trans rfl⟩ (fun hHeld => ?_)
     clear hK K
     refine norm_ (a' := ?_) ?_ ?_
     rotate_left
     ·show Act.put _ (some 35) _ = _
      simp only [Act.put, List.setIfInBounds_toArray, List.set_cons_zero, List.set_cons_succ, i64_w, i32_w]
      rfl
     refine one_ (i := 8) (N := some 39) (ba 27 511) rfl rfl (one_of HT_.out (by kernel_rfl)) (by decide) (fun K hK => ?_)
     refine goes_ Try.func23 (by kernel_rfl) rfl #[.agg #[.int .i64 a0_0, .int .i64 a0_1], .agg #[.int .i64 a1_0, .int .i64 a1_1], .agg #[.int .i64 a3_0, .int .i64 a3_1]] (by rfl) rfl rfl am ?_
     with_reducible refine (pochoirref18_Cross.calls a0_0 a0_1 a1_0 a1_1 a3_0 a3_1 t227 _ A84.out).mono ?_
     rintro e w98 ⟨rfl, hb⟩
     refine ⟨_, rfl, ?_⟩
     replace BK217 := Aside0.mk (bb BK217.out hb)
     replace BK218 := Aside0.mk (bb BK218.out hb)
     replace BK219 := Aside0.mk (bb BK219.out hb)
     replace BK220 := Aside0.mk (bb BK220.out hb)
     replace HB := Aside0.mk (below_step (bl4 HB.out GE217.out GE218.out GE219.out GE220.out) hb)
     (try clear hb)
     (try clear hb2)
     (try clear hk)
     (try clear hi)
     refine hK.out _ _ ⟨(blk_cell BK217.out 0).trans rfl, (blk_cell BK217.out 1).trans rfl, (blk_cell BK218.out 0).trans rfl, (blk_cell BK218.out 1).trans rfl, (blk_cell BK219.out 0).trans rfl, (blk_cell BK219.out 1).trans rfl, (blk_cell BK220.out 0).trans rfl, (blk_cell BK220.out 1).trans rfl⟩ (fun hHeld => ?_)
     clear hK K
     refine norm_ (a' := ?_) ?_ ?_
     rotate_left
     ·show Act.put _ (some 39) _ = _
      simp only [Act.put, List.setIfInBounds_toArray, List.set_cons_zero, List.set_cons_succ, i64_w, i32_w]
      rfl
     refine one_ (i := 9) (N := some 40) (ba 27 1023) rfl rfl (one_of HT_.out (by kernel_rfl)) (by decide) (fun K hK => ?_)
     refine goes_ Try.func24 (by kernel_rfl) rfl #[.int .i64 t227] (by rfl) rfl rfl am ?_
     with_reducible refine (pochoirref18_Sign.calls t227 t228 _ A85.out).mono ?_
     rintro e w' ⟨rfl, ⟨nd, rfl⟩⟩
     refine ⟨_, rfl, ?_⟩
     refine hK.out _ _ ⟨(blk_cell BK217.out 0).trans rfl, (blk_cell BK217.out 1).trans rfl, (blk_cell BK218.out 0).trans rfl, (blk_cell BK218.out 1).trans rfl, (blk_cell BK219.out 0).trans rfl, (blk_cell BK219.out 1).trans rfl, (blk_cell BK220.out 0).trans rfl, (blk_cell BK220.out 1).trans rfl⟩ (fun hHeld => ?_)
     clear hK K
     refine norm_ (a' := ?_) ?_ ?_
     rotate_left
     ·show Act.put _ (some 40) _ = _
      simp only [Act.put, List.setIfInBounds_toArray, List.set_cons_zero, List.set_cons_succ, i64_w, i32_w]
      rfl
     refine pI 10 41 (ba 27 2047) HT_.out ?_
     refine pI 11 42 (ba 27 4095) HT_.out ?_
     refine pI 12 43 (ba 27 8191) HT_.out ?_
     refine pO 13 44 (ba 27 16383) HT_.out ?_
     refine pO 14 45 (ba 27 32767) HT_.out ?_
     refine pO 15 46 (ba 27 65535) HT_.out ?_
     refine pO 16 47 (ba 27 131071) HT_.out ?_
     refine pO 17 48 (ba 27 262143) HT_.out ?_
     refine pO 18 49 (ba 27 524287) HT_.out ?_
     refine pO 19 50 (ba 27 1048575) HT_.out ?_
     refine pO 20 51 (ba 27 2097151) HT_.out ?_
     refine pO 21 52 (ba 27 4194303) HT_.out ?_
     refine pO 22 53 (ba 27 8388607) HT_.out ?_
     refine pO 23 54 (ba 27 16777215) HT_.out ?_
     refine pO 24 55 (ba 27 33554431) HT_.out ?_
     refine pI 25 56 (ba 27 67108863) HT_.out ?_
     refine pI 26 8 (ba 27 134217727) HT_.out ?_
     refine done_ (done_of HT_.out (by kernel_rfl)) ?_
     try go_wp2
     go_ret
     exact ⟨by first | rfl | (simp [errW_none, errW_some] <;> rfl) | (simp [*, errW_none, errW_some] <;> rfl), bl4 HB.out GE217.out GE218.out GE219.out GE220.out⟩

end Go.Proofs.Ytemhnlameekmkaa.XPlan
