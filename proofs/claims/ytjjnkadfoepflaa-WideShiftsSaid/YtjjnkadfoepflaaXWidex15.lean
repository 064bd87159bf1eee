-- Printed by a program of this claim. Not trusted: Lean checks it.
import Derived.Test.YtjjnkadfoepflaaXWidex0
import Derived.Test.YtjjnkadfoepflaaXWidex1
import Derived.Test.YtjjnkadfoepflaaXWidex3
import Derived.Test.YtjjnkadfoepflaaXWidex4
import Derived.Test.YtjjnkadfoepflaaXWidex5
import Derived.Test.YtjjnkadfoepflaaXWidex14
namespace Go.Proofs.Ytjjnkadfoepflaa.XWide
open Go.RowKit Go.Proofs.YtjjnkadfoepflaaW.PrintWords Go.Proofs.YtjjnkadfoepflaaW.PrintLast Go.Proofs.YtjjnkadfoepflaaW.PrintMore
attribute [local go_sem] max2_int min2_int max_two min_two max_three min_three max_four min_four   -- for this text's walks alone
set_option linter.unusedVariables false
set_option linter.unusedSimpArgs false
open XOpen

attribute [local go_sem high] eqA24
/-! ### pochoirlaw01_WideShifts: function 6 -/
def pochoirlaw01_WideShifts.j0 : Nat → Int → Int → Bool → Int → Int → Int → Int → Int → Int → Option (Bool)
 | 0, _, _, _, _, _, _, _, _, _ => none
 | k + 1, x2, x8, x25, x396000, x396001, x397000, x397001, x402000, x402001 => if x25 = true then (if x2 > 0 then (if (x402000 == 0 && (x402001 == 0)) = true then (if ((x8 == 2) == (!(x396000 == 0) || (!(x396001 == 0)))) = true then (some ((x8 == 0) == (!(!(x396000 == 0) || (!(x396001 == 0)))))) else (some false)) else (some false)) else (if (x402000 == 0 && (x402001 == 0)) = true then (if ((x8 == 2) == false) = true then (some ((x8 == 0) == (!false))) else (some false)) else (some false))) else ((pochoirref01_Shift.f k x396000 x396001 x2).bind fun bt402 => (if (x402000 == bt402.1 && (x402001 == bt402.2.1)) = true then (if x8 = bt402.2.2 then ((wide_Bits.f k x396000 x396001).bind fun t406 => ((pochoirref01_Bits.f k x396000 x396001).bind fun t407 => (if t406 = t407 then ((wide_Cmp.f k x396000 x396001 x397000 x397001).bind fun t408 => ((pochoirref01_Digits.f k x396000 x396001).bind fun t409 => ((pochoirref01_Digits.f k x397000 x397001).bind fun t412 => ((pochoirref01_Less.f k t409 t412).bind fun t415 => (if t408 = t415 then ((wide_Cmp.f k x396000 x396001 x396000 x396001).bind fun t416 => (some (t416 == 0))) else (some false)))))) else (some false)))) else (some false)) else (some false)))
def pochoirlaw01_WideShifts.f (k : Nat) (a0_0 : Int) (a0_1 : Int) (a1_0 : Int) (a1_1 : Int) (a2 : Int) : Option (Bool) := (pochoirlaw01_awake.f k).bind fun t397 => (if t397 = true then ((wide_Shift.f k a0_0 a0_1 a2).bind fun bt398 => (if a2 > 200 then (pochoirlaw01_WideShifts.j0 k a2 bt398.2.2 true a0_0 a0_1 a1_0 a1_1 bt398.1 bt398.2.1) else (pochoirlaw01_WideShifts.j0 k a2 bt398.2.2 (decide (a2 < (-200))) a0_0 a0_1 a1_0 a1_1 bt398.1 bt398.2.1))) else (some false))
theorem pochoirlaw01_WideShifts.mono_l : ∀ k, (∀ y0 y1 y2 y3 y4 y5 y6 y7 y8, LeO (pochoirlaw01_WideShifts.j0 k y0 y1 y2 y3 y4 y5 y6 y7 y8) (pochoirlaw01_WideShifts.j0 (k + 1) y0 y1 y2 y3 y4 y5 y6 y7 y8))
 | 0 => fun _ _ _ _ _ _ _ _ _ r h => by simp [pochoirlaw01_WideShifts.j0] at h
 | k + 1 => by
  have ih0 := pochoirlaw01_WideShifts.mono_l k
  ·intro y0 y1 y2 y3 y4 y5 y6 y7 y8
   unfold pochoirlaw01_WideShifts.j0
   repeat' first
   | (with_reducible exact ih0 _ _ _ _ _ _ _ _ _)
   | (with_reducible exact pochoirlaw01_awake.mono _)
   | (with_reducible exact pochoirref01_Bits.mono _ _ _)
   | (with_reducible exact pochoirref01_Digits.mono _ _ _)
   | (with_reducible exact pochoirref01_Less.mono _ _ _)
   | (with_reducible exact pochoirref01_Shift.mono _ _ _ _)
   | (with_reducible exact wide_Bits.mono _ _ _)
   | (with_reducible exact wide_Cmp.mono _ _ _ _ _)
   | (with_reducible exact wide_Shift.mono _ _ _ _)
   | (with_reducible exact LeO.refl _)
   | (with_reducible exact LeO.none _)
   | (with_reducible refine LeO.ite ?_ ?_)
   | (with_reducible refine LeO.bind ?_ (fun _ => ?_))
   | exact ih0 _ _ _ _ _ _ _ _ _
   | exact pochoirlaw01_awake.mono _
   | exact pochoirref01_Bits.mono _ _ _
   | exact pochoirref01_Digits.mono _ _ _
   | exact pochoirref01_Less.mono _ _ _
   | exact pochoirref01_Shift.mono _ _ _ _
   | exact wide_Bits.mono _ _ _
   | exact wide_Cmp.mono _ _ _ _ _
   | exact wide_Shift.mono _ _ _ _
   | exact LeO.none _
   | refine LeO.ite ?_ ?_
   | refine LeO.bind ?_ (fun _ => ?_)
theorem pochoirlaw01_WideShifts.mono : ∀ a0 a1 a2 a3 a4 k, LeO (pochoirlaw01_WideShifts.f k a0 a1 a2 a3 a4) (pochoirlaw01_WideShifts.f (k + 1) a0 a1 a2 a3 a4) := by
 intro a0 a1 a2 a3 a4 k
 have ih0 := pochoirlaw01_WideShifts.mono_l k
 unfold pochoirlaw01_WideShifts.f
 repeat' first
   | (with_reducible exact ih0 _ _ _ _ _ _ _ _ _)
   | (with_reducible exact pochoirlaw01_awake.mono _)
   | (with_reducible exact pochoirref01_Bits.mono _ _ _)
   | (with_reducible exact pochoirref01_Digits.mono _ _ _)
   | (with_reducible exact pochoirref01_Less.mono _ _ _)
   | (with_reducible exact pochoirref01_Shift.mono _ _ _ _)
   | (with_reducible exact wide_Bits.mono _ _ _)
   | (with_reducible exact wide_Cmp.mono _ _ _ _ _)
   | (with_reducible exact wide_Shift.mono _ _ _ _)
   | (with_reducible exact LeO.refl _)
   | (with_reducible exact LeO.none _)
   | (with_reducible refine LeO.ite ?_ ?_)
   | (with_reducible refine LeO.bind ?_ (fun _ => ?_))
   | exact ih0 _ _ _ _ _ _ _ _ _
   | exact pochoirlaw01_awake.mono _
   | exact pochoirref01_Bits.mono _ _ _
   | exact pochoirref01_Digits.mono _ _ _
   | exact pochoirref01_Less.mono _ _ _
   | exact pochoirref01_Shift.mono _ _ _ _
   | exact wide_Bits.mono _ _ _
   | exact wide_Cmp.mono _ _ _ _ _
   | exact wide_Shift.mono _ _ _ _
   | exact LeO.none _
   | refine LeO.ite ?_ ?_
   | refine LeO.bind ?_ (fun _ => ?_)
def pochoirlaw01_WideShifts.T8 : Bool × List (List Nat × List Nat) := (true, [([], []), ([], []), ([0, 1], [0, 1]), ([2], [2]), ([3], [3]), ([3], [3]), ([4, 5, 3], [3, 4, 5]), ([3, 6], [3, 6]), ([7, 3], [7]), ([8], [8]), ([9, 8, 8], [8, 9]), ([8], [8]), ([11, 10, 8], [8, 11]), ([10, 12, 8], [8, 10, 12]), ([8, 13], [8, 13]), ([14, 12], [14]), ([15], [15]), ([15], [15]), ([16, 17, 15, 15], [15, 16, 17]), ([15], [15]), ([19, 18, 15], [15, 19]), ([15], [15]), ([21, 20, 15], [15, 21]), ([20, 22, 22, 15], [15, 20, 22]), ([18, 23, 15], [15, 18, 23]), ([15, 24], [15, 24]), ([25, 23], [25]), ([26], [26]), ([26], [26]), ([27, 28, 26, 26], [26, 27, 28]), ([29, 26], [26, 29]), ([26, 30], [26, 30]), ([31, 29, 0, 1, 2, 3, 4, 5, 6, 7, 8, 9, 10, 11, 12, 13, 14, 15, 16, 17, 18, 19, 20, 21, 22, 23, 24, 25, 26, 27, 28, 29, 30, 31], [31])])
def pochoirlaw01_WideShifts.B8 : List Nat := [0, 0, 3, 7, 15, 15, 63, 127, 255, 511, 1023, 511, 4095, 8191, 16383, 32767, 65535, 65535, 262143, 65535, 1048575, 65535, 4194303, 8388607, 16777215, 33554431, 67108863, 134217727, 134217727, 536870911, 1073741823, 2147483647, 4294967295]
theorem pochoirlaw01_WideShifts.tab8 : rtab .any (opsOf Try.f6 8) = pochoirlaw01_WideShifts.T8 := by kernel_rfl
theorem pochoirlaw01_WideShifts.bits8 : waitsOk pochoirlaw01_WideShifts.T8.2 pochoirlaw01_WideShifts.B8 = true := by kernel_rfl
set_option maxHeartbeats 8000000 in
set_option maxRecDepth 100000 in
theorem pochoirlaw01_WideShifts.calls (k : Nat) (a0_0 : Int) (a0_1 : Int) (a1_0 : Int) (a1_1 : Int) (a2 : Int) (r : Bool) (w : World) (hq_ : r = true) (h : pochoirlaw01_WideShifts.f k a0_0 a0_1 a1_0 a1_1 a2 = some r) :
  Calls Try.prog 6 #[.agg #[.int .u64 a0_0, .int .u64 a0_1], .agg #[.int .u64 a1_0, .int .u64 a1_1], .int .i64 a2] w fun e w' => e = .returned (.bool r) ∧ Below w.heap.size w w' := by
 have hu24 := Try.underlying24
 have HB := Aside0.mk (Below.refl w.heap.size w)
 have HQ := Aside0.mk hq_
 clear hq_
 have H : ((pochoirlaw01_awake.f k).bind fun t397 => (if t397 = true then ((wide_Shift.f k a0_0 a0_1 a2).bind fun bt398 => (if a2 > 200 then (pochoirlaw01_WideShifts.j0 k a2 bt398.2.2 true a0_0 a0_1 a1_0 a1_1 bt398.1 bt398.2.1) else (pochoirlaw01_WideShifts.j0 k a2 bt398.2.2 (decide (a2 < (-200))) a0_0 a0_1 a1_0 a1_1 bt398.1 bt398.2.1))) else (some false))) = some r := h
 clear h
 replace H := Option.bind_eq_some_iff.mp H
 obtain ⟨t397, A40, H⟩ := H
 replace H : (if t397 = true then ((wide_Shift.f k a0_0 a0_1 a2).bind fun bt398 => (if a2 > 200 then (pochoirlaw01_WideShifts.j0 k a2 bt398.2.2 true a0_0 a0_1 a1_0 a1_1 bt398.1 bt398.2.1) else (pochoirlaw01_WideShifts.j0 k a2 bt398.2.2 (decide (a2 < (-200))) a0_0 a0_1 a1_0 a1_1 bt398.1 bt398.2.1))) else (some false)) = some r := H
 have A4 := Aside0.mk A40
 clear A40
 by_cases c5 : t397 = true
 ·subst c5
  have H1 : ((wide_Shift.f k a0_0 a0_1 a2).bind fun bt398 => (if a2 > 200 then (pochoirlaw01_WideShifts.j0 k a2 bt398.2.2 true a0_0 a0_1 a1_0 a1_1 bt398.1 bt398.2.1) else (pochoirlaw01_WideShifts.j0 k a2 bt398.2.2 (decide (a2 < (-200))) a0_0 a0_1 a1_0 a1_1 bt398.1 bt398.2.1))) = some r := by rw [if_pos rfl] at H; exact H
  clear H
  have H := H1
  clear H1
  replace H := Option.bind_eq_some_iff.mp H
  obtain ⟨⟨t398, t399, t400⟩, A60, H⟩ := H
  replace H : (if a2 > 200 then (pochoirlaw01_WideShifts.j0 k a2 t400 true a0_0 a0_1 a1_0 a1_1 t398 t399) else (pochoirlaw01_WideShifts.j0 k a2 t400 (decide (a2 < (-200))) a0_0 a0_1 a1_0 a1_1 t398 t399)) = some r := H
  have A6 := Aside0.mk A60
  clear A60
  have HC7 := Aside0.mk H
  clear H
  go_enter Try.func6, Try.ntmps6
  go_upto_region 4 with (first | ((with_reducible refine gate_dst (N := 3) rfl ?_); refine be 3 (#[.int .u64 a0_0, .int .u64 a0_1]) 24 ?_; intro gb395 hg w8 hbox hb; have BK395 := Aside0.mk (hbox); have GW395 := Aside0.mk ((by rw [hg]; exact (below_size (bl0 HB.out)) : w.heap.size ≤ gb395)); have GE395 := GW395; replace HB := Aside0.mk (below_step (bl0 HB.out) hb); clear hb hbox hg) | ((with_reducible refine gate_dst (N := 4) rfl ?_); refine be 4 (#[.int .u64 a1_0, .int .u64 a1_1]) 24 ?_; intro gb396 hg w9 hbox hb; have BK396 := Aside0.mk (hbox); have GW396 := Aside0.mk ((by rw [hg]; exact (below_size (bl1 HB.out GE395.out)) : w.heap.size ≤ gb396)); have GE396 := GW396; have NB395_396 := Aside0.mk ((by rw [hg]; exact Nat.ne_of_lt (lt_ BK395.out) : gb395 ≠ gb396)); have NB396_395 := Aside0.mk ((by rw [hg]; exact Nat.ne_of_gt (lt_ BK395.out) : gb396 ≠ gb395)); replace BK395 := Aside0.mk (bb BK395.out hb); replace HB := Aside0.mk (below_step (bl1 HB.out GE395.out) hb); clear hb hbox hg) | ((with_reducible refine gate_callee (f := 7) rfl ?_); refine goesL_ (some 12) rfl rfl Try.func7 (by kernel_rfl) rfl #[] rfl am ?_; (with_reducible refine (pochoirlaw01_awake.calls k  true _ A4.out).mono ?_); rintro e w10 ⟨rfl, hb⟩; refine ⟨_, rfl, ?_⟩; replace BK395 := Aside0.mk (bb BK395.out hb); replace BK396 := Aside0.mk (bb BK396.out hb); replace HB := Aside0.mk (below_step (bl2 HB.out GE395.out GE396.out) hb); (try clear hb); (try clear hb2); (try clear hk); (try clear hi); have hnb11 := NB395_396.out; have hnc11 := NB396_395.out; have hcz12_0 : w10.cell? ⟨gb395, 0, none⟩ = some (.int .u64 a0_0) := (blk_cell BK395.out 0).trans rfl; have hcz12_1 : w10.cell? ⟨gb395, 1, none⟩ = some (.int .u64 a0_1) := (blk_cell BK395.out 1).trans rfl; have hfz12_0 := blk_frozen BK395.out 0; have hfz12_1 := blk_frozen BK395.out 1) | ((with_reducible refine gate_callee (f := 20) rfl ?_); refine goesL_ (some 17) rfl rfl Try.func20 (by kernel_rfl) rfl #[.agg #[.int .u64 a0_0, .int .u64 a0_1], .int .i64 a2] rfl am ?_; (with_reducible refine (wide_Shift.calls k a0_0 a0_1 a2 t398 t399 t400 _ A6.out).mono ?_); rintro e w13 ⟨rfl, hb⟩; refine ⟨_, rfl, ?_⟩; replace BK395 := Aside0.mk (bb BK395.out hb); replace BK396 := Aside0.mk (bb BK396.out hb); replace HB := Aside0.mk (below_step (bl2 HB.out GE395.out GE396.out) hb); (try clear hb); (try clear hb2); (try clear hk); (try clear hi)) | ((with_reducible refine gate_dst (N := 7) rfl ?_); refine be 7 (#[.int .u64 0, .int .u64 0]) 24 ?_; intro gb401 hg w14 hbox hb; have BK401 := Aside0.mk (hbox); have GW401 := Aside0.mk ((by rw [hg]; exact (below_size (bl2 HB.out GE395.out GE396.out)) : w.heap.size ≤ gb401)); have GE401 := GW401; have NB395_401 := Aside0.mk ((by rw [hg]; exact Nat.ne_of_lt (lt_ BK395.out) : gb395 ≠ gb401)); have NB401_395 := Aside0.mk ((by rw [hg]; exact Nat.ne_of_gt (lt_ BK395.out) : gb401 ≠ gb395)); have NB396_401 := Aside0.mk ((by rw [hg]; exact Nat.ne_of_lt (lt_ BK396.out) : gb396 ≠ gb401)); have NB401_396 := Aside0.mk ((by rw [hg]; exact Nat.ne_of_gt (lt_ BK396.out) : gb401 ≠ gb396)); replace BK395 := Aside0.mk (bb BK395.out hb); replace BK396 := Aside0.mk (bb BK396.out hb); replace HB := Aside0.mk (below_step (bl2 HB.out GE395.out GE396.out) hb); clear hb hbox hg; have hnb15 := NB401_395.out; have hnc15 := NB395_401.out; have hnb16 := NB401_396.out; have hnc16 := NB396_401.out; have hcz17_0 : w14.cell? ⟨gb401, 0, none⟩ = some (.int .u64 0) := (blk_cell BK401.out 0).trans rfl; have hcz17_1 : w14.cell? ⟨gb401, 1, none⟩ = some (.int .u64 0) := (blk_cell BK401.out 1).trans rfl; have hfz17_0 := blk_frozen BK401.out 0; have hfz17_1 := blk_frozen BK401.out 1))
  (try simp only [Act.put, List.setIfInBounds_toArray, List.set_cons_zero, List.set_cons_succ])
  go_cut [25] (fun v25 wc => ∃ (kq : Nat) (x25_6 : Bool), v25 = .bool x25_6 ∧ Aside0 (pochoirlaw01_WideShifts.j0 kq a2 t400 x25_6 a0_0 a0_1 a1_0 a1_1 t398 t399 = some r) ∧ Aside0 (kq ≤ k) ∧ Aside0 (wc.heap[gb395]? = some (.cells #[.int .u64 a0_0, .int .u64 a0_1] 24 (0, 0))) ∧ Aside0 (wc.heap[gb396]? = some (.cells #[.int .u64 a1_0, .int .u64 a1_1] 24 (0, 0))) ∧ Aside0 (wc.heap[gb401]? = some (.cells #[.int .u64 t398, .int .u64 t399] 24 (0, 0))) ∧ Aside0 (Below w.heap.size w wc))
  case first =>
   have H := HC7.out
   clear HC7
   by_cases c18 : a2 > 200
   ·rw [if_pos c18] at H
    have c18b0 : decide (200 < a2) = true := decide_eq_true c18
    clear c18
    (first | rw [c18b0] | (simp only [i64_w, i32_w]; rw [c18b0]) | skip)
    have H' := Aside0.mk H
    clear H
    go_wp2
    go_meet
    case rel => exact ⟨_, (true), fr, H', ⟨by first | omega | exact Nat.le_refl _⟩, ⟨by (with_reducible repeat (first | refine blk_drewN ?_ _ | refine blk_drew ?_ | refine blk_alloc ?_ _)); refine blk_far ?_ NB395_401.out _; (with_reducible repeat (first | refine blk_drewN ?_ _ | refine blk_drew ?_ | refine blk_alloc ?_ _)); refine blk_far ?_ NB395_401.out _; (with_reducible repeat (first | refine blk_drewN ?_ _ | refine blk_drew ?_ | refine blk_alloc ?_ _)); exact BK395.out⟩, ⟨by (with_reducible repeat (first | refine blk_drewN ?_ _ | refine blk_drew ?_ | refine blk_alloc ?_ _)); refine blk_far ?_ NB396_401.out _; (with_reducible repeat (first | refine blk_drewN ?_ _ | refine blk_drew ?_ | refine blk_alloc ?_ _)); refine blk_far ?_ NB396_401.out _; (with_reducible repeat (first | refine blk_drewN ?_ _ | refine blk_drew ?_ | refine blk_alloc ?_ _)); exact BK396.out⟩, ⟨by (with_reducible repeat (first | refine blk_drewN ?_ _ | refine blk_drew ?_ | refine blk_alloc ?_ _)); refine blk_put (cs := #[.int .u64 t398, .int .u64 0]) ?_ 1 _ rfl; (with_reducible repeat (first | refine blk_drewN ?_ _ | refine blk_drew ?_ | refine blk_alloc ?_ _)); refine blk_put (cs := #[.int .u64 0, .int .u64 0]) ?_ 0 _ rfl; (with_reducible repeat (first | refine blk_drewN ?_ _ | refine blk_drew ?_ | refine blk_alloc ?_ _)); exact BK401.out⟩, ⟨bl3 HB.out GE395.out GE396.out GE401.out⟩⟩
   ·rw [if_neg c18] at H
    have c18b0 : decide (200 < a2) = false := decide_eq_false c18
    clear c18
    (first | rw [c18b0] | (simp only [i64_w, i32_w]; rw [c18b0]) | skip)
    have H' := Aside0.mk H
    clear H
    go_wp2
    go_meet
    case rel => exact ⟨_, (decide (a2 < (-200))), fr, H', ⟨by first | omega | exact Nat.le_refl _⟩, ⟨by (with_reducible repeat (first | refine blk_drewN ?_ _ | refine blk_drew ?_ | refine blk_alloc ?_ _)); refine blk_far ?_ NB395_401.out _; (with_reducible repeat (first | refine blk_drewN ?_ _ | refine blk_drew ?_ | refine blk_alloc ?_ _)); refine blk_far ?_ NB395_401.out _; (with_reducible repeat (first | refine blk_drewN ?_ _ | refine blk_drew ?_ | refine blk_alloc ?_ _)); exact BK395.out⟩, ⟨by (with_reducible repeat (first | refine blk_drewN ?_ _ | refine blk_drew ?_ | refine blk_alloc ?_ _)); refine blk_far ?_ NB396_401.out _; (with_reducible repeat (first | refine blk_drewN ?_ _ | refine blk_drew ?_ | refine blk_alloc ?_ _)); refine blk_far ?_ NB396_401.out _; (with_reducible repeat (first | refine blk_drewN ?_ _ | refine blk_drew ?_ | refine blk_alloc ?_ _)); exact BK396.out⟩, ⟨by (with_reducible repeat (first | refine blk_drewN ?_ _ | refine blk_drew ?_ | refine blk_alloc ?_ _)); refine blk_put (cs := #[.int .u64 t398, .int .u64 0]) ?_ 1 _ rfl; (with_reducible repeat (first | refine blk_drewN ?_ _ | refine blk_drew ?_ | refine blk_alloc ?_ _)); refine blk_put (cs := #[.int .u64 0, .int .u64 0]) ?_ 0 _ rfl; (with_reducible repeat (first | refine blk_drewN ?_ _ | refine blk_drew ?_ | refine blk_alloc ?_ _)); exact BK401.out⟩, ⟨bl3 HB.out GE395.out GE396.out GE401.out⟩⟩
  case rest =>
   clear HC7
   try clear c1
   try clear c2
   try clear p2
   try clear c5
   try clear c6
   try clear c7
   try clear c11
   try clear c15
   try clear c16
   try clear c18
   try clear c18b0
   try clear hcz12_0
   try clear hcz12_1
   try clear hcz17_0
   try clear hcz17_1
   try clear hfz12_0
   try clear hfz12_1
   try clear hfz17_0
   try clear hfz17_1
   obtain ⟨kq, x25_6, rfl, HA, HJ6, BK395, BK396, BK401, HB⟩ := hcut
   cases kq with
   | zero => exact absurd HA.out (by simp [pochoirlaw01_WideShifts.j0])
   | succ kj6 =>
    have H := HA.out
    clear HA
    simp only [pochoirlaw01_WideShifts.j0] at H
    by_cases c19 : x25_6 = true
    ·subst c19
     have H1 : (if a2 > 0 then (if (t398 == 0 && (t399 == 0)) = true then (if ((t400 == 2) == (!(a0_0 == 0) || (!(a0_1 == 0)))) = true then (some ((t400 == 0) == (!(!(a0_0 == 0) || (!(a0_1 == 0)))))) else (some false)) else (some false)) else (if (t398 == 0 && (t399 == 0)) = true then (if ((t400 == 2) == false) = true then (some ((t400 == 0) == (!false))) else (some false)) else (some false))) = some r := by rw [if_pos rfl] at H; exact H
     clear H
     have H := H1
     clear H1
     by_cases c20 : a2 > 0
     ·rw [if_pos c20] at H
      have c20b0 : decide (0 < a2) = true := decide_eq_true c20
      clear c20
      by_cases c21 : (t398 == 0 && (t399 == 0)) = true
      ·rw [if_pos c21] at H
       have c21b0 : (t398 == 0 && (t399 == 0)) = true := c21
       (try (have c21b1 : decide (t398 = 0 && (t399 == 0)) = true := by simpa using c21))
       (try (have c21b2 : (t398 == 0 && (t399 == 0)) = true := by simpa using c21))
       clear c21
       by_cases c22 : ((t400 == 2) == (!(a0_0 == 0) || (!(a0_1 == 0)))) = true
       ·rw [if_pos c22] at H
        have c22b0 : ((t400 == 2) == (!(a0_0 == 0) || (!(a0_1 == 0)))) = true := c22
        (try (have c22b1 : decide ((t400 == 2) = (!(a0_0 == 0) || (!(a0_1 == 0)))) = true := by simpa using c22))
        (try (have c22b2 : ((t400 == 2) == (!(a0_0 == 0) || (!(a0_1 == 0)))) = true := by simpa using c22))
        clear c22
        obtain rfl := Option.some.inj H
        have hnb23 := NB395_396.out
        have hnc23 := NB396_395.out
        have hnb24 := NB395_401.out
        have hnc24 := NB401_395.out
        have hcz25_0 : wc.cell? ⟨gb395, 0, none⟩ = some (.int .u64 a0_0) := (blk_cell BK395.out 0).trans rfl
        have hcz25_1 : wc.cell? ⟨gb395, 1, none⟩ = some (.int .u64 a0_1) := (blk_cell BK395.out 1).trans rfl
        have hfz25_0 := blk_frozen BK395.out 0
        have hfz25_1 := blk_frozen BK395.out 1
        have hnb26 := NB401_396.out
        have hnc26 := NB396_401.out
        have hcz27_0 : wc.cell? ⟨gb401, 0, none⟩ = some (.int .u64 t398) := (blk_cell BK401.out 0).trans rfl
        have hcz27_1 : wc.cell? ⟨gb401, 1, none⟩ = some (.int .u64 t399) := (blk_cell BK401.out 1).trans rfl
        have hfz27_0 := blk_frozen BK401.out 0
        have hfz27_1 := blk_frozen BK401.out 1
        go_wp2
        go_ret
        exact ⟨by first | rfl | (simp [errW_none, errW_some] <;> rfl) | (simp [*, errW_none, errW_some] <;> rfl), bl3 HB.out GE395.out GE396.out GE401.out⟩
       ·rw [if_neg c22] at H
        have c22b0 : ((t400 == 2) == (!(a0_0 == 0) || (!(a0_1 == 0)))) = false := by simpa using c22
        (try (have c22b1 : decide ((t400 == 2) = (!(a0_0 == 0) || (!(a0_1 == 0)))) = false := by simpa using c22))
        (try (have c22b2 : ((t400 == 2) == (!(a0_0 == 0) || (!(a0_1 == 0)))) = false := by simpa using c22))
        (try (have c22b3 : ¬ ((t400 == 2) = (!(a0_0 == 0) || (!(a0_1 == 0)))) := by simpa using c22))
        clear c22
        exact absurd (HQ.out ▸ H) (by simp)
      ·rw [if_neg c21] at H
       have c21b0 : (t398 == 0 && (t399 == 0)) = false := by simpa using c21
       (try (have c21b1 : decide (t398 = 0 && (t399 == 0)) = false := by simpa using c21))
       (try (have c21b2 : (t398 == 0 && (t399 == 0)) = false := by simpa using c21))
       (try (have c21b3 : ¬ (t398 = 0 && (t399 == 0)) := by simpa using c21))
       clear c21
       exact absurd (HQ.out ▸ H) (by simp)
     ·rw [if_neg c20] at H
      have c20b0 : decide (0 < a2) = false := decide_eq_false c20
      clear c20
      by_cases c28 : (t398 == 0 && (t399 == 0)) = true
      ·rw [if_pos c28] at H
       have c28b0 : (t398 == 0 && (t399 == 0)) = true := c28
       (try (have c28b1 : decide (t398 = 0 && (t399 == 0)) = true := by simpa using c28))
       (try (have c28b2 : (t398 == 0 && (t399 == 0)) = true := by simpa using c28))
       clear c28
       by_cases c29 : ((t400 == 2) == false) = true
       ·rw [if_pos c29] at H
        have c29b0 : ((t400 == 2) == false) = true := c29
        (try (have c29b1 : decide ((t400 == 2) = false) = true := by simpa using c29))
        (try (have c29b2 : ((t400 == 2) == false) = true := by simpa using c29))
        clear c29
        obtain rfl := Option.some.inj H
        have hnb30 := NB401_395.out
        have hnc30 := NB395_401.out
        have hnb31 := NB401_396.out
        have hnc31 := NB396_401.out
        have hcz32_0 : wc.cell? ⟨gb401, 0, none⟩ = some (.int .u64 t398) := (blk_cell BK401.out 0).trans rfl
        have hcz32_1 : wc.cell? ⟨gb401, 1, none⟩ = some (.int .u64 t399) := (blk_cell BK401.out 1).trans rfl
        have hfz32_0 := blk_frozen BK401.out 0
        have hfz32_1 := blk_frozen BK401.out 1
        go_wp2
        go_ret
        exact ⟨by first | rfl | (simp [errW_none, errW_some] <;> rfl) | (simp [*, errW_none, errW_some] <;> rfl), bl3 HB.out GE395.out GE396.out GE401.out⟩
       ·rw [if_neg c29] at H
        have c29b0 : ((t400 == 2) == false) = false := by simpa using c29
        (try (have c29b1 : decide ((t400 == 2) = false) = false := by simpa using c29))
        (try (have c29b2 : ((t400 == 2) == false) = false := by simpa using c29))
        (try (have c29b3 : ¬ ((t400 == 2) = false) := by simpa using c29))
        clear c29
        exact absurd (HQ.out ▸ H) (by simp)
      ·rw [if_neg c28] at H
       have c28b0 : (t398 == 0 && (t399 == 0)) = false := by simpa using c28
       (try (have c28b1 : decide (t398 = 0 && (t399 == 0)) = false := by simpa using c28))
       (try (have c28b2 : (t398 == 0 && (t399 == 0)) = false := by simpa using c28))
       (try (have c28b3 : ¬ (t398 = 0 && (t399 == 0)) := by simpa using c28))
       clear c28
       exact absurd (HQ.out ▸ H) (by simp)
    ·replace c19 := Bool.eq_false_iff.mpr c19
     subst c19
     have H1 : ((pochoirref01_Shift.f kj6 a0_0 a0_1 a2).bind fun bt402 => (if (t398 == bt402.1 && (t399 == bt402.2.1)) = true then (if t400 = bt402.2.2 then ((wide_Bits.f kj6 a0_0 a0_1).bind fun t406 => ((pochoirref01_Bits.f kj6 a0_0 a0_1).bind fun t407 => (if t406 = t407 then ((wide_Cmp.f kj6 a0_0 a0_1 a1_0 a1_1).bind fun t408 => ((pochoirref01_Digits.f kj6 a0_0 a0_1).bind fun t409 => ((pochoirref01_Digits.f kj6 a1_0 a1_1).bind fun t412 => ((pochoirref01_Less.f kj6 t409 t412).bind fun t415 => (if t408 = t415 then ((wide_Cmp.f kj6 a0_0 a0_1 a0_0 a0_1).bind fun t416 => (some (t416 == 0))) else (some false)))))) else (some false)))) else (some false)) else (some false))) = some r := by rw [if_neg (show ¬ (false = true) by decide)] at H; exact H
     clear H
     have H := H1
     clear H1
     replace H := Option.bind_eq_some_iff.mp H
     obtain ⟨⟨t402, t403, t404⟩, A330, H⟩ := H
     replace H : (if (t398 == t402 && (t399 == t403)) = true then (if t400 = t404 then ((wide_Bits.f kj6 a0_0 a0_1).bind fun t406 => ((pochoirref01_Bits.f kj6 a0_0 a0_1).bind fun t407 => (if t406 = t407 then ((wide_Cmp.f kj6 a0_0 a0_1 a1_0 a1_1).bind fun t408 => ((pochoirref01_Digits.f kj6 a0_0 a0_1).bind fun t409 => ((pochoirref01_Digits.f kj6 a1_0 a1_1).bind fun t412 => ((pochoirref01_Less.f kj6 t409 t412).bind fun t415 => (if t408 = t415 then ((wide_Cmp.f kj6 a0_0 a0_1 a0_0 a0_1).bind fun t416 => (some (t416 == 0))) else (some false)))))) else (some false)))) else (some false)) else (some false)) = some r := H
     have A33 := Aside0.mk A330
     clear A330
     by_cases c34 : (t398 == t402 && (t399 == t403)) = true
     ·rw [if_pos c34] at H
      have c34b0 : (t398 == t402 && (t399 == t403)) = true := c34
      (try (have c34b1 : decide (t398 = t402 && (t399 == t403)) = true := by simpa using c34))
      (try (have c34b2 : (t398 == t402 && (t399 == t403)) = true := by simpa using c34))
      clear c34
      by_cases c35 : t400 = t404
      ·rw [if_pos c35] at H
       have c35b0 : (t400 == t404) = true := beq_iff_eq.mpr c35
       have c35b1 : (t400 != t404) = false := bne_eq_false_iff_eq.mpr c35
       clear c35
       replace H := Option.bind_eq_some_iff.mp H
       obtain ⟨t406, A360, H⟩ := H
       replace H : ((pochoirref01_Bits.f kj6 a0_0 a0_1).bind fun t407 => (if t406 = t407 then ((wide_Cmp.f kj6 a0_0 a0_1 a1_0 a1_1).bind fun t408 => ((pochoirref01_Digits.f kj6 a0_0 a0_1).bind fun t409 => ((pochoirref01_Digits.f kj6 a1_0 a1_1).bind fun t412 => ((pochoirref01_Less.f kj6 t409 t412).bind fun t415 => (if t408 = t415 then ((wide_Cmp.f kj6 a0_0 a0_1 a0_0 a0_1).bind fun t416 => (some (t416 == 0))) else (some false)))))) else (some false))) = some r := H
       have A36 := Aside0.mk A360
       clear A360
       replace H := Option.bind_eq_some_iff.mp H
       obtain ⟨t407, A370, H⟩ := H
       replace H : (if t406 = t407 then ((wide_Cmp.f kj6 a0_0 a0_1 a1_0 a1_1).bind fun t408 => ((pochoirref01_Digits.f kj6 a0_0 a0_1).bind fun t409 => ((pochoirref01_Digits.f kj6 a1_0 a1_1).bind fun t412 => ((pochoirref01_Less.f kj6 t409 t412).bind fun t415 => (if t408 = t415 then ((wide_Cmp.f kj6 a0_0 a0_1 a0_0 a0_1).bind fun t416 => (some (t416 == 0))) else (some false)))))) else (some false)) = some r := H
       have A37 := Aside0.mk A370
       clear A370
       by_cases c38 : t406 = t407
       ·rw [if_pos c38] at H
        have c38b0 : (t406 == t407) = true := beq_iff_eq.mpr c38
        have c38b1 : (t406 != t407) = false := bne_eq_false_iff_eq.mpr c38
        clear c38
        replace H := Option.bind_eq_some_iff.mp H
        obtain ⟨t408, A390, H⟩ := H
        replace H : ((pochoirref01_Digits.f kj6 a0_0 a0_1).bind fun t409 => ((pochoirref01_Digits.f kj6 a1_0 a1_1).bind fun t412 => ((pochoirref01_Less.f kj6 t409 t412).bind fun t415 => (if t408 = t415 then ((wide_Cmp.f kj6 a0_0 a0_1 a0_0 a0_1).bind fun t416 => (some (t416 == 0))) else (some false))))) = some r := H
        have A39 := Aside0.mk A390
        clear A390
        replace H := Option.bind_eq_some_iff.mp H
        obtain ⟨t409, A400, H⟩ := H
        replace H : ((pochoirref01_Digits.f kj6 a1_0 a1_1).bind fun t412 => ((pochoirref01_Less.f kj6 t409 t412).bind fun t415 => (if t408 = t415 then ((wide_Cmp.f kj6 a0_0 a0_1 a0_0 a0_1).bind fun t416 => (some (t416 == 0))) else (some false)))) = some r := H
        have A40 := Aside0.mk A400
        clear A400
        replace H := Option.bind_eq_some_iff.mp H
        obtain ⟨t412, A410, H⟩ := H
        replace H : ((pochoirref01_Less.f kj6 t409 t412).bind fun t415 => (if t408 = t415 then ((wide_Cmp.f kj6 a0_0 a0_1 a0_0 a0_1).bind fun t416 => (some (t416 == 0))) else (some false))) = some r := H
        have A41 := Aside0.mk A410
        clear A410
        replace H := Option.bind_eq_some_iff.mp H
        obtain ⟨t415, A420, H⟩ := H
        replace H : (if t408 = t415 then ((wide_Cmp.f kj6 a0_0 a0_1 a0_0 a0_1).bind fun t416 => (some (t416 == 0))) else (some false)) = some r := H
        have A42 := Aside0.mk A420
        clear A420
        by_cases c43 : t408 = t415
        ·rw [if_pos c43] at H
         have c43b0 : (t408 == t415) = true := beq_iff_eq.mpr c43
         have c43b1 : (t408 != t415) = false := bne_eq_false_iff_eq.mpr c43
         clear c43
         replace H := Option.bind_eq_some_iff.mp H
         obtain ⟨t416, A440, H⟩ := H
         replace H : (some (t416 == 0)) = some r := H
         have A44 := Aside0.mk A440
         clear A440
         obtain rfl := Option.some.inj H
         have hnb45 := NB395_396.out
         have hnc45 := NB396_395.out
         have hnb46 := NB395_401.out
         have hnc46 := NB401_395.out
         have hcz47_0 : wc.cell? ⟨gb395, 0, none⟩ = some (.int .u64 a0_0) := (blk_cell BK395.out 0).trans rfl
         have hcz47_1 : wc.cell? ⟨gb395, 1, none⟩ = some (.int .u64 a0_1) := (blk_cell BK395.out 1).trans rfl
         have hfz47_0 := blk_frozen BK395.out 0
         have hfz47_1 := blk_frozen BK395.out 1
         try go_wp2_with (first | ((with_reducible refine gate_callee (f := 21) rfl ?_); refine goesL_ (some 52) rfl rfl Try.func21 (by kernel_rfl) rfl #[.agg #[.int .u64 a0_0, .int .u64 a0_1], .int .i64 a2] rfl am ?_; (with_reducible refine (pochoirref01_Shift.calls kj6 a0_0 a0_1 a2 t402 t403 t404 _ A33.out).mono ?_); rintro e w48 ⟨rfl, hb⟩; refine ⟨_, rfl, ?_⟩; replace BK395 := Aside0.mk (bb BK395.out hb); replace BK396 := Aside0.mk (bb BK396.out hb); replace BK401 := Aside0.mk (bb BK401.out hb); replace HB := Aside0.mk (below_step (bl3 HB.out GE395.out GE396.out GE401.out) hb); (try clear hb); (try clear hb2); (try clear hk); (try clear hi)) | ((with_reducible refine gate_dst (N := 10) rfl ?_); refine be 10 (#[.int .u64 0, .int .u64 0]) 24 ?_; intro gb405 hg w49 hbox hb; have BK405 := Aside0.mk (hbox); have GW405 := Aside0.mk ((by rw [hg]; exact (below_size (bl3 HB.out GE395.out GE396.out GE401.out)) : w.heap.size ≤ gb405)); have GE405 := GW405; have NB395_405 := Aside0.mk ((by rw [hg]; exact Nat.ne_of_lt (lt_ BK395.out) : gb395 ≠ gb405)); have NB405_395 := Aside0.mk ((by rw [hg]; exact Nat.ne_of_gt (lt_ BK395.out) : gb405 ≠ gb395)); have NB396_405 := Aside0.mk ((by rw [hg]; exact Nat.ne_of_lt (lt_ BK396.out) : gb396 ≠ gb405)); have NB405_396 := Aside0.mk ((by rw [hg]; exact Nat.ne_of_gt (lt_ BK396.out) : gb405 ≠ gb396)); have NB401_405 := Aside0.mk ((by rw [hg]; exact Nat.ne_of_lt (lt_ BK401.out) : gb401 ≠ gb405)); have NB405_401 := Aside0.mk ((by rw [hg]; exact Nat.ne_of_gt (lt_ BK401.out) : gb405 ≠ gb401)); replace BK395 := Aside0.mk (bb BK395.out hb); replace BK396 := Aside0.mk (bb BK396.out hb); replace BK401 := Aside0.mk (bb BK401.out hb); replace HB := Aside0.mk (below_step (bl3 HB.out GE395.out GE396.out GE401.out) hb); clear hb hbox hg; have hnb50 := NB405_395.out; have hnc50 := NB395_405.out; have hnb51 := NB405_396.out; have hnc51 := NB396_405.out; have hnb52 := NB405_401.out; have hnc52 := NB401_405.out; have hcz53_0 : w49.cell? ⟨gb405, 0, none⟩ = some (.int .u64 0) := (blk_cell BK405.out 0).trans rfl; have hcz53_1 : w49.cell? ⟨gb405, 1, none⟩ = some (.int .u64 0) := (blk_cell BK405.out 1).trans rfl; have hfz53_0 := blk_frozen BK405.out 0; have hfz53_1 := blk_frozen BK405.out 1))
         have n0_ : Aside0 (((w49.setCell ⟨gb405, 0, none⟩ (.int .u64 t402)).setCell ⟨gb405, 1, none⟩ (.int .u64 t403)).heap[gb395]? = some (.cells #[.int .u64 a0_0, .int .u64 a0_1] 24 (0, 0))) := ⟨by (with_reducible repeat (first | refine blk_drewN ?_ _ | refine blk_drew ?_ | refine blk_alloc ?_ _)); refine blk_far ?_ NB395_405.out _; (with_reducible repeat (first | refine blk_drewN ?_ _ | refine blk_drew ?_ | refine blk_alloc ?_ _)); refine blk_far ?_ NB395_405.out _; (with_reducible repeat (first | refine blk_drewN ?_ _ | refine blk_drew ?_ | refine blk_alloc ?_ _)); exact BK395.out⟩
         have n1_ : Aside0 (((w49.setCell ⟨gb405, 0, none⟩ (.int .u64 t402)).setCell ⟨gb405, 1, none⟩ (.int .u64 t403)).heap[gb396]? = some (.cells #[.int .u64 a1_0, .int .u64 a1_1] 24 (0, 0))) := ⟨by (with_reducible repeat (first | refine blk_drewN ?_ _ | refine blk_drew ?_ | refine blk_alloc ?_ _)); refine blk_far ?_ NB396_405.out _; (with_reducible repeat (first | refine blk_drewN ?_ _ | refine blk_drew ?_ | refine blk_alloc ?_ _)); refine blk_far ?_ NB396_405.out _; (with_reducible repeat (first | refine blk_drewN ?_ _ | refine blk_drew ?_ | refine blk_alloc ?_ _)); exact BK396.out⟩
         have n2_ : Aside0 (((w49.setCell ⟨gb405, 0, none⟩ (.int .u64 t402)).setCell ⟨gb405, 1, none⟩ (.int .u64 t403)).heap[gb401]? = some (.cells #[.int .u64 t398, .int .u64 t399] 24 (0, 0))) := ⟨by (with_reducible repeat (first | refine blk_drewN ?_ _ | refine blk_drew ?_ | refine blk_alloc ?_ _)); refine blk_far ?_ NB401_405.out _; (with_reducible repeat (first | refine blk_drewN ?_ _ | refine blk_drew ?_ | refine blk_alloc ?_ _)); refine blk_far ?_ NB401_405.out _; (with_reducible repeat (first | refine blk_drewN ?_ _ | refine blk_drew ?_ | refine blk_alloc ?_ _)); exact BK401.out⟩
         have n3_ : Aside0 (((w49.setCell ⟨gb405, 0, none⟩ (.int .u64 t402)).setCell ⟨gb405, 1, none⟩ (.int .u64 t403)).heap[gb405]? = some (.cells #[.int .u64 t402, .int .u64 t403] 24 (0, 0))) := ⟨by (with_reducible repeat (first | refine blk_drewN ?_ _ | refine blk_drew ?_ | refine blk_alloc ?_ _)); refine blk_put (cs := #[.int .u64 t402, .int .u64 0]) ?_ 1 _ rfl; (with_reducible repeat (first | refine blk_drewN ?_ _ | refine blk_drew ?_ | refine blk_alloc ?_ _)); refine blk_put (cs := #[.int .u64 0, .int .u64 0]) ?_ 0 _ rfl; (with_reducible repeat (first | refine blk_drewN ?_ _ | refine blk_drew ?_ | refine blk_alloc ?_ _)); exact BK405.out⟩
         have n4_ : Aside0 (Below w.heap.size w ((w49.setCell ⟨gb405, 0, none⟩ (.int .u64 t402)).setCell ⟨gb405, 1, none⟩ (.int .u64 t403))) := ⟨bl4 HB.out GE395.out GE396.out GE401.out GE405.out⟩
         (try clear BK395)
         (try clear BK396)
         (try clear BK401)
         (try clear BK405)
         (try clear HB)
         generalize ((w49.setCell ⟨gb405, 0, none⟩ (.int .u64 t402)).setCell ⟨gb405, 1, none⟩ (.int .u64 t403)) = w54 at n0_ n1_ n2_ n3_ n4_ ⊢
         have BK395 := n0_
         have BK396 := n1_
         have BK401 := n2_
         have BK405 := n3_
         have HB := n4_
         clear n0_ n1_ n2_ n3_ n4_
         replace BK395 := Aside0.mk (blk_drew BK395.out)
         replace BK396 := Aside0.mk (blk_drew BK396.out)
         replace BK401 := Aside0.mk (blk_drew BK401.out)
         replace BK405 := Aside0.mk (blk_drew BK405.out)
         replace HB := Aside0.mk (below_drew1 HB.out)
         refine start_ (n := 33) (S := fun w' => w'.cell? ⟨gb401, 0, none⟩ = some (.int .u64 t398) ∧ w'.cell? ⟨gb401, 1, none⟩ = some (.int .u64 t399) ∧ w'.cell? ⟨gb405, 0, none⟩ = some (.int .u64 t402) ∧ w'.cell? ⟨gb405, 1, none⟩ = some (.int .u64 t403) ∧ w'.cell? ⟨gb395, 0, none⟩ = some (.int .u64 a0_0) ∧ w'.cell? ⟨gb395, 1, none⟩ = some (.int .u64 a0_1) ∧ w'.cell? ⟨gb396, 0, none⟩ = some (.int .u64 a1_0) ∧ w'.cell? ⟨gb396, 1, none⟩ = some (.int .u64 a1_1)) (ds := []) (ba 33 0) (by kernel_rfl) rfl rfl ⟨(blk_cell BK401.out 0).trans rfl, (blk_cell BK401.out 1).trans rfl, (blk_cell BK405.out 0).trans rfl, (blk_cell BK405.out 1).trans rfl, (blk_cell BK395.out 0).trans rfl, (blk_cell BK395.out 1).trans rfl, (blk_cell BK396.out 0).trans rfl, (blk_cell BK396.out 1).trans rfl⟩ (fun hHeld => ?_); refine with_tabW pochoirlaw01_WideShifts.tab8 pochoirlaw01_WideShifts.bits8 (fun HT_ HW_ => ?_)
         generalize w54.drew = w55 at BK395 BK396 BK401 BK405 HB hHeld ⊢
         refine take_ (i := 0) (N := some 55) (v := ?_) (a' := ?_) (ba 33 1) rfl rfl (take_ofW HT_.out HW_.out (by kernel_rfl)) (fun _ _ _ h => h) (Or.inl ⟨by rfl, ?_⟩) hHeld ?_ ?_
         rotate_left
         ·rintro w' ⟨s0, s1, s2, s3, s4, s5, s6, s7⟩
          go_simp
          with_reducible rfl
         rotate_left
         ·simp only [Act.put, List.setIfInBounds_toArray, List.set_cons_zero, List.set_cons_succ, i64_w, i32_w]
          rfl
         refine take_ (i := 1) (N := some 56) (v := ?_) (a' := ?_) (ba 33 3) rfl rfl (take_ofW HT_.out HW_.out (by kernel_rfl)) (fun _ _ _ h => h) (Or.inl ⟨by rfl, ?_⟩) hHeld ?_ ?_
         rotate_left
         ·rintro w' ⟨s0, s1, s2, s3, s4, s5, s6, s7⟩
          go_simp
          with_reducible rfl
         rotate_left
         ·simp only [Act.put, List.setIfInBounds_toArray, List.set_cons_zero, List.set_cons_succ, i64_w, i32_w]
          rfl
         refine pI 2 57 (ba 33 7) HT_.out ?_
         refine pI 3 58 (ba 33 15) HT_.out ?_
         refine pI 4 59 (ba 33 31) HT_.out ?_
         refine pI 5 60 (ba 33 63) HT_.out ?_
         refine pI 6 61 (ba 33 127) HT_.out ?_
         refine pI 7 62 (ba 33 255) HT_.out ?_
         refine pI 8 63 (ba 33 511) HT_.out ?_
         refine take_ (i := 9) (N := some 64) (v := ?_) (a' := ?_) (ba 33 1023) rfl rfl (take_ofW HT_.out HW_.out (by kernel_rfl)) (fun _ _ _ h => h) (Or.inl ⟨by rfl, ?_⟩) hHeld ?_ ?_
         rotate_left
         ·rintro w' ⟨s0, s1, s2, s3, s4, s5, s6, s7⟩
          go_simp
          with_reducible rfl
         rotate_left
         ·simp only [Act.put, List.setIfInBounds_toArray, List.set_cons_zero, List.set_cons_succ, i64_w, i32_w]
          rfl
         refine take_ (i := 11) (N := some 66) (v := ?_) (a' := ?_) (ba 33 3071) rfl rfl (take_ofW HT_.out HW_.out (by kernel_rfl)) (fun _ _ _ h => h) (Or.inl ⟨by rfl, ?_⟩) hHeld ?_ ?_
         rotate_left
         ·rintro w' ⟨s0, s1, s2, s3, s4, s5, s6, s7⟩
          go_simp
          with_reducible rfl
         rotate_left
         ·simp only [Act.put, List.setIfInBounds_toArray, List.set_cons_zero, List.set_cons_succ, i64_w, i32_w]
          rfl
         refine one_ (i := 10) (N := some 65) (ba 33 4095) rfl rfl (one_of HT_.out (by kernel_rfl)) (by decide) (fun K hK => ?_)
         refine goes_ Try.func22 (by kernel_rfl) rfl #[.agg #[.int .u64 a0_0, .int .u64 a0_1]] (by rfl) rfl rfl am ?_
         with_reducible refine (wide_Bits.calls kj6 a0_0 a0_1 t406 _ A36.out).mono ?_
         rintro e w56 ⟨rfl, hb⟩
         refine ⟨_, rfl, ?_⟩
         replace BK395 := Aside0.mk (bb BK395.out hb)
         replace BK396 := Aside0.mk (bb BK396.out hb)
         replace BK401 := Aside0.mk (bb BK401.out hb)
         replace BK405 := Aside0.mk (bb BK405.out hb)
         replace HB := Aside0.mk (below_step (bl4 HB.out GE395.out GE396.out GE401.out GE405.out) hb)
         (try clear hb)
         (try clear hb2)
         (try clear hk)
         (try clear hi)
         refine hK.out _ _ ⟨(blk_cell BK401.out 0).trans rfl, (blk_cell BK401.out 1).trans rfl, (blk_cell BK405.out 0).trans rfl, (blk_cell BK405.out 1).trans rfl, (blk_cell BK395.out 0).trans rfl, (blk_cell BK395.out 1).trans rfl, (blk_cell BK396.out 0).trans rfl, (blk_cell BK396.out 1).trans rfl⟩ (fun hHeld => ?_)
         clear hK K
         refine norm_ (a' := ?_) ?_ ?_
         rotate_left
         ·show Act.put _ (some 65) _ = _
          simp only [Act.put, List.setIfInBounds_toArray, List.set_cons_zero, List.set_cons_succ, i64_w, i32_w]
          rfl
         refine one_ (i := 12) (N := some 67) (ba 33 8191) rfl rfl (one_of HT_.out (by kernel_rfl)) (by decide) (fun K hK => ?_)
         refine goes_ Try.func23 (by kernel_rfl) rfl #[.agg #[.int .u64 a0_0, .int .u64 a0_1]] (by rfl) rfl rfl am ?_
         with_reducible refine (pochoirref01_Bits.calls kj6 a0_0 a0_1 t407 _ A37.out).mono ?_
         rintro e w57 ⟨rfl, hb⟩
         refine ⟨_, rfl, ?_⟩
         replace BK395 := Aside0.mk (bb BK395.out hb)
         replace BK396 := Aside0.mk (bb BK396.out hb)
         replace BK401 := Aside0.mk (bb BK401.out hb)
         replace BK405 := Aside0.mk (bb BK405.out hb)
         replace HB := Aside0.mk (below_step (bl4 HB.out GE395.out GE396.out GE401.out GE405.out) hb)
         (try clear hb)
         (try clear hb2)
         (try clear hk)
         (try clear hi)
         refine hK.out _ _ ⟨(blk_cell BK401.out 0).trans rfl, (blk_cell BK401.out 1).trans rfl, (blk_cell BK405.out 0).trans rfl, (blk_cell BK405.out 1).trans rfl, (blk_cell BK395.out 0).trans rfl, (blk_cell BK395.out 1).trans rfl, (blk_cell BK396.out 0).trans rfl, (blk_cell BK396.out 1).trans rfl⟩ (fun hHeld => ?_)
         clear hK K
         refine norm_ (a' := ?_) ?_ ?_
         rotate_left
         ·show Act.put _ (some 67) _ = _
          simp only [Act.put, List.setIfInBounds_toArray, List.set_cons_zero, List.set_cons_succ, i64_w, i32_w]
          rfl
         refine pI 13 68 (ba 33 16383) HT_.out ?_
         refine pI 14 69 (ba 33 32767) HT_.out ?_
         refine pI 15 70 (ba 33 65535) HT_.out ?_
         refine take_ (i := 16) (N := some 71) (v := ?_) (a' := ?_) (ba 33 131071) rfl rfl (take_ofW HT_.out HW_.out (by kernel_rfl)) (fun _ _ _ h => h) (Or.inl ⟨by rfl, ?_⟩) hHeld ?_ ?_
         rotate_left
         ·rintro w' ⟨s0, s1, s2, s3, s4, s5, s6, s7⟩
          go_simp
          with_reducible rfl
         rotate_left
         ·simp only [Act.put, List.setIfInBounds_toArray, List.set_cons_zero, List.set_cons_succ, i64_w, i32_w]
          rfl
         refine take_ (i := 17) (N := some 72) (v := ?_) (a' := ?_) (ba 33 262143) rfl rfl (take_ofW HT_.out HW_.out (by kernel_rfl)) (fun _ _ _ h => h) (Or.inl ⟨by rfl, ?_⟩) hHeld ?_ ?_
         rotate_left
         ·rintro w' ⟨s0, s1, s2, s3, s4, s5, s6, s7⟩
          go_simp
          with_reducible rfl
         rotate_left
         ·simp only [Act.put, List.setIfInBounds_toArray, List.set_cons_zero, List.set_cons_succ, i64_w, i32_w]
          rfl
         refine take_ (i := 19) (N := some 74) (v := ?_) (a' := ?_) (ba 33 786431) rfl rfl (take_ofW HT_.out HW_.out (by kernel_rfl)) (fun _ _ _ h => h) (Or.inl ⟨by rfl, ?_⟩) hHeld ?_ ?_
         rotate_left
         ·rintro w' ⟨s0, s1, s2, s3, s4, s5, s6, s7⟩
          go_simp
          with_reducible rfl
         rotate_left
         ·simp only [Act.put, List.setIfInBounds_toArray, List.set_cons_zero, List.set_cons_succ, i64_w, i32_w]
          rfl
         refine take_ (i := 21) (N := some 76) (v := ?_) (a' := ?_) (ba 33 2883583) rfl rfl (take_ofW HT_.out HW_.out (by kernel_rfl)) (fun _ _ _ h => h) (Or.inl ⟨by rfl, ?_⟩) hHeld ?_ ?_
         rotate_left
         ·rintro w' ⟨s0, s1, s2, s3, s4, s5, s6, s7⟩
          go_simp
          with_reducible rfl
         rotate_left
         ·simp only [Act.put, List.setIfInBounds_toArray, List.set_cons_zero, List.set_cons_succ, i64_w, i32_w]
          rfl
         refine one_ (i := 18) (N := some 73) (ba 33 3145727) rfl rfl (one_of HT_.out (by kernel_rfl)) (by decide) (fun K hK => ?_)
         refine goes_ Try.func24 (by kernel_rfl) rfl #[.agg #[.int .u64 a0_0, .int .u64 a0_1], .agg #[.int .u64 a1_0, .int .u64 a1_1]] (by rfl) rfl rfl am ?_
         with_reducible refine (wide_Cmp.calls kj6 a0_0 a0_1 a1_0 a1_1 t408 _ A39.out).mono ?_
         rintro e w58 ⟨rfl, hb⟩
         refine ⟨_, rfl, ?_⟩
         replace BK395 := Aside0.mk (bb BK395.out hb)
         replace BK396 := Aside0.mk (bb BK396.out hb)
         replace BK401 := Aside0.mk (bb BK401.out hb)
         replace BK405 := Aside0.mk (bb BK405.out hb)
         replace HB := Aside0.mk (below_step (bl4 HB.out GE395.out GE396.out GE401.out GE405.out) hb)
         (try clear hb)
         (try clear hb2)
         (try clear hk)
         (try clear hi)
         refine hK.out _ _ ⟨(blk_cell BK401.out 0).trans rfl, (blk_cell BK401.out 1).trans rfl, (blk_cell BK405.out 0).trans rfl, (blk_cell BK405.out 1).trans rfl, (blk_cell BK395.out 0).trans rfl, (blk_cell BK395.out 1).trans rfl, (blk_cell BK396.out 0).trans rfl, (blk_cell BK396.out 1).trans rfl⟩ (fun hHeld => ?_)
         clear hK K
         refine norm_ (a' := ?_) ?_ ?_
         rotate_left
         ·show Act.put _ (some 73) _ = _
          simp only [Act.put, List.setIfInBounds_toArray, List.set_cons_zero, List.set_cons_succ, i64_w, i32_w]
          rfl
         refine one_ (i := 20) (N := some 75) (ba 33 4194303) rfl rfl (one_of HT_.out (by kernel_rfl)) (by decide) (fun K hK => ?_)
         refine goes_ Try.func26 (by kernel_rfl) rfl #[.agg #[.int .u64 a0_0, .int .u64 a0_1]] (by rfl) rfl rfl am ?_
         with_reducible refine (pochoirref01_Digits.calls kj6 a0_0 a0_1 t409 _ A40.out).mono ?_
         rintro e w59 ⟨v410, rfl, ho0, hb⟩
         refine ⟨_, rfl, ?_⟩
         have HO411 := Aside0.mk (Kd.R_lower ho0 (below_size (bl4 HB.out GE395.out GE396.out GE401.out GE405.out)))
         replace BK395 := Aside0.mk (bb BK395.out hb)
         replace BK396 := Aside0.mk (bb BK396.out hb)
         replace BK401 := Aside0.mk (bb BK401.out hb)
         replace BK405 := Aside0.mk (bb BK405.out hb)
         replace HB := Aside0.mk (below_step (bl4 HB.out GE395.out GE396.out GE401.out GE405.out) hb)
         (try clear hb)
         (try clear hb2)
         (try clear hk)
         (try clear hi)
         (try clear ho0)
         refine hK.out _ _ ⟨(blk_cell BK401.out 0).trans rfl, (blk_cell BK401.out 1).trans rfl, (blk_cell BK405.out 0).trans rfl, (blk_cell BK405.out 1).trans rfl, (blk_cell BK395.out 0).trans rfl, (blk_cell BK395.out 1).trans rfl, (blk_cell BK396.out 0).trans rfl, (blk_cell BK396.out 1).trans rfl⟩ (fun hHeld => ?_)
         clear hK K
         refine norm_ (a' := ?_) ?_ ?_
         rotate_left
         ·show Act.put _ (some 75) _ = _
          simp only [Act.put, List.setIfInBounds_toArray, List.set_cons_zero, List.set_cons_succ, i64_w, i32_w]
          rfl
         refine one_ (i := 22) (N := some 77) (ba 33 8388607) rfl rfl (one_of HT_.out (by kernel_rfl)) (by decide) (fun K hK => ?_)
         refine goes_ Try.func26 (by kernel_rfl) rfl #[.agg #[.int .u64 a1_0, .int .u64 a1_1]] (by rfl) rfl rfl am ?_
         with_reducible refine (pochoirref01_Digits.calls kj6 a1_0 a1_1 t412 _ A41.out).mono ?_
         rintro e w60 ⟨v413, rfl, ho0, hb⟩
         refine ⟨_, rfl, ?_⟩
         have HO414 := Aside0.mk (Kd.R_lower (Kd.R_new' ho0 (Kd.R_lt (by (with_reducible repeat (first | apply Kd.R_alloc | apply Kd.R_drewN | apply Kd.R_drew)); exact HO411.out))) (below_size (bl4 HB.out GE395.out GE396.out GE401.out GE405.out)))
         replace HO411 := Aside0.mk (Kd.R_elder' (by (with_reducible repeat (first | apply Kd.R_alloc | apply Kd.R_drewN | apply Kd.R_drew)); exact HO411.out) (Kd.R_base ho0) hb)
         replace BK395 := Aside0.mk (bb BK395.out hb)
         replace BK396 := Aside0.mk (bb BK396.out hb)
         replace BK401 := Aside0.mk (bb BK401.out hb)
         replace BK405 := Aside0.mk (bb BK405.out hb)
         replace HB := Aside0.mk (below_step (bl4 HB.out GE395.out GE396.out GE401.out GE405.out) hb)
         (try clear hb)
         (try clear hb2)
         (try clear hk)
         (try clear hi)
         (try clear ho0)
         obtain ⟨Ao61, co61, eo61⟩ := Kd.R_slice HO411.out
         (first | subst eo61 | (injection eo61 with f1_ f2_ f3_; have f4_ := f1_.symm; have f5_ := f3_.symm; clear f1_ f2_ f3_; subst f4_; subst f5_))
         obtain ⟨Ao62, co62, eo62⟩ := Kd.R_slice HO414.out
         (first | subst eo62 | (injection eo62 with f1_ f2_ f3_; have f4_ := f1_.symm; have f5_ := f3_.symm; clear f1_ f2_ f3_; subst f4_; subst f5_))
         refine hK.out _ _ ⟨(blk_cell BK401.out 0).trans rfl, (blk_cell BK401.out 1).trans rfl, (blk_cell BK405.out 0).trans rfl, (blk_cell BK405.out 1).trans rfl, (blk_cell BK395.out 0).trans rfl, (blk_cell BK395.out 1).trans rfl, (blk_cell BK396.out 0).trans rfl, (blk_cell BK396.out 1).trans rfl⟩ (fun hHeld => ?_)
         clear hK K
         refine norm_ (a' := ?_) ?_ ?_
         rotate_left
         ·show Act.put _ (some 77) _ = _
          simp only [Act.put, List.setIfInBounds_toArray, List.set_cons_zero, List.set_cons_succ, i64_w, i32_w]
          rfl
         refine one_ (i := 23) (N := some 78) (ba 33 16777215) rfl rfl (one_of HT_.out (by kernel_rfl)) (by decide) (fun K hK => ?_)
         refine goes_ Try.func25 (by kernel_rfl) rfl #[.slice Ao61 t409.length co61, .slice Ao62 t412.length co62] (by rfl) rfl rfl am ?_
         with_reducible refine (pochoirref01_Less.calls kj6 _ _ t409 _ _ t412 t415 _ ?side1 ?side2 ?side3 ?side4 A42.out).mono ?_
         (case side1 => repeat (first | exact (Kd.R_reads' HO411.out).2.2 | (with_reducible refine Kd.C_alloc ?_ _) | (with_reducible refine Kd.C_drewN ?_ _) | (with_reducible refine Kd.C_drew ?_)))
         (case side2 => exact (Kd.R_reads' HO411.out).2.1)
         (case side3 => repeat (first | exact (Kd.R_reads' HO414.out).2.2 | (with_reducible refine Kd.C_alloc ?_ _) | (with_reducible refine Kd.C_drewN ?_ _) | (with_reducible refine Kd.C_drew ?_)))
         (case side4 => exact (Kd.R_reads' HO414.out).2.1)
         rintro e w' ⟨rfl, ⟨nd, rfl⟩⟩
         refine ⟨_, rfl, ?_⟩
         refine hK.out _ _ ⟨(blk_cell BK401.out 0).trans rfl, (blk_cell BK401.out 1).trans rfl, (blk_cell BK405.out 0).trans rfl, (blk_cell BK405.out 1).trans rfl, (blk_cell BK395.out 0).trans rfl, (blk_cell BK395.out 1).trans rfl, (blk_cell BK396.out 0).trans rfl, (blk_cell BK396.out 1).trans rfl⟩ (fun hHeld => ?_)
         clear hK K
         refine norm_ (a' := ?_) ?_ ?_
         rotate_left
         ·show Act.put _ (some 78) _ = _
          simp only [Act.put, List.setIfInBounds_toArray, List.set_cons_zero, List.set_cons_succ, i64_w, i32_w]
          rfl
         refine pI 24 79 (ba 33 33554431) HT_.out ?_
         refine pI 25 80 (ba 33 67108863) HT_.out ?_
         refine pI 26 81 (ba 33 134217727) HT_.out ?_
         refine take_ (i := 27) (N := some 82) (v := ?_) (a' := ?_) (ba 33 268435455) rfl rfl (take_ofW HT_.out HW_.out (by kernel_rfl)) (fun _ _ _ h => h) (Or.inl ⟨by rfl, ?_⟩) hHeld ?_ ?_
         rotate_left
         ·rintro w' ⟨s0, s1, s2, s3, s4, s5, s6, s7⟩
          go_simp
          with_reducible rfl
         rotate_left
         ·simp only [Act.put, List.setIfInBounds_toArray, List.set_cons_zero, List.set_cons_succ, i64_w, i32_w]
          rfl
         refine take_ (i := 28) (N := some 83) (v := ?_) (a' := ?_) (ba 33 536870911) rfl rfl (take_ofW HT_.out HW_.out (by kernel_rfl)) (fun _ _ _ h => h) (Or.inl ⟨by rfl, ?_⟩) hHeld ?_ ?_
         rotate_left
         ·rintro w' ⟨s0, s1, s2, s3, s4, s5, s6, s7⟩
          go_simp
          with_reducible rfl
         rotate_left
         ·simp only [Act.put, List.setIfInBounds_toArray, List.set_cons_zero, List.set_cons_succ, i64_w, i32_w]
          rfl
         refine one_ (i := 29) (N := some 84) (ba 33 1073741823) rfl rfl (one_of HT_.out (by kernel_rfl)) (by decide) (fun K hK => ?_)
         refine goes_ Try.func24 (by kernel_rfl) rfl #[.agg #[.int .u64 a0_0, .int .u64 a0_1], .agg #[.int .u64 a0_0, .int .u64 a0_1]] (by rfl) rfl rfl am ?_
         with_reducible refine (wide_Cmp.calls kj6 a0_0 a0_1 a0_0 a0_1 t416 _ A44.out).mono ?_
         rintro e w63 ⟨rfl, hb⟩
         refine ⟨_, rfl, ?_⟩
         replace HO411 := Aside0.mk (Kd.R_below (by (with_reducible repeat (first | apply Kd.R_alloc | apply Kd.R_drewN | apply Kd.R_drew)); exact HO411.out) hb)
         replace HO414 := Aside0.mk (Kd.R_below (by (with_reducible repeat (first | apply Kd.R_alloc | apply Kd.R_drewN | apply Kd.R_drew)); exact HO414.out) hb)
         replace BK395 := Aside0.mk (bb BK395.out hb)
         replace BK396 := Aside0.mk (bb BK396.out hb)
         replace BK401 := Aside0.mk (bb BK401.out hb)
         replace BK405 := Aside0.mk (bb BK405.out hb)
         replace HB := Aside0.mk (below_step (bl4 HB.out GE395.out GE396.out GE401.out GE405.out) hb)
         (try clear hb)
         (try clear hb2)
         (try clear hk)
         (try clear hi)
         refine hK.out _ _ ⟨(blk_cell BK401.out 0).trans rfl, (blk_cell BK401.out 1).trans rfl, (blk_cell BK405.out 0).trans rfl, (blk_cell BK405.out 1).trans rfl, (blk_cell BK395.out 0).trans rfl, (blk_cell BK395.out 1).trans rfl, (blk_cell BK396.out 0).trans rfl, (blk_cell BK396.out 1).trans rfl⟩ (fun hHeld => ?_)
         clear hK K
         refine norm_ (a' := ?_) ?_ ?_
         rotate_left
         ·show Act.put _ (some 84) _ = _
          simp only [Act.put, List.setIfInBounds_toArray, List.set_cons_zero, List.set_cons_succ, i64_w, i32_w]
          rfl
         refine pI 30 85 (ba 33 2147483647) HT_.out ?_
         refine pI 31 86 (ba 33 4294967295) HT_.out ?_
         refine pI 32 6 (ba 33 8589934591) HT_.out ?_
         refine done_ (done_of HT_.out (by kernel_rfl)) ?_
         try go_wp2
         go_ret
         exact ⟨by first | rfl | (simp [errW_none, errW_some] <;> rfl) | (simp [*, errW_none, errW_some] <;> rfl), bl4 HB.out GE395.out GE396.out GE401.out GE405.out⟩
        ·rw [if_neg c43] at H
         have c43b0 : (t408 == t415) = false := beq_eq_false_iff_ne.mpr c43
         have c43b1 : (t408 != t415) = true := bne_iff_ne.mpr c43
         exact absurd (HQ.out ▸ H) (by simp)
       ·rw [if_neg c38] at H
        have c38b0 : (t406 == t407) = false := beq_eq_false_iff_ne.mpr c38
        have c38b1 : (t406 != t407) = true := bne_iff_ne.mpr c38
        exact absurd (HQ.out ▸ H) (by simp)
      ·rw [if_neg c35] at H
       have c35b0 : (t400 == t404) = false := beq_eq_false_iff_ne.mpr c35
       have c35b1 : (t400 != t404) = true := bne_iff_ne.mpr c35
       exact absurd (HQ.out ▸ H) (by simp)
     ·rw [if_neg c34] at H
      have c34b0 : (t398 == t402 && (t399 == t403)) = false := by simpa using c34
      (try (have c34b1 : decide (t398 = t402 && (t399 == t403)) = false := by simpa using c34))
      (try (have c34b2 : (t398 == t402 && (t399 == t403)) = false := by simpa using c34))
      (try (have c34b3 : ¬ (t398 = t402 && (t399 == t403)) := by simpa using c34))
      clear c34
      exact absurd (HQ.out ▸ H) (by simp)
 ·replace c5 := Bool.eq_false_iff.mpr c5
  subst c5
  have H1 : (some false) = some r := by rw [if_neg (show ¬ (false = true) by decide)] at H; exact H
  clear H
  have H := H1
  clear H1
  exact absurd (HQ.out ▸ H) (by simp)

/-- THE ONE PURE STATEMENT of pochoirlaw01_WideShifts. -/
def pochoirlaw01_WideShifts.Pure : Prop := ∀ (x0 : S24) (x1 : S24) (x2 : Int), wf24 x0 → wf24 x1 → (Lit.int .i64 x2).wf = true → ∃ k, pochoirlaw01_WideShifts.f k x0.f0 x0.f1 x1.f0 x1.f1 x2 = some true

end Go.Proofs.Ytjjnkadfoepflaa.XWide
