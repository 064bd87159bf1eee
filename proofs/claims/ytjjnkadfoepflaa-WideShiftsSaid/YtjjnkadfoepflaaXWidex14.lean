-- Printed by a program of this claim. Not trusted: Lean checks it.
import Derived.Test.YtjjnkadfoepflaaXWidex0
import Derived.Test.YtjjnkadfoepflaaXWidex1
import Derived.Test.YtjjnkadfoepflaaXWidex3
import Derived.Test.YtjjnkadfoepflaaXWidex5
import Derived.Test.YtjjnkadfoepflaaXWidex7
import Derived.Test.YtjjnkadfoepflaaXWidex9
import Derived.Test.YtjjnkadfoepflaaXWidex16
namespace Go.Proofs.Ytjjnkadfoepflaa.XWide
open Go.RowKit Go.Proofs.YtjjnkadfoepflaaW.PrintWords Go.Proofs.YtjjnkadfoepflaaW.PrintLast Go.Proofs.YtjjnkadfoepflaaW.PrintMore
attribute [local go_sem] max2_int min2_int max_two min_two max_three min_three max_four min_four   -- for this text's walks alone
set_option linter.unusedVariables false
set_option linter.unusedSimpArgs false
open XOpen

attribute [local go_sem high] eqA24
/-! ### wide_left: function 38 -/
def wide_left.f (a0_0 : Int) (a0_1 : Int) (a1 : Int) : Option (Int × Int) := if a1 ≥ 64 then (if 0 ≤ (IntKind.u64.wrap (a1 - 64)) then (some (shl .u64 a0_1 (IntKind.u64.wrap (a1 - 64)), 0)) else (none)) else (if 0 ≤ a1 then (if 0 ≤ (IntKind.u64.wrap (64 - a1)) then (some (Go.bits .or .u64 (shl .u64 a0_0 a1) (shr .u64 a0_1 (IntKind.u64.wrap (64 - a1))), shl .u64 a0_1 a1)) else (none)) else (none))
set_option maxHeartbeats 8000000 in
set_option maxRecDepth 100000 in
theorem wide_left.calls (a0_0 : Int) (a0_1 : Int) (a1 : Int) (r1 : Int) (r2 : Int) (w : World) (h : wide_left.f a0_0 a0_1 a1 = some (r1, r2)) :
  Calls Try.prog 38 #[.agg #[.int .u64 a0_0, .int .u64 a0_1], .int .u64 a1] w fun e w' => e = .returned (.agg #[.int .u64 r1, .int .u64 r2]) ∧ Below w.heap.size w w' := by
 have hu24 := Try.underlying24
 have HB := Aside0.mk (Below.refl w.heap.size w)
 have H : (if a1 ≥ 64 then (if 0 ≤ (IntKind.u64.wrap (a1 - 64)) then (some (shl .u64 a0_1 (IntKind.u64.wrap (a1 - 64)), 0)) else (none)) else (if 0 ≤ a1 then (if 0 ≤ (IntKind.u64.wrap (64 - a1)) then (some (Go.bits .or .u64 (shl .u64 a0_0 a1) (shr .u64 a0_1 (IntKind.u64.wrap (64 - a1))), shl .u64 a0_1 a1)) else (none)) else (none))) = some (r1, r2) := h
 clear h
 by_cases c3 : a1 ≥ 64
 ·rw [if_pos c3] at H
  have c3b0 : decide (64 ≤ a1) = true := decide_eq_true c3
  clear c3
  obtain ⟨ji4, hji4⟩ : ∃ j_ : Int, (IntKind.u64.wrap (a1 - 64)) = j_ := ⟨_, rfl⟩
  replace H : (if 0 ≤ (ji4) then (some (shl .u64 a0_1 (ji4), 0)) else (none)) = some (r1, r2) := by first | (rw [hji4] at H; exact H) | (simp only [hji4] at H ⊢; exact H)
  by_cases c5 : 0 ≤ (ji4)
  ·rw [if_pos c5] at H
   have c5b0 := eq_true c5
   have c5b1 : decide (0 ≤ (ji4)) = true := decide_eq_true c5
   clear c5
   obtain ⟨ji6, hji6⟩ : ∃ j_ : Int, (shl .u64 a0_1 (ji4)) = j_ := ⟨_, rfl⟩
   replace H : (some (ji6, 0)) = some (r1, r2) := by first | (rw [hji6] at H; exact H) | (simp only [hji6] at H ⊢; exact H)
   have hji6_ : (IntKind.u64.wrap (a0_1 * 2 ^ min (ji4).toNat 64)) = ji6 := hji6
   have hji6z : (ji4) ≤ 64 → (IntKind.u64.wrap (a0_1 * 2 ^ (ji4).toNat)) = ji6 := shl_small hji6
   simp only [Option.some.injEq, Prod.mk.injEq] at H
   obtain ⟨rfl, rfl⟩ := H
   go_enter Try.func38, Try.ntmps38
   go_wp2_with (first | ((with_reducible refine gate_dst (N := 2) rfl ?_); refine be 2 (#[.int .u64 a0_0, .int .u64 a0_1]) 24 ?_; intro gb371 hg w7 hbox hb; have BK371 := Aside0.mk (hbox); have GW371 := Aside0.mk ((by rw [hg]; exact (below_size (bl0 HB.out)) : w.heap.size ≤ gb371)); have GE371 := GW371; replace HB := Aside0.mk (below_step (bl0 HB.out) hb); clear hb hbox hg) | ((with_reducible refine gate_dst (N := 4) rfl ?_); refine be 4 (#[.int .u64 0, .int .u64 0]) 24 ?_; intro gb372 hg w8 hbox hb; have BK372 := Aside0.mk (hbox); have GW372 := Aside0.mk ((by rw [hg]; exact (below_size (bl1 HB.out GE371.out)) : w.heap.size ≤ gb372)); have GE372 := GW372; have NB371_372 := Aside0.mk ((by rw [hg]; exact Nat.ne_of_lt (lt_ BK371.out) : gb371 ≠ gb372)); have NB372_371 := Aside0.mk ((by rw [hg]; exact Nat.ne_of_gt (lt_ BK371.out) : gb372 ≠ gb371)); replace BK371 := Aside0.mk (bb BK371.out hb); replace HB := Aside0.mk (below_step (bl1 HB.out GE371.out) hb); clear hb hbox hg; have hnb9 := NB371_372.out; have hnc9 := NB372_371.out; have hcz10_0 : w8.cell? ⟨gb371, 0, none⟩ = some (.int .u64 a0_0) := (blk_cell BK371.out 0).trans rfl; have hcz10_1 : w8.cell? ⟨gb371, 1, none⟩ = some (.int .u64 a0_1) := (blk_cell BK371.out 1).trans rfl; have hfz10_0 := blk_frozen BK371.out 0; have hfz10_1 := blk_frozen BK371.out 1; have hcz11_0 : w8.cell? ⟨gb372, 0, none⟩ = some (.int .u64 0) := (blk_cell BK372.out 0).trans rfl; have hcz11_1 : w8.cell? ⟨gb372, 1, none⟩ = some (.int .u64 0) := (blk_cell BK372.out 1).trans rfl; have hfz11_0 := blk_frozen BK372.out 0; have hfz11_1 := blk_frozen BK372.out 1))
   refine bodyPost_ret (results_cell_row rfl _ _ gb372 24 #[.int .u64 ji6, .int .u64 0] (0, 0) _ rfl (bk (blk_put (cs := #[.int .u64 ji6, .int .u64 0]) (bk (blk_put (cs := #[.int .u64 0, .int .u64 0]) (bk BK372.out) 0 _ rfl)) 1 _ rfl)) Try.underlying24 rfl (by kernel_rfl)) rfl ?_
   exact ⟨by first | rfl | (simp [errW_none, errW_some] <;> rfl) | (simp only [← hji4, ← hji6]; first | rfl | (simp [errW_none, errW_some] <;> rfl)) | (simp [*, errW_none, errW_some] <;> rfl), bl2 HB.out GE371.out GE372.out⟩
  ·rw [if_neg c5] at H
   exact absurd H (by simp)
 ·rw [if_neg c3] at H
  have c3b0 : decide (64 ≤ a1) = false := decide_eq_false c3
  clear c3
  by_cases c12 : 0 ≤ a1
  ·rw [if_pos c12] at H
   have c12b0 := eq_true c12
   have c12b1 : decide (0 ≤ a1) = true := decide_eq_true c12
   clear c12
   obtain ⟨ji13, hji13⟩ : ∃ j_ : Int, (shl .u64 a0_0 a1) = j_ := ⟨_, rfl⟩
   replace H : (if 0 ≤ (IntKind.u64.wrap (64 - a1)) then (some (Go.bits .or .u64 (ji13) (shr .u64 a0_1 (IntKind.u64.wrap (64 - a1))), shl .u64 a0_1 a1)) else (none)) = some (r1, r2) := by first | (rw [hji13] at H; exact H) | (simp only [hji13] at H ⊢; exact H)
   have hji13_ : (IntKind.u64.wrap (a0_0 * 2 ^ min a1.toNat 64)) = ji13 := hji13
   have hji13z : a1 ≤ 64 → (IntKind.u64.wrap (a0_0 * 2 ^ a1.toNat)) = ji13 := shl_small hji13
   obtain ⟨ji14, hji14⟩ : ∃ j_ : Int, (IntKind.u64.wrap (64 - a1)) = j_ := ⟨_, rfl⟩
   replace H : (if 0 ≤ (ji14) then (some (Go.bits .or .u64 (ji13) (shr .u64 a0_1 (ji14)), shl .u64 a0_1 a1)) else (none)) = some (r1, r2) := by first | (rw [hji14] at H; exact H) | (simp only [hji14] at H ⊢; exact H)
   by_cases c15 : 0 ≤ (ji14)
   ·rw [if_pos c15] at H
    have c15b0 := eq_true c15
    have c15b1 : decide (0 ≤ (ji14)) = true := decide_eq_true c15
    clear c15
    obtain ⟨ji16, hji16⟩ : ∃ j_ : Int, (shr .u64 a0_1 (ji14)) = j_ := ⟨_, rfl⟩
    replace H : (some (Go.bits .or .u64 (ji13) (ji16), shl .u64 a0_1 a1)) = some (r1, r2) := by first | (rw [hji16] at H; exact H) | (simp only [hji16] at H ⊢; exact H)
    have hji16_ : (a0_1 / 2 ^ min (ji14).toNat 64) = ji16 := hji16
    have hji16z : (ji14) ≤ 64 → (a0_1 / 2 ^ (ji14).toNat) = ji16 := shr_small hji16
    have c17b0 := eq_true (of_decide_eq_true (by first | (with_reducible assumption) | assumption) : 0 ≤ a1)
    obtain ⟨ji18, hji18⟩ : ∃ j_ : Int, (shl .u64 a0_1 a1) = j_ := ⟨_, rfl⟩
    replace H : (some (Go.bits .or .u64 (ji13) (ji16), ji18)) = some (r1, r2) := by first | (rw [hji18] at H; exact H) | (simp only [hji18] at H ⊢; exact H)
    have hji18_ : (IntKind.u64.wrap (a0_1 * 2 ^ min a1.toNat 64)) = ji18 := hji18
    have hji18z : a1 ≤ 64 → (IntKind.u64.wrap (a0_1 * 2 ^ a1.toNat)) = ji18 := shl_small hji18
    simp only [Option.some.injEq, Prod.mk.injEq] at H
    obtain ⟨rfl, rfl⟩ := H
    go_enter Try.func38, Try.ntmps38
    go_wp2_with (first | ((with_reducible refine gate_dst (N := 2) rfl ?_); refine be 2 (#[.int .u64 a0_0, .int .u64 a0_1]) 24 ?_; intro gb371 hg w19 hbox hb; have BK371 := Aside0.mk (hbox); have GW371 := Aside0.mk ((by rw [hg]; exact (below_size (bl0 HB.out)) : w.heap.size ≤ gb371)); have GE371 := GW371; replace HB := Aside0.mk (below_step (bl0 HB.out) hb); clear hb hbox hg) | ((with_reducible refine gate_dst (N := 4) rfl ?_); refine be 4 (#[.int .u64 0, .int .u64 0]) 24 ?_; intro gb372 hg w20 hbox hb; have BK372 := Aside0.mk (hbox); have GW372 := Aside0.mk ((by rw [hg]; exact (below_size (bl1 HB.out GE371.out)) : w.heap.size ≤ gb372)); have GE372 := GW372; have NB371_372 := Aside0.mk ((by rw [hg]; exact Nat.ne_of_lt (lt_ BK371.out) : gb371 ≠ gb372)); have NB372_371 := Aside0.mk ((by rw [hg]; exact Nat.ne_of_gt (lt_ BK371.out) : gb372 ≠ gb371)); replace BK371 := Aside0.mk (bb BK371.out hb); replace HB := Aside0.mk (below_step (bl1 HB.out GE371.out) hb); clear hb hbox hg; have hnb21 := NB371_372.out; have hnc21 := NB372_371.out; have hcz22_0 : w20.cell? ⟨gb371, 0, none⟩ = some (.int .u64 a0_0) := (blk_cell BK371.out 0).trans rfl; have hcz22_1 : w20.cell? ⟨gb371, 1, none⟩ = some (.int .u64 a0_1) := (blk_cell BK371.out 1).trans rfl; have hfz22_0 := blk_frozen BK371.out 0; have hfz22_1 := blk_frozen BK371.out 1; have hcz23_0 : w20.cell? ⟨gb372, 0, none⟩ = some (.int .u64 0) := (blk_cell BK372.out 0).trans rfl; have hcz23_1 : w20.cell? ⟨gb372, 1, none⟩ = some (.int .u64 0) := (blk_cell BK372.out 1).trans rfl; have hfz23_0 := blk_frozen BK372.out 0; have hfz23_1 := blk_frozen BK372.out 1))
    refine bodyPost_ret (results_cell_row rfl _ _ gb372 24 #[.int .u64 (Go.bits .or .u64 (ji13) (ji16)), .int .u64 ji18] (0, 0) _ rfl (bk (blk_put (cs := #[.int .u64 (Go.bits .or .u64 (ji13) (ji16)), .int .u64 0]) (bk (blk_put (cs := #[.int .u64 0, .int .u64 0]) (bk BK372.out) 0 _ rfl)) 1 _ rfl)) Try.underlying24 rfl (by kernel_rfl)) rfl ?_
    exact ⟨by first | rfl | (simp [errW_none, errW_some] <;> rfl) | (simp only [← hji13, ← hji14, ← hji16, ← hji18]; first | rfl | (simp [errW_none, errW_some] <;> rfl)) | (simp [*, errW_none, errW_some] <;> rfl), bl2 HB.out GE371.out GE372.out⟩
   ·rw [if_neg c15] at H
    exact absurd H (by simp)
  ·rw [if_neg c12] at H
   exact absurd H (by simp)

/-! ### wide_Shift: function 20 -/
def wide_Shift.j0 : Nat → Int → Bool → Int → Int → Option (Int × Int × Int)
 | 0, _, _, _, _ => none
 | k + 1, x1, x6, x374000, x374001 => if x6 = true then (some (0, 0, 0)) else (if x1 < 0 then ((wide_right.f x374000 x374001 (IntKind.u64.wrap (wrap64 (-x1)))).bind fun bt375 => (some (bt375.1, bt375.2, 0))) else ((wide_Bits.f k x374000 x374001).bind fun t377 => (if x1 > (wrap64 (128 - t377)) then (some (0, 0, 2)) else ((wide_left.f x374000 x374001 (IntKind.u64.wrap (x1))).bind fun bt378 => (some (bt378.1, bt378.2, 0))))))
def wide_Shift.f (k : Nat) (a0_0 : Int) (a0_1 : Int) (a1 : Int) : Option (Int × Int × Int) := if (a0_0 == 0 && (a0_1 == 0)) = true then (wide_Shift.j0 k a1 true a0_0 a0_1) else (wide_Shift.j0 k a1 (decide (a1 ≤ (-128))) a0_0 a0_1)
theorem wide_Shift.mono_l : ∀ k, (∀ y0 y1 y2 y3, LeO (wide_Shift.j0 k y0 y1 y2 y3) (wide_Shift.j0 (k + 1) y0 y1 y2 y3))
 | 0 => fun _ _ _ _ r h => by simp [wide_Shift.j0] at h
 | k + 1 => by
  have ih0 := wide_Shift.mono_l k
  ·intro y0 y1 y2 y3
   unfold wide_Shift.j0
   repeat' first
   | (with_reducible exact ih0 _ _ _ _)
   | (with_reducible exact wide_Bits.mono _ _ _)
   | (with_reducible exact LeO.refl _)
   | (with_reducible exact LeO.none _)
   | (with_reducible refine LeO.ite ?_ ?_)
   | (with_reducible refine LeO.bind ?_ (fun _ => ?_))
   | exact ih0 _ _ _ _
   | exact wide_Bits.mono _ _ _
   | exact LeO.none _
   | refine LeO.ite ?_ ?_
   | refine LeO.bind ?_ (fun _ => ?_)
theorem wide_Shift.mono : ∀ a0 a1 a2 k, LeO (wide_Shift.f k a0 a1 a2) (wide_Shift.f (k + 1) a0 a1 a2) := by
 intro a0 a1 a2 k
 have ih0 := wide_Shift.mono_l k
 unfold wide_Shift.f
 repeat' first
   | (with_reducible exact ih0 _ _ _ _)
   | (with_reducible exact wide_Bits.mono _ _ _)
   | (with_reducible exact LeO.refl _)
   | (with_reducible exact LeO.none _)
   | (with_reducible refine LeO.ite ?_ ?_)
   | (with_reducible refine LeO.bind ?_ (fun _ => ?_))
   | exact ih0 _ _ _ _
   | exact wide_Bits.mono _ _ _
   | exact LeO.none _
   | refine LeO.ite ?_ ?_
   | refine LeO.bind ?_ (fun _ => ?_)
set_option maxHeartbeats 8000000 in
set_option maxRecDepth 100000 in
theorem wide_Shift.calls (k : Nat) (a0_0 : Int) (a0_1 : Int) (a1 : Int) (r1 : Int) (r2 : Int) (r3 : Int) (w : World) (h : wide_Shift.f k a0_0 a0_1 a1 = some (r1, r2, r3)) :
  Calls Try.prog 20 #[.agg #[.int .u64 a0_0, .int .u64 a0_1], .int .i64 a1] w fun e w' => e = .returned (.tuple #[.agg #[.int .u64 r1, .int .u64 r2], .int .i64 r3]) ∧ Below w.heap.size w w' := by
 have hu24 := Try.underlying24
 have HB := Aside0.mk (Below.refl w.heap.size w)
 have H : (if (a0_0 == 0 && (a0_1 == 0)) = true then (wide_Shift.j0 k a1 true a0_0 a0_1) else (wide_Shift.j0 k a1 (decide (a1 ≤ (-128))) a0_0 a0_1)) = some (r1, r2, r3) := h
 clear h
 have HC3 := Aside0.mk H
 clear H
 go_enter Try.func20, Try.ntmps20
 go_upto_region 1 with (first | ((with_reducible refine gate_dst (N := 2) rfl ?_); refine be 2 (#[.int .u64 a0_0, .int .u64 a0_1]) 24 ?_; intro gb373 hg w4 hbox hb; have BK373 := Aside0.mk (hbox); have GW373 := Aside0.mk ((by rw [hg]; exact (below_size (bl0 HB.out)) : w.heap.size ≤ gb373)); have GE373 := GW373; replace HB := Aside0.mk (below_step (bl0 HB.out) hb); clear hb hbox hg) | ((with_reducible refine gate_dst (N := 4) rfl ?_); refine be 4 (#[.int .u64 0, .int .u64 0]) 24 ?_; intro gb374 hg w5 hbox hb; have BK374 := Aside0.mk (hbox); have GW374 := Aside0.mk ((by rw [hg]; exact (below_size (bl1 HB.out GE373.out)) : w.heap.size ≤ gb374)); have GE374 := GW374; have NB373_374 := Aside0.mk ((by rw [hg]; exact Nat.ne_of_lt (lt_ BK373.out) : gb373 ≠ gb374)); have NB374_373 := Aside0.mk ((by rw [hg]; exact Nat.ne_of_gt (lt_ BK373.out) : gb374 ≠ gb373)); replace BK373 := Aside0.mk (bb BK373.out hb); replace HB := Aside0.mk (below_step (bl1 HB.out GE373.out) hb); clear hb hbox hg))
 (try simp only [Act.put, List.setIfInBounds_toArray, List.set_cons_zero, List.set_cons_succ])
 go_cut [6] (fun v6 wc => ∃ (kq : Nat) (x6_2 : Bool), v6 = .bool x6_2 ∧ Aside0 (wide_Shift.j0 kq a1 x6_2 a0_0 a0_1 = some (r1, r2, r3)) ∧ Aside0 (kq ≤ k) ∧ Aside0 (wc.heap[gb373]? = some (.cells #[.int .u64 a0_0, .int .u64 a0_1] 24 (0, 0))) ∧ Aside0 (wc.heap[gb374]? = some (.cells #[.int .u64 0, .int .u64 0] 24 (0, 0))) ∧ Aside0 (Below w.heap.size w wc))
 case first =>
  have H := HC3.out
  clear HC3
  by_cases c6 : (a0_0 == 0 && (a0_1 == 0)) = true
  ·rw [if_pos c6] at H
   have c6b0 : (a0_0 == 0 && (a0_1 == 0)) = true := c6
   (try (have c6b1 : decide (a0_0 = 0 && (a0_1 == 0)) = true := by simpa using c6))
   (try (have c6b2 : (a0_0 == 0 && (a0_1 == 0)) = true := by simpa using c6))
   clear c6
   (first | rw [c6b0] | (simp only [i64_w, i32_w]; rw [c6b0]) | rw [c6b1] | rw [c6b2] | skip)
   have H' := Aside0.mk H
   clear H
   have hnb7 := NB373_374.out
   have hnc7 := NB374_373.out
   have hcz8_0 : w5.cell? ⟨gb373, 0, none⟩ = some (.int .u64 a0_0) := (blk_cell BK373.out 0).trans rfl
   have hcz8_1 : w5.cell? ⟨gb373, 1, none⟩ = some (.int .u64 a0_1) := (blk_cell BK373.out 1).trans rfl
   have hfz8_0 := blk_frozen BK373.out 0
   have hfz8_1 := blk_frozen BK373.out 1
   go_wp2
   go_meet
   case rel => exact ⟨_, (true), fr, H', ⟨by first | omega | exact Nat.le_refl _⟩, ⟨bk BK373.out⟩, ⟨bk BK374.out⟩, ⟨bl2 HB.out GE373.out GE374.out⟩⟩
  ·rw [if_neg c6] at H
   have c6b0 : (a0_0 == 0 && (a0_1 == 0)) = false := by simpa using c6
   (try (have c6b1 : decide (a0_0 = 0 && (a0_1 == 0)) = false := by simpa using c6))
   (try (have c6b2 : (a0_0 == 0 && (a0_1 == 0)) = false := by simpa using c6))
   (try (have c6b3 : ¬ (a0_0 = 0 && (a0_1 == 0)) := by simpa using c6))
   clear c6
   (first | rw [c6b0] | (simp only [i64_w, i32_w]; rw [c6b0]) | rw [c6b1] | rw [c6b2] | rw [c6b3] | skip)
   have H' := Aside0.mk H
   clear H
   have hnb9 := NB373_374.out
   have hnc9 := NB374_373.out
   have hcz10_0 : w5.cell? ⟨gb373, 0, none⟩ = some (.int .u64 a0_0) := (blk_cell BK373.out 0).trans rfl
   have hcz10_1 : w5.cell? ⟨gb373, 1, none⟩ = some (.int .u64 a0_1) := (blk_cell BK373.out 1).trans rfl
   have hfz10_0 := blk_frozen BK373.out 0
   have hfz10_1 := blk_frozen BK373.out 1
   go_wp2
   go_meet
   case rel => exact ⟨_, (decide (a1 ≤ (-128))), fr, H', ⟨by first | omega | exact Nat.le_refl _⟩, ⟨bk BK373.out⟩, ⟨bk BK374.out⟩, ⟨bl2 HB.out GE373.out GE374.out⟩⟩
 case rest =>
  clear HC3
  try clear c2
  try clear p2
  try clear c6
  try clear c6b0
  try clear c6b1
  try clear c6b2
  try clear c7
  try clear c9
  try clear hcz10_0
  try clear hcz10_1
  try clear hcz8_0
  try clear hcz8_1
  try clear hfz10_0
  try clear hfz10_1
  try clear hfz8_0
  try clear hfz8_1
  obtain ⟨kq, x6_2, rfl, HA, HJ2, BK373, BK374, HB⟩ := hcut
  cases kq with
  | zero => exact absurd HA.out (by simp [wide_Shift.j0])
  | succ kj2 =>
   have H := HA.out
   clear HA
   simp only [wide_Shift.j0] at H
   by_cases c11 : x6_2 = true
   ·subst c11
    have H1 : (some (0, 0, 0)) = some (r1, r2, r3) := by rw [if_pos rfl] at H; exact H
    clear H
    have H := H1
    clear H1
    simp only [Option.some.injEq, Prod.mk.injEq] at H
    obtain ⟨rfl, rfl, rfl⟩ := H
    have hnb12 := NB374_373.out
    have hnc12 := NB373_374.out
    have hcz13_0 : wc.cell? ⟨gb374, 0, none⟩ = some (.int .u64 0) := (blk_cell BK374.out 0).trans rfl
    have hcz13_1 : wc.cell? ⟨gb374, 1, none⟩ = some (.int .u64 0) := (blk_cell BK374.out 1).trans rfl
    have hfz13_0 := blk_frozen BK374.out 0
    have hfz13_1 := blk_frozen BK374.out 1
    go_wp2
    refine bodyPost_ret (results_ct rfl _ _ gb374 24 #[.int .u64 0, .int .u64 0] (0, 0) _ rfl (bk (blk_put (cs := #[.int .u64 0, .int .u64 0]) (bk (blk_put (cs := #[.int .u64 0, .int .u64 0]) (bk BK374.out) 0 _ rfl)) 1 _ rfl)) Try.underlying24 rfl (by kernel_rfl)) rfl ?_
    exact ⟨by first | rfl | (simp [errW_none, errW_some] <;> rfl) | (simp [*, errW_none, errW_some] <;> rfl), bl2 HB.out GE373.out GE374.out⟩
   ·replace c11 := Bool.eq_false_iff.mpr c11
    subst c11
    have H1 : (if a1 < 0 then ((wide_right.f a0_0 a0_1 (IntKind.u64.wrap (wrap64 (-a1)))).bind fun bt375 => (some (bt375.1, bt375.2, 0))) else ((wide_Bits.f kj2 a0_0 a0_1).bind fun t377 => (if a1 > (wrap64 (128 - t377)) then (some (0, 0, 2)) else ((wide_left.f a0_0 a0_1 (IntKind.u64.wrap (a1))).bind fun bt378 => (some (bt378.1, bt378.2, 0)))))) = some (r1, r2, r3) := by rw [if_neg (show ¬ (false = true) by decide)] at H; exact H
    clear H
    have H := H1
    clear H1
    by_cases c14 : a1 < 0
    ·rw [if_pos c14] at H
     have c14b0 : decide (a1 < 0) = true := decide_eq_true c14
     clear c14
     replace H := Option.bind_eq_some_iff.mp H
     obtain ⟨⟨t375, t376⟩, A150, H⟩ := H
     replace H : (some (t375, t376, 0)) = some (r1, r2, r3) := H
     have A15 := Aside0.mk A150
     clear A150
     simp only [Option.some.injEq, Prod.mk.injEq] at H
     obtain ⟨rfl, rfl, rfl⟩ := H
     have hnb16 := NB373_374.out
     have hnc16 := NB374_373.out
     have hcz17_0 : wc.cell? ⟨gb373, 0, none⟩ = some (.int .u64 a0_0) := (blk_cell BK373.out 0).trans rfl
     have hcz17_1 : wc.cell? ⟨gb373, 1, none⟩ = some (.int .u64 a0_1) := (blk_cell BK373.out 1).trans rfl
     have hfz17_0 := blk_frozen BK373.out 0
     have hfz17_1 := blk_frozen BK373.out 1
     go_wp2_with (first | ((with_reducible refine gate_callee (f := 37) rfl ?_); refine goesL_ (some 22) rfl rfl Try.func37 (by kernel_rfl) rfl #[.agg #[.int .u64 a0_0, .int .u64 a0_1], .int .u64 (IntKind.u64.wrap (wrap64 (-a1)))] rfl am ?_; (with_reducible refine (wide_right.calls a0_0 a0_1 (IntKind.u64.wrap (wrap64 (-a1))) t375 t376 _ A15.out).mono ?_); rintro e w18 ⟨rfl, hb⟩; refine ⟨_, rfl, ?_⟩; replace BK373 := Aside0.mk (bb BK373.out hb); replace BK374 := Aside0.mk (bb BK374.out hb); replace HB := Aside0.mk (below_step (bl2 HB.out GE373.out GE374.out) hb); (try clear hb); (try clear hb2); (try clear hk); (try clear hi); have hcz19_0 : w18.cell? ⟨gb374, 0, none⟩ = some (.int .u64 0) := (blk_cell BK374.out 0).trans rfl; have hcz19_1 : w18.cell? ⟨gb374, 1, none⟩ = some (.int .u64 0) := (blk_cell BK374.out 1).trans rfl; have hfz19_0 := blk_frozen BK374.out 0; have hfz19_1 := blk_frozen BK374.out 1))
     refine bodyPost_ret (results_ct rfl _ _ gb374 24 #[.int .u64 t375, .int .u64 t376] (0, 0) _ rfl (bk (blk_put (cs := #[.int .u64 t375, .int .u64 0]) (bk (blk_put (cs := #[.int .u64 0, .int .u64 0]) (bk BK374.out) 0 _ rfl)) 1 _ rfl)) Try.underlying24 rfl (by kernel_rfl)) rfl ?_
     exact ⟨by first | rfl | (simp [errW_none, errW_some] <;> rfl) | (simp [*, errW_none, errW_some] <;> rfl), bl2 HB.out GE373.out GE374.out⟩
    ·rw [if_neg c14] at H
     have c14b0 : decide (a1 < 0) = false := decide_eq_false c14
     clear c14
     replace H := Option.bind_eq_some_iff.mp H
     obtain ⟨t377, A200, H⟩ := H
     replace H : (if a1 > (wrap64 (128 - t377)) then (some (0, 0, 2)) else ((wide_left.f a0_0 a0_1 (IntKind.u64.wrap (a1))).bind fun bt378 => (some (bt378.1, bt378.2, 0)))) = some (r1, r2, r3) := H
     have A20 := Aside0.mk A200
     clear A200
     by_cases c21 : a1 > (wrap64 (128 - t377))
     ·rw [if_pos c21] at H
      have c21b0 : decide ((wrap64 (128 - t377)) < a1) = true := decide_eq_true c21
      clear c21
      simp only [Option.some.injEq, Prod.mk.injEq] at H
      obtain ⟨rfl, rfl, rfl⟩ := H
      have hnb22 := NB373_374.out
      have hnc22 := NB374_373.out
      have hcz23_0 : wc.cell? ⟨gb373, 0, none⟩ = some (.int .u64 a0_0) := (blk_cell BK373.out 0).trans rfl
      have hcz23_1 : wc.cell? ⟨gb373, 1, none⟩ = some (.int .u64 a0_1) := (blk_cell BK373.out 1).trans rfl
      have hfz23_0 := blk_frozen BK373.out 0
      have hfz23_1 := blk_frozen BK373.out 1
      go_wp2_with (first | ((with_reducible refine gate_callee (f := 22) rfl ?_); refine goesL_ (some 26) rfl rfl Try.func22 (by kernel_rfl) rfl #[.agg #[.int .u64 a0_0, .int .u64 a0_1]] rfl am ?_; (with_reducible refine (wide_Bits.calls kj2 a0_0 a0_1 t377 _ A20.out).mono ?_); rintro e w24 ⟨rfl, hb⟩; refine ⟨_, rfl, ?_⟩; replace BK373 := Aside0.mk (bb BK373.out hb); replace BK374 := Aside0.mk (bb BK374.out hb); replace HB := Aside0.mk (below_step (bl2 HB.out GE373.out GE374.out) hb); (try clear hb); (try clear hb2); (try clear hk); (try clear hi); have hcz25_0 : w24.cell? ⟨gb374, 0, none⟩ = some (.int .u64 0) := (blk_cell BK374.out 0).trans rfl; have hcz25_1 : w24.cell? ⟨gb374, 1, none⟩ = some (.int .u64 0) := (blk_cell BK374.out 1).trans rfl; have hfz25_0 := blk_frozen BK374.out 0; have hfz25_1 := blk_frozen BK374.out 1))
      refine bodyPost_ret (results_ct rfl _ _ gb374 24 #[.int .u64 0, .int .u64 0] (0, 0) _ rfl (bk (blk_put (cs := #[.int .u64 0, .int .u64 0]) (bk (blk_put (cs := #[.int .u64 0, .int .u64 0]) (bk BK374.out) 0 _ rfl)) 1 _ rfl)) Try.underlying24 rfl (by kernel_rfl)) rfl ?_
      exact ⟨by first | rfl | (simp [errW_none, errW_some] <;> rfl) | (simp [*, errW_none, errW_some] <;> rfl), bl2 HB.out GE373.out GE374.out⟩
     ·rw [if_neg c21] at H
      have c21b0 : decide ((wrap64 (128 - t377)) < a1) = false := decide_eq_false c21
      clear c21
      replace H := Option.bind_eq_some_iff.mp H
      obtain ⟨⟨t378, t379⟩, A260, H⟩ := H
      replace H : (some (t378, t379, 0)) = some (r1, r2, r3) := H
      have A26 := Aside0.mk A260
      clear A260
      simp only [Option.some.injEq, Prod.mk.injEq] at H
      obtain ⟨rfl, rfl, rfl⟩ := H
      have hnb27 := NB373_374.out
      have hnc27 := NB374_373.out
      have hcz28_0 : wc.cell? ⟨gb373, 0, none⟩ = some (.int .u64 a0_0) := (blk_cell BK373.out 0).trans rfl
      have hcz28_1 : wc.cell? ⟨gb373, 1, none⟩ = some (.int .u64 a0_1) := (blk_cell BK373.out 1).trans rfl
      have hfz28_0 := blk_frozen BK373.out 0
      have hfz28_1 := blk_frozen BK373.out 1
      go_wp2_with (first | ((with_reducible refine gate_callee (f := 22) rfl ?_); refine goesL_ (some 26) rfl rfl Try.func22 (by kernel_rfl) rfl #[.agg #[.int .u64 a0_0, .int .u64 a0_1]] rfl am ?_; (with_reducible refine (wide_Bits.calls kj2 a0_0 a0_1 t377 _ A20.out).mono ?_); rintro e w29 ⟨rfl, hb⟩; refine ⟨_, rfl, ?_⟩; replace BK373 := Aside0.mk (bb BK373.out hb); replace BK374 := Aside0.mk (bb BK374.out hb); replace HB := Aside0.mk (below_step (bl2 HB.out GE373.out GE374.out) hb); (try clear hb); (try clear hb2); (try clear hk); (try clear hi); have hcz30_0 : w29.cell? ⟨gb373, 0, none⟩ = some (.int .u64 a0_0) := (blk_cell BK373.out 0).trans rfl; have hcz30_1 : w29.cell? ⟨gb373, 1, none⟩ = some (.int .u64 a0_1) := (blk_cell BK373.out 1).trans rfl; have hfz30_0 := blk_frozen BK373.out 0; have hfz30_1 := blk_frozen BK373.out 1) | ((with_reducible refine gate_callee (f := 38) rfl ?_); refine goesL_ (some 33) rfl rfl Try.func38 (by kernel_rfl) rfl #[.agg #[.int .u64 a0_0, .int .u64 a0_1], .int .u64 (IntKind.u64.wrap (a1))] rfl am ?_; (with_reducible refine (wide_left.calls a0_0 a0_1 (IntKind.u64.wrap (a1)) t378 t379 _ A26.out).mono ?_); rintro e w31 ⟨rfl, hb⟩; refine ⟨_, rfl, ?_⟩; replace BK373 := Aside0.mk (bb BK373.out hb); replace BK374 := Aside0.mk (bb BK374.out hb); replace HB := Aside0.mk (below_step (bl2 HB.out GE373.out GE374.out) hb); (try clear hb); (try clear hb2); (try clear hk); (try clear hi); have hcz32_0 : w31.cell? ⟨gb374, 0, none⟩ = some (.int .u64 0) := (blk_cell BK374.out 0).trans rfl; have hcz32_1 : w31.cell? ⟨gb374, 1, none⟩ = some (.int .u64 0) := (blk_cell BK374.out 1).trans rfl; have hfz32_0 := blk_frozen BK374.out 0; have hfz32_1 := blk_frozen BK374.out 1))
      refine bodyPost_ret (results_ct rfl _ _ gb374 24 #[.int .u64 t378, .int .u64 t379] (0, 0) _ rfl (bk (blk_put (cs := #[.int .u64 t378, .int .u64 0]) (bk (blk_put (cs := #[.int .u64 0, .int .u64 0]) (bk BK374.out) 0 _ rfl)) 1 _ rfl)) Try.underlying24 rfl (by kernel_rfl)) rfl ?_
      exact ⟨by first | rfl | (simp [errW_none, errW_some] <;> rfl) | (simp [*, errW_none, errW_some] <;> rfl), bl2 HB.out GE373.out GE374.out⟩

/-! ### pochoirref01_Shift: function 21 -/
mutual
def pochoirref01_Shift.l0 : Nat → Int → Int → Int → Int → Option (Int × Int × Int)
 | 0, _, _, _, _ => none
 | k + 1, x1, x6, x381000, x381001 => if x6 < x1 then ((pochoirref01_Add.f k x381000 x381001 x381000 x381001).bind fun bt382 => (if bt382.2.2 = 0 then (pochoirref01_Shift.l0 k x1 (wrap64 (x6 + 1)) bt382.1 bt382.2.1) else (some (0, 0, 2)))) else (pochoirref01_Shift.l1 k x1 0 x381000 x381001)
def pochoirref01_Shift.l1 : Nat → Int → Int → Int → Int → Option (Int × Int × Int)
 | 0, _, _, _, _ => none
 | k + 1, x1, x9, x381000, x381001 => if x9 > x1 then (if (!(x381000 == 0) || (!(x381001 == 0))) = true then ((pochoirref01_Div.f k x381000 x381001 2).bind fun bt386 => (pochoirref01_Shift.l1 k x1 (wrap64 (x9 - 1)) bt386.1 bt386.2.1)) else (some (x381000, x381001, 0))) else (some (x381000, x381001, 0))
end
def pochoirref01_Shift.f (k : Nat) (a0_0 : Int) (a0_1 : Int) (a1 : Int) : Option (Int × Int × Int) := if (a0_0 == 0 && (a0_1 == 0)) = true then (some (a0_0, a0_1, 0)) else (pochoirref01_Shift.l0 k a1 0 a0_0 a0_1)
theorem pochoirref01_Shift.mono_l : ∀ k, (∀ y0 y1 y2 y3, LeO (pochoirref01_Shift.l0 k y0 y1 y2 y3) (pochoirref01_Shift.l0 (k + 1) y0 y1 y2 y3)) ∧ (∀ y0 y1 y2 y3, LeO (pochoirref01_Shift.l1 k y0 y1 y2 y3) (pochoirref01_Shift.l1 (k + 1) y0 y1 y2 y3))
 | 0 => ⟨fun _ _ _ _ r h => by simp [pochoirref01_Shift.l0] at h, fun _ _ _ _ r h => by simp [pochoirref01_Shift.l1] at h⟩
 | k + 1 => by
  obtain ⟨ih0, ih1⟩ := pochoirref01_Shift.mono_l k
  refine ⟨?_, ?_⟩
  ·intro y0 y1 y2 y3
   unfold pochoirref01_Shift.l0
   repeat' first
   | (with_reducible exact ih0 _ _ _ _)
   | (with_reducible exact ih1 _ _ _ _)
   | (with_reducible exact pochoirref01_Add.mono _ _ _ _ _)
   | (with_reducible exact pochoirref01_Div.mono _ _ _ _)
   | (with_reducible exact LeO.refl _)
   | (with_reducible exact LeO.none _)
   | (with_reducible refine LeO.ite ?_ ?_)
   | (with_reducible refine LeO.bind ?_ (fun _ => ?_))
   | exact ih0 _ _ _ _
   | exact ih1 _ _ _ _
   | exact pochoirref01_Add.mono _ _ _ _ _
   | exact pochoirref01_Div.mono _ _ _ _
   | exact LeO.none _
   | refine LeO.ite ?_ ?_
   | refine LeO.bind ?_ (fun _ => ?_)
  ·intro y0 y1 y2 y3
   unfold pochoirref01_Shift.l1
   repeat' first
   | (with_reducible exact ih0 _ _ _ _)
   | (with_reducible exact ih1 _ _ _ _)
   | (with_reducible exact pochoirref01_Add.mono _ _ _ _ _)
   | (with_reducible exact pochoirref01_Div.mono _ _ _ _)
   | (with_reducible exact LeO.refl _)
   | (with_reducible exact LeO.none _)
   | (with_reducible refine LeO.ite ?_ ?_)
   | (with_reducible refine LeO.bind ?_ (fun _ => ?_))
   | exact ih0 _ _ _ _
   | exact ih1 _ _ _ _
   | exact pochoirref01_Add.mono _ _ _ _ _
   | exact pochoirref01_Div.mono _ _ _ _
   | exact LeO.none _
   | refine LeO.ite ?_ ?_
   | refine LeO.bind ?_ (fun _ => ?_)
theorem pochoirref01_Shift.mono : ∀ a0 a1 a2 k, LeO (pochoirref01_Shift.f k a0 a1 a2) (pochoirref01_Shift.f (k + 1) a0 a1 a2) := by
 intro a0 a1 a2 k
 obtain ⟨ih0, ih1⟩ := pochoirref01_Shift.mono_l k
 unfold pochoirref01_Shift.f
 repeat' first
   | (with_reducible exact ih0 _ _ _ _)
   | (with_reducible exact ih1 _ _ _ _)
   | (with_reducible exact pochoirref01_Add.mono _ _ _ _ _)
   | (with_reducible exact pochoirref01_Div.mono _ _ _ _)
   | (with_reducible exact LeO.refl _)
   | (with_reducible exact LeO.none _)
   | (with_reducible refine LeO.ite ?_ ?_)
   | (with_reducible refine LeO.bind ?_ (fun _ => ?_))
   | exact ih0 _ _ _ _
   | exact ih1 _ _ _ _
   | exact pochoirref01_Add.mono _ _ _ _ _
   | exact pochoirref01_Div.mono _ _ _ _
   | exact LeO.none _
   | refine LeO.ite ?_ ?_
   | refine LeO.bind ?_ (fun _ => ?_)
set_option maxHeartbeats 8000000 in
set_option maxRecDepth 100000 in
theorem pochoirref01_Shift.calls (k : Nat) (a0_0 : Int) (a0_1 : Int) (a1 : Int) (r1 : Int) (r2 : Int) (r3 : Int) (w : World) (h : pochoirref01_Shift.f k a0_0 a0_1 a1 = some (r1, r2, r3)) :
  Calls Try.prog 21 #[.agg #[.int .u64 a0_0, .int .u64 a0_1], .int .i64 a1] w fun e w' => e = .returned (.tuple #[.agg #[.int .u64 r1, .int .u64 r2], .int .i64 r3]) ∧ Below w.heap.size w w' := by
 have hu24 := Try.underlying24
 have HB := Aside0.mk (Below.refl w.heap.size w)
 have H : (if (a0_0 == 0 && (a0_1 == 0)) = true then (some (a0_0, a0_1, 0)) else (pochoirref01_Shift.l0 k a1 0 a0_0 a0_1)) = some (r1, r2, r3) := h
 clear h
 by_cases c3 : (a0_0 == 0 && (a0_1 == 0)) = true
 ·rw [if_pos c3] at H
  have c3b0 : (a0_0 == 0 && (a0_1 == 0)) = true := c3
  (try (have c3b1 : decide (a0_0 = 0 && (a0_1 == 0)) = true := by simpa using c3))
  (try (have c3b2 : (a0_0 == 0 && (a0_1 == 0)) = true := by simpa using c3))
  clear c3
  simp only [Option.some.injEq, Prod.mk.injEq] at H
  obtain ⟨rfl, rfl, rfl⟩ := H
  go_enter Try.func21, Try.ntmps21
  go_wp2_with (first | ((with_reducible refine gate_dst (N := 2) rfl ?_); refine be 2 (#[.int .u64 a0_0, .int .u64 a0_1]) 24 ?_; intro gb380 hg w4 hbox hb; have BK380 := Aside0.mk (hbox); have GW380 := Aside0.mk ((by rw [hg]; exact (below_size (bl0 HB.out)) : w.heap.size ≤ gb380)); have GE380 := GW380; replace HB := Aside0.mk (below_step (bl0 HB.out) hb); clear hb hbox hg) | ((with_reducible refine gate_dst (N := 4) rfl ?_); refine be 4 (#[.int .u64 0, .int .u64 0]) 24 ?_; intro gb381 hg w5 hbox hb; have BK381 := Aside0.mk (hbox); have GW381 := Aside0.mk ((by rw [hg]; exact (below_size (bl1 HB.out GE380.out)) : w.heap.size ≤ gb381)); have GE381 := GW381; have NB380_381 := Aside0.mk ((by rw [hg]; exact Nat.ne_of_lt (lt_ BK380.out) : gb380 ≠ gb381)); have NB381_380 := Aside0.mk ((by rw [hg]; exact Nat.ne_of_gt (lt_ BK380.out) : gb381 ≠ gb380)); replace BK380 := Aside0.mk (bb BK380.out hb); replace HB := Aside0.mk (below_step (bl1 HB.out GE380.out) hb); clear hb hbox hg; have hnb6 := NB380_381.out; have hnc6 := NB381_380.out; have hcz7_0 : w5.cell? ⟨gb380, 0, none⟩ = some (.int .u64 a0_0) := (blk_cell BK380.out 0).trans rfl; have hcz7_1 : w5.cell? ⟨gb380, 1, none⟩ = some (.int .u64 a0_1) := (blk_cell BK380.out 1).trans rfl; have hfz7_0 := blk_frozen BK380.out 0; have hfz7_1 := blk_frozen BK380.out 1; have hcz8_0 : w5.cell? ⟨gb381, 0, none⟩ = some (.int .u64 0) := (blk_cell BK381.out 0).trans rfl; have hcz8_1 : w5.cell? ⟨gb381, 1, none⟩ = some (.int .u64 0) := (blk_cell BK381.out 1).trans rfl; have hfz8_0 := blk_frozen BK381.out 0; have hfz8_1 := blk_frozen BK381.out 1))
  refine bodyPost_ret (results_ct rfl _ _ gb381 24 #[.int .u64 a0_0, .int .u64 a0_1] (0, 0) _ rfl (bk (blk_put (cs := #[.int .u64 a0_0, .int .u64 0]) (bk (blk_put (cs := #[.int .u64 0, .int .u64 0]) (bk BK381.out) 0 _ rfl)) 1 _ rfl)) Try.underlying24 rfl (by kernel_rfl)) rfl ?_
  exact ⟨by first | rfl | (simp [errW_none, errW_some] <;> rfl) | (simp [*, errW_none, errW_some] <;> rfl), bl2 HB.out GE380.out GE381.out⟩
 ·rw [if_neg c3] at H
  have c3b0 : (a0_0 == 0 && (a0_1 == 0)) = false := by simpa using c3
  (try (have c3b1 : decide (a0_0 = 0 && (a0_1 == 0)) = false := by simpa using c3))
  (try (have c3b2 : (a0_0 == 0 && (a0_1 == 0)) = false := by simpa using c3))
  (try (have c3b3 : ¬ (a0_0 = 0 && (a0_1 == 0)) := by simpa using c3))
  clear c3
  have H' := Aside0.mk H
  clear H
  go_enter Try.func21, Try.ntmps21
  go_wp2_with (first | ((with_reducible refine gate_dst (N := 2) rfl ?_); refine be 2 (#[.int .u64 a0_0, .int .u64 a0_1]) 24 ?_; intro gb380 hg w9 hbox hb; have BK380 := Aside0.mk (hbox); have GW380 := Aside0.mk ((by rw [hg]; exact (below_size (bl0 HB.out)) : w.heap.size ≤ gb380)); have GE380 := GW380; replace HB := Aside0.mk (below_step (bl0 HB.out) hb); clear hb hbox hg) | ((with_reducible refine gate_dst (N := 4) rfl ?_); refine be 4 (#[.int .u64 0, .int .u64 0]) 24 ?_; intro gb381 hg w10 hbox hb; have BK381 := Aside0.mk (hbox); have GW381 := Aside0.mk ((by rw [hg]; exact (below_size (bl1 HB.out GE380.out)) : w.heap.size ≤ gb381)); have GE381 := GW381; have NB380_381 := Aside0.mk ((by rw [hg]; exact Nat.ne_of_lt (lt_ BK380.out) : gb380 ≠ gb381)); have NB381_380 := Aside0.mk ((by rw [hg]; exact Nat.ne_of_gt (lt_ BK380.out) : gb381 ≠ gb380)); replace BK380 := Aside0.mk (bb BK380.out hb); replace HB := Aside0.mk (below_step (bl1 HB.out GE380.out) hb); clear hb hbox hg; have hnb11 := NB380_381.out; have hnc11 := NB381_380.out; have hcz12_0 : w10.cell? ⟨gb380, 0, none⟩ = some (.int .u64 a0_0) := (blk_cell BK380.out 0).trans rfl; have hcz12_1 : w10.cell? ⟨gb380, 1, none⟩ = some (.int .u64 a0_1) := (blk_cell BK380.out 1).trans rfl; have hfz12_0 := blk_frozen BK380.out 0; have hfz12_1 := blk_frozen BK380.out 1))
  go_loopg [6] k (fun kq v6 w' => ∃ (x6_1 : Int) (x381000_1 : Int) (x381001_1 : Int) (x382000_1 : Int) (x382001_1 : Int), v6 = .int .i64 x6_1 ∧ Aside0 (pochoirref01_Shift.l0 kq a1 x6_1 x381000_1 x381001_1 = some (r1, r2, r3)) ∧ Aside0 (kq ≤ k) ∧ Aside0 (w'.heap[gb380]? = some (.cells #[.int .u64 x381000_1, .int .u64 x381001_1] 24 (0, 0))) ∧ Aside0 (w'.heap[gb381]? = some (.cells #[.int .u64 x382000_1, .int .u64 x382001_1] 24 (0, 0))) ∧ Aside0 (Below w.heap.size w w'))
  case atStart => exact ⟨(0), (a0_0), (a0_1), (0), (0), fr, H', ⟨Nat.le_refl _⟩, ⟨bk BK380.out⟩, ⟨bk BK381.out⟩, ⟨bl2 HB.out GE380.out GE381.out⟩⟩
  case round =>
   clear H'
   try clear c1
   try clear c2
   try clear p2
   try clear c3
   try clear c3b0
   try clear c3b1
   try clear c3b2
   try clear c6
   try clear c11
   try clear hcz12_0
   try clear hcz12_1
   try clear hcz7_0
   try clear hcz7_1
   try clear hcz8_0
   try clear hcz8_1
   try clear hfz12_0
   try clear hfz12_1
   try clear hfz7_0
   try clear hfz7_1
   try clear hfz8_0
   try clear hfz8_1
   obtain ⟨x6_1, x381000_1, x381001_1, x382000_1, x382001_1, rfl, HA, HK1, BK380, BK381, HB⟩ := hrel
   cases gk with
   | zero => exact absurd HA.out (by simp [pochoirref01_Shift.l0])
   | succ k1 =>
    have H := HA.out
    clear HA
    simp only [pochoirref01_Shift.l0] at H
    by_cases c13 : x6_1 < a1
    ·rw [if_pos c13] at H
     have c13b0 : decide (x6_1 < a1) = true := decide_eq_true c13
     clear c13
     replace H := Option.bind_eq_some_iff.mp H
     obtain ⟨⟨t382, t383, t384⟩, A140, H⟩ := H
     replace H : (if t384 = 0 then (pochoirref01_Shift.l0 k1 a1 (wrap64 (x6_1 + 1)) t382 t383) else (some (0, 0, 2))) = some (r1, r2, r3) := H
     have A14 := Aside0.mk A140
     clear A140
     by_cases c15 : t384 = 0
     ·rw [if_pos c15] at H
      have c15b0 : (t384 == 0) = true := beq_iff_eq.mpr c15
      have c15b1 : (t384 != 0) = false := bne_eq_false_iff_eq.mpr c15
      clear c15
      have H' := Aside0.mk H
      clear H
      have hnb16 := NB380_381.out
      have hnc16 := NB381_380.out
      have hcz17_0 : wr.cell? ⟨gb380, 0, none⟩ = some (.int .u64 x381000_1) := (blk_cell BK380.out 0).trans rfl
      have hcz17_1 : wr.cell? ⟨gb380, 1, none⟩ = some (.int .u64 x381001_1) := (blk_cell BK380.out 1).trans rfl
      have hfz17_0 := blk_frozen BK380.out 0
      have hfz17_1 := blk_frozen BK380.out 1
      go_wp2_with (first | ((with_reducible refine gate_callee (f := 15) rfl ?_); refine goesL_ (some 22) rfl rfl Try.func15 (by kernel_rfl) rfl #[.agg #[.int .u64 x381000_1, .int .u64 x381001_1], .agg #[.int .u64 x381000_1, .int .u64 x381001_1]] rfl am ?_; (with_reducible refine (pochoirref01_Add.calls k1 x381000_1 x381001_1 x381000_1 x381001_1 t382 t383 t384 _ A14.out).mono ?_); rintro e w18 ⟨rfl, hb⟩; refine ⟨_, rfl, ?_⟩; replace BK380 := Aside0.mk (bb BK380.out hb); replace BK381 := Aside0.mk (bb BK381.out hb); replace HB := Aside0.mk (below_step (bl2 HB.out GE380.out GE381.out) hb); (try clear hb); (try clear hb2); (try clear hk); (try clear hi)) | ((with_reducible refine gate_dst (N := 7) rfl ?_); refine be 7 (#[.int .u64 0, .int .u64 0]) 24 ?_; intro gb385 hg w19 hbox hb; have BK385 := Aside0.mk (hbox); have GW385 := Aside0.mk ((by rw [hg]; exact (below_size (bl2 HB.out GE380.out GE381.out)) : w.heap.size ≤ gb385)); have GE385 := GW385; have NB380_385 := Aside0.mk ((by rw [hg]; exact Nat.ne_of_lt (lt_ BK380.out) : gb380 ≠ gb385)); have NB385_380 := Aside0.mk ((by rw [hg]; exact Nat.ne_of_gt (lt_ BK380.out) : gb385 ≠ gb380)); have NB381_385 := Aside0.mk ((by rw [hg]; exact Nat.ne_of_lt (lt_ BK381.out) : gb381 ≠ gb385)); have NB385_381 := Aside0.mk ((by rw [hg]; exact Nat.ne_of_gt (lt_ BK381.out) : gb385 ≠ gb381)); replace BK380 := Aside0.mk (bb BK380.out hb); replace BK381 := Aside0.mk (bb BK381.out hb); replace HB := Aside0.mk (below_step (bl2 HB.out GE380.out GE381.out) hb); clear hb hbox hg; have hnb20 := NB385_380.out; have hnc20 := NB380_385.out; have hnb21 := NB385_381.out; have hnc21 := NB381_385.out; have hcz22_0 : w19.cell? ⟨gb385, 0, none⟩ = some (.int .u64 0) := (blk_cell BK385.out 0).trans rfl; have hcz22_1 : w19.cell? ⟨gb385, 1, none⟩ = some (.int .u64 0) := (blk_cell BK385.out 1).trans rfl; have hfz22_0 := blk_frozen BK385.out 0; have hfz22_1 := blk_frozen BK385.out 1; have hcz23_0 : w19.cell? ⟨gb380, 0, none⟩ = some (.int .u64 x381000_1) := (blk_cell BK380.out 0).trans rfl; have hcz23_1 : w19.cell? ⟨gb380, 1, none⟩ = some (.int .u64 x381001_1) := (blk_cell BK380.out 1).trans rfl; have hfz23_0 := blk_frozen BK380.out 0; have hfz23_1 := blk_frozen BK380.out 1))
      go_roundg k1
      case measure => have := HK1.out; omega
      case rel => exact ⟨(wrap64 (x6_1 + 1)), (t382), (t383), (x382000_1), (x382001_1), fr, H', ⟨by have := HK1.out; omega⟩, ⟨by (with_reducible repeat (first | refine blk_drewN ?_ _ | refine blk_drew ?_ | refine blk_alloc ?_ _)); refine blk_put (cs := #[.int .u64 t382, .int .u64 x381001_1]) ?_ 1 _ rfl; (with_reducible repeat (first | refine blk_drewN ?_ _ | refine blk_drew ?_ | refine blk_alloc ?_ _)); refine blk_put (cs := #[.int .u64 x381000_1, .int .u64 x381001_1]) ?_ 0 _ rfl; (with_reducible repeat (first | refine blk_drewN ?_ _ | refine blk_drew ?_ | refine blk_alloc ?_ _)); refine blk_far ?_ NB380_385.out _; (with_reducible repeat (first | refine blk_drewN ?_ _ | refine blk_drew ?_ | refine blk_alloc ?_ _)); refine blk_far ?_ NB380_385.out _; (with_reducible repeat (first | refine blk_drewN ?_ _ | refine blk_drew ?_ | refine blk_alloc ?_ _)); exact BK380.out⟩, ⟨by (with_reducible repeat (first | refine blk_drewN ?_ _ | refine blk_drew ?_ | refine blk_alloc ?_ _)); refine blk_far ?_ NB381_380.out _; (with_reducible repeat (first | refine blk_drewN ?_ _ | refine blk_drew ?_ | refine blk_alloc ?_ _)); refine blk_far ?_ NB381_380.out _; (with_reducible repeat (first | refine blk_drewN ?_ _ | refine blk_drew ?_ | refine blk_alloc ?_ _)); refine blk_far ?_ NB381_385.out _; (with_reducible repeat (first | refine blk_drewN ?_ _ | refine blk_drew ?_ | refine blk_alloc ?_ _)); refine blk_far ?_ NB381_385.out _; (with_reducible repeat (first | refine blk_drewN ?_ _ | refine blk_drew ?_ | refine blk_alloc ?_ _)); exact BK381.out⟩, ⟨bl3 HB.out GE380.out GE381.out GE385.out⟩⟩
     ·rw [if_neg c15] at H
      have c15b0 : (t384 == 0) = false := beq_eq_false_iff_ne.mpr c15
      have c15b1 : (t384 != 0) = true := bne_iff_ne.mpr c15
      simp only [Option.some.injEq, Prod.mk.injEq] at H
      obtain ⟨rfl, rfl, rfl⟩ := H
      have hnb24 := NB380_381.out
      have hnc24 := NB381_380.out
      have hcz25_0 : wr.cell? ⟨gb380, 0, none⟩ = some (.int .u64 x381000_1) := (blk_cell BK380.out 0).trans rfl
      have hcz25_1 : wr.cell? ⟨gb380, 1, none⟩ = some (.int .u64 x381001_1) := (blk_cell BK380.out 1).trans rfl
      have hfz25_0 := blk_frozen BK380.out 0
      have hfz25_1 := blk_frozen BK380.out 1
      go_wp2_with (first | ((with_reducible refine gate_callee (f := 15) rfl ?_); refine goesL_ (some 22) rfl rfl Try.func15 (by kernel_rfl) rfl #[.agg #[.int .u64 x381000_1, .int .u64 x381001_1], .agg #[.int .u64 x381000_1, .int .u64 x381001_1]] rfl am ?_; (with_reducible refine (pochoirref01_Add.calls k1 x381000_1 x381001_1 x381000_1 x381001_1 t382 t383 t384 _ A14.out).mono ?_); rintro e w26 ⟨rfl, hb⟩; refine ⟨_, rfl, ?_⟩; replace BK380 := Aside0.mk (bb BK380.out hb); replace BK381 := Aside0.mk (bb BK381.out hb); replace HB := Aside0.mk (below_step (bl2 HB.out GE380.out GE381.out) hb); (try clear hb); (try clear hb2); (try clear hk); (try clear hi)) | ((with_reducible refine gate_dst (N := 7) rfl ?_); refine be 7 (#[.int .u64 0, .int .u64 0]) 24 ?_; intro gb385 hg w27 hbox hb; have BK385 := Aside0.mk (hbox); have GW385 := Aside0.mk ((by rw [hg]; exact (below_size (bl2 HB.out GE380.out GE381.out)) : w.heap.size ≤ gb385)); have GE385 := GW385; have NB380_385 := Aside0.mk ((by rw [hg]; exact Nat.ne_of_lt (lt_ BK380.out) : gb380 ≠ gb385)); have NB385_380 := Aside0.mk ((by rw [hg]; exact Nat.ne_of_gt (lt_ BK380.out) : gb385 ≠ gb380)); have NB381_385 := Aside0.mk ((by rw [hg]; exact Nat.ne_of_lt (lt_ BK381.out) : gb381 ≠ gb385)); have NB385_381 := Aside0.mk ((by rw [hg]; exact Nat.ne_of_gt (lt_ BK381.out) : gb385 ≠ gb381)); replace BK380 := Aside0.mk (bb BK380.out hb); replace BK381 := Aside0.mk (bb BK381.out hb); replace HB := Aside0.mk (below_step (bl2 HB.out GE380.out GE381.out) hb); clear hb hbox hg; have hnb28 := NB385_380.out; have hnc28 := NB380_385.out; have hnb29 := NB385_381.out; have hnc29 := NB381_385.out; have hcz30_0 : w27.cell? ⟨gb385, 0, none⟩ = some (.int .u64 0) := (blk_cell BK385.out 0).trans rfl; have hcz30_1 : w27.cell? ⟨gb385, 1, none⟩ = some (.int .u64 0) := (blk_cell BK385.out 1).trans rfl; have hfz30_0 := blk_frozen BK385.out 0; have hfz30_1 := blk_frozen BK385.out 1; have hcz31_0 : w27.cell? ⟨gb381, 0, none⟩ = some (.int .u64 x382000_1) := (blk_cell BK381.out 0).trans rfl; have hcz31_1 : w27.cell? ⟨gb381, 1, none⟩ = some (.int .u64 x382001_1) := (blk_cell BK381.out 1).trans rfl; have hfz31_0 := blk_frozen BK381.out 0; have hfz31_1 := blk_frozen BK381.out 1))
      refine bodyPost_ret (results_ct rfl _ _ gb381 24 #[.int .u64 0, .int .u64 0] (0, 0) _ rfl (by (with_reducible repeat (first | refine blk_drewN ?_ _ | refine blk_drew ?_ | refine blk_alloc ?_ _)); refine blk_put (cs := #[.int .u64 0, .int .u64 x382001_1]) ?_ 1 _ rfl; (with_reducible repeat (first | refine blk_drewN ?_ _ | refine blk_drew ?_ | refine blk_alloc ?_ _)); refine blk_put (cs := #[.int .u64 x382000_1, .int .u64 x382001_1]) ?_ 0 _ rfl; (with_reducible repeat (first | refine blk_drewN ?_ _ | refine blk_drew ?_ | refine blk_alloc ?_ _)); refine blk_far ?_ NB381_385.out _; (with_reducible repeat (first | refine blk_drewN ?_ _ | refine blk_drew ?_ | refine blk_alloc ?_ _)); refine blk_far ?_ NB381_385.out _; (with_reducible repeat (first | refine blk_drewN ?_ _ | refine blk_drew ?_ | refine blk_alloc ?_ _)); exact BK381.out) Try.underlying24 rfl (by kernel_rfl)) rfl ?_
      exact ⟨by first | rfl | (simp [errW_none, errW_some] <;> rfl) | (simp [*, errW_none, errW_some] <;> rfl), bl3 HB.out GE380.out GE381.out GE385.out⟩
    ·rw [if_neg c13] at H
     have c13b0 : decide (x6_1 < a1) = false := decide_eq_false c13
     clear c13
     have H' := Aside0.mk H
     clear H
     go_wp2
     go_loopg [9] k1 (fun kq v9 w' => ∃ (x9_2 : Int) (x381000_2 : Int) (x381001_2 : Int), v9 = .int .i64 x9_2 ∧ Aside0 (pochoirref01_Shift.l1 kq a1 x9_2 x381000_2 x381001_2 = some (r1, r2, r3)) ∧ Aside0 (kq ≤ k1) ∧ Aside0 (w'.heap[gb380]? = some (.cells #[.int .u64 x381000_2, .int .u64 x381001_2] 24 (0, 0))) ∧ Aside0 (w'.heap[gb381]? = some (.cells #[.int .u64 x382000_1, .int .u64 x382001_1] 24 (0, 0))) ∧ Aside0 (Below w.heap.size w w'))
     case atStart => exact ⟨(0), (x381000_1), (x381001_1), fr, H', ⟨Nat.le_refl _⟩, ⟨bk BK380.out⟩, ⟨bk BK381.out⟩, ⟨bl2 HB.out GE380.out GE381.out⟩⟩
     case round =>
      clear H'
      try clear c1
      try clear c2
      try clear p2
      try clear c3
      try clear c3b0
      try clear c3b1
      try clear c3b2
      try clear c6
      try clear p6
      try clear c11
      try clear c13
      try clear c13b0
      try clear c15
      try clear c15b0
      try clear c15b1
      try clear c16
      try clear c20
      try clear c21
      try clear c24
      try clear c28
      try clear c29
      try clear hcz12_0
      try clear hcz12_1
      try clear hcz17_0
      try clear hcz17_1
      try clear hcz22_0
      try clear hcz22_1
      try clear hcz23_0
      try clear hcz23_1
      try clear hcz25_0
      try clear hcz25_1
      try clear hcz30_0
      try clear hcz30_1
      try clear hcz31_0
      try clear hcz31_1
      try clear hcz7_0
      try clear hcz7_1
      try clear hcz8_0
      try clear hcz8_1
      try clear hfz12_0
      try clear hfz12_1
      try clear hfz17_0
      try clear hfz17_1
      try clear hfz22_0
      try clear hfz22_1
      try clear hfz23_0
      try clear hfz23_1
      try clear hfz25_0
      try clear hfz25_1
      try clear hfz30_0
      try clear hfz30_1
      try clear hfz31_0
      try clear hfz31_1
      try clear hfz7_0
      try clear hfz7_1
      try clear hfz8_0
      try clear hfz8_1
      try clear p2
      obtain ⟨x9_2, x381000_2, x381001_2, rfl, HA, HK2, BK380, BK381, HB⟩ := hrel
      cases gk with
      | zero => exact absurd HA.out (by simp [pochoirref01_Shift.l1])
      | succ k2 =>
       have H := HA.out
       clear HA
       simp only [pochoirref01_Shift.l1] at H
       by_cases c32 : x9_2 > a1
       ·rw [if_pos c32] at H
        have c32b0 : decide (a1 < x9_2) = true := decide_eq_true c32
        clear c32
        by_cases c33 : (!(x381000_2 == 0) || (!(x381001_2 == 0))) = true
        ·rw [if_pos c33] at H
         have c33b0 : (!(x381000_2 == 0) || (!(x381001_2 == 0))) = true := c33
         clear c33
         replace H := Option.bind_eq_some_iff.mp H
         obtain ⟨⟨t386, t387, t388, t389⟩, A340, H⟩ := H
         replace H : (pochoirref01_Shift.l1 k2 a1 (wrap64 (x9_2 - 1)) t386 t387) = some (r1, r2, r3) := H
         have A34 := Aside0.mk A340
         clear A340
         have H' := Aside0.mk H
         clear H
         have hnb35 := NB380_381.out
         have hnc35 := NB381_380.out
         have hcz36_0 : wr.cell? ⟨gb380, 0, none⟩ = some (.int .u64 x381000_2) := (blk_cell BK380.out 0).trans rfl
         have hcz36_1 : wr.cell? ⟨gb380, 1, none⟩ = some (.int .u64 x381001_2) := (blk_cell BK380.out 1).trans rfl
         have hfz36_0 := blk_frozen BK380.out 0
         have hfz36_1 := blk_frozen BK380.out 1
         go_wp2_with (first | ((with_reducible refine gate_callee (f := 11) rfl ?_); refine goesL_ (some 41) rfl rfl Try.func11 (by kernel_rfl) rfl #[.agg #[.int .u64 x381000_2, .int .u64 x381001_2], .int .u64 2] rfl am ?_; (with_reducible refine (pochoirref01_Div.calls k2 x381000_2 x381001_2 2 t386 t387 t388 t389 _ A34.out).mono ?_); rintro e w37 ⟨rfl, hb⟩; refine ⟨_, rfl, ?_⟩; replace BK380 := Aside0.mk (bb BK380.out hb); replace BK381 := Aside0.mk (bb BK381.out hb); replace HB := Aside0.mk (below_step (bl2 HB.out GE380.out GE381.out) hb); (try clear hb); (try clear hb2); (try clear hk); (try clear hi); have hcz38_0 : w37.cell? ⟨gb380, 0, none⟩ = some (.int .u64 x381000_2) := (blk_cell BK380.out 0).trans rfl; have hcz38_1 : w37.cell? ⟨gb380, 1, none⟩ = some (.int .u64 x381001_2) := (blk_cell BK380.out 1).trans rfl; have hfz38_0 := blk_frozen BK380.out 0; have hfz38_1 := blk_frozen BK380.out 1))
         go_roundg k2
         case measure => have := HK1.out; have := HK2.out; omega
         case rel => exact ⟨(wrap64 (x9_2 - 1)), (t386), (t387), fr, H', ⟨by have := HK1.out; have := HK2.out; omega⟩, ⟨by (with_reducible repeat (first | refine blk_drewN ?_ _ | refine blk_drew ?_ | refine blk_alloc ?_ _)); refine blk_put (cs := #[.int .u64 t386, .int .u64 x381001_2]) ?_ 1 _ rfl; (with_reducible repeat (first | refine blk_drewN ?_ _ | refine blk_drew ?_ | refine blk_alloc ?_ _)); refine blk_put (cs := #[.int .u64 x381000_2, .int .u64 x381001_2]) ?_ 0 _ rfl; (with_reducible repeat (first | refine blk_drewN ?_ _ | refine blk_drew ?_ | refine blk_alloc ?_ _)); exact BK380.out⟩, ⟨by (with_reducible repeat (first | refine blk_drewN ?_ _ | refine blk_drew ?_ | refine blk_alloc ?_ _)); refine blk_far ?_ NB381_380.out _; (with_reducible repeat (first | refine blk_drewN ?_ _ | refine blk_drew ?_ | refine blk_alloc ?_ _)); refine blk_far ?_ NB381_380.out _; (with_reducible repeat (first | refine blk_drewN ?_ _ | refine blk_drew ?_ | refine blk_alloc ?_ _)); exact BK381.out⟩, ⟨bl2 HB.out GE380.out GE381.out⟩⟩
        ·rw [if_neg c33] at H
         have c33b0 : (!(x381000_2 == 0) || (!(x381001_2 == 0))) = false := by simpa using c33
         clear c33
         simp only [Option.some.injEq, Prod.mk.injEq] at H
         obtain ⟨rfl, rfl, rfl⟩ := H
         have hnb39 := NB380_381.out
         have hnc39 := NB381_380.out
         have hcz40_0 : wr.cell? ⟨gb380, 0, none⟩ = some (.int .u64 x381000_2) := (blk_cell BK380.out 0).trans rfl
         have hcz40_1 : wr.cell? ⟨gb380, 1, none⟩ = some (.int .u64 x381001_2) := (blk_cell BK380.out 1).trans rfl
         have hfz40_0 := blk_frozen BK380.out 0
         have hfz40_1 := blk_frozen BK380.out 1
         have hcz41_0 : wr.cell? ⟨gb381, 0, none⟩ = some (.int .u64 x382000_1) := (blk_cell BK381.out 0).trans rfl
         have hcz41_1 : wr.cell? ⟨gb381, 1, none⟩ = some (.int .u64 x382001_1) := (blk_cell BK381.out 1).trans rfl
         have hfz41_0 := blk_frozen BK381.out 0
         have hfz41_1 := blk_frozen BK381.out 1
         go_wp2
         refine bodyPost_ret (results_ct rfl _ _ gb381 24 #[.int .u64 x381000_2, .int .u64 x381001_2] (0, 0) _ rfl (bk (blk_put (cs := #[.int .u64 x381000_2, .int .u64 x382001_1]) (bk (blk_put (cs := #[.int .u64 x382000_1, .int .u64 x382001_1]) (bk BK381.out) 0 _ rfl)) 1 _ rfl)) Try.underlying24 rfl (by kernel_rfl)) rfl ?_
         exact ⟨by first | rfl | (simp [errW_none, errW_some] <;> rfl) | (simp [*, errW_none, errW_some] <;> rfl), bl2 HB.out GE380.out GE381.out⟩
       ·rw [if_neg c32] at H
        have c32b0 : decide (a1 < x9_2) = false := decide_eq_false c32
        clear c32
        simp only [Option.some.injEq, Prod.mk.injEq] at H
        obtain ⟨rfl, rfl, rfl⟩ := H
        have hnb42 := NB380_381.out
        have hnc42 := NB381_380.out
        have hcz43_0 : wr.cell? ⟨gb380, 0, none⟩ = some (.int .u64 x381000_2) := (blk_cell BK380.out 0).trans rfl
        have hcz43_1 : wr.cell? ⟨gb380, 1, none⟩ = some (.int .u64 x381001_2) := (blk_cell BK380.out 1).trans rfl
        have hfz43_0 := blk_frozen BK380.out 0
        have hfz43_1 := blk_frozen BK380.out 1
        have hcz44_0 : wr.cell? ⟨gb381, 0, none⟩ = some (.int .u64 x382000_1) := (blk_cell BK381.out 0).trans rfl
        have hcz44_1 : wr.cell? ⟨gb381, 1, none⟩ = some (.int .u64 x382001_1) := (blk_cell BK381.out 1).trans rfl
        have hfz44_0 := blk_frozen BK381.out 0
        have hfz44_1 := blk_frozen BK381.out 1
        go_wp2
        refine bodyPost_ret (results_ct rfl _ _ gb381 24 #[.int .u64 x381000_2, .int .u64 x381001_2] (0, 0) _ rfl (bk (blk_put (cs := #[.int .u64 x381000_2, .int .u64 x382001_1]) (bk (blk_put (cs := #[.int .u64 x382000_1, .int .u64 x382001_1]) (bk BK381.out) 0 _ rfl)) 1 _ rfl)) Try.underlying24 rfl (by kernel_rfl)) rfl ?_
        exact ⟨by first | rfl | (simp [errW_none, errW_some] <;> rfl) | (simp [*, errW_none, errW_some] <;> rfl), bl2 HB.out GE380.out GE381.out⟩

/-! ### pochoirref01_Bits: function 23 -/
def pochoirref01_Bits.l0 : Nat → List Int → Int → Option (Int)
 | 0, _, _ => none
 | k + 1, x3, x4 => if x4 > 0 then ((pochoirref01_bit.f x3 (wrap64 (x4 - 1))).bind fun t394 => (if t394 = 0 then (pochoirref01_Bits.l0 k x3 (wrap64 (x4 - 1))) else (some x4))) else (some x4)
def pochoirref01_Bits.f (k : Nat) (a0_0 : Int) (a0_1 : Int) : Option (Int) := (pochoirref01_Digits.f k a0_0 a0_1).bind fun t391 => (pochoirref01_Bits.l0 k t391 128)
theorem pochoirref01_Bits.mono_l : ∀ k, (∀ y0 y1, LeO (pochoirref01_Bits.l0 k y0 y1) (pochoirref01_Bits.l0 (k + 1) y0 y1))
 | 0 => fun _ _ r h => by simp [pochoirref01_Bits.l0] at h
 | k + 1 => by
  have ih0 := pochoirref01_Bits.mono_l k
  ·intro y0 y1
   unfold pochoirref01_Bits.l0
   repeat' first
   | (with_reducible exact ih0 _ _)
   | (with_reducible exact pochoirref01_Digits.mono _ _ _)
   | (with_reducible exact LeO.refl _)
   | (with_reducible exact LeO.none _)
   | (with_reducible refine LeO.ite ?_ ?_)
   | (with_reducible refine LeO.bind ?_ (fun _ => ?_))
   | exact ih0 _ _
   | exact pochoirref01_Digits.mono _ _ _
   | exact LeO.none _
   | refine LeO.ite ?_ ?_
   | refine LeO.bind ?_ (fun _ => ?_)
theorem pochoirref01_Bits.mono : ∀ a0 a1 k, LeO (pochoirref01_Bits.f k a0 a1) (pochoirref01_Bits.f (k + 1) a0 a1) := by
 intro a0 a1 k
 have ih0 := pochoirref01_Bits.mono_l k
 unfold pochoirref01_Bits.f
 repeat' first
   | (with_reducible exact ih0 _ _)
   | (with_reducible exact pochoirref01_Digits.mono _ _ _)
   | (with_reducible exact LeO.refl _)
   | (with_reducible exact LeO.none _)
   | (with_reducible refine LeO.ite ?_ ?_)
   | (with_reducible refine LeO.bind ?_ (fun _ => ?_))
   | exact ih0 _ _
   | exact pochoirref01_Digits.mono _ _ _
   | exact LeO.none _
   | refine LeO.ite ?_ ?_
   | refine LeO.bind ?_ (fun _ => ?_)
set_option maxHeartbeats 8000000 in
set_option maxRecDepth 100000 in
theorem pochoirref01_Bits.calls (k : Nat) (a0_0 : Int) (a0_1 : Int) (r : Int) (w : World) (h : pochoirref01_Bits.f k a0_0 a0_1 = some r) :
  Calls Try.prog 23 #[.agg #[.int .u64 a0_0, .int .u64 a0_1]] w fun e w' => e = .returned (.int .i64 r) ∧ Below w.heap.size w w' := by
 have hu24 := Try.underlying24
 have HB := Aside0.mk (Below.refl w.heap.size w)
 have H : ((pochoirref01_Digits.f k a0_0 a0_1).bind fun t391 => (pochoirref01_Bits.l0 k t391 128)) = some r := h
 clear h
 replace H := Option.bind_eq_some_iff.mp H
 obtain ⟨t391, A20, H⟩ := H
 replace H : (pochoirref01_Bits.l0 k t391 128) = some r := H
 have A2 := Aside0.mk A20
 clear A20
 have H' := Aside0.mk H
 clear H
 go_enter Try.func23, Try.ntmps23
 go_wp2_with (first | ((with_reducible refine gate_dst (N := 1) rfl ?_); refine be 1 (#[.int .u64 a0_0, .int .u64 a0_1]) 24 ?_; intro gb390 hg w3 hbox hb; have BK390 := Aside0.mk (hbox); have GW390 := Aside0.mk ((by rw [hg]; exact (below_size (bl0 HB.out)) : w.heap.size ≤ gb390)); have GE390 := GW390; replace HB := Aside0.mk (below_step (bl0 HB.out) hb); clear hb hbox hg; have hcz4_0 : w3.cell? ⟨gb390, 0, none⟩ = some (.int .u64 a0_0) := (blk_cell BK390.out 0).trans rfl; have hcz4_1 : w3.cell? ⟨gb390, 1, none⟩ = some (.int .u64 a0_1) := (blk_cell BK390.out 1).trans rfl; have hfz4_0 := blk_frozen BK390.out 0; have hfz4_1 := blk_frozen BK390.out 1) | ((with_reducible refine gate_callee (f := 26) rfl ?_); refine goesL_ (some 6) rfl rfl Try.func26 (by kernel_rfl) rfl #[.agg #[.int .u64 a0_0, .int .u64 a0_1]] rfl am ?_; (with_reducible refine (pochoirref01_Digits.calls k a0_0 a0_1 t391 _ A2.out).mono ?_); rintro e w5 ⟨v392, rfl, ho0, hb⟩; refine ⟨_, rfl, ?_⟩; have HO393 := Aside0.mk (Kd.R_lower ho0 (below_size (bl1 HB.out GE390.out))); replace BK390 := Aside0.mk (bb BK390.out hb); replace HB := Aside0.mk (below_step (bl1 HB.out GE390.out) hb); (try clear hb); (try clear hb2); (try clear hk); (try clear hi); (try clear ho0)))
 go_loopg [4] k (fun kq v4 w' => ∃ (x4_1 : Int), v4 = .int .i64 x4_1 ∧ Aside0 (pochoirref01_Bits.l0 kq t391 x4_1 = some r) ∧ Aside0 (kq ≤ k) ∧ Aside0 (Kd.R (Kd.int .u64) 22 w' w.heap.size (fun _ => True) v392 t391) ∧ Aside0 (w'.heap[gb390]? = some (.cells #[.int .u64 a0_0, .int .u64 a0_1] 24 (0, 0))) ∧ Aside0 (Below w.heap.size w w'))
 case atStart => exact ⟨(128), fr, H', ⟨Nat.le_refl _⟩, ⟨by (with_reducible repeat (first | apply Kd.R_alloc | apply Kd.R_drewN | apply Kd.R_drew)); exact HO393.out⟩, ⟨bk BK390.out⟩, ⟨bl1 HB.out GE390.out⟩⟩
 case round =>
  clear H'
  try clear c2
  try clear p2
  try clear hcz4_0
  try clear hcz4_1
  try clear hfz4_0
  try clear hfz4_1
  obtain ⟨x4_1, rfl, HA, HK1, HO_3, BK390, HB⟩ := hrel
  cases gk with
  | zero => exact absurd HA.out (by simp [pochoirref01_Bits.l0])
  | succ k1 =>
   have H := HA.out
   clear HA
   simp only [pochoirref01_Bits.l0] at H
   by_cases c6 : x4_1 > 0
   ·rw [if_pos c6] at H
    have c6b0 : decide (0 < x4_1) = true := decide_eq_true c6
    clear c6
    replace H := Option.bind_eq_some_iff.mp H
    obtain ⟨t394, A70, H⟩ := H
    replace H : (if t394 = 0 then (pochoirref01_Bits.l0 k1 t391 (wrap64 (x4_1 - 1))) else (some x4_1)) = some r := H
    have A7 := Aside0.mk A70
    clear A70
    by_cases c8 : t394 = 0
    ·rw [if_pos c8] at H
     have c8b0 : (t394 == 0) = true := beq_iff_eq.mpr c8
     have c8b1 : (t394 != 0) = false := bne_eq_false_iff_eq.mpr c8
     clear c8
     have H' := Aside0.mk H
     clear H
     obtain ⟨Ao9, co9, eo9⟩ := Kd.R_slice HO_3.out
     subst eo9
     go_wp2_with (first | (go_at_call 40; (with_reducible refine (pochoirref01_bit.calls _ _ t391 (wrap64 (x4_1 - 1)) t394 _ ?side1 ?side2 A7.out).mono ?_); (case side1 => repeat (first | exact (Kd.R_reads' HO_3.out).2.2 | (with_reducible refine Kd.C_alloc ?_ _) | (with_reducible refine Kd.C_drewN ?_ _) | (with_reducible refine Kd.C_drew ?_))); (case side2 => exact (Kd.R_reads' HO_3.out).2.1); rintro e w' ⟨rfl, ⟨nd, rfl⟩⟩))
     go_roundg k1
     case measure => have := HK1.out; omega
     case rel => exact ⟨(wrap64 (x4_1 - 1)), fr, H', ⟨by have := HK1.out; omega⟩, ⟨by (with_reducible repeat (first | apply Kd.R_alloc | apply Kd.R_drewN | apply Kd.R_drew)); exact HO_3.out⟩, ⟨bk BK390.out⟩, ⟨bl1 HB.out GE390.out⟩⟩
    ·rw [if_neg c8] at H
     have c8b0 : (t394 == 0) = false := beq_eq_false_iff_ne.mpr c8
     have c8b1 : (t394 != 0) = true := bne_iff_ne.mpr c8
     obtain rfl := Option.some.inj H
     obtain ⟨Ao10, co10, eo10⟩ := Kd.R_slice HO_3.out
     subst eo10
     go_wp2_with (first | (go_at_call 40; (with_reducible refine (pochoirref01_bit.calls _ _ t391 (wrap64 (x4_1 - 1)) t394 _ ?side1 ?side2 A7.out).mono ?_); (case side1 => repeat (first | exact (Kd.R_reads' HO_3.out).2.2 | (with_reducible refine Kd.C_alloc ?_ _) | (with_reducible refine Kd.C_drewN ?_ _) | (with_reducible refine Kd.C_drew ?_))); (case side2 => exact (Kd.R_reads' HO_3.out).2.1); rintro e w' ⟨rfl, ⟨nd, rfl⟩⟩))
     go_ret
     exact ⟨by first | rfl | (simp [errW_none, errW_some] <;> rfl) | (simp [*, errW_none, errW_some] <;> rfl), bl1 HB.out GE390.out⟩
   ·rw [if_neg c6] at H
    have c6b0 : decide (0 < x4_1) = false := decide_eq_false c6
    clear c6
    obtain rfl := Option.some.inj H
    go_wp2
    go_ret
    exact ⟨by first | rfl | (simp [errW_none, errW_some] <;> rfl) | (simp [*, errW_none, errW_some] <;> rfl), bl1 HB.out GE390.out⟩

end Go.Proofs.Ytjjnkadfoepflaa.XWide
