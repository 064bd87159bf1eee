-- Printed by a program of this claim. Not trusted: Lean checks it.
import Derived.Test.YtjjnkadfoepflaaXWidex0
namespace Go.Proofs.Ytjjnkadfoepflaa.XWide
open Go.RowKit Go.Proofs.YtjjnkadfoepflaaW.PrintWords Go.Proofs.YtjjnkadfoepflaaW.PrintLast Go.Proofs.YtjjnkadfoepflaaW.PrintMore
attribute [local go_sem] max2_int min2_int max_two min_two max_three min_three max_four min_four   -- for this text's walks alone
set_option linter.unusedVariables false
set_option linter.unusedSimpArgs false
open XOpen

/-! ### wide_right: function 37 -/
def wide_right.f (a0_0 : Int) (a0_1 : Int) (a1 : Int) : Option (Int × Int) := if a1 ≥ 64 then (if 0 ≤ (IntKind.u64.wrap (a1 - 64)) then (some (0, shr .u64 a0_0 (IntKind.u64.wrap (a1 - 64)))) else (none)) else (if 0 ≤ a1 then (if 0 ≤ (IntKind.u64.wrap (64 - a1)) then (some (shr .u64 a0_0 a1, Go.bits .or .u64 (shr .u64 a0_1 a1) (shl .u64 a0_0 (IntKind.u64.wrap (64 - a1))))) else (none)) else (none))
set_option maxHeartbeats 8000000 in
set_option maxRecDepth 100000 in
theorem wide_right.calls (a0_0 : Int) (a0_1 : Int) (a1 : Int) (r1 : Int) (r2 : Int) (w : World) (h : wide_right.f a0_0 a0_1 a1 = some (r1, r2)) :
  Calls Try.prog 37 #[.agg #[.int .u64 a0_0, .int .u64 a0_1], .int .u64 a1] w fun e w' => e = .returned (.agg #[.int .u64 r1, .int .u64 r2]) ∧ Below w.heap.size w w' := by
 have hu24 := Try.underlying24
 have HB := Aside0.mk (Below.refl w.heap.size w)
 have H : (if a1 ≥ 64 then (if 0 ≤ (IntKind.u64.wrap (a1 - 64)) then (some (0, shr .u64 a0_0 (IntKind.u64.wrap (a1 - 64)))) else (none)) else (if 0 ≤ a1 then (if 0 ≤ (IntKind.u64.wrap (64 - a1)) then (some (shr .u64 a0_0 a1, Go.bits .or .u64 (shr .u64 a0_1 a1) (shl .u64 a0_0 (IntKind.u64.wrap (64 - a1))))) else (none)) else (none))) = some (r1, r2) := h
 clear h
 by_cases c3 : a1 ≥ 64
 ·rw [if_pos c3] at H
  have c3b0 : decide (64 ≤ a1) = true := decide_eq_true c3
  clear c3
  obtain ⟨ji4, hji4⟩ : ∃ j_ : Int, (IntKind.u64.wrap (a1 - 64)) = j_ := ⟨_, rfl⟩
  replace H : (if 0 ≤ (ji4) then (some (0, shr .u64 a0_0 (ji4))) else (none)) = some (r1, r2) := by first | (rw [hji4] at H; exact H) | (simp only [hji4] at H ⊢; exact H)
  by_cases c5 : 0 ≤ (ji4)
  ·rw [if_pos c5] at H
   have c5b0 := eq_true c5
   have c5b1 : decide (0 ≤ (ji4)) = true := decide_eq_true c5
   clear c5
   obtain ⟨ji6, hji6⟩ : ∃ j_ : Int, (shr .u64 a0_0 (ji4)) = j_ := ⟨_, rfl⟩
   replace H : (some (0, ji6)) = some (r1, r2) := by first | (rw [hji6] at H; exact H) | (simp only [hji6] at H ⊢; exact H)
   have hji6_ : (a0_0 / 2 ^ min (ji4).toNat 64) = ji6 := hji6
   have hji6z : (ji4) ≤ 64 → (a0_0 / 2 ^ (ji4).toNat) = ji6 := shr_small hji6
   simp only [Option.some.injEq, Prod.mk.injEq] at H
   obtain ⟨rfl, rfl⟩ := H
   go_enter Try.func37, Try.ntmps37
   go_wp2_with (first | ((with_reducible refine gate_dst (N := 2) rfl ?_); refine be 2 (#[.int .u64 a0_0, .int .u64 a0_1]) 24 ?_; intro gb369 hg w7 hbox hb; have BK369 := Aside0.mk (hbox); have GW369 := Aside0.mk ((by rw [hg]; exact (below_size (bl0 HB.out)) : w.heap.size ≤ gb369)); have GE369 := GW369; replace HB := Aside0.mk (below_step (bl0 HB.out) hb); clear hb hbox hg) | ((with_reducible refine gate_dst (N := 4) rfl ?_); refine be 4 (#[.int .u64 0, .int .u64 0]) 24 ?_; intro gb370 hg w8 hbox hb; have BK370 := Aside0.mk (hbox); have GW370 := Aside0.mk ((by rw [hg]; exact (below_size (bl1 HB.out GE369.out)) : w.heap.size ≤ gb370)); have GE370 := GW370; have NB369_370 := Aside0.mk ((by rw [hg]; exact Nat.ne_of_lt (lt_ BK369.out) : gb369 ≠ gb370)); have NB370_369 := Aside0.mk ((by rw [hg]; exact Nat.ne_of_gt (lt_ BK369.out) : gb370 ≠ gb369)); replace BK369 := Aside0.mk (bb BK369.out hb); replace HB := Aside0.mk (below_step (bl1 HB.out GE369.out) hb); clear hb hbox hg; have hnb9 := NB369_370.out; have hnc9 := NB370_369.out; have hcz10_0 : w8.cell? ⟨gb369, 0, none⟩ = some (.int .u64 a0_0) := (blk_cell BK369.out 0).trans rfl; have hcz10_1 : w8.cell? ⟨gb369, 1, none⟩ = some (.int .u64 a0_1) := (blk_cell BK369.out 1).trans rfl; have hfz10_0 := blk_frozen BK369.out 0; have hfz10_1 := blk_frozen BK369.out 1; have hcz11_0 : w8.cell? ⟨gb370, 0, none⟩ = some (.int .u64 0) := (blk_cell BK370.out 0).trans rfl; have hcz11_1 : w8.cell? ⟨gb370, 1, none⟩ = some (.int .u64 0) := (blk_cell BK370.out 1).trans rfl; have hfz11_0 := blk_frozen BK370.out 0; have hfz11_1 := blk_frozen BK370.out 1))
   refine bodyPost_ret (results_cell_row rfl _ _ gb370 24 #[.int .u64 0, .int .u64 ji6] (0, 0) _ rfl (bk (blk_put (cs := #[.int .u64 0, .int .u64 0]) (bk (blk_put (cs := #[.int .u64 0, .int .u64 0]) (bk BK370.out) 0 _ rfl)) 1 _ rfl)) Try.underlying24 rfl (by kernel_rfl)) rfl ?_
   exact ⟨by first | rfl | (simp [errW_none, errW_some] <;> rfl) | (simp only [← hji4, ← hji6]; first | rfl | (simp [errW_none, errW_some] <;> rfl)) | (simp [*, errW_none, errW_some] <;> rfl), bl2 HB.out GE369.out GE370.out⟩
  ·rw [if_neg c5] at H
   exact absurd H (by simp)
 ·rw [if_neg c3] at H
  have c3b0 : decide (64 ≤ a1) = false := decide_eq_false c3
  clear c3
  by_cases c12 : 0 ≤ a1
  ·rw [if_pos c12] at H
   have c12b0 := eq_true c12
   have c12b1 : decide (0 ≤ a1) = true := decide_eq_true c12
   clear c12
   obtain ⟨ji13, hji13⟩ : ∃ j_ : Int, (shr .u64 a0_0 a1) = j_ := ⟨_, rfl⟩
   replace H : (if 0 ≤ (IntKind.u64.wrap (64 - a1)) then (some (ji13, Go.bits .or .u64 (shr .u64 a0_1 a1) (shl .u64 a0_0 (IntKind.u64.wrap (64 - a1))))) else (none)) = some (r1, r2) := by first | (rw [hji13] at H; exact H) | (simp only [hji13] at H ⊢; exact H)
   have hji13_ : (a0_0 / 2 ^ min a1.toNat 64) = ji13 := hji13
   have hji13z : a1 ≤ 64 → (a0_0 / 2 ^ a1.toNat) = ji13 := shr_small hji13
   have c14b0 := eq_true (of_decide_eq_true (by first | (with_reducible assumption) | assumption) : 0 ≤ a1)
   obtain ⟨ji15, hji15⟩ : ∃ j_ : Int, (shr .u64 a0_1 a1) = j_ := ⟨_, rfl⟩
   replace H : (if 0 ≤ (IntKind.u64.wrap (64 - a1)) then (some (ji13, Go.bits .or .u64 (ji15) (shl .u64 a0_0 (IntKind.u64.wrap (64 - a1))))) else (none)) = some (r1, r2) := by first | (rw [hji15] at H; exact H) | (simp only [hji15] at H ⊢; exact H)
   have hji15_ : (a0_1 / 2 ^ min a1.toNat 64) = ji15 := hji15
   have hji15z : a1 ≤ 64 → (a0_1 / 2 ^ a1.toNat) = ji15 := shr_small hji15
   obtain ⟨ji16, hji16⟩ : ∃ j_ : Int, (IntKind.u64.wrap (64 - a1)) = j_ := ⟨_, rfl⟩
   replace H : (if 0 ≤ (ji16) then (some (ji13, Go.bits .or .u64 (ji15) (shl .u64 a0_0 (ji16)))) else (none)) = some (r1, r2) := by first | (rw [hji16] at H; exact H) | (simp only [hji16] at H ⊢; exact H)
   by_cases c17 : 0 ≤ (ji16)
   ·rw [if_pos c17] at H
    have c17b0 := eq_true c17
    have c17b1 : decide (0 ≤ (ji16)) = true := decide_eq_true c17
    clear c17
    obtain ⟨ji18, hji18⟩ : ∃ j_ : Int, (shl .u64 a0_0 (ji16)) = j_ := ⟨_, rfl⟩
    replace H : (some (ji13, Go.bits .or .u64 (ji15) (ji18))) = some (r1, r2) := by first | (rw [hji18] at H; exact H) | (simp only [hji18] at H ⊢; exact H)
    have hji18_ : (IntKind.u64.wrap (a0_0 * 2 ^ min (ji16).toNat 64)) = ji18 := hji18
    have hji18z : (ji16) ≤ 64 → (IntKind.u64.wrap (a0_0 * 2 ^ (ji16).toNat)) = ji18 := shl_small hji18
    simp only [Option.some.injEq, Prod.mk.injEq] at H
    obtain ⟨rfl, rfl⟩ := H
    go_enter Try.func37, Try.ntmps37
    go_wp2_with (first | ((with_reducible refine gate_dst (N := 2) rfl ?_); refine be 2 (#[.int .u64 a0_0, .int .u64 a0_1]) 24 ?_; intro gb369 hg w19 hbox hb; have BK369 := Aside0.mk (hbox); have GW369 := Aside0.mk ((by rw [hg]; exact (below_size (bl0 HB.out)) : w.heap.size ≤ gb369)); have GE369 := GW369; replace HB := Aside0.mk (below_step (bl0 HB.out) hb); clear hb hbox hg) | ((with_reducible refine gate_dst (N := 4) rfl ?_); refine be 4 (#[.int .u64 0, .int .u64 0]) 24 ?_; intro gb370 hg w20 hbox hb; have BK370 := Aside0.mk (hbox); have GW370 := Aside0.mk ((by rw [hg]; exact (below_size (bl1 HB.out GE369.out)) : w.heap.size ≤ gb370)); have GE370 := GW370; have NB369_370 := Aside0.mk ((by rw [hg]; exact Nat.ne_of_lt (lt_ BK369.out) : gb369 ≠ gb370)); have NB370_369 := Aside0.mk ((by rw [hg]; exact Nat.ne_of_gt (lt_ BK369.out) : gb370 ≠ gb369)); replace BK369 := Aside0.mk (bb BK369.out hb); replace HB := Aside0.mk (below_step (bl1 HB.out GE369.out) hb); clear hb hbox hg; have hnb21 := NB369_370.out; have hnc21 := NB370_369.out; have hcz22_0 : w20.cell? ⟨gb369, 0, none⟩ = some (.int .u64 a0_0) := (blk_cell BK369.out 0).trans rfl; have hcz22_1 : w20.cell? ⟨gb369, 1, none⟩ = some (.int .u64 a0_1) := (blk_cell BK369.out 1).trans rfl; have hfz22_0 := blk_frozen BK369.out 0; have hfz22_1 := blk_frozen BK369.out 1; have hcz23_0 : w20.cell? ⟨gb370, 0, none⟩ = some (.int .u64 0) := (blk_cell BK370.out 0).trans rfl; have hcz23_1 : w20.cell? ⟨gb370, 1, none⟩ = some (.int .u64 0) := (blk_cell BK370.out 1).trans rfl; have hfz23_0 := blk_frozen BK370.out 0; have hfz23_1 := blk_frozen BK370.out 1))
    refine bodyPost_ret (results_cell_row rfl _ _ gb370 24 #[.int .u64 ji13, .int .u64 (Go.bits .or .u64 (ji15) (ji18))] (0, 0) _ rfl (bk (blk_put (cs := #[.int .u64 ji13, .int .u64 0]) (bk (blk_put (cs := #[.int .u64 0, .int .u64 0]) (bk BK370.out) 0 _ rfl)) 1 _ rfl)) Try.underlying24 rfl (by kernel_rfl)) rfl ?_
    exact ⟨by first | rfl | (simp [errW_none, errW_some] <;> rfl) | (simp only [← hji13, ← hji15, ← hji16, ← hji18]; first | rfl | (simp [errW_none, errW_some] <;> rfl)) | (simp [*, errW_none, errW_some] <;> rfl), bl2 HB.out GE369.out GE370.out⟩
   ·rw [if_neg c17] at H
    exact absurd H (by simp)
  ·rw [if_neg c12] at H
   exact absurd H (by simp)

end Go.Proofs.Ytjjnkadfoepflaa.XWide
