-- Printed by a program of this claim. Not trusted: Lean checks it.
import Derived.Test.YtemhnlameekmkaaXLinex0
namespace Go.Proofs.Ytemhnlameekmkaa.XLine
open Go.RowKit Go.Proofs.YtemhnlameekmkaaW.PrintWords Go.Proofs.YtemhnlameekmkaaW.PrintLast Go.Proofs.YtemhnlameekmkaaW.PrintMore
attribute [local go_sem] max2_int min2_int max_two min_two max_three min_three max_four min_four   -- for this text's walks alone
set_option linter.unusedVariables false
set_option linter.unusedSimpArgs false
open XOpen

/-! ### line_scale_right: function 63 -/
def line_scale_right.f (a0_0 : Int) (a0_1 : Int) : Option (Bool) := if a0_0 ≥ 1 then (if a0_0 ≤ 1048576 then (if a0_1 ≥ 1 then (some (decide (a0_1 ≤ 255))) else (some false)) else (some false)) else (some false)
set_option maxHeartbeats 8000000 in
set_option maxRecDepth 100000 in
theorem line_scale_right.calls (a0_0 : Int) (a0_1 : Int) (r : Bool) (w : World) (h : line_scale_right.f a0_0 a0_1 = some r) :
  Calls Try.prog 63 #[.agg #[.int .i64 a0_0, .int .i64 a0_1]] w fun e w' => e = .returned (.bool r) ∧ Below w.heap.size w w' := by
 have hu89 := Try.underlying89
 have HB := Aside0.mk (Below.refl w.heap.size w)
 have H : (if a0_0 ≥ 1 then (if a0_0 ≤ 1048576 then (if a0_1 ≥ 1 then (some (decide (a0_1 ≤ 255))) else (some false)) else (some false)) else (some false)) = some r := h
 clear h
 by_cases c2 : a0_0 ≥ 1
 ·rw [if_pos c2] at H
  have c2b0 : decide (1 ≤ a0_0) = true := decide_eq_true c2
  clear c2
  by_cases c3 : a0_0 ≤ 1048576
  ·rw [if_pos c3] at H
   have c3b0 : decide (a0_0 ≤ 1048576) = true := decide_eq_true c3
   clear c3
   by_cases c4 : a0_1 ≥ 1
   ·rw [if_pos c4] at H
    have c4b0 : decide (1 ≤ a0_1) = true := decide_eq_true c4
    clear c4
    obtain rfl := Option.some.inj H
    go_enter Try.func63, Try.ntmps63
    go_wp2_with (first | ((with_reducible refine gate_dst (N := 1) rfl ?_); refine be 1 (#[.int .i64 a0_0, .int .i64 a0_1]) 89 ?_; intro gb101 hg w5 hbox hb; have BK101 := Aside0.mk (hbox); have GW101 := Aside0.mk ((by rw [hg]; exact (below_size (bl0 HB.out)) : w.heap.size ≤ gb101)); have GE101 := GW101; replace HB := Aside0.mk (below_step (bl0 HB.out) hb); clear hb hbox hg; have hcz6_0 : w5.cell? ⟨gb101, 0, none⟩ = some (.int .i64 a0_0) := (blk_cell BK101.out 0).trans rfl; have hcz6_1 : w5.cell? ⟨gb101, 1, none⟩ = some (.int .i64 a0_1) := (blk_cell BK101.out 1).trans rfl; have hfz6_0 := blk_frozen BK101.out 0; have hfz6_1 := blk_frozen BK101.out 1))
    go_ret
    exact ⟨by first | rfl | (simp [errW_none, errW_some] <;> rfl) | (simp [*, errW_none, errW_some] <;> rfl), bl1 HB.out GE101.out⟩
   ·rw [if_neg c4] at H
    have c4b0 : decide (1 ≤ a0_1) = false := decide_eq_false c4
    clear c4
    obtain rfl := Option.some.inj H
    go_enter Try.func63, Try.ntmps63
    go_wp2_with (first | ((with_reducible refine gate_dst (N := 1) rfl ?_); refine be 1 (#[.int .i64 a0_0, .int .i64 a0_1]) 89 ?_; intro gb101 hg w7 hbox hb; have BK101 := Aside0.mk (hbox); have GW101 := Aside0.mk ((by rw [hg]; exact (below_size (bl0 HB.out)) : w.heap.size ≤ gb101)); have GE101 := GW101; replace HB := Aside0.mk (below_step (bl0 HB.out) hb); clear hb hbox hg; have hcz8_0 : w7.cell? ⟨gb101, 0, none⟩ = some (.int .i64 a0_0) := (blk_cell BK101.out 0).trans rfl; have hcz8_1 : w7.cell? ⟨gb101, 1, none⟩ = some (.int .i64 a0_1) := (blk_cell BK101.out 1).trans rfl; have hfz8_0 := blk_frozen BK101.out 0; have hfz8_1 := blk_frozen BK101.out 1))
    go_ret
    exact ⟨by first | rfl | (simp [errW_none, errW_some] <;> rfl) | (simp [*, errW_none, errW_some] <;> rfl), bl1 HB.out GE101.out⟩
  ·rw [if_neg c3] at H
   have c3b0 : decide (a0_0 ≤ 1048576) = false := decide_eq_false c3
   clear c3
   obtain rfl := Option.some.inj H
   go_enter Try.func63, Try.ntmps63
   go_wp2_with (first | ((with_reducible refine gate_dst (N := 1) rfl ?_); refine be 1 (#[.int .i64 a0_0, .int .i64 a0_1]) 89 ?_; intro gb101 hg w9 hbox hb; have BK101 := Aside0.mk (hbox); have GW101 := Aside0.mk ((by rw [hg]; exact (below_size (bl0 HB.out)) : w.heap.size ≤ gb101)); have GE101 := GW101; replace HB := Aside0.mk (below_step (bl0 HB.out) hb); clear hb hbox hg; have hcz10_0 : w9.cell? ⟨gb101, 0, none⟩ = some (.int .i64 a0_0) := (blk_cell BK101.out 0).trans rfl; have hcz10_1 : w9.cell? ⟨gb101, 1, none⟩ = some (.int .i64 a0_1) := (blk_cell BK101.out 1).trans rfl; have hfz10_0 := blk_frozen BK101.out 0; have hfz10_1 := blk_frozen BK101.out 1))
   go_ret
   exact ⟨by first | rfl | (simp [errW_none, errW_some] <;> rfl) | (simp [*, errW_none, errW_some] <;> rfl), bl1 HB.out GE101.out⟩
 ·rw [if_neg c2] at H
  have c2b0 : decide (1 ≤ a0_0) = false := decide_eq_false c2
  clear c2
  obtain rfl := Option.some.inj H
  go_enter Try.func63, Try.ntmps63
  go_wp2_with (first | ((with_reducible refine gate_dst (N := 1) rfl ?_); refine be 1 (#[.int .i64 a0_0, .int .i64 a0_1]) 89 ?_; intro gb101 hg w11 hbox hb; have BK101 := Aside0.mk (hbox); have GW101 := Aside0.mk ((by rw [hg]; exact (below_size (bl0 HB.out)) : w.heap.size ≤ gb101)); have GE101 := GW101; replace HB := Aside0.mk (below_step (bl0 HB.out) hb); clear hb hbox hg; have hcz12_0 : w11.cell? ⟨gb101, 0, none⟩ = some (.int .i64 a0_0) := (blk_cell BK101.out 0).trans rfl; have hcz12_1 : w11.cell? ⟨gb101, 1, none⟩ = some (.int .i64 a0_1) := (blk_cell BK101.out 1).trans rfl; have hfz12_0 := blk_frozen BK101.out 0; have hfz12_1 := blk_frozen BK101.out 1))
  go_ret
  exact ⟨by first | rfl | (simp [errW_none, errW_some] <;> rfl) | (simp [*, errW_none, errW_some] <;> rfl), bl1 HB.out GE101.out⟩

/-! ### wide_Of: function 58 -/
def wide_Of.f (a0 : Int) : Option (Int × Int) := some (0, a0)
set_option maxHeartbeats 8000000 in
set_option maxRecDepth 100000 in
theorem wide_Of.calls (a0 : Int) (r1 : Int) (r2 : Int) (w : World) (h : wide_Of.f a0 = some (r1, r2)) :
  Calls Try.prog 58 #[.int .u64 a0] w fun e w' => e = .returned (.agg #[.int .u64 r1, .int .u64 r2]) ∧ Below w.heap.size w w' := by
 have hu49 := Try.underlying49
 have HB := Aside0.mk (Below.refl w.heap.size w)
 have H : (some (0, a0)) = some (r1, r2) := h
 clear h
 simp only [Option.some.injEq, Prod.mk.injEq] at H
 obtain ⟨rfl, rfl⟩ := H
 go_enter Try.func58, Try.ntmps58
 go_wp2_with (first | ((with_reducible refine gate_dst (N := 2) rfl ?_); refine be 2 (#[.int .u64 0, .int .u64 0]) 49 ?_; intro gb102 hg w2 hbox hb; have BK102 := Aside0.mk (hbox); have GW102 := Aside0.mk ((by rw [hg]; exact (below_size (bl0 HB.out)) : w.heap.size ≤ gb102)); have GE102 := GW102; replace HB := Aside0.mk (below_step (bl0 HB.out) hb); clear hb hbox hg; have hcz3_0 : w2.cell? ⟨gb102, 0, none⟩ = some (.int .u64 0) := (blk_cell BK102.out 0).trans rfl; have hcz3_1 : w2.cell? ⟨gb102, 1, none⟩ = some (.int .u64 0) := (blk_cell BK102.out 1).trans rfl; have hfz3_0 := blk_frozen BK102.out 0; have hfz3_1 := blk_frozen BK102.out 1))
 refine bodyPost_ret (results_cell_row rfl _ _ gb102 49 #[.int .u64 0, .int .u64 a0] (0, 0) _ rfl (bk (blk_put (cs := #[.int .u64 0, .int .u64 0]) (bk (blk_put (cs := #[.int .u64 0, .int .u64 0]) (bk BK102.out) 0 _ rfl)) 1 _ rfl)) Try.underlying49 rfl (by kernel_rfl)) rfl ?_
 exact ⟨by first | rfl | (simp [errW_none, errW_some] <;> rfl) | (simp [*, errW_none, errW_some] <;> rfl), bl1 HB.out GE102.out⟩

/-! ### bits_Mul64: function 76 -/
def bits_Mul64.f (a0 : Int) (a1 : Int) : Option (Int × Int) := some (IntKind.u64.wrap ((IntKind.u64.wrap ((IntKind.u64.wrap ((a0 / 4294967296) * (a1 / 4294967296))) + ((IntKind.u64.wrap ((IntKind.u64.wrap ((a0 / 4294967296) * (Go.bits .and .u64 a1 4294967295))) + ((IntKind.u64.wrap ((Go.bits .and .u64 a0 4294967295) * (Go.bits .and .u64 a1 4294967295))) / 4294967296))) / 4294967296))) + ((IntKind.u64.wrap ((Go.bits .and .u64 (IntKind.u64.wrap ((IntKind.u64.wrap ((a0 / 4294967296) * (Go.bits .and .u64 a1 4294967295))) + ((IntKind.u64.wrap ((Go.bits .and .u64 a0 4294967295) * (Go.bits .and .u64 a1 4294967295))) / 4294967296))) 4294967295) + (IntKind.u64.wrap ((Go.bits .and .u64 a0 4294967295) * (a1 / 4294967296))))) / 4294967296)), IntKind.u64.wrap (a0 * a1))
set_option maxHeartbeats 8000000 in
set_option maxRecDepth 100000 in
theorem bits_Mul64.calls (a0 : Int) (a1 : Int) (r1 : Int) (r2 : Int) (w : World) (h : bits_Mul64.f a0 a1 = some (r1, r2)) :
  Calls Try.prog 76 #[.int .u64 a0, .int .u64 a1] w fun e w' => e = .returned (.tuple #[.int .u64 r1, .int .u64 r2]) ∧ Drawn0 w w' := by
 have H : (some (IntKind.u64.wrap ((IntKind.u64.wrap ((IntKind.u64.wrap ((a0 / 4294967296) * (a1 / 4294967296))) + ((IntKind.u64.wrap ((IntKind.u64.wrap ((a0 / 4294967296) * (Go.bits .and .u64 a1 4294967295))) + ((IntKind.u64.wrap ((Go.bits .and .u64 a0 4294967295) * (Go.bits .and .u64 a1 4294967295))) / 4294967296))) / 4294967296))) + ((IntKind.u64.wrap ((Go.bits .and .u64 (IntKind.u64.wrap ((IntKind.u64.wrap ((a0 / 4294967296) * (Go.bits .and .u64 a1 4294967295))) + ((IntKind.u64.wrap ((Go.bits .and .u64 a0 4294967295) * (Go.bits .and .u64 a1 4294967295))) / 4294967296))) 4294967295) + (IntKind.u64.wrap ((Go.bits .and .u64 a0 4294967295) * (a1 / 4294967296))))) / 4294967296)), IntKind.u64.wrap (a0 * a1))) = some (r1, r2) := h
 clear h
 simp only [Option.some.injEq, Prod.mk.injEq] at H
 obtain ⟨rfl, rfl⟩ := H
 go_enter Try.func76, Try.ntmps76
 go_wp2
 go_ret2
 exact ⟨by first | rfl | (simp; done) | (simp [*]; done), by repeat (first | exact Drawn0.refl _ | apply Drawn0.step)⟩

/-! ### wide_Mul: function 59 -/
def wide_Mul.f (a0 : Int) (a1 : Int) : Option (Int × Int) := (bits_Mul64.f a0 a1).bind fun bt104 => (some (bt104.1, bt104.2))
set_option maxHeartbeats 8000000 in
set_option maxRecDepth 100000 in
theorem wide_Mul.calls (a0 : Int) (a1 : Int) (r1 : Int) (r2 : Int) (w : World) (h : wide_Mul.f a0 a1 = some (r1, r2)) :
  Calls Try.prog 59 #[.int .u64 a0, .int .u64 a1] w fun e w' => e = .returned (.agg #[.int .u64 r1, .int .u64 r2]) ∧ Below w.heap.size w w' := by
 have hu49 := Try.underlying49
 have HB := Aside0.mk (Below.refl w.heap.size w)
 have H : ((bits_Mul64.f a0 a1).bind fun bt104 => (some (bt104.1, bt104.2))) = some (r1, r2) := h
 clear h
 replace H := Option.bind_eq_some_iff.mp H
 obtain ⟨⟨t104, t105⟩, A30, H⟩ := H
 replace H : (some (t104, t105)) = some (r1, r2) := H
 have A3 := Aside0.mk A30
 clear A30
 simp only [Option.some.injEq, Prod.mk.injEq] at H
 obtain ⟨rfl, rfl⟩ := H
 go_enter Try.func59, Try.ntmps59
 go_wp2_with (first | ((with_reducible refine gate_dst (N := 4) rfl ?_); refine be 4 (#[.int .u64 0, .int .u64 0]) 49 ?_; intro gb103 hg w4 hbox hb; have BK103 := Aside0.mk (hbox); have GW103 := Aside0.mk ((by rw [hg]; exact (below_size (bl0 HB.out)) : w.heap.size ≤ gb103)); have GE103 := GW103; replace HB := Aside0.mk (below_step (bl0 HB.out) hb); clear hb hbox hg) | ((with_reducible refine gate_callee (f := 76) rfl ?_); refine goesL_ (some 10) rfl rfl Try.func76 (by kernel_rfl) rfl #[.int .u64 a0, .int .u64 a1] rfl am ?_; (with_reducible refine (bits_Mul64.calls a0 a1 t104 t105 _ A3.out).mono ?_); rintro e w' ⟨rfl, ⟨nd, rfl⟩⟩; refine ⟨_, rfl, ?_⟩; (try (rw [drewN_self w4]; generalize hq_ : World.drewN w4 _ = w4; replace BK103 : Aside0 (w4.heap[gb103]? = some (.cells #[.int .u64 0, .int .u64 0] 49 (0, 0))) := ⟨by rw [← hq_]; exact (bk BK103.out)⟩; replace HB : Aside0 (Below w.heap.size w w4) := ⟨by rw [← hq_]; exact (bl1 HB.out GE103.out)⟩; clear hq_)); have hcz5_0 : w4.cell? ⟨gb103, 0, none⟩ = some (.int .u64 0) := (blk_cell BK103.out 0).trans rfl; have hcz5_1 : w4.cell? ⟨gb103, 1, none⟩ = some (.int .u64 0) := (blk_cell BK103.out 1).trans rfl; have hfz5_0 := blk_frozen BK103.out 0; have hfz5_1 := blk_frozen BK103.out 1))
 refine bodyPost_ret (results_cell_row rfl _ _ gb103 49 #[.int .u64 t104, .int .u64 t105] (0, 0) _ rfl (bk (blk_put (cs := #[.int .u64 t104, .int .u64 0]) (bk (blk_put (cs := #[.int .u64 0, .int .u64 0]) (bk BK103.out) 0 _ rfl)) 1 _ rfl)) Try.underlying49 rfl (by kernel_rfl)) rfl ?_
 exact ⟨by first | rfl | (simp [errW_none, errW_some] <;> rfl) | (simp [*, errW_none, errW_some] <;> rfl), bl1 HB.out GE103.out⟩

/-! ### bits_Add64: function 85 (no body: the model's own entry) -/
def bits_Add64.f (a0 : Int) (a1 : Int) (a2 : Int) : Option (Int × Int) := if 0 ≤ a0 then (if 0 ≤ a1 then (if a1 < 18446744073709551616 then (if 0 ≤ a2 then (if a2 ≤ 1 then (some ((a0 + a1 + a2) % 18446744073709551616, (a0 + a1 + a2) / 18446744073709551616)) else none) else none) else none) else none) else none
theorem bits_Add64.runs (a0 a1 a2 r0 r1 : Int) (w : World) (h : bits_Add64.f a0 a1 a2 = some (r0, r1)) : (callFunc 85 #[.int .u64 a0, .int .u64 a1, .int .u64 a2]).run Try.prog w = .ok (.value (.tuple #[.int .u64 r0, .int .u64 r1])) w := by
 unfold bits_Add64.f at h
 by_cases h0 : 0 ≤ a0
 case neg => rw [if_neg h0] at h; simp at h
 rw [if_pos h0] at h
 by_cases h1 : 0 ≤ a1
 case neg => rw [if_neg h1] at h; simp at h
 rw [if_pos h1] at h
 by_cases h1' : a1 < 18446744073709551616
 case neg => rw [if_neg h1'] at h; simp at h
 rw [if_pos h1'] at h
 by_cases h2 : 0 ≤ a2
 case neg => rw [if_neg h2] at h; simp at h
 rw [if_pos h2] at h
 by_cases h2' : a2 ≤ 1
 case neg => rw [if_neg h2'] at h; simp at h
 rw [if_pos h2'] at h
 simp only [Option.some.injEq, Prod.mk.injEq] at h
 obtain ⟨rfl, rfl⟩ := h
 obtain ⟨x, rfl⟩ := Int.eq_ofNat_of_zero_le h0
 obtain ⟨y, rfl⟩ := Int.eq_ofNat_of_zero_le h1
 obtain ⟨c, rfl⟩ := Int.eq_ofNat_of_zero_le h2
 rw [run_callFunc_extern Try.func85 (by kernel_rfl) (by kernel_rfl) (by kernel_rfl) (e := add64Entry) (by kernel_rfl), run_add64 x y c (by omega) (by omega) (by omega) (by omega)]
 all_goals (simp only [Result.andThen]; try (congr 5 <;> omega))

/-! ### wide_Add: function 77 -/
def wide_Add.f (a0_0 : Int) (a0_1 : Int) (a1_0 : Int) (a1_1 : Int) : Option (Int × Int × Int) := (bits_Add64.f a0_1 a1_1 0).bind fun bt109 => ((bits_Add64.f a0_0 a1_0 bt109.2).bind fun bt111 => (if bt111.2 = 0 then (some (bt111.1, bt109.1, 0)) else (some (0, 0, 2))))
set_option maxHeartbeats 8000000 in
set_option maxRecDepth 100000 in
theorem wide_Add.calls (a0_0 : Int) (a0_1 : Int) (a1_0 : Int) (a1_1 : Int) (r1 : Int) (r2 : Int) (r3 : Int) (w : World) (h : wide_Add.f a0_0 a0_1 a1_0 a1_1 = some (r1, r2, r3)) :
  Calls Try.prog 77 #[.agg #[.int .u64 a0_0, .int .u64 a0_1], .agg #[.int .u64 a1_0, .int .u64 a1_1]] w fun e w' => e = .returned (.tuple #[.agg #[.int .u64 r1, .int .u64 r2], .int .i64 r3]) ∧ Below w.heap.size w w' := by
 have hu49 := Try.underlying49
 have HB := Aside0.mk (Below.refl w.heap.size w)
 have H : ((bits_Add64.f a0_1 a1_1 0).bind fun bt109 => ((bits_Add64.f a0_0 a1_0 bt109.2).bind fun bt111 => (if bt111.2 = 0 then (some (bt111.1, bt109.1, 0)) else (some (0, 0, 2))))) = some (r1, r2, r3) := h
 clear h
 replace H := Option.bind_eq_some_iff.mp H
 obtain ⟨⟨t109, t110⟩, A30, H⟩ := H
 replace H : ((bits_Add64.f a0_0 a1_0 t110).bind fun bt111 => (if bt111.2 = 0 then (some (bt111.1, t109, 0)) else (some (0, 0, 2)))) = some (r1, r2, r3) := H
 have A3 := Aside0.mk A30
 clear A30
 replace H := Option.bind_eq_some_iff.mp H
 obtain ⟨⟨t111, t112⟩, A40, H⟩ := H
 replace H : (if t112 = 0 then (some (t111, t109, 0)) else (some (0, 0, 2))) = some (r1, r2, r3) := H
 have A4 := Aside0.mk A40
 clear A40
 by_cases c5 : t112 = 0
 ·rw [if_pos c5] at H
  have c5b0 : (t112 == 0) = true := beq_iff_eq.mpr c5
  have c5b1 : (t112 != 0) = false := bne_eq_false_iff_eq.mpr c5
  clear c5
  simp only [Option.some.injEq, Prod.mk.injEq] at H
  obtain ⟨rfl, rfl, rfl⟩ := H
  go_enter Try.func77, Try.ntmps77
  go_wp2_with (first | ((with_reducible refine gate_dst (N := 2) rfl ?_); refine be 2 (#[.int .u64 a0_0, .int .u64 a0_1]) 49 ?_; intro gb106 hg w6 hbox hb; have BK106 := Aside0.mk (hbox); have GW106 := Aside0.mk ((by rw [hg]; exact (below_size (bl0 HB.out)) : w.heap.size ≤ gb106)); have GE106 := GW106; replace HB := Aside0.mk (below_step (bl0 HB.out) hb); clear hb hbox hg) | ((with_reducible refine gate_dst (N := 3) rfl ?_); refine be 3 (#[.int .u64 a1_0, .int .u64 a1_1]) 49 ?_; intro gb107 hg w7 hbox hb; have BK107 := Aside0.mk (hbox); have GW107 := Aside0.mk ((by rw [hg]; exact (below_size (bl1 HB.out GE106.out)) : w.heap.size ≤ gb107)); have GE107 := GW107; have NB106_107 := Aside0.mk ((by rw [hg]; exact Nat.ne_of_lt (lt_ BK106.out) : gb106 ≠ gb107)); have NB107_106 := Aside0.mk ((by rw [hg]; exact Nat.ne_of_gt (lt_ BK106.out) : gb107 ≠ gb106)); replace BK106 := Aside0.mk (bb BK106.out hb); replace HB := Aside0.mk (below_step (bl1 HB.out GE106.out) hb); clear hb hbox hg) | ((with_reducible refine gate_dst (N := 4) rfl ?_); refine be 4 (#[.int .u64 0, .int .u64 0]) 49 ?_; intro gb108 hg w8 hbox hb; have BK108 := Aside0.mk (hbox); have GW108 := Aside0.mk ((by rw [hg]; exact (below_size (bl2 HB.out GE106.out GE107.out)) : w.heap.size ≤ gb108)); have GE108 := GW108; have NB106_108 := Aside0.mk ((by rw [hg]; exact Nat.ne_of_lt (lt_ BK106.out) : gb106 ≠ gb108)); have NB108_106 := Aside0.mk ((by rw [hg]; exact Nat.ne_of_gt (lt_ BK106.out) : gb108 ≠ gb106)); have NB107_108 := Aside0.mk ((by rw [hg]; exact Nat.ne_of_lt (lt_ BK107.out) : gb107 ≠ gb108)); have NB108_107 := Aside0.mk ((by rw [hg]; exact Nat.ne_of_gt (lt_ BK107.out) : gb108 ≠ gb107)); replace BK106 := Aside0.mk (bb BK106.out hb); replace BK107 := Aside0.mk (bb BK107.out hb); replace HB := Aside0.mk (below_step (bl2 HB.out GE106.out GE107.out) hb); clear hb hbox hg; have hnb9 := NB106_107.out; have hnc9 := NB107_106.out; have hnb10 := NB106_108.out; have hnc10 := NB108_106.out; have hcz11_0 : w8.cell? ⟨gb106, 0, none⟩ = some (.int .u64 a0_0) := (blk_cell BK106.out 0).trans rfl; have hcz11_1 : w8.cell? ⟨gb106, 1, none⟩ = some (.int .u64 a0_1) := (blk_cell BK106.out 1).trans rfl; have hfz11_0 := blk_frozen BK106.out 0; have hfz11_1 := blk_frozen BK106.out 1; have hnb12 := NB107_108.out; have hnc12 := NB108_107.out; have hcz13_0 : w8.cell? ⟨gb107, 0, none⟩ = some (.int .u64 a1_0) := (blk_cell BK107.out 0).trans rfl; have hcz13_1 : w8.cell? ⟨gb107, 1, none⟩ = some (.int .u64 a1_1) := (blk_cell BK107.out 1).trans rfl; have hfz13_0 := blk_frozen BK107.out 0; have hfz13_1 := blk_frozen BK107.out 1) | ((with_reducible refine gate_callee (f := 85) rfl ?_); refine goesX_ (some 14) rfl rfl rfl (args := #[.int .u64 a0_1, .int .u64 a1_1, .int .u64 0]) (by (try simp only [List.map_toArray, List.map_cons, List.map_nil]); first | done | rfl) (bits_Add64.runs a0_1 a1_1 0 t109 t110 _ A3.out) ?_; (try (rw [drewN_self w8]; generalize hq_ : World.drewN w8 _ = w8; replace BK106 : Aside0 (w8.heap[gb106]? = some (.cells #[.int .u64 a0_0, .int .u64 a0_1] 49 (0, 0))) := ⟨by rw [← hq_]; exact (bk BK106.out)⟩; replace BK107 : Aside0 (w8.heap[gb107]? = some (.cells #[.int .u64 a1_0, .int .u64 a1_1] 49 (0, 0))) := ⟨by rw [← hq_]; exact (bk BK107.out)⟩; replace BK108 : Aside0 (w8.heap[gb108]? = some (.cells #[.int .u64 0, .int .u64 0] 49 (0, 0))) := ⟨by rw [← hq_]; exact (bk BK108.out)⟩; replace HB : Aside0 (Below w.heap.size w w8) := ⟨by rw [← hq_]; exact (bl3 HB.out GE106.out GE107.out GE108.out)⟩; clear hq_))) | ((with_reducible refine gate_callee (f := 85) rfl ?_); refine goesX_ (some 23) rfl rfl rfl (args := #[.int .u64 a0_0, .int .u64 a1_0, .int .u64 t110]) (by (try simp only [List.map_toArray, List.map_cons, List.map_nil]); first | done | rfl) (bits_Add64.runs a0_0 a1_0 t110 t111 t112 _ A4.out) ?_; (try (rw [drewN_self w8]; generalize hq_ : World.drewN w8 _ = w8; replace BK106 : Aside0 (w8.heap[gb106]? = some (.cells #[.int .u64 a0_0, .int .u64 a0_1] 49 (0, 0))) := ⟨by rw [← hq_]; exact (bk BK106.out)⟩; replace BK107 : Aside0 (w8.heap[gb107]? = some (.cells #[.int .u64 a1_0, .int .u64 a1_1] 49 (0, 0))) := ⟨by rw [← hq_]; exact (bk BK107.out)⟩; replace BK108 : Aside0 (w8.heap[gb108]? = some (.cells #[.int .u64 0, .int .u64 0] 49 (0, 0))) := ⟨by rw [← hq_]; exact (bk BK108.out)⟩; replace HB : Aside0 (Below w.heap.size w w8) := ⟨by rw [← hq_]; exact (bl3 HB.out GE106.out GE107.out GE108.out)⟩; clear hq_)); have hcz14_0 : w8.cell? ⟨gb108, 0, none⟩ = some (.int .u64 0) := (blk_cell BK108.out 0).trans rfl; have hcz14_1 : w8.cell? ⟨gb108, 1, none⟩ = some (.int .u64 0) := (blk_cell BK108.out 1).trans rfl; have hfz14_0 := blk_frozen BK108.out 0; have hfz14_1 := blk_frozen BK108.out 1))
  refine bodyPost_ret (results_ct rfl _ _ gb108 49 #[.int .u64 t111, .int .u64 t109] (0, 0) _ rfl (bk (blk_put (cs := #[.int .u64 t111, .int .u64 0]) (bk (blk_put (cs := #[.int .u64 0, .int .u64 0]) (bk BK108.out) 0 _ rfl)) 1 _ rfl)) Try.underlying49 rfl (by kernel_rfl)) rfl ?_
  exact ⟨by first | rfl | (simp [errW_none, errW_some] <;> rfl) | (simp [*, errW_none, errW_some] <;> rfl), bl3 HB.out GE106.out GE107.out GE108.out⟩
 ·rw [if_neg c5] at H
  have c5b0 : (t112 == 0) = false := beq_eq_false_iff_ne.mpr c5
  have c5b1 : (t112 != 0) = true := bne_iff_ne.mpr c5
  simp only [Option.some.injEq, Prod.mk.injEq] at H
  obtain ⟨rfl, rfl, rfl⟩ := H
  go_enter Try.func77, Try.ntmps77
  go_wp2_with (first | ((with_reducible refine gate_dst (N := 2) rfl ?_); refine be 2 (#[.int .u64 a0_0, .int .u64 a0_1]) 49 ?_; intro gb106 hg w15 hbox hb; have BK106 := Aside0.mk (hbox); have GW106 := Aside0.mk ((by rw [hg]; exact (below_size (bl0 HB.out)) : w.heap.size ≤ gb106)); have GE106 := GW106; replace HB := Aside0.mk (below_step (bl0 HB.out) hb); clear hb hbox hg) | ((with_reducible refine gate_dst (N := 3) rfl ?_); refine be 3 (#[.int .u64 a1_0, .int .u64 a1_1]) 49 ?_; intro gb107 hg w16 hbox hb; have BK107 := Aside0.mk (hbox); have GW107 := Aside0.mk ((by rw [hg]; exact (below_size (bl1 HB.out GE106.out)) : w.heap.size ≤ gb107)); have GE107 := GW107; have NB106_107 := Aside0.mk ((by rw [hg]; exact Nat.ne_of_lt (lt_ BK106.out) : gb106 ≠ gb107)); have NB107_106 := Aside0.mk ((by rw [hg]; exact Nat.ne_of_gt (lt_ BK106.out) : gb107 ≠ gb106)); replace BK106 := Aside0.mk (bb BK106.out hb); replace HB := Aside0.mk (below_step (bl1 HB.out GE106.out) hb); clear hb hbox hg) | ((with_reducible refine gate_dst (N := 4) rfl ?_); refine be 4 (#[.int .u64 0, .int .u64 0]) 49 ?_; intro gb108 hg w17 hbox hb; have BK108 := Aside0.mk (hbox); have GW108 := Aside0.mk ((by rw [hg]; exact (below_size (bl2 HB.out GE106.out GE107.out)) : w.heap.size ≤ gb108)); have GE108 := GW108; have NB106_108 := Aside0.mk ((by rw [hg]; exact Nat.ne_of_lt (lt_ BK106.out) : gb106 ≠ gb108)); have NB108_106 := Aside0.mk ((by rw [hg]; exact Nat.ne_of_gt (lt_ BK106.out) : gb108 ≠ gb106)); have NB107_108 := Aside0.mk ((by rw [hg]; exact Nat.ne_of_lt (lt_ BK107.out) : gb107 ≠ gb108)); have NB108_107 := Aside0.mk ((by rw [hg]; exact Nat.ne_of_gt (lt_ BK107.out) : gb108 ≠ gb107)); replace BK106 := Aside0.mk (bb BK106.out hb); replace BK107 := Aside0.mk (bb BK107.out hb); replace HB := Aside0.mk (below_step (bl2 HB.out GE106.out GE107.out) hb); clear hb hbox hg; have hnb18 := NB106_107.out; have hnc18 := NB107_106.out; have hnb19 := NB106_108.out; have hnc19 := NB108_106.out; have hcz20_0 : w17.cell? ⟨gb106, 0, none⟩ = some (.int .u64 a0_0) := (blk_cell BK106.out 0).trans rfl; have hcz20_1 : w17.cell? ⟨gb106, 1, none⟩ = some (.int .u64 a0_1) := (blk_cell BK106.out 1).trans rfl; have hfz20_0 := blk_frozen BK106.out 0; have hfz20_1 := blk_frozen BK106.out 1; have hnb21 := NB107_108.out; have hnc21 := NB108_107.out; have hcz22_0 : w17.cell? ⟨gb107, 0, none⟩ = some (.int .u64 a1_0) := (blk_cell BK107.out 0).trans rfl; have hcz22_1 : w17.cell? ⟨gb107, 1, none⟩ = some (.int .u64 a1_1) := (blk_cell BK107.out 1).trans rfl; have hfz22_0 := blk_frozen BK107.out 0; have hfz22_1 := blk_frozen BK107.out 1) | ((with_reducible refine gate_callee (f := 85) rfl ?_); refine goesX_ (some 14) rfl rfl rfl (args := #[.int .u64 a0_1, .int .u64 a1_1, .int .u64 0]) (by (try simp only [List.map_toArray, List.map_cons, List.map_nil]); first | done | rfl) (bits_Add64.runs a0_1 a1_1 0 t109 t110 _ A3.out) ?_; (try (rw [drewN_self w17]; generalize hq_ : World.drewN w17 _ = w17; replace BK106 : Aside0 (w17.heap[gb106]? = some (.cells #[.int .u64 a0_0, .int .u64 a0_1] 49 (0, 0))) := ⟨by rw [← hq_]; exact (bk BK106.out)⟩; replace BK107 : Aside0 (w17.heap[gb107]? = some (.cells #[.int .u64 a1_0, .int .u64 a1_1] 49 (0, 0))) := ⟨by rw [← hq_]; exact (bk BK107.out)⟩; replace BK108 : Aside0 (w17.heap[gb108]? = some (.cells #[.int .u64 0, .int .u64 0] 49 (0, 0))) := ⟨by rw [← hq_]; exact (bk BK108.out)⟩; replace HB : Aside0 (Below w.heap.size w w17) := ⟨by rw [← hq_]; exact (bl3 HB.out GE106.out GE107.out GE108.out)⟩; clear hq_))) | ((with_reducible refine gate_callee (f := 85) rfl ?_); refine goesX_ (some 23) rfl rfl rfl (args := #[.int .u64 a0_0, .int .u64 a1_0, .int .u64 t110]) (by (try simp only [List.map_toArray, List.map_cons, List.map_nil]); first | done | rfl) (bits_Add64.runs a0_0 a1_0 t110 t111 t112 _ A4.out) ?_; (try (rw [drewN_self w17]; generalize hq_ : World.drewN w17 _ = w17; replace BK106 : Aside0 (w17.heap[gb106]? = some (.cells #[.int .u64 a0_0, .int .u64 a0_1] 49 (0, 0))) := ⟨by rw [← hq_]; exact (bk BK106.out)⟩; replace BK107 : Aside0 (w17.heap[gb107]? = some (.cells #[.int .u64 a1_0, .int .u64 a1_1] 49 (0, 0))) := ⟨by rw [← hq_]; exact (bk BK107.out)⟩; replace BK108 : Aside0 (w17.heap[gb108]? = some (.cells #[.int .u64 0, .int .u64 0] 49 (0, 0))) := ⟨by rw [← hq_]; exact (bk BK108.out)⟩; replace HB : Aside0 (Below w.heap.size w w17) := ⟨by rw [← hq_]; exact (bl3 HB.out GE106.out GE107.out GE108.out)⟩; clear hq_)); have hcz23_0 : w17.cell? ⟨gb108, 0, none⟩ = some (.int .u64 0) := (blk_cell BK108.out 0).trans rfl; have hcz23_1 : w17.cell? ⟨gb108, 1, none⟩ = some (.int .u64 0) := (blk_cell BK108.out 1).trans rfl; have hfz23_0 := blk_frozen BK108.out 0; have hfz23_1 := blk_frozen BK108.out 1))
  refine bodyPost_ret (results_ct rfl _ _ gb108 49 #[.int .u64 0, .int .u64 0] (0, 0) _ rfl (bk (blk_put (cs := #[.int .u64 0, .int .u64 0]) (bk (blk_put (cs := #[.int .u64 0, .int .u64 0]) (bk BK108.out) 0 _ rfl)) 1 _ rfl)) Try.underlying49 rfl (by kernel_rfl)) rfl ?_
  exact ⟨by first | rfl | (simp [errW_none, errW_some] <;> rfl) | (simp [*, errW_none, errW_some] <;> rfl), bl3 HB.out GE106.out GE107.out GE108.out⟩

end Go.Proofs.Ytemhnlameekmkaa.XLine
