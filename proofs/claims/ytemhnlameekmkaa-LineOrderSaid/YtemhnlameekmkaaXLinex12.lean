-- Printed by a program of this claim. Not trusted: Lean checks it.
import Derived.Test.YtemhnlameekmkaaXLinex0
import Derived.Test.YtemhnlameekmkaaXLinex6
import Derived.Test.YtemhnlameekmkaaXLinex7
import Derived.Test.YtemhnlameekmkaaXLinex9
namespace Go.Proofs.Ytemhnlameekmkaa.XLine
open Go.RowKit Go.Proofs.YtemhnlameekmkaaW.PrintWords Go.Proofs.YtemhnlameekmkaaW.PrintLast Go.Proofs.YtemhnlameekmkaaW.PrintMore
attribute [local go_sem] max2_int min2_int max_two min_two max_three min_three max_four min_four   -- for this text's walks alone
set_option linter.unusedVariables false
set_option linter.unusedSimpArgs false
open XOpen

/-! ### pochoirlaw19_LineOrder: function 11 -/
mutual
def pochoirlaw19_LineOrder.j0 : Nat → Int → Int → Bool → Int → Int → Int → Int → Int → Int → Option (Bool)
 | 0, _, _, _, _, _, _, _, _, _ => none
 | k + 1, x1, x2, x25, x387000, x387001, x387002, x387003, x387004, x387005 => if x25 = true then (some false) else ((line_Segment.f k (Int.tmod (wrap64 (x387000)) 1048576) (Int.tmod (wrap64 (x387001)) 1048576) (Int.tmod (wrap64 (x387002)) 1048576) (Int.tmod (wrap64 (x387003)) 1048576) (Int.tmod (wrap64 (x387004)) 1048576) (Int.tmod (wrap64 (x387005)) 1048576) (wrap64 (1 + (wrap64 (Int.tmod x1 1048576)))) (wrap64 (1 + (wrap64 (Int.tmod x2 127))))).bind fun bt392 => (pochoirlaw19_LineOrder.j1 k (wrap64 (1 + (wrap64 (Int.tmod x1 1048576)))) (wrap64 (1 + (wrap64 (Int.tmod x2 127)))) bt392.1 bt392.2 (Int.tmod (wrap64 (x387000)) 1048576) (Int.tmod (wrap64 (x387001)) 1048576) (Int.tmod (wrap64 (x387002)) 1048576) (Int.tmod (wrap64 (x387003)) 1048576) (Int.tmod (wrap64 (x387004)) 1048576) (Int.tmod (wrap64 (x387005)) 1048576)))
def pochoirlaw19_LineOrder.j1 : Nat → Int → Int → Int → Int → Int → Int → Int → Int → Int → Int → Option (Bool)
 | 0, _, _, _, _, _, _, _, _, _, _ => none
 | k + 1, x10, x11, x12, x13, x389000, x389001, x389002, x389003, x389004, x389005 => (line_Ray.f k x389000 x389001 x389002 x389003 x389004 x389005 x10 x11).bind fun bt394 => (pochoirlaw19_LineOrder.j2 k x10 x11 x12 x13 bt394.1 bt394.2 x389000 x389001 x389002 x389003 x389004 x389005)
def pochoirlaw19_LineOrder.j2 : Nat → Int → Int → Int → Int → Int → Int → Int → Int → Int → Int → Int → Int → Option (Bool)
 | 0, _, _, _, _, _, _, _, _, _, _, _, _ => none
 | k + 1, x10, x11, x12, x13, x14, x15, x389000, x389001, x389002, x389003, x389004, x389005 => (line_Point.f k x389000 x389001 x389002 x389003 x10 x11).bind fun bt396 => ((line_Point.f k x389000 x389001 x389004 x389005 x10 x11).bind fun bt398 => ((line_Segment.f k x389000 x389001 x389004 x389005 x389002 x389003 x10 x11).bind fun bt400 => ((line_Segment.f k x389000 x389001 x389002 x389003 x389004 x389005 x10 (wrap64 (2 * x11))).bind fun bt402 => (if x13 = 0 then (if x15 = 0 then (if bt396.2 = 0 then (if bt398.2 = 0 then (if bt400.2 = 0 then (if bt402.2 = 0 then (if x12 ≤ bt396.1 then (if x12 ≤ bt398.1 then (if x14 ≤ x12 then (if bt400.1 = x12 then (some ((wrap64 (Int.tdiv bt402.1 2)) == x12)) else (some false)) else (some false)) else (some false)) else (some false)) else (some false)) else (some false)) else (some false)) else (some false)) else (some false)) else (some false)))))
end
def pochoirlaw19_LineOrder.f (k : Nat) (a0_0 : Int) (a0_1 : Int) (a0_2 : Int) (a0_3 : Int) (a0_4 : Int) (a0_5 : Int) (a1 : Int) (a2 : Int) : Option (Bool) := (pochoirlaw19_awake.f k).bind fun t387 => (pochoirlaw19_LineOrder.j0 k a1 a2 (!t387) a0_0 a0_1 a0_2 a0_3 a0_4 a0_5)
theorem pochoirlaw19_LineOrder.mono_l : ∀ k, (∀ y0 y1 y2 y3 y4 y5 y6 y7 y8, LeO (pochoirlaw19_LineOrder.j0 k y0 y1 y2 y3 y4 y5 y6 y7 y8) (pochoirlaw19_LineOrder.j0 (k + 1) y0 y1 y2 y3 y4 y5 y6 y7 y8)) ∧ (∀ y0 y1 y2 y3 y4 y5 y6 y7 y8 y9, LeO (pochoirlaw19_LineOrder.j1 k y0 y1 y2 y3 y4 y5 y6 y7 y8 y9) (pochoirlaw19_LineOrder.j1 (k + 1) y0 y1 y2 y3 y4 y5 y6 y7 y8 y9)) ∧ (∀ y0 y1 y2 y3 y4 y5 y6 y7 y8 y9 y10 y11, LeO (pochoirlaw19_LineOrder.j2 k y0 y1 y2 y3 y4 y5 y6 y7 y8 y9 y10 y11) (pochoirlaw19_LineOrder.j2 (k + 1) y0 y1 y2 y3 y4 y5 y6 y7 y8 y9 y10 y11))
 | 0 => ⟨fun _ _ _ _ _ _ _ _ _ r h => by simp [pochoirlaw19_LineOrder.j0] at h, fun _ _ _ _ _ _ _ _ _ _ r h => by simp [pochoirlaw19_LineOrder.j1] at h, fun _ _ _ _ _ _ _ _ _ _ _ _ r h => by simp [pochoirlaw19_LineOrder.j2] at h⟩
 | k + 1 => by
  obtain ⟨ih0, ih1, ih2⟩ := pochoirlaw19_LineOrder.mono_l k
  refine ⟨?_, ?_, ?_⟩
  ·intro y0 y1 y2 y3 y4 y5 y6 y7 y8
   unfold pochoirlaw19_LineOrder.j0
   repeat' first
   | (with_reducible exact ih0 _ _ _ _ _ _ _ _ _)
   | (with_reducible exact ih1 _ _ _ _ _ _ _ _ _ _)
   | (with_reducible exact ih2 _ _ _ _ _ _ _ _ _ _ _ _)
   | (with_reducible exact line_Point.mono _ _ _ _ _ _ _)
   | (with_reducible exact line_Ray.mono _ _ _ _ _ _ _ _ _)
   | (with_reducible exact line_Segment.mono _ _ _ _ _ _ _ _ _)
   | (with_reducible exact pochoirlaw19_awake.mono _)
   | (with_reducible exact LeO.refl _)
   | (with_reducible exact LeO.none _)
   | (with_reducible refine LeO.ite ?_ ?_)
   | (with_reducible refine LeO.bind ?_ (fun _ => ?_))
   | exact ih0 _ _ _ _ _ _ _ _ _
   | exact ih1 _ _ _ _ _ _ _ _ _ _
   | exact ih2 _ _ _ _ _ _ _ _ _ _ _ _
   | exact line_Point.mono _ _ _ _ _ _ _
   | exact line_Ray.mono _ _ _ _ _ _ _ _ _
   | exact line_Segment.mono _ _ _ _ _ _ _ _ _
   | exact pochoirlaw19_awake.mono _
   | exact LeO.none _
   | refine LeO.ite ?_ ?_
   | refine LeO.bind ?_ (fun _ => ?_)
  ·intro y0 y1 y2 y3 y4 y5 y6 y7 y8 y9
   unfold pochoirlaw19_LineOrder.j1
   repeat' first
   | (with_reducible exact ih0 _ _ _ _ _ _ _ _ _)
   | (with_reducible exact ih1 _ _ _ _ _ _ _ _ _ _)
   | (with_reducible exact ih2 _ _ _ _ _ _ _ _ _ _ _ _)
   | (with_reducible exact line_Point.mono _ _ _ _ _ _ _)
   | (with_reducible exact line_Ray.mono _ _ _ _ _ _ _ _ _)
   | (with_reducible exact line_Segment.mono _ _ _ _ _ _ _ _ _)
   | (with_reducible exact pochoirlaw19_awake.mono _)
   | (with_reducible exact LeO.refl _)
   | (with_reducible exact LeO.none _)
   | (with_reducible refine LeO.ite ?_ ?_)
   | (with_reducible refine LeO.bind ?_ (fun _ => ?_))
   | exact ih0 _ _ _ _ _ _ _ _ _
   | exact ih1 _ _ _ _ _ _ _ _ _ _
   | exact ih2 _ _ _ _ _ _ _ _ _ _ _ _
   | exact line_Point.mono _ _ _ _ _ _ _
   | exact line_Ray.mono _ _ _ _ _ _ _ _ _
   | exact line_Segment.mono _ _ _ _ _ _ _ _ _
   | exact pochoirlaw19_awake.mono _
   | exact LeO.none _
   | refine LeO.ite ?_ ?_
   | refine LeO.bind ?_ (fun _ => ?_)
  ·intro y0 y1 y2 y3 y4 y5 y6 y7 y8 y9 y10 y11
   unfold pochoirlaw19_LineOrder.j2
   repeat' first
   | (with_reducible exact ih0 _ _ _ _ _ _ _ _ _)
   | (with_reducible exact ih1 _ _ _ _ _ _ _ _ _ _)
   | (with_reducible exact ih2 _ _ _ _ _ _ _ _ _ _ _ _)
   | (with_reducible exact line_Point.mono _ _ _ _ _ _ _)
   | (with_reducible exact line_Ray.mono _ _ _ _ _ _ _ _ _)
   | (with_reducible exact line_Segment.mono _ _ _ _ _ _ _ _ _)
   | (with_reducible exact pochoirlaw19_awake.mono _)
   | (with_reducible exact LeO.refl _)
   | (with_reducible exact LeO.none _)
   | (with_reducible refine LeO.ite ?_ ?_)
   | (with_reducible refine LeO.bind ?_ (fun _ => ?_))
   | exact ih0 _ _ _ _ _ _ _ _ _
   | exact ih1 _ _ _ _ _ _ _ _ _ _
   | exact ih2 _ _ _ _ _ _ _ _ _ _ _ _
   | exact line_Point.mono _ _ _ _ _ _ _
   | exact line_Ray.mono _ _ _ _ _ _ _ _ _
   | exact line_Segment.mono _ _ _ _ _ _ _ _ _
   | exact pochoirlaw19_awake.mono _
   | exact LeO.none _
   | refine LeO.ite ?_ ?_
   | refine LeO.bind ?_ (fun _ => ?_)
theorem pochoirlaw19_LineOrder.mono : ∀ a0 a1 a2 a3 a4 a5 a6 a7 k, LeO (pochoirlaw19_LineOrder.f k a0 a1 a2 a3 a4 a5 a6 a7) (pochoirlaw19_LineOrder.f (k + 1) a0 a1 a2 a3 a4 a5 a6 a7) := by
 intro a0 a1 a2 a3 a4 a5 a6 a7 k
 obtain ⟨ih0, ih1, ih2⟩ := pochoirlaw19_LineOrder.mono_l k
 unfold pochoirlaw19_LineOrder.f
 repeat' first
   | (with_reducible exact ih0 _ _ _ _ _ _ _ _ _)
   | (with_reducible exact ih1 _ _ _ _ _ _ _ _ _ _)
   | (with_reducible exact ih2 _ _ _ _ _ _ _ _ _ _ _ _)
   | (with_reducible exact line_Point.mono _ _ _ _ _ _ _)
   | (with_reducible exact line_Ray.mono _ _ _ _ _ _ _ _ _)
   | (with_reducible exact line_Segment.mono _ _ _ _ _ _ _ _ _)
   | (with_reducible exact pochoirlaw19_awake.mono _)
   | (with_reducible exact LeO.refl _)
   | (with_reducible exact LeO.none _)
   | (with_reducible refine LeO.ite ?_ ?_)
   | (with_reducible refine LeO.bind ?_ (fun _ => ?_))
   | exact ih0 _ _ _ _ _ _ _ _ _
   | exact ih1 _ _ _ _ _ _ _ _ _ _
   | exact ih2 _ _ _ _ _ _ _ _ _ _ _ _
   | exact line_Point.mono _ _ _ _ _ _ _
   | exact line_Ray.mono _ _ _ _ _ _ _ _ _
   | exact line_Segment.mono _ _ _ _ _ _ _ _ _
   | exact pochoirlaw19_awake.mono _
   | exact LeO.none _
   | refine LeO.ite ?_ ?_
   | refine LeO.bind ?_ (fun _ => ?_)
set_option maxHeartbeats 8000000 in
set_option maxRecDepth 100000 in
theorem pochoirlaw19_LineOrder.calls (k : Nat) (a0_0 : Int) (a0_1 : Int) (a0_2 : Int) (a0_3 : Int) (a0_4 : Int) (a0_5 : Int) (a1 : Int) (a2 : Int) (r : Bool) (w : World) (hq_ : r = true) (h : pochoirlaw19_LineOrder.f k a0_0 a0_1 a0_2 a0_3 a0_4 a0_5 a1 a2 = some r) :
  Calls Try.prog 11 #[.agg #[.int .i32 a0_0, .int .i32 a0_1, .int .i32 a0_2, .int .i32 a0_3, .int .i32 a0_4, .int .i32 a0_5], .int .u32 a1, .int .u8 a2] w fun e w' => e = .returned (.bool r) ∧ Below w.heap.size w w' := by
 have hu23 := Try.underlying23
 have hu27 := Try.underlying27
 have hu22 := Try.underlying22
 have hu26 := Try.underlying26
 have hix23_0 : ∀ (v0_ v1_ v2_ v3_ v4_ v5_ : Value) (W : World), (Instr.index 23 (.agg #[v0_, v1_, v2_, v3_, v4_, v5_]) (.int .i64 0)).run Try.prog W = .ok (.agg #[v0_, v1_]) W := fun v0_ v1_ v2_ v3_ v4_ v5_ W => by rfl
 have hix23_1 : ∀ (v0_ v1_ v2_ v3_ v4_ v5_ : Value) (W : World), (Instr.index 23 (.agg #[v0_, v1_, v2_, v3_, v4_, v5_]) (.int .i64 1)).run Try.prog W = .ok (.agg #[v2_, v3_]) W := fun v0_ v1_ v2_ v3_ v4_ v5_ W => by rfl
 have hix23_2 : ∀ (v0_ v1_ v2_ v3_ v4_ v5_ : Value) (W : World), (Instr.index 23 (.agg #[v0_, v1_, v2_, v3_, v4_, v5_]) (.int .i64 2)).run Try.prog W = .ok (.agg #[v4_, v5_]) W := fun v0_ v1_ v2_ v3_ v4_ v5_ W => by rfl
 have HB := Aside0.mk (Below.refl w.heap.size w)
 have HQ := Aside0.mk hq_
 clear hq_
 have H : ((pochoirlaw19_awake.f k).bind fun t387 => (pochoirlaw19_LineOrder.j0 k a1 a2 (!t387) a0_0 a0_1 a0_2 a0_3 a0_4 a0_5)) = some r := h
 clear h
 have HC4 := Aside0.mk H
 clear H
 go_enter Try.func11, Try.ntmps11
 go_upto_region 1 with (first | ((with_reducible refine gate_dst (N := 3) rfl ?_); refine box_event ?hg (N := 3) ?hd (cs := #[.int .i32 a0_0, .int .i32 a0_1, .int .i32 a0_2, .int .i32 a0_3, .int .i32 a0_4, .int .i32 a0_5]) (t := 23) ?hr ?_; (case hd => rfl); (case hg => rfl); (case hr => first | (go_simp; done) | (go_simp; rfl)); intro gb386 hg w5 hbox hb; have n0_ := Aside0.mk (below_step (bl0 HB.out) hb); have n1_ := Aside0.mk (hbox); have n2_ := Aside0.mk ((by rw [hg]; exact (below_size (bl0 HB.out)) : w.heap.size ≤ gb386)); have n3_ := n2_; clear HB; have HB := n0_; have BK386 := n1_; have GW386 := n2_; have GE386 := n3_; clear n0_ n1_ n2_ n3_; clear hb hbox hg))
 (try simp only [Act.put, List.setIfInBounds_toArray, List.set_cons_zero, List.set_cons_succ])
 go_cut [25] (fun v25 wc => ∃ (kq : Nat) (x25_3 : Bool), v25 = .bool x25_3 ∧ Aside0 (pochoirlaw19_LineOrder.j0 kq a1 a2 x25_3 a0_0 a0_1 a0_2 a0_3 a0_4 a0_5 = some r) ∧ Aside0 (kq ≤ k) ∧ Aside0 (wc.heap[gb386]? = some (.cells #[.int .i32 a0_0, .int .i32 a0_1, .int .i32 a0_2, .int .i32 a0_3, .int .i32 a0_4, .int .i32 a0_5] 23 (0, 0))) ∧ Aside0 (Below w.heap.size w wc))
 case first =>
  have H := HC4.out
  clear HC4
  replace H := Option.bind_eq_some_iff.mp H
  obtain ⟨t387, A60, H⟩ := H
  replace H : (pochoirlaw19_LineOrder.j0 k a1 a2 (!t387) a0_0 a0_1 a0_2 a0_3 a0_4 a0_5) = some r := H
  have A6 := Aside0.mk A60
  clear A60
  have H' := Aside0.mk H
  clear H
  go_wp2_with (first | ((with_reducible refine gate_callee (f := 37) rfl ?_); refine goesL_ (some 24) rfl rfl Try.func37 (by kernel_rfl) rfl #[] rfl am ?_; (with_reducible refine (pochoirlaw19_awake.calls k  t387 _ A6.out).mono ?_); rintro e w7 ⟨rfl, hb⟩; refine ⟨_, rfl, ?_⟩; have n0_ := Aside0.mk (bb BK386.out hb); have n1_ := Aside0.mk (below_step (bl1 HB.out GE386.out) hb); clear BK386; clear HB; have BK386 := n0_; have HB := n1_; clear n0_ n1_; (try clear hb); (try clear hb2); (try clear hk); (try clear hi)))
  go_meet
  case rel => exact ⟨_, (!t387), fr, H', ⟨by first | omega | exact Nat.le_refl _⟩, ⟨bk BK386.out⟩, ⟨bl1 HB.out GE386.out⟩⟩
 case rest =>
  clear HC4
  try clear c1
  try clear p2
  try clear c3
  obtain ⟨kq, x25_3, rfl, HA, HJ3, BK386, HB⟩ := hcut
  cases kq with
  | zero => exact absurd HA.out (by simp [pochoirlaw19_LineOrder.j0])
  | succ kj3 =>
   have H := HA.out
   clear HA
   simp only [pochoirlaw19_LineOrder.j0] at H
   by_cases c8 : x25_3 = true
   ·subst c8
    have H1 : (some false) = some r := by rw [if_pos rfl] at H; exact H
    clear H
    have H := H1
    clear H1
    exact absurd (HQ.out ▸ H) (by simp)
   ·replace c8 := Bool.eq_false_iff.mpr c8
    subst c8
    have H1 : ((line_Segment.f kj3 (Int.tmod (wrap64 (a0_0)) 1048576) (Int.tmod (wrap64 (a0_1)) 1048576) (Int.tmod (wrap64 (a0_2)) 1048576) (Int.tmod (wrap64 (a0_3)) 1048576) (Int.tmod (wrap64 (a0_4)) 1048576) (Int.tmod (wrap64 (a0_5)) 1048576) (wrap64 (1 + (wrap64 (Int.tmod a1 1048576)))) (wrap64 (1 + (wrap64 (Int.tmod a2 127))))).bind fun bt392 => (pochoirlaw19_LineOrder.j1 kj3 (wrap64 (1 + (wrap64 (Int.tmod a1 1048576)))) (wrap64 (1 + (wrap64 (Int.tmod a2 127)))) bt392.1 bt392.2 (Int.tmod (wrap64 (a0_0)) 1048576) (Int.tmod (wrap64 (a0_1)) 1048576) (Int.tmod (wrap64 (a0_2)) 1048576) (Int.tmod (wrap64 (a0_3)) 1048576) (Int.tmod (wrap64 (a0_4)) 1048576) (Int.tmod (wrap64 (a0_5)) 1048576))) = some r := by rw [if_neg (show ¬ (false = true) by decide)] at H; exact H
    clear H
    have H := H1
    clear H1
    go_wp2_with (first | ((with_reducible refine gate_dst (N := 7) rfl ?_); refine box_event ?hg (N := 7) ?hd (cs := #[.int .i64 0, .int .i64 0, .int .i64 0, .int .i64 0, .int .i64 0, .int .i64 0]) (t := 27) ?hr ?_; (case hd => rfl); (case hg => rfl); (case hr => first | (go_simp; done) | (go_simp; rfl)); intro gb388 hg w9 hbox hb; have n0_ := Aside0.mk (bb BK386.out hb); have n1_ := Aside0.mk (below_step (bl1 HB.out GE386.out) hb); have n2_ := Aside0.mk (hbox); have n3_ := Aside0.mk ((by rw [hg]; exact (below_size (bl1 HB.out GE386.out)) : w.heap.size ≤ gb388)); have n4_ := n3_; have n5_ := Aside0.mk ((by rw [hg]; exact Nat.ne_of_lt (lt_ BK386.out) : gb386 ≠ gb388)); have n6_ := Aside0.mk ((by rw [hg]; exact Nat.ne_of_gt (lt_ BK386.out) : gb388 ≠ gb386)); clear BK386; clear HB; have BK386 := n0_; have HB := n1_; have BK388 := n2_; have GW388 := n3_; have GE388 := n4_; have NB386_388 := n5_; have NB388_386 := n6_; clear n0_ n1_ n2_ n3_ n4_ n5_ n6_; clear hb hbox hg; have hnb10 := NB386_388.out; have hnc10 := NB388_386.out; have hcz11_0 : w9.cell? ⟨gb386, 0, none⟩ = some (.int .i32 a0_0) := (blk_cell BK386.out 0).trans rfl; have hcz11_1 : w9.cell? ⟨gb386, 1, none⟩ = some (.int .i32 a0_1) := (blk_cell BK386.out 1).trans rfl; have hcz11_2 : w9.cell? ⟨gb386, 2, none⟩ = some (.int .i32 a0_2) := (blk_cell BK386.out 2).trans rfl; have hcz11_3 : w9.cell? ⟨gb386, 3, none⟩ = some (.int .i32 a0_3) := (blk_cell BK386.out 3).trans rfl; have hcz11_4 : w9.cell? ⟨gb386, 4, none⟩ = some (.int .i32 a0_4) := (blk_cell BK386.out 4).trans rfl; have hcz11_5 : w9.cell? ⟨gb386, 5, none⟩ = some (.int .i32 a0_5) := (blk_cell BK386.out 5).trans rfl; have hfz11_0 := blk_frozen BK386.out 0; have hfz11_1 := blk_frozen BK386.out 1; have hfz11_2 := blk_frozen BK386.out 2; have hfz11_3 := blk_frozen BK386.out 3; have hfz11_4 := blk_frozen BK386.out 4; have hfz11_5 := blk_frozen BK386.out 5))
    refine wp_loop_rounds 9 ?_
    go_wp2
    rw [rounds_succ]
    go_wp2_with (first | ((with_reducible refine gate_dst (N := 9) rfl ?_); refine box_event ?hg (N := 9) ?hd (cs := #[.int .i32 0, .int .i32 0]) (t := 22) ?hr ?_; (case hd => rfl); (case hg => rfl); (case hr => first | (go_simp; done) | (go_simp; rfl)); intro gb389 hg w12 hbox hb; have n0_ := Aside0.mk (bb BK386.out hb); have n1_ := Aside0.mk (bb BK388.out hb); have n2_ := Aside0.mk (below_step (bl2 HB.out GE386.out GE388.out) hb); have n3_ := Aside0.mk (hbox); have n4_ := Aside0.mk ((by rw [hg]; exact (below_size (bl2 HB.out GE386.out GE388.out)) : w.heap.size ≤ gb389)); have n5_ := n4_; have n6_ := Aside0.mk ((by rw [hg]; exact Nat.ne_of_lt (lt_ BK386.out) : gb386 ≠ gb389)); have n7_ := Aside0.mk ((by rw [hg]; exact Nat.ne_of_gt (lt_ BK386.out) : gb389 ≠ gb386)); have n8_ := Aside0.mk ((by rw [hg]; exact Nat.ne_of_lt (lt_ BK388.out) : gb388 ≠ gb389)); have n9_ := Aside0.mk ((by rw [hg]; exact Nat.ne_of_gt (lt_ BK388.out) : gb389 ≠ gb388)); clear BK386; clear BK388; clear HB; have BK386 := n0_; have BK388 := n1_; have HB := n2_; have BK389 := n3_; have GW389 := n4_; have GE389 := n5_; have NB386_389 := n6_; have NB389_386 := n7_; have NB388_389 := n8_; have NB389_388 := n9_; clear n0_ n1_ n2_ n3_ n4_ n5_ n6_ n7_ n8_ n9_; clear hb hbox hg; have hnb13 := NB389_386.out; have hnc13 := NB386_389.out; have hnb14 := NB389_388.out; have hnc14 := NB388_389.out; have hcz15_0 : w12.cell? ⟨gb389, 0, none⟩ = some (.int .i32 0) := (blk_cell BK389.out 0).trans rfl; have hcz15_1 : w12.cell? ⟨gb389, 1, none⟩ = some (.int .i32 0) := (blk_cell BK389.out 1).trans rfl; have hfz15_0 := blk_frozen BK389.out 0; have hfz15_1 := blk_frozen BK389.out 1; have hnb16 := NB388_386.out; have hnc16 := NB386_388.out; have hcz17_0 : w12.cell? ⟨gb388, 0, none⟩ = some (.int .i64 0) := (blk_cell BK388.out 0).trans rfl; have hcz17_1 : w12.cell? ⟨gb388, 1, none⟩ = some (.int .i64 0) := (blk_cell BK388.out 1).trans rfl; have hcz17_2 : w12.cell? ⟨gb388, 2, none⟩ = some (.int .i64 0) := (blk_cell BK388.out 2).trans rfl; have hcz17_3 : w12.cell? ⟨gb388, 3, none⟩ = some (.int .i64 0) := (blk_cell BK388.out 3).trans rfl; have hcz17_4 : w12.cell? ⟨gb388, 4, none⟩ = some (.int .i64 0) := (blk_cell BK388.out 4).trans rfl; have hcz17_5 : w12.cell? ⟨gb388, 5, none⟩ = some (.int .i64 0) := (blk_cell BK388.out 5).trans rfl; have hfz17_0 := blk_frozen BK388.out 0; have hfz17_1 := blk_frozen BK388.out 1; have hfz17_2 := blk_frozen BK388.out 2; have hfz17_3 := blk_frozen BK388.out 3; have hfz17_4 := blk_frozen BK388.out 4; have hfz17_5 := blk_frozen BK388.out 5))
    rw [rounds_succ]
    go_wp2_with (first | ((with_reducible refine gate_dst (N := 9) rfl ?_); refine box_event ?hg (N := 9) ?hd (cs := #[.int .i32 0, .int .i32 0]) (t := 22) ?hr ?_; (case hd => rfl); (case hg => rfl); (case hr => first | (go_simp; done) | (go_simp; rfl)); intro gb390 hg w18 hbox hb; have n0_ := Aside0.mk (blk_below (g := gb386) (o := .cells #[.int .i32 a0_0, .int .i32 a0_1, .int .i32 a0_2, .int .i32 a0_3, .int .i32 a0_4, .int .i32 a0_5] 23 (0, 0)) (by (with_reducible repeat (first | refine blk_drewN ?_ _ | refine blk_drew ?_ | refine blk_alloc ?_ _)); refine blk_far ?_ NB386_388.out _; (with_reducible repeat (first | refine blk_drewN ?_ _ | refine blk_drew ?_ | refine blk_alloc ?_ _)); refine blk_far ?_ NB386_388.out _; (with_reducible repeat (first | refine blk_drewN ?_ _ | refine blk_drew ?_ | refine blk_alloc ?_ _)); refine blk_far ?_ NB386_389.out _; (with_reducible repeat (first | refine blk_drewN ?_ _ | refine blk_drew ?_ | refine blk_alloc ?_ _)); refine blk_far ?_ NB386_389.out _; (with_reducible repeat (first | refine blk_drewN ?_ _ | refine blk_drew ?_ | refine blk_alloc ?_ _)); exact BK386.out) hb); have n1_ := Aside0.mk (blk_below (g := gb388) (o := .cells #[.int .i64 (Int.tmod (wrap64 (a0_0)) 1048576), .int .i64 (Int.tmod (wrap64 (a0_1)) 1048576), .int .i64 0, .int .i64 0, .int .i64 0, .int .i64 0] 27 (0, 0)) (by (with_reducible repeat (first | refine blk_drewN ?_ _ | refine blk_drew ?_ | refine blk_alloc ?_ _)); refine blk_put (cs := #[.int .i64 (Int.tmod (wrap64 (a0_0)) 1048576), .int .i64 0, .int .i64 0, .int .i64 0, .int .i64 0, .int .i64 0]) ?_ 1 _ rfl; (with_reducible repeat (first | refine blk_drewN ?_ _ | refine blk_drew ?_ | refine blk_alloc ?_ _)); refine blk_put (cs := #[.int .i64 0, .int .i64 0, .int .i64 0, .int .i64 0, .int .i64 0, .int .i64 0]) ?_ 0 _ rfl; (with_reducible repeat (first | refine blk_drewN ?_ _ | refine blk_drew ?_ | refine blk_alloc ?_ _)); refine blk_far ?_ NB388_389.out _; (with_reducible repeat (first | refine blk_drewN ?_ _ | refine blk_drew ?_ | refine blk_alloc ?_ _)); refine blk_far ?_ NB388_389.out _; (with_reducible repeat (first | refine blk_drewN ?_ _ | refine blk_drew ?_ | refine blk_alloc ?_ _)); exact BK388.out) hb); have n2_ := Aside0.mk (blk_below (g := gb389) (o := .cells #[.int .i32 a0_0, .int .i32 a0_1] 22 (0, 0)) (by (with_reducible repeat (first | refine blk_drewN ?_ _ | refine blk_drew ?_ | refine blk_alloc ?_ _)); refine blk_far ?_ NB389_388.out _; (with_reducible repeat (first | refine blk_drewN ?_ _ | refine blk_drew ?_ | refine blk_alloc ?_ _)); refine blk_far ?_ NB389_388.out _; (with_reducible repeat (first | refine blk_drewN ?_ _ | refine blk_drew ?_ | refine blk_alloc ?_ _)); refine blk_put (cs := #[.int .i32 a0_0, .int .i32 0]) ?_ 1 _ rfl; (with_reducible repeat (first | refine blk_drewN ?_ _ | refine blk_drew ?_ | refine blk_alloc ?_ _)); refine blk_put (cs := #[.int .i32 0, .int .i32 0]) ?_ 0 _ rfl; (with_reducible repeat (first | refine blk_drewN ?_ _ | refine blk_drew ?_ | refine blk_alloc ?_ _)); exact BK389.out) hb); have n3_ := Aside0.mk (below_step (bl3 HB.out GE386.out GE388.out GE389.out) hb); have n4_ := Aside0.mk (hbox); have n5_ := Aside0.mk ((by rw [hg]; exact (below_size (bl3 HB.out GE386.out GE388.out GE389.out)) : w.heap.size ≤ gb390)); have n6_ := n5_; have n7_ := Aside0.mk ((by rw [hg]; exact Nat.ne_of_lt (blk_lt (g := gb386) (o := .cells #[.int .i32 a0_0, .int .i32 a0_1, .int .i32 a0_2, .int .i32 a0_3, .int .i32 a0_4, .int .i32 a0_5] 23 (0, 0)) (by (with_reducible repeat (first | refine blk_drewN ?_ _ | refine blk_drew ?_ | refine blk_alloc ?_ _)); refine blk_far ?_ NB386_388.out _; (with_reducible repeat (first | refine blk_drewN ?_ _ | refine blk_drew ?_ | refine blk_alloc ?_ _)); refine blk_far ?_ NB386_388.out _; (with_reducible repeat (first | refine blk_drewN ?_ _ | refine blk_drew ?_ | refine blk_alloc ?_ _)); refine blk_far ?_ NB386_389.out _; (with_reducible repeat (first | refine blk_drewN ?_ _ | refine blk_drew ?_ | refine blk_alloc ?_ _)); refine blk_far ?_ NB386_389.out _; (with_reducible repeat (first | refine blk_drewN ?_ _ | refine blk_drew ?_ | refine blk_alloc ?_ _)); exact BK386.out)) : gb386 ≠ gb390)); have n8_ := Aside0.mk ((by rw [hg]; exact Nat.ne_of_gt (blk_lt (g := gb386) (o := .cells #[.int .i32 a0_0, .int .i32 a0_1, .int .i32 a0_2, .int .i32 a0_3, .int .i32 a0_4, .int .i32 a0_5] 23 (0, 0)) (by (with_reducible repeat (first | refine blk_drewN ?_ _ | refine blk_drew ?_ | refine blk_alloc ?_ _)); refine blk_far ?_ NB386_388.out _; (with_reducible repeat (first | refine blk_drewN ?_ _ | refine blk_drew ?_ | refine blk_alloc ?_ _)); refine blk_far ?_ NB386_388.out _; (with_reducible repeat (first | refine blk_drewN ?_ _ | refine blk_drew ?_ | refine blk_alloc ?_ _)); refine blk_far ?_ NB386_389.out _; (with_reducible repeat (first | refine blk_drewN ?_ _ | refine blk_drew ?_ | refine blk_alloc ?_ _)); refine blk_far ?_ NB386_389.out _; (with_reducible repeat (first | refine blk_drewN ?_ _ | refine blk_drew ?_ | refine blk_alloc ?_ _)); exact BK386.out)) : gb390 ≠ gb386)); have n9_ := Aside0.mk ((by rw [hg]; exact Nat.ne_of_lt (blk_lt (g := gb388) (o := .cells #[.int .i64 (Int.tmod (wrap64 (a0_0)) 1048576), .int .i64 (Int.tmod (wrap64 (a0_1)) 1048576), .int .i64 0, .int .i64 0, .int .i64 0, .int .i64 0] 27 (0, 0)) (by (with_reducible repeat (first | refine blk_drewN ?_ _ | refine blk_drew ?_ | refine blk_alloc ?_ _)); refine blk_put (cs := #[.int .i64 (Int.tmod (wrap64 (a0_0)) 1048576), .int .i64 0, .int .i64 0, .int .i64 0, .int .i64 0, .int .i64 0]) ?_ 1 _ rfl; (with_reducible repeat (first | refine blk_drewN ?_ _ | refine blk_drew ?_ | refine blk_alloc ?_ _)); refine blk_put (cs := #[.int .i64 0, .int .i64 0, .int .i64 0, .int .i64 0, .int .i64 0, .int .i64 0]) ?_ 0 _ rfl; (with_reducible repeat (first | refine blk_drewN ?_ _ | refine blk_drew ?_ | refine blk_alloc ?_ _)); refine blk_far ?_ NB388_389.out _; (with_reducible repeat (first | refine blk_drewN ?_ _ | refine blk_drew ?_ | refine blk_alloc ?_ _)); refine blk_far ?_ NB388_389.out _; (with_reducible repeat (first | refine blk_drewN ?_ _ | refine blk_drew ?_ | refine blk_alloc ?_ _)); exact BK388.out)) : gb388 ≠ gb390)); have n10_ := Aside0.mk ((by rw [hg]; exact Nat.ne_of_gt (blk_lt (g := gb388) (o := .cells #[.int .i64 (Int.tmod (wrap64 (a0_0)) 1048576), .int .i64 (Int.tmod (wrap64 (a0_1)) 1048576), .int .i64 0, .int .i64 0, .int .i64 0, .int .i64 0] 27 (0, 0)) (by (with_reducible repeat (first | refine blk_drewN ?_ _ | refine blk_drew ?_ | refine blk_alloc ?_ _)); refine blk_put (cs := #[.int .i64 (Int.tmod (wrap64 (a0_0)) 1048576), .int .i64 0, .int .i64 0, .int .i64 0, .int .i64 0, .int .i64 0]) ?_ 1 _ rfl; (with_reducible repeat (first | refine blk_drewN ?_ _ | refine blk_drew ?_ | refine blk_alloc ?_ _)); refine blk_put (cs := #[.int .i64 0, .int .i64 0, .int .i64 0, .int .i64 0, .int .i64 0, .int .i64 0]) ?_ 0 _ rfl; (with_reducible repeat (first | refine blk_drewN ?_ _ | refine blk_drew ?_ | refine blk_alloc ?_ _)); refine blk_far ?_ NB388_389.out _; (with_reducible repeat (first | refine blk_drewN ?_ _ | refine blk_drew ?_ | refine blk_alloc ?_ _)); refine blk_far ?_ NB388_389.out _; (with_reducible repeat (first | refine blk_drewN ?_ _ | refine blk_drew ?_ | refine blk_alloc ?_ _)); exact BK388.out)) : gb390 ≠ gb388)); have n11_ := Aside0.mk ((by rw [hg]; exact Nat.ne_of_lt (blk_lt (g := gb389) (o := .cells #[.int .i32 a0_0, .int .i32 a0_1] 22 (0, 0)) (by (with_reducible repeat (first | refine blk_drewN ?_ _ | refine blk_drew ?_ | refine blk_alloc ?_ _)); refine blk_far ?_ NB389_388.out _; (with_reducible repeat (first | refine blk_drewN ?_ _ | refine blk_drew ?_ | refine blk_alloc ?_ _)); refine blk_far ?_ NB389_388.out _; (with_reducible repeat (first | refine blk_drewN ?_ _ | refine blk_drew ?_ | refine blk_alloc ?_ _)); refine blk_put (cs := #[.int .i32 a0_0, .int .i32 0]) ?_ 1 _ rfl; (with_reducible repeat (first | refine blk_drewN ?_ _ | refine blk_drew ?_ | refine blk_alloc ?_ _)); refine blk_put (cs := #[.int .i32 0, .int .i32 0]) ?_ 0 _ rfl; (with_reducible repeat (first | refine blk_drewN ?_ _ | refine blk_drew ?_ | refine blk_alloc ?_ _)); exact BK389.out)) : gb389 ≠ gb390)); have n12_ := Aside0.mk ((by rw [hg]; exact Nat.ne_of_gt (blk_lt (g := gb389) (o := .cells #[.int .i32 a0_0, .int .i32 a0_1] 22 (0, 0)) (by (with_reducible repeat (first | refine blk_drewN ?_ _ | refine blk_drew ?_ | refine blk_alloc ?_ _)); refine blk_far ?_ NB389_388.out _; (with_reducible repeat (first | refine blk_drewN ?_ _ | refine blk_drew ?_ | refine blk_alloc ?_ _)); refine blk_far ?_ NB389_388.out _; (with_reducible repeat (first | refine blk_drewN ?_ _ | refine blk_drew ?_ | refine blk_alloc ?_ _)); refine blk_put (cs := #[.int .i32 a0_0, .int .i32 0]) ?_ 1 _ rfl; (with_reducible repeat (first | refine blk_drewN ?_ _ | refine blk_drew ?_ | refine blk_alloc ?_ _)); refine blk_put (cs := #[.int .i32 0, .int .i32 0]) ?_ 0 _ rfl; (with_reducible repeat (first | refine blk_drewN ?_ _ | refine blk_drew ?_ | refine blk_alloc ?_ _)); exact BK389.out)) : gb390 ≠ gb389)); clear BK386; clear BK388; clear BK389; clear HB; have BK386 := n0_; have BK388 := n1_; have BK389 := n2_; have HB := n3_; have BK390 := n4_; have GW390 := n5_; have GE390 := n6_; have NB386_390 := n7_; have NB390_386 := n8_; have NB388_390 := n9_; have NB390_388 := n10_; have NB389_390 := n11_; have NB390_389 := n12_; clear n0_ n1_ n2_ n3_ n4_ n5_ n6_ n7_ n8_ n9_ n10_ n11_ n12_; clear hb hbox hg; have hnb19 := NB390_386.out; have hnc19 := NB386_390.out; have hnb20 := NB390_388.out; have hnc20 := NB388_390.out; have hnb21 := NB390_389.out; have hnc21 := NB389_390.out; have hcz22_0 : w18.cell? ⟨gb390, 0, none⟩ = some (.int .i32 0) := (blk_cell BK390.out 0).trans rfl; have hcz22_1 : w18.cell? ⟨gb390, 1, none⟩ = some (.int .i32 0) := (blk_cell BK390.out 1).trans rfl; have hfz22_0 := blk_frozen BK390.out 0; have hfz22_1 := blk_frozen BK390.out 1; have hnb23 := NB388_386.out; have hnc23 := NB386_388.out; have hnb24 := NB388_389.out; have hnc24 := NB389_388.out; have hcz25_0 : w18.cell? ⟨gb388, 0, none⟩ = some (.int .i64 (Int.tmod (wrap64 (a0_0)) 1048576)) := (blk_cell BK388.out 0).trans rfl; have hcz25_1 : w18.cell? ⟨gb388, 1, none⟩ = some (.int .i64 (Int.tmod (wrap64 (a0_1)) 1048576)) := (blk_cell BK388.out 1).trans rfl; have hcz25_2 : w18.cell? ⟨gb388, 2, none⟩ = some (.int .i64 0) := (blk_cell BK388.out 2).trans rfl; have hcz25_3 : w18.cell? ⟨gb388, 3, none⟩ = some (.int .i64 0) := (blk_cell BK388.out 3).trans rfl; have hcz25_4 : w18.cell? ⟨gb388, 4, none⟩ = some (.int .i64 0) := (blk_cell BK388.out 4).trans rfl; have hcz25_5 : w18.cell? ⟨gb388, 5, none⟩ = some (.int .i64 0) := (blk_cell BK388.out 5).trans rfl; have hfz25_0 := blk_frozen BK388.out 0; have hfz25_1 := blk_frozen BK388.out 1; have hfz25_2 := blk_frozen BK388.out 2; have hfz25_3 := blk_frozen BK388.out 3; have hfz25_4 := blk_frozen BK388.out 4; have hfz25_5 := blk_frozen BK388.out 5))
    rw [rounds_succ]
    go_wp2_with (first | ((with_reducible refine gate_dst (N := 9) rfl ?_); refine box_event ?hg (N := 9) ?hd (cs := #[.int .i32 0, .int .i32 0]) (t := 22) ?hr ?_; (case hd => rfl); (case hg => rfl); (case hr => first | (go_simp; done) | (go_simp; rfl)); intro gb391 hg w26 hbox hb; have n0_ := Aside0.mk (blk_below (g := gb386) (o := .cells #[.int .i32 a0_0, .int .i32 a0_1, .int .i32 a0_2, .int .i32 a0_3, .int .i32 a0_4, .int .i32 a0_5] 23 (0, 0)) (by (with_reducible repeat (first | refine blk_drewN ?_ _ | refine blk_drew ?_ | refine blk_alloc ?_ _)); refine blk_far ?_ NB386_388.out _; (with_reducible repeat (first | refine blk_drewN ?_ _ | refine blk_drew ?_ | refine blk_alloc ?_ _)); refine blk_far ?_ NB386_388.out _; (with_reducible repeat (first | refine blk_drewN ?_ _ | refine blk_drew ?_ | refine blk_alloc ?_ _)); refine blk_far ?_ NB386_390.out _; (with_reducible repeat (first | refine blk_drewN ?_ _ | refine blk_drew ?_ | refine blk_alloc ?_ _)); refine blk_far ?_ NB386_390.out _; (with_reducible repeat (first | refine blk_drewN ?_ _ | refine blk_drew ?_ | refine blk_alloc ?_ _)); exact BK386.out) hb); have n1_ := Aside0.mk (blk_below (g := gb388) (o := .cells #[.int .i64 (Int.tmod (wrap64 (a0_0)) 1048576), .int .i64 (Int.tmod (wrap64 (a0_1)) 1048576), .int .i64 (Int.tmod (wrap64 (a0_2)) 1048576), .int .i64 (Int.tmod (wrap64 (a0_3)) 1048576), .int .i64 0, .int .i64 0] 27 (0, 0)) (by (with_reducible repeat (first | refine blk_drewN ?_ _ | refine blk_drew ?_ | refine blk_alloc ?_ _)); refine blk_put (cs := #[.int .i64 (Int.tmod (wrap64 (a0_0)) 1048576), .int .i64 (Int.tmod (wrap64 (a0_1)) 1048576), .int .i64 (Int.tmod (wrap64 (a0_2)) 1048576), .int .i64 0, .int .i64 0, .int .i64 0]) ?_ 3 _ rfl; (with_reducible repeat (first | refine blk_drewN ?_ _ | refine blk_drew ?_ | refine blk_alloc ?_ _)); refine blk_put (cs := #[.int .i64 (Int.tmod (wrap64 (a0_0)) 1048576), .int .i64 (Int.tmod (wrap64 (a0_1)) 1048576), .int .i64 0, .int .i64 0, .int .i64 0, .int .i64 0]) ?_ 2 _ rfl; (with_reducible repeat (first | refine blk_drewN ?_ _ | refine blk_drew ?_ | refine blk_alloc ?_ _)); refine blk_far ?_ NB388_390.out _; (with_reducible repeat (first | refine blk_drewN ?_ _ | refine blk_drew ?_ | refine blk_alloc ?_ _)); refine blk_far ?_ NB388_390.out _; (with_reducible repeat (first | refine blk_drewN ?_ _ | refine blk_drew ?_ | refine blk_alloc ?_ _)); exact BK388.out) hb); have n2_ := Aside0.mk (blk_below (g := gb389) (o := .cells #[.int .i32 a0_0, .int .i32 a0_1] 22 (0, 0)) (by (with_reducible repeat (first | refine blk_drewN ?_ _ | refine blk_drew ?_ | refine blk_alloc ?_ _)); refine blk_far ?_ NB389_388.out _; (with_reducible repeat (first | refine blk_drewN ?_ _ | refine blk_drew ?_ | refine blk_alloc ?_ _)); refine blk_far ?_ NB389_388.out _; (with_reducible repeat (first | refine blk_drewN ?_ _ | refine blk_drew ?_ | refine blk_alloc ?_ _)); refine blk_far ?_ NB389_390.out _; (with_reducible repeat (first | refine blk_drewN ?_ _ | refine blk_drew ?_ | refine blk_alloc ?_ _)); refine blk_far ?_ NB389_390.out _; (with_reducible repeat (first | refine blk_drewN ?_ _ | refine blk_drew ?_ | refine blk_alloc ?_ _)); exact BK389.out) hb); have n3_ := Aside0.mk (blk_below (g := gb390) (o := .cells #[.int .i32 a0_2, .int .i32 a0_3] 22 (0, 0)) (by (with_reducible repeat (first | refine blk_drewN ?_ _ | refine blk_drew ?_ | refine blk_alloc ?_ _)); refine blk_far ?_ NB390_388.out _; (with_reducible repeat (first | refine blk_drewN ?_ _ | refine blk_drew ?_ | refine blk_alloc ?_ _)); refine blk_far ?_ NB390_388.out _; (with_reducible repeat (first | refine blk_drewN ?_ _ | refine blk_drew ?_ | refine blk_alloc ?_ _)); refine blk_put (cs := #[.int .i32 a0_2, .int .i32 0]) ?_ 1 _ rfl; (with_reducible repeat (first | refine blk_drewN ?_ _ | refine blk_drew ?_ | refine blk_alloc ?_ _)); refine blk_put (cs := #[.int .i32 0, .int .i32 0]) ?_ 0 _ rfl; (with_reducible repeat (first | refine blk_drewN ?_ _ | refine blk_drew ?_ | refine blk_alloc ?_ _)); exact BK390.out) hb); have n4_ := Aside0.mk (below_step (bl4 HB.out GE386.out GE388.out GE389.out GE390.out) hb); have n5_ := Aside0.mk (hbox); have n6_ := Aside0.mk ((by rw [hg]; exact (below_size (bl4 HB.out GE386.out GE388.out GE389.out GE390.out)) : w.heap.size ≤ gb391)); have n7_ := n6_; have n8_ := Aside0.mk ((by rw [hg]; exact Nat.ne_of_lt (blk_lt (g := gb386) (o := .cells #[.int .i32 a0_0, .int .i32 a0_1, .int .i32 a0_2, .int .i32 a0_3, .int .i32 a0_4, .int .i32 a0_5] 23 (0, 0)) (by (with_reducible repeat (first | refine blk_drewN ?_ _ | refine blk_drew ?_ | refine blk_alloc ?_ _)); refine blk_far ?_ NB386_388.out _; (with_reducible repeat (first | refine blk_drewN ?_ _ | refine blk_drew ?_ | refine blk_alloc ?_ _)); refine blk_far ?_ NB386_388.out _; (with_reducible repeat (first | refine blk_drewN ?_ _ | refine blk_drew ?_ | refine blk_alloc ?_ _)); refine blk_far ?_ NB386_390.out _; (with_reducible repeat (first | refine blk_drewN ?_ _ | refine blk_drew ?_ | refine blk_alloc ?_ _)); refine blk_far ?_ NB386_390.out _; (with_reducible repeat (first | refine blk_drewN ?_ _ | refine blk_drew ?_ | refine blk_alloc ?_ _)); exact BK386.out)) : gb386 ≠ gb391)); have n9_ := Aside0.mk ((by rw [hg]; exact Nat.ne_of_gt (blk_lt (g := gb386) (o := .cells #[.int .i32 a0_0, .int .i32 a0_1, .int .i32 a0_2, .int .i32 a0_3, .int .i32 a0_4, .int .i32 a0_5] 23 (0, 0)) (by (with_reducible repeat (first | refine blk_drewN ?_ _ | refine blk_drew ?_ | refine blk_alloc ?_ _)); refine blk_far ?_ NB386_388.out _; (with_reducible repeat (first | refine blk_drewN ?_ _ | refine blk_drew ?_ | refine blk_alloc ?_ _)); refine blk_far ?_ NB386_388.out _; (with_reducible repeat (first | refine blk_drewN ?_ _ | refine blk_drew ?_ | refine blk_alloc ?_ _)); refine blk_far ?_ NB386_390.out _; (with_reducible repeat (first | refine blk_drewN ?_ _ | refine blk_drew ?_ | refine blk_alloc ?_ _)); refine blk_far ?_ NB386_390.out _; (with_reducible repeat (first | refine blk_drewN ?_ _ | refine blk_drew ?_ | refine blk_alloc ?_ _)); exact BK386.out)) : gb391 ≠ gb386)); have n10_ := Aside0.mk ((by rw [hg]; exact Nat.ne_of_lt (blk_lt (g := gb388) (o := .cells #[.int .i64 (Int.tmod (wrap64 (a0_0)) 1048576), .int .i64 (Int.tmod (wrap64 (a0_1)) 1048576), .int .i64 (Int.tmod (wrap64 (a0_2)) 1048576), .int .i64 (Int.tmod (wrap64 (a0_3)) 1048576), .int .i64 0, .int .i64 0] 27 (0, 0)) (by (with_reducible repeat (first | refine blk_drewN ?_ _ | refine blk_drew ?_ | refine blk_alloc ?_ _)); refine blk_put (cs := #[.int .i64 (Int.tmod (wrap64 (a0_0)) 1048576), .int .i64 (Int.tmod (wrap64 (a0_1)) 1048576), .int .i64 (Int.tmod (wrap64 (a0_2)) 1048576), .int .i64 0, .int .i64 0, .int .i64 0]) ?_ 3 _ rfl; (with_reducible repeat (first | refine blk_drewN ?_ _ | refine blk_drew ?_ | refine blk_alloc ?_ _)); refine blk_put (cs := #[.int .i64 (Int.tmod (wrap64 (a0_0)) 1048576), .int .i64 (Int.tmod (wrap64 (a0_1)) 1048576), .int .i64 0, .int .i64 0, .int .i64 0, .int .i64 0]) ?_ 2 _ rfl; (with_reducible repeat (first | refine blk_drewN ?_ _ | refine blk_drew ?_ | refine blk_alloc ?_ _)); refine blk_far ?_ NB388_390.out _; (with_reducible repeat (first | refine blk_drewN ?_ _ | refine blk_drew ?_ | refine blk_alloc ?_ _)); refine blk_far ?_ NB388_390.out _; (with_reducible repeat (first | refine blk_drewN ?_ _ | refine blk_drew ?_ | refine blk_alloc ?_ _)); exact BK388.out)) : gb388 ≠ gb391)); have n11_ := Aside0.mk ((by rw [hg]; exact Nat.ne_of_gt (blk_lt (g := gb388) (o := .cells #[.int .i64 (Int.tmod (wrap64 (a0_0)) 1048576), .int .i64 (Int.tmod (wrap64 (a0_1)) 1048576), .int .i64 (Int.tmod (wrap64 (a0_2)) 1048576), .int .i64 (Int.tmod (wrap64 (a0_3)) 1048576), .int .i64 0, .int .i64 0] 27 (0, 0)) (by (with_reducible repeat (first | refine blk_drewN ?_ _ | refine blk_drew ?_ | refine blk_alloc ?_ _)); refine blk_put (cs := #[.int .i64 (Int.tmod (wrap64 (a0_0)) 1048576), .int .i64 (Int.tmod (wrap64 (a0_1)) 1048576), .int .i64 (Int.tmod (wrap64 (a0_2)) 1048576), .int .i64 0, .int .i64 0, .int .i64 0]) ?_ 3 _ rfl; (with_reducible repeat (first | refine blk_drewN ?_ _ | refine blk_drew ?_ | refine blk_alloc ?_ _)); refine blk_put (cs := #[.int .i64 (Int.tmod (wrap64 (a0_0)) 1048576), .int .i64 (Int.tmod (wrap64 (a0_1)) 1048576), .int .i64 0, .int .i64 0, .int .i64 0, .int .i64 0]) ?_ 2 _ rfl; (with_reducible repeat (first | refine blk_drewN ?_ _ | refine blk_drew ?_ | refine blk_alloc ?_ _)); refine blk_far ?_ NB388_390.out _; (with_reducible repeat (first | refine blk_drewN ?_ _ | refine blk_drew ?_ | refine blk_alloc ?_ _)); refine blk_far ?_ NB388_390.out _; (with_reducible repeat (first | refine blk_drewN ?_ _ | refine blk_drew ?_ | refine blk_alloc ?_ _)); exact BK388.out)) : gb391 ≠ gb388)); have n12_ := Aside0.mk ((by rw [hg]; exact Nat.ne_of_lt (blk_lt (g := gb389) (o := .cells #[.int .i32 a0_0, .int .i32 a0_1] 22 (0, 0)) (by (with_reducible repeat (first | refine blk_drewN ?_ _ | refine blk_drew ?_ | refine blk_alloc ?_ _)); refine blk_far ?_ NB389_388.out _; (with_reducible repeat (first | refine blk_drewN ?_ _ | refine blk_drew ?_ | refine blk_alloc ?_ _)); refine blk_far ?_ NB389_388.out _; (with_reducible repeat (first | refine blk_drewN ?_ _ | refine blk_drew ?_ | refine blk_alloc ?_ _)); refine blk_far ?_ NB389_390.out _; (with_reducible repeat (first | refine blk_drewN ?_ _ | refine blk_drew ?_ | refine blk_alloc ?_ _)); refine blk_far ?_ NB389_390.out _; (with_reducible repeat (first | refine blk_drewN ?_ _ | refine blk_drew ?_ | refine blk_alloc ?_ _)); exact BK389.out)) : gb389 ≠ gb391)); have n13_ := Aside0.mk ((by rw [hg]; exact Nat.ne_of_gt (blk_lt (g := gb389) (o := .cells #[.int .i32 a0_0, .int .i32 a0_1] 22 (0, 0)) (by (with_reducible repeat (first | refine blk_drewN ?_ _ | refine blk_drew ?_ | refine blk_alloc ?_ _)); refine blk_far ?_ NB389_388.out _; (with_reducible repeat (first | refine blk_drewN ?_ _ | refine blk_drew ?_ | refine blk_alloc ?_ _)); refine blk_far ?_ NB389_388.out _; (with_reducible repeat (first | refine blk_drewN ?_ _ | refine blk_drew ?_ | refine blk_alloc ?_ _)); refine blk_far ?_ NB389_390.out _; (with_reducible repeat (first | refine blk_drewN ?_ _ | refine blk_drew ?_ | refine blk_alloc ?_ _)); refine blk_far ?_ NB389_390.out _; (with_reducible repeat (first | refine blk_drewN ?_ _ | refine blk_drew ?_ | refine blk_alloc ?_ _)); exact BK389.out)) : gb391 ≠ gb389)); have n14_ := Aside0.mk ((by rw [hg]; exact Nat.ne_of_lt (blk_lt (g := gb390) (o := .cells #[.int .i32 a0_2, .int .i32 a0_3] 22 (0, 0)) (by (with_reducible repeat (first | refine blk_drewN ?_ _ | refine blk_drew ?_ | refine blk_alloc ?_ _)); refine blk_far ?_ NB390_388.out _; (with_reducible repeat (first | refine blk_drewN ?_ _ | refine blk_drew ?_ | refine blk_alloc ?_ _)); refine blk_far ?_ NB390_388.out _; (with_reducible repeat (first | refine blk_drewN ?_ _ | refine blk_drew ?_ | refine blk_alloc ?_ _)); refine blk_put (cs := #[.int .i32 a0_2, .int .i32 0]) ?_ 1 _ rfl; (with_reducible repeat (first | refine blk_drewN ?_ _ | refine blk_drew ?_ | refine blk_alloc ?_ _)); refine blk_put (cs := #[.int .i32 0, .int .i32 0]) ?_ 0 _ rfl; (with_reducible repeat (first | refine blk_drewN ?_ _ | refine blk_drew ?_ | refine blk_alloc ?_ _)); exact BK390.out)) : gb390 ≠ gb391)); have n15_ := Aside0.mk ((by rw [hg]; exact Nat.ne_of_gt (blk_lt (g := gb390) (o := .cells #[.int .i32 a0_2, .int .i32 a0_3] 22 (0, 0)) (by (with_reducible repeat (first | refine blk_drewN ?_ _ | refine blk_drew ?_ | refine blk_alloc ?_ _)); refine blk_far ?_ NB390_388.out _; (with_reducible repeat (first | refine blk_drewN ?_ _ | refine blk_drew ?_ | refine blk_alloc ?_ _)); refine blk_far ?_ NB390_388.out _; (with_reducible repeat (first | refine blk_drewN ?_ _ | refine blk_drew ?_ | refine blk_alloc ?_ _)); refine blk_put (cs := #[.int .i32 a0_2, .int .i32 0]) ?_ 1 _ rfl; (with_reducible repeat (first | refine blk_drewN ?_ _ | refine blk_drew ?_ | refine blk_alloc ?_ _)); refine blk_put (cs := #[.int .i32 0, .int .i32 0]) ?_ 0 _ rfl; (with_reducible repeat (first | refine blk_drewN ?_ _ | refine blk_drew ?_ | refine blk_alloc ?_ _)); exact BK390.out)) : gb391 ≠ gb390)); clear BK386; clear BK388; clear BK389; clear BK390; clear HB; have BK386 := n0_; have BK388 := n1_; have BK389 := n2_; have BK390 := n3_; have HB := n4_; have BK391 := n5_; have GW391 := n6_; have GE391 := n7_; have NB386_391 := n8_; have NB391_386 := n9_; have NB388_391 := n10_; have NB391_388 := n11_; have NB389_391 := n12_; have NB391_389 := n13_; have NB390_391 := n14_; have NB391_390 := n15_; clear n0_ n1_ n2_ n3_ n4_ n5_ n6_ n7_ n8_ n9_ n10_ n11_ n12_ n13_ n14_ n15_; clear hb hbox hg; have hnb27 := NB391_386.out; have hnc27 := NB386_391.out; have hnb28 := NB391_388.out; have hnc28 := NB388_391.out; have hnb29 := NB391_389.out; have hnc29 := NB389_391.out; have hnb30 := NB391_390.out; have hnc30 := NB390_391.out; have hcz31_0 : w26.cell? ⟨gb391, 0, none⟩ = some (.int .i32 0) := (blk_cell BK391.out 0).trans rfl; have hcz31_1 : w26.cell? ⟨gb391, 1, none⟩ = some (.int .i32 0) := (blk_cell BK391.out 1).trans rfl; have hfz31_0 := blk_frozen BK391.out 0; have hfz31_1 := blk_frozen BK391.out 1; have hnb32 := NB388_386.out; have hnc32 := NB386_388.out; have hnb33 := NB388_389.out; have hnc33 := NB389_388.out; have hnb34 := NB388_390.out; have hnc34 := NB390_388.out; have hcz35_0 : w26.cell? ⟨gb388, 0, none⟩ = some (.int .i64 (Int.tmod (wrap64 (a0_0)) 1048576)) := (blk_cell BK388.out 0).trans rfl; have hcz35_1 : w26.cell? ⟨gb388, 1, none⟩ = some (.int .i64 (Int.tmod (wrap64 (a0_1)) 1048576)) := (blk_cell BK388.out 1).trans rfl; have hcz35_2 : w26.cell? ⟨gb388, 2, none⟩ = some (.int .i64 (Int.tmod (wrap64 (a0_2)) 1048576)) := (blk_cell BK388.out 2).trans rfl; have hcz35_3 : w26.cell? ⟨gb388, 3, none⟩ = some (.int .i64 (Int.tmod (wrap64 (a0_3)) 1048576)) := (blk_cell BK388.out 3).trans rfl; have hcz35_4 : w26.cell? ⟨gb388, 4, none⟩ = some (.int .i64 0) := (blk_cell BK388.out 4).trans rfl; have hcz35_5 : w26.cell? ⟨gb388, 5, none⟩ = some (.int .i64 0) := (blk_cell BK388.out 5).trans rfl; have hfz35_0 := blk_frozen BK388.out 0; have hfz35_1 := blk_frozen BK388.out 1; have hfz35_2 := blk_frozen BK388.out 2; have hfz35_3 := blk_frozen BK388.out 3; have hfz35_4 := blk_frozen BK388.out 4; have hfz35_5 := blk_frozen BK388.out 5))
    rw [rounds_succ]
    have HC36 := Aside0.mk H
    clear H
    go_upto_region 10 with (fail)
    go_cut [12, 13] (fun v12 v13 wc => ∃ (kq : Nat) (x12_35 : Int) (x13_35 : Int), v12 = .int .i64 x12_35 ∧ v13 = .int .i64 x13_35 ∧ Aside0 (pochoirlaw19_LineOrder.j1 kq (wrap64 (1 + (wrap64 (Int.tmod a1 1048576)))) (wrap64 (1 + (wrap64 (Int.tmod a2 127)))) x12_35 x13_35 (Int.tmod (wrap64 (a0_0)) 1048576) (Int.tmod (wrap64 (a0_1)) 1048576) (Int.tmod (wrap64 (a0_2)) 1048576) (Int.tmod (wrap64 (a0_3)) 1048576) (Int.tmod (wrap64 (a0_4)) 1048576) (Int.tmod (wrap64 (a0_5)) 1048576) = some r) ∧ Aside0 (kq ≤ kj3) ∧ Aside0 (wc.heap[gb386]? = some (.cells #[.int .i32 a0_0, .int .i32 a0_1, .int .i32 a0_2, .int .i32 a0_3, .int .i32 a0_4, .int .i32 a0_5] 23 (0, 0))) ∧ Aside0 (wc.heap[gb388]? = some (.cells #[.int .i64 (Int.tmod (wrap64 (a0_0)) 1048576), .int .i64 (Int.tmod (wrap64 (a0_1)) 1048576), .int .i64 (Int.tmod (wrap64 (a0_2)) 1048576), .int .i64 (Int.tmod (wrap64 (a0_3)) 1048576), .int .i64 (Int.tmod (wrap64 (a0_4)) 1048576), .int .i64 (Int.tmod (wrap64 (a0_5)) 1048576)] 27 (0, 0))) ∧ Aside0 (wc.heap[gb389]? = some (.cells #[.int .i32 a0_0, .int .i32 a0_1] 22 (0, 0))) ∧ Aside0 (wc.heap[gb390]? = some (.cells #[.int .i32 a0_2, .int .i32 a0_3] 22 (0, 0))) ∧ Aside0 (wc.heap[gb391]? = some (.cells #[.int .i32 a0_4, .int .i32 a0_5] 22 (0, 0))) ∧ Aside0 (Below w.heap.size w wc))
    case first =>
     have H := HC36.out
     clear HC36
     replace H := Option.bind_eq_some_iff.mp H
     obtain ⟨⟨t392, t393⟩, A370, H⟩ := H
     replace H : (pochoirlaw19_LineOrder.j1 kj3 (wrap64 (1 + (wrap64 (Int.tmod a1 1048576)))) (wrap64 (1 + (wrap64 (Int.tmod a2 127)))) t392 t393 (Int.tmod (wrap64 (a0_0)) 1048576) (Int.tmod (wrap64 (a0_1)) 1048576) (Int.tmod (wrap64 (a0_2)) 1048576) (Int.tmod (wrap64 (a0_3)) 1048576) (Int.tmod (wrap64 (a0_4)) 1048576) (Int.tmod (wrap64 (a0_5)) 1048576)) = some r := H
     have A37 := Aside0.mk A370
     clear A370
     have H' := Aside0.mk H
     clear H
     have hnb38 := NB388_386.out
     have hnc38 := NB386_388.out
     have hnb39 := NB388_389.out
     have hnc39 := NB389_388.out
     have hnb40 := NB388_390.out
     have hnc40 := NB390_388.out
     have hnb41 := NB388_391.out
     have hnc41 := NB391_388.out
     have hcz42_0 : w26.cell? ⟨gb388, 0, none⟩ = some (.int .i64 (Int.tmod (wrap64 (a0_0)) 1048576)) := (blk_cell BK388.out 0).trans rfl
     have hcz42_1 : w26.cell? ⟨gb388, 1, none⟩ = some (.int .i64 (Int.tmod (wrap64 (a0_1)) 1048576)) := (blk_cell BK388.out 1).trans rfl
     have hcz42_2 : w26.cell? ⟨gb388, 2, none⟩ = some (.int .i64 (Int.tmod (wrap64 (a0_2)) 1048576)) := (blk_cell BK388.out 2).trans rfl
     have hcz42_3 : w26.cell? ⟨gb388, 3, none⟩ = some (.int .i64 (Int.tmod (wrap64 (a0_3)) 1048576)) := (blk_cell BK388.out 3).trans rfl
     have hcz42_4 : w26.cell? ⟨gb388, 4, none⟩ = some (.int .i64 0) := (blk_cell BK388.out 4).trans rfl
     have hcz42_5 : w26.cell? ⟨gb388, 5, none⟩ = some (.int .i64 0) := (blk_cell BK388.out 5).trans rfl
     have hfz42_0 := blk_frozen BK388.out 0
     have hfz42_1 := blk_frozen BK388.out 1
     have hfz42_2 := blk_frozen BK388.out 2
     have hfz42_3 := blk_frozen BK388.out 3
     have hfz42_4 := blk_frozen BK388.out 4
     have hfz42_5 := blk_frozen BK388.out 5
     go_wp2_with (first | ((with_reducible refine gate_callee (f := 41) rfl ?_); refine goesL_ (some 60) rfl rfl Try.func41 (by kernel_rfl) rfl #[.agg #[.int .i64 (Int.tmod (wrap64 (a0_0)) 1048576), .int .i64 (Int.tmod (wrap64 (a0_1)) 1048576)], .agg #[.int .i64 (Int.tmod (wrap64 (a0_2)) 1048576), .int .i64 (Int.tmod (wrap64 (a0_3)) 1048576)], .agg #[.int .i64 (Int.tmod (wrap64 (a0_4)) 1048576), .int .i64 (Int.tmod (wrap64 (a0_5)) 1048576)], .int .i64 (wrap64 (1 + (wrap64 (Int.tmod a1 1048576)))), .int .i64 (wrap64 (1 + (wrap64 (Int.tmod a2 127))))] rfl am ?_; (with_reducible refine (line_Segment.calls kj3 (Int.tmod (wrap64 (a0_0)) 1048576) (Int.tmod (wrap64 (a0_1)) 1048576) (Int.tmod (wrap64 (a0_2)) 1048576) (Int.tmod (wrap64 (a0_3)) 1048576) (Int.tmod (wrap64 (a0_4)) 1048576) (Int.tmod (wrap64 (a0_5)) 1048576) (wrap64 (1 + (wrap64 (Int.tmod a1 1048576)))) (wrap64 (1 + (wrap64 (Int.tmod a2 127)))) t392 t393 _ A37.out).mono ?_); rintro e w43 ⟨rfl, hb⟩; refine ⟨_, rfl, ?_⟩; have n0_ := Aside0.mk (blk_below (g := gb386) (o := .cells #[.int .i32 a0_0, .int .i32 a0_1, .int .i32 a0_2, .int .i32 a0_3, .int .i32 a0_4, .int .i32 a0_5] 23 (0, 0)) (by (with_reducible repeat (first | refine blk_drewN ?_ _ | refine blk_drew ?_ | refine blk_alloc ?_ _)); refine blk_far ?_ NB386_388.out _; (with_reducible repeat (first | refine blk_drewN ?_ _ | refine blk_drew ?_ | refine blk_alloc ?_ _)); refine blk_far ?_ NB386_388.out _; (with_reducible repeat (first | refine blk_drewN ?_ _ | refine blk_drew ?_ | refine blk_alloc ?_ _)); refine blk_far ?_ NB386_391.out _; (with_reducible repeat (first | refine blk_drewN ?_ _ | refine blk_drew ?_ | refine blk_alloc ?_ _)); refine blk_far ?_ NB386_391.out _; (with_reducible repeat (first | refine blk_drewN ?_ _ | refine blk_drew ?_ | refine blk_alloc ?_ _)); exact BK386.out) hb); have n1_ := Aside0.mk (blk_below (g := gb388) (o := .cells #[.int .i64 (Int.tmod (wrap64 (a0_0)) 1048576), .int .i64 (Int.tmod (wrap64 (a0_1)) 1048576), .int .i64 (Int.tmod (wrap64 (a0_2)) 1048576), .int .i64 (Int.tmod (wrap64 (a0_3)) 1048576), .int .i64 (Int.tmod (wrap64 (a0_4)) 1048576), .int .i64 (Int.tmod (wrap64 (a0_5)) 1048576)] 27 (0, 0)) (by (with_reducible repeat (first | refine blk_drewN ?_ _ | refine blk_drew ?_ | refine blk_alloc ?_ _)); refine blk_put (cs := #[.int .i64 (Int.tmod (wrap64 (a0_0)) 1048576), .int .i64 (Int.tmod (wrap64 (a0_1)) 1048576), .int .i64 (Int.tmod (wrap64 (a0_2)) 1048576), .int .i64 (Int.tmod (wrap64 (a0_3)) 1048576), .int .i64 (Int.tmod (wrap64 (a0_4)) 1048576), .int .i64 0]) ?_ 5 _ rfl; (with_reducible repeat (first | refine blk_drewN ?_ _ | refine blk_drew ?_ | refine blk_alloc ?_ _)); refine blk_put (cs := #[.int .i64 (Int.tmod (wrap64 (a0_0)) 1048576), .int .i64 (Int.tmod (wrap64 (a0_1)) 1048576), .int .i64 (Int.tmod (wrap64 (a0_2)) 1048576), .int .i64 (Int.tmod (wrap64 (a0_3)) 1048576), .int .i64 0, .int .i64 0]) ?_ 4 _ rfl; (with_reducible repeat (first | refine blk_drewN ?_ _ | refine blk_drew ?_ | refine blk_alloc ?_ _)); refine blk_far ?_ NB388_391.out _; (with_reducible repeat (first | refine blk_drewN ?_ _ | refine blk_drew ?_ | refine blk_alloc ?_ _)); refine blk_far ?_ NB388_391.out _; (with_reducible repeat (first | refine blk_drewN ?_ _ | refine blk_drew ?_ | refine blk_alloc ?_ _)); exact BK388.out) hb); have n2_ := Aside0.mk (blk_below (g := gb389) (o := .cells #[.int .i32 a0_0, .int .i32 a0_1] 22 (0, 0)) (by (with_reducible repeat (first | refine blk_drewN ?_ _ | refine blk_drew ?_ | refine blk_alloc ?_ _)); refine blk_far ?_ NB389_388.out _; (with_reducible repeat (first | refine blk_drewN ?_ _ | refine blk_drew ?_ | refine blk_alloc ?_ _)); refine blk_far ?_ NB389_388.out _; (with_reducible repeat (first | refine blk_drewN ?_ _ | refine blk_drew ?_ | refine blk_alloc ?_ _)); refine blk_far ?_ NB389_391.out _; (with_reducible repeat (first | refine blk_drewN ?_ _ | refine blk_drew ?_ | refine blk_alloc ?_ _)); refine blk_far ?_ NB389_391.out _; (with_reducible repeat (first | refine blk_drewN ?_ _ | refine blk_drew ?_ | refine blk_alloc ?_ _)); exact BK389.out) hb); have n3_ := Aside0.mk (blk_below (g := gb390) (o := .cells #[.int .i32 a0_2, .int .i32 a0_3] 22 (0, 0)) (by (with_reducible repeat (first | refine blk_drewN ?_ _ | refine blk_drew ?_ | refine blk_alloc ?_ _)); refine blk_far ?_ NB390_388.out _; (with_reducible repeat (first | refine blk_drewN ?_ _ | refine blk_drew ?_ | refine blk_alloc ?_ _)); refine blk_far ?_ NB390_388.out _; (with_reducible repeat (first | refine blk_drewN ?_ _ | refine blk_drew ?_ | refine blk_alloc ?_ _)); refine blk_far ?_ NB390_391.out _; (with_reducible repeat (first | refine blk_drewN ?_ _ | refine blk_drew ?_ | refine blk_alloc ?_ _)); refine blk_far ?_ NB390_391.out _; (with_reducible repeat (first | refine blk_drewN ?_ _ | refine blk_drew ?_ | refine blk_alloc ?_ _)); exact BK390.out) hb); have n4_ := Aside0.mk (blk_below (g := gb391) (o := .cells #[.int .i32 a0_4, .int .i32 a0_5] 22 (0, 0)) (by (with_reducible repeat (first | refine blk_drewN ?_ _ | refine blk_drew ?_ | refine blk_alloc ?_ _)); refine blk_far ?_ NB391_388.out _; (with_reducible repeat (first | refine blk_drewN ?_ _ | refine blk_drew ?_ | refine blk_alloc ?_ _)); refine blk_far ?_ NB391_388.out _; (with_reducible repeat (first | refine blk_drewN ?_ _ | refine blk_drew ?_ | refine blk_alloc ?_ _)); refine blk_put (cs := #[.int .i32 a0_4, .int .i32 0]) ?_ 1 _ rfl; (with_reducible repeat (first | refine blk_drewN ?_ _ | refine blk_drew ?_ | refine blk_alloc ?_ _)); refine blk_put (cs := #[.int .i32 0, .int .i32 0]) ?_ 0 _ rfl; (with_reducible repeat (first | refine blk_drewN ?_ _ | refine blk_drew ?_ | refine blk_alloc ?_ _)); exact BK391.out) hb); have n5_ := Aside0.mk (below_step (bl5 HB.out GE386.out GE388.out GE389.out GE390.out GE391.out) hb); clear BK386; clear BK388; clear BK389; clear BK390; clear BK391; clear HB; have BK386 := n0_; have BK388 := n1_; have BK389 := n2_; have BK390 := n3_; have BK391 := n4_; have HB := n5_; clear n0_ n1_ n2_ n3_ n4_ n5_; (try clear hb); (try clear hb2); (try clear hk); (try clear hi)))
     go_meet
     case rel => exact ⟨_, (t392), (t393), fr, fr, H', ⟨by have := HJ3.out; first | omega | exact Nat.le_refl _⟩, ⟨bk BK386.out⟩, ⟨bk BK388.out⟩, ⟨bk BK389.out⟩, ⟨bk BK390.out⟩, ⟨bk BK391.out⟩, ⟨bl5 HB.out GE386.out GE388.out GE389.out GE390.out GE391.out⟩⟩
    case rest =>
     clear HC36
     try clear c1
     try clear c2
     try clear p2
     try clear c3
     try clear c4
     try clear p6
     try clear c8
     try clear c10
     try clear c11
     try clear c13
     try clear c14
     try clear c16
     try clear c19
     try clear c20
     try clear c21
     try clear c23
     try clear c24
     try clear c27
     try clear c28
     try clear c29
     try clear c30
     try clear c32
     try clear c33
     try clear c34
     try clear c37
     try clear c38
     try clear c39
     try clear c40
     try clear c41
     try clear hcz11_0
     try clear hcz11_1
     try clear hcz11_2
     try clear hcz11_3
     try clear hcz11_4
     try clear hcz11_5
     try clear hcz15_0
     try clear hcz15_1
     try clear hcz17_0
     try clear hcz17_1
     try clear hcz17_2
     try clear hcz17_3
     try clear hcz17_4
     try clear hcz17_5
     try clear hcz22_0
     try clear hcz22_1
     try clear hcz25_0
     try clear hcz25_1
     try clear hcz25_2
     try clear hcz25_3
     try clear hcz25_4
     try clear hcz25_5
     try clear hcz31_0
     try clear hcz31_1
     try clear hcz35_0
     try clear hcz35_1
     try clear hcz35_2
     try clear hcz35_3
     try clear hcz35_4
     try clear hcz35_5
     try clear hcz42_0
     try clear hcz42_1
     try clear hcz42_2
     try clear hcz42_3
     try clear hcz42_4
     try clear hcz42_5
     try clear hfz11_0
     try clear hfz11_1
     try clear hfz11_2
     try clear hfz11_3
     try clear hfz11_4
     try clear hfz11_5
     try clear hfz15_0
     try clear hfz15_1
     try clear hfz17_0
     try clear hfz17_1
     try clear hfz17_2
     try clear hfz17_3
     try clear hfz17_4
     try clear hfz17_5
     try clear hfz22_0
     try clear hfz22_1
     try clear hfz25_0
     try clear hfz25_1
     try clear hfz25_2
     try clear hfz25_3
     try clear hfz25_4
     try clear hfz25_5
     try clear hfz31_0
     try clear hfz31_1
     try clear hfz35_0
     try clear hfz35_1
     try clear hfz35_2
     try clear hfz35_3
     try clear hfz35_4
     try clear hfz35_5
     try clear hfz42_0
     try clear hfz42_1
     try clear hfz42_2
     try clear hfz42_3
     try clear hfz42_4
     try clear hfz42_5
     try clear p2
     obtain ⟨kq, x12_35, x13_35, rfl, rfl, HA, HJ35, BK386, BK388, BK389, BK390, BK391, HB⟩ := hcut
     cases kq with
     | zero => exact absurd HA.out (by simp [pochoirlaw19_LineOrder.j1])
     | succ kj35 =>
      have H := HA.out
      clear HA
      simp only [pochoirlaw19_LineOrder.j1] at H
      have HC44 := Aside0.mk H
      clear H
      go_upto_region 11 with (fail)
      go_cut [14, 15] (fun v14 v15 wc => ∃ (kq : Nat) (x14_43 : Int) (x15_43 : Int), v14 = .int .i64 x14_43 ∧ v15 = .int .i64 x15_43 ∧ Aside0 (pochoirlaw19_LineOrder.j2 kq (wrap64 (1 + (wrap64 (Int.tmod a1 1048576)))) (wrap64 (1 + (wrap64 (Int.tmod a2 127)))) x12_35 x13_35 x14_43 x15_43 (Int.tmod (wrap64 (a0_0)) 1048576) (Int.tmod (wrap64 (a0_1)) 1048576) (Int.tmod (wrap64 (a0_2)) 1048576) (Int.tmod (wrap64 (a0_3)) 1048576) (Int.tmod (wrap64 (a0_4)) 1048576) (Int.tmod (wrap64 (a0_5)) 1048576) = some r) ∧ Aside0 (kq ≤ kj35) ∧ Aside0 (wc.heap[gb386]? = some (.cells #[.int .i32 a0_0, .int .i32 a0_1, .int .i32 a0_2, .int .i32 a0_3, .int .i32 a0_4, .int .i32 a0_5] 23 (0, 0))) ∧ Aside0 (wc.heap[gb388]? = some (.cells #[.int .i64 (Int.tmod (wrap64 (a0_0)) 1048576), .int .i64 (Int.tmod (wrap64 (a0_1)) 1048576), .int .i64 (Int.tmod (wrap64 (a0_2)) 1048576), .int .i64 (Int.tmod (wrap64 (a0_3)) 1048576), .int .i64 (Int.tmod (wrap64 (a0_4)) 1048576), .int .i64 (Int.tmod (wrap64 (a0_5)) 1048576)] 27 (0, 0))) ∧ Aside0 (wc.heap[gb389]? = some (.cells #[.int .i32 a0_0, .int .i32 a0_1] 22 (0, 0))) ∧ Aside0 (wc.heap[gb390]? = some (.cells #[.int .i32 a0_2, .int .i32 a0_3] 22 (0, 0))) ∧ Aside0 (wc.heap[gb391]? = some (.cells #[.int .i32 a0_4, .int .i32 a0_5] 22 (0, 0))) ∧ Aside0 (Below w.heap.size w wc))
      case first =>
       have H := HC44.out
       clear HC44
       replace H := Option.bind_eq_some_iff.mp H
       obtain ⟨⟨t394, t395⟩, A450, H⟩ := H
       replace H : (pochoirlaw19_LineOrder.j2 kj35 (wrap64 (1 + (wrap64 (Int.tmod a1 1048576)))) (wrap64 (1 + (wrap64 (Int.tmod a2 127)))) x12_35 x13_35 t394 t395 (Int.tmod (wrap64 (a0_0)) 1048576) (Int.tmod (wrap64 (a0_1)) 1048576) (Int.tmod (wrap64 (a0_2)) 1048576) (Int.tmod (wrap64 (a0_3)) 1048576) (Int.tmod (wrap64 (a0_4)) 1048576) (Int.tmod (wrap64 (a0_5)) 1048576)) = some r := H
       have A45 := Aside0.mk A450
       clear A450
       have H' := Aside0.mk H
       clear H
       have hnb46 := NB388_386.out
       have hnc46 := NB386_388.out
       have hnb47 := NB388_389.out
       have hnc47 := NB389_388.out
       have hnb48 := NB388_390.out
       have hnc48 := NB390_388.out
       have hnb49 := NB388_391.out
       have hnc49 := NB391_388.out
       have hcz50_0 : wc.cell? ⟨gb388, 0, none⟩ = some (.int .i64 (Int.tmod (wrap64 (a0_0)) 1048576)) := (blk_cell BK388.out 0).trans rfl
       have hcz50_1 : wc.cell? ⟨gb388, 1, none⟩ = some (.int .i64 (Int.tmod (wrap64 (a0_1)) 1048576)) := (blk_cell BK388.out 1).trans rfl
       have hcz50_2 : wc.cell? ⟨gb388, 2, none⟩ = some (.int .i64 (Int.tmod (wrap64 (a0_2)) 1048576)) := (blk_cell BK388.out 2).trans rfl
       have hcz50_3 : wc.cell? ⟨gb388, 3, none⟩ = some (.int .i64 (Int.tmod (wrap64 (a0_3)) 1048576)) := (blk_cell BK388.out 3).trans rfl
       have hcz50_4 : wc.cell? ⟨gb388, 4, none⟩ = some (.int .i64 (Int.tmod (wrap64 (a0_4)) 1048576)) := (blk_cell BK388.out 4).trans rfl
       have hcz50_5 : wc.cell? ⟨gb388, 5, none⟩ = some (.int .i64 (Int.tmod (wrap64 (a0_5)) 1048576)) := (blk_cell BK388.out 5).trans rfl
       have hfz50_0 := blk_frozen BK388.out 0
       have hfz50_1 := blk_frozen BK388.out 1
       have hfz50_2 := blk_frozen BK388.out 2
       have hfz50_3 := blk_frozen BK388.out 3
       have hfz50_4 := blk_frozen BK388.out 4
       have hfz50_5 := blk_frozen BK388.out 5
       go_wp2_with (first | ((with_reducible refine gate_callee (f := 42) rfl ?_); refine goesL_ (some 72) rfl rfl Try.func42 (by kernel_rfl) rfl #[.agg #[.int .i64 (Int.tmod (wrap64 (a0_0)) 1048576), .int .i64 (Int.tmod (wrap64 (a0_1)) 1048576)], .agg #[.int .i64 (Int.tmod (wrap64 (a0_2)) 1048576), .int .i64 (Int.tmod (wrap64 (a0_3)) 1048576)], .agg #[.int .i64 (Int.tmod (wrap64 (a0_4)) 1048576), .int .i64 (Int.tmod (wrap64 (a0_5)) 1048576)], .int .i64 (wrap64 (1 + (wrap64 (Int.tmod a1 1048576)))), .int .i64 (wrap64 (1 + (wrap64 (Int.tmod a2 127))))] rfl am ?_; (with_reducible refine (line_Ray.calls kj35 (Int.tmod (wrap64 (a0_0)) 1048576) (Int.tmod (wrap64 (a0_1)) 1048576) (Int.tmod (wrap64 (a0_2)) 1048576) (Int.tmod (wrap64 (a0_3)) 1048576) (Int.tmod (wrap64 (a0_4)) 1048576) (Int.tmod (wrap64 (a0_5)) 1048576) (wrap64 (1 + (wrap64 (Int.tmod a1 1048576)))) (wrap64 (1 + (wrap64 (Int.tmod a2 127)))) t394 t395 _ A45.out).mono ?_); rintro e w51 ⟨rfl, hb⟩; refine ⟨_, rfl, ?_⟩; have n0_ := Aside0.mk (bb BK386.out hb); have n1_ := Aside0.mk (bb BK388.out hb); have n2_ := Aside0.mk (bb BK389.out hb); have n3_ := Aside0.mk (bb BK390.out hb); have n4_ := Aside0.mk (bb BK391.out hb); have n5_ := Aside0.mk (below_step (bl5 HB.out GE386.out GE388.out GE389.out GE390.out GE391.out) hb); clear BK386; clear BK388; clear BK389; clear BK390; clear BK391; clear HB; have BK386 := n0_; have BK388 := n1_; have BK389 := n2_; have BK390 := n3_; have BK391 := n4_; have HB := n5_; clear n0_ n1_ n2_ n3_ n4_ n5_; (try clear hb); (try clear hb2); (try clear hk); (try clear hi)))
       go_meet
       case rel => exact ⟨_, (t394), (t395), fr, fr, H', ⟨by have := HJ3.out; have := HJ35.out; first | omega | exact Nat.le_refl _⟩, ⟨bk BK386.out⟩, ⟨bk BK388.out⟩, ⟨bk BK389.out⟩, ⟨bk BK390.out⟩, ⟨bk BK391.out⟩, ⟨bl5 HB.out GE386.out GE388.out GE389.out GE390.out GE391.out⟩⟩
      case rest =>
       clear HC44
       try clear c1
       try clear c2
       try clear p2
       try clear c3
       try clear c4
       try clear p6
       try clear c8
       try clear c10
       try clear c11
       try clear c13
       try clear c14
       try clear c16
       try clear c19
       try clear c20
       try clear c21
       try clear c23
       try clear c24
       try clear c27
       try clear c28
       try clear c29
       try clear c30
       try clear c32
       try clear c33
       try clear c34
       try clear c37
       try clear c38
       try clear c39
       try clear c40
       try clear c41
       try clear c42
       try clear c46
       try clear c47
       try clear c48
       try clear c49
       try clear hcz11_0
       try clear hcz11_1
       try clear hcz11_2
       try clear hcz11_3
       try clear hcz11_4
       try clear hcz11_5
       try clear hcz15_0
       try clear hcz15_1
       try clear hcz17_0
       try clear hcz17_1
       try clear hcz17_2
       try clear hcz17_3
       try clear hcz17_4
       try clear hcz17_5
       try clear hcz22_0
       try clear hcz22_1
       try clear hcz25_0
       try clear hcz25_1
       try clear hcz25_2
       try clear hcz25_3
       try clear hcz25_4
       try clear hcz25_5
       try clear hcz31_0
       try clear hcz31_1
       try clear hcz35_0
       try clear hcz35_1
       try clear hcz35_2
       try clear hcz35_3
       try clear hcz35_4
       try clear hcz35_5
       try clear hcz42_0
       try clear hcz42_1
       try clear hcz42_2
       try clear hcz42_3
       try clear hcz42_4
       try clear hcz42_5
       try clear hcz50_0
       try clear hcz50_1
       try clear hcz50_2
       try clear hcz50_3
       try clear hcz50_4
       try clear hcz50_5
       try clear hfz11_0
       try clear hfz11_1
       try clear hfz11_2
       try clear hfz11_3
       try clear hfz11_4
       try clear hfz11_5
       try clear hfz15_0
       try clear hfz15_1
       try clear hfz17_0
       try clear hfz17_1
       try clear hfz17_2
       try clear hfz17_3
       try clear hfz17_4
       try clear hfz17_5
       try clear hfz22_0
       try clear hfz22_1
       try clear hfz25_0
       try clear hfz25_1
       try clear hfz25_2
       try clear hfz25_3
       try clear hfz25_4
       try clear hfz25_5
       try clear hfz31_0
       try clear hfz31_1
       try clear hfz35_0
       try clear hfz35_1
       try clear hfz35_2
       try clear hfz35_3
       try clear hfz35_4
       try clear hfz35_5
       try clear hfz42_0
       try clear hfz42_1
       try clear hfz42_2
       try clear hfz42_3
       try clear hfz42_4
       try clear hfz42_5
       try clear hfz50_0
       try clear hfz50_1
       try clear hfz50_2
       try clear hfz50_3
       try clear hfz50_4
       try clear hfz50_5
       try clear p2
       try clear p6
       obtain ⟨kq, x14_43, x15_43, rfl, rfl, HA, HJ43, BK386, BK388, BK389, BK390, BK391, HB⟩ := hcut
       cases kq with
       | zero => exact absurd HA.out (by simp [pochoirlaw19_LineOrder.j2])
       | succ kj43 =>
        have H := HA.out
        clear HA
        simp only [pochoirlaw19_LineOrder.j2] at H
        replace H := Option.bind_eq_some_iff.mp H
        obtain ⟨⟨t396, t397⟩, A520, H⟩ := H
        replace H : ((line_Point.f kj43 (Int.tmod (wrap64 (a0_0)) 1048576) (Int.tmod (wrap64 (a0_1)) 1048576) (Int.tmod (wrap64 (a0_4)) 1048576) (Int.tmod (wrap64 (a0_5)) 1048576) (wrap64 (1 + (wrap64 (Int.tmod a1 1048576)))) (wrap64 (1 + (wrap64 (Int.tmod a2 127))))).bind fun bt398 => ((line_Segment.f kj43 (Int.tmod (wrap64 (a0_0)) 1048576) (Int.tmod (wrap64 (a0_1)) 1048576) (Int.tmod (wrap64 (a0_4)) 1048576) (Int.tmod (wrap64 (a0_5)) 1048576) (Int.tmod (wrap64 (a0_2)) 1048576) (Int.tmod (wrap64 (a0_3)) 1048576) (wrap64 (1 + (wrap64 (Int.tmod a1 1048576)))) (wrap64 (1 + (wrap64 (Int.tmod a2 127))))).bind fun bt400 => ((line_Segment.f kj43 (Int.tmod (wrap64 (a0_0)) 1048576) (Int.tmod (wrap64 (a0_1)) 1048576) (Int.tmod (wrap64 (a0_2)) 1048576) (Int.tmod (wrap64 (a0_3)) 1048576) (Int.tmod (wrap64 (a0_4)) 1048576) (Int.tmod (wrap64 (a0_5)) 1048576) (wrap64 (1 + (wrap64 (Int.tmod a1 1048576)))) (wrap64 (2 * (wrap64 (1 + (wrap64 (Int.tmod a2 127))))))).bind fun bt402 => (if x13_35 = 0 then (if x15_43 = 0 then (if t397 = 0 then (if bt398.2 = 0 then (if bt400.2 = 0 then (if bt402.2 = 0 then (if x12_35 ≤ t396 then (if x12_35 ≤ bt398.1 then (if x14_43 ≤ x12_35 then (if bt400.1 = x12_35 then (some ((wrap64 (Int.tdiv bt402.1 2)) == x12_35)) else (some false)) else (some false)) else (some false)) else (some false)) else (some false)) else (some false)) else (some false)) else (some false)) else (some false)) else (some false))))) = some r := H
        have A52 := Aside0.mk A520
        clear A520
        replace H := Option.bind_eq_some_iff.mp H
        obtain ⟨⟨t398, t399⟩, A530, H⟩ := H
        replace H : ((line_Segment.f kj43 (Int.tmod (wrap64 (a0_0)) 1048576) (Int.tmod (wrap64 (a0_1)) 1048576) (Int.tmod (wrap64 (a0_4)) 1048576) (Int.tmod (wrap64 (a0_5)) 1048576) (Int.tmod (wrap64 (a0_2)) 1048576) (Int.tmod (wrap64 (a0_3)) 1048576) (wrap64 (1 + (wrap64 (Int.tmod a1 1048576)))) (wrap64 (1 + (wrap64 (Int.tmod a2 127))))).bind fun bt400 => ((line_Segment.f kj43 (Int.tmod (wrap64 (a0_0)) 1048576) (Int.tmod (wrap64 (a0_1)) 1048576) (Int.tmod (wrap64 (a0_2)) 1048576) (Int.tmod (wrap64 (a0_3)) 1048576) (Int.tmod (wrap64 (a0_4)) 1048576) (Int.tmod (wrap64 (a0_5)) 1048576) (wrap64 (1 + (wrap64 (Int.tmod a1 1048576)))) (wrap64 (2 * (wrap64 (1 + (wrap64 (Int.tmod a2 127))))))).bind fun bt402 => (if x13_35 = 0 then (if x15_43 = 0 then (if t397 = 0 then (if t399 = 0 then (if bt400.2 = 0 then (if bt402.2 = 0 then (if x12_35 ≤ t396 then (if x12_35 ≤ t398 then (if x14_43 ≤ x12_35 then (if bt400.1 = x12_35 then (some ((wrap64 (Int.tdiv bt402.1 2)) == x12_35)) else (some false)) else (some false)) else (some false)) else (some false)) else (some false)) else (some false)) else (some false)) else (some false)) else (some false)) else (some false)))) = some r := H
        have A53 := Aside0.mk A530
        clear A530
        replace H := Option.bind_eq_some_iff.mp H
        obtain ⟨⟨t400, t401⟩, A540, H⟩ := H
        replace H : ((line_Segment.f kj43 (Int.tmod (wrap64 (a0_0)) 1048576) (Int.tmod (wrap64 (a0_1)) 1048576) (Int.tmod (wrap64 (a0_2)) 1048576) (Int.tmod (wrap64 (a0_3)) 1048576) (Int.tmod (wrap64 (a0_4)) 1048576) (Int.tmod (wrap64 (a0_5)) 1048576) (wrap64 (1 + (wrap64 (Int.tmod a1 1048576)))) (wrap64 (2 * (wrap64 (1 + (wrap64 (Int.tmod a2 127))))))).bind fun bt402 => (if x13_35 = 0 then (if x15_43 = 0 then (if t397 = 0 then (if t399 = 0 then (if t401 = 0 then (if bt402.2 = 0 then (if x12_35 ≤ t396 then (if x12_35 ≤ t398 then (if x14_43 ≤ x12_35 then (if t400 = x12_35 then (some ((wrap64 (Int.tdiv bt402.1 2)) == x12_35)) else (some false)) else (some false)) else (some false)) else (some false)) else (some false)) else (some false)) else (some false)) else (some false)) else (some false)) else (some false))) = some r := H
        have A54 := Aside0.mk A540
        clear A540
        replace H := Option.bind_eq_some_iff.mp H
        obtain ⟨⟨t402, t403⟩, A550, H⟩ := H
        replace H : (if x13_35 = 0 then (if x15_43 = 0 then (if t397 = 0 then (if t399 = 0 then (if t401 = 0 then (if t403 = 0 then (if x12_35 ≤ t396 then (if x12_35 ≤ t398 then (if x14_43 ≤ x12_35 then (if t400 = x12_35 then (some ((wrap64 (Int.tdiv t402 2)) == x12_35)) else (some false)) else (some false)) else (some false)) else (some false)) else (some false)) else (some false)) else (some false)) else (some false)) else (some false)) else (some false)) = some r := H
        have A55 := Aside0.mk A550
        clear A550
        by_cases c56 : x13_35 = 0
        ·rw [if_pos c56] at H
         have c56b0 : (x13_35 == 0) = true := beq_iff_eq.mpr c56
         have c56b1 : (x13_35 != 0) = false := bne_eq_false_iff_eq.mpr c56
         clear c56
         by_cases c57 : x15_43 = 0
         ·rw [if_pos c57] at H
          have c57b0 : (x15_43 == 0) = true := beq_iff_eq.mpr c57
          have c57b1 : (x15_43 != 0) = false := bne_eq_false_iff_eq.mpr c57
          clear c57
          by_cases c58 : t397 = 0
          ·rw [if_pos c58] at H
           have c58b0 : (t397 == 0) = true := beq_iff_eq.mpr c58
           have c58b1 : (t397 != 0) = false := bne_eq_false_iff_eq.mpr c58
           clear c58
           by_cases c59 : t399 = 0
           ·rw [if_pos c59] at H
            have c59b0 : (t399 == 0) = true := beq_iff_eq.mpr c59
            have c59b1 : (t399 != 0) = false := bne_eq_false_iff_eq.mpr c59
            clear c59
            by_cases c60 : t401 = 0
            ·rw [if_pos c60] at H
             have c60b0 : (t401 == 0) = true := beq_iff_eq.mpr c60
             have c60b1 : (t401 != 0) = false := bne_eq_false_iff_eq.mpr c60
             clear c60
             by_cases c61 : t403 = 0
             ·rw [if_pos c61] at H
              have c61b0 : (t403 == 0) = true := beq_iff_eq.mpr c61
              have c61b1 : (t403 != 0) = false := bne_eq_false_iff_eq.mpr c61
              clear c61
              by_cases c62 : x12_35 ≤ t396
              ·rw [if_pos c62] at H
               have c62b0 : decide (x12_35 ≤ t396) = true := decide_eq_true c62
               clear c62
               by_cases c63 : x12_35 ≤ t398
               ·rw [if_pos c63] at H
                have c63b0 : decide (x12_35 ≤ t398) = true := decide_eq_true c63
                clear c63
                by_cases c64 : x14_43 ≤ x12_35
                ·rw [if_pos c64] at H
                 have c64b0 : decide (x14_43 ≤ x12_35) = true := decide_eq_true c64
                 clear c64
                 by_cases c65 : t400 = x12_35
                 ·rw [if_pos c65] at H
                  have c65b0 : (t400 == x12_35) = true := beq_iff_eq.mpr c65
                  have c65b1 : (t400 != x12_35) = false := bne_eq_false_iff_eq.mpr c65
                  clear c65
                  obtain rfl := Option.some.inj H
                  have hnb66 := NB388_386.out
                  have hnc66 := NB386_388.out
                  have hnb67 := NB388_389.out
                  have hnc67 := NB389_388.out
                  have hnb68 := NB388_390.out
                  have hnc68 := NB390_388.out
                  have hnb69 := NB388_391.out
                  have hnc69 := NB391_388.out
                  have hcz70_0 : wc.cell? ⟨gb388, 0, none⟩ = some (.int .i64 (Int.tmod (wrap64 (a0_0)) 1048576)) := (blk_cell BK388.out 0).trans rfl
                  have hcz70_1 : wc.cell? ⟨gb388, 1, none⟩ = some (.int .i64 (Int.tmod (wrap64 (a0_1)) 1048576)) := (blk_cell BK388.out 1).trans rfl
                  have hcz70_2 : wc.cell? ⟨gb388, 2, none⟩ = some (.int .i64 (Int.tmod (wrap64 (a0_2)) 1048576)) := (blk_cell BK388.out 2).trans rfl
                  have hcz70_3 : wc.cell? ⟨gb388, 3, none⟩ = some (.int .i64 (Int.tmod (wrap64 (a0_3)) 1048576)) := (blk_cell BK388.out 3).trans rfl
                  have hcz70_4 : wc.cell? ⟨gb388, 4, none⟩ = some (.int .i64 (Int.tmod (wrap64 (a0_4)) 1048576)) := (blk_cell BK388.out 4).trans rfl
                  have hcz70_5 : wc.cell? ⟨gb388, 5, none⟩ = some (.int .i64 (Int.tmod (wrap64 (a0_5)) 1048576)) := (blk_cell BK388.out 5).trans rfl
                  have hfz70_0 := blk_frozen BK388.out 0
                  have hfz70_1 := blk_frozen BK388.out 1
                  have hfz70_2 := blk_frozen BK388.out 2
                  have hfz70_3 := blk_frozen BK388.out 3
                  have hfz70_4 := blk_frozen BK388.out 4
                  have hfz70_5 := blk_frozen BK388.out 5
                  go_wp2_with (first | ((with_reducible refine gate_callee (f := 40) rfl ?_); refine goesL_ (some 82) rfl rfl Try.func40 (by kernel_rfl) rfl #[.agg #[.int .i64 (Int.tmod (wrap64 (a0_0)) 1048576), .int .i64 (Int.tmod (wrap64 (a0_1)) 1048576)], .agg #[.int .i64 (Int.tmod (wrap64 (a0_2)) 1048576), .int .i64 (Int.tmod (wrap64 (a0_3)) 1048576)], .int .i64 (wrap64 (1 + (wrap64 (Int.tmod a1 1048576)))), .int .i64 (wrap64 (1 + (wrap64 (Int.tmod a2 127))))] rfl am ?_; (with_reducible refine (line_Point.calls kj43 (Int.tmod (wrap64 (a0_0)) 1048576) (Int.tmod (wrap64 (a0_1)) 1048576) (Int.tmod (wrap64 (a0_2)) 1048576) (Int.tmod (wrap64 (a0_3)) 1048576) (wrap64 (1 + (wrap64 (Int.tmod a1 1048576)))) (wrap64 (1 + (wrap64 (Int.tmod a2 127)))) t396 t397 _ A52.out).mono ?_); rintro e w71 ⟨rfl, hb⟩; refine ⟨_, rfl, ?_⟩; have n0_ := Aside0.mk (bb BK386.out hb); have n1_ := Aside0.mk (bb BK388.out hb); have n2_ := Aside0.mk (bb BK389.out hb); have n3_ := Aside0.mk (bb BK390.out hb); have n4_ := Aside0.mk (bb BK391.out hb); have n5_ := Aside0.mk (below_step (bl5 HB.out GE386.out GE388.out GE389.out GE390.out GE391.out) hb); clear BK386; clear BK388; clear BK389; clear BK390; clear BK391; clear HB; have BK386 := n0_; have BK388 := n1_; have BK389 := n2_; have BK390 := n3_; have BK391 := n4_; have HB := n5_; clear n0_ n1_ n2_ n3_ n4_ n5_; (try clear hb); (try clear hb2); (try clear hk); (try clear hi); have hcz72_0 : w71.cell? ⟨gb388, 0, none⟩ = some (.int .i64 (Int.tmod (wrap64 (a0_0)) 1048576)) := (blk_cell BK388.out 0).trans rfl; have hcz72_1 : w71.cell? ⟨gb388, 1, none⟩ = some (.int .i64 (Int.tmod (wrap64 (a0_1)) 1048576)) := (blk_cell BK388.out 1).trans rfl; have hcz72_2 : w71.cell? ⟨gb388, 2, none⟩ = some (.int .i64 (Int.tmod (wrap64 (a0_2)) 1048576)) := (blk_cell BK388.out 2).trans rfl; have hcz72_3 : w71.cell? ⟨gb388, 3, none⟩ = some (.int .i64 (Int.tmod (wrap64 (a0_3)) 1048576)) := (blk_cell BK388.out 3).trans rfl; have hcz72_4 : w71.cell? ⟨gb388, 4, none⟩ = some (.int .i64 (Int.tmod (wrap64 (a0_4)) 1048576)) := (blk_cell BK388.out 4).trans rfl; have hcz72_5 : w71.cell? ⟨gb388, 5, none⟩ = some (.int .i64 (Int.tmod (wrap64 (a0_5)) 1048576)) := (blk_cell BK388.out 5).trans rfl; have hfz72_0 := blk_frozen BK388.out 0; have hfz72_1 := blk_frozen BK388.out 1; have hfz72_2 := blk_frozen BK388.out 2; have hfz72_3 := blk_frozen BK388.out 3; have hfz72_4 := blk_frozen BK388.out 4; have hfz72_5 := blk_frozen BK388.out 5) | ((with_reducible refine gate_callee (f := 40) rfl ?_); refine goesL_ (some 92) rfl rfl Try.func40 (by kernel_rfl) rfl #[.agg #[.int .i64 (Int.tmod (wrap64 (a0_0)) 1048576), .int .i64 (Int.tmod (wrap64 (a0_1)) 1048576)], .agg #[.int .i64 (Int.tmod (wrap64 (a0_4)) 1048576), .int .i64 (Int.tmod (wrap64 (a0_5)) 1048576)], .int .i64 (wrap64 (1 + (wrap64 (Int.tmod a1 1048576)))), .int .i64 (wrap64 (1 + (wrap64 (Int.tmod a2 127))))] rfl am ?_; (with_reducible refine (line_Point.calls kj43 (Int.tmod (wrap64 (a0_0)) 1048576) (Int.tmod (wrap64 (a0_1)) 1048576) (Int.tmod (wrap64 (a0_4)) 1048576) (Int.tmod (wrap64 (a0_5)) 1048576) (wrap64 (1 + (wrap64 (Int.tmod a1 1048576)))) (wrap64 (1 + (wrap64 (Int.tmod a2 127)))) t398 t399 _ A53.out).mono ?_); rintro e w73 ⟨rfl, hb⟩; refine ⟨_, rfl, ?_⟩; have n0_ := Aside0.mk (bb BK386.out hb); have n1_ := Aside0.mk (bb BK388.out hb); have n2_ := Aside0.mk (bb BK389.out hb); have n3_ := Aside0.mk (bb BK390.out hb); have n4_ := Aside0.mk (bb BK391.out hb); have n5_ := Aside0.mk (below_step (bl5 HB.out GE386.out GE388.out GE389.out GE390.out GE391.out) hb); clear BK386; clear BK388; clear BK389; clear BK390; clear BK391; clear HB; have BK386 := n0_; have BK388 := n1_; have BK389 := n2_; have BK390 := n3_; have BK391 := n4_; have HB := n5_; clear n0_ n1_ n2_ n3_ n4_ n5_; (try clear hb); (try clear hb2); (try clear hk); (try clear hi); have hcz74_0 : w73.cell? ⟨gb388, 0, none⟩ = some (.int .i64 (Int.tmod (wrap64 (a0_0)) 1048576)) := (blk_cell BK388.out 0).trans rfl; have hcz74_1 : w73.cell? ⟨gb388, 1, none⟩ = some (.int .i64 (Int.tmod (wrap64 (a0_1)) 1048576)) := (blk_cell BK388.out 1).trans rfl; have hcz74_2 : w73.cell? ⟨gb388, 2, none⟩ = some (.int .i64 (Int.tmod (wrap64 (a0_2)) 1048576)) := (blk_cell BK388.out 2).trans rfl; have hcz74_3 : w73.cell? ⟨gb388, 3, none⟩ = some (.int .i64 (Int.tmod (wrap64 (a0_3)) 1048576)) := (blk_cell BK388.out 3).trans rfl; have hcz74_4 : w73.cell? ⟨gb388, 4, none⟩ = some (.int .i64 (Int.tmod (wrap64 (a0_4)) 1048576)) := (blk_cell BK388.out 4).trans rfl; have hcz74_5 : w73.cell? ⟨gb388, 5, none⟩ = some (.int .i64 (Int.tmod (wrap64 (a0_5)) 1048576)) := (blk_cell BK388.out 5).trans rfl; have hfz74_0 := blk_frozen BK388.out 0; have hfz74_1 := blk_frozen BK388.out 1; have hfz74_2 := blk_frozen BK388.out 2; have hfz74_3 := blk_frozen BK388.out 3; have hfz74_4 := blk_frozen BK388.out 4; have hfz74_5 := blk_frozen BK388.out 5) | ((with_reducible refine gate_callee (f := 41) rfl ?_); refine goesL_ (some 104) rfl rfl Try.func41 (by kernel_rfl) rfl #[.agg #[.int .i64 (Int.tmod (wrap64 (a0_0)) 1048576), .int .i64 (Int.tmod (wrap64 (a0_1)) 1048576)], .agg #[.int .i64 (Int.tmod (wrap64 (a0_4)) 1048576), .int .i64 (Int.tmod (wrap64 (a0_5)) 1048576)], .agg #[.int .i64 (Int.tmod (wrap64 (a0_2)) 1048576), .int .i64 (Int.tmod (wrap64 (a0_3)) 1048576)], .int .i64 (wrap64 (1 + (wrap64 (Int.tmod a1 1048576)))), .int .i64 (wrap64 (1 + (wrap64 (Int.tmod a2 127))))] rfl am ?_; (with_reducible refine (line_Segment.calls kj43 (Int.tmod (wrap64 (a0_0)) 1048576) (Int.tmod (wrap64 (a0_1)) 1048576) (Int.tmod (wrap64 (a0_4)) 1048576) (Int.tmod (wrap64 (a0_5)) 1048576) (Int.tmod (wrap64 (a0_2)) 1048576) (Int.tmod (wrap64 (a0_3)) 1048576) (wrap64 (1 + (wrap64 (Int.tmod a1 1048576)))) (wrap64 (1 + (wrap64 (Int.tmod a2 127)))) t400 t401 _ A54.out).mono ?_); rintro e w75 ⟨rfl, hb⟩; refine ⟨_, rfl, ?_⟩; have n0_ := Aside0.mk (bb BK386.out hb); have n1_ := Aside0.mk (bb BK388.out hb); have n2_ := Aside0.mk (bb BK389.out hb); have n3_ := Aside0.mk (bb BK390.out hb); have n4_ := Aside0.mk (bb BK391.out hb); have n5_ := Aside0.mk (below_step (bl5 HB.out GE386.out GE388.out GE389.out GE390.out GE391.out) hb); clear BK386; clear BK388; clear BK389; clear BK390; clear BK391; clear HB; have BK386 := n0_; have BK388 := n1_; have BK389 := n2_; have BK390 := n3_; have BK391 := n4_; have HB := n5_; clear n0_ n1_ n2_ n3_ n4_ n5_; (try clear hb); (try clear hb2); (try clear hk); (try clear hi); have hcz76_0 : w75.cell? ⟨gb388, 0, none⟩ = some (.int .i64 (Int.tmod (wrap64 (a0_0)) 1048576)) := (blk_cell BK388.out 0).trans rfl; have hcz76_1 : w75.cell? ⟨gb388, 1, none⟩ = some (.int .i64 (Int.tmod (wrap64 (a0_1)) 1048576)) := (blk_cell BK388.out 1).trans rfl; have hcz76_2 : w75.cell? ⟨gb388, 2, none⟩ = some (.int .i64 (Int.tmod (wrap64 (a0_2)) 1048576)) := (blk_cell BK388.out 2).trans rfl; have hcz76_3 : w75.cell? ⟨gb388, 3, none⟩ = some (.int .i64 (Int.tmod (wrap64 (a0_3)) 1048576)) := (blk_cell BK388.out 3).trans rfl; have hcz76_4 : w75.cell? ⟨gb388, 4, none⟩ = some (.int .i64 (Int.tmod (wrap64 (a0_4)) 1048576)) := (blk_cell BK388.out 4).trans rfl; have hcz76_5 : w75.cell? ⟨gb388, 5, none⟩ = some (.int .i64 (Int.tmod (wrap64 (a0_5)) 1048576)) := (blk_cell BK388.out 5).trans rfl; have hfz76_0 := blk_frozen BK388.out 0; have hfz76_1 := blk_frozen BK388.out 1; have hfz76_2 := blk_frozen BK388.out 2; have hfz76_3 := blk_frozen BK388.out 3; have hfz76_4 := blk_frozen BK388.out 4; have hfz76_5 := blk_frozen BK388.out 5) | ((with_reducible refine gate_callee (f := 41) rfl ?_); refine goesL_ (some 117) rfl rfl Try.func41 (by kernel_rfl) rfl #[.agg #[.int .i64 (Int.tmod (wrap64 (a0_0)) 1048576), .int .i64 (Int.tmod (wrap64 (a0_1)) 1048576)], .agg #[.int .i64 (Int.tmod (wrap64 (a0_2)) 1048576), .int .i64 (Int.tmod (wrap64 (a0_3)) 1048576)], .agg #[.int .i64 (Int.tmod (wrap64 (a0_4)) 1048576), .int .i64 (Int.tmod (wrap64 (a0_5)) 1048576)], .int .i64 (wrap64 (1 + (wrap64 (Int.tmod a1 1048576)))), .int .i64 (wrap64 (2 * (wrap64 (1 + (wrap64 (Int.tmod a2 127))))))] rfl am ?_; (with_reducible refine (line_Segment.calls kj43 (Int.tmod (wrap64 (a0_0)) 1048576) (Int.tmod (wrap64 (a0_1)) 1048576) (Int.tmod (wrap64 (a0_2)) 1048576) (Int.tmod (wrap64 (a0_3)) 1048576) (Int.tmod (wrap64 (a0_4)) 1048576) (Int.tmod (wrap64 (a0_5)) 1048576) (wrap64 (1 + (wrap64 (Int.tmod a1 1048576)))) (wrap64 (2 * (wrap64 (1 + (wrap64 (Int.tmod a2 127)))))) t402 t403 _ A55.out).mono ?_); rintro e w77 ⟨rfl, hb⟩; refine ⟨_, rfl, ?_⟩; have n0_ := Aside0.mk (bb BK386.out hb); have n1_ := Aside0.mk (bb BK388.out hb); have n2_ := Aside0.mk (bb BK389.out hb); have n3_ := Aside0.mk (bb BK390.out hb); have n4_ := Aside0.mk (bb BK391.out hb); have n5_ := Aside0.mk (below_step (bl5 HB.out GE386.out GE388.out GE389.out GE390.out GE391.out) hb); clear BK386; clear BK388; clear BK389; clear BK390; clear BK391; clear HB; have BK386 := n0_; have BK388 := n1_; have BK389 := n2_; have BK390 := n3_; have BK391 := n4_; have HB := n5_; clear n0_ n1_ n2_ n3_ n4_ n5_; (try clear hb); (try clear hb2); (try clear hk); (try clear hi)))
                  go_ret
                  exact ⟨by first | rfl | (simp [errW_none, errW_some] <;> rfl) | (simp [*, errW_none, errW_some] <;> rfl), bl5 HB.out GE386.out GE388.out GE389.out GE390.out GE391.out⟩
                 ·rw [if_neg c65] at H
                  have c65b0 : (t400 == x12_35) = false := beq_eq_false_iff_ne.mpr c65
                  have c65b1 : (t400 != x12_35) = true := bne_iff_ne.mpr c65
                  exact absurd (HQ.out ▸ H) (by simp)
                ·rw [if_neg c64] at H
                 have c64b0 : decide (x14_43 ≤ x12_35) = false := decide_eq_false c64
                 clear c64
                 exact absurd (HQ.out ▸ H) (by simp)
               ·rw [if_neg c63] at H
                have c63b0 : decide (x12_35 ≤ t398) = false := decide_eq_false c63
                clear c63
                exact absurd (HQ.out ▸ H) (by simp)
              ·rw [if_neg c62] at H
               have c62b0 : decide (x12_35 ≤ t396) = false := decide_eq_false c62
               clear c62
               exact absurd (HQ.out ▸ H) (by simp)
             ·rw [if_neg c61] at H
              have c61b0 : (t403 == 0) = false := beq_eq_false_iff_ne.mpr c61
              have c61b1 : (t403 != 0) = true := bne_iff_ne.mpr c61
              exact absurd (HQ.out ▸ H) (by simp)
            ·rw [if_neg c60] at H
             have c60b0 : (t401 == 0) = false := beq_eq_false_iff_ne.mpr c60
             have c60b1 : (t401 != 0) = true := bne_iff_ne.mpr c60
             exact absurd (HQ.out ▸ H) (by simp)
           ·rw [if_neg c59] at H
            have c59b0 : (t399 == 0) = false := beq_eq_false_iff_ne.mpr c59
            have c59b1 : (t399 != 0) = true := bne_iff_ne.mpr c59
            exact absurd (HQ.out ▸ H) (by simp)
          ·rw [if_neg c58] at H
           have c58b0 : (t397 == 0) = false := beq_eq_false_iff_ne.mpr c58
           have c58b1 : (t397 != 0) = true := bne_iff_ne.mpr c58
           exact absurd (HQ.out ▸ H) (by simp)
         ·rw [if_neg c57] at H
          have c57b0 : (x15_43 == 0) = false := beq_eq_false_iff_ne.mpr c57
          have c57b1 : (x15_43 != 0) = true := bne_iff_ne.mpr c57
          exact absurd (HQ.out ▸ H) (by simp)
        ·rw [if_neg c56] at H
         have c56b0 : (x13_35 == 0) = false := beq_eq_false_iff_ne.mpr c56
         have c56b1 : (x13_35 != 0) = true := bne_iff_ne.mpr c56
         exact absurd (HQ.out ▸ H) (by simp)

/-- THE ONE PURE STATEMENT of pochoirlaw19_LineOrder. -/
def pochoirlaw19_LineOrder.Pure : Prop := ∀ (x0 : S23) (x1 : Int) (x2 : Int), wf23 x0 → (Lit.int .u32 x1).wf = true → (Lit.int .u8 x2).wf = true → ∃ k, pochoirlaw19_LineOrder.f k x0.f0.f0 x0.f0.f1 x0.f1.f0 x0.f1.f1 x0.f2.f0 x0.f2.f1 x1 x2 = some true

end Go.Proofs.Ytemhnlameekmkaa.XLine
