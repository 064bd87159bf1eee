-- Printed by a program of this claim. Not trusted: Lean checks it.
import Derived.Test.YtemhnlameekmkaaXLinex0
import Derived.Test.YtemhnlameekmkaaXLinex3
namespace Go.Proofs.Ytemhnlameekmkaa.XLine
open Go.RowKit Go.Proofs.YtemhnlameekmkaaW.PrintWords Go.Proofs.YtemhnlameekmkaaW.PrintLast Go.Proofs.YtemhnlameekmkaaW.PrintMore
attribute [local go_sem] max2_int min2_int max_two min_two max_three min_three max_four min_four   -- for this text's walks alone
set_option linter.unusedVariables false
set_option linter.unusedSimpArgs false
open XOpen

/-! ### line_times: function 80 -/
def line_times.f (a0_0 : Int) (a0_1 : Int) (a1 : Int) : Option (Int × Int × Int) := (wide_Mul.f a0_1 a1).bind fun bt115 => ((wide_Mul.f a0_0 a1).bind fun bt117 => ((wide_Of.f bt115.1).bind fun bt121 => ((wide_Add.f bt121.1 bt121.2 bt117.1 bt117.2).bind fun bt123 => (some (bt115.2, bt123.2.1, bt123.1)))))
def line_times.T1 : Bool × List (List Nat × List Nat) := (true, [([], []), ([0], [0]), ([], []), ([1, 2], [1, 2]), ([], []), ([4], [4]), ([], []), ([5, 6, 3], [5, 6]), ([], []), ([], []), ([8, 3, 7, 0, 1, 2, 3, 8, 9], [3, 8]), ([9, 7, 10, 0, 1, 2, 3, 4, 5, 6, 7, 8, 9, 10], [7, 9])])
def line_times.B1 : List Nat := [0, 1, 0, 7, 0, 16, 0, 127, 0, 0, 1023, 2047]
theorem line_times.tab1 : rtab .any (opsOf Try.f80 1) = line_times.T1 := by kernel_rfl
theorem line_times.bits1 : waitsOk line_times.T1.2 line_times.B1 = true := by kernel_rfl
def line_times.T2 : Bool × List (List Nat × List Nat) := (true, [([], []), ([0], [0]), ([1], [1]), ([], []), ([2, 3, 2], [2, 3]), ([4], [4]), ([5], [5]), ([5], [5]), ([], []), ([8, 6, 4, 0, 1, 2, 3, 4, 5, 6, 8], [6, 8]), ([7, 9, 0, 1, 2, 3, 4, 5, 6, 7, 8, 9], [7])])
def line_times.B2 : List Nat := [0, 1, 3, 0, 15, 31, 63, 63, 0, 383, 1023]
theorem line_times.tab2 : rtab .any (opsOf Try.f80 2) = line_times.T2 := by kernel_rfl
theorem line_times.bits2 : waitsOk line_times.T2.2 line_times.B2 = true := by kernel_rfl
set_option maxHeartbeats 8000000 in
set_option maxRecDepth 100000 in
theorem line_times.calls (a0_0 : Int) (a0_1 : Int) (a1 : Int) (r1 : Int) (r2 : Int) (r3 : Int) (w : World) (h : line_times.f a0_0 a0_1 a1 = some (r1, r2, r3)) :
  Calls Try.prog 80 #[.agg #[.int .u64 a0_0, .int .u64 a0_1], .int .u64 a1] w fun e w' => e = .returned (.agg #[.int .u64 r1, .int .u64 r2, .int .u64 r3]) ∧ Below w.heap.size w w' := by
 have hu49 := Try.underlying49
 have hu102 := Try.underlying102
 have HB := Aside0.mk (Below.refl w.heap.size w)
 have H : ((wide_Mul.f a0_1 a1).bind fun bt115 => ((wide_Mul.f a0_0 a1).bind fun bt117 => ((wide_Of.f bt115.1).bind fun bt121 => ((wide_Add.f bt121.1 bt121.2 bt117.1 bt117.2).bind fun bt123 => (some (bt115.2, bt123.2.1, bt123.1)))))) = some (r1, r2, r3) := h
 clear h
 replace H := Option.bind_eq_some_iff.mp H
 obtain ⟨⟨t115, t116⟩, A30, H⟩ := H
 replace H : ((wide_Mul.f a0_0 a1).bind fun bt117 => ((wide_Of.f t115).bind fun bt121 => ((wide_Add.f bt121.1 bt121.2 bt117.1 bt117.2).bind fun bt123 => (some (t116, bt123.2.1, bt123.1))))) = some (r1, r2, r3) := H
 have A3 := Aside0.mk A30
 clear A30
 replace H := Option.bind_eq_some_iff.mp H
 obtain ⟨⟨t117, t118⟩, A40, H⟩ := H
 replace H : ((wide_Of.f t115).bind fun bt121 => ((wide_Add.f bt121.1 bt121.2 t117 t118).bind fun bt123 => (some (t116, bt123.2.1, bt123.1)))) = some (r1, r2, r3) := H
 have A4 := Aside0.mk A40
 clear A40
 replace H := Option.bind_eq_some_iff.mp H
 obtain ⟨⟨t121, t122⟩, A50, H⟩ := H
 replace H : ((wide_Add.f t121 t122 t117 t118).bind fun bt123 => (some (t116, bt123.2.1, bt123.1))) = some (r1, r2, r3) := H
 have A5 := Aside0.mk A50
 clear A50
 replace H := Option.bind_eq_some_iff.mp H
 obtain ⟨⟨t123, t124, t125⟩, A60, H⟩ := H
 replace H : (some (t116, t124, t123)) = some (r1, r2, r3) := H
 have A6 := Aside0.mk A60
 clear A60
 simp only [Option.some.injEq, Prod.mk.injEq] at H
 obtain ⟨rfl, rfl, rfl⟩ := H
 go_enter Try.func80, Try.ntmps80
 try go_wp2_with (first | ((with_reducible refine gate_dst (N := 2) rfl ?_); refine be 2 (#[.int .u64 a0_0, .int .u64 a0_1]) 49 ?_; intro gb113 hg w7 hbox hb; have BK113 := Aside0.mk (hbox); have GW113 := Aside0.mk ((by rw [hg]; exact (below_size (bl0 HB.out)) : w.heap.size ≤ gb113)); have GE113 := GW113; replace HB := Aside0.mk (below_step (bl0 HB.out) hb); clear hb hbox hg) | ((with_reducible refine gate_dst (N := 4) rfl ?_); refine be 4 (#[.int .u64 0, .int .u64 0, .int .u64 0]) 102 ?_; intro gb114 hg w8 hbox hb; have BK114 := Aside0.mk (hbox); have GW114 := Aside0.mk ((by rw [hg]; exact (below_size (bl1 HB.out GE113.out)) : w.heap.size ≤ gb114)); have GE114 := GW114; have NB113_114 := Aside0.mk ((by rw [hg]; exact Nat.ne_of_lt (lt_ BK113.out) : gb113 ≠ gb114)); have NB114_113 := Aside0.mk ((by rw [hg]; exact Nat.ne_of_gt (lt_ BK113.out) : gb114 ≠ gb113)); replace BK113 := Aside0.mk (bb BK113.out hb); replace HB := Aside0.mk (below_step (bl1 HB.out GE113.out) hb); clear hb hbox hg))
 replace BK113 := Aside0.mk (blk_drew BK113.out)
 replace BK114 := Aside0.mk (blk_drew BK114.out)
 replace HB := Aside0.mk (below_drew1 HB.out)
 refine start_ (n := 12) (S := fun w' => w'.cell? ⟨gb113, 0, none⟩ = some (.int .u64 a0_0) ∧ w'.cell? ⟨gb113, 1, none⟩ = some (.int .u64 a0_1)) (ds := []) (ba 12 0) (by kernel_rfl) rfl rfl ⟨(blk_cell BK113.out 0).trans rfl, (blk_cell BK113.out 1).trans rfl⟩ (fun hHeld => ?_); refine with_tabW line_times.tab1 line_times.bits1 (fun HT_ HW_ => ?_)
 generalize w8.drew = w9 at BK113 BK114 HB hHeld ⊢
 refine pI 0 9 (ba 12 1) HT_.out ?_
 refine pI 2 11 (ba 12 5) HT_.out ?_
 refine pI 4 13 (ba 12 21) HT_.out ?_
 refine pI 6 15 (ba 12 85) HT_.out ?_
 refine take_ (i := 1) (N := some 10) (v := ?_) (a' := ?_) (ba 12 87) rfl rfl (take_ofW HT_.out HW_.out (by kernel_rfl)) (fun _ _ _ h => h) (Or.inl ⟨by rfl, ?_⟩) hHeld ?_ ?_
 rotate_left
 ·rintro w' ⟨s0, s1⟩
  go_simp
  with_reducible rfl
 rotate_left
 ·simp only [Act.put, List.setIfInBounds_toArray, List.set_cons_zero, List.set_cons_succ, i64_w, i32_w]
  rfl
 refine take_ (i := 5) (N := some 14) (v := ?_) (a' := ?_) (ba 12 119) rfl rfl (take_ofW HT_.out HW_.out (by kernel_rfl)) (fun _ _ _ h => h) (Or.inl ⟨by rfl, ?_⟩) hHeld ?_ ?_
 rotate_left
 ·rintro w' ⟨s0, s1⟩
  go_simp
  with_reducible rfl
 rotate_left
 ·simp only [Act.put, List.setIfInBounds_toArray, List.set_cons_zero, List.set_cons_succ, i64_w, i32_w]
  rfl
 refine join_ (σ := Nat × Nat) 2 (ba 12 1023) (fun s_ => [(12, .agg #[.int .u64 t115, .int .u64 t116]), (16, .agg #[.int .u64 t117, .int .u64 t118]), (5, .pointer (some ⟨s_.1, 0, none⟩)), (6, .pointer (some ⟨s_.2, 0, none⟩))]) (fun s_ w' => (w'.cell? ⟨gb113, 0, none⟩ = some (.int .u64 a0_0) ∧ w'.cell? ⟨gb113, 1, none⟩ = some (.int .u64 a0_1)) ∧ (w'.heap[gb113]? = some (.cells #[.int .u64 a0_0, .int .u64 a0_1] 49 (0, 0))) ∧ (w'.heap[gb114]? = some (.cells #[.int .u64 0, .int .u64 0, .int .u64 0] 102 (0, 0))) ∧ (w'.heap[s_.1]? = some (.cells #[.int .u64 0, .int .u64 0] 49 (0, 0))) ∧ (w'.heap[s_.2]? = some (.cells #[.int .u64 0, .int .u64 0] 49 (0, 0))) ∧ (w.heap.size ≤ s_.1) ∧ (w.heap.size ≤ s_.1) ∧ (gb113 ≠ s_.1) ∧ (s_.1 ≠ gb113) ∧ (gb114 ≠ s_.1) ∧ (s_.1 ≠ gb114) ∧ (s_.2 ≠ s_.1) ∧ (s_.1 ≠ s_.2) ∧ (w.heap.size ≤ s_.2) ∧ (w.heap.size ≤ s_.2) ∧ (gb113 ≠ s_.2) ∧ (s_.2 ≠ gb113) ∧ (gb114 ≠ s_.2) ∧ (s_.2 ≠ gb114) ∧ (Below w.heap.size w w')) ?_ ?_
 rotate_left
 ·intro hJ3_7_8_9
  refine join_ (σ := Nat) 3 (ba 12 511) (fun s_ => [(12, .agg #[.int .u64 t115, .int .u64 t116]), (16, .agg #[.int .u64 t117, .int .u64 t118]), (5, .pointer (some ⟨s_, 0, none⟩))]) (fun s_ w' => (w'.cell? ⟨gb113, 0, none⟩ = some (.int .u64 a0_0) ∧ w'.cell? ⟨gb113, 1, none⟩ = some (.int .u64 a0_1)) ∧ (w'.heap[gb113]? = some (.cells #[.int .u64 a0_0, .int .u64 a0_1] 49 (0, 0))) ∧ (w'.heap[gb114]? = some (.cells #[.int .u64 0, .int .u64 0, .int .u64 0] 102 (0, 0))) ∧ (w'.heap[s_]? = some (.cells #[.int .u64 0, .int .u64 0] 49 (0, 0))) ∧ (w.heap.size ≤ s_) ∧ (w.heap.size ≤ s_) ∧ (gb113 ≠ s_) ∧ (s_ ≠ gb113) ∧ (gb114 ≠ s_) ∧ (s_ ≠ gb114) ∧ (Below w.heap.size w w')) ?_ ?_
  rotate_left
  ·intro hJ3_7_8
   refine join_ (σ := Nat) 3 (ba 12 767) (fun s_ => [(12, .agg #[.int .u64 t115, .int .u64 t116]), (16, .agg #[.int .u64 t117, .int .u64 t118]), (6, .pointer (some ⟨s_, 0, none⟩))]) (fun s_ w' => (w'.cell? ⟨gb113, 0, none⟩ = some (.int .u64 a0_0) ∧ w'.cell? ⟨gb113, 1, none⟩ = some (.int .u64 a0_1)) ∧ (w'.heap[gb113]? = some (.cells #[.int .u64 a0_0, .int .u64 a0_1] 49 (0, 0))) ∧ (w'.heap[gb114]? = some (.cells #[.int .u64 0, .int .u64 0, .int .u64 0] 102 (0, 0))) ∧ (w'.heap[s_]? = some (.cells #[.int .u64 0, .int .u64 0] 49 (0, 0))) ∧ (w.heap.size ≤ s_) ∧ (w.heap.size ≤ s_) ∧ (gb113 ≠ s_) ∧ (s_ ≠ gb113) ∧ (gb114 ≠ s_) ∧ (s_ ≠ gb114) ∧ (Below w.heap.size w w')) ?_ ?_
   rotate_left
   ·intro hJ3_7_9
    refine join_ (σ := Nat × Nat) 3 (ba 12 895) (fun s_ => [(12, .agg #[.int .u64 t115, .int .u64 t116]), (5, .pointer (some ⟨s_.1, 0, none⟩)), (6, .pointer (some ⟨s_.2, 0, none⟩))]) (fun s_ w' => (w'.cell? ⟨gb113, 0, none⟩ = some (.int .u64 a0_0) ∧ w'.cell? ⟨gb113, 1, none⟩ = some (.int .u64 a0_1)) ∧ (w'.heap[gb113]? = some (.cells #[.int .u64 a0_0, .int .u64 a0_1] 49 (0, 0))) ∧ (w'.heap[gb114]? = some (.cells #[.int .u64 0, .int .u64 0, .int .u64 0] 102 (0, 0))) ∧ (w'.heap[s_.1]? = some (.cells #[.int .u64 0, .int .u64 0] 49 (0, 0))) ∧ (w'.heap[s_.2]? = some (.cells #[.int .u64 0, .int .u64 0] 49 (0, 0))) ∧ (w.heap.size ≤ s_.1) ∧ (w.heap.size ≤ s_.1) ∧ (gb113 ≠ s_.1) ∧ (s_.1 ≠ gb113) ∧ (gb114 ≠ s_.1) ∧ (s_.1 ≠ gb114) ∧ (s_.2 ≠ s_.1) ∧ (s_.1 ≠ s_.2) ∧ (w.heap.size ≤ s_.2) ∧ (w.heap.size ≤ s_.2) ∧ (gb113 ≠ s_.2) ∧ (s_.2 ≠ gb113) ∧ (gb114 ≠ s_.2) ∧ (s_.2 ≠ gb114) ∧ (Below w.heap.size w w')) ?_ ?_
    rotate_left
    ·intro hJ3_8_9
     refine join_ (σ := Unit) 4 (ba 12 255) (fun s_ => [(12, .agg #[.int .u64 t115, .int .u64 t116]), (16, .agg #[.int .u64 t117, .int .u64 t118])]) (fun s_ w' => (w'.cell? ⟨gb113, 0, none⟩ = some (.int .u64 a0_0) ∧ w'.cell? ⟨gb113, 1, none⟩ = some (.int .u64 a0_1)) ∧ (w'.heap[gb113]? = some (.cells #[.int .u64 a0_0, .int .u64 a0_1] 49 (0, 0))) ∧ (w'.heap[gb114]? = some (.cells #[.int .u64 0, .int .u64 0, .int .u64 0] 102 (0, 0))) ∧ (Below w.heap.size w w')) ?_ ?_
     rotate_left
     ·intro hJ3_7
      refine join_ (σ := Nat) 4 (ba 12 383) (fun s_ => [(12, .agg #[.int .u64 t115, .int .u64 t116]), (5, .pointer (some ⟨s_, 0, none⟩))]) (fun s_ w' => (w'.cell? ⟨gb113, 0, none⟩ = some (.int .u64 a0_0) ∧ w'.cell? ⟨gb113, 1, none⟩ = some (.int .u64 a0_1)) ∧ (w'.heap[gb113]? = some (.cells #[.int .u64 a0_0, .int .u64 a0_1] 49 (0, 0))) ∧ (w'.heap[gb114]? = some (.cells #[.int .u64 0, .int .u64 0, .int .u64 0] 102 (0, 0))) ∧ (w'.heap[s_]? = some (.cells #[.int .u64 0, .int .u64 0] 49 (0, 0))) ∧ (w.heap.size ≤ s_) ∧ (w.heap.size ≤ s_) ∧ (gb113 ≠ s_) ∧ (s_ ≠ gb113) ∧ (gb114 ≠ s_) ∧ (s_ ≠ gb114) ∧ (Below w.heap.size w w')) ?_ ?_
      rotate_left
      ·intro hJ3_8
       refine join_ (σ := Nat) 4 (ba 12 639) (fun s_ => [(12, .agg #[.int .u64 t115, .int .u64 t116]), (6, .pointer (some ⟨s_, 0, none⟩))]) (fun s_ w' => (w'.cell? ⟨gb113, 0, none⟩ = some (.int .u64 a0_0) ∧ w'.cell? ⟨gb113, 1, none⟩ = some (.int .u64 a0_1)) ∧ (w'.heap[gb113]? = some (.cells #[.int .u64 a0_0, .int .u64 a0_1] 49 (0, 0))) ∧ (w'.heap[gb114]? = some (.cells #[.int .u64 0, .int .u64 0, .int .u64 0] 102 (0, 0))) ∧ (w'.heap[s_]? = some (.cells #[.int .u64 0, .int .u64 0] 49 (0, 0))) ∧ (w.heap.size ≤ s_) ∧ (w.heap.size ≤ s_) ∧ (gb113 ≠ s_) ∧ (s_ ≠ gb113) ∧ (gb114 ≠ s_) ∧ (s_ ≠ gb114) ∧ (Below w.heap.size w w')) ?_ ?_
       rotate_left
       ·intro hJ3_9
        refine join_ (σ := Nat × Nat) 4 (ba 12 887) (fun s_ => [(5, .pointer (some ⟨s_.1, 0, none⟩)), (6, .pointer (some ⟨s_.2, 0, none⟩))]) (fun s_ w' => (w'.cell? ⟨gb113, 0, none⟩ = some (.int .u64 a0_0) ∧ w'.cell? ⟨gb113, 1, none⟩ = some (.int .u64 a0_1)) ∧ (w'.heap[gb113]? = some (.cells #[.int .u64 a0_0, .int .u64 a0_1] 49 (0, 0))) ∧ (w'.heap[gb114]? = some (.cells #[.int .u64 0, .int .u64 0, .int .u64 0] 102 (0, 0))) ∧ (w'.heap[s_.1]? = some (.cells #[.int .u64 0, .int .u64 0] 49 (0, 0))) ∧ (w'.heap[s_.2]? = some (.cells #[.int .u64 0, .int .u64 0] 49 (0, 0))) ∧ (w.heap.size ≤ s_.1) ∧ (w.heap.size ≤ s_.1) ∧ (gb113 ≠ s_.1) ∧ (s_.1 ≠ gb113) ∧ (gb114 ≠ s_.1) ∧ (s_.1 ≠ gb114) ∧ (s_.2 ≠ s_.1) ∧ (s_.1 ≠ s_.2) ∧ (w.heap.size ≤ s_.2) ∧ (w.heap.size ≤ s_.2) ∧ (gb113 ≠ s_.2) ∧ (s_.2 ≠ gb113) ∧ (gb114 ≠ s_.2) ∧ (s_.2 ≠ gb114) ∧ (Below w.heap.size w w')) ?_ ?_
        rotate_left
        ·intro hJ8_9
         refine join_ (σ := Unit) 5 (ba 12 127) (fun s_ => [(12, .agg #[.int .u64 t115, .int .u64 t116])]) (fun s_ w' => (w'.cell? ⟨gb113, 0, none⟩ = some (.int .u64 a0_0) ∧ w'.cell? ⟨gb113, 1, none⟩ = some (.int .u64 a0_1)) ∧ (w'.heap[gb113]? = some (.cells #[.int .u64 a0_0, .int .u64 a0_1] 49 (0, 0))) ∧ (w'.heap[gb114]? = some (.cells #[.int .u64 0, .int .u64 0, .int .u64 0] 102 (0, 0))) ∧ (Below w.heap.size w w')) ?_ ?_
         rotate_left
         ·intro hJ3
          refine join_ (σ := Nat) 5 (ba 12 375) (fun s_ => [(5, .pointer (some ⟨s_, 0, none⟩))]) (fun s_ w' => (w'.cell? ⟨gb113, 0, none⟩ = some (.int .u64 a0_0) ∧ w'.cell? ⟨gb113, 1, none⟩ = some (.int .u64 a0_1)) ∧ (w'.heap[gb113]? = some (.cells #[.int .u64 a0_0, .int .u64 a0_1] 49 (0, 0))) ∧ (w'.heap[gb114]? = some (.cells #[.int .u64 0, .int .u64 0, .int .u64 0] 102 (0, 0))) ∧ (w'.heap[s_]? = some (.cells #[.int .u64 0, .int .u64 0] 49 (0, 0))) ∧ (w.heap.size ≤ s_) ∧ (w.heap.size ≤ s_) ∧ (gb113 ≠ s_) ∧ (s_ ≠ gb113) ∧ (gb114 ≠ s_) ∧ (s_ ≠ gb114) ∧ (Below w.heap.size w w')) ?_ ?_
          rotate_left
          ·intro hJ8
           refine join_ (σ := Nat) 5 (ba 12 631) (fun s_ => [(6, .pointer (some ⟨s_, 0, none⟩))]) (fun s_ w' => (w'.cell? ⟨gb113, 0, none⟩ = some (.int .u64 a0_0) ∧ w'.cell? ⟨gb113, 1, none⟩ = some (.int .u64 a0_1)) ∧ (w'.heap[gb113]? = some (.cells #[.int .u64 a0_0, .int .u64 a0_1] 49 (0, 0))) ∧ (w'.heap[gb114]? = some (.cells #[.int .u64 0, .int .u64 0, .int .u64 0] 102 (0, 0))) ∧ (w'.heap[s_]? = some (.cells #[.int .u64 0, .int .u64 0] 49 (0, 0))) ∧ (w.heap.size ≤ s_) ∧ (w.heap.size ≤ s_) ∧ (gb113 ≠ s_) ∧ (s_ ≠ gb113) ∧ (gb114 ≠ s_) ∧ (s_ ≠ gb114) ∧ (Below w.heap.size w w')) ?_ ?_
           rotate_left
           ·intro hJ9
            refine three_ (i := 3) (j := 8) (k := 9) (Ni := some 12) (Nj := some 5) (Nk := some 6) (ba 12 127) (ba 12 375) (ba 12 631) rfl rfl rfl rfl rfl rfl (three_of HT_.out (by kernel_rfl)) (by decide) (by decide) (by decide) (fun K hK => ?_) (fun K hK => ?_) (fun K hK => ?_)
            ·skip
             refine goes_ Try.func59 (by kernel_rfl) rfl #[.int .u64 a0_1, .int .u64 a1] (by rfl) rfl rfl am ?_
             with_reducible refine (wide_Mul.calls a0_1 a1 t115 t116 _ A3.out).mono ?_
             rintro e w10 ⟨rfl, hb⟩
             refine ⟨_, rfl, ?_⟩
             replace BK113 := Aside0.mk (bb BK113.out hb)
             replace BK114 := Aside0.mk (bb BK114.out hb)
             replace HB := Aside0.mk (below_step (bl2 HB.out GE113.out GE114.out) hb)
             (try clear hb)
             (try clear hb2)
             (try clear hk)
             (try clear hi)
             refine hK.out _ _ ⟨(blk_cell BK113.out 0).trans rfl, (blk_cell BK113.out 1).trans rfl⟩ (fun hHeld => ?_)
             clear hK K
             refine norm_ (a' := ?_) ?_ ?_
             rotate_left
             ·show Act.put _ (some 12) _ = _
              simp only [Act.put, List.setIfInBounds_toArray, List.set_cons_zero, List.set_cons_succ, i64_w, i32_w]
              rfl
             exact norm_ (by first | (simp only [putAll, Act.put, List.setIfInBounds_toArray, List.set_cons_zero, List.set_cons_succ]; done) | (simp only [putAll, Act.put, List.setIfInBounds_toArray, List.set_cons_zero, List.set_cons_succ]; rfl)) (hJ3 () _ ⟨hHeld, (bk BK113.out), (bk BK114.out), (bl2 HB.out GE113.out GE114.out)⟩)
            ·skip
             refine box_step ?hg (N := 5) ?hd (cs := #[.int .u64 0, .int .u64 0]) (t := 49) ?hr ?_; (case hd => rfl); (case hg => rfl); (case hr => first | (go_simp; done) | (go_simp; rfl))
             intro gb119 hg w10 hbox hb
             have BK119 := Aside0.mk (hbox)
             have GW119 := Aside0.mk ((by rw [hg]; exact (below_size (bl2 HB.out GE113.out GE114.out)) : w.heap.size ≤ gb119))
             have GE119 := Aside0.mk ((by rw [hg]; exact (below_size (bl2 HB.out GE113.out GE114.out)) : w.heap.size ≤ gb119))
             have NB113_119 := Aside0.mk ((by rw [hg]; exact Nat.ne_of_lt (lt_ BK113.out) : gb113 ≠ gb119))
             have NB119_113 := Aside0.mk ((by rw [hg]; exact Nat.ne_of_gt (lt_ BK113.out) : gb119 ≠ gb113))
             have NB114_119 := Aside0.mk ((by rw [hg]; exact Nat.ne_of_lt (lt_ BK114.out) : gb114 ≠ gb119))
             have NB119_114 := Aside0.mk ((by rw [hg]; exact Nat.ne_of_gt (lt_ BK114.out) : gb119 ≠ gb114))
             replace BK113 := Aside0.mk (bb BK113.out hb)
             replace BK114 := Aside0.mk (bb BK114.out hb)
             replace HB := Aside0.mk (below_step (bl2 HB.out GE113.out GE114.out) hb)
             clear hb hbox hg
             refine hK.out _ _ ⟨(blk_cell BK113.out 0).trans rfl, (blk_cell BK113.out 1).trans rfl⟩ (fun hHeld => ?_)
             clear hK K
             refine norm_ (a' := ?_) ?_ ?_
             rotate_left
             ·show Act.put _ (some 5) _ = _
              simp only [Act.put, List.setIfInBounds_toArray, List.set_cons_zero, List.set_cons_succ, i64_w, i32_w]
              rfl
             exact norm_ (by first | (simp only [putAll, Act.put, List.setIfInBounds_toArray, List.set_cons_zero, List.set_cons_succ]; done) | (simp only [putAll, Act.put, List.setIfInBounds_toArray, List.set_cons_zero, List.set_cons_succ]; rfl)) (hJ8 (gb119) _ ⟨hHeld, (bk BK113.out), (bk BK114.out), (bk BK119.out), GW119.out, GE119.out, NB113_119.out, NB119_113.out, NB114_119.out, NB119_114.out, (bl3 HB.out GE113.out GE114.out GE119.out)⟩)
            ·skip
             refine box_step ?hg (N := 6) ?hd (cs := #[.int .u64 0, .int .u64 0]) (t := 49) ?hr ?_; (case hd => rfl); (case hg => rfl); (case hr => first | (go_simp; done) | (go_simp; rfl))
             intro gb120 hg w10 hbox hb
             have BK120 := Aside0.mk (hbox)
             have GW120 := Aside0.mk ((by rw [hg]; exact (below_size (bl2 HB.out GE113.out GE114.out)) : w.heap.size ≤ gb120))
             have GE120 := Aside0.mk ((by rw [hg]; exact (below_size (bl2 HB.out GE113.out GE114.out)) : w.heap.size ≤ gb120))
             have NB113_120 := Aside0.mk ((by rw [hg]; exact Nat.ne_of_lt (lt_ BK113.out) : gb113 ≠ gb120))
             have NB120_113 := Aside0.mk ((by rw [hg]; exact Nat.ne_of_gt (lt_ BK113.out) : gb120 ≠ gb113))
             have NB114_120 := Aside0.mk ((by rw [hg]; exact Nat.ne_of_lt (lt_ BK114.out) : gb114 ≠ gb120))
             have NB120_114 := Aside0.mk ((by rw [hg]; exact Nat.ne_of_gt (lt_ BK114.out) : gb120 ≠ gb114))
             replace BK113 := Aside0.mk (bb BK113.out hb)
             replace BK114 := Aside0.mk (bb BK114.out hb)
             replace HB := Aside0.mk (below_step (bl2 HB.out GE113.out GE114.out) hb)
             clear hb hbox hg
             refine hK.out _ _ ⟨(blk_cell BK113.out 0).trans rfl, (blk_cell BK113.out 1).trans rfl⟩ (fun hHeld => ?_)
             clear hK K
             refine norm_ (a' := ?_) ?_ ?_
             rotate_left
             ·show Act.put _ (some 6) _ = _
              simp only [Act.put, List.setIfInBounds_toArray, List.set_cons_zero, List.set_cons_succ, i64_w, i32_w]
              rfl
             exact norm_ (by first | (simp only [putAll, Act.put, List.setIfInBounds_toArray, List.set_cons_zero, List.set_cons_succ]; done) | (simp only [putAll, Act.put, List.setIfInBounds_toArray, List.set_cons_zero, List.set_cons_succ]; rfl)) (hJ9 (gb120) _ ⟨hHeld, (bk BK113.out), (bk BK114.out), (bk BK120.out), GW120.out, GE120.out, NB113_120.out, NB120_113.out, NB114_120.out, NB120_114.out, (bl3 HB.out GE113.out GE114.out GE120.out)⟩)
           ·skip
            rintro gb120 w11 ⟨hS_, h0_, h1_, h2_, h3_, h4_, h5_, h6_, h7_, h8_, h9_⟩
            have BK120 : Aside0 (w11.heap[gb120]? = some (.cells #[.int .u64 0, .int .u64 0] 49 (0, 0))) := ⟨h2_⟩
            have GW120 : Aside0 (w.heap.size ≤ gb120) := ⟨h3_⟩
            have GE120 : Aside0 (w.heap.size ≤ gb120) := ⟨h4_⟩
            have NB113_120 : Aside0 (gb113 ≠ gb120) := ⟨h5_⟩
            have NB120_113 : Aside0 (gb120 ≠ gb113) := ⟨h6_⟩
            have NB114_120 : Aside0 (gb114 ≠ gb120) := ⟨h7_⟩
            have NB120_114 : Aside0 (gb120 ≠ gb114) := ⟨h8_⟩
            replace BK113 : Aside0 (w11.heap[gb113]? = some (.cells #[.int .u64 a0_0, .int .u64 a0_1] 49 (0, 0))) := ⟨h0_⟩
            replace BK114 : Aside0 (w11.heap[gb114]? = some (.cells #[.int .u64 0, .int .u64 0, .int .u64 0] 102 (0, 0))) := ⟨h1_⟩
            replace HB : Aside0 (Below w.heap.size w w11) := ⟨h9_⟩
            clear h0_ h1_ h2_ h3_ h4_ h5_ h6_ h7_ h8_ h9_
            have hHeld : w11.cell? ⟨gb113, 0, none⟩ = some (.int .u64 a0_0) ∧ w11.cell? ⟨gb113, 1, none⟩ = some (.int .u64 a0_1) := hS_
            refine norm_ (a' := ?_) ?_ ?_
            rotate_left
            ·simp only [putAll, Act.put, List.setIfInBounds_toArray, List.set_cons_zero, List.set_cons_succ]
             rfl
            refine two_ (i := 3) (j := 8) (Ni := some 12) (Nj := some 5) (ba 12 639) (ba 12 887) rfl rfl rfl rfl (two_of HT_.out (by kernel_rfl)) (by decide) (by decide) (fun K hK => ?_) (fun K hK => ?_)
            ·skip
             refine goes_ Try.func59 (by kernel_rfl) rfl #[.int .u64 a0_1, .int .u64 a1] (by rfl) rfl rfl am ?_
             with_reducible refine (wide_Mul.calls a0_1 a1 t115 t116 _ A3.out).mono ?_
             rintro e w12 ⟨rfl, hb⟩
             refine ⟨_, rfl, ?_⟩
             replace BK113 := Aside0.mk (bb BK113.out hb)
             replace BK114 := Aside0.mk (bb BK114.out hb)
             replace BK120 := Aside0.mk (bb BK120.out hb)
             replace HB := Aside0.mk (below_step (bl3 HB.out GE113.out GE114.out GE120.out) hb)
             (try clear hb)
             (try clear hb2)
             (try clear hk)
             (try clear hi)
             refine hK.out _ _ ⟨(blk_cell BK113.out 0).trans rfl, (blk_cell BK113.out 1).trans rfl⟩ (fun hHeld => ?_)
             clear hK K
             refine norm_ (a' := ?_) ?_ ?_
             rotate_left
             ·show Act.put _ (some 12) _ = _
              simp only [Act.put, List.setIfInBounds_toArray, List.set_cons_zero, List.set_cons_succ, i64_w, i32_w]
              rfl
             exact norm_ (by first | (simp only [putAll, Act.put, List.setIfInBounds_toArray, List.set_cons_zero, List.set_cons_succ]; done) | (simp only [putAll, Act.put, List.setIfInBounds_toArray, List.set_cons_zero, List.set_cons_succ]; rfl)) (hJ3_9 (gb120) _ ⟨hHeld, (bk BK113.out), (bk BK114.out), (bk BK120.out), GW120.out, GE120.out, NB113_120.out, NB120_113.out, NB114_120.out, NB120_114.out, (bl3 HB.out GE113.out GE114.out GE120.out)⟩)
            ·skip
             refine box_step ?hg (N := 5) ?hd (cs := #[.int .u64 0, .int .u64 0]) (t := 49) ?hr ?_; (case hd => rfl); (case hg => rfl); (case hr => first | (go_simp; done) | (go_simp; rfl))
             intro gb119 hg w12 hbox hb
             have BK119 := Aside0.mk (hbox)
             have GW119 := Aside0.mk ((by rw [hg]; exact (below_size (bl3 HB.out GE113.out GE114.out GE120.out)) : w.heap.size ≤ gb119))
             have GE119 := Aside0.mk ((by rw [hg]; exact (below_size (bl3 HB.out GE113.out GE114.out GE120.out)) : w.heap.size ≤ gb119))
             have NB113_119 := Aside0.mk ((by rw [hg]; exact Nat.ne_of_lt (lt_ BK113.out) : gb113 ≠ gb119))
             have NB119_113 := Aside0.mk ((by rw [hg]; exact Nat.ne_of_gt (lt_ BK113.out) : gb119 ≠ gb113))
             have NB114_119 := Aside0.mk ((by rw [hg]; exact Nat.ne_of_lt (lt_ BK114.out) : gb114 ≠ gb119))
             have NB119_114 := Aside0.mk ((by rw [hg]; exact Nat.ne_of_gt (lt_ BK114.out) : gb119 ≠ gb114))
             have NB120_119 := Aside0.mk ((by rw [hg]; exact Nat.ne_of_lt (lt_ BK120.out) : gb120 ≠ gb119))
             have NB119_120 := Aside0.mk ((by rw [hg]; exact Nat.ne_of_gt (lt_ BK120.out) : gb119 ≠ gb120))
             replace BK113 := Aside0.mk (bb BK113.out hb)
             replace BK114 := Aside0.mk (bb BK114.out hb)
             replace BK120 := Aside0.mk (bb BK120.out hb)
             replace HB := Aside0.mk (below_step (bl3 HB.out GE113.out GE114.out GE120.out) hb)
             clear hb hbox hg
             refine hK.out _ _ ⟨(blk_cell BK113.out 0).trans rfl, (blk_cell BK113.out 1).trans rfl⟩ (fun hHeld => ?_)
             clear hK K
             refine norm_ (a' := ?_) ?_ ?_
             rotate_left
             ·show Act.put _ (some 5) _ = _
              simp only [Act.put, List.setIfInBounds_toArray, List.set_cons_zero, List.set_cons_succ, i64_w, i32_w]
              rfl
             exact norm_ (by first | (simp only [putAll, Act.put, List.setIfInBounds_toArray, List.set_cons_zero, List.set_cons_succ]; done) | (simp only [putAll, Act.put, List.setIfInBounds_toArray, List.set_cons_zero, List.set_cons_succ]; rfl)) (hJ8_9 (gb119, gb120) _ ⟨hHeld, (bk BK113.out), (bk BK114.out), (bk BK119.out), (bk BK120.out), GW119.out, GE119.out, NB113_119.out, NB119_113.out, NB114_119.out, NB119_114.out, NB120_119.out, NB119_120.out, GW120.out, GE120.out, NB113_120.out, NB120_113.out, NB114_120.out, NB120_114.out, (bl4 HB.out GE113.out GE114.out GE120.out GE119.out)⟩)
          ·skip
           rintro gb119 w11 ⟨hS_, h0_, h1_, h2_, h3_, h4_, h5_, h6_, h7_, h8_, h9_⟩
           have BK119 : Aside0 (w11.heap[gb119]? = some (.cells #[.int .u64 0, .int .u64 0] 49 (0, 0))) := ⟨h2_⟩
           have GW119 : Aside0 (w.heap.size ≤ gb119) := ⟨h3_⟩
           have GE119 : Aside0 (w.heap.size ≤ gb119) := ⟨h4_⟩
           have NB113_119 : Aside0 (gb113 ≠ gb119) := ⟨h5_⟩
           have NB119_113 : Aside0 (gb119 ≠ gb113) := ⟨h6_⟩
           have NB114_119 : Aside0 (gb114 ≠ gb119) := ⟨h7_⟩
           have NB119_114 : Aside0 (gb119 ≠ gb114) := ⟨h8_⟩
           replace BK113 : Aside0 (w11.heap[gb113]? = some (.cells #[.int .u64 a0_0, .int .u64 a0_1] 49 (0, 0))) := ⟨h0_⟩
           replace BK114 : Aside0 (w11.heap[gb114]? = some (.cells #[.int .u64 0, .int .u64 0, .int .u64 0] 102 (0, 0))) := ⟨h1_⟩
           replace HB : Aside0 (Below w.heap.size w w11) := ⟨h9_⟩
           clear h0_ h1_ h2_ h3_ h4_ h5_ h6_ h7_ h8_ h9_
           have hHeld : w11.cell? ⟨gb113, 0, none⟩ = some (.int .u64 a0_0) ∧ w11.cell? ⟨gb113, 1, none⟩ = some (.int .u64 a0_1) := hS_
           refine norm_ (a' := ?_) ?_ ?_
           rotate_left
           ·simp only [putAll, Act.put, List.setIfInBounds_toArray, List.set_cons_zero, List.set_cons_succ]
            rfl
           refine two_ (i := 3) (j := 9) (Ni := some 12) (Nj := some 6) (ba 12 383) (ba 12 887) rfl rfl rfl rfl (two_of HT_.out (by kernel_rfl)) (by decide) (by decide) (fun K hK => ?_) (fun K hK => ?_)
           ·skip
            refine goes_ Try.func59 (by kernel_rfl) rfl #[.int .u64 a0_1, .int .u64 a1] (by rfl) rfl rfl am ?_
            with_reducible refine (wide_Mul.calls a0_1 a1 t115 t116 _ A3.out).mono ?_
            rintro e w12 ⟨rfl, hb⟩
            refine ⟨_, rfl, ?_⟩
            replace BK113 := Aside0.mk (bb BK113.out hb)
            replace BK114 := Aside0.mk (bb BK114.out hb)
            replace BK119 := Aside0.mk (bb BK119.out hb)
            replace HB := Aside0.mk (below_step (bl3 HB.out GE113.out GE114.out GE119.out) hb)
            (try clear hb)
            (try clear hb2)
            (try clear hk)
            (try clear hi)
            refine hK.out _ _ ⟨(blk_cell BK113.out 0).trans rfl, (blk_cell BK113.out 1).trans rfl⟩ (fun hHeld => ?_)
            clear hK K
            refine norm_ (a' := ?_) ?_ ?_
            rotate_left
            ·show Act.put _ (some 12) _ = _
             simp only [Act.put, List.setIfInBounds_toArray, List.set_cons_zero, List.set_cons_succ, i64_w, i32_w]
             rfl
            exact norm_ (by first | (simp only [putAll, Act.put, List.setIfInBounds_toArray, List.set_cons_zero, List.set_cons_succ]; done) | (simp only [putAll, Act.put, List.setIfInBounds_toArray, List.set_cons_zero, List.set_cons_succ]; rfl)) (hJ3_8 (gb119) _ ⟨hHeld, (bk BK113.out), (bk BK114.out), (bk BK119.out), GW119.out, GE119.out, NB113_119.out, NB119_113.out, NB114_119.out, NB119_114.out, (bl3 HB.out GE113.out GE114.out GE119.out)⟩)
           ·skip
            refine box_step ?hg (N := 6) ?hd (cs := #[.int .u64 0, .int .u64 0]) (t := 49) ?hr ?_; (case hd => rfl); (case hg => rfl); (case hr => first | (go_simp; done) | (go_simp; rfl))
            intro gb120 hg w12 hbox hb
            have BK120 := Aside0.mk (hbox)
            have GW120 := Aside0.mk ((by rw [hg]; exact (below_size (bl3 HB.out GE113.out GE114.out GE119.out)) : w.heap.size ≤ gb120))
            have GE120 := Aside0.mk ((by rw [hg]; exact (below_size (bl3 HB.out GE113.out GE114.out GE119.out)) : w.heap.size ≤ gb120))
            have NB113_120 := Aside0.mk ((by rw [hg]; exact Nat.ne_of_lt (lt_ BK113.out) : gb113 ≠ gb120))
            have NB120_113 := Aside0.mk ((by rw [hg]; exact Nat.ne_of_gt (lt_ BK113.out) : gb120 ≠ gb113))
            have NB114_120 := Aside0.mk ((by rw [hg]; exact Nat.ne_of_lt (lt_ BK114.out) : gb114 ≠ gb120))
            have NB120_114 := Aside0.mk ((by rw [hg]; exact Nat.ne_of_gt (lt_ BK114.out) : gb120 ≠ gb114))
            have NB119_120 := Aside0.mk ((by rw [hg]; exact Nat.ne_of_lt (lt_ BK119.out) : gb119 ≠ gb120))
            have NB120_119 := Aside0.mk ((by rw [hg]; exact Nat.ne_of_gt (lt_ BK119.out) : gb120 ≠ gb119))
            replace BK113 := Aside0.mk (bb BK113.out hb)
            replace BK114 := Aside0.mk (bb BK114.out hb)
            replace BK119 := Aside0.mk (bb BK119.out hb)
            replace HB := Aside0.mk (below_step (bl3 HB.out GE113.out GE114.out GE119.out) hb)
            clear hb hbox hg
            refine hK.out _ _ ⟨(blk_cell BK113.out 0).trans rfl, (blk_cell BK113.out 1).trans rfl⟩ (fun hHeld => ?_)
            clear hK K
            refine norm_ (a' := ?_) ?_ ?_
            rotate_left
            ·show Act.put _ (some 6) _ = _
             simp only [Act.put, List.setIfInBounds_toArray, List.set_cons_zero, List.set_cons_succ, i64_w, i32_w]
             rfl
            exact norm_ (by first | (simp only [putAll, Act.put, List.setIfInBounds_toArray, List.set_cons_zero, List.set_cons_succ]; done) | (simp only [putAll, Act.put, List.setIfInBounds_toArray, List.set_cons_zero, List.set_cons_succ]; rfl)) (hJ8_9 (gb119, gb120) _ ⟨hHeld, (bk BK113.out), (bk BK114.out), (bk BK119.out), (bk BK120.out), GW119.out, GE119.out, NB113_119.out, NB119_113.out, NB114_119.out, NB119_114.out, NB120_119.out, NB119_120.out, GW120.out, GE120.out, NB113_120.out, NB120_113.out, NB114_120.out, NB120_114.out, (bl4 HB.out GE113.out GE114.out GE119.out GE120.out)⟩)
         ·skip
          rintro _ w11 ⟨hS_, h0_, h1_, h2_⟩
          replace BK113 : Aside0 (w11.heap[gb113]? = some (.cells #[.int .u64 a0_0, .int .u64 a0_1] 49 (0, 0))) := ⟨h0_⟩
          replace BK114 : Aside0 (w11.heap[gb114]? = some (.cells #[.int .u64 0, .int .u64 0, .int .u64 0] 102 (0, 0))) := ⟨h1_⟩
          replace HB : Aside0 (Below w.heap.size w w11) := ⟨h2_⟩
          clear h0_ h1_ h2_
          have hHeld : w11.cell? ⟨gb113, 0, none⟩ = some (.int .u64 a0_0) ∧ w11.cell? ⟨gb113, 1, none⟩ = some (.int .u64 a0_1) := hS_
          refine norm_ (a' := ?_) ?_ ?_
          rotate_left
          ·simp only [putAll, Act.put, List.setIfInBounds_toArray, List.set_cons_zero, List.set_cons_succ]
           rfl
          refine three_ (i := 7) (j := 8) (k := 9) (Ni := some 16) (Nj := some 5) (Nk := some 6) (ba 12 255) (ba 12 383) (ba 12 639) rfl rfl rfl rfl rfl rfl (three_of HT_.out (by kernel_rfl)) (by decide) (by decide) (by decide) (fun K hK => ?_) (fun K hK => ?_) (fun K hK => ?_)
          ·skip
           refine goes_ Try.func59 (by kernel_rfl) rfl #[.int .u64 a0_0, .int .u64 a1] (by rfl) rfl rfl am ?_
           with_reducible refine (wide_Mul.calls a0_0 a1 t117 t118 _ A4.out).mono ?_
           rintro e w12 ⟨rfl, hb⟩
           refine ⟨_, rfl, ?_⟩
           replace BK113 := Aside0.mk (bb BK113.out hb)
           replace BK114 := Aside0.mk (bb BK114.out hb)
           replace HB := Aside0.mk (below_step (bl2 HB.out GE113.out GE114.out) hb)
           (try clear hb)
           (try clear hb2)
           (try clear hk)
           (try clear hi)
           refine hK.out _ _ ⟨(blk_cell BK113.out 0).trans rfl, (blk_cell BK113.out 1).trans rfl⟩ (fun hHeld => ?_)
           clear hK K
           refine norm_ (a' := ?_) ?_ ?_
           rotate_left
           ·show Act.put _ (some 16) _ = _
            simp only [Act.put, List.setIfInBounds_toArray, List.set_cons_zero, List.set_cons_succ, i64_w, i32_w]
            rfl
           exact norm_ (by first | (simp only [putAll, Act.put, List.setIfInBounds_toArray, List.set_cons_zero, List.set_cons_succ]; done) | (simp only [putAll, Act.put, List.setIfInBounds_toArray, List.set_cons_zero, List.set_cons_succ]; rfl)) (hJ3_7 () _ ⟨hHeld, (bk BK113.out), (bk BK114.out), (bl2 HB.out GE113.out GE114.out)⟩)
          ·skip
           refine box_step ?hg (N := 5) ?hd (cs := #[.int .u64 0, .int .u64 0]) (t := 49) ?hr ?_; (case hd => rfl); (case hg => rfl); (case hr => first | (go_simp; done) | (go_simp; rfl))
           intro gb119 hg w12 hbox hb
           have BK119 := Aside0.mk (hbox)
           have GW119 := Aside0.mk ((by rw [hg]; exact (below_size (bl2 HB.out GE113.out GE114.out)) : w.heap.size ≤ gb119))
           have GE119 := Aside0.mk ((by rw [hg]; exact (below_size (bl2 HB.out GE113.out GE114.out)) : w.heap.size ≤ gb119))
           have NB113_119 := Aside0.mk ((by rw [hg]; exact Nat.ne_of_lt (lt_ BK113.out) : gb113 ≠ gb119))
           have NB119_113 := Aside0.mk ((by rw [hg]; exact Nat.ne_of_gt (lt_ BK113.out) : gb119 ≠ gb113))
           have NB114_119 := Aside0.mk ((by rw [hg]; exact Nat.ne_of_lt (lt_ BK114.out) : gb114 ≠ gb119))
           have NB119_114 := Aside0.mk ((by rw [hg]; exact Nat.ne_of_gt (lt_ BK114.out) : gb119 ≠ gb114))
           replace BK113 := Aside0.mk (bb BK113.out hb)
           replace BK114 := Aside0.mk (bb BK114.out hb)
           replace HB := Aside0.mk (below_step (bl2 HB.out GE113.out GE114.out) hb)
           clear hb hbox hg
           refine hK.out _ _ ⟨(blk_cell BK113.out 0).trans rfl, (blk_cell BK113.out 1).trans rfl⟩ (fun hHeld => ?_)
           clear hK K
           refine norm_ (a' := ?_) ?_ ?_
           rotate_left
           ·show Act.put _ (some 5) _ = _
            simp only [Act.put, List.setIfInBounds_toArray, List.set_cons_zero, List.set_cons_succ, i64_w, i32_w]
            rfl
           exact norm_ (by first | (simp only [putAll, Act.put, List.setIfInBounds_toArray, List.set_cons_zero, List.set_cons_succ]; done) | (simp only [putAll, Act.put, List.setIfInBounds_toArray, List.set_cons_zero, List.set_cons_succ]; rfl)) (hJ3_8 (gb119) _ ⟨hHeld, (bk BK113.out), (bk BK114.out), (bk BK119.out), GW119.out, GE119.out, NB113_119.out, NB119_113.out, NB114_119.out, NB119_114.out, (bl3 HB.out GE113.out GE114.out GE119.out)⟩)
          ·skip
           refine box_step ?hg (N := 6) ?hd (cs := #[.int .u64 0, .int .u64 0]) (t := 49) ?hr ?_; (case hd => rfl); (case hg => rfl); (case hr => first | (go_simp; done) | (go_simp; rfl))
           intro gb120 hg w12 hbox hb
           have BK120 := Aside0.mk (hbox)
           have GW120 := Aside0.mk ((by rw [hg]; exact (below_size (bl2 HB.out GE113.out GE114.out)) : w.heap.size ≤ gb120))
           have GE120 := Aside0.mk ((by rw [hg]; exact (below_size (bl2 HB.out GE113.out GE114.out)) : w.heap.size ≤ gb120))
           have NB113_120 := Aside0.mk ((by rw [hg]; exact Nat.ne_of_lt (lt_ BK113.out) : gb113 ≠ gb120))
           have NB120_113 := Aside0.mk ((by rw [hg]; exact Nat.ne_of_gt (lt_ BK113.out) : gb120 ≠ gb113))
           have NB114_120 := Aside0.mk ((by rw [hg]; exact Nat.ne_of_lt (lt_ BK114.out) : gb114 ≠ gb120))
           have NB120_114 := Aside0.mk ((by rw [hg]; exact Nat.ne_of_gt (lt_ BK114.out) : gb120 ≠ gb114))
           replace BK113 := Aside0.mk (bb BK113.out hb)
           replace BK114 := Aside0.mk (bb BK114.out hb)
           replace HB := Aside0.mk (below_step (bl2 HB.out GE113.out GE114.out) hb)
           clear hb hbox hg
           refine hK.out _ _ ⟨(blk_cell BK113.out 0).trans rfl, (blk_cell BK113.out 1).trans rfl⟩ (fun hHeld => ?_)
           clear hK K
           refine norm_ (a' := ?_) ?_ ?_
           rotate_left
           ·show Act.put _ (some 6) _ = _
            simp only [Act.put, List.setIfInBounds_toArray, List.set_cons_zero, List.set_cons_succ, i64_w, i32_w]
            rfl
           exact norm_ (by first | (simp only [putAll, Act.put, List.setIfInBounds_toArray, List.set_cons_zero, List.set_cons_succ]; done) | (simp only [putAll, Act.put, List.setIfInBounds_toArray, List.set_cons_zero, List.set_cons_succ]; rfl)) (hJ3_9 (gb120) _ ⟨hHeld, (bk BK113.out), (bk BK114.out), (bk BK120.out), GW120.out, GE120.out, NB113_120.out, NB120_113.out, NB114_120.out, NB120_114.out, (bl3 HB.out GE113.out GE114.out GE120.out)⟩)
        ·skip
         rintro ⟨gb119, gb120⟩ w12 ⟨hS_, h0_, h1_, h2_, h3_, h4_, h5_, h6_, h7_, h8_, h9_, h10_, h11_, h12_, h13_, h14_, h15_, h16_, h17_, h18_⟩
         have BK119 : Aside0 (w12.heap[gb119]? = some (.cells #[.int .u64 0, .int .u64 0] 49 (0, 0))) := ⟨h2_⟩
         have BK120 : Aside0 (w12.heap[gb120]? = some (.cells #[.int .u64 0, .int .u64 0] 49 (0, 0))) := ⟨h3_⟩
         have GW119 : Aside0 (w.heap.size ≤ gb119) := ⟨h4_⟩
         have GE119 : Aside0 (w.heap.size ≤ gb119) := ⟨h5_⟩
         have NB113_119 : Aside0 (gb113 ≠ gb119) := ⟨h6_⟩
         have NB119_113 : Aside0 (gb119 ≠ gb113) := ⟨h7_⟩
         have NB114_119 : Aside0 (gb114 ≠ gb119) := ⟨h8_⟩
         have NB119_114 : Aside0 (gb119 ≠ gb114) := ⟨h9_⟩
         have NB120_119 : Aside0 (gb120 ≠ gb119) := ⟨h10_⟩
         have NB119_120 : Aside0 (gb119 ≠ gb120) := ⟨h11_⟩
         have GW120 : Aside0 (w.heap.size ≤ gb120) := ⟨h12_⟩
         have GE120 : Aside0 (w.heap.size ≤ gb120) := ⟨h13_⟩
         have NB113_120 : Aside0 (gb113 ≠ gb120) := ⟨h14_⟩
         have NB120_113 : Aside0 (gb120 ≠ gb113) := ⟨h15_⟩
         have NB114_120 : Aside0 (gb114 ≠ gb120) := ⟨h16_⟩
         have NB120_114 : Aside0 (gb120 ≠ gb114) := ⟨h17_⟩
         replace BK113 : Aside0 (w12.heap[gb113]? = some (.cells #[.int .u64 a0_0, .int .u64 a0_1] 49 (0, 0))) := ⟨h0_⟩
         replace BK114 : Aside0 (w12.heap[gb114]? = some (.cells #[.int .u64 0, .int .u64 0, .int .u64 0] 102 (0, 0))) := ⟨h1_⟩
         replace HB : Aside0 (Below w.heap.size w w12) := ⟨h18_⟩
         clear h0_ h1_ h2_ h3_ h4_ h5_ h6_ h7_ h8_ h9_ h10_ h11_ h12_ h13_ h14_ h15_ h16_ h17_ h18_
         have hHeld : w12.cell? ⟨gb113, 0, none⟩ = some (.int .u64 a0_0) ∧ w12.cell? ⟨gb113, 1, none⟩ = some (.int .u64 a0_1) := hS_
         refine norm_ (a' := ?_) ?_ ?_
         rotate_left
         ·simp only [putAll, Act.put, List.setIfInBounds_toArray, List.set_cons_zero, List.set_cons_succ]
          rfl
         refine one_ (i := 3) (N := some 12) (ba 12 895) rfl rfl (one_of HT_.out (by kernel_rfl)) (by decide) (fun K hK => ?_)
         refine goes_ Try.func59 (by kernel_rfl) rfl #[.int .u64 a0_1, .int .u64 a1] (by rfl) rfl rfl am ?_
         with_reducible refine (wide_Mul.calls a0_1 a1 t115 t116 _ A3.out).mono ?_
         rintro e w13 ⟨rfl, hb⟩
         refine ⟨_, rfl, ?_⟩
         replace BK113 := Aside0.mk (bb BK113.out hb)
         replace BK114 := Aside0.mk (bb BK114.out hb)
         replace BK119 := Aside0.mk (bb BK119.out hb)
         replace BK120 := Aside0.mk (bb BK120.out hb)
         replace HB := Aside0.mk (below_step (bl4 HB.out GE113.out GE114.out GE119.out GE120.out) hb)
         (try clear hb)
         (try clear hb2)
         (try clear hk)
         (try clear hi)
         refine hK.out _ _ ⟨(blk_cell BK113.out 0).trans rfl, (blk_cell BK113.out 1).trans rfl⟩ (fun hHeld => ?_)
         clear hK K
         refine norm_ (a' := ?_) ?_ ?_
         rotate_left
         ·show Act.put _ (some 12) _ = _
          simp only [Act.put, List.setIfInBounds_toArray, List.set_cons_zero, List.set_cons_succ, i64_w, i32_w]
          rfl
         exact norm_ (by first | (simp only [putAll, Act.put, List.setIfInBounds_toArray, List.set_cons_zero, List.set_cons_succ]; done) | (simp only [putAll, Act.put, List.setIfInBounds_toArray, List.set_cons_zero, List.set_cons_succ]; rfl)) (hJ3_8_9 (gb119, gb120) _ ⟨hHeld, (bk BK113.out), (bk BK114.out), (bk BK119.out), (bk BK120.out), GW119.out, GE119.out, NB113_119.out, NB119_113.out, NB114_119.out, NB119_114.out, NB120_119.out, NB119_120.out, GW120.out, GE120.out, NB113_120.out, NB120_113.out, NB114_120.out, NB120_114.out, (bl4 HB.out GE113.out GE114.out GE119.out GE120.out)⟩)
       ·skip
        rintro gb120 w12 ⟨hS_, h0_, h1_, h2_, h3_, h4_, h5_, h6_, h7_, h8_, h9_⟩
        have BK120 : Aside0 (w12.heap[gb120]? = some (.cells #[.int .u64 0, .int .u64 0] 49 (0, 0))) := ⟨h2_⟩
        have GW120 : Aside0 (w.heap.size ≤ gb120) := ⟨h3_⟩
        have GE120 : Aside0 (w.heap.size ≤ gb120) := ⟨h4_⟩
        have NB113_120 : Aside0 (gb113 ≠ gb120) := ⟨h5_⟩
        have NB120_113 : Aside0 (gb120 ≠ gb113) := ⟨h6_⟩
        have NB114_120 : Aside0 (gb114 ≠ gb120) := ⟨h7_⟩
        have NB120_114 : Aside0 (gb120 ≠ gb114) := ⟨h8_⟩
        replace BK113 : Aside0 (w12.heap[gb113]? = some (.cells #[.int .u64 a0_0, .int .u64 a0_1] 49 (0, 0))) := ⟨h0_⟩
        replace BK114 : Aside0 (w12.heap[gb114]? = some (.cells #[.int .u64 0, .int .u64 0, .int .u64 0] 102 (0, 0))) := ⟨h1_⟩
        replace HB : Aside0 (Below w.heap.size w w12) := ⟨h9_⟩
        clear h0_ h1_ h2_ h3_ h4_ h5_ h6_ h7_ h8_ h9_
        have hHeld : w12.cell? ⟨gb113, 0, none⟩ = some (.int .u64 a0_0) ∧ w12.cell? ⟨gb113, 1, none⟩ = some (.int .u64 a0_1) := hS_
        refine norm_ (a' := ?_) ?_ ?_
        rotate_left
        ·simp only [putAll, Act.put, List.setIfInBounds_toArray, List.set_cons_zero, List.set_cons_succ]
         rfl
        refine two_ (i := 7) (j := 8) (Ni := some 16) (Nj := some 5) (ba 12 767) (ba 12 895) rfl rfl rfl rfl (two_of HT_.out (by kernel_rfl)) (by decide) (by decide) (fun K hK => ?_) (fun K hK => ?_)
        ·skip
         refine goes_ Try.func59 (by kernel_rfl) rfl #[.int .u64 a0_0, .int .u64 a1] (by rfl) rfl rfl am ?_
         with_reducible refine (wide_Mul.calls a0_0 a1 t117 t118 _ A4.out).mono ?_
         rintro e w13 ⟨rfl, hb⟩
         refine ⟨_, rfl, ?_⟩
         replace BK113 := Aside0.mk (bb BK113.out hb)
         replace BK114 := Aside0.mk (bb BK114.out hb)
         replace BK120 := Aside0.mk (bb BK120.out hb)
         replace HB := Aside0.mk (below_step (bl3 HB.out GE113.out GE114.out GE120.out) hb)
         (try clear hb)
         (try clear hb2)
         (try clear hk)
         (try clear hi)
         refine hK.out _ _ ⟨(blk_cell BK113.out 0).trans rfl, (blk_cell BK113.out 1).trans rfl⟩ (fun hHeld => ?_)
         clear hK K
         refine norm_ (a' := ?_) ?_ ?_
         rotate_left
         ·show Act.put _ (some 16) _ = _
          simp only [Act.put, List.setIfInBounds_toArray, List.set_cons_zero, List.set_cons_succ, i64_w, i32_w]
          rfl
         exact norm_ (by first | (simp only [putAll, Act.put, List.setIfInBounds_toArray, List.set_cons_zero, List.set_cons_succ]; done) | (simp only [putAll, Act.put, List.setIfInBounds_toArray, List.set_cons_zero, List.set_cons_succ]; rfl)) (hJ3_7_9 (gb120) _ ⟨hHeld, (bk BK113.out), (bk BK114.out), (bk BK120.out), GW120.out, GE120.out, NB113_120.out, NB120_113.out, NB114_120.out, NB120_114.out, (bl3 HB.out GE113.out GE114.out GE120.out)⟩)
        ·skip
         refine box_step ?hg (N := 5) ?hd (cs := #[.int .u64 0, .int .u64 0]) (t := 49) ?hr ?_; (case hd => rfl); (case hg => rfl); (case hr => first | (go_simp; done) | (go_simp; rfl))
         intro gb119 hg w13 hbox hb
         have BK119 := Aside0.mk (hbox)
         have GW119 := Aside0.mk ((by rw [hg]; exact (below_size (bl3 HB.out GE113.out GE114.out GE120.out)) : w.heap.size ≤ gb119))
         have GE119 := Aside0.mk ((by rw [hg]; exact (below_size (bl3 HB.out GE113.out GE114.out GE120.out)) : w.heap.size ≤ gb119))
         have NB113_119 := Aside0.mk ((by rw [hg]; exact Nat.ne_of_lt (lt_ BK113.out) : gb113 ≠ gb119))
         have NB119_113 := Aside0.mk ((by rw [hg]; exact Nat.ne_of_gt (lt_ BK113.out) : gb119 ≠ gb113))
         have NB114_119 := Aside0.mk ((by rw [hg]; exact Nat.ne_of_lt (lt_ BK114.out) : gb114 ≠ gb119))
         have NB119_114 := Aside0.mk ((by rw [hg]; exact Nat.ne_of_gt (lt_ BK114.out) : gb119 ≠ gb114))
         have NB120_119 := Aside0.mk ((by rw [hg]; exact Nat.ne_of_lt (lt_ BK120.out) : gb120 ≠ gb119))
         have NB119_120 := Aside0.mk ((by rw [hg]; exact Nat.ne_of_gt (lt_ BK120.out) : gb119 ≠ gb120))
         replace BK113 := Aside0.mk (bb BK113.out hb)
         replace BK114 := Aside0.mk (bb BK114.out hb)
         replace BK120 := Aside0.mk (bb BK120.out hb)
         replace HB := Aside0.mk (below_step (bl3 HB.out GE113.out GE114.out GE120.out) hb)
         clear hb hbox hg
         refine hK.out _ _ ⟨(blk_cell BK113.out 0).trans rfl, (blk_cell BK113.out 1).trans rfl⟩ (fun hHeld => ?_)
         clear hK K
         refine norm_ (a' := ?_) ?_ ?_
         rotate_left
         ·show Act.put _ (some 5) _ = _
          simp only [Act.put, List.setIfInBounds_toArray, List.set_cons_zero, List.set_cons_succ, i64_w, i32_w]
          rfl
         exact norm_ (by first | (simp only [putAll, Act.put, List.setIfInBounds_toArray, List.set_cons_zero, List.set_cons_succ]; done) | (simp only [putAll, Act.put, List.setIfInBounds_toArray, List.set_cons_zero, List.set_cons_succ]; rfl)) (hJ3_8_9 (gb119, gb120) _ ⟨hHeld, (bk BK113.out), (bk BK114.out), (bk BK119.out), (bk BK120.out), GW119.out, GE119.out, NB113_119.out, NB119_113.out, NB114_119.out, NB119_114.out, NB120_119.out, NB119_120.out, GW120.out, GE120.out, NB113_120.out, NB120_113.out, NB114_120.out, NB120_114.out, (bl4 HB.out GE113.out GE114.out GE120.out GE119.out)⟩)
      ·skip
       rintro gb119 w12 ⟨hS_, h0_, h1_, h2_, h3_, h4_, h5_, h6_, h7_, h8_, h9_⟩
       have BK119 : Aside0 (w12.heap[gb119]? = some (.cells #[.int .u64 0, .int .u64 0] 49 (0, 0))) := ⟨h2_⟩
       have GW119 : Aside0 (w.heap.size ≤ gb119) := ⟨h3_⟩
       have GE119 : Aside0 (w.heap.size ≤ gb119) := ⟨h4_⟩
       have NB113_119 : Aside0 (gb113 ≠ gb119) := ⟨h5_⟩
       have NB119_113 : Aside0 (gb119 ≠ gb113) := ⟨h6_⟩
       have NB114_119 : Aside0 (gb114 ≠ gb119) := ⟨h7_⟩
       have NB119_114 : Aside0 (gb119 ≠ gb114) := ⟨h8_⟩
       replace BK113 : Aside0 (w12.heap[gb113]? = some (.cells #[.int .u64 a0_0, .int .u64 a0_1] 49 (0, 0))) := ⟨h0_⟩
       replace BK114 : Aside0 (w12.heap[gb114]? = some (.cells #[.int .u64 0, .int .u64 0, .int .u64 0] 102 (0, 0))) := ⟨h1_⟩
       replace HB : Aside0 (Below w.heap.size w w12) := ⟨h9_⟩
       clear h0_ h1_ h2_ h3_ h4_ h5_ h6_ h7_ h8_ h9_
       have hHeld : w12.cell? ⟨gb113, 0, none⟩ = some (.int .u64 a0_0) ∧ w12.cell? ⟨gb113, 1, none⟩ = some (.int .u64 a0_1) := hS_
       refine norm_ (a' := ?_) ?_ ?_
       rotate_left
       ·simp only [putAll, Act.put, List.setIfInBounds_toArray, List.set_cons_zero, List.set_cons_succ]
        rfl
       refine two_ (i := 7) (j := 9) (Ni := some 16) (Nj := some 6) (ba 12 511) (ba 12 895) rfl rfl rfl rfl (two_of HT_.out (by kernel_rfl)) (by decide) (by decide) (fun K hK => ?_) (fun K hK => ?_)
       ·skip
        refine goes_ Try.func59 (by kernel_rfl) rfl #[.int .u64 a0_0, .int .u64 a1] (by rfl) rfl rfl am ?_
        with_reducible refine (wide_Mul.calls a0_0 a1 t117 t118 _ A4.out).mono ?_
        rintro e w13 ⟨rfl, hb⟩
        refine ⟨_, rfl, ?_⟩
        replace BK113 := Aside0.mk (bb BK113.out hb)
        replace BK114 := Aside0.mk (bb BK114.out hb)
        replace BK119 := Aside0.mk (bb BK119.out hb)
        replace HB := Aside0.mk (below_step (bl3 HB.out GE113.out GE114.out GE119.out) hb)
        (try clear hb)
        (try clear hb2)
        (try clear hk)
        (try clear hi)
        refine hK.out _ _ ⟨(blk_cell BK113.out 0).trans rfl, (blk_cell BK113.out 1).trans rfl⟩ (fun hHeld => ?_)
        clear hK K
        refine norm_ (a' := ?_) ?_ ?_
        rotate_left
        ·show Act.put _ (some 16) _ = _
         simp only [Act.put, List.setIfInBounds_toArray, List.set_cons_zero, List.set_cons_succ, i64_w, i32_w]
         rfl
        exact norm_ (by first | (simp only [putAll, Act.put, List.setIfInBounds_toArray, List.set_cons_zero, List.set_cons_succ]; done) | (simp only [putAll, Act.put, List.setIfInBounds_toArray, List.set_cons_zero, List.set_cons_succ]; rfl)) (hJ3_7_8 (gb119) _ ⟨hHeld, (bk BK113.out), (bk BK114.out), (bk BK119.out), GW119.out, GE119.out, NB113_119.out, NB119_113.out, NB114_119.out, NB119_114.out, (bl3 HB.out GE113.out GE114.out GE119.out)⟩)
       ·skip
        refine box_step ?hg (N := 6) ?hd (cs := #[.int .u64 0, .int .u64 0]) (t := 49) ?hr ?_; (case hd => rfl); (case hg => rfl); (case hr => first | (go_simp; done) | (go_simp; rfl))
        intro gb120 hg w13 hbox hb
        have BK120 := Aside0.mk (hbox)
        have GW120 := Aside0.mk ((by rw [hg]; exact (below_size (bl3 HB.out GE113.out GE114.out GE119.out)) : w.heap.size ≤ gb120))
        have GE120 := Aside0.mk ((by rw [hg]; exact (below_size (bl3 HB.out GE113.out GE114.out GE119.out)) : w.heap.size ≤ gb120))
        have NB113_120 := Aside0.mk ((by rw [hg]; exact Nat.ne_of_lt (lt_ BK113.out) : gb113 ≠ gb120))
        have NB120_113 := Aside0.mk ((by rw [hg]; exact Nat.ne_of_gt (lt_ BK113.out) : gb120 ≠ gb113))
        have NB114_120 := Aside0.mk ((by rw [hg]; exact Nat.ne_of_lt (lt_ BK114.out) : gb114 ≠ gb120))
        have NB120_114 := Aside0.mk ((by rw [hg]; exact Nat.ne_of_gt (lt_ BK114.out) : gb120 ≠ gb114))
        have NB119_120 := Aside0.mk ((by rw [hg]; exact Nat.ne_of_lt (lt_ BK119.out) : gb119 ≠ gb120))
        have NB120_119 := Aside0.mk ((by rw [hg]; exact Nat.ne_of_gt (lt_ BK119.out) : gb120 ≠ gb119))
        replace BK113 := Aside0.mk (bb BK113.out hb)
        replace BK114 := Aside0.mk (bb BK114.out hb)
        replace BK119 := Aside0.mk (bb BK119.out hb)
        replace HB := Aside0.mk (below_step (bl3 HB.out GE113.out GE114.out GE119.out) hb)
        clear hb hbox hg
        refine hK.out _ _ ⟨(blk_cell BK113.out 0).trans rfl, (blk_cell BK113.out 1).trans rfl⟩ (fun hHeld => ?_)
        clear hK K
        refine norm_ (a' := ?_) ?_ ?_
        rotate_left
        ·show Act.put _ (some 6) _ = _
         simp only [Act.put, List.setIfInBounds_toArray, List.set_cons_zero, List.set_cons_succ, i64_w, i32_w]
         rfl
        exact norm_ (by first | (simp only [putAll, Act.put, List.setIfInBounds_toArray, List.set_cons_zero, List.set_cons_succ]; done) | (simp only [putAll, Act.put, List.setIfInBounds_toArray, List.set_cons_zero, List.set_cons_succ]; rfl)) (hJ3_8_9 (gb119, gb120) _ ⟨hHeld, (bk BK113.out), (bk BK114.out), (bk BK119.out), (bk BK120.out), GW119.out, GE119.out, NB113_119.out, NB119_113.out, NB114_119.out, NB119_114.out, NB120_119.out, NB119_120.out, GW120.out, GE120.out, NB113_120.out, NB120_113.out, NB114_120.out, NB120_114.out, (bl4 HB.out GE113.out GE114.out GE119.out GE120.out)⟩)
     ·skip
      rintro _ w12 ⟨hS_, h0_, h1_, h2_⟩
      replace BK113 : Aside0 (w12.heap[gb113]? = some (.cells #[.int .u64 a0_0, .int .u64 a0_1] 49 (0, 0))) := ⟨h0_⟩
      replace BK114 : Aside0 (w12.heap[gb114]? = some (.cells #[.int .u64 0, .int .u64 0, .int .u64 0] 102 (0, 0))) := ⟨h1_⟩
      replace HB : Aside0 (Below w.heap.size w w12) := ⟨h2_⟩
      clear h0_ h1_ h2_
      have hHeld : w12.cell? ⟨gb113, 0, none⟩ = some (.int .u64 a0_0) ∧ w12.cell? ⟨gb113, 1, none⟩ = some (.int .u64 a0_1) := hS_
      refine norm_ (a' := ?_) ?_ ?_
      rotate_left
      ·simp only [putAll, Act.put, List.setIfInBounds_toArray, List.set_cons_zero, List.set_cons_succ]
       rfl
      refine two_ (i := 8) (j := 9) (Ni := some 5) (Nj := some 6) (ba 12 511) (ba 12 767) rfl rfl rfl rfl (two_of HT_.out (by kernel_rfl)) (by decide) (by decide) (fun K hK => ?_) (fun K hK => ?_)
      ·skip
       refine box_step ?hg (N := 5) ?hd (cs := #[.int .u64 0, .int .u64 0]) (t := 49) ?hr ?_; (case hd => rfl); (case hg => rfl); (case hr => first | (go_simp; done) | (go_simp; rfl))
       intro gb119 hg w13 hbox hb
       have BK119 := Aside0.mk (hbox)
       have GW119 := Aside0.mk ((by rw [hg]; exact (below_size (bl2 HB.out GE113.out GE114.out)) : w.heap.size ≤ gb119))
       have GE119 := Aside0.mk ((by rw [hg]; exact (below_size (bl2 HB.out GE113.out GE114.out)) : w.heap.size ≤ gb119))
       have NB113_119 := Aside0.mk ((by rw [hg]; exact Nat.ne_of_lt (lt_ BK113.out) : gb113 ≠ gb119))
       have NB119_113 := Aside0.mk ((by rw [hg]; exact Nat.ne_of_gt (lt_ BK113.out) : gb119 ≠ gb113))
       have NB114_119 := Aside0.mk ((by rw [hg]; exact Nat.ne_of_lt (lt_ BK114.out) : gb114 ≠ gb119))
       have NB119_114 := Aside0.mk ((by rw [hg]; exact Nat.ne_of_gt (lt_ BK114.out) : gb119 ≠ gb114))
       replace BK113 := Aside0.mk (bb BK113.out hb)
       replace BK114 := Aside0.mk (bb BK114.out hb)
       replace HB := Aside0.mk (below_step (bl2 HB.out GE113.out GE114.out) hb)
       clear hb hbox hg
       refine hK.out _ _ ⟨(blk_cell BK113.out 0).trans rfl, (blk_cell BK113.out 1).trans rfl⟩ (fun hHeld => ?_)
       clear hK K
       refine norm_ (a' := ?_) ?_ ?_
       rotate_left
       ·show Act.put _ (some 5) _ = _
        simp only [Act.put, List.setIfInBounds_toArray, List.set_cons_zero, List.set_cons_succ, i64_w, i32_w]
        rfl
       exact norm_ (by first | (simp only [putAll, Act.put, List.setIfInBounds_toArray, List.set_cons_zero, List.set_cons_succ]; done) | (simp only [putAll, Act.put, List.setIfInBounds_toArray, List.set_cons_zero, List.set_cons_succ]; rfl)) (hJ3_7_8 (gb119) _ ⟨hHeld, (bk BK113.out), (bk BK114.out), (bk BK119.out), GW119.out, GE119.out, NB113_119.out, NB119_113.out, NB114_119.out, NB119_114.out, (bl3 HB.out GE113.out GE114.out GE119.out)⟩)
      ·skip
       refine box_step ?hg (N := 6) ?hd (cs := #[.int .u64 0, .int .u64 0]) (t := 49) ?hr ?_; (case hd => rfl); (case hg => rfl); (case hr => first | (go_simp; done) | (go_simp; rfl))
       intro gb120 hg w13 hbox hb
       have BK120 := Aside0.mk (hbox)
       have GW120 := Aside0.mk ((by rw [hg]; exact (below_size (bl2 HB.out GE113.out GE114.out)) : w.heap.size ≤ gb120))
       have GE120 := Aside0.mk ((by rw [hg]; exact (below_size (bl2 HB.out GE113.out GE114.out)) : w.heap.size ≤ gb120))
       have NB113_120 := Aside0.mk ((by rw [hg]; exact Nat.ne_of_lt (lt_ BK113.out) : gb113 ≠ gb120))
       have NB120_113 := Aside0.mk ((by rw [hg]; exact Nat.ne_of_gt (lt_ BK113.out) : gb120 ≠ gb113))
       have NB114_120 := Aside0.mk ((by rw [hg]; exact Nat.ne_of_lt (lt_ BK114.out) : gb114 ≠ gb120))
       have NB120_114 := Aside0.mk ((by rw [hg]; exact Nat.ne_of_gt (lt_ BK114.out) : gb120 ≠ gb114))
       replace BK113 := Aside0.mk (bb BK113.out hb)
       replace BK114 := Aside0.mk (bb BK114.out hb)
       replace HB := Aside0.mk (below_step (bl2 HB.out GE113.out GE114.out) hb)
       clear hb hbox hg
       refine hK.out _ _ ⟨(blk_cell BK113.out 0).trans rfl, (blk_cell BK113.out 1).trans rfl⟩ (fun hHeld => ?_)
       clear hK K
       refine norm_ (a' := ?_) ?_ ?_
       rotate_left
       ·show Act.put _ (some 6) _ = _
        simp only [Act.put, List.setIfInBounds_toArray, List.set_cons_zero, List.set_cons_succ, i64_w, i32_w]
        rfl
       exact norm_ (by first | (simp only [putAll, Act.put, List.setIfInBounds_toArray, List.set_cons_zero, List.set_cons_succ]; done) | (simp only [putAll, Act.put, List.setIfInBounds_toArray, List.set_cons_zero, List.set_cons_succ]; rfl)) (hJ3_7_9 (gb120) _ ⟨hHeld, (bk BK113.out), (bk BK114.out), (bk BK120.out), GW120.out, GE120.out, NB113_120.out, NB120_113.out, NB114_120.out, NB120_114.out, (bl3 HB.out GE113.out GE114.out GE120.out)⟩)
    ·skip
     rintro ⟨gb119, gb120⟩ w13 ⟨hS_, h0_, h1_, h2_, h3_, h4_, h5_, h6_, h7_, h8_, h9_, h10_, h11_, h12_, h13_, h14_, h15_, h16_, h17_, h18_⟩
     have BK119 : Aside0 (w13.heap[gb119]? = some (.cells #[.int .u64 0, .int .u64 0] 49 (0, 0))) := ⟨h2_⟩
     have BK120 : Aside0 (w13.heap[gb120]? = some (.cells #[.int .u64 0, .int .u64 0] 49 (0, 0))) := ⟨h3_⟩
     have GW119 : Aside0 (w.heap.size ≤ gb119) := ⟨h4_⟩
     have GE119 : Aside0 (w.heap.size ≤ gb119) := ⟨h5_⟩
     have NB113_119 : Aside0 (gb113 ≠ gb119) := ⟨h6_⟩
     have NB119_113 : Aside0 (gb119 ≠ gb113) := ⟨h7_⟩
     have NB114_119 : Aside0 (gb114 ≠ gb119) := ⟨h8_⟩
     have NB119_114 : Aside0 (gb119 ≠ gb114) := ⟨h9_⟩
     have NB120_119 : Aside0 (gb120 ≠ gb119) := ⟨h10_⟩
     have NB119_120 : Aside0 (gb119 ≠ gb120) := ⟨h11_⟩
     have GW120 : Aside0 (w.heap.size ≤ gb120) := ⟨h12_⟩
     have GE120 : Aside0 (w.heap.size ≤ gb120) := ⟨h13_⟩
     have NB113_120 : Aside0 (gb113 ≠ gb120) := ⟨h14_⟩
     have NB120_113 : Aside0 (gb120 ≠ gb113) := ⟨h15_⟩
     have NB114_120 : Aside0 (gb114 ≠ gb120) := ⟨h16_⟩
     have NB120_114 : Aside0 (gb120 ≠ gb114) := ⟨h17_⟩
     replace BK113 : Aside0 (w13.heap[gb113]? = some (.cells #[.int .u64 a0_0, .int .u64 a0_1] 49 (0, 0))) := ⟨h0_⟩
     replace BK114 : Aside0 (w13.heap[gb114]? = some (.cells #[.int .u64 0, .int .u64 0, .int .u64 0] 102 (0, 0))) := ⟨h1_⟩
     replace HB : Aside0 (Below w.heap.size w w13) := ⟨h18_⟩
     clear h0_ h1_ h2_ h3_ h4_ h5_ h6_ h7_ h8_ h9_ h10_ h11_ h12_ h13_ h14_ h15_ h16_ h17_ h18_
     have hHeld : w13.cell? ⟨gb113, 0, none⟩ = some (.int .u64 a0_0) ∧ w13.cell? ⟨gb113, 1, none⟩ = some (.int .u64 a0_1) := hS_
     refine norm_ (a' := ?_) ?_ ?_
     rotate_left
     ·simp only [putAll, Act.put, List.setIfInBounds_toArray, List.set_cons_zero, List.set_cons_succ]
      rfl
     refine one_ (i := 7) (N := some 16) (ba 12 1023) rfl rfl (one_of HT_.out (by kernel_rfl)) (by decide) (fun K hK => ?_)
     refine goes_ Try.func59 (by kernel_rfl) rfl #[.int .u64 a0_0, .int .u64 a1] (by rfl) rfl rfl am ?_
     with_reducible refine (wide_Mul.calls a0_0 a1 t117 t118 _ A4.out).mono ?_
     rintro e w14 ⟨rfl, hb⟩
     refine ⟨_, rfl, ?_⟩
     replace BK113 := Aside0.mk (bb BK113.out hb)
     replace BK114 := Aside0.mk (bb BK114.out hb)
     replace BK119 := Aside0.mk (bb BK119.out hb)
     replace BK120 := Aside0.mk (bb BK120.out hb)
     replace HB := Aside0.mk (below_step (bl4 HB.out GE113.out GE114.out GE119.out GE120.out) hb)
     (try clear hb)
     (try clear hb2)
     (try clear hk)
     (try clear hi)
     refine hK.out _ _ ⟨(blk_cell BK113.out 0).trans rfl, (blk_cell BK113.out 1).trans rfl⟩ (fun hHeld => ?_)
     clear hK K
     refine norm_ (a' := ?_) ?_ ?_
     rotate_left
     ·show Act.put _ (some 16) _ = _
      simp only [Act.put, List.setIfInBounds_toArray, List.set_cons_zero, List.set_cons_succ, i64_w, i32_w]
      rfl
     exact norm_ (by first | (simp only [putAll, Act.put, List.setIfInBounds_toArray, List.set_cons_zero, List.set_cons_succ]; done) | (simp only [putAll, Act.put, List.setIfInBounds_toArray, List.set_cons_zero, List.set_cons_succ]; rfl)) (hJ3_7_8_9 (gb119, gb120) _ ⟨hHeld, (bk BK113.out), (bk BK114.out), (bk BK119.out), (bk BK120.out), GW119.out, GE119.out, NB113_119.out, NB119_113.out, NB114_119.out, NB119_114.out, NB120_119.out, NB119_120.out, GW120.out, GE120.out, NB113_120.out, NB120_113.out, NB114_120.out, NB120_114.out, (bl4 HB.out GE113.out GE114.out GE119.out GE120.out)⟩)
   ·skip
    rintro gb120 w13 ⟨hS_, h0_, h1_, h2_, h3_, h4_, h5_, h6_, h7_, h8_, h9_⟩
    have BK120 : Aside0 (w13.heap[gb120]? = some (.cells #[.int .u64 0, .int .u64 0] 49 (0, 0))) := ⟨h2_⟩
    have GW120 : Aside0 (w.heap.size ≤ gb120) := ⟨h3_⟩
    have GE120 : Aside0 (w.heap.size ≤ gb120) := ⟨h4_⟩
    have NB113_120 : Aside0 (gb113 ≠ gb120) := ⟨h5_⟩
    have NB120_113 : Aside0 (gb120 ≠ gb113) := ⟨h6_⟩
    have NB114_120 : Aside0 (gb114 ≠ gb120) := ⟨h7_⟩
    have NB120_114 : Aside0 (gb120 ≠ gb114) := ⟨h8_⟩
    replace BK113 : Aside0 (w13.heap[gb113]? = some (.cells #[.int .u64 a0_0, .int .u64 a0_1] 49 (0, 0))) := ⟨h0_⟩
    replace BK114 : Aside0 (w13.heap[gb114]? = some (.cells #[.int .u64 0, .int .u64 0, .int .u64 0] 102 (0, 0))) := ⟨h1_⟩
    replace HB : Aside0 (Below w.heap.size w w13) := ⟨h9_⟩
    clear h0_ h1_ h2_ h3_ h4_ h5_ h6_ h7_ h8_ h9_
    have hHeld : w13.cell? ⟨gb113, 0, none⟩ = some (.int .u64 a0_0) ∧ w13.cell? ⟨gb113, 1, none⟩ = some (.int .u64 a0_1) := hS_
    refine norm_ (a' := ?_) ?_ ?_
    rotate_left
    ·simp only [putAll, Act.put, List.setIfInBounds_toArray, List.set_cons_zero, List.set_cons_succ]
     rfl
    refine one_ (i := 8) (N := some 5) (ba 12 1023) rfl rfl (one_of HT_.out (by kernel_rfl)) (by decide) (fun K hK => ?_)
    refine box_step ?hg (N := 5) ?hd (cs := #[.int .u64 0, .int .u64 0]) (t := 49) ?hr ?_; (case hd => rfl); (case hg => rfl); (case hr => first | (go_simp; done) | (go_simp; rfl))
    intro gb119 hg w14 hbox hb
    have BK119 := Aside0.mk (hbox)
    have GW119 := Aside0.mk ((by rw [hg]; exact (below_size (bl3 HB.out GE113.out GE114.out GE120.out)) : w.heap.size ≤ gb119))
    have GE119 := Aside0.mk ((by rw [hg]; exact (below_size (bl3 HB.out GE113.out GE114.out GE120.out)) : w.heap.size ≤ gb119))
    have NB113_119 := Aside0.mk ((by rw [hg]; exact Nat.ne_of_lt (lt_ BK113.out) : gb113 ≠ gb119))
    have NB119_113 := Aside0.mk ((by rw [hg]; exact Nat.ne_of_gt (lt_ BK113.out) : gb119 ≠ gb113))
    have NB114_119 := Aside0.mk ((by rw [hg]; exact Nat.ne_of_lt (lt_ BK114.out) : gb114 ≠ gb119))
    have NB119_114 := Aside0.mk ((by rw [hg]; exact Nat.ne_of_gt (lt_ BK114.out) : gb119 ≠ gb114))
    have NB120_119 := Aside0.mk ((by rw [hg]; exact Nat.ne_of_lt (lt_ BK120.out) : gb120 ≠ gb119))
    have NB119_120 := Aside0.mk ((by rw [hg]; exact Nat.ne_of_gt (lt_ BK120.out) : gb119 ≠ gb120))
    replace BK113 := Aside0.mk (bb BK113.out hb)
    replace BK114 := Aside0.mk (bb BK114.out hb)
    replace BK120 := Aside0.mk (bb BK120.out hb)
    replace HB := Aside0.mk (below_step (bl3 HB.out GE113.out GE114.out GE120.out) hb)
    clear hb hbox hg
    refine hK.out _ _ ⟨(blk_cell BK113.out 0).trans rfl, (blk_cell BK113.out 1).trans rfl⟩ (fun hHeld => ?_)
    clear hK K
    refine norm_ (a' := ?_) ?_ ?_
    rotate_left
    ·show Act.put _ (some 5) _ = _
     simp only [Act.put, List.setIfInBounds_toArray, List.set_cons_zero, List.set_cons_succ, i64_w, i32_w]
     rfl
    exact norm_ (by first | (simp only [putAll, Act.put, List.setIfInBounds_toArray, List.set_cons_zero, List.set_cons_succ]; done) | (simp only [putAll, Act.put, List.setIfInBounds_toArray, List.set_cons_zero, List.set_cons_succ]; rfl)) (hJ3_7_8_9 (gb119, gb120) _ ⟨hHeld, (bk BK113.out), (bk BK114.out), (bk BK119.out), (bk BK120.out), GW119.out, GE119.out, NB113_119.out, NB119_113.out, NB114_119.out, NB119_114.out, NB120_119.out, NB119_120.out, GW120.out, GE120.out, NB113_120.out, NB120_113.out, NB114_120.out, NB120_114.out, (bl4 HB.out GE113.out GE114.out GE120.out GE119.out)⟩)
  ·skip
   rintro gb119 w13 ⟨hS_, h0_, h1_, h2_, h3_, h4_, h5_, h6_, h7_, h8_, h9_⟩
   have BK119 : Aside0 (w13.heap[gb119]? = some (.cells #[.int .u64 0, .int .u64 0] 49 (0, 0))) := ⟨h2_⟩
   have GW119 : Aside0 (w.heap.size ≤ gb119) := ⟨h3_⟩
   have GE119 : Aside0 (w.heap.size ≤ gb119) := ⟨h4_⟩
   have NB113_119 : Aside0 (gb113 ≠ gb119) := ⟨h5_⟩
   have NB119_113 : Aside0 (gb119 ≠ gb113) := ⟨h6_⟩
   have NB114_119 : Aside0 (gb114 ≠ gb119) := ⟨h7_⟩
   have NB119_114 : Aside0 (gb119 ≠ gb114) := ⟨h8_⟩
   replace BK113 : Aside0 (w13.heap[gb113]? = some (.cells #[.int .u64 a0_0, .int .u64 a0_1] 49 (0, 0))) := ⟨h0_⟩
   replace BK114 : Aside0 (w13.heap[gb114]? = some (.cells #[.int .u64 0, .int .u64 0, .int .u64 0] 102 (0, 0))) := ⟨h1_⟩
   replace HB : Aside0 (Below w.heap.size w w13) := ⟨h9_⟩
   clear h0_ h1_ h2_ h3_ h4_ h5_ h6_ h7_ h8_ h9_
   have hHeld : w13.cell? ⟨gb113, 0, none⟩ = some (.int .u64 a0_0) ∧ w13.cell? ⟨gb113, 1, none⟩ = some (.int .u64 a0_1) := hS_
   refine norm_ (a' := ?_) ?_ ?_
   rotate_left
   ·simp only [putAll, Act.put, List.setIfInBounds_toArray, List.set_cons_zero, List.set_cons_succ]
    rfl
   refine one_ (i := 9) (N := some 6) (ba 12 1023) rfl rfl (one_of HT_.out (by kernel_rfl)) (by decide) (fun K hK => ?_)
   refine box_step ?hg (N := 6) ?hd (cs := #[.int .u64 0, .int .u64 0]) (t := 49) ?hr ?_; (case hd => rfl); (case hg => rfl); (case hr => first | (go_simp; done) | (go_simp; rfl))
   intro gb120 hg w14 hbox hb
   have BK120 := Aside0.mk (hbox)
   have GW120 := Aside0.mk ((by rw [hg]; exact (below_size (bl3 HB.out GE113.out GE114.out GE119.out)) : w.heap.size ≤ gb120))
   have GE120 := Aside0.mk ((by rw [hg]; exact (below_size (bl3 HB.out GE113.out GE114.out GE119.out)) : w.heap.size ≤ gb120))
   have NB113_120 := Aside0.mk ((by rw [hg]; exact Nat.ne_of_lt (lt_ BK113.out) : gb113 ≠ gb120))
   have NB120_113 := Aside0.mk ((by rw [hg]; exact Nat.ne_of_gt (lt_ BK113.out) : gb120 ≠ gb113))
   have NB114_120 := Aside0.mk ((by rw [hg]; exact Nat.ne_of_lt (lt_ BK114.out) : gb114 ≠ gb120))
   have NB120_114 := Aside0.mk ((by rw [hg]; exact Nat.ne_of_gt (lt_ BK114.out) : gb120 ≠ gb114))
   have NB119_120 := Aside0.mk ((by rw [hg]; exact Nat.ne_of_lt (lt_ BK119.out) : gb119 ≠ gb120))
   have NB120_119 := Aside0.mk ((by rw [hg]; exact Nat.ne_of_gt (lt_ BK119.out) : gb120 ≠ gb119))
   replace BK113 := Aside0.mk (bb BK113.out hb)
   replace BK114 := Aside0.mk (bb BK114.out hb)
   replace BK119 := Aside0.mk (bb BK119.out hb)
   replace HB := Aside0.mk (below_step (bl3 HB.out GE113.out GE114.out GE119.out) hb)
   clear hb hbox hg
   refine hK.out _ _ ⟨(blk_cell BK113.out 0).trans rfl, (blk_cell BK113.out 1).trans rfl⟩ (fun hHeld => ?_)
   clear hK K
   refine norm_ (a' := ?_) ?_ ?_
   rotate_left
   ·show Act.put _ (some 6) _ = _
    simp only [Act.put, List.setIfInBounds_toArray, List.set_cons_zero, List.set_cons_succ, i64_w, i32_w]
    rfl
   exact norm_ (by first | (simp only [putAll, Act.put, List.setIfInBounds_toArray, List.set_cons_zero, List.set_cons_succ]; done) | (simp only [putAll, Act.put, List.setIfInBounds_toArray, List.set_cons_zero, List.set_cons_succ]; rfl)) (hJ3_7_8_9 (gb119, gb120) _ ⟨hHeld, (bk BK113.out), (bk BK114.out), (bk BK119.out), (bk BK120.out), GW119.out, GE119.out, NB113_119.out, NB119_113.out, NB114_119.out, NB119_114.out, NB120_119.out, NB119_120.out, GW120.out, GE120.out, NB113_120.out, NB120_113.out, NB114_120.out, NB120_114.out, (bl4 HB.out GE113.out GE114.out GE119.out GE120.out)⟩)
 rintro ⟨gb119, gb120⟩ w14 ⟨hS_, h0_, h1_, h2_, h3_, h4_, h5_, h6_, h7_, h8_, h9_, h10_, h11_, h12_, h13_, h14_, h15_, h16_, h17_, h18_⟩
 have BK119 : Aside0 (w14.heap[gb119]? = some (.cells #[.int .u64 0, .int .u64 0] 49 (0, 0))) := ⟨h2_⟩
 have BK120 : Aside0 (w14.heap[gb120]? = some (.cells #[.int .u64 0, .int .u64 0] 49 (0, 0))) := ⟨h3_⟩
 have GW119 : Aside0 (w.heap.size ≤ gb119) := ⟨h4_⟩
 have GE119 : Aside0 (w.heap.size ≤ gb119) := ⟨h5_⟩
 have NB113_119 : Aside0 (gb113 ≠ gb119) := ⟨h6_⟩
 have NB119_113 : Aside0 (gb119 ≠ gb113) := ⟨h7_⟩
 have NB114_119 : Aside0 (gb114 ≠ gb119) := ⟨h8_⟩
 have NB119_114 : Aside0 (gb119 ≠ gb114) := ⟨h9_⟩
 have NB120_119 : Aside0 (gb120 ≠ gb119) := ⟨h10_⟩
 have NB119_120 : Aside0 (gb119 ≠ gb120) := ⟨h11_⟩
 have GW120 : Aside0 (w.heap.size ≤ gb120) := ⟨h12_⟩
 have GE120 : Aside0 (w.heap.size ≤ gb120) := ⟨h13_⟩
 have NB113_120 : Aside0 (gb113 ≠ gb120) := ⟨h14_⟩
 have NB120_113 : Aside0 (gb120 ≠ gb113) := ⟨h15_⟩
 have NB114_120 : Aside0 (gb114 ≠ gb120) := ⟨h16_⟩
 have NB120_114 : Aside0 (gb120 ≠ gb114) := ⟨h17_⟩
 replace BK113 : Aside0 (w14.heap[gb113]? = some (.cells #[.int .u64 a0_0, .int .u64 a0_1] 49 (0, 0))) := ⟨h0_⟩
 replace BK114 : Aside0 (w14.heap[gb114]? = some (.cells #[.int .u64 0, .int .u64 0, .int .u64 0] 102 (0, 0))) := ⟨h1_⟩
 replace HB : Aside0 (Below w.heap.size w w14) := ⟨h18_⟩
 clear h0_ h1_ h2_ h3_ h4_ h5_ h6_ h7_ h8_ h9_ h10_ h11_ h12_ h13_ h14_ h15_ h16_ h17_ h18_
 have hHeld : w14.cell? ⟨gb113, 0, none⟩ = some (.int .u64 a0_0) ∧ w14.cell? ⟨gb113, 1, none⟩ = some (.int .u64 a0_1) := hS_
 refine norm_ (a' := ?_) ?_ ?_
 rotate_left
 ·simp only [putAll, Act.put, List.setIfInBounds_toArray, List.set_cons_zero, List.set_cons_succ]
  rfl
 refine one_ (i := 10) (N := none) (ba 12 2047) rfl rfl (one_of HT_.out (by kernel_rfl)) (by decide) (fun K hK => ?_)
 have hs15 : w14.cell? ⟨gb119, 0, none⟩ = some (.int .u64 0) := (blk_cell BK119.out 0).trans rfl
 have hfs15 := blk_frozen BK119.out 0
 have hns15_0 := NB113_119.out
 have hns15_1 := NB114_119.out
 have hns15_3 := NB120_119.out
 have hms15_0 := NB119_113.out
 have hms15_1 := NB119_114.out
 have hms15_3 := NB119_120.out
 have hs16 : w14.cell? ⟨gb119, 1, none⟩ = some (.int .u64 0) := (blk_cell BK119.out 1).trans rfl
 have hfs16 := blk_frozen BK119.out 1
 have hns16_0 := NB113_119.out
 have hns16_1 := NB114_119.out
 have hns16_3 := NB120_119.out
 have hms16_0 := NB119_113.out
 have hms16_1 := NB119_114.out
 have hms16_3 := NB119_120.out
 refine skip_ (w1 := ?_) (by rfl) rfl ?_ ?_
 rotate_left
 ·go_simp
  rfl
 refine hK.out _ _ ⟨((cell_far (p := ⟨gb119, _, none⟩) NB113_119.out _).trans (((cell_far (p := ⟨gb119, _, none⟩) NB113_119.out _).trans (hHeld.1)))), ((cell_far (p := ⟨gb119, _, none⟩) NB113_119.out _).trans (((cell_far (p := ⟨gb119, _, none⟩) NB113_119.out _).trans (hHeld.2))))⟩ (fun hHeld => ?_)
 clear hK K
 refine one_ (i := 11) (N := none) (ba 12 4095) rfl rfl (one_of HT_.out (by kernel_rfl)) (by decide) (fun K hK => ?_)
 have hs17 : w14.cell? ⟨gb120, 0, none⟩ = some (.int .u64 0) := (blk_cell BK120.out 0).trans rfl
 have hfs17 := blk_frozen BK120.out 0
 have hns17_0 := NB113_120.out
 have hns17_1 := NB114_120.out
 have hns17_2 := NB119_120.out
 have hms17_0 := NB120_113.out
 have hms17_1 := NB120_114.out
 have hms17_2 := NB120_119.out
 have hs18 : w14.cell? ⟨gb120, 1, none⟩ = some (.int .u64 0) := (blk_cell BK120.out 1).trans rfl
 have hfs18 := blk_frozen BK120.out 1
 have hns18_0 := NB113_120.out
 have hns18_1 := NB114_120.out
 have hns18_2 := NB119_120.out
 have hms18_0 := NB120_113.out
 have hms18_1 := NB120_114.out
 have hms18_2 := NB120_119.out
 refine skip_ (w1 := ?_) (by rfl) rfl ?_ ?_
 rotate_left
 ·go_simp
  rfl
 refine hK.out _ _ ⟨((cell_far (p := ⟨gb120, _, none⟩) NB113_120.out _).trans (((cell_far (p := ⟨gb120, _, none⟩) NB113_120.out _).trans (hHeld.1)))), ((cell_far (p := ⟨gb120, _, none⟩) NB113_120.out _).trans (((cell_far (p := ⟨gb120, _, none⟩) NB113_120.out _).trans (hHeld.2))))⟩ (fun hHeld => ?_)
 clear hK K
 refine done_ (done_of HT_.out (by kernel_rfl)) ?_
 try go_wp2
 have n0_ : Aside0 (((((w14.setCell ⟨gb119, 0, none⟩ (.int .u64 t115)).setCell ⟨gb119, 1, none⟩ (.int .u64 t116)).setCell ⟨gb120, 0, none⟩ (.int .u64 t117)).setCell ⟨gb120, 1, none⟩ (.int .u64 t118)).heap[gb113]? = some (.cells #[.int .u64 a0_0, .int .u64 a0_1] 49 (0, 0))) := ⟨by (with_reducible repeat (first | refine blk_drewN ?_ _ | refine blk_drew ?_ | refine blk_alloc ?_ _)); refine blk_far ?_ NB113_120.out _; (with_reducible repeat (first | refine blk_drewN ?_ _ | refine blk_drew ?_ | refine blk_alloc ?_ _)); refine blk_far ?_ NB113_120.out _; (with_reducible repeat (first | refine blk_drewN ?_ _ | refine blk_drew ?_ | refine blk_alloc ?_ _)); refine blk_far ?_ NB113_119.out _; (with_reducible repeat (first | refine blk_drewN ?_ _ | refine blk_drew ?_ | refine blk_alloc ?_ _)); refine blk_far ?_ NB113_119.out _; (with_reducible repeat (first | refine blk_drewN ?_ _ | refine blk_drew ?_ | refine blk_alloc ?_ _)); exact BK113.out⟩
 have n1_ : Aside0 (((((w14.setCell ⟨gb119, 0, none⟩ (.int .u64 t115)).setCell ⟨gb119, 1, none⟩ (.int .u64 t116)).setCell ⟨gb120, 0, none⟩ (.int .u64 t117)).setCell ⟨gb120, 1, none⟩ (.int .u64 t118)).heap[gb114]? = some (.cells #[.int .u64 0, .int .u64 0, .int .u64 0] 102 (0, 0))) := ⟨by (with_reducible repeat (first | refine blk_drewN ?_ _ | refine blk_drew ?_ | refine blk_alloc ?_ _)); refine blk_far ?_ NB114_120.out _; (with_reducible repeat (first | refine blk_drewN ?_ _ | refine blk_drew ?_ | refine blk_alloc ?_ _)); refine blk_far ?_ NB114_120.out _; (with_reducible repeat (first | refine blk_drewN ?_ _ | refine blk_drew ?_ | refine blk_alloc ?_ _)); refine blk_far ?_ NB114_119.out _; (with_reducible repeat (first | refine blk_drewN ?_ _ | refine blk_drew ?_ | refine blk_alloc ?_ _)); refine blk_far ?_ NB114_119.out _; (with_reducible repeat (first | refine blk_drewN ?_ _ | refine blk_drew ?_ | refine blk_alloc ?_ _)); exact BK114.out⟩
 have n2_ : Aside0 (((((w14.setCell ⟨gb119, 0, none⟩ (.int .u64 t115)).setCell ⟨gb119, 1, none⟩ (.int .u64 t116)).setCell ⟨gb120, 0, none⟩ (.int .u64 t117)).setCell ⟨gb120, 1, none⟩ (.int .u64 t118)).heap[gb119]? = some (.cells #[.int .u64 t115, .int .u64 t116] 49 (0, 0))) := ⟨by (with_reducible repeat (first | refine blk_drewN ?_ _ | refine blk_drew ?_ | refine blk_alloc ?_ _)); refine blk_far ?_ NB119_120.out _; (with_reducible repeat (first | refine blk_drewN ?_ _ | refine blk_drew ?_ | refine blk_alloc ?_ _)); refine blk_far ?_ NB119_120.out _; (with_reducible repeat (first | refine blk_drewN ?_ _ | refine blk_drew ?_ | refine blk_alloc ?_ _)); refine blk_put (cs := #[.int .u64 t115, .int .u64 0]) ?_ 1 _ rfl; (with_reducible repeat (first | refine blk_drewN ?_ _ | refine blk_drew ?_ | refine blk_alloc ?_ _)); refine blk_put (cs := #[.int .u64 0, .int .u64 0]) ?_ 0 _ rfl; (with_reducible repeat (first | refine blk_drewN ?_ _ | refine blk_drew ?_ | refine blk_alloc ?_ _)); exact BK119.out⟩
 have n3_ : Aside0 (((((w14.setCell ⟨gb119, 0, none⟩ (.int .u64 t115)).setCell ⟨gb119, 1, none⟩ (.int .u64 t116)).setCell ⟨gb120, 0, none⟩ (.int .u64 t117)).setCell ⟨gb120, 1, none⟩ (.int .u64 t118)).heap[gb120]? = some (.cells #[.int .u64 t117, .int .u64 t118] 49 (0, 0))) := ⟨by (with_reducible repeat (first | refine blk_drewN ?_ _ | refine blk_drew ?_ | refine blk_alloc ?_ _)); refine blk_put (cs := #[.int .u64 t117, .int .u64 0]) ?_ 1 _ rfl; (with_reducible repeat (first | refine blk_drewN ?_ _ | refine blk_drew ?_ | refine blk_alloc ?_ _)); refine blk_put (cs := #[.int .u64 0, .int .u64 0]) ?_ 0 _ rfl; (with_reducible repeat (first | refine blk_drewN ?_ _ | refine blk_drew ?_ | refine blk_alloc ?_ _)); refine blk_far ?_ NB120_119.out _; (with_reducible repeat (first | refine blk_drewN ?_ _ | refine blk_drew ?_ | refine blk_alloc ?_ _)); refine blk_far ?_ NB120_119.out _; (with_reducible repeat (first | refine blk_drewN ?_ _ | refine blk_drew ?_ | refine blk_alloc ?_ _)); exact BK120.out⟩
 have n4_ : Aside0 (Below w.heap.size w ((((w14.setCell ⟨gb119, 0, none⟩ (.int .u64 t115)).setCell ⟨gb119, 1, none⟩ (.int .u64 t116)).setCell ⟨gb120, 0, none⟩ (.int .u64 t117)).setCell ⟨gb120, 1, none⟩ (.int .u64 t118))) := ⟨bl4 HB.out GE113.out GE114.out GE119.out GE120.out⟩
 (try clear BK113)
 (try clear BK114)
 (try clear BK119)
 (try clear BK120)
 (try clear HB)
 generalize ((((w14.setCell ⟨gb119, 0, none⟩ (.int .u64 t115)).setCell ⟨gb119, 1, none⟩ (.int .u64 t116)).setCell ⟨gb120, 0, none⟩ (.int .u64 t117)).setCell ⟨gb120, 1, none⟩ (.int .u64 t118)) = w19 at n0_ n1_ n2_ n3_ n4_ ⊢
 have BK113 := n0_
 have BK114 := n1_
 have BK119 := n2_
 have BK120 := n3_
 have HB := n4_
 clear n0_ n1_ n2_ n3_ n4_
 replace BK113 := Aside0.mk (blk_drew BK113.out)
 replace BK114 := Aside0.mk (blk_drew BK114.out)
 replace BK119 := Aside0.mk (blk_drew BK119.out)
 replace BK120 := Aside0.mk (blk_drew BK120.out)
 replace HB := Aside0.mk (below_drew1 HB.out)
 refine start_ (n := 11) (S := fun w' => w'.cell? ⟨gb119, 0, none⟩ = some (.int .u64 t115) ∧ w'.cell? ⟨gb119, 1, none⟩ = some (.int .u64 t116) ∧ w'.cell? ⟨gb120, 0, none⟩ = some (.int .u64 t117) ∧ w'.cell? ⟨gb120, 1, none⟩ = some (.int .u64 t118)) (ds := []) (ba 11 0) (by kernel_rfl) rfl rfl ⟨(blk_cell BK119.out 0).trans rfl, (blk_cell BK119.out 1).trans rfl, (blk_cell BK120.out 0).trans rfl, (blk_cell BK120.out 1).trans rfl⟩ (fun hHeld => ?_); refine with_tabW line_times.tab2 line_times.bits2 (fun HT_ HW_ => ?_)
 generalize w19.drew = w20 at BK113 BK114 BK119 BK120 HB hHeld ⊢
 refine pI 0 18 (ba 11 1) HT_.out ?_
 refine take_ (i := 1) (N := some 19) (v := ?_) (a' := ?_) (ba 11 3) rfl rfl (take_ofW HT_.out HW_.out (by kernel_rfl)) (fun _ _ _ h => h) (Or.inl ⟨by rfl, ?_⟩) hHeld ?_ ?_
 rotate_left
 ·rintro w' ⟨s0, s1, s2, s3⟩
  go_simp
  with_reducible rfl
 rotate_left
 ·simp only [Act.put, List.setIfInBounds_toArray, List.set_cons_zero, List.set_cons_succ, i64_w, i32_w]
  rfl
 refine take_ (i := 3) (N := some 21) (v := ?_) (a' := ?_) (ba 11 11) rfl rfl (take_ofW HT_.out HW_.out (by kernel_rfl)) (fun _ _ _ h => h) (Or.inl ⟨by rfl, ?_⟩) hHeld ?_ ?_
 rotate_left
 ·rintro w' ⟨s0, s1, s2, s3⟩
  go_simp
  with_reducible rfl
 rotate_left
 ·simp only [Act.put, List.setIfInBounds_toArray, List.set_cons_zero, List.set_cons_succ, i64_w, i32_w]
  rfl
 refine join_ (σ := Nat) 2 (ba 11 511) (fun s_ => [(20, .agg #[.int .u64 t121, .int .u64 t122]), (22, .tuple #[.agg #[.int .u64 t123, .int .u64 t124], .int .i64 t125]), (7, .pointer (some ⟨s_, 0, none⟩)), (17, .tuple #[.agg #[.int .u64 t123, .int .u64 t124], .int .i64 t125]), (23, .agg #[.int .u64 t123, .int .u64 t124]), (24, .int .i64 t125)]) (fun s_ w' => (w'.cell? ⟨gb119, 0, none⟩ = some (.int .u64 t115) ∧ w'.cell? ⟨gb119, 1, none⟩ = some (.int .u64 t116) ∧ w'.cell? ⟨gb120, 0, none⟩ = some (.int .u64 t117) ∧ w'.cell? ⟨gb120, 1, none⟩ = some (.int .u64 t118)) ∧ (w'.heap[gb113]? = some (.cells #[.int .u64 a0_0, .int .u64 a0_1] 49 (0, 0))) ∧ (w'.heap[gb114]? = some (.cells #[.int .u64 0, .int .u64 0, .int .u64 0] 102 (0, 0))) ∧ (w'.heap[gb119]? = some (.cells #[.int .u64 t115, .int .u64 t116] 49 (0, 0))) ∧ (w'.heap[gb120]? = some (.cells #[.int .u64 t117, .int .u64 t118] 49 (0, 0))) ∧ (w'.heap[s_]? = some (.cells #[.int .u64 0, .int .u64 0] 49 (0, 0))) ∧ (w.heap.size ≤ s_) ∧ (w.heap.size ≤ s_) ∧ (gb113 ≠ s_) ∧ (s_ ≠ gb113) ∧ (gb114 ≠ s_) ∧ (s_ ≠ gb114) ∧ (gb119 ≠ s_) ∧ (s_ ≠ gb119) ∧ (gb120 ≠ s_) ∧ (s_ ≠ gb120) ∧ (Below w.heap.size w w')) ?_ ?_
 rotate_left
 ·intro hCont
  refine two_ (i := 2) (j := 8) (Ni := some 20) (Nj := some 7) (ba 11 15) (ba 11 267) rfl rfl rfl rfl (two_of HT_.out (by kernel_rfl)) (by decide) (by decide) (fun K hK => ?_) (fun K hK => ?_)
  ·skip
   refine goes_ Try.func58 (by kernel_rfl) rfl #[.int .u64 t115] (by rfl) rfl rfl am ?_
   with_reducible refine (wide_Of.calls t115 t121 t122 _ A5.out).mono ?_
   rintro e w21 ⟨rfl, hb⟩
   refine ⟨_, rfl, ?_⟩
   replace BK113 := Aside0.mk (bb BK113.out hb)
   replace BK114 := Aside0.mk (bb BK114.out hb)
   replace BK119 := Aside0.mk (bb BK119.out hb)
   replace BK120 := Aside0.mk (bb BK120.out hb)
   replace HB := Aside0.mk (below_step (bl4 HB.out GE113.out GE114.out GE119.out GE120.out) hb)
   (try clear hb)
   (try clear hb2)
   (try clear hk)
   (try clear hi)
   refine hK.out _ _ ⟨(blk_cell BK119.out 0).trans rfl, (blk_cell BK119.out 1).trans rfl, (blk_cell BK120.out 0).trans rfl, (blk_cell BK120.out 1).trans rfl⟩ (fun hHeld => ?_)
   clear hK K
   refine norm_ (a' := ?_) ?_ ?_
   rotate_left
   ·show Act.put _ (some 20) _ = _
    simp only [Act.put, List.setIfInBounds_toArray, List.set_cons_zero, List.set_cons_succ, i64_w, i32_w]
    rfl
   refine two_ (i := 4) (j := 8) (Ni := some 22) (Nj := some 7) (ba 11 31) (ba 11 271) rfl rfl rfl rfl (two_of HT_.out (by kernel_rfl)) (by decide) (by decide) (fun K hK => ?_) (fun K hK => ?_)
   ·skip
    refine goes_ Try.func77 (by kernel_rfl) rfl #[.agg #[.int .u64 t121, .int .u64 t122], .agg #[.int .u64 t117, .int .u64 t118]] (by rfl) rfl rfl am ?_
    with_reducible refine (wide_Add.calls t121 t122 t117 t118 t123 t124 t125 _ A6.out).mono ?_
    rintro e w22 ⟨rfl, hb⟩
    refine ⟨_, rfl, ?_⟩
    replace BK113 := Aside0.mk (bb BK113.out hb)
    replace BK114 := Aside0.mk (bb BK114.out hb)
    replace BK119 := Aside0.mk (bb BK119.out hb)
    replace BK120 := Aside0.mk (bb BK120.out hb)
    replace HB := Aside0.mk (below_step (bl4 HB.out GE113.out GE114.out GE119.out GE120.out) hb)
    (try clear hb)
    (try clear hb2)
    (try clear hk)
    (try clear hi)
    refine hK.out _ _ ⟨(blk_cell BK119.out 0).trans rfl, (blk_cell BK119.out 1).trans rfl, (blk_cell BK120.out 0).trans rfl, (blk_cell BK120.out 1).trans rfl⟩ (fun hHeld => ?_)
    clear hK K
    refine norm_ (a' := ?_) ?_ ?_
    rotate_left
    ·show Act.put _ (some 22) _ = _
     simp only [Act.put, List.setIfInBounds_toArray, List.set_cons_zero, List.set_cons_succ, i64_w, i32_w]
     rfl
    refine pI 5 17 (ba 11 63) HT_.out ?_
    refine pI 6 23 (ba 11 127) HT_.out ?_
    refine pI 7 24 (ba 11 255) HT_.out ?_
    refine one_ (i := 8) (N := some 7) (ba 11 511) rfl rfl (one_of HT_.out (by kernel_rfl)) (by decide) (fun K hK => ?_)
    refine box_step ?hg (N := 7) ?hd (cs := #[.int .u64 0, .int .u64 0]) (t := 49) ?hr ?_; (case hd => rfl); (case hg => rfl); (case hr => first | (go_simp; done) | (go_simp; rfl))
    intro gb126 hg w23 hbox hb
    have BK126 := Aside0.mk (hbox)
    have GW126 := Aside0.mk ((by rw [hg]; exact (below_size (bl4 HB.out GE113.out GE114.out GE119.out GE120.out)) : w.heap.size ≤ gb126))
    have GE126 := Aside0.mk ((by rw [hg]; exact (below_size (bl4 HB.out GE113.out GE114.out GE119.out GE120.out)) : w.heap.size ≤ gb126))
    have NB113_126 := Aside0.mk ((by rw [hg]; exact Nat.ne_of_lt (lt_ BK113.out) : gb113 ≠ gb126))
    have NB126_113 := Aside0.mk ((by rw [hg]; exact Nat.ne_of_gt (lt_ BK113.out) : gb126 ≠ gb113))
    have NB114_126 := Aside0.mk ((by rw [hg]; exact Nat.ne_of_lt (lt_ BK114.out) : gb114 ≠ gb126))
    have NB126_114 := Aside0.mk ((by rw [hg]; exact Nat.ne_of_gt (lt_ BK114.out) : gb126 ≠ gb114))
    have NB119_126 := Aside0.mk ((by rw [hg]; exact Nat.ne_of_lt (lt_ BK119.out) : gb119 ≠ gb126))
    have NB126_119 := Aside0.mk ((by rw [hg]; exact Nat.ne_of_gt (lt_ BK119.out) : gb126 ≠ gb119))
    have NB120_126 := Aside0.mk ((by rw [hg]; exact Nat.ne_of_lt (lt_ BK120.out) : gb120 ≠ gb126))
    have NB126_120 := Aside0.mk ((by rw [hg]; exact Nat.ne_of_gt (lt_ BK120.out) : gb126 ≠ gb120))
    replace BK113 := Aside0.mk (bb BK113.out hb)
    replace BK114 := Aside0.mk (bb BK114.out hb)
    replace BK119 := Aside0.mk (bb BK119.out hb)
    replace BK120 := Aside0.mk (bb BK120.out hb)
    replace HB := Aside0.mk (below_step (bl4 HB.out GE113.out GE114.out GE119.out GE120.out) hb)
    clear hb hbox hg
    refine hK.out _ _ ⟨(blk_cell BK119.out 0).trans rfl, (blk_cell BK119.out 1).trans rfl, (blk_cell BK120.out 0).trans rfl, (blk_cell BK120.out 1).trans rfl⟩ (fun hHeld => ?_)
    clear hK K
    refine norm_ (a' := ?_) ?_ ?_
    rotate_left
    ·show Act.put _ (some 7) _ = _
     simp only [Act.put, List.setIfInBounds_toArray, List.set_cons_zero, List.set_cons_succ, i64_w, i32_w]
     rfl
    exact norm_ (by simp only [putAll, Act.put, List.setIfInBounds_toArray, List.set_cons_zero, List.set_cons_succ]) (hCont (gb126) _ ⟨hHeld, (bk BK113.out), (bk BK114.out), (bk BK119.out), (bk BK120.out), (bk BK126.out), GW126.out, GE126.out, NB113_126.out, NB126_113.out, NB114_126.out, NB126_114.out, NB119_126.out, NB126_119.out, NB120_126.out, NB126_120.out, (bl5 HB.out GE113.out GE114.out GE119.out GE120.out GE126.out)⟩)
   ·skip
    refine box_step ?hg (N := 7) ?hd (cs := #[.int .u64 0, .int .u64 0]) (t := 49) ?hr ?_; (case hd => rfl); (case hg => rfl); (case hr => first | (go_simp; done) | (go_simp; rfl))
    intro gb126 hg w22 hbox hb
    have BK126 := Aside0.mk (hbox)
    have GW126 := Aside0.mk ((by rw [hg]; exact (below_size (bl4 HB.out GE113.out GE114.out GE119.out GE120.out)) : w.heap.size ≤ gb126))
    have GE126 := Aside0.mk ((by rw [hg]; exact (below_size (bl4 HB.out GE113.out GE114.out GE119.out GE120.out)) : w.heap.size ≤ gb126))
    have NB113_126 := Aside0.mk ((by rw [hg]; exact Nat.ne_of_lt (lt_ BK113.out) : gb113 ≠ gb126))
    have NB126_113 := Aside0.mk ((by rw [hg]; exact Nat.ne_of_gt (lt_ BK113.out) : gb126 ≠ gb113))
    have NB114_126 := Aside0.mk ((by rw [hg]; exact Nat.ne_of_lt (lt_ BK114.out) : gb114 ≠ gb126))
    have NB126_114 := Aside0.mk ((by rw [hg]; exact Nat.ne_of_gt (lt_ BK114.out) : gb126 ≠ gb114))
    have NB119_126 := Aside0.mk ((by rw [hg]; exact Nat.ne_of_lt (lt_ BK119.out) : gb119 ≠ gb126))
    have NB126_119 := Aside0.mk ((by rw [hg]; exact Nat.ne_of_gt (lt_ BK119.out) : gb126 ≠ gb119))
    have NB120_126 := Aside0.mk ((by rw [hg]; exact Nat.ne_of_lt (lt_ BK120.out) : gb120 ≠ gb126))
    have NB126_120 := Aside0.mk ((by rw [hg]; exact Nat.ne_of_gt (lt_ BK120.out) : gb126 ≠ gb120))
    replace BK113 := Aside0.mk (bb BK113.out hb)
    replace BK114 := Aside0.mk (bb BK114.out hb)
    replace BK119 := Aside0.mk (bb BK119.out hb)
    replace BK120 := Aside0.mk (bb BK120.out hb)
    replace HB := Aside0.mk (below_step (bl4 HB.out GE113.out GE114.out GE119.out GE120.out) hb)
    clear hb hbox hg
    refine hK.out _ _ ⟨(blk_cell BK119.out 0).trans rfl, (blk_cell BK119.out 1).trans rfl, (blk_cell BK120.out 0).trans rfl, (blk_cell BK120.out 1).trans rfl⟩ (fun hHeld => ?_)
    clear hK K
    refine norm_ (a' := ?_) ?_ ?_
    rotate_left
    ·show Act.put _ (some 7) _ = _
     simp only [Act.put, List.setIfInBounds_toArray, List.set_cons_zero, List.set_cons_succ, i64_w, i32_w]
     rfl
    refine one_ (i := 4) (N := some 22) (ba 11 287) rfl rfl (one_of HT_.out (by kernel_rfl)) (by decide) (fun K hK => ?_)
    refine goes_ Try.func77 (by kernel_rfl) rfl #[.agg #[.int .u64 t121, .int .u64 t122], .agg #[.int .u64 t117, .int .u64 t118]] (by rfl) rfl rfl am ?_
    with_reducible refine (wide_Add.calls t121 t122 t117 t118 t123 t124 t125 _ A6.out).mono ?_
    rintro e w23 ⟨rfl, hb⟩
    refine ⟨_, rfl, ?_⟩
    replace BK113 := Aside0.mk (bb BK113.out hb)
    replace BK114 := Aside0.mk (bb BK114.out hb)
    replace BK119 := Aside0.mk (bb BK119.out hb)
    replace BK120 := Aside0.mk (bb BK120.out hb)
    replace BK126 := Aside0.mk (bb BK126.out hb)
    replace HB := Aside0.mk (below_step (bl5 HB.out GE113.out GE114.out GE119.out GE120.out GE126.out) hb)
    (try clear hb)
    (try clear hb2)
    (try clear hk)
    (try clear hi)
    refine hK.out _ _ ⟨(blk_cell BK119.out 0).trans rfl, (blk_cell BK119.out 1).trans rfl, (blk_cell BK120.out 0).trans rfl, (blk_cell BK120.out 1).trans rfl⟩ (fun hHeld => ?_)
    clear hK K
    refine norm_ (a' := ?_) ?_ ?_
    rotate_left
    ·show Act.put _ (some 22) _ = _
     simp only [Act.put, List.setIfInBounds_toArray, List.set_cons_zero, List.set_cons_succ, i64_w, i32_w]
     rfl
    refine pI 5 17 (ba 11 319) HT_.out ?_
    refine pI 6 23 (ba 11 383) HT_.out ?_
    refine pI 7 24 (ba 11 511) HT_.out ?_
    exact norm_ (by simp only [putAll, Act.put, List.setIfInBounds_toArray, List.set_cons_zero, List.set_cons_succ]) (hCont (gb126) _ ⟨hHeld, (bk BK113.out), (bk BK114.out), (bk BK119.out), (bk BK120.out), (bk BK126.out), GW126.out, GE126.out, NB113_126.out, NB126_113.out, NB114_126.out, NB126_114.out, NB119_126.out, NB126_119.out, NB120_126.out, NB126_120.out, (bl5 HB.out GE113.out GE114.out GE119.out GE120.out GE126.out)⟩)
  ·skip
   refine box_step ?hg (N := 7) ?hd (cs := #[.int .u64 0, .int .u64 0]) (t := 49) ?hr ?_; (case hd => rfl); (case hg => rfl); (case hr => first | (go_simp; done) | (go_simp; rfl))
   intro gb126 hg w21 hbox hb
   have BK126 := Aside0.mk (hbox)
   have GW126 := Aside0.mk ((by rw [hg]; exact (below_size (bl4 HB.out GE113.out GE114.out GE119.out GE120.out)) : w.heap.size ≤ gb126))
   have GE126 := Aside0.mk ((by rw [hg]; exact (below_size (bl4 HB.out GE113.out GE114.out GE119.out GE120.out)) : w.heap.size ≤ gb126))
   have NB113_126 := Aside0.mk ((by rw [hg]; exact Nat.ne_of_lt (lt_ BK113.out) : gb113 ≠ gb126))
   have NB126_113 := Aside0.mk ((by rw [hg]; exact Nat.ne_of_gt (lt_ BK113.out) : gb126 ≠ gb113))
   have NB114_126 := Aside0.mk ((by rw [hg]; exact Nat.ne_of_lt (lt_ BK114.out) : gb114 ≠ gb126))
   have NB126_114 := Aside0.mk ((by rw [hg]; exact Nat.ne_of_gt (lt_ BK114.out) : gb126 ≠ gb114))
   have NB119_126 := Aside0.mk ((by rw [hg]; exact Nat.ne_of_lt (lt_ BK119.out) : gb119 ≠ gb126))
   have NB126_119 := Aside0.mk ((by rw [hg]; exact Nat.ne_of_gt (lt_ BK119.out) : gb126 ≠ gb119))
   have NB120_126 := Aside0.mk ((by rw [hg]; exact Nat.ne_of_lt (lt_ BK120.out) : gb120 ≠ gb126))
   have NB126_120 := Aside0.mk ((by rw [hg]; exact Nat.ne_of_gt (lt_ BK120.out) : gb126 ≠ gb120))
   replace BK113 := Aside0.mk (bb BK113.out hb)
   replace BK114 := Aside0.mk (bb BK114.out hb)
   replace BK119 := Aside0.mk (bb BK119.out hb)
   replace BK120 := Aside0.mk (bb BK120.out hb)
   replace HB := Aside0.mk (below_step (bl4 HB.out GE113.out GE114.out GE119.out GE120.out) hb)
   clear hb hbox hg
   refine hK.out _ _ ⟨(blk_cell BK119.out 0).trans rfl, (blk_cell BK119.out 1).trans rfl, (blk_cell BK120.out 0).trans rfl, (blk_cell BK120.out 1).trans rfl⟩ (fun hHeld => ?_)
   clear hK K
   refine norm_ (a' := ?_) ?_ ?_
   rotate_left
   ·show Act.put _ (some 7) _ = _
    simp only [Act.put, List.setIfInBounds_toArray, List.set_cons_zero, List.set_cons_succ, i64_w, i32_w]
    rfl
   refine one_ (i := 2) (N := some 20) (ba 11 271) rfl rfl (one_of HT_.out (by kernel_rfl)) (by decide) (fun K hK => ?_)
   refine goes_ Try.func58 (by kernel_rfl) rfl #[.int .u64 t115] (by rfl) rfl rfl am ?_
   with_reducible refine (wide_Of.calls t115 t121 t122 _ A5.out).mono ?_
   rintro e w22 ⟨rfl, hb⟩
   refine ⟨_, rfl, ?_⟩
   replace BK113 := Aside0.mk (bb BK113.out hb)
   replace BK114 := Aside0.mk (bb BK114.out hb)
   replace BK119 := Aside0.mk (bb BK119.out hb)
   replace BK120 := Aside0.mk (bb BK120.out hb)
   replace BK126 := Aside0.mk (bb BK126.out hb)
   replace HB := Aside0.mk (below_step (bl5 HB.out GE113.out GE114.out GE119.out GE120.out GE126.out) hb)
   (try clear hb)
   (try clear hb2)
   (try clear hk)
   (try clear hi)
   refine hK.out _ _ ⟨(blk_cell BK119.out 0).trans rfl, (blk_cell BK119.out 1).trans rfl, (blk_cell BK120.out 0).trans rfl, (blk_cell BK120.out 1).trans rfl⟩ (fun hHeld => ?_)
   clear hK K
   refine norm_ (a' := ?_) ?_ ?_
   rotate_left
   ·show Act.put _ (some 20) _ = _
    simp only [Act.put, List.setIfInBounds_toArray, List.set_cons_zero, List.set_cons_succ, i64_w, i32_w]
    rfl
   refine one_ (i := 4) (N := some 22) (ba 11 287) rfl rfl (one_of HT_.out (by kernel_rfl)) (by decide) (fun K hK => ?_)
   refine goes_ Try.func77 (by kernel_rfl) rfl #[.agg #[.int .u64 t121, .int .u64 t122], .agg #[.int .u64 t117, .int .u64 t118]] (by rfl) rfl rfl am ?_
   with_reducible refine (wide_Add.calls t121 t122 t117 t118 t123 t124 t125 _ A6.out).mono ?_
   rintro e w23 ⟨rfl, hb⟩
   refine ⟨_, rfl, ?_⟩
   replace BK113 := Aside0.mk (bb BK113.out hb)
   replace BK114 := Aside0.mk (bb BK114.out hb)
   replace BK119 := Aside0.mk (bb BK119.out hb)
   replace BK120 := Aside0.mk (bb BK120.out hb)
   replace BK126 := Aside0.mk (bb BK126.out hb)
   replace HB := Aside0.mk (below_step (bl5 HB.out GE113.out GE114.out GE119.out GE120.out GE126.out) hb)
   (try clear hb)
   (try clear hb2)
   (try clear hk)
   (try clear hi)
   refine hK.out _ _ ⟨(blk_cell BK119.out 0).trans rfl, (blk_cell BK119.out 1).trans rfl, (blk_cell BK120.out 0).trans rfl, (blk_cell BK120.out 1).trans rfl⟩ (fun hHeld => ?_)
   clear hK K
   refine norm_ (a' := ?_) ?_ ?_
   rotate_left
   ·show Act.put _ (some 22) _ = _
    simp only [Act.put, List.setIfInBounds_toArray, List.set_cons_zero, List.set_cons_succ, i64_w, i32_w]
    rfl
   refine pI 5 17 (ba 11 319) HT_.out ?_
   refine pI 6 23 (ba 11 383) HT_.out ?_
   refine pI 7 24 (ba 11 511) HT_.out ?_
   exact norm_ (by simp only [putAll, Act.put, List.setIfInBounds_toArray, List.set_cons_zero, List.set_cons_succ]) (hCont (gb126) _ ⟨hHeld, (bk BK113.out), (bk BK114.out), (bk BK119.out), (bk BK120.out), (bk BK126.out), GW126.out, GE126.out, NB113_126.out, NB126_113.out, NB114_126.out, NB126_114.out, NB119_126.out, NB126_119.out, NB120_126.out, NB126_120.out, (bl5 HB.out GE113.out GE114.out GE119.out GE120.out GE126.out)⟩)
 rintro gb126 w24 ⟨hS_, h0_, h1_, h2_, h3_, h4_, h5_, h6_, h7_, h8_, h9_, h10_, h11_, h12_, h13_, h14_, h15_⟩
 have BK126 : Aside0 (w24.heap[gb126]? = some (.cells #[.int .u64 0, .int .u64 0] 49 (0, 0))) := ⟨h4_⟩
 have GW126 : Aside0 (w.heap.size ≤ gb126) := ⟨h5_⟩
 have GE126 : Aside0 (w.heap.size ≤ gb126) := ⟨h6_⟩
 have NB113_126 : Aside0 (gb113 ≠ gb126) := ⟨h7_⟩
 have NB126_113 : Aside0 (gb126 ≠ gb113) := ⟨h8_⟩
 have NB114_126 : Aside0 (gb114 ≠ gb126) := ⟨h9_⟩
 have NB126_114 : Aside0 (gb126 ≠ gb114) := ⟨h10_⟩
 have NB119_126 : Aside0 (gb119 ≠ gb126) := ⟨h11_⟩
 have NB126_119 : Aside0 (gb126 ≠ gb119) := ⟨h12_⟩
 have NB120_126 : Aside0 (gb120 ≠ gb126) := ⟨h13_⟩
 have NB126_120 : Aside0 (gb126 ≠ gb120) := ⟨h14_⟩
 replace BK113 : Aside0 (w24.heap[gb113]? = some (.cells #[.int .u64 a0_0, .int .u64 a0_1] 49 (0, 0))) := ⟨h0_⟩
 replace BK114 : Aside0 (w24.heap[gb114]? = some (.cells #[.int .u64 0, .int .u64 0, .int .u64 0] 102 (0, 0))) := ⟨h1_⟩
 replace BK119 : Aside0 (w24.heap[gb119]? = some (.cells #[.int .u64 t115, .int .u64 t116] 49 (0, 0))) := ⟨h2_⟩
 replace BK120 : Aside0 (w24.heap[gb120]? = some (.cells #[.int .u64 t117, .int .u64 t118] 49 (0, 0))) := ⟨h3_⟩
 replace HB : Aside0 (Below w.heap.size w w24) := ⟨h15_⟩
 clear h0_ h1_ h2_ h3_ h4_ h5_ h6_ h7_ h8_ h9_ h10_ h11_ h12_ h13_ h14_ h15_
 have hHeld : w24.cell? ⟨gb119, 0, none⟩ = some (.int .u64 t115) ∧ w24.cell? ⟨gb119, 1, none⟩ = some (.int .u64 t116) ∧ w24.cell? ⟨gb120, 0, none⟩ = some (.int .u64 t117) ∧ w24.cell? ⟨gb120, 1, none⟩ = some (.int .u64 t118) := hS_
 refine norm_ (a' := ?_) ?_ ?_
 rotate_left
 ·simp only [putAll, Act.put, List.setIfInBounds_toArray, List.set_cons_zero, List.set_cons_succ]
  rfl
 refine one_ (i := 9) (N := none) (ba 11 1023) rfl rfl (one_of HT_.out (by kernel_rfl)) (by decide) (fun K hK => ?_)
 have hs25 : w24.cell? ⟨gb126, 0, none⟩ = some (.int .u64 0) := (blk_cell BK126.out 0).trans rfl
 have hfs25 := blk_frozen BK126.out 0
 have hns25_0 := NB113_126.out
 have hns25_1 := NB114_126.out
 have hns25_2 := NB119_126.out
 have hns25_3 := NB120_126.out
 have hms25_0 := NB126_113.out
 have hms25_1 := NB126_114.out
 have hms25_2 := NB126_119.out
 have hms25_3 := NB126_120.out
 have hs26 : w24.cell? ⟨gb126, 1, none⟩ = some (.int .u64 0) := (blk_cell BK126.out 1).trans rfl
 have hfs26 := blk_frozen BK126.out 1
 have hns26_0 := NB113_126.out
 have hns26_1 := NB114_126.out
 have hns26_2 := NB119_126.out
 have hns26_3 := NB120_126.out
 have hms26_0 := NB126_113.out
 have hms26_1 := NB126_114.out
 have hms26_2 := NB126_119.out
 have hms26_3 := NB126_120.out
 refine skip_ (w1 := ?_) (by rfl) rfl ?_ ?_
 rotate_left
 ·go_simp
  rfl
 refine hK.out _ _ ⟨((cell_far (p := ⟨gb126, _, none⟩) NB119_126.out _).trans (((cell_far (p := ⟨gb126, _, none⟩) NB119_126.out _).trans (hHeld.1)))), ((cell_far (p := ⟨gb126, _, none⟩) NB119_126.out _).trans (((cell_far (p := ⟨gb126, _, none⟩) NB119_126.out _).trans (hHeld.2.1)))), ((cell_far (p := ⟨gb126, _, none⟩) NB120_126.out _).trans (((cell_far (p := ⟨gb126, _, none⟩) NB120_126.out _).trans (hHeld.2.2.1)))), ((cell_far (p := ⟨gb126, _, none⟩) NB120_126.out _).trans (((cell_far (p := ⟨gb126, _, none⟩) NB120_126.out _).trans (hHeld.2.2.2))))⟩ (fun hHeld => ?_)
 clear hK K
 refine pI 10 8 (ba 11 2047) HT_.out ?_
 refine done_ (done_of HT_.out (by kernel_rfl)) ?_
 have hnb27 := NB119_113.out
 have hnc27 := NB113_119.out
 have hnb28 := NB119_114.out
 have hnc28 := NB114_119.out
 have hnb29 := NB119_120.out
 have hnc29 := NB120_119.out
 have hnb30 := NB119_126.out
 have hnc30 := NB126_119.out
 have hcz31_0 : w24.cell? ⟨gb119, 0, none⟩ = some (.int .u64 t115) := (blk_cell BK119.out 0).trans rfl
 have hcz31_1 : w24.cell? ⟨gb119, 1, none⟩ = some (.int .u64 t116) := (blk_cell BK119.out 1).trans rfl
 have hfz31_0 := blk_frozen BK119.out 0
 have hfz31_1 := blk_frozen BK119.out 1
 have hnb32 := NB126_113.out
 have hnc32 := NB113_126.out
 have hnb33 := NB126_114.out
 have hnc33 := NB114_126.out
 have hnb34 := NB126_120.out
 have hnc34 := NB120_126.out
 have hcz35_0 : w24.cell? ⟨gb126, 0, none⟩ = some (.int .u64 0) := (blk_cell BK126.out 0).trans rfl
 have hcz35_1 : w24.cell? ⟨gb126, 1, none⟩ = some (.int .u64 0) := (blk_cell BK126.out 1).trans rfl
 have hfz35_0 := blk_frozen BK126.out 0
 have hfz35_1 := blk_frozen BK126.out 1
 have hnb36 := NB114_113.out
 have hnc36 := NB113_114.out
 have hnb37 := NB114_120.out
 have hnc37 := NB120_114.out
 have hcz38_0 : w24.cell? ⟨gb114, 0, none⟩ = some (.int .u64 0) := (blk_cell BK114.out 0).trans rfl
 have hcz38_1 : w24.cell? ⟨gb114, 1, none⟩ = some (.int .u64 0) := (blk_cell BK114.out 1).trans rfl
 have hcz38_2 : w24.cell? ⟨gb114, 2, none⟩ = some (.int .u64 0) := (blk_cell BK114.out 2).trans rfl
 have hfz38_0 := blk_frozen BK114.out 0
 have hfz38_1 := blk_frozen BK114.out 1
 have hfz38_2 := blk_frozen BK114.out 2
 try go_wp2
 refine bodyPost_ret (results_cell_row rfl _ _ gb114 102 #[.int .u64 t116, .int .u64 t124, .int .u64 t123] (0, 0) _ rfl (by (with_reducible repeat (first | refine blk_drewN ?_ _ | refine blk_drew ?_ | refine blk_alloc ?_ _)); refine blk_put (cs := #[.int .u64 t116, .int .u64 t124, .int .u64 0]) ?_ 2 _ rfl; (with_reducible repeat (first | refine blk_drewN ?_ _ | refine blk_drew ?_ | refine blk_alloc ?_ _)); refine blk_put (cs := #[.int .u64 t116, .int .u64 0, .int .u64 0]) ?_ 1 _ rfl; (with_reducible repeat (first | refine blk_drewN ?_ _ | refine blk_drew ?_ | refine blk_alloc ?_ _)); refine blk_put (cs := #[.int .u64 0, .int .u64 0, .int .u64 0]) ?_ 0 _ rfl; (with_reducible repeat (first | refine blk_drewN ?_ _ | refine blk_drew ?_ | refine blk_alloc ?_ _)); refine blk_far ?_ NB114_126.out _; (with_reducible repeat (first | refine blk_drewN ?_ _ | refine blk_drew ?_ | refine blk_alloc ?_ _)); refine blk_far ?_ NB114_126.out _; (with_reducible repeat (first | refine blk_drewN ?_ _ | refine blk_drew ?_ | refine blk_alloc ?_ _)); exact BK114.out) Try.underlying102 rfl (by kernel_rfl)) rfl ?_
 exact ⟨by first | rfl | (simp [errW_none, errW_some] <;> rfl) | (simp [*, errW_none, errW_some] <;> rfl), bl5 HB.out GE113.out GE114.out GE119.out GE120.out GE126.out⟩

end Go.Proofs.Ytemhnlameekmkaa.XLine
