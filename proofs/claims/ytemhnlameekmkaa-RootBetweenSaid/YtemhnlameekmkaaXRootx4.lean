-- Printed by a program of this claim. Not trusted: Lean checks it.
import Derived.Test.YtemhnlameekmkaaXRootx0
import Derived.Test.YtemhnlameekmkaaXRootx2
import Derived.Test.YtemhnlameekmkaaXRootx3
namespace Go.Proofs.Ytemhnlameekmkaa.XRoot
open Go.RowKit Go.Proofs.YtemhnlameekmkaaW.PrintWords Go.Proofs.YtemhnlameekmkaaW.PrintLast Go.Proofs.YtemhnlameekmkaaW.PrintMore
attribute [local go_sem] max2_int min2_int max_two min_two max_three min_three max_four min_four   -- for this text's walks alone
set_option linter.unusedVariables false
set_option linter.unusedSimpArgs false

/-! ### wide_Scale: function 60 -/
def wide_Scale.f (a0_0 : Int) (a0_1 : Int) (a1 : Int) : Option (Int × Int × Int) := (wide_Mul.f a0_1 a1).bind fun bt142 => ((wide_Mul.f a0_0 a1).bind fun bt144 => (if bt144.1 = 0 then ((wide_Add.f bt142.1 bt142.2 bt144.2 0).bind fun bt148 => (some (bt148.1, bt148.2.1, bt148.2.2))) else (some (0, 0, 2))))
def wide_Scale.T1 : Bool × List (List Nat × List Nat) := (true, [([], []), ([0], [0]), ([], []), ([1, 2], [1, 2]), ([], []), ([4], [4]), ([], []), ([5, 6, 3], [5, 6]), ([], []), ([], []), ([8, 3, 7, 0, 1, 2, 3, 8, 9], [3, 8]), ([9, 7, 10, 0, 1, 2, 3, 4, 5, 6, 7, 8, 9, 10], [7, 9])])
def wide_Scale.B1 : List Nat := [0, 1, 0, 7, 0, 16, 0, 127, 0, 0, 1023, 2047]
theorem wide_Scale.tab1 : rtab .any (opsOf Try.f60 1) = wide_Scale.T1 := by kernel_rfl
theorem wide_Scale.bits1 : waitsOk wide_Scale.T1.2 wide_Scale.B1 = true := by kernel_rfl
set_option maxHeartbeats 8000000 in
set_option maxRecDepth 100000 in
theorem wide_Scale.calls (a0_0 : Int) (a0_1 : Int) (a1 : Int) (r1 : Int) (r2 : Int) (r3 : Int) (w : World) (h : wide_Scale.f a0_0 a0_1 a1 = some (r1, r2, r3)) :
  Calls Try.prog 60 #[.agg #[.int .u64 a0_0, .int .u64 a0_1], .int .u64 a1] w fun e w' => e = .returned (.tuple #[.agg #[.int .u64 r1, .int .u64 r2], .int .i64 r3]) ∧ Below w.heap.size w w' := by
 have hu49 := Try.underlying49
 have HB := Aside0.mk (Below.refl w.heap.size w)
 have H : ((wide_Mul.f a0_1 a1).bind fun bt142 => ((wide_Mul.f a0_0 a1).bind fun bt144 => (if bt144.1 = 0 then ((wide_Add.f bt142.1 bt142.2 bt144.2 0).bind fun bt148 => (some (bt148.1, bt148.2.1, bt148.2.2))) else (some (0, 0, 2))))) = some (r1, r2, r3) := h
 clear h
 replace H := Option.bind_eq_some_iff.mp H
 obtain ⟨⟨t142, t143⟩, A30, H⟩ := H
 replace H : ((wide_Mul.f a0_0 a1).bind fun bt144 => (if bt144.1 = 0 then ((wide_Add.f t142 t143 bt144.2 0).bind fun bt148 => (some (bt148.1, bt148.2.1, bt148.2.2))) else (some (0, 0, 2)))) = some (r1, r2, r3) := H
 have A3 := Aside0.mk A30
 clear A30
 replace H := Option.bind_eq_some_iff.mp H
 obtain ⟨⟨t144, t145⟩, A40, H⟩ := H
 replace H : (if t144 = 0 then ((wide_Add.f t142 t143 t145 0).bind fun bt148 => (some (bt148.1, bt148.2.1, bt148.2.2))) else (some (0, 0, 2))) = some (r1, r2, r3) := H
 have A4 := Aside0.mk A40
 clear A40
 by_cases c5 : t144 = 0
 ·rw [if_pos c5] at H
  have c5b0 : (t144 == 0) = true := beq_iff_eq.mpr c5
  have c5b1 : (t144 != 0) = false := bne_eq_false_iff_eq.mpr c5
  clear c5
  replace H := Option.bind_eq_some_iff.mp H
  obtain ⟨⟨t148, t149, t150⟩, A60, H⟩ := H
  replace H : (some (t148, t149, t150)) = some (r1, r2, r3) := H
  have A6 := Aside0.mk A60
  clear A60
  simp only [Option.some.injEq, Prod.mk.injEq] at H
  obtain ⟨rfl, rfl, rfl⟩ := H
  go_enter Try.func60, Try.ntmps60
  try go_wp2_with (first | ((with_reducible refine gate_dst (N := 2) rfl ?_); refine box_event ?hg (N := 2) ?hd (cs := #[.int .u64 a0_0, .int .u64 a0_1]) (t := 49) ?hr ?_; (case hd => rfl); (case hg => rfl); (case hr => first | (go_simp; done) | (go_simp; rfl)); intro gb140 hg w7 hbox hb; have n0_ := Aside0.mk (below_step (XOpen.bl0 HB.out) hb); have n1_ := Aside0.mk (hbox); have n2_ := Aside0.mk ((by rw [hg]; exact (below_size (XOpen.bl0 HB.out)) : w.heap.size ≤ gb140)); have n3_ := Aside0.mk ((by rw [hg]; exact (below_size (XOpen.bl0 HB.out)) : w.heap.size ≤ gb140)); clear HB; have HB := n0_; have BK140 := n1_; have GW140 := n2_; have GE140 := n3_; clear n0_ n1_ n2_ n3_; clear hb hbox hg) | ((with_reducible refine gate_dst (N := 4) rfl ?_); refine box_event ?hg (N := 4) ?hd (cs := #[.int .u64 0, .int .u64 0]) (t := 49) ?hr ?_; (case hd => rfl); (case hg => rfl); (case hr => first | (go_simp; done) | (go_simp; rfl)); intro gb141 hg w8 hbox hb; have n0_ := Aside0.mk (blk_below (g := gb140) (o := .cells #[.int .u64 a0_0, .int .u64 a0_1] 49 (0, 0)) (XOpen.bk BK140.out) hb); have n1_ := Aside0.mk (below_step (XOpen.bl1 HB.out GE140.out) hb); have n2_ := Aside0.mk (hbox); have n3_ := Aside0.mk ((by rw [hg]; exact (below_size (XOpen.bl1 HB.out GE140.out)) : w.heap.size ≤ gb141)); have n4_ := Aside0.mk ((by rw [hg]; exact (below_size (XOpen.bl1 HB.out GE140.out)) : w.heap.size ≤ gb141)); have n5_ := Aside0.mk ((by rw [hg]; exact Nat.ne_of_lt (blk_lt (g := gb140) (o := .cells #[.int .u64 a0_0, .int .u64 a0_1] 49 (0, 0)) (XOpen.bk BK140.out)) : gb140 ≠ gb141)); have n6_ := Aside0.mk ((by rw [hg]; exact Nat.ne_of_gt (blk_lt (g := gb140) (o := .cells #[.int .u64 a0_0, .int .u64 a0_1] 49 (0, 0)) (XOpen.bk BK140.out)) : gb141 ≠ gb140)); clear BK140; clear HB; have BK140 := n0_; have HB := n1_; have BK141 := n2_; have GW141 := n3_; have GE141 := n4_; have NB140_141 := n5_; have NB141_140 := n6_; clear n0_ n1_ n2_ n3_ n4_ n5_ n6_; clear hb hbox hg))
  have n0_ := Aside0.mk (blk_drew BK140.out)
  have n1_ := Aside0.mk (blk_drew BK141.out)
  have n2_ := Aside0.mk (below_drew1 HB.out)
  clear BK140
  clear BK141
  clear HB
  have BK140 := n0_
  have BK141 := n1_
  have HB := n2_
  clear n0_ n1_ n2_
  refine start_ (n := 12) (S := fun w' => w'.cell? ⟨gb140, 0, none⟩ = some (.int .u64 a0_0) ∧ w'.cell? ⟨gb140, 1, none⟩ = some (.int .u64 a0_1)) (ds := []) #[false, false, false, false, false, false, false, false, false, false, false, false] (by kernel_rfl) rfl rfl ⟨(blk_cell BK140.out 0).trans rfl, (blk_cell BK140.out 1).trans rfl⟩ (fun hHeld => ?_); refine with_tabW wide_Scale.tab1 wide_Scale.bits1 (fun HT_ HW_ => ?_)
  generalize w8.drew = w9 at BK140 BK141 HB hHeld ⊢
  refine pure_ (i := 0) (N := some 8) (v := ?_) (a' := ?_) #[true, false, false, false, false, false, false, false, false, false, false, false] rfl rfl (any_of HT_.out (by kernel_rfl)) (fun _ _ _ h => h) (Or.inl ⟨by rfl, ?_⟩) ?_ ?_
  rotate_left
  ·intro w'
   go_simp
   with_reducible rfl
  rotate_left
  ·simp only [Act.put, List.setIfInBounds_toArray, List.set_cons_zero, List.set_cons_succ, i64_w, i32_w]
   rfl
  refine pure_ (i := 2) (N := some 10) (v := ?_) (a' := ?_) #[true, false, true, false, false, false, false, false, false, false, false, false] rfl rfl (any_of HT_.out (by kernel_rfl)) (fun _ _ _ h => h) (Or.inl ⟨by rfl, ?_⟩) ?_ ?_
  rotate_left
  ·intro w'
   go_simp
   with_reducible rfl
  rotate_left
  ·simp only [Act.put, List.setIfInBounds_toArray, List.set_cons_zero, List.set_cons_succ, i64_w, i32_w]
   rfl
  refine pure_ (i := 4) (N := some 12) (v := ?_) (a' := ?_) #[true, false, true, false, true, false, false, false, false, false, false, false] rfl rfl (any_of HT_.out (by kernel_rfl)) (fun _ _ _ h => h) (Or.inl ⟨by rfl, ?_⟩) ?_ ?_
  rotate_left
  ·intro w'
   go_simp
   with_reducible rfl
  rotate_left
  ·simp only [Act.put, List.setIfInBounds_toArray, List.set_cons_zero, List.set_cons_succ, i64_w, i32_w]
   rfl
  refine pure_ (i := 6) (N := some 14) (v := ?_) (a' := ?_) #[true, false, true, false, true, false, true, false, false, false, false, false] rfl rfl (any_of HT_.out (by kernel_rfl)) (fun _ _ _ h => h) (Or.inl ⟨by rfl, ?_⟩) ?_ ?_
  rotate_left
  ·intro w'
   go_simp
   with_reducible rfl
  rotate_left
  ·simp only [Act.put, List.setIfInBounds_toArray, List.set_cons_zero, List.set_cons_succ, i64_w, i32_w]
   rfl
  refine take_ (i := 1) (N := some 9) (v := ?_) (a' := ?_) #[true, true, true, false, true, false, true, false, false, false, false, false] rfl rfl (take_ofW HT_.out HW_.out (by kernel_rfl)) (fun _ _ _ h => h) (Or.inl ⟨by rfl, ?_⟩) hHeld ?_ ?_
  rotate_left
  ·rintro w' ⟨s0, s1⟩
   go_simp
   with_reducible rfl
  rotate_left
  ·simp only [Act.put, List.setIfInBounds_toArray, List.set_cons_zero, List.set_cons_succ, i64_w, i32_w]
   rfl
  refine take_ (i := 5) (N := some 13) (v := ?_) (a' := ?_) #[true, true, true, false, true, true, true, false, false, false, false, false] rfl rfl (take_ofW HT_.out HW_.out (by kernel_rfl)) (fun _ _ _ h => h) (Or.inl ⟨by rfl, ?_⟩) hHeld ?_ ?_
  rotate_left
  ·rintro w' ⟨s0, s1⟩
   go_simp
   with_reducible rfl
  rotate_left
  ·simp only [Act.put, List.setIfInBounds_toArray, List.set_cons_zero, List.set_cons_succ, i64_w, i32_w]
   rfl
  refine join_ (σ := Nat × Nat) 2 #[true, true, true, true, true, true, true, true, true, true, false, false] (fun s_ => [(11, .agg #[.int .u64 t142, .int .u64 t143]), (15, .agg #[.int .u64 t144, .int .u64 t145]), (6, .pointer (some ⟨s_.1, 0, none⟩)), (7, .pointer (some ⟨s_.2, 0, none⟩))]) (fun s_ w' => (w'.cell? ⟨gb140, 0, none⟩ = some (.int .u64 a0_0) ∧ w'.cell? ⟨gb140, 1, none⟩ = some (.int .u64 a0_1)) ∧ (w'.heap[gb140]? = some (.cells #[.int .u64 a0_0, .int .u64 a0_1] 49 (0, 0))) ∧ (w'.heap[gb141]? = some (.cells #[.int .u64 0, .int .u64 0] 49 (0, 0))) ∧ (w'.heap[s_.1]? = some (.cells #[.int .u64 0, .int .u64 0] 49 (0, 0))) ∧ (w'.heap[s_.2]? = some (.cells #[.int .u64 0, .int .u64 0] 49 (0, 0))) ∧ (w.heap.size ≤ s_.1) ∧ (w.heap.size ≤ s_.1) ∧ (gb140 ≠ s_.1) ∧ (s_.1 ≠ gb140) ∧ (gb141 ≠ s_.1) ∧ (s_.1 ≠ gb141) ∧ (s_.2 ≠ s_.1) ∧ (s_.1 ≠ s_.2) ∧ (w.heap.size ≤ s_.2) ∧ (w.heap.size ≤ s_.2) ∧ (gb140 ≠ s_.2) ∧ (s_.2 ≠ gb140) ∧ (gb141 ≠ s_.2) ∧ (s_.2 ≠ gb141) ∧ (Below w.heap.size w w')) ?_ ?_
  rotate_left
  ·intro hJ3_7_8_9
   refine join_ (σ := Nat) 3 #[true, true, true, true, true, true, true, true, true, false, false, false] (fun s_ => [(11, .agg #[.int .u64 t142, .int .u64 t143]), (15, .agg #[.int .u64 t144, .int .u64 t145]), (6, .pointer (some ⟨s_, 0, none⟩))]) (fun s_ w' => (w'.cell? ⟨gb140, 0, none⟩ = some (.int .u64 a0_0) ∧ w'.cell? ⟨gb140, 1, none⟩ = some (.int .u64 a0_1)) ∧ (w'.heap[gb140]? = some (.cells #[.int .u64 a0_0, .int .u64 a0_1] 49 (0, 0))) ∧ (w'.heap[gb141]? = some (.cells #[.int .u64 0, .int .u64 0] 49 (0, 0))) ∧ (w'.heap[s_]? = some (.cells #[.int .u64 0, .int .u64 0] 49 (0, 0))) ∧ (w.heap.size ≤ s_) ∧ (w.heap.size ≤ s_) ∧ (gb140 ≠ s_) ∧ (s_ ≠ gb140) ∧ (gb141 ≠ s_) ∧ (s_ ≠ gb141) ∧ (Below w.heap.size w w')) ?_ ?_
   rotate_left
   ·intro hJ3_7_8
    refine join_ (σ := Nat) 3 #[true, true, true, true, true, true, true, true, false, true, false, false] (fun s_ => [(11, .agg #[.int .u64 t142, .int .u64 t143]), (15, .agg #[.int .u64 t144, .int .u64 t145]), (7, .pointer (some ⟨s_, 0, none⟩))]) (fun s_ w' => (w'.cell? ⟨gb140, 0, none⟩ = some (.int .u64 a0_0) ∧ w'.cell? ⟨gb140, 1, none⟩ = some (.int .u64 a0_1)) ∧ (w'.heap[gb140]? = some (.cells #[.int .u64 a0_0, .int .u64 a0_1] 49 (0, 0))) ∧ (w'.heap[gb141]? = some (.cells #[.int .u64 0, .int .u64 0] 49 (0, 0))) ∧ (w'.heap[s_]? = some (.cells #[.int .u64 0, .int .u64 0] 49 (0, 0))) ∧ (w.heap.size ≤ s_) ∧ (w.heap.size ≤ s_) ∧ (gb140 ≠ s_) ∧ (s_ ≠ gb140) ∧ (gb141 ≠ s_) ∧ (s_ ≠ gb141) ∧ (Below w.heap.size w w')) ?_ ?_
    rotate_left
    ·intro hJ3_7_9
     refine join_ (σ := Nat × Nat) 3 #[true, true, true, true, true, true, true, false, true, true, false, false] (fun s_ => [(11, .agg #[.int .u64 t142, .int .u64 t143]), (6, .pointer (some ⟨s_.1, 0, none⟩)), (7, .pointer (some ⟨s_.2, 0, none⟩))]) (fun s_ w' => (w'.cell? ⟨gb140, 0, none⟩ = some (.int .u64 a0_0) ∧ w'.cell? ⟨gb140, 1, none⟩ = some (.int .u64 a0_1)) ∧ (w'.heap[gb140]? = some (.cells #[.int .u64 a0_0, .int .u64 a0_1] 49 (0, 0))) ∧ (w'.heap[gb141]? = some (.cells #[.int .u64 0, .int .u64 0] 49 (0, 0))) ∧ (w'.heap[s_.1]? = some (.cells #[.int .u64 0, .int .u64 0] 49 (0, 0))) ∧ (w'.heap[s_.2]? = some (.cells #[.int .u64 0, .int .u64 0] 49 (0, 0))) ∧ (w.heap.size ≤ s_.1) ∧ (w.heap.size ≤ s_.1) ∧ (gb140 ≠ s_.1) ∧ (s_.1 ≠ gb140) ∧ (gb141 ≠ s_.1) ∧ (s_.1 ≠ gb141) ∧ (s_.2 ≠ s_.1) ∧ (s_.1 ≠ s_.2) ∧ (w.heap.size ≤ s_.2) ∧ (w.heap.size ≤ s_.2) ∧ (gb140 ≠ s_.2) ∧ (s_.2 ≠ gb140) ∧ (gb141 ≠ s_.2) ∧ (s_.2 ≠ gb141) ∧ (Below w.heap.size w w')) ?_ ?_
     rotate_left
     ·intro hJ3_8_9
      refine join_ (σ := Unit) 4 #[true, true, true, true, true, true, true, true, false, false, false, false] (fun s_ => [(11, .agg #[.int .u64 t142, .int .u64 t143]), (15, .agg #[.int .u64 t144, .int .u64 t145])]) (fun s_ w' => (w'.cell? ⟨gb140, 0, none⟩ = some (.int .u64 a0_0) ∧ w'.cell? ⟨gb140, 1, none⟩ = some (.int .u64 a0_1)) ∧ (w'.heap[gb140]? = some (.cells #[.int .u64 a0_0, .int .u64 a0_1] 49 (0, 0))) ∧ (w'.heap[gb141]? = some (.cells #[.int .u64 0, .int .u64 0] 49 (0, 0))) ∧ (Below w.heap.size w w')) ?_ ?_
      rotate_left
      ·intro hJ3_7
       refine join_ (σ := Nat) 4 #[true, true, true, true, true, true, true, false, true, false, false, false] (fun s_ => [(11, .agg #[.int .u64 t142, .int .u64 t143]), (6, .pointer (some ⟨s_, 0, none⟩))]) (fun s_ w' => (w'.cell? ⟨gb140, 0, none⟩ = some (.int .u64 a0_0) ∧ w'.cell? ⟨gb140, 1, none⟩ = some (.int .u64 a0_1)) ∧ (w'.heap[gb140]? = some (.cells #[.int .u64 a0_0, .int .u64 a0_1] 49 (0, 0))) ∧ (w'.heap[gb141]? = some (.cells #[.int .u64 0, .int .u64 0] 49 (0, 0))) ∧ (w'.heap[s_]? = some (.cells #[.int .u64 0, .int .u64 0] 49 (0, 0))) ∧ (w.heap.size ≤ s_) ∧ (w.heap.size ≤ s_) ∧ (gb140 ≠ s_) ∧ (s_ ≠ gb140) ∧ (gb141 ≠ s_) ∧ (s_ ≠ gb141) ∧ (Below w.heap.size w w')) ?_ ?_
       rotate_left
       ·intro hJ3_8
        refine join_ (σ := Nat) 4 #[true, true, true, true, true, true, true, false, false, true, false, false] (fun s_ => [(11, .agg #[.int .u64 t142, .int .u64 t143]), (7, .pointer (some ⟨s_, 0, none⟩))]) (fun s_ w' => (w'.cell? ⟨gb140, 0, none⟩ = some (.int .u64 a0_0) ∧ w'.cell? ⟨gb140, 1, none⟩ = some (.int .u64 a0_1)) ∧ (w'.heap[gb140]? = some (.cells #[.int .u64 a0_0, .int .u64 a0_1] 49 (0, 0))) ∧ (w'.heap[gb141]? = some (.cells #[.int .u64 0, .int .u64 0] 49 (0, 0))) ∧ (w'.heap[s_]? = some (.cells #[.int .u64 0, .int .u64 0] 49 (0, 0))) ∧ (w.heap.size ≤ s_) ∧ (w.heap.size ≤ s_) ∧ (gb140 ≠ s_) ∧ (s_ ≠ gb140) ∧ (gb141 ≠ s_) ∧ (s_ ≠ gb141) ∧ (Below w.heap.size w w')) ?_ ?_
        rotate_left
        ·intro hJ3_9
         refine join_ (σ := Nat × Nat) 4 #[true, true, true, false, true, true, true, false, true, true, false, false] (fun s_ => [(6, .pointer (some ⟨s_.1, 0, none⟩)), (7, .pointer (some ⟨s_.2, 0, none⟩))]) (fun s_ w' => (w'.cell? ⟨gb140, 0, none⟩ = some (.int .u64 a0_0) ∧ w'.cell? ⟨gb140, 1, none⟩ = some (.int .u64 a0_1)) ∧ (w'.heap[gb140]? = some (.cells #[.int .u64 a0_0, .int .u64 a0_1] 49 (0, 0))) ∧ (w'.heap[gb141]? = some (.cells #[.int .u64 0, .int .u64 0] 49 (0, 0))) ∧ (w'.heap[s_.1]? = some (.cells #[.int .u64 0, .int .u64 0] 49 (0, 0))) ∧ (w'.heap[s_.2]? = some (.cells #[.int .u64 0, .int .u64 0] 49 (0, 0))) ∧ (w.heap.size ≤ s_.1) ∧ (w.heap.size ≤ s_.1) ∧ (gb140 ≠ s_.1) ∧ (s_.1 ≠ gb140) ∧ (gb141 ≠ s_.1) ∧ (s_.1 ≠ gb141) ∧ (s_.2 ≠ s_.1) ∧ (s_.1 ≠ s_.2) ∧ (w.heap.size ≤ s_.2) ∧ (w.heap.size ≤ s_.2) ∧ (gb140 ≠ s_.2) ∧ (s_.2 ≠ gb140) ∧ (gb141 ≠ s_.2) ∧ (s_.2 ≠ gb141) ∧ (Below w.heap.size w w')) ?_ ?_
         rotate_left
         ·intro hJ8_9
          refine join_ (σ := Unit) 5 #[true, true, true, true, true, true, true, false, false, false, false, false] (fun s_ => [(11, .agg #[.int .u64 t142, .int .u64 t143])]) (fun s_ w' => (w'.cell? ⟨gb140, 0, none⟩ = some (.int .u64 a0_0) ∧ w'.cell? ⟨gb140, 1, none⟩ = some (.int .u64 a0_1)) ∧ (w'.heap[gb140]? = some (.cells #[.int .u64 a0_0, .int .u64 a0_1] 49 (0, 0))) ∧ (w'.heap[gb141]? = some (.cells #[.int .u64 0, .int .u64 0] 49 (0, 0))) ∧ (Below w.heap.size w w')) ?_ ?_
          rotate_left
          ·intro hJ3
           refine join_ (σ := Nat) 5 #[true, true, true, false, true, true, true, false, true, false, false, false] (fun s_ => [(6, .pointer (some ⟨s_, 0, none⟩))]) (fun s_ w' => (w'.cell? ⟨gb140, 0, none⟩ = some (.int .u64 a0_0) ∧ w'.cell? ⟨gb140, 1, none⟩ = some (.int .u64 a0_1)) ∧ (w'.heap[gb140]? = some (.cells #[.int .u64 a0_0, .int .u64 a0_1] 49 (0, 0))) ∧ (w'.heap[gb141]? = some (.cells #[.int .u64 0, .int .u64 0] 49 (0, 0))) ∧ (w'.heap[s_]? = some (.cells #[.int .u64 0, .int .u64 0] 49 (0, 0))) ∧ (w.heap.size ≤ s_) ∧ (w.heap.size ≤ s_) ∧ (gb140 ≠ s_) ∧ (s_ ≠ gb140) ∧ (gb141 ≠ s_) ∧ (s_ ≠ gb141) ∧ (Below w.heap.size w w')) ?_ ?_
           rotate_left
           ·intro hJ8
            refine join_ (σ := Nat) 5 #[true, true, true, false, true, true, true, false, false, true, false, false] (fun s_ => [(7, .pointer (some ⟨s_, 0, none⟩))]) (fun s_ w' => (w'.cell? ⟨gb140, 0, none⟩ = some (.int .u64 a0_0) ∧ w'.cell? ⟨gb140, 1, none⟩ = some (.int .u64 a0_1)) ∧ (w'.heap[gb140]? = some (.cells #[.int .u64 a0_0, .int .u64 a0_1] 49 (0, 0))) ∧ (w'.heap[gb141]? = some (.cells #[.int .u64 0, .int .u64 0] 49 (0, 0))) ∧ (w'.heap[s_]? = some (.cells #[.int .u64 0, .int .u64 0] 49 (0, 0))) ∧ (w.heap.size ≤ s_) ∧ (w.heap.size ≤ s_) ∧ (gb140 ≠ s_) ∧ (s_ ≠ gb140) ∧ (gb141 ≠ s_) ∧ (s_ ≠ gb141) ∧ (Below w.heap.size w w')) ?_ ?_
            rotate_left
            ·intro hJ9
             refine three_ (i := 3) (j := 8) (k := 9) (Ni := some 11) (Nj := some 6) (Nk := some 7) #[true, true, true, true, true, true, true, false, false, false, false, false] #[true, true, true, false, true, true, true, false, true, false, false, false] #[true, true, true, false, true, true, true, false, false, true, false, false] rfl rfl rfl rfl rfl rfl (three_of HT_.out (by kernel_rfl)) (by decide) (by decide) (by decide) (fun K hK => ?_) (fun K hK => ?_) (fun K hK => ?_)
             ·skip
              refine goes_ Try.func59 (by kernel_rfl) rfl #[.int .u64 a0_1, .int .u64 a1] (by rfl) rfl rfl (by (try simp only [List.map_toArray, List.map_cons, List.map_nil]); first | done | rfl | (simp only [List.length_drop, List.length_take]; rfl)) ?_
              with_reducible refine (wide_Mul.calls a0_1 a1 t142 t143 _ A3.out).mono ?_
              rintro e w10 ⟨rfl, hb⟩
              refine ⟨_, rfl, ?_⟩
              have n0_ := Aside0.mk (blk_below (g := gb140) (o := .cells #[.int .u64 a0_0, .int .u64 a0_1] 49 (0, 0)) (XOpen.bk BK140.out) hb)
              have n1_ := Aside0.mk (blk_below (g := gb141) (o := .cells #[.int .u64 0, .int .u64 0] 49 (0, 0)) (XOpen.bk BK141.out) hb)
              have n2_ := Aside0.mk (below_step (XOpen.bl2 HB.out GE140.out GE141.out) hb)
              clear BK140
              clear BK141
              clear HB
              have BK140 := n0_
              have BK141 := n1_
              have HB := n2_
              clear n0_ n1_ n2_
              (try clear hb)
              (try clear hb2)
              (try clear hk)
              (try clear hi)
              refine hK.out _ _ ⟨(blk_cell BK140.out 0).trans rfl, (blk_cell BK140.out 1).trans rfl⟩ (fun hHeld => ?_)
              clear hK K
              refine norm_ (a' := ?_) ?_ ?_
              rotate_left
              ·show Act.put _ (some 11) _ = _
               simp only [Act.put, List.setIfInBounds_toArray, List.set_cons_zero, List.set_cons_succ, i64_w, i32_w]
               rfl
              exact norm_ (by first | (simp only [putAll, Act.put, List.setIfInBounds_toArray, List.set_cons_zero, List.set_cons_succ]; done) | (simp only [putAll, Act.put, List.setIfInBounds_toArray, List.set_cons_zero, List.set_cons_succ]; rfl)) (hJ3 () _ ⟨hHeld, (XOpen.bk BK140.out), (XOpen.bk BK141.out), (XOpen.bl2 HB.out GE140.out GE141.out)⟩)
             ·skip
              refine box_step ?hg (N := 6) ?hd (cs := #[.int .u64 0, .int .u64 0]) (t := 49) ?hr ?_; (case hd => rfl); (case hg => rfl); (case hr => first | (go_simp; done) | (go_simp; rfl))
              intro gb146 hg w10 hbox hb
              have n0_ := Aside0.mk (blk_below (g := gb140) (o := .cells #[.int .u64 a0_0, .int .u64 a0_1] 49 (0, 0)) (XOpen.bk BK140.out) hb)
              have n1_ := Aside0.mk (blk_below (g := gb141) (o := .cells #[.int .u64 0, .int .u64 0] 49 (0, 0)) (XOpen.bk BK141.out) hb)
              have n2_ := Aside0.mk (below_step (XOpen.bl2 HB.out GE140.out GE141.out) hb)
              have n3_ := Aside0.mk (hbox)
              have n4_ := Aside0.mk ((by rw [hg]; exact (below_size (XOpen.bl2 HB.out GE140.out GE141.out)) : w.heap.size ≤ gb146))
              have n5_ := Aside0.mk ((by rw [hg]; exact (below_size (XOpen.bl2 HB.out GE140.out GE141.out)) : w.heap.size ≤ gb146))
              have n6_ := Aside0.mk ((by rw [hg]; exact Nat.ne_of_lt (blk_lt (g := gb140) (o := .cells #[.int .u64 a0_0, .int .u64 a0_1] 49 (0, 0)) (XOpen.bk BK140.out)) : gb140 ≠ gb146))
              have n7_ := Aside0.mk ((by rw [hg]; exact Nat.ne_of_gt (blk_lt (g := gb140) (o := .cells #[.int .u64 a0_0, .int .u64 a0_1] 49 (0, 0)) (XOpen.bk BK140.out)) : gb146 ≠ gb140))
              have n8_ := Aside0.mk ((by rw [hg]; exact Nat.ne_of_lt (blk_lt (g := gb141) (o := .cells #[.int .u64 0, .int .u64 0] 49 (0, 0)) (XOpen.bk BK141.out)) : gb141 ≠ gb146))
              have n9_ := Aside0.mk ((by rw [hg]; exact Nat.ne_of_gt (blk_lt (g := gb141) (o := .cells #[.int .u64 0, .int .u64 0] 49 (0, 0)) (XOpen.bk BK141.out)) : gb146 ≠ gb141))
              clear BK140
              clear BK141
              clear HB
              have BK140 := n0_
              have BK141 := n1_
              have HB := n2_
              have BK146 := n3_
              have GW146 := n4_
              have GE146 := n5_
              have NB140_146 := n6_
              have NB146_140 := n7_
              have NB141_146 := n8_
              have NB146_141 := n9_
              clear n0_ n1_ n2_ n3_ n4_ n5_ n6_ n7_ n8_ n9_
              clear hb hbox hg
              refine hK.out _ _ ⟨(blk_cell BK140.out 0).trans rfl, (blk_cell BK140.out 1).trans rfl⟩ (fun hHeld => ?_)
              clear hK K
              refine norm_ (a' := ?_) ?_ ?_
              rotate_left
              ·show Act.put _ (some 6) _ = _
               simp only [Act.put, List.setIfInBounds_toArray, List.set_cons_zero, List.set_cons_succ, i64_w, i32_w]
               rfl
              exact norm_ (by first | (simp only [putAll, Act.put, List.setIfInBounds_toArray, List.set_cons_zero, List.set_cons_succ]; done) | (simp only [putAll, Act.put, List.setIfInBounds_toArray, List.set_cons_zero, List.set_cons_succ]; rfl)) (hJ8 (gb146) _ ⟨hHeld, (XOpen.bk BK140.out), (XOpen.bk BK141.out), (XOpen.bk BK146.out), GW146.out, GE146.out, NB140_146.out, NB146_140.out, NB141_146.out, NB146_141.out, (XOpen.bl3 HB.out GE140.out GE141.out GE146.out)⟩)
             ·skip
              refine box_step ?hg (N := 7) ?hd (cs := #[.int .u64 0, .int .u64 0]) (t := 49) ?hr ?_; (case hd => rfl); (case hg => rfl); (case hr => first | (go_simp; done) | (go_simp; rfl))
              intro gb147 hg w10 hbox hb
              have n0_ := Aside0.mk (blk_below (g := gb140) (o := .cells #[.int .u64 a0_0, .int .u64 a0_1] 49 (0, 0)) (XOpen.bk BK140.out) hb)
              have n1_ := Aside0.mk (blk_below (g := gb141) (o := .cells #[.int .u64 0, .int .u64 0] 49 (0, 0)) (XOpen.bk BK141.out) hb)
              have n2_ := Aside0.mk (below_step (XOpen.bl2 HB.out GE140.out GE141.out) hb)
              have n3_ := Aside0.mk (hbox)
              have n4_ := Aside0.mk ((by rw [hg]; exact (below_size (XOpen.bl2 HB.out GE140.out GE141.out)) : w.heap.size ≤ gb147))
              have n5_ := Aside0.mk ((by rw [hg]; exact (below_size (XOpen.bl2 HB.out GE140.out GE141.out)) : w.heap.size ≤ gb147))
              have n6_ := Aside0.mk ((by rw [hg]; exact Nat.ne_of_lt (blk_lt (g := gb140) (o := .cells #[.int .u64 a0_0, .int .u64 a0_1] 49 (0, 0)) (XOpen.bk BK140.out)) : gb140 ≠ gb147))
              have n7_ := Aside0.mk ((by rw [hg]; exact Nat.ne_of_gt (blk_lt (g := gb140) (o := .cells #[.int .u64 a0_0, .int .u64 a0_1] 49 (0, 0)) (XOpen.bk BK140.out)) : gb147 ≠ gb140))
              have n8_ := Aside0.mk ((by rw [hg]; exact Nat.ne_of_lt (blk_lt (g := gb141) (o := .cells #[.int .u64 0, .int .u64 0] 49 (0, 0)) (XOpen.bk BK141.out)) : gb141 ≠ gb147))
              have n9_ := Aside0.mk ((by rw [hg]; exact Nat.ne_of_gt (blk_lt (g := gb141) (o := .cells #[.int .u64 0, .int .u64 0] 49 (0, 0)) (XOpen.bk BK141.out)) : gb147 ≠ gb141))
              clear BK140
              clear BK141
              clear HB
              have BK140 := n0_
              have BK141 := n1_
              have HB := n2_
              have BK147 := n3_
              have GW147 := n4_
              have GE147 := n5_
              have NB140_147 := n6_
              have NB147_140 := n7_
              have NB141_147 := n8_
              have NB147_141 := n9_
              clear n0_ n1_ n2_ n3_ n4_ n5_ n6_ n7_ n8_ n9_
              clear hb hbox hg
              refine hK.out _ _ ⟨(blk_cell BK140.out 0).trans rfl, (blk_cell BK140.out 1).trans rfl⟩ (fun hHeld => ?_)
              clear hK K
              refine norm_ (a' := ?_) ?_ ?_
              rotate_left
              ·show Act.put _ (some 7) _ = _
               simp only [Act.put, List.setIfInBounds_toArray, List.set_cons_zero, List.set_cons_succ, i64_w, i32_w]
               rfl
              exact norm_ (by first | (simp only [putAll, Act.put, List.setIfInBounds_toArray, List.set_cons_zero, List.set_cons_succ]; done) | (simp only [putAll, Act.put, List.setIfInBounds_toArray, List.set_cons_zero, List.set_cons_succ]; rfl)) (hJ9 (gb147) _ ⟨hHeld, (XOpen.bk BK140.out), (XOpen.bk BK141.out), (XOpen.bk BK147.out), GW147.out, GE147.out, NB140_147.out, NB147_140.out, NB141_147.out, NB147_141.out, (XOpen.bl3 HB.out GE140.out GE141.out GE147.out)⟩)
            ·skip
             rintro gb147 w11 ⟨hS_, h0_, h1_, h2_, h3_, h4_, h5_, h6_, h7_, h8_, h9_⟩
             have n0_ : Aside0 (w11.heap[gb140]? = some (.cells #[.int .u64 a0_0, .int .u64 a0_1] 49 (0, 0))) := ⟨h0_⟩
             have n1_ : Aside0 (w11.heap[gb141]? = some (.cells #[.int .u64 0, .int .u64 0] 49 (0, 0))) := ⟨h1_⟩
             have n2_ : Aside0 (w11.heap[gb147]? = some (.cells #[.int .u64 0, .int .u64 0] 49 (0, 0))) := ⟨h2_⟩
             have n3_ : Aside0 (w.heap.size ≤ gb147) := ⟨h3_⟩
             have n4_ : Aside0 (w.heap.size ≤ gb147) := ⟨h4_⟩
             have n5_ : Aside0 (gb140 ≠ gb147) := ⟨h5_⟩
             have n6_ : Aside0 (gb147 ≠ gb140) := ⟨h6_⟩
             have n7_ : Aside0 (gb141 ≠ gb147) := ⟨h7_⟩
             have n8_ : Aside0 (gb147 ≠ gb141) := ⟨h8_⟩
             have n9_ : Aside0 (Below w.heap.size w w11) := ⟨h9_⟩
             clear BK140
             clear BK141
             clear HB
             clear h0_ h1_ h2_ h3_ h4_ h5_ h6_ h7_ h8_ h9_
             have BK140 := n0_
             have BK141 := n1_
             have BK147 := n2_
             have GW147 := n3_
             have GE147 := n4_
             have NB140_147 := n5_
             have NB147_140 := n6_
             have NB141_147 := n7_
             have NB147_141 := n8_
             have HB := n9_
             clear n0_ n1_ n2_ n3_ n4_ n5_ n6_ n7_ n8_ n9_
             have hHeld : w11.cell? ⟨gb140, 0, none⟩ = some (.int .u64 a0_0) ∧ w11.cell? ⟨gb140, 1, none⟩ = some (.int .u64 a0_1) := hS_
             refine norm_ (a' := ?_) ?_ ?_
             rotate_left
             ·simp only [putAll, Act.put, List.setIfInBounds_toArray, List.set_cons_zero, List.set_cons_succ]
              rfl
             refine two_ (i := 3) (j := 8) (Ni := some 11) (Nj := some 6) #[true, true, true, true, true, true, true, false, false, true, false, false] #[true, true, true, false, true, true, true, false, true, true, false, false] rfl rfl rfl rfl (two_of HT_.out (by kernel_rfl)) (by decide) (by decide) (fun K hK => ?_) (fun K hK => ?_)
             ·skip
              refine goes_ Try.func59 (by kernel_rfl) rfl #[.int .u64 a0_1, .int .u64 a1] (by rfl) rfl rfl (by (try simp only [List.map_toArray, List.map_cons, List.map_nil]); first | done | rfl | (simp only [List.length_drop, List.length_take]; rfl)) ?_
              with_reducible refine (wide_Mul.calls a0_1 a1 t142 t143 _ A3.out).mono ?_
              rintro e w12 ⟨rfl, hb⟩
              refine ⟨_, rfl, ?_⟩
              have n0_ := Aside0.mk (blk_below (g := gb140) (o := .cells #[.int .u64 a0_0, .int .u64 a0_1] 49 (0, 0)) (XOpen.bk BK140.out) hb)
              have n1_ := Aside0.mk (blk_below (g := gb141) (o := .cells #[.int .u64 0, .int .u64 0] 49 (0, 0)) (XOpen.bk BK141.out) hb)
              have n2_ := Aside0.mk (blk_below (g := gb147) (o := .cells #[.int .u64 0, .int .u64 0] 49 (0, 0)) (XOpen.bk BK147.out) hb)
              have n3_ := Aside0.mk (below_step (XOpen.bl3 HB.out GE140.out GE141.out GE147.out) hb)
              clear BK140
              clear BK141
              clear BK147
              clear HB
              have BK140 := n0_
              have BK141 := n1_
              have BK147 := n2_
              have HB := n3_
              clear n0_ n1_ n2_ n3_
              (try clear hb)
              (try clear hb2)
              (try clear hk)
              (try clear hi)
              refine hK.out _ _ ⟨(blk_cell BK140.out 0).trans rfl, (blk_cell BK140.out 1).trans rfl⟩ (fun hHeld => ?_)
              clear hK K
              refine norm_ (a' := ?_) ?_ ?_
              rotate_left
              ·show Act.put _ (some 11) _ = _
               simp only [Act.put, List.setIfInBounds_toArray, List.set_cons_zero, List.set_cons_succ, i64_w, i32_w]
               rfl
              exact norm_ (by first | (simp only [putAll, Act.put, List.setIfInBounds_toArray, List.set_cons_zero, List.set_cons_succ]; done) | (simp only [putAll, Act.put, List.setIfInBounds_toArray, List.set_cons_zero, List.set_cons_succ]; rfl)) (hJ3_9 (gb147) _ ⟨hHeld, (XOpen.bk BK140.out), (XOpen.bk BK141.out), (XOpen.bk BK147.out), GW147.out, GE147.out, NB140_147.out, NB147_140.out, NB141_147.out, NB147_141.out, (XOpen.bl3 HB.out GE140.out GE141.out GE147.out)⟩)
             ·skip
              refine box_step ?hg (N := 6) ?hd (cs := #[.int .u64 0, .int .u64 0]) (t := 49) ?hr ?_; (case hd => rfl); (case hg => rfl); (case hr => first | (go_simp; done) | (go_simp; rfl))
              intro gb146 hg w12 hbox hb
              have n0_ := Aside0.mk (blk_below (g := gb140) (o := .cells #[.int .u64 a0_0, .int .u64 a0_1] 49 (0, 0)) (XOpen.bk BK140.out) hb)
              have n1_ := Aside0.mk (blk_below (g := gb141) (o := .cells #[.int .u64 0, .int .u64 0] 49 (0, 0)) (XOpen.bk BK141.out) hb)
              have n2_ := Aside0.mk (blk_below (g := gb147) (o := .cells #[.int .u64 0, .int .u64 0] 49 (0, 0)) (XOpen.bk BK147.out) hb)
              have n3_ := Aside0.mk (below_step (XOpen.bl3 HB.out GE140.out GE141.out GE147.out) hb)
              have n4_ := Aside0.mk (hbox)
              have n5_ := Aside0.mk ((by rw [hg]; exact (below_size (XOpen.bl3 HB.out GE140.out GE141.out GE147.out)) : w.heap.size ≤ gb146))
              have n6_ := Aside0.mk ((by rw [hg]; exact (below_size (XOpen.bl3 HB.out GE140.out GE141.out GE147.out)) : w.heap.size ≤ gb146))
              have n7_ := Aside0.mk ((by rw [hg]; exact Nat.ne_of_lt (blk_lt (g := gb140) (o := .cells #[.int .u64 a0_0, .int .u64 a0_1] 49 (0, 0)) (XOpen.bk BK140.out)) : gb140 ≠ gb146))
              have n8_ := Aside0.mk ((by rw [hg]; exact Nat.ne_of_gt (blk_lt (g := gb140) (o := .cells #[.int .u64 a0_0, .int .u64 a0_1] 49 (0, 0)) (XOpen.bk BK140.out)) : gb146 ≠ gb140))
              have n9_ := Aside0.mk ((by rw [hg]; exact Nat.ne_of_lt (blk_lt (g := gb141) (o := .cells #[.int .u64 0, .int .u64 0] 49 (0, 0)) (XOpen.bk BK141.out)) : gb141 ≠ gb146))
              have n10_ := Aside0.mk ((by rw [hg]; exact Nat.ne_of_gt (blk_lt (g := gb141) (o := .cells #[.int .u64 0, .int .u64 0] 49 (0, 0)) (XOpen.bk BK141.out)) : gb146 ≠ gb141))
              have n11_ := Aside0.mk ((by rw [hg]; exact Nat.ne_of_lt (blk_lt (g := gb147) (o := .cells #[.int .u64 0, .int .u64 0] 49 (0, 0)) (XOpen.bk BK147.out)) : gb147 ≠ gb146))
              have n12_ := Aside0.mk ((by rw [hg]; exact Nat.ne_of_gt (blk_lt (g := gb147) (o := .cells #[.int .u64 0, .int .u64 0] 49 (0, 0)) (XOpen.bk BK147.out)) : gb146 ≠ gb147))
              clear BK140
              clear BK141
              clear BK147
              clear HB
              have BK140 := n0_
              have BK141 := n1_
              have BK147 := n2_
              have HB := n3_
              have BK146 := n4_
              have GW146 := n5_
              have GE146 := n6_
              have NB140_146 := n7_
              have NB146_140 := n8_
              have NB141_146 := n9_
              have NB146_141 := n10_
              have NB147_146 := n11_
              have NB146_147 := n12_
              clear n0_ n1_ n2_ n3_ n4_ n5_ n6_ n7_ n8_ n9_ n10_ n11_ n12_
              clear hb hbox hg
              refine hK.out _ _ ⟨(blk_cell BK140.out 0).trans rfl, (blk_cell BK140.out 1).trans rfl⟩ (fun hHeld => ?_)
              clear hK K
              refine norm_ (a' := ?_) ?_ ?_
              rotate_left
              ·show Act.put _ (some 6) _ = _
               simp only [Act.put, List.setIfInBounds_toArray, List.set_cons_zero, List.set_cons_succ, i64_w, i32_w]
               rfl
              exact norm_ (by first | (simp only [putAll, Act.put, List.setIfInBounds_toArray, List.set_cons_zero, List.set_cons_succ]; done) | (simp only [putAll, Act.put, List.setIfInBounds_toArray, List.set_cons_zero, List.set_cons_succ]; rfl)) (hJ8_9 (gb146, gb147) _ ⟨hHeld, (XOpen.bk BK140.out), (XOpen.bk BK141.out), (XOpen.bk BK146.out), (XOpen.bk BK147.out), GW146.out, GE146.out, NB140_146.out, NB146_140.out, NB141_146.out, NB146_141.out, NB147_146.out, NB146_147.out, GW147.out, GE147.out, NB140_147.out, NB147_140.out, NB141_147.out, NB147_141.out, (XOpen.bl4 HB.out GE140.out GE141.out GE147.out GE146.out)⟩)
           ·skip
            rintro gb146 w11 ⟨hS_, h0_, h1_, h2_, h3_, h4_, h5_, h6_, h7_, h8_, h9_⟩
            have n0_ : Aside0 (w11.heap[gb140]? = some (.cells #[.int .u64 a0_0, .int .u64 a0_1] 49 (0, 0))) := ⟨h0_⟩
            have n1_ : Aside0 (w11.heap[gb141]? = some (.cells #[.int .u64 0, .int .u64 0] 49 (0, 0))) := ⟨h1_⟩
            have n2_ : Aside0 (w11.heap[gb146]? = some (.cells #[.int .u64 0, .int .u64 0] 49 (0, 0))) := ⟨h2_⟩
            have n3_ : Aside0 (w.heap.size ≤ gb146) := ⟨h3_⟩
            have n4_ : Aside0 (w.heap.size ≤ gb146) := ⟨h4_⟩
            have n5_ : Aside0 (gb140 ≠ gb146) := ⟨h5_⟩
            have n6_ : Aside0 (gb146 ≠ gb140) := ⟨h6_⟩
            have n7_ : Aside0 (gb141 ≠ gb146) := ⟨h7_⟩
            have n8_ : Aside0 (gb146 ≠ gb141) := ⟨h8_⟩
            have n9_ : Aside0 (Below w.heap.size w w11) := ⟨h9_⟩
            clear BK140
            clear BK141
            clear HB
            clear h0_ h1_ h2_ h3_ h4_ h5_ h6_ h7_ h8_ h9_
            have BK140 := n0_
            have BK141 := n1_
            have BK146 := n2_
            have GW146 := n3_
            have GE146 := n4_
            have NB140_146 := n5_
            have NB146_140 := n6_
            have NB141_146 := n7_
            have NB146_141 := n8_
            have HB := n9_
            clear n0_ n1_ n2_ n3_ n4_ n5_ n6_ n7_ n8_ n9_
            have hHeld : w11.cell? ⟨gb140, 0, none⟩ = some (.int .u64 a0_0) ∧ w11.cell? ⟨gb140, 1, none⟩ = some (.int .u64 a0_1) := hS_
            refine norm_ (a' := ?_) ?_ ?_
            rotate_left
            ·simp only [putAll, Act.put, List.setIfInBounds_toArray, List.set_cons_zero, List.set_cons_succ]
             rfl
            refine two_ (i := 3) (j := 9) (Ni := some 11) (Nj := some 7) #[true, true, true, true, true, true, true, false, true, false, false, false] #[true, true, true, false, true, true, true, false, true, true, false, false] rfl rfl rfl rfl (two_of HT_.out (by kernel_rfl)) (by decide) (by decide) (fun K hK => ?_) (fun K hK => ?_)
            ·skip
             refine goes_ Try.func59 (by kernel_rfl) rfl #[.int .u64 a0_1, .int .u64 a1] (by rfl) rfl rfl (by (try simp only [List.map_toArray, List.map_cons, List.map_nil]); first | done | rfl | (simp only [List.length_drop, List.length_take]; rfl)) ?_
             with_reducible refine (wide_Mul.calls a0_1 a1 t142 t143 _ A3.out).mono ?_
             rintro e w12 ⟨rfl, hb⟩
             refine ⟨_, rfl, ?_⟩
             have n0_ := Aside0.mk (blk_below (g := gb140) (o := .cells #[.int .u64 a0_0, .int .u64 a0_1] 49 (0, 0)) (XOpen.bk BK140.out) hb)
             have n1_ := Aside0.mk (blk_below (g := gb141) (o := .cells #[.int .u64 0, .int .u64 0] 49 (0, 0)) (XOpen.bk BK141.out) hb)
             have n2_ := Aside0.mk (blk_below (g := gb146) (o := .cells #[.int .u64 0, .int .u64 0] 49 (0, 0)) (XOpen.bk BK146.out) hb)
             have n3_ := Aside0.mk (below_step (XOpen.bl3 HB.out GE140.out GE141.out GE146.out) hb)
             clear BK140
             clear BK141
             clear BK146
             clear HB
             have BK140 := n0_
             have BK141 := n1_
             have BK146 := n2_
             have HB := n3_
             clear n0_ n1_ n2_ n3_
             (try clear hb)
             (try clear hb2)
             (try clear hk)
             (try clear hi)
             refine hK.out _ _ ⟨(blk_cell BK140.out 0).trans rfl, (blk_cell BK140.out 1).trans rfl⟩ (fun hHeld => ?_)
             clear hK K
             refine norm_ (a' := ?_) ?_ ?_
             rotate_left
             ·show Act.put _ (some 11) _ = _
              simp only [Act.put, List.setIfInBounds_toArray, List.set_cons_zero, List.set_cons_succ, i64_w, i32_w]
              rfl
             exact norm_ (by first | (simp only [putAll, Act.put, List.setIfInBounds_toArray, List.set_cons_zero, List.set_cons_succ]; done) | (simp only [putAll, Act.put, List.setIfInBounds_toArray, List.set_cons_zero, List.set_cons_succ]; rfl)) (hJ3_8 (gb146) _ ⟨hHeld, (XOpen.bk BK140.out), (XOpen.bk BK141.out), (XOpen.bk BK146.out), GW146.out, GE146.out, NB140_146.out, NB146_140.out, NB141_146.out, NB146_141.out, (XOpen.bl3 HB.out GE140.out GE141.out GE146.out)⟩)
            ·skip
             refine box_step ?hg (N := 7) ?hd (cs := #[.int .u64 0, .int .u64 0]) (t := 49) ?hr ?_; (case hd => rfl); (case hg => rfl); (case hr => first | (go_simp; done) | (go_simp; rfl))
             intro gb147 hg w12 hbox hb
             have n0_ := Aside0.mk (blk_below (g := gb140) (o := .cells #[.int .u64 a0_0, .int .u64 a0_1] 49 (0, 0)) (XOpen.bk BK140.out) hb)
             have n1_ := Aside0.mk (blk_below (g := gb141) (o := .cells #[.int .u64 0, .int .u64 0] 49 (0, 0)) (XOpen.bk BK141.out) hb)
             have n2_ := Aside0.mk (blk_below (g := gb146) (o := .cells #[.int .u64 0, .int .u64 0] 49 (0, 0)) (XOpen.bk BK146.out) hb)
             have n3_ := Aside0.mk (below_step (XOpen.bl3 HB.out GE140.out GE141.out GE146.out) hb)
             have n4_ := Aside0.mk (hbox)
             have n5_ := Aside0.mk ((by rw [hg]; exact (below_size (XOpen.bl3 HB.out GE140.out GE141.out GE146.out)) : w.heap.size ≤ gb147))
             have n6_ := Aside0.mk ((by rw [hg]; exact (below_size (XOpen.bl3 HB.out GE140.out GE141.out GE146.out)) : w.heap.size ≤ gb147))
             have n7_ := Aside0.mk ((by rw [hg]; exact Nat.ne_of_lt (blk_lt (g := gb140) (o := .cells #[.int .u64 a0_0, .int .u64 a0_1] 49 (0, 0)) (XOpen.bk BK140.out)) : gb140 ≠ gb147))
             have n8_ := Aside0.mk ((by rw [hg]; exact Nat.ne_of_gt (blk_lt (g := gb140) (o := .cells #[.int .u64 a0_0, .int .u64 a0_1] 49 (0, 0)) (XOpen.bk BK140.out)) : gb147 ≠ gb140))
             have n9_ := Aside0.mk ((by rw [hg]; exact Nat.ne_of_lt (blk_lt (g := gb141) (o := .cells #[.int .u64 0, .int .u64 0] 49 (0, 0)) (XOpen.bk BK141.out)) : gb141 ≠ gb147))
             have n10_ := Aside0.mk ((by rw [hg]; exact Nat.ne_of_gt (blk_lt (g := gb141) (o := .cells #[.int .u64 0, .int .u64 0] 49 (0, 0)) (XOpen.bk BK141.out)) : gb147 ≠ gb141))
             have n11_ := Aside0.mk ((by rw [hg]; exact Nat.ne_of_lt (blk_lt (g := gb146) (o := .cells #[.int .u64 0, .int .u64 0] 49 (0, 0)) (XOpen.bk BK146.out)) : gb146 ≠ gb147))
             have n12_ := Aside0.mk ((by rw [hg]; exact Nat.ne_of_gt (blk_lt (g := gb146) (o := .cells #[.int .u64 0, .int .u64 0] 49 (0, 0)) (XOpen.bk BK146.out)) : gb147 ≠ gb146))
             clear BK140
             clear BK141
             clear BK146
             clear HB
             have BK140 := n0_
             have BK141 := n1_
             have BK146 := n2_
             have HB := n3_
             have BK147 := n4_
             have GW147 := n5_
             have GE147 := n6_
             have NB140_147 := n7_
             have NB147_140 := n8_
             have NB141_147 := n9_
             have NB147_141 := n10_
             have NB146_147 := n11_
             have NB147_146 := n12_
             clear n0_ n1_ n2_ n3_ n4_ n5_ n6_ n7_ n8_ n9_ n10_ n11_ n12_
             clear hb hbox hg
             refine hK.out _ _ ⟨(blk_cell BK140.out 0).trans rfl, (blk_cell BK140.out 1).trans rfl⟩ (fun hHeld => ?_)
             clear hK K
             refine norm_ (a' := ?_) ?_ ?_
             rotate_left
             ·show Act.put _ (some 7) _ = _
              simp only [Act.put, List.setIfInBounds_toArray, List.set_cons_zero, List.set_cons_succ, i64_w, i32_w]
              rfl
             exact norm_ (by first | (simp only [putAll, Act.put, List.setIfInBounds_toArray, List.set_cons_zero, List.set_cons_succ]; done) | (simp only [putAll, Act.put, List.setIfInBounds_toArray, List.set_cons_zero, List.set_cons_succ]; rfl)) (hJ8_9 (gb146, gb147) _ ⟨hHeld, (XOpen.bk BK140.out), (XOpen.bk BK141.out), (XOpen.bk BK146.out), (XOpen.bk BK147.out), GW146.out, GE146.out, NB140_146.out, NB146_140.out, NB141_146.out, NB146_141.out, NB147_146.out, NB146_147.out, GW147.out, GE147.out, NB140_147.out, NB147_140.out, NB141_147.out, NB147_141.out, (XOpen.bl4 HB.out GE140.out GE141.out GE146.out GE147.out)⟩)
          ·skip
           rintro _ w11 ⟨hS_, h0_, h1_, h2_⟩
           have n0_ : Aside0 (w11.heap[gb140]? = some (.cells #[.int .u64 a0_0, .int .u64 a0_1] 49 (0, 0))) := ⟨h0_⟩
           have n1_ : Aside0 (w11.heap[gb141]? = some (.cells #[.int .u64 0, .int .u64 0] 49 (0, 0))) := ⟨h1_⟩
           have n2_ : Aside0 (Below w.heap.size w w11) := ⟨h2_⟩
           clear BK140
           clear BK141
           clear HB
           clear h0_ h1_ h2_
           have BK140 := n0_
           have BK141 := n1_
           have HB := n2_
           clear n0_ n1_ n2_
           have hHeld : w11.cell? ⟨gb140, 0, none⟩ = some (.int .u64 a0_0) ∧ w11.cell? ⟨gb140, 1, none⟩ = some (.int .u64 a0_1) := hS_
           refine norm_ (a' := ?_) ?_ ?_
           rotate_left
           ·simp only [putAll, Act.put, List.setIfInBounds_toArray, List.set_cons_zero, List.set_cons_succ]
            rfl
           refine three_ (i := 7) (j := 8) (k := 9) (Ni := some 15) (Nj := some 6) (Nk := some 7) #[true, true, true, true, true, true, true, true, false, false, false, false] #[true, true, true, true, true, true, true, false, true, false, false, false] #[true, true, true, true, true, true, true, false, false, true, false, false] rfl rfl rfl rfl rfl rfl (three_of HT_.out (by kernel_rfl)) (by decide) (by decide) (by decide) (fun K hK => ?_) (fun K hK => ?_) (fun K hK => ?_)
           ·skip
            refine goes_ Try.func59 (by kernel_rfl) rfl #[.int .u64 a0_0, .int .u64 a1] (by rfl) rfl rfl (by (try simp only [List.map_toArray, List.map_cons, List.map_nil]); first | done | rfl | (simp only [List.length_drop, List.length_take]; rfl)) ?_
            with_reducible refine (wide_Mul.calls a0_0 a1 t144 t145 _ A4.out).mono ?_
            rintro e w12 ⟨rfl, hb⟩
            refine ⟨_, rfl, ?_⟩
            have n0_ := Aside0.mk (blk_below (g := gb140) (o := .cells #[.int .u64 a0_0, .int .u64 a0_1] 49 (0, 0)) (XOpen.bk BK140.out) hb)
            have n1_ := Aside0.mk (blk_below (g := gb141) (o := .cells #[.int .u64 0, .int .u64 0] 49 (0, 0)) (XOpen.bk BK141.out) hb)
            have n2_ := Aside0.mk (below_step (XOpen.bl2 HB.out GE140.out GE141.out) hb)
            clear BK140
            clear BK141
            clear HB
            have BK140 := n0_
            have BK141 := n1_
            have HB := n2_
            clear n0_ n1_ n2_
            (try clear hb)
            (try clear hb2)
            (try clear hk)
            (try clear hi)
            refine hK.out _ _ ⟨(blk_cell BK140.out 0).trans rfl, (blk_cell BK140.out 1).trans rfl⟩ (fun hHeld => ?_)
            clear hK K
            refine norm_ (a' := ?_) ?_ ?_
            rotate_left
            ·show Act.put _ (some 15) _ = _
             simp only [Act.put, List.setIfInBounds_toArray, List.set_cons_zero, List.set_cons_succ, i64_w, i32_w]
             rfl
            exact norm_ (by first | (simp only [putAll, Act.put, List.setIfInBounds_toArray, List.set_cons_zero, List.set_cons_succ]; done) | (simp only [putAll, Act.put, List.setIfInBounds_toArray, List.set_cons_zero, List.set_cons_succ]; rfl)) (hJ3_7 () _ ⟨hHeld, (XOpen.bk BK140.out), (XOpen.bk BK141.out), (XOpen.bl2 HB.out GE140.out GE141.out)⟩)
           ·skip
            refine box_step ?hg (N := 6) ?hd (cs := #[.int .u64 0, .int .u64 0]) (t := 49) ?hr ?_; (case hd => rfl); (case hg => rfl); (case hr => first | (go_simp; done) | (go_simp; rfl))
            intro gb146 hg w12 hbox hb
            have n0_ := Aside0.mk (blk_below (g := gb140) (o := .cells #[.int .u64 a0_0, .int .u64 a0_1] 49 (0, 0)) (XOpen.bk BK140.out) hb)
            have n1_ := Aside0.mk (blk_below (g := gb141) (o := .cells #[.int .u64 0, .int .u64 0] 49 (0, 0)) (XOpen.bk BK141.out) hb)
            have n2_ := Aside0.mk (below_step (XOpen.bl2 HB.out GE140.out GE141.out) hb)
            have n3_ := Aside0.mk (hbox)
            have n4_ := Aside0.mk ((by rw [hg]; exact (below_size (XOpen.bl2 HB.out GE140.out GE141.out)) : w.heap.size ≤ gb146))
            have n5_ := Aside0.mk ((by rw [hg]; exact (below_size (XOpen.bl2 HB.out GE140.out GE141.out)) : w.heap.size ≤ gb146))
            have n6_ := Aside0.mk ((by rw [hg]; exact Nat.ne_of_lt (blk_lt (g := gb140) (o := .cells #[.int .u64 a0_0, .int .u64 a0_1] 49 (0, 0)) (XOpen.bk BK140.out)) : gb140 ≠ gb146))
            have n7_ := Aside0.mk ((by rw [hg]; exact Nat.ne_of_gt (blk_lt (g := gb140) (o := .cells #[.int .u64 a0_0, .int .u64 a0_1] 49 (0, 0)) (XOpen.bk BK140.out)) : gb146 ≠ gb140))
            have n8_ := Aside0.mk ((by rw [hg]; exact Nat.ne_of_lt (blk_lt (g := gb141) (o := .cells #[.int .u64 0, .int .u64 0] 49 (0, 0)) (XOpen.bk BK141.out)) : gb141 ≠ gb146))
            have n9_ := Aside0.mk ((by rw [hg]; exact Nat.ne_of_gt (blk_lt (g := gb141) (o := .cells #[.int .u64 0, .int .u64 0] 49 (0, 0)) (XOpen.bk BK141.out)) : gb146 ≠ gb141))
            clear BK140
            clear BK141
            clear HB
            have BK140 := n0_
            have BK141 := n1_
            have HB := n2_
            have BK146 := n3_
            have GW146 := n4_
            have GE146 := n5_
            have NB140_146 := n6_
            have NB146_140 := n7_
            have NB141_146 := n8_
            have NB146_141 := n9_
            clear n0_ n1_ n2_ n3_ n4_ n5_ n6_ n7_ n8_ n9_
            clear hb hbox hg
            refine hK.out _ _ ⟨(blk_cell BK140.out 0).trans rfl, (blk_cell BK140.out 1).trans rfl⟩ (fun hHeld => ?_)
            clear hK K
            refine norm_ (a' := ?_) ?_ ?_
            rotate_left
            ·show Act.put _ (some 6) _ = _
             simp only [Act.put, List.setIfInBounds_toArray, List.set_cons_zero, List.set_cons_succ, i64_w, i32_w]
             rfl
            exact norm_ (by first | (simp only [putAll, Act.put, List.setIfInBounds_toArray, List.set_cons_zero, List.set_cons_succ]; done) | (simp only [putAll, Act.put, List.setIfInBounds_toArray, List.set_cons_zero, List.set_cons_succ]; rfl)) (hJ3_8 (gb146) _ ⟨hHeld, (XOpen.bk BK140.out), (XOpen.bk BK141.out), (XOpen.bk BK146.out), GW146.out, GE146.out, NB140_146.out, NB146_140.out, NB141_146.out, NB146_141.out, (XOpen.bl3 HB.out GE140.out GE141.out GE146.out)⟩)
           ·skip
            refine box_step ?hg (N := 7) ?hd (cs := #[.int .u64 0, .int .u64 0]) (t := 49) ?hr ?_; (case hd => rfl); (case hg => rfl); (case hr => first | (go_simp; done) | (go_simp; rfl))
            intro gb147 hg w12 hbox hb
            have n0_ := Aside0.mk (blk_below (g := gb140) (o := .cells #[.int .u64 a0_0, .int .u64 a0_1] 49 (0, 0)) (XOpen.bk BK140.out) hb)
            have n1_ := Aside0.mk (blk_below (g := gb141) (o := .cells #[.int .u64 0, .int .u64 0] 49 (0, 0)) (XOpen.bk BK141.out) hb)
            have n2_ := Aside0.mk (below_step (XOpen.bl2 HB.out GE140.out GE141.out) hb)
            have n3_ := Aside0.mk (hbox)
            have n4_ := Aside0.mk ((by rw [hg]; exact (below_size (XOpen.bl2 HB.out GE140.out GE141.out)) : w.heap.size ≤ gb147))
            have n5_ := Aside0.mk ((by rw [hg]; exact (below_size (XOpen.bl2 HB.out GE140.out GE141.out)) : w.heap.size ≤ gb147))
            have n6_ := Aside0.mk ((by rw [hg]; exact Nat.ne_of_lt (blk_lt (g := gb140) (o := .cells #[.int .u64 a0_0, .int .u64 a0_1] 49 (0, 0)) (XOpen.bk BK140.out)) : gb140 ≠ gb147))
            have n7_ := Aside0.mk ((by rw [hg]; exact Nat.ne_of_gt (blk_lt (g := gb140) (o := .cells #[.int .u64 a0_0, .int .u64 a0_1] 49 (0, 0)) (XOpen.bk BK140.out)) : gb147 ≠ gb140))
            have n8_ := Aside0.mk ((by rw [hg]; exact Nat.ne_of_lt (blk_lt (g := gb141) (o := .cells #[.int .u64 0, .int .u64 0] 49 (0, 0)) (XOpen.bk BK141.out)) : gb141 ≠ gb147))
            have n9_ := Aside0.mk ((by rw [hg]; exact Nat.ne_of_gt (blk_lt (g := gb141) (o := .cells #[.int .u64 0, .int .u64 0] 49 (0, 0)) (XOpen.bk BK141.out)) : gb147 ≠ gb141))
            clear BK140
            clear BK141
            clear HB
            have BK140 := n0_
            have BK141 := n1_
            have HB := n2_
            have BK147 := n3_
            have GW147 := n4_
            have GE147 := n5_
            have NB140_147 := n6_
            have NB147_140 := n7_
            have NB141_147 := n8_
            have NB147_141 := n9_
            clear n0_ n1_ n2_ n3_ n4_ n5_ n6_ n7_ n8_ n9_
            clear hb hbox hg
            refine hK.out _ _ ⟨(blk_cell BK140.out 0).trans rfl, (blk_cell BK140.out 1).trans rfl⟩ (fun hHeld => ?_)
            clear hK K
            refine norm_ (a' := ?_) ?_ ?_
            rotate_left
            ·show Act.put _ (some 7) _ = _
             simp only [Act.put, List.setIfInBounds_toArray, List.set_cons_zero, List.set_cons_succ, i64_w, i32_w]
             rfl
            exact norm_ (by first | (simp only [putAll, Act.put, List.setIfInBounds_toArray, List.set_cons_zero, List.set_cons_succ]; done) | (simp only [putAll, Act.put, List.setIfInBounds_toArray, List.set_cons_zero, List.set_cons_succ]; rfl)) (hJ3_9 (gb147) _ ⟨hHeld, (XOpen.bk BK140.out), (XOpen.bk BK141.out), (XOpen.bk BK147.out), GW147.out, GE147.out, NB140_147.out, NB147_140.out, NB141_147.out, NB147_141.out, (XOpen.bl3 HB.out GE140.out GE141.out GE147.out)⟩)
         ·skip
          rintro ⟨gb146, gb147⟩ w12 ⟨hS_, h0_, h1_, h2_, h3_, h4_, h5_, h6_, h7_, h8_, h9_, h10_, h11_, h12_, h13_, h14_, h15_, h16_, h17_, h18_⟩
          have n0_ : Aside0 (w12.heap[gb140]? = some (.cells #[.int .u64 a0_0, .int .u64 a0_1] 49 (0, 0))) := ⟨h0_⟩
          have n1_ : Aside0 (w12.heap[gb141]? = some (.cells #[.int .u64 0, .int .u64 0] 49 (0, 0))) := ⟨h1_⟩
          have n2_ : Aside0 (w12.heap[gb146]? = some (.cells #[.int .u64 0, .int .u64 0] 49 (0, 0))) := ⟨h2_⟩
          have n3_ : Aside0 (w12.heap[gb147]? = some (.cells #[.int .u64 0, .int .u64 0] 49 (0, 0))) := ⟨h3_⟩
          have n4_ : Aside0 (w.heap.size ≤ gb146) := ⟨h4_⟩
          have n5_ : Aside0 (w.heap.size ≤ gb146) := ⟨h5_⟩
          have n6_ : Aside0 (gb140 ≠ gb146) := ⟨h6_⟩
          have n7_ : Aside0 (gb146 ≠ gb140) := ⟨h7_⟩
          have n8_ : Aside0 (gb141 ≠ gb146) := ⟨h8_⟩
          have n9_ : Aside0 (gb146 ≠ gb141) := ⟨h9_⟩
          have n10_ : Aside0 (gb147 ≠ gb146) := ⟨h10_⟩
          have n11_ : Aside0 (gb146 ≠ gb147) := ⟨h11_⟩
          have n12_ : Aside0 (w.heap.size ≤ gb147) := ⟨h12_⟩
          have n13_ : Aside0 (w.heap.size ≤ gb147) := ⟨h13_⟩
          have n14_ : Aside0 (gb140 ≠ gb147) := ⟨h14_⟩
          have n15_ : Aside0 (gb147 ≠ gb140) := ⟨h15_⟩
          have n16_ : Aside0 (gb141 ≠ gb147) := ⟨h16_⟩
          have n17_ : Aside0 (gb147 ≠ gb141) := ⟨h17_⟩
          have n18_ : Aside0 (Below w.heap.size w w12) := ⟨h18_⟩
          clear BK140
          clear BK141
          clear HB
          clear h0_ h1_ h2_ h3_ h4_ h5_ h6_ h7_ h8_ h9_ h10_ h11_ h12_ h13_ h14_ h15_ h16_ h17_ h18_
          have BK140 := n0_
          have BK141 := n1_
          have BK146 := n2_
          have BK147 := n3_
          have GW146 := n4_
          have GE146 := n5_
          have NB140_146 := n6_
          have NB146_140 := n7_
          have NB141_146 := n8_
          have NB146_141 := n9_
          have NB147_146 := n10_
          have NB146_147 := n11_
          have GW147 := n12_
          have GE147 := n13_
          have NB140_147 := n14_
          have NB147_140 := n15_
          have NB141_147 := n16_
          have NB147_141 := n17_
          have HB := n18_
          clear n0_ n1_ n2_ n3_ n4_ n5_ n6_ n7_ n8_ n9_ n10_ n11_ n12_ n13_ n14_ n15_ n16_ n17_ n18_
          have hHeld : w12.cell? ⟨gb140, 0, none⟩ = some (.int .u64 a0_0) ∧ w12.cell? ⟨gb140, 1, none⟩ = some (.int .u64 a0_1) := hS_
          refine norm_ (a' := ?_) ?_ ?_
          rotate_left
          ·simp only [putAll, Act.put, List.setIfInBounds_toArray, List.set_cons_zero, List.set_cons_succ]
           rfl
          refine one_ (i := 3) (N := some 11) #[true, true, true, true, true, true, true, false, true, true, false, false] rfl rfl (one_of HT_.out (by kernel_rfl)) (by decide) (fun K hK => ?_)
          refine goes_ Try.func59 (by kernel_rfl) rfl #[.int .u64 a0_1, .int .u64 a1] (by rfl) rfl rfl (by (try simp only [List.map_toArray, List.map_cons, List.map_nil]); first | done | rfl | (simp only [List.length_drop, List.length_take]; rfl)) ?_
          with_reducible refine (wide_Mul.calls a0_1 a1 t142 t143 _ A3.out).mono ?_
          rintro e w13 ⟨rfl, hb⟩
          refine ⟨_, rfl, ?_⟩
          have n0_ := Aside0.mk (blk_below (g := gb140) (o := .cells #[.int .u64 a0_0, .int .u64 a0_1] 49 (0, 0)) (XOpen.bk BK140.out) hb)
          have n1_ := Aside0.mk (blk_below (g := gb141) (o := .cells #[.int .u64 0, .int .u64 0] 49 (0, 0)) (XOpen.bk BK141.out) hb)
          have n2_ := Aside0.mk (blk_below (g := gb146) (o := .cells #[.int .u64 0, .int .u64 0] 49 (0, 0)) (XOpen.bk BK146.out) hb)
          have n3_ := Aside0.mk (blk_below (g := gb147) (o := .cells #[.int .u64 0, .int .u64 0] 49 (0, 0)) (XOpen.bk BK147.out) hb)
          have n4_ := Aside0.mk (below_step (XOpen.bl4 HB.out GE140.out GE141.out GE146.out GE147.out) hb)
          clear BK140
          clear BK141
          clear BK146
          clear BK147
          clear HB
          have BK140 := n0_
          have BK141 := n1_
          have BK146 := n2_
          have BK147 := n3_
          have HB := n4_
          clear n0_ n1_ n2_ n3_ n4_
          (try clear hb)
          (try clear hb2)
          (try clear hk)
          (try clear hi)
          refine hK.out _ _ ⟨(blk_cell BK140.out 0).trans rfl, (blk_cell BK140.out 1).trans rfl⟩ (fun hHeld => ?_)
          clear hK K
          refine norm_ (a' := ?_) ?_ ?_
          rotate_left
          ·show Act.put _ (some 11) _ = _
           simp only [Act.put, List.setIfInBounds_toArray, List.set_cons_zero, List.set_cons_succ, i64_w, i32_w]
           rfl
          exact norm_ (by first | (simp only [putAll, Act.put, List.setIfInBounds_toArray, List.set_cons_zero, List.set_cons_succ]; done) | (simp only [putAll, Act.put, List.setIfInBounds_toArray, List.set_cons_zero, List.set_cons_succ]; rfl)) (hJ3_8_9 (gb146, gb147) _ ⟨hHeld, (XOpen.bk BK140.out), (XOpen.bk BK141.out), (XOpen.bk BK146.out), (XOpen.bk BK147.out), GW146.out, GE146.out, NB140_146.out, NB146_140.out, NB141_146.out, NB146_141.out, NB147_146.out, NB146_147.out, GW147.out, GE147.out, NB140_147.out, NB147_140.out, NB141_147.out, NB147_141.out, (XOpen.bl4 HB.out GE140.out GE141.out GE146.out GE147.out)⟩)
        ·skip
         rintro gb147 w12 ⟨hS_, h0_, h1_, h2_, h3_, h4_, h5_, h6_, h7_, h8_, h9_⟩
         have n0_ : Aside0 (w12.heap[gb140]? = some (.cells #[.int .u64 a0_0, .int .u64 a0_1] 49 (0, 0))) := ⟨h0_⟩
         have n1_ : Aside0 (w12.heap[gb141]? = some (.cells #[.int .u64 0, .int .u64 0] 49 (0, 0))) := ⟨h1_⟩
         have n2_ : Aside0 (w12.heap[gb147]? = some (.cells #[.int .u64 0, .int .u64 0] 49 (0, 0))) := ⟨h2_⟩
         have n3_ : Aside0 (w.heap.size ≤ gb147) := ⟨h3_⟩
         have n4_ : Aside0 (w.heap.size ≤ gb147) := ⟨h4_⟩
         have n5_ : Aside0 (gb140 ≠ gb147) := ⟨h5_⟩
         have n6_ : Aside0 (gb147 ≠ gb140) := ⟨h6_⟩
         have n7_ : Aside0 (gb141 ≠ gb147) := ⟨h7_⟩
         have n8_ : Aside0 (gb147 ≠ gb141) := ⟨h8_⟩
         have n9_ : Aside0 (Below w.heap.size w w12) := ⟨h9_⟩
         clear BK140
         clear BK141
         clear HB
         clear h0_ h1_ h2_ h3_ h4_ h5_ h6_ h7_ h8_ h9_
         have BK140 := n0_
         have BK141 := n1_
         have BK147 := n2_
         have GW147 := n3_
         have GE147 := n4_
         have NB140_147 := n5_
         have NB147_140 := n6_
         have NB141_147 := n7_
         have NB147_141 := n8_
         have HB := n9_
         clear n0_ n1_ n2_ n3_ n4_ n5_ n6_ n7_ n8_ n9_
         have hHeld : w12.cell? ⟨gb140, 0, none⟩ = some (.int .u64 a0_0) ∧ w12.cell? ⟨gb140, 1, none⟩ = some (.int .u64 a0_1) := hS_
         refine norm_ (a' := ?_) ?_ ?_
         rotate_left
         ·simp only [putAll, Act.put, List.setIfInBounds_toArray, List.set_cons_zero, List.set_cons_succ]
          rfl
         refine two_ (i := 7) (j := 8) (Ni := some 15) (Nj := some 6) #[true, true, true, true, true, true, true, true, false, true, false, false] #[true, true, true, true, true, true, true, false, true, true, false, false] rfl rfl rfl rfl (two_of HT_.out (by kernel_rfl)) (by decide) (by decide) (fun K hK => ?_) (fun K hK => ?_)
         ·skip
          refine goes_ Try.func59 (by kernel_rfl) rfl #[.int .u64 a0_0, .int .u64 a1] (by rfl) rfl rfl (by (try simp only [List.map_toArray, List.map_cons, List.map_nil]); first | done | rfl | (simp only [List.length_drop, List.length_take]; rfl)) ?_
          with_reducible refine (wide_Mul.calls a0_0 a1 t144 t145 _ A4.out).mono ?_
          rintro e w13 ⟨rfl, hb⟩
          refine ⟨_, rfl, ?_⟩
          have n0_ := Aside0.mk (blk_below (g := gb140) (o := .cells #[.int .u64 a0_0, .int .u64 a0_1] 49 (0, 0)) (XOpen.bk BK140.out) hb)
          have n1_ := Aside0.mk (blk_below (g := gb141) (o := .cells #[.int .u64 0, .int .u64 0] 49 (0, 0)) (XOpen.bk BK141.out) hb)
          have n2_ := Aside0.mk (blk_below (g := gb147) (o := .cells #[.int .u64 0, .int .u64 0] 49 (0, 0)) (XOpen.bk BK147.out) hb)
          have n3_ := Aside0.mk (below_step (XOpen.bl3 HB.out GE140.out GE141.out GE147.out) hb)
          clear BK140
          clear BK141
          clear BK147
          clear HB
          have BK140 := n0_
          have BK141 := n1_
          have BK147 := n2_
          have HB := n3_
          clear n0_ n1_ n2_ n3_
          (try clear hb)
          (try clear hb2)
          (try clear hk)
          (try clear hi)
          refine hK.out _ _ ⟨(blk_cell BK140.out 0).trans rfl, (blk_cell BK140.out 1).trans rfl⟩ (fun hHeld => ?_)
          clear hK K
          refine norm_ (a' := ?_) ?_ ?_
          rotate_left
          ·show Act.put _ (some 15) _ = _
           simp only [Act.put, List.setIfInBounds_toArray, List.set_cons_zero, List.set_cons_succ, i64_w, i32_w]
           rfl
          exact norm_ (by first | (simp only [putAll, Act.put, List.setIfInBounds_toArray, List.set_cons_zero, List.set_cons_succ]; done) | (simp only [putAll, Act.put, List.setIfInBounds_toArray, List.set_cons_zero, List.set_cons_succ]; rfl)) (hJ3_7_9 (gb147) _ ⟨hHeld, (XOpen.bk BK140.out), (XOpen.bk BK141.out), (XOpen.bk BK147.out), GW147.out, GE147.out, NB140_147.out, NB147_140.out, NB141_147.out, NB147_141.out, (XOpen.bl3 HB.out GE140.out GE141.out GE147.out)⟩)
         ·skip
          refine box_step ?hg (N := 6) ?hd (cs := #[.int .u64 0, .int .u64 0]) (t := 49) ?hr ?_; (case hd => rfl); (case hg => rfl); (case hr => first | (go_simp; done) | (go_simp; rfl))
          intro gb146 hg w13 hbox hb
          have n0_ := Aside0.mk (blk_below (g := gb140) (o := .cells #[.int .u64 a0_0, .int .u64 a0_1] 49 (0, 0)) (XOpen.bk BK140.out) hb)
          have n1_ := Aside0.mk (blk_below (g := gb141) (o := .cells #[.int .u64 0, .int .u64 0] 49 (0, 0)) (XOpen.bk BK141.out) hb)
          have n2_ := Aside0.mk (blk_below (g := gb147) (o := .cells #[.int .u64 0, .int .u64 0] 49 (0, 0)) (XOpen.bk BK147.out) hb)
          have n3_ := Aside0.mk (below_step (XOpen.bl3 HB.out GE140.out GE141.out GE147.out) hb)
          have n4_ := Aside0.mk (hbox)
          have n5_ := Aside0.mk ((by rw [hg]; exact (below_size (XOpen.bl3 HB.out GE140.out GE141.out GE147.out)) : w.heap.size ≤ gb146))
          have n6_ := Aside0.mk ((by rw [hg]; exact (below_size (XOpen.bl3 HB.out GE140.out GE141.out GE147.out)) : w.heap.size ≤ gb146))
          have n7_ := Aside0.mk ((by rw [hg]; exact Nat.ne_of_lt (blk_lt (g := gb140) (o := .cells #[.int .u64 a0_0, .int .u64 a0_1] 49 (0, 0)) (XOpen.bk BK140.out)) : gb140 ≠ gb146))
          have n8_ := Aside0.mk ((by rw [hg]; exact Nat.ne_of_gt (blk_lt (g := gb140) (o := .cells #[.int .u64 a0_0, .int .u64 a0_1] 49 (0, 0)) (XOpen.bk BK140.out)) : gb146 ≠ gb140))
          have n9_ := Aside0.mk ((by rw [hg]; exact Nat.ne_of_lt (blk_lt (g := gb141) (o := .cells #[.int .u64 0, .int .u64 0] 49 (0, 0)) (XOpen.bk BK141.out)) : gb141 ≠ gb146))
          have n10_ := Aside0.mk ((by rw [hg]; exact Nat.ne_of_gt (blk_lt (g := gb141) (o := .cells #[.int .u64 0, .int .u64 0] 49 (0, 0)) (XOpen.bk BK141.out)) : gb146 ≠ gb141))
          have n11_ := Aside0.mk ((by rw [hg]; exact Nat.ne_of_lt (blk_lt (g := gb147) (o := .cells #[.int .u64 0, .int .u64 0] 49 (0, 0)) (XOpen.bk BK147.out)) : gb147 ≠ gb146))
          have n12_ := Aside0.mk ((by rw [hg]; exact Nat.ne_of_gt (blk_lt (g := gb147) (o := .cells #[.int .u64 0, .int .u64 0] 49 (0, 0)) (XOpen.bk BK147.out)) : gb146 ≠ gb147))
          clear BK140
          clear BK141
          clear BK147
          clear HB
          have BK140 := n0_
          have BK141 := n1_
          have BK147 := n2_
          have HB := n3_
          have BK146 := n4_
          have GW146 := n5_
          have GE146 := n6_
          have NB140_146 := n7_
          have NB146_140 := n8_
          have NB141_146 := n9_
          have NB146_141 := n10_
          have NB147_146 := n11_
          have NB146_147 := n12_
          clear n0_ n1_ n2_ n3_ n4_ n5_ n6_ n7_ n8_ n9_ n10_ n11_ n12_
          clear hb hbox hg
          refine hK.out _ _ ⟨(blk_cell BK140.out 0).trans rfl, (blk_cell BK140.out 1).trans rfl⟩ (fun hHeld => ?_)
          clear hK K
          refine norm_ (a' := ?_) ?_ ?_
          rotate_left
          ·show Act.put _ (some 6) _ = _
           simp only [Act.put, List.setIfInBounds_toArray, List.set_cons_zero, List.set_cons_succ, i64_w, i32_w]
           rfl
          exact norm_ (by first | (simp only [putAll, Act.put, List.setIfInBounds_toArray, List.set_cons_zero, List.set_cons_succ]; done) | (simp only [putAll, Act.put, List.setIfInBounds_toArray, List.set_cons_zero, List.set_cons_succ]; rfl)) (hJ3_8_9 (gb146, gb147) _ ⟨hHeld, (XOpen.bk BK140.out), (XOpen.bk BK141.out), (XOpen.bk BK146.out), (XOpen.bk BK147.out), GW146.out, GE146.out, NB140_146.out, NB146_140.out, NB141_146.out, NB146_141.out, NB147_146.out, NB146_147.out, GW147.out, GE147.out, NB140_147.out, NB147_140.out, NB141_147.out, NB147_141.out, (XOpen.bl4 HB.out GE140.out GE141.out GE147.out GE146.out)⟩)
       ·skip
        rintro gb146 w12 ⟨hS_, h0_, h1_, h2_, h3_, h4_, h5_, h6_, h7_, h8_, h9_⟩
        have n0_ : Aside0 (w12.heap[gb140]? = some (.cells #[.int .u64 a0_0, .int .u64 a0_1] 49 (0, 0))) := ⟨h0_⟩
        have n1_ : Aside0 (w12.heap[gb141]? = some (.cells #[.int .u64 0, .int .u64 0] 49 (0, 0))) := ⟨h1_⟩
        have n2_ : Aside0 (w12.heap[gb146]? = some (.cells #[.int .u64 0, .int .u64 0] 49 (0, 0))) := ⟨h2_⟩
        have n3_ : Aside0 (w.heap.size ≤ gb146) := ⟨h3_⟩
        have n4_ : Aside0 (w.heap.size ≤ gb146) := ⟨h4_⟩
        have n5_ : Aside0 (gb140 ≠ gb146) := ⟨h5_⟩
        have n6_ : Aside0 (gb146 ≠ gb140) := ⟨h6_⟩
        have n7_ : Aside0 (gb141 ≠ gb146) := ⟨h7_⟩
        have n8_ : Aside0 (gb146 ≠ gb141) := ⟨h8_⟩
        have n9_ : Aside0 (Below w.heap.size w w12) := ⟨h9_⟩
        clear BK140
        clear BK141
        clear HB
        clear h0_ h1_ h2_ h3_ h4_ h5_ h6_ h7_ h8_ h9_
        have BK140 := n0_
        have BK141 := n1_
        have BK146 := n2_
        have GW146 := n3_
        have GE146 := n4_
        have NB140_146 := n5_
        have NB146_140 := n6_
        have NB141_146 := n7_
        have NB146_141 := n8_
        have HB := n9_
        clear n0_ n1_ n2_ n3_ n4_ n5_ n6_ n7_ n8_ n9_
        have hHeld : w12.cell? ⟨gb140, 0, none⟩ = some (.int .u64 a0_0) ∧ w12.cell? ⟨gb140, 1, none⟩ = some (.int .u64 a0_1) := hS_
        refine norm_ (a' := ?_) ?_ ?_
        rotate_left
        ·simp only [putAll, Act.put, List.setIfInBounds_toArray, List.set_cons_zero, List.set_cons_succ]
         rfl
        refine two_ (i := 7) (j := 9) (Ni := some 15) (Nj := some 7) #[true, true, true, true, true, true, true, true, true, false, false, false] #[true, true, true, true, true, true, true, false, true, true, false, false] rfl rfl rfl rfl (two_of HT_.out (by kernel_rfl)) (by decide) (by decide) (fun K hK => ?_) (fun K hK => ?_)
        ·skip
         refine goes_ Try.func59 (by kernel_rfl) rfl #[.int .u64 a0_0, .int .u64 a1] (by rfl) rfl rfl (by (try simp only [List.map_toArray, List.map_cons, List.map_nil]); first | done | rfl | (simp only [List.length_drop, List.length_take]; rfl)) ?_
         with_reducible refine (wide_Mul.calls a0_0 a1 t144 t145 _ A4.out).mono ?_
         rintro e w13 ⟨rfl, hb⟩
         refine ⟨_, rfl, ?_⟩
         have n0_ := Aside0.mk (blk_below (g := gb140) (o := .cells #[.int .u64 a0_0, .int .u64 a0_1] 49 (0, 0)) (XOpen.bk BK140.out) hb)
         have n1_ := Aside0.mk (blk_below (g := gb141) (o := .cells #[.int .u64 0, .int .u64 0] 49 (0, 0)) (XOpen.bk BK141.out) hb)
         have n2_ := Aside0.mk (blk_below (g := gb146) (o := .cells #[.int .u64 0, .int .u64 0] 49 (0, 0)) (XOpen.bk BK146.out) hb)
         have n3_ := Aside0.mk (below_step (XOpen.bl3 HB.out GE140.out GE141.out GE146.out) hb)
         clear BK140
         clear BK141
         clear BK146
         clear HB
         have BK140 := n0_
         have BK141 := n1_
         have BK146 := n2_
         have HB := n3_
         clear n0_ n1_ n2_ n3_
         (try clear hb)
         (try clear hb2)
         (try clear hk)
         (try clear hi)
         refine hK.out _ _ ⟨(blk_cell BK140.out 0).trans rfl, (blk_cell BK140.out 1).trans rfl⟩ (fun hHeld => ?_)
         clear hK K
         refine norm_ (a' := ?_) ?_ ?_
         rotate_left
         ·show Act.put _ (some 15) _ = _
          simp only [Act.put, List.setIfInBounds_toArray, List.set_cons_zero, List.set_cons_succ, i64_w, i32_w]
          rfl
         exact norm_ (by first | (simp only [putAll, Act.put, List.setIfInBounds_toArray, List.set_cons_zero, List.set_cons_succ]; done) | (simp only [putAll, Act.put, List.setIfInBounds_toArray, List.set_cons_zero, List.set_cons_succ]; rfl)) (hJ3_7_8 (gb146) _ ⟨hHeld, (XOpen.bk BK140.out), (XOpen.bk BK141.out), (XOpen.bk BK146.out), GW146.out, GE146.out, NB140_146.out, NB146_140.out, NB141_146.out, NB146_141.out, (XOpen.bl3 HB.out GE140.out GE141.out GE146.out)⟩)
        ·skip
         refine box_step ?hg (N := 7) ?hd (cs := #[.int .u64 0, .int .u64 0]) (t := 49) ?hr ?_; (case hd => rfl); (case hg => rfl); (case hr => first | (go_simp; done) | (go_simp; rfl))
         intro gb147 hg w13 hbox hb
         have n0_ := Aside0.mk (blk_below (g := gb140) (o := .cells #[.int .u64 a0_0, .int .u64 a0_1] 49 (0, 0)) (XOpen.bk BK140.out) hb)
         have n1_ := Aside0.mk (blk_below (g := gb141) (o := .cells #[.int .u64 0, .int .u64 0] 49 (0, 0)) (XOpen.bk BK141.out) hb)
         have n2_ := Aside0.mk (blk_below (g := gb146) (o := .cells #[.int .u64 0, .int .u64 0] 49 (0, 0)) (XOpen.bk BK146.out) hb)
         have n3_ := Aside0.mk (below_step (XOpen.bl3 HB.out GE140.out GE141.out GE146.out) hb)
         have n4_ := Aside0.mk (hbox)
         have n5_ := Aside0.mk ((by rw [hg]; exact (below_size (XOpen.bl3 HB.out GE140.out GE141.out GE146.out)) : w.heap.size ≤ gb147))
         have n6_ := Aside0.mk ((by rw [hg]; exact (below_size (XOpen.bl3 HB.out GE140.out GE141.out GE146.out)) : w.heap.size ≤ gb147))
         have n7_ := Aside0.mk ((by rw [hg]; exact Nat.ne_of_lt (blk_lt (g := gb140) (o := .cells #[.int .u64 a0_0, .int .u64 a0_1] 49 (0, 0)) (XOpen.bk BK140.out)) : gb140 ≠ gb147))
         have n8_ := Aside0.mk ((by rw [hg]; exact Nat.ne_of_gt (blk_lt (g := gb140) (o := .cells #[.int .u64 a0_0, .int .u64 a0_1] 49 (0, 0)) (XOpen.bk BK140.out)) : gb147 ≠ gb140))
         have n9_ := Aside0.mk ((by rw [hg]; exact Nat.ne_of_lt (blk_lt (g := gb141) (o := .cells #[.int .u64 0, .int .u64 0] 49 (0, 0)) (XOpen.bk BK141.out)) : gb141 ≠ gb147))
         have n10_ := Aside0.mk ((by rw [hg]; exact Nat.ne_of_gt (blk_lt (g := gb141) (o := .cells #[.int .u64 0, .int .u64 0] 49 (0, 0)) (XOpen.bk BK141.out)) : gb147 ≠ gb141))
         have n11_ := Aside0.mk ((by rw [hg]; exact Nat.ne_of_lt (blk_lt (g := gb146) (o := .cells #[.int .u64 0, .int .u64 0] 49 (0, 0)) (XOpen.bk BK146.out)) : gb146 ≠ gb147))
         have n12_ := Aside0.mk ((by rw [hg]; exact Nat.ne_of_gt (blk_lt (g := gb146) (o := .cells #[.int .u64 0, .int .u64 0] 49 (0, 0)) (XOpen.bk BK146.out)) : gb147 ≠ gb146))
         clear BK140
         clear BK141
         clear BK146
         clear HB
         have BK140 := n0_
         have BK141 := n1_
         have BK146 := n2_
         have HB := n3_
         have BK147 := n4_
         have GW147 := n5_
         have GE147 := n6_
         have NB140_147 := n7_
         have NB147_140 := n8_
         have NB141_147 := n9_
         have NB147_141 := n10_
         have NB146_147 := n11_
         have NB147_146 := n12_
         clear n0_ n1_ n2_ n3_ n4_ n5_ n6_ n7_ n8_ n9_ n10_ n11_ n12_
         clear hb hbox hg
         refine hK.out _ _ ⟨(blk_cell BK140.out 0).trans rfl, (blk_cell BK140.out 1).trans rfl⟩ (fun hHeld => ?_)
         clear hK K
         refine norm_ (a' := ?_) ?_ ?_
         rotate_left
         ·show Act.put _ (some 7) _ = _
          simp only [Act.put, List.setIfInBounds_toArray, List.set_cons_zero, List.set_cons_succ, i64_w, i32_w]
          rfl
         exact norm_ (by first | (simp only [putAll, Act.put, List.setIfInBounds_toArray, List.set_cons_zero, List.set_cons_succ]; done) | (simp only [putAll, Act.put, List.setIfInBounds_toArray, List.set_cons_zero, List.set_cons_succ]; rfl)) (hJ3_8_9 (gb146, gb147) _ ⟨hHeld, (XOpen.bk BK140.out), (XOpen.bk BK141.out), (XOpen.bk BK146.out), (XOpen.bk BK147.out), GW146.out, GE146.out, NB140_146.out, NB146_140.out, NB141_146.out, NB146_141.out, NB147_146.out, NB146_147.out, GW147.out, GE147.out, NB140_147.out, NB147_140.out, NB141_147.out, NB147_141.out, (XOpen.bl4 HB.out GE140.out GE141.out GE146.out GE147.out)⟩)
      ·skip
       rintro _ w12 ⟨hS_, h0_, h1_, h2_⟩
       have n0_ : Aside0 (w12.heap[gb140]? = some (.cells #[.int .u64 a0_0, .int .u64 a0_1] 49 (0, 0))) := ⟨h0_⟩
       have n1_ : Aside0 (w12.heap[gb141]? = some (.cells #[.int .u64 0, .int .u64 0] 49 (0, 0))) := ⟨h1_⟩
       have n2_ : Aside0 (Below w.heap.size w w12) := ⟨h2_⟩
       clear BK140
       clear BK141
       clear HB
       clear h0_ h1_ h2_
       have BK140 := n0_
       have BK141 := n1_
       have HB := n2_
       clear n0_ n1_ n2_
       have hHeld : w12.cell? ⟨gb140, 0, none⟩ = some (.int .u64 a0_0) ∧ w12.cell? ⟨gb140, 1, none⟩ = some (.int .u64 a0_1) := hS_
       refine norm_ (a' := ?_) ?_ ?_
       rotate_left
       ·simp only [putAll, Act.put, List.setIfInBounds_toArray, List.set_cons_zero, List.set_cons_succ]
        rfl
       refine two_ (i := 8) (j := 9) (Ni := some 6) (Nj := some 7) #[true, true, true, true, true, true, true, true, true, false, false, false] #[true, true, true, true, true, true, true, true, false, true, false, false] rfl rfl rfl rfl (two_of HT_.out (by kernel_rfl)) (by decide) (by decide) (fun K hK => ?_) (fun K hK => ?_)
       ·skip
        refine box_step ?hg (N := 6) ?hd (cs := #[.int .u64 0, .int .u64 0]) (t := 49) ?hr ?_; (case hd => rfl); (case hg => rfl); (case hr => first | (go_simp; done) | (go_simp; rfl))
        intro gb146 hg w13 hbox hb
        have n0_ := Aside0.mk (blk_below (g := gb140) (o := .cells #[.int .u64 a0_0, .int .u64 a0_1] 49 (0, 0)) (XOpen.bk BK140.out) hb)
        have n1_ := Aside0.mk (blk_below (g := gb141) (o := .cells #[.int .u64 0, .int .u64 0] 49 (0, 0)) (XOpen.bk BK141.out) hb)
        have n2_ := Aside0.mk (below_step (XOpen.bl2 HB.out GE140.out GE141.out) hb)
        have n3_ := Aside0.mk (hbox)
        have n4_ := Aside0.mk ((by rw [hg]; exact (below_size (XOpen.bl2 HB.out GE140.out GE141.out)) : w.heap.size ≤ gb146))
        have n5_ := Aside0.mk ((by rw [hg]; exact (below_size (XOpen.bl2 HB.out GE140.out GE141.out)) : w.heap.size ≤ gb146))
        have n6_ := Aside0.mk ((by rw [hg]; exact Nat.ne_of_lt (blk_lt (g := gb140) (o := .cells #[.int .u64 a0_0, .int .u64 a0_1] 49 (0, 0)) (XOpen.bk BK140.out)) : gb140 ≠ gb146))
        have n7_ := Aside0.mk ((by rw [hg]; exact Nat.ne_of_gt (blk_lt (g := gb140) (o := .cells #[.int .u64 a0_0, .int .u64 a0_1] 49 (0, 0)) (XOpen.bk BK140.out)) : gb146 ≠ gb140))
        have n8_ := Aside0.mk ((by rw [hg]; exact Nat.ne_of_lt (blk_lt (g := gb141) (o := .cells #[.int .u64 0, .int .u64 0] 49 (0, 0)) (XOpen.bk BK141.out)) : gb141 ≠ gb146))
        have n9_ := Aside0.mk ((by rw [hg]; exact Nat.ne_of_gt (blk_lt (g := gb141) (o := .cells #[.int .u64 0, .int .u64 0] 49 (0, 0)) (XOpen.bk BK141.out)) : gb146 ≠ gb141))
        clear BK140
        clear BK141
        clear HB
        have BK140 := n0_
        have BK141 := n1_
        have HB := n2_
        have BK146 := n3_
        have GW146 := n4_
        have GE146 := n5_
        have NB140_146 := n6_
        have NB146_140 := n7_
        have NB141_146 := n8_
        have NB146_141 := n9_
        clear n0_ n1_ n2_ n3_ n4_ n5_ n6_ n7_ n8_ n9_
        clear hb hbox hg
        refine hK.out _ _ ⟨(blk_cell BK140.out 0).trans rfl, (blk_cell BK140.out 1).trans rfl⟩ (fun hHeld => ?_)
        clear hK K
        refine norm_ (a' := ?_) ?_ ?_
        rotate_left
        ·show Act.put _ (some 6) _ = _
         simp only [Act.put, List.setIfInBounds_toArray, List.set_cons_zero, List.set_cons_succ, i64_w, i32_w]
         rfl
        exact norm_ (by first | (simp only [putAll, Act.put, List.setIfInBounds_toArray, List.set_cons_zero, List.set_cons_succ]; done) | (simp only [putAll, Act.put, List.setIfInBounds_toArray, List.set_cons_zero, List.set_cons_succ]; rfl)) (hJ3_7_8 (gb146) _ ⟨hHeld, (XOpen.bk BK140.out), (XOpen.bk BK141.out), (XOpen.bk BK146.out), GW146.out, GE146.out, NB140_146.out, NB146_140.out, NB141_146.out, NB146_141.out, (XOpen.bl3 HB.out GE140.out GE141.out GE146.out)⟩)
       ·skip
        refine box_step ?hg (N := 7) ?hd (cs := #[.int .u64 0, .int .u64 0]) (t := 49) ?hr ?_; (case hd => rfl); (case hg => rfl); (case hr => first | (go_simp; done) | (go_simp; rfl))
        intro gb147 hg w13 hbox hb
        have n0_ := Aside0.mk (blk_below (g := gb140) (o := .cells #[.int .u64 a0_0, .int .u64 a0_1] 49 (0, 0)) (XOpen.bk BK140.out) hb)
        have n1_ := Aside0.mk (blk_below (g := gb141) (o := .cells #[.int .u64 0, .int .u64 0] 49 (0, 0)) (XOpen.bk BK141.out) hb)
        have n2_ := Aside0.mk (below_step (XOpen.bl2 HB.out GE140.out GE141.out) hb)
        have n3_ := Aside0.mk (hbox)
        have n4_ := Aside0.mk ((by rw [hg]; exact (below_size (XOpen.bl2 HB.out GE140.out GE141.out)) : w.heap.size ≤ gb147))
        have n5_ := Aside0.mk ((by rw [hg]; exact (below_size (XOpen.bl2 HB.out GE140.out GE141.out)) : w.heap.size ≤ gb147))
        have n6_ := Aside0.mk ((by rw [hg]; exact Nat.ne_of_lt (blk_lt (g := gb140) (o := .cells #[.int .u64 a0_0, .int .u64 a0_1] 49 (0, 0)) (XOpen.bk BK140.out)) : gb140 ≠ gb147))
        have n7_ := Aside0.mk ((by rw [hg]; exact Nat.ne_of_gt (blk_lt (g := gb140) (o := .cells #[.int .u64 a0_0, .int .u64 a0_1] 49 (0, 0)) (XOpen.bk BK140.out)) : gb147 ≠ gb140))
        have n8_ := Aside0.mk ((by rw [hg]; exact Nat.ne_of_lt (blk_lt (g := gb141) (o := .cells #[.int .u64 0, .int .u64 0] 49 (0, 0)) (XOpen.bk BK141.out)) : gb141 ≠ gb147))
        have n9_ := Aside0.mk ((by rw [hg]; exact Nat.ne_of_gt (blk_lt (g := gb141) (o := .cells #[.int .u64 0, .int .u64 0] 49 (0, 0)) (XOpen.bk BK141.out)) : gb147 ≠ gb141))
        clear BK140
        clear BK141
        clear HB
        have BK140 := n0_
        have BK141 := n1_
        have HB := n2_
        have BK147 := n3_
        have GW147 := n4_
        have GE147 := n5_
        have NB140_147 := n6_
        have NB147_140 := n7_
        have NB141_147 := n8_
        have NB147_141 := n9_
        clear n0_ n1_ n2_ n3_ n4_ n5_ n6_ n7_ n8_ n9_
        clear hb hbox hg
        refine hK.out _ _ ⟨(blk_cell BK140.out 0).trans rfl, (blk_cell BK140.out 1).trans rfl⟩ (fun hHeld => ?_)
        clear hK K
        refine norm_ (a' := ?_) ?_ ?_
        rotate_left
        ·show Act.put _ (some 7) _ = _
         simp only [Act.put, List.setIfInBounds_toArray, List.set_cons_zero, List.set_cons_succ, i64_w, i32_w]
         rfl
        exact norm_ (by first | (simp only [putAll, Act.put, List.setIfInBounds_toArray, List.set_cons_zero, List.set_cons_succ]; done) | (simp only [putAll, Act.put, List.setIfInBounds_toArray, List.set_cons_zero, List.set_cons_succ]; rfl)) (hJ3_7_9 (gb147) _ ⟨hHeld, (XOpen.bk BK140.out), (XOpen.bk BK141.out), (XOpen.bk BK147.out), GW147.out, GE147.out, NB140_147.out, NB147_140.out, NB141_147.out, NB147_141.out, (XOpen.bl3 HB.out GE140.out GE141.out GE147.out)⟩)
     ·skip
      rintro ⟨gb146, gb147⟩ w13 ⟨hS_, h0_, h1_, h2_, h3_, h4_, h5_, h6_, h7_, h8_, h9_, h10_, h11_, h12_, h13_, h14_, h15_, h16_, h17_, h18_⟩
      have n0_ : Aside0 (w13.heap[gb140]? = some (.cells #[.int .u64 a0_0, .int .u64 a0_1] 49 (0, 0))) := ⟨h0_⟩
      have n1_ : Aside0 (w13.heap[gb141]? = some (.cells #[.int .u64 0, .int .u64 0] 49 (0, 0))) := ⟨h1_⟩
      have n2_ : Aside0 (w13.heap[gb146]? = some (.cells #[.int .u64 0, .int .u64 0] 49 (0, 0))) := ⟨h2_⟩
      have n3_ : Aside0 (w13.heap[gb147]? = some (.cells #[.int .u64 0, .int .u64 0] 49 (0, 0))) := ⟨h3_⟩
      have n4_ : Aside0 (w.heap.size ≤ gb146) := ⟨h4_⟩
      have n5_ : Aside0 (w.heap.size ≤ gb146) := ⟨h5_⟩
      have n6_ : Aside0 (gb140 ≠ gb146) := ⟨h6_⟩
      have n7_ : Aside0 (gb146 ≠ gb140) := ⟨h7_⟩
      have n8_ : Aside0 (gb141 ≠ gb146) := ⟨h8_⟩
      have n9_ : Aside0 (gb146 ≠ gb141) := ⟨h9_⟩
      have n10_ : Aside0 (gb147 ≠ gb146) := ⟨h10_⟩
      have n11_ : Aside0 (gb146 ≠ gb147) := ⟨h11_⟩
      have n12_ : Aside0 (w.heap.size ≤ gb147) := ⟨h12_⟩
      have n13_ : Aside0 (w.heap.size ≤ gb147) := ⟨h13_⟩
      have n14_ : Aside0 (gb140 ≠ gb147) := ⟨h14_⟩
      have n15_ : Aside0 (gb147 ≠ gb140) := ⟨h15_⟩
      have n16_ : Aside0 (gb141 ≠ gb147) := ⟨h16_⟩
      have n17_ : Aside0 (gb147 ≠ gb141) := ⟨h17_⟩
      have n18_ : Aside0 (Below w.heap.size w w13) := ⟨h18_⟩
      clear BK140
      clear BK141
      clear HB
      clear h0_ h1_ h2_ h3_ h4_ h5_ h6_ h7_ h8_ h9_ h10_ h11_ h12_ h13_ h14_ h15_ h16_ h17_ h18_
      have BK140 := n0_
      have BK141 := n1_
      have BK146 := n2_
      have BK147 := n3_
      have GW146 := n4_
      have GE146 := n5_
      have NB140_146 := n6_
      have NB146_140 := n7_
      have NB141_146 := n8_
      have NB146_141 := n9_
      have NB147_146 := n10_
      have NB146_147 := n11_
      have GW147 := n12_
      have GE147 := n13_
      have NB140_147 := n14_
      have NB147_140 := n15_
      have NB141_147 := n16_
      have NB147_141 := n17_
      have HB := n18_
      clear n0_ n1_ n2_ n3_ n4_ n5_ n6_ n7_ n8_ n9_ n10_ n11_ n12_ n13_ n14_ n15_ n16_ n17_ n18_
      have hHeld : w13.cell? ⟨gb140, 0, none⟩ = some (.int .u64 a0_0) ∧ w13.cell? ⟨gb140, 1, none⟩ = some (.int .u64 a0_1) := hS_
      refine norm_ (a' := ?_) ?_ ?_
      rotate_left
      ·simp only [putAll, Act.put, List.setIfInBounds_toArray, List.set_cons_zero, List.set_cons_succ]
       rfl
      refine one_ (i := 7) (N := some 15) #[true, true, true, true, true, true, true, true, true, true, false, false] rfl rfl (one_of HT_.out (by kernel_rfl)) (by decide) (fun K hK => ?_)
      refine goes_ Try.func59 (by kernel_rfl) rfl #[.int .u64 a0_0, .int .u64 a1] (by rfl) rfl rfl (by (try simp only [List.map_toArray, List.map_cons, List.map_nil]); first | done | rfl | (simp only [List.length_drop, List.length_take]; rfl)) ?_
      with_reducible refine (wide_Mul.calls a0_0 a1 t144 t145 _ A4.out).mono ?_
      rintro e w14 ⟨rfl, hb⟩
      refine ⟨_, rfl, ?_⟩
      have n0_ := Aside0.mk (blk_below (g := gb140) (o := .cells #[.int .u64 a0_0, .int .u64 a0_1] 49 (0, 0)) (XOpen.bk BK140.out) hb)
      have n1_ := Aside0.mk (blk_below (g := gb141) (o := .cells #[.int .u64 0, .int .u64 0] 49 (0, 0)) (XOpen.bk BK141.out) hb)
      have n2_ := Aside0.mk (blk_below (g := gb146) (o := .cells #[.int .u64 0, .int .u64 0] 49 (0, 0)) (XOpen.bk BK146.out) hb)
      have n3_ := Aside0.mk (blk_below (g := gb147) (o := .cells #[.int .u64 0, .int .u64 0] 49 (0, 0)) (XOpen.bk BK147.out) hb)
      have n4_ := Aside0.mk (below_step (XOpen.bl4 HB.out GE140.out GE141.out GE146.out GE147.out) hb)
      clear BK140
      clear BK141
      clear BK146
      clear BK147
      clear HB
      have BK140 := n0_
      have BK141 := n1_
      have BK146 := n2_
      have BK147 := n3_
      have HB := n4_
      clear n0_ n1_ n2_ n3_ n4_
      (try clear hb)
      (try clear hb2)
      (try clear hk)
      (try clear hi)
      refine hK.out _ _ ⟨(blk_cell BK140.out 0).trans rfl, (blk_cell BK140.out 1).trans rfl⟩ (fun hHeld => ?_)
      clear hK K
      refine norm_ (a' := ?_) ?_ ?_
      rotate_left
      ·show Act.put _ (some 15) _ = _
       simp only [Act.put, List.setIfInBounds_toArray, List.set_cons_zero, List.set_cons_succ, i64_w, i32_w]
       rfl
      exact norm_ (by first | (simp only [putAll, Act.put, List.setIfInBounds_toArray, List.set_cons_zero, List.set_cons_succ]; done) | (simp only [putAll, Act.put, List.setIfInBounds_toArray, List.set_cons_zero, List.set_cons_succ]; rfl)) (hJ3_7_8_9 (gb146, gb147) _ ⟨hHeld, (XOpen.bk BK140.out), (XOpen.bk BK141.out), (XOpen.bk BK146.out), (XOpen.bk BK147.out), GW146.out, GE146.out, NB140_146.out, NB146_140.out, NB141_146.out, NB146_141.out, NB147_146.out, NB146_147.out, GW147.out, GE147.out, NB140_147.out, NB147_140.out, NB141_147.out, NB147_141.out, (XOpen.bl4 HB.out GE140.out GE141.out GE146.out GE147.out)⟩)
    ·skip
     rintro gb147 w13 ⟨hS_, h0_, h1_, h2_, h3_, h4_, h5_, h6_, h7_, h8_, h9_⟩
     have n0_ : Aside0 (w13.heap[gb140]? = some (.cells #[.int .u64 a0_0, .int .u64 a0_1] 49 (0, 0))) := ⟨h0_⟩
     have n1_ : Aside0 (w13.heap[gb141]? = some (.cells #[.int .u64 0, .int .u64 0] 49 (0, 0))) := ⟨h1_⟩
     have n2_ : Aside0 (w13.heap[gb147]? = some (.cells #[.int .u64 0, .int .u64 0] 49 (0, 0))) := ⟨h2_⟩
     have n3_ : Aside0 (w.heap.size ≤ gb147) := ⟨h3_⟩
     have n4_ : Aside0 (w.heap.size ≤ gb147) := ⟨h4_⟩
     have n5_ : Aside0 (gb140 ≠ gb147) := ⟨h5_⟩
     have n6_ : Aside0 (gb147 ≠ gb140) := ⟨h6_⟩
     have n7_ : Aside0 (gb141 ≠ gb147) := ⟨h7_⟩
     have n8_ : Aside0 (gb147 ≠ gb141) := ⟨h8_⟩
     have n9_ : Aside0 (Below w.heap.size w w13) := ⟨h9_⟩
     clear BK140
     clear BK141
     clear HB
     clear h0_ h1_ h2_ h3_ h4_ h5_ h6_ h7_ h8_ h9_
     have BK140 := n0_
     have BK141 := n1_
     have BK147 := n2_
     have GW147 := n3_
     have GE147 := n4_
     have NB140_147 := n5_
     have NB147_140 := n6_
     have NB141_147 := n7_
     have NB147_141 := n8_
     have HB := n9_
     clear n0_ n1_ n2_ n3_ n4_ n5_ n6_ n7_ n8_ n9_
     have hHeld : w13.cell? ⟨gb140, 0, none⟩ = some (.int .u64 a0_0) ∧ w13.cell? ⟨gb140, 1, none⟩ = some (.int .u64 a0_1) := hS_
     refine norm_ (a' := ?_) ?_ ?_
     rotate_left
     ·simp only [putAll, Act.put, List.setIfInBounds_toArray, List.set_cons_zero, List.set_cons_succ]
      rfl
     refine one_ (i := 8) (N := some 6) #[true, true, true, true, true, true, true, true, true, true, false, false] rfl rfl (one_of HT_.out (by kernel_rfl)) (by decide) (fun K hK => ?_)
     refine box_step ?hg (N := 6) ?hd (cs := #[.int .u64 0, .int .u64 0]) (t := 49) ?hr ?_; (case hd => rfl); (case hg => rfl); (case hr => first | (go_simp; done) | (go_simp; rfl))
     intro gb146 hg w14 hbox hb
     have n0_ := Aside0.mk (blk_below (g := gb140) (o := .cells #[.int .u64 a0_0, .int .u64 a0_1] 49 (0, 0)) (XOpen.bk BK140.out) hb)
     have n1_ := Aside0.mk (blk_below (g := gb141) (o := .cells #[.int .u64 0, .int .u64 0] 49 (0, 0)) (XOpen.bk BK141.out) hb)
     have n2_ := Aside0.mk (blk_below (g := gb147) (o := .cells #[.int .u64 0, .int .u64 0] 49 (0, 0)) (XOpen.bk BK147.out) hb)
     have n3_ := Aside0.mk (below_step (XOpen.bl3 HB.out GE140.out GE141.out GE147.out) hb)
     have n4_ := Aside0.mk (hbox)
     have n5_ := Aside0.mk ((by rw [hg]; exact (below_size (XOpen.bl3 HB.out GE140.out GE141.out GE147.out)) : w.heap.size ≤ gb146))
     have n6_ := Aside0.mk ((by rw [hg]; exact (below_size (XOpen.bl3 HB.out GE140.out GE141.out GE147.out)) : w.heap.size ≤ gb146))
     have n7_ := Aside0.mk ((by rw [hg]; exact Nat.ne_of_lt (blk_lt (g := gb140) (o := .cells #[.int .u64 a0_0, .int .u64 a0_1] 49 (0, 0)) (XOpen.bk BK140.out)) : gb140 ≠ gb146))
     have n8_ := Aside0.mk ((by rw [hg]; exact Nat.ne_of_gt (blk_lt (g := gb140) (o := .cells #[.int .u64 a0_0, .int .u64 a0_1] 49 (0, 0)) (XOpen.bk BK140.out)) : gb146 ≠ gb140))
     have n9_ := Aside0.mk ((by rw [hg]; exact Nat.ne_of_lt (blk_lt (g := gb141) (o := .cells #[.int .u64 0, .int .u64 0] 49 (0, 0)) (XOpen.bk BK141.out)) : gb141 ≠ gb146))
     have n10_ := Aside0.mk ((by rw [hg]; exact Nat.ne_of_gt (blk_lt (g := gb141) (o := .cells #[.int .u64 0, .int .u64 0] 49 (0, 0)) (XOpen.bk BK141.out)) : gb146 ≠ gb141))
     have n11_ := Aside0.mk ((by rw [hg]; exact Nat.ne_of_lt (blk_lt (g := gb147) (o := .cells #[.int .u64 0, .int .u64 0] 49 (0, 0)) (XOpen.bk BK147.out)) : gb147 ≠ gb146))
     have n12_ := Aside0.mk ((by rw [hg]; exact Nat.ne_of_gt (blk_lt (g := gb147) (o := .cells #[.int .u64 0, .int .u64 0] 49 (0, 0)) (XOpen.bk BK147.out)) : gb146 ≠ gb147))
     clear BK140
     clear BK141
     clear BK147
     clear HB
     have BK140 := n0_
     have BK141 := n1_
     have BK147 := n2_
     have HB := n3_
     have BK146 := n4_
     have GW146 := n5_
     have GE146 := n6_
     have NB140_146 := n7_
     have NB146_140 := n8_
     have NB141_146 := n9_
     have NB146_141 := n10_
     have NB147_146 := n11_
     have NB146_147 := n12_
     clear n0_ n1_ n2_ n3_ n4_ n5_ n6_ n7_ n8_ n9_ n10_ n11_ n12_
     clear hb hbox hg
     refine hK.out _ _ ⟨(blk_cell BK140.out 0).trans rfl, (blk_cell BK140.out 1).trans rfl⟩ (fun hHeld => ?_)
     clear hK K
     refine norm_ (a' := ?_) ?_ ?_
     rotate_left
     ·show Act.put _ (some 6) _ = _
      simp only [Act.put, List.setIfInBounds_toArray, List.set_cons_zero, List.set_cons_succ, i64_w, i32_w]
      rfl
     exact norm_ (by first | (simp only [putAll, Act.put, List.setIfInBounds_toArray, List.set_cons_zero, List.set_cons_succ]; done) | (simp only [putAll, Act.put, List.setIfInBounds_toArray, List.set_cons_zero, List.set_cons_succ]; rfl)) (hJ3_7_8_9 (gb146, gb147) _ ⟨hHeld, (XOpen.bk BK140.out), (XOpen.bk BK141.out), (XOpen.bk BK146.out), (XOpen.bk BK147.out), GW146.out, GE146.out, NB140_146.out, NB146_140.out, NB141_146.out, NB146_141.out, NB147_146.out, NB146_147.out, GW147.out, GE147.out, NB140_147.out, NB147_140.out, NB141_147.out, NB147_141.out, (XOpen.bl4 HB.out GE140.out GE141.out GE147.out GE146.out)⟩)
   ·skip
    rintro gb146 w13 ⟨hS_, h0_, h1_, h2_, h3_, h4_, h5_, h6_, h7_, h8_, h9_⟩
    have n0_ : Aside0 (w13.heap[gb140]? = some (.cells #[.int .u64 a0_0, .int .u64 a0_1] 49 (0, 0))) := ⟨h0_⟩
    have n1_ : Aside0 (w13.heap[gb141]? = some (.cells #[.int .u64 0, .int .u64 0] 49 (0, 0))) := ⟨h1_⟩
    have n2_ : Aside0 (w13.heap[gb146]? = some (.cells #[.int .u64 0, .int .u64 0] 49 (0, 0))) := ⟨h2_⟩
    have n3_ : Aside0 (w.heap.size ≤ gb146) := ⟨h3_⟩
    have n4_ : Aside0 (w.heap.size ≤ gb146) := ⟨h4_⟩
    have n5_ : Aside0 (gb140 ≠ gb146) := ⟨h5_⟩
    have n6_ : Aside0 (gb146 ≠ gb140) := ⟨h6_⟩
    have n7_ : Aside0 (gb141 ≠ gb146) := ⟨h7_⟩
    have n8_ : Aside0 (gb146 ≠ gb141) := ⟨h8_⟩
    have n9_ : Aside0 (Below w.heap.size w w13) := ⟨h9_⟩
    clear BK140
    clear BK141
    clear HB
    clear h0_ h1_ h2_ h3_ h4_ h5_ h6_ h7_ h8_ h9_
    have BK140 := n0_
    have BK141 := n1_
    have BK146 := n2_
    have GW146 := n3_
    have GE146 := n4_
    have NB140_146 := n5_
    have NB146_140 := n6_
    have NB141_146 := n7_
    have NB146_141 := n8_
    have HB := n9_
    clear n0_ n1_ n2_ n3_ n4_ n5_ n6_ n7_ n8_ n9_
    have hHeld : w13.cell? ⟨gb140, 0, none⟩ = some (.int .u64 a0_0) ∧ w13.cell? ⟨gb140, 1, none⟩ = some (.int .u64 a0_1) := hS_
    refine norm_ (a' := ?_) ?_ ?_
    rotate_left
    ·simp only [putAll, Act.put, List.setIfInBounds_toArray, List.set_cons_zero, List.set_cons_succ]
     rfl
    refine one_ (i := 9) (N := some 7) #[true, true, true, true, true, true, true, true, true, true, false, false] rfl rfl (one_of HT_.out (by kernel_rfl)) (by decide) (fun K hK => ?_)
    refine box_step ?hg (N := 7) ?hd (cs := #[.int .u64 0, .int .u64 0]) (t := 49) ?hr ?_; (case hd => rfl); (case hg => rfl); (case hr => first | (go_simp; done) | (go_simp; rfl))
    intro gb147 hg w14 hbox hb
    have n0_ := Aside0.mk (blk_below (g := gb140) (o := .cells #[.int .u64 a0_0, .int .u64 a0_1] 49 (0, 0)) (XOpen.bk BK140.out) hb)
    have n1_ := Aside0.mk (blk_below (g := gb141) (o := .cells #[.int .u64 0, .int .u64 0] 49 (0, 0)) (XOpen.bk BK141.out) hb)
    have n2_ := Aside0.mk (blk_below (g := gb146) (o := .cells #[.int .u64 0, .int .u64 0] 49 (0, 0)) (XOpen.bk BK146.out) hb)
    have n3_ := Aside0.mk (below_step (XOpen.bl3 HB.out GE140.out GE141.out GE146.out) hb)
    have n4_ := Aside0.mk (hbox)
    have n5_ := Aside0.mk ((by rw [hg]; exact (below_size (XOpen.bl3 HB.out GE140.out GE141.out GE146.out)) : w.heap.size ≤ gb147))
    have n6_ := Aside0.mk ((by rw [hg]; exact (below_size (XOpen.bl3 HB.out GE140.out GE141.out GE146.out)) : w.heap.size ≤ gb147))
    have n7_ := Aside0.mk ((by rw [hg]; exact Nat.ne_of_lt (blk_lt (g := gb140) (o := .cells #[.int .u64 a0_0, .int .u64 a0_1] 49 (0, 0)) (XOpen.bk BK140.out)) : gb140 ≠ gb147))
    have n8_ := Aside0.mk ((by rw [hg]; exact Nat.ne_of_gt (blk_lt (g := gb140) (o := .cells #[.int .u64 a0_0, .int .u64 a0_1] 49 (0, 0)) (XOpen.bk BK140.out)) : gb147 ≠ gb140))
    have n9_ := Aside0.mk ((by rw [hg]; exact Nat.ne_of_lt (blk_lt (g := gb141) (o := .cells #[.int .u64 0, .int .u64 0] 49 (0, 0)) (XOpen.bk BK141.out)) : gb141 ≠ gb147))
    have n10_ := Aside0.mk ((by rw [hg]; exact Nat.ne_of_gt (blk_lt (g := gb141) (o := .cells #[.int .u64 0, .int .u64 0] 49 (0, 0)) (XOpen.bk BK141.out)) : gb147 ≠ gb141))
    have n11_ := Aside0.mk ((by rw [hg]; exact Nat.ne_of_lt (blk_lt (g := gb146) (o := .cells #[.int .u64 0, .int .u64 0] 49 (0, 0)) (XOpen.bk BK146.out)) : gb146 ≠ gb147))
    have n12_ := Aside0.mk ((by rw [hg]; exact Nat.ne_of_gt (blk_lt (g := gb146) (o := .cells #[.int .u64 0, .int .u64 0] 49 (0, 0)) (XOpen.bk BK146.out)) : gb147 ≠ gb146))
    clear BK140
    clear BK141
    clear BK146
    clear HB
    have BK140 := n0_
    have BK141 := n1_
    have BK146 := n2_
    have HB := n3_
    have BK147 := n4_
    have GW147 := n5_
    have GE147 := n6_
    have NB140_147 := n7_
    have NB147_140 := n8_
    have NB141_147 := n9_
    have NB147_141 := n10_
    have NB146_147 := n11_
    have NB147_146 := n12_
    clear n0_ n1_ n2_ n3_ n4_ n5_ n6_ n7_ n8_ n9_ n10_ n11_ n12_
    clear hb hbox hg
    refine hK.out _ _ ⟨(blk_cell BK140.out 0).trans rfl, (blk_cell BK140.out 1).trans rfl⟩ (fun hHeld => ?_)
    clear hK K
    refine norm_ (a' := ?_) ?_ ?_
    rotate_left
    ·show Act.put _ (some 7) _ = _
     simp only [Act.put, List.setIfInBounds_toArray, List.set_cons_zero, List.set_cons_succ, i64_w, i32_w]
     rfl
    exact norm_ (by first | (simp only [putAll, Act.put, List.setIfInBounds_toArray, List.set_cons_zero, List.set_cons_succ]; done) | (simp only [putAll, Act.put, List.setIfInBounds_toArray, List.set_cons_zero, List.set_cons_succ]; rfl)) (hJ3_7_8_9 (gb146, gb147) _ ⟨hHeld, (XOpen.bk BK140.out), (XOpen.bk BK141.out), (XOpen.bk BK146.out), (XOpen.bk BK147.out), GW146.out, GE146.out, NB140_146.out, NB146_140.out, NB141_146.out, NB146_141.out, NB147_146.out, NB146_147.out, GW147.out, GE147.out, NB140_147.out, NB147_140.out, NB141_147.out, NB147_141.out, (XOpen.bl4 HB.out GE140.out GE141.out GE146.out GE147.out)⟩)
  rintro ⟨gb146, gb147⟩ w14 ⟨hS_, h0_, h1_, h2_, h3_, h4_, h5_, h6_, h7_, h8_, h9_, h10_, h11_, h12_, h13_, h14_, h15_, h16_, h17_, h18_⟩
  have n0_ : Aside0 (w14.heap[gb140]? = some (.cells #[.int .u64 a0_0, .int .u64 a0_1] 49 (0, 0))) := ⟨h0_⟩
  have n1_ : Aside0 (w14.heap[gb141]? = some (.cells #[.int .u64 0, .int .u64 0] 49 (0, 0))) := ⟨h1_⟩
  have n2_ : Aside0 (w14.heap[gb146]? = some (.cells #[.int .u64 0, .int .u64 0] 49 (0, 0))) := ⟨h2_⟩
  have n3_ : Aside0 (w14.heap[gb147]? = some (.cells #[.int .u64 0, .int .u64 0] 49 (0, 0))) := ⟨h3_⟩
  have n4_ : Aside0 (w.heap.size ≤ gb146) := ⟨h4_⟩
  have n5_ : Aside0 (w.heap.size ≤ gb146) := ⟨h5_⟩
  have n6_ : Aside0 (gb140 ≠ gb146) := ⟨h6_⟩
  have n7_ : Aside0 (gb146 ≠ gb140) := ⟨h7_⟩
  have n8_ : Aside0 (gb141 ≠ gb146) := ⟨h8_⟩
  have n9_ : Aside0 (gb146 ≠ gb141) := ⟨h9_⟩
  have n10_ : Aside0 (gb147 ≠ gb146) := ⟨h10_⟩
  have n11_ : Aside0 (gb146 ≠ gb147) := ⟨h11_⟩
  have n12_ : Aside0 (w.heap.size ≤ gb147) := ⟨h12_⟩
  have n13_ : Aside0 (w.heap.size ≤ gb147) := ⟨h13_⟩
  have n14_ : Aside0 (gb140 ≠ gb147) := ⟨h14_⟩
  have n15_ : Aside0 (gb147 ≠ gb140) := ⟨h15_⟩
  have n16_ : Aside0 (gb141 ≠ gb147) := ⟨h16_⟩
  have n17_ : Aside0 (gb147 ≠ gb141) := ⟨h17_⟩
  have n18_ : Aside0 (Below w.heap.size w w14) := ⟨h18_⟩
  clear BK140
  clear BK141
  clear HB
  clear h0_ h1_ h2_ h3_ h4_ h5_ h6_ h7_ h8_ h9_ h10_ h11_ h12_ h13_ h14_ h15_ h16_ h17_ h18_
  have BK140 := n0_
  have BK141 := n1_
  have BK146 := n2_
  have BK147 := n3_
  have GW146 := n4_
  have GE146 := n5_
  have NB140_146 := n6_
  have NB146_140 := n7_
  have NB141_146 := n8_
  have NB146_141 := n9_
  have NB147_146 := n10_
  have NB146_147 := n11_
  have GW147 := n12_
  have GE147 := n13_
  have NB140_147 := n14_
  have NB147_140 := n15_
  have NB141_147 := n16_
  have NB147_141 := n17_
  have HB := n18_
  clear n0_ n1_ n2_ n3_ n4_ n5_ n6_ n7_ n8_ n9_ n10_ n11_ n12_ n13_ n14_ n15_ n16_ n17_ n18_
  have hHeld : w14.cell? ⟨gb140, 0, none⟩ = some (.int .u64 a0_0) ∧ w14.cell? ⟨gb140, 1, none⟩ = some (.int .u64 a0_1) := hS_
  refine norm_ (a' := ?_) ?_ ?_
  rotate_left
  ·simp only [putAll, Act.put, List.setIfInBounds_toArray, List.set_cons_zero, List.set_cons_succ]
   rfl
  refine one_ (i := 10) (N := none) #[true, true, true, true, true, true, true, true, true, true, true, false] rfl rfl (one_of HT_.out (by kernel_rfl)) (by decide) (fun K hK => ?_)
  have hs15 : w14.cell? ⟨gb146, 0, none⟩ = some (.int .u64 0) := (blk_cell BK146.out 0).trans rfl
  have hfs15 := blk_frozen BK146.out 0
  have hns15_0 := NB140_146.out
  have hns15_1 := NB141_146.out
  have hns15_3 := NB147_146.out
  have hms15_0 := NB146_140.out
  have hms15_1 := NB146_141.out
  have hms15_3 := NB146_147.out
  have hs16 : w14.cell? ⟨gb146, 1, none⟩ = some (.int .u64 0) := (blk_cell BK146.out 1).trans rfl
  have hfs16 := blk_frozen BK146.out 1
  have hns16_0 := NB140_146.out
  have hns16_1 := NB141_146.out
  have hns16_3 := NB147_146.out
  have hms16_0 := NB146_140.out
  have hms16_1 := NB146_141.out
  have hms16_3 := NB146_147.out
  refine skip_ (w1 := ?_) (by rfl) rfl ?_ ?_
  rotate_left
  ·go_simp
   rfl
  refine hK.out _ _ ⟨((cell_far (p := ⟨gb146, _, none⟩) NB140_146.out _).trans (((cell_far (p := ⟨gb146, _, none⟩) NB140_146.out _).trans (hHeld.1)))), ((cell_far (p := ⟨gb146, _, none⟩) NB140_146.out _).trans (((cell_far (p := ⟨gb146, _, none⟩) NB140_146.out _).trans (hHeld.2))))⟩ (fun hHeld => ?_)
  clear hK K
  refine one_ (i := 11) (N := none) #[true, true, true, true, true, true, true, true, true, true, true, true] rfl rfl (one_of HT_.out (by kernel_rfl)) (by decide) (fun K hK => ?_)
  have hs17 : w14.cell? ⟨gb147, 0, none⟩ = some (.int .u64 0) := (blk_cell BK147.out 0).trans rfl
  have hfs17 := blk_frozen BK147.out 0
  have hns17_0 := NB140_147.out
  have hns17_1 := NB141_147.out
  have hns17_2 := NB146_147.out
  have hms17_0 := NB147_140.out
  have hms17_1 := NB147_141.out
  have hms17_2 := NB147_146.out
  have hs18 : w14.cell? ⟨gb147, 1, none⟩ = some (.int .u64 0) := (blk_cell BK147.out 1).trans rfl
  have hfs18 := blk_frozen BK147.out 1
  have hns18_0 := NB140_147.out
  have hns18_1 := NB141_147.out
  have hns18_2 := NB146_147.out
  have hms18_0 := NB147_140.out
  have hms18_1 := NB147_141.out
  have hms18_2 := NB147_146.out
  refine skip_ (w1 := ?_) (by rfl) rfl ?_ ?_
  rotate_left
  ·go_simp
   rfl
  refine hK.out _ _ ⟨((cell_far (p := ⟨gb147, _, none⟩) NB140_147.out _).trans (((cell_far (p := ⟨gb147, _, none⟩) NB140_147.out _).trans (hHeld.1)))), ((cell_far (p := ⟨gb147, _, none⟩) NB140_147.out _).trans (((cell_far (p := ⟨gb147, _, none⟩) NB140_147.out _).trans (hHeld.2))))⟩ (fun hHeld => ?_)
  clear hK K
  refine done_ (done_of HT_.out (by kernel_rfl)) ?_
  have hnb19 := NB147_140.out
  have hnc19 := NB140_147.out
  have hnb20 := NB147_141.out
  have hnc20 := NB141_147.out
  have hnb21 := NB147_146.out
  have hnc21 := NB146_147.out
  have hcz22_0 : w14.cell? ⟨gb147, 0, none⟩ = some (.int .u64 0) := (blk_cell BK147.out 0).trans rfl
  have hcz22_1 : w14.cell? ⟨gb147, 1, none⟩ = some (.int .u64 0) := (blk_cell BK147.out 1).trans rfl
  have hfz22_0 := blk_frozen BK147.out 0
  have hfz22_1 := blk_frozen BK147.out 1
  have hnb23 := NB146_140.out
  have hnc23 := NB140_146.out
  have hnb24 := NB146_141.out
  have hnc24 := NB141_146.out
  have hcz25_0 : w14.cell? ⟨gb146, 0, none⟩ = some (.int .u64 0) := (blk_cell BK146.out 0).trans rfl
  have hcz25_1 : w14.cell? ⟨gb146, 1, none⟩ = some (.int .u64 0) := (blk_cell BK146.out 1).trans rfl
  have hfz25_0 := blk_frozen BK146.out 0
  have hfz25_1 := blk_frozen BK146.out 1
  try go_wp2_with (first | ((with_reducible refine gate_callee (f := 77) rfl ?_); refine goesL_ (some 24) rfl rfl Try.func77 (by kernel_rfl) rfl #[.agg #[.int .u64 t142, .int .u64 t143], .agg #[.int .u64 t145, .int .u64 0]] rfl (by (try simp only [List.map_toArray, List.map_cons, List.map_nil]); first | done | rfl | (simp only [List.length_drop, List.length_take]; rfl)) ?_; (with_reducible refine (wide_Add.calls t142 t143 t145 0 t148 t149 t150 _ A6.out).mono ?_); rintro e w26 ⟨rfl, hb⟩; refine ⟨_, rfl, ?_⟩; have n0_ := Aside0.mk (blk_below (g := gb140) (o := .cells #[.int .u64 a0_0, .int .u64 a0_1] 49 (0, 0)) (by (with_reducible repeat (first | refine blk_drewN ?_ _ | refine blk_drew ?_ | refine blk_alloc ?_ _)); refine blk_far ?_ NB140_147.out _; (with_reducible repeat (first | refine blk_drewN ?_ _ | refine blk_drew ?_ | refine blk_alloc ?_ _)); refine blk_far ?_ NB140_147.out _; (with_reducible repeat (first | refine blk_drewN ?_ _ | refine blk_drew ?_ | refine blk_alloc ?_ _)); refine blk_far ?_ NB140_146.out _; (with_reducible repeat (first | refine blk_drewN ?_ _ | refine blk_drew ?_ | refine blk_alloc ?_ _)); refine blk_far ?_ NB140_146.out _; (with_reducible repeat (first | refine blk_drewN ?_ _ | refine blk_drew ?_ | refine blk_alloc ?_ _)); exact BK140.out) hb); have n1_ := Aside0.mk (blk_below (g := gb141) (o := .cells #[.int .u64 0, .int .u64 0] 49 (0, 0)) (by (with_reducible repeat (first | refine blk_drewN ?_ _ | refine blk_drew ?_ | refine blk_alloc ?_ _)); refine blk_far ?_ NB141_147.out _; (with_reducible repeat (first | refine blk_drewN ?_ _ | refine blk_drew ?_ | refine blk_alloc ?_ _)); refine blk_far ?_ NB141_147.out _; (with_reducible repeat (first | refine blk_drewN ?_ _ | refine blk_drew ?_ | refine blk_alloc ?_ _)); refine blk_far ?_ NB141_146.out _; (with_reducible repeat (first | refine blk_drewN ?_ _ | refine blk_drew ?_ | refine blk_alloc ?_ _)); refine blk_far ?_ NB141_146.out _; (with_reducible repeat (first | refine blk_drewN ?_ _ | refine blk_drew ?_ | refine blk_alloc ?_ _)); exact BK141.out) hb); have n2_ := Aside0.mk (blk_below (g := gb146) (o := .cells #[.int .u64 t142, .int .u64 t143] 49 (0, 0)) (by (with_reducible repeat (first | refine blk_drewN ?_ _ | refine blk_drew ?_ | refine blk_alloc ?_ _)); refine blk_far ?_ NB146_147.out _; (with_reducible repeat (first | refine blk_drewN ?_ _ | refine blk_drew ?_ | refine blk_alloc ?_ _)); refine blk_far ?_ NB146_147.out _; (with_reducible repeat (first | refine blk_drewN ?_ _ | refine blk_drew ?_ | refine blk_alloc ?_ _)); refine blk_put (cs := #[.int .u64 t142, .int .u64 0]) ?_ 1 _ rfl; (with_reducible repeat (first | refine blk_drewN ?_ _ | refine blk_drew ?_ | refine blk_alloc ?_ _)); refine blk_put (cs := #[.int .u64 0, .int .u64 0]) ?_ 0 _ rfl; (with_reducible repeat (first | refine blk_drewN ?_ _ | refine blk_drew ?_ | refine blk_alloc ?_ _)); exact BK146.out) hb); have n3_ := Aside0.mk (blk_below (g := gb147) (o := .cells #[.int .u64 t144, .int .u64 t145] 49 (0, 0)) (by (with_reducible repeat (first | refine blk_drewN ?_ _ | refine blk_drew ?_ | refine blk_alloc ?_ _)); refine blk_put (cs := #[.int .u64 t144, .int .u64 0]) ?_ 1 _ rfl; (with_reducible repeat (first | refine blk_drewN ?_ _ | refine blk_drew ?_ | refine blk_alloc ?_ _)); refine blk_put (cs := #[.int .u64 0, .int .u64 0]) ?_ 0 _ rfl; (with_reducible repeat (first | refine blk_drewN ?_ _ | refine blk_drew ?_ | refine blk_alloc ?_ _)); refine blk_far ?_ NB147_146.out _; (with_reducible repeat (first | refine blk_drewN ?_ _ | refine blk_drew ?_ | refine blk_alloc ?_ _)); refine blk_far ?_ NB147_146.out _; (with_reducible repeat (first | refine blk_drewN ?_ _ | refine blk_drew ?_ | refine blk_alloc ?_ _)); exact BK147.out) hb); have n4_ := Aside0.mk (below_step (XOpen.bl4 HB.out GE140.out GE141.out GE146.out GE147.out) hb); clear BK140; clear BK141; clear BK146; clear BK147; clear HB; have BK140 := n0_; have BK141 := n1_; have BK146 := n2_; have BK147 := n3_; have HB := n4_; clear n0_ n1_ n2_ n3_ n4_; (try clear hb); (try clear hb2); (try clear hk); (try clear hi); have hnb27 := NB141_140.out; have hnc27 := NB140_141.out; have hcz28_0 : w26.cell? ⟨gb141, 0, none⟩ = some (.int .u64 0) := (blk_cell BK141.out 0).trans rfl; have hcz28_1 : w26.cell? ⟨gb141, 1, none⟩ = some (.int .u64 0) := (blk_cell BK141.out 1).trans rfl; have hfz28_0 := blk_frozen BK141.out 0; have hfz28_1 := blk_frozen BK141.out 1))
  refine bodyPost_ret (results_ct rfl _ _ gb141 49 #[.int .u64 t148, .int .u64 t149] (0, 0) _ rfl (by (with_reducible repeat (first | refine blk_drewN ?_ _ | refine blk_drew ?_ | refine blk_alloc ?_ _)); refine blk_put (cs := #[.int .u64 t148, .int .u64 0]) ?_ 1 _ rfl; (with_reducible repeat (first | refine blk_drewN ?_ _ | refine blk_drew ?_ | refine blk_alloc ?_ _)); refine blk_put (cs := #[.int .u64 0, .int .u64 0]) ?_ 0 _ rfl; (with_reducible repeat (first | refine blk_drewN ?_ _ | refine blk_drew ?_ | refine blk_alloc ?_ _)); exact BK141.out) Try.underlying49 rfl (by kernel_rfl)) rfl ?_
  exact ⟨by first | rfl | (simp [errW_none, errW_some] <;> rfl) | (simp [*, errW_none, errW_some] <;> rfl), XOpen.bl4 HB.out GE140.out GE141.out GE146.out GE147.out⟩
 ·rw [if_neg c5] at H
  have c5b0 : (t144 == 0) = false := beq_eq_false_iff_ne.mpr c5
  have c5b1 : (t144 != 0) = true := bne_iff_ne.mpr c5
  simp only [Option.some.injEq, Prod.mk.injEq] at H
  obtain ⟨rfl, rfl, rfl⟩ := H
  go_enter Try.func60, Try.ntmps60
  try go_wp2_with (first | ((with_reducible refine gate_dst (N := 2) rfl ?_); refine box_event ?hg (N := 2) ?hd (cs := #[.int .u64 a0_0, .int .u64 a0_1]) (t := 49) ?hr ?_; (case hd => rfl); (case hg => rfl); (case hr => first | (go_simp; done) | (go_simp; rfl)); intro gb140 hg w29 hbox hb; have n0_ := Aside0.mk (below_step (XOpen.bl0 HB.out) hb); have n1_ := Aside0.mk (hbox); have n2_ := Aside0.mk ((by rw [hg]; exact (below_size (XOpen.bl0 HB.out)) : w.heap.size ≤ gb140)); have n3_ := Aside0.mk ((by rw [hg]; exact (below_size (XOpen.bl0 HB.out)) : w.heap.size ≤ gb140)); clear HB; have HB := n0_; have BK140 := n1_; have GW140 := n2_; have GE140 := n3_; clear n0_ n1_ n2_ n3_; clear hb hbox hg) | ((with_reducible refine gate_dst (N := 4) rfl ?_); refine box_event ?hg (N := 4) ?hd (cs := #[.int .u64 0, .int .u64 0]) (t := 49) ?hr ?_; (case hd => rfl); (case hg => rfl); (case hr => first | (go_simp; done) | (go_simp; rfl)); intro gb141 hg w30 hbox hb; have n0_ := Aside0.mk (blk_below (g := gb140) (o := .cells #[.int .u64 a0_0, .int .u64 a0_1] 49 (0, 0)) (XOpen.bk BK140.out) hb); have n1_ := Aside0.mk (below_step (XOpen.bl1 HB.out GE140.out) hb); have n2_ := Aside0.mk (hbox); have n3_ := Aside0.mk ((by rw [hg]; exact (below_size (XOpen.bl1 HB.out GE140.out)) : w.heap.size ≤ gb141)); have n4_ := Aside0.mk ((by rw [hg]; exact (below_size (XOpen.bl1 HB.out GE140.out)) : w.heap.size ≤ gb141)); have n5_ := Aside0.mk ((by rw [hg]; exact Nat.ne_of_lt (blk_lt (g := gb140) (o := .cells #[.int .u64 a0_0, .int .u64 a0_1] 49 (0, 0)) (XOpen.bk BK140.out)) : gb140 ≠ gb141)); have n6_ := Aside0.mk ((by rw [hg]; exact Nat.ne_of_gt (blk_lt (g := gb140) (o := .cells #[.int .u64 a0_0, .int .u64 a0_1] 49 (0, 0)) (XOpen.bk BK140.out)) : gb141 ≠ gb140)); clear BK140; clear HB; have BK140 := n0_; have HB := n1_; have BK141 := n2_; have GW141 := n3_; have GE141 := n4_; have NB140_141 := n5_; have NB141_140 := n6_; clear n0_ n1_ n2_ n3_ n4_ n5_ n6_; clear hb hbox hg))
  have n0_ := Aside0.mk (blk_drew BK140.out)
  have n1_ := Aside0.mk (blk_drew BK141.out)
  have n2_ := Aside0.mk (below_drew1 HB.out)
  clear BK140
  clear BK141
  clear HB
  have BK140 := n0_
  have BK141 := n1_
  have HB := n2_
  clear n0_ n1_ n2_
  refine start_ (n := 12) (S := fun w' => w'.cell? ⟨gb140, 0, none⟩ = some (.int .u64 a0_0) ∧ w'.cell? ⟨gb140, 1, none⟩ = some (.int .u64 a0_1)) (ds := []) #[false, false, false, false, false, false, false, false, false, false, false, false] (by kernel_rfl) rfl rfl ⟨(blk_cell BK140.out 0).trans rfl, (blk_cell BK140.out 1).trans rfl⟩ (fun hHeld => ?_); refine with_tabW wide_Scale.tab1 wide_Scale.bits1 (fun HT_ HW_ => ?_)
  generalize w30.drew = w31 at BK140 BK141 HB hHeld ⊢
  refine pure_ (i := 0) (N := some 8) (v := ?_) (a' := ?_) #[true, false, false, false, false, false, false, false, false, false, false, false] rfl rfl (any_of HT_.out (by kernel_rfl)) (fun _ _ _ h => h) (Or.inl ⟨by rfl, ?_⟩) ?_ ?_
  rotate_left
  ·intro w'
   go_simp
   with_reducible rfl
  rotate_left
  ·simp only [Act.put, List.setIfInBounds_toArray, List.set_cons_zero, List.set_cons_succ, i64_w, i32_w]
   rfl
  refine pure_ (i := 2) (N := some 10) (v := ?_) (a' := ?_) #[true, false, true, false, false, false, false, false, false, false, false, false] rfl rfl (any_of HT_.out (by kernel_rfl)) (fun _ _ _ h => h) (Or.inl ⟨by rfl, ?_⟩) ?_ ?_
  rotate_left
  ·intro w'
   go_simp
   with_reducible rfl
  rotate_left
  ·simp only [Act.put, List.setIfInBounds_toArray, List.set_cons_zero, List.set_cons_succ, i64_w, i32_w]
   rfl
  refine pure_ (i := 4) (N := some 12) (v := ?_) (a' := ?_) #[true, false, true, false, true, false, false, false, false, false, false, false] rfl rfl (any_of HT_.out (by kernel_rfl)) (fun _ _ _ h => h) (Or.inl ⟨by rfl, ?_⟩) ?_ ?_
  rotate_left
  ·intro w'
   go_simp
   with_reducible rfl
  rotate_left
  ·simp only [Act.put, List.setIfInBounds_toArray, List.set_cons_zero, List.set_cons_succ, i64_w, i32_w]
   rfl
  refine pure_ (i := 6) (N := some 14) (v := ?_) (a' := ?_) #[true, false, true, false, true, false, true, false, false, false, false, false] rfl rfl (any_of HT_.out (by kernel_rfl)) (fun _ _ _ h => h) (Or.inl ⟨by rfl, ?_⟩) ?_ ?_
  rotate_left
  ·intro w'
   go_simp
   with_reducible rfl
  rotate_left
  ·simp only [Act.put, List.setIfInBounds_toArray, List.set_cons_zero, List.set_cons_succ, i64_w, i32_w]
   rfl
  refine take_ (i := 1) (N := some 9) (v := ?_) (a' := ?_) #[true, true, true, false, true, false, true, false, false, false, false, false] rfl rfl (take_ofW HT_.out HW_.out (by kernel_rfl)) (fun _ _ _ h => h) (Or.inl ⟨by rfl, ?_⟩) hHeld ?_ ?_
  rotate_left
  ·rintro w' ⟨s0, s1⟩
   go_simp
   with_reducible rfl
  rotate_left
  ·simp only [Act.put, List.setIfInBounds_toArray, List.set_cons_zero, List.set_cons_succ, i64_w, i32_w]
   rfl
  refine take_ (i := 5) (N := some 13) (v := ?_) (a' := ?_) #[true, true, true, false, true, true, true, false, false, false, false, false] rfl rfl (take_ofW HT_.out HW_.out (by kernel_rfl)) (fun _ _ _ h => h) (Or.inl ⟨by rfl, ?_⟩) hHeld ?_ ?_
  rotate_left
  ·rintro w' ⟨s0, s1⟩
   go_simp
   with_reducible rfl
  rotate_left
  ·simp only [Act.put, List.setIfInBounds_toArray, List.set_cons_zero, List.set_cons_succ, i64_w, i32_w]
   rfl
  refine join_ (σ := Nat × Nat) 2 #[true, true, true, true, true, true, true, true, true, true, false, false] (fun s_ => [(11, .agg #[.int .u64 t142, .int .u64 t143]), (15, .agg #[.int .u64 t144, .int .u64 t145]), (6, .pointer (some ⟨s_.1, 0, none⟩)), (7, .pointer (some ⟨s_.2, 0, none⟩))]) (fun s_ w' => (w'.cell? ⟨gb140, 0, none⟩ = some (.int .u64 a0_0) ∧ w'.cell? ⟨gb140, 1, none⟩ = some (.int .u64 a0_1)) ∧ (w'.heap[gb140]? = some (.cells #[.int .u64 a0_0, .int .u64 a0_1] 49 (0, 0))) ∧ (w'.heap[gb141]? = some (.cells #[.int .u64 0, .int .u64 0] 49 (0, 0))) ∧ (w'.heap[s_.1]? = some (.cells #[.int .u64 0, .int .u64 0] 49 (0, 0))) ∧ (w'.heap[s_.2]? = some (.cells #[.int .u64 0, .int .u64 0] 49 (0, 0))) ∧ (w.heap.size ≤ s_.1) ∧ (w.heap.size ≤ s_.1) ∧ (gb140 ≠ s_.1) ∧ (s_.1 ≠ gb140) ∧ (gb141 ≠ s_.1) ∧ (s_.1 ≠ gb141) ∧ (s_.2 ≠ s_.1) ∧ (s_.1 ≠ s_.2) ∧ (w.heap.size ≤ s_.2) ∧ (w.heap.size ≤ s_.2) ∧ (gb140 ≠ s_.2) ∧ (s_.2 ≠ gb140) ∧ (gb141 ≠ s_.2) ∧ (s_.2 ≠ gb141) ∧ (Below w.heap.size w w')) ?_ ?_
  rotate_left
  ·intro hJ3_7_8_9
   refine join_ (σ := Nat) 3 #[true, true, true, true, true, true, true, true, true, false, false, false] (fun s_ => [(11, .agg #[.int .u64 t142, .int .u64 t143]), (15, .agg #[.int .u64 t144, .int .u64 t145]), (6, .pointer (some ⟨s_, 0, none⟩))]) (fun s_ w' => (w'.cell? ⟨gb140, 0, none⟩ = some (.int .u64 a0_0) ∧ w'.cell? ⟨gb140, 1, none⟩ = some (.int .u64 a0_1)) ∧ (w'.heap[gb140]? = some (.cells #[.int .u64 a0_0, .int .u64 a0_1] 49 (0, 0))) ∧ (w'.heap[gb141]? = some (.cells #[.int .u64 0, .int .u64 0] 49 (0, 0))) ∧ (w'.heap[s_]? = some (.cells #[.int .u64 0, .int .u64 0] 49 (0, 0))) ∧ (w.heap.size ≤ s_) ∧ (w.heap.size ≤ s_) ∧ (gb140 ≠ s_) ∧ (s_ ≠ gb140) ∧ (gb141 ≠ s_) ∧ (s_ ≠ gb141) ∧ (Below w.heap.size w w')) ?_ ?_
   rotate_left
   ·intro hJ3_7_8
    refine join_ (σ := Nat) 3 #[true, true, true, true, true, true, true, true, false, true, false, false] (fun s_ => [(11, .agg #[.int .u64 t142, .int .u64 t143]), (15, .agg #[.int .u64 t144, .int .u64 t145]), (7, .pointer (some ⟨s_, 0, none⟩))]) (fun s_ w' => (w'.cell? ⟨gb140, 0, none⟩ = some (.int .u64 a0_0) ∧ w'.cell? ⟨gb140, 1, none⟩ = some (.int .u64 a0_1)) ∧ (w'.heap[gb140]? = some (.cells #[.int .u64 a0_0, .int .u64 a0_1] 49 (0, 0))) ∧ (w'.heap[gb141]? = some (.cells #[.int .u64 0, .int .u64 0] 49 (0, 0))) ∧ (w'.heap[s_]? = some (.cells #[.int .u64 0, .int .u64 0] 49 (0, 0))) ∧ (w.heap.size ≤ s_) ∧ (w.heap.size ≤ s_) ∧ (gb140 ≠ s_) ∧ (s_ ≠ gb140) ∧ (gb141 ≠ s_) ∧ (s_ ≠ gb141) ∧ (Below w.heap.size w w')) ?_ ?_
    rotate_left
    ·intro hJ3_7_9
     refine join_ (σ := Nat × Nat) 3 #[true, true, true, true, true, true, true, false, true, true, false, false] (fun s_ => [(11, .agg #[.int .u64 t142, .int .u64 t143]), (6, .pointer (some ⟨s_.1, 0, none⟩)), (7, .pointer (some ⟨s_.2, 0, none⟩))]) (fun s_ w' => (w'.cell? ⟨gb140, 0, none⟩ = some (.int .u64 a0_0) ∧ w'.cell? ⟨gb140, 1, none⟩ = some (.int .u64 a0_1)) ∧ (w'.heap[gb140]? = some (.cells #[.int .u64 a0_0, .int .u64 a0_1] 49 (0, 0))) ∧ (w'.heap[gb141]? = some (.cells #[.int .u64 0, .int .u64 0] 49 (0, 0))) ∧ (w'.heap[s_.1]? = some (.cells #[.int .u64 0, .int .u64 0] 49 (0, 0))) ∧ (w'.heap[s_.2]? = some (.cells #[.int .u64 0, .int .u64 0] 49 (0, 0))) ∧ (w.heap.size ≤ s_.1) ∧ (w.heap.size ≤ s_.1) ∧ (gb140 ≠ s_.1) ∧ (s_.1 ≠ gb140) ∧ (gb141 ≠ s_.1) ∧ (s_.1 ≠ gb141) ∧ (s_.2 ≠ s_.1) ∧ (s_.1 ≠ s_.2) ∧ (w.heap.size ≤ s_.2) ∧ (w.heap.size ≤ s_.2) ∧ (gb140 ≠ s_.2) ∧ (s_.2 ≠ gb140) ∧ (gb141 ≠ s_.2) ∧ (s_.2 ≠ gb141) ∧ (Below w.heap.size w w')) ?_ ?_
     rotate_left
     ·intro hJ3_8_9
      refine join_ (σ := Unit) 4 #[true, true, true, true, true, true, true, true, false, false, false, false] (fun s_ => [(11, .agg #[.int .u64 t142, .int .u64 t143]), (15, .agg #[.int .u64 t144, .int .u64 t145])]) (fun s_ w' => (w'.cell? ⟨gb140, 0, none⟩ = some (.int .u64 a0_0) ∧ w'.cell? ⟨gb140, 1, none⟩ = some (.int .u64 a0_1)) ∧ (w'.heap[gb140]? = some (.cells #[.int .u64 a0_0, .int .u64 a0_1] 49 (0, 0))) ∧ (w'.heap[gb141]? = some (.cells #[.int .u64 0, .int .u64 0] 49 (0, 0))) ∧ (Below w.heap.size w w')) ?_ ?_
      rotate_left
      ·intro hJ3_7
       refine join_ (σ := Nat) 4 #[true, true, true, true, true, true, true, false, true, false, false, false] (fun s_ => [(11, .agg #[.int .u64 t142, .int .u64 t143]), (6, .pointer (some ⟨s_, 0, none⟩))]) (fun s_ w' => (w'.cell? ⟨gb140, 0, none⟩ = some (.int .u64 a0_0) ∧ w'.cell? ⟨gb140, 1, none⟩ = some (.int .u64 a0_1)) ∧ (w'.heap[gb140]? = some (.cells #[.int .u64 a0_0, .int .u64 a0_1] 49 (0, 0))) ∧ (w'.heap[gb141]? = some (.cells #[.int .u64 0, .int .u64 0] 49 (0, 0))) ∧ (w'.heap[s_]? = some (.cells #[.int .u64 0, .int .u64 0] 49 (0, 0))) ∧ (w.heap.size ≤ s_) ∧ (w.heap.size ≤ s_) ∧ (gb140 ≠ s_) ∧ (s_ ≠ gb140) ∧ (gb141 ≠ s_) ∧ (s_ ≠ gb141) ∧ (Below w.heap.size w w')) ?_ ?_
       rotate_left
       ·intro hJ3_8
        refine join_ (σ := Nat) 4 #[true, true, true, true, true, true, true, false, false, true, false, false] (fun s_ => [(11, .agg #[.int .u64 t142, .int .u64 t143]), (7, .pointer (some ⟨s_, 0, none⟩))]) (fun s_ w' => (w'.cell? ⟨gb140, 0, none⟩ = some (.int .u64 a0_0) ∧ w'.cell? ⟨gb140, 1, none⟩ = some (.int .u64 a0_1)) ∧ (w'.heap[gb140]? = some (.cells #[.int .u64 a0_0, .int .u64 a0_1] 49 (0, 0))) ∧ (w'.heap[gb141]? = some (.cells #[.int .u64 0, .int .u64 0] 49 (0, 0))) ∧ (w'.heap[s_]? = some (.cells #[.int .u64 0, .int .u64 0] 49 (0, 0))) ∧ (w.heap.size ≤ s_) ∧ (w.heap.size ≤ s_) ∧ (gb140 ≠ s_) ∧ (s_ ≠ gb140) ∧ (gb141 ≠ s_) ∧ (s_ ≠ gb141) ∧ (Below w.heap.size w w')) ?_ ?_
        rotate_left
        ·intro hJ3_9
         refine join_ (σ := Nat × Nat) 4 #[true, true, true, false, true, true, true, false, true, true, false, false] (fun s_ => [(6, .pointer (some ⟨s_.1, 0, none⟩)), (7, .pointer (some ⟨s_.2, 0, none⟩))]) (fun s_ w' => (w'.cell? ⟨gb140, 0, none⟩ = some (.int .u64 a0_0) ∧ w'.cell? ⟨gb140, 1, none⟩ = some (.int .u64 a0_1)) ∧ (w'.heap[gb140]? = some (.cells #[.int .u64 a0_0, .int .u64 a0_1] 49 (0, 0))) ∧ (w'.heap[gb141]? = some (.cells #[.int .u64 0, .int .u64 0] 49 (0, 0))) ∧ (w'.heap[s_.1]? = some (.cells #[.int .u64 0, .int .u64 0] 49 (0, 0))) ∧ (w'.heap[s_.2]? = some (.cells #[.int .u64 0, .int .u64 0] 49 (0, 0))) ∧ (w.heap.size ≤ s_.1) ∧ (w.heap.size ≤ s_.1) ∧ (gb140 ≠ s_.1) ∧ (s_.1 ≠ gb140) ∧ (gb141 ≠ s_.1) ∧ (s_.1 ≠ gb141) ∧ (s_.2 ≠ s_.1) ∧ (s_.1 ≠ s_.2) ∧ (w.heap.size ≤ s_.2) ∧ (w.heap.size ≤ s_.2) ∧ (gb140 ≠ s_.2) ∧ (s_.2 ≠ gb140) ∧ (gb141 ≠ s_.2) ∧ (s_.2 ≠ gb141) ∧ (Below w.heap.size w w')) ?_ ?_
         rotate_left
         ·intro hJ8_9
          refine join_ (σ := Unit) 5 #[true, true, true, true, true, true, true, false, false, false, false, false] (fun s_ => [(11, .agg #[.int .u64 t142, .int .u64 t143])]) (fun s_ w' => (w'.cell? ⟨gb140, 0, none⟩ = some (.int .u64 a0_0) ∧ w'.cell? ⟨gb140, 1, none⟩ = some (.int .u64 a0_1)) ∧ (w'.heap[gb140]? = some (.cells #[.int .u64 a0_0, .int .u64 a0_1] 49 (0, 0))) ∧ (w'.heap[gb141]? = some (.cells #[.int .u64 0, .int .u64 0] 49 (0, 0))) ∧ (Below w.heap.size w w')) ?_ ?_
          rotate_left
          ·intro hJ3
           refine join_ (σ := Nat) 5 #[true, true, true, false, true, true, true, false, true, false, false, false] (fun s_ => [(6, .pointer (some ⟨s_, 0, none⟩))]) (fun s_ w' => (w'.cell? ⟨gb140, 0, none⟩ = some (.int .u64 a0_0) ∧ w'.cell? ⟨gb140, 1, none⟩ = some (.int .u64 a0_1)) ∧ (w'.heap[gb140]? = some (.cells #[.int .u64 a0_0, .int .u64 a0_1] 49 (0, 0))) ∧ (w'.heap[gb141]? = some (.cells #[.int .u64 0, .int .u64 0] 49 (0, 0))) ∧ (w'.heap[s_]? = some (.cells #[.int .u64 0, .int .u64 0] 49 (0, 0))) ∧ (w.heap.size ≤ s_) ∧ (w.heap.size ≤ s_) ∧ (gb140 ≠ s_) ∧ (s_ ≠ gb140) ∧ (gb141 ≠ s_) ∧ (s_ ≠ gb141) ∧ (Below w.heap.size w w')) ?_ ?_
           rotate_left
           ·intro hJ8
            refine join_ (σ := Nat) 5 #[true, true, true, false, true, true, true, false, false, true, false, false] (fun s_ => [(7, .pointer (some ⟨s_, 0, none⟩))]) (fun s_ w' => (w'.cell? ⟨gb140, 0, none⟩ = some (.int .u64 a0_0) ∧ w'.cell? ⟨gb140, 1, none⟩ = some (.int .u64 a0_1)) ∧ (w'.heap[gb140]? = some (.cells #[.int .u64 a0_0, .int .u64 a0_1] 49 (0, 0))) ∧ (w'.heap[gb141]? = some (.cells #[.int .u64 0, .int .u64 0] 49 (0, 0))) ∧ (w'.heap[s_]? = some (.cells #[.int .u64 0, .int .u64 0] 49 (0, 0))) ∧ (w.heap.size ≤ s_) ∧ (w.heap.size ≤ s_) ∧ (gb140 ≠ s_) ∧ (s_ ≠ gb140) ∧ (gb141 ≠ s_) ∧ (s_ ≠ gb141) ∧ (Below w.heap.size w w')) ?_ ?_
            rotate_left
            ·intro hJ9
             refine three_ (i := 3) (j := 8) (k := 9) (Ni := some 11) (Nj := some 6) (Nk := some 7) #[true, true, true, true, true, true, true, false, false, false, false, false] #[true, true, true, false, true, true, true, false, true, false, false, false] #[true, true, true, false, true, true, true, false, false, true, false, false] rfl rfl rfl rfl rfl rfl (three_of HT_.out (by kernel_rfl)) (by decide) (by decide) (by decide) (fun K hK => ?_) (fun K hK => ?_) (fun K hK => ?_)
             ·skip
              refine goes_ Try.func59 (by kernel_rfl) rfl #[.int .u64 a0_1, .int .u64 a1] (by rfl) rfl rfl (by (try simp only [List.map_toArray, List.map_cons, List.map_nil]); first | done | rfl | (simp only [List.length_drop, List.length_take]; rfl)) ?_
              with_reducible refine (wide_Mul.calls a0_1 a1 t142 t143 _ A3.out).mono ?_
              rintro e w32 ⟨rfl, hb⟩
              refine ⟨_, rfl, ?_⟩
              have n0_ := Aside0.mk (blk_below (g := gb140) (o := .cells #[.int .u64 a0_0, .int .u64 a0_1] 49 (0, 0)) (XOpen.bk BK140.out) hb)
              have n1_ := Aside0.mk (blk_below (g := gb141) (o := .cells #[.int .u64 0, .int .u64 0] 49 (0, 0)) (XOpen.bk BK141.out) hb)
              have n2_ := Aside0.mk (below_step (XOpen.bl2 HB.out GE140.out GE141.out) hb)
              clear BK140
              clear BK141
              clear HB
              have BK140 := n0_
              have BK141 := n1_
              have HB := n2_
              clear n0_ n1_ n2_
              (try clear hb)
              (try clear hb2)
              (try clear hk)
              (try clear hi)
              refine hK.out _ _ ⟨(blk_cell BK140.out 0).trans rfl, (blk_cell BK140.out 1).trans rfl⟩ (fun hHeld => ?_)
              clear hK K
              refine norm_ (a' := ?_) ?_ ?_
              rotate_left
              ·show Act.put _ (some 11) _ = _
               simp only [Act.put, List.setIfInBounds_toArray, List.set_cons_zero, List.set_cons_succ, i64_w, i32_w]
               rfl
              exact norm_ (by first | (simp only [putAll, Act.put, List.setIfInBounds_toArray, List.set_cons_zero, List.set_cons_succ]; done) | (simp only [putAll, Act.put, List.setIfInBounds_toArray, List.set_cons_zero, List.set_cons_succ]; rfl)) (hJ3 () _ ⟨hHeld, (XOpen.bk BK140.out), (XOpen.bk BK141.out), (XOpen.bl2 HB.out GE140.out GE141.out)⟩)
             ·skip
              refine box_step ?hg (N := 6) ?hd (cs := #[.int .u64 0, .int .u64 0]) (t := 49) ?hr ?_; (case hd => rfl); (case hg => rfl); (case hr => first | (go_simp; done) | (go_simp; rfl))
              intro gb146 hg w32 hbox hb
              have n0_ := Aside0.mk (blk_below (g := gb140) (o := .cells #[.int .u64 a0_0, .int .u64 a0_1] 49 (0, 0)) (XOpen.bk BK140.out) hb)
              have n1_ := Aside0.mk (blk_below (g := gb141) (o := .cells #[.int .u64 0, .int .u64 0] 49 (0, 0)) (XOpen.bk BK141.out) hb)
              have n2_ := Aside0.mk (below_step (XOpen.bl2 HB.out GE140.out GE141.out) hb)
              have n3_ := Aside0.mk (hbox)
              have n4_ := Aside0.mk ((by rw [hg]; exact (below_size (XOpen.bl2 HB.out GE140.out GE141.out)) : w.heap.size ≤ gb146))
              have n5_ := Aside0.mk ((by rw [hg]; exact (below_size (XOpen.bl2 HB.out GE140.out GE141.out)) : w.heap.size ≤ gb146))
              have n6_ := Aside0.mk ((by rw [hg]; exact Nat.ne_of_lt (blk_lt (g := gb140) (o := .cells #[.int .u64 a0_0, .int .u64 a0_1] 49 (0, 0)) (XOpen.bk BK140.out)) : gb140 ≠ gb146))
              have n7_ := Aside0.mk ((by rw [hg]; exact Nat.ne_of_gt (blk_lt (g := gb140) (o := .cells #[.int .u64 a0_0, .int .u64 a0_1] 49 (0, 0)) (XOpen.bk BK140.out)) : gb146 ≠ gb140))
              have n8_ := Aside0.mk ((by rw [hg]; exact Nat.ne_of_lt (blk_lt (g := gb141) (o := .cells #[.int .u64 0, .int .u64 0] 49 (0, 0)) (XOpen.bk BK141.out)) : gb141 ≠ gb146))
              have n9_ := Aside0.mk ((by rw [hg]; exact Nat.ne_of_gt (blk_lt (g := gb141) (o := .cells #[.int .u64 0, .int .u64 0] 49 (0, 0)) (XOpen.bk BK141.out)) : gb146 ≠ gb141))
              clear BK140
              clear BK141
              clear HB
              have BK140 := n0_
              have BK141 := n1_
              have HB := n2_
              have BK146 := n3_
              have GW146 := n4_
              have GE146 := n5_
              have NB140_146 := n6_
              have NB146_140 := n7_
              have NB141_146 := n8_
              have NB146_141 := n9_
              clear n0_ n1_ n2_ n3_ n4_ n5_ n6_ n7_ n8_ n9_
              clear hb hbox hg
              refine hK.out _ _ ⟨(blk_cell BK140.out 0).trans rfl, (blk_cell BK140.out 1).trans rfl⟩ (fun hHeld => ?_)
              clear hK K
              refine norm_ (a' := ?_) ?_ ?_
              rotate_left
              ·show Act.put _ (some 6) _ = _
               simp only [Act.put, List.setIfInBounds_toArray, List.set_cons_zero, List.set_cons_succ, i64_w, i32_w]
               rfl
              exact norm_ (by first | (simp only [putAll, Act.put, List.setIfInBounds_toArray, List.set_cons_zero, List.set_cons_succ]; done) | (simp only [putAll, Act.put, List.setIfInBounds_toArray, List.set_cons_zero, List.set_cons_succ]; rfl)) (hJ8 (gb146) _ ⟨hHeld, (XOpen.bk BK140.out), (XOpen.bk BK141.out), (XOpen.bk BK146.out), GW146.out, GE146.out, NB140_146.out, NB146_140.out, NB141_146.out, NB146_141.out, (XOpen.bl3 HB.out GE140.out GE141.out GE146.out)⟩)
             ·skip
              refine box_step ?hg (N := 7) ?hd (cs := #[.int .u64 0, .int .u64 0]) (t := 49) ?hr ?_; (case hd => rfl); (case hg => rfl); (case hr => first | (go_simp; done) | (go_simp; rfl))
              intro gb147 hg w32 hbox hb
              have n0_ := Aside0.mk (blk_below (g := gb140) (o := .cells #[.int .u64 a0_0, .int .u64 a0_1] 49 (0, 0)) (XOpen.bk BK140.out) hb)
              have n1_ := Aside0.mk (blk_below (g := gb141) (o := .cells #[.int .u64 0, .int .u64 0] 49 (0, 0)) (XOpen.bk BK141.out) hb)
              have n2_ := Aside0.mk (below_step (XOpen.bl2 HB.out GE140.out GE141.out) hb)
              have n3_ := Aside0.mk (hbox)
              have n4_ := Aside0.mk ((by rw [hg]; exact (below_size (XOpen.bl2 HB.out GE140.out GE141.out)) : w.heap.size ≤ gb147))
              have n5_ := Aside0.mk ((by rw [hg]; exact (below_size (XOpen.bl2 HB.out GE140.out GE141.out)) : w.heap.size ≤ gb147))
              have n6_ := Aside0.mk ((by rw [hg]; exact Nat.ne_of_lt (blk_lt (g := gb140) (o := .cells #[.int .u64 a0_0, .int .u64 a0_1] 49 (0, 0)) (XOpen.bk BK140.out)) : gb140 ≠ gb147))
              have n7_ := Aside0.mk ((by rw [hg]; exact Nat.ne_of_gt (blk_lt (g := gb140) (o := .cells #[.int .u64 a0_0, .int .u64 a0_1] 49 (0, 0)) (XOpen.bk BK140.out)) : gb147 ≠ gb140))
              have n8_ := Aside0.mk ((by rw [hg]; exact Nat.ne_of_lt (blk_lt (g := gb141) (o := .cells #[.int .u64 0, .int .u64 0] 49 (0, 0)) (XOpen.bk BK141.out)) : gb141 ≠ gb147))
              have n9_ := Aside0.mk ((by rw [hg]; exact Nat.ne_of_gt (blk_lt (g := gb141) (o := .cells #[.int .u64 0, .int .u64 0] 49 (0, 0)) (XOpen.bk BK141.out)) : gb147 ≠ gb141))
              clear BK140
              clear BK141
              clear HB
              have BK140 := n0_
              have BK141 := n1_
              have HB := n2_
              have BK147 := n3_
              have GW147 := n4_
              have GE147 := n5_
              have NB140_147 := n6_
              have NB147_140 := n7_
              have NB141_147 := n8_
              have NB147_141 := n9_
              clear n0_ n1_ n2_ n3_ n4_ n5_ n6_ n7_ n8_ n9_
              clear hb hbox hg
              refine hK.out _ _ ⟨(blk_cell BK140.out 0).trans rfl, (blk_cell BK140.out 1).trans rfl⟩ (fun hHeld => ?_)
              clear hK K
              refine norm_ (a' := ?_) ?_ ?_
              rotate_left
              ·show Act.put _ (some 7) _ = _
               simp only [Act.put, List.setIfInBounds_toArray, List.set_cons_zero, List.set_cons_succ, i64_w, i32_w]
               rfl
              exact norm_ (by first | (simp only [putAll, Act.put, List.setIfInBounds_toArray, List.set_cons_zero, List.set_cons_succ]; done) | (simp only [putAll, Act.put, List.setIfInBounds_toArray, List.set_cons_zero, List.set_cons_succ]; rfl)) (hJ9 (gb147) _ ⟨hHeld, (XOpen.bk BK140.out), (XOpen.bk BK141.out), (XOpen.bk BK147.out), GW147.out, GE147.out, NB140_147.out, NB147_140.out, NB141_147.out, NB147_141.out, (XOpen.bl3 HB.out GE140.out GE141.out GE147.out)⟩)
            ·skip
             rintro gb147 w33 ⟨hS_, h0_, h1_, h2_, h3_, h4_, h5_, h6_, h7_, h8_, h9_⟩
             have n0_ : Aside0 (w33.heap[gb140]? = some (.cells #[.int .u64 a0_0, .int .u64 a0_1] 49 (0, 0))) := ⟨h0_⟩
             have n1_ : Aside0 (w33.heap[gb141]? = some (.cells #[.int .u64 0, .int .u64 0] 49 (0, 0))) := ⟨h1_⟩
             have n2_ : Aside0 (w33.heap[gb147]? = some (.cells #[.int .u64 0, .int .u64 0] 49 (0, 0))) := ⟨h2_⟩
             have n3_ : Aside0 (w.heap.size ≤ gb147) := ⟨h3_⟩
             have n4_ : Aside0 (w.heap.size ≤ gb147) := ⟨h4_⟩
             have n5_ : Aside0 (gb140 ≠ gb147) := ⟨h5_⟩
             have n6_ : Aside0 (gb147 ≠ gb140) := ⟨h6_⟩
             have n7_ : Aside0 (gb141 ≠ gb147) := ⟨h7_⟩
             have n8_ : Aside0 (gb147 ≠ gb141) := ⟨h8_⟩
             have n9_ : Aside0 (Below w.heap.size w w33) := ⟨h9_⟩
             clear BK140
             clear BK141
             clear HB
             clear h0_ h1_ h2_ h3_ h4_ h5_ h6_ h7_ h8_ h9_
             have BK140 := n0_
             have BK141 := n1_
             have BK147 := n2_
             have GW147 := n3_
             have GE147 := n4_
             have NB140_147 := n5_
             have NB147_140 := n6_
             have NB141_147 := n7_
             have NB147_141 := n8_
             have HB := n9_
             clear n0_ n1_ n2_ n3_ n4_ n5_ n6_ n7_ n8_ n9_
             have hHeld : w33.cell? ⟨gb140, 0, none⟩ = some (.int .u64 a0_0) ∧ w33.cell? ⟨gb140, 1, none⟩ = some (.int .u64 a0_1) := hS_
             refine norm_ (a' := ?_) ?_ ?_
             rotate_left
             ·simp only [putAll, Act.put, List.setIfInBounds_toArray, List.set_cons_zero, List.set_cons_succ]
              rfl
             refine two_ (i := 3) (j := 8) (Ni := some 11) (Nj := some 6) #[true, true, true, true, true, true, true, false, false, true, false, false] #[true, true, true, false, true, true, true, false, true, true, false, false] rfl rfl rfl rfl (two_of HT_.out (by kernel_rfl)) (by decide) (by decide) (fun K hK => ?_) (fun K hK => ?_)
             ·skip
              refine goes_ Try.func59 (by kernel_rfl) rfl #[.int .u64 a0_1, .int .u64 a1] (by rfl) rfl rfl (by (try simp only [List.map_toArray, List.map_cons, List.map_nil]); first | done | rfl | (simp only [List.length_drop, List.length_take]; rfl)) ?_
              with_reducible refine (wide_Mul.calls a0_1 a1 t142 t143 _ A3.out).mono ?_
              rintro e w34 ⟨rfl, hb⟩
              refine ⟨_, rfl, ?_⟩
              have n0_ := Aside0.mk (blk_below (g := gb140) (o := .cells #[.int .u64 a0_0, .int .u64 a0_1] 49 (0, 0)) (XOpen.bk BK140.out) hb)
              have n1_ := Aside0.mk (blk_below (g := gb141) (o := .cells #[.int .u64 0, .int .u64 0] 49 (0, 0)) (XOpen.bk BK141.out) hb)
              have n2_ := Aside0.mk (blk_below (g := gb147) (o := .cells #[.int .u64 0, .int .u64 0] 49 (0, 0)) (XOpen.bk BK147.out) hb)
              have n3_ := Aside0.mk (below_step (XOpen.bl3 HB.out GE140.out GE141.out GE147.out) hb)
              clear BK140
              clear BK141
              clear BK147
              clear HB
              have BK140 := n0_
              have BK141 := n1_
              have BK147 := n2_
              have HB := n3_
              clear n0_ n1_ n2_ n3_
              (try clear hb)
              (try clear hb2)
              (try clear hk)
              (try clear hi)
              refine hK.out _ _ ⟨(blk_cell BK140.out 0).trans rfl, (blk_cell BK140.out 1).trans rfl⟩ (fun hHeld => ?_)
              clear hK K
              refine norm_ (a' := ?_) ?_ ?_
              rotate_left
              ·show Act.put _ (some 11) _ = _
               simp only [Act.put, List.setIfInBounds_toArray, List.set_cons_zero, List.set_cons_succ, i64_w, i32_w]
               rfl
              exact norm_ (by first | (simp only [putAll, Act.put, List.setIfInBounds_toArray, List.set_cons_zero, List.set_cons_succ]; done) | (simp only [putAll, Act.put, List.setIfInBounds_toArray, List.set_cons_zero, List.set_cons_succ]; rfl)) (hJ3_9 (gb147) _ ⟨hHeld, (XOpen.bk BK140.out), (XOpen.bk BK141.out), (XOpen.bk BK147.out), GW147.out, GE147.out, NB140_147.out, NB147_140.out, NB141_147.out, NB147_141.out, (XOpen.bl3 HB.out GE140.out GE141.out GE147.out)⟩)
             ·skip
              refine box_step ?hg (N := 6) ?hd (cs := #[.int .u64 0, .int .u64 0]) (t := 49) ?hr ?_; (case hd => rfl); (case hg => rfl); (case hr => first | (go_simp; done) | (go_simp; rfl))
              intro gb146 hg w34 hbox hb
              have n0_ := Aside0.mk (blk_below (g := gb140) (o := .cells #[.int .u64 a0_0, .int .u64 a0_1] 49 (0, 0)) (XOpen.bk BK140.out) hb)
              have n1_ := Aside0.mk (blk_below (g := gb141) (o := .cells #[.int .u64 0, .int .u64 0] 49 (0, 0)) (XOpen.bk BK141.out) hb)
              have n2_ := Aside0.mk (blk_below (g := gb147) (o := .cells #[.int .u64 0, .int .u64 0] 49 (0, 0)) (XOpen.bk BK147.out) hb)
              have n3_ := Aside0.mk (below_step (XOpen.bl3 HB.out GE140.out GE141.out GE147.out) hb)
              have n4_ := Aside0.mk (hbox)
              have n5_ := Aside0.mk ((by rw [hg]; exact (below_size (XOpen.bl3 HB.out GE140.out GE141.out GE147.out)) : w.heap.size ≤ gb146))
              have n6_ := Aside0.mk ((by rw [hg]; exact (below_size (XOpen.bl3 HB.out GE140.out GE141.out GE147.out)) : w.heap.size ≤ gb146))
              have n7_ := Aside0.mk ((by rw [hg]; exact Nat.ne_of_lt (blk_lt (g := gb140) (o := .cells #[.int .u64 a0_0, .int .u64 a0_1] 49 (0, 0)) (XOpen.bk BK140.out)) : gb140 ≠ gb146))
              have n8_ := Aside0.mk ((by rw [hg]; exact Nat.ne_of_gt (blk_lt (g := gb140) (o := .cells #[.int .u64 a0_0, .int .u64 a0_1] 49 (0, 0)) (XOpen.bk BK140.out)) : gb146 ≠ gb140))
              have n9_ := Aside0.mk ((by rw [hg]; exact Nat.ne_of_lt (blk_lt (g := gb141) (o := .cells #[.int .u64 0, .int .u64 0] 49 (0, 0)) (XOpen.bk BK141.out)) : gb141 ≠ gb146))
              have n10_ := Aside0.mk ((by rw [hg]; exact Nat.ne_of_gt (blk_lt (g := gb141) (o := .cells #[.int .u64 0, .int .u64 0] 49 (0, 0)) (XOpen.bk BK141.out)) : gb146 ≠ gb141))
              have n11_ := Aside0.mk ((by rw [hg]; exact Nat.ne_of_lt (blk_lt (g := gb147) (o := .cells #[.int .u64 0, .int .u64 0] 49 (0, 0)) (XOpen.bk BK147.out)) : gb147 ≠ gb146))
              have n12_ := Aside0.mk ((by rw [hg]; exact Nat.ne_of_gt (blk_lt (g := gb147) (o := .cells #[.int .u64 0, .int .u64 0] 49 (0, 0)) (XOpen.bk BK147.out)) : gb146 ≠ gb147))
              clear BK140
              clear BK141
              clear BK147
              clear HB
              have BK140 := n0_
              have BK141 := n1_
              have BK147 := n2_
              have HB := n3_
              have BK146 := n4_
              have GW146 := n5_
              have GE146 := n6_
              have NB140_146 := n7_
              have NB146_140 := n8_
              have NB141_146 := n9_
              have NB146_141 := n10_
              have NB147_146 := n11_
              have NB146_147 := n12_
              clear n0_ n1_ n2_ n3_ n4_ n5_ n6_ n7_ n8_ n9_ n10_ n11_ n12_
              clear hb hbox hg
              refine hK.out _ _ ⟨(blk_cell BK140.out 0).trans rfl, (blk_cell BK140.out 1).trans rfl⟩ (fun hHeld => ?_)
              clear hK K
              refine norm_ (a' := ?_) ?_ ?_
              rotate_left
              ·show Act.put _ (some 6) _ = _
               simp only [Act.put, List.setIfInBounds_toArray, List.set_cons_zero, List.set_cons_succ, i64_w, i32_w]
               rfl
              exact norm_ (by first | (simp only [putAll, Act.put, List.setIfInBounds_toArray, List.set_cons_zero, List.set_cons_succ]; done) | (simp only [putAll, Act.put, List.setIfInBounds_toArray, List.set_cons_zero, List.set_cons_succ]; rfl)) (hJ8_9 (gb146, gb147) _ ⟨hHeld, (XOpen.bk BK140.out), (XOpen.bk BK141.out), (XOpen.bk BK146.out), (XOpen.bk BK147.out), GW146.out, GE146.out, NB140_146.out, NB146_140.out, NB141_146.out, NB146_141.out, NB147_146.out, NB146_147.out, GW147.out, GE147.out, NB140_147.out, NB147_140.out, NB141_147.out, NB147_141.out, (XOpen.bl4 HB.out GE140.out GE141.out GE147.out GE146.out)⟩)
           ·skip
            rintro gb146 w33 ⟨hS_, h0_, h1_, h2_, h3_, h4_, h5_, h6_, h7_, h8_, h9_⟩
            have n0_ : Aside0 (w33.heap[gb140]? = some (.cells #[.int .u64 a0_0, .int .u64 a0_1] 49 (0, 0))) := ⟨h0_⟩
            have n1_ : Aside0 (w33.heap[gb141]? = some (.cells #[.int .u64 0, .int .u64 0] 49 (0, 0))) := ⟨h1_⟩
            have n2_ : Aside0 (w33.heap[gb146]? = some (.cells #[.int .u64 0, .int .u64 0] 49 (0, 0))) := ⟨h2_⟩
            have n3_ : Aside0 (w.heap.size ≤ gb146) := ⟨h3_⟩
            have n4_ : Aside0 (w.heap.size ≤ gb146) := ⟨h4_⟩
            have n5_ : Aside0 (gb140 ≠ gb146) := ⟨h5_⟩
            have n6_ : Aside0 (gb146 ≠ gb140) := ⟨h6_⟩
            have n7_ : Aside0 (gb141 ≠ gb146) := ⟨h7_⟩
            have n8_ : Aside0 (gb146 ≠ gb141) := ⟨h8_⟩
            have n9_ : Aside0 (Below w.heap.size w w33) := ⟨h9_⟩
            clear BK140
            clear BK141
            clear HB
            clear h0_ h1_ h2_ h3_ h4_ h5_ h6_ h7_ h8_ h9_
            have BK140 := n0_
            have BK141 := n1_
            have BK146 := n2_
            have GW146 := n3_
            have GE146 := n4_
            have NB140_146 := n5_
            have NB146_140 := n6_
            have NB141_146 := n7_
            have NB146_141 := n8_
            have HB := n9_
            clear n0_ n1_ n2_ n3_ n4_ n5_ n6_ n7_ n8_ n9_
            have hHeld : w33.cell? ⟨gb140, 0, none⟩ = some (.int .u64 a0_0) ∧ w33.cell? ⟨gb140, 1, none⟩ = some (.int .u64 a0_1) := hS_
            refine norm_ (a' := ?_) ?_ ?_
            rotate_left
            ·simp only [putAll, Act.put, List.setIfInBounds_toArray, List.set_cons_zero, List.set_cons_succ]
             rfl
            refine two_ (i := 3) (j := 9) (Ni := some 11) (Nj := some 7) #[true, true, true, true, true, true, true, false, true, false, false, false] #[true, true, true, false, true, true, true, false, true, true, false, false] rfl rfl rfl rfl (two_of HT_.out (by kernel_rfl)) (by decide) (by decide) (fun K hK => ?_) (fun K hK => ?_)
            ·skip
             refine goes_ Try.func59 (by kernel_rfl) rfl #[.int .u64 a0_1, .int .u64 a1] (by rfl) rfl rfl (by (try simp only [List.map_toArray, List.map_cons, List.map_nil]); first | done | rfl | (simp only [List.length_drop, List.length_take]; rfl)) ?_
             with_reducible refine (wide_Mul.calls a0_1 a1 t142 t143 _ A3.out).mono ?_
             rintro e w34 ⟨rfl, hb⟩
             refine ⟨_, rfl, ?_⟩
             have n0_ := Aside0.mk (blk_below (g := gb140) (o := .cells #[.int .u64 a0_0, .int .u64 a0_1] 49 (0, 0)) (XOpen.bk BK140.out) hb)
             have n1_ := Aside0.mk (blk_below (g := gb141) (o := .cells #[.int .u64 0, .int .u64 0] 49 (0, 0)) (XOpen.bk BK141.out) hb)
             have n2_ := Aside0.mk (blk_below (g := gb146) (o := .cells #[.int .u64 0, .int .u64 0] 49 (0, 0)) (XOpen.bk BK146.out) hb)
             have n3_ := Aside0.mk (below_step (XOpen.bl3 HB.out GE140.out GE141.out GE146.out) hb)
             clear BK140
             clear BK141
             clear BK146
             clear HB
             have BK140 := n0_
             have BK141 := n1_
             have BK146 := n2_
             have HB := n3_
             clear n0_ n1_ n2_ n3_
             (try clear hb)
             (try clear hb2)
             (try clear hk)
             (try clear hi)
             refine hK.out _ _ ⟨(blk_cell BK140.out 0).trans rfl, (blk_cell BK140.out 1).trans rfl⟩ (fun hHeld => ?_)
             clear hK K
             refine norm_ (a' := ?_) ?_ ?_
             rotate_left
             ·show Act.put _ (some 11) _ = _
              simp only [Act.put, List.setIfInBounds_toArray, List.set_cons_zero, List.set_cons_succ, i64_w, i32_w]
              rfl
             exact norm_ (by first | (simp only [putAll, Act.put, List.setIfInBounds_toArray, List.set_cons_zero, List.set_cons_succ]; done) | (simp only [putAll, Act.put, List.setIfInBounds_toArray, List.set_cons_zero, List.set_cons_succ]; rfl)) (hJ3_8 (gb146) _ ⟨hHeld, (XOpen.bk BK140.out), (XOpen.bk BK141.out), (XOpen.bk BK146.out), GW146.out, GE146.out, NB140_146.out, NB146_140.out, NB141_146.out, NB146_141.out, (XOpen.bl3 HB.out GE140.out GE141.out GE146.out)⟩)
            ·skip
             refine box_step ?hg (N := 7) ?hd (cs := #[.int .u64 0, .int .u64 0]) (t := 49) ?hr ?_; (case hd => rfl); (case hg => rfl); (case hr => first | (go_simp; done) | (go_simp; rfl))
             intro gb147 hg w34 hbox hb
             have n0_ := Aside0.mk (blk_below (g := gb140) (o := .cells #[.int .u64 a0_0, .int .u64 a0_1] 49 (0, 0)) (XOpen.bk BK140.out) hb)
             have n1_ := Aside0.mk (blk_below (g := gb141) (o := .cells #[.int .u64 0, .int .u64 0] 49 (0, 0)) (XOpen.bk BK141.out) hb)
             have n2_ := Aside0.mk (blk_below (g := gb146) (o := .cells #[.int .u64 0, .int .u64 0] 49 (0, 0)) (XOpen.bk BK146.out) hb)
             have n3_ := Aside0.mk (below_step (XOpen.bl3 HB.out GE140.out GE141.out GE146.out) hb)
             have n4_ := Aside0.mk (hbox)
             have n5_ := Aside0.mk ((by rw [hg]; exact (below_size (XOpen.bl3 HB.out GE140.out GE141.out GE146.out)) : w.heap.size ≤ gb147))
             have n6_ := Aside0.mk ((by rw [hg]; exact (below_size (XOpen.bl3 HB.out GE140.out GE141.out GE146.out)) : w.heap.size ≤ gb147))
             have n7_ := Aside0.mk ((by rw [hg]; exact Nat.ne_of_lt (blk_lt (g := gb140) (o := .cells #[.int .u64 a0_0, .int .u64 a0_1] 49 (0, 0)) (XOpen.bk BK140.out)) : gb140 ≠ gb147))
             have n8_ := Aside0.mk ((by rw [hg]; exact Nat.ne_of_gt (blk_lt (g := gb140) (o := .cells #[.int .u64 a0_0, .int .u64 a0_1] 49 (0, 0)) (XOpen.bk BK140.out)) : gb147 ≠ gb140))
             have n9_ := Aside0.mk ((by rw [hg]; exact Nat.ne_of_lt (blk_lt (g := gb141) (o := .cells #[.int .u64 0, .int .u64 0] 49 (0, 0)) (XOpen.bk BK141.out)) : gb141 ≠ gb147))
             have n10_ := Aside0.mk ((by rw [hg]; exact Nat.ne_of_gt (blk_lt (g := gb141) (o := .cells #[.int .u64 0, .int .u64 0] 49 (0, 0)) (XOpen.bk BK141.out)) : gb147 ≠ gb141))
             have n11_ := Aside0.mk ((by rw [hg]; exact Nat.ne_of_lt (blk_lt (g := gb146) (o := .cells #[.int .u64 0, .int .u64 0] 49 (0, 0)) (XOpen.bk BK146.out)) : gb146 ≠ gb147))
             have n12_ := Aside0.mk ((by rw [hg]; exact Nat.ne_of_gt (blk_lt (g := gb146) (o := .cells #[.int .u64 0, .int .u64 0] 49 (0, 0)) (XOpen.bk BK146.out)) : gb147 ≠ gb146))
             clear BK140
             clear BK141
             clear BK146
             clear HB
             have BK140 := n0_
             have BK141 := n1_
             have BK146 := n2_
             have HB := n3_
             have BK147 := n4_
             have GW147 := n5_
             have GE147 := n6_
             have NB140_147 := n7_
             have NB147_140 := n8_
             have NB141_147 := n9_
             have NB147_141 := n10_
             have NB146_147 := n11_
             have NB147_146 := n12_
             clear n0_ n1_ n2_ n3_ n4_ n5_ n6_ n7_ n8_ n9_ n10_ n11_ n12_
             clear hb hbox hg
             refine hK.out _ _ ⟨(blk_cell BK140.out 0).trans rfl, (blk_cell BK140.out 1).trans rfl⟩ (fun hHeld => ?_)
             clear hK K
             refine norm_ (a' := ?_) ?_ ?_
             rotate_left
             ·show Act.put _ (some 7) _ = _
              simp only [Act.put, List.setIfInBounds_toArray, List.set_cons_zero, List.set_cons_succ, i64_w, i32_w]
              rfl
             exact norm_ (by first | (simp only [putAll, Act.put, List.setIfInBounds_toArray, List.set_cons_zero, List.set_cons_succ]; done) | (simp only [putAll, Act.put, List.setIfInBounds_toArray, List.set_cons_zero, List.set_cons_succ]; rfl)) (hJ8_9 (gb146, gb147) _ ⟨hHeld, (XOpen.bk BK140.out), (XOpen.bk BK141.out), (XOpen.bk BK146.out), (XOpen.bk BK147.out), GW146.out, GE146.out, NB140_146.out, NB146_140.out, NB141_146.out, NB146_141.out, NB147_146.out, NB146_147.out, GW147.out, GE147.out, NB140_147.out, NB147_140.out, NB141_147.out, NB147_141.out, (XOpen.bl4 HB.out GE140.out GE141.out GE146.out GE147.out)⟩)
          ·skip
           rintro _ w33 ⟨hS_, h0_, h1_, h2_⟩
           have n0_ : Aside0 (w33.heap[gb140]? = some (.cells #[.int .u64 a0_0, .int .u64 a0_1] 49 (0, 0))) := ⟨h0_⟩
           have n1_ : Aside0 (w33.heap[gb141]? = some (.cells #[.int .u64 0, .int .u64 0] 49 (0, 0))) := ⟨h1_⟩
           have n2_ : Aside0 (Below w.heap.size w w33) := ⟨h2_⟩
           clear BK140
           clear BK141
           clear HB
           clear h0_ h1_ h2_
           have BK140 := n0_
           have BK141 := n1_
           have HB := n2_
           clear n0_ n1_ n2_
           have hHeld : w33.cell? ⟨gb140, 0, none⟩ = some (.int .u64 a0_0) ∧ w33.cell? ⟨gb140, 1, none⟩ = some (.int .u64 a0_1) := hS_
           refine norm_ (a' := ?_) ?_ ?_
           rotate_left
           ·simp only [putAll, Act.put, List.setIfInBounds_toArray, List.set_cons_zero, List.set_cons_succ]
            rfl
           refine three_ (i := 7) (j := 8) (k := 9) (Ni := some 15) (Nj := some 6) (Nk := some 7) #[true, true, true, true, true, true, true, true, false, false, false, false] #[true, true, true, true, true, true, true, false, true, false, false, false] #[true, true, true, true, true, true, true, false, false, true, false, false] rfl rfl rfl rfl rfl rfl (three_of HT_.out (by kernel_rfl)) (by decide) (by decide) (by decide) (fun K hK => ?_) (fun K hK => ?_) (fun K hK => ?_)
           ·skip
            refine goes_ Try.func59 (by kernel_rfl) rfl #[.int .u64 a0_0, .int .u64 a1] (by rfl) rfl rfl (by (try simp only [List.map_toArray, List.map_cons, List.map_nil]); first | done | rfl | (simp only [List.length_drop, List.length_take]; rfl)) ?_
            with_reducible refine (wide_Mul.calls a0_0 a1 t144 t145 _ A4.out).mono ?_
            rintro e w34 ⟨rfl, hb⟩
            refine ⟨_, rfl, ?_⟩
            have n0_ := Aside0.mk (blk_below (g := gb140) (o := .cells #[.int .u64 a0_0, .int .u64 a0_1] 49 (0, 0)) (XOpen.bk BK140.out) hb)
            have n1_ := Aside0.mk (blk_below (g := gb141) (o := .cells #[.int .u64 0, .int .u64 0] 49 (0, 0)) (XOpen.bk BK141.out) hb)
            have n2_ := Aside0.mk (below_step (XOpen.bl2 HB.out GE140.out GE141.out) hb)
            clear BK140
            clear BK141
            clear HB
            have BK140 := n0_
            have BK141 := n1_
            have HB := n2_
            clear n0_ n1_ n2_
            (try clear hb)
            (try clear hb2)
            (try clear hk)
            (try clear hi)
            refine hK.out _ _ ⟨(blk_cell BK140.out 0).trans rfl, (blk_cell BK140.out 1).trans rfl⟩ (fun hHeld => ?_)
            clear hK K
            refine norm_ (a' := ?_) ?_ ?_
            rotate_left
            ·show Act.put _ (some 15) _ = _
             simp only [Act.put, List.setIfInBounds_toArray, List.set_cons_zero, List.set_cons_succ, i64_w, i32_w]
             rfl
            exact norm_ (by first | (simp only [putAll, Act.put, List.setIfInBounds_toArray, List.set_cons_zero, List.set_cons_succ]; done) | (simp only [putAll, Act.put, List.setIfInBounds_toArray, List.set_cons_zero, List.set_cons_succ]; rfl)) (hJ3_7 () _ ⟨hHeld, (XOpen.bk BK140.out), (XOpen.bk BK141.out), (XOpen.bl2 HB.out GE140.out GE141.out)⟩)
           ·skip
            refine box_step ?hg (N := 6) ?hd (cs := #[.int .u64 0, .int .u64 0]) (t := 49) ?hr ?_; (case hd => rfl); (case hg => rfl); (case hr => first | (go_simp; done) | (go_simp; rfl))
            intro gb146 hg w34 hbox hb
            have n0_ := Aside0.mk (blk_below (g := gb140) (o := .cells #[.int .u64 a0_0, .int .u64 a0_1] 49 (0, 0)) (XOpen.bk BK140.out) hb)
            have n1_ := Aside0.mk (blk_below (g := gb141) (o := .cells #[.int .u64 0, .int .u64 0] 49 (0, 0)) (XOpen.bk BK141.out) hb)
            have n2_ := Aside0.mk (below_step (XOpen.bl2 HB.out GE140.out GE141.out) hb)
            have n3_ := Aside0.mk (hbox)
            have n4_ := Aside0.mk ((by rw [hg]; exact (below_size (XOpen.bl2 HB.out GE140.out GE141.out)) : w.heap.size ≤ gb146))
            have n5_ := Aside0.mk ((by rw [hg]; exact (below_size (XOpen.bl2 HB.out GE140.out GE141.out)) : w.heap.size ≤ gb146))
            have n6_ := Aside0.mk ((by rw [hg]; exact Nat.ne_of_lt (blk_lt (g := gb140) (o := .cells #[.int .u64 a0_0, .int .u64 a0_1] 49 (0, 0)) (XOpen.bk BK140.out)) : gb140 ≠ gb146))
            have n7_ := Aside0.mk ((by rw [hg]; exact Nat.ne_of_gt (blk_lt (g := gb140) (o := .cells #[.int .u64 a0_0, .int .u64 a0_1] 49 (0, 0)) (XOpen.bk BK140.out)) : gb146 ≠ gb140))
            have n8_ := Aside0.mk ((by rw [hg]; exact Nat.ne_of_lt (blk_lt (g := gb141) (o := .cells #[.int .u64 0, .int .u64 0] 49 (0, 0)) (XOpen.bk BK141.out)) : gb141 ≠ gb146))
            have n9_ := Aside0.mk ((by rw [hg]; exact Nat.ne_of_gt (blk_lt (g := gb141) (o := .cells #[.int .u64 0, .int .u64 0] 49 (0, 0)) (XOpen.bk BK141.out)) : gb146 ≠ gb141))
            clear BK140
            clear BK141
            clear HB
            have BK140 := n0_
            have BK141 := n1_
            have HB := n2_
            have BK146 := n3_
            have GW146 := n4_
            have GE146 := n5_
            have NB140_146 := n6_
            have NB146_140 := n7_
            have NB141_146 := n8_
            have NB146_141 := n9_
            clear n0_ n1_ n2_ n3_ n4_ n5_ n6_ n7_ n8_ n9_
            clear hb hbox hg
            refine hK.out _ _ ⟨(blk_cell BK140.out 0).trans rfl, (blk_cell BK140.out 1).trans rfl⟩ (fun hHeld => ?_)
            clear hK K
            refine norm_ (a' := ?_) ?_ ?_
            rotate_left
            ·show Act.put _ (some 6) _ = _
             simp only [Act.put, List.setIfInBounds_toArray, List.set_cons_zero, List.set_cons_succ, i64_w, i32_w]
             rfl
            exact norm_ (by first | (simp only [putAll, Act.put, List.setIfInBounds_toArray, List.set_cons_zero, List.set_cons_succ]; done) | (simp only [putAll, Act.put, List.setIfInBounds_toArray, List.set_cons_zero, List.set_cons_succ]; rfl)) (hJ3_8 (gb146) _ ⟨hHeld, (XOpen.bk BK140.out), (XOpen.bk BK141.out), (XOpen.bk BK146.out), GW146.out, GE146.out, NB140_146.out, NB146_140.out, NB141_146.out, NB146_141.out, (XOpen.bl3 HB.out GE140.out GE141.out GE146.out)⟩)
           ·skip
            refine box_step ?hg (N := 7) ?hd (cs := #[.int .u64 0, .int .u64 0]) (t := 49) ?hr ?_; (case hd => rfl); (case hg => rfl); (case hr => first | (go_simp; done) | (go_simp; rfl))
            intro gb147 hg w34 hbox hb
            have n0_ := Aside0.mk (blk_below (g := gb140) (o := .cells #[.int .u64 a0_0, .int .u64 a0_1] 49 (0, 0)) (XOpen.bk BK140.out) hb)
            have n1_ := Aside0.mk (blk_below (g := gb141) (o := .cells #[.int .u64 0, .int .u64 0] 49 (0, 0)) (XOpen.bk BK141.out) hb)
            have n2_ := Aside0.mk (below_step (XOpen.bl2 HB.out GE140.out GE141.out) hb)
            have n3_ := Aside0.mk (hbox)
            have n4_ := Aside0.mk ((by rw [hg]; exact (below_size (XOpen.bl2 HB.out GE140.out GE141.out)) : w.heap.size ≤ gb147))
            have n5_ := Aside0.mk ((by rw [hg]; exact (below_size (XOpen.bl2 HB.out GE140.out GE141.out)) : w.heap.size ≤ gb147))
            have n6_ := Aside0.mk ((by rw [hg]; exact Nat.ne_of_lt (blk_lt (g := gb140) (o := .cells #[.int .u64 a0_0, .int .u64 a0_1] 49 (0, 0)) (XOpen.bk BK140.out)) : gb140 ≠ gb147))
            have n7_ := Aside0.mk ((by rw [hg]; exact Nat.ne_of_gt (blk_lt (g := gb140) (o := .cells #[.int .u64 a0_0, .int .u64 a0_1] 49 (0, 0)) (XOpen.bk BK140.out)) : gb147 ≠ gb140))
            have n8_ := Aside0.mk ((by rw [hg]; exact Nat.ne_of_lt (blk_lt (g := gb141) (o := .cells #[.int .u64 0, .int .u64 0] 49 (0, 0)) (XOpen.bk BK141.out)) : gb141 ≠ gb147))
            have n9_ := Aside0.mk ((by rw [hg]; exact Nat.ne_of_gt (blk_lt (g := gb141) (o := .cells #[.int .u64 0, .int .u64 0] 49 (0, 0)) (XOpen.bk BK141.out)) : gb147 ≠ gb141))
            clear BK140
            clear BK141
            clear HB
            have BK140 := n0_
            have BK141 := n1_
            have HB := n2_
            have BK147 := n3_
            have GW147 := n4_
            have GE147 := n5_
            have NB140_147 := n6_
            have NB147_140 := n7_
            have NB141_147 := n8_
            have NB147_141 := n9_
            clear n0_ n1_ n2_ n3_ n4_ n5_ n6_ n7_ n8_ n9_
            clear hb hbox hg
            refine hK.out _ _ ⟨(blk_cell BK140.out 0).trans rfl, (blk_cell BK140.out 1).trans rfl⟩ (fun hHeld => ?_)
            clear hK K
            refine norm_ (a' := ?_) ?_ ?_
            rotate_left
            ·show Act.put _ (some 7) _ = _
             simp only [Act.put, List.setIfInBounds_toArray, List.set_cons_zero, List.set_cons_succ, i64_w, i32_w]
             rfl
            exact norm_ (by first | (simp only [putAll, Act.put, List.setIfInBounds_toArray, List.set_cons_zero, List.set_cons_succ]; done) | (simp only [putAll, Act.put, List.setIfInBounds_toArray, List.set_cons_zero, List.set_cons_succ]; rfl)) (hJ3_9 (gb147) _ ⟨hHeld, (XOpen.bk BK140.out), (XOpen.bk BK141.out), (XOpen.bk BK147.out), GW147.out, GE147.out, NB140_147.out, NB147_140.out, NB141_147.out, NB147_141.out, (XOpen.bl3 HB.out GE140.out GE141.out GE147.out)⟩)
         ·skip
          rintro ⟨gb146, gb147⟩ w34 ⟨hS_, h0_, h1_, h2_, h3_, h4_, h5_, h6_, h7_, h8_, h9_, h10_, h11_, h12_, h13_, h14_, h15_, h16_, h17_, h18_⟩
          have n0_ : Aside0 (w34.heap[gb140]? = some (.cells #[.int .u64 a0_0, .int .u64 a0_1] 49 (0, 0))) := ⟨h0_⟩
          have n1_ : Aside0 (w34.heap[gb141]? = some (.cells #[.int .u64 0, .int .u64 0] 49 (0, 0))) := ⟨h1_⟩
          have n2_ : Aside0 (w34.heap[gb146]? = some (.cells #[.int .u64 0, .int .u64 0] 49 (0, 0))) := ⟨h2_⟩
          have n3_ : Aside0 (w34.heap[gb147]? = some (.cells #[.int .u64 0, .int .u64 0] 49 (0, 0))) := ⟨h3_⟩
          have n4_ : Aside0 (w.heap.size ≤ gb146) := ⟨h4_⟩
          have n5_ : Aside0 (w.heap.size ≤ gb146) := ⟨h5_⟩
          have n6_ : Aside0 (gb140 ≠ gb146) := ⟨h6_⟩
          have n7_ : Aside0 (gb146 ≠ gb140) := ⟨h7_⟩
          have n8_ : Aside0 (gb141 ≠ gb146) := ⟨h8_⟩
          have n9_ : Aside0 (gb146 ≠ gb141) := ⟨h9_⟩
          have n10_ : Aside0 (gb147 ≠ gb146) := ⟨h10_⟩
          have n11_ : Aside0 (gb146 ≠ gb147) := ⟨h11_⟩
          have n12_ : Aside0 (w.heap.size ≤ gb147) := ⟨h12_⟩
          have n13_ : Aside0 (w.heap.size ≤ gb147) := ⟨h13_⟩
          have n14_ : Aside0 (gb140 ≠ gb147) := ⟨h14_⟩
          have n15_ : Aside0 (gb147 ≠ gb140) := ⟨h15_⟩
          have n16_ : Aside0 (gb141 ≠ gb147) := ⟨h16_⟩
          have n17_ : Aside0 (gb147 ≠ gb141) := ⟨h17_⟩
          have n18_ : Aside0 (Below w.heap.size w w34) := ⟨h18_⟩
          clear BK140
          clear BK141
          clear HB
          clear h0_ h1_ h2_ h3_ h4_ h5_ h6_ h7_ h8_ h9_ h10_ h11_ h12_ h13_ h14_ h15_ h16_ h17_ h18_
          have BK140 := n0_
          have BK141 := n1_
          have BK146 := n2_
          have BK147 := n3_
          have GW146 := n4_
          have GE146 := n5_
          have NB140_146 := n6_
          have NB146_140 := n7_
          have NB141_146 := n8_
          have NB146_141 := n9_
          have NB147_146 := n10_
          have NB146_147 := n11_
          have GW147 := n12_
          have GE147 := n13_
          have NB140_147 := n14_
          have NB147_140 := n15_
          have NB141_147 := n16_
          have NB147_141 := n17_
          have HB := n18_
          clear n0_ n1_ n2_ n3_ n4_ n5_ n6_ n7_ n8_ n9_ n10_ n11_ n12_ n13_ n14_ n15_ n16_ n17_ n18_
          have hHeld : w34.cell? ⟨gb140, 0, none⟩ = some (.int .u64 a0_0) ∧ w34.cell? ⟨gb140, 1, none⟩ = some (.int .u64 a0_1) := hS_
          refine norm_ (a' := ?_) ?_ ?_
          rotate_left
          ·simp only [putAll, Act.put, List.setIfInBounds_toArray, List.set_cons_zero, List.set_cons_succ]
           rfl
          refine one_ (i := 3) (N := some 11) #[true, true, true, true, true, true, true, false, true, true, false, false] rfl rfl (one_of HT_.out (by kernel_rfl)) (by decide) (fun K hK => ?_)
          refine goes_ Try.func59 (by kernel_rfl) rfl #[.int .u64 a0_1, .int .u64 a1] (by rfl) rfl rfl (by (try simp only [List.map_toArray, List.map_cons, List.map_nil]); first | done | rfl | (simp only [List.length_drop, List.length_take]; rfl)) ?_
          with_reducible refine (wide_Mul.calls a0_1 a1 t142 t143 _ A3.out).mono ?_
          rintro e w35 ⟨rfl, hb⟩
          refine ⟨_, rfl, ?_⟩
          have n0_ := Aside0.mk (blk_below (g := gb140) (o := .cells #[.int .u64 a0_0, .int .u64 a0_1] 49 (0, 0)) (XOpen.bk BK140.out) hb)
          have n1_ := Aside0.mk (blk_below (g := gb141) (o := .cells #[.int .u64 0, .int .u64 0] 49 (0, 0)) (XOpen.bk BK141.out) hb)
          have n2_ := Aside0.mk (blk_below (g := gb146) (o := .cells #[.int .u64 0, .int .u64 0] 49 (0, 0)) (XOpen.bk BK146.out) hb)
          have n3_ := Aside0.mk (blk_below (g := gb147) (o := .cells #[.int .u64 0, .int .u64 0] 49 (0, 0)) (XOpen.bk BK147.out) hb)
          have n4_ := Aside0.mk (below_step (XOpen.bl4 HB.out GE140.out GE141.out GE146.out GE147.out) hb)
          clear BK140
          clear BK141
          clear BK146
          clear BK147
          clear HB
          have BK140 := n0_
          have BK141 := n1_
          have BK146 := n2_
          have BK147 := n3_
          have HB := n4_
          clear n0_ n1_ n2_ n3_ n4_
          (try clear hb)
          (try clear hb2)
          (try clear hk)
          (try clear hi)
          refine hK.out _ _ ⟨(blk_cell BK140.out 0).trans rfl, (blk_cell BK140.out 1).trans rfl⟩ (fun hHeld => ?_)
          clear hK K
          refine norm_ (a' := ?_) ?_ ?_
          rotate_left
          ·show Act.put _ (some 11) _ = _
           simp only [Act.put, List.setIfInBounds_toArray, List.set_cons_zero, List.set_cons_succ, i64_w, i32_w]
           rfl
          exact norm_ (by first | (simp only [putAll, Act.put, List.setIfInBounds_toArray, List.set_cons_zero, List.set_cons_succ]; done) | (simp only [putAll, Act.put, List.setIfInBounds_toArray, List.set_cons_zero, List.set_cons_succ]; rfl)) (hJ3_8_9 (gb146, gb147) _ ⟨hHeld, (XOpen.bk BK140.out), (XOpen.bk BK141.out), (XOpen.bk BK146.out), (XOpen.bk BK147.out), GW146.out, GE146.out, NB140_146.out, NB146_140.out, NB141_146.out, NB146_141.out, NB147_146.out, NB146_147.out, GW147.out, GE147.out, NB140_147.out, NB147_140.out, NB141_147.out, NB147_141.out, (XOpen.bl4 HB.out GE140.out GE141.out GE146.out GE147.out)⟩)
        ·skip
         rintro gb147 w34 ⟨hS_, h0_, h1_, h2_, h3_, h4_, h5_, h6_, h7_, h8_, h9_⟩
         have n0_ : Aside0 (w34.heap[gb140]? = some (.cells #[.int .u64 a0_0, .int .u64 a0_1] 49 (0, 0))) := ⟨h0_⟩
         have n1_ : Aside0 (w34.heap[gb141]? = some (.cells #[.int .u64 0, .int .u64 0] 49 (0, 0))) := ⟨h1_⟩
         have n2_ : Aside0 (w34.heap[gb147]? = some (.cells #[.int .u64 0, .int .u64 0] 49 (0, 0))) := ⟨h2_⟩
         have n3_ : Aside0 (w.heap.size ≤ gb147) := ⟨h3_⟩
         have n4_ : Aside0 (w.heap.size ≤ gb147) := ⟨h4_⟩
         have n5_ : Aside0 (gb140 ≠ gb147) := ⟨h5_⟩
         have n6_ : Aside0 (gb147 ≠ gb140) := ⟨h6_⟩
         have n7_ : Aside0 (gb141 ≠ gb147) := ⟨h7_⟩
         have n8_ : Aside0 (gb147 ≠ gb141) := ⟨h8_⟩
         have n9_ : Aside0 (Below w.heap.size w w34) := ⟨h9_⟩
         clear BK140
         clear BK141
         clear HB
         clear h0_ h1_ h2_ h3_ h4_ h5_ h6_ h7_ h8_ h9_
         have BK140 := n0_
         have BK141 := n1_
         have BK147 := n2_
         have GW147 := n3_
         have GE147 := n4_
         have NB140_147 := n5_
         have NB147_140 := n6_
         have NB141_147 := n7_
         have NB147_141 := n8_
         have HB := n9_
         clear n0_ n1_ n2_ n3_ n4_ n5_ n6_ n7_ n8_ n9_
         have hHeld : w34.cell? ⟨gb140, 0, none⟩ = some (.int .u64 a0_0) ∧ w34.cell? ⟨gb140, 1, none⟩ = some (.int .u64 a0_1) := hS_
         refine norm_ (a' := ?_) ?_ ?_
         rotate_left
         ·simp only [putAll, Act.put, List.setIfInBounds_toArray, List.set_cons_zero, List.set_cons_succ]
          rfl
         refine two_ (i := 7) (j := 8) (Ni := some 15) (Nj := some 6) #[true, true, true, true, true, true, true, true, false, true, false, false] #[true, true, true, true, true, true, true, false, true, true, false, false] rfl rfl rfl rfl (two_of HT_.out (by kernel_rfl)) (by decide) (by decide) (fun K hK => ?_) (fun K hK => ?_)
         ·skip
          refine goes_ Try.func59 (by kernel_rfl) rfl #[.int .u64 a0_0, .int .u64 a1] (by rfl) rfl rfl (by (try simp only [List.map_toArray, List.map_cons, List.map_nil]); first | done | rfl | (simp only [List.length_drop, List.length_take]; rfl)) ?_
          with_reducible refine (wide_Mul.calls a0_0 a1 t144 t145 _ A4.out).mono ?_
          rintro e w35 ⟨rfl, hb⟩
          refine ⟨_, rfl, ?_⟩
          have n0_ := Aside0.mk (blk_below (g := gb140) (o := .cells #[.int .u64 a0_0, .int .u64 a0_1] 49 (0, 0)) (XOpen.bk BK140.out) hb)
          have n1_ := Aside0.mk (blk_below (g := gb141) (o := .cells #[.int .u64 0, .int .u64 0] 49 (0, 0)) (XOpen.bk BK141.out) hb)
          have n2_ := Aside0.mk (blk_below (g := gb147) (o := .cells #[.int .u64 0, .int .u64 0] 49 (0, 0)) (XOpen.bk BK147.out) hb)
          have n3_ := Aside0.mk (below_step (XOpen.bl3 HB.out GE140.out GE141.out GE147.out) hb)
          clear BK140
          clear BK141
          clear BK147
          clear HB
          have BK140 := n0_
          have BK141 := n1_
          have BK147 := n2_
          have HB := n3_
          clear n0_ n1_ n2_ n3_
          (try clear hb)
          (try clear hb2)
          (try clear hk)
          (try clear hi)
          refine hK.out _ _ ⟨(blk_cell BK140.out 0).trans rfl, (blk_cell BK140.out 1).trans rfl⟩ (fun hHeld => ?_)
          clear hK K
          refine norm_ (a' := ?_) ?_ ?_
          rotate_left
          ·show Act.put _ (some 15) _ = _
           simp only [Act.put, List.setIfInBounds_toArray, List.set_cons_zero, List.set_cons_succ, i64_w, i32_w]
           rfl
          exact norm_ (by first | (simp only [putAll, Act.put, List.setIfInBounds_toArray, List.set_cons_zero, List.set_cons_succ]; done) | (simp only [putAll, Act.put, List.setIfInBounds_toArray, List.set_cons_zero, List.set_cons_succ]; rfl)) (hJ3_7_9 (gb147) _ ⟨hHeld, (XOpen.bk BK140.out), (XOpen.bk BK141.out), (XOpen.bk BK147.out), GW147.out, GE147.out, NB140_147.out, NB147_140.out, NB141_147.out, NB147_141.out, (XOpen.bl3 HB.out GE140.out GE141.out GE147.out)⟩)
         ·skip
          refine box_step ?hg (N := 6) ?hd (cs := #[.int .u64 0, .int .u64 0]) (t := 49) ?hr ?_; (case hd => rfl); (case hg => rfl); (case hr => first | (go_simp; done) | (go_simp; rfl))
          intro gb146 hg w35 hbox hb
          have n0_ := Aside0.mk (blk_below (g := gb140) (o := .cells #[.int .u64 a0_0, .int .u64 a0_1] 49 (0, 0)) (XOpen.bk BK140.out) hb)
          have n1_ := Aside0.mk (blk_below (g := gb141) (o := .cells #[.int .u64 0, .int .u64 0] 49 (0, 0)) (XOpen.bk BK141.out) hb)
          have n2_ := Aside0.mk (blk_below (g := gb147) (o := .cells #[.int .u64 0, .int .u64 0] 49 (0, 0)) (XOpen.bk BK147.out) hb)
          have n3_ := Aside0.mk (below_step (XOpen.bl3 HB.out GE140.out GE141.out GE147.out) hb)
          have n4_ := Aside0.mk (hbox)
          have n5_ := Aside0.mk ((by rw [hg]; exact (below_size (XOpen.bl3 HB.out GE140.out GE141.out GE147.out)) : w.heap.size ≤ gb146))
          have n6_ := Aside0.mk ((by rw [hg]; exact (below_size (XOpen.bl3 HB.out GE140.out GE141.out GE147.out)) : w.heap.size ≤ gb146))
          have n7_ := Aside0.mk ((by rw [hg]; exact Nat.ne_of_lt (blk_lt (g := gb140) (o := .cells #[.int .u64 a0_0, .int .u64 a0_1] 49 (0, 0)) (XOpen.bk BK140.out)) : gb140 ≠ gb146))
          have n8_ := Aside0.mk ((by rw [hg]; exact Nat.ne_of_gt (blk_lt (g := gb140) (o := .cells #[.int .u64 a0_0, .int .u64 a0_1] 49 (0, 0)) (XOpen.bk BK140.out)) : gb146 ≠ gb140))
          have n9_ := Aside0.mk ((by rw [hg]; exact Nat.ne_of_lt (blk_lt (g := gb141) (o := .cells #[.int .u64 0, .int .u64 0] 49 (0, 0)) (XOpen.bk BK141.out)) : gb141 ≠ gb146))
          have n10_ := Aside0.mk ((by rw [hg]; exact Nat.ne_of_gt (blk_lt (g := gb141) (o := .cells #[.int .u64 0, .int .u64 0] 49 (0, 0)) (XOpen.bk BK141.out)) : gb146 ≠ gb141))
          have n11_ := Aside0.mk ((by rw [hg]; exact Nat.ne_of_lt (blk_lt (g := gb147) (o := .cells #[.int .u64 0, .int .u64 0] 49 (0, 0)) (XOpen.bk BK147.out)) : gb147 ≠ gb146))
          have n12_ := Aside0.mk ((by rw [hg]; exact Nat.ne_of_gt (blk_lt (g := gb147) (o := .cells #[.int .u64 0, .int .u64 0] 49 (0, 0)) (XOpen.bk BK147.out)) : gb146 ≠ gb147))
          clear BK140
          clear BK141
          clear BK147
          clear HB
          have BK140 := n0_
          have BK141 := n1_
          have BK147 := n2_
          have HB := n3_
          have BK146 := n4_
          have GW146 := n5_
          have GE146 := n6_
          have NB140_146 := n7_
          have NB146_140 := n8_
          have NB141_146 := n9_
          have NB146_141 := n10_
          have NB147_146 := n11_
          have NB146_147 := n12_
          clear n0_ n1_ n2_ n3_ n4_ n5_ n6_ n7_ n8_ n9_ n10_ n11_ n12_
          clear hb hbox hg
          refine hK.out _ _ ⟨(blk_cell BK140.out 0).trans rfl, (blk_cell BK140.out 1).trans rfl⟩ (fun hHeld => ?_)
          clear hK K
          refine norm_ (a' := ?_) ?_ ?_
          rotate_left
          ·show Act.put _ (some 6) _ = _
           simp only [Act.put, List.setIfInBounds_toArray, List.set_cons_zero, List.set_cons_succ, i64_w, i32_w]
           rfl
          exact norm_ (by first | (simp only [putAll, Act.put, List.setIfInBounds_toArray, List.set_cons_zero, List.set_cons_succ]; done) | (simp only [putAll, Act.put, List.setIfInBounds_toArray, List.set_cons_zero, List.set_cons_succ]; rfl)) (hJ3_8_9 (gb146, gb147) _ ⟨hHeld, (XOpen.bk BK140.out), (XOpen.bk BK141.out), (XOpen.bk BK146.out), (XOpen.bk BK147.out), GW146.out, GE146.out, NB140_146.out, NB146_140.out, NB141_146.out, NB146_141.out, NB147_146.out, NB146_147.out, GW147.out, GE147.out, NB140_147.out, NB147_140.out, NB141_147.out, NB147_141.out, (XOpen.bl4 HB.out GE140.out GE141.out GE147.out GE146.out)⟩)
       ·skip
        rintro gb146 w34 ⟨hS_, h0_, h1_, h2_, h3_, h4_, h5_, h6_, h7_, h8_, h9_⟩
        have n0_ : Aside0 (w34.heap[gb140]? = some (.cells #[.int .u64 a0_0, .int .u64 a0_1] 49 (0, 0))) := ⟨h0_⟩
        have n1_ : Aside0 (w34.heap[gb141]? = some (.cells #[.int .u64 0, .int .u64 0] 49 (0, 0))) := ⟨h1_⟩
        have n2_ : Aside0 (w34.heap[gb146]? = some (.cells #[.int .u64 0, .int .u64 0] 49 (0, 0))) := ⟨h2_⟩
        have n3_ : Aside0 (w.heap.size ≤ gb146) := ⟨h3_⟩
        have n4_ : Aside0 (w.heap.size ≤ gb146) := ⟨h4_⟩
        have n5_ : Aside0 (gb140 ≠ gb146) := ⟨h5_⟩
        have n6_ : Aside0 (gb146 ≠ gb140) := ⟨h6_⟩
        have n7_ : Aside0 (gb141 ≠ gb146) := ⟨h7_⟩
        have n8_ : Aside0 (gb146 ≠ gb141) := ⟨h8_⟩
        have n9_ : Aside0 (Below w.heap.size w w34) := ⟨h9_⟩
        clear BK140
        clear BK141
        clear HB
        clear h0_ h1_ h2_ h3_ h4_ h5_ h6_ h7_ h8_ h9_
        have BK140 := n0_
        have BK141 := n1_
        have BK146 := n2_
        have GW146 := n3_
        have GE146 := n4_
        have NB140_146 := n5_
        have NB146_140 := n6_
        have NB141_146 := n7_
        have NB146_141 := n8_
        have HB := n9_
        clear n0_ n1_ n2_ n3_ n4_ n5_ n6_ n7_ n8_ n9_
        have hHeld : w34.cell? ⟨gb140, 0, none⟩ = some (.int .u64 a0_0) ∧ w34.cell? ⟨gb140, 1, none⟩ = some (.int .u64 a0_1) := hS_
        refine norm_ (a' := ?_) ?_ ?_
        rotate_left
        ·simp only [putAll, Act.put, List.setIfInBounds_toArray, List.set_cons_zero, List.set_cons_succ]
         rfl
        refine two_ (i := 7) (j := 9) (Ni := some 15) (Nj := some 7) #[true, true, true, true, true, true, true, true, true, false, false, false] #[true, true, true, true, true, true, true, false, true, true, false, false] rfl rfl rfl rfl (two_of HT_.out (by kernel_rfl)) (by decide) (by decide) (fun K hK => ?_) (fun K hK => ?_)
        ·skip
         refine goes_ Try.func59 (by kernel_rfl) rfl #[.int .u64 a0_0, .int .u64 a1] (by rfl) rfl rfl (by (try simp only [List.map_toArray, List.map_cons, List.map_nil]); first | done | rfl | (simp only [List.length_drop, List.length_take]; rfl)) ?_
         with_reducible refine (wide_Mul.calls a0_0 a1 t144 t145 _ A4.out).mono ?_
         rintro e w35 ⟨rfl, hb⟩
         refine ⟨_, rfl, ?_⟩
         have n0_ := Aside0.mk (blk_below (g := gb140) (o := .cells #[.int .u64 a0_0, .int .u64 a0_1] 49 (0, 0)) (XOpen.bk BK140.out) hb)
         have n1_ := Aside0.mk (blk_below (g := gb141) (o := .cells #[.int .u64 0, .int .u64 0] 49 (0, 0)) (XOpen.bk BK141.out) hb)
         have n2_ := Aside0.mk (blk_below (g := gb146) (o := .cells #[.int .u64 0, .int .u64 0] 49 (0, 0)) (XOpen.bk BK146.out) hb)
         have n3_ := Aside0.mk (below_step (XOpen.bl3 HB.out GE140.out GE141.out GE146.out) hb)
         clear BK140
         clear BK141
         clear BK146
         clear HB
         have BK140 := n0_
         have BK141 := n1_
         have BK146 := n2_
         have HB := n3_
         clear n0_ n1_ n2_ n3_
         (try clear hb)
         (try clear hb2)
         (try clear hk)
         (try clear hi)
         refine hK.out _ _ ⟨(blk_cell BK140.out 0).trans rfl, (blk_cell BK140.out 1).trans rfl⟩ (fun hHeld => ?_)
         clear hK K
         refine norm_ (a' := ?_) ?_ ?_
         rotate_left
         ·show Act.put _ (some 15) _ = _
          simp only [Act.put, List.setIfInBounds_toArray, List.set_cons_zero, List.set_cons_succ, i64_w, i32_w]
          rfl
         exact norm_ (by first | (simp only [putAll, Act.put, List.setIfInBounds_toArray, List.set_cons_zero, List.set_cons_succ]; done) | (simp only [putAll, Act.put, List.setIfInBounds_toArray, List.set_cons_zero, List.set_cons_succ]; rfl)) (hJ3_7_8 (gb146) _ ⟨hHeld, (XOpen.bk BK140.out), (XOpen.bk BK141.out), (XOpen.bk BK146.out), GW146.out, GE146.out, NB140_146.out, NB146_140.out, NB141_146.out, NB146_141.out, (XOpen.bl3 HB.out GE140.out GE141.out GE146.out)⟩)
        ·skip
         refine box_step ?hg (N := 7) ?hd (cs := #[.int .u64 0, .int .u64 0]) (t := 49) ?hr ?_; (case hd => rfl); (case hg => rfl); (case hr => first | (go_simp; done) | (go_simp; rfl))
         intro gb147 hg w35 hbox hb
         have n0_ := Aside0.mk (blk_below (g := gb140) (o := .cells #[.int .u64 a0_0, .int .u64 a0_1] 49 (0, 0)) (XOpen.bk BK140.out) hb)
         have n1_ := Aside0.mk (blk_below (g := gb141) (o := .cells #[.int .u64 0, .int .u64 0] 49 (0, 0)) (XOpen.bk BK141.out) hb)
         have n2_ := Aside0.mk (blk_below (g := gb146) (o := .cells #[.int .u64 0, .int .u64 0] 49 (0, 0)) (XOpen.bk BK146.out) hb)
         have n3_ := Aside0.mk (below_step (XOpen.bl3 HB.out GE140.out GE141.out GE146.out) hb)
         have n4_ := Aside0.mk (hbox)
         have n5_ := Aside0.mk ((by rw [hg]; exact (below_size (XOpen.bl3 HB.out GE140.out GE141.out GE146.out)) : w.heap.size ≤ gb147))
         have n6_ := Aside0.mk ((by rw [hg]; exact (below_size (XOpen.bl3 HB.out GE140.out GE141.out GE146.out)) : w.heap.size ≤ gb147))
         have n7_ := Aside0.mk ((by rw [hg]; exact Nat.ne_of_lt (blk_lt (g := gb140) (o := .cells #[.int .u64 a0_0, .int .u64 a0_1] 49 (0, 0)) (XOpen.bk BK140.out)) : gb140 ≠ gb147))
         have n8_ := Aside0.mk ((by rw [hg]; exact Nat.ne_of_gt (blk_lt (g := gb140) (o := .cells #[.int .u64 a0_0, .int .u64 a0_1] 49 (0, 0)) (XOpen.bk BK140.out)) : gb147 ≠ gb140))
         have n9_ := Aside0.mk ((by rw [hg]; exact Nat.ne_of_lt (blk_lt (g := gb141) (o := .cells #[.int .u64 0, .int .u64 0] 49 (0, 0)) (XOpen.bk BK141.out)) : gb141 ≠ gb147))
         have n10_ := Aside0.mk ((by rw [hg]; exact Nat.ne_of_gt (blk_lt (g := gb141) (o := .cells #[.int .u64 0, .int .u64 0] 49 (0, 0)) (XOpen.bk BK141.out)) : gb147 ≠ gb141))
         have n11_ := Aside0.mk ((by rw [hg]; exact Nat.ne_of_lt (blk_lt (g := gb146) (o := .cells #[.int .u64 0, .int .u64 0] 49 (0, 0)) (XOpen.bk BK146.out)) : gb146 ≠ gb147))
         have n12_ := Aside0.mk ((by rw [hg]; exact Nat.ne_of_gt (blk_lt (g := gb146) (o := .cells #[.int .u64 0, .int .u64 0] 49 (0, 0)) (XOpen.bk BK146.out)) : gb147 ≠ gb146))
         clear BK140
         clear BK141
         clear BK146
         clear HB
         have BK140 := n0_
         have BK141 := n1_
         have BK146 := n2_
         have HB := n3_
         have BK147 := n4_
         have GW147 := n5_
         have GE147 := n6_
         have NB140_147 := n7_
         have NB147_140 := n8_
         have NB141_147 := n9_
         have NB147_141 := n10_
         have NB146_147 := n11_
         have NB147_146 := n12_
         clear n0_ n1_ n2_ n3_ n4_ n5_ n6_ n7_ n8_ n9_ n10_ n11_ n12_
         clear hb hbox hg
         refine hK.out _ _ ⟨(blk_cell BK140.out 0).trans rfl, (blk_cell BK140.out 1).trans rfl⟩ (fun hHeld => ?_)
         clear hK K
         refine norm_ (a' := ?_) ?_ ?_
         rotate_left
         ·show Act.put _ (some 7) _ = _
          simp only [Act.put, List.setIfInBounds_toArray, List.set_cons_zero, List.set_cons_succ, i64_w, i32_w]
          rfl
         exact norm_ (by first | (simp only [putAll, Act.put, List.setIfInBounds_toArray, List.set_cons_zero, List.set_cons_succ]; done) | (simp only [putAll, Act.put, List.setIfInBounds_toArray, List.set_cons_zero, List.set_cons_succ]; rfl)) (hJ3_8_9 (gb146, gb147) _ ⟨hHeld, (XOpen.bk BK140.out), (XOpen.bk BK141.out), (XOpen.bk BK146.out), (XOpen.bk BK147.out), GW146.out, GE146.out, NB140_146.out, NB146_140.out, NB141_146.out, NB146_141.out, NB147_146.out, NB146_147.out, GW147.out, GE147.out, NB140_147.out, NB147_140.out, NB141_147.out, NB147_141.out, (XOpen.bl4 HB.out GE140.out GE141.out GE146.out GE147.out)⟩)
      ·skip
       rintro _ w34 ⟨hS_, h0_, h1_, h2_⟩
       have n0_ : Aside0 (w34.heap[gb140]? = some (.cells #[.int .u64 a0_0, .int .u64 a0_1] 49 (0, 0))) := ⟨h0_⟩
       have n1_ : Aside0 (w34.heap[gb141]? = some (.cells #[.int .u64 0, .int .u64 0] 49 (0, 0))) := ⟨h1_⟩
       have n2_ : Aside0 (Below w.heap.size w w34) := ⟨h2_⟩
       clear BK140
       clear BK141
       clear HB
       clear h0_ h1_ h2_
       have BK140 := n0_
       have BK141 := n1_
       have HB := n2_
       clear n0_ n1_ n2_
       have hHeld : w34.cell? ⟨gb140, 0, none⟩ = some (.int .u64 a0_0) ∧ w34.cell? ⟨gb140, 1, none⟩ = some (.int .u64 a0_1) := hS_
       refine norm_ (a' := ?_) ?_ ?_
       rotate_left
       ·simp only [putAll, Act.put, List.setIfInBounds_toArray, List.set_cons_zero, List.set_cons_succ]
        rfl
       refine two_ (i := 8) (j := 9) (Ni := some 6) (Nj := some 7) #[true, true, true, true, true, true, true, true, true, false, false, false] #[true, true, true, true, true, true, true, true, false, true, false, false] rfl rfl rfl rfl (two_of HT_.out (by kernel_rfl)) (by decide) (by decide) (fun K hK => ?_) (fun K hK => ?_)
       ·skip
        refine box_step ?hg (N := 6) ?hd (cs := #[.int .u64 0, .int .u64 0]) (t := 49) ?hr ?_; (case hd => rfl); (case hg => rfl); (case hr => first | (go_simp; done) | (go_simp; rfl))
        intro gb146 hg w35 hbox hb
        have n0_ := Aside0.mk (blk_below (g := gb140) (o := .cells #[.int .u64 a0_0, .int .u64 a0_1] 49 (0, 0)) (XOpen.bk BK140.out) hb)
        have n1_ := Aside0.mk (blk_below (g := gb141) (o := .cells #[.int .u64 0, .int .u64 0] 49 (0, 0)) (XOpen.bk BK141.out) hb)
        have n2_ := Aside0.mk (below_step (XOpen.bl2 HB.out GE140.out GE141.out) hb)
        have n3_ := Aside0.mk (hbox)
        have n4_ := Aside0.mk ((by rw [hg]; exact (below_size (XOpen.bl2 HB.out GE140.out GE141.out)) : w.heap.size ≤ gb146))
        have n5_ := Aside0.mk ((by rw [hg]; exact (below_size (XOpen.bl2 HB.out GE140.out GE141.out)) : w.heap.size ≤ gb146))
        have n6_ := Aside0.mk ((by rw [hg]; exact Nat.ne_of_lt (blk_lt (g := gb140) (o := .cells #[.int .u64 a0_0, .int .u64 a0_1] 49 (0, 0)) (XOpen.bk BK140.out)) : gb140 ≠ gb146))
        have n7_ := Aside0.mk ((by rw [hg]; exact Nat.ne_of_gt (blk_lt (g := gb140) (o := .cells #[.int .u64 a0_0, .int .u64 a0_1] 49 (0, 0)) (XOpen.bk BK140.out)) : gb146 ≠ gb140))
        have n8_ := Aside0.mk ((by rw [hg]; exact Nat.ne_of_lt (blk_lt (g := gb141) (o := .cells #[.int .u64 0, .int .u64 0] 49 (0, 0)) (XOpen.bk BK141.out)) : gb141 ≠ gb146))
        have n9_ := Aside0.mk ((by rw [hg]; exact Nat.ne_of_gt (blk_lt (g := gb141) (o := .cells #[.int .u64 0, .int .u64 0] 49 (0, 0)) (XOpen.bk BK141.out)) : gb146 ≠ gb141))
        clear BK140
        clear BK141
        clear HB
        have BK140 := n0_
        have BK141 := n1_
        have HB := n2_
        have BK146 := n3_
        have GW146 := n4_
        have GE146 := n5_
        have NB140_146 := n6_
        have NB146_140 := n7_
        have NB141_146 := n8_
        have NB146_141 := n9_
        clear n0_ n1_ n2_ n3_ n4_ n5_ n6_ n7_ n8_ n9_
        clear hb hbox hg
        refine hK.out _ _ ⟨(blk_cell BK140.out 0).trans rfl, (blk_cell BK140.out 1).trans rfl⟩ (fun hHeld => ?_)
        clear hK K
        refine norm_ (a' := ?_) ?_ ?_
        rotate_left
        ·show Act.put _ (some 6) _ = _
         simp only [Act.put, List.setIfInBounds_toArray, List.set_cons_zero, List.set_cons_succ, i64_w, i32_w]
         rfl
        exact norm_ (by first | (simp only [putAll, Act.put, List.setIfInBounds_toArray, List.set_cons_zero, List.set_cons_succ]; done) | (simp only [putAll, Act.put, List.setIfInBounds_toArray, List.set_cons_zero, List.set_cons_succ]; rfl)) (hJ3_7_8 (gb146) _ ⟨hHeld, (XOpen.bk BK140.out), (XOpen.bk BK141.out), (XOpen.bk BK146.out), GW146.out, GE146.out, NB140_146.out, NB146_140.out, NB141_146.out, NB146_141.out, (XOpen.bl3 HB.out GE140.out GE141.out GE146.out)⟩)
       ·skip
        refine box_step ?hg (N := 7) ?hd (cs := #[.int .u64 0, .int .u64 0]) (t := 49) ?hr ?_; (case hd => rfl); (case hg => rfl); (case hr => first | (go_simp; done) | (go_simp; rfl))
        intro gb147 hg w35 hbox hb
        have n0_ := Aside0.mk (blk_below (g := gb140) (o := .cells #[.int .u64 a0_0, .int .u64 a0_1] 49 (0, 0)) (XOpen.bk BK140.out) hb)
        have n1_ := Aside0.mk (blk_below (g := gb141) (o := .cells #[.int .u64 0, .int .u64 0] 49 (0, 0)) (XOpen.bk BK141.out) hb)
        have n2_ := Aside0.mk (below_step (XOpen.bl2 HB.out GE140.out GE141.out) hb)
        have n3_ := Aside0.mk (hbox)
        have n4_ := Aside0.mk ((by rw [hg]; exact (below_size (XOpen.bl2 HB.out GE140.out GE141.out)) : w.heap.size ≤ gb147))
        have n5_ := Aside0.mk ((by rw [hg]; exact (below_size (XOpen.bl2 HB.out GE140.out GE141.out)) : w.heap.size ≤ gb147))
        have n6_ := Aside0.mk ((by rw [hg]; exact Nat.ne_of_lt (blk_lt (g := gb140) (o := .cells #[.int .u64 a0_0, .int .u64 a0_1] 49 (0, 0)) (XOpen.bk BK140.out)) : gb140 ≠ gb147))
        have n7_ := Aside0.mk ((by rw [hg]; exact Nat.ne_of_gt (blk_lt (g := gb140) (o := .cells #[.int .u64 a0_0, .int .u64 a0_1] 49 (0, 0)) (XOpen.bk BK140.out)) : gb147 ≠ gb140))
        have n8_ := Aside0.mk ((by rw [hg]; exact Nat.ne_of_lt (blk_lt (g := gb141) (o := .cells #[.int .u64 0, .int .u64 0] 49 (0, 0)) (XOpen.bk BK141.out)) : gb141 ≠ gb147))
        have n9_ := Aside0.mk ((by rw [hg]; exact Nat.ne_of_gt (blk_lt (g := gb141) (o := .cells #[.int .u64 0, .int .u64 0] 49 (0, 0)) (XOpen.bk BK141.out)) : gb147 ≠ gb141))
        clear BK140
        clear BK141
        clear HB
        have BK140 := n0_
        have BK141 := n1_
        have HB := n2_
        have BK147 := n3_
        have GW147 := n4_
        have GE147 := n5_
        have NB140_147 := n6_
        have NB147_140 := n7_
        have NB141_147 := n8_
        have NB147_141 := n9_
        clear n0_ n1_ n2_ n3_ n4_ n5_ n6_ n7_ n8_ n9_
        clear hb hbox hg
        refine hK.out _ _ ⟨(blk_cell BK140.out 0).trans rfl, (blk_cell BK140.out 1).trans rfl⟩ (fun hHeld => ?_)
        clear hK K
        refine norm_ (a' := ?_) ?_ ?_
        rotate_left
        ·show Act.put _ (some 7) _ = _
         simp only [Act.put, List.setIfInBounds_toArray, List.set_cons_zero, List.set_cons_succ, i64_w, i32_w]
         rfl
        exact norm_ (by first | (simp only [putAll, Act.put, List.setIfInBounds_toArray, List.set_cons_zero, List.set_cons_succ]; done) | (simp only [putAll, Act.put, List.setIfInBounds_toArray, List.set_cons_zero, List.set_cons_succ]; rfl)) (hJ3_7_9 (gb147) _ ⟨hHeld, (XOpen.bk BK140.out), (XOpen.bk BK141.out), (XOpen.bk BK147.out), GW147.out, GE147.out, NB140_147.out, NB147_140.out, NB141_147.out, NB147_141.out, (XOpen.bl3 HB.out GE140.out GE141.out GE147.out)⟩)
     ·skip
      rintro ⟨gb146, gb147⟩ w35 ⟨hS_, h0_, h1_, h2_, h3_, h4_, h5_, h6_, h7_, h8_, h9_, h10_, h11_, h12_, h13_, h14_, h15_, h16_, h17_, h18_⟩
      have n0_ : Aside0 (w35.heap[gb140]? = some (.cells #[.int .u64 a0_0, .int .u64 a0_1] 49 (0, 0))) := ⟨h0_⟩
      have n1_ : Aside0 (w35.heap[gb141]? = some (.cells #[.int .u64 0, .int .u64 0] 49 (0, 0))) := ⟨h1_⟩
      have n2_ : Aside0 (w35.heap[gb146]? = some (.cells #[.int .u64 0, .int .u64 0] 49 (0, 0))) := ⟨h2_⟩
      have n3_ : Aside0 (w35.heap[gb147]? = some (.cells #[.int .u64 0, .int .u64 0] 49 (0, 0))) := ⟨h3_⟩
      have n4_ : Aside0 (w.heap.size ≤ gb146) := ⟨h4_⟩
      have n5_ : Aside0 (w.heap.size ≤ gb146) := ⟨h5_⟩
      have n6_ : Aside0 (gb140 ≠ gb146) := ⟨h6_⟩
      have n7_ : Aside0 (gb146 ≠ gb140) := ⟨h7_⟩
      have n8_ : Aside0 (gb141 ≠ gb146) := ⟨h8_⟩
      have n9_ : Aside0 (gb146 ≠ gb141) := ⟨h9_⟩
      have n10_ : Aside0 (gb147 ≠ gb146) := ⟨h10_⟩
      have n11_ : Aside0 (gb146 ≠ gb147) := ⟨h11_⟩
      have n12_ : Aside0 (w.heap.size ≤ gb147) := ⟨h12_⟩
      have n13_ : Aside0 (w.heap.size ≤ gb147) := ⟨h13_⟩
      have n14_ : Aside0 (gb140 ≠ gb147) := ⟨h14_⟩
      have n15_ : Aside0 (gb147 ≠ gb140) := ⟨h15_⟩
      have n16_ : Aside0 (gb141 ≠ gb147) := ⟨h16_⟩
      have n17_ : Aside0 (gb147 ≠ gb141) := ⟨h17_⟩
      have n18_ : Aside0 (Below w.heap.size w w35) := ⟨h18_⟩
      clear BK140
      clear BK141
      clear HB
      clear h0_ h1_ h2_ h3_ h4_ h5_ h6_ h7_ h8_ h9_ h10_ h11_ h12_ h13_ h14_ h15_ h16_ h17_ h18_
      have BK140 := n0_
      have BK141 := n1_
      have BK146 := n2_
      have BK147 := n3_
      have GW146 := n4_
      have GE146 := n5_
      have NB140_146 := n6_
      have NB146_140 := n7_
      have NB141_146 := n8_
      have NB146_141 := n9_
      have NB147_146 := n10_
      have NB146_147 := n11_
      have GW147 := n12_
      have GE147 := n13_
      have NB140_147 := n14_
      have NB147_140 := n15_
      have NB141_147 := n16_
      have NB147_141 := n17_
      have HB := n18_
      clear n0_ n1_ n2_ n3_ n4_ n5_ n6_ n7_ n8_ n9_ n10_ n11_ n12_ n13_ n14_ n15_ n16_ n17_ n18_
      have hHeld : w35.cell? ⟨gb140, 0, none⟩ = some (.int .u64 a0_0) ∧ w35.cell? ⟨gb140, 1, none⟩ = some (.int .u64 a0_1) := hS_
      refine norm_ (a' := ?_) ?_ ?_
      rotate_left
      ·simp only [putAll, Act.put, List.setIfInBounds_toArray, List.set_cons_zero, List.set_cons_succ]
       rfl
      refine one_ (i := 7) (N := some 15) #[true, true, true, true, true, true, true, true, true, true, false, false] rfl rfl (one_of HT_.out (by kernel_rfl)) (by decide) (fun K hK => ?_)
      refine goes_ Try.func59 (by kernel_rfl) rfl #[.int .u64 a0_0, .int .u64 a1] (by rfl) rfl rfl (by (try simp only [List.map_toArray, List.map_cons, List.map_nil]); first | done | rfl | (simp only [List.length_drop, List.length_take]; rfl)) ?_
      with_reducible refine (wide_Mul.calls a0_0 a1 t144 t145 _ A4.out).mono ?_
      rintro e w36 ⟨rfl, hb⟩
      refine ⟨_, rfl, ?_⟩
      have n0_ := Aside0.mk (blk_below (g := gb140) (o := .cells #[.int .u64 a0_0, .int .u64 a0_1] 49 (0, 0)) (XOpen.bk BK140.out) hb)
      have n1_ := Aside0.mk (blk_below (g := gb141) (o := .cells #[.int .u64 0, .int .u64 0] 49 (0, 0)) (XOpen.bk BK141.out) hb)
      have n2_ := Aside0.mk (blk_below (g := gb146) (o := .cells #[.int .u64 0, .int .u64 0] 49 (0, 0)) (XOpen.bk BK146.out) hb)
      have n3_ := Aside0.mk (blk_below (g := gb147) (o := .cells #[.int .u64 0, .int .u64 0] 49 (0, 0)) (XOpen.bk BK147.out) hb)
      have n4_ := Aside0.mk (below_step (XOpen.bl4 HB.out GE140.out GE141.out GE146.out GE147.out) hb)
      clear BK140
      clear BK141
      clear BK146
      clear BK147
      clear HB
      have BK140 := n0_
      have BK141 := n1_
      have BK146 := n2_
      have BK147 := n3_
      have HB := n4_
      clear n0_ n1_ n2_ n3_ n4_
      (try clear hb)
      (try clear hb2)
      (try clear hk)
      (try clear hi)
      refine hK.out _ _ ⟨(blk_cell BK140.out 0).trans rfl, (blk_cell BK140.out 1).trans rfl⟩ (fun hHeld => ?_)
      clear hK K
      refine norm_ (a' := ?_) ?_ ?_
      rotate_left
      ·show Act.put _ (some 15) _ = _
       simp only [Act.put, List.setIfInBounds_toArray, List.set_cons_zero, List.set_cons_succ, i64_w, i32_w]
       rfl
      exact norm_ (by first | (simp only [putAll, Act.put, List.setIfInBounds_toArray, List.set_cons_zero, List.set_cons_succ]; done) | (simp only [putAll, Act.put, List.setIfInBounds_toArray, List.set_cons_zero, List.set_cons_succ]; rfl)) (hJ3_7_8_9 (gb146, gb147) _ ⟨hHeld, (XOpen.bk BK140.out), (XOpen.bk BK141.out), (XOpen.bk BK146.out), (XOpen.bk BK147.out), GW146.out, GE146.out, NB140_146.out, NB146_140.out, NB141_146.out, NB146_141.out, NB147_146.out, NB146_147.out, GW147.out, GE147.out, NB140_147.out, NB147_140.out, NB141_147.out, NB147_141.out, (XOpen.bl4 HB.out GE140.out GE141.out GE146.out GE147.out)⟩)
    ·skip
     rintro gb147 w35 ⟨hS_, h0_, h1_, h2_, h3_, h4_, h5_, h6_, h7_, h8_, h9_⟩
     have n0_ : Aside0 (w35.heap[gb140]? = some (.cells #[.int .u64 a0_0, .int .u64 a0_1] 49 (0, 0))) := ⟨h0_⟩
     have n1_ : Aside0 (w35.heap[gb141]? = some (.cells #[.int .u64 0, .int .u64 0] 49 (0, 0))) := ⟨h1_⟩
     have n2_ : Aside0 (w35.heap[gb147]? = some (.cells #[.int .u64 0, .int .u64 0] 49 (0, 0))) := ⟨h2_⟩
     have n3_ : Aside0 (w.heap.size ≤ gb147) := ⟨h3_⟩
     have n4_ : Aside0 (w.heap.size ≤ gb147) := ⟨h4_⟩
     have n5_ : Aside0 (gb140 ≠ gb147) := ⟨h5_⟩
     have n6_ : Aside0 (gb147 ≠ gb140) := ⟨h6_⟩
     have n7_ : Aside0 (gb141 ≠ gb147) := ⟨h7_⟩
     have n8_ : Aside0 (gb147 ≠ gb141) := ⟨h8_⟩
     have n9_ : Aside0 (Below w.heap.size w w35) := ⟨h9_⟩
     clear BK140
     clear BK141
     clear HB
     clear h0_ h1_ h2_ h3_ h4_ h5_ h6_ h7_ h8_ h9_
     have BK140 := n0_
     have BK141 := n1_
     have BK147 := n2_
     have GW147 := n3_
     have GE147 := n4_
     have NB140_147 := n5_
     have NB147_140 := n6_
     have NB141_147 := n7_
     have NB147_141 := n8_
     have HB := n9_
     clear n0_ n1_ n2_ n3_ n4_ n5_ n6_ n7_ n8_ n9_
     have hHeld : w35.cell? ⟨gb140, 0, none⟩ = some (.int .u64 a0_0) ∧ w35.cell? ⟨gb140, 1, none⟩ = some (.int .u64 a0_1) := hS_
     refine norm_ (a' := ?_) ?_ ?_
     rotate_left
     ·simp only [putAll, Act.put, List.setIfInBounds_toArray, List.set_cons_zero, List.set_cons_succ]
      rfl
     refine one_ (i := 8) (N := some 6) #[true, true, true, true, true, true, true, true, true, true, false, false] rfl rfl (one_of HT_.out (by kernel_rfl)) (by decide) (fun K hK => ?_)
     refine box_step ?hg (N := 6) ?hd (cs := #[.int .u64 0, .int .u64 0]) (t := 49) ?hr ?_; (case hd => rfl); (case hg => rfl); (case hr => first | (go_simp; done) | (go_simp; rfl))
     intro gb146 hg w36 hbox hb
     have n0_ := Aside0.mk (blk_below (g := gb140) (o := .cells #[.int .u64 a0_0, .int .u64 a0_1] 49 (0, 0)) (XOpen.bk BK140.out) hb)
     have n1_ := Aside0.mk (blk_below (g := gb141) (o := .cells #[.int .u64 0, .int .u64 0] 49 (0, 0)) (XOpen.bk BK141.out) hb)
     have n2_ := Aside0.mk (blk_below (g := gb147) (o := .cells #[.int .u64 0, .int .u64 0] 49 (0, 0)) (XOpen.bk BK147.out) hb)
     have n3_ := Aside0.mk (below_step (XOpen.bl3 HB.out GE140.out GE141.out GE147.out) hb)
     have n4_ := Aside0.mk (hbox)
     have n5_ := Aside0.mk ((by rw [hg]; exact (below_size (XOpen.bl3 HB.out GE140.out GE141.out GE147.out)) : w.heap.size ≤ gb146))
     have n6_ := Aside0.mk ((by rw [hg]; exact (below_size (XOpen.bl3 HB.out GE140.out GE141.out GE147.out)) : w.heap.size ≤ gb146))
     have n7_ := Aside0.mk ((by rw [hg]; exact Nat.ne_of_lt (blk_lt (g := gb140) (o := .cells #[.int .u64 a0_0, .int .u64 a0_1] 49 (0, 0)) (XOpen.bk BK140.out)) : gb140 ≠ gb146))
     have n8_ := Aside0.mk ((by rw [hg]; exact Nat.ne_of_gt (blk_lt (g := gb140) (o := .cells #[.int .u64 a0_0, .int .u64 a0_1] 49 (0, 0)) (XOpen.bk BK140.out)) : gb146 ≠ gb140))
     have n9_ := Aside0.mk ((by rw [hg]; exact Nat.ne_of_lt (blk_lt (g := gb141) (o := .cells #[.int .u64 0, .int .u64 0] 49 (0, 0)) (XOpen.bk BK141.out)) : gb141 ≠ gb146))
     have n10_ := Aside0.mk ((by rw [hg]; exact Nat.ne_of_gt (blk_lt (g := gb141) (o := .cells #[.int .u64 0, .int .u64 0] 49 (0, 0)) (XOpen.bk BK141.out)) : gb146 ≠ gb141))
     have n11_ := Aside0.mk ((by rw [hg]; exact Nat.ne_of_lt (blk_lt (g := gb147) (o := .cells #[.int .u64 0, .int .u64 0] 49 (0, 0)) (XOpen.bk BK147.out)) : gb147 ≠ gb146))
     have n12_ := Aside0.mk ((by rw [hg]; exact Nat.ne_of_gt (blk_lt (g := gb147) (o := .cells #[.int .u64 0, .int .u64 0] 49 (0, 0)) (XOpen.bk BK147.out)) : gb146 ≠ gb147))
     clear BK140
     clear BK141
     clear BK147
     clear HB
     have BK140 := n0_
     have BK141 := n1_
     have BK147 := n2_
     have HB := n3_
     have BK146 := n4_
     have GW146 := n5_
     have GE146 := n6_
     have NB140_146 := n7_
     have NB146_140 := n8_
     have NB141_146 := n9_
     have NB146_141 := n10_
     have NB147_146 := n11_
     have NB146_147 := n12_
     clear n0_ n1_ n2_ n3_ n4_ n5_ n6_ n7_ n8_ n9_ n10_ n11_ n12_
     clear hb hbox hg
     refine hK.out _ _ ⟨(blk_cell BK140.out 0).trans rfl, (blk_cell BK140.out 1).trans rfl⟩ (fun hHeld => ?_)
     clear hK K
     refine norm_ (a' := ?_) ?_ ?_
     rotate_left
     ·show Act.put _ (some 6) _ = _
      simp only [Act.put, List.setIfInBounds_toArray, List.set_cons_zero, List.set_cons_succ, i64_w, i32_w]
      rfl
     exact norm_ (by first | (simp only [putAll, Act.put, List.setIfInBounds_toArray, List.set_cons_zero, List.set_cons_succ]; done) | (simp only [putAll, Act.put, List.setIfInBounds_toArray, List.set_cons_zero, List.set_cons_succ]; rfl)) (hJ3_7_8_9 (gb146, gb147) _ ⟨hHeld, (XOpen.bk BK140.out), (XOpen.bk BK141.out), (XOpen.bk BK146.out), (XOpen.bk BK147.out), GW146.out, GE146.out, NB140_146.out, NB146_140.out, NB141_146.out, NB146_141.out, NB147_146.out, NB146_147.out, GW147.out, GE147.out, NB140_147.out, NB147_140.out, NB141_147.out, NB147_141.out, (XOpen.bl4 HB.out GE140.out GE141.out GE147.out GE146.out)⟩)
   ·skip
    rintro gb146 w35 ⟨hS_, h0_, h1_, h2_, h3_, h4_, h5_, h6_, h7_, h8_, h9_⟩
    have n0_ : Aside0 (w35.heap[gb140]? = some (.cells #[.int .u64 a0_0, .int .u64 a0_1] 49 (0, 0))) := ⟨h0_⟩
    have n1_ : Aside0 (w35.heap[gb141]? = some (.cells #[.int .u64 0, .int .u64 0] 49 (0, 0))) := ⟨h1_⟩
    have n2_ : Aside0 (w35.heap[gb146]? = some (.cells #[.int .u64 0, .int .u64 0] 49 (0, 0))) := ⟨h2_⟩
    have n3_ : Aside0 (w.heap.size ≤ gb146) := ⟨h3_⟩
    have n4_ : Aside0 (w.heap.size ≤ gb146) := ⟨h4_⟩
    have n5_ : Aside0 (gb140 ≠ gb146) := ⟨h5_⟩
    have n6_ : Aside0 (gb146 ≠ gb140) := ⟨h6_⟩
    have n7_ : Aside0 (gb141 ≠ gb146) := ⟨h7_⟩
    have n8_ : Aside0 (gb146 ≠ gb141) := ⟨h8_⟩
    have n9_ : Aside0 (Below w.heap.size w w35) := ⟨h9_⟩
    clear BK140
    clear BK141
    clear HB
    clear h0_ h1_ h2_ h3_ h4_ h5_ h6_ h7_ h8_ h9_
    have BK140 := n0_
    have BK141 := n1_
    have BK146 := n2_
    have GW146 := n3_
    have GE146 := n4_
    have NB140_146 := n5_
    have NB146_140 := n6_
    have NB141_146 := n7_
    have NB146_141 := n8_
    have HB := n9_
    clear n0_ n1_ n2_ n3_ n4_ n5_ n6_ n7_ n8_ n9_
    have hHeld : w35.cell? ⟨gb140, 0, none⟩ = some (.int .u64 a0_0) ∧ w35.cell? ⟨gb140, 1, none⟩ = some (.int .u64 a0_1) := hS_
    refine norm_ (a' := ?_) ?_ ?_
    rotate_left
    ·simp only [putAll, Act.put, List.setIfInBounds_toArray, List.set_cons_zero, List.set_cons_succ]
     rfl
    refine one_ (i := 9) (N := some 7) #[true, true, true, true, true, true, true, true, true, true, false, false] rfl rfl (one_of HT_.out (by kernel_rfl)) (by decide) (fun K hK => ?_)
    refine box_step ?hg (N := 7) ?hd (cs := #[.int .u64 0, .int .u64 0]) (t := 49) ?hr ?_; (case hd => rfl); (case hg => rfl); (case hr => first | (go_simp; done) | (go_simp; rfl))
    intro gb147 hg w36 hbox hb
    have n0_ := Aside0.mk (blk_below (g := gb140) (o := .cells #[.int .u64 a0_0, .int .u64 a0_1] 49 (0, 0)) (XOpen.bk BK140.out) hb)
    have n1_ := Aside0.mk (blk_below (g := gb141) (o := .cells #[.int .u64 0, .int .u64 0] 49 (0, 0)) (XOpen.bk BK141.out) hb)
    have n2_ := Aside0.mk (blk_below (g := gb146) (o := .cells #[.int .u64 0, .int .u64 0] 49 (0, 0)) (XOpen.bk BK146.out) hb)
    have n3_ := Aside0.mk (below_step (XOpen.bl3 HB.out GE140.out GE141.out GE146.out) hb)
    have n4_ := Aside0.mk (hbox)
    have n5_ := Aside0.mk ((by rw [hg]; exact (below_size (XOpen.bl3 HB.out GE140.out GE141.out GE146.out)) : w.heap.size ≤ gb147))
    have n6_ := Aside0.mk ((by rw [hg]; exact (below_size (XOpen.bl3 HB.out GE140.out GE141.out GE146.out)) : w.heap.size ≤ gb147))
    have n7_ := Aside0.mk ((by rw [hg]; exact Nat.ne_of_lt (blk_lt (g := gb140) (o := .cells #[.int .u64 a0_0, .int .u64 a0_1] 49 (0, 0)) (XOpen.bk BK140.out)) : gb140 ≠ gb147))
    have n8_ := Aside0.mk ((by rw [hg]; exact Nat.ne_of_gt (blk_lt (g := gb140) (o := .cells #[.int .u64 a0_0, .int .u64 a0_1] 49 (0, 0)) (XOpen.bk BK140.out)) : gb147 ≠ gb140))
    have n9_ := Aside0.mk ((by rw [hg]; exact Nat.ne_of_lt (blk_lt (g := gb141) (o := .cells #[.int .u64 0, .int .u64 0] 49 (0, 0)) (XOpen.bk BK141.out)) : gb141 ≠ gb147))
    have n10_ := Aside0.mk ((by rw [hg]; exact Nat.ne_of_gt (blk_lt (g := gb141) (o := .cells #[.int .u64 0, .int .u64 0] 49 (0, 0)) (XOpen.bk BK141.out)) : gb147 ≠ gb141))
    have n11_ := Aside0.mk ((by rw [hg]; exact Nat.ne_of_lt (blk_lt (g := gb146) (o := .cells #[.int .u64 0, .int .u64 0] 49 (0, 0)) (XOpen.bk BK146.out)) : gb146 ≠ gb147))
    have n12_ := Aside0.mk ((by rw [hg]; exact Nat.ne_of_gt (blk_lt (g := gb146) (o := .cells #[.int .u64 0, .int .u64 0] 49 (0, 0)) (XOpen.bk BK146.out)) : gb147 ≠ gb146))
    clear BK140
    clear BK141
    clear BK146
    clear HB
    have BK140 := n0_
    have BK141 := n1_
    have BK146 := n2_
    have HB := n3_
    have BK147 := n4_
    have GW147 := n5_
    have GE147 := n6_
    have NB140_147 := n7_
    have NB147_140 := n8_
    have NB141_147 := n9_
    have NB147_141 := n10_
    have NB146_147 := n11_
    have NB147_146 := n12_
    clear n0_ n1_ n2_ n3_ n4_ n5_ n6_ n7_ n8_ n9_ n10_ n11_ n12_
    clear hb hbox hg
    refine hK.out _ _ ⟨(blk_cell BK140.out 0).trans rfl, (blk_cell BK140.out 1).trans rfl⟩ (fun hHeld => ?_)
    clear hK K
    refine norm_ (a' := ?_) ?_ ?_
    rotate_left
    ·show Act.put _ (some 7) _ = _
     simp only [Act.put, List.setIfInBounds_toArray, List.set_cons_zero, List.set_cons_succ, i64_w, i32_w]
     rfl
    exact norm_ (by first | (simp only [putAll, Act.put, List.setIfInBounds_toArray, List.set_cons_zero, List.set_cons_succ]; done) | (simp only [putAll, Act.put, List.setIfInBounds_toArray, List.set_cons_zero, List.set_cons_succ]; rfl)) (hJ3_7_8_9 (gb146, gb147) _ ⟨hHeld, (XOpen.bk BK140.out), (XOpen.bk BK141.out), (XOpen.bk BK146.out), (XOpen.bk BK147.out), GW146.out, GE146.out, NB140_146.out, NB146_140.out, NB141_146.out, NB146_141.out, NB147_146.out, NB146_147.out, GW147.out, GE147.out, NB140_147.out, NB147_140.out, NB141_147.out, NB147_141.out, (XOpen.bl4 HB.out GE140.out GE141.out GE146.out GE147.out)⟩)
  rintro ⟨gb146, gb147⟩ w36 ⟨hS_, h0_, h1_, h2_, h3_, h4_, h5_, h6_, h7_, h8_, h9_, h10_, h11_, h12_, h13_, h14_, h15_, h16_, h17_, h18_⟩
  have n0_ : Aside0 (w36.heap[gb140]? = some (.cells #[.int .u64 a0_0, .int .u64 a0_1] 49 (0, 0))) := ⟨h0_⟩
  have n1_ : Aside0 (w36.heap[gb141]? = some (.cells #[.int .u64 0, .int .u64 0] 49 (0, 0))) := ⟨h1_⟩
  have n2_ : Aside0 (w36.heap[gb146]? = some (.cells #[.int .u64 0, .int .u64 0] 49 (0, 0))) := ⟨h2_⟩
  have n3_ : Aside0 (w36.heap[gb147]? = some (.cells #[.int .u64 0, .int .u64 0] 49 (0, 0))) := ⟨h3_⟩
  have n4_ : Aside0 (w.heap.size ≤ gb146) := ⟨h4_⟩
  have n5_ : Aside0 (w.heap.size ≤ gb146) := ⟨h5_⟩
  have n6_ : Aside0 (gb140 ≠ gb146) := ⟨h6_⟩
  have n7_ : Aside0 (gb146 ≠ gb140) := ⟨h7_⟩
  have n8_ : Aside0 (gb141 ≠ gb146) := ⟨h8_⟩
  have n9_ : Aside0 (gb146 ≠ gb141) := ⟨h9_⟩
  have n10_ : Aside0 (gb147 ≠ gb146) := ⟨h10_⟩
  have n11_ : Aside0 (gb146 ≠ gb147) := ⟨h11_⟩
  have n12_ : Aside0 (w.heap.size ≤ gb147) := ⟨h12_⟩
  have n13_ : Aside0 (w.heap.size ≤ gb147) := ⟨h13_⟩
  have n14_ : Aside0 (gb140 ≠ gb147) := ⟨h14_⟩
  have n15_ : Aside0 (gb147 ≠ gb140) := ⟨h15_⟩
  have n16_ : Aside0 (gb141 ≠ gb147) := ⟨h16_⟩
  have n17_ : Aside0 (gb147 ≠ gb141) := ⟨h17_⟩
  have n18_ : Aside0 (Below w.heap.size w w36) := ⟨h18_⟩
  clear BK140
  clear BK141
  clear HB
  clear h0_ h1_ h2_ h3_ h4_ h5_ h6_ h7_ h8_ h9_ h10_ h11_ h12_ h13_ h14_ h15_ h16_ h17_ h18_
  have BK140 := n0_
  have BK141 := n1_
  have BK146 := n2_
  have BK147 := n3_
  have GW146 := n4_
  have GE146 := n5_
  have NB140_146 := n6_
  have NB146_140 := n7_
  have NB141_146 := n8_
  have NB146_141 := n9_
  have NB147_146 := n10_
  have NB146_147 := n11_
  have GW147 := n12_
  have GE147 := n13_
  have NB140_147 := n14_
  have NB147_140 := n15_
  have NB141_147 := n16_
  have NB147_141 := n17_
  have HB := n18_
  clear n0_ n1_ n2_ n3_ n4_ n5_ n6_ n7_ n8_ n9_ n10_ n11_ n12_ n13_ n14_ n15_ n16_ n17_ n18_
  have hHeld : w36.cell? ⟨gb140, 0, none⟩ = some (.int .u64 a0_0) ∧ w36.cell? ⟨gb140, 1, none⟩ = some (.int .u64 a0_1) := hS_
  refine norm_ (a' := ?_) ?_ ?_
  rotate_left
  ·simp only [putAll, Act.put, List.setIfInBounds_toArray, List.set_cons_zero, List.set_cons_succ]
   rfl
  refine one_ (i := 10) (N := none) #[true, true, true, true, true, true, true, true, true, true, true, false] rfl rfl (one_of HT_.out (by kernel_rfl)) (by decide) (fun K hK => ?_)
  have hs37 : w36.cell? ⟨gb146, 0, none⟩ = some (.int .u64 0) := (blk_cell BK146.out 0).trans rfl
  have hfs37 := blk_frozen BK146.out 0
  have hns37_0 := NB140_146.out
  have hns37_1 := NB141_146.out
  have hns37_3 := NB147_146.out
  have hms37_0 := NB146_140.out
  have hms37_1 := NB146_141.out
  have hms37_3 := NB146_147.out
  have hs38 : w36.cell? ⟨gb146, 1, none⟩ = some (.int .u64 0) := (blk_cell BK146.out 1).trans rfl
  have hfs38 := blk_frozen BK146.out 1
  have hns38_0 := NB140_146.out
  have hns38_1 := NB141_146.out
  have hns38_3 := NB147_146.out
  have hms38_0 := NB146_140.out
  have hms38_1 := NB146_141.out
  have hms38_3 := NB146_147.out
  refine skip_ (w1 := ?_) (by rfl) rfl ?_ ?_
  rotate_left
  ·go_simp
   rfl
  refine hK.out _ _ ⟨((cell_far (p := ⟨gb146, _, none⟩) NB140_146.out _).trans (((cell_far (p := ⟨gb146, _, none⟩) NB140_146.out _).trans (hHeld.1)))), ((cell_far (p := ⟨gb146, _, none⟩) NB140_146.out _).trans (((cell_far (p := ⟨gb146, _, none⟩) NB140_146.out _).trans (hHeld.2))))⟩ (fun hHeld => ?_)
  clear hK K
  refine one_ (i := 11) (N := none) #[true, true, true, true, true, true, true, true, true, true, true, true] rfl rfl (one_of HT_.out (by kernel_rfl)) (by decide) (fun K hK => ?_)
  have hs39 : w36.cell? ⟨gb147, 0, none⟩ = some (.int .u64 0) := (blk_cell BK147.out 0).trans rfl
  have hfs39 := blk_frozen BK147.out 0
  have hns39_0 := NB140_147.out
  have hns39_1 := NB141_147.out
  have hns39_2 := NB146_147.out
  have hms39_0 := NB147_140.out
  have hms39_1 := NB147_141.out
  have hms39_2 := NB147_146.out
  have hs40 : w36.cell? ⟨gb147, 1, none⟩ = some (.int .u64 0) := (blk_cell BK147.out 1).trans rfl
  have hfs40 := blk_frozen BK147.out 1
  have hns40_0 := NB140_147.out
  have hns40_1 := NB141_147.out
  have hns40_2 := NB146_147.out
  have hms40_0 := NB147_140.out
  have hms40_1 := NB147_141.out
  have hms40_2 := NB147_146.out
  refine skip_ (w1 := ?_) (by rfl) rfl ?_ ?_
  rotate_left
  ·go_simp
   rfl
  refine hK.out _ _ ⟨((cell_far (p := ⟨gb147, _, none⟩) NB140_147.out _).trans (((cell_far (p := ⟨gb147, _, none⟩) NB140_147.out _).trans (hHeld.1)))), ((cell_far (p := ⟨gb147, _, none⟩) NB140_147.out _).trans (((cell_far (p := ⟨gb147, _, none⟩) NB140_147.out _).trans (hHeld.2))))⟩ (fun hHeld => ?_)
  clear hK K
  refine done_ (done_of HT_.out (by kernel_rfl)) ?_
  have hnb41 := NB147_140.out
  have hnc41 := NB140_147.out
  have hnb42 := NB147_141.out
  have hnc42 := NB141_147.out
  have hnb43 := NB147_146.out
  have hnc43 := NB146_147.out
  have hcz44_0 : w36.cell? ⟨gb147, 0, none⟩ = some (.int .u64 0) := (blk_cell BK147.out 0).trans rfl
  have hcz44_1 : w36.cell? ⟨gb147, 1, none⟩ = some (.int .u64 0) := (blk_cell BK147.out 1).trans rfl
  have hfz44_0 := blk_frozen BK147.out 0
  have hfz44_1 := blk_frozen BK147.out 1
  have hnb45 := NB141_140.out
  have hnc45 := NB140_141.out
  have hnb46 := NB141_146.out
  have hnc46 := NB146_141.out
  have hcz47_0 : w36.cell? ⟨gb141, 0, none⟩ = some (.int .u64 0) := (blk_cell BK141.out 0).trans rfl
  have hcz47_1 : w36.cell? ⟨gb141, 1, none⟩ = some (.int .u64 0) := (blk_cell BK141.out 1).trans rfl
  have hfz47_0 := blk_frozen BK141.out 0
  have hfz47_1 := blk_frozen BK141.out 1
  try go_wp2
  refine bodyPost_ret (results_ct rfl _ _ gb141 49 #[.int .u64 0, .int .u64 0] (0, 0) _ rfl (by (with_reducible repeat (first | refine blk_drewN ?_ _ | refine blk_drew ?_ | refine blk_alloc ?_ _)); refine blk_put (cs := #[.int .u64 0, .int .u64 0]) ?_ 1 _ rfl; (with_reducible repeat (first | refine blk_drewN ?_ _ | refine blk_drew ?_ | refine blk_alloc ?_ _)); refine blk_put (cs := #[.int .u64 0, .int .u64 0]) ?_ 0 _ rfl; (with_reducible repeat (first | refine blk_drewN ?_ _ | refine blk_drew ?_ | refine blk_alloc ?_ _)); refine blk_far ?_ NB141_147.out _; (with_reducible repeat (first | refine blk_drewN ?_ _ | refine blk_drew ?_ | refine blk_alloc ?_ _)); refine blk_far ?_ NB141_147.out _; (with_reducible repeat (first | refine blk_drewN ?_ _ | refine blk_drew ?_ | refine blk_alloc ?_ _)); refine blk_far ?_ NB141_146.out _; (with_reducible repeat (first | refine blk_drewN ?_ _ | refine blk_drew ?_ | refine blk_alloc ?_ _)); refine blk_far ?_ NB141_146.out _; (with_reducible repeat (first | refine blk_drewN ?_ _ | refine blk_drew ?_ | refine blk_alloc ?_ _)); exact BK141.out) Try.underlying49 rfl (by kernel_rfl)) rfl ?_
  exact ⟨by first | rfl | (simp [errW_none, errW_some] <;> rfl) | (simp [*, errW_none, errW_some] <;> rfl), XOpen.bl4 HB.out GE140.out GE141.out GE146.out GE147.out⟩

end Go.Proofs.Ytemhnlameekmkaa.XRoot
