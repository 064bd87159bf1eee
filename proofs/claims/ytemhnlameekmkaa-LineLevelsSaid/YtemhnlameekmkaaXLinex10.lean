-- Printed by a program of this claim. Not trusted: Lean checks it.
import Derived.Test.YtemhnlameekmkaaXLinex0
import Derived.Test.YtemhnlameekmkaaXLinex1
import Derived.Test.YtemhnlameekmkaaXLinex8
import Derived.Test.YtemhnlameekmkaaXLinex9
namespace Go.Proofs.Ytemhnlameekmkaa.XLine
open Go.RowKit Go.Proofs.YtemhnlameekmkaaW.PrintWords Go.Proofs.YtemhnlameekmkaaW.PrintLast Go.Proofs.YtemhnlameekmkaaW.PrintMore
attribute [local go_sem] max2_int min2_int max_two min_two max_three min_three max_four min_four   -- for this text's walks alone
set_option linter.unusedVariables false
set_option linter.unusedSimpArgs false
open XOpen

attribute [local go_sem high] eqA26
/-! ### pochoirref19_Beside: function 72 -/
def pochoirref19_Beside.j0 : Nat → Int → Int → Int → Int → Int → Int → Int → Option (Int)
 | 0, _, _, _, _, _, _, _ => none
 | k + 1, x3, x4, x11, x336000, x336001, x337000, x337001 => (pochoirref19_digits.f k (IntKind.u64.wrap (x11))).bind fun t338 => ((pochoirref01_Times.f k t338 t338).bind fun t341 => ((pochoirref18_Dot.f x336000 x336001 x337000 x337001 x337000 x337001).bind fun t344 => ((pochoirref19_digits.f k (IntKind.u64.wrap (t344))).bind fun t345 => ((pochoirref19_level.f k t341 t345 x3 x4).bind fun t348 => (some t348)))))
def pochoirref19_Beside.f (k : Nat) (a0_0 : Int) (a0_1 : Int) (a1_0 : Int) (a1_1 : Int) (a2_0 : Int) (a2_1 : Int) (a3 : Int) (a4 : Int) : Option (Int) := (pochoirref18_Cross.f a1_0 a1_1 a2_0 a2_1 a0_0 a0_1).bind fun t337 => (if t337 < 0 then (pochoirref19_Beside.j0 k a3 a4 (wrap64 (-t337)) a1_0 a1_1 a2_0 a2_1) else (pochoirref19_Beside.j0 k a3 a4 t337 a1_0 a1_1 a2_0 a2_1))
theorem pochoirref19_Beside.mono_l : ∀ k, (∀ y0 y1 y2 y3 y4 y5 y6, LeO (pochoirref19_Beside.j0 k y0 y1 y2 y3 y4 y5 y6) (pochoirref19_Beside.j0 (k + 1) y0 y1 y2 y3 y4 y5 y6))
 | 0 => fun _ _ _ _ _ _ _ r h => by simp [pochoirref19_Beside.j0] at h
 | k + 1 => by
  have ih0 := pochoirref19_Beside.mono_l k
  ·intro y0 y1 y2 y3 y4 y5 y6
   unfold pochoirref19_Beside.j0
   repeat' first
   | (with_reducible exact ih0 _ _ _ _ _ _ _)
   | (with_reducible exact pochoirref01_Times.mono _ _ _)
   | (with_reducible exact pochoirref19_digits.mono _ _)
   | (with_reducible exact pochoirref19_level.mono _ _ _ _ _)
   | (with_reducible exact LeO.refl _)
   | (with_reducible exact LeO.none _)
   | (with_reducible refine LeO.ite ?_ ?_)
   | (with_reducible refine LeO.bind ?_ (fun _ => ?_))
   | exact ih0 _ _ _ _ _ _ _
   | exact pochoirref01_Times.mono _ _ _
   | exact pochoirref19_digits.mono _ _
   | exact pochoirref19_level.mono _ _ _ _ _
   | exact LeO.none _
   | refine LeO.ite ?_ ?_
   | refine LeO.bind ?_ (fun _ => ?_)
theorem pochoirref19_Beside.mono : ∀ a0 a1 a2 a3 a4 a5 a6 a7 k, LeO (pochoirref19_Beside.f k a0 a1 a2 a3 a4 a5 a6 a7) (pochoirref19_Beside.f (k + 1) a0 a1 a2 a3 a4 a5 a6 a7) := by
 intro a0 a1 a2 a3 a4 a5 a6 a7 k
 have ih0 := pochoirref19_Beside.mono_l k
 unfold pochoirref19_Beside.f
 repeat' first
   | (with_reducible exact ih0 _ _ _ _ _ _ _)
   | (with_reducible exact pochoirref01_Times.mono _ _ _)
   | (with_reducible exact pochoirref19_digits.mono _ _)
   | (with_reducible exact pochoirref19_level.mono _ _ _ _ _)
   | (with_reducible exact LeO.refl _)
   | (with_reducible exact LeO.none _)
   | (with_reducible refine LeO.ite ?_ ?_)
   | (with_reducible refine LeO.bind ?_ (fun _ => ?_))
   | exact ih0 _ _ _ _ _ _ _
   | exact pochoirref01_Times.mono _ _ _
   | exact pochoirref19_digits.mono _ _
   | exact pochoirref19_level.mono _ _ _ _ _
   | exact LeO.none _
   | refine LeO.ite ?_ ?_
   | refine LeO.bind ?_ (fun _ => ?_)
def pochoirref19_Beside.T5 : Bool × List (List Nat × List Nat) := (true, [([], []), ([], []), ([0, 1], [0, 1]), ([], []), ([], []), ([], []), ([3, 4, 5, 2], [3, 4, 5]), ([6], [6]), ([7, 6], [7]), ([], []), ([], []), ([2, 8, 9, 10, 8], [2, 8, 9, 10]), ([11, 11, 0, 1, 2, 3, 4, 5, 6, 7, 8, 9, 10, 11], [11])])
def pochoirref19_Beside.B5 : List Nat := [0, 0, 3, 0, 0, 0, 63, 127, 255, 0, 0, 2047, 4095]
theorem pochoirref19_Beside.tab5 : rtab .any (opsOf Try.f72 5) = pochoirref19_Beside.T5 := by kernel_rfl
theorem pochoirref19_Beside.bits5 : waitsOk pochoirref19_Beside.T5.2 pochoirref19_Beside.B5 = true := by kernel_rfl
set_option maxHeartbeats 8000000 in
set_option maxRecDepth 100000 in
theorem pochoirref19_Beside.calls (k : Nat) (a0_0 : Int) (a0_1 : Int) (a1_0 : Int) (a1_1 : Int) (a2_0 : Int) (a2_1 : Int) (a3 : Int) (a4 : Int) (r : Int) (w : World) (h : pochoirref19_Beside.f k a0_0 a0_1 a1_0 a1_1 a2_0 a2_1 a3 a4 = some r) :
  Calls Try.prog 72 #[.agg #[.int .i64 a0_0, .int .i64 a0_1], .agg #[.int .i64 a1_0, .int .i64 a1_1], .agg #[.int .i64 a2_0, .int .i64 a2_1], .int .i64 a3, .int .i64 a4] w fun e w' => e = .returned (.int .i64 r) ∧ Below w.heap.size w w' := by
 have hu26 := Try.underlying26
 have HB := Aside0.mk (Below.refl w.heap.size w)
 have H : ((pochoirref18_Cross.f a1_0 a1_1 a2_0 a2_1 a0_0 a0_1).bind fun t337 => (if t337 < 0 then (pochoirref19_Beside.j0 k a3 a4 (wrap64 (-t337)) a1_0 a1_1 a2_0 a2_1) else (pochoirref19_Beside.j0 k a3 a4 t337 a1_0 a1_1 a2_0 a2_1))) = some r := h
 clear h
 replace H := Option.bind_eq_some_iff.mp H
 obtain ⟨t337, A60, H⟩ := H
 replace H : (if t337 < 0 then (pochoirref19_Beside.j0 k a3 a4 (wrap64 (-t337)) a1_0 a1_1 a2_0 a2_1) else (pochoirref19_Beside.j0 k a3 a4 t337 a1_0 a1_1 a2_0 a2_1)) = some r := H
 have A6 := Aside0.mk A60
 clear A60
 have HC7 := Aside0.mk H
 clear H
 go_enter Try.func72, Try.ntmps72
 go_upto_if 18 with (first | ((with_reducible refine gate_dst (N := 5) rfl ?_); refine be 5 (#[.int .i64 a0_0, .int .i64 a0_1]) 26 ?_; intro gb334 hg w8 hbox hb; have BK334 := Aside0.mk (hbox); have GW334 := Aside0.mk ((by rw [hg]; exact (below_size (bl0 HB.out)) : w.heap.size ≤ gb334)); have GE334 := GW334; replace HB := Aside0.mk (below_step (bl0 HB.out) hb); clear hb hbox hg) | ((with_reducible refine gate_dst (N := 6) rfl ?_); refine be 6 (#[.int .i64 a1_0, .int .i64 a1_1]) 26 ?_; intro gb335 hg w9 hbox hb; have BK335 := Aside0.mk (hbox); have GW335 := Aside0.mk ((by rw [hg]; exact (below_size (bl1 HB.out GE334.out)) : w.heap.size ≤ gb335)); have GE335 := GW335; have NB334_335 := Aside0.mk ((by rw [hg]; exact Nat.ne_of_lt (lt_ BK334.out) : gb334 ≠ gb335)); have NB335_334 := Aside0.mk ((by rw [hg]; exact Nat.ne_of_gt (lt_ BK334.out) : gb335 ≠ gb334)); replace BK334 := Aside0.mk (bb BK334.out hb); replace HB := Aside0.mk (below_step (bl1 HB.out GE334.out) hb); clear hb hbox hg) | ((with_reducible refine gate_dst (N := 7) rfl ?_); refine be 7 (#[.int .i64 a2_0, .int .i64 a2_1]) 26 ?_; intro gb336 hg w10 hbox hb; have BK336 := Aside0.mk (hbox); have GW336 := Aside0.mk ((by rw [hg]; exact (below_size (bl2 HB.out GE334.out GE335.out)) : w.heap.size ≤ gb336)); have GE336 := GW336; have NB334_336 := Aside0.mk ((by rw [hg]; exact Nat.ne_of_lt (lt_ BK334.out) : gb334 ≠ gb336)); have NB336_334 := Aside0.mk ((by rw [hg]; exact Nat.ne_of_gt (lt_ BK334.out) : gb336 ≠ gb334)); have NB335_336 := Aside0.mk ((by rw [hg]; exact Nat.ne_of_lt (lt_ BK335.out) : gb335 ≠ gb336)); have NB336_335 := Aside0.mk ((by rw [hg]; exact Nat.ne_of_gt (lt_ BK335.out) : gb336 ≠ gb335)); replace BK334 := Aside0.mk (bb BK334.out hb); replace BK335 := Aside0.mk (bb BK335.out hb); replace HB := Aside0.mk (below_step (bl2 HB.out GE334.out GE335.out) hb); clear hb hbox hg; have hnb11 := NB335_334.out; have hnc11 := NB334_335.out; have hnb12 := NB335_336.out; have hnc12 := NB336_335.out; have hcz13_0 : w10.cell? ⟨gb335, 0, none⟩ = some (.int .i64 a1_0) := (blk_cell BK335.out 0).trans rfl; have hcz13_1 : w10.cell? ⟨gb335, 1, none⟩ = some (.int .i64 a1_1) := (blk_cell BK335.out 1).trans rfl; have hfz13_0 := blk_frozen BK335.out 0; have hfz13_1 := blk_frozen BK335.out 1; have hnb14 := NB336_334.out; have hnc14 := NB334_336.out; have hcz15_0 : w10.cell? ⟨gb336, 0, none⟩ = some (.int .i64 a2_0) := (blk_cell BK336.out 0).trans rfl; have hcz15_1 : w10.cell? ⟨gb336, 1, none⟩ = some (.int .i64 a2_1) := (blk_cell BK336.out 1).trans rfl; have hfz15_0 := blk_frozen BK336.out 0; have hfz15_1 := blk_frozen BK336.out 1; have hcz16_0 : w10.cell? ⟨gb334, 0, none⟩ = some (.int .i64 a0_0) := (blk_cell BK334.out 0).trans rfl; have hcz16_1 : w10.cell? ⟨gb334, 1, none⟩ = some (.int .i64 a0_1) := (blk_cell BK334.out 1).trans rfl; have hfz16_0 := blk_frozen BK334.out 0; have hfz16_1 := blk_frozen BK334.out 1) | ((with_reducible refine gate_callee (f := 23) rfl ?_); refine goesL_ (some 16) rfl rfl Try.func23 (by kernel_rfl) rfl #[.agg #[.int .i64 a1_0, .int .i64 a1_1], .agg #[.int .i64 a2_0, .int .i64 a2_1], .agg #[.int .i64 a0_0, .int .i64 a0_1]] rfl am ?_; (with_reducible refine (pochoirref18_Cross.calls a1_0 a1_1 a2_0 a2_1 a0_0 a0_1 t337 _ A6.out).mono ?_); rintro e w17 ⟨rfl, hb⟩; refine ⟨_, rfl, ?_⟩; replace BK334 := Aside0.mk (bb BK334.out hb); replace BK335 := Aside0.mk (bb BK335.out hb); replace BK336 := Aside0.mk (bb BK336.out hb); replace HB := Aside0.mk (below_step (bl3 HB.out GE334.out GE335.out GE336.out) hb); (try clear hb); (try clear hb2); (try clear hk); (try clear hi)))
 (try simp only [Act.put, List.setIfInBounds_toArray, List.set_cons_zero, List.set_cons_succ])
 go_cut [11] (fun v11 wc => ∃ (kq : Nat) (x11_6 : Int), v11 = .int .i64 x11_6 ∧ Aside0 (pochoirref19_Beside.j0 kq a3 a4 x11_6 a1_0 a1_1 a2_0 a2_1 = some r) ∧ Aside0 (kq ≤ k) ∧ Aside0 (wc.heap[gb334]? = some (.cells #[.int .i64 a0_0, .int .i64 a0_1] 26 (0, 0))) ∧ Aside0 (wc.heap[gb335]? = some (.cells #[.int .i64 a1_0, .int .i64 a1_1] 26 (0, 0))) ∧ Aside0 (wc.heap[gb336]? = some (.cells #[.int .i64 a2_0, .int .i64 a2_1] 26 (0, 0))) ∧ Aside0 (Below w.heap.size w wc))
 case first =>
  have H := HC7.out
  clear HC7
  by_cases c18 : t337 < 0
  ·rw [if_pos c18] at H
   have c18b0 : decide (t337 < 0) = true := decide_eq_true c18
   clear c18
   (first | rw [c18b0] | (simp only [i64_w, i32_w]; rw [c18b0]) | skip)
   have H' := Aside0.mk H
   clear H
   go_wp2
   go_meet
   case rel => exact ⟨_, (wrap64 (-t337)), fr, H', ⟨by first | omega | exact Nat.le_refl _⟩, ⟨bk BK334.out⟩, ⟨bk BK335.out⟩, ⟨bk BK336.out⟩, ⟨bl3 HB.out GE334.out GE335.out GE336.out⟩⟩
  ·rw [if_neg c18] at H
   have c18b0 : decide (t337 < 0) = false := decide_eq_false c18
   clear c18
   (first | rw [c18b0] | (simp only [i64_w, i32_w]; rw [c18b0]) | skip)
   have H' := Aside0.mk H
   clear H
   go_wp2
   go_meet
   case rel => exact ⟨_, (t337), fr, H', ⟨by first | omega | exact Nat.le_refl _⟩, ⟨bk BK334.out⟩, ⟨bk BK335.out⟩, ⟨bk BK336.out⟩, ⟨bl3 HB.out GE334.out GE335.out GE336.out⟩⟩
 case rest =>
  clear HC7
  try clear c1
  try clear c2
  try clear p2
  try clear p6
  try clear c7
  try clear c11
  try clear c12
  try clear c14
  try clear c18
  try clear c18b0
  try clear hcz13_0
  try clear hcz13_1
  try clear hcz15_0
  try clear hcz15_1
  try clear hcz16_0
  try clear hcz16_1
  try clear hfz13_0
  try clear hfz13_1
  try clear hfz15_0
  try clear hfz15_1
  try clear hfz16_0
  try clear hfz16_1
  obtain ⟨kq, x11_6, rfl, HA, HJ6, BK334, BK335, BK336, HB⟩ := hcut
  cases kq with
  | zero => exact absurd HA.out (by simp [pochoirref19_Beside.j0])
  | succ kj6 =>
   have H := HA.out
   clear HA
   simp only [pochoirref19_Beside.j0] at H
   replace H := Option.bind_eq_some_iff.mp H
   obtain ⟨t338, A190, H⟩ := H
   replace H : ((pochoirref01_Times.f kj6 t338 t338).bind fun t341 => ((pochoirref18_Dot.f a1_0 a1_1 a2_0 a2_1 a2_0 a2_1).bind fun t344 => ((pochoirref19_digits.f kj6 (IntKind.u64.wrap (t344))).bind fun t345 => ((pochoirref19_level.f kj6 t341 t345 a3 a4).bind fun t348 => (some t348))))) = some r := H
   have A19 := Aside0.mk A190
   clear A190
   replace H := Option.bind_eq_some_iff.mp H
   obtain ⟨t341, A200, H⟩ := H
   replace H : ((pochoirref18_Dot.f a1_0 a1_1 a2_0 a2_1 a2_0 a2_1).bind fun t344 => ((pochoirref19_digits.f kj6 (IntKind.u64.wrap (t344))).bind fun t345 => ((pochoirref19_level.f kj6 t341 t345 a3 a4).bind fun t348 => (some t348)))) = some r := H
   have A20 := Aside0.mk A200
   clear A200
   replace H := Option.bind_eq_some_iff.mp H
   obtain ⟨t344, A210, H⟩ := H
   replace H : ((pochoirref19_digits.f kj6 (IntKind.u64.wrap (t344))).bind fun t345 => ((pochoirref19_level.f kj6 t341 t345 a3 a4).bind fun t348 => (some t348))) = some r := H
   have A21 := Aside0.mk A210
   clear A210
   replace H := Option.bind_eq_some_iff.mp H
   obtain ⟨t345, A220, H⟩ := H
   replace H : ((pochoirref19_level.f kj6 t341 t345 a3 a4).bind fun t348 => (some t348)) = some r := H
   have A22 := Aside0.mk A220
   clear A220
   replace H := Option.bind_eq_some_iff.mp H
   obtain ⟨t348, A230, H⟩ := H
   replace H : (some t348) = some r := H
   have A23 := Aside0.mk A230
   clear A230
   obtain rfl := Option.some.inj H
   try go_wp2_with (first | ((with_reducible refine gate_callee (f := 71) rfl ?_); refine goesL_ (some 23) rfl rfl Try.func71 (by kernel_rfl) rfl #[.int .u64 (IntKind.u64.wrap (x11_6))] rfl am ?_; (with_reducible refine (pochoirref19_digits.calls kj6 (IntKind.u64.wrap (x11_6)) t338 _ A19.out).mono ?_); rintro e w24 ⟨v339, rfl, ho0, hb⟩; refine ⟨_, rfl, ?_⟩; have HO340 := Aside0.mk (Kd.R_lower ho0 (below_size (bl3 HB.out GE334.out GE335.out GE336.out))); replace BK334 := Aside0.mk (bb BK334.out hb); replace BK335 := Aside0.mk (bb BK335.out hb); replace BK336 := Aside0.mk (bb BK336.out hb); replace HB := Aside0.mk (below_step (bl3 HB.out GE334.out GE335.out GE336.out) hb); (try clear hb); (try clear hb2); (try clear hk); (try clear hi); (try clear ho0)))
   replace HO340 := Aside0.mk (Kd.R_drew HO340.out)
   replace BK334 := Aside0.mk (blk_drew BK334.out)
   replace BK335 := Aside0.mk (blk_drew BK335.out)
   replace BK336 := Aside0.mk (blk_drew BK336.out)
   replace HB := Aside0.mk (below_drew1 HB.out)
   obtain ⟨Ao26, co26, eo26⟩ := Kd.R_slice HO340.out
   (first | subst eo26 | (injection eo26 with f1_ f2_ f3_; have f4_ := f1_.symm; have f5_ := f3_.symm; clear f1_ f2_ f3_; subst f4_; subst f5_))
   refine start_ (n := 13) (S := fun w' => w'.cell? ⟨gb335, 0, none⟩ = some (.int .i64 a1_0) ∧ w'.cell? ⟨gb335, 1, none⟩ = some (.int .i64 a1_1) ∧ w'.cell? ⟨gb336, 0, none⟩ = some (.int .i64 a2_0) ∧ w'.cell? ⟨gb336, 1, none⟩ = some (.int .i64 a2_1)) (ds := []) (ba 13 0) (by kernel_rfl) rfl rfl ⟨(blk_cell BK335.out 0).trans rfl, (blk_cell BK335.out 1).trans rfl, (blk_cell BK336.out 0).trans rfl, (blk_cell BK336.out 1).trans rfl⟩ (fun hHeld => ?_); refine with_tabW pochoirref19_Beside.tab5 pochoirref19_Beside.bits5 (fun HT_ HW_ => ?_)
   generalize w24.drew = w25 at HO340 BK334 BK335 BK336 HB hHeld ⊢
   refine pI 0 24 (ba 13 1) HT_.out ?_
   refine pI 1 25 (ba 13 3) HT_.out ?_
   refine pI 9 33 (ba 13 515) HT_.out ?_
   refine pI 10 34 (ba 13 1539) HT_.out ?_
   refine take_ (i := 3) (N := some 27) (v := ?_) (a' := ?_) (ba 13 1547) rfl rfl (take_ofW HT_.out HW_.out (by kernel_rfl)) (fun _ _ _ h => h) (Or.inl ⟨by rfl, ?_⟩) hHeld ?_ ?_
   rotate_left
   ·rintro w' ⟨s0, s1, s2, s3⟩
    go_simp
    with_reducible rfl
   rotate_left
   ·simp only [Act.put, List.setIfInBounds_toArray, List.set_cons_zero, List.set_cons_succ, i64_w, i32_w]
    rfl
   refine take_ (i := 4) (N := some 28) (v := ?_) (a' := ?_) (ba 13 1563) rfl rfl (take_ofW HT_.out HW_.out (by kernel_rfl)) (fun _ _ _ h => h) (Or.inl ⟨by rfl, ?_⟩) hHeld ?_ ?_
   rotate_left
   ·rintro w' ⟨s0, s1, s2, s3⟩
    go_simp
    with_reducible rfl
   rotate_left
   ·simp only [Act.put, List.setIfInBounds_toArray, List.set_cons_zero, List.set_cons_succ, i64_w, i32_w]
    rfl
   refine take_ (i := 5) (N := some 29) (v := ?_) (a' := ?_) (ba 13 1595) rfl rfl (take_ofW HT_.out HW_.out (by kernel_rfl)) (fun _ _ _ h => h) (Or.inl ⟨by rfl, ?_⟩) hHeld ?_ ?_
   rotate_left
   ·rintro w' ⟨s0, s1, s2, s3⟩
    go_simp
    with_reducible rfl
   rotate_left
   ·simp only [Act.put, List.setIfInBounds_toArray, List.set_cons_zero, List.set_cons_succ, i64_w, i32_w]
    rfl
   refine one_ (i := 2) (N := some 26) (ba 13 1599) rfl rfl (one_of HT_.out (by kernel_rfl)) (by decide) (fun K hK => ?_)
   refine goes_ Try.func62 (by kernel_rfl) rfl #[.slice Ao26 t338.length co26, .slice Ao26 t338.length co26] (by rfl) rfl rfl am ?_
   with_reducible refine (pochoirref01_Times.calls kj6 _ _ t338 _ _ t338 t341 _ ?side1 ?side2 ?side3 ?side4 A20.out).mono ?_
   (case side1 => repeat (first | exact (Kd.R_reads' HO340.out).2.2 | (with_reducible refine Kd.C_alloc ?_ _) | (with_reducible refine Kd.C_drewN ?_ _) | (with_reducible refine Kd.C_drew ?_)))
   (case side2 => exact (Kd.R_reads' HO340.out).2.1)
   (case side3 => repeat (first | exact (Kd.R_reads' HO340.out).2.2 | (with_reducible refine Kd.C_alloc ?_ _) | (with_reducible refine Kd.C_drewN ?_ _) | (with_reducible refine Kd.C_drew ?_)))
   (case side4 => exact (Kd.R_reads' HO340.out).2.1)
   rintro e w27 ⟨v342, rfl, ho0, hb⟩
   refine ⟨_, rfl, ?_⟩
   have HO343 := Aside0.mk (Kd.R_lower (Kd.R_new' ho0 (Kd.R_lt (by (with_reducible repeat (first | apply Kd.R_alloc | apply Kd.R_drewN | apply Kd.R_drew)); exact HO340.out))) (below_size (bl3 HB.out GE334.out GE335.out GE336.out)))
   replace HO340 := Aside0.mk (Kd.R_elder' (by (with_reducible repeat (first | apply Kd.R_alloc | apply Kd.R_drewN | apply Kd.R_drew)); exact HO340.out) (Kd.R_base ho0) hb)
   replace BK334 := Aside0.mk (bb BK334.out hb)
   replace BK335 := Aside0.mk (bb BK335.out hb)
   replace BK336 := Aside0.mk (bb BK336.out hb)
   replace HB := Aside0.mk (below_step (bl3 HB.out GE334.out GE335.out GE336.out) hb)
   (try clear hb)
   (try clear hb2)
   (try clear hk)
   (try clear hi)
   (try clear ho0)
   refine hK.out _ _ ⟨(blk_cell BK335.out 0).trans rfl, (blk_cell BK335.out 1).trans rfl, (blk_cell BK336.out 0).trans rfl, (blk_cell BK336.out 1).trans rfl⟩ (fun hHeld => ?_)
   clear hK K
   refine norm_ (a' := ?_) ?_ ?_
   rotate_left
   ·show Act.put _ (some 26) _ = _
    simp only [Act.put, List.setIfInBounds_toArray, List.set_cons_zero, List.set_cons_succ, i64_w, i32_w]
    rfl
   refine one_ (i := 6) (N := some 30) (ba 13 1663) rfl rfl (one_of HT_.out (by kernel_rfl)) (by decide) (fun K hK => ?_)
   refine goes_ Try.func22 (by kernel_rfl) rfl #[.agg #[.int .i64 a1_0, .int .i64 a1_1], .agg #[.int .i64 a2_0, .int .i64 a2_1], .agg #[.int .i64 a2_0, .int .i64 a2_1]] (by rfl) rfl rfl am ?_
   with_reducible refine (pochoirref18_Dot.calls a1_0 a1_1 a2_0 a2_1 a2_0 a2_1 t344 _ A21.out).mono ?_
   rintro e w28 ⟨rfl, hb⟩
   refine ⟨_, rfl, ?_⟩
   replace HO340 := Aside0.mk (Kd.R_below (by (with_reducible repeat (first | apply Kd.R_alloc | apply Kd.R_drewN | apply Kd.R_drew)); exact HO340.out) hb)
   replace HO343 := Aside0.mk (Kd.R_below (by (with_reducible repeat (first | apply Kd.R_alloc | apply Kd.R_drewN | apply Kd.R_drew)); exact HO343.out) hb)
   replace BK334 := Aside0.mk (bb BK334.out hb)
   replace BK335 := Aside0.mk (bb BK335.out hb)
   replace BK336 := Aside0.mk (bb BK336.out hb)
   replace HB := Aside0.mk (below_step (bl3 HB.out GE334.out GE335.out GE336.out) hb)
   (try clear hb)
   (try clear hb2)
   (try clear hk)
   (try clear hi)
   refine hK.out _ _ ⟨(blk_cell BK335.out 0).trans rfl, (blk_cell BK335.out 1).trans rfl, (blk_cell BK336.out 0).trans rfl, (blk_cell BK336.out 1).trans rfl⟩ (fun hHeld => ?_)
   clear hK K
   refine norm_ (a' := ?_) ?_ ?_
   rotate_left
   ·show Act.put _ (some 30) _ = _
    simp only [Act.put, List.setIfInBounds_toArray, List.set_cons_zero, List.set_cons_succ, i64_w, i32_w]
    rfl
   refine pI 7 31 (ba 13 1791) HT_.out ?_
   refine one_ (i := 8) (N := some 32) (ba 13 2047) rfl rfl (one_of HT_.out (by kernel_rfl)) (by decide) (fun K hK => ?_)
   refine goes_ Try.func71 (by kernel_rfl) rfl #[.int .u64 (IntKind.u64.wrap (t344))] (by rfl) rfl rfl am ?_
   with_reducible refine (pochoirref19_digits.calls kj6 (IntKind.u64.wrap (t344)) t345 _ A22.out).mono ?_
   rintro e w29 ⟨v346, rfl, ho0, hb⟩
   refine ⟨_, rfl, ?_⟩
   have HO347 := Aside0.mk (Kd.R_lower (Kd.R_new' (Kd.R_new' ho0 (Kd.R_lt (by (with_reducible repeat (first | apply Kd.R_alloc | apply Kd.R_drewN | apply Kd.R_drew)); exact HO340.out))) (Kd.R_lt (by (with_reducible repeat (first | apply Kd.R_alloc | apply Kd.R_drewN | apply Kd.R_drew)); exact HO343.out))) (below_size (bl3 HB.out GE334.out GE335.out GE336.out)))
   replace HO340 := Aside0.mk (Kd.R_elder' (by (with_reducible repeat (first | apply Kd.R_alloc | apply Kd.R_drewN | apply Kd.R_drew)); exact HO340.out) (Kd.R_base ho0) hb)
   replace HO343 := Aside0.mk (Kd.R_elder' (by (with_reducible repeat (first | apply Kd.R_alloc | apply Kd.R_drewN | apply Kd.R_drew)); exact HO343.out) (Kd.R_base ho0) hb)
   replace BK334 := Aside0.mk (bb BK334.out hb)
   replace BK335 := Aside0.mk (bb BK335.out hb)
   replace BK336 := Aside0.mk (bb BK336.out hb)
   replace HB := Aside0.mk (below_step (bl3 HB.out GE334.out GE335.out GE336.out) hb)
   (try clear hb)
   (try clear hb2)
   (try clear hk)
   (try clear hi)
   (try clear ho0)
   obtain ⟨Ao30, co30, eo30⟩ := Kd.R_slice HO343.out
   (first | subst eo30 | (injection eo30 with f1_ f2_ f3_; have f4_ := f1_.symm; have f5_ := f3_.symm; clear f1_ f2_ f3_; subst f4_; subst f5_))
   obtain ⟨Ao31, co31, eo31⟩ := Kd.R_slice HO347.out
   (first | subst eo31 | (injection eo31 with f1_ f2_ f3_; have f4_ := f1_.symm; have f5_ := f3_.symm; clear f1_ f2_ f3_; subst f4_; subst f5_))
   refine hK.out _ _ ⟨(blk_cell BK335.out 0).trans rfl, (blk_cell BK335.out 1).trans rfl, (blk_cell BK336.out 0).trans rfl, (blk_cell BK336.out 1).trans rfl⟩ (fun hHeld => ?_)
   clear hK K
   refine norm_ (a' := ?_) ?_ ?_
   rotate_left
   ·show Act.put _ (some 32) _ = _
    simp only [Act.put, List.setIfInBounds_toArray, List.set_cons_zero, List.set_cons_succ, i64_w, i32_w]
    rfl
   refine one_ (i := 11) (N := some 35) (ba 13 4095) rfl rfl (one_of HT_.out (by kernel_rfl)) (by decide) (fun K hK => ?_)
   refine goes_ Try.func66 (by kernel_rfl) rfl #[.slice Ao30 t341.length co30, .slice Ao31 t345.length co31, .int .i64 a3, .int .i64 a4] (by rfl) rfl rfl am ?_
   with_reducible refine (pochoirref19_level.calls kj6 _ _ t341 _ _ t345 a3 a4 t348 _ ?side1 ?side2 ?side3 ?side4 A23.out).mono ?_
   (case side1 => repeat (first | exact (Kd.R_reads' HO343.out).2.2 | (with_reducible refine Kd.C_alloc ?_ _) | (with_reducible refine Kd.C_drewN ?_ _) | (with_reducible refine Kd.C_drew ?_)))
   (case side2 => exact (Kd.R_reads' HO343.out).2.1)
   (case side3 => repeat (first | exact (Kd.R_reads' HO347.out).2.2 | (with_reducible refine Kd.C_alloc ?_ _) | (with_reducible refine Kd.C_drewN ?_ _) | (with_reducible refine Kd.C_drew ?_)))
   (case side4 => exact (Kd.R_reads' HO347.out).2.1)
   rintro e w32 ⟨rfl, hb⟩
   refine ⟨_, rfl, ?_⟩
   replace HO340 := Aside0.mk (Kd.R_below (by (with_reducible repeat (first | apply Kd.R_alloc | apply Kd.R_drewN | apply Kd.R_drew)); exact HO340.out) hb)
   replace HO343 := Aside0.mk (Kd.R_below (by (with_reducible repeat (first | apply Kd.R_alloc | apply Kd.R_drewN | apply Kd.R_drew)); exact HO343.out) hb)
   replace HO347 := Aside0.mk (Kd.R_below (by (with_reducible repeat (first | apply Kd.R_alloc | apply Kd.R_drewN | apply Kd.R_drew)); exact HO347.out) hb)
   replace BK334 := Aside0.mk (bb BK334.out hb)
   replace BK335 := Aside0.mk (bb BK335.out hb)
   replace BK336 := Aside0.mk (bb BK336.out hb)
   replace HB := Aside0.mk (below_step (bl3 HB.out GE334.out GE335.out GE336.out) hb)
   (try clear hb)
   (try clear hb2)
   (try clear hk)
   (try clear hi)
   refine hK.out _ _ ⟨(blk_cell BK335.out 0).trans rfl, (blk_cell BK335.out 1).trans rfl, (blk_cell BK336.out 0).trans rfl, (blk_cell BK336.out 1).trans rfl⟩ (fun hHeld => ?_)
   clear hK K
   refine norm_ (a' := ?_) ?_ ?_
   rotate_left
   ·show Act.put _ (some 35) _ = _
    simp only [Act.put, List.setIfInBounds_toArray, List.set_cons_zero, List.set_cons_succ, i64_w, i32_w]
    rfl
   refine pI 12 10 (ba 13 8191) HT_.out ?_
   refine done_ (done_of HT_.out (by kernel_rfl)) ?_
   try go_wp2
   go_ret
   exact ⟨by first | rfl | (simp [errW_none, errW_some] <;> rfl) | (simp [*, errW_none, errW_some] <;> rfl), bl3 HB.out GE334.out GE335.out GE336.out⟩

/-! ### pochoirref19_Segment: function 45 -/
def pochoirref19_Segment.j0 : Nat → Int → Int → Bool → Int → Int → Int → Int → Int → Int → Option (Int)
 | 0, _, _, _, _, _, _, _, _, _ => none
 | k + 1, x3, x4, x20, x350000, x350001, x351000, x351001, x352000, x352001 => if x20 = true then ((pochoirref19_Near.f k x350000 x350001 x351000 x351001 x3 x4).bind fun t353 => (some t353)) else ((pochoirref18_Dot.f x352000 x352001 x351000 x351001 x350000 x350001).bind fun t354 => (if t354 ≤ 0 then ((pochoirref19_Near.f k x350000 x350001 x352000 x352001 x3 x4).bind fun t355 => (some t355)) else ((pochoirref19_Beside.f k x350000 x350001 x351000 x351001 x352000 x352001 x3 x4).bind fun t356 => (some t356))))
def pochoirref19_Segment.f (k : Nat) (a0_0 : Int) (a0_1 : Int) (a1_0 : Int) (a1_1 : Int) (a2_0 : Int) (a2_1 : Int) (a3 : Int) (a4 : Int) : Option (Int) := if (a1_0 == a2_0 && (a1_1 == a2_1)) = true then (pochoirref19_Segment.j0 k a3 a4 true a0_0 a0_1 a1_0 a1_1 a2_0 a2_1) else ((pochoirref18_Dot.f a1_0 a1_1 a2_0 a2_1 a0_0 a0_1).bind fun t352 => (pochoirref19_Segment.j0 k a3 a4 (decide (t352 ≤ 0)) a0_0 a0_1 a1_0 a1_1 a2_0 a2_1))
theorem pochoirref19_Segment.mono_l : ∀ k, (∀ y0 y1 y2 y3 y4 y5 y6 y7 y8, LeO (pochoirref19_Segment.j0 k y0 y1 y2 y3 y4 y5 y6 y7 y8) (pochoirref19_Segment.j0 (k + 1) y0 y1 y2 y3 y4 y5 y6 y7 y8))
 | 0 => fun _ _ _ _ _ _ _ _ _ r h => by simp [pochoirref19_Segment.j0] at h
 | k + 1 => by
  have ih0 := pochoirref19_Segment.mono_l k
  ·intro y0 y1 y2 y3 y4 y5 y6 y7 y8
   unfold pochoirref19_Segment.j0
   repeat' first
   | (with_reducible exact ih0 _ _ _ _ _ _ _ _ _)
   | (with_reducible exact pochoirref19_Beside.mono _ _ _ _ _ _ _ _ _)
   | (with_reducible exact pochoirref19_Near.mono _ _ _ _ _ _ _)
   | (with_reducible exact LeO.refl _)
   | (with_reducible exact LeO.none _)
   | (with_reducible refine LeO.ite ?_ ?_)
   | (with_reducible refine LeO.bind ?_ (fun _ => ?_))
   | exact ih0 _ _ _ _ _ _ _ _ _
   | exact pochoirref19_Beside.mono _ _ _ _ _ _ _ _ _
   | exact pochoirref19_Near.mono _ _ _ _ _ _ _
   | exact LeO.none _
   | refine LeO.ite ?_ ?_
   | refine LeO.bind ?_ (fun _ => ?_)
theorem pochoirref19_Segment.mono : ∀ a0 a1 a2 a3 a4 a5 a6 a7 k, LeO (pochoirref19_Segment.f k a0 a1 a2 a3 a4 a5 a6 a7) (pochoirref19_Segment.f (k + 1) a0 a1 a2 a3 a4 a5 a6 a7) := by
 intro a0 a1 a2 a3 a4 a5 a6 a7 k
 have ih0 := pochoirref19_Segment.mono_l k
 unfold pochoirref19_Segment.f
 repeat' first
   | (with_reducible exact ih0 _ _ _ _ _ _ _ _ _)
   | (with_reducible exact pochoirref19_Beside.mono _ _ _ _ _ _ _ _ _)
   | (with_reducible exact pochoirref19_Near.mono _ _ _ _ _ _ _)
   | (with_reducible exact LeO.refl _)
   | (with_reducible exact LeO.none _)
   | (with_reducible refine LeO.ite ?_ ?_)
   | (with_reducible refine LeO.bind ?_ (fun _ => ?_))
   | exact ih0 _ _ _ _ _ _ _ _ _
   | exact pochoirref19_Beside.mono _ _ _ _ _ _ _ _ _
   | exact pochoirref19_Near.mono _ _ _ _ _ _ _
   | exact LeO.none _
   | refine LeO.ite ?_ ?_
   | refine LeO.bind ?_ (fun _ => ?_)
set_option maxHeartbeats 8000000 in
set_option maxRecDepth 100000 in
theorem pochoirref19_Segment.calls (k : Nat) (a0_0 : Int) (a0_1 : Int) (a1_0 : Int) (a1_1 : Int) (a2_0 : Int) (a2_1 : Int) (a3 : Int) (a4 : Int) (r : Int) (w : World) (h : pochoirref19_Segment.f k a0_0 a0_1 a1_0 a1_1 a2_0 a2_1 a3 a4 = some r) :
  Calls Try.prog 45 #[.agg #[.int .i64 a0_0, .int .i64 a0_1], .agg #[.int .i64 a1_0, .int .i64 a1_1], .agg #[.int .i64 a2_0, .int .i64 a2_1], .int .i64 a3, .int .i64 a4] w fun e w' => e = .returned (.int .i64 r) ∧ Below w.heap.size w w' := by
 have hu26 := Try.underlying26
 have HB := Aside0.mk (Below.refl w.heap.size w)
 have H : (if (a1_0 == a2_0 && (a1_1 == a2_1)) = true then (pochoirref19_Segment.j0 k a3 a4 true a0_0 a0_1 a1_0 a1_1 a2_0 a2_1) else ((pochoirref18_Dot.f a1_0 a1_1 a2_0 a2_1 a0_0 a0_1).bind fun t352 => (pochoirref19_Segment.j0 k a3 a4 (decide (t352 ≤ 0)) a0_0 a0_1 a1_0 a1_1 a2_0 a2_1))) = some r := h
 clear h
 have HC6 := Aside0.mk H
 clear H
 go_enter Try.func45, Try.ntmps45
 go_upto_region 1 with (first | ((with_reducible refine gate_dst (N := 5) rfl ?_); refine be 5 (#[.int .i64 a0_0, .int .i64 a0_1]) 26 ?_; intro gb349 hg w7 hbox hb; have BK349 := Aside0.mk (hbox); have GW349 := Aside0.mk ((by rw [hg]; exact (below_size (bl0 HB.out)) : w.heap.size ≤ gb349)); have GE349 := GW349; replace HB := Aside0.mk (below_step (bl0 HB.out) hb); clear hb hbox hg) | ((with_reducible refine gate_dst (N := 6) rfl ?_); refine be 6 (#[.int .i64 a1_0, .int .i64 a1_1]) 26 ?_; intro gb350 hg w8 hbox hb; have BK350 := Aside0.mk (hbox); have GW350 := Aside0.mk ((by rw [hg]; exact (below_size (bl1 HB.out GE349.out)) : w.heap.size ≤ gb350)); have GE350 := GW350; have NB349_350 := Aside0.mk ((by rw [hg]; exact Nat.ne_of_lt (lt_ BK349.out) : gb349 ≠ gb350)); have NB350_349 := Aside0.mk ((by rw [hg]; exact Nat.ne_of_gt (lt_ BK349.out) : gb350 ≠ gb349)); replace BK349 := Aside0.mk (bb BK349.out hb); replace HB := Aside0.mk (below_step (bl1 HB.out GE349.out) hb); clear hb hbox hg) | ((with_reducible refine gate_dst (N := 7) rfl ?_); refine be 7 (#[.int .i64 a2_0, .int .i64 a2_1]) 26 ?_; intro gb351 hg w9 hbox hb; have BK351 := Aside0.mk (hbox); have GW351 := Aside0.mk ((by rw [hg]; exact (below_size (bl2 HB.out GE349.out GE350.out)) : w.heap.size ≤ gb351)); have GE351 := GW351; have NB349_351 := Aside0.mk ((by rw [hg]; exact Nat.ne_of_lt (lt_ BK349.out) : gb349 ≠ gb351)); have NB351_349 := Aside0.mk ((by rw [hg]; exact Nat.ne_of_gt (lt_ BK349.out) : gb351 ≠ gb349)); have NB350_351 := Aside0.mk ((by rw [hg]; exact Nat.ne_of_lt (lt_ BK350.out) : gb350 ≠ gb351)); have NB351_350 := Aside0.mk ((by rw [hg]; exact Nat.ne_of_gt (lt_ BK350.out) : gb351 ≠ gb350)); replace BK349 := Aside0.mk (bb BK349.out hb); replace BK350 := Aside0.mk (bb BK350.out hb); replace HB := Aside0.mk (below_step (bl2 HB.out GE349.out GE350.out) hb); clear hb hbox hg))
 (try simp only [Act.put, List.setIfInBounds_toArray, List.set_cons_zero, List.set_cons_succ])
 go_cut [20] (fun v20 wc => ∃ (kq : Nat) (x20_5 : Bool), v20 = .bool x20_5 ∧ Aside0 (pochoirref19_Segment.j0 kq a3 a4 x20_5 a0_0 a0_1 a1_0 a1_1 a2_0 a2_1 = some r) ∧ Aside0 (kq ≤ k) ∧ Aside0 (wc.heap[gb349]? = some (.cells #[.int .i64 a0_0, .int .i64 a0_1] 26 (0, 0))) ∧ Aside0 (wc.heap[gb350]? = some (.cells #[.int .i64 a1_0, .int .i64 a1_1] 26 (0, 0))) ∧ Aside0 (wc.heap[gb351]? = some (.cells #[.int .i64 a2_0, .int .i64 a2_1] 26 (0, 0))) ∧ Aside0 (Below w.heap.size w wc))
 case first =>
  have H := HC6.out
  clear HC6
  by_cases c10 : (a1_0 == a2_0 && (a1_1 == a2_1)) = true
  ·rw [if_pos c10] at H
   have c10b0 : (a1_0 == a2_0 && (a1_1 == a2_1)) = true := c10
   (try (have c10b1 : decide (a1_0 = a2_0 && (a1_1 == a2_1)) = true := by simpa using c10))
   (try (have c10b2 : (a1_0 == a2_0 && (a1_1 == a2_1)) = true := by simpa using c10))
   clear c10
   (first | rw [c10b0] | (simp only [i64_w, i32_w]; rw [c10b0]) | rw [c10b1] | rw [c10b2] | skip)
   have H' := Aside0.mk H
   clear H
   have hnb11 := NB350_349.out
   have hnc11 := NB349_350.out
   have hnb12 := NB350_351.out
   have hnc12 := NB351_350.out
   have hcz13_0 : w9.cell? ⟨gb350, 0, none⟩ = some (.int .i64 a1_0) := (blk_cell BK350.out 0).trans rfl
   have hcz13_1 : w9.cell? ⟨gb350, 1, none⟩ = some (.int .i64 a1_1) := (blk_cell BK350.out 1).trans rfl
   have hfz13_0 := blk_frozen BK350.out 0
   have hfz13_1 := blk_frozen BK350.out 1
   have hnb14 := NB351_349.out
   have hnc14 := NB349_351.out
   have hcz15_0 : w9.cell? ⟨gb351, 0, none⟩ = some (.int .i64 a2_0) := (blk_cell BK351.out 0).trans rfl
   have hcz15_1 : w9.cell? ⟨gb351, 1, none⟩ = some (.int .i64 a2_1) := (blk_cell BK351.out 1).trans rfl
   have hfz15_0 := blk_frozen BK351.out 0
   have hfz15_1 := blk_frozen BK351.out 1
   go_wp2
   go_meet
   case rel => exact ⟨_, (true), fr, H', ⟨by first | omega | exact Nat.le_refl _⟩, ⟨bk BK349.out⟩, ⟨bk BK350.out⟩, ⟨bk BK351.out⟩, ⟨bl3 HB.out GE349.out GE350.out GE351.out⟩⟩
  ·rw [if_neg c10] at H
   have c10b0 : (a1_0 == a2_0 && (a1_1 == a2_1)) = false := by simpa using c10
   (try (have c10b1 : decide (a1_0 = a2_0 && (a1_1 == a2_1)) = false := by simpa using c10))
   (try (have c10b2 : (a1_0 == a2_0 && (a1_1 == a2_1)) = false := by simpa using c10))
   (try (have c10b3 : ¬ (a1_0 = a2_0 && (a1_1 == a2_1)) := by simpa using c10))
   clear c10
   (first | rw [c10b0] | (simp only [i64_w, i32_w]; rw [c10b0]) | rw [c10b1] | rw [c10b2] | rw [c10b3] | skip)
   replace H := Option.bind_eq_some_iff.mp H
   obtain ⟨t352, A160, H⟩ := H
   replace H : (pochoirref19_Segment.j0 k a3 a4 (decide (t352 ≤ 0)) a0_0 a0_1 a1_0 a1_1 a2_0 a2_1) = some r := H
   have A16 := Aside0.mk A160
   clear A160
   have H' := Aside0.mk H
   clear H
   have hnb17 := NB350_349.out
   have hnc17 := NB349_350.out
   have hnb18 := NB350_351.out
   have hnc18 := NB351_350.out
   have hcz19_0 : w9.cell? ⟨gb350, 0, none⟩ = some (.int .i64 a1_0) := (blk_cell BK350.out 0).trans rfl
   have hcz19_1 : w9.cell? ⟨gb350, 1, none⟩ = some (.int .i64 a1_1) := (blk_cell BK350.out 1).trans rfl
   have hfz19_0 := blk_frozen BK350.out 0
   have hfz19_1 := blk_frozen BK350.out 1
   have hnb20 := NB351_349.out
   have hnc20 := NB349_351.out
   have hcz21_0 : w9.cell? ⟨gb351, 0, none⟩ = some (.int .i64 a2_0) := (blk_cell BK351.out 0).trans rfl
   have hcz21_1 : w9.cell? ⟨gb351, 1, none⟩ = some (.int .i64 a2_1) := (blk_cell BK351.out 1).trans rfl
   have hfz21_0 := blk_frozen BK351.out 0
   have hfz21_1 := blk_frozen BK351.out 1
   have hcz22_0 : w9.cell? ⟨gb349, 0, none⟩ = some (.int .i64 a0_0) := (blk_cell BK349.out 0).trans rfl
   have hcz22_1 : w9.cell? ⟨gb349, 1, none⟩ = some (.int .i64 a0_1) := (blk_cell BK349.out 1).trans rfl
   have hfz22_0 := blk_frozen BK349.out 0
   have hfz22_1 := blk_frozen BK349.out 1
   go_wp2_with (first | (go_at_call 22; (with_reducible refine (pochoirref18_Dot.calls a1_0 a1_1 a2_0 a2_1 a0_0 a0_1 t352 _ A16.out).mono ?_); rintro e w23 ⟨rfl, hb⟩; replace BK349 := Aside0.mk (bb BK349.out hb); replace BK350 := Aside0.mk (bb BK350.out hb); replace BK351 := Aside0.mk (bb BK351.out hb); replace HB := Aside0.mk (below_step (bl3 HB.out GE349.out GE350.out GE351.out) hb); (try clear hb); (try clear hb2); (try clear hk); (try clear hi)))
   go_meet
   case rel => exact ⟨_, (decide (t352 ≤ 0)), fr, H', ⟨by first | omega | exact Nat.le_refl _⟩, ⟨bk BK349.out⟩, ⟨bk BK350.out⟩, ⟨bk BK351.out⟩, ⟨bl3 HB.out GE349.out GE350.out GE351.out⟩⟩
 case rest =>
  clear HC6
  try clear c1
  try clear c2
  try clear p2
  try clear c4
  try clear c10
  try clear c10b0
  try clear c10b1
  try clear c10b2
  try clear c11
  try clear c12
  try clear c14
  try clear c17
  try clear c18
  try clear c20
  try clear hcz13_0
  try clear hcz13_1
  try clear hcz15_0
  try clear hcz15_1
  try clear hcz19_0
  try clear hcz19_1
  try clear hcz21_0
  try clear hcz21_1
  try clear hcz22_0
  try clear hcz22_1
  try clear hfz13_0
  try clear hfz13_1
  try clear hfz15_0
  try clear hfz15_1
  try clear hfz19_0
  try clear hfz19_1
  try clear hfz21_0
  try clear hfz21_1
  try clear hfz22_0
  try clear hfz22_1
  obtain ⟨kq, x20_5, rfl, HA, HJ5, BK349, BK350, BK351, HB⟩ := hcut
  cases kq with
  | zero => exact absurd HA.out (by simp [pochoirref19_Segment.j0])
  | succ kj5 =>
   have H := HA.out
   clear HA
   simp only [pochoirref19_Segment.j0] at H
   by_cases c24 : x20_5 = true
   ·subst c24
    have H1 : ((pochoirref19_Near.f kj5 a0_0 a0_1 a1_0 a1_1 a3 a4).bind fun t353 => (some t353)) = some r := by rw [if_pos rfl] at H; exact H
    clear H
    have H := H1
    clear H1
    replace H := Option.bind_eq_some_iff.mp H
    obtain ⟨t353, A250, H⟩ := H
    replace H : (some t353) = some r := H
    have A25 := Aside0.mk A250
    clear A250
    obtain rfl := Option.some.inj H
    have hnb26 := NB349_350.out
    have hnc26 := NB350_349.out
    have hnb27 := NB349_351.out
    have hnc27 := NB351_349.out
    have hcz28_0 : wc.cell? ⟨gb349, 0, none⟩ = some (.int .i64 a0_0) := (blk_cell BK349.out 0).trans rfl
    have hcz28_1 : wc.cell? ⟨gb349, 1, none⟩ = some (.int .i64 a0_1) := (blk_cell BK349.out 1).trans rfl
    have hfz28_0 := blk_frozen BK349.out 0
    have hfz28_1 := blk_frozen BK349.out 1
    have hnb29 := NB350_351.out
    have hnc29 := NB351_350.out
    have hcz30_0 : wc.cell? ⟨gb350, 0, none⟩ = some (.int .i64 a1_0) := (blk_cell BK350.out 0).trans rfl
    have hcz30_1 : wc.cell? ⟨gb350, 1, none⟩ = some (.int .i64 a1_1) := (blk_cell BK350.out 1).trans rfl
    have hfz30_0 := blk_frozen BK350.out 0
    have hfz30_1 := blk_frozen BK350.out 1
    go_wp2_with (first | ((with_reducible refine gate_callee (f := 44) rfl ?_); refine goesL_ (some 25) rfl rfl Try.func44 (by kernel_rfl) rfl #[.agg #[.int .i64 a0_0, .int .i64 a0_1], .agg #[.int .i64 a1_0, .int .i64 a1_1], .int .i64 a3, .int .i64 a4] rfl am ?_; (with_reducible refine (pochoirref19_Near.calls kj5 a0_0 a0_1 a1_0 a1_1 a3 a4 t353 _ A25.out).mono ?_); rintro e w31 ⟨rfl, hb⟩; refine ⟨_, rfl, ?_⟩; replace BK349 := Aside0.mk (bb BK349.out hb); replace BK350 := Aside0.mk (bb BK350.out hb); replace BK351 := Aside0.mk (bb BK351.out hb); replace HB := Aside0.mk (below_step (bl3 HB.out GE349.out GE350.out GE351.out) hb); (try clear hb); (try clear hb2); (try clear hk); (try clear hi)))
    go_ret
    exact ⟨by first | rfl | (simp [errW_none, errW_some] <;> rfl) | (simp [*, errW_none, errW_some] <;> rfl), bl3 HB.out GE349.out GE350.out GE351.out⟩
   ·replace c24 := Bool.eq_false_iff.mpr c24
    subst c24
    have H1 : ((pochoirref18_Dot.f a2_0 a2_1 a1_0 a1_1 a0_0 a0_1).bind fun t354 => (if t354 ≤ 0 then ((pochoirref19_Near.f kj5 a0_0 a0_1 a2_0 a2_1 a3 a4).bind fun t355 => (some t355)) else ((pochoirref19_Beside.f kj5 a0_0 a0_1 a1_0 a1_1 a2_0 a2_1 a3 a4).bind fun t356 => (some t356)))) = some r := by rw [if_neg (show ¬ (false = true) by decide)] at H; exact H
    clear H
    have H := H1
    clear H1
    replace H := Option.bind_eq_some_iff.mp H
    obtain ⟨t354, A320, H⟩ := H
    replace H : (if t354 ≤ 0 then ((pochoirref19_Near.f kj5 a0_0 a0_1 a2_0 a2_1 a3 a4).bind fun t355 => (some t355)) else ((pochoirref19_Beside.f kj5 a0_0 a0_1 a1_0 a1_1 a2_0 a2_1 a3 a4).bind fun t356 => (some t356))) = some r := H
    have A32 := Aside0.mk A320
    clear A320
    by_cases c33 : t354 ≤ 0
    ·rw [if_pos c33] at H
     have c33b0 : decide (t354 ≤ 0) = true := decide_eq_true c33
     clear c33
     replace H := Option.bind_eq_some_iff.mp H
     obtain ⟨t355, A340, H⟩ := H
     replace H : (some t355) = some r := H
     have A34 := Aside0.mk A340
     clear A340
     obtain rfl := Option.some.inj H
     have hnb35 := NB351_349.out
     have hnc35 := NB349_351.out
     have hnb36 := NB351_350.out
     have hnc36 := NB350_351.out
     have hcz37_0 : wc.cell? ⟨gb351, 0, none⟩ = some (.int .i64 a2_0) := (blk_cell BK351.out 0).trans rfl
     have hcz37_1 : wc.cell? ⟨gb351, 1, none⟩ = some (.int .i64 a2_1) := (blk_cell BK351.out 1).trans rfl
     have hfz37_0 := blk_frozen BK351.out 0
     have hfz37_1 := blk_frozen BK351.out 1
     have hnb38 := NB350_349.out
     have hnc38 := NB349_350.out
     have hcz39_0 : wc.cell? ⟨gb350, 0, none⟩ = some (.int .i64 a1_0) := (blk_cell BK350.out 0).trans rfl
     have hcz39_1 : wc.cell? ⟨gb350, 1, none⟩ = some (.int .i64 a1_1) := (blk_cell BK350.out 1).trans rfl
     have hfz39_0 := blk_frozen BK350.out 0
     have hfz39_1 := blk_frozen BK350.out 1
     have hcz40_0 : wc.cell? ⟨gb349, 0, none⟩ = some (.int .i64 a0_0) := (blk_cell BK349.out 0).trans rfl
     have hcz40_1 : wc.cell? ⟨gb349, 1, none⟩ = some (.int .i64 a0_1) := (blk_cell BK349.out 1).trans rfl
     have hfz40_0 := blk_frozen BK349.out 0
     have hfz40_1 := blk_frozen BK349.out 1
     go_wp2_with (first | ((with_reducible refine gate_callee (f := 22) rfl ?_); refine goesL_ (some 29) rfl rfl Try.func22 (by kernel_rfl) rfl #[.agg #[.int .i64 a2_0, .int .i64 a2_1], .agg #[.int .i64 a1_0, .int .i64 a1_1], .agg #[.int .i64 a0_0, .int .i64 a0_1]] rfl am ?_; (with_reducible refine (pochoirref18_Dot.calls a2_0 a2_1 a1_0 a1_1 a0_0 a0_1 t354 _ A32.out).mono ?_); rintro e w41 ⟨rfl, hb⟩; refine ⟨_, rfl, ?_⟩; replace BK349 := Aside0.mk (bb BK349.out hb); replace BK350 := Aside0.mk (bb BK350.out hb); replace BK351 := Aside0.mk (bb BK351.out hb); replace HB := Aside0.mk (below_step (bl3 HB.out GE349.out GE350.out GE351.out) hb); (try clear hb); (try clear hb2); (try clear hk); (try clear hi); have hcz42_0 : w41.cell? ⟨gb349, 0, none⟩ = some (.int .i64 a0_0) := (blk_cell BK349.out 0).trans rfl; have hcz42_1 : w41.cell? ⟨gb349, 1, none⟩ = some (.int .i64 a0_1) := (blk_cell BK349.out 1).trans rfl; have hfz42_0 := blk_frozen BK349.out 0; have hfz42_1 := blk_frozen BK349.out 1; have hcz43_0 : w41.cell? ⟨gb351, 0, none⟩ = some (.int .i64 a2_0) := (blk_cell BK351.out 0).trans rfl; have hcz43_1 : w41.cell? ⟨gb351, 1, none⟩ = some (.int .i64 a2_1) := (blk_cell BK351.out 1).trans rfl; have hfz43_0 := blk_frozen BK351.out 0; have hfz43_1 := blk_frozen BK351.out 1) | ((with_reducible refine gate_callee (f := 44) rfl ?_); refine goesL_ (some 35) rfl rfl Try.func44 (by kernel_rfl) rfl #[.agg #[.int .i64 a0_0, .int .i64 a0_1], .agg #[.int .i64 a2_0, .int .i64 a2_1], .int .i64 a3, .int .i64 a4] rfl am ?_; (with_reducible refine (pochoirref19_Near.calls kj5 a0_0 a0_1 a2_0 a2_1 a3 a4 t355 _ A34.out).mono ?_); rintro e w44 ⟨rfl, hb⟩; refine ⟨_, rfl, ?_⟩; replace BK349 := Aside0.mk (bb BK349.out hb); replace BK350 := Aside0.mk (bb BK350.out hb); replace BK351 := Aside0.mk (bb BK351.out hb); replace HB := Aside0.mk (below_step (bl3 HB.out GE349.out GE350.out GE351.out) hb); (try clear hb); (try clear hb2); (try clear hk); (try clear hi)))
     go_ret
     exact ⟨by first | rfl | (simp [errW_none, errW_some] <;> rfl) | (simp [*, errW_none, errW_some] <;> rfl), bl3 HB.out GE349.out GE350.out GE351.out⟩
    ·rw [if_neg c33] at H
     have c33b0 : decide (t354 ≤ 0) = false := decide_eq_false c33
     clear c33
     replace H := Option.bind_eq_some_iff.mp H
     obtain ⟨t356, A450, H⟩ := H
     replace H : (some t356) = some r := H
     have A45 := Aside0.mk A450
     clear A450
     obtain rfl := Option.some.inj H
     have hnb46 := NB351_349.out
     have hnc46 := NB349_351.out
     have hnb47 := NB351_350.out
     have hnc47 := NB350_351.out
     have hcz48_0 : wc.cell? ⟨gb351, 0, none⟩ = some (.int .i64 a2_0) := (blk_cell BK351.out 0).trans rfl
     have hcz48_1 : wc.cell? ⟨gb351, 1, none⟩ = some (.int .i64 a2_1) := (blk_cell BK351.out 1).trans rfl
     have hfz48_0 := blk_frozen BK351.out 0
     have hfz48_1 := blk_frozen BK351.out 1
     have hnb49 := NB350_349.out
     have hnc49 := NB349_350.out
     have hcz50_0 : wc.cell? ⟨gb350, 0, none⟩ = some (.int .i64 a1_0) := (blk_cell BK350.out 0).trans rfl
     have hcz50_1 : wc.cell? ⟨gb350, 1, none⟩ = some (.int .i64 a1_1) := (blk_cell BK350.out 1).trans rfl
     have hfz50_0 := blk_frozen BK350.out 0
     have hfz50_1 := blk_frozen BK350.out 1
     have hcz51_0 : wc.cell? ⟨gb349, 0, none⟩ = some (.int .i64 a0_0) := (blk_cell BK349.out 0).trans rfl
     have hcz51_1 : wc.cell? ⟨gb349, 1, none⟩ = some (.int .i64 a0_1) := (blk_cell BK349.out 1).trans rfl
     have hfz51_0 := blk_frozen BK349.out 0
     have hfz51_1 := blk_frozen BK349.out 1
     go_wp2_with (first | ((with_reducible refine gate_callee (f := 22) rfl ?_); refine goesL_ (some 29) rfl rfl Try.func22 (by kernel_rfl) rfl #[.agg #[.int .i64 a2_0, .int .i64 a2_1], .agg #[.int .i64 a1_0, .int .i64 a1_1], .agg #[.int .i64 a0_0, .int .i64 a0_1]] rfl am ?_; (with_reducible refine (pochoirref18_Dot.calls a2_0 a2_1 a1_0 a1_1 a0_0 a0_1 t354 _ A32.out).mono ?_); rintro e w52 ⟨rfl, hb⟩; refine ⟨_, rfl, ?_⟩; replace BK349 := Aside0.mk (bb BK349.out hb); replace BK350 := Aside0.mk (bb BK350.out hb); replace BK351 := Aside0.mk (bb BK351.out hb); replace HB := Aside0.mk (below_step (bl3 HB.out GE349.out GE350.out GE351.out) hb); (try clear hb); (try clear hb2); (try clear hk); (try clear hi); have hcz53_0 : w52.cell? ⟨gb349, 0, none⟩ = some (.int .i64 a0_0) := (blk_cell BK349.out 0).trans rfl; have hcz53_1 : w52.cell? ⟨gb349, 1, none⟩ = some (.int .i64 a0_1) := (blk_cell BK349.out 1).trans rfl; have hfz53_0 := blk_frozen BK349.out 0; have hfz53_1 := blk_frozen BK349.out 1; have hcz54_0 : w52.cell? ⟨gb350, 0, none⟩ = some (.int .i64 a1_0) := (blk_cell BK350.out 0).trans rfl; have hcz54_1 : w52.cell? ⟨gb350, 1, none⟩ = some (.int .i64 a1_1) := (blk_cell BK350.out 1).trans rfl; have hfz54_0 := blk_frozen BK350.out 0; have hfz54_1 := blk_frozen BK350.out 1; have hcz55_0 : w52.cell? ⟨gb351, 0, none⟩ = some (.int .i64 a2_0) := (blk_cell BK351.out 0).trans rfl; have hcz55_1 : w52.cell? ⟨gb351, 1, none⟩ = some (.int .i64 a2_1) := (blk_cell BK351.out 1).trans rfl; have hfz55_0 := blk_frozen BK351.out 0; have hfz55_1 := blk_frozen BK351.out 1) | ((with_reducible refine gate_callee (f := 72) rfl ?_); refine goesL_ (some 41) rfl rfl Try.func72 (by kernel_rfl) rfl #[.agg #[.int .i64 a0_0, .int .i64 a0_1], .agg #[.int .i64 a1_0, .int .i64 a1_1], .agg #[.int .i64 a2_0, .int .i64 a2_1], .int .i64 a3, .int .i64 a4] rfl am ?_; (with_reducible refine (pochoirref19_Beside.calls kj5 a0_0 a0_1 a1_0 a1_1 a2_0 a2_1 a3 a4 t356 _ A45.out).mono ?_); rintro e w56 ⟨rfl, hb⟩; refine ⟨_, rfl, ?_⟩; replace BK349 := Aside0.mk (bb BK349.out hb); replace BK350 := Aside0.mk (bb BK350.out hb); replace BK351 := Aside0.mk (bb BK351.out hb); replace HB := Aside0.mk (below_step (bl3 HB.out GE349.out GE350.out GE351.out) hb); (try clear hb); (try clear hb2); (try clear hk); (try clear hi)))
     go_ret
     exact ⟨by first | rfl | (simp [errW_none, errW_some] <;> rfl) | (simp [*, errW_none, errW_some] <;> rfl), bl3 HB.out GE349.out GE350.out GE351.out⟩

/-! ### pochoirref19_Ray: function 46 -/
def pochoirref19_Ray.j0 : Nat → Int → Int → Bool → Int → Int → Int → Int → Int → Int → Option (Int)
 | 0, _, _, _, _, _, _, _, _, _ => none
 | k + 1, x3, x4, x20, x358000, x358001, x359000, x359001, x360000, x360001 => if x20 = true then ((pochoirref19_Near.f k x358000 x358001 x359000 x359001 x3 x4).bind fun t361 => (some t361)) else ((pochoirref19_Beside.f k x358000 x358001 x359000 x359001 x360000 x360001 x3 x4).bind fun t362 => (some t362))
def pochoirref19_Ray.f (k : Nat) (a0_0 : Int) (a0_1 : Int) (a1_0 : Int) (a1_1 : Int) (a2_0 : Int) (a2_1 : Int) (a3 : Int) (a4 : Int) : Option (Int) := if (a1_0 == a2_0 && (a1_1 == a2_1)) = true then (pochoirref19_Ray.j0 k a3 a4 true a0_0 a0_1 a1_0 a1_1 a2_0 a2_1) else ((pochoirref18_Dot.f a1_0 a1_1 a2_0 a2_1 a0_0 a0_1).bind fun t360 => (pochoirref19_Ray.j0 k a3 a4 (decide (t360 ≤ 0)) a0_0 a0_1 a1_0 a1_1 a2_0 a2_1))
theorem pochoirref19_Ray.mono_l : ∀ k, (∀ y0 y1 y2 y3 y4 y5 y6 y7 y8, LeO (pochoirref19_Ray.j0 k y0 y1 y2 y3 y4 y5 y6 y7 y8) (pochoirref19_Ray.j0 (k + 1) y0 y1 y2 y3 y4 y5 y6 y7 y8))
 | 0 => fun _ _ _ _ _ _ _ _ _ r h => by simp [pochoirref19_Ray.j0] at h
 | k + 1 => by
  have ih0 := pochoirref19_Ray.mono_l k
  ·intro y0 y1 y2 y3 y4 y5 y6 y7 y8
   unfold pochoirref19_Ray.j0
   repeat' first
   | (with_reducible exact ih0 _ _ _ _ _ _ _ _ _)
   | (with_reducible exact pochoirref19_Beside.mono _ _ _ _ _ _ _ _ _)
   | (with_reducible exact pochoirref19_Near.mono _ _ _ _ _ _ _)
   | (with_reducible exact LeO.refl _)
   | (with_reducible exact LeO.none _)
   | (with_reducible refine LeO.ite ?_ ?_)
   | (with_reducible refine LeO.bind ?_ (fun _ => ?_))
   | exact ih0 _ _ _ _ _ _ _ _ _
   | exact pochoirref19_Beside.mono _ _ _ _ _ _ _ _ _
   | exact pochoirref19_Near.mono _ _ _ _ _ _ _
   | exact LeO.none _
   | refine LeO.ite ?_ ?_
   | refine LeO.bind ?_ (fun _ => ?_)
theorem pochoirref19_Ray.mono : ∀ a0 a1 a2 a3 a4 a5 a6 a7 k, LeO (pochoirref19_Ray.f k a0 a1 a2 a3 a4 a5 a6 a7) (pochoirref19_Ray.f (k + 1) a0 a1 a2 a3 a4 a5 a6 a7) := by
 intro a0 a1 a2 a3 a4 a5 a6 a7 k
 have ih0 := pochoirref19_Ray.mono_l k
 unfold pochoirref19_Ray.f
 repeat' first
   | (with_reducible exact ih0 _ _ _ _ _ _ _ _ _)
   | (with_reducible exact pochoirref19_Beside.mono _ _ _ _ _ _ _ _ _)
   | (with_reducible exact pochoirref19_Near.mono _ _ _ _ _ _ _)
   | (with_reducible exact LeO.refl _)
   | (with_reducible exact LeO.none _)
   | (with_reducible refine LeO.ite ?_ ?_)
   | (with_reducible refine LeO.bind ?_ (fun _ => ?_))
   | exact ih0 _ _ _ _ _ _ _ _ _
   | exact pochoirref19_Beside.mono _ _ _ _ _ _ _ _ _
   | exact pochoirref19_Near.mono _ _ _ _ _ _ _
   | exact LeO.none _
   | refine LeO.ite ?_ ?_
   | refine LeO.bind ?_ (fun _ => ?_)
set_option maxHeartbeats 8000000 in
set_option maxRecDepth 100000 in
theorem pochoirref19_Ray.calls (k : Nat) (a0_0 : Int) (a0_1 : Int) (a1_0 : Int) (a1_1 : Int) (a2_0 : Int) (a2_1 : Int) (a3 : Int) (a4 : Int) (r : Int) (w : World) (h : pochoirref19_Ray.f k a0_0 a0_1 a1_0 a1_1 a2_0 a2_1 a3 a4 = some r) :
  Calls Try.prog 46 #[.agg #[.int .i64 a0_0, .int .i64 a0_1], .agg #[.int .i64 a1_0, .int .i64 a1_1], .agg #[.int .i64 a2_0, .int .i64 a2_1], .int .i64 a3, .int .i64 a4] w fun e w' => e = .returned (.int .i64 r) ∧ Below w.heap.size w w' := by
 have hu26 := Try.underlying26
 have HB := Aside0.mk (Below.refl w.heap.size w)
 have H : (if (a1_0 == a2_0 && (a1_1 == a2_1)) = true then (pochoirref19_Ray.j0 k a3 a4 true a0_0 a0_1 a1_0 a1_1 a2_0 a2_1) else ((pochoirref18_Dot.f a1_0 a1_1 a2_0 a2_1 a0_0 a0_1).bind fun t360 => (pochoirref19_Ray.j0 k a3 a4 (decide (t360 ≤ 0)) a0_0 a0_1 a1_0 a1_1 a2_0 a2_1))) = some r := h
 clear h
 have HC6 := Aside0.mk H
 clear H
 go_enter Try.func46, Try.ntmps46
 go_upto_region 1 with (first | ((with_reducible refine gate_dst (N := 5) rfl ?_); refine be 5 (#[.int .i64 a0_0, .int .i64 a0_1]) 26 ?_; intro gb357 hg w7 hbox hb; have BK357 := Aside0.mk (hbox); have GW357 := Aside0.mk ((by rw [hg]; exact (below_size (bl0 HB.out)) : w.heap.size ≤ gb357)); have GE357 := GW357; replace HB := Aside0.mk (below_step (bl0 HB.out) hb); clear hb hbox hg) | ((with_reducible refine gate_dst (N := 6) rfl ?_); refine be 6 (#[.int .i64 a1_0, .int .i64 a1_1]) 26 ?_; intro gb358 hg w8 hbox hb; have BK358 := Aside0.mk (hbox); have GW358 := Aside0.mk ((by rw [hg]; exact (below_size (bl1 HB.out GE357.out)) : w.heap.size ≤ gb358)); have GE358 := GW358; have NB357_358 := Aside0.mk ((by rw [hg]; exact Nat.ne_of_lt (lt_ BK357.out) : gb357 ≠ gb358)); have NB358_357 := Aside0.mk ((by rw [hg]; exact Nat.ne_of_gt (lt_ BK357.out) : gb358 ≠ gb357)); replace BK357 := Aside0.mk (bb BK357.out hb); replace HB := Aside0.mk (below_step (bl1 HB.out GE357.out) hb); clear hb hbox hg) | ((with_reducible refine gate_dst (N := 7) rfl ?_); refine be 7 (#[.int .i64 a2_0, .int .i64 a2_1]) 26 ?_; intro gb359 hg w9 hbox hb; have BK359 := Aside0.mk (hbox); have GW359 := Aside0.mk ((by rw [hg]; exact (below_size (bl2 HB.out GE357.out GE358.out)) : w.heap.size ≤ gb359)); have GE359 := GW359; have NB357_359 := Aside0.mk ((by rw [hg]; exact Nat.ne_of_lt (lt_ BK357.out) : gb357 ≠ gb359)); have NB359_357 := Aside0.mk ((by rw [hg]; exact Nat.ne_of_gt (lt_ BK357.out) : gb359 ≠ gb357)); have NB358_359 := Aside0.mk ((by rw [hg]; exact Nat.ne_of_lt (lt_ BK358.out) : gb358 ≠ gb359)); have NB359_358 := Aside0.mk ((by rw [hg]; exact Nat.ne_of_gt (lt_ BK358.out) : gb359 ≠ gb358)); replace BK357 := Aside0.mk (bb BK357.out hb); replace BK358 := Aside0.mk (bb BK358.out hb); replace HB := Aside0.mk (below_step (bl2 HB.out GE357.out GE358.out) hb); clear hb hbox hg))
 (try simp only [Act.put, List.setIfInBounds_toArray, List.set_cons_zero, List.set_cons_succ])
 go_cut [20] (fun v20 wc => ∃ (kq : Nat) (x20_5 : Bool), v20 = .bool x20_5 ∧ Aside0 (pochoirref19_Ray.j0 kq a3 a4 x20_5 a0_0 a0_1 a1_0 a1_1 a2_0 a2_1 = some r) ∧ Aside0 (kq ≤ k) ∧ Aside0 (wc.heap[gb357]? = some (.cells #[.int .i64 a0_0, .int .i64 a0_1] 26 (0, 0))) ∧ Aside0 (wc.heap[gb358]? = some (.cells #[.int .i64 a1_0, .int .i64 a1_1] 26 (0, 0))) ∧ Aside0 (wc.heap[gb359]? = some (.cells #[.int .i64 a2_0, .int .i64 a2_1] 26 (0, 0))) ∧ Aside0 (Below w.heap.size w wc))
 case first =>
  have H := HC6.out
  clear HC6
  by_cases c10 : (a1_0 == a2_0 && (a1_1 == a2_1)) = true
  ·rw [if_pos c10] at H
   have c10b0 : (a1_0 == a2_0 && (a1_1 == a2_1)) = true := c10
   (try (have c10b1 : decide (a1_0 = a2_0 && (a1_1 == a2_1)) = true := by simpa using c10))
   (try (have c10b2 : (a1_0 == a2_0 && (a1_1 == a2_1)) = true := by simpa using c10))
   clear c10
   (first | rw [c10b0] | (simp only [i64_w, i32_w]; rw [c10b0]) | rw [c10b1] | rw [c10b2] | skip)
   have H' := Aside0.mk H
   clear H
   have hnb11 := NB358_357.out
   have hnc11 := NB357_358.out
   have hnb12 := NB358_359.out
   have hnc12 := NB359_358.out
   have hcz13_0 : w9.cell? ⟨gb358, 0, none⟩ = some (.int .i64 a1_0) := (blk_cell BK358.out 0).trans rfl
   have hcz13_1 : w9.cell? ⟨gb358, 1, none⟩ = some (.int .i64 a1_1) := (blk_cell BK358.out 1).trans rfl
   have hfz13_0 := blk_frozen BK358.out 0
   have hfz13_1 := blk_frozen BK358.out 1
   have hnb14 := NB359_357.out
   have hnc14 := NB357_359.out
   have hcz15_0 : w9.cell? ⟨gb359, 0, none⟩ = some (.int .i64 a2_0) := (blk_cell BK359.out 0).trans rfl
   have hcz15_1 : w9.cell? ⟨gb359, 1, none⟩ = some (.int .i64 a2_1) := (blk_cell BK359.out 1).trans rfl
   have hfz15_0 := blk_frozen BK359.out 0
   have hfz15_1 := blk_frozen BK359.out 1
   go_wp2
   go_meet
   case rel => exact ⟨_, (true), fr, H', ⟨by first | omega | exact Nat.le_refl _⟩, ⟨bk BK357.out⟩, ⟨bk BK358.out⟩, ⟨bk BK359.out⟩, ⟨bl3 HB.out GE357.out GE358.out GE359.out⟩⟩
  ·rw [if_neg c10] at H
   have c10b0 : (a1_0 == a2_0 && (a1_1 == a2_1)) = false := by simpa using c10
   (try (have c10b1 : decide (a1_0 = a2_0 && (a1_1 == a2_1)) = false := by simpa using c10))
   (try (have c10b2 : (a1_0 == a2_0 && (a1_1 == a2_1)) = false := by simpa using c10))
   (try (have c10b3 : ¬ (a1_0 = a2_0 && (a1_1 == a2_1)) := by simpa using c10))
   clear c10
   (first | rw [c10b0] | (simp only [i64_w, i32_w]; rw [c10b0]) | rw [c10b1] | rw [c10b2] | rw [c10b3] | skip)
   replace H := Option.bind_eq_some_iff.mp H
   obtain ⟨t360, A160, H⟩ := H
   replace H : (pochoirref19_Ray.j0 k a3 a4 (decide (t360 ≤ 0)) a0_0 a0_1 a1_0 a1_1 a2_0 a2_1) = some r := H
   have A16 := Aside0.mk A160
   clear A160
   have H' := Aside0.mk H
   clear H
   have hnb17 := NB358_357.out
   have hnc17 := NB357_358.out
   have hnb18 := NB358_359.out
   have hnc18 := NB359_358.out
   have hcz19_0 : w9.cell? ⟨gb358, 0, none⟩ = some (.int .i64 a1_0) := (blk_cell BK358.out 0).trans rfl
   have hcz19_1 : w9.cell? ⟨gb358, 1, none⟩ = some (.int .i64 a1_1) := (blk_cell BK358.out 1).trans rfl
   have hfz19_0 := blk_frozen BK358.out 0
   have hfz19_1 := blk_frozen BK358.out 1
   have hnb20 := NB359_357.out
   have hnc20 := NB357_359.out
   have hcz21_0 : w9.cell? ⟨gb359, 0, none⟩ = some (.int .i64 a2_0) := (blk_cell BK359.out 0).trans rfl
   have hcz21_1 : w9.cell? ⟨gb359, 1, none⟩ = some (.int .i64 a2_1) := (blk_cell BK359.out 1).trans rfl
   have hfz21_0 := blk_frozen BK359.out 0
   have hfz21_1 := blk_frozen BK359.out 1
   have hcz22_0 : w9.cell? ⟨gb357, 0, none⟩ = some (.int .i64 a0_0) := (blk_cell BK357.out 0).trans rfl
   have hcz22_1 : w9.cell? ⟨gb357, 1, none⟩ = some (.int .i64 a0_1) := (blk_cell BK357.out 1).trans rfl
   have hfz22_0 := blk_frozen BK357.out 0
   have hfz22_1 := blk_frozen BK357.out 1
   go_wp2_with (first | (go_at_call 22; (with_reducible refine (pochoirref18_Dot.calls a1_0 a1_1 a2_0 a2_1 a0_0 a0_1 t360 _ A16.out).mono ?_); rintro e w23 ⟨rfl, hb⟩; replace BK357 := Aside0.mk (bb BK357.out hb); replace BK358 := Aside0.mk (bb BK358.out hb); replace BK359 := Aside0.mk (bb BK359.out hb); replace HB := Aside0.mk (below_step (bl3 HB.out GE357.out GE358.out GE359.out) hb); (try clear hb); (try clear hb2); (try clear hk); (try clear hi)))
   go_meet
   case rel => exact ⟨_, (decide (t360 ≤ 0)), fr, H', ⟨by first | omega | exact Nat.le_refl _⟩, ⟨bk BK357.out⟩, ⟨bk BK358.out⟩, ⟨bk BK359.out⟩, ⟨bl3 HB.out GE357.out GE358.out GE359.out⟩⟩
 case rest =>
  clear HC6
  try clear c1
  try clear c2
  try clear p2
  try clear c4
  try clear c10
  try clear c10b0
  try clear c10b1
  try clear c10b2
  try clear c11
  try clear c12
  try clear c14
  try clear c17
  try clear c18
  try clear c20
  try clear hcz13_0
  try clear hcz13_1
  try clear hcz15_0
  try clear hcz15_1
  try clear hcz19_0
  try clear hcz19_1
  try clear hcz21_0
  try clear hcz21_1
  try clear hcz22_0
  try clear hcz22_1
  try clear hfz13_0
  try clear hfz13_1
  try clear hfz15_0
  try clear hfz15_1
  try clear hfz19_0
  try clear hfz19_1
  try clear hfz21_0
  try clear hfz21_1
  try clear hfz22_0
  try clear hfz22_1
  obtain ⟨kq, x20_5, rfl, HA, HJ5, BK357, BK358, BK359, HB⟩ := hcut
  cases kq with
  | zero => exact absurd HA.out (by simp [pochoirref19_Ray.j0])
  | succ kj5 =>
   have H := HA.out
   clear HA
   simp only [pochoirref19_Ray.j0] at H
   by_cases c24 : x20_5 = true
   ·subst c24
    have H1 : ((pochoirref19_Near.f kj5 a0_0 a0_1 a1_0 a1_1 a3 a4).bind fun t361 => (some t361)) = some r := by rw [if_pos rfl] at H; exact H
    clear H
    have H := H1
    clear H1
    replace H := Option.bind_eq_some_iff.mp H
    obtain ⟨t361, A250, H⟩ := H
    replace H : (some t361) = some r := H
    have A25 := Aside0.mk A250
    clear A250
    obtain rfl := Option.some.inj H
    have hnb26 := NB357_358.out
    have hnc26 := NB358_357.out
    have hnb27 := NB357_359.out
    have hnc27 := NB359_357.out
    have hcz28_0 : wc.cell? ⟨gb357, 0, none⟩ = some (.int .i64 a0_0) := (blk_cell BK357.out 0).trans rfl
    have hcz28_1 : wc.cell? ⟨gb357, 1, none⟩ = some (.int .i64 a0_1) := (blk_cell BK357.out 1).trans rfl
    have hfz28_0 := blk_frozen BK357.out 0
    have hfz28_1 := blk_frozen BK357.out 1
    have hnb29 := NB358_359.out
    have hnc29 := NB359_358.out
    have hcz30_0 : wc.cell? ⟨gb358, 0, none⟩ = some (.int .i64 a1_0) := (blk_cell BK358.out 0).trans rfl
    have hcz30_1 : wc.cell? ⟨gb358, 1, none⟩ = some (.int .i64 a1_1) := (blk_cell BK358.out 1).trans rfl
    have hfz30_0 := blk_frozen BK358.out 0
    have hfz30_1 := blk_frozen BK358.out 1
    go_wp2_with (first | ((with_reducible refine gate_callee (f := 44) rfl ?_); refine goesL_ (some 25) rfl rfl Try.func44 (by kernel_rfl) rfl #[.agg #[.int .i64 a0_0, .int .i64 a0_1], .agg #[.int .i64 a1_0, .int .i64 a1_1], .int .i64 a3, .int .i64 a4] rfl am ?_; (with_reducible refine (pochoirref19_Near.calls kj5 a0_0 a0_1 a1_0 a1_1 a3 a4 t361 _ A25.out).mono ?_); rintro e w31 ⟨rfl, hb⟩; refine ⟨_, rfl, ?_⟩; replace BK357 := Aside0.mk (bb BK357.out hb); replace BK358 := Aside0.mk (bb BK358.out hb); replace BK359 := Aside0.mk (bb BK359.out hb); replace HB := Aside0.mk (below_step (bl3 HB.out GE357.out GE358.out GE359.out) hb); (try clear hb); (try clear hb2); (try clear hk); (try clear hi)))
    go_ret
    exact ⟨by first | rfl | (simp [errW_none, errW_some] <;> rfl) | (simp [*, errW_none, errW_some] <;> rfl), bl3 HB.out GE357.out GE358.out GE359.out⟩
   ·replace c24 := Bool.eq_false_iff.mpr c24
    subst c24
    have H1 : ((pochoirref19_Beside.f kj5 a0_0 a0_1 a1_0 a1_1 a2_0 a2_1 a3 a4).bind fun t362 => (some t362)) = some r := by rw [if_neg (show ¬ (false = true) by decide)] at H; exact H
    clear H
    have H := H1
    clear H1
    replace H := Option.bind_eq_some_iff.mp H
    obtain ⟨t362, A320, H⟩ := H
    replace H : (some t362) = some r := H
    have A32 := Aside0.mk A320
    clear A320
    obtain rfl := Option.some.inj H
    have hnb33 := NB357_358.out
    have hnc33 := NB358_357.out
    have hnb34 := NB357_359.out
    have hnc34 := NB359_357.out
    have hcz35_0 : wc.cell? ⟨gb357, 0, none⟩ = some (.int .i64 a0_0) := (blk_cell BK357.out 0).trans rfl
    have hcz35_1 : wc.cell? ⟨gb357, 1, none⟩ = some (.int .i64 a0_1) := (blk_cell BK357.out 1).trans rfl
    have hfz35_0 := blk_frozen BK357.out 0
    have hfz35_1 := blk_frozen BK357.out 1
    have hnb36 := NB358_359.out
    have hnc36 := NB359_358.out
    have hcz37_0 : wc.cell? ⟨gb358, 0, none⟩ = some (.int .i64 a1_0) := (blk_cell BK358.out 0).trans rfl
    have hcz37_1 : wc.cell? ⟨gb358, 1, none⟩ = some (.int .i64 a1_1) := (blk_cell BK358.out 1).trans rfl
    have hfz37_0 := blk_frozen BK358.out 0
    have hfz37_1 := blk_frozen BK358.out 1
    have hcz38_0 : wc.cell? ⟨gb359, 0, none⟩ = some (.int .i64 a2_0) := (blk_cell BK359.out 0).trans rfl
    have hcz38_1 : wc.cell? ⟨gb359, 1, none⟩ = some (.int .i64 a2_1) := (blk_cell BK359.out 1).trans rfl
    have hfz38_0 := blk_frozen BK359.out 0
    have hfz38_1 := blk_frozen BK359.out 1
    go_wp2_with (first | ((with_reducible refine gate_callee (f := 72) rfl ?_); refine goesL_ (some 31) rfl rfl Try.func72 (by kernel_rfl) rfl #[.agg #[.int .i64 a0_0, .int .i64 a0_1], .agg #[.int .i64 a1_0, .int .i64 a1_1], .agg #[.int .i64 a2_0, .int .i64 a2_1], .int .i64 a3, .int .i64 a4] rfl am ?_; (with_reducible refine (pochoirref19_Beside.calls kj5 a0_0 a0_1 a1_0 a1_1 a2_0 a2_1 a3 a4 t362 _ A32.out).mono ?_); rintro e w39 ⟨rfl, hb⟩; refine ⟨_, rfl, ?_⟩; replace BK357 := Aside0.mk (bb BK357.out hb); replace BK358 := Aside0.mk (bb BK358.out hb); replace BK359 := Aside0.mk (bb BK359.out hb); replace HB := Aside0.mk (below_step (bl3 HB.out GE357.out GE358.out GE359.out) hb); (try clear hb); (try clear hb2); (try clear hk); (try clear hi)))
    go_ret
    exact ⟨by first | rfl | (simp [errW_none, errW_some] <;> rfl) | (simp [*, errW_none, errW_some] <;> rfl), bl3 HB.out GE357.out GE358.out GE359.out⟩

end Go.Proofs.Ytemhnlameekmkaa.XLine
