-- Printed by a program of this claim. Not trusted: Lean checks it.
import Derived.Test.YtemhnlameekmkaaXLinex0
import Derived.Test.YtemhnlameekmkaaXLinex2
import Derived.Test.YtemhnlameekmkaaXLinex5
import Derived.Test.YtemhnlameekmkaaXLinex6
import Derived.Test.YtemhnlameekmkaaXLinex7
import Derived.Test.YtemhnlameekmkaaXLinex8
namespace Go.Proofs.Ytemhnlameekmkaa.XLine
open Go.RowKit Go.Proofs.YtemhnlameekmkaaW.PrintWords Go.Proofs.YtemhnlameekmkaaW.PrintLast Go.Proofs.YtemhnlameekmkaaW.PrintMore
attribute [local go_sem] max2_int min2_int max_two min_two max_three min_three max_four min_four   -- for this text's walks alone
set_option linter.unusedVariables false
set_option linter.unusedSimpArgs false
open XOpen

attribute [local go_sem high] eqA49
/-! ### pochoirref19_Of: function 39 -/
def pochoirref19_Of.f (k : Nat) (a0_0 : Int) (a0_1 : Int) (a1_0 : Int) (a1_1 : Int) (a2 : Int) (a3 : Int) : Option (Int × Int) := (pochoirref19_Right.f a2 a3).bind fun t285 => (if t285 = true then (if (a1_0 == 0 && (a1_1 == 0)) = true then (some (0, 13)) else ((pochoirref01_Digits.f k a0_0 a0_1).bind fun t286 => ((pochoirref01_Digits.f k a1_0 a1_1).bind fun t289 => ((pochoirref19_level.f k t286 t289 a2 a3).bind fun t292 => (some (t292, 0)))))) else (some (0, 1)))
theorem pochoirref19_Of.mono : ∀ a0 a1 a2 a3 a4 a5 k, LeO (pochoirref19_Of.f k a0 a1 a2 a3 a4 a5) (pochoirref19_Of.f (k + 1) a0 a1 a2 a3 a4 a5) := by
 intro a0 a1 a2 a3 a4 a5 k
 unfold pochoirref19_Of.f
 repeat' first
   | (with_reducible exact pochoirref01_Digits.mono _ _ _)
   | (with_reducible exact pochoirref19_level.mono _ _ _ _ _)
   | (with_reducible exact LeO.refl _)
   | (with_reducible exact LeO.none _)
   | (with_reducible refine LeO.ite ?_ ?_)
   | (with_reducible refine LeO.bind ?_ (fun _ => ?_))
   | exact pochoirref01_Digits.mono _ _ _
   | exact pochoirref19_level.mono _ _ _ _ _
   | exact LeO.none _
   | refine LeO.ite ?_ ?_
   | refine LeO.bind ?_ (fun _ => ?_)
def pochoirref19_Of.T5 : Bool × List (List Nat × List Nat) := (true, [([], []), ([0], [0]), ([], []), ([2, 1], [2]), ([], []), ([], []), ([1, 3, 4, 5, 3], [1, 3, 4, 5]), ([6, 6, 0, 1, 2, 3, 4, 5, 6], [6]), ([7, 0, 1, 2, 3, 4, 5, 6, 7], [])])
def pochoirref19_Of.B5 : List Nat := [0, 1, 0, 7, 0, 0, 63, 127, 255]
theorem pochoirref19_Of.tab5 : rtab .any (opsOf Try.f39 5) = pochoirref19_Of.T5 := by kernel_rfl
theorem pochoirref19_Of.bits5 : waitsOk pochoirref19_Of.T5.2 pochoirref19_Of.B5 = true := by kernel_rfl
set_option maxHeartbeats 8000000 in
set_option maxRecDepth 100000 in
theorem pochoirref19_Of.calls (k : Nat) (a0_0 : Int) (a0_1 : Int) (a1_0 : Int) (a1_1 : Int) (a2 : Int) (a3 : Int) (r1 : Int) (r2 : Int) (w : World) (h : pochoirref19_Of.f k a0_0 a0_1 a1_0 a1_1 a2 a3 = some (r1, r2)) :
  Calls Try.prog 39 #[.agg #[.int .u64 a0_0, .int .u64 a0_1], .agg #[.int .u64 a1_0, .int .u64 a1_1], .int .i64 a2, .int .i64 a3] w fun e w' => e = .returned (.tuple #[.int .i64 r1, .int .i64 r2]) ∧ Below w.heap.size w w' := by
 have hu49 := Try.underlying49
 have HB := Aside0.mk (Below.refl w.heap.size w)
 have H : ((pochoirref19_Right.f a2 a3).bind fun t285 => (if t285 = true then (if (a1_0 == 0 && (a1_1 == 0)) = true then (some (0, 13)) else ((pochoirref01_Digits.f k a0_0 a0_1).bind fun t286 => ((pochoirref01_Digits.f k a1_0 a1_1).bind fun t289 => ((pochoirref19_level.f k t286 t289 a2 a3).bind fun t292 => (some (t292, 0)))))) else (some (0, 1)))) = some (r1, r2) := h
 clear h
 replace H := Option.bind_eq_some_iff.mp H
 obtain ⟨t285, A50, H⟩ := H
 replace H : (if t285 = true then (if (a1_0 == 0 && (a1_1 == 0)) = true then (some (0, 13)) else ((pochoirref01_Digits.f k a0_0 a0_1).bind fun t286 => ((pochoirref01_Digits.f k a1_0 a1_1).bind fun t289 => ((pochoirref19_level.f k t286 t289 a2 a3).bind fun t292 => (some (t292, 0)))))) else (some (0, 1))) = some (r1, r2) := H
 have A5 := Aside0.mk A50
 clear A50
 by_cases c6 : t285 = true
 ·subst c6
  have H1 : (if (a1_0 == 0 && (a1_1 == 0)) = true then (some (0, 13)) else ((pochoirref01_Digits.f k a0_0 a0_1).bind fun t286 => ((pochoirref01_Digits.f k a1_0 a1_1).bind fun t289 => ((pochoirref19_level.f k t286 t289 a2 a3).bind fun t292 => (some (t292, 0)))))) = some (r1, r2) := by rw [if_pos rfl] at H; exact H
  clear H
  have H := H1
  clear H1
  by_cases c7 : (a1_0 == 0 && (a1_1 == 0)) = true
  ·rw [if_pos c7] at H
   have c7b0 : (a1_0 == 0 && (a1_1 == 0)) = true := c7
   (try (have c7b1 : decide (a1_0 = 0 && (a1_1 == 0)) = true := by simpa using c7))
   (try (have c7b2 : (a1_0 == 0 && (a1_1 == 0)) = true := by simpa using c7))
   clear c7
   simp only [Option.some.injEq, Prod.mk.injEq] at H
   obtain ⟨rfl, rfl⟩ := H
   go_enter Try.func39, Try.ntmps39
   go_wp2_with (first | ((with_reducible refine gate_dst (N := 4) rfl ?_); refine be 4 (#[.int .u64 a0_0, .int .u64 a0_1]) 49 ?_; intro gb283 hg w8 hbox hb; have BK283 := Aside0.mk (hbox); have GW283 := Aside0.mk ((by rw [hg]; exact (below_size (bl0 HB.out)) : w.heap.size ≤ gb283)); have GE283 := GW283; replace HB := Aside0.mk (below_step (bl0 HB.out) hb); clear hb hbox hg) | ((with_reducible refine gate_dst (N := 5) rfl ?_); refine be 5 (#[.int .u64 a1_0, .int .u64 a1_1]) 49 ?_; intro gb284 hg w9 hbox hb; have BK284 := Aside0.mk (hbox); have GW284 := Aside0.mk ((by rw [hg]; exact (below_size (bl1 HB.out GE283.out)) : w.heap.size ≤ gb284)); have GE284 := GW284; have NB283_284 := Aside0.mk ((by rw [hg]; exact Nat.ne_of_lt (lt_ BK283.out) : gb283 ≠ gb284)); have NB284_283 := Aside0.mk ((by rw [hg]; exact Nat.ne_of_gt (lt_ BK283.out) : gb284 ≠ gb283)); replace BK283 := Aside0.mk (bb BK283.out hb); replace HB := Aside0.mk (below_step (bl1 HB.out GE283.out) hb); clear hb hbox hg) | ((with_reducible refine gate_callee (f := 65) rfl ?_); refine goesL_ (some 12) rfl rfl Try.func65 (by kernel_rfl) rfl #[.int .i64 a2, .int .i64 a3] rfl am ?_; (with_reducible refine (pochoirref19_Right.calls a2 a3 true _ A5.out).mono ?_); rintro e w' ⟨rfl, ⟨nd, rfl⟩⟩; refine ⟨_, rfl, ?_⟩; have hnb10 := NB284_283.out; have hnc10 := NB283_284.out; have hcz11_0 : w9.cell? ⟨gb284, 0, none⟩ = some (.int .u64 a1_0) := (blk_cell BK284.out 0).trans rfl; have hcz11_1 : w9.cell? ⟨gb284, 1, none⟩ = some (.int .u64 a1_1) := (blk_cell BK284.out 1).trans rfl; have hfz11_0 := blk_frozen BK284.out 0; have hfz11_1 := blk_frozen BK284.out 1))
   go_ret2
   exact ⟨by first | rfl | (simp [errW_none, errW_some] <;> rfl) | (simp [*, errW_none, errW_some] <;> rfl), bl2 HB.out GE283.out GE284.out⟩
  ·rw [if_neg c7] at H
   have c7b0 : (a1_0 == 0 && (a1_1 == 0)) = false := by simpa using c7
   (try (have c7b1 : decide (a1_0 = 0 && (a1_1 == 0)) = false := by simpa using c7))
   (try (have c7b2 : (a1_0 == 0 && (a1_1 == 0)) = false := by simpa using c7))
   (try (have c7b3 : ¬ (a1_0 = 0 && (a1_1 == 0)) := by simpa using c7))
   clear c7
   replace H := Option.bind_eq_some_iff.mp H
   obtain ⟨t286, A120, H⟩ := H
   replace H : ((pochoirref01_Digits.f k a1_0 a1_1).bind fun t289 => ((pochoirref19_level.f k t286 t289 a2 a3).bind fun t292 => (some (t292, 0)))) = some (r1, r2) := H
   have A12 := Aside0.mk A120
   clear A120
   replace H := Option.bind_eq_some_iff.mp H
   obtain ⟨t289, A130, H⟩ := H
   replace H : ((pochoirref19_level.f k t286 t289 a2 a3).bind fun t292 => (some (t292, 0))) = some (r1, r2) := H
   have A13 := Aside0.mk A130
   clear A130
   replace H := Option.bind_eq_some_iff.mp H
   obtain ⟨t292, A140, H⟩ := H
   replace H : (some (t292, 0)) = some (r1, r2) := H
   have A14 := Aside0.mk A140
   clear A140
   simp only [Option.some.injEq, Prod.mk.injEq] at H
   obtain ⟨rfl, rfl⟩ := H
   go_enter Try.func39, Try.ntmps39
   try go_wp2_with (first | ((with_reducible refine gate_dst (N := 4) rfl ?_); refine be 4 (#[.int .u64 a0_0, .int .u64 a0_1]) 49 ?_; intro gb283 hg w15 hbox hb; have BK283 := Aside0.mk (hbox); have GW283 := Aside0.mk ((by rw [hg]; exact (below_size (bl0 HB.out)) : w.heap.size ≤ gb283)); have GE283 := GW283; replace HB := Aside0.mk (below_step (bl0 HB.out) hb); clear hb hbox hg) | ((with_reducible refine gate_dst (N := 5) rfl ?_); refine be 5 (#[.int .u64 a1_0, .int .u64 a1_1]) 49 ?_; intro gb284 hg w16 hbox hb; have BK284 := Aside0.mk (hbox); have GW284 := Aside0.mk ((by rw [hg]; exact (below_size (bl1 HB.out GE283.out)) : w.heap.size ≤ gb284)); have GE284 := GW284; have NB283_284 := Aside0.mk ((by rw [hg]; exact Nat.ne_of_lt (lt_ BK283.out) : gb283 ≠ gb284)); have NB284_283 := Aside0.mk ((by rw [hg]; exact Nat.ne_of_gt (lt_ BK283.out) : gb284 ≠ gb283)); replace BK283 := Aside0.mk (bb BK283.out hb); replace HB := Aside0.mk (below_step (bl1 HB.out GE283.out) hb); clear hb hbox hg) | ((with_reducible refine gate_callee (f := 65) rfl ?_); refine goesL_ (some 12) rfl rfl Try.func65 (by kernel_rfl) rfl #[.int .i64 a2, .int .i64 a3] rfl am ?_; (with_reducible refine (pochoirref19_Right.calls a2 a3 true _ A5.out).mono ?_); rintro e w' ⟨rfl, ⟨nd, rfl⟩⟩; refine ⟨_, rfl, ?_⟩; have hnb17 := NB284_283.out; have hnc17 := NB283_284.out; have hcz18_0 : w16.cell? ⟨gb284, 0, none⟩ = some (.int .u64 a1_0) := (blk_cell BK284.out 0).trans rfl; have hcz18_1 : w16.cell? ⟨gb284, 1, none⟩ = some (.int .u64 a1_1) := (blk_cell BK284.out 1).trans rfl; have hfz18_0 := blk_frozen BK284.out 0; have hfz18_1 := blk_frozen BK284.out 1))
   (try (rw [drewN_self w16]; generalize hq_ : World.drewN w16 _ = w16; replace BK283 : Aside0 (w16.heap[gb283]? = some (.cells #[.int .u64 a0_0, .int .u64 a0_1] 49 (0, 0))) := ⟨by rw [← hq_]; exact (bk BK283.out)⟩; replace BK284 : Aside0 (w16.heap[gb284]? = some (.cells #[.int .u64 a1_0, .int .u64 a1_1] 49 (0, 0))) := ⟨by rw [← hq_]; exact (bk BK284.out)⟩; replace HB : Aside0 (Below w.heap.size w w16) := ⟨by rw [← hq_]; exact (bl2 HB.out GE283.out GE284.out)⟩; clear hq_))
   replace BK283 := Aside0.mk (blk_drew BK283.out)
   replace BK284 := Aside0.mk (blk_drew BK284.out)
   replace HB := Aside0.mk (below_drew1 HB.out)
   refine start_ (n := 9) (S := fun w' => w'.cell? ⟨gb283, 0, none⟩ = some (.int .u64 a0_0) ∧ w'.cell? ⟨gb283, 1, none⟩ = some (.int .u64 a0_1) ∧ w'.cell? ⟨gb284, 0, none⟩ = some (.int .u64 a1_0) ∧ w'.cell? ⟨gb284, 1, none⟩ = some (.int .u64 a1_1)) (ds := []) (ba 9 0) (by kernel_rfl) rfl rfl ⟨(blk_cell BK283.out 0).trans rfl, (blk_cell BK283.out 1).trans rfl, (blk_cell BK284.out 0).trans rfl, (blk_cell BK284.out 1).trans rfl⟩ (fun hHeld => ?_); refine with_tabW pochoirref19_Of.tab5 pochoirref19_Of.bits5 (fun HT_ HW_ => ?_)
   generalize w16.drew = w19 at BK283 BK284 HB hHeld ⊢
   refine pI 4 21 (ba 9 16) HT_.out ?_
   refine pI 5 22 (ba 9 48) HT_.out ?_
   refine take_ (i := 0) (N := some 17) (v := ?_) (a' := ?_) (ba 9 49) rfl rfl (take_ofW HT_.out HW_.out (by kernel_rfl)) (fun _ _ _ h => h) (Or.inl ⟨by rfl, ?_⟩) hHeld ?_ ?_
   rotate_left
   ·rintro w' ⟨s0, s1, s2, s3⟩
    go_simp
    with_reducible rfl
   rotate_left
   ·simp only [Act.put, List.setIfInBounds_toArray, List.set_cons_zero, List.set_cons_succ, i64_w, i32_w]
    rfl
   refine take_ (i := 2) (N := some 19) (v := ?_) (a' := ?_) (ba 9 53) rfl rfl (take_ofW HT_.out HW_.out (by kernel_rfl)) (fun _ _ _ h => h) (Or.inl ⟨by rfl, ?_⟩) hHeld ?_ ?_
   rotate_left
   ·rintro w' ⟨s0, s1, s2, s3⟩
    go_simp
    with_reducible rfl
   rotate_left
   ·simp only [Act.put, List.setIfInBounds_toArray, List.set_cons_zero, List.set_cons_succ, i64_w, i32_w]
    rfl
   refine one_ (i := 1) (N := some 18) (ba 9 55) rfl rfl (one_of HT_.out (by kernel_rfl)) (by decide) (fun K hK => ?_)
   refine goes_ Try.func57 (by kernel_rfl) rfl #[.agg #[.int .u64 a0_0, .int .u64 a0_1]] (by rfl) rfl rfl am ?_
   with_reducible refine (pochoirref01_Digits.calls k a0_0 a0_1 t286 _ A12.out).mono ?_
   rintro e w20 ⟨v287, rfl, ho0, hb⟩
   refine ⟨_, rfl, ?_⟩
   have HO288 := Aside0.mk (Kd.R_lower ho0 (below_size (bl2 HB.out GE283.out GE284.out)))
   replace BK283 := Aside0.mk (bb BK283.out hb)
   replace BK284 := Aside0.mk (bb BK284.out hb)
   replace HB := Aside0.mk (below_step (bl2 HB.out GE283.out GE284.out) hb)
   (try clear hb)
   (try clear hb2)
   (try clear hk)
   (try clear hi)
   (try clear ho0)
   refine hK.out _ _ ⟨(blk_cell BK283.out 0).trans rfl, (blk_cell BK283.out 1).trans rfl, (blk_cell BK284.out 0).trans rfl, (blk_cell BK284.out 1).trans rfl⟩ (fun hHeld => ?_)
   clear hK K
   refine norm_ (a' := ?_) ?_ ?_
   rotate_left
   ·show Act.put _ (some 18) _ = _
    simp only [Act.put, List.setIfInBounds_toArray, List.set_cons_zero, List.set_cons_succ, i64_w, i32_w]
    rfl
   refine one_ (i := 3) (N := some 20) (ba 9 63) rfl rfl (one_of HT_.out (by kernel_rfl)) (by decide) (fun K hK => ?_)
   refine goes_ Try.func57 (by kernel_rfl) rfl #[.agg #[.int .u64 a1_0, .int .u64 a1_1]] (by rfl) rfl rfl am ?_
   with_reducible refine (pochoirref01_Digits.calls k a1_0 a1_1 t289 _ A13.out).mono ?_
   rintro e w21 ⟨v290, rfl, ho0, hb⟩
   refine ⟨_, rfl, ?_⟩
   have HO291 := Aside0.mk (Kd.R_lower (Kd.R_new' ho0 (Kd.R_lt (by (with_reducible repeat (first | apply Kd.R_alloc | apply Kd.R_drewN | apply Kd.R_drew)); exact HO288.out))) (below_size (bl2 HB.out GE283.out GE284.out)))
   replace HO288 := Aside0.mk (Kd.R_elder' (by (with_reducible repeat (first | apply Kd.R_alloc | apply Kd.R_drewN | apply Kd.R_drew)); exact HO288.out) (Kd.R_base ho0) hb)
   replace BK283 := Aside0.mk (bb BK283.out hb)
   replace BK284 := Aside0.mk (bb BK284.out hb)
   replace HB := Aside0.mk (below_step (bl2 HB.out GE283.out GE284.out) hb)
   (try clear hb)
   (try clear hb2)
   (try clear hk)
   (try clear hi)
   (try clear ho0)
   obtain ⟨Ao22, co22, eo22⟩ := Kd.R_slice HO288.out
   (first | subst eo22 | (injection eo22 with f1_ f2_ f3_; have f4_ := f1_.symm; have f5_ := f3_.symm; clear f1_ f2_ f3_; subst f4_; subst f5_))
   obtain ⟨Ao23, co23, eo23⟩ := Kd.R_slice HO291.out
   (first | subst eo23 | (injection eo23 with f1_ f2_ f3_; have f4_ := f1_.symm; have f5_ := f3_.symm; clear f1_ f2_ f3_; subst f4_; subst f5_))
   refine hK.out _ _ ⟨(blk_cell BK283.out 0).trans rfl, (blk_cell BK283.out 1).trans rfl, (blk_cell BK284.out 0).trans rfl, (blk_cell BK284.out 1).trans rfl⟩ (fun hHeld => ?_)
   clear hK K
   refine norm_ (a' := ?_) ?_ ?_
   rotate_left
   ·show Act.put _ (some 20) _ = _
    simp only [Act.put, List.setIfInBounds_toArray, List.set_cons_zero, List.set_cons_succ, i64_w, i32_w]
    rfl
   refine one_ (i := 6) (N := some 23) (ba 9 127) rfl rfl (one_of HT_.out (by kernel_rfl)) (by decide) (fun K hK => ?_)
   refine goes_ Try.func66 (by kernel_rfl) rfl #[.slice Ao22 t286.length co22, .slice Ao23 t289.length co23, .int .i64 a2, .int .i64 a3] (by rfl) rfl rfl am ?_
   with_reducible refine (pochoirref19_level.calls k _ _ t286 _ _ t289 a2 a3 t292 _ ?side1 ?side2 ?side3 ?side4 A14.out).mono ?_
   (case side1 => repeat (first | exact (Kd.R_reads' HO288.out).2.2 | (with_reducible refine Kd.C_alloc ?_ _) | (with_reducible refine Kd.C_drewN ?_ _) | (with_reducible refine Kd.C_drew ?_)))
   (case side2 => exact (Kd.R_reads' HO288.out).2.1)
   (case side3 => repeat (first | exact (Kd.R_reads' HO291.out).2.2 | (with_reducible refine Kd.C_alloc ?_ _) | (with_reducible refine Kd.C_drewN ?_ _) | (with_reducible refine Kd.C_drew ?_)))
   (case side4 => exact (Kd.R_reads' HO291.out).2.1)
   rintro e w24 ⟨rfl, hb⟩
   refine ⟨_, rfl, ?_⟩
   replace HO288 := Aside0.mk (Kd.R_below (by (with_reducible repeat (first | apply Kd.R_alloc | apply Kd.R_drewN | apply Kd.R_drew)); exact HO288.out) hb)
   replace HO291 := Aside0.mk (Kd.R_below (by (with_reducible repeat (first | apply Kd.R_alloc | apply Kd.R_drewN | apply Kd.R_drew)); exact HO291.out) hb)
   replace BK283 := Aside0.mk (bb BK283.out hb)
   replace BK284 := Aside0.mk (bb BK284.out hb)
   replace HB := Aside0.mk (below_step (bl2 HB.out GE283.out GE284.out) hb)
   (try clear hb)
   (try clear hb2)
   (try clear hk)
   (try clear hi)
   refine hK.out _ _ ⟨(blk_cell BK283.out 0).trans rfl, (blk_cell BK283.out 1).trans rfl, (blk_cell BK284.out 0).trans rfl, (blk_cell BK284.out 1).trans rfl⟩ (fun hHeld => ?_)
   clear hK K
   refine norm_ (a' := ?_) ?_ ?_
   rotate_left
   ·show Act.put _ (some 23) _ = _
    simp only [Act.put, List.setIfInBounds_toArray, List.set_cons_zero, List.set_cons_succ, i64_w, i32_w]
    rfl
   refine pI 7 8 (ba 9 255) HT_.out ?_
   refine pI 8 9 (ba 9 511) HT_.out ?_
   refine done_ (done_of HT_.out (by kernel_rfl)) ?_
   try go_wp2
   go_ret2
   exact ⟨by first | rfl | (simp [errW_none, errW_some] <;> rfl) | (simp [*, errW_none, errW_some] <;> rfl), bl2 HB.out GE283.out GE284.out⟩
 ·replace c6 := Bool.eq_false_iff.mpr c6
  subst c6
  have H1 : (some (0, 1)) = some (r1, r2) := by rw [if_neg (show ¬ (false = true) by decide)] at H; exact H
  clear H
  have H := H1
  clear H1
  simp only [Option.some.injEq, Prod.mk.injEq] at H
  obtain ⟨rfl, rfl⟩ := H
  go_enter Try.func39, Try.ntmps39
  go_wp2_with (first | ((with_reducible refine gate_dst (N := 4) rfl ?_); refine be 4 (#[.int .u64 a0_0, .int .u64 a0_1]) 49 ?_; intro gb283 hg w25 hbox hb; have BK283 := Aside0.mk (hbox); have GW283 := Aside0.mk ((by rw [hg]; exact (below_size (bl0 HB.out)) : w.heap.size ≤ gb283)); have GE283 := GW283; replace HB := Aside0.mk (below_step (bl0 HB.out) hb); clear hb hbox hg) | ((with_reducible refine gate_dst (N := 5) rfl ?_); refine be 5 (#[.int .u64 a1_0, .int .u64 a1_1]) 49 ?_; intro gb284 hg w26 hbox hb; have BK284 := Aside0.mk (hbox); have GW284 := Aside0.mk ((by rw [hg]; exact (below_size (bl1 HB.out GE283.out)) : w.heap.size ≤ gb284)); have GE284 := GW284; have NB283_284 := Aside0.mk ((by rw [hg]; exact Nat.ne_of_lt (lt_ BK283.out) : gb283 ≠ gb284)); have NB284_283 := Aside0.mk ((by rw [hg]; exact Nat.ne_of_gt (lt_ BK283.out) : gb284 ≠ gb283)); replace BK283 := Aside0.mk (bb BK283.out hb); replace HB := Aside0.mk (below_step (bl1 HB.out GE283.out) hb); clear hb hbox hg) | ((with_reducible refine gate_callee (f := 65) rfl ?_); refine goesL_ (some 12) rfl rfl Try.func65 (by kernel_rfl) rfl #[.int .i64 a2, .int .i64 a3] rfl am ?_; (with_reducible refine (pochoirref19_Right.calls a2 a3 false _ A5.out).mono ?_); rintro e w' ⟨rfl, ⟨nd, rfl⟩⟩; refine ⟨_, rfl, ?_⟩))
  go_ret2
  exact ⟨by first | rfl | (simp [errW_none, errW_some] <;> rfl) | (simp [*, errW_none, errW_some] <;> rfl), bl2 HB.out GE283.out GE284.out⟩

/-! ### pochoirlaw19_LineOf: function 9 -/
def pochoirlaw19_LineOf.j0 : Nat → Bool → Int → Int → Int → Int → Int → Int → Option (Bool)
 | 0, _, _, _, _, _, _, _ => none
 | k + 1, x12, x294000, x294001, x295000, x295001, x296000, x296001 => if x12 = true then (some false) else ((line_Of.f k x294000 x294001 x295000 x295001 x296000 x296001).bind fun bt297 => ((pochoirref19_Of.f k x294000 x294001 x295000 x295001 x296000 x296001).bind fun bt299 => (if bt297.1 = bt299.1 then (some (bt297.2 == bt299.2)) else (some false))))
def pochoirlaw19_LineOf.f (k : Nat) (a0_0 : Int) (a0_1 : Int) (a1_0 : Int) (a1_1 : Int) (a2_0 : Int) (a2_1 : Int) : Option (Bool) := (pochoirlaw19_awake.f k).bind fun t296 => (pochoirlaw19_LineOf.j0 k (!t296) a0_0 a0_1 a1_0 a1_1 a2_0 a2_1)
theorem pochoirlaw19_LineOf.mono_l : ∀ k, (∀ y0 y1 y2 y3 y4 y5 y6, LeO (pochoirlaw19_LineOf.j0 k y0 y1 y2 y3 y4 y5 y6) (pochoirlaw19_LineOf.j0 (k + 1) y0 y1 y2 y3 y4 y5 y6))
 | 0 => fun _ _ _ _ _ _ _ r h => by simp [pochoirlaw19_LineOf.j0] at h
 | k + 1 => by
  have ih0 := pochoirlaw19_LineOf.mono_l k
  ·intro y0 y1 y2 y3 y4 y5 y6
   unfold pochoirlaw19_LineOf.j0
   repeat' first
   | (with_reducible exact ih0 _ _ _ _ _ _ _)
   | (with_reducible exact line_Of.mono _ _ _ _ _ _ _)
   | (with_reducible exact pochoirlaw19_awake.mono _)
   | (with_reducible exact pochoirref19_Of.mono _ _ _ _ _ _ _)
   | (with_reducible exact LeO.refl _)
   | (with_reducible exact LeO.none _)
   | (with_reducible refine LeO.ite ?_ ?_)
   | (with_reducible refine LeO.bind ?_ (fun _ => ?_))
   | exact ih0 _ _ _ _ _ _ _
   | exact line_Of.mono _ _ _ _ _ _ _
   | exact pochoirlaw19_awake.mono _
   | exact pochoirref19_Of.mono _ _ _ _ _ _ _
   | exact LeO.none _
   | refine LeO.ite ?_ ?_
   | refine LeO.bind ?_ (fun _ => ?_)
theorem pochoirlaw19_LineOf.mono : ∀ a0 a1 a2 a3 a4 a5 k, LeO (pochoirlaw19_LineOf.f k a0 a1 a2 a3 a4 a5) (pochoirlaw19_LineOf.f (k + 1) a0 a1 a2 a3 a4 a5) := by
 intro a0 a1 a2 a3 a4 a5 k
 have ih0 := pochoirlaw19_LineOf.mono_l k
 unfold pochoirlaw19_LineOf.f
 repeat' first
   | (with_reducible exact ih0 _ _ _ _ _ _ _)
   | (with_reducible exact line_Of.mono _ _ _ _ _ _ _)
   | (with_reducible exact pochoirlaw19_awake.mono _)
   | (with_reducible exact pochoirref19_Of.mono _ _ _ _ _ _ _)
   | (with_reducible exact LeO.refl _)
   | (with_reducible exact LeO.none _)
   | (with_reducible refine LeO.ite ?_ ?_)
   | (with_reducible refine LeO.bind ?_ (fun _ => ?_))
   | exact ih0 _ _ _ _ _ _ _
   | exact line_Of.mono _ _ _ _ _ _ _
   | exact pochoirlaw19_awake.mono _
   | exact pochoirref19_Of.mono _ _ _ _ _ _ _
   | exact LeO.none _
   | refine LeO.ite ?_ ?_
   | refine LeO.bind ?_ (fun _ => ?_)
set_option maxHeartbeats 8000000 in
set_option maxRecDepth 100000 in
theorem pochoirlaw19_LineOf.calls (k : Nat) (a0_0 : Int) (a0_1 : Int) (a1_0 : Int) (a1_1 : Int) (a2_0 : Int) (a2_1 : Int) (r : Bool) (w : World) (hq_ : r = true) (h : pochoirlaw19_LineOf.f k a0_0 a0_1 a1_0 a1_1 a2_0 a2_1 = some r) :
  Calls Try.prog 9 #[.agg #[.int .u64 a0_0, .int .u64 a0_1], .agg #[.int .u64 a1_0, .int .u64 a1_1], .agg #[.int .i64 a2_0, .int .i64 a2_1]] w fun e w' => e = .returned (.bool r) ∧ Below w.heap.size w w' := by
 have hu49 := Try.underlying49
 have hu60 := Try.underlying60
 have HB := Aside0.mk (Below.refl w.heap.size w)
 have HQ := Aside0.mk hq_
 clear hq_
 have H : ((pochoirlaw19_awake.f k).bind fun t296 => (pochoirlaw19_LineOf.j0 k (!t296) a0_0 a0_1 a1_0 a1_1 a2_0 a2_1)) = some r := h
 clear h
 have HC4 := Aside0.mk H
 clear H
 go_enter Try.func9, Try.ntmps9
 go_upto_region 1 with (first | ((with_reducible refine gate_dst (N := 3) rfl ?_); refine be 3 (#[.int .u64 a0_0, .int .u64 a0_1]) 49 ?_; intro gb293 hg w5 hbox hb; have BK293 := Aside0.mk (hbox); have GW293 := Aside0.mk ((by rw [hg]; exact (below_size (bl0 HB.out)) : w.heap.size ≤ gb293)); have GE293 := GW293; replace HB := Aside0.mk (below_step (bl0 HB.out) hb); clear hb hbox hg) | ((with_reducible refine gate_dst (N := 4) rfl ?_); refine be 4 (#[.int .u64 a1_0, .int .u64 a1_1]) 49 ?_; intro gb294 hg w6 hbox hb; have BK294 := Aside0.mk (hbox); have GW294 := Aside0.mk ((by rw [hg]; exact (below_size (bl1 HB.out GE293.out)) : w.heap.size ≤ gb294)); have GE294 := GW294; have NB293_294 := Aside0.mk ((by rw [hg]; exact Nat.ne_of_lt (lt_ BK293.out) : gb293 ≠ gb294)); have NB294_293 := Aside0.mk ((by rw [hg]; exact Nat.ne_of_gt (lt_ BK293.out) : gb294 ≠ gb293)); replace BK293 := Aside0.mk (bb BK293.out hb); replace HB := Aside0.mk (below_step (bl1 HB.out GE293.out) hb); clear hb hbox hg) | ((with_reducible refine gate_dst (N := 5) rfl ?_); refine be 5 (#[.int .i64 a2_0, .int .i64 a2_1]) 60 ?_; intro gb295 hg w7 hbox hb; have BK295 := Aside0.mk (hbox); have GW295 := Aside0.mk ((by rw [hg]; exact (below_size (bl2 HB.out GE293.out GE294.out)) : w.heap.size ≤ gb295)); have GE295 := GW295; have NB293_295 := Aside0.mk ((by rw [hg]; exact Nat.ne_of_lt (lt_ BK293.out) : gb293 ≠ gb295)); have NB295_293 := Aside0.mk ((by rw [hg]; exact Nat.ne_of_gt (lt_ BK293.out) : gb295 ≠ gb293)); have NB294_295 := Aside0.mk ((by rw [hg]; exact Nat.ne_of_lt (lt_ BK294.out) : gb294 ≠ gb295)); have NB295_294 := Aside0.mk ((by rw [hg]; exact Nat.ne_of_gt (lt_ BK294.out) : gb295 ≠ gb294)); replace BK293 := Aside0.mk (bb BK293.out hb); replace BK294 := Aside0.mk (bb BK294.out hb); replace HB := Aside0.mk (below_step (bl2 HB.out GE293.out GE294.out) hb); clear hb hbox hg))
 (try simp only [Act.put, List.setIfInBounds_toArray, List.set_cons_zero, List.set_cons_succ])
 go_cut [12] (fun v12 wc => ∃ (kq : Nat) (x12_3 : Bool), v12 = .bool x12_3 ∧ Aside0 (pochoirlaw19_LineOf.j0 kq x12_3 a0_0 a0_1 a1_0 a1_1 a2_0 a2_1 = some r) ∧ Aside0 (kq ≤ k) ∧ Aside0 (wc.heap[gb293]? = some (.cells #[.int .u64 a0_0, .int .u64 a0_1] 49 (0, 0))) ∧ Aside0 (wc.heap[gb294]? = some (.cells #[.int .u64 a1_0, .int .u64 a1_1] 49 (0, 0))) ∧ Aside0 (wc.heap[gb295]? = some (.cells #[.int .i64 a2_0, .int .i64 a2_1] 60 (0, 0))) ∧ Aside0 (Below w.heap.size w wc))
 case first =>
  have H := HC4.out
  clear HC4
  replace H := Option.bind_eq_some_iff.mp H
  obtain ⟨t296, A80, H⟩ := H
  replace H : (pochoirlaw19_LineOf.j0 k (!t296) a0_0 a0_1 a1_0 a1_1 a2_0 a2_1) = some r := H
  have A8 := Aside0.mk A80
  clear A80
  have H' := Aside0.mk H
  clear H
  go_wp2_with (first | ((with_reducible refine gate_callee (f := 37) rfl ?_); refine goesL_ (some 11) rfl rfl Try.func37 (by kernel_rfl) rfl #[] rfl am ?_; (with_reducible refine (pochoirlaw19_awake.calls k  t296 _ A8.out).mono ?_); rintro e w9 ⟨rfl, hb⟩; refine ⟨_, rfl, ?_⟩; replace BK293 := Aside0.mk (bb BK293.out hb); replace BK294 := Aside0.mk (bb BK294.out hb); replace BK295 := Aside0.mk (bb BK295.out hb); replace HB := Aside0.mk (below_step (bl3 HB.out GE293.out GE294.out GE295.out) hb); (try clear hb); (try clear hb2); (try clear hk); (try clear hi)))
  go_meet
  case rel => exact ⟨_, (!t296), fr, H', ⟨by first | omega | exact Nat.le_refl _⟩, ⟨bk BK293.out⟩, ⟨bk BK294.out⟩, ⟨bk BK295.out⟩, ⟨bl3 HB.out GE293.out GE294.out GE295.out⟩⟩
 case rest =>
  clear HC4
  try clear p2
  try clear c3
  try clear c9
  obtain ⟨kq, x12_3, rfl, HA, HJ3, BK293, BK294, BK295, HB⟩ := hcut
  cases kq with
  | zero => exact absurd HA.out (by simp [pochoirlaw19_LineOf.j0])
  | succ kj3 =>
   have H := HA.out
   clear HA
   simp only [pochoirlaw19_LineOf.j0] at H
   by_cases c10 : x12_3 = true
   ·subst c10
    have H1 : (some false) = some r := by rw [if_pos rfl] at H; exact H
    clear H
    have H := H1
    clear H1
    exact absurd (HQ.out ▸ H) (by simp)
   ·replace c10 := Bool.eq_false_iff.mpr c10
    subst c10
    have H1 : ((line_Of.f kj3 a0_0 a0_1 a1_0 a1_1 a2_0 a2_1).bind fun bt297 => ((pochoirref19_Of.f kj3 a0_0 a0_1 a1_0 a1_1 a2_0 a2_1).bind fun bt299 => (if bt297.1 = bt299.1 then (some (bt297.2 == bt299.2)) else (some false)))) = some r := by rw [if_neg (show ¬ (false = true) by decide)] at H; exact H
    clear H
    have H := H1
    clear H1
    replace H := Option.bind_eq_some_iff.mp H
    obtain ⟨⟨t297, t298⟩, A110, H⟩ := H
    replace H : ((pochoirref19_Of.f kj3 a0_0 a0_1 a1_0 a1_1 a2_0 a2_1).bind fun bt299 => (if t297 = bt299.1 then (some (t298 == bt299.2)) else (some false))) = some r := H
    have A11 := Aside0.mk A110
    clear A110
    replace H := Option.bind_eq_some_iff.mp H
    obtain ⟨⟨t299, t300⟩, A120, H⟩ := H
    replace H : (if t297 = t299 then (some (t298 == t300)) else (some false)) = some r := H
    have A12 := Aside0.mk A120
    clear A120
    by_cases c13 : t297 = t299
    ·rw [if_pos c13] at H
     have c13b0 : (t297 == t299) = true := beq_iff_eq.mpr c13
     have c13b1 : (t297 != t299) = false := bne_eq_false_iff_eq.mpr c13
     clear c13
     obtain rfl := Option.some.inj H
     have hnb14 := NB293_294.out
     have hnc14 := NB294_293.out
     have hnb15 := NB293_295.out
     have hnc15 := NB295_293.out
     have hcz16_0 : wc.cell? ⟨gb293, 0, none⟩ = some (.int .u64 a0_0) := (blk_cell BK293.out 0).trans rfl
     have hcz16_1 : wc.cell? ⟨gb293, 1, none⟩ = some (.int .u64 a0_1) := (blk_cell BK293.out 1).trans rfl
     have hfz16_0 := blk_frozen BK293.out 0
     have hfz16_1 := blk_frozen BK293.out 1
     have hnb17 := NB294_295.out
     have hnc17 := NB295_294.out
     have hcz18_0 : wc.cell? ⟨gb294, 0, none⟩ = some (.int .u64 a1_0) := (blk_cell BK294.out 0).trans rfl
     have hcz18_1 : wc.cell? ⟨gb294, 1, none⟩ = some (.int .u64 a1_1) := (blk_cell BK294.out 1).trans rfl
     have hfz18_0 := blk_frozen BK294.out 0
     have hfz18_1 := blk_frozen BK294.out 1
     have hcz19_0 : wc.cell? ⟨gb295, 0, none⟩ = some (.int .i64 a2_0) := (blk_cell BK295.out 0).trans rfl
     have hcz19_1 : wc.cell? ⟨gb295, 1, none⟩ = some (.int .i64 a2_1) := (blk_cell BK295.out 1).trans rfl
     have hfz19_0 := blk_frozen BK295.out 0
     have hfz19_1 := blk_frozen BK295.out 1
     go_wp2_with (first | ((with_reducible refine gate_callee (f := 38) rfl ?_); refine goesL_ (some 20) rfl rfl Try.func38 (by kernel_rfl) rfl #[.agg #[.int .u64 a0_0, .int .u64 a0_1], .agg #[.int .u64 a1_0, .int .u64 a1_1], .int .i64 a2_0, .int .i64 a2_1] rfl am ?_; (with_reducible refine (line_Of.calls kj3 a0_0 a0_1 a1_0 a1_1 a2_0 a2_1 t297 t298 _ A11.out).mono ?_); rintro e w20 ⟨rfl, hb⟩; refine ⟨_, rfl, ?_⟩; replace BK293 := Aside0.mk (bb BK293.out hb); replace BK294 := Aside0.mk (bb BK294.out hb); replace BK295 := Aside0.mk (bb BK295.out hb); replace HB := Aside0.mk (below_step (bl3 HB.out GE293.out GE294.out GE295.out) hb); (try clear hb); (try clear hb2); (try clear hk); (try clear hi); have hcz21_0 : w20.cell? ⟨gb293, 0, none⟩ = some (.int .u64 a0_0) := (blk_cell BK293.out 0).trans rfl; have hcz21_1 : w20.cell? ⟨gb293, 1, none⟩ = some (.int .u64 a0_1) := (blk_cell BK293.out 1).trans rfl; have hfz21_0 := blk_frozen BK293.out 0; have hfz21_1 := blk_frozen BK293.out 1; have hcz22_0 : w20.cell? ⟨gb294, 0, none⟩ = some (.int .u64 a1_0) := (blk_cell BK294.out 0).trans rfl; have hcz22_1 : w20.cell? ⟨gb294, 1, none⟩ = some (.int .u64 a1_1) := (blk_cell BK294.out 1).trans rfl; have hfz22_0 := blk_frozen BK294.out 0; have hfz22_1 := blk_frozen BK294.out 1; have hcz23_0 : w20.cell? ⟨gb295, 0, none⟩ = some (.int .i64 a2_0) := (blk_cell BK295.out 0).trans rfl; have hcz23_1 : w20.cell? ⟨gb295, 1, none⟩ = some (.int .i64 a2_1) := (blk_cell BK295.out 1).trans rfl; have hfz23_0 := blk_frozen BK295.out 0; have hfz23_1 := blk_frozen BK295.out 1) | ((with_reducible refine gate_callee (f := 39) rfl ?_); refine goesL_ (some 30) rfl rfl Try.func39 (by kernel_rfl) rfl #[.agg #[.int .u64 a0_0, .int .u64 a0_1], .agg #[.int .u64 a1_0, .int .u64 a1_1], .int .i64 a2_0, .int .i64 a2_1] rfl am ?_; (with_reducible refine (pochoirref19_Of.calls kj3 a0_0 a0_1 a1_0 a1_1 a2_0 a2_1 t299 t300 _ A12.out).mono ?_); rintro e w24 ⟨rfl, hb⟩; refine ⟨_, rfl, ?_⟩; replace BK293 := Aside0.mk (bb BK293.out hb); replace BK294 := Aside0.mk (bb BK294.out hb); replace BK295 := Aside0.mk (bb BK295.out hb); replace HB := Aside0.mk (below_step (bl3 HB.out GE293.out GE294.out GE295.out) hb); (try clear hb); (try clear hb2); (try clear hk); (try clear hi)))
     go_ret
     exact ⟨by first | rfl | (simp [errW_none, errW_some] <;> rfl) | (simp [*, errW_none, errW_some] <;> rfl), bl3 HB.out GE293.out GE294.out GE295.out⟩
    ·rw [if_neg c13] at H
     have c13b0 : (t297 == t299) = false := beq_eq_false_iff_ne.mpr c13
     have c13b1 : (t297 != t299) = true := bne_iff_ne.mpr c13
     exact absurd (HQ.out ▸ H) (by simp)

/-- THE ONE PURE STATEMENT of pochoirlaw19_LineOf. -/
def pochoirlaw19_LineOf.Pure : Prop := ∀ (x0 : S49) (x1 : S49) (x2 : S60), wf49 x0 → wf49 x1 → wf60 x2 → ∃ k, pochoirlaw19_LineOf.f k x0.f0 x0.f1 x1.f0 x1.f1 x2.f0 x2.f1 = some true

/-! ### line_Ray: function 42 -/
def line_Ray.f (k : Nat) (a0_0 : Int) (a0_1 : Int) (a1_0 : Int) (a1_1 : Int) (a2_0 : Int) (a2_1 : Int) (a3 : Int) (a4 : Int) : Option (Int × Int) := (line_scale_asked.f k a3 a4 (([(⟨a0_0, a0_1⟩ : S26), (⟨a1_0, a1_1⟩ : S26), (⟨a2_0, a2_1⟩ : S26)] : List (S26)))).bind fun t308 => (if t308 = 0 then ((line_ahead.f k a1_0 a1_1 a2_0 a2_1 a0_0 a0_1).bind fun t309 => (if t309 = true then ((line_scale_point.f k a3 a4 a0_0 a0_1 a1_0 a1_1).bind fun t310 => (some (t310, 0))) else ((line_scale_beside.f k a3 a4 a0_0 a0_1 a1_0 a1_1 a2_0 a2_1).bind fun t311 => (some (t311, 0))))) else (some (0, t308)))
theorem line_Ray.mono : ∀ a0 a1 a2 a3 a4 a5 a6 a7 k, LeO (line_Ray.f k a0 a1 a2 a3 a4 a5 a6 a7) (line_Ray.f (k + 1) a0 a1 a2 a3 a4 a5 a6 a7) := by
 intro a0 a1 a2 a3 a4 a5 a6 a7 k
 unfold line_Ray.f
 repeat' first
   | (with_reducible exact line_ahead.mono _ _ _ _ _ _ _)
   | (with_reducible exact line_scale_asked.mono _ _ _ _)
   | (with_reducible exact line_scale_beside.mono _ _ _ _ _ _ _ _ _)
   | (with_reducible exact line_scale_point.mono _ _ _ _ _ _ _)
   | (with_reducible exact LeO.refl _)
   | (with_reducible exact LeO.none _)
   | (with_reducible refine LeO.ite ?_ ?_)
   | (with_reducible refine LeO.bind ?_ (fun _ => ?_))
   | exact line_ahead.mono _ _ _ _ _ _ _
   | exact line_scale_asked.mono _ _ _ _
   | exact line_scale_beside.mono _ _ _ _ _ _ _ _ _
   | exact line_scale_point.mono _ _ _ _ _ _ _
   | exact LeO.none _
   | refine LeO.ite ?_ ?_
   | refine LeO.bind ?_ (fun _ => ?_)
set_option maxHeartbeats 8000000 in
set_option maxRecDepth 100000 in
theorem line_Ray.calls (k : Nat) (a0_0 : Int) (a0_1 : Int) (a1_0 : Int) (a1_1 : Int) (a2_0 : Int) (a2_1 : Int) (a3 : Int) (a4 : Int) (r1 : Int) (r2 : Int) (w : World) (h : line_Ray.f k a0_0 a0_1 a1_0 a1_1 a2_0 a2_1 a3 a4 = some (r1, r2)) :
  Calls Try.prog 42 #[.agg #[.int .i64 a0_0, .int .i64 a0_1], .agg #[.int .i64 a1_0, .int .i64 a1_1], .agg #[.int .i64 a2_0, .int .i64 a2_1], .int .i64 a3, .int .i64 a4] w fun e w' => e = .returned (.tuple #[.int .i64 r1, .int .i64 r2]) ∧ Below w.heap.size w w' := by
 have hu26 := Try.underlying26
 have hu89 := Try.underlying89
 have HB := Aside0.mk (Below.refl w.heap.size w)
 have H : ((line_scale_asked.f k a3 a4 (([(⟨a0_0, a0_1⟩ : S26), (⟨a1_0, a1_1⟩ : S26), (⟨a2_0, a2_1⟩ : S26)] : List (S26)))).bind fun t308 => (if t308 = 0 then ((line_ahead.f k a1_0 a1_1 a2_0 a2_1 a0_0 a0_1).bind fun t309 => (if t309 = true then ((line_scale_point.f k a3 a4 a0_0 a0_1 a1_0 a1_1).bind fun t310 => (some (t310, 0))) else ((line_scale_beside.f k a3 a4 a0_0 a0_1 a1_0 a1_1 a2_0 a2_1).bind fun t311 => (some (t311, 0))))) else (some (0, t308)))) = some (r1, r2) := h
 clear h
 obtain ⟨y305, hy305⟩ : ∃ y_ : List (S26), y_ = (([(⟨a0_0, a0_1⟩ : S26), (⟨a1_0, a1_1⟩ : S26), (⟨a2_0, a2_1⟩ : S26)] : List (S26))) := ⟨_, rfl⟩
 replace H : ((line_scale_asked.f k a3 a4 y305).bind fun t308 => (if t308 = 0 then ((line_ahead.f k a1_0 a1_1 a2_0 a2_1 a0_0 a0_1).bind fun t309 => (if t309 = true then ((line_scale_point.f k a3 a4 a0_0 a0_1 a1_0 a1_1).bind fun t310 => (some (t310, 0))) else ((line_scale_beside.f k a3 a4 a0_0 a0_1 a1_0 a1_1 a2_0 a2_1).bind fun t311 => (some (t311, 0))))) else (some (0, t308)))) = some (r1, r2) := by first | (rw [hy305]; with_reducible exact H) | (have H2_ := (Option.bind_some _ _).symm.trans H; rw [hy305]; with_reducible exact H2_) | (have H2_ := (Option.bind_some _ _).symm.trans H; with_reducible exact H2_) | with_reducible exact H | (rw [hy305]; exact H) | exact H
 have Ny305 := Aside0.mk hy305
 clear hy305
 replace H := Option.bind_eq_some_iff.mp H
 obtain ⟨t308, A60, H⟩ := H
 replace H : (if t308 = 0 then ((line_ahead.f k a1_0 a1_1 a2_0 a2_1 a0_0 a0_1).bind fun t309 => (if t309 = true then ((line_scale_point.f k a3 a4 a0_0 a0_1 a1_0 a1_1).bind fun t310 => (some (t310, 0))) else ((line_scale_beside.f k a3 a4 a0_0 a0_1 a1_0 a1_1 a2_0 a2_1).bind fun t311 => (some (t311, 0))))) else (some (0, t308))) = some (r1, r2) := H
 have A6 := Aside0.mk A60
 clear A60
 by_cases c7 : t308 = 0
 ·rw [if_pos c7] at H
  have c7b0 : (t308 == 0) = true := beq_iff_eq.mpr c7
  have c7b1 : (t308 != 0) = false := bne_eq_false_iff_eq.mpr c7
  clear c7
  replace H := Option.bind_eq_some_iff.mp H
  obtain ⟨t309, A80, H⟩ := H
  replace H : (if t309 = true then ((line_scale_point.f k a3 a4 a0_0 a0_1 a1_0 a1_1).bind fun t310 => (some (t310, 0))) else ((line_scale_beside.f k a3 a4 a0_0 a0_1 a1_0 a1_1 a2_0 a2_1).bind fun t311 => (some (t311, 0)))) = some (r1, r2) := H
  have A8 := Aside0.mk A80
  clear A80
  by_cases c9 : t309 = true
  ·subst c9
   have H1 : ((line_scale_point.f k a3 a4 a0_0 a0_1 a1_0 a1_1).bind fun t310 => (some (t310, 0))) = some (r1, r2) := by rw [if_pos rfl] at H; exact H
   clear H
   have H := H1
   clear H1
   replace H := Option.bind_eq_some_iff.mp H
   obtain ⟨t310, A100, H⟩ := H
   replace H : (some (t310, 0)) = some (r1, r2) := H
   have A10 := Aside0.mk A100
   clear A100
   simp only [Option.some.injEq, Prod.mk.injEq] at H
   obtain ⟨rfl, rfl⟩ := H
   go_enter Try.func42, Try.ntmps42
   go_wp2_with (first | ((with_reducible refine gate_dst (N := 5) rfl ?_); refine be 5 (#[.int .i64 a0_0, .int .i64 a0_1]) 26 ?_; intro gb301 hg w11 hbox hb; have BK301 := Aside0.mk (hbox); have GW301 := Aside0.mk ((by rw [hg]; exact (below_size (bl0 HB.out)) : w.heap.size ≤ gb301)); have GE301 := GW301; replace HB := Aside0.mk (below_step (bl0 HB.out) hb); clear hb hbox hg) | ((with_reducible refine gate_dst (N := 6) rfl ?_); refine be 6 (#[.int .i64 a1_0, .int .i64 a1_1]) 26 ?_; intro gb302 hg w12 hbox hb; have BK302 := Aside0.mk (hbox); have GW302 := Aside0.mk ((by rw [hg]; exact (below_size (bl1 HB.out GE301.out)) : w.heap.size ≤ gb302)); have GE302 := GW302; have NB301_302 := Aside0.mk ((by rw [hg]; exact Nat.ne_of_lt (lt_ BK301.out) : gb301 ≠ gb302)); have NB302_301 := Aside0.mk ((by rw [hg]; exact Nat.ne_of_gt (lt_ BK301.out) : gb302 ≠ gb301)); replace BK301 := Aside0.mk (bb BK301.out hb); replace HB := Aside0.mk (below_step (bl1 HB.out GE301.out) hb); clear hb hbox hg) | ((with_reducible refine gate_dst (N := 7) rfl ?_); refine be 7 (#[.int .i64 a2_0, .int .i64 a2_1]) 26 ?_; intro gb303 hg w13 hbox hb; have BK303 := Aside0.mk (hbox); have GW303 := Aside0.mk ((by rw [hg]; exact (below_size (bl2 HB.out GE301.out GE302.out)) : w.heap.size ≤ gb303)); have GE303 := GW303; have NB301_303 := Aside0.mk ((by rw [hg]; exact Nat.ne_of_lt (lt_ BK301.out) : gb301 ≠ gb303)); have NB303_301 := Aside0.mk ((by rw [hg]; exact Nat.ne_of_gt (lt_ BK301.out) : gb303 ≠ gb301)); have NB302_303 := Aside0.mk ((by rw [hg]; exact Nat.ne_of_lt (lt_ BK302.out) : gb302 ≠ gb303)); have NB303_302 := Aside0.mk ((by rw [hg]; exact Nat.ne_of_gt (lt_ BK302.out) : gb303 ≠ gb302)); replace BK301 := Aside0.mk (bb BK301.out hb); replace BK302 := Aside0.mk (bb BK302.out hb); replace HB := Aside0.mk (below_step (bl2 HB.out GE301.out GE302.out) hb); clear hb hbox hg) | ((with_reducible refine gate_dst (N := 12) rfl ?_); refine be 12 (#[.int .i64 0, .int .i64 0]) 89 ?_; intro gb304 hg w14 hbox hb; have BK304 := Aside0.mk (hbox); have GW304 := Aside0.mk ((by rw [hg]; exact (below_size (bl3 HB.out GE301.out GE302.out GE303.out)) : w.heap.size ≤ gb304)); have GE304 := GW304; have NB301_304 := Aside0.mk ((by rw [hg]; exact Nat.ne_of_lt (lt_ BK301.out) : gb301 ≠ gb304)); have NB304_301 := Aside0.mk ((by rw [hg]; exact Nat.ne_of_gt (lt_ BK301.out) : gb304 ≠ gb301)); have NB302_304 := Aside0.mk ((by rw [hg]; exact Nat.ne_of_lt (lt_ BK302.out) : gb302 ≠ gb304)); have NB304_302 := Aside0.mk ((by rw [hg]; exact Nat.ne_of_gt (lt_ BK302.out) : gb304 ≠ gb302)); have NB303_304 := Aside0.mk ((by rw [hg]; exact Nat.ne_of_lt (lt_ BK303.out) : gb303 ≠ gb304)); have NB304_303 := Aside0.mk ((by rw [hg]; exact Nat.ne_of_gt (lt_ BK303.out) : gb304 ≠ gb303)); replace BK301 := Aside0.mk (bb BK301.out hb); replace BK302 := Aside0.mk (bb BK302.out hb); replace BK303 := Aside0.mk (bb BK303.out hb); replace HB := Aside0.mk (below_step (bl3 HB.out GE301.out GE302.out GE303.out) hb); clear hb hbox hg; have hnb15 := NB304_301.out; have hnc15 := NB301_304.out; have hnb16 := NB304_302.out; have hnc16 := NB302_304.out; have hnb17 := NB304_303.out; have hnc17 := NB303_304.out; have hcz18_0 : w14.cell? ⟨gb304, 0, none⟩ = some (.int .i64 0) := (blk_cell BK304.out 0).trans rfl; have hcz18_1 : w14.cell? ⟨gb304, 1, none⟩ = some (.int .i64 0) := (blk_cell BK304.out 1).trans rfl; have hfz18_0 := blk_frozen BK304.out 0; have hfz18_1 := blk_frozen BK304.out 1; have hnb19 := NB301_302.out; have hnc19 := NB302_301.out; have hnb20 := NB301_303.out; have hnc20 := NB303_301.out; have hcz21_0 : w14.cell? ⟨gb301, 0, none⟩ = some (.int .i64 a0_0) := (blk_cell BK301.out 0).trans rfl; have hcz21_1 : w14.cell? ⟨gb301, 1, none⟩ = some (.int .i64 a0_1) := (blk_cell BK301.out 1).trans rfl; have hfz21_0 := blk_frozen BK301.out 0; have hfz21_1 := blk_frozen BK301.out 1; have hnb22 := NB302_303.out; have hnc22 := NB303_302.out; have hcz23_0 : w14.cell? ⟨gb302, 0, none⟩ = some (.int .i64 a1_0) := (blk_cell BK302.out 0).trans rfl; have hcz23_1 : w14.cell? ⟨gb302, 1, none⟩ = some (.int .i64 a1_1) := (blk_cell BK302.out 1).trans rfl; have hfz23_0 := blk_frozen BK302.out 0; have hfz23_1 := blk_frozen BK302.out 1; have hcz24_0 : w14.cell? ⟨gb303, 0, none⟩ = some (.int .i64 a2_0) := (blk_cell BK303.out 0).trans rfl; have hcz24_1 : w14.cell? ⟨gb303, 1, none⟩ = some (.int .i64 a2_1) := (blk_cell BK303.out 1).trans rfl; have hfz24_0 := blk_frozen BK303.out 0; have hfz24_1 := blk_frozen BK303.out 1) | ((with_reducible refine gate_dst (N := 21) rfl ?_); refine Kd.R_lit k26 _ 26 ?hg (N := 21) ?hd (xs := ([(⟨a0_0, a0_1⟩ : S26), (⟨a1_0, a1_1⟩ : S26), (⟨a2_0, a2_1⟩ : S26)] : List (S26))) (inner := [.int .i64 a0_0, .int .i64 a0_1, .int .i64 a1_0, .int .i64 a1_1, .int .i64 a2_0, .int .i64 a2_1]) (ok := fun _ => True) (okp := fun _ => True) ?hr ?hp (fun _ hk => hk) trivial (Below.refl _ _) (Nat.le_refl _) (by simp) ?_; (case hd => rfl); (case hg => rfl); (case hr => first | (go_simp; done) | (go_simp; rfl)); (case hp => exact (Reps.c2 (show Kd.M k26 _ _ _ (⟨a0_0, a0_1⟩ : S26) [.int .i64 a0_0, .int .i64 a0_1] from (k26_mkM _ _ _ (⟨a0_0, a0_1⟩ : S26) )) (Reps.c2 (show Kd.M k26 _ _ _ (⟨a1_0, a1_1⟩ : S26) [.int .i64 a1_0, .int .i64 a1_1] from (k26_mkM _ _ _ (⟨a1_0, a1_1⟩ : S26) )) (Reps.c2 (show Kd.M k26 _ _ _ (⟨a2_0, a2_1⟩ : S26) [.int .i64 a2_0, .int .i64 a2_1] from (k26_mkM _ _ _ (⟨a2_0, a2_1⟩ : S26) )) (Reps.none _ _))))); intro v306 w25 ho26 hb hg_ hnew_; clear hg_ hnew_; (first | rw [← Ny305.out] at ho26 | (simp only [Int.reduceToNat] at ho26; rw [← Ny305.out] at ho26)); have HO307 := Aside0.mk (Kd.R_lower (Kd.R_newB (Kd.R_newB (Kd.R_newB ho26 (g := gb301) (o := .cells #[.int .i64 a0_0, .int .i64 a0_1] 26 (0, 0)) (by (with_reducible repeat (first | refine blk_drewN ?_ _ | refine blk_drew ?_ | refine blk_alloc ?_ _)); refine blk_far ?_ NB301_304.out _; (with_reducible repeat (first | refine blk_drewN ?_ _ | refine blk_drew ?_ | refine blk_alloc ?_ _)); refine blk_far ?_ NB301_304.out _; (with_reducible repeat (first | refine blk_drewN ?_ _ | refine blk_drew ?_ | refine blk_alloc ?_ _)); exact BK301.out)) (g := gb302) (o := .cells #[.int .i64 a1_0, .int .i64 a1_1] 26 (0, 0)) (by (with_reducible repeat (first | refine blk_drewN ?_ _ | refine blk_drew ?_ | refine blk_alloc ?_ _)); refine blk_far ?_ NB302_304.out _; (with_reducible repeat (first | refine blk_drewN ?_ _ | refine blk_drew ?_ | refine blk_alloc ?_ _)); refine blk_far ?_ NB302_304.out _; (with_reducible repeat (first | refine blk_drewN ?_ _ | refine blk_drew ?_ | refine blk_alloc ?_ _)); exact BK302.out)) (g := gb303) (o := .cells #[.int .i64 a2_0, .int .i64 a2_1] 26 (0, 0)) (by (with_reducible repeat (first | refine blk_drewN ?_ _ | refine blk_drew ?_ | refine blk_alloc ?_ _)); refine blk_far ?_ NB303_304.out _; (with_reducible repeat (first | refine blk_drewN ?_ _ | refine blk_drew ?_ | refine blk_alloc ?_ _)); refine blk_far ?_ NB303_304.out _; (with_reducible repeat (first | refine blk_drewN ?_ _ | refine blk_drew ?_ | refine blk_alloc ?_ _)); exact BK303.out)) (below_size (bl4 HB.out GE301.out GE302.out GE303.out GE304.out))); replace BK301 := Aside0.mk (blk_below (g := gb301) (o := .cells #[.int .i64 a0_0, .int .i64 a0_1] 26 (0, 0)) (by (with_reducible repeat (first | refine blk_drewN ?_ _ | refine blk_drew ?_ | refine blk_alloc ?_ _)); refine blk_far ?_ NB301_304.out _; (with_reducible repeat (first | refine blk_drewN ?_ _ | refine blk_drew ?_ | refine blk_alloc ?_ _)); refine blk_far ?_ NB301_304.out _; (with_reducible repeat (first | refine blk_drewN ?_ _ | refine blk_drew ?_ | refine blk_alloc ?_ _)); exact BK301.out) hb); replace BK302 := Aside0.mk (blk_below (g := gb302) (o := .cells #[.int .i64 a1_0, .int .i64 a1_1] 26 (0, 0)) (by (with_reducible repeat (first | refine blk_drewN ?_ _ | refine blk_drew ?_ | refine blk_alloc ?_ _)); refine blk_far ?_ NB302_304.out _; (with_reducible repeat (first | refine blk_drewN ?_ _ | refine blk_drew ?_ | refine blk_alloc ?_ _)); refine blk_far ?_ NB302_304.out _; (with_reducible repeat (first | refine blk_drewN ?_ _ | refine blk_drew ?_ | refine blk_alloc ?_ _)); exact BK302.out) hb); replace BK303 := Aside0.mk (blk_below (g := gb303) (o := .cells #[.int .i64 a2_0, .int .i64 a2_1] 26 (0, 0)) (by (with_reducible repeat (first | refine blk_drewN ?_ _ | refine blk_drew ?_ | refine blk_alloc ?_ _)); refine blk_far ?_ NB303_304.out _; (with_reducible repeat (first | refine blk_drewN ?_ _ | refine blk_drew ?_ | refine blk_alloc ?_ _)); refine blk_far ?_ NB303_304.out _; (with_reducible repeat (first | refine blk_drewN ?_ _ | refine blk_drew ?_ | refine blk_alloc ?_ _)); exact BK303.out) hb); replace BK304 := Aside0.mk (blk_below (g := gb304) (o := .cells #[.int .i64 a3, .int .i64 a4] 89 (0, 0)) (bk (blk_put (cs := #[.int .i64 a3, .int .i64 0]) (bk (blk_put (cs := #[.int .i64 0, .int .i64 0]) (bk BK304.out) 0 _ rfl)) 1 _ rfl)) hb); replace HB := Aside0.mk (below_step (bl4 HB.out GE301.out GE302.out GE303.out GE304.out) hb); clear hb ho26; obtain ⟨Ao27, co27, eo27⟩ := Kd.R_slice HO307.out; subst eo27) | ((with_reducible refine gate_callee (f := 67) rfl ?_); refine goesL_ (some 22) rfl rfl Try.func67 (by kernel_rfl) rfl #[.agg #[.int .i64 a3, .int .i64 a4], .slice Ao27 y305.length co27] rfl am ?_; (with_reducible refine (line_scale_asked.calls k a3 a4 _ _ y305 t308 _ ?side1 ?side2 A6.out).mono ?_); (case side1 => repeat (first | exact (Kd.R_reads' HO307.out).2.2 | (with_reducible refine Kd.C_alloc ?_ _) | (with_reducible refine Kd.C_drewN ?_ _) | (with_reducible refine Kd.C_drew ?_))); (case side2 => exact (Kd.R_reads' HO307.out).2.1); rintro e w28 ⟨rfl, hb⟩; refine ⟨_, rfl, ?_⟩; replace HO307 := Aside0.mk (Kd.R_below (by (with_reducible repeat (first | apply Kd.R_alloc | apply Kd.R_drewN | apply Kd.R_drew)); exact HO307.out) hb); replace BK301 := Aside0.mk (bb BK301.out hb); replace BK302 := Aside0.mk (bb BK302.out hb); replace BK303 := Aside0.mk (bb BK303.out hb); replace BK304 := Aside0.mk (bb BK304.out hb); replace HB := Aside0.mk (below_step (bl4 HB.out GE301.out GE302.out GE303.out GE304.out) hb); (try clear hb); (try clear hb2); (try clear hk); (try clear hi); have hcz29_0 : w28.cell? ⟨gb302, 0, none⟩ = some (.int .i64 a1_0) := (blk_cell BK302.out 0).trans rfl; have hcz29_1 : w28.cell? ⟨gb302, 1, none⟩ = some (.int .i64 a1_1) := (blk_cell BK302.out 1).trans rfl; have hfz29_0 := blk_frozen BK302.out 0; have hfz29_1 := blk_frozen BK302.out 1; have hcz30_0 : w28.cell? ⟨gb303, 0, none⟩ = some (.int .i64 a2_0) := (blk_cell BK303.out 0).trans rfl; have hcz30_1 : w28.cell? ⟨gb303, 1, none⟩ = some (.int .i64 a2_1) := (blk_cell BK303.out 1).trans rfl; have hfz30_0 := blk_frozen BK303.out 0; have hfz30_1 := blk_frozen BK303.out 1; have hcz31_0 : w28.cell? ⟨gb301, 0, none⟩ = some (.int .i64 a0_0) := (blk_cell BK301.out 0).trans rfl; have hcz31_1 : w28.cell? ⟨gb301, 1, none⟩ = some (.int .i64 a0_1) := (blk_cell BK301.out 1).trans rfl; have hfz31_0 := blk_frozen BK301.out 0; have hfz31_1 := blk_frozen BK301.out 1) | ((with_reducible refine gate_callee (f := 69) rfl ?_); refine goesL_ (some 29) rfl rfl Try.func69 (by kernel_rfl) rfl #[.agg #[.int .i64 a1_0, .int .i64 a1_1], .agg #[.int .i64 a2_0, .int .i64 a2_1], .agg #[.int .i64 a0_0, .int .i64 a0_1]] rfl am ?_; (with_reducible refine (line_ahead.calls k a1_0 a1_1 a2_0 a2_1 a0_0 a0_1 true _ A8.out).mono ?_); rintro e w32 ⟨rfl, hb⟩; refine ⟨_, rfl, ?_⟩; replace HO307 := Aside0.mk (Kd.R_below (by (with_reducible repeat (first | apply Kd.R_alloc | apply Kd.R_drewN | apply Kd.R_drew)); exact HO307.out) hb); replace BK301 := Aside0.mk (bb BK301.out hb); replace BK302 := Aside0.mk (bb BK302.out hb); replace BK303 := Aside0.mk (bb BK303.out hb); replace BK304 := Aside0.mk (bb BK304.out hb); replace HB := Aside0.mk (below_step (bl4 HB.out GE301.out GE302.out GE303.out GE304.out) hb); (try clear hb); (try clear hb2); (try clear hk); (try clear hi); have hcz33_0 : w32.cell? ⟨gb304, 0, none⟩ = some (.int .i64 a3) := (blk_cell BK304.out 0).trans rfl; have hcz33_1 : w32.cell? ⟨gb304, 1, none⟩ = some (.int .i64 a4) := (blk_cell BK304.out 1).trans rfl; have hfz33_0 := blk_frozen BK304.out 0; have hfz33_1 := blk_frozen BK304.out 1; have hcz34_0 : w32.cell? ⟨gb301, 0, none⟩ = some (.int .i64 a0_0) := (blk_cell BK301.out 0).trans rfl; have hcz34_1 : w32.cell? ⟨gb301, 1, none⟩ = some (.int .i64 a0_1) := (blk_cell BK301.out 1).trans rfl; have hfz34_0 := blk_frozen BK301.out 0; have hfz34_1 := blk_frozen BK301.out 1; have hcz35_0 : w32.cell? ⟨gb302, 0, none⟩ = some (.int .i64 a1_0) := (blk_cell BK302.out 0).trans rfl; have hcz35_1 : w32.cell? ⟨gb302, 1, none⟩ = some (.int .i64 a1_1) := (blk_cell BK302.out 1).trans rfl; have hfz35_0 := blk_frozen BK302.out 0; have hfz35_1 := blk_frozen BK302.out 1) | ((with_reducible refine gate_callee (f := 68) rfl ?_); refine goesL_ (some 33) rfl rfl Try.func68 (by kernel_rfl) rfl #[.agg #[.int .i64 a3, .int .i64 a4], .agg #[.int .i64 a0_0, .int .i64 a0_1], .agg #[.int .i64 a1_0, .int .i64 a1_1]] rfl am ?_; (with_reducible refine (line_scale_point.calls k a3 a4 a0_0 a0_1 a1_0 a1_1 t310 _ A10.out).mono ?_); rintro e w36 ⟨rfl, hb⟩; refine ⟨_, rfl, ?_⟩; replace HO307 := Aside0.mk (Kd.R_below (by (with_reducible repeat (first | apply Kd.R_alloc | apply Kd.R_drewN | apply Kd.R_drew)); exact HO307.out) hb); replace BK301 := Aside0.mk (bb BK301.out hb); replace BK302 := Aside0.mk (bb BK302.out hb); replace BK303 := Aside0.mk (bb BK303.out hb); replace BK304 := Aside0.mk (bb BK304.out hb); replace HB := Aside0.mk (below_step (bl4 HB.out GE301.out GE302.out GE303.out GE304.out) hb); (try clear hb); (try clear hb2); (try clear hk); (try clear hi)))
   go_ret2
   exact ⟨by first | rfl | (simp [errW_none, errW_some] <;> rfl) | (simp [*, errW_none, errW_some] <;> rfl), bl4 HB.out GE301.out GE302.out GE303.out GE304.out⟩
  ·replace c9 := Bool.eq_false_iff.mpr c9
   subst c9
   have H1 : ((line_scale_beside.f k a3 a4 a0_0 a0_1 a1_0 a1_1 a2_0 a2_1).bind fun t311 => (some (t311, 0))) = some (r1, r2) := by rw [if_neg (show ¬ (false = true) by decide)] at H; exact H
   clear H
   have H := H1
   clear H1
   replace H := Option.bind_eq_some_iff.mp H
   obtain ⟨t311, A370, H⟩ := H
   replace H : (some (t311, 0)) = some (r1, r2) := H
   have A37 := Aside0.mk A370
   clear A370
   simp only [Option.some.injEq, Prod.mk.injEq] at H
   obtain ⟨rfl, rfl⟩ := H
   go_enter Try.func42, Try.ntmps42
   go_wp2_with (first | ((with_reducible refine gate_dst (N := 5) rfl ?_); refine be 5 (#[.int .i64 a0_0, .int .i64 a0_1]) 26 ?_; intro gb301 hg w38 hbox hb; have BK301 := Aside0.mk (hbox); have GW301 := Aside0.mk ((by rw [hg]; exact (below_size (bl0 HB.out)) : w.heap.size ≤ gb301)); have GE301 := GW301; replace HB := Aside0.mk (below_step (bl0 HB.out) hb); clear hb hbox hg) | ((with_reducible refine gate_dst (N := 6) rfl ?_); refine be 6 (#[.int .i64 a1_0, .int .i64 a1_1]) 26 ?_; intro gb302 hg w39 hbox hb; have BK302 := Aside0.mk (hbox); have GW302 := Aside0.mk ((by rw [hg]; exact (below_size (bl1 HB.out GE301.out)) : w.heap.size ≤ gb302)); have GE302 := GW302; have NB301_302 := Aside0.mk ((by rw [hg]; exact Nat.ne_of_lt (lt_ BK301.out) : gb301 ≠ gb302)); have NB302_301 := Aside0.mk ((by rw [hg]; exact Nat.ne_of_gt (lt_ BK301.out) : gb302 ≠ gb301)); replace BK301 := Aside0.mk (bb BK301.out hb); replace HB := Aside0.mk (below_step (bl1 HB.out GE301.out) hb); clear hb hbox hg) | ((with_reducible refine gate_dst (N := 7) rfl ?_); refine be 7 (#[.int .i64 a2_0, .int .i64 a2_1]) 26 ?_; intro gb303 hg w40 hbox hb; have BK303 := Aside0.mk (hbox); have GW303 := Aside0.mk ((by rw [hg]; exact (below_size (bl2 HB.out GE301.out GE302.out)) : w.heap.size ≤ gb303)); have GE303 := GW303; have NB301_303 := Aside0.mk ((by rw [hg]; exact Nat.ne_of_lt (lt_ BK301.out) : gb301 ≠ gb303)); have NB303_301 := Aside0.mk ((by rw [hg]; exact Nat.ne_of_gt (lt_ BK301.out) : gb303 ≠ gb301)); have NB302_303 := Aside0.mk ((by rw [hg]; exact Nat.ne_of_lt (lt_ BK302.out) : gb302 ≠ gb303)); have NB303_302 := Aside0.mk ((by rw [hg]; exact Nat.ne_of_gt (lt_ BK302.out) : gb303 ≠ gb302)); replace BK301 := Aside0.mk (bb BK301.out hb); replace BK302 := Aside0.mk (bb BK302.out hb); replace HB := Aside0.mk (below_step (bl2 HB.out GE301.out GE302.out) hb); clear hb hbox hg) | ((with_reducible refine gate_dst (N := 12) rfl ?_); refine be 12 (#[.int .i64 0, .int .i64 0]) 89 ?_; intro gb304 hg w41 hbox hb; have BK304 := Aside0.mk (hbox); have GW304 := Aside0.mk ((by rw [hg]; exact (below_size (bl3 HB.out GE301.out GE302.out GE303.out)) : w.heap.size ≤ gb304)); have GE304 := GW304; have NB301_304 := Aside0.mk ((by rw [hg]; exact Nat.ne_of_lt (lt_ BK301.out) : gb301 ≠ gb304)); have NB304_301 := Aside0.mk ((by rw [hg]; exact Nat.ne_of_gt (lt_ BK301.out) : gb304 ≠ gb301)); have NB302_304 := Aside0.mk ((by rw [hg]; exact Nat.ne_of_lt (lt_ BK302.out) : gb302 ≠ gb304)); have NB304_302 := Aside0.mk ((by rw [hg]; exact Nat.ne_of_gt (lt_ BK302.out) : gb304 ≠ gb302)); have NB303_304 := Aside0.mk ((by rw [hg]; exact Nat.ne_of_lt (lt_ BK303.out) : gb303 ≠ gb304)); have NB304_303 := Aside0.mk ((by rw [hg]; exact Nat.ne_of_gt (lt_ BK303.out) : gb304 ≠ gb303)); replace BK301 := Aside0.mk (bb BK301.out hb); replace BK302 := Aside0.mk (bb BK302.out hb); replace BK303 := Aside0.mk (bb BK303.out hb); replace HB := Aside0.mk (below_step (bl3 HB.out GE301.out GE302.out GE303.out) hb); clear hb hbox hg; have hnb42 := NB304_301.out; have hnc42 := NB301_304.out; have hnb43 := NB304_302.out; have hnc43 := NB302_304.out; have hnb44 := NB304_303.out; have hnc44 := NB303_304.out; have hcz45_0 : w41.cell? ⟨gb304, 0, none⟩ = some (.int .i64 0) := (blk_cell BK304.out 0).trans rfl; have hcz45_1 : w41.cell? ⟨gb304, 1, none⟩ = some (.int .i64 0) := (blk_cell BK304.out 1).trans rfl; have hfz45_0 := blk_frozen BK304.out 0; have hfz45_1 := blk_frozen BK304.out 1; have hnb46 := NB301_302.out; have hnc46 := NB302_301.out; have hnb47 := NB301_303.out; have hnc47 := NB303_301.out; have hcz48_0 : w41.cell? ⟨gb301, 0, none⟩ = some (.int .i64 a0_0) := (blk_cell BK301.out 0).trans rfl; have hcz48_1 : w41.cell? ⟨gb301, 1, none⟩ = some (.int .i64 a0_1) := (blk_cell BK301.out 1).trans rfl; have hfz48_0 := blk_frozen BK301.out 0; have hfz48_1 := blk_frozen BK301.out 1; have hnb49 := NB302_303.out; have hnc49 := NB303_302.out; have hcz50_0 : w41.cell? ⟨gb302, 0, none⟩ = some (.int .i64 a1_0) := (blk_cell BK302.out 0).trans rfl; have hcz50_1 : w41.cell? ⟨gb302, 1, none⟩ = some (.int .i64 a1_1) := (blk_cell BK302.out 1).trans rfl; have hfz50_0 := blk_frozen BK302.out 0; have hfz50_1 := blk_frozen BK302.out 1; have hcz51_0 : w41.cell? ⟨gb303, 0, none⟩ = some (.int .i64 a2_0) := (blk_cell BK303.out 0).trans rfl; have hcz51_1 : w41.cell? ⟨gb303, 1, none⟩ = some (.int .i64 a2_1) := (blk_cell BK303.out 1).trans rfl; have hfz51_0 := blk_frozen BK303.out 0; have hfz51_1 := blk_frozen BK303.out 1) | ((with_reducible refine gate_dst (N := 21) rfl ?_); refine Kd.R_lit k26 _ 26 ?hg (N := 21) ?hd (xs := ([(⟨a0_0, a0_1⟩ : S26), (⟨a1_0, a1_1⟩ : S26), (⟨a2_0, a2_1⟩ : S26)] : List (S26))) (inner := [.int .i64 a0_0, .int .i64 a0_1, .int .i64 a1_0, .int .i64 a1_1, .int .i64 a2_0, .int .i64 a2_1]) (ok := fun _ => True) (okp := fun _ => True) ?hr ?hp (fun _ hk => hk) trivial (Below.refl _ _) (Nat.le_refl _) (by simp) ?_; (case hd => rfl); (case hg => rfl); (case hr => first | (go_simp; done) | (go_simp; rfl)); (case hp => exact (Reps.c2 (show Kd.M k26 _ _ _ (⟨a0_0, a0_1⟩ : S26) [.int .i64 a0_0, .int .i64 a0_1] from (k26_mkM _ _ _ (⟨a0_0, a0_1⟩ : S26) )) (Reps.c2 (show Kd.M k26 _ _ _ (⟨a1_0, a1_1⟩ : S26) [.int .i64 a1_0, .int .i64 a1_1] from (k26_mkM _ _ _ (⟨a1_0, a1_1⟩ : S26) )) (Reps.c2 (show Kd.M k26 _ _ _ (⟨a2_0, a2_1⟩ : S26) [.int .i64 a2_0, .int .i64 a2_1] from (k26_mkM _ _ _ (⟨a2_0, a2_1⟩ : S26) )) (Reps.none _ _))))); intro v306 w52 ho53 hb hg_ hnew_; clear hg_ hnew_; (first | rw [← Ny305.out] at ho53 | (simp only [Int.reduceToNat] at ho53; rw [← Ny305.out] at ho53)); have HO307 := Aside0.mk (Kd.R_lower (Kd.R_newB (Kd.R_newB (Kd.R_newB ho53 (g := gb301) (o := .cells #[.int .i64 a0_0, .int .i64 a0_1] 26 (0, 0)) (by (with_reducible repeat (first | refine blk_drewN ?_ _ | refine blk_drew ?_ | refine blk_alloc ?_ _)); refine blk_far ?_ NB301_304.out _; (with_reducible repeat (first | refine blk_drewN ?_ _ | refine blk_drew ?_ | refine blk_alloc ?_ _)); refine blk_far ?_ NB301_304.out _; (with_reducible repeat (first | refine blk_drewN ?_ _ | refine blk_drew ?_ | refine blk_alloc ?_ _)); exact BK301.out)) (g := gb302) (o := .cells #[.int .i64 a1_0, .int .i64 a1_1] 26 (0, 0)) (by (with_reducible repeat (first | refine blk_drewN ?_ _ | refine blk_drew ?_ | refine blk_alloc ?_ _)); refine blk_far ?_ NB302_304.out _; (with_reducible repeat (first | refine blk_drewN ?_ _ | refine blk_drew ?_ | refine blk_alloc ?_ _)); refine blk_far ?_ NB302_304.out _; (with_reducible repeat (first | refine blk_drewN ?_ _ | refine blk_drew ?_ | refine blk_alloc ?_ _)); exact BK302.out)) (g := gb303) (o := .cells #[.int .i64 a2_0, .int .i64 a2_1] 26 (0, 0)) (by (with_reducible repeat (first | refine blk_drewN ?_ _ | refine blk_drew ?_ | refine blk_alloc ?_ _)); refine blk_far ?_ NB303_304.out _; (with_reducible repeat (first | refine blk_drewN ?_ _ | refine blk_drew ?_ | refine blk_alloc ?_ _)); refine blk_far ?_ NB303_304.out _; (with_reducible repeat (first | refine blk_drewN ?_ _ | refine blk_drew ?_ | refine blk_alloc ?_ _)); exact BK303.out)) (below_size (bl4 HB.out GE301.out GE302.out GE303.out GE304.out))); replace BK301 := Aside0.mk (blk_below (g := gb301) (o := .cells #[.int .i64 a0_0, .int .i64 a0_1] 26 (0, 0)) (by (with_reducible repeat (first | refine blk_drewN ?_ _ | refine blk_drew ?_ | refine blk_alloc ?_ _)); refine blk_far ?_ NB301_304.out _; (with_reducible repeat (first | refine blk_drewN ?_ _ | refine blk_drew ?_ | refine blk_alloc ?_ _)); refine blk_far ?_ NB301_304.out _; (with_reducible repeat (first | refine blk_drewN ?_ _ | refine blk_drew ?_ | refine blk_alloc ?_ _)); exact BK301.out) hb); replace BK302 := Aside0.mk (blk_below (g := gb302) (o := .cells #[.int .i64 a1_0, .int .i64 a1_1] 26 (0, 0)) (by (with_reducible repeat (first | refine blk_drewN ?_ _ | refine blk_drew ?_ | refine blk_alloc ?_ _)); refine blk_far ?_ NB302_304.out _; (with_reducible repeat (first | refine blk_drewN ?_ _ | refine blk_drew ?_ | refine blk_alloc ?_ _)); refine blk_far ?_ NB302_304.out _; (with_reducible repeat (first | refine blk_drewN ?_ _ | refine blk_drew ?_ | refine blk_alloc ?_ _)); exact BK302.out) hb); replace BK303 := Aside0.mk (blk_below (g := gb303) (o := .cells #[.int .i64 a2_0, .int .i64 a2_1] 26 (0, 0)) (by (with_reducible repeat (first | refine blk_drewN ?_ _ | refine blk_drew ?_ | refine blk_alloc ?_ _)); refine blk_far ?_ NB303_304.out _; (with_reducible repeat (first | refine blk_drewN ?_ _ | refine blk_drew ?_ | refine blk_alloc ?_ _)); refine blk_far ?_ NB303_304.out _; (with_reducible repeat (first | refine blk_drewN ?_ _ | refine blk_drew ?_ | refine blk_alloc ?_ _)); exact BK303.out) hb); replace BK304 := Aside0.mk (blk_below (g := gb304) (o := .cells #[.int .i64 a3, .int .i64 a4] 89 (0, 0)) (bk (blk_put (cs := #[.int .i64 a3, .int .i64 0]) (bk (blk_put (cs := #[.int .i64 0, .int .i64 0]) (bk BK304.out) 0 _ rfl)) 1 _ rfl)) hb); replace HB := Aside0.mk (below_step (bl4 HB.out GE301.out GE302.out GE303.out GE304.out) hb); clear hb ho53; obtain ⟨Ao54, co54, eo54⟩ := Kd.R_slice HO307.out; subst eo54) | ((with_reducible refine gate_callee (f := 67) rfl ?_); refine goesL_ (some 22) rfl rfl Try.func67 (by kernel_rfl) rfl #[.agg #[.int .i64 a3, .int .i64 a4], .slice Ao54 y305.length co54] rfl am ?_; (with_reducible refine (line_scale_asked.calls k a3 a4 _ _ y305 t308 _ ?side1 ?side2 A6.out).mono ?_); (case side1 => repeat (first | exact (Kd.R_reads' HO307.out).2.2 | (with_reducible refine Kd.C_alloc ?_ _) | (with_reducible refine Kd.C_drewN ?_ _) | (with_reducible refine Kd.C_drew ?_))); (case side2 => exact (Kd.R_reads' HO307.out).2.1); rintro e w55 ⟨rfl, hb⟩; refine ⟨_, rfl, ?_⟩; replace HO307 := Aside0.mk (Kd.R_below (by (with_reducible repeat (first | apply Kd.R_alloc | apply Kd.R_drewN | apply Kd.R_drew)); exact HO307.out) hb); replace BK301 := Aside0.mk (bb BK301.out hb); replace BK302 := Aside0.mk (bb BK302.out hb); replace BK303 := Aside0.mk (bb BK303.out hb); replace BK304 := Aside0.mk (bb BK304.out hb); replace HB := Aside0.mk (below_step (bl4 HB.out GE301.out GE302.out GE303.out GE304.out) hb); (try clear hb); (try clear hb2); (try clear hk); (try clear hi); have hcz56_0 : w55.cell? ⟨gb302, 0, none⟩ = some (.int .i64 a1_0) := (blk_cell BK302.out 0).trans rfl; have hcz56_1 : w55.cell? ⟨gb302, 1, none⟩ = some (.int .i64 a1_1) := (blk_cell BK302.out 1).trans rfl; have hfz56_0 := blk_frozen BK302.out 0; have hfz56_1 := blk_frozen BK302.out 1; have hcz57_0 : w55.cell? ⟨gb303, 0, none⟩ = some (.int .i64 a2_0) := (blk_cell BK303.out 0).trans rfl; have hcz57_1 : w55.cell? ⟨gb303, 1, none⟩ = some (.int .i64 a2_1) := (blk_cell BK303.out 1).trans rfl; have hfz57_0 := blk_frozen BK303.out 0; have hfz57_1 := blk_frozen BK303.out 1; have hcz58_0 : w55.cell? ⟨gb301, 0, none⟩ = some (.int .i64 a0_0) := (blk_cell BK301.out 0).trans rfl; have hcz58_1 : w55.cell? ⟨gb301, 1, none⟩ = some (.int .i64 a0_1) := (blk_cell BK301.out 1).trans rfl; have hfz58_0 := blk_frozen BK301.out 0; have hfz58_1 := blk_frozen BK301.out 1) | ((with_reducible refine gate_callee (f := 69) rfl ?_); refine goesL_ (some 29) rfl rfl Try.func69 (by kernel_rfl) rfl #[.agg #[.int .i64 a1_0, .int .i64 a1_1], .agg #[.int .i64 a2_0, .int .i64 a2_1], .agg #[.int .i64 a0_0, .int .i64 a0_1]] rfl am ?_; (with_reducible refine (line_ahead.calls k a1_0 a1_1 a2_0 a2_1 a0_0 a0_1 false _ A8.out).mono ?_); rintro e w59 ⟨rfl, hb⟩; refine ⟨_, rfl, ?_⟩; replace HO307 := Aside0.mk (Kd.R_below (by (with_reducible repeat (first | apply Kd.R_alloc | apply Kd.R_drewN | apply Kd.R_drew)); exact HO307.out) hb); replace BK301 := Aside0.mk (bb BK301.out hb); replace BK302 := Aside0.mk (bb BK302.out hb); replace BK303 := Aside0.mk (bb BK303.out hb); replace BK304 := Aside0.mk (bb BK304.out hb); replace HB := Aside0.mk (below_step (bl4 HB.out GE301.out GE302.out GE303.out GE304.out) hb); (try clear hb); (try clear hb2); (try clear hk); (try clear hi); have hcz60_0 : w59.cell? ⟨gb304, 0, none⟩ = some (.int .i64 a3) := (blk_cell BK304.out 0).trans rfl; have hcz60_1 : w59.cell? ⟨gb304, 1, none⟩ = some (.int .i64 a4) := (blk_cell BK304.out 1).trans rfl; have hfz60_0 := blk_frozen BK304.out 0; have hfz60_1 := blk_frozen BK304.out 1; have hcz61_0 : w59.cell? ⟨gb301, 0, none⟩ = some (.int .i64 a0_0) := (blk_cell BK301.out 0).trans rfl; have hcz61_1 : w59.cell? ⟨gb301, 1, none⟩ = some (.int .i64 a0_1) := (blk_cell BK301.out 1).trans rfl; have hfz61_0 := blk_frozen BK301.out 0; have hfz61_1 := blk_frozen BK301.out 1; have hcz62_0 : w59.cell? ⟨gb302, 0, none⟩ = some (.int .i64 a1_0) := (blk_cell BK302.out 0).trans rfl; have hcz62_1 : w59.cell? ⟨gb302, 1, none⟩ = some (.int .i64 a1_1) := (blk_cell BK302.out 1).trans rfl; have hfz62_0 := blk_frozen BK302.out 0; have hfz62_1 := blk_frozen BK302.out 1; have hcz63_0 : w59.cell? ⟨gb303, 0, none⟩ = some (.int .i64 a2_0) := (blk_cell BK303.out 0).trans rfl; have hcz63_1 : w59.cell? ⟨gb303, 1, none⟩ = some (.int .i64 a2_1) := (blk_cell BK303.out 1).trans rfl; have hfz63_0 := blk_frozen BK303.out 0; have hfz63_1 := blk_frozen BK303.out 1) | ((with_reducible refine gate_callee (f := 70) rfl ?_); refine goesL_ (some 38) rfl rfl Try.func70 (by kernel_rfl) rfl #[.agg #[.int .i64 a3, .int .i64 a4], .agg #[.int .i64 a0_0, .int .i64 a0_1], .agg #[.int .i64 a1_0, .int .i64 a1_1], .agg #[.int .i64 a2_0, .int .i64 a2_1]] rfl am ?_; (with_reducible refine (line_scale_beside.calls k a3 a4 a0_0 a0_1 a1_0 a1_1 a2_0 a2_1 t311 _ A37.out).mono ?_); rintro e w64 ⟨rfl, hb⟩; refine ⟨_, rfl, ?_⟩; replace HO307 := Aside0.mk (Kd.R_below (by (with_reducible repeat (first | apply Kd.R_alloc | apply Kd.R_drewN | apply Kd.R_drew)); exact HO307.out) hb); replace BK301 := Aside0.mk (bb BK301.out hb); replace BK302 := Aside0.mk (bb BK302.out hb); replace BK303 := Aside0.mk (bb BK303.out hb); replace BK304 := Aside0.mk (bb BK304.out hb); replace HB := Aside0.mk (below_step (bl4 HB.out GE301.out GE302.out GE303.out GE304.out) hb); (try clear hb); (try clear hb2); (try clear hk); (try clear hi)))
   go_ret2
   exact ⟨by first | rfl | (simp [errW_none, errW_some] <;> rfl) | (simp [*, errW_none, errW_some] <;> rfl), bl4 HB.out GE301.out GE302.out GE303.out GE304.out⟩
 ·rw [if_neg c7] at H
  have c7b0 : (t308 == 0) = false := beq_eq_false_iff_ne.mpr c7
  have c7b1 : (t308 != 0) = true := bne_iff_ne.mpr c7
  simp only [Option.some.injEq, Prod.mk.injEq] at H
  obtain ⟨rfl, rfl⟩ := H
  go_enter Try.func42, Try.ntmps42
  go_wp2_with (first | ((with_reducible refine gate_dst (N := 5) rfl ?_); refine be 5 (#[.int .i64 a0_0, .int .i64 a0_1]) 26 ?_; intro gb301 hg w65 hbox hb; have BK301 := Aside0.mk (hbox); have GW301 := Aside0.mk ((by rw [hg]; exact (below_size (bl0 HB.out)) : w.heap.size ≤ gb301)); have GE301 := GW301; replace HB := Aside0.mk (below_step (bl0 HB.out) hb); clear hb hbox hg) | ((with_reducible refine gate_dst (N := 6) rfl ?_); refine be 6 (#[.int .i64 a1_0, .int .i64 a1_1]) 26 ?_; intro gb302 hg w66 hbox hb; have BK302 := Aside0.mk (hbox); have GW302 := Aside0.mk ((by rw [hg]; exact (below_size (bl1 HB.out GE301.out)) : w.heap.size ≤ gb302)); have GE302 := GW302; have NB301_302 := Aside0.mk ((by rw [hg]; exact Nat.ne_of_lt (lt_ BK301.out) : gb301 ≠ gb302)); have NB302_301 := Aside0.mk ((by rw [hg]; exact Nat.ne_of_gt (lt_ BK301.out) : gb302 ≠ gb301)); replace BK301 := Aside0.mk (bb BK301.out hb); replace HB := Aside0.mk (below_step (bl1 HB.out GE301.out) hb); clear hb hbox hg) | ((with_reducible refine gate_dst (N := 7) rfl ?_); refine be 7 (#[.int .i64 a2_0, .int .i64 a2_1]) 26 ?_; intro gb303 hg w67 hbox hb; have BK303 := Aside0.mk (hbox); have GW303 := Aside0.mk ((by rw [hg]; exact (below_size (bl2 HB.out GE301.out GE302.out)) : w.heap.size ≤ gb303)); have GE303 := GW303; have NB301_303 := Aside0.mk ((by rw [hg]; exact Nat.ne_of_lt (lt_ BK301.out) : gb301 ≠ gb303)); have NB303_301 := Aside0.mk ((by rw [hg]; exact Nat.ne_of_gt (lt_ BK301.out) : gb303 ≠ gb301)); have NB302_303 := Aside0.mk ((by rw [hg]; exact Nat.ne_of_lt (lt_ BK302.out) : gb302 ≠ gb303)); have NB303_302 := Aside0.mk ((by rw [hg]; exact Nat.ne_of_gt (lt_ BK302.out) : gb303 ≠ gb302)); replace BK301 := Aside0.mk (bb BK301.out hb); replace BK302 := Aside0.mk (bb BK302.out hb); replace HB := Aside0.mk (below_step (bl2 HB.out GE301.out GE302.out) hb); clear hb hbox hg) | ((with_reducible refine gate_dst (N := 12) rfl ?_); refine be 12 (#[.int .i64 0, .int .i64 0]) 89 ?_; intro gb304 hg w68 hbox hb; have BK304 := Aside0.mk (hbox); have GW304 := Aside0.mk ((by rw [hg]; exact (below_size (bl3 HB.out GE301.out GE302.out GE303.out)) : w.heap.size ≤ gb304)); have GE304 := GW304; have NB301_304 := Aside0.mk ((by rw [hg]; exact Nat.ne_of_lt (lt_ BK301.out) : gb301 ≠ gb304)); have NB304_301 := Aside0.mk ((by rw [hg]; exact Nat.ne_of_gt (lt_ BK301.out) : gb304 ≠ gb301)); have NB302_304 := Aside0.mk ((by rw [hg]; exact Nat.ne_of_lt (lt_ BK302.out) : gb302 ≠ gb304)); have NB304_302 := Aside0.mk ((by rw [hg]; exact Nat.ne_of_gt (lt_ BK302.out) : gb304 ≠ gb302)); have NB303_304 := Aside0.mk ((by rw [hg]; exact Nat.ne_of_lt (lt_ BK303.out) : gb303 ≠ gb304)); have NB304_303 := Aside0.mk ((by rw [hg]; exact Nat.ne_of_gt (lt_ BK303.out) : gb304 ≠ gb303)); replace BK301 := Aside0.mk (bb BK301.out hb); replace BK302 := Aside0.mk (bb BK302.out hb); replace BK303 := Aside0.mk (bb BK303.out hb); replace HB := Aside0.mk (below_step (bl3 HB.out GE301.out GE302.out GE303.out) hb); clear hb hbox hg; have hnb69 := NB304_301.out; have hnc69 := NB301_304.out; have hnb70 := NB304_302.out; have hnc70 := NB302_304.out; have hnb71 := NB304_303.out; have hnc71 := NB303_304.out; have hcz72_0 : w68.cell? ⟨gb304, 0, none⟩ = some (.int .i64 0) := (blk_cell BK304.out 0).trans rfl; have hcz72_1 : w68.cell? ⟨gb304, 1, none⟩ = some (.int .i64 0) := (blk_cell BK304.out 1).trans rfl; have hfz72_0 := blk_frozen BK304.out 0; have hfz72_1 := blk_frozen BK304.out 1; have hnb73 := NB301_302.out; have hnc73 := NB302_301.out; have hnb74 := NB301_303.out; have hnc74 := NB303_301.out; have hcz75_0 : w68.cell? ⟨gb301, 0, none⟩ = some (.int .i64 a0_0) := (blk_cell BK301.out 0).trans rfl; have hcz75_1 : w68.cell? ⟨gb301, 1, none⟩ = some (.int .i64 a0_1) := (blk_cell BK301.out 1).trans rfl; have hfz75_0 := blk_frozen BK301.out 0; have hfz75_1 := blk_frozen BK301.out 1; have hnb76 := NB302_303.out; have hnc76 := NB303_302.out; have hcz77_0 : w68.cell? ⟨gb302, 0, none⟩ = some (.int .i64 a1_0) := (blk_cell BK302.out 0).trans rfl; have hcz77_1 : w68.cell? ⟨gb302, 1, none⟩ = some (.int .i64 a1_1) := (blk_cell BK302.out 1).trans rfl; have hfz77_0 := blk_frozen BK302.out 0; have hfz77_1 := blk_frozen BK302.out 1; have hcz78_0 : w68.cell? ⟨gb303, 0, none⟩ = some (.int .i64 a2_0) := (blk_cell BK303.out 0).trans rfl; have hcz78_1 : w68.cell? ⟨gb303, 1, none⟩ = some (.int .i64 a2_1) := (blk_cell BK303.out 1).trans rfl; have hfz78_0 := blk_frozen BK303.out 0; have hfz78_1 := blk_frozen BK303.out 1) | ((with_reducible refine gate_dst (N := 21) rfl ?_); refine Kd.R_lit k26 _ 26 ?hg (N := 21) ?hd (xs := ([(⟨a0_0, a0_1⟩ : S26), (⟨a1_0, a1_1⟩ : S26), (⟨a2_0, a2_1⟩ : S26)] : List (S26))) (inner := [.int .i64 a0_0, .int .i64 a0_1, .int .i64 a1_0, .int .i64 a1_1, .int .i64 a2_0, .int .i64 a2_1]) (ok := fun _ => True) (okp := fun _ => True) ?hr ?hp (fun _ hk => hk) trivial (Below.refl _ _) (Nat.le_refl _) (by simp) ?_; (case hd => rfl); (case hg => rfl); (case hr => first | (go_simp; done) | (go_simp; rfl)); (case hp => exact (Reps.c2 (show Kd.M k26 _ _ _ (⟨a0_0, a0_1⟩ : S26) [.int .i64 a0_0, .int .i64 a0_1] from (k26_mkM _ _ _ (⟨a0_0, a0_1⟩ : S26) )) (Reps.c2 (show Kd.M k26 _ _ _ (⟨a1_0, a1_1⟩ : S26) [.int .i64 a1_0, .int .i64 a1_1] from (k26_mkM _ _ _ (⟨a1_0, a1_1⟩ : S26) )) (Reps.c2 (show Kd.M k26 _ _ _ (⟨a2_0, a2_1⟩ : S26) [.int .i64 a2_0, .int .i64 a2_1] from (k26_mkM _ _ _ (⟨a2_0, a2_1⟩ : S26) )) (Reps.none _ _))))); intro v306 w79 ho80 hb hg_ hnew_; clear hg_ hnew_; (first | rw [← Ny305.out] at ho80 | (simp only [Int.reduceToNat] at ho80; rw [← Ny305.out] at ho80)); have HO307 := Aside0.mk (Kd.R_lower (Kd.R_newB (Kd.R_newB (Kd.R_newB ho80 (g := gb301) (o := .cells #[.int .i64 a0_0, .int .i64 a0_1] 26 (0, 0)) (by (with_reducible repeat (first | refine blk_drewN ?_ _ | refine blk_drew ?_ | refine blk_alloc ?_ _)); refine blk_far ?_ NB301_304.out _; (with_reducible repeat (first | refine blk_drewN ?_ _ | refine blk_drew ?_ | refine blk_alloc ?_ _)); refine blk_far ?_ NB301_304.out _; (with_reducible repeat (first | refine blk_drewN ?_ _ | refine blk_drew ?_ | refine blk_alloc ?_ _)); exact BK301.out)) (g := gb302) (o := .cells #[.int .i64 a1_0, .int .i64 a1_1] 26 (0, 0)) (by (with_reducible repeat (first | refine blk_drewN ?_ _ | refine blk_drew ?_ | refine blk_alloc ?_ _)); refine blk_far ?_ NB302_304.out _; (with_reducible repeat (first | refine blk_drewN ?_ _ | refine blk_drew ?_ | refine blk_alloc ?_ _)); refine blk_far ?_ NB302_304.out _; (with_reducible repeat (first | refine blk_drewN ?_ _ | refine blk_drew ?_ | refine blk_alloc ?_ _)); exact BK302.out)) (g := gb303) (o := .cells #[.int .i64 a2_0, .int .i64 a2_1] 26 (0, 0)) (by (with_reducible repeat (first | refine blk_drewN ?_ _ | refine blk_drew ?_ | refine blk_alloc ?_ _)); refine blk_far ?_ NB303_304.out _; (with_reducible repeat (first | refine blk_drewN ?_ _ | refine blk_drew ?_ | refine blk_alloc ?_ _)); refine blk_far ?_ NB303_304.out _; (with_reducible repeat (first | refine blk_drewN ?_ _ | refine blk_drew ?_ | refine blk_alloc ?_ _)); exact BK303.out)) (below_size (bl4 HB.out GE301.out GE302.out GE303.out GE304.out))); replace BK301 := Aside0.mk (blk_below (g := gb301) (o := .cells #[.int .i64 a0_0, .int .i64 a0_1] 26 (0, 0)) (by (with_reducible repeat (first | refine blk_drewN ?_ _ | refine blk_drew ?_ | refine blk_alloc ?_ _)); refine blk_far ?_ NB301_304.out _; (with_reducible repeat (first | refine blk_drewN ?_ _ | refine blk_drew ?_ | refine blk_alloc ?_ _)); refine blk_far ?_ NB301_304.out _; (with_reducible repeat (first | refine blk_drewN ?_ _ | refine blk_drew ?_ | refine blk_alloc ?_ _)); exact BK301.out) hb); replace BK302 := Aside0.mk (blk_below (g := gb302) (o := .cells #[.int .i64 a1_0, .int .i64 a1_1] 26 (0, 0)) (by (with_reducible repeat (first | refine blk_drewN ?_ _ | refine blk_drew ?_ | refine blk_alloc ?_ _)); refine blk_far ?_ NB302_304.out _; (with_reducible repeat (first | refine blk_drewN ?_ _ | refine blk_drew ?_ | refine blk_alloc ?_ _)); refine blk_far ?_ NB302_304.out _; (with_reducible repeat (first | refine blk_drewN ?_ _ | refine blk_drew ?_ | refine blk_alloc ?_ _)); exact BK302.out) hb); replace BK303 := Aside0.mk (blk_below (g := gb303) (o := .cells #[.int .i64 a2_0, .int .i64 a2_1] 26 (0, 0)) (by (with_reducible repeat (first | refine blk_drewN ?_ _ | refine blk_drew ?_ | refine blk_alloc ?_ _)); refine blk_far ?_ NB303_304.out _; (with_reducible repeat (first | refine blk_drewN ?_ _ | refine blk_drew ?_ | refine blk_alloc ?_ _)); refine blk_far ?_ NB303_304.out _; (with_reducible repeat (first | refine blk_drewN ?_ _ | refine blk_drew ?_ | refine blk_alloc ?_ _)); exact BK303.out) hb); replace BK304 := Aside0.mk (blk_below (g := gb304) (o := .cells #[.int .i64 a3, .int .i64 a4] 89 (0, 0)) (bk (blk_put (cs := #[.int .i64 a3, .int .i64 0]) (bk (blk_put (cs := #[.int .i64 0, .int .i64 0]) (bk BK304.out) 0 _ rfl)) 1 _ rfl)) hb); replace HB := Aside0.mk (below_step (bl4 HB.out GE301.out GE302.out GE303.out GE304.out) hb); clear hb ho80; obtain ⟨Ao81, co81, eo81⟩ := Kd.R_slice HO307.out; subst eo81) | ((with_reducible refine gate_callee (f := 67) rfl ?_); refine goesL_ (some 22) rfl rfl Try.func67 (by kernel_rfl) rfl #[.agg #[.int .i64 a3, .int .i64 a4], .slice Ao81 y305.length co81] rfl am ?_; (with_reducible refine (line_scale_asked.calls k a3 a4 _ _ y305 t308 _ ?side1 ?side2 A6.out).mono ?_); (case side1 => repeat (first | exact (Kd.R_reads' HO307.out).2.2 | (with_reducible refine Kd.C_alloc ?_ _) | (with_reducible refine Kd.C_drewN ?_ _) | (with_reducible refine Kd.C_drew ?_))); (case side2 => exact (Kd.R_reads' HO307.out).2.1); rintro e w82 ⟨rfl, hb⟩; refine ⟨_, rfl, ?_⟩; replace HO307 := Aside0.mk (Kd.R_below (by (with_reducible repeat (first | apply Kd.R_alloc | apply Kd.R_drewN | apply Kd.R_drew)); exact HO307.out) hb); replace BK301 := Aside0.mk (bb BK301.out hb); replace BK302 := Aside0.mk (bb BK302.out hb); replace BK303 := Aside0.mk (bb BK303.out hb); replace BK304 := Aside0.mk (bb BK304.out hb); replace HB := Aside0.mk (below_step (bl4 HB.out GE301.out GE302.out GE303.out GE304.out) hb); (try clear hb); (try clear hb2); (try clear hk); (try clear hi)))
  go_ret2
  exact ⟨by first | rfl | (simp [errW_none, errW_some] <;> rfl) | (simp [*, errW_none, errW_some] <;> rfl), bl4 HB.out GE301.out GE302.out GE303.out GE304.out⟩

/-! ### pochoirref18_May: function 21 -/
def pochoirref18_May.f (a0_0 : Int) (a0_1 : Int) : Option (Bool) := if a0_0 ≥ (-33554432) then (if a0_0 ≤ 33554432 then (if a0_1 ≥ (-33554432) then (some (decide (a0_1 ≤ 33554432))) else (some false)) else (some false)) else (some false)
set_option maxHeartbeats 8000000 in
set_option maxRecDepth 100000 in
theorem pochoirref18_May.calls (a0_0 : Int) (a0_1 : Int) (r : Bool) (w : World) (h : pochoirref18_May.f a0_0 a0_1 = some r) :
  Calls Try.prog 21 #[.agg #[.int .i64 a0_0, .int .i64 a0_1]] w fun e w' => e = .returned (.bool r) ∧ Below w.heap.size w w' := by
 have hu26 := Try.underlying26
 have HB := Aside0.mk (Below.refl w.heap.size w)
 have H : (if a0_0 ≥ (-33554432) then (if a0_0 ≤ 33554432 then (if a0_1 ≥ (-33554432) then (some (decide (a0_1 ≤ 33554432))) else (some false)) else (some false)) else (some false)) = some r := h
 clear h
 by_cases c2 : a0_0 ≥ (-33554432)
 ·rw [if_pos c2] at H
  have c2b0 : decide ((-33554432) ≤ a0_0) = true := decide_eq_true c2
  clear c2
  by_cases c3 : a0_0 ≤ 33554432
  ·rw [if_pos c3] at H
   have c3b0 : decide (a0_0 ≤ 33554432) = true := decide_eq_true c3
   clear c3
   by_cases c4 : a0_1 ≥ (-33554432)
   ·rw [if_pos c4] at H
    have c4b0 : decide ((-33554432) ≤ a0_1) = true := decide_eq_true c4
    clear c4
    obtain rfl := Option.some.inj H
    go_enter Try.func21, Try.ntmps21
    go_wp2_with (first | ((with_reducible refine gate_dst (N := 1) rfl ?_); refine be 1 (#[.int .i64 a0_0, .int .i64 a0_1]) 26 ?_; intro gb312 hg w5 hbox hb; have BK312 := Aside0.mk (hbox); have GW312 := Aside0.mk ((by rw [hg]; exact (below_size (bl0 HB.out)) : w.heap.size ≤ gb312)); have GE312 := GW312; replace HB := Aside0.mk (below_step (bl0 HB.out) hb); clear hb hbox hg; have hcz6_0 : w5.cell? ⟨gb312, 0, none⟩ = some (.int .i64 a0_0) := (blk_cell BK312.out 0).trans rfl; have hcz6_1 : w5.cell? ⟨gb312, 1, none⟩ = some (.int .i64 a0_1) := (blk_cell BK312.out 1).trans rfl; have hfz6_0 := blk_frozen BK312.out 0; have hfz6_1 := blk_frozen BK312.out 1))
    go_ret
    exact ⟨by first | rfl | (simp [errW_none, errW_some] <;> rfl) | (simp [*, errW_none, errW_some] <;> rfl), bl1 HB.out GE312.out⟩
   ·rw [if_neg c4] at H
    have c4b0 : decide ((-33554432) ≤ a0_1) = false := decide_eq_false c4
    clear c4
    obtain rfl := Option.some.inj H
    go_enter Try.func21, Try.ntmps21
    go_wp2_with (first | ((with_reducible refine gate_dst (N := 1) rfl ?_); refine be 1 (#[.int .i64 a0_0, .int .i64 a0_1]) 26 ?_; intro gb312 hg w7 hbox hb; have BK312 := Aside0.mk (hbox); have GW312 := Aside0.mk ((by rw [hg]; exact (below_size (bl0 HB.out)) : w.heap.size ≤ gb312)); have GE312 := GW312; replace HB := Aside0.mk (below_step (bl0 HB.out) hb); clear hb hbox hg; have hcz8_0 : w7.cell? ⟨gb312, 0, none⟩ = some (.int .i64 a0_0) := (blk_cell BK312.out 0).trans rfl; have hcz8_1 : w7.cell? ⟨gb312, 1, none⟩ = some (.int .i64 a0_1) := (blk_cell BK312.out 1).trans rfl; have hfz8_0 := blk_frozen BK312.out 0; have hfz8_1 := blk_frozen BK312.out 1))
    go_ret
    exact ⟨by first | rfl | (simp [errW_none, errW_some] <;> rfl) | (simp [*, errW_none, errW_some] <;> rfl), bl1 HB.out GE312.out⟩
  ·rw [if_neg c3] at H
   have c3b0 : decide (a0_0 ≤ 33554432) = false := decide_eq_false c3
   clear c3
   obtain rfl := Option.some.inj H
   go_enter Try.func21, Try.ntmps21
   go_wp2_with (first | ((with_reducible refine gate_dst (N := 1) rfl ?_); refine be 1 (#[.int .i64 a0_0, .int .i64 a0_1]) 26 ?_; intro gb312 hg w9 hbox hb; have BK312 := Aside0.mk (hbox); have GW312 := Aside0.mk ((by rw [hg]; exact (below_size (bl0 HB.out)) : w.heap.size ≤ gb312)); have GE312 := GW312; replace HB := Aside0.mk (below_step (bl0 HB.out) hb); clear hb hbox hg; have hcz10_0 : w9.cell? ⟨gb312, 0, none⟩ = some (.int .i64 a0_0) := (blk_cell BK312.out 0).trans rfl; have hcz10_1 : w9.cell? ⟨gb312, 1, none⟩ = some (.int .i64 a0_1) := (blk_cell BK312.out 1).trans rfl; have hfz10_0 := blk_frozen BK312.out 0; have hfz10_1 := blk_frozen BK312.out 1))
   go_ret
   exact ⟨by first | rfl | (simp [errW_none, errW_some] <;> rfl) | (simp [*, errW_none, errW_some] <;> rfl), bl1 HB.out GE312.out⟩
 ·rw [if_neg c2] at H
  have c2b0 : decide ((-33554432) ≤ a0_0) = false := decide_eq_false c2
  clear c2
  obtain rfl := Option.some.inj H
  go_enter Try.func21, Try.ntmps21
  go_wp2_with (first | ((with_reducible refine gate_dst (N := 1) rfl ?_); refine be 1 (#[.int .i64 a0_0, .int .i64 a0_1]) 26 ?_; intro gb312 hg w11 hbox hb; have BK312 := Aside0.mk (hbox); have GW312 := Aside0.mk ((by rw [hg]; exact (below_size (bl0 HB.out)) : w.heap.size ≤ gb312)); have GE312 := GW312; replace HB := Aside0.mk (below_step (bl0 HB.out) hb); clear hb hbox hg; have hcz12_0 : w11.cell? ⟨gb312, 0, none⟩ = some (.int .i64 a0_0) := (blk_cell BK312.out 0).trans rfl; have hcz12_1 : w11.cell? ⟨gb312, 1, none⟩ = some (.int .i64 a0_1) := (blk_cell BK312.out 1).trans rfl; have hfz12_0 := blk_frozen BK312.out 0; have hfz12_1 := blk_frozen BK312.out 1))
  go_ret
  exact ⟨by first | rfl | (simp [errW_none, errW_some] <;> rfl) | (simp [*, errW_none, errW_some] <;> rfl), bl1 HB.out GE312.out⟩

/-! ### pochoirref18_all: function 49 -/
def pochoirref18_all.l0 : Nat → List (S26) → Int → Option (Bool)
 | 0, _, _ => none
 | k + 1, x0, x3 => if x3 < (x0.length : Int) then (if 0 ≤ x3 then ((pochoirref18_May.f ((rd_T26 x0 x3).f0) ((rd_T26 x0 x3).f1)).bind fun t314 => (if t314 = true then (pochoirref18_all.l0 k x0 (wrap64 (x3 + 1))) else (some false))) else (none)) else (some true)
def pochoirref18_all.f (k : Nat) (l0 : List (S26)) : Option (Bool) := pochoirref18_all.l0 k l0 0
theorem pochoirref18_all.mono_l : ∀ k, (∀ y0 y1, LeO (pochoirref18_all.l0 k y0 y1) (pochoirref18_all.l0 (k + 1) y0 y1))
 | 0 => fun _ _ r h => by simp [pochoirref18_all.l0] at h
 | k + 1 => by
  have ih0 := pochoirref18_all.mono_l k
  ·intro y0 y1
   unfold pochoirref18_all.l0
   repeat' first
   | (with_reducible exact ih0 _ _)
   | (with_reducible exact LeO.refl _)
   | (with_reducible exact LeO.none _)
   | (with_reducible refine LeO.ite ?_ ?_)
   | (with_reducible refine LeO.bind ?_ (fun _ => ?_))
   | exact ih0 _ _
   | exact LeO.none _
   | refine LeO.ite ?_ ?_
   | refine LeO.bind ?_ (fun _ => ?_)
theorem pochoirref18_all.mono : ∀ a0 k, LeO (pochoirref18_all.f k a0) (pochoirref18_all.f (k + 1) a0) := by
 intro a0 k
 have ih0 := pochoirref18_all.mono_l k
 unfold pochoirref18_all.f
 repeat' first
   | (with_reducible exact ih0 _ _)
   | (with_reducible exact LeO.refl _)
   | (with_reducible exact LeO.none _)
   | (with_reducible refine LeO.ite ?_ ?_)
   | (with_reducible refine LeO.bind ?_ (fun _ => ?_))
   | exact ih0 _ _
   | exact LeO.none _
   | refine LeO.ite ?_ ?_
   | refine LeO.bind ?_ (fun _ => ?_)
set_option maxHeartbeats 8000000 in
set_option maxRecDepth 100000 in
theorem pochoirref18_all.calls (k : Nat) (A0 : Option Addr) (c0 : Nat) (l0 : List (S26)) (r : Bool) (w : World) (hr0 : Kd.C k26 w A0 l0.length l0) (hc0 : l0.length ≤ c0) (h : pochoirref18_all.f k l0 = some r) :
  Calls Try.prog 49 #[.slice A0 l0.length c0] w fun e w' => e = .returned (.bool r) ∧ Below w.heap.size w w' := by
 have hu26 := Try.underlying26
 have HR0 := Aside0.mk hr0
 have HC0 := Aside0.mk hc0
 clear hr0 hc0
 have HB := Aside0.mk (Below.refl w.heap.size w)
 have H : (pochoirref18_all.l0 k l0 0) = some r := h
 clear h
 have H' := Aside0.mk H
 clear H
 go_enter Try.func49, Try.ntmps49
 go_wp2
 go_loopg [3] k (fun kq v3 w' => ∃ (x3_1 : Int), v3 = .int .i64 x3_1 ∧ Aside0 (pochoirref18_all.l0 kq l0 x3_1 = some r) ∧ Aside0 (kq ≤ k) ∧ Aside0 (Below w.heap.size w w'))
 case atStart => exact ⟨(0), fr, H', ⟨Nat.le_refl _⟩, ⟨bl0 HB.out⟩⟩
 case round =>
  clear H'
  obtain ⟨x3_1, rfl, HA, HK1, HB⟩ := hrel
  cases gk with
  | zero => exact absurd HA.out (by simp [pochoirref18_all.l0])
  | succ k1 =>
   have H := HA.out
   clear HA
   simp only [pochoirref18_all.l0] at H
   by_cases c2 : x3_1 < (l0.length : Int)
   ·rw [if_pos c2] at H
    have c2b0 : decide (x3_1 < (l0.length : Int)) = true := decide_eq_true c2
    clear c2
    by_cases c3 : 0 ≤ x3_1
    ·rw [if_pos c3] at H
     have c3b0 : decide (0 ≤ x3_1) = true := decide_eq_true c3
     clear c3
     replace H := Option.bind_eq_some_iff.mp H
     obtain ⟨t314, A40, H⟩ := H
     replace H : (if t314 = true then (pochoirref18_all.l0 k1 l0 (wrap64 (x3_1 + 1))) else (some false)) = some r := H
     have A4 := Aside0.mk A40
     clear A40
     by_cases c5 : t314 = true
     ·subst c5
      have H1 : (pochoirref18_all.l0 k1 l0 (wrap64 (x3_1 + 1))) = some r := by rw [if_pos rfl] at H; exact H
      clear H
      have H := H1
      clear H1
      have H' := Aside0.mk H
      clear H
      have p313 : 0 ≤ (x3_1 : Int) := of_decide_eq_true (by first | (with_reducible assumption) | assumption)
      have q313 : x3_1 < (l0.length : Int) := of_decide_eq_true (by first | (with_reducible assumption) | assumption)
      obtain ⟨ad313, e313, hx313_0, hx313_1⟩ := at_T26 HR0.out x3_1 p313 q313
      cases e313
      replace hx313_0 := (HB.out.cell (World.block_lt_of_cell? w _ hx313_0)).trans hx313_0
      replace hx313_1 := (HB.out.cell (World.block_lt_of_cell? w _ hx313_1)).trans hx313_1
      replace p313 := eq_true p313
      replace q313 := eq_true q313
      go_wp2_with (first | ((with_reducible refine gate_callee (f := 21) rfl ?_); refine goesL_ (some 14) rfl rfl Try.func21 (by kernel_rfl) rfl #[.agg #[.int .i64 ((rd_T26 l0 x3_1).f0), .int .i64 ((rd_T26 l0 x3_1).f1)]] rfl am ?_; (with_reducible refine (pochoirref18_May.calls ((rd_T26 l0 x3_1).f0) ((rd_T26 l0 x3_1).f1) true _ A4.out).mono ?_); rintro e w6 ⟨rfl, hb⟩; refine ⟨_, rfl, ?_⟩; replace HB := Aside0.mk (below_step (bl0 HB.out) hb); (try clear hb); (try clear hb2); (try clear hk); (try clear hi)))
      go_roundg k1
      case measure => have := HK1.out; omega
      case rel => exact ⟨(wrap64 (x3_1 + 1)), fr, H', ⟨by have := HK1.out; omega⟩, ⟨bl0 HB.out⟩⟩
     ·replace c5 := Bool.eq_false_iff.mpr c5
      subst c5
      have H1 : (some false) = some r := by rw [if_neg (show ¬ (false = true) by decide)] at H; exact H
      clear H
      have H := H1
      clear H1
      obtain rfl := Option.some.inj H
      have p313 : 0 ≤ (x3_1 : Int) := of_decide_eq_true (by first | (with_reducible assumption) | assumption)
      have q313 : x3_1 < (l0.length : Int) := of_decide_eq_true (by first | (with_reducible assumption) | assumption)
      obtain ⟨ad313, e313, hx313_0, hx313_1⟩ := at_T26 HR0.out x3_1 p313 q313
      cases e313
      replace hx313_0 := (HB.out.cell (World.block_lt_of_cell? w _ hx313_0)).trans hx313_0
      replace hx313_1 := (HB.out.cell (World.block_lt_of_cell? w _ hx313_1)).trans hx313_1
      replace p313 := eq_true p313
      replace q313 := eq_true q313
      go_wp2_with (first | ((with_reducible refine gate_callee (f := 21) rfl ?_); refine goesL_ (some 14) rfl rfl Try.func21 (by kernel_rfl) rfl #[.agg #[.int .i64 ((rd_T26 l0 x3_1).f0), .int .i64 ((rd_T26 l0 x3_1).f1)]] rfl am ?_; (with_reducible refine (pochoirref18_May.calls ((rd_T26 l0 x3_1).f0) ((rd_T26 l0 x3_1).f1) false _ A4.out).mono ?_); rintro e w7 ⟨rfl, hb⟩; refine ⟨_, rfl, ?_⟩; replace HB := Aside0.mk (below_step (bl0 HB.out) hb); (try clear hb); (try clear hb2); (try clear hk); (try clear hi)))
      go_ret
      exact ⟨by first | rfl | (simp [errW_none, errW_some] <;> rfl) | (simp [*, errW_none, errW_some] <;> rfl), bl0 HB.out⟩
    ·rw [if_neg c3] at H
     exact absurd H (by simp)
   ·rw [if_neg c2] at H
    have c2b0 : decide (x3_1 < (l0.length : Int)) = false := decide_eq_false c2
    clear c2
    obtain rfl := Option.some.inj H
    go_wp2
    go_ret
    exact ⟨by first | rfl | (simp [errW_none, errW_some] <;> rfl) | (simp [*, errW_none, errW_some] <;> rfl), bl0 HB.out⟩

/-! ### pochoirref18_Asked: function 15 -/
def pochoirref18_Asked.f (k : Nat) (l0 : List (S26)) : Option (Int) := (pochoirref18_all.f k l0).bind fun t315 => (if t315 = true then (some 0) else (some 1))
theorem pochoirref18_Asked.mono : ∀ a0 k, LeO (pochoirref18_Asked.f k a0) (pochoirref18_Asked.f (k + 1) a0) := by
 intro a0 k
 unfold pochoirref18_Asked.f
 repeat' first
   | (with_reducible exact pochoirref18_all.mono _ _)
   | (with_reducible exact LeO.refl _)
   | (with_reducible exact LeO.none _)
   | (with_reducible refine LeO.ite ?_ ?_)
   | (with_reducible refine LeO.bind ?_ (fun _ => ?_))
   | exact pochoirref18_all.mono _ _
   | exact LeO.none _
   | refine LeO.ite ?_ ?_
   | refine LeO.bind ?_ (fun _ => ?_)
set_option maxHeartbeats 8000000 in
set_option maxRecDepth 100000 in
theorem pochoirref18_Asked.calls (k : Nat) (A0 : Option Addr) (c0 : Nat) (l0 : List (S26)) (r : Int) (w : World) (hr0 : Kd.C k26 w A0 l0.length l0) (hc0 : l0.length ≤ c0) (h : pochoirref18_Asked.f k l0 = some r) :
  Calls Try.prog 15 #[.slice A0 l0.length c0] w fun e w' => e = .returned (.int .i64 r) ∧ Below w.heap.size w w' := by
 have HR0 := Aside0.mk hr0
 have HC0 := Aside0.mk hc0
 clear hr0 hc0
 have HB := Aside0.mk (Below.refl w.heap.size w)
 have H : ((pochoirref18_all.f k l0).bind fun t315 => (if t315 = true then (some 0) else (some 1))) = some r := h
 clear h
 replace H := Option.bind_eq_some_iff.mp H
 obtain ⟨t315, A20, H⟩ := H
 replace H : (if t315 = true then (some 0) else (some 1)) = some r := H
 have A2 := Aside0.mk A20
 clear A20
 by_cases c3 : t315 = true
 ·subst c3
  have H1 : (some 0) = some r := by rw [if_pos rfl] at H; exact H
  clear H
  have H := H1
  clear H1
  obtain rfl := Option.some.inj H
  go_enter Try.func15, Try.ntmps15
  go_wp2_with (first | ((with_reducible refine gate_callee (f := 49) rfl ?_); refine goesL_ (some 4) rfl rfl Try.func49 (by kernel_rfl) rfl #[.slice A0 l0.length c0] rfl am ?_; (with_reducible refine (pochoirref18_all.calls k _ _ l0 true _ ?side1 ?side2 A2.out).mono ?_); (case side1 => repeat (first | exact HR0.out | (with_reducible refine Kd.C_alloc ?_ _) | (with_reducible refine Kd.C_drewN ?_ _) | (with_reducible refine Kd.C_drew ?_))); (case side2 => exact HC0.out); rintro e w4 ⟨rfl, hb⟩; refine ⟨_, rfl, ?_⟩; replace HB := Aside0.mk (below_step (bl0 HB.out) hb); (try clear hb); (try clear hb2); (try clear hk); (try clear hi)))
  go_ret
  exact ⟨by first | rfl | (simp [errW_none, errW_some] <;> rfl) | (simp [*, errW_none, errW_some] <;> rfl), bl0 HB.out⟩
 ·replace c3 := Bool.eq_false_iff.mpr c3
  subst c3
  have H1 : (some 1) = some r := by rw [if_neg (show ¬ (false = true) by decide)] at H; exact H
  clear H
  have H := H1
  clear H1
  obtain rfl := Option.some.inj H
  go_enter Try.func15, Try.ntmps15
  go_wp2_with (first | ((with_reducible refine gate_callee (f := 49) rfl ?_); refine goesL_ (some 4) rfl rfl Try.func49 (by kernel_rfl) rfl #[.slice A0 l0.length c0] rfl am ?_; (with_reducible refine (pochoirref18_all.calls k _ _ l0 false _ ?side1 ?side2 A2.out).mono ?_); (case side1 => repeat (first | exact HR0.out | (with_reducible refine Kd.C_alloc ?_ _) | (with_reducible refine Kd.C_drewN ?_ _) | (with_reducible refine Kd.C_drew ?_))); (case side2 => exact HC0.out); rintro e w5 ⟨rfl, hb⟩; refine ⟨_, rfl, ?_⟩; replace HB := Aside0.mk (below_step (bl0 HB.out) hb); (try clear hb); (try clear hb2); (try clear hk); (try clear hi)))
  go_ret
  exact ⟨by first | rfl | (simp [errW_none, errW_some] <;> rfl) | (simp [*, errW_none, errW_some] <;> rfl), bl0 HB.out⟩

/-! ### pochoirref19_Asked: function 43 -/
def pochoirref19_Asked.f (k : Nat) (l0 : List (S26)) (a1 : Int) (a2 : Int) : Option (Int) := (pochoirref19_Right.f a1 a2).bind fun t316 => (if t316 = true then ((pochoirref18_Asked.f k l0).bind fun t317 => (some t317)) else (some 1))
theorem pochoirref19_Asked.mono : ∀ a0 a1 a2 k, LeO (pochoirref19_Asked.f k a0 a1 a2) (pochoirref19_Asked.f (k + 1) a0 a1 a2) := by
 intro a0 a1 a2 k
 unfold pochoirref19_Asked.f
 repeat' first
   | (with_reducible exact pochoirref18_Asked.mono _ _)
   | (with_reducible exact LeO.refl _)
   | (with_reducible exact LeO.none _)
   | (with_reducible refine LeO.ite ?_ ?_)
   | (with_reducible refine LeO.bind ?_ (fun _ => ?_))
   | exact pochoirref18_Asked.mono _ _
   | exact LeO.none _
   | refine LeO.ite ?_ ?_
   | refine LeO.bind ?_ (fun _ => ?_)
set_option maxHeartbeats 8000000 in
set_option maxRecDepth 100000 in
theorem pochoirref19_Asked.calls (k : Nat) (A0 : Option Addr) (c0 : Nat) (l0 : List (S26)) (a1 : Int) (a2 : Int) (r : Int) (w : World) (hr0 : Kd.C k26 w A0 l0.length l0) (hc0 : l0.length ≤ c0) (h : pochoirref19_Asked.f k l0 a1 a2 = some r) :
  Calls Try.prog 43 #[.slice A0 l0.length c0, .int .i64 a1, .int .i64 a2] w fun e w' => e = .returned (.int .i64 r) ∧ Below w.heap.size w w' := by
 have HR0 := Aside0.mk hr0
 have HC0 := Aside0.mk hc0
 clear hr0 hc0
 have HB := Aside0.mk (Below.refl w.heap.size w)
 have H : ((pochoirref19_Right.f a1 a2).bind fun t316 => (if t316 = true then ((pochoirref18_Asked.f k l0).bind fun t317 => (some t317)) else (some 1))) = some r := h
 clear h
 replace H := Option.bind_eq_some_iff.mp H
 obtain ⟨t316, A40, H⟩ := H
 replace H : (if t316 = true then ((pochoirref18_Asked.f k l0).bind fun t317 => (some t317)) else (some 1)) = some r := H
 have A4 := Aside0.mk A40
 clear A40
 by_cases c5 : t316 = true
 ·subst c5
  have H1 : ((pochoirref18_Asked.f k l0).bind fun t317 => (some t317)) = some r := by rw [if_pos rfl] at H; exact H
  clear H
  have H := H1
  clear H1
  replace H := Option.bind_eq_some_iff.mp H
  obtain ⟨t317, A60, H⟩ := H
  replace H : (some t317) = some r := H
  have A6 := Aside0.mk A60
  clear A60
  obtain rfl := Option.some.inj H
  go_enter Try.func43, Try.ntmps43
  go_wp2_with (first | ((with_reducible refine gate_callee (f := 65) rfl ?_); refine goesL_ (some 9) rfl rfl Try.func65 (by kernel_rfl) rfl #[.int .i64 a1, .int .i64 a2] rfl am ?_; (with_reducible refine (pochoirref19_Right.calls a1 a2 true _ A4.out).mono ?_); rintro e w' ⟨rfl, ⟨nd, rfl⟩⟩; refine ⟨_, rfl, ?_⟩) | ((with_reducible refine gate_callee (f := 15) rfl ?_); refine goesL_ (some 12) rfl rfl Try.func15 (by kernel_rfl) rfl #[.slice A0 l0.length c0] rfl am ?_; (with_reducible refine (pochoirref18_Asked.calls k _ _ l0 t317 _ ?side1 ?side2 A6.out).mono ?_); (case side1 => repeat (first | exact HR0.out | (with_reducible refine Kd.C_alloc ?_ _) | (with_reducible refine Kd.C_drewN ?_ _) | (with_reducible refine Kd.C_drew ?_))); (case side2 => exact HC0.out); rintro e w7 ⟨rfl, hb⟩; refine ⟨_, rfl, ?_⟩; replace HB := Aside0.mk (below_step (bl0 HB.out) hb); (try clear hb); (try clear hb2); (try clear hk); (try clear hi)))
  go_ret
  exact ⟨by first | rfl | (simp [errW_none, errW_some] <;> rfl) | (simp [*, errW_none, errW_some] <;> rfl), bl0 HB.out⟩
 ·replace c5 := Bool.eq_false_iff.mpr c5
  subst c5
  have H1 : (some 1) = some r := by rw [if_neg (show ¬ (false = true) by decide)] at H; exact H
  clear H
  have H := H1
  clear H1
  obtain rfl := Option.some.inj H
  go_enter Try.func43, Try.ntmps43
  go_wp2_with (first | ((with_reducible refine gate_callee (f := 65) rfl ?_); refine goesL_ (some 9) rfl rfl Try.func65 (by kernel_rfl) rfl #[.int .i64 a1, .int .i64 a2] rfl am ?_; (with_reducible refine (pochoirref19_Right.calls a1 a2 false _ A4.out).mono ?_); rintro e w' ⟨rfl, ⟨nd, rfl⟩⟩; refine ⟨_, rfl, ?_⟩))
  go_ret
  exact ⟨by first | rfl | (simp [errW_none, errW_some] <;> rfl) | (simp [*, errW_none, errW_some] <;> rfl), bl0 HB.out⟩

/-! ### pochoirref18_Dot: function 22 -/
def pochoirref18_Dot.f (a0_0 : Int) (a0_1 : Int) (a1_0 : Int) (a1_1 : Int) (a2_0 : Int) (a2_1 : Int) : Option (Int) := some (wrap64 ((wrap64 ((wrap64 (a1_0 - a0_0)) * (wrap64 (a2_0 - a0_0)))) + (wrap64 ((wrap64 (a1_1 - a0_1)) * (wrap64 (a2_1 - a0_1))))))
set_option maxHeartbeats 8000000 in
set_option maxRecDepth 100000 in
theorem pochoirref18_Dot.calls (a0_0 : Int) (a0_1 : Int) (a1_0 : Int) (a1_1 : Int) (a2_0 : Int) (a2_1 : Int) (r : Int) (w : World) (h : pochoirref18_Dot.f a0_0 a0_1 a1_0 a1_1 a2_0 a2_1 = some r) :
  Calls Try.prog 22 #[.agg #[.int .i64 a0_0, .int .i64 a0_1], .agg #[.int .i64 a1_0, .int .i64 a1_1], .agg #[.int .i64 a2_0, .int .i64 a2_1]] w fun e w' => e = .returned (.int .i64 r) ∧ Below w.heap.size w w' := by
 have hu26 := Try.underlying26
 have HB := Aside0.mk (Below.refl w.heap.size w)
 have H : (some (wrap64 ((wrap64 ((wrap64 (a1_0 - a0_0)) * (wrap64 (a2_0 - a0_0)))) + (wrap64 ((wrap64 (a1_1 - a0_1)) * (wrap64 (a2_1 - a0_1))))))) = some r := h
 clear h
 obtain rfl := Option.some.inj H
 go_enter Try.func22, Try.ntmps22
 go_wp2_with (first | ((with_reducible refine gate_dst (N := 3) rfl ?_); refine be 3 (#[.int .i64 a0_0, .int .i64 a0_1]) 26 ?_; intro gb318 hg w4 hbox hb; have BK318 := Aside0.mk (hbox); have GW318 := Aside0.mk ((by rw [hg]; exact (below_size (bl0 HB.out)) : w.heap.size ≤ gb318)); have GE318 := GW318; replace HB := Aside0.mk (below_step (bl0 HB.out) hb); clear hb hbox hg) | ((with_reducible refine gate_dst (N := 4) rfl ?_); refine be 4 (#[.int .i64 a1_0, .int .i64 a1_1]) 26 ?_; intro gb319 hg w5 hbox hb; have BK319 := Aside0.mk (hbox); have GW319 := Aside0.mk ((by rw [hg]; exact (below_size (bl1 HB.out GE318.out)) : w.heap.size ≤ gb319)); have GE319 := GW319; have NB318_319 := Aside0.mk ((by rw [hg]; exact Nat.ne_of_lt (lt_ BK318.out) : gb318 ≠ gb319)); have NB319_318 := Aside0.mk ((by rw [hg]; exact Nat.ne_of_gt (lt_ BK318.out) : gb319 ≠ gb318)); replace BK318 := Aside0.mk (bb BK318.out hb); replace HB := Aside0.mk (below_step (bl1 HB.out GE318.out) hb); clear hb hbox hg) | ((with_reducible refine gate_dst (N := 5) rfl ?_); refine be 5 (#[.int .i64 a2_0, .int .i64 a2_1]) 26 ?_; intro gb320 hg w6 hbox hb; have BK320 := Aside0.mk (hbox); have GW320 := Aside0.mk ((by rw [hg]; exact (below_size (bl2 HB.out GE318.out GE319.out)) : w.heap.size ≤ gb320)); have GE320 := GW320; have NB318_320 := Aside0.mk ((by rw [hg]; exact Nat.ne_of_lt (lt_ BK318.out) : gb318 ≠ gb320)); have NB320_318 := Aside0.mk ((by rw [hg]; exact Nat.ne_of_gt (lt_ BK318.out) : gb320 ≠ gb318)); have NB319_320 := Aside0.mk ((by rw [hg]; exact Nat.ne_of_lt (lt_ BK319.out) : gb319 ≠ gb320)); have NB320_319 := Aside0.mk ((by rw [hg]; exact Nat.ne_of_gt (lt_ BK319.out) : gb320 ≠ gb319)); replace BK318 := Aside0.mk (bb BK318.out hb); replace BK319 := Aside0.mk (bb BK319.out hb); replace HB := Aside0.mk (below_step (bl2 HB.out GE318.out GE319.out) hb); clear hb hbox hg; have hnb7 := NB319_318.out; have hnc7 := NB318_319.out; have hnb8 := NB319_320.out; have hnc8 := NB320_319.out; have hcz9_0 : w6.cell? ⟨gb319, 0, none⟩ = some (.int .i64 a1_0) := (blk_cell BK319.out 0).trans rfl; have hcz9_1 : w6.cell? ⟨gb319, 1, none⟩ = some (.int .i64 a1_1) := (blk_cell BK319.out 1).trans rfl; have hfz9_0 := blk_frozen BK319.out 0; have hfz9_1 := blk_frozen BK319.out 1; have hnb10 := NB318_320.out; have hnc10 := NB320_318.out; have hcz11_0 : w6.cell? ⟨gb318, 0, none⟩ = some (.int .i64 a0_0) := (blk_cell BK318.out 0).trans rfl; have hcz11_1 : w6.cell? ⟨gb318, 1, none⟩ = some (.int .i64 a0_1) := (blk_cell BK318.out 1).trans rfl; have hfz11_0 := blk_frozen BK318.out 0; have hfz11_1 := blk_frozen BK318.out 1; have hcz12_0 : w6.cell? ⟨gb320, 0, none⟩ = some (.int .i64 a2_0) := (blk_cell BK320.out 0).trans rfl; have hcz12_1 : w6.cell? ⟨gb320, 1, none⟩ = some (.int .i64 a2_1) := (blk_cell BK320.out 1).trans rfl; have hfz12_0 := blk_frozen BK320.out 0; have hfz12_1 := blk_frozen BK320.out 1))
 go_ret
 exact ⟨by first | rfl | (simp [errW_none, errW_some] <;> rfl) | (simp [*, errW_none, errW_some] <;> rfl), bl3 HB.out GE318.out GE319.out GE320.out⟩

/-! ### pochoirref19_Near: function 44 -/
def pochoirref19_Near.f (k : Nat) (a0_0 : Int) (a0_1 : Int) (a1_0 : Int) (a1_1 : Int) (a2 : Int) (a3 : Int) : Option (Int) := (pochoirref18_Dot.f a0_0 a0_1 a1_0 a1_1 a1_0 a1_1).bind fun t323 => ((pochoirref19_digits.f k (IntKind.u64.wrap (t323))).bind fun t324 => ((pochoirref19_digits.f k 1).bind fun t327 => ((pochoirref19_level.f k t324 t327 a2 a3).bind fun t330 => (some t330))))
theorem pochoirref19_Near.mono : ∀ a0 a1 a2 a3 a4 a5 k, LeO (pochoirref19_Near.f k a0 a1 a2 a3 a4 a5) (pochoirref19_Near.f (k + 1) a0 a1 a2 a3 a4 a5) := by
 intro a0 a1 a2 a3 a4 a5 k
 unfold pochoirref19_Near.f
 repeat' first
   | (with_reducible exact pochoirref19_digits.mono _ _)
   | (with_reducible exact pochoirref19_level.mono _ _ _ _ _)
   | (with_reducible exact LeO.refl _)
   | (with_reducible exact LeO.none _)
   | (with_reducible refine LeO.ite ?_ ?_)
   | (with_reducible refine LeO.bind ?_ (fun _ => ?_))
   | exact pochoirref19_digits.mono _ _
   | exact pochoirref19_level.mono _ _ _ _ _
   | exact LeO.none _
   | refine LeO.ite ?_ ?_
   | refine LeO.bind ?_ (fun _ => ?_)
set_option maxHeartbeats 8000000 in
set_option maxRecDepth 100000 in
theorem pochoirref19_Near.calls (k : Nat) (a0_0 : Int) (a0_1 : Int) (a1_0 : Int) (a1_1 : Int) (a2 : Int) (a3 : Int) (r : Int) (w : World) (h : pochoirref19_Near.f k a0_0 a0_1 a1_0 a1_1 a2 a3 = some r) :
  Calls Try.prog 44 #[.agg #[.int .i64 a0_0, .int .i64 a0_1], .agg #[.int .i64 a1_0, .int .i64 a1_1], .int .i64 a2, .int .i64 a3] w fun e w' => e = .returned (.int .i64 r) ∧ Below w.heap.size w w' := by
 have hu26 := Try.underlying26
 have HB := Aside0.mk (Below.refl w.heap.size w)
 have H : ((pochoirref18_Dot.f a0_0 a0_1 a1_0 a1_1 a1_0 a1_1).bind fun t323 => ((pochoirref19_digits.f k (IntKind.u64.wrap (t323))).bind fun t324 => ((pochoirref19_digits.f k 1).bind fun t327 => ((pochoirref19_level.f k t324 t327 a2 a3).bind fun t330 => (some t330))))) = some r := h
 clear h
 replace H := Option.bind_eq_some_iff.mp H
 obtain ⟨t323, A50, H⟩ := H
 replace H : ((pochoirref19_digits.f k (IntKind.u64.wrap (t323))).bind fun t324 => ((pochoirref19_digits.f k 1).bind fun t327 => ((pochoirref19_level.f k t324 t327 a2 a3).bind fun t330 => (some t330)))) = some r := H
 have A5 := Aside0.mk A50
 clear A50
 replace H := Option.bind_eq_some_iff.mp H
 obtain ⟨t324, A60, H⟩ := H
 replace H : ((pochoirref19_digits.f k 1).bind fun t327 => ((pochoirref19_level.f k t324 t327 a2 a3).bind fun t330 => (some t330))) = some r := H
 have A6 := Aside0.mk A60
 clear A60
 replace H := Option.bind_eq_some_iff.mp H
 obtain ⟨t327, A70, H⟩ := H
 replace H : ((pochoirref19_level.f k t324 t327 a2 a3).bind fun t330 => (some t330)) = some r := H
 have A7 := Aside0.mk A70
 clear A70
 replace H := Option.bind_eq_some_iff.mp H
 obtain ⟨t330, A80, H⟩ := H
 replace H : (some t330) = some r := H
 have A8 := Aside0.mk A80
 clear A80
 obtain rfl := Option.some.inj H
 go_enter Try.func44, Try.ntmps44
 go_wp2_with (first | ((with_reducible refine gate_dst (N := 4) rfl ?_); refine be 4 (#[.int .i64 a0_0, .int .i64 a0_1]) 26 ?_; intro gb321 hg w9 hbox hb; have BK321 := Aside0.mk (hbox); have GW321 := Aside0.mk ((by rw [hg]; exact (below_size (bl0 HB.out)) : w.heap.size ≤ gb321)); have GE321 := GW321; replace HB := Aside0.mk (below_step (bl0 HB.out) hb); clear hb hbox hg) | ((with_reducible refine gate_dst (N := 5) rfl ?_); refine be 5 (#[.int .i64 a1_0, .int .i64 a1_1]) 26 ?_; intro gb322 hg w10 hbox hb; have BK322 := Aside0.mk (hbox); have GW322 := Aside0.mk ((by rw [hg]; exact (below_size (bl1 HB.out GE321.out)) : w.heap.size ≤ gb322)); have GE322 := GW322; have NB321_322 := Aside0.mk ((by rw [hg]; exact Nat.ne_of_lt (lt_ BK321.out) : gb321 ≠ gb322)); have NB322_321 := Aside0.mk ((by rw [hg]; exact Nat.ne_of_gt (lt_ BK321.out) : gb322 ≠ gb321)); replace BK321 := Aside0.mk (bb BK321.out hb); replace HB := Aside0.mk (below_step (bl1 HB.out GE321.out) hb); clear hb hbox hg; have hnb11 := NB321_322.out; have hnc11 := NB322_321.out; have hcz12_0 : w10.cell? ⟨gb321, 0, none⟩ = some (.int .i64 a0_0) := (blk_cell BK321.out 0).trans rfl; have hcz12_1 : w10.cell? ⟨gb321, 1, none⟩ = some (.int .i64 a0_1) := (blk_cell BK321.out 1).trans rfl; have hfz12_0 := blk_frozen BK321.out 0; have hfz12_1 := blk_frozen BK321.out 1; have hcz13_0 : w10.cell? ⟨gb322, 0, none⟩ = some (.int .i64 a1_0) := (blk_cell BK322.out 0).trans rfl; have hcz13_1 : w10.cell? ⟨gb322, 1, none⟩ = some (.int .i64 a1_1) := (blk_cell BK322.out 1).trans rfl; have hfz13_0 := blk_frozen BK322.out 0; have hfz13_1 := blk_frozen BK322.out 1) | ((with_reducible refine gate_callee (f := 22) rfl ?_); refine goesL_ (some 12) rfl rfl Try.func22 (by kernel_rfl) rfl #[.agg #[.int .i64 a0_0, .int .i64 a0_1], .agg #[.int .i64 a1_0, .int .i64 a1_1], .agg #[.int .i64 a1_0, .int .i64 a1_1]] rfl am ?_; (with_reducible refine (pochoirref18_Dot.calls a0_0 a0_1 a1_0 a1_1 a1_0 a1_1 t323 _ A5.out).mono ?_); rintro e w14 ⟨rfl, hb⟩; refine ⟨_, rfl, ?_⟩; replace BK321 := Aside0.mk (bb BK321.out hb); replace BK322 := Aside0.mk (bb BK322.out hb); replace HB := Aside0.mk (below_step (bl2 HB.out GE321.out GE322.out) hb); (try clear hb); (try clear hb2); (try clear hk); (try clear hi)) | ((with_reducible refine gate_callee (f := 71) rfl ?_); refine goesL_ (some 14) rfl rfl Try.func71 (by kernel_rfl) rfl #[.int .u64 (IntKind.u64.wrap (t323))] rfl am ?_; (with_reducible refine (pochoirref19_digits.calls k (IntKind.u64.wrap (t323)) t324 _ A6.out).mono ?_); rintro e w15 ⟨v325, rfl, ho0, hb⟩; refine ⟨_, rfl, ?_⟩; have HO326 := Aside0.mk (Kd.R_lower ho0 (below_size (bl2 HB.out GE321.out GE322.out))); replace BK321 := Aside0.mk (bb BK321.out hb); replace BK322 := Aside0.mk (bb BK322.out hb); replace HB := Aside0.mk (below_step (bl2 HB.out GE321.out GE322.out) hb); (try clear hb); (try clear hb2); (try clear hk); (try clear hi); (try clear ho0)) | ((with_reducible refine gate_callee (f := 71) rfl ?_); refine goesL_ (some 15) rfl rfl Try.func71 (by kernel_rfl) rfl #[.int .u64 1] rfl am ?_; (with_reducible refine (pochoirref19_digits.calls k 1 t327 _ A7.out).mono ?_); rintro e w16 ⟨v328, rfl, ho0, hb⟩; refine ⟨_, rfl, ?_⟩; have HO329 := Aside0.mk (Kd.R_lower (Kd.R_new' ho0 (Kd.R_lt (by (with_reducible repeat (first | apply Kd.R_alloc | apply Kd.R_drewN | apply Kd.R_drew)); exact HO326.out))) (below_size (bl2 HB.out GE321.out GE322.out))); replace HO326 := Aside0.mk (Kd.R_elder' (by (with_reducible repeat (first | apply Kd.R_alloc | apply Kd.R_drewN | apply Kd.R_drew)); exact HO326.out) (Kd.R_base ho0) hb); replace BK321 := Aside0.mk (bb BK321.out hb); replace BK322 := Aside0.mk (bb BK322.out hb); replace HB := Aside0.mk (below_step (bl2 HB.out GE321.out GE322.out) hb); (try clear hb); (try clear hb2); (try clear hk); (try clear hi); (try clear ho0); obtain ⟨Ao17, co17, eo17⟩ := Kd.R_slice HO326.out; subst eo17; obtain ⟨Ao18, co18, eo18⟩ := Kd.R_slice HO329.out; subst eo18) | ((with_reducible refine gate_callee (f := 66) rfl ?_); refine goesL_ (some 18) rfl rfl Try.func66 (by kernel_rfl) rfl #[.slice Ao17 t324.length co17, .slice Ao18 t327.length co18, .int .i64 a2, .int .i64 a3] rfl am ?_; (with_reducible refine (pochoirref19_level.calls k _ _ t324 _ _ t327 a2 a3 t330 _ ?side1 ?side2 ?side3 ?side4 A8.out).mono ?_); (case side1 => repeat (first | exact (Kd.R_reads' HO326.out).2.2 | (with_reducible refine Kd.C_alloc ?_ _) | (with_reducible refine Kd.C_drewN ?_ _) | (with_reducible refine Kd.C_drew ?_))); (case side2 => exact (Kd.R_reads' HO326.out).2.1); (case side3 => repeat (first | exact (Kd.R_reads' HO329.out).2.2 | (with_reducible refine Kd.C_alloc ?_ _) | (with_reducible refine Kd.C_drewN ?_ _) | (with_reducible refine Kd.C_drew ?_))); (case side4 => exact (Kd.R_reads' HO329.out).2.1); rintro e w19 ⟨rfl, hb⟩; refine ⟨_, rfl, ?_⟩; replace HO326 := Aside0.mk (Kd.R_below (by (with_reducible repeat (first | apply Kd.R_alloc | apply Kd.R_drewN | apply Kd.R_drew)); exact HO326.out) hb); replace HO329 := Aside0.mk (Kd.R_below (by (with_reducible repeat (first | apply Kd.R_alloc | apply Kd.R_drewN | apply Kd.R_drew)); exact HO329.out) hb); replace BK321 := Aside0.mk (bb BK321.out hb); replace BK322 := Aside0.mk (bb BK322.out hb); replace HB := Aside0.mk (below_step (bl2 HB.out GE321.out GE322.out) hb); (try clear hb); (try clear hb2); (try clear hk); (try clear hi)))
 go_ret
 exact ⟨by first | rfl | (simp [errW_none, errW_some] <;> rfl) | (simp [*, errW_none, errW_some] <;> rfl), bl2 HB.out GE321.out GE322.out⟩

/-! ### pochoirref18_Cross: function 23 -/
def pochoirref18_Cross.f (a0_0 : Int) (a0_1 : Int) (a1_0 : Int) (a1_1 : Int) (a2_0 : Int) (a2_1 : Int) : Option (Int) := some (wrap64 ((wrap64 ((wrap64 (a1_0 - a0_0)) * (wrap64 (a2_1 - a0_1)))) - (wrap64 ((wrap64 (a1_1 - a0_1)) * (wrap64 (a2_0 - a0_0))))))
set_option maxHeartbeats 8000000 in
set_option maxRecDepth 100000 in
theorem pochoirref18_Cross.calls (a0_0 : Int) (a0_1 : Int) (a1_0 : Int) (a1_1 : Int) (a2_0 : Int) (a2_1 : Int) (r : Int) (w : World) (h : pochoirref18_Cross.f a0_0 a0_1 a1_0 a1_1 a2_0 a2_1 = some r) :
  Calls Try.prog 23 #[.agg #[.int .i64 a0_0, .int .i64 a0_1], .agg #[.int .i64 a1_0, .int .i64 a1_1], .agg #[.int .i64 a2_0, .int .i64 a2_1]] w fun e w' => e = .returned (.int .i64 r) ∧ Below w.heap.size w w' := by
 have hu26 := Try.underlying26
 have HB := Aside0.mk (Below.refl w.heap.size w)
 have H : (some (wrap64 ((wrap64 ((wrap64 (a1_0 - a0_0)) * (wrap64 (a2_1 - a0_1)))) - (wrap64 ((wrap64 (a1_1 - a0_1)) * (wrap64 (a2_0 - a0_0))))))) = some r := h
 clear h
 obtain rfl := Option.some.inj H
 go_enter Try.func23, Try.ntmps23
 go_wp2_with (first | ((with_reducible refine gate_dst (N := 3) rfl ?_); refine be 3 (#[.int .i64 a0_0, .int .i64 a0_1]) 26 ?_; intro gb331 hg w4 hbox hb; have BK331 := Aside0.mk (hbox); have GW331 := Aside0.mk ((by rw [hg]; exact (below_size (bl0 HB.out)) : w.heap.size ≤ gb331)); have GE331 := GW331; replace HB := Aside0.mk (below_step (bl0 HB.out) hb); clear hb hbox hg) | ((with_reducible refine gate_dst (N := 4) rfl ?_); refine be 4 (#[.int .i64 a1_0, .int .i64 a1_1]) 26 ?_; intro gb332 hg w5 hbox hb; have BK332 := Aside0.mk (hbox); have GW332 := Aside0.mk ((by rw [hg]; exact (below_size (bl1 HB.out GE331.out)) : w.heap.size ≤ gb332)); have GE332 := GW332; have NB331_332 := Aside0.mk ((by rw [hg]; exact Nat.ne_of_lt (lt_ BK331.out) : gb331 ≠ gb332)); have NB332_331 := Aside0.mk ((by rw [hg]; exact Nat.ne_of_gt (lt_ BK331.out) : gb332 ≠ gb331)); replace BK331 := Aside0.mk (bb BK331.out hb); replace HB := Aside0.mk (below_step (bl1 HB.out GE331.out) hb); clear hb hbox hg) | ((with_reducible refine gate_dst (N := 5) rfl ?_); refine be 5 (#[.int .i64 a2_0, .int .i64 a2_1]) 26 ?_; intro gb333 hg w6 hbox hb; have BK333 := Aside0.mk (hbox); have GW333 := Aside0.mk ((by rw [hg]; exact (below_size (bl2 HB.out GE331.out GE332.out)) : w.heap.size ≤ gb333)); have GE333 := GW333; have NB331_333 := Aside0.mk ((by rw [hg]; exact Nat.ne_of_lt (lt_ BK331.out) : gb331 ≠ gb333)); have NB333_331 := Aside0.mk ((by rw [hg]; exact Nat.ne_of_gt (lt_ BK331.out) : gb333 ≠ gb331)); have NB332_333 := Aside0.mk ((by rw [hg]; exact Nat.ne_of_lt (lt_ BK332.out) : gb332 ≠ gb333)); have NB333_332 := Aside0.mk ((by rw [hg]; exact Nat.ne_of_gt (lt_ BK332.out) : gb333 ≠ gb332)); replace BK331 := Aside0.mk (bb BK331.out hb); replace BK332 := Aside0.mk (bb BK332.out hb); replace HB := Aside0.mk (below_step (bl2 HB.out GE331.out GE332.out) hb); clear hb hbox hg; have hnb7 := NB332_331.out; have hnc7 := NB331_332.out; have hnb8 := NB332_333.out; have hnc8 := NB333_332.out; have hcz9_0 : w6.cell? ⟨gb332, 0, none⟩ = some (.int .i64 a1_0) := (blk_cell BK332.out 0).trans rfl; have hcz9_1 : w6.cell? ⟨gb332, 1, none⟩ = some (.int .i64 a1_1) := (blk_cell BK332.out 1).trans rfl; have hfz9_0 := blk_frozen BK332.out 0; have hfz9_1 := blk_frozen BK332.out 1; have hnb10 := NB331_333.out; have hnc10 := NB333_331.out; have hcz11_0 : w6.cell? ⟨gb331, 0, none⟩ = some (.int .i64 a0_0) := (blk_cell BK331.out 0).trans rfl; have hcz11_1 : w6.cell? ⟨gb331, 1, none⟩ = some (.int .i64 a0_1) := (blk_cell BK331.out 1).trans rfl; have hfz11_0 := blk_frozen BK331.out 0; have hfz11_1 := blk_frozen BK331.out 1; have hcz12_0 : w6.cell? ⟨gb333, 0, none⟩ = some (.int .i64 a2_0) := (blk_cell BK333.out 0).trans rfl; have hcz12_1 : w6.cell? ⟨gb333, 1, none⟩ = some (.int .i64 a2_1) := (blk_cell BK333.out 1).trans rfl; have hfz12_0 := blk_frozen BK333.out 0; have hfz12_1 := blk_frozen BK333.out 1))
 go_ret
 exact ⟨by first | rfl | (simp [errW_none, errW_some] <;> rfl) | (simp [*, errW_none, errW_some] <;> rfl), bl3 HB.out GE331.out GE332.out GE333.out⟩

end Go.Proofs.Ytemhnlameekmkaa.XLine
