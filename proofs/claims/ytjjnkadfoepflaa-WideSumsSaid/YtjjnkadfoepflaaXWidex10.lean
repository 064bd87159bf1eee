-- Printed by a program of this claim. Not trusted: Lean checks it.
import Derived.Test.YtjjnkadfoepflaaXWidex0
import Derived.Test.YtjjnkadfoepflaaXWidex5
import Derived.Test.YtjjnkadfoepflaaXWidex9
namespace Go.Proofs.Ytjjnkadfoepflaa.XWide
open Go.RowKit Go.Proofs.YtjjnkadfoepflaaW.PrintWords Go.Proofs.YtjjnkadfoepflaaW.PrintLast Go.Proofs.YtjjnkadfoepflaaW.PrintMore
attribute [local go_sem] max2_int min2_int max_two min_two max_three min_three max_four min_four   -- for this text's walks alone
set_option linter.unusedVariables false
set_option linter.unusedSimpArgs false
open XOpen

/-! ### pochoirref01_Sub: function 17 -/
def pochoirref01_Sub.f (k : Nat) (a0_0 : Int) (a0_1 : Int) (a1_0 : Int) (a1_1 : Int) : Option (Int × Int × Int) := (pochoirref01_Digits.f k a0_0 a0_1).bind fun t268 => ((pochoirref01_Digits.f k a1_0 a1_1).bind fun t271 => ((pochoirref01_Less.f k t268 t271).bind fun t274 => (if t274 < 0 then (some (0, 0, 2)) else ((pochoirref01_Digits.f k a0_0 a0_1).bind fun t275 => ((pochoirref01_Digits.f k a1_0 a1_1).bind fun t278 => ((pochoirref01_Minus.f k t275 t278).bind fun t281 => ((pochoirref01_fit.f k t281).bind fun bt284 => (some (bt284.1, bt284.2.1, bt284.2.2)))))))))
theorem pochoirref01_Sub.mono : ∀ a0 a1 a2 a3 k, LeO (pochoirref01_Sub.f k a0 a1 a2 a3) (pochoirref01_Sub.f (k + 1) a0 a1 a2 a3) := by
 intro a0 a1 a2 a3 k
 unfold pochoirref01_Sub.f
 repeat' first
   | (with_reducible exact pochoirref01_Digits.mono _ _ _)
   | (with_reducible exact pochoirref01_Less.mono _ _ _)
   | (with_reducible exact pochoirref01_Minus.mono _ _ _)
   | (with_reducible exact pochoirref01_fit.mono _ _)
   | (with_reducible exact LeO.refl _)
   | (with_reducible exact LeO.none _)
   | (with_reducible refine LeO.ite ?_ ?_)
   | (with_reducible refine LeO.bind ?_ (fun _ => ?_))
   | exact pochoirref01_Digits.mono _ _ _
   | exact pochoirref01_Less.mono _ _ _
   | exact pochoirref01_Minus.mono _ _ _
   | exact pochoirref01_fit.mono _ _
   | exact LeO.none _
   | refine LeO.ite ?_ ?_
   | refine LeO.bind ?_ (fun _ => ?_)
def pochoirref01_Sub.T3 : Bool × List (List Nat × List Nat) := (true, [([], []), ([0], [0]), ([], []), ([2, 1], [2]), ([1, 3, 3], [1, 3]), ([4, 4], [4]), ([5], [5]), ([5], [5]), ([6, 5, 0, 1, 2, 3, 4, 5, 6, 7], [6]), ([7, 8, 0, 1, 2, 3, 4, 5, 6, 7, 8], [7])])
def pochoirref01_Sub.B3 : List Nat := [0, 1, 0, 7, 15, 31, 63, 63, 255, 511]
theorem pochoirref01_Sub.tab3 : rtab .any (opsOf Try.f17 3) = pochoirref01_Sub.T3 := by kernel_rfl
theorem pochoirref01_Sub.bits3 : waitsOk pochoirref01_Sub.T3.2 pochoirref01_Sub.B3 = true := by kernel_rfl
set_option maxHeartbeats 8000000 in
set_option maxRecDepth 100000 in
theorem pochoirref01_Sub.calls (k : Nat) (a0_0 : Int) (a0_1 : Int) (a1_0 : Int) (a1_1 : Int) (r1 : Int) (r2 : Int) (r3 : Int) (w : World) (h : pochoirref01_Sub.f k a0_0 a0_1 a1_0 a1_1 = some (r1, r2, r3)) :
  Calls Try.prog 17 #[.agg #[.int .u64 a0_0, .int .u64 a0_1], .agg #[.int .u64 a1_0, .int .u64 a1_1]] w fun e w' => e = .returned (.tuple #[.agg #[.int .u64 r1, .int .u64 r2], .int .i64 r3]) ∧ Below w.heap.size w w' := by
 have hu24 := Try.underlying24
 have HB := Aside0.mk (Below.refl w.heap.size w)
 have H : ((pochoirref01_Digits.f k a0_0 a0_1).bind fun t268 => ((pochoirref01_Digits.f k a1_0 a1_1).bind fun t271 => ((pochoirref01_Less.f k t268 t271).bind fun t274 => (if t274 < 0 then (some (0, 0, 2)) else ((pochoirref01_Digits.f k a0_0 a0_1).bind fun t275 => ((pochoirref01_Digits.f k a1_0 a1_1).bind fun t278 => ((pochoirref01_Minus.f k t275 t278).bind fun t281 => ((pochoirref01_fit.f k t281).bind fun bt284 => (some (bt284.1, bt284.2.1, bt284.2.2)))))))))) = some (r1, r2, r3) := h
 clear h
 replace H := Option.bind_eq_some_iff.mp H
 obtain ⟨t268, A30, H⟩ := H
 replace H : ((pochoirref01_Digits.f k a1_0 a1_1).bind fun t271 => ((pochoirref01_Less.f k t268 t271).bind fun t274 => (if t274 < 0 then (some (0, 0, 2)) else ((pochoirref01_Digits.f k a0_0 a0_1).bind fun t275 => ((pochoirref01_Digits.f k a1_0 a1_1).bind fun t278 => ((pochoirref01_Minus.f k t275 t278).bind fun t281 => ((pochoirref01_fit.f k t281).bind fun bt284 => (some (bt284.1, bt284.2.1, bt284.2.2))))))))) = some (r1, r2, r3) := H
 have A3 := Aside0.mk A30
 clear A30
 replace H := Option.bind_eq_some_iff.mp H
 obtain ⟨t271, A40, H⟩ := H
 replace H : ((pochoirref01_Less.f k t268 t271).bind fun t274 => (if t274 < 0 then (some (0, 0, 2)) else ((pochoirref01_Digits.f k a0_0 a0_1).bind fun t275 => ((pochoirref01_Digits.f k a1_0 a1_1).bind fun t278 => ((pochoirref01_Minus.f k t275 t278).bind fun t281 => ((pochoirref01_fit.f k t281).bind fun bt284 => (some (bt284.1, bt284.2.1, bt284.2.2)))))))) = some (r1, r2, r3) := H
 have A4 := Aside0.mk A40
 clear A40
 replace H := Option.bind_eq_some_iff.mp H
 obtain ⟨t274, A50, H⟩ := H
 replace H : (if t274 < 0 then (some (0, 0, 2)) else ((pochoirref01_Digits.f k a0_0 a0_1).bind fun t275 => ((pochoirref01_Digits.f k a1_0 a1_1).bind fun t278 => ((pochoirref01_Minus.f k t275 t278).bind fun t281 => ((pochoirref01_fit.f k t281).bind fun bt284 => (some (bt284.1, bt284.2.1, bt284.2.2))))))) = some (r1, r2, r3) := H
 have A5 := Aside0.mk A50
 clear A50
 by_cases c6 : t274 < 0
 ·rw [if_pos c6] at H
  have c6b0 : decide (t274 < 0) = true := decide_eq_true c6
  clear c6
  simp only [Option.some.injEq, Prod.mk.injEq] at H
  obtain ⟨rfl, rfl, rfl⟩ := H
  go_enter Try.func17, Try.ntmps17
  try go_wp2_with (first | ((with_reducible refine gate_dst (N := 2) rfl ?_); refine be 2 (#[.int .u64 a0_0, .int .u64 a0_1]) 24 ?_; intro gb265 hg w7 hbox hb; have BK265 := Aside0.mk (hbox); have GW265 := Aside0.mk ((by rw [hg]; exact (below_size (bl0 HB.out)) : w.heap.size ≤ gb265)); have GE265 := GW265; replace HB := Aside0.mk (below_step (bl0 HB.out) hb); clear hb hbox hg) | ((with_reducible refine gate_dst (N := 3) rfl ?_); refine be 3 (#[.int .u64 a1_0, .int .u64 a1_1]) 24 ?_; intro gb266 hg w8 hbox hb; have BK266 := Aside0.mk (hbox); have GW266 := Aside0.mk ((by rw [hg]; exact (below_size (bl1 HB.out GE265.out)) : w.heap.size ≤ gb266)); have GE266 := GW266; have NB265_266 := Aside0.mk ((by rw [hg]; exact Nat.ne_of_lt (lt_ BK265.out) : gb265 ≠ gb266)); have NB266_265 := Aside0.mk ((by rw [hg]; exact Nat.ne_of_gt (lt_ BK265.out) : gb266 ≠ gb265)); replace BK265 := Aside0.mk (bb BK265.out hb); replace HB := Aside0.mk (below_step (bl1 HB.out GE265.out) hb); clear hb hbox hg) | ((with_reducible refine gate_dst (N := 4) rfl ?_); refine be 4 (#[.int .u64 0, .int .u64 0]) 24 ?_; intro gb267 hg w9 hbox hb; have BK267 := Aside0.mk (hbox); have GW267 := Aside0.mk ((by rw [hg]; exact (below_size (bl2 HB.out GE265.out GE266.out)) : w.heap.size ≤ gb267)); have GE267 := GW267; have NB265_267 := Aside0.mk ((by rw [hg]; exact Nat.ne_of_lt (lt_ BK265.out) : gb265 ≠ gb267)); have NB267_265 := Aside0.mk ((by rw [hg]; exact Nat.ne_of_gt (lt_ BK265.out) : gb267 ≠ gb265)); have NB266_267 := Aside0.mk ((by rw [hg]; exact Nat.ne_of_lt (lt_ BK266.out) : gb266 ≠ gb267)); have NB267_266 := Aside0.mk ((by rw [hg]; exact Nat.ne_of_gt (lt_ BK266.out) : gb267 ≠ gb266)); replace BK265 := Aside0.mk (bb BK265.out hb); replace BK266 := Aside0.mk (bb BK266.out hb); replace HB := Aside0.mk (below_step (bl2 HB.out GE265.out GE266.out) hb); clear hb hbox hg))
  replace BK265 := Aside0.mk (blk_drew BK265.out)
  replace BK266 := Aside0.mk (blk_drew BK266.out)
  replace BK267 := Aside0.mk (blk_drew BK267.out)
  replace HB := Aside0.mk (below_drew1 HB.out)
  refine start_ (n := 6) (S := fun w' => w'.cell? ⟨gb265, 0, none⟩ = some (.int .u64 a0_0) ∧ w'.cell? ⟨gb265, 1, none⟩ = some (.int .u64 a0_1) ∧ w'.cell? ⟨gb266, 0, none⟩ = some (.int .u64 a1_0) ∧ w'.cell? ⟨gb266, 1, none⟩ = some (.int .u64 a1_1)) (ds := []) (ba 6 0) (by kernel_rfl) rfl rfl ⟨(blk_cell BK265.out 0).trans rfl, (blk_cell BK265.out 1).trans rfl, (blk_cell BK266.out 0).trans rfl, (blk_cell BK266.out 1).trans rfl⟩ (fun hHeld => ?_)
  generalize w9.drew = w10 at BK265 BK266 BK267 HB hHeld ⊢
  refine take_ (i := 0) (N := some 6) (v := ?_) (a' := ?_) (ba 6 1) rfl rfl (by kernel_rfl) (fun _ _ _ h => h) (Or.inl ⟨by rfl, ?_⟩) hHeld ?_ ?_
  rotate_left
  ·rintro w' ⟨s0, s1, s2, s3⟩
   go_simp
   with_reducible rfl
  rotate_left
  ·simp only [Act.put, List.setIfInBounds_toArray, List.set_cons_zero, List.set_cons_succ, i64_w, i32_w]
   rfl
  refine take_ (i := 2) (N := some 8) (v := ?_) (a' := ?_) (ba 6 5) rfl rfl (by kernel_rfl) (fun _ _ _ h => h) (Or.inl ⟨by rfl, ?_⟩) hHeld ?_ ?_
  rotate_left
  ·rintro w' ⟨s0, s1, s2, s3⟩
   go_simp
   with_reducible rfl
  rotate_left
  ·simp only [Act.put, List.setIfInBounds_toArray, List.set_cons_zero, List.set_cons_succ, i64_w, i32_w]
   rfl
  refine one_ (i := 1) (N := some 7) (ba 6 7) rfl rfl (by kernel_rfl) (by decide) (fun K hK => ?_)
  refine goes_ Try.func26 (by kernel_rfl) rfl #[.agg #[.int .u64 a0_0, .int .u64 a0_1]] (by rfl) rfl rfl am ?_
  with_reducible refine (pochoirref01_Digits.calls k a0_0 a0_1 t268 _ A3.out).mono ?_
  rintro e w11 ⟨v269, rfl, ho0, hb⟩
  refine ⟨_, rfl, ?_⟩
  have HO270 := Aside0.mk (Kd.R_lower ho0 (below_size (bl3 HB.out GE265.out GE266.out GE267.out)))
  replace BK265 := Aside0.mk (bb BK265.out hb)
  replace BK266 := Aside0.mk (bb BK266.out hb)
  replace BK267 := Aside0.mk (bb BK267.out hb)
  replace HB := Aside0.mk (below_step (bl3 HB.out GE265.out GE266.out GE267.out) hb)
  (try clear hb)
  (try clear hb2)
  (try clear hk)
  (try clear hi)
  (try clear ho0)
  refine hK.out _ _ ⟨(blk_cell BK265.out 0).trans rfl, (blk_cell BK265.out 1).trans rfl, (blk_cell BK266.out 0).trans rfl, (blk_cell BK266.out 1).trans rfl⟩ (fun hHeld => ?_)
  clear hK K
  refine norm_ (a' := ?_) ?_ ?_
  rotate_left
  ·show Act.put _ (some 7) _ = _
   simp only [Act.put, List.setIfInBounds_toArray, List.set_cons_zero, List.set_cons_succ, i64_w, i32_w]
   rfl
  refine one_ (i := 3) (N := some 9) (ba 6 15) rfl rfl (by kernel_rfl) (by decide) (fun K hK => ?_)
  refine goes_ Try.func26 (by kernel_rfl) rfl #[.agg #[.int .u64 a1_0, .int .u64 a1_1]] (by rfl) rfl rfl am ?_
  with_reducible refine (pochoirref01_Digits.calls k a1_0 a1_1 t271 _ A4.out).mono ?_
  rintro e w12 ⟨v272, rfl, ho0, hb⟩
  refine ⟨_, rfl, ?_⟩
  have HO273 := Aside0.mk (Kd.R_lower (Kd.R_new' ho0 (Kd.R_lt (by (with_reducible repeat (first | apply Kd.R_alloc | apply Kd.R_drewN | apply Kd.R_drew)); exact HO270.out))) (below_size (bl3 HB.out GE265.out GE266.out GE267.out)))
  replace HO270 := Aside0.mk (Kd.R_elder' (by (with_reducible repeat (first | apply Kd.R_alloc | apply Kd.R_drewN | apply Kd.R_drew)); exact HO270.out) (Kd.R_base ho0) hb)
  replace BK265 := Aside0.mk (bb BK265.out hb)
  replace BK266 := Aside0.mk (bb BK266.out hb)
  replace BK267 := Aside0.mk (bb BK267.out hb)
  replace HB := Aside0.mk (below_step (bl3 HB.out GE265.out GE266.out GE267.out) hb)
  (try clear hb)
  (try clear hb2)
  (try clear hk)
  (try clear hi)
  (try clear ho0)
  obtain ⟨Ao13, co13, eo13⟩ := Kd.R_slice HO270.out
  (first | subst eo13 | (injection eo13 with f1_ f2_ f3_; have f4_ := f1_.symm; have f5_ := f3_.symm; clear f1_ f2_ f3_; subst f4_; subst f5_))
  obtain ⟨Ao14, co14, eo14⟩ := Kd.R_slice HO273.out
  (first | subst eo14 | (injection eo14 with f1_ f2_ f3_; have f4_ := f1_.symm; have f5_ := f3_.symm; clear f1_ f2_ f3_; subst f4_; subst f5_))
  refine hK.out _ _ ⟨(blk_cell BK265.out 0).trans rfl, (blk_cell BK265.out 1).trans rfl, (blk_cell BK266.out 0).trans rfl, (blk_cell BK266.out 1).trans rfl⟩ (fun hHeld => ?_)
  clear hK K
  refine norm_ (a' := ?_) ?_ ?_
  rotate_left
  ·show Act.put _ (some 9) _ = _
   simp only [Act.put, List.setIfInBounds_toArray, List.set_cons_zero, List.set_cons_succ, i64_w, i32_w]
   rfl
  refine one_ (i := 4) (N := some 10) (ba 6 31) rfl rfl (by kernel_rfl) (by decide) (fun K hK => ?_)
  refine goes_ Try.func25 (by kernel_rfl) rfl #[.slice Ao13 t268.length co13, .slice Ao14 t271.length co14] (by rfl) rfl rfl am ?_
  with_reducible refine (pochoirref01_Less.calls k _ _ t268 _ _ t271 t274 _ ?side1 ?side2 ?side3 ?side4 A5.out).mono ?_
  (case side1 => repeat (first | exact (Kd.R_reads' HO270.out).2.2 | (with_reducible refine Kd.C_alloc ?_ _) | (with_reducible refine Kd.C_drewN ?_ _) | (with_reducible refine Kd.C_drew ?_)))
  (case side2 => exact (Kd.R_reads' HO270.out).2.1)
  (case side3 => repeat (first | exact (Kd.R_reads' HO273.out).2.2 | (with_reducible refine Kd.C_alloc ?_ _) | (with_reducible refine Kd.C_drewN ?_ _) | (with_reducible refine Kd.C_drew ?_)))
  (case side4 => exact (Kd.R_reads' HO273.out).2.1)
  rintro e w' ⟨rfl, ⟨nd, rfl⟩⟩
  refine ⟨_, rfl, ?_⟩
  refine hK.out _ _ ⟨(blk_cell BK265.out 0).trans rfl, (blk_cell BK265.out 1).trans rfl, (blk_cell BK266.out 0).trans rfl, (blk_cell BK266.out 1).trans rfl⟩ (fun hHeld => ?_)
  clear hK K
  refine norm_ (a' := ?_) ?_ ?_
  rotate_left
  ·show Act.put _ (some 10) _ = _
   simp only [Act.put, List.setIfInBounds_toArray, List.set_cons_zero, List.set_cons_succ, i64_w, i32_w]
   rfl
  refine pure_ (i := 5) (N := some 11) (v := ?_) (a' := ?_) (ba 6 63) rfl rfl (by kernel_rfl) (fun _ _ _ h => h) (Or.inl ⟨by rfl, ?_⟩) ?_ ?_
  rotate_left
  ·intro w'
   go_simp
   with_reducible rfl
  rotate_left
  ·simp only [Act.put, List.setIfInBounds_toArray, List.set_cons_zero, List.set_cons_succ, i64_w, i32_w]
   rfl
  refine done_ (by kernel_rfl) ?_
  have hnb15 := NB267_265.out
  have hnc15 := NB265_267.out
  have hnb16 := NB267_266.out
  have hnc16 := NB266_267.out
  have hcz17_0 : w12.cell? ⟨gb267, 0, none⟩ = some (.int .u64 0) := (blk_cell BK267.out 0).trans rfl
  have hcz17_1 : w12.cell? ⟨gb267, 1, none⟩ = some (.int .u64 0) := (blk_cell BK267.out 1).trans rfl
  have hfz17_0 := blk_frozen BK267.out 0
  have hfz17_1 := blk_frozen BK267.out 1
  try go_wp2
  refine bodyPost_ret (results_ct rfl _ _ gb267 24 #[.int .u64 0, .int .u64 0] (0, 0) _ rfl (bk (blk_put (cs := #[.int .u64 0, .int .u64 0]) (bk (blk_put (cs := #[.int .u64 0, .int .u64 0]) (bk BK267.out) 0 _ rfl)) 1 _ rfl)) Try.underlying24 rfl (by kernel_rfl)) rfl ?_
  exact ⟨by first | rfl | (simp [errW_none, errW_some] <;> rfl) | (simp [*, errW_none, errW_some] <;> rfl), bl3 HB.out GE265.out GE266.out GE267.out⟩
 ·rw [if_neg c6] at H
  have c6b0 : decide (t274 < 0) = false := decide_eq_false c6
  clear c6
  replace H := Option.bind_eq_some_iff.mp H
  obtain ⟨t275, A180, H⟩ := H
  replace H : ((pochoirref01_Digits.f k a1_0 a1_1).bind fun t278 => ((pochoirref01_Minus.f k t275 t278).bind fun t281 => ((pochoirref01_fit.f k t281).bind fun bt284 => (some (bt284.1, bt284.2.1, bt284.2.2))))) = some (r1, r2, r3) := H
  have A18 := Aside0.mk A180
  clear A180
  replace H := Option.bind_eq_some_iff.mp H
  obtain ⟨t278, A190, H⟩ := H
  replace H : ((pochoirref01_Minus.f k t275 t278).bind fun t281 => ((pochoirref01_fit.f k t281).bind fun bt284 => (some (bt284.1, bt284.2.1, bt284.2.2)))) = some (r1, r2, r3) := H
  have A19 := Aside0.mk A190
  clear A190
  replace H := Option.bind_eq_some_iff.mp H
  obtain ⟨t281, A200, H⟩ := H
  replace H : ((pochoirref01_fit.f k t281).bind fun bt284 => (some (bt284.1, bt284.2.1, bt284.2.2))) = some (r1, r2, r3) := H
  have A20 := Aside0.mk A200
  clear A200
  replace H := Option.bind_eq_some_iff.mp H
  obtain ⟨⟨t284, t285, t286⟩, A210, H⟩ := H
  replace H : (some (t284, t285, t286)) = some (r1, r2, r3) := H
  have A21 := Aside0.mk A210
  clear A210
  simp only [Option.some.injEq, Prod.mk.injEq] at H
  obtain ⟨rfl, rfl, rfl⟩ := H
  go_enter Try.func17, Try.ntmps17
  try go_wp2_with (first | ((with_reducible refine gate_dst (N := 2) rfl ?_); refine be 2 (#[.int .u64 a0_0, .int .u64 a0_1]) 24 ?_; intro gb265 hg w22 hbox hb; have BK265 := Aside0.mk (hbox); have GW265 := Aside0.mk ((by rw [hg]; exact (below_size (bl0 HB.out)) : w.heap.size ≤ gb265)); have GE265 := GW265; replace HB := Aside0.mk (below_step (bl0 HB.out) hb); clear hb hbox hg) | ((with_reducible refine gate_dst (N := 3) rfl ?_); refine be 3 (#[.int .u64 a1_0, .int .u64 a1_1]) 24 ?_; intro gb266 hg w23 hbox hb; have BK266 := Aside0.mk (hbox); have GW266 := Aside0.mk ((by rw [hg]; exact (below_size (bl1 HB.out GE265.out)) : w.heap.size ≤ gb266)); have GE266 := GW266; have NB265_266 := Aside0.mk ((by rw [hg]; exact Nat.ne_of_lt (lt_ BK265.out) : gb265 ≠ gb266)); have NB266_265 := Aside0.mk ((by rw [hg]; exact Nat.ne_of_gt (lt_ BK265.out) : gb266 ≠ gb265)); replace BK265 := Aside0.mk (bb BK265.out hb); replace HB := Aside0.mk (below_step (bl1 HB.out GE265.out) hb); clear hb hbox hg) | ((with_reducible refine gate_dst (N := 4) rfl ?_); refine be 4 (#[.int .u64 0, .int .u64 0]) 24 ?_; intro gb267 hg w24 hbox hb; have BK267 := Aside0.mk (hbox); have GW267 := Aside0.mk ((by rw [hg]; exact (below_size (bl2 HB.out GE265.out GE266.out)) : w.heap.size ≤ gb267)); have GE267 := GW267; have NB265_267 := Aside0.mk ((by rw [hg]; exact Nat.ne_of_lt (lt_ BK265.out) : gb265 ≠ gb267)); have NB267_265 := Aside0.mk ((by rw [hg]; exact Nat.ne_of_gt (lt_ BK265.out) : gb267 ≠ gb265)); have NB266_267 := Aside0.mk ((by rw [hg]; exact Nat.ne_of_lt (lt_ BK266.out) : gb266 ≠ gb267)); have NB267_266 := Aside0.mk ((by rw [hg]; exact Nat.ne_of_gt (lt_ BK266.out) : gb267 ≠ gb266)); replace BK265 := Aside0.mk (bb BK265.out hb); replace BK266 := Aside0.mk (bb BK266.out hb); replace HB := Aside0.mk (below_step (bl2 HB.out GE265.out GE266.out) hb); clear hb hbox hg))
  replace BK265 := Aside0.mk (blk_drew BK265.out)
  replace BK266 := Aside0.mk (blk_drew BK266.out)
  replace BK267 := Aside0.mk (blk_drew BK267.out)
  replace HB := Aside0.mk (below_drew1 HB.out)
  refine start_ (n := 6) (S := fun w' => w'.cell? ⟨gb265, 0, none⟩ = some (.int .u64 a0_0) ∧ w'.cell? ⟨gb265, 1, none⟩ = some (.int .u64 a0_1) ∧ w'.cell? ⟨gb266, 0, none⟩ = some (.int .u64 a1_0) ∧ w'.cell? ⟨gb266, 1, none⟩ = some (.int .u64 a1_1)) (ds := []) (ba 6 0) (by kernel_rfl) rfl rfl ⟨(blk_cell BK265.out 0).trans rfl, (blk_cell BK265.out 1).trans rfl, (blk_cell BK266.out 0).trans rfl, (blk_cell BK266.out 1).trans rfl⟩ (fun hHeld => ?_)
  generalize w24.drew = w25 at BK265 BK266 BK267 HB hHeld ⊢
  refine take_ (i := 0) (N := some 6) (v := ?_) (a' := ?_) (ba 6 1) rfl rfl (by kernel_rfl) (fun _ _ _ h => h) (Or.inl ⟨by rfl, ?_⟩) hHeld ?_ ?_
  rotate_left
  ·rintro w' ⟨s0, s1, s2, s3⟩
   go_simp
   with_reducible rfl
  rotate_left
  ·simp only [Act.put, List.setIfInBounds_toArray, List.set_cons_zero, List.set_cons_succ, i64_w, i32_w]
   rfl
  refine take_ (i := 2) (N := some 8) (v := ?_) (a' := ?_) (ba 6 5) rfl rfl (by kernel_rfl) (fun _ _ _ h => h) (Or.inl ⟨by rfl, ?_⟩) hHeld ?_ ?_
  rotate_left
  ·rintro w' ⟨s0, s1, s2, s3⟩
   go_simp
   with_reducible rfl
  rotate_left
  ·simp only [Act.put, List.setIfInBounds_toArray, List.set_cons_zero, List.set_cons_succ, i64_w, i32_w]
   rfl
  refine one_ (i := 1) (N := some 7) (ba 6 7) rfl rfl (by kernel_rfl) (by decide) (fun K hK => ?_)
  refine goes_ Try.func26 (by kernel_rfl) rfl #[.agg #[.int .u64 a0_0, .int .u64 a0_1]] (by rfl) rfl rfl am ?_
  with_reducible refine (pochoirref01_Digits.calls k a0_0 a0_1 t268 _ A3.out).mono ?_
  rintro e w26 ⟨v269, rfl, ho0, hb⟩
  refine ⟨_, rfl, ?_⟩
  have HO270 := Aside0.mk (Kd.R_lower ho0 (below_size (bl3 HB.out GE265.out GE266.out GE267.out)))
  replace BK265 := Aside0.mk (bb BK265.out hb)
  replace BK266 := Aside0.mk (bb BK266.out hb)
  replace BK267 := Aside0.mk (bb BK267.out hb)
  replace HB := Aside0.mk (below_step (bl3 HB.out GE265.out GE266.out GE267.out) hb)
  (try clear hb)
  (try clear hb2)
  (try clear hk)
  (try clear hi)
  (try clear ho0)
  refine hK.out _ _ ⟨(blk_cell BK265.out 0).trans rfl, (blk_cell BK265.out 1).trans rfl, (blk_cell BK266.out 0).trans rfl, (blk_cell BK266.out 1).trans rfl⟩ (fun hHeld => ?_)
  clear hK K
  refine norm_ (a' := ?_) ?_ ?_
  rotate_left
  ·show Act.put _ (some 7) _ = _
   simp only [Act.put, List.setIfInBounds_toArray, List.set_cons_zero, List.set_cons_succ, i64_w, i32_w]
   rfl
  refine one_ (i := 3) (N := some 9) (ba 6 15) rfl rfl (by kernel_rfl) (by decide) (fun K hK => ?_)
  refine goes_ Try.func26 (by kernel_rfl) rfl #[.agg #[.int .u64 a1_0, .int .u64 a1_1]] (by rfl) rfl rfl am ?_
  with_reducible refine (pochoirref01_Digits.calls k a1_0 a1_1 t271 _ A4.out).mono ?_
  rintro e w27 ⟨v272, rfl, ho0, hb⟩
  refine ⟨_, rfl, ?_⟩
  have HO273 := Aside0.mk (Kd.R_lower (Kd.R_new' ho0 (Kd.R_lt (by (with_reducible repeat (first | apply Kd.R_alloc | apply Kd.R_drewN | apply Kd.R_drew)); exact HO270.out))) (below_size (bl3 HB.out GE265.out GE266.out GE267.out)))
  replace HO270 := Aside0.mk (Kd.R_elder' (by (with_reducible repeat (first | apply Kd.R_alloc | apply Kd.R_drewN | apply Kd.R_drew)); exact HO270.out) (Kd.R_base ho0) hb)
  replace BK265 := Aside0.mk (bb BK265.out hb)
  replace BK266 := Aside0.mk (bb BK266.out hb)
  replace BK267 := Aside0.mk (bb BK267.out hb)
  replace HB := Aside0.mk (below_step (bl3 HB.out GE265.out GE266.out GE267.out) hb)
  (try clear hb)
  (try clear hb2)
  (try clear hk)
  (try clear hi)
  (try clear ho0)
  obtain ⟨Ao28, co28, eo28⟩ := Kd.R_slice HO270.out
  (first | subst eo28 | (injection eo28 with f1_ f2_ f3_; have f4_ := f1_.symm; have f5_ := f3_.symm; clear f1_ f2_ f3_; subst f4_; subst f5_))
  obtain ⟨Ao29, co29, eo29⟩ := Kd.R_slice HO273.out
  (first | subst eo29 | (injection eo29 with f1_ f2_ f3_; have f4_ := f1_.symm; have f5_ := f3_.symm; clear f1_ f2_ f3_; subst f4_; subst f5_))
  refine hK.out _ _ ⟨(blk_cell BK265.out 0).trans rfl, (blk_cell BK265.out 1).trans rfl, (blk_cell BK266.out 0).trans rfl, (blk_cell BK266.out 1).trans rfl⟩ (fun hHeld => ?_)
  clear hK K
  refine norm_ (a' := ?_) ?_ ?_
  rotate_left
  ·show Act.put _ (some 9) _ = _
   simp only [Act.put, List.setIfInBounds_toArray, List.set_cons_zero, List.set_cons_succ, i64_w, i32_w]
   rfl
  refine one_ (i := 4) (N := some 10) (ba 6 31) rfl rfl (by kernel_rfl) (by decide) (fun K hK => ?_)
  refine goes_ Try.func25 (by kernel_rfl) rfl #[.slice Ao28 t268.length co28, .slice Ao29 t271.length co29] (by rfl) rfl rfl am ?_
  with_reducible refine (pochoirref01_Less.calls k _ _ t268 _ _ t271 t274 _ ?side1 ?side2 ?side3 ?side4 A5.out).mono ?_
  (case side1 => repeat (first | exact (Kd.R_reads' HO270.out).2.2 | (with_reducible refine Kd.C_alloc ?_ _) | (with_reducible refine Kd.C_drewN ?_ _) | (with_reducible refine Kd.C_drew ?_)))
  (case side2 => exact (Kd.R_reads' HO270.out).2.1)
  (case side3 => repeat (first | exact (Kd.R_reads' HO273.out).2.2 | (with_reducible refine Kd.C_alloc ?_ _) | (with_reducible refine Kd.C_drewN ?_ _) | (with_reducible refine Kd.C_drew ?_)))
  (case side4 => exact (Kd.R_reads' HO273.out).2.1)
  rintro e w' ⟨rfl, ⟨nd, rfl⟩⟩
  refine ⟨_, rfl, ?_⟩
  refine hK.out _ _ ⟨(blk_cell BK265.out 0).trans rfl, (blk_cell BK265.out 1).trans rfl, (blk_cell BK266.out 0).trans rfl, (blk_cell BK266.out 1).trans rfl⟩ (fun hHeld => ?_)
  clear hK K
  refine norm_ (a' := ?_) ?_ ?_
  rotate_left
  ·show Act.put _ (some 10) _ = _
   simp only [Act.put, List.setIfInBounds_toArray, List.set_cons_zero, List.set_cons_succ, i64_w, i32_w]
   rfl
  refine pure_ (i := 5) (N := some 11) (v := ?_) (a' := ?_) (ba 6 63) rfl rfl (by kernel_rfl) (fun _ _ _ h => h) (Or.inl ⟨by rfl, ?_⟩) ?_ ?_
  rotate_left
  ·intro w'
   go_simp
   with_reducible rfl
  rotate_left
  ·simp only [Act.put, List.setIfInBounds_toArray, List.set_cons_zero, List.set_cons_succ, i64_w, i32_w]
   rfl
  refine done_ (by kernel_rfl) ?_
  try go_wp2
  (try (rw [drewN_self w27]; generalize hq_ : World.drewN w27 _ = w27; replace HO270 : Aside0 (Kd.R (Kd.int .u64) 22 w27 w.heap.size (fun k_ => some k_ ≠ (.slice Ao29 t271.length co29 : Value).ownBlock) (.slice Ao28 t268.length co28) t268) := ⟨by rw [← hq_]; exact (by (with_reducible repeat (first | apply Kd.R_alloc | apply Kd.R_drewN | apply Kd.R_drew)); exact Kd.R_mono HO270.out (fun _ hk => hk.2))⟩; replace HO273 : Aside0 (Kd.R (Kd.int .u64) 22 w27 w.heap.size (fun k_ => some k_ ≠ (.slice Ao28 t268.length co28 : Value).ownBlock) (.slice Ao29 t271.length co29) t271) := ⟨by rw [← hq_]; exact (by (with_reducible repeat (first | apply Kd.R_alloc | apply Kd.R_drewN | apply Kd.R_drew)); exact Kd.R_mono HO273.out (fun _ hk => hk.2))⟩; replace BK265 : Aside0 (w27.heap[gb265]? = some (.cells #[.int .u64 a0_0, .int .u64 a0_1] 24 (0, 0))) := ⟨by rw [← hq_]; exact (bk BK265.out)⟩; replace BK266 : Aside0 (w27.heap[gb266]? = some (.cells #[.int .u64 a1_0, .int .u64 a1_1] 24 (0, 0))) := ⟨by rw [← hq_]; exact (bk BK266.out)⟩; replace BK267 : Aside0 (w27.heap[gb267]? = some (.cells #[.int .u64 0, .int .u64 0] 24 (0, 0))) := ⟨by rw [← hq_]; exact (bk BK267.out)⟩; replace HB : Aside0 (Below w.heap.size w w27) := ⟨by rw [← hq_]; exact (bl3 HB.out GE265.out GE266.out GE267.out)⟩; clear hq_))
  replace HO270 := Aside0.mk (Kd.R_drew HO270.out)
  replace HO273 := Aside0.mk (Kd.R_drew HO273.out)
  replace BK265 := Aside0.mk (blk_drew BK265.out)
  replace BK266 := Aside0.mk (blk_drew BK266.out)
  replace BK267 := Aside0.mk (blk_drew BK267.out)
  replace HB := Aside0.mk (below_drew1 HB.out)
  refine start_ (n := 10) (S := fun w' => w'.cell? ⟨gb265, 0, none⟩ = some (.int .u64 a0_0) ∧ w'.cell? ⟨gb265, 1, none⟩ = some (.int .u64 a0_1) ∧ w'.cell? ⟨gb266, 0, none⟩ = some (.int .u64 a1_0) ∧ w'.cell? ⟨gb266, 1, none⟩ = some (.int .u64 a1_1)) (ds := []) (ba 10 0) (by kernel_rfl) rfl rfl ⟨(blk_cell BK265.out 0).trans rfl, (blk_cell BK265.out 1).trans rfl, (blk_cell BK266.out 0).trans rfl, (blk_cell BK266.out 1).trans rfl⟩ (fun hHeld => ?_); refine with_tabW pochoirref01_Sub.tab3 pochoirref01_Sub.bits3 (fun HT_ HW_ => ?_)
  generalize w27.drew = w30 at HO270 HO273 BK265 BK266 BK267 HB hHeld ⊢
  refine take_ (i := 0) (N := some 13) (v := ?_) (a' := ?_) (ba 10 1) rfl rfl (take_ofW HT_.out HW_.out (by kernel_rfl)) (fun _ _ _ h => h) (Or.inl ⟨by rfl, ?_⟩) hHeld ?_ ?_
  rotate_left
  ·rintro w' ⟨s0, s1, s2, s3⟩
   go_simp
   with_reducible rfl
  rotate_left
  ·simp only [Act.put, List.setIfInBounds_toArray, List.set_cons_zero, List.set_cons_succ, i64_w, i32_w]
   rfl
  refine take_ (i := 2) (N := some 15) (v := ?_) (a' := ?_) (ba 10 5) rfl rfl (take_ofW HT_.out HW_.out (by kernel_rfl)) (fun _ _ _ h => h) (Or.inl ⟨by rfl, ?_⟩) hHeld ?_ ?_
  rotate_left
  ·rintro w' ⟨s0, s1, s2, s3⟩
   go_simp
   with_reducible rfl
  rotate_left
  ·simp only [Act.put, List.setIfInBounds_toArray, List.set_cons_zero, List.set_cons_succ, i64_w, i32_w]
   rfl
  refine one_ (i := 1) (N := some 14) (ba 10 7) rfl rfl (one_of HT_.out (by kernel_rfl)) (by decide) (fun K hK => ?_)
  refine goes_ Try.func26 (by kernel_rfl) rfl #[.agg #[.int .u64 a0_0, .int .u64 a0_1]] (by rfl) rfl rfl am ?_
  with_reducible refine (pochoirref01_Digits.calls k a0_0 a0_1 t275 _ A18.out).mono ?_
  rintro e w31 ⟨v276, rfl, ho0, hb⟩
  refine ⟨_, rfl, ?_⟩
  have HO277 := Aside0.mk (Kd.R_lower (Kd.R_new' (Kd.R_new' ho0 (Kd.R_lt (by (with_reducible repeat (first | apply Kd.R_alloc | apply Kd.R_drewN | apply Kd.R_drew)); exact HO270.out))) (Kd.R_lt (by (with_reducible repeat (first | apply Kd.R_alloc | apply Kd.R_drewN | apply Kd.R_drew)); exact HO273.out))) (below_size (bl3 HB.out GE265.out GE266.out GE267.out)))
  replace HO270 := Aside0.mk (Kd.R_elder' (by (with_reducible repeat (first | apply Kd.R_alloc | apply Kd.R_drewN | apply Kd.R_drew)); exact HO270.out) (Kd.R_base ho0) hb)
  replace HO273 := Aside0.mk (Kd.R_elder' (by (with_reducible repeat (first | apply Kd.R_alloc | apply Kd.R_drewN | apply Kd.R_drew)); exact HO273.out) (Kd.R_base ho0) hb)
  replace BK265 := Aside0.mk (bb BK265.out hb)
  replace BK266 := Aside0.mk (bb BK266.out hb)
  replace BK267 := Aside0.mk (bb BK267.out hb)
  replace HB := Aside0.mk (below_step (bl3 HB.out GE265.out GE266.out GE267.out) hb)
  (try clear hb)
  (try clear hb2)
  (try clear hk)
  (try clear hi)
  (try clear ho0)
  refine hK.out _ _ ⟨(blk_cell BK265.out 0).trans rfl, (blk_cell BK265.out 1).trans rfl, (blk_cell BK266.out 0).trans rfl, (blk_cell BK266.out 1).trans rfl⟩ (fun hHeld => ?_)
  clear hK K
  refine norm_ (a' := ?_) ?_ ?_
  rotate_left
  ·show Act.put _ (some 14) _ = _
   simp only [Act.put, List.setIfInBounds_toArray, List.set_cons_zero, List.set_cons_succ, i64_w, i32_w]
   rfl
  refine one_ (i := 3) (N := some 16) (ba 10 15) rfl rfl (one_of HT_.out (by kernel_rfl)) (by decide) (fun K hK => ?_)
  refine goes_ Try.func26 (by kernel_rfl) rfl #[.agg #[.int .u64 a1_0, .int .u64 a1_1]] (by rfl) rfl rfl am ?_
  with_reducible refine (pochoirref01_Digits.calls k a1_0 a1_1 t278 _ A19.out).mono ?_
  rintro e w32 ⟨v279, rfl, ho0, hb⟩
  refine ⟨_, rfl, ?_⟩
  have HO280 := Aside0.mk (Kd.R_lower (Kd.R_new' (Kd.R_new' (Kd.R_new' ho0 (Kd.R_lt (by (with_reducible repeat (first | apply Kd.R_alloc | apply Kd.R_drewN | apply Kd.R_drew)); exact HO270.out))) (Kd.R_lt (by (with_reducible repeat (first | apply Kd.R_alloc | apply Kd.R_drewN | apply Kd.R_drew)); exact HO273.out))) (Kd.R_lt (by (with_reducible repeat (first | apply Kd.R_alloc | apply Kd.R_drewN | apply Kd.R_drew)); exact HO277.out))) (below_size (bl3 HB.out GE265.out GE266.out GE267.out)))
  replace HO270 := Aside0.mk (Kd.R_elder' (by (with_reducible repeat (first | apply Kd.R_alloc | apply Kd.R_drewN | apply Kd.R_drew)); exact HO270.out) (Kd.R_base ho0) hb)
  replace HO273 := Aside0.mk (Kd.R_elder' (by (with_reducible repeat (first | apply Kd.R_alloc | apply Kd.R_drewN | apply Kd.R_drew)); exact HO273.out) (Kd.R_base ho0) hb)
  replace HO277 := Aside0.mk (Kd.R_elder' (by (with_reducible repeat (first | apply Kd.R_alloc | apply Kd.R_drewN | apply Kd.R_drew)); exact HO277.out) (Kd.R_base ho0) hb)
  replace BK265 := Aside0.mk (bb BK265.out hb)
  replace BK266 := Aside0.mk (bb BK266.out hb)
  replace BK267 := Aside0.mk (bb BK267.out hb)
  replace HB := Aside0.mk (below_step (bl3 HB.out GE265.out GE266.out GE267.out) hb)
  (try clear hb)
  (try clear hb2)
  (try clear hk)
  (try clear hi)
  (try clear ho0)
  obtain ⟨Ao33, co33, eo33⟩ := Kd.R_slice HO277.out
  (first | subst eo33 | (injection eo33 with f1_ f2_ f3_; have f4_ := f1_.symm; have f5_ := f3_.symm; clear f1_ f2_ f3_; subst f4_; subst f5_))
  obtain ⟨Ao34, co34, eo34⟩ := Kd.R_slice HO280.out
  (first | subst eo34 | (injection eo34 with f1_ f2_ f3_; have f4_ := f1_.symm; have f5_ := f3_.symm; clear f1_ f2_ f3_; subst f4_; subst f5_))
  refine hK.out _ _ ⟨(blk_cell BK265.out 0).trans rfl, (blk_cell BK265.out 1).trans rfl, (blk_cell BK266.out 0).trans rfl, (blk_cell BK266.out 1).trans rfl⟩ (fun hHeld => ?_)
  clear hK K
  refine norm_ (a' := ?_) ?_ ?_
  rotate_left
  ·show Act.put _ (some 16) _ = _
   simp only [Act.put, List.setIfInBounds_toArray, List.set_cons_zero, List.set_cons_succ, i64_w, i32_w]
   rfl
  refine one_ (i := 4) (N := some 17) (ba 10 31) rfl rfl (one_of HT_.out (by kernel_rfl)) (by decide) (fun K hK => ?_)
  refine goes_ Try.func34 (by kernel_rfl) rfl #[.slice Ao33 t275.length co33, .slice Ao34 t278.length co34] (by rfl) rfl rfl am ?_
  with_reducible refine (pochoirref01_Minus.calls k _ _ t275 _ _ t278 t281 _ ?side1 ?side2 ?side3 ?side4 A20.out).mono ?_
  (case side1 => repeat (first | exact (Kd.R_reads' HO277.out).2.2 | (with_reducible refine Kd.C_alloc ?_ _) | (with_reducible refine Kd.C_drewN ?_ _) | (with_reducible refine Kd.C_drew ?_)))
  (case side2 => exact (Kd.R_reads' HO277.out).2.1)
  (case side3 => repeat (first | exact (Kd.R_reads' HO280.out).2.2 | (with_reducible refine Kd.C_alloc ?_ _) | (with_reducible refine Kd.C_drewN ?_ _) | (with_reducible refine Kd.C_drew ?_)))
  (case side4 => exact (Kd.R_reads' HO280.out).2.1)
  rintro e w35 ⟨v282, rfl, ho0, hb⟩
  refine ⟨_, rfl, ?_⟩
  have HO283 := Aside0.mk (Kd.R_lower (Kd.R_new' (Kd.R_new' (Kd.R_new' (Kd.R_new' ho0 (Kd.R_lt (by (with_reducible repeat (first | apply Kd.R_alloc | apply Kd.R_drewN | apply Kd.R_drew)); exact HO270.out))) (Kd.R_lt (by (with_reducible repeat (first | apply Kd.R_alloc | apply Kd.R_drewN | apply Kd.R_drew)); exact HO273.out))) (Kd.R_lt (by (with_reducible repeat (first | apply Kd.R_alloc | apply Kd.R_drewN | apply Kd.R_drew)); exact HO277.out))) (Kd.R_lt (by (with_reducible repeat (first | apply Kd.R_alloc | apply Kd.R_drewN | apply Kd.R_drew)); exact HO280.out))) (below_size (bl3 HB.out GE265.out GE266.out GE267.out)))
  replace HO270 := Aside0.mk (Kd.R_elder' (by (with_reducible repeat (first | apply Kd.R_alloc | apply Kd.R_drewN | apply Kd.R_drew)); exact HO270.out) (Kd.R_base ho0) hb)
  replace HO273 := Aside0.mk (Kd.R_elder' (by (with_reducible repeat (first | apply Kd.R_alloc | apply Kd.R_drewN | apply Kd.R_drew)); exact HO273.out) (Kd.R_base ho0) hb)
  replace HO277 := Aside0.mk (Kd.R_elder' (by (with_reducible repeat (first | apply Kd.R_alloc | apply Kd.R_drewN | apply Kd.R_drew)); exact HO277.out) (Kd.R_base ho0) hb)
  replace HO280 := Aside0.mk (Kd.R_elder' (by (with_reducible repeat (first | apply Kd.R_alloc | apply Kd.R_drewN | apply Kd.R_drew)); exact HO280.out) (Kd.R_base ho0) hb)
  replace BK265 := Aside0.mk (bb BK265.out hb)
  replace BK266 := Aside0.mk (bb BK266.out hb)
  replace BK267 := Aside0.mk (bb BK267.out hb)
  replace HB := Aside0.mk (below_step (bl3 HB.out GE265.out GE266.out GE267.out) hb)
  (try clear hb)
  (try clear hb2)
  (try clear hk)
  (try clear hi)
  (try clear ho0)
  obtain ⟨Ao36, co36, eo36⟩ := Kd.R_slice HO283.out
  (first | subst eo36 | (injection eo36 with f1_ f2_ f3_; have f4_ := f1_.symm; have f5_ := f3_.symm; clear f1_ f2_ f3_; subst f4_; subst f5_))
  refine hK.out _ _ ⟨(blk_cell BK265.out 0).trans rfl, (blk_cell BK265.out 1).trans rfl, (blk_cell BK266.out 0).trans rfl, (blk_cell BK266.out 1).trans rfl⟩ (fun hHeld => ?_)
  clear hK K
  refine norm_ (a' := ?_) ?_ ?_
  rotate_left
  ·show Act.put _ (some 17) _ = _
   simp only [Act.put, List.setIfInBounds_toArray, List.set_cons_zero, List.set_cons_succ, i64_w, i32_w]
   rfl
  refine one_ (i := 5) (N := some 18) (ba 10 63) rfl rfl (one_of HT_.out (by kernel_rfl)) (by decide) (fun K hK => ?_)
  refine goes_ Try.func31 (by kernel_rfl) rfl #[.slice Ao36 t281.length co36] (by rfl) rfl rfl am ?_
  with_reducible refine (pochoirref01_fit.calls k _ _ t281 t284 t285 t286 _ ?side1 ?side2 A21.out).mono ?_
  (case side1 => repeat (first | exact (Kd.R_reads' HO283.out).2.2 | (with_reducible refine Kd.C_alloc ?_ _) | (with_reducible refine Kd.C_drewN ?_ _) | (with_reducible refine Kd.C_drew ?_)))
  (case side2 => exact (Kd.R_reads' HO283.out).2.1)
  rintro e w37 ⟨rfl, hb⟩
  refine ⟨_, rfl, ?_⟩
  replace HO270 := Aside0.mk (Kd.R_below (by (with_reducible repeat (first | apply Kd.R_alloc | apply Kd.R_drewN | apply Kd.R_drew)); exact HO270.out) hb)
  replace HO273 := Aside0.mk (Kd.R_below (by (with_reducible repeat (first | apply Kd.R_alloc | apply Kd.R_drewN | apply Kd.R_drew)); exact HO273.out) hb)
  replace HO277 := Aside0.mk (Kd.R_below (by (with_reducible repeat (first | apply Kd.R_alloc | apply Kd.R_drewN | apply Kd.R_drew)); exact HO277.out) hb)
  replace HO280 := Aside0.mk (Kd.R_below (by (with_reducible repeat (first | apply Kd.R_alloc | apply Kd.R_drewN | apply Kd.R_drew)); exact HO280.out) hb)
  replace HO283 := Aside0.mk (Kd.R_below (by (with_reducible repeat (first | apply Kd.R_alloc | apply Kd.R_drewN | apply Kd.R_drew)); exact HO283.out) hb)
  replace BK265 := Aside0.mk (bb BK265.out hb)
  replace BK266 := Aside0.mk (bb BK266.out hb)
  replace BK267 := Aside0.mk (bb BK267.out hb)
  replace HB := Aside0.mk (below_step (bl3 HB.out GE265.out GE266.out GE267.out) hb)
  (try clear hb)
  (try clear hb2)
  (try clear hk)
  (try clear hi)
  refine hK.out _ _ ⟨(blk_cell BK265.out 0).trans rfl, (blk_cell BK265.out 1).trans rfl, (blk_cell BK266.out 0).trans rfl, (blk_cell BK266.out 1).trans rfl⟩ (fun hHeld => ?_)
  clear hK K
  refine norm_ (a' := ?_) ?_ ?_
  rotate_left
  ·show Act.put _ (some 18) _ = _
   simp only [Act.put, List.setIfInBounds_toArray, List.set_cons_zero, List.set_cons_succ, i64_w, i32_w]
   rfl
  refine pI 6 19 (ba 10 127) HT_.out ?_
  refine pI 7 20 (ba 10 255) HT_.out ?_
  refine one_ (i := 8) (N := none) (ba 10 511) rfl rfl (one_of HT_.out (by kernel_rfl)) (by decide) (fun K hK => ?_)
  have hs38 : w37.cell? ⟨gb267, 0, none⟩ = some (.int .u64 0) := (blk_cell BK267.out 0).trans rfl
  have hfs38 := blk_frozen BK267.out 0
  have hns38_0 := NB265_267.out
  have hns38_1 := NB266_267.out
  have hms38_0 := NB267_265.out
  have hms38_1 := NB267_266.out
  have hs39 : w37.cell? ⟨gb267, 1, none⟩ = some (.int .u64 0) := (blk_cell BK267.out 1).trans rfl
  have hfs39 := blk_frozen BK267.out 1
  have hns39_0 := NB265_267.out
  have hns39_1 := NB266_267.out
  have hms39_0 := NB267_265.out
  have hms39_1 := NB267_266.out
  refine skip_ (w1 := ?_) (by rfl) rfl ?_ ?_
  rotate_left
  ·go_simp
   rfl
  refine hK.out _ _ ⟨((cell_far (p := ⟨gb267, _, none⟩) NB265_267.out _).trans (((cell_far (p := ⟨gb267, _, none⟩) NB265_267.out _).trans (hHeld.1)))), ((cell_far (p := ⟨gb267, _, none⟩) NB265_267.out _).trans (((cell_far (p := ⟨gb267, _, none⟩) NB265_267.out _).trans (hHeld.2.1)))), ((cell_far (p := ⟨gb267, _, none⟩) NB266_267.out _).trans (((cell_far (p := ⟨gb267, _, none⟩) NB266_267.out _).trans (hHeld.2.2.1)))), ((cell_far (p := ⟨gb267, _, none⟩) NB266_267.out _).trans (((cell_far (p := ⟨gb267, _, none⟩) NB266_267.out _).trans (hHeld.2.2.2))))⟩ (fun hHeld => ?_)
  clear hK K
  refine pI 9 5 (ba 10 1023) HT_.out ?_
  refine done_ (done_of HT_.out (by kernel_rfl)) ?_
  try go_wp2
  refine bodyPost_ret (results_ct rfl _ _ gb267 24 #[.int .u64 t284, .int .u64 t285] (0, 0) _ rfl (bk (blk_put (cs := #[.int .u64 t284, .int .u64 0]) (bk (blk_put (cs := #[.int .u64 0, .int .u64 0]) (bk BK267.out) 0 _ rfl)) 1 _ rfl)) Try.underlying24 rfl (by kernel_rfl)) rfl ?_
  exact ⟨by first | rfl | (simp [errW_none, errW_some] <;> rfl) | (simp [*, errW_none, errW_some] <;> rfl), bl3 HB.out GE265.out GE266.out GE267.out⟩

end Go.Proofs.Ytjjnkadfoepflaa.XWide
