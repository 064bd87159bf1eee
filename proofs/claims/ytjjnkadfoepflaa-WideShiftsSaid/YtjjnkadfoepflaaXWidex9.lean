-- Printed by a program of this claim. Not trusted: Lean checks it.
import Derived.Test.YtjjnkadfoepflaaXWidex0
import Derived.Test.YtjjnkadfoepflaaXWidex5
import Derived.Test.YtjjnkadfoepflaaXWidex6
namespace Go.Proofs.Ytjjnkadfoepflaa.XWide
open Go.RowKit Go.Proofs.YtjjnkadfoepflaaW.PrintWords Go.Proofs.YtjjnkadfoepflaaW.PrintLast Go.Proofs.YtjjnkadfoepflaaW.PrintMore
attribute [local go_sem] max2_int min2_int max_two min_two max_three min_three max_four min_four   -- for this text's walks alone
set_option linter.unusedVariables false
set_option linter.unusedSimpArgs false
open XOpen

/-! ### pochoirref01_fit: function 31 -/
def pochoirref01_fit.f (k : Nat) (l0 : List Int) : Option (Int × Int × Int) := (pochoirref01_Value.f k l0).bind fun bt239 => (if bt239.2.2 = true then (some (bt239.1, bt239.2.1, 0)) else (some (0, 0, 2)))
theorem pochoirref01_fit.mono : ∀ a0 k, LeO (pochoirref01_fit.f k a0) (pochoirref01_fit.f (k + 1) a0) := by
 intro a0 k
 unfold pochoirref01_fit.f
 repeat' first
   | (with_reducible exact pochoirref01_Value.mono _ _)
   | (with_reducible exact LeO.refl _)
   | (with_reducible exact LeO.none _)
   | (with_reducible refine LeO.ite ?_ ?_)
   | (with_reducible refine LeO.bind ?_ (fun _ => ?_))
   | exact pochoirref01_Value.mono _ _
   | exact LeO.none _
   | refine LeO.ite ?_ ?_
   | refine LeO.bind ?_ (fun _ => ?_)
set_option maxHeartbeats 8000000 in
set_option maxRecDepth 100000 in
theorem pochoirref01_fit.calls (k : Nat) (A0 : Option Addr) (c0 : Nat) (l0 : List Int) (r1 : Int) (r2 : Int) (r3 : Int) (w : World) (hr0 : Kd.C (Kd.int .u64) w A0 l0.length l0) (hc0 : l0.length ≤ c0) (h : pochoirref01_fit.f k l0 = some (r1, r2, r3)) :
  Calls Try.prog 31 #[.slice A0 l0.length c0] w fun e w' => e = .returned (.tuple #[.agg #[.int .u64 r1, .int .u64 r2], .int .i64 r3]) ∧ Below w.heap.size w w' := by
 have hu24 := Try.underlying24
 have HR0 := Aside0.mk hr0
 have HC0 := Aside0.mk hc0
 clear hr0 hc0
 have HB := Aside0.mk (Below.refl w.heap.size w)
 have H : ((pochoirref01_Value.f k l0).bind fun bt239 => (if bt239.2.2 = true then (some (bt239.1, bt239.2.1, 0)) else (some (0, 0, 2)))) = some (r1, r2, r3) := h
 clear h
 replace H := Option.bind_eq_some_iff.mp H
 obtain ⟨⟨t239, t240, t241⟩, A20, H⟩ := H
 replace H : (if t241 = true then (some (t239, t240, 0)) else (some (0, 0, 2))) = some (r1, r2, r3) := H
 have A2 := Aside0.mk A20
 clear A20
 by_cases c3 : t241 = true
 ·subst c3
  have H1 : (some (t239, t240, 0)) = some (r1, r2, r3) := by rw [if_pos rfl] at H; exact H
  clear H
  have H := H1
  clear H1
  simp only [Option.some.injEq, Prod.mk.injEq] at H
  obtain ⟨rfl, rfl, rfl⟩ := H
  go_enter Try.func31, Try.ntmps31
  go_wp2_with (first | ((with_reducible refine gate_dst (N := 2) rfl ?_); refine be 2 (#[.int .u64 0, .int .u64 0]) 24 ?_; intro gb238 hg w4 hbox hb; have BK238 := Aside0.mk (hbox); have GW238 := Aside0.mk ((by rw [hg]; exact (below_size (bl0 HB.out)) : w.heap.size ≤ gb238)); have GE238 := GW238; replace HB := Aside0.mk (below_step (bl0 HB.out) hb); clear hb hbox hg) | ((with_reducible refine gate_callee (f := 29) rfl ?_); refine goesL_ (some 8) rfl rfl Try.func29 (by kernel_rfl) rfl #[.slice A0 l0.length c0] rfl am ?_; (with_reducible refine (pochoirref01_Value.calls k _ _ l0 t239 t240 true _ ?side1 ?side2 A2.out).mono ?_); (case side1 => repeat (first | exact (Kd.C_below HR0.out HB.out) | (with_reducible refine Kd.C_alloc ?_ _) | (with_reducible refine Kd.C_drewN ?_ _) | (with_reducible refine Kd.C_drew ?_))); (case side2 => exact HC0.out); rintro e w5 ⟨rfl, hb⟩; refine ⟨_, rfl, ?_⟩; replace BK238 := Aside0.mk (bb BK238.out hb); replace HB := Aside0.mk (below_step (bl1 HB.out GE238.out) hb); (try clear hb); (try clear hb2); (try clear hk); (try clear hi)) | ((with_reducible refine gate_dst (N := 4) rfl ?_); refine be 4 (#[.int .u64 0, .int .u64 0]) 24 ?_; intro gb242 hg w6 hbox hb; have BK242 := Aside0.mk (hbox); have GW242 := Aside0.mk ((by rw [hg]; exact (below_size (bl1 HB.out GE238.out)) : w.heap.size ≤ gb242)); have GE242 := GW242; have NB238_242 := Aside0.mk ((by rw [hg]; exact Nat.ne_of_lt (lt_ BK238.out) : gb238 ≠ gb242)); have NB242_238 := Aside0.mk ((by rw [hg]; exact Nat.ne_of_gt (lt_ BK238.out) : gb242 ≠ gb238)); replace BK238 := Aside0.mk (bb BK238.out hb); replace HB := Aside0.mk (below_step (bl1 HB.out GE238.out) hb); clear hb hbox hg; have hnb7 := NB242_238.out; have hnc7 := NB238_242.out; have hcz8_0 : w6.cell? ⟨gb242, 0, none⟩ = some (.int .u64 0) := (blk_cell BK242.out 0).trans rfl; have hcz8_1 : w6.cell? ⟨gb242, 1, none⟩ = some (.int .u64 0) := (blk_cell BK242.out 1).trans rfl; have hfz8_0 := blk_frozen BK242.out 0; have hfz8_1 := blk_frozen BK242.out 1; have hcz9_0 : w6.cell? ⟨gb238, 0, none⟩ = some (.int .u64 0) := (blk_cell BK238.out 0).trans rfl; have hcz9_1 : w6.cell? ⟨gb238, 1, none⟩ = some (.int .u64 0) := (blk_cell BK238.out 1).trans rfl; have hfz9_0 := blk_frozen BK238.out 0; have hfz9_1 := blk_frozen BK238.out 1))
  refine bodyPost_ret (results_ct rfl _ _ gb238 24 #[.int .u64 t239, .int .u64 t240] (0, 0) _ rfl (by (with_reducible repeat (first | refine blk_drewN ?_ _ | refine blk_drew ?_ | refine blk_alloc ?_ _)); refine blk_put (cs := #[.int .u64 t239, .int .u64 0]) ?_ 1 _ rfl; (with_reducible repeat (first | refine blk_drewN ?_ _ | refine blk_drew ?_ | refine blk_alloc ?_ _)); refine blk_put (cs := #[.int .u64 0, .int .u64 0]) ?_ 0 _ rfl; (with_reducible repeat (first | refine blk_drewN ?_ _ | refine blk_drew ?_ | refine blk_alloc ?_ _)); refine blk_far ?_ NB238_242.out _; (with_reducible repeat (first | refine blk_drewN ?_ _ | refine blk_drew ?_ | refine blk_alloc ?_ _)); refine blk_far ?_ NB238_242.out _; (with_reducible repeat (first | refine blk_drewN ?_ _ | refine blk_drew ?_ | refine blk_alloc ?_ _)); exact BK238.out) Try.underlying24 rfl (by kernel_rfl)) rfl ?_
  exact ⟨by first | rfl | (simp [errW_none, errW_some] <;> rfl) | (simp [*, errW_none, errW_some] <;> rfl), bl2 HB.out GE238.out GE242.out⟩
 ·replace c3 := Bool.eq_false_iff.mpr c3
  subst c3
  have H1 : (some (0, 0, 2)) = some (r1, r2, r3) := by rw [if_neg (show ¬ (false = true) by decide)] at H; exact H
  clear H
  have H := H1
  clear H1
  simp only [Option.some.injEq, Prod.mk.injEq] at H
  obtain ⟨rfl, rfl, rfl⟩ := H
  go_enter Try.func31, Try.ntmps31
  go_wp2_with (first | ((with_reducible refine gate_dst (N := 2) rfl ?_); refine be 2 (#[.int .u64 0, .int .u64 0]) 24 ?_; intro gb238 hg w10 hbox hb; have BK238 := Aside0.mk (hbox); have GW238 := Aside0.mk ((by rw [hg]; exact (below_size (bl0 HB.out)) : w.heap.size ≤ gb238)); have GE238 := GW238; replace HB := Aside0.mk (below_step (bl0 HB.out) hb); clear hb hbox hg) | ((with_reducible refine gate_callee (f := 29) rfl ?_); refine goesL_ (some 8) rfl rfl Try.func29 (by kernel_rfl) rfl #[.slice A0 l0.length c0] rfl am ?_; (with_reducible refine (pochoirref01_Value.calls k _ _ l0 t239 t240 false _ ?side1 ?side2 A2.out).mono ?_); (case side1 => repeat (first | exact (Kd.C_below HR0.out HB.out) | (with_reducible refine Kd.C_alloc ?_ _) | (with_reducible refine Kd.C_drewN ?_ _) | (with_reducible refine Kd.C_drew ?_))); (case side2 => exact HC0.out); rintro e w11 ⟨rfl, hb⟩; refine ⟨_, rfl, ?_⟩; replace BK238 := Aside0.mk (bb BK238.out hb); replace HB := Aside0.mk (below_step (bl1 HB.out GE238.out) hb); (try clear hb); (try clear hb2); (try clear hk); (try clear hi)) | ((with_reducible refine gate_dst (N := 4) rfl ?_); refine be 4 (#[.int .u64 0, .int .u64 0]) 24 ?_; intro gb242 hg w12 hbox hb; have BK242 := Aside0.mk (hbox); have GW242 := Aside0.mk ((by rw [hg]; exact (below_size (bl1 HB.out GE238.out)) : w.heap.size ≤ gb242)); have GE242 := GW242; have NB238_242 := Aside0.mk ((by rw [hg]; exact Nat.ne_of_lt (lt_ BK238.out) : gb238 ≠ gb242)); have NB242_238 := Aside0.mk ((by rw [hg]; exact Nat.ne_of_gt (lt_ BK238.out) : gb242 ≠ gb238)); replace BK238 := Aside0.mk (bb BK238.out hb); replace HB := Aside0.mk (below_step (bl1 HB.out GE238.out) hb); clear hb hbox hg; have hnb13 := NB242_238.out; have hnc13 := NB238_242.out; have hcz14_0 : w12.cell? ⟨gb242, 0, none⟩ = some (.int .u64 0) := (blk_cell BK242.out 0).trans rfl; have hcz14_1 : w12.cell? ⟨gb242, 1, none⟩ = some (.int .u64 0) := (blk_cell BK242.out 1).trans rfl; have hfz14_0 := blk_frozen BK242.out 0; have hfz14_1 := blk_frozen BK242.out 1; have hcz15_0 : w12.cell? ⟨gb238, 0, none⟩ = some (.int .u64 0) := (blk_cell BK238.out 0).trans rfl; have hcz15_1 : w12.cell? ⟨gb238, 1, none⟩ = some (.int .u64 0) := (blk_cell BK238.out 1).trans rfl; have hfz15_0 := blk_frozen BK238.out 0; have hfz15_1 := blk_frozen BK238.out 1))
  refine bodyPost_ret (results_ct rfl _ _ gb238 24 #[.int .u64 0, .int .u64 0] (0, 0) _ rfl (by (with_reducible repeat (first | refine blk_drewN ?_ _ | refine blk_drew ?_ | refine blk_alloc ?_ _)); refine blk_put (cs := #[.int .u64 0, .int .u64 0]) ?_ 1 _ rfl; (with_reducible repeat (first | refine blk_drewN ?_ _ | refine blk_drew ?_ | refine blk_alloc ?_ _)); refine blk_put (cs := #[.int .u64 0, .int .u64 0]) ?_ 0 _ rfl; (with_reducible repeat (first | refine blk_drewN ?_ _ | refine blk_drew ?_ | refine blk_alloc ?_ _)); refine blk_far ?_ NB238_242.out _; (with_reducible repeat (first | refine blk_drewN ?_ _ | refine blk_drew ?_ | refine blk_alloc ?_ _)); refine blk_far ?_ NB238_242.out _; (with_reducible repeat (first | refine blk_drewN ?_ _ | refine blk_drew ?_ | refine blk_alloc ?_ _)); exact BK238.out) Try.underlying24 rfl (by kernel_rfl)) rfl ?_
  exact ⟨by first | rfl | (simp [errW_none, errW_some] <;> rfl) | (simp [*, errW_none, errW_some] <;> rfl), bl2 HB.out GE238.out GE242.out⟩

/-! ### pochoirref01_Add: function 15 -/
def pochoirref01_Add.f (k : Nat) (a0_0 : Int) (a0_1 : Int) (a1_0 : Int) (a1_1 : Int) : Option (Int × Int × Int) := (pochoirref01_Digits.f k a0_0 a0_1).bind fun t246 => ((pochoirref01_Digits.f k a1_0 a1_1).bind fun t249 => ((pochoirref01_Plus.f k t246 t249).bind fun t252 => ((pochoirref01_fit.f k t252).bind fun bt255 => (some (bt255.1, bt255.2.1, bt255.2.2)))))
theorem pochoirref01_Add.mono : ∀ a0 a1 a2 a3 k, LeO (pochoirref01_Add.f k a0 a1 a2 a3) (pochoirref01_Add.f (k + 1) a0 a1 a2 a3) := by
 intro a0 a1 a2 a3 k
 unfold pochoirref01_Add.f
 repeat' first
   | (with_reducible exact pochoirref01_Digits.mono _ _ _)
   | (with_reducible exact pochoirref01_Plus.mono _ _ _)
   | (with_reducible exact pochoirref01_fit.mono _ _)
   | (with_reducible exact LeO.refl _)
   | (with_reducible exact LeO.none _)
   | (with_reducible refine LeO.ite ?_ ?_)
   | (with_reducible refine LeO.bind ?_ (fun _ => ?_))
   | exact pochoirref01_Digits.mono _ _ _
   | exact pochoirref01_Plus.mono _ _ _
   | exact pochoirref01_fit.mono _ _
   | exact LeO.none _
   | refine LeO.ite ?_ ?_
   | refine LeO.bind ?_ (fun _ => ?_)
def pochoirref01_Add.T1 : Bool × List (List Nat × List Nat) := (true, [([], []), ([0], [0]), ([], []), ([2, 1], [2]), ([1, 3, 3], [1, 3]), ([4, 4], [4]), ([5], [5]), ([5], [5]), ([6, 5, 0, 1, 2, 3, 4, 5, 6, 7], [6]), ([7, 8, 0, 1, 2, 3, 4, 5, 6, 7, 8], [7])])
def pochoirref01_Add.B1 : List Nat := [0, 1, 0, 7, 15, 31, 63, 63, 255, 511]
theorem pochoirref01_Add.tab1 : rtab .any (opsOf Try.f15 1) = pochoirref01_Add.T1 := by kernel_rfl
theorem pochoirref01_Add.bits1 : waitsOk pochoirref01_Add.T1.2 pochoirref01_Add.B1 = true := by kernel_rfl
set_option maxHeartbeats 8000000 in
set_option maxRecDepth 100000 in
theorem pochoirref01_Add.calls (k : Nat) (a0_0 : Int) (a0_1 : Int) (a1_0 : Int) (a1_1 : Int) (r1 : Int) (r2 : Int) (r3 : Int) (w : World) (h : pochoirref01_Add.f k a0_0 a0_1 a1_0 a1_1 = some (r1, r2, r3)) :
  Calls Try.prog 15 #[.agg #[.int .u64 a0_0, .int .u64 a0_1], .agg #[.int .u64 a1_0, .int .u64 a1_1]] w fun e w' => e = .returned (.tuple #[.agg #[.int .u64 r1, .int .u64 r2], .int .i64 r3]) ∧ Below w.heap.size w w' := by
 have hu24 := Try.underlying24
 have HB := Aside0.mk (Below.refl w.heap.size w)
 have H : ((pochoirref01_Digits.f k a0_0 a0_1).bind fun t246 => ((pochoirref01_Digits.f k a1_0 a1_1).bind fun t249 => ((pochoirref01_Plus.f k t246 t249).bind fun t252 => ((pochoirref01_fit.f k t252).bind fun bt255 => (some (bt255.1, bt255.2.1, bt255.2.2)))))) = some (r1, r2, r3) := h
 clear h
 replace H := Option.bind_eq_some_iff.mp H
 obtain ⟨t246, A30, H⟩ := H
 replace H : ((pochoirref01_Digits.f k a1_0 a1_1).bind fun t249 => ((pochoirref01_Plus.f k t246 t249).bind fun t252 => ((pochoirref01_fit.f k t252).bind fun bt255 => (some (bt255.1, bt255.2.1, bt255.2.2))))) = some (r1, r2, r3) := H
 have A3 := Aside0.mk A30
 clear A30
 replace H := Option.bind_eq_some_iff.mp H
 obtain ⟨t249, A40, H⟩ := H
 replace H : ((pochoirref01_Plus.f k t246 t249).bind fun t252 => ((pochoirref01_fit.f k t252).bind fun bt255 => (some (bt255.1, bt255.2.1, bt255.2.2)))) = some (r1, r2, r3) := H
 have A4 := Aside0.mk A40
 clear A40
 replace H := Option.bind_eq_some_iff.mp H
 obtain ⟨t252, A50, H⟩ := H
 replace H : ((pochoirref01_fit.f k t252).bind fun bt255 => (some (bt255.1, bt255.2.1, bt255.2.2))) = some (r1, r2, r3) := H
 have A5 := Aside0.mk A50
 clear A50
 replace H := Option.bind_eq_some_iff.mp H
 obtain ⟨⟨t255, t256, t257⟩, A60, H⟩ := H
 replace H : (some (t255, t256, t257)) = some (r1, r2, r3) := H
 have A6 := Aside0.mk A60
 clear A60
 simp only [Option.some.injEq, Prod.mk.injEq] at H
 obtain ⟨rfl, rfl, rfl⟩ := H
 go_enter Try.func15, Try.ntmps15
 try go_wp2_with (first | ((with_reducible refine gate_dst (N := 2) rfl ?_); refine be 2 (#[.int .u64 a0_0, .int .u64 a0_1]) 24 ?_; intro gb243 hg w7 hbox hb; have BK243 := Aside0.mk (hbox); have GW243 := Aside0.mk ((by rw [hg]; exact (below_size (bl0 HB.out)) : w.heap.size ≤ gb243)); have GE243 := GW243; replace HB := Aside0.mk (below_step (bl0 HB.out) hb); clear hb hbox hg) | ((with_reducible refine gate_dst (N := 3) rfl ?_); refine be 3 (#[.int .u64 a1_0, .int .u64 a1_1]) 24 ?_; intro gb244 hg w8 hbox hb; have BK244 := Aside0.mk (hbox); have GW244 := Aside0.mk ((by rw [hg]; exact (below_size (bl1 HB.out GE243.out)) : w.heap.size ≤ gb244)); have GE244 := GW244; have NB243_244 := Aside0.mk ((by rw [hg]; exact Nat.ne_of_lt (lt_ BK243.out) : gb243 ≠ gb244)); have NB244_243 := Aside0.mk ((by rw [hg]; exact Nat.ne_of_gt (lt_ BK243.out) : gb244 ≠ gb243)); replace BK243 := Aside0.mk (bb BK243.out hb); replace HB := Aside0.mk (below_step (bl1 HB.out GE243.out) hb); clear hb hbox hg) | ((with_reducible refine gate_dst (N := 4) rfl ?_); refine be 4 (#[.int .u64 0, .int .u64 0]) 24 ?_; intro gb245 hg w9 hbox hb; have BK245 := Aside0.mk (hbox); have GW245 := Aside0.mk ((by rw [hg]; exact (below_size (bl2 HB.out GE243.out GE244.out)) : w.heap.size ≤ gb245)); have GE245 := GW245; have NB243_245 := Aside0.mk ((by rw [hg]; exact Nat.ne_of_lt (lt_ BK243.out) : gb243 ≠ gb245)); have NB245_243 := Aside0.mk ((by rw [hg]; exact Nat.ne_of_gt (lt_ BK243.out) : gb245 ≠ gb243)); have NB244_245 := Aside0.mk ((by rw [hg]; exact Nat.ne_of_lt (lt_ BK244.out) : gb244 ≠ gb245)); have NB245_244 := Aside0.mk ((by rw [hg]; exact Nat.ne_of_gt (lt_ BK244.out) : gb245 ≠ gb244)); replace BK243 := Aside0.mk (bb BK243.out hb); replace BK244 := Aside0.mk (bb BK244.out hb); replace HB := Aside0.mk (below_step (bl2 HB.out GE243.out GE244.out) hb); clear hb hbox hg))
 replace BK243 := Aside0.mk (blk_drew BK243.out)
 replace BK244 := Aside0.mk (blk_drew BK244.out)
 replace BK245 := Aside0.mk (blk_drew BK245.out)
 replace HB := Aside0.mk (below_drew1 HB.out)
 refine start_ (n := 10) (S := fun w' => w'.cell? ⟨gb243, 0, none⟩ = some (.int .u64 a0_0) ∧ w'.cell? ⟨gb243, 1, none⟩ = some (.int .u64 a0_1) ∧ w'.cell? ⟨gb244, 0, none⟩ = some (.int .u64 a1_0) ∧ w'.cell? ⟨gb244, 1, none⟩ = some (.int .u64 a1_1)) (ds := []) (ba 10 0) (by kernel_rfl) rfl rfl ⟨(blk_cell BK243.out 0).trans rfl, (blk_cell BK243.out 1).trans rfl, (blk_cell BK244.out 0).trans rfl, (blk_cell BK244.out 1).trans rfl⟩ (fun hHeld => ?_); refine with_tabW pochoirref01_Add.tab1 pochoirref01_Add.bits1 (fun HT_ HW_ => ?_)
 generalize w9.drew = w10 at BK243 BK244 BK245 HB hHeld ⊢
 refine take_ (i := 0) (N := some 6) (v := ?_) (a' := ?_) (ba 10 1) rfl rfl (take_ofW HT_.out HW_.out (by kernel_rfl)) (fun _ _ _ h => h) (Or.inl ⟨by rfl, ?_⟩) hHeld ?_ ?_
 rotate_left
 ·rintro w' ⟨s0, s1, s2, s3⟩
  go_simp
  with_reducible rfl
 rotate_left
 ·simp only [Act.put, List.setIfInBounds_toArray, List.set_cons_zero, List.set_cons_succ, i64_w, i32_w]
  rfl
 refine take_ (i := 2) (N := some 8) (v := ?_) (a' := ?_) (ba 10 5) rfl rfl (take_ofW HT_.out HW_.out (by kernel_rfl)) (fun _ _ _ h => h) (Or.inl ⟨by rfl, ?_⟩) hHeld ?_ ?_
 rotate_left
 ·rintro w' ⟨s0, s1, s2, s3⟩
  go_simp
  with_reducible rfl
 rotate_left
 ·simp only [Act.put, List.setIfInBounds_toArray, List.set_cons_zero, List.set_cons_succ, i64_w, i32_w]
  rfl
 refine one_ (i := 1) (N := some 7) (ba 10 7) rfl rfl (one_of HT_.out (by kernel_rfl)) (by decide) (fun K hK => ?_)
 refine goes_ Try.func26 (by kernel_rfl) rfl #[.agg #[.int .u64 a0_0, .int .u64 a0_1]] (by rfl) rfl rfl am ?_
 with_reducible refine (pochoirref01_Digits.calls k a0_0 a0_1 t246 _ A3.out).mono ?_
 rintro e w11 ⟨v247, rfl, ho0, hb⟩
 refine ⟨_, rfl, ?_⟩
 have HO248 := Aside0.mk (Kd.R_lower ho0 (below_size (bl3 HB.out GE243.out GE244.out GE245.out)))
 replace BK243 := Aside0.mk (bb BK243.out hb)
 replace BK244 := Aside0.mk (bb BK244.out hb)
 replace BK245 := Aside0.mk (bb BK245.out hb)
 replace HB := Aside0.mk (below_step (bl3 HB.out GE243.out GE244.out GE245.out) hb)
 (try clear hb)
 (try clear hb2)
 (try clear hk)
 (try clear hi)
 (try clear ho0)
 refine hK.out _ _ ⟨(blk_cell BK243.out 0).trans rfl, (blk_cell BK243.out 1).trans rfl, (blk_cell BK244.out 0).trans rfl, (blk_cell BK244.out 1).trans rfl⟩ (fun hHeld => ?_)
 clear hK K
 refine norm_ (a' := ?_) ?_ ?_
 rotate_left
 ·show Act.put _ (some 7) _ = _
  simp only [Act.put, List.setIfInBounds_toArray, List.set_cons_zero, List.set_cons_succ, i64_w, i32_w]
  rfl
 refine one_ (i := 3) (N := some 9) (ba 10 15) rfl rfl (one_of HT_.out (by kernel_rfl)) (by decide) (fun K hK => ?_)
 refine goes_ Try.func26 (by kernel_rfl) rfl #[.agg #[.int .u64 a1_0, .int .u64 a1_1]] (by rfl) rfl rfl am ?_
 with_reducible refine (pochoirref01_Digits.calls k a1_0 a1_1 t249 _ A4.out).mono ?_
 rintro e w12 ⟨v250, rfl, ho0, hb⟩
 refine ⟨_, rfl, ?_⟩
 have HO251 := Aside0.mk (Kd.R_lower (Kd.R_new' ho0 (Kd.R_lt (by (with_reducible repeat (first | apply Kd.R_alloc | apply Kd.R_drewN | apply Kd.R_drew)); exact HO248.out))) (below_size (bl3 HB.out GE243.out GE244.out GE245.out)))
 replace HO248 := Aside0.mk (Kd.R_elder' (by (with_reducible repeat (first | apply Kd.R_alloc | apply Kd.R_drewN | apply Kd.R_drew)); exact HO248.out) (Kd.R_base ho0) hb)
 replace BK243 := Aside0.mk (bb BK243.out hb)
 replace BK244 := Aside0.mk (bb BK244.out hb)
 replace BK245 := Aside0.mk (bb BK245.out hb)
 replace HB := Aside0.mk (below_step (bl3 HB.out GE243.out GE244.out GE245.out) hb)
 (try clear hb)
 (try clear hb2)
 (try clear hk)
 (try clear hi)
 (try clear ho0)
 obtain ⟨Ao13, co13, eo13⟩ := Kd.R_slice HO248.out
 (first | subst eo13 | (injection eo13 with f1_ f2_ f3_; have f4_ := f1_.symm; have f5_ := f3_.symm; clear f1_ f2_ f3_; subst f4_; subst f5_))
 obtain ⟨Ao14, co14, eo14⟩ := Kd.R_slice HO251.out
 (first | subst eo14 | (injection eo14 with f1_ f2_ f3_; have f4_ := f1_.symm; have f5_ := f3_.symm; clear f1_ f2_ f3_; subst f4_; subst f5_))
 refine hK.out _ _ ⟨(blk_cell BK243.out 0).trans rfl, (blk_cell BK243.out 1).trans rfl, (blk_cell BK244.out 0).trans rfl, (blk_cell BK244.out 1).trans rfl⟩ (fun hHeld => ?_)
 clear hK K
 refine norm_ (a' := ?_) ?_ ?_
 rotate_left
 ·show Act.put _ (some 9) _ = _
  simp only [Act.put, List.setIfInBounds_toArray, List.set_cons_zero, List.set_cons_succ, i64_w, i32_w]
  rfl
 refine one_ (i := 4) (N := some 10) (ba 10 31) rfl rfl (one_of HT_.out (by kernel_rfl)) (by decide) (fun K hK => ?_)
 refine goes_ Try.func32 (by kernel_rfl) rfl #[.slice Ao13 t246.length co13, .slice Ao14 t249.length co14] (by rfl) rfl rfl am ?_
 with_reducible refine (pochoirref01_Plus.calls k _ _ t246 _ _ t249 t252 _ ?side1 ?side2 ?side3 ?side4 A5.out).mono ?_
 (case side1 => repeat (first | exact (Kd.R_reads' HO248.out).2.2 | (with_reducible refine Kd.C_alloc ?_ _) | (with_reducible refine Kd.C_drewN ?_ _) | (with_reducible refine Kd.C_drew ?_)))
 (case side2 => exact (Kd.R_reads' HO248.out).2.1)
 (case side3 => repeat (first | exact (Kd.R_reads' HO251.out).2.2 | (with_reducible refine Kd.C_alloc ?_ _) | (with_reducible refine Kd.C_drewN ?_ _) | (with_reducible refine Kd.C_drew ?_)))
 (case side4 => exact (Kd.R_reads' HO251.out).2.1)
 rintro e w15 ⟨v253, rfl, ho0, hb⟩
 refine ⟨_, rfl, ?_⟩
 have HO254 := Aside0.mk (Kd.R_lower (Kd.R_new' (Kd.R_new' ho0 (Kd.R_lt (by (with_reducible repeat (first | apply Kd.R_alloc | apply Kd.R_drewN | apply Kd.R_drew)); exact HO248.out))) (Kd.R_lt (by (with_reducible repeat (first | apply Kd.R_alloc | apply Kd.R_drewN | apply Kd.R_drew)); exact HO251.out))) (below_size (bl3 HB.out GE243.out GE244.out GE245.out)))
 replace HO248 := Aside0.mk (Kd.R_elder' (by (with_reducible repeat (first | apply Kd.R_alloc | apply Kd.R_drewN | apply Kd.R_drew)); exact HO248.out) (Kd.R_base ho0) hb)
 replace HO251 := Aside0.mk (Kd.R_elder' (by (with_reducible repeat (first | apply Kd.R_alloc | apply Kd.R_drewN | apply Kd.R_drew)); exact HO251.out) (Kd.R_base ho0) hb)
 replace BK243 := Aside0.mk (bb BK243.out hb)
 replace BK244 := Aside0.mk (bb BK244.out hb)
 replace BK245 := Aside0.mk (bb BK245.out hb)
 replace HB := Aside0.mk (below_step (bl3 HB.out GE243.out GE244.out GE245.out) hb)
 (try clear hb)
 (try clear hb2)
 (try clear hk)
 (try clear hi)
 (try clear ho0)
 obtain ⟨Ao16, co16, eo16⟩ := Kd.R_slice HO254.out
 (first | subst eo16 | (injection eo16 with f1_ f2_ f3_; have f4_ := f1_.symm; have f5_ := f3_.symm; clear f1_ f2_ f3_; subst f4_; subst f5_))
 refine hK.out _ _ ⟨(blk_cell BK243.out 0).trans rfl, (blk_cell BK243.out 1).trans rfl, (blk_cell BK244.out 0).trans rfl, (blk_cell BK244.out 1).trans rfl⟩ (fun hHeld => ?_)
 clear hK K
 refine norm_ (a' := ?_) ?_ ?_
 rotate_left
 ·show Act.put _ (some 10) _ = _
  simp only [Act.put, List.setIfInBounds_toArray, List.set_cons_zero, List.set_cons_succ, i64_w, i32_w]
  rfl
 refine one_ (i := 5) (N := some 11) (ba 10 63) rfl rfl (one_of HT_.out (by kernel_rfl)) (by decide) (fun K hK => ?_)
 refine goes_ Try.func31 (by kernel_rfl) rfl #[.slice Ao16 t252.length co16] (by rfl) rfl rfl am ?_
 with_reducible refine (pochoirref01_fit.calls k _ _ t252 t255 t256 t257 _ ?side1 ?side2 A6.out).mono ?_
 (case side1 => repeat (first | exact (Kd.R_reads' HO254.out).2.2 | (with_reducible refine Kd.C_alloc ?_ _) | (with_reducible refine Kd.C_drewN ?_ _) | (with_reducible refine Kd.C_drew ?_)))
 (case side2 => exact (Kd.R_reads' HO254.out).2.1)
 rintro e w17 ⟨rfl, hb⟩
 refine ⟨_, rfl, ?_⟩
 replace HO248 := Aside0.mk (Kd.R_below (by (with_reducible repeat (first | apply Kd.R_alloc | apply Kd.R_drewN | apply Kd.R_drew)); exact HO248.out) hb)
 replace HO251 := Aside0.mk (Kd.R_below (by (with_reducible repeat (first | apply Kd.R_alloc | apply Kd.R_drewN | apply Kd.R_drew)); exact HO251.out) hb)
 replace HO254 := Aside0.mk (Kd.R_below (by (with_reducible repeat (first | apply Kd.R_alloc | apply Kd.R_drewN | apply Kd.R_drew)); exact HO254.out) hb)
 replace BK243 := Aside0.mk (bb BK243.out hb)
 replace BK244 := Aside0.mk (bb BK244.out hb)
 replace BK245 := Aside0.mk (bb BK245.out hb)
 replace HB := Aside0.mk (below_step (bl3 HB.out GE243.out GE244.out GE245.out) hb)
 (try clear hb)
 (try clear hb2)
 (try clear hk)
 (try clear hi)
 refine hK.out _ _ ⟨(blk_cell BK243.out 0).trans rfl, (blk_cell BK243.out 1).trans rfl, (blk_cell BK244.out 0).trans rfl, (blk_cell BK244.out 1).trans rfl⟩ (fun hHeld => ?_)
 clear hK K
 refine norm_ (a' := ?_) ?_ ?_
 rotate_left
 ·show Act.put _ (some 11) _ = _
  simp only [Act.put, List.setIfInBounds_toArray, List.set_cons_zero, List.set_cons_succ, i64_w, i32_w]
  rfl
 refine pI 6 12 (ba 10 127) HT_.out ?_
 refine pI 7 13 (ba 10 255) HT_.out ?_
 refine one_ (i := 8) (N := none) (ba 10 511) rfl rfl (one_of HT_.out (by kernel_rfl)) (by decide) (fun K hK => ?_)
 have hs18 : w17.cell? ⟨gb245, 0, none⟩ = some (.int .u64 0) := (blk_cell BK245.out 0).trans rfl
 have hfs18 := blk_frozen BK245.out 0
 have hns18_0 := NB243_245.out
 have hns18_1 := NB244_245.out
 have hms18_0 := NB245_243.out
 have hms18_1 := NB245_244.out
 have hs19 : w17.cell? ⟨gb245, 1, none⟩ = some (.int .u64 0) := (blk_cell BK245.out 1).trans rfl
 have hfs19 := blk_frozen BK245.out 1
 have hns19_0 := NB243_245.out
 have hns19_1 := NB244_245.out
 have hms19_0 := NB245_243.out
 have hms19_1 := NB245_244.out
 refine skip_ (w1 := ?_) (by rfl) rfl ?_ ?_
 rotate_left
 ·go_simp
  rfl
 refine hK.out _ _ ⟨((cell_far (p := ⟨gb245, _, none⟩) NB243_245.out _).trans (((cell_far (p := ⟨gb245, _, none⟩) NB243_245.out _).trans (hHeld.1)))), ((cell_far (p := ⟨gb245, _, none⟩) NB243_245.out _).trans (((cell_far (p := ⟨gb245, _, none⟩) NB243_245.out _).trans (hHeld.2.1)))), ((cell_far (p := ⟨gb245, _, none⟩) NB244_245.out _).trans (((cell_far (p := ⟨gb245, _, none⟩) NB244_245.out _).trans (hHeld.2.2.1)))), ((cell_far (p := ⟨gb245, _, none⟩) NB244_245.out _).trans (((cell_far (p := ⟨gb245, _, none⟩) NB244_245.out _).trans (hHeld.2.2.2))))⟩ (fun hHeld => ?_)
 clear hK K
 refine pI 9 5 (ba 10 1023) HT_.out ?_
 refine done_ (done_of HT_.out (by kernel_rfl)) ?_
 try go_wp2
 refine bodyPost_ret (results_ct rfl _ _ gb245 24 #[.int .u64 t255, .int .u64 t256] (0, 0) _ rfl (bk (blk_put (cs := #[.int .u64 t255, .int .u64 0]) (bk (blk_put (cs := #[.int .u64 0, .int .u64 0]) (bk BK245.out) 0 _ rfl)) 1 _ rfl)) Try.underlying24 rfl (by kernel_rfl)) rfl ?_
 exact ⟨by first | rfl | (simp [errW_none, errW_some] <;> rfl) | (simp [*, errW_none, errW_some] <;> rfl), bl3 HB.out GE243.out GE244.out GE245.out⟩

/-! ### bits_Sub64: function 33 (no body: the model's own entry) -/
def bits_Sub64.f (a0 : Int) (a1 : Int) (a2 : Int) : Option (Int × Int) := if 0 ≤ a0 then (if 0 ≤ a1 then (if a1 < 18446744073709551616 then (if 0 ≤ a2 then (if a2 ≤ 1 then (some ((a0 - a1 - a2) % 18446744073709551616, if a0 < a1 + a2 then 1 else 0)) else none) else none) else none) else none) else none
theorem bits_Sub64.runs (a0 a1 a2 r0 r1 : Int) (w : World) (h : bits_Sub64.f a0 a1 a2 = some (r0, r1)) : (callFunc 33 #[.int .u64 a0, .int .u64 a1, .int .u64 a2]).run Try.prog w = .ok (.value (.tuple #[.int .u64 r0, .int .u64 r1])) w := by
 unfold bits_Sub64.f at h
 by_cases h0 : 0 ≤ a0
 case neg => rw [if_neg h0] at h; simp at h
 rw [if_pos h0] at h
 by_cases h1 : 0 ≤ a1
 case neg => rw [if_neg h1] at h; simp at h
 rw [if_pos h1] at h
 by_cases h1' : a1 < 18446744073709551616
 case neg => rw [if_neg h1'] at h; simp at h
 rw [if_pos h1'] at h
 by_cases h2 : 0 ≤ a2
 case neg => rw [if_neg h2] at h; simp at h
 rw [if_pos h2] at h
 by_cases h2' : a2 ≤ 1
 case neg => rw [if_neg h2'] at h; simp at h
 rw [if_pos h2'] at h
 simp only [Option.some.injEq, Prod.mk.injEq] at h
 obtain ⟨rfl, rfl⟩ := h
 obtain ⟨x, rfl⟩ := Int.eq_ofNat_of_zero_le h0
 obtain ⟨y, rfl⟩ := Int.eq_ofNat_of_zero_le h1
 obtain ⟨c, rfl⟩ := Int.eq_ofNat_of_zero_le h2
 have e1 : (((x + 18446744073709551616 - y - c) % 18446744073709551616 : Nat) : Int) = ((x : Int) - y - c) % 18446744073709551616 := by omega
 have e2 : ((if x < y + c then 1 else 0 : Nat) : Int) = if (x : Int) < y + c then 1 else 0 := by split <;> split <;> omega
 rw [← e1, ← e2]
 rw [run_callFunc_extern Try.func33 (by kernel_rfl) (by kernel_rfl) (by kernel_rfl) (e := sub64Entry) (by kernel_rfl), run_sub64 x y c (by omega)]
 rfl

/-! ### wide_Sub: function 16 -/
def wide_Sub.f (a0_0 : Int) (a0_1 : Int) (a1_0 : Int) (a1_1 : Int) : Option (Int × Int × Int) := (bits_Sub64.f a0_1 a1_1 0).bind fun bt261 => ((bits_Sub64.f a0_0 a1_0 bt261.2).bind fun bt263 => (if bt263.2 = 0 then (some (bt263.1, bt261.1, 0)) else (some (0, 0, 2))))
set_option maxHeartbeats 8000000 in
set_option maxRecDepth 100000 in
theorem wide_Sub.calls (a0_0 : Int) (a0_1 : Int) (a1_0 : Int) (a1_1 : Int) (r1 : Int) (r2 : Int) (r3 : Int) (w : World) (h : wide_Sub.f a0_0 a0_1 a1_0 a1_1 = some (r1, r2, r3)) :
  Calls Try.prog 16 #[.agg #[.int .u64 a0_0, .int .u64 a0_1], .agg #[.int .u64 a1_0, .int .u64 a1_1]] w fun e w' => e = .returned (.tuple #[.agg #[.int .u64 r1, .int .u64 r2], .int .i64 r3]) ∧ Below w.heap.size w w' := by
 have hu24 := Try.underlying24
 have HB := Aside0.mk (Below.refl w.heap.size w)
 have H : ((bits_Sub64.f a0_1 a1_1 0).bind fun bt261 => ((bits_Sub64.f a0_0 a1_0 bt261.2).bind fun bt263 => (if bt263.2 = 0 then (some (bt263.1, bt261.1, 0)) else (some (0, 0, 2))))) = some (r1, r2, r3) := h
 clear h
 replace H := Option.bind_eq_some_iff.mp H
 obtain ⟨⟨t261, t262⟩, A30, H⟩ := H
 replace H : ((bits_Sub64.f a0_0 a1_0 t262).bind fun bt263 => (if bt263.2 = 0 then (some (bt263.1, t261, 0)) else (some (0, 0, 2)))) = some (r1, r2, r3) := H
 have A3 := Aside0.mk A30
 clear A30
 replace H := Option.bind_eq_some_iff.mp H
 obtain ⟨⟨t263, t264⟩, A40, H⟩ := H
 replace H : (if t264 = 0 then (some (t263, t261, 0)) else (some (0, 0, 2))) = some (r1, r2, r3) := H
 have A4 := Aside0.mk A40
 clear A40
 by_cases c5 : t264 = 0
 ·rw [if_pos c5] at H
  have c5b0 : (t264 == 0) = true := beq_iff_eq.mpr c5
  have c5b1 : (t264 != 0) = false := bne_eq_false_iff_eq.mpr c5
  clear c5
  simp only [Option.some.injEq, Prod.mk.injEq] at H
  obtain ⟨rfl, rfl, rfl⟩ := H
  go_enter Try.func16, Try.ntmps16
  go_wp2_with (first | ((with_reducible refine gate_dst (N := 2) rfl ?_); refine be 2 (#[.int .u64 a0_0, .int .u64 a0_1]) 24 ?_; intro gb258 hg w6 hbox hb; have BK258 := Aside0.mk (hbox); have GW258 := Aside0.mk ((by rw [hg]; exact (below_size (bl0 HB.out)) : w.heap.size ≤ gb258)); have GE258 := GW258; replace HB := Aside0.mk (below_step (bl0 HB.out) hb); clear hb hbox hg) | ((with_reducible refine gate_dst (N := 3) rfl ?_); refine be 3 (#[.int .u64 a1_0, .int .u64 a1_1]) 24 ?_; intro gb259 hg w7 hbox hb; have BK259 := Aside0.mk (hbox); have GW259 := Aside0.mk ((by rw [hg]; exact (below_size (bl1 HB.out GE258.out)) : w.heap.size ≤ gb259)); have GE259 := GW259; have NB258_259 := Aside0.mk ((by rw [hg]; exact Nat.ne_of_lt (lt_ BK258.out) : gb258 ≠ gb259)); have NB259_258 := Aside0.mk ((by rw [hg]; exact Nat.ne_of_gt (lt_ BK258.out) : gb259 ≠ gb258)); replace BK258 := Aside0.mk (bb BK258.out hb); replace HB := Aside0.mk (below_step (bl1 HB.out GE258.out) hb); clear hb hbox hg) | ((with_reducible refine gate_dst (N := 4) rfl ?_); refine be 4 (#[.int .u64 0, .int .u64 0]) 24 ?_; intro gb260 hg w8 hbox hb; have BK260 := Aside0.mk (hbox); have GW260 := Aside0.mk ((by rw [hg]; exact (below_size (bl2 HB.out GE258.out GE259.out)) : w.heap.size ≤ gb260)); have GE260 := GW260; have NB258_260 := Aside0.mk ((by rw [hg]; exact Nat.ne_of_lt (lt_ BK258.out) : gb258 ≠ gb260)); have NB260_258 := Aside0.mk ((by rw [hg]; exact Nat.ne_of_gt (lt_ BK258.out) : gb260 ≠ gb258)); have NB259_260 := Aside0.mk ((by rw [hg]; exact Nat.ne_of_lt (lt_ BK259.out) : gb259 ≠ gb260)); have NB260_259 := Aside0.mk ((by rw [hg]; exact Nat.ne_of_gt (lt_ BK259.out) : gb260 ≠ gb259)); replace BK258 := Aside0.mk (bb BK258.out hb); replace BK259 := Aside0.mk (bb BK259.out hb); replace HB := Aside0.mk (below_step (bl2 HB.out GE258.out GE259.out) hb); clear hb hbox hg; have hnb9 := NB258_259.out; have hnc9 := NB259_258.out; have hnb10 := NB258_260.out; have hnc10 := NB260_258.out; have hcz11_0 : w8.cell? ⟨gb258, 0, none⟩ = some (.int .u64 a0_0) := (blk_cell BK258.out 0).trans rfl; have hcz11_1 : w8.cell? ⟨gb258, 1, none⟩ = some (.int .u64 a0_1) := (blk_cell BK258.out 1).trans rfl; have hfz11_0 := blk_frozen BK258.out 0; have hfz11_1 := blk_frozen BK258.out 1; have hnb12 := NB259_260.out; have hnc12 := NB260_259.out; have hcz13_0 : w8.cell? ⟨gb259, 0, none⟩ = some (.int .u64 a1_0) := (blk_cell BK259.out 0).trans rfl; have hcz13_1 : w8.cell? ⟨gb259, 1, none⟩ = some (.int .u64 a1_1) := (blk_cell BK259.out 1).trans rfl; have hfz13_0 := blk_frozen BK259.out 0; have hfz13_1 := blk_frozen BK259.out 1) | ((with_reducible refine gate_callee (f := 33) rfl ?_); refine goesX_ (some 14) rfl rfl rfl (args := #[.int .u64 a0_1, .int .u64 a1_1, .int .u64 0]) (by (try simp only [List.map_toArray, List.map_cons, List.map_nil]); first | done | rfl) (bits_Sub64.runs a0_1 a1_1 0 t261 t262 _ A3.out) ?_; (try (rw [drewN_self w8]; generalize hq_ : World.drewN w8 _ = w8; replace BK258 : Aside0 (w8.heap[gb258]? = some (.cells #[.int .u64 a0_0, .int .u64 a0_1] 24 (0, 0))) := ⟨by rw [← hq_]; exact (bk BK258.out)⟩; replace BK259 : Aside0 (w8.heap[gb259]? = some (.cells #[.int .u64 a1_0, .int .u64 a1_1] 24 (0, 0))) := ⟨by rw [← hq_]; exact (bk BK259.out)⟩; replace BK260 : Aside0 (w8.heap[gb260]? = some (.cells #[.int .u64 0, .int .u64 0] 24 (0, 0))) := ⟨by rw [← hq_]; exact (bk BK260.out)⟩; replace HB : Aside0 (Below w.heap.size w w8) := ⟨by rw [← hq_]; exact (bl3 HB.out GE258.out GE259.out GE260.out)⟩; clear hq_))) | ((with_reducible refine gate_callee (f := 33) rfl ?_); refine goesX_ (some 23) rfl rfl rfl (args := #[.int .u64 a0_0, .int .u64 a1_0, .int .u64 t262]) (by (try simp only [List.map_toArray, List.map_cons, List.map_nil]); first | done | rfl) (bits_Sub64.runs a0_0 a1_0 t262 t263 t264 _ A4.out) ?_; (try (rw [drewN_self w8]; generalize hq_ : World.drewN w8 _ = w8; replace BK258 : Aside0 (w8.heap[gb258]? = some (.cells #[.int .u64 a0_0, .int .u64 a0_1] 24 (0, 0))) := ⟨by rw [← hq_]; exact (bk BK258.out)⟩; replace BK259 : Aside0 (w8.heap[gb259]? = some (.cells #[.int .u64 a1_0, .int .u64 a1_1] 24 (0, 0))) := ⟨by rw [← hq_]; exact (bk BK259.out)⟩; replace BK260 : Aside0 (w8.heap[gb260]? = some (.cells #[.int .u64 0, .int .u64 0] 24 (0, 0))) := ⟨by rw [← hq_]; exact (bk BK260.out)⟩; replace HB : Aside0 (Below w.heap.size w w8) := ⟨by rw [← hq_]; exact (bl3 HB.out GE258.out GE259.out GE260.out)⟩; clear hq_)); have hcz14_0 : w8.cell? ⟨gb260, 0, none⟩ = some (.int .u64 0) := (blk_cell BK260.out 0).trans rfl; have hcz14_1 : w8.cell? ⟨gb260, 1, none⟩ = some (.int .u64 0) := (blk_cell BK260.out 1).trans rfl; have hfz14_0 := blk_frozen BK260.out 0; have hfz14_1 := blk_frozen BK260.out 1))
  refine bodyPost_ret (results_ct rfl _ _ gb260 24 #[.int .u64 t263, .int .u64 t261] (0, 0) _ rfl (bk (blk_put (cs := #[.int .u64 t263, .int .u64 0]) (bk (blk_put (cs := #[.int .u64 0, .int .u64 0]) (bk BK260.out) 0 _ rfl)) 1 _ rfl)) Try.underlying24 rfl (by kernel_rfl)) rfl ?_
  exact ⟨by first | rfl | (simp [errW_none, errW_some] <;> rfl) | (simp [*, errW_none, errW_some] <;> rfl), bl3 HB.out GE258.out GE259.out GE260.out⟩
 ·rw [if_neg c5] at H
  have c5b0 : (t264 == 0) = false := beq_eq_false_iff_ne.mpr c5
  have c5b1 : (t264 != 0) = true := bne_iff_ne.mpr c5
  simp only [Option.some.injEq, Prod.mk.injEq] at H
  obtain ⟨rfl, rfl, rfl⟩ := H
  go_enter Try.func16, Try.ntmps16
  go_wp2_with (first | ((with_reducible refine gate_dst (N := 2) rfl ?_); refine be 2 (#[.int .u64 a0_0, .int .u64 a0_1]) 24 ?_; intro gb258 hg w15 hbox hb; have BK258 := Aside0.mk (hbox); have GW258 := Aside0.mk ((by rw [hg]; exact (below_size (bl0 HB.out)) : w.heap.size ≤ gb258)); have GE258 := GW258; replace HB := Aside0.mk (below_step (bl0 HB.out) hb); clear hb hbox hg) | ((with_reducible refine gate_dst (N := 3) rfl ?_); refine be 3 (#[.int .u64 a1_0, .int .u64 a1_1]) 24 ?_; intro gb259 hg w16 hbox hb; have BK259 := Aside0.mk (hbox); have GW259 := Aside0.mk ((by rw [hg]; exact (below_size (bl1 HB.out GE258.out)) : w.heap.size ≤ gb259)); have GE259 := GW259; have NB258_259 := Aside0.mk ((by rw [hg]; exact Nat.ne_of_lt (lt_ BK258.out) : gb258 ≠ gb259)); have NB259_258 := Aside0.mk ((by rw [hg]; exact Nat.ne_of_gt (lt_ BK258.out) : gb259 ≠ gb258)); replace BK258 := Aside0.mk (bb BK258.out hb); replace HB := Aside0.mk (below_step (bl1 HB.out GE258.out) hb); clear hb hbox hg) | ((with_reducible refine gate_dst (N := 4) rfl ?_); refine be 4 (#[.int .u64 0, .int .u64 0]) 24 ?_; intro gb260 hg w17 hbox hb; have BK260 := Aside0.mk (hbox); have GW260 := Aside0.mk ((by rw [hg]; exact (below_size (bl2 HB.out GE258.out GE259.out)) : w.heap.size ≤ gb260)); have GE260 := GW260; have NB258_260 := Aside0.mk ((by rw [hg]; exact Nat.ne_of_lt (lt_ BK258.out) : gb258 ≠ gb260)); have NB260_258 := Aside0.mk ((by rw [hg]; exact Nat.ne_of_gt (lt_ BK258.out) : gb260 ≠ gb258)); have NB259_260 := Aside0.mk ((by rw [hg]; exact Nat.ne_of_lt (lt_ BK259.out) : gb259 ≠ gb260)); have NB260_259 := Aside0.mk ((by rw [hg]; exact Nat.ne_of_gt (lt_ BK259.out) : gb260 ≠ gb259)); replace BK258 := Aside0.mk (bb BK258.out hb); replace BK259 := Aside0.mk (bb BK259.out hb); replace HB := Aside0.mk (below_step (bl2 HB.out GE258.out GE259.out) hb); clear hb hbox hg; have hnb18 := NB258_259.out; have hnc18 := NB259_258.out; have hnb19 := NB258_260.out; have hnc19 := NB260_258.out; have hcz20_0 : w17.cell? ⟨gb258, 0, none⟩ = some (.int .u64 a0_0) := (blk_cell BK258.out 0).trans rfl; have hcz20_1 : w17.cell? ⟨gb258, 1, none⟩ = some (.int .u64 a0_1) := (blk_cell BK258.out 1).trans rfl; have hfz20_0 := blk_frozen BK258.out 0; have hfz20_1 := blk_frozen BK258.out 1; have hnb21 := NB259_260.out; have hnc21 := NB260_259.out; have hcz22_0 : w17.cell? ⟨gb259, 0, none⟩ = some (.int .u64 a1_0) := (blk_cell BK259.out 0).trans rfl; have hcz22_1 : w17.cell? ⟨gb259, 1, none⟩ = some (.int .u64 a1_1) := (blk_cell BK259.out 1).trans rfl; have hfz22_0 := blk_frozen BK259.out 0; have hfz22_1 := blk_frozen BK259.out 1) | ((with_reducible refine gate_callee (f := 33) rfl ?_); refine goesX_ (some 14) rfl rfl rfl (args := #[.int .u64 a0_1, .int .u64 a1_1, .int .u64 0]) (by (try simp only [List.map_toArray, List.map_cons, List.map_nil]); first | done | rfl) (bits_Sub64.runs a0_1 a1_1 0 t261 t262 _ A3.out) ?_; (try (rw [drewN_self w17]; generalize hq_ : World.drewN w17 _ = w17; replace BK258 : Aside0 (w17.heap[gb258]? = some (.cells #[.int .u64 a0_0, .int .u64 a0_1] 24 (0, 0))) := ⟨by rw [← hq_]; exact (bk BK258.out)⟩; replace BK259 : Aside0 (w17.heap[gb259]? = some (.cells #[.int .u64 a1_0, .int .u64 a1_1] 24 (0, 0))) := ⟨by rw [← hq_]; exact (bk BK259.out)⟩; replace BK260 : Aside0 (w17.heap[gb260]? = some (.cells #[.int .u64 0, .int .u64 0] 24 (0, 0))) := ⟨by rw [← hq_]; exact (bk BK260.out)⟩; replace HB : Aside0 (Below w.heap.size w w17) := ⟨by rw [← hq_]; exact (bl3 HB.out GE258.out GE259.out GE260.out)⟩; clear hq_))) | ((with_reducible refine gate_callee (f := 33) rfl ?_); refine goesX_ (some 23) rfl rfl rfl (args := #[.int .u64 a0_0, .int .u64 a1_0, .int .u64 t262]) (by (try simp only [List.map_toArray, List.map_cons, List.map_nil]); first | done | rfl) (bits_Sub64.runs a0_0 a1_0 t262 t263 t264 _ A4.out) ?_; (try (rw [drewN_self w17]; generalize hq_ : World.drewN w17 _ = w17; replace BK258 : Aside0 (w17.heap[gb258]? = some (.cells #[.int .u64 a0_0, .int .u64 a0_1] 24 (0, 0))) := ⟨by rw [← hq_]; exact (bk BK258.out)⟩; replace BK259 : Aside0 (w17.heap[gb259]? = some (.cells #[.int .u64 a1_0, .int .u64 a1_1] 24 (0, 0))) := ⟨by rw [← hq_]; exact (bk BK259.out)⟩; replace BK260 : Aside0 (w17.heap[gb260]? = some (.cells #[.int .u64 0, .int .u64 0] 24 (0, 0))) := ⟨by rw [← hq_]; exact (bk BK260.out)⟩; replace HB : Aside0 (Below w.heap.size w w17) := ⟨by rw [← hq_]; exact (bl3 HB.out GE258.out GE259.out GE260.out)⟩; clear hq_)); have hcz23_0 : w17.cell? ⟨gb260, 0, none⟩ = some (.int .u64 0) := (blk_cell BK260.out 0).trans rfl; have hcz23_1 : w17.cell? ⟨gb260, 1, none⟩ = some (.int .u64 0) := (blk_cell BK260.out 1).trans rfl; have hfz23_0 := blk_frozen BK260.out 0; have hfz23_1 := blk_frozen BK260.out 1))
  refine bodyPost_ret (results_ct rfl _ _ gb260 24 #[.int .u64 0, .int .u64 0] (0, 0) _ rfl (bk (blk_put (cs := #[.int .u64 0, .int .u64 0]) (bk (blk_put (cs := #[.int .u64 0, .int .u64 0]) (bk BK260.out) 0 _ rfl)) 1 _ rfl)) Try.underlying24 rfl (by kernel_rfl)) rfl ?_
  exact ⟨by first | rfl | (simp [errW_none, errW_some] <;> rfl) | (simp [*, errW_none, errW_some] <;> rfl), bl3 HB.out GE258.out GE259.out GE260.out⟩

end Go.Proofs.Ytjjnkadfoepflaa.XWide
