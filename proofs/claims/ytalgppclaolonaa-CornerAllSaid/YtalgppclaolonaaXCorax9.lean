-- Printed by a program of this claim. Not trusted: Lean checks it.
import Derived.Test.YtalgppclaolonaaXCorax0
import Derived.Test.YtalgppclaolonaaXCorax1
import Derived.Test.YtalgppclaolonaaXCorax3
import Derived.Test.YtalgppclaolonaaXCorax6
import Derived.Test.YtalgppclaolonaaXCorax7
import Derived.Test.YtalgppclaolonaaXCorax8
namespace Go.Proofs.Ytalgppclaolonaa.XCora
open Go.RowKit Go.Proofs.YtalgppclaolonaaW.PrintWords Go.Proofs.YtalgppclaolonaaW.PrintLast Go.Proofs.YtalgppclaolonaaW.PrintMore
attribute [local go_sem] max2_int min2_int max_two min_two max_three min_three max_four min_four   -- for this text's walks alone
set_option linter.unusedVariables false
set_option linter.unusedSimpArgs false
open XOpen

attribute [local go_sem high] eqA36
/-! ### corner_right: function 56 -/
def corner_right.f (k : Nat) (a0_0 : Int) (a0_1 : Bool) (a0_2 : Int) (a0_3 : Int) (a0_4 : Int) (a0_5 : Int) (a0_6 : Int) (a0_7 : Int) : Option (Bool) := if (a0_2 == a0_6 && (a0_3 == a0_7)) = true then ((edge_May.f k (([(⟨a0_0, a0_1, (⟨a0_2, a0_3⟩ : S36), (⟨a0_4, a0_5⟩ : S36), (⟨a0_6, a0_7⟩ : S36)⟩ : S38)] : List (S38)))).bind fun t209 => (some t209)) else ((edge_May.f k (([(⟨a0_0, a0_1, (⟨a0_2, a0_3⟩ : S36), (⟨a0_4, a0_5⟩ : S36), (⟨a0_6, a0_7⟩ : S36)⟩ : S38), (⟨a0_0, false, (⟨a0_6, a0_7⟩ : S36), (⟨0, 0⟩ : S36), (⟨a0_2, a0_3⟩ : S36)⟩ : S38)] : List (S38)))).bind fun t213 => (some t213))
theorem corner_right.mono : ∀ a0 a1 a2 a3 a4 a5 a6 a7 k, LeO (corner_right.f k a0 a1 a2 a3 a4 a5 a6 a7) (corner_right.f (k + 1) a0 a1 a2 a3 a4 a5 a6 a7) := by
 intro a0 a1 a2 a3 a4 a5 a6 a7 k
 unfold corner_right.f
 repeat' first
   | (with_reducible exact edge_May.mono _ _)
   | (with_reducible exact LeO.refl _)
   | (with_reducible exact LeO.none _)
   | (with_reducible refine LeO.ite ?_ ?_)
   | (with_reducible refine LeO.bind ?_ (fun _ => ?_))
   | exact edge_May.mono _ _
   | exact LeO.none _
   | refine LeO.ite ?_ ?_
   | refine LeO.bind ?_ (fun _ => ?_)
set_option maxHeartbeats 8000000 in
set_option maxRecDepth 100000 in
theorem corner_right.calls (k : Nat) (a0_0 : Int) (a0_1 : Bool) (a0_2 : Int) (a0_3 : Int) (a0_4 : Int) (a0_5 : Int) (a0_6 : Int) (a0_7 : Int) (r : Bool) (w : World) (h : corner_right.f k a0_0 a0_1 a0_2 a0_3 a0_4 a0_5 a0_6 a0_7 = some r) :
  Calls Try.prog 56 #[.agg #[.int .i64 a0_0, .bool a0_1, .int .i64 a0_2, .int .i64 a0_3, .int .i64 a0_4, .int .i64 a0_5, .int .i64 a0_6, .int .i64 a0_7]] w fun e w' => e = .returned (.bool r) ∧ Below w.heap.size w w' := by
 have hu38 := Try.underlying38
 have hu36 := Try.underlying36
 have HB := Aside0.mk (Below.refl w.heap.size w)
 have H : (if (a0_2 == a0_6 && (a0_3 == a0_7)) = true then ((edge_May.f k (([(⟨a0_0, a0_1, (⟨a0_2, a0_3⟩ : S36), (⟨a0_4, a0_5⟩ : S36), (⟨a0_6, a0_7⟩ : S36)⟩ : S38)] : List (S38)))).bind fun t209 => (some t209)) else ((edge_May.f k (([(⟨a0_0, a0_1, (⟨a0_2, a0_3⟩ : S36), (⟨a0_4, a0_5⟩ : S36), (⟨a0_6, a0_7⟩ : S36)⟩ : S38), (⟨a0_0, false, (⟨a0_6, a0_7⟩ : S36), (⟨0, 0⟩ : S36), (⟨a0_2, a0_3⟩ : S36)⟩ : S38)] : List (S38)))).bind fun t213 => (some t213))) = some r := h
 clear h
 by_cases c2 : (a0_2 == a0_6 && (a0_3 == a0_7)) = true
 ·rw [if_pos c2] at H
  have c2b0 : (a0_2 == a0_6 && (a0_3 == a0_7)) = true := c2
  (try (have c2b1 : decide (a0_2 = a0_6 && (a0_3 == a0_7)) = true := by simpa using c2))
  (try (have c2b2 : (a0_2 == a0_6 && (a0_3 == a0_7)) = true := by simpa using c2))
  clear c2
  obtain ⟨y206, hy206⟩ : ∃ y_ : List (S38), y_ = (([(⟨a0_0, a0_1, (⟨a0_2, a0_3⟩ : S36), (⟨a0_4, a0_5⟩ : S36), (⟨a0_6, a0_7⟩ : S36)⟩ : S38)] : List (S38))) := ⟨_, rfl⟩
  replace H : ((edge_May.f k y206).bind fun t209 => (some t209)) = some r := by first | (rw [hy206]; with_reducible exact H) | (have H2_ := (Option.bind_some _ _).symm.trans H; rw [hy206]; with_reducible exact H2_) | (have H2_ := (Option.bind_some _ _).symm.trans H; with_reducible exact H2_) | with_reducible exact H | (rw [hy206]; exact H) | exact H
  have Ny206 := Aside0.mk hy206
  clear hy206
  replace H := Option.bind_eq_some_iff.mp H
  obtain ⟨t209, A30, H⟩ := H
  replace H : (some t209) = some r := H
  have A3 := Aside0.mk A30
  clear A30
  obtain rfl := Option.some.inj H
  go_enter Try.func56, Try.ntmps56
  go_wp2_with (first | ((with_reducible refine gate_dst (N := 1) rfl ?_); refine be 1 (#[.int .i64 a0_0, .bool a0_1, .int .i64 a0_2, .int .i64 a0_3, .int .i64 a0_4, .int .i64 a0_5, .int .i64 a0_6, .int .i64 a0_7]) 38 ?_; intro gb205 hg w4 hbox hb; have BK205 := Aside0.mk (hbox); have GW205 := Aside0.mk ((by rw [hg]; exact (below_size (bl0 HB.out)) : w.heap.size ≤ gb205)); have GE205 := GW205; replace HB := Aside0.mk (below_step (bl0 HB.out) hb); clear hb hbox hg; have hcz5_0 : w4.cell? ⟨gb205, 0, none⟩ = some (.int .i64 a0_0) := (blk_cell BK205.out 0).trans rfl; have hcz5_1 : w4.cell? ⟨gb205, 1, none⟩ = some (.bool a0_1) := (blk_cell BK205.out 1).trans rfl; have hcz5_2 : w4.cell? ⟨gb205, 2, none⟩ = some (.int .i64 a0_2) := (blk_cell BK205.out 2).trans rfl; have hcz5_3 : w4.cell? ⟨gb205, 3, none⟩ = some (.int .i64 a0_3) := (blk_cell BK205.out 3).trans rfl; have hcz5_4 : w4.cell? ⟨gb205, 4, none⟩ = some (.int .i64 a0_4) := (blk_cell BK205.out 4).trans rfl; have hcz5_5 : w4.cell? ⟨gb205, 5, none⟩ = some (.int .i64 a0_5) := (blk_cell BK205.out 5).trans rfl; have hcz5_6 : w4.cell? ⟨gb205, 6, none⟩ = some (.int .i64 a0_6) := (blk_cell BK205.out 6).trans rfl; have hcz5_7 : w4.cell? ⟨gb205, 7, none⟩ = some (.int .i64 a0_7) := (blk_cell BK205.out 7).trans rfl; have hfz5_0 := blk_frozen BK205.out 0; have hfz5_1 := blk_frozen BK205.out 1; have hfz5_2 := blk_frozen BK205.out 2; have hfz5_3 := blk_frozen BK205.out 3; have hfz5_4 := blk_frozen BK205.out 4; have hfz5_5 := blk_frozen BK205.out 5; have hfz5_6 := blk_frozen BK205.out 6; have hfz5_7 := blk_frozen BK205.out 7) | ((with_reducible refine gate_dst (N := 9) rfl ?_); refine Kd.R_lit k38 _ 38 ?hg (N := 9) ?hd (xs := ([(⟨a0_0, a0_1, (⟨a0_2, a0_3⟩ : S36), (⟨a0_4, a0_5⟩ : S36), (⟨a0_6, a0_7⟩ : S36)⟩ : S38)] : List (S38))) (inner := [.int .i64 a0_0, .bool a0_1, .int .i64 a0_2, .int .i64 a0_3, .int .i64 a0_4, .int .i64 a0_5, .int .i64 a0_6, .int .i64 a0_7]) (ok := fun _ => True) (okp := fun _ => True) ?hr ?hp (fun _ hk => hk) trivial (Below.refl _ _) (Nat.le_refl _) (by simp) ?_; (case hd => rfl); (case hg => rfl); (case hr => first | (go_simp; done) | (go_simp; rfl)); (case hp => exact (Reps.c8 (show Kd.M k38 _ _ _ (⟨a0_0, a0_1, (⟨a0_2, a0_3⟩ : S36), (⟨a0_4, a0_5⟩ : S36), (⟨a0_6, a0_7⟩ : S36)⟩ : S38) [.int .i64 a0_0, .bool a0_1, .int .i64 a0_2, .int .i64 a0_3, .int .i64 a0_4, .int .i64 a0_5, .int .i64 a0_6, .int .i64 a0_7] from (k38_mkM _ _ _ (⟨a0_0, a0_1, (⟨a0_2, a0_3⟩ : S36), (⟨a0_4, a0_5⟩ : S36), (⟨a0_6, a0_7⟩ : S36)⟩ : S38) )) (Reps.none _ _))); intro v207 w6 ho7 hb hg_ hnew_; clear hg_ hnew_; (first | rw [← Ny206.out] at ho7 | (simp only [Int.reduceToNat] at ho7; rw [← Ny206.out] at ho7)); have HO208 := Aside0.mk (Kd.R_lower (Kd.R_newB ho7 (g := gb205) (o := .cells #[.int .i64 a0_0, .bool a0_1, .int .i64 a0_2, .int .i64 a0_3, .int .i64 a0_4, .int .i64 a0_5, .int .i64 a0_6, .int .i64 a0_7] 38 (0, 0)) (bk BK205.out)) (below_size (bl1 HB.out GE205.out))); replace BK205 := Aside0.mk (bb BK205.out hb); replace HB := Aside0.mk (below_step (bl1 HB.out GE205.out) hb); clear hb ho7; obtain ⟨Ao8, co8, eo8⟩ := Kd.R_slice HO208.out; subst eo8) | ((with_reducible refine gate_callee (f := 52) rfl ?_); refine goesL_ (some 10) rfl rfl Try.func52 (by kernel_rfl) rfl #[.slice Ao8 y206.length co8] rfl am ?_; (with_reducible refine (edge_May.calls k _ _ y206 t209 _ ?side1 ?side2 A3.out).mono ?_); (case side1 => repeat (first | exact (Kd.R_reads' HO208.out).2.2 | (with_reducible refine Kd.C_alloc ?_ _) | (with_reducible refine Kd.C_drewN ?_ _) | (with_reducible refine Kd.C_drew ?_))); (case side2 => exact (Kd.R_reads' HO208.out).2.1); rintro e w9 ⟨rfl, hb⟩; refine ⟨_, rfl, ?_⟩; replace HO208 := Aside0.mk (Kd.R_below (by (with_reducible repeat (first | apply Kd.R_alloc | apply Kd.R_drewN | apply Kd.R_drew)); exact HO208.out) hb); replace BK205 := Aside0.mk (bb BK205.out hb); replace HB := Aside0.mk (below_step (bl1 HB.out GE205.out) hb); (try clear hb); (try clear hb2); (try clear hk); (try clear hi)))
  go_ret
  exact ⟨by first | rfl | (simp [errW_none, errW_some] <;> rfl) | (simp [*, errW_none, errW_some] <;> rfl), bl1 HB.out GE205.out⟩
 ·rw [if_neg c2] at H
  have c2b0 : (a0_2 == a0_6 && (a0_3 == a0_7)) = false := by simpa using c2
  (try (have c2b1 : decide (a0_2 = a0_6 && (a0_3 == a0_7)) = false := by simpa using c2))
  (try (have c2b2 : (a0_2 == a0_6 && (a0_3 == a0_7)) = false := by simpa using c2))
  (try (have c2b3 : ¬ (a0_2 = a0_6 && (a0_3 == a0_7)) := by simpa using c2))
  clear c2
  obtain ⟨y210, hy210⟩ : ∃ y_ : List (S38), y_ = (([(⟨a0_0, a0_1, (⟨a0_2, a0_3⟩ : S36), (⟨a0_4, a0_5⟩ : S36), (⟨a0_6, a0_7⟩ : S36)⟩ : S38), (⟨a0_0, false, (⟨a0_6, a0_7⟩ : S36), (⟨0, 0⟩ : S36), (⟨a0_2, a0_3⟩ : S36)⟩ : S38)] : List (S38))) := ⟨_, rfl⟩
  replace H : ((edge_May.f k y210).bind fun t213 => (some t213)) = some r := by first | (rw [hy210]; with_reducible exact H) | (have H2_ := (Option.bind_some _ _).symm.trans H; rw [hy210]; with_reducible exact H2_) | (have H2_ := (Option.bind_some _ _).symm.trans H; with_reducible exact H2_) | with_reducible exact H | (rw [hy210]; exact H) | exact H
  have Ny210 := Aside0.mk hy210
  clear hy210
  replace H := Option.bind_eq_some_iff.mp H
  obtain ⟨t213, A100, H⟩ := H
  replace H : (some t213) = some r := H
  have A10 := Aside0.mk A100
  clear A100
  obtain rfl := Option.some.inj H
  go_enter Try.func56, Try.ntmps56
  go_wp2_with (first | ((with_reducible refine gate_dst (N := 1) rfl ?_); refine be 1 (#[.int .i64 a0_0, .bool a0_1, .int .i64 a0_2, .int .i64 a0_3, .int .i64 a0_4, .int .i64 a0_5, .int .i64 a0_6, .int .i64 a0_7]) 38 ?_; intro gb205 hg w11 hbox hb; have BK205 := Aside0.mk (hbox); have GW205 := Aside0.mk ((by rw [hg]; exact (below_size (bl0 HB.out)) : w.heap.size ≤ gb205)); have GE205 := GW205; replace HB := Aside0.mk (below_step (bl0 HB.out) hb); clear hb hbox hg; have hcz12_0 : w11.cell? ⟨gb205, 0, none⟩ = some (.int .i64 a0_0) := (blk_cell BK205.out 0).trans rfl; have hcz12_1 : w11.cell? ⟨gb205, 1, none⟩ = some (.bool a0_1) := (blk_cell BK205.out 1).trans rfl; have hcz12_2 : w11.cell? ⟨gb205, 2, none⟩ = some (.int .i64 a0_2) := (blk_cell BK205.out 2).trans rfl; have hcz12_3 : w11.cell? ⟨gb205, 3, none⟩ = some (.int .i64 a0_3) := (blk_cell BK205.out 3).trans rfl; have hcz12_4 : w11.cell? ⟨gb205, 4, none⟩ = some (.int .i64 a0_4) := (blk_cell BK205.out 4).trans rfl; have hcz12_5 : w11.cell? ⟨gb205, 5, none⟩ = some (.int .i64 a0_5) := (blk_cell BK205.out 5).trans rfl; have hcz12_6 : w11.cell? ⟨gb205, 6, none⟩ = some (.int .i64 a0_6) := (blk_cell BK205.out 6).trans rfl; have hcz12_7 : w11.cell? ⟨gb205, 7, none⟩ = some (.int .i64 a0_7) := (blk_cell BK205.out 7).trans rfl; have hfz12_0 := blk_frozen BK205.out 0; have hfz12_1 := blk_frozen BK205.out 1; have hfz12_2 := blk_frozen BK205.out 2; have hfz12_3 := blk_frozen BK205.out 3; have hfz12_4 := blk_frozen BK205.out 4; have hfz12_5 := blk_frozen BK205.out 5; have hfz12_6 := blk_frozen BK205.out 6; have hfz12_7 := blk_frozen BK205.out 7) | ((with_reducible refine gate_dst (N := 19) rfl ?_); refine Kd.R_lit k38 _ 38 ?hg (N := 19) ?hd (xs := ([(⟨a0_0, a0_1, (⟨a0_2, a0_3⟩ : S36), (⟨a0_4, a0_5⟩ : S36), (⟨a0_6, a0_7⟩ : S36)⟩ : S38), (⟨a0_0, false, (⟨a0_6, a0_7⟩ : S36), (⟨0, 0⟩ : S36), (⟨a0_2, a0_3⟩ : S36)⟩ : S38)] : List (S38))) (inner := [.int .i64 a0_0, .bool a0_1, .int .i64 a0_2, .int .i64 a0_3, .int .i64 a0_4, .int .i64 a0_5, .int .i64 a0_6, .int .i64 a0_7, .int .i64 a0_0, .bool false, .int .i64 a0_6, .int .i64 a0_7, .int .i64 0, .int .i64 0, .int .i64 a0_2, .int .i64 a0_3]) (ok := fun _ => True) (okp := fun _ => True) ?hr ?hp (fun _ hk => hk) trivial (Below.refl _ _) (Nat.le_refl _) (by simp) ?_; (case hd => rfl); (case hg => rfl); (case hr => first | (go_simp; done) | (go_simp; rfl)); (case hp => exact (Reps.c8 (show Kd.M k38 _ _ _ (⟨a0_0, a0_1, (⟨a0_2, a0_3⟩ : S36), (⟨a0_4, a0_5⟩ : S36), (⟨a0_6, a0_7⟩ : S36)⟩ : S38) [.int .i64 a0_0, .bool a0_1, .int .i64 a0_2, .int .i64 a0_3, .int .i64 a0_4, .int .i64 a0_5, .int .i64 a0_6, .int .i64 a0_7] from (k38_mkM _ _ _ (⟨a0_0, a0_1, (⟨a0_2, a0_3⟩ : S36), (⟨a0_4, a0_5⟩ : S36), (⟨a0_6, a0_7⟩ : S36)⟩ : S38) )) (Reps.c8 (show Kd.M k38 _ _ _ (⟨a0_0, false, (⟨a0_6, a0_7⟩ : S36), (⟨0, 0⟩ : S36), (⟨a0_2, a0_3⟩ : S36)⟩ : S38) [.int .i64 a0_0, .bool false, .int .i64 a0_6, .int .i64 a0_7, .int .i64 0, .int .i64 0, .int .i64 a0_2, .int .i64 a0_3] from (k38_mkM _ _ _ (⟨a0_0, false, (⟨a0_6, a0_7⟩ : S36), (⟨0, 0⟩ : S36), (⟨a0_2, a0_3⟩ : S36)⟩ : S38) )) (Reps.none _ _)))); intro v211 w13 ho14 hb hg_ hnew_; clear hg_ hnew_; (first | rw [← Ny210.out] at ho14 | (simp only [Int.reduceToNat] at ho14; rw [← Ny210.out] at ho14)); have HO212 := Aside0.mk (Kd.R_lower (Kd.R_newB ho14 (g := gb205) (o := .cells #[.int .i64 a0_0, .bool a0_1, .int .i64 a0_2, .int .i64 a0_3, .int .i64 a0_4, .int .i64 a0_5, .int .i64 a0_6, .int .i64 a0_7] 38 (0, 0)) (bk BK205.out)) (below_size (bl1 HB.out GE205.out))); replace BK205 := Aside0.mk (bb BK205.out hb); replace HB := Aside0.mk (below_step (bl1 HB.out GE205.out) hb); clear hb ho14; obtain ⟨Ao15, co15, eo15⟩ := Kd.R_slice HO212.out; subst eo15) | ((with_reducible refine gate_callee (f := 52) rfl ?_); refine goesL_ (some 20) rfl rfl Try.func52 (by kernel_rfl) rfl #[.slice Ao15 y210.length co15] rfl am ?_; (with_reducible refine (edge_May.calls k _ _ y210 t213 _ ?side1 ?side2 A10.out).mono ?_); (case side1 => repeat (first | exact (Kd.R_reads' HO212.out).2.2 | (with_reducible refine Kd.C_alloc ?_ _) | (with_reducible refine Kd.C_drewN ?_ _) | (with_reducible refine Kd.C_drew ?_))); (case side2 => exact (Kd.R_reads' HO212.out).2.1); rintro e w16 ⟨rfl, hb⟩; refine ⟨_, rfl, ?_⟩; replace HO212 := Aside0.mk (Kd.R_below (by (with_reducible repeat (first | apply Kd.R_alloc | apply Kd.R_drewN | apply Kd.R_drew)); exact HO212.out) hb); replace BK205 := Aside0.mk (bb BK205.out hb); replace HB := Aside0.mk (below_step (bl1 HB.out GE205.out) hb); (try clear hb); (try clear hb2); (try clear hk); (try clear hi)))
  go_ret
  exact ⟨by first | rfl | (simp [errW_none, errW_some] <;> rfl) | (simp [*, errW_none, errW_some] <;> rfl), bl1 HB.out GE205.out⟩

/-! ### corner_Is: function 18 -/
def corner_Is.f (k : Nat) (a0_0 : Int) (a0_1 : Bool) (a0_2 : Int) (a0_3 : Int) (a0_4 : Int) (a0_5 : Int) (a0_6 : Int) (a0_7 : Int) (a1_0 : Int) (a1_1 : Bool) (a1_2 : Int) (a1_3 : Int) (a1_4 : Int) (a1_5 : Int) (a1_6 : Int) (a1_7 : Int) : Option (Bool × Int) := (corner_right.f k a0_0 a0_1 a0_2 a0_3 a0_4 a0_5 a0_6 a0_7).bind fun t216 => (if t216 = true then ((corner_right.f k a1_0 a1_1 a1_2 a1_3 a1_4 a1_5 a1_6 a1_7).bind fun t217 => (if t217 = true then ((corner_is.f k a0_0 a0_1 a0_2 a0_3 a0_4 a0_5 a0_6 a0_7 a1_0 a1_1 a1_2 a1_3 a1_4 a1_5 a1_6 a1_7).bind fun t218 => (some (t218, 0))) else (some (false, 1)))) else (some (false, 1)))
theorem corner_Is.mono : ∀ a0 a1 a2 a3 a4 a5 a6 a7 a8 a9 a10 a11 a12 a13 a14 a15 k, LeO (corner_Is.f k a0 a1 a2 a3 a4 a5 a6 a7 a8 a9 a10 a11 a12 a13 a14 a15) (corner_Is.f (k + 1) a0 a1 a2 a3 a4 a5 a6 a7 a8 a9 a10 a11 a12 a13 a14 a15) := by
 intro a0 a1 a2 a3 a4 a5 a6 a7 a8 a9 a10 a11 a12 a13 a14 a15 k
 unfold corner_Is.f
 repeat' first
   | (with_reducible exact corner_is.mono _ _ _ _ _ _ _ _ _ _ _ _ _ _ _ _ _)
   | (with_reducible exact corner_right.mono _ _ _ _ _ _ _ _ _)
   | (with_reducible exact LeO.refl _)
   | (with_reducible exact LeO.none _)
   | (with_reducible refine LeO.ite ?_ ?_)
   | (with_reducible refine LeO.bind ?_ (fun _ => ?_))
   | exact corner_is.mono _ _ _ _ _ _ _ _ _ _ _ _ _ _ _ _ _
   | exact corner_right.mono _ _ _ _ _ _ _ _ _
   | exact LeO.none _
   | refine LeO.ite ?_ ?_
   | refine LeO.bind ?_ (fun _ => ?_)
set_option maxHeartbeats 8000000 in
set_option maxRecDepth 100000 in
theorem corner_Is.calls (k : Nat) (a0_0 : Int) (a0_1 : Bool) (a0_2 : Int) (a0_3 : Int) (a0_4 : Int) (a0_5 : Int) (a0_6 : Int) (a0_7 : Int) (a1_0 : Int) (a1_1 : Bool) (a1_2 : Int) (a1_3 : Int) (a1_4 : Int) (a1_5 : Int) (a1_6 : Int) (a1_7 : Int) (r1 : Bool) (r2 : Int) (w : World) (h : corner_Is.f k a0_0 a0_1 a0_2 a0_3 a0_4 a0_5 a0_6 a0_7 a1_0 a1_1 a1_2 a1_3 a1_4 a1_5 a1_6 a1_7 = some (r1, r2)) :
  Calls Try.prog 18 #[.agg #[.int .i64 a0_0, .bool a0_1, .int .i64 a0_2, .int .i64 a0_3, .int .i64 a0_4, .int .i64 a0_5, .int .i64 a0_6, .int .i64 a0_7], .agg #[.int .i64 a1_0, .bool a1_1, .int .i64 a1_2, .int .i64 a1_3, .int .i64 a1_4, .int .i64 a1_5, .int .i64 a1_6, .int .i64 a1_7]] w fun e w' => e = .returned (.tuple #[.bool r1, .int .i64 r2]) ∧ Below w.heap.size w w' := by
 have hu38 := Try.underlying38
 have HB := Aside0.mk (Below.refl w.heap.size w)
 have H : ((corner_right.f k a0_0 a0_1 a0_2 a0_3 a0_4 a0_5 a0_6 a0_7).bind fun t216 => (if t216 = true then ((corner_right.f k a1_0 a1_1 a1_2 a1_3 a1_4 a1_5 a1_6 a1_7).bind fun t217 => (if t217 = true then ((corner_is.f k a0_0 a0_1 a0_2 a0_3 a0_4 a0_5 a0_6 a0_7 a1_0 a1_1 a1_2 a1_3 a1_4 a1_5 a1_6 a1_7).bind fun t218 => (some (t218, 0))) else (some (false, 1)))) else (some (false, 1)))) = some (r1, r2) := h
 clear h
 replace H := Option.bind_eq_some_iff.mp H
 obtain ⟨t216, A30, H⟩ := H
 replace H : (if t216 = true then ((corner_right.f k a1_0 a1_1 a1_2 a1_3 a1_4 a1_5 a1_6 a1_7).bind fun t217 => (if t217 = true then ((corner_is.f k a0_0 a0_1 a0_2 a0_3 a0_4 a0_5 a0_6 a0_7 a1_0 a1_1 a1_2 a1_3 a1_4 a1_5 a1_6 a1_7).bind fun t218 => (some (t218, 0))) else (some (false, 1)))) else (some (false, 1))) = some (r1, r2) := H
 have A3 := Aside0.mk A30
 clear A30
 by_cases c4 : t216 = true
 ·subst c4
  have H1 : ((corner_right.f k a1_0 a1_1 a1_2 a1_3 a1_4 a1_5 a1_6 a1_7).bind fun t217 => (if t217 = true then ((corner_is.f k a0_0 a0_1 a0_2 a0_3 a0_4 a0_5 a0_6 a0_7 a1_0 a1_1 a1_2 a1_3 a1_4 a1_5 a1_6 a1_7).bind fun t218 => (some (t218, 0))) else (some (false, 1)))) = some (r1, r2) := by rw [if_pos rfl] at H; exact H
  clear H
  have H := H1
  clear H1
  replace H := Option.bind_eq_some_iff.mp H
  obtain ⟨t217, A50, H⟩ := H
  replace H : (if t217 = true then ((corner_is.f k a0_0 a0_1 a0_2 a0_3 a0_4 a0_5 a0_6 a0_7 a1_0 a1_1 a1_2 a1_3 a1_4 a1_5 a1_6 a1_7).bind fun t218 => (some (t218, 0))) else (some (false, 1))) = some (r1, r2) := H
  have A5 := Aside0.mk A50
  clear A50
  by_cases c6 : t217 = true
  ·subst c6
   have H1 : ((corner_is.f k a0_0 a0_1 a0_2 a0_3 a0_4 a0_5 a0_6 a0_7 a1_0 a1_1 a1_2 a1_3 a1_4 a1_5 a1_6 a1_7).bind fun t218 => (some (t218, 0))) = some (r1, r2) := by rw [if_pos rfl] at H; exact H
   clear H
   have H := H1
   clear H1
   replace H := Option.bind_eq_some_iff.mp H
   obtain ⟨t218, A70, H⟩ := H
   replace H : (some (t218, 0)) = some (r1, r2) := H
   have A7 := Aside0.mk A70
   clear A70
   simp only [Option.some.injEq, Prod.mk.injEq] at H
   obtain ⟨rfl, rfl⟩ := H
   go_enter Try.func18, Try.ntmps18
   go_wp2_with (first | ((with_reducible refine gate_dst (N := 2) rfl ?_); refine be 2 (#[.int .i64 a0_0, .bool a0_1, .int .i64 a0_2, .int .i64 a0_3, .int .i64 a0_4, .int .i64 a0_5, .int .i64 a0_6, .int .i64 a0_7]) 38 ?_; intro gb214 hg w8 hbox hb; have BK214 := Aside0.mk (hbox); have GW214 := Aside0.mk ((by rw [hg]; exact (below_size (bl0 HB.out)) : w.heap.size ≤ gb214)); have GE214 := GW214; replace HB := Aside0.mk (below_step (bl0 HB.out) hb); clear hb hbox hg) | ((with_reducible refine gate_dst (N := 3) rfl ?_); refine be 3 (#[.int .i64 a1_0, .bool a1_1, .int .i64 a1_2, .int .i64 a1_3, .int .i64 a1_4, .int .i64 a1_5, .int .i64 a1_6, .int .i64 a1_7]) 38 ?_; intro gb215 hg w9 hbox hb; have BK215 := Aside0.mk (hbox); have GW215 := Aside0.mk ((by rw [hg]; exact (below_size (bl1 HB.out GE214.out)) : w.heap.size ≤ gb215)); have GE215 := GW215; have NB214_215 := Aside0.mk ((by rw [hg]; exact Nat.ne_of_lt (lt_ BK214.out) : gb214 ≠ gb215)); have NB215_214 := Aside0.mk ((by rw [hg]; exact Nat.ne_of_gt (lt_ BK214.out) : gb215 ≠ gb214)); replace BK214 := Aside0.mk (bb BK214.out hb); replace HB := Aside0.mk (below_step (bl1 HB.out GE214.out) hb); clear hb hbox hg; have hnb10 := NB214_215.out; have hnc10 := NB215_214.out; have hcz11_0 : w9.cell? ⟨gb214, 0, none⟩ = some (.int .i64 a0_0) := (blk_cell BK214.out 0).trans rfl; have hcz11_1 : w9.cell? ⟨gb214, 1, none⟩ = some (.bool a0_1) := (blk_cell BK214.out 1).trans rfl; have hcz11_2 : w9.cell? ⟨gb214, 2, none⟩ = some (.int .i64 a0_2) := (blk_cell BK214.out 2).trans rfl; have hcz11_3 : w9.cell? ⟨gb214, 3, none⟩ = some (.int .i64 a0_3) := (blk_cell BK214.out 3).trans rfl; have hcz11_4 : w9.cell? ⟨gb214, 4, none⟩ = some (.int .i64 a0_4) := (blk_cell BK214.out 4).trans rfl; have hcz11_5 : w9.cell? ⟨gb214, 5, none⟩ = some (.int .i64 a0_5) := (blk_cell BK214.out 5).trans rfl; have hcz11_6 : w9.cell? ⟨gb214, 6, none⟩ = some (.int .i64 a0_6) := (blk_cell BK214.out 6).trans rfl; have hcz11_7 : w9.cell? ⟨gb214, 7, none⟩ = some (.int .i64 a0_7) := (blk_cell BK214.out 7).trans rfl; have hfz11_0 := blk_frozen BK214.out 0; have hfz11_1 := blk_frozen BK214.out 1; have hfz11_2 := blk_frozen BK214.out 2; have hfz11_3 := blk_frozen BK214.out 3; have hfz11_4 := blk_frozen BK214.out 4; have hfz11_5 := blk_frozen BK214.out 5; have hfz11_6 := blk_frozen BK214.out 6; have hfz11_7 := blk_frozen BK214.out 7) | ((with_reducible refine gate_callee (f := 56) rfl ?_); refine goesL_ (some 7) rfl rfl Try.func56 (by kernel_rfl) rfl #[.agg #[.int .i64 a0_0, .bool a0_1, .int .i64 a0_2, .int .i64 a0_3, .int .i64 a0_4, .int .i64 a0_5, .int .i64 a0_6, .int .i64 a0_7]] rfl am ?_; (with_reducible refine (corner_right.calls k a0_0 a0_1 a0_2 a0_3 a0_4 a0_5 a0_6 a0_7 true _ A3.out).mono ?_); rintro e w12 ⟨rfl, hb⟩; refine ⟨_, rfl, ?_⟩; replace BK214 := Aside0.mk (bb BK214.out hb); replace BK215 := Aside0.mk (bb BK215.out hb); replace HB := Aside0.mk (below_step (bl2 HB.out GE214.out GE215.out) hb); (try clear hb); (try clear hb2); (try clear hk); (try clear hi); have hcz13_0 : w12.cell? ⟨gb215, 0, none⟩ = some (.int .i64 a1_0) := (blk_cell BK215.out 0).trans rfl; have hcz13_1 : w12.cell? ⟨gb215, 1, none⟩ = some (.bool a1_1) := (blk_cell BK215.out 1).trans rfl; have hcz13_2 : w12.cell? ⟨gb215, 2, none⟩ = some (.int .i64 a1_2) := (blk_cell BK215.out 2).trans rfl; have hcz13_3 : w12.cell? ⟨gb215, 3, none⟩ = some (.int .i64 a1_3) := (blk_cell BK215.out 3).trans rfl; have hcz13_4 : w12.cell? ⟨gb215, 4, none⟩ = some (.int .i64 a1_4) := (blk_cell BK215.out 4).trans rfl; have hcz13_5 : w12.cell? ⟨gb215, 5, none⟩ = some (.int .i64 a1_5) := (blk_cell BK215.out 5).trans rfl; have hcz13_6 : w12.cell? ⟨gb215, 6, none⟩ = some (.int .i64 a1_6) := (blk_cell BK215.out 6).trans rfl; have hcz13_7 : w12.cell? ⟨gb215, 7, none⟩ = some (.int .i64 a1_7) := (blk_cell BK215.out 7).trans rfl; have hfz13_0 := blk_frozen BK215.out 0; have hfz13_1 := blk_frozen BK215.out 1; have hfz13_2 := blk_frozen BK215.out 2; have hfz13_3 := blk_frozen BK215.out 3; have hfz13_4 := blk_frozen BK215.out 4; have hfz13_5 := blk_frozen BK215.out 5; have hfz13_6 := blk_frozen BK215.out 6; have hfz13_7 := blk_frozen BK215.out 7) | (go_at_call 56; (with_reducible refine (corner_right.calls k a1_0 a1_1 a1_2 a1_3 a1_4 a1_5 a1_6 a1_7 true _ A5.out).mono ?_); rintro e w14 ⟨rfl, hb⟩; replace BK214 := Aside0.mk (bb BK214.out hb); replace BK215 := Aside0.mk (bb BK215.out hb); replace HB := Aside0.mk (below_step (bl2 HB.out GE214.out GE215.out) hb); (try clear hb); (try clear hb2); (try clear hk); (try clear hi); have hcz15_0 : w14.cell? ⟨gb214, 0, none⟩ = some (.int .i64 a0_0) := (blk_cell BK214.out 0).trans rfl; have hcz15_1 : w14.cell? ⟨gb214, 1, none⟩ = some (.bool a0_1) := (blk_cell BK214.out 1).trans rfl; have hcz15_2 : w14.cell? ⟨gb214, 2, none⟩ = some (.int .i64 a0_2) := (blk_cell BK214.out 2).trans rfl; have hcz15_3 : w14.cell? ⟨gb214, 3, none⟩ = some (.int .i64 a0_3) := (blk_cell BK214.out 3).trans rfl; have hcz15_4 : w14.cell? ⟨gb214, 4, none⟩ = some (.int .i64 a0_4) := (blk_cell BK214.out 4).trans rfl; have hcz15_5 : w14.cell? ⟨gb214, 5, none⟩ = some (.int .i64 a0_5) := (blk_cell BK214.out 5).trans rfl; have hcz15_6 : w14.cell? ⟨gb214, 6, none⟩ = some (.int .i64 a0_6) := (blk_cell BK214.out 6).trans rfl; have hcz15_7 : w14.cell? ⟨gb214, 7, none⟩ = some (.int .i64 a0_7) := (blk_cell BK214.out 7).trans rfl; have hfz15_0 := blk_frozen BK214.out 0; have hfz15_1 := blk_frozen BK214.out 1; have hfz15_2 := blk_frozen BK214.out 2; have hfz15_3 := blk_frozen BK214.out 3; have hfz15_4 := blk_frozen BK214.out 4; have hfz15_5 := blk_frozen BK214.out 5; have hfz15_6 := blk_frozen BK214.out 6; have hfz15_7 := blk_frozen BK214.out 7; have hcz16_0 : w14.cell? ⟨gb215, 0, none⟩ = some (.int .i64 a1_0) := (blk_cell BK215.out 0).trans rfl; have hcz16_1 : w14.cell? ⟨gb215, 1, none⟩ = some (.bool a1_1) := (blk_cell BK215.out 1).trans rfl; have hcz16_2 : w14.cell? ⟨gb215, 2, none⟩ = some (.int .i64 a1_2) := (blk_cell BK215.out 2).trans rfl; have hcz16_3 : w14.cell? ⟨gb215, 3, none⟩ = some (.int .i64 a1_3) := (blk_cell BK215.out 3).trans rfl; have hcz16_4 : w14.cell? ⟨gb215, 4, none⟩ = some (.int .i64 a1_4) := (blk_cell BK215.out 4).trans rfl; have hcz16_5 : w14.cell? ⟨gb215, 5, none⟩ = some (.int .i64 a1_5) := (blk_cell BK215.out 5).trans rfl; have hcz16_6 : w14.cell? ⟨gb215, 6, none⟩ = some (.int .i64 a1_6) := (blk_cell BK215.out 6).trans rfl; have hcz16_7 : w14.cell? ⟨gb215, 7, none⟩ = some (.int .i64 a1_7) := (blk_cell BK215.out 7).trans rfl; have hfz16_0 := blk_frozen BK215.out 0; have hfz16_1 := blk_frozen BK215.out 1; have hfz16_2 := blk_frozen BK215.out 2; have hfz16_3 := blk_frozen BK215.out 3; have hfz16_4 := blk_frozen BK215.out 4; have hfz16_5 := blk_frozen BK215.out 5; have hfz16_6 := blk_frozen BK215.out 6; have hfz16_7 := blk_frozen BK215.out 7) | ((with_reducible refine gate_callee (f := 53) rfl ?_); refine goesL_ (some 16) rfl rfl Try.func53 (by kernel_rfl) rfl #[.agg #[.int .i64 a0_0, .bool a0_1, .int .i64 a0_2, .int .i64 a0_3, .int .i64 a0_4, .int .i64 a0_5, .int .i64 a0_6, .int .i64 a0_7], .agg #[.int .i64 a1_0, .bool a1_1, .int .i64 a1_2, .int .i64 a1_3, .int .i64 a1_4, .int .i64 a1_5, .int .i64 a1_6, .int .i64 a1_7]] rfl am ?_; (with_reducible refine (corner_is.calls k a0_0 a0_1 a0_2 a0_3 a0_4 a0_5 a0_6 a0_7 a1_0 a1_1 a1_2 a1_3 a1_4 a1_5 a1_6 a1_7 t218 _ A7.out).mono ?_); rintro e w17 ⟨rfl, hb⟩; refine ⟨_, rfl, ?_⟩; replace BK214 := Aside0.mk (bb BK214.out hb); replace BK215 := Aside0.mk (bb BK215.out hb); replace HB := Aside0.mk (below_step (bl2 HB.out GE214.out GE215.out) hb); (try clear hb); (try clear hb2); (try clear hk); (try clear hi)))
   go_ret2
   exact ⟨by first | rfl | (simp [errW_none, errW_some] <;> rfl) | (simp [*, errW_none, errW_some] <;> rfl), bl2 HB.out GE214.out GE215.out⟩
  ·replace c6 := Bool.eq_false_iff.mpr c6
   subst c6
   have H1 : (some (false, 1)) = some (r1, r2) := by rw [if_neg (show ¬ (false = true) by decide)] at H; exact H
   clear H
   have H := H1
   clear H1
   simp only [Option.some.injEq, Prod.mk.injEq] at H
   obtain ⟨rfl, rfl⟩ := H
   go_enter Try.func18, Try.ntmps18
   go_wp2_with (first | ((with_reducible refine gate_dst (N := 2) rfl ?_); refine be 2 (#[.int .i64 a0_0, .bool a0_1, .int .i64 a0_2, .int .i64 a0_3, .int .i64 a0_4, .int .i64 a0_5, .int .i64 a0_6, .int .i64 a0_7]) 38 ?_; intro gb214 hg w18 hbox hb; have BK214 := Aside0.mk (hbox); have GW214 := Aside0.mk ((by rw [hg]; exact (below_size (bl0 HB.out)) : w.heap.size ≤ gb214)); have GE214 := GW214; replace HB := Aside0.mk (below_step (bl0 HB.out) hb); clear hb hbox hg) | ((with_reducible refine gate_dst (N := 3) rfl ?_); refine be 3 (#[.int .i64 a1_0, .bool a1_1, .int .i64 a1_2, .int .i64 a1_3, .int .i64 a1_4, .int .i64 a1_5, .int .i64 a1_6, .int .i64 a1_7]) 38 ?_; intro gb215 hg w19 hbox hb; have BK215 := Aside0.mk (hbox); have GW215 := Aside0.mk ((by rw [hg]; exact (below_size (bl1 HB.out GE214.out)) : w.heap.size ≤ gb215)); have GE215 := GW215; have NB214_215 := Aside0.mk ((by rw [hg]; exact Nat.ne_of_lt (lt_ BK214.out) : gb214 ≠ gb215)); have NB215_214 := Aside0.mk ((by rw [hg]; exact Nat.ne_of_gt (lt_ BK214.out) : gb215 ≠ gb214)); replace BK214 := Aside0.mk (bb BK214.out hb); replace HB := Aside0.mk (below_step (bl1 HB.out GE214.out) hb); clear hb hbox hg; have hnb20 := NB214_215.out; have hnc20 := NB215_214.out; have hcz21_0 : w19.cell? ⟨gb214, 0, none⟩ = some (.int .i64 a0_0) := (blk_cell BK214.out 0).trans rfl; have hcz21_1 : w19.cell? ⟨gb214, 1, none⟩ = some (.bool a0_1) := (blk_cell BK214.out 1).trans rfl; have hcz21_2 : w19.cell? ⟨gb214, 2, none⟩ = some (.int .i64 a0_2) := (blk_cell BK214.out 2).trans rfl; have hcz21_3 : w19.cell? ⟨gb214, 3, none⟩ = some (.int .i64 a0_3) := (blk_cell BK214.out 3).trans rfl; have hcz21_4 : w19.cell? ⟨gb214, 4, none⟩ = some (.int .i64 a0_4) := (blk_cell BK214.out 4).trans rfl; have hcz21_5 : w19.cell? ⟨gb214, 5, none⟩ = some (.int .i64 a0_5) := (blk_cell BK214.out 5).trans rfl; have hcz21_6 : w19.cell? ⟨gb214, 6, none⟩ = some (.int .i64 a0_6) := (blk_cell BK214.out 6).trans rfl; have hcz21_7 : w19.cell? ⟨gb214, 7, none⟩ = some (.int .i64 a0_7) := (blk_cell BK214.out 7).trans rfl; have hfz21_0 := blk_frozen BK214.out 0; have hfz21_1 := blk_frozen BK214.out 1; have hfz21_2 := blk_frozen BK214.out 2; have hfz21_3 := blk_frozen BK214.out 3; have hfz21_4 := blk_frozen BK214.out 4; have hfz21_5 := blk_frozen BK214.out 5; have hfz21_6 := blk_frozen BK214.out 6; have hfz21_7 := blk_frozen BK214.out 7) | ((with_reducible refine gate_callee (f := 56) rfl ?_); refine goesL_ (some 7) rfl rfl Try.func56 (by kernel_rfl) rfl #[.agg #[.int .i64 a0_0, .bool a0_1, .int .i64 a0_2, .int .i64 a0_3, .int .i64 a0_4, .int .i64 a0_5, .int .i64 a0_6, .int .i64 a0_7]] rfl am ?_; (with_reducible refine (corner_right.calls k a0_0 a0_1 a0_2 a0_3 a0_4 a0_5 a0_6 a0_7 true _ A3.out).mono ?_); rintro e w22 ⟨rfl, hb⟩; refine ⟨_, rfl, ?_⟩; replace BK214 := Aside0.mk (bb BK214.out hb); replace BK215 := Aside0.mk (bb BK215.out hb); replace HB := Aside0.mk (below_step (bl2 HB.out GE214.out GE215.out) hb); (try clear hb); (try clear hb2); (try clear hk); (try clear hi); have hcz23_0 : w22.cell? ⟨gb215, 0, none⟩ = some (.int .i64 a1_0) := (blk_cell BK215.out 0).trans rfl; have hcz23_1 : w22.cell? ⟨gb215, 1, none⟩ = some (.bool a1_1) := (blk_cell BK215.out 1).trans rfl; have hcz23_2 : w22.cell? ⟨gb215, 2, none⟩ = some (.int .i64 a1_2) := (blk_cell BK215.out 2).trans rfl; have hcz23_3 : w22.cell? ⟨gb215, 3, none⟩ = some (.int .i64 a1_3) := (blk_cell BK215.out 3).trans rfl; have hcz23_4 : w22.cell? ⟨gb215, 4, none⟩ = some (.int .i64 a1_4) := (blk_cell BK215.out 4).trans rfl; have hcz23_5 : w22.cell? ⟨gb215, 5, none⟩ = some (.int .i64 a1_5) := (blk_cell BK215.out 5).trans rfl; have hcz23_6 : w22.cell? ⟨gb215, 6, none⟩ = some (.int .i64 a1_6) := (blk_cell BK215.out 6).trans rfl; have hcz23_7 : w22.cell? ⟨gb215, 7, none⟩ = some (.int .i64 a1_7) := (blk_cell BK215.out 7).trans rfl; have hfz23_0 := blk_frozen BK215.out 0; have hfz23_1 := blk_frozen BK215.out 1; have hfz23_2 := blk_frozen BK215.out 2; have hfz23_3 := blk_frozen BK215.out 3; have hfz23_4 := blk_frozen BK215.out 4; have hfz23_5 := blk_frozen BK215.out 5; have hfz23_6 := blk_frozen BK215.out 6; have hfz23_7 := blk_frozen BK215.out 7) | (go_at_call 56; (with_reducible refine (corner_right.calls k a1_0 a1_1 a1_2 a1_3 a1_4 a1_5 a1_6 a1_7 false _ A5.out).mono ?_); rintro e w24 ⟨rfl, hb⟩; replace BK214 := Aside0.mk (bb BK214.out hb); replace BK215 := Aside0.mk (bb BK215.out hb); replace HB := Aside0.mk (below_step (bl2 HB.out GE214.out GE215.out) hb); (try clear hb); (try clear hb2); (try clear hk); (try clear hi)))
   go_ret2
   exact ⟨by first | rfl | (simp [errW_none, errW_some] <;> rfl) | (simp [*, errW_none, errW_some] <;> rfl), bl2 HB.out GE214.out GE215.out⟩
 ·replace c4 := Bool.eq_false_iff.mpr c4
  subst c4
  have H1 : (some (false, 1)) = some (r1, r2) := by rw [if_neg (show ¬ (false = true) by decide)] at H; exact H
  clear H
  have H := H1
  clear H1
  simp only [Option.some.injEq, Prod.mk.injEq] at H
  obtain ⟨rfl, rfl⟩ := H
  go_enter Try.func18, Try.ntmps18
  go_wp2_with (first | ((with_reducible refine gate_dst (N := 2) rfl ?_); refine be 2 (#[.int .i64 a0_0, .bool a0_1, .int .i64 a0_2, .int .i64 a0_3, .int .i64 a0_4, .int .i64 a0_5, .int .i64 a0_6, .int .i64 a0_7]) 38 ?_; intro gb214 hg w25 hbox hb; have BK214 := Aside0.mk (hbox); have GW214 := Aside0.mk ((by rw [hg]; exact (below_size (bl0 HB.out)) : w.heap.size ≤ gb214)); have GE214 := GW214; replace HB := Aside0.mk (below_step (bl0 HB.out) hb); clear hb hbox hg) | ((with_reducible refine gate_dst (N := 3) rfl ?_); refine be 3 (#[.int .i64 a1_0, .bool a1_1, .int .i64 a1_2, .int .i64 a1_3, .int .i64 a1_4, .int .i64 a1_5, .int .i64 a1_6, .int .i64 a1_7]) 38 ?_; intro gb215 hg w26 hbox hb; have BK215 := Aside0.mk (hbox); have GW215 := Aside0.mk ((by rw [hg]; exact (below_size (bl1 HB.out GE214.out)) : w.heap.size ≤ gb215)); have GE215 := GW215; have NB214_215 := Aside0.mk ((by rw [hg]; exact Nat.ne_of_lt (lt_ BK214.out) : gb214 ≠ gb215)); have NB215_214 := Aside0.mk ((by rw [hg]; exact Nat.ne_of_gt (lt_ BK214.out) : gb215 ≠ gb214)); replace BK214 := Aside0.mk (bb BK214.out hb); replace HB := Aside0.mk (below_step (bl1 HB.out GE214.out) hb); clear hb hbox hg; have hnb27 := NB214_215.out; have hnc27 := NB215_214.out; have hcz28_0 : w26.cell? ⟨gb214, 0, none⟩ = some (.int .i64 a0_0) := (blk_cell BK214.out 0).trans rfl; have hcz28_1 : w26.cell? ⟨gb214, 1, none⟩ = some (.bool a0_1) := (blk_cell BK214.out 1).trans rfl; have hcz28_2 : w26.cell? ⟨gb214, 2, none⟩ = some (.int .i64 a0_2) := (blk_cell BK214.out 2).trans rfl; have hcz28_3 : w26.cell? ⟨gb214, 3, none⟩ = some (.int .i64 a0_3) := (blk_cell BK214.out 3).trans rfl; have hcz28_4 : w26.cell? ⟨gb214, 4, none⟩ = some (.int .i64 a0_4) := (blk_cell BK214.out 4).trans rfl; have hcz28_5 : w26.cell? ⟨gb214, 5, none⟩ = some (.int .i64 a0_5) := (blk_cell BK214.out 5).trans rfl; have hcz28_6 : w26.cell? ⟨gb214, 6, none⟩ = some (.int .i64 a0_6) := (blk_cell BK214.out 6).trans rfl; have hcz28_7 : w26.cell? ⟨gb214, 7, none⟩ = some (.int .i64 a0_7) := (blk_cell BK214.out 7).trans rfl; have hfz28_0 := blk_frozen BK214.out 0; have hfz28_1 := blk_frozen BK214.out 1; have hfz28_2 := blk_frozen BK214.out 2; have hfz28_3 := blk_frozen BK214.out 3; have hfz28_4 := blk_frozen BK214.out 4; have hfz28_5 := blk_frozen BK214.out 5; have hfz28_6 := blk_frozen BK214.out 6; have hfz28_7 := blk_frozen BK214.out 7) | ((with_reducible refine gate_callee (f := 56) rfl ?_); refine goesL_ (some 7) rfl rfl Try.func56 (by kernel_rfl) rfl #[.agg #[.int .i64 a0_0, .bool a0_1, .int .i64 a0_2, .int .i64 a0_3, .int .i64 a0_4, .int .i64 a0_5, .int .i64 a0_6, .int .i64 a0_7]] rfl am ?_; (with_reducible refine (corner_right.calls k a0_0 a0_1 a0_2 a0_3 a0_4 a0_5 a0_6 a0_7 false _ A3.out).mono ?_); rintro e w29 ⟨rfl, hb⟩; refine ⟨_, rfl, ?_⟩; replace BK214 := Aside0.mk (bb BK214.out hb); replace BK215 := Aside0.mk (bb BK215.out hb); replace HB := Aside0.mk (below_step (bl2 HB.out GE214.out GE215.out) hb); (try clear hb); (try clear hb2); (try clear hk); (try clear hi)))
  go_ret2
  exact ⟨by first | rfl | (simp [errW_none, errW_some] <;> rfl) | (simp [*, errW_none, errW_some] <;> rfl), bl2 HB.out GE214.out GE215.out⟩

/-! ### corner_Last: function 27 -/
def corner_Last.f (k : Nat) (a0_0 : Int) (a0_1 : Bool) (a0_2 : Int) (a0_3 : Int) (a0_4 : Int) (a0_5 : Int) (a0_6 : Int) (a0_7 : Int) : Option (Int × Int × Int) := (corner_right.f k a0_0 a0_1 a0_2 a0_3 a0_4 a0_5 a0_6 a0_7).bind fun t221 => (if t221 = true then ((corner_last.f k a0_0 a0_1 a0_2 a0_3 a0_4 a0_5 a0_6 a0_7).bind fun bt222 => (some (bt222.1, bt222.2, 0))) else (some (0, 0, 1)))
theorem corner_Last.mono : ∀ a0 a1 a2 a3 a4 a5 a6 a7 k, LeO (corner_Last.f k a0 a1 a2 a3 a4 a5 a6 a7) (corner_Last.f (k + 1) a0 a1 a2 a3 a4 a5 a6 a7) := by
 intro a0 a1 a2 a3 a4 a5 a6 a7 k
 unfold corner_Last.f
 repeat' first
   | (with_reducible exact corner_last.mono _ _ _ _ _ _ _ _ _)
   | (with_reducible exact corner_right.mono _ _ _ _ _ _ _ _ _)
   | (with_reducible exact LeO.refl _)
   | (with_reducible exact LeO.none _)
   | (with_reducible refine LeO.ite ?_ ?_)
   | (with_reducible refine LeO.bind ?_ (fun _ => ?_))
   | exact corner_last.mono _ _ _ _ _ _ _ _ _
   | exact corner_right.mono _ _ _ _ _ _ _ _ _
   | exact LeO.none _
   | refine LeO.ite ?_ ?_
   | refine LeO.bind ?_ (fun _ => ?_)
set_option maxHeartbeats 8000000 in
set_option maxRecDepth 100000 in
theorem corner_Last.calls (k : Nat) (a0_0 : Int) (a0_1 : Bool) (a0_2 : Int) (a0_3 : Int) (a0_4 : Int) (a0_5 : Int) (a0_6 : Int) (a0_7 : Int) (r1 : Int) (r2 : Int) (r3 : Int) (w : World) (h : corner_Last.f k a0_0 a0_1 a0_2 a0_3 a0_4 a0_5 a0_6 a0_7 = some (r1, r2, r3)) :
  Calls Try.prog 27 #[.agg #[.int .i64 a0_0, .bool a0_1, .int .i64 a0_2, .int .i64 a0_3, .int .i64 a0_4, .int .i64 a0_5, .int .i64 a0_6, .int .i64 a0_7]] w fun e w' => e = .returned (.tuple #[.agg #[.int .i64 r1, .int .i64 r2], .int .i64 r3]) ∧ Below w.heap.size w w' := by
 have hu38 := Try.underlying38
 have hu36 := Try.underlying36
 have HB := Aside0.mk (Below.refl w.heap.size w)
 have H : ((corner_right.f k a0_0 a0_1 a0_2 a0_3 a0_4 a0_5 a0_6 a0_7).bind fun t221 => (if t221 = true then ((corner_last.f k a0_0 a0_1 a0_2 a0_3 a0_4 a0_5 a0_6 a0_7).bind fun bt222 => (some (bt222.1, bt222.2, 0))) else (some (0, 0, 1)))) = some (r1, r2, r3) := h
 clear h
 replace H := Option.bind_eq_some_iff.mp H
 obtain ⟨t221, A20, H⟩ := H
 replace H : (if t221 = true then ((corner_last.f k a0_0 a0_1 a0_2 a0_3 a0_4 a0_5 a0_6 a0_7).bind fun bt222 => (some (bt222.1, bt222.2, 0))) else (some (0, 0, 1))) = some (r1, r2, r3) := H
 have A2 := Aside0.mk A20
 clear A20
 by_cases c3 : t221 = true
 ·subst c3
  have H1 : ((corner_last.f k a0_0 a0_1 a0_2 a0_3 a0_4 a0_5 a0_6 a0_7).bind fun bt222 => (some (bt222.1, bt222.2, 0))) = some (r1, r2, r3) := by rw [if_pos rfl] at H; exact H
  clear H
  have H := H1
  clear H1
  replace H := Option.bind_eq_some_iff.mp H
  obtain ⟨⟨t222, t223⟩, A40, H⟩ := H
  replace H : (some (t222, t223, 0)) = some (r1, r2, r3) := H
  have A4 := Aside0.mk A40
  clear A40
  simp only [Option.some.injEq, Prod.mk.injEq] at H
  obtain ⟨rfl, rfl, rfl⟩ := H
  go_enter Try.func27, Try.ntmps27
  go_wp2_with (first | ((with_reducible refine gate_dst (N := 1) rfl ?_); refine be 1 (#[.int .i64 a0_0, .bool a0_1, .int .i64 a0_2, .int .i64 a0_3, .int .i64 a0_4, .int .i64 a0_5, .int .i64 a0_6, .int .i64 a0_7]) 38 ?_; intro gb219 hg w5 hbox hb; have BK219 := Aside0.mk (hbox); have GW219 := Aside0.mk ((by rw [hg]; exact (below_size (bl0 HB.out)) : w.heap.size ≤ gb219)); have GE219 := GW219; replace HB := Aside0.mk (below_step (bl0 HB.out) hb); clear hb hbox hg) | ((with_reducible refine gate_dst (N := 2) rfl ?_); refine be 2 (#[.int .i64 0, .int .i64 0]) 36 ?_; intro gb220 hg w6 hbox hb; have BK220 := Aside0.mk (hbox); have GW220 := Aside0.mk ((by rw [hg]; exact (below_size (bl1 HB.out GE219.out)) : w.heap.size ≤ gb220)); have GE220 := GW220; have NB219_220 := Aside0.mk ((by rw [hg]; exact Nat.ne_of_lt (lt_ BK219.out) : gb219 ≠ gb220)); have NB220_219 := Aside0.mk ((by rw [hg]; exact Nat.ne_of_gt (lt_ BK219.out) : gb220 ≠ gb219)); replace BK219 := Aside0.mk (bb BK219.out hb); replace HB := Aside0.mk (below_step (bl1 HB.out GE219.out) hb); clear hb hbox hg; have hnb7 := NB219_220.out; have hnc7 := NB220_219.out; have hcz8_0 : w6.cell? ⟨gb219, 0, none⟩ = some (.int .i64 a0_0) := (blk_cell BK219.out 0).trans rfl; have hcz8_1 : w6.cell? ⟨gb219, 1, none⟩ = some (.bool a0_1) := (blk_cell BK219.out 1).trans rfl; have hcz8_2 : w6.cell? ⟨gb219, 2, none⟩ = some (.int .i64 a0_2) := (blk_cell BK219.out 2).trans rfl; have hcz8_3 : w6.cell? ⟨gb219, 3, none⟩ = some (.int .i64 a0_3) := (blk_cell BK219.out 3).trans rfl; have hcz8_4 : w6.cell? ⟨gb219, 4, none⟩ = some (.int .i64 a0_4) := (blk_cell BK219.out 4).trans rfl; have hcz8_5 : w6.cell? ⟨gb219, 5, none⟩ = some (.int .i64 a0_5) := (blk_cell BK219.out 5).trans rfl; have hcz8_6 : w6.cell? ⟨gb219, 6, none⟩ = some (.int .i64 a0_6) := (blk_cell BK219.out 6).trans rfl; have hcz8_7 : w6.cell? ⟨gb219, 7, none⟩ = some (.int .i64 a0_7) := (blk_cell BK219.out 7).trans rfl; have hfz8_0 := blk_frozen BK219.out 0; have hfz8_1 := blk_frozen BK219.out 1; have hfz8_2 := blk_frozen BK219.out 2; have hfz8_3 := blk_frozen BK219.out 3; have hfz8_4 := blk_frozen BK219.out 4; have hfz8_5 := blk_frozen BK219.out 5; have hfz8_6 := blk_frozen BK219.out 6; have hfz8_7 := blk_frozen BK219.out 7) | ((with_reducible refine gate_callee (f := 56) rfl ?_); refine goesL_ (some 5) rfl rfl Try.func56 (by kernel_rfl) rfl #[.agg #[.int .i64 a0_0, .bool a0_1, .int .i64 a0_2, .int .i64 a0_3, .int .i64 a0_4, .int .i64 a0_5, .int .i64 a0_6, .int .i64 a0_7]] rfl am ?_; (with_reducible refine (corner_right.calls k a0_0 a0_1 a0_2 a0_3 a0_4 a0_5 a0_6 a0_7 true _ A2.out).mono ?_); rintro e w9 ⟨rfl, hb⟩; refine ⟨_, rfl, ?_⟩; replace BK219 := Aside0.mk (bb BK219.out hb); replace BK220 := Aside0.mk (bb BK220.out hb); replace HB := Aside0.mk (below_step (bl2 HB.out GE219.out GE220.out) hb); (try clear hb); (try clear hb2); (try clear hk); (try clear hi); have hcz10_0 : w9.cell? ⟨gb219, 0, none⟩ = some (.int .i64 a0_0) := (blk_cell BK219.out 0).trans rfl; have hcz10_1 : w9.cell? ⟨gb219, 1, none⟩ = some (.bool a0_1) := (blk_cell BK219.out 1).trans rfl; have hcz10_2 : w9.cell? ⟨gb219, 2, none⟩ = some (.int .i64 a0_2) := (blk_cell BK219.out 2).trans rfl; have hcz10_3 : w9.cell? ⟨gb219, 3, none⟩ = some (.int .i64 a0_3) := (blk_cell BK219.out 3).trans rfl; have hcz10_4 : w9.cell? ⟨gb219, 4, none⟩ = some (.int .i64 a0_4) := (blk_cell BK219.out 4).trans rfl; have hcz10_5 : w9.cell? ⟨gb219, 5, none⟩ = some (.int .i64 a0_5) := (blk_cell BK219.out 5).trans rfl; have hcz10_6 : w9.cell? ⟨gb219, 6, none⟩ = some (.int .i64 a0_6) := (blk_cell BK219.out 6).trans rfl; have hcz10_7 : w9.cell? ⟨gb219, 7, none⟩ = some (.int .i64 a0_7) := (blk_cell BK219.out 7).trans rfl; have hfz10_0 := blk_frozen BK219.out 0; have hfz10_1 := blk_frozen BK219.out 1; have hfz10_2 := blk_frozen BK219.out 2; have hfz10_3 := blk_frozen BK219.out 3; have hfz10_4 := blk_frozen BK219.out 4; have hfz10_5 := blk_frozen BK219.out 5; have hfz10_6 := blk_frozen BK219.out 6; have hfz10_7 := blk_frozen BK219.out 7) | ((with_reducible refine gate_callee (f := 67) rfl ?_); refine goesL_ (some 9) rfl rfl Try.func67 (by kernel_rfl) rfl #[.agg #[.int .i64 a0_0, .bool a0_1, .int .i64 a0_2, .int .i64 a0_3, .int .i64 a0_4, .int .i64 a0_5, .int .i64 a0_6, .int .i64 a0_7]] rfl am ?_; (with_reducible refine (corner_last.calls k a0_0 a0_1 a0_2 a0_3 a0_4 a0_5 a0_6 a0_7 t222 t223 _ A4.out).mono ?_); rintro e w11 ⟨rfl, hb⟩; refine ⟨_, rfl, ?_⟩; replace BK219 := Aside0.mk (bb BK219.out hb); replace BK220 := Aside0.mk (bb BK220.out hb); replace HB := Aside0.mk (below_step (bl2 HB.out GE219.out GE220.out) hb); (try clear hb); (try clear hb2); (try clear hk); (try clear hi); have hcz12_0 : w11.cell? ⟨gb220, 0, none⟩ = some (.int .i64 0) := (blk_cell BK220.out 0).trans rfl; have hcz12_1 : w11.cell? ⟨gb220, 1, none⟩ = some (.int .i64 0) := (blk_cell BK220.out 1).trans rfl; have hfz12_0 := blk_frozen BK220.out 0; have hfz12_1 := blk_frozen BK220.out 1))
  refine bodyPost_ret (results_ct rfl _ _ gb220 36 #[.int .i64 t222, .int .i64 t223] (0, 0) _ rfl (by (with_reducible repeat (first | refine blk_drewN ?_ _ | refine blk_drew ?_ | refine blk_alloc ?_ _)); refine blk_put (cs := #[.int .i64 t222, .int .i64 0]) ?_ 1 _ rfl; (with_reducible repeat (first | refine blk_drewN ?_ _ | refine blk_drew ?_ | refine blk_alloc ?_ _)); refine blk_put (cs := #[.int .i64 0, .int .i64 0]) ?_ 0 _ rfl; (with_reducible repeat (first | refine blk_drewN ?_ _ | refine blk_drew ?_ | refine blk_alloc ?_ _)); exact BK220.out) Try.underlying36 rfl (by kernel_rfl)) rfl ?_
  exact ⟨by first | rfl | (simp [errW_none, errW_some] <;> rfl) | (simp [*, errW_none, errW_some] <;> rfl), bl2 HB.out GE219.out GE220.out⟩
 ·replace c3 := Bool.eq_false_iff.mpr c3
  subst c3
  have H1 : (some (0, 0, 1)) = some (r1, r2, r3) := by rw [if_neg (show ¬ (false = true) by decide)] at H; exact H
  clear H
  have H := H1
  clear H1
  simp only [Option.some.injEq, Prod.mk.injEq] at H
  obtain ⟨rfl, rfl, rfl⟩ := H
  go_enter Try.func27, Try.ntmps27
  go_wp2_with (first | ((with_reducible refine gate_dst (N := 1) rfl ?_); refine be 1 (#[.int .i64 a0_0, .bool a0_1, .int .i64 a0_2, .int .i64 a0_3, .int .i64 a0_4, .int .i64 a0_5, .int .i64 a0_6, .int .i64 a0_7]) 38 ?_; intro gb219 hg w13 hbox hb; have BK219 := Aside0.mk (hbox); have GW219 := Aside0.mk ((by rw [hg]; exact (below_size (bl0 HB.out)) : w.heap.size ≤ gb219)); have GE219 := GW219; replace HB := Aside0.mk (below_step (bl0 HB.out) hb); clear hb hbox hg) | ((with_reducible refine gate_dst (N := 2) rfl ?_); refine be 2 (#[.int .i64 0, .int .i64 0]) 36 ?_; intro gb220 hg w14 hbox hb; have BK220 := Aside0.mk (hbox); have GW220 := Aside0.mk ((by rw [hg]; exact (below_size (bl1 HB.out GE219.out)) : w.heap.size ≤ gb220)); have GE220 := GW220; have NB219_220 := Aside0.mk ((by rw [hg]; exact Nat.ne_of_lt (lt_ BK219.out) : gb219 ≠ gb220)); have NB220_219 := Aside0.mk ((by rw [hg]; exact Nat.ne_of_gt (lt_ BK219.out) : gb220 ≠ gb219)); replace BK219 := Aside0.mk (bb BK219.out hb); replace HB := Aside0.mk (below_step (bl1 HB.out GE219.out) hb); clear hb hbox hg; have hnb15 := NB219_220.out; have hnc15 := NB220_219.out; have hcz16_0 : w14.cell? ⟨gb219, 0, none⟩ = some (.int .i64 a0_0) := (blk_cell BK219.out 0).trans rfl; have hcz16_1 : w14.cell? ⟨gb219, 1, none⟩ = some (.bool a0_1) := (blk_cell BK219.out 1).trans rfl; have hcz16_2 : w14.cell? ⟨gb219, 2, none⟩ = some (.int .i64 a0_2) := (blk_cell BK219.out 2).trans rfl; have hcz16_3 : w14.cell? ⟨gb219, 3, none⟩ = some (.int .i64 a0_3) := (blk_cell BK219.out 3).trans rfl; have hcz16_4 : w14.cell? ⟨gb219, 4, none⟩ = some (.int .i64 a0_4) := (blk_cell BK219.out 4).trans rfl; have hcz16_5 : w14.cell? ⟨gb219, 5, none⟩ = some (.int .i64 a0_5) := (blk_cell BK219.out 5).trans rfl; have hcz16_6 : w14.cell? ⟨gb219, 6, none⟩ = some (.int .i64 a0_6) := (blk_cell BK219.out 6).trans rfl; have hcz16_7 : w14.cell? ⟨gb219, 7, none⟩ = some (.int .i64 a0_7) := (blk_cell BK219.out 7).trans rfl; have hfz16_0 := blk_frozen BK219.out 0; have hfz16_1 := blk_frozen BK219.out 1; have hfz16_2 := blk_frozen BK219.out 2; have hfz16_3 := blk_frozen BK219.out 3; have hfz16_4 := blk_frozen BK219.out 4; have hfz16_5 := blk_frozen BK219.out 5; have hfz16_6 := blk_frozen BK219.out 6; have hfz16_7 := blk_frozen BK219.out 7) | ((with_reducible refine gate_callee (f := 56) rfl ?_); refine goesL_ (some 5) rfl rfl Try.func56 (by kernel_rfl) rfl #[.agg #[.int .i64 a0_0, .bool a0_1, .int .i64 a0_2, .int .i64 a0_3, .int .i64 a0_4, .int .i64 a0_5, .int .i64 a0_6, .int .i64 a0_7]] rfl am ?_; (with_reducible refine (corner_right.calls k a0_0 a0_1 a0_2 a0_3 a0_4 a0_5 a0_6 a0_7 false _ A2.out).mono ?_); rintro e w17 ⟨rfl, hb⟩; refine ⟨_, rfl, ?_⟩; replace BK219 := Aside0.mk (bb BK219.out hb); replace BK220 := Aside0.mk (bb BK220.out hb); replace HB := Aside0.mk (below_step (bl2 HB.out GE219.out GE220.out) hb); (try clear hb); (try clear hb2); (try clear hk); (try clear hi); have hcz18_0 : w17.cell? ⟨gb220, 0, none⟩ = some (.int .i64 0) := (blk_cell BK220.out 0).trans rfl; have hcz18_1 : w17.cell? ⟨gb220, 1, none⟩ = some (.int .i64 0) := (blk_cell BK220.out 1).trans rfl; have hfz18_0 := blk_frozen BK220.out 0; have hfz18_1 := blk_frozen BK220.out 1))
  refine bodyPost_ret (results_ct rfl _ _ gb220 36 #[.int .i64 0, .int .i64 0] (0, 0) _ rfl (by (with_reducible repeat (first | refine blk_drewN ?_ _ | refine blk_drew ?_ | refine blk_alloc ?_ _)); refine blk_put (cs := #[.int .i64 0, .int .i64 0]) ?_ 1 _ rfl; (with_reducible repeat (first | refine blk_drewN ?_ _ | refine blk_drew ?_ | refine blk_alloc ?_ _)); refine blk_put (cs := #[.int .i64 0, .int .i64 0]) ?_ 0 _ rfl; (with_reducible repeat (first | refine blk_drewN ?_ _ | refine blk_drew ?_ | refine blk_alloc ?_ _)); exact BK220.out) Try.underlying36 rfl (by kernel_rfl)) rfl ?_
  exact ⟨by first | rfl | (simp [errW_none, errW_some] <;> rfl) | (simp [*, errW_none, errW_some] <;> rfl), bl2 HB.out GE219.out GE220.out⟩

/-! ### pochoirlaw22_awake: function 12 -/
def pochoirlaw22_awake.f (k : Nat)  : Option (Bool) := (some (([(⟨0, false, (⟨0, 0⟩ : S36), (⟨0, 0⟩ : S36), (⟨4, 0⟩ : S36)⟩ : S38), (⟨0, false, (⟨4, 0⟩ : S36), (⟨0, 0⟩ : S36), (⟨4, 4⟩ : S36)⟩ : S38), (⟨0, false, (⟨4, 4⟩ : S36), (⟨0, 0⟩ : S36), (⟨0, 4⟩ : S36)⟩ : S38), (⟨0, false, (⟨0, 4⟩ : S36), (⟨0, 0⟩ : S36), (⟨0, 0⟩ : S36)⟩ : S38)] : List (S38)) : List (S38))).bind fun y224 => ((corner_All.f k y224).bind fun bt227 => (if 1 < (y224.length : Int) then ((corner_Last.f k ((rd_T38 y224 1).f0) ((rd_T38 y224 1).f1) ((rd_T38 y224 1).f2.f0) ((rd_T38 y224 1).f2.f1) ((rd_T38 y224 1).f3.f0) ((rd_T38 y224 1).f3.f1) ((rd_T38 y224 1).f4.f0) ((rd_T38 y224 1).f4.f1)).bind fun bt232 => (if 0 < (y224.length : Int) then ((corner_Is.f k ((rd_T38 y224 0).f0) ((rd_T38 y224 0).f1) ((rd_T38 y224 0).f2.f0) ((rd_T38 y224 0).f2.f1) ((rd_T38 y224 0).f3.f0) ((rd_T38 y224 0).f3.f1) ((rd_T38 y224 0).f4.f0) ((rd_T38 y224 0).f4.f1) ((rd_T38 y224 0).f0) ((rd_T38 y224 0).f1) ((rd_T38 y224 0).f2.f0) ((rd_T38 y224 0).f2.f1) ((rd_T38 y224 0).f3.f0) ((rd_T38 y224 0).f3.f1) ((rd_T38 y224 0).f4.f0) ((rd_T38 y224 0).f4.f1)).bind fun bt238 => (if bt227.2 = 0 then (if (bt227.1.length : Int) = 4 then (if (bt232.1 == 0 && (bt232.2.1 == 4)) = true then (if bt232.2.2 = 0 then (if bt238.1 = true then (some false) else (some (bt238.2 == 0))) else (some false)) else (some false)) else (some false)) else (some false))) else (none))) else (none)))
theorem pochoirlaw22_awake.mono : ∀ k, LeO (pochoirlaw22_awake.f k ) (pochoirlaw22_awake.f (k + 1) ) := by
 intro  k
 unfold pochoirlaw22_awake.f
 repeat' first
   | (with_reducible exact corner_All.mono _ _)
   | (with_reducible exact corner_Is.mono _ _ _ _ _ _ _ _ _ _ _ _ _ _ _ _ _)
   | (with_reducible exact corner_Last.mono _ _ _ _ _ _ _ _ _)
   | (with_reducible exact LeO.refl _)
   | (with_reducible exact LeO.none _)
   | (with_reducible refine LeO.ite ?_ ?_)
   | (with_reducible refine LeO.bind ?_ (fun _ => ?_))
   | exact corner_All.mono _ _
   | exact corner_Is.mono _ _ _ _ _ _ _ _ _ _ _ _ _ _ _ _ _
   | exact corner_Last.mono _ _ _ _ _ _ _ _ _
   | exact LeO.none _
   | refine LeO.ite ?_ ?_
   | refine LeO.bind ?_ (fun _ => ?_)
def pochoirlaw22_awake.T4 : Bool × List (List Nat × List Nat) := (true, [([], []), ([0], [0]), ([1], [1]), ([], []), ([3], [3]), ([4], [4]), ([2, 5], [2, 5]), ([6], [6]), ([7], [7]), ([7], [7]), ([8, 6, 0, 1, 2, 3, 4, 5, 6, 7, 8], [8]), ([9, 10, 0, 1, 2, 3, 4, 5, 6, 7, 8, 9, 10], [9])])
def pochoirlaw22_awake.B4 : List Nat := [0, 1, 3, 0, 8, 24, 63, 127, 255, 255, 511, 2047]
theorem pochoirlaw22_awake.tab4 : rtab .any (opsOf Try.f12 4) = pochoirlaw22_awake.T4 := by kernel_rfl
theorem pochoirlaw22_awake.bits4 : waitsOk pochoirlaw22_awake.T4.2 pochoirlaw22_awake.B4 = true := by kernel_rfl
set_option maxHeartbeats 8000000 in
set_option maxRecDepth 100000 in
theorem pochoirlaw22_awake.calls (k : Nat)  (r : Bool) (w : World) (hq_ : r = true) (h : pochoirlaw22_awake.f k  = some r) :
  Calls Try.prog 12 #[] w fun e w' => e = .returned (.bool r) ∧ Below w.heap.size w w' := by
 have hu36 := Try.underlying36
 have hu38 := Try.underlying38
 have HB := Aside0.mk (Below.refl w.heap.size w)
 have HQ := Aside0.mk hq_
 clear hq_
 have H : ((some (([(⟨0, false, (⟨0, 0⟩ : S36), (⟨0, 0⟩ : S36), (⟨4, 0⟩ : S36)⟩ : S38), (⟨0, false, (⟨4, 0⟩ : S36), (⟨0, 0⟩ : S36), (⟨4, 4⟩ : S36)⟩ : S38), (⟨0, false, (⟨4, 4⟩ : S36), (⟨0, 0⟩ : S36), (⟨0, 4⟩ : S36)⟩ : S38), (⟨0, false, (⟨0, 4⟩ : S36), (⟨0, 0⟩ : S36), (⟨0, 0⟩ : S36)⟩ : S38)] : List (S38)) : List (S38))).bind fun y224 => ((corner_All.f k y224).bind fun bt227 => (if 1 < (y224.length : Int) then ((corner_Last.f k ((rd_T38 y224 1).f0) ((rd_T38 y224 1).f1) ((rd_T38 y224 1).f2.f0) ((rd_T38 y224 1).f2.f1) ((rd_T38 y224 1).f3.f0) ((rd_T38 y224 1).f3.f1) ((rd_T38 y224 1).f4.f0) ((rd_T38 y224 1).f4.f1)).bind fun bt232 => (if 0 < (y224.length : Int) then ((corner_Is.f k ((rd_T38 y224 0).f0) ((rd_T38 y224 0).f1) ((rd_T38 y224 0).f2.f0) ((rd_T38 y224 0).f2.f1) ((rd_T38 y224 0).f3.f0) ((rd_T38 y224 0).f3.f1) ((rd_T38 y224 0).f4.f0) ((rd_T38 y224 0).f4.f1) ((rd_T38 y224 0).f0) ((rd_T38 y224 0).f1) ((rd_T38 y224 0).f2.f0) ((rd_T38 y224 0).f2.f1) ((rd_T38 y224 0).f3.f0) ((rd_T38 y224 0).f3.f1) ((rd_T38 y224 0).f4.f0) ((rd_T38 y224 0).f4.f1)).bind fun bt238 => (if bt227.2 = 0 then (if (bt227.1.length : Int) = 4 then (if (bt232.1 == 0 && (bt232.2.1 == 4)) = true then (if bt232.2.2 = 0 then (if bt238.1 = true then (some false) else (some (bt238.2 == 0))) else (some false)) else (some false)) else (some false)) else (some false))) else (none))) else (none)))) = some r := h
 clear h
 obtain ⟨y224, hy224⟩ : ∃ y_ : List (S38), y_ = (([(⟨0, false, (⟨0, 0⟩ : S36), (⟨0, 0⟩ : S36), (⟨4, 0⟩ : S36)⟩ : S38), (⟨0, false, (⟨4, 0⟩ : S36), (⟨0, 0⟩ : S36), (⟨4, 4⟩ : S36)⟩ : S38), (⟨0, false, (⟨4, 4⟩ : S36), (⟨0, 0⟩ : S36), (⟨0, 4⟩ : S36)⟩ : S38), (⟨0, false, (⟨0, 4⟩ : S36), (⟨0, 0⟩ : S36), (⟨0, 0⟩ : S36)⟩ : S38)] : List (S38))) := ⟨_, rfl⟩
 replace H : ((corner_All.f k y224).bind fun bt227 => (if 1 < (y224.length : Int) then ((corner_Last.f k ((rd_T38 y224 1).f0) ((rd_T38 y224 1).f1) ((rd_T38 y224 1).f2.f0) ((rd_T38 y224 1).f2.f1) ((rd_T38 y224 1).f3.f0) ((rd_T38 y224 1).f3.f1) ((rd_T38 y224 1).f4.f0) ((rd_T38 y224 1).f4.f1)).bind fun bt232 => (if 0 < (y224.length : Int) then ((corner_Is.f k ((rd_T38 y224 0).f0) ((rd_T38 y224 0).f1) ((rd_T38 y224 0).f2.f0) ((rd_T38 y224 0).f2.f1) ((rd_T38 y224 0).f3.f0) ((rd_T38 y224 0).f3.f1) ((rd_T38 y224 0).f4.f0) ((rd_T38 y224 0).f4.f1) ((rd_T38 y224 0).f0) ((rd_T38 y224 0).f1) ((rd_T38 y224 0).f2.f0) ((rd_T38 y224 0).f2.f1) ((rd_T38 y224 0).f3.f0) ((rd_T38 y224 0).f3.f1) ((rd_T38 y224 0).f4.f0) ((rd_T38 y224 0).f4.f1)).bind fun bt238 => (if bt227.2 = 0 then (if (bt227.1.length : Int) = 4 then (if (bt232.1 == 0 && (bt232.2.1 == 4)) = true then (if bt232.2.2 = 0 then (if bt238.1 = true then (some false) else (some (bt238.2 == 0))) else (some false)) else (some false)) else (some false)) else (some false))) else (none))) else (none))) = some r := by first | (rw [hy224]; with_reducible exact H) | (have H2_ := (Option.bind_some _ _).symm.trans H; rw [hy224]; with_reducible exact H2_) | (have H2_ := (Option.bind_some _ _).symm.trans H; with_reducible exact H2_) | with_reducible exact H | (rw [hy224]; exact H) | exact H
 have Ny224 := Aside0.mk hy224
 clear hy224
 replace H := Option.bind_eq_some_iff.mp H
 obtain ⟨⟨t227, t228⟩, A10, H⟩ := H
 replace H : (if 1 < (y224.length : Int) then ((corner_Last.f k ((rd_T38 y224 1).f0) ((rd_T38 y224 1).f1) ((rd_T38 y224 1).f2.f0) ((rd_T38 y224 1).f2.f1) ((rd_T38 y224 1).f3.f0) ((rd_T38 y224 1).f3.f1) ((rd_T38 y224 1).f4.f0) ((rd_T38 y224 1).f4.f1)).bind fun bt232 => (if 0 < (y224.length : Int) then ((corner_Is.f k ((rd_T38 y224 0).f0) ((rd_T38 y224 0).f1) ((rd_T38 y224 0).f2.f0) ((rd_T38 y224 0).f2.f1) ((rd_T38 y224 0).f3.f0) ((rd_T38 y224 0).f3.f1) ((rd_T38 y224 0).f4.f0) ((rd_T38 y224 0).f4.f1) ((rd_T38 y224 0).f0) ((rd_T38 y224 0).f1) ((rd_T38 y224 0).f2.f0) ((rd_T38 y224 0).f2.f1) ((rd_T38 y224 0).f3.f0) ((rd_T38 y224 0).f3.f1) ((rd_T38 y224 0).f4.f0) ((rd_T38 y224 0).f4.f1)).bind fun bt238 => (if t228 = 0 then (if (t227.length : Int) = 4 then (if (bt232.1 == 0 && (bt232.2.1 == 4)) = true then (if bt232.2.2 = 0 then (if bt238.1 = true then (some false) else (some (bt238.2 == 0))) else (some false)) else (some false)) else (some false)) else (some false))) else (none))) else (none)) = some r := H
 have A1 := Aside0.mk A10
 clear A10
 by_cases c2 : 1 < (y224.length : Int)
 ·rw [if_pos c2] at H
  have c2b0 : decide (1 < (y224.length : Int)) = true := decide_eq_true c2
  have c2b1 : decide (1 < y224.length) = true := decide_eq_true (by omega)
  clear c2
  replace H := Option.bind_eq_some_iff.mp H
  obtain ⟨⟨t232, t233, t234⟩, A30, H⟩ := H
  replace H : (if 0 < (y224.length : Int) then ((corner_Is.f k ((rd_T38 y224 0).f0) ((rd_T38 y224 0).f1) ((rd_T38 y224 0).f2.f0) ((rd_T38 y224 0).f2.f1) ((rd_T38 y224 0).f3.f0) ((rd_T38 y224 0).f3.f1) ((rd_T38 y224 0).f4.f0) ((rd_T38 y224 0).f4.f1) ((rd_T38 y224 0).f0) ((rd_T38 y224 0).f1) ((rd_T38 y224 0).f2.f0) ((rd_T38 y224 0).f2.f1) ((rd_T38 y224 0).f3.f0) ((rd_T38 y224 0).f3.f1) ((rd_T38 y224 0).f4.f0) ((rd_T38 y224 0).f4.f1)).bind fun bt238 => (if t228 = 0 then (if (t227.length : Int) = 4 then (if (t232 == 0 && (t233 == 4)) = true then (if t234 = 0 then (if bt238.1 = true then (some false) else (some (bt238.2 == 0))) else (some false)) else (some false)) else (some false)) else (some false))) else (none)) = some r := H
  have A3 := Aside0.mk A30
  clear A30
  by_cases c4 : 0 < (y224.length : Int)
  ·rw [if_pos c4] at H
   have c4b0 : decide (0 < (y224.length : Int)) = true := decide_eq_true c4
   have c4b1 : decide (0 < y224.length) = true := decide_eq_true (by omega)
   clear c4
   replace H := Option.bind_eq_some_iff.mp H
   obtain ⟨⟨t238, t239⟩, A50, H⟩ := H
   replace H : (if t228 = 0 then (if (t227.length : Int) = 4 then (if (t232 == 0 && (t233 == 4)) = true then (if t234 = 0 then (if t238 = true then (some false) else (some (t239 == 0))) else (some false)) else (some false)) else (some false)) else (some false)) = some r := H
   have A5 := Aside0.mk A50
   clear A50
   by_cases c6 : t228 = 0
   ·rw [if_pos c6] at H
    have c6b0 : (t228 == 0) = true := beq_iff_eq.mpr c6
    have c6b1 : (t228 != 0) = false := bne_eq_false_iff_eq.mpr c6
    clear c6
    by_cases c7 : (t227.length : Int) = 4
    ·rw [if_pos c7] at H
     have c7b0 : ((t227.length : Int) == 4) = true := beq_iff_eq.mpr c7
     have c7b1 : ((t227.length : Int) != 4) = false := bne_eq_false_iff_eq.mpr c7
     clear c7
     by_cases c8 : (t232 == 0 && (t233 == 4)) = true
     ·rw [if_pos c8] at H
      have c8b0 : (t232 == 0 && (t233 == 4)) = true := c8
      (try (have c8b1 : decide (t232 = 0 && (t233 == 4)) = true := by simpa using c8))
      (try (have c8b2 : (t232 == 0 && (t233 == 4)) = true := by simpa using c8))
      clear c8
      by_cases c9 : t234 = 0
      ·rw [if_pos c9] at H
       have c9b0 : (t234 == 0) = true := beq_iff_eq.mpr c9
       have c9b1 : (t234 != 0) = false := bne_eq_false_iff_eq.mpr c9
       clear c9
       by_cases c10 : t238 = true
       ·subst c10
        have H1 : (some false) = some r := by rw [if_pos rfl] at H; exact H
        clear H
        have H := H1
        clear H1
        exact absurd (HQ.out ▸ H) (by simp)
       ·replace c10 := Bool.eq_false_iff.mpr c10
        subst c10
        have H1 : (some (t239 == 0)) = some r := by rw [if_neg (show ¬ (false = true) by decide)] at H; exact H
        clear H
        have H := H1
        clear H1
        obtain rfl := Option.some.inj H
        go_enter Try.func12, Try.ntmps12
        try go_wp2_with (first | ((with_reducible refine gate_dst (N := 18) rfl ?_); (try (refine gate_guard (by rfl) ?_; dsimp only)); refine Kd.R_lit k38 _ 38 ?hg (N := 18) ?hd (xs := ([(⟨0, false, (⟨0, 0⟩ : S36), (⟨0, 0⟩ : S36), (⟨4, 0⟩ : S36)⟩ : S38), (⟨0, false, (⟨4, 0⟩ : S36), (⟨0, 0⟩ : S36), (⟨4, 4⟩ : S36)⟩ : S38), (⟨0, false, (⟨4, 4⟩ : S36), (⟨0, 0⟩ : S36), (⟨0, 4⟩ : S36)⟩ : S38), (⟨0, false, (⟨0, 4⟩ : S36), (⟨0, 0⟩ : S36), (⟨0, 0⟩ : S36)⟩ : S38)] : List (S38))) (inner := [.int .i64 0, .bool false, .int .i64 0, .int .i64 0, .int .i64 0, .int .i64 0, .int .i64 4, .int .i64 0, .int .i64 0, .bool false, .int .i64 4, .int .i64 0, .int .i64 0, .int .i64 0, .int .i64 4, .int .i64 4, .int .i64 0, .bool false, .int .i64 4, .int .i64 4, .int .i64 0, .int .i64 0, .int .i64 0, .int .i64 4, .int .i64 0, .bool false, .int .i64 0, .int .i64 4, .int .i64 0, .int .i64 0, .int .i64 0, .int .i64 0]) (ok := fun _ => True) (okp := fun _ => True) ?hr ?hp (fun _ hk => hk) trivial (Below.refl _ _) (Nat.le_refl _) (by simp) ?_; (case hd => rfl); (case hg => rfl); (case hr => first | (go_simp; done) | (go_simp; rfl)); (case hp => exact (Reps.c8 (show Kd.M k38 _ _ _ (⟨0, false, (⟨0, 0⟩ : S36), (⟨0, 0⟩ : S36), (⟨4, 0⟩ : S36)⟩ : S38) [.int .i64 0, .bool false, .int .i64 0, .int .i64 0, .int .i64 0, .int .i64 0, .int .i64 4, .int .i64 0] from (k38_mkM _ _ _ (⟨0, false, (⟨0, 0⟩ : S36), (⟨0, 0⟩ : S36), (⟨4, 0⟩ : S36)⟩ : S38) )) (Reps.c8 (show Kd.M k38 _ _ _ (⟨0, false, (⟨4, 0⟩ : S36), (⟨0, 0⟩ : S36), (⟨4, 4⟩ : S36)⟩ : S38) [.int .i64 0, .bool false, .int .i64 4, .int .i64 0, .int .i64 0, .int .i64 0, .int .i64 4, .int .i64 4] from (k38_mkM _ _ _ (⟨0, false, (⟨4, 0⟩ : S36), (⟨0, 0⟩ : S36), (⟨4, 4⟩ : S36)⟩ : S38) )) (Reps.c8 (show Kd.M k38 _ _ _ (⟨0, false, (⟨4, 4⟩ : S36), (⟨0, 0⟩ : S36), (⟨0, 4⟩ : S36)⟩ : S38) [.int .i64 0, .bool false, .int .i64 4, .int .i64 4, .int .i64 0, .int .i64 0, .int .i64 0, .int .i64 4] from (k38_mkM _ _ _ (⟨0, false, (⟨4, 4⟩ : S36), (⟨0, 0⟩ : S36), (⟨0, 4⟩ : S36)⟩ : S38) )) (Reps.c8 (show Kd.M k38 _ _ _ (⟨0, false, (⟨0, 4⟩ : S36), (⟨0, 0⟩ : S36), (⟨0, 0⟩ : S36)⟩ : S38) [.int .i64 0, .bool false, .int .i64 0, .int .i64 4, .int .i64 0, .int .i64 0, .int .i64 0, .int .i64 0] from (k38_mkM _ _ _ (⟨0, false, (⟨0, 4⟩ : S36), (⟨0, 0⟩ : S36), (⟨0, 0⟩ : S36)⟩ : S38) )) (Reps.none _ _)))))); intro v225 w11 ho12 hb hg_ hnew_; clear hg_ hnew_; (first | rw [← Ny224.out] at ho12 | (simp only [Int.reduceToNat] at ho12; rw [← Ny224.out] at ho12)); have HO226 := Aside0.mk (Kd.R_lower ho12 (below_size (bl0 HB.out))); replace HB := Aside0.mk (below_step (bl0 HB.out) hb); clear hb ho12; obtain ⟨Ao13, co13, eo13⟩ := Kd.R_slice HO226.out; subst eo13) | ((with_reducible refine gate_callee (f := 13) rfl ?_); refine goesL_ (some 21) rfl rfl Try.func13 (by kernel_rfl) rfl #[.slice Ao13 y224.length co13] rfl am ?_; (with_reducible refine (corner_All.calls k _ _ y224 t227 t228 _ ?side1 ?side2 A1.out).mono ?_); (case side1 => repeat (first | exact (Kd.R_reads' HO226.out).2.2 | (with_reducible refine Kd.C_alloc ?_ _) | (with_reducible refine Kd.C_drewN ?_ _) | (with_reducible refine Kd.C_drew ?_))); (case side2 => exact (Kd.R_reads' HO226.out).2.1); rintro e w14 ⟨v229, rfl, ho0, hb⟩; refine ⟨_, rfl, ?_⟩; have HO230 := Aside0.mk (Kd.R_lower ho0 (below_size (bl0 HB.out))); replace HO226 := Aside0.mk (Kd.R_below (by (with_reducible repeat (first | apply Kd.R_alloc | apply Kd.R_drewN | apply Kd.R_drew)); exact HO226.out) hb); replace HB := Aside0.mk (below_step (bl0 HB.out) hb); (try clear hb); (try clear hb2); (try clear hk); (try clear hi); (try clear ho0); have p231 : 0 ≤ (1 : Int) := (by omega); have q231 : 1 < (y224.length : Int) := of_decide_eq_true (by first | (with_reducible assumption) | assumption); obtain ⟨ad231, e231, hx231_0, hx231_1, hx231_2, hx231_3, hx231_4, hx231_5, hx231_6, hx231_7⟩ := at_T38 (Kd.R_reads' HO226.out).2.2 1 p231 q231; cases e231; (try simp only [show (1 : Int).toNat = 1 from rfl, Nat.reduceMul, Nat.reduceEqDiff, Go.Addr.add, ↓reduceIte] at hx231_0); (try simp only [show (1 : Int).toNat = 1 from rfl, Nat.reduceMul, Nat.reduceEqDiff, Go.Addr.add, ↓reduceIte] at hx231_1); (try simp only [show (1 : Int).toNat = 1 from rfl, Nat.reduceMul, Nat.reduceEqDiff, Go.Addr.add, ↓reduceIte] at hx231_2); (try simp only [show (1 : Int).toNat = 1 from rfl, Nat.reduceMul, Nat.reduceEqDiff, Go.Addr.add, ↓reduceIte] at hx231_3); (try simp only [show (1 : Int).toNat = 1 from rfl, Nat.reduceMul, Nat.reduceEqDiff, Go.Addr.add, ↓reduceIte] at hx231_4); (try simp only [show (1 : Int).toNat = 1 from rfl, Nat.reduceMul, Nat.reduceEqDiff, Go.Addr.add, ↓reduceIte] at hx231_5); (try simp only [show (1 : Int).toNat = 1 from rfl, Nat.reduceMul, Nat.reduceEqDiff, Go.Addr.add, ↓reduceIte] at hx231_6); (try simp only [show (1 : Int).toNat = 1 from rfl, Nat.reduceMul, Nat.reduceEqDiff, Go.Addr.add, ↓reduceIte] at hx231_7); have qi231 : (1 < y224.length) = True := eq_true (by omega); (try rw [show ((1 : Int)).toNat = 1 from rfl] at hx231_0); (try rw [show 1 * 8 = 8 from rfl] at hx231_0); (try rw [show ((1 : Int)).toNat = 1 from rfl] at hx231_1); (try rw [show 1 * 8 = 8 from rfl] at hx231_1); (try rw [show ((1 : Int)).toNat = 1 from rfl] at hx231_2); (try rw [show 1 * 8 = 8 from rfl] at hx231_2); (try rw [show ((1 : Int)).toNat = 1 from rfl] at hx231_3); (try rw [show 1 * 8 = 8 from rfl] at hx231_3); (try rw [show ((1 : Int)).toNat = 1 from rfl] at hx231_4); (try rw [show 1 * 8 = 8 from rfl] at hx231_4); (try rw [show ((1 : Int)).toNat = 1 from rfl] at hx231_5); (try rw [show 1 * 8 = 8 from rfl] at hx231_5); (try rw [show ((1 : Int)).toNat = 1 from rfl] at hx231_6); (try rw [show 1 * 8 = 8 from rfl] at hx231_6); (try rw [show ((1 : Int)).toNat = 1 from rfl] at hx231_7); (try rw [show 1 * 8 = 8 from rfl] at hx231_7); replace p231 := eq_true p231; replace q231 := eq_true q231) | ((with_reducible refine gate_callee (f := 27) rfl ?_); refine goesL_ (some 28) rfl rfl Try.func27 (by kernel_rfl) rfl #[.agg #[.int .i64 ((rd_T38 y224 1).f0), .bool ((rd_T38 y224 1).f1), .int .i64 ((rd_T38 y224 1).f2.f0), .int .i64 ((rd_T38 y224 1).f2.f1), .int .i64 ((rd_T38 y224 1).f3.f0), .int .i64 ((rd_T38 y224 1).f3.f1), .int .i64 ((rd_T38 y224 1).f4.f0), .int .i64 ((rd_T38 y224 1).f4.f1)]] rfl am ?_; (with_reducible refine (corner_Last.calls k ((rd_T38 y224 1).f0) ((rd_T38 y224 1).f1) ((rd_T38 y224 1).f2.f0) ((rd_T38 y224 1).f2.f1) ((rd_T38 y224 1).f3.f0) ((rd_T38 y224 1).f3.f1) ((rd_T38 y224 1).f4.f0) ((rd_T38 y224 1).f4.f1) t232 t233 t234 _ A3.out).mono ?_); rintro e w15 ⟨rfl, hb⟩; refine ⟨_, rfl, ?_⟩; replace HO226 := Aside0.mk (Kd.R_below (by (with_reducible repeat (first | apply Kd.R_alloc | apply Kd.R_drewN | apply Kd.R_drew)); exact HO226.out) hb); replace HO230 := Aside0.mk (Kd.R_below (by (with_reducible repeat (first | apply Kd.R_alloc | apply Kd.R_drewN | apply Kd.R_drew)); exact HO230.out) hb); replace HB := Aside0.mk (below_step (bl0 HB.out) hb); (try clear hb); (try clear hb2); (try clear hk); (try clear hi)) | ((with_reducible refine gate_dst (N := 4) rfl ?_); (try (refine gate_guard (by rfl) ?_; dsimp only)); refine be 4 (#[.int .i64 0, .int .i64 0]) 36 ?_; intro gb235 hg w16 hbox hb; have BK235 := Aside0.mk (hbox); have GW235 := Aside0.mk ((by rw [hg]; exact (below_size (bl0 HB.out)) : w.heap.size ≤ gb235)); have GE235 := GW235; replace HO226 := Aside0.mk (Kd.R_below (by (with_reducible repeat (first | apply Kd.R_alloc | apply Kd.R_drewN | apply Kd.R_drew)); exact HO226.out) hb); replace HO230 := Aside0.mk (Kd.R_below (by (with_reducible repeat (first | apply Kd.R_alloc | apply Kd.R_drewN | apply Kd.R_drew)); exact HO230.out) hb); replace HB := Aside0.mk (below_step (bl0 HB.out) hb); clear hb hbox hg; have hcz17_0 : w16.cell? ⟨gb235, 0, none⟩ = some (.int .i64 0) := (blk_cell BK235.out 0).trans rfl; have hcz17_1 : w16.cell? ⟨gb235, 1, none⟩ = some (.int .i64 0) := (blk_cell BK235.out 1).trans rfl; have hfz17_0 := blk_frozen BK235.out 0; have hfz17_1 := blk_frozen BK235.out 1))
        have n0_ : Aside0 (Kd.R k38 38 ((w16.setCell ⟨gb235, 0, none⟩ (.int .i64 t232)).setCell ⟨gb235, 1, none⟩ (.int .i64 t233)) w.heap.size (fun _ => True) (.slice (some ad231) y224.length co13) y224) := ⟨by (with_reducible repeat (first | apply Kd.R_alloc | apply Kd.R_drewN | apply Kd.R_drew)); exact Kd.R_mono (Kd.R_far (p := ⟨gb235, 1, none⟩) (Kd.R_far (p := ⟨gb235, 0, none⟩) (Kd.R_types HO226.out BK235.out (by decide)) (fun _ hk => hk.2) (.int .i64 t232)) (fun _ hk => hk.2) (.int .i64 t233)) (fun _ hk => trivial)⟩
        have n1_ : Aside0 (Kd.R (Kd.int .i64) 3 ((w16.setCell ⟨gb235, 0, none⟩ (.int .i64 t232)).setCell ⟨gb235, 1, none⟩ (.int .i64 t233)) w.heap.size (fun _ => True) v229 t227) := ⟨by (with_reducible repeat (first | apply Kd.R_alloc | apply Kd.R_drewN | apply Kd.R_drew)); exact Kd.R_mono (Kd.R_far (p := ⟨gb235, 1, none⟩) (Kd.R_far (p := ⟨gb235, 0, none⟩) (Kd.R_types HO230.out BK235.out (by decide)) (fun _ hk => hk.2) (.int .i64 t232)) (fun _ hk => hk.2) (.int .i64 t233)) (fun _ hk => trivial)⟩
        have n2_ : Aside0 (((w16.setCell ⟨gb235, 0, none⟩ (.int .i64 t232)).setCell ⟨gb235, 1, none⟩ (.int .i64 t233)).heap[gb235]? = some (.cells #[.int .i64 t232, .int .i64 t233] 36 (0, 0))) := ⟨by (with_reducible repeat (first | refine blk_drewN ?_ _ | refine blk_drew ?_ | refine blk_alloc ?_ _)); refine blk_put (cs := #[.int .i64 t232, .int .i64 0]) ?_ 1 _ rfl; (with_reducible repeat (first | refine blk_drewN ?_ _ | refine blk_drew ?_ | refine blk_alloc ?_ _)); refine blk_put (cs := #[.int .i64 0, .int .i64 0]) ?_ 0 _ rfl; (with_reducible repeat (first | refine blk_drewN ?_ _ | refine blk_drew ?_ | refine blk_alloc ?_ _)); exact BK235.out⟩
        have n3_ : Aside0 (Below w.heap.size w ((w16.setCell ⟨gb235, 0, none⟩ (.int .i64 t232)).setCell ⟨gb235, 1, none⟩ (.int .i64 t233))) := ⟨bl1 HB.out GE235.out⟩
        (try clear HO226)
        (try clear HO230)
        (try clear BK235)
        (try clear HB)
        generalize ((w16.setCell ⟨gb235, 0, none⟩ (.int .i64 t232)).setCell ⟨gb235, 1, none⟩ (.int .i64 t233)) = w18 at n0_ n1_ n2_ n3_ ⊢
        have HO226 := n0_
        have HO230 := n1_
        have BK235 := n2_
        have HB := n3_
        clear n0_ n1_ n2_ n3_
        replace HO226 := Aside0.mk (Kd.R_drew HO226.out)
        replace HO230 := Aside0.mk (Kd.R_drew HO230.out)
        replace BK235 := Aside0.mk (blk_drew BK235.out)
        replace HB := Aside0.mk (below_drew1 HB.out)
        have p236 : 0 ≤ (0 : Int) := (by omega)
        have q236 : 0 < (y224.length : Int) := of_decide_eq_true (by first | (with_reducible assumption) | assumption)
        obtain ⟨ad236, e236, hx236_0, hx236_1, hx236_2, hx236_3, hx236_4, hx236_5, hx236_6, hx236_7⟩ := at_T38 (Kd.R_reads' HO226.out).2.2 0 p236 q236
        obtain rfl : ad231 = ad236 := (by injection e236)
        have qi236 : (0 < y224.length) = True := eq_true (by omega)
        (try rw [show ((0 : Int)).toNat = 0 from rfl] at hx236_0)
        (try rw [show 0 * 8 = 0 from rfl] at hx236_0)
        (try rw [Addr.add_zero'] at hx236_0)
        (try rw [show ((0 : Int)).toNat = 0 from rfl] at hx236_1)
        (try rw [show 0 * 8 = 0 from rfl] at hx236_1)
        (try rw [Addr.add_zero'] at hx236_1)
        (try rw [show ((0 : Int)).toNat = 0 from rfl] at hx236_2)
        (try rw [show 0 * 8 = 0 from rfl] at hx236_2)
        (try rw [Addr.add_zero'] at hx236_2)
        (try rw [show ((0 : Int)).toNat = 0 from rfl] at hx236_3)
        (try rw [show 0 * 8 = 0 from rfl] at hx236_3)
        (try rw [Addr.add_zero'] at hx236_3)
        (try rw [show ((0 : Int)).toNat = 0 from rfl] at hx236_4)
        (try rw [show 0 * 8 = 0 from rfl] at hx236_4)
        (try rw [Addr.add_zero'] at hx236_4)
        (try rw [show ((0 : Int)).toNat = 0 from rfl] at hx236_5)
        (try rw [show 0 * 8 = 0 from rfl] at hx236_5)
        (try rw [Addr.add_zero'] at hx236_5)
        (try rw [show ((0 : Int)).toNat = 0 from rfl] at hx236_6)
        (try rw [show 0 * 8 = 0 from rfl] at hx236_6)
        (try rw [Addr.add_zero'] at hx236_6)
        (try rw [show ((0 : Int)).toNat = 0 from rfl] at hx236_7)
        (try rw [show 0 * 8 = 0 from rfl] at hx236_7)
        (try rw [Addr.add_zero'] at hx236_7)
        replace p236 := eq_true p236
        replace q236 := eq_true q236
        have p237 : 0 ≤ (0 : Int) := (by omega)
        have q237 : 0 < (y224.length : Int) := of_decide_eq_true (by first | (with_reducible assumption) | assumption)
        obtain ⟨ad237, e237, hx237_0, hx237_1, hx237_2, hx237_3, hx237_4, hx237_5, hx237_6, hx237_7⟩ := at_T38 (Kd.R_reads' HO226.out).2.2 0 p237 q237
        obtain rfl : ad231 = ad237 := (by injection e237)
        have qi237 : (0 < y224.length) = True := eq_true (by omega)
        (try rw [show ((0 : Int)).toNat = 0 from rfl] at hx237_0)
        (try rw [show 0 * 8 = 0 from rfl] at hx237_0)
        (try rw [Addr.add_zero'] at hx237_0)
        (try rw [show ((0 : Int)).toNat = 0 from rfl] at hx237_1)
        (try rw [show 0 * 8 = 0 from rfl] at hx237_1)
        (try rw [Addr.add_zero'] at hx237_1)
        (try rw [show ((0 : Int)).toNat = 0 from rfl] at hx237_2)
        (try rw [show 0 * 8 = 0 from rfl] at hx237_2)
        (try rw [Addr.add_zero'] at hx237_2)
        (try rw [show ((0 : Int)).toNat = 0 from rfl] at hx237_3)
        (try rw [show 0 * 8 = 0 from rfl] at hx237_3)
        (try rw [Addr.add_zero'] at hx237_3)
        (try rw [show ((0 : Int)).toNat = 0 from rfl] at hx237_4)
        (try rw [show 0 * 8 = 0 from rfl] at hx237_4)
        (try rw [Addr.add_zero'] at hx237_4)
        (try rw [show ((0 : Int)).toNat = 0 from rfl] at hx237_5)
        (try rw [show 0 * 8 = 0 from rfl] at hx237_5)
        (try rw [Addr.add_zero'] at hx237_5)
        (try rw [show ((0 : Int)).toNat = 0 from rfl] at hx237_6)
        (try rw [show 0 * 8 = 0 from rfl] at hx237_6)
        (try rw [Addr.add_zero'] at hx237_6)
        (try rw [show ((0 : Int)).toNat = 0 from rfl] at hx237_7)
        (try rw [show 0 * 8 = 0 from rfl] at hx237_7)
        (try rw [Addr.add_zero'] at hx237_7)
        replace p237 := eq_true p237
        replace q237 := eq_true q237
        refine start_ (n := 12) (S := fun w' => w'.cell? ad231 = some (.int .i64 ((rd_T38 y224 0).f0)) ∧ w'.cell? ⟨ad231.block, ad231.off + 1, none⟩ = some (.bool ((rd_T38 y224 0).f1)) ∧ w'.cell? ⟨ad231.block, ad231.off + 2, none⟩ = some (.int .i64 ((rd_T38 y224 0).f2.f0)) ∧ w'.cell? ⟨ad231.block, ad231.off + 3, none⟩ = some (.int .i64 ((rd_T38 y224 0).f2.f1)) ∧ w'.cell? ⟨ad231.block, ad231.off + 4, none⟩ = some (.int .i64 ((rd_T38 y224 0).f3.f0)) ∧ w'.cell? ⟨ad231.block, ad231.off + 5, none⟩ = some (.int .i64 ((rd_T38 y224 0).f3.f1)) ∧ w'.cell? ⟨ad231.block, ad231.off + 6, none⟩ = some (.int .i64 ((rd_T38 y224 0).f4.f0)) ∧ w'.cell? ⟨ad231.block, ad231.off + 7, none⟩ = some (.int .i64 ((rd_T38 y224 0).f4.f1)) ∧ w'.cell? ad231 = some (.int .i64 ((rd_T38 y224 0).f0)) ∧ w'.cell? ⟨ad231.block, ad231.off + 1, none⟩ = some (.bool ((rd_T38 y224 0).f1)) ∧ w'.cell? ⟨ad231.block, ad231.off + 2, none⟩ = some (.int .i64 ((rd_T38 y224 0).f2.f0)) ∧ w'.cell? ⟨ad231.block, ad231.off + 3, none⟩ = some (.int .i64 ((rd_T38 y224 0).f2.f1)) ∧ w'.cell? ⟨ad231.block, ad231.off + 4, none⟩ = some (.int .i64 ((rd_T38 y224 0).f3.f0)) ∧ w'.cell? ⟨ad231.block, ad231.off + 5, none⟩ = some (.int .i64 ((rd_T38 y224 0).f3.f1)) ∧ w'.cell? ⟨ad231.block, ad231.off + 6, none⟩ = some (.int .i64 ((rd_T38 y224 0).f4.f0)) ∧ w'.cell? ⟨ad231.block, ad231.off + 7, none⟩ = some (.int .i64 ((rd_T38 y224 0).f4.f1))) (ds := []) (ba 12 0) (by kernel_rfl) rfl rfl ⟨hx236_0, hx236_1, hx236_2, hx236_3, hx236_4, hx236_5, hx236_6, hx236_7, hx237_0, hx237_1, hx237_2, hx237_3, hx237_4, hx237_5, hx237_6, hx237_7⟩ (fun hHeld => ?_); refine with_tabW pochoirlaw22_awake.tab4 pochoirlaw22_awake.bits4 (fun HT_ HW_ => ?_)
        generalize w18.drew = w19 at HO226 HO230 BK235 HB hx236_0 hx236_1 hx236_2 hx236_3 hx236_4 hx236_5 hx236_6 hx236_7 hx237_0 hx237_1 hx237_2 hx237_3 hx237_4 hx237_5 hx237_6 hx237_7 hHeld ⊢
        refine pI 0 32 (ba 12 1) HT_.out ?_
        refine pI 1 33 (ba 12 3) HT_.out ?_
        refine pI 3 35 (ba 12 11) HT_.out ?_
        refine pI 4 36 (ba 12 27) HT_.out ?_
        refine take_ (i := 2) (N := some 34) (v := ?_) (a' := ?_) (ba 12 31) rfl rfl (take_ofW HT_.out HW_.out (by kernel_rfl)) (fun _ _ _ h => h) (Or.inl ⟨by rfl, ?_⟩) hHeld ?_ ?_
        rotate_left
        ·rintro w' ⟨s0, s1, s2, s3, s4, s5, s6, s7, s8, s9, s10, s11, s12, s13, s14, s15⟩
         go_simp
         with_reducible rfl
        rotate_left
        ·simp only [Act.put, List.setIfInBounds_toArray, List.set_cons_zero, List.set_cons_succ, i64_w, i32_w]
         rfl
        refine take_ (i := 5) (N := some 37) (v := ?_) (a' := ?_) (ba 12 63) rfl rfl (take_ofW HT_.out HW_.out (by kernel_rfl)) (fun _ _ _ h => h) (Or.inl ⟨by rfl, ?_⟩) hHeld ?_ ?_
        rotate_left
        ·rintro w' ⟨s0, s1, s2, s3, s4, s5, s6, s7, s8, s9, s10, s11, s12, s13, s14, s15⟩
         go_simp
         with_reducible rfl
        rotate_left
        ·simp only [Act.put, List.setIfInBounds_toArray, List.set_cons_zero, List.set_cons_succ, i64_w, i32_w]
         rfl
        refine one_ (i := 6) (N := some 38) (ba 12 127) rfl rfl (one_of HT_.out (by kernel_rfl)) (by decide) (fun K hK => ?_)
        refine goes_ Try.func18 (by kernel_rfl) rfl #[.agg #[.int .i64 ((rd_T38 y224 0).f0), .bool ((rd_T38 y224 0).f1), .int .i64 ((rd_T38 y224 0).f2.f0), .int .i64 ((rd_T38 y224 0).f2.f1), .int .i64 ((rd_T38 y224 0).f3.f0), .int .i64 ((rd_T38 y224 0).f3.f1), .int .i64 ((rd_T38 y224 0).f4.f0), .int .i64 ((rd_T38 y224 0).f4.f1)], .agg #[.int .i64 ((rd_T38 y224 0).f0), .bool ((rd_T38 y224 0).f1), .int .i64 ((rd_T38 y224 0).f2.f0), .int .i64 ((rd_T38 y224 0).f2.f1), .int .i64 ((rd_T38 y224 0).f3.f0), .int .i64 ((rd_T38 y224 0).f3.f1), .int .i64 ((rd_T38 y224 0).f4.f0), .int .i64 ((rd_T38 y224 0).f4.f1)]] (by rfl) rfl rfl am ?_
        with_reducible refine (corner_Is.calls k ((rd_T38 y224 0).f0) ((rd_T38 y224 0).f1) ((rd_T38 y224 0).f2.f0) ((rd_T38 y224 0).f2.f1) ((rd_T38 y224 0).f3.f0) ((rd_T38 y224 0).f3.f1) ((rd_T38 y224 0).f4.f0) ((rd_T38 y224 0).f4.f1) ((rd_T38 y224 0).f0) ((rd_T38 y224 0).f1) ((rd_T38 y224 0).f2.f0) ((rd_T38 y224 0).f2.f1) ((rd_T38 y224 0).f3.f0) ((rd_T38 y224 0).f3.f1) ((rd_T38 y224 0).f4.f0) ((rd_T38 y224 0).f4.f1) false t239 _ A5.out).mono ?_
        rintro e w20 ⟨rfl, hb⟩
        have HS0_ := (hb.cell (World.block_lt_of_cell? _ _ (hHeld.1))).trans (hHeld.1)
        have HS1_ := (hb.cell (World.block_lt_of_cell? _ _ (hHeld.2.1))).trans (hHeld.2.1)
        have HS2_ := (hb.cell (World.block_lt_of_cell? _ _ (hHeld.2.2.1))).trans (hHeld.2.2.1)
        have HS3_ := (hb.cell (World.block_lt_of_cell? _ _ (hHeld.2.2.2.1))).trans (hHeld.2.2.2.1)
        have HS4_ := (hb.cell (World.block_lt_of_cell? _ _ (hHeld.2.2.2.2.1))).trans (hHeld.2.2.2.2.1)
        have HS5_ := (hb.cell (World.block_lt_of_cell? _ _ (hHeld.2.2.2.2.2.1))).trans (hHeld.2.2.2.2.2.1)
        have HS6_ := (hb.cell (World.block_lt_of_cell? _ _ (hHeld.2.2.2.2.2.2.1))).trans (hHeld.2.2.2.2.2.2.1)
        have HS7_ := (hb.cell (World.block_lt_of_cell? _ _ (hHeld.2.2.2.2.2.2.2.1))).trans (hHeld.2.2.2.2.2.2.2.1)
        have HS8_ := (hb.cell (World.block_lt_of_cell? _ _ (hHeld.2.2.2.2.2.2.2.2.1))).trans (hHeld.2.2.2.2.2.2.2.2.1)
        have HS9_ := (hb.cell (World.block_lt_of_cell? _ _ (hHeld.2.2.2.2.2.2.2.2.2.1))).trans (hHeld.2.2.2.2.2.2.2.2.2.1)
        have HS10_ := (hb.cell (World.block_lt_of_cell? _ _ (hHeld.2.2.2.2.2.2.2.2.2.2.1))).trans (hHeld.2.2.2.2.2.2.2.2.2.2.1)
        have HS11_ := (hb.cell (World.block_lt_of_cell? _ _ (hHeld.2.2.2.2.2.2.2.2.2.2.2.1))).trans (hHeld.2.2.2.2.2.2.2.2.2.2.2.1)
        have HS12_ := (hb.cell (World.block_lt_of_cell? _ _ (hHeld.2.2.2.2.2.2.2.2.2.2.2.2.1))).trans (hHeld.2.2.2.2.2.2.2.2.2.2.2.2.1)
        have HS13_ := (hb.cell (World.block_lt_of_cell? _ _ (hHeld.2.2.2.2.2.2.2.2.2.2.2.2.2.1))).trans (hHeld.2.2.2.2.2.2.2.2.2.2.2.2.2.1)
        have HS14_ := (hb.cell (World.block_lt_of_cell? _ _ (hHeld.2.2.2.2.2.2.2.2.2.2.2.2.2.2.1))).trans (hHeld.2.2.2.2.2.2.2.2.2.2.2.2.2.2.1)
        have HS15_ := (hb.cell (World.block_lt_of_cell? _ _ (hHeld.2.2.2.2.2.2.2.2.2.2.2.2.2.2.2))).trans (hHeld.2.2.2.2.2.2.2.2.2.2.2.2.2.2.2)
        refine ⟨_, rfl, ?_⟩
        replace HO226 := Aside0.mk (Kd.R_below (by (with_reducible repeat (first | apply Kd.R_alloc | apply Kd.R_drewN | apply Kd.R_drew)); exact HO226.out) hb)
        replace HO230 := Aside0.mk (Kd.R_below (by (with_reducible repeat (first | apply Kd.R_alloc | apply Kd.R_drewN | apply Kd.R_drew)); exact HO230.out) hb)
        replace BK235 := Aside0.mk (bb BK235.out hb)
        replace HB := Aside0.mk (below_step (bl1 HB.out GE235.out) hb)
        (try clear hb)
        (try clear hb2)
        (try clear hk)
        (try clear hi)
        refine hK.out _ _ ⟨HS0_, HS1_, HS2_, HS3_, HS4_, HS5_, HS6_, HS7_, HS8_, HS9_, HS10_, HS11_, HS12_, HS13_, HS14_, HS15_⟩ (fun hHeld => ?_)
        clear hK K
        refine norm_ (a' := ?_) ?_ ?_
        rotate_left
        ·show Act.put _ (some 38) _ = _
         simp only [Act.put, List.setIfInBounds_toArray, List.set_cons_zero, List.set_cons_succ, i64_w, i32_w]
         rfl
        refine pI 7 31 (ba 12 255) HT_.out ?_
        refine pI 8 39 (ba 12 511) HT_.out ?_
        refine pI 9 40 (ba 12 1023) HT_.out ?_
        refine pI 10 6 (ba 12 2047) HT_.out ?_
        refine pI 11 7 (ba 12 4095) HT_.out ?_
        refine done_ (done_of HT_.out (by kernel_rfl)) ?_
        obtain ⟨Ao21, co21, eo21⟩ := Kd.R_slice HO230.out
        subst eo21
        have hcz22_0 : w20.cell? ⟨gb235, 0, none⟩ = some (.int .i64 t232) := (blk_cell BK235.out 0).trans rfl
        have hcz22_1 : w20.cell? ⟨gb235, 1, none⟩ = some (.int .i64 t233) := (blk_cell BK235.out 1).trans rfl
        have hfz22_0 := blk_frozen BK235.out 0
        have hfz22_1 := blk_frozen BK235.out 1
        try go_wp2
        go_ret
        exact ⟨by first | rfl | (simp [errW_none, errW_some] <;> rfl) | (simp [*, errW_none, errW_some] <;> rfl), bl1 HB.out GE235.out⟩
      ·rw [if_neg c9] at H
       have c9b0 : (t234 == 0) = false := beq_eq_false_iff_ne.mpr c9
       have c9b1 : (t234 != 0) = true := bne_iff_ne.mpr c9
       exact absurd (HQ.out ▸ H) (by simp)
     ·rw [if_neg c8] at H
      have c8b0 : (t232 == 0 && (t233 == 4)) = false := by simpa using c8
      (try (have c8b1 : decide (t232 = 0 && (t233 == 4)) = false := by simpa using c8))
      (try (have c8b2 : (t232 == 0 && (t233 == 4)) = false := by simpa using c8))
      (try (have c8b3 : ¬ (t232 = 0 && (t233 == 4)) := by simpa using c8))
      clear c8
      exact absurd (HQ.out ▸ H) (by simp)
    ·rw [if_neg c7] at H
     have c7b0 : ((t227.length : Int) == 4) = false := beq_eq_false_iff_ne.mpr c7
     have c7b1 : ((t227.length : Int) != 4) = true := bne_iff_ne.mpr c7
     exact absurd (HQ.out ▸ H) (by simp)
   ·rw [if_neg c6] at H
    have c6b0 : (t228 == 0) = false := beq_eq_false_iff_ne.mpr c6
    have c6b1 : (t228 != 0) = true := bne_iff_ne.mpr c6
    exact absurd (HQ.out ▸ H) (by simp)
  ·rw [if_neg c4] at H
   exact absurd H (by simp)
 ·rw [if_neg c2] at H
  exact absurd H (by simp)

/-! ### pochoirref22_way: function 68 -/
def pochoirref22_way.f (a0_0 : Int) (a0_1 : Int) (a1_0 : Int) (a1_1 : Int) : Option (Int × Int) := some (wrap64 (a1_0 - a0_0), wrap64 (a1_1 - a0_1))
set_option maxHeartbeats 8000000 in
set_option maxRecDepth 100000 in
theorem pochoirref22_way.calls (a0_0 : Int) (a0_1 : Int) (a1_0 : Int) (a1_1 : Int) (r1 : Int) (r2 : Int) (w : World) (h : pochoirref22_way.f a0_0 a0_1 a1_0 a1_1 = some (r1, r2)) :
  Calls Try.prog 68 #[.agg #[.int .i64 a0_0, .int .i64 a0_1], .agg #[.int .i64 a1_0, .int .i64 a1_1]] w fun e w' => e = .returned (.agg #[.int .i64 r1, .int .i64 r2]) ∧ Below w.heap.size w w' := by
 have hu36 := Try.underlying36
 have HB := Aside0.mk (Below.refl w.heap.size w)
 have H : (some (wrap64 (a1_0 - a0_0), wrap64 (a1_1 - a0_1))) = some (r1, r2) := h
 clear h
 simp only [Option.some.injEq, Prod.mk.injEq] at H
 obtain ⟨rfl, rfl⟩ := H
 go_enter Try.func68, Try.ntmps68
 go_wp2_with (first | ((with_reducible refine gate_dst (N := 2) rfl ?_); refine be 2 (#[.int .i64 a0_0, .int .i64 a0_1]) 36 ?_; intro gb240 hg w3 hbox hb; have BK240 := Aside0.mk (hbox); have GW240 := Aside0.mk ((by rw [hg]; exact (below_size (bl0 HB.out)) : w.heap.size ≤ gb240)); have GE240 := GW240; replace HB := Aside0.mk (below_step (bl0 HB.out) hb); clear hb hbox hg) | ((with_reducible refine gate_dst (N := 3) rfl ?_); refine be 3 (#[.int .i64 a1_0, .int .i64 a1_1]) 36 ?_; intro gb241 hg w4 hbox hb; have BK241 := Aside0.mk (hbox); have GW241 := Aside0.mk ((by rw [hg]; exact (below_size (bl1 HB.out GE240.out)) : w.heap.size ≤ gb241)); have GE241 := GW241; have NB240_241 := Aside0.mk ((by rw [hg]; exact Nat.ne_of_lt (lt_ BK240.out) : gb240 ≠ gb241)); have NB241_240 := Aside0.mk ((by rw [hg]; exact Nat.ne_of_gt (lt_ BK240.out) : gb241 ≠ gb240)); replace BK240 := Aside0.mk (bb BK240.out hb); replace HB := Aside0.mk (below_step (bl1 HB.out GE240.out) hb); clear hb hbox hg) | ((with_reducible refine gate_dst (N := 4) rfl ?_); refine be 4 (#[.int .i64 0, .int .i64 0]) 36 ?_; intro gb242 hg w5 hbox hb; have BK242 := Aside0.mk (hbox); have GW242 := Aside0.mk ((by rw [hg]; exact (below_size (bl2 HB.out GE240.out GE241.out)) : w.heap.size ≤ gb242)); have GE242 := GW242; have NB240_242 := Aside0.mk ((by rw [hg]; exact Nat.ne_of_lt (lt_ BK240.out) : gb240 ≠ gb242)); have NB242_240 := Aside0.mk ((by rw [hg]; exact Nat.ne_of_gt (lt_ BK240.out) : gb242 ≠ gb240)); have NB241_242 := Aside0.mk ((by rw [hg]; exact Nat.ne_of_lt (lt_ BK241.out) : gb241 ≠ gb242)); have NB242_241 := Aside0.mk ((by rw [hg]; exact Nat.ne_of_gt (lt_ BK241.out) : gb242 ≠ gb241)); replace BK240 := Aside0.mk (bb BK240.out hb); replace BK241 := Aside0.mk (bb BK241.out hb); replace HB := Aside0.mk (below_step (bl2 HB.out GE240.out GE241.out) hb); clear hb hbox hg; have hnb6 := NB241_240.out; have hnc6 := NB240_241.out; have hnb7 := NB241_242.out; have hnc7 := NB242_241.out; have hcz8_0 : w5.cell? ⟨gb241, 0, none⟩ = some (.int .i64 a1_0) := (blk_cell BK241.out 0).trans rfl; have hcz8_1 : w5.cell? ⟨gb241, 1, none⟩ = some (.int .i64 a1_1) := (blk_cell BK241.out 1).trans rfl; have hfz8_0 := blk_frozen BK241.out 0; have hfz8_1 := blk_frozen BK241.out 1; have hnb9 := NB240_242.out; have hnc9 := NB242_240.out; have hcz10_0 : w5.cell? ⟨gb240, 0, none⟩ = some (.int .i64 a0_0) := (blk_cell BK240.out 0).trans rfl; have hcz10_1 : w5.cell? ⟨gb240, 1, none⟩ = some (.int .i64 a0_1) := (blk_cell BK240.out 1).trans rfl; have hfz10_0 := blk_frozen BK240.out 0; have hfz10_1 := blk_frozen BK240.out 1; have hcz11_0 : w5.cell? ⟨gb242, 0, none⟩ = some (.int .i64 0) := (blk_cell BK242.out 0).trans rfl; have hcz11_1 : w5.cell? ⟨gb242, 1, none⟩ = some (.int .i64 0) := (blk_cell BK242.out 1).trans rfl; have hfz11_0 := blk_frozen BK242.out 0; have hfz11_1 := blk_frozen BK242.out 1))
 refine bodyPost_ret (results_cell_row rfl _ _ gb242 36 #[.int .i64 (wrap64 (a1_0 - a0_0)), .int .i64 (wrap64 (a1_1 - a0_1))] (0, 0) _ rfl (by (with_reducible repeat (first | refine blk_drewN ?_ _ | refine blk_drew ?_ | refine blk_alloc ?_ _)); refine blk_put (cs := #[.int .i64 (wrap64 (a1_0 - a0_0)), .int .i64 0]) ?_ 1 _ rfl; (with_reducible repeat (first | refine blk_drewN ?_ _ | refine blk_drew ?_ | refine blk_alloc ?_ _)); refine blk_put (cs := #[.int .i64 0, .int .i64 0]) ?_ 0 _ rfl; (with_reducible repeat (first | refine blk_drewN ?_ _ | refine blk_drew ?_ | refine blk_alloc ?_ _)); exact BK242.out) Try.underlying36 rfl (by kernel_rfl)) rfl ?_
 exact ⟨by first | rfl | (simp [errW_none, errW_some] <;> rfl) | (simp [*, errW_none, errW_some] <;> rfl), bl3 HB.out GE240.out GE241.out GE242.out⟩

/-! ### pochoirref20_Next: function 69 -/
def pochoirref20_Next.f (a0_0 : Int) (a0_1 : Bool) (a0_2 : Int) (a0_3 : Int) (a0_4 : Int) (a0_5 : Int) (a0_6 : Int) (a0_7 : Int) : Option (Int × Int) := if a0_1 = true then (if (!(a0_4 == a0_2) || (!(a0_5 == a0_3))) = true then (some (a0_4, a0_5)) else (some (a0_6, a0_7))) else (some (a0_6, a0_7))
set_option maxHeartbeats 8000000 in
set_option maxRecDepth 100000 in
theorem pochoirref20_Next.calls (a0_0 : Int) (a0_1 : Bool) (a0_2 : Int) (a0_3 : Int) (a0_4 : Int) (a0_5 : Int) (a0_6 : Int) (a0_7 : Int) (r1 : Int) (r2 : Int) (w : World) (h : pochoirref20_Next.f a0_0 a0_1 a0_2 a0_3 a0_4 a0_5 a0_6 a0_7 = some (r1, r2)) :
  Calls Try.prog 69 #[.agg #[.int .i64 a0_0, .bool a0_1, .int .i64 a0_2, .int .i64 a0_3, .int .i64 a0_4, .int .i64 a0_5, .int .i64 a0_6, .int .i64 a0_7]] w fun e w' => e = .returned (.agg #[.int .i64 r1, .int .i64 r2]) ∧ Below w.heap.size w w' := by
 have hu38 := Try.underlying38
 have hu36 := Try.underlying36
 have HB := Aside0.mk (Below.refl w.heap.size w)
 have H : (if a0_1 = true then (if (!(a0_4 == a0_2) || (!(a0_5 == a0_3))) = true then (some (a0_4, a0_5)) else (some (a0_6, a0_7))) else (some (a0_6, a0_7))) = some (r1, r2) := h
 clear h
 by_cases c2 : a0_1 = true
 ·subst c2
  have H1 : (if (!(a0_4 == a0_2) || (!(a0_5 == a0_3))) = true then (some (a0_4, a0_5)) else (some (a0_6, a0_7))) = some (r1, r2) := by rw [if_pos rfl] at H; exact H
  clear H
  have H := H1
  clear H1
  by_cases c3 : (!(a0_4 == a0_2) || (!(a0_5 == a0_3))) = true
  ·rw [if_pos c3] at H
   have c3b0 : (!(a0_4 == a0_2) || (!(a0_5 == a0_3))) = true := c3
   clear c3
   simp only [Option.some.injEq, Prod.mk.injEq] at H
   obtain ⟨rfl, rfl⟩ := H
   go_enter Try.func69, Try.ntmps69
   go_wp2_with (first | ((with_reducible refine gate_dst (N := 1) rfl ?_); refine be 1 (#[.int .i64 a0_0, .bool true, .int .i64 a0_2, .int .i64 a0_3, .int .i64 a0_4, .int .i64 a0_5, .int .i64 a0_6, .int .i64 a0_7]) 38 ?_; intro gb243 hg w4 hbox hb; have BK243 := Aside0.mk (hbox); have GW243 := Aside0.mk ((by rw [hg]; exact (below_size (bl0 HB.out)) : w.heap.size ≤ gb243)); have GE243 := GW243; replace HB := Aside0.mk (below_step (bl0 HB.out) hb); clear hb hbox hg) | ((with_reducible refine gate_dst (N := 2) rfl ?_); refine be 2 (#[.int .i64 0, .int .i64 0]) 36 ?_; intro gb244 hg w5 hbox hb; have BK244 := Aside0.mk (hbox); have GW244 := Aside0.mk ((by rw [hg]; exact (below_size (bl1 HB.out GE243.out)) : w.heap.size ≤ gb244)); have GE244 := GW244; have NB243_244 := Aside0.mk ((by rw [hg]; exact Nat.ne_of_lt (lt_ BK243.out) : gb243 ≠ gb244)); have NB244_243 := Aside0.mk ((by rw [hg]; exact Nat.ne_of_gt (lt_ BK243.out) : gb244 ≠ gb243)); replace BK243 := Aside0.mk (bb BK243.out hb); replace HB := Aside0.mk (below_step (bl1 HB.out GE243.out) hb); clear hb hbox hg; have hnb6 := NB243_244.out; have hnc6 := NB244_243.out; have hcz7_0 : w5.cell? ⟨gb243, 0, none⟩ = some (.int .i64 a0_0) := (blk_cell BK243.out 0).trans rfl; have hcz7_1 : w5.cell? ⟨gb243, 1, none⟩ = some (.bool true) := (blk_cell BK243.out 1).trans rfl; have hcz7_2 : w5.cell? ⟨gb243, 2, none⟩ = some (.int .i64 a0_2) := (blk_cell BK243.out 2).trans rfl; have hcz7_3 : w5.cell? ⟨gb243, 3, none⟩ = some (.int .i64 a0_3) := (blk_cell BK243.out 3).trans rfl; have hcz7_4 : w5.cell? ⟨gb243, 4, none⟩ = some (.int .i64 a0_4) := (blk_cell BK243.out 4).trans rfl; have hcz7_5 : w5.cell? ⟨gb243, 5, none⟩ = some (.int .i64 a0_5) := (blk_cell BK243.out 5).trans rfl; have hcz7_6 : w5.cell? ⟨gb243, 6, none⟩ = some (.int .i64 a0_6) := (blk_cell BK243.out 6).trans rfl; have hcz7_7 : w5.cell? ⟨gb243, 7, none⟩ = some (.int .i64 a0_7) := (blk_cell BK243.out 7).trans rfl; have hfz7_0 := blk_frozen BK243.out 0; have hfz7_1 := blk_frozen BK243.out 1; have hfz7_2 := blk_frozen BK243.out 2; have hfz7_3 := blk_frozen BK243.out 3; have hfz7_4 := blk_frozen BK243.out 4; have hfz7_5 := blk_frozen BK243.out 5; have hfz7_6 := blk_frozen BK243.out 6; have hfz7_7 := blk_frozen BK243.out 7; have hcz8_0 : w5.cell? ⟨gb244, 0, none⟩ = some (.int .i64 0) := (blk_cell BK244.out 0).trans rfl; have hcz8_1 : w5.cell? ⟨gb244, 1, none⟩ = some (.int .i64 0) := (blk_cell BK244.out 1).trans rfl; have hfz8_0 := blk_frozen BK244.out 0; have hfz8_1 := blk_frozen BK244.out 1))
   refine bodyPost_ret (results_cell_row rfl _ _ gb244 36 #[.int .i64 a0_4, .int .i64 a0_5] (0, 0) _ rfl (by (with_reducible repeat (first | refine blk_drewN ?_ _ | refine blk_drew ?_ | refine blk_alloc ?_ _)); refine blk_put (cs := #[.int .i64 a0_4, .int .i64 0]) ?_ 1 _ rfl; (with_reducible repeat (first | refine blk_drewN ?_ _ | refine blk_drew ?_ | refine blk_alloc ?_ _)); refine blk_put (cs := #[.int .i64 0, .int .i64 0]) ?_ 0 _ rfl; (with_reducible repeat (first | refine blk_drewN ?_ _ | refine blk_drew ?_ | refine blk_alloc ?_ _)); exact BK244.out) Try.underlying36 rfl (by kernel_rfl)) rfl ?_
   exact ⟨by first | rfl | (simp [errW_none, errW_some] <;> rfl) | (simp [*, errW_none, errW_some] <;> rfl), bl2 HB.out GE243.out GE244.out⟩
  ·rw [if_neg c3] at H
   have c3b0 : (!(a0_4 == a0_2) || (!(a0_5 == a0_3))) = false := by simpa using c3
   clear c3
   simp only [Option.some.injEq, Prod.mk.injEq] at H
   obtain ⟨rfl, rfl⟩ := H
   go_enter Try.func69, Try.ntmps69
   go_wp2_with (first | ((with_reducible refine gate_dst (N := 1) rfl ?_); refine be 1 (#[.int .i64 a0_0, .bool true, .int .i64 a0_2, .int .i64 a0_3, .int .i64 a0_4, .int .i64 a0_5, .int .i64 a0_6, .int .i64 a0_7]) 38 ?_; intro gb243 hg w9 hbox hb; have BK243 := Aside0.mk (hbox); have GW243 := Aside0.mk ((by rw [hg]; exact (below_size (bl0 HB.out)) : w.heap.size ≤ gb243)); have GE243 := GW243; replace HB := Aside0.mk (below_step (bl0 HB.out) hb); clear hb hbox hg) | ((with_reducible refine gate_dst (N := 2) rfl ?_); refine be 2 (#[.int .i64 0, .int .i64 0]) 36 ?_; intro gb244 hg w10 hbox hb; have BK244 := Aside0.mk (hbox); have GW244 := Aside0.mk ((by rw [hg]; exact (below_size (bl1 HB.out GE243.out)) : w.heap.size ≤ gb244)); have GE244 := GW244; have NB243_244 := Aside0.mk ((by rw [hg]; exact Nat.ne_of_lt (lt_ BK243.out) : gb243 ≠ gb244)); have NB244_243 := Aside0.mk ((by rw [hg]; exact Nat.ne_of_gt (lt_ BK243.out) : gb244 ≠ gb243)); replace BK243 := Aside0.mk (bb BK243.out hb); replace HB := Aside0.mk (below_step (bl1 HB.out GE243.out) hb); clear hb hbox hg; have hnb11 := NB243_244.out; have hnc11 := NB244_243.out; have hcz12_0 : w10.cell? ⟨gb243, 0, none⟩ = some (.int .i64 a0_0) := (blk_cell BK243.out 0).trans rfl; have hcz12_1 : w10.cell? ⟨gb243, 1, none⟩ = some (.bool true) := (blk_cell BK243.out 1).trans rfl; have hcz12_2 : w10.cell? ⟨gb243, 2, none⟩ = some (.int .i64 a0_2) := (blk_cell BK243.out 2).trans rfl; have hcz12_3 : w10.cell? ⟨gb243, 3, none⟩ = some (.int .i64 a0_3) := (blk_cell BK243.out 3).trans rfl; have hcz12_4 : w10.cell? ⟨gb243, 4, none⟩ = some (.int .i64 a0_4) := (blk_cell BK243.out 4).trans rfl; have hcz12_5 : w10.cell? ⟨gb243, 5, none⟩ = some (.int .i64 a0_5) := (blk_cell BK243.out 5).trans rfl; have hcz12_6 : w10.cell? ⟨gb243, 6, none⟩ = some (.int .i64 a0_6) := (blk_cell BK243.out 6).trans rfl; have hcz12_7 : w10.cell? ⟨gb243, 7, none⟩ = some (.int .i64 a0_7) := (blk_cell BK243.out 7).trans rfl; have hfz12_0 := blk_frozen BK243.out 0; have hfz12_1 := blk_frozen BK243.out 1; have hfz12_2 := blk_frozen BK243.out 2; have hfz12_3 := blk_frozen BK243.out 3; have hfz12_4 := blk_frozen BK243.out 4; have hfz12_5 := blk_frozen BK243.out 5; have hfz12_6 := blk_frozen BK243.out 6; have hfz12_7 := blk_frozen BK243.out 7; have hcz13_0 : w10.cell? ⟨gb244, 0, none⟩ = some (.int .i64 0) := (blk_cell BK244.out 0).trans rfl; have hcz13_1 : w10.cell? ⟨gb244, 1, none⟩ = some (.int .i64 0) := (blk_cell BK244.out 1).trans rfl; have hfz13_0 := blk_frozen BK244.out 0; have hfz13_1 := blk_frozen BK244.out 1))
   refine bodyPost_ret (results_cell_row rfl _ _ gb244 36 #[.int .i64 a0_6, .int .i64 a0_7] (0, 0) _ rfl (by (with_reducible repeat (first | refine blk_drewN ?_ _ | refine blk_drew ?_ | refine blk_alloc ?_ _)); refine blk_put (cs := #[.int .i64 a0_6, .int .i64 0]) ?_ 1 _ rfl; (with_reducible repeat (first | refine blk_drewN ?_ _ | refine blk_drew ?_ | refine blk_alloc ?_ _)); refine blk_put (cs := #[.int .i64 0, .int .i64 0]) ?_ 0 _ rfl; (with_reducible repeat (first | refine blk_drewN ?_ _ | refine blk_drew ?_ | refine blk_alloc ?_ _)); exact BK244.out) Try.underlying36 rfl (by kernel_rfl)) rfl ?_
   exact ⟨by first | rfl | (simp [errW_none, errW_some] <;> rfl) | (simp [*, errW_none, errW_some] <;> rfl), bl2 HB.out GE243.out GE244.out⟩
 ·replace c2 := Bool.eq_false_iff.mpr c2
  subst c2
  have H1 : (some (a0_6, a0_7)) = some (r1, r2) := by rw [if_neg (show ¬ (false = true) by decide)] at H; exact H
  clear H
  have H := H1
  clear H1
  simp only [Option.some.injEq, Prod.mk.injEq] at H
  obtain ⟨rfl, rfl⟩ := H
  go_enter Try.func69, Try.ntmps69
  go_wp2_with (first | ((with_reducible refine gate_dst (N := 1) rfl ?_); refine be 1 (#[.int .i64 a0_0, .bool false, .int .i64 a0_2, .int .i64 a0_3, .int .i64 a0_4, .int .i64 a0_5, .int .i64 a0_6, .int .i64 a0_7]) 38 ?_; intro gb243 hg w14 hbox hb; have BK243 := Aside0.mk (hbox); have GW243 := Aside0.mk ((by rw [hg]; exact (below_size (bl0 HB.out)) : w.heap.size ≤ gb243)); have GE243 := GW243; replace HB := Aside0.mk (below_step (bl0 HB.out) hb); clear hb hbox hg) | ((with_reducible refine gate_dst (N := 2) rfl ?_); refine be 2 (#[.int .i64 0, .int .i64 0]) 36 ?_; intro gb244 hg w15 hbox hb; have BK244 := Aside0.mk (hbox); have GW244 := Aside0.mk ((by rw [hg]; exact (below_size (bl1 HB.out GE243.out)) : w.heap.size ≤ gb244)); have GE244 := GW244; have NB243_244 := Aside0.mk ((by rw [hg]; exact Nat.ne_of_lt (lt_ BK243.out) : gb243 ≠ gb244)); have NB244_243 := Aside0.mk ((by rw [hg]; exact Nat.ne_of_gt (lt_ BK243.out) : gb244 ≠ gb243)); replace BK243 := Aside0.mk (bb BK243.out hb); replace HB := Aside0.mk (below_step (bl1 HB.out GE243.out) hb); clear hb hbox hg; have hnb16 := NB243_244.out; have hnc16 := NB244_243.out; have hcz17_0 : w15.cell? ⟨gb243, 0, none⟩ = some (.int .i64 a0_0) := (blk_cell BK243.out 0).trans rfl; have hcz17_1 : w15.cell? ⟨gb243, 1, none⟩ = some (.bool false) := (blk_cell BK243.out 1).trans rfl; have hcz17_2 : w15.cell? ⟨gb243, 2, none⟩ = some (.int .i64 a0_2) := (blk_cell BK243.out 2).trans rfl; have hcz17_3 : w15.cell? ⟨gb243, 3, none⟩ = some (.int .i64 a0_3) := (blk_cell BK243.out 3).trans rfl; have hcz17_4 : w15.cell? ⟨gb243, 4, none⟩ = some (.int .i64 a0_4) := (blk_cell BK243.out 4).trans rfl; have hcz17_5 : w15.cell? ⟨gb243, 5, none⟩ = some (.int .i64 a0_5) := (blk_cell BK243.out 5).trans rfl; have hcz17_6 : w15.cell? ⟨gb243, 6, none⟩ = some (.int .i64 a0_6) := (blk_cell BK243.out 6).trans rfl; have hcz17_7 : w15.cell? ⟨gb243, 7, none⟩ = some (.int .i64 a0_7) := (blk_cell BK243.out 7).trans rfl; have hfz17_0 := blk_frozen BK243.out 0; have hfz17_1 := blk_frozen BK243.out 1; have hfz17_2 := blk_frozen BK243.out 2; have hfz17_3 := blk_frozen BK243.out 3; have hfz17_4 := blk_frozen BK243.out 4; have hfz17_5 := blk_frozen BK243.out 5; have hfz17_6 := blk_frozen BK243.out 6; have hfz17_7 := blk_frozen BK243.out 7; have hcz18_0 : w15.cell? ⟨gb244, 0, none⟩ = some (.int .i64 0) := (blk_cell BK244.out 0).trans rfl; have hcz18_1 : w15.cell? ⟨gb244, 1, none⟩ = some (.int .i64 0) := (blk_cell BK244.out 1).trans rfl; have hfz18_0 := blk_frozen BK244.out 0; have hfz18_1 := blk_frozen BK244.out 1))
  refine bodyPost_ret (results_cell_row rfl _ _ gb244 36 #[.int .i64 a0_6, .int .i64 a0_7] (0, 0) _ rfl (by (with_reducible repeat (first | refine blk_drewN ?_ _ | refine blk_drew ?_ | refine blk_alloc ?_ _)); refine blk_put (cs := #[.int .i64 a0_6, .int .i64 0]) ?_ 1 _ rfl; (with_reducible repeat (first | refine blk_drewN ?_ _ | refine blk_drew ?_ | refine blk_alloc ?_ _)); refine blk_put (cs := #[.int .i64 0, .int .i64 0]) ?_ 0 _ rfl; (with_reducible repeat (first | refine blk_drewN ?_ _ | refine blk_drew ?_ | refine blk_alloc ?_ _)); exact BK244.out) Try.underlying36 rfl (by kernel_rfl)) rfl ?_
  exact ⟨by first | rfl | (simp [errW_none, errW_some] <;> rfl) | (simp [*, errW_none, errW_some] <;> rfl), bl2 HB.out GE243.out GE244.out⟩

/-! ### pochoirref22_First: function 28 -/
def pochoirref22_First.f (a0_0 : Int) (a0_1 : Bool) (a0_2 : Int) (a0_3 : Int) (a0_4 : Int) (a0_5 : Int) (a0_6 : Int) (a0_7 : Int) : Option (Int × Int) := (pochoirref20_Next.f a0_0 a0_1 a0_2 a0_3 a0_4 a0_5 a0_6 a0_7).bind fun bt247 => ((pochoirref22_way.f a0_2 a0_3 bt247.1 bt247.2).bind fun bt249 => (some (bt249.1, bt249.2)))
set_option maxHeartbeats 8000000 in
set_option maxRecDepth 100000 in
theorem pochoirref22_First.calls (a0_0 : Int) (a0_1 : Bool) (a0_2 : Int) (a0_3 : Int) (a0_4 : Int) (a0_5 : Int) (a0_6 : Int) (a0_7 : Int) (r1 : Int) (r2 : Int) (w : World) (h : pochoirref22_First.f a0_0 a0_1 a0_2 a0_3 a0_4 a0_5 a0_6 a0_7 = some (r1, r2)) :
  Calls Try.prog 28 #[.agg #[.int .i64 a0_0, .bool a0_1, .int .i64 a0_2, .int .i64 a0_3, .int .i64 a0_4, .int .i64 a0_5, .int .i64 a0_6, .int .i64 a0_7]] w fun e w' => e = .returned (.agg #[.int .i64 r1, .int .i64 r2]) ∧ Below w.heap.size w w' := by
 have hu38 := Try.underlying38
 have hu36 := Try.underlying36
 have HB := Aside0.mk (Below.refl w.heap.size w)
 have H : ((pochoirref20_Next.f a0_0 a0_1 a0_2 a0_3 a0_4 a0_5 a0_6 a0_7).bind fun bt247 => ((pochoirref22_way.f a0_2 a0_3 bt247.1 bt247.2).bind fun bt249 => (some (bt249.1, bt249.2)))) = some (r1, r2) := h
 clear h
 replace H := Option.bind_eq_some_iff.mp H
 obtain ⟨⟨t247, t248⟩, A20, H⟩ := H
 replace H : ((pochoirref22_way.f a0_2 a0_3 t247 t248).bind fun bt249 => (some (bt249.1, bt249.2))) = some (r1, r2) := H
 have A2 := Aside0.mk A20
 clear A20
 replace H := Option.bind_eq_some_iff.mp H
 obtain ⟨⟨t249, t250⟩, A30, H⟩ := H
 replace H : (some (t249, t250)) = some (r1, r2) := H
 have A3 := Aside0.mk A30
 clear A30
 simp only [Option.some.injEq, Prod.mk.injEq] at H
 obtain ⟨rfl, rfl⟩ := H
 go_enter Try.func28, Try.ntmps28
 try go_wp2_with (first | ((with_reducible refine gate_dst (N := 1) rfl ?_); refine be 1 (#[.int .i64 a0_0, .bool a0_1, .int .i64 a0_2, .int .i64 a0_3, .int .i64 a0_4, .int .i64 a0_5, .int .i64 a0_6, .int .i64 a0_7]) 38 ?_; intro gb245 hg w4 hbox hb; have BK245 := Aside0.mk (hbox); have GW245 := Aside0.mk ((by rw [hg]; exact (below_size (bl0 HB.out)) : w.heap.size ≤ gb245)); have GE245 := GW245; replace HB := Aside0.mk (below_step (bl0 HB.out) hb); clear hb hbox hg) | ((with_reducible refine gate_dst (N := 2) rfl ?_); refine be 2 (#[.int .i64 0, .int .i64 0]) 36 ?_; intro gb246 hg w5 hbox hb; have BK246 := Aside0.mk (hbox); have GW246 := Aside0.mk ((by rw [hg]; exact (below_size (bl1 HB.out GE245.out)) : w.heap.size ≤ gb246)); have GE246 := GW246; have NB245_246 := Aside0.mk ((by rw [hg]; exact Nat.ne_of_lt (lt_ BK245.out) : gb245 ≠ gb246)); have NB246_245 := Aside0.mk ((by rw [hg]; exact Nat.ne_of_gt (lt_ BK245.out) : gb246 ≠ gb245)); replace BK245 := Aside0.mk (bb BK245.out hb); replace HB := Aside0.mk (below_step (bl1 HB.out GE245.out) hb); clear hb hbox hg))
 replace BK245 := Aside0.mk (blk_drew BK245.out)
 replace BK246 := Aside0.mk (blk_drew BK246.out)
 replace HB := Aside0.mk (below_drew1 HB.out)
 refine start_ (n := 6) (S := fun w' => w'.cell? ⟨gb245, 0, none⟩ = some (.int .i64 a0_0) ∧ w'.cell? ⟨gb245, 1, none⟩ = some (.bool a0_1) ∧ w'.cell? ⟨gb245, 2, none⟩ = some (.int .i64 a0_2) ∧ w'.cell? ⟨gb245, 3, none⟩ = some (.int .i64 a0_3) ∧ w'.cell? ⟨gb245, 4, none⟩ = some (.int .i64 a0_4) ∧ w'.cell? ⟨gb245, 5, none⟩ = some (.int .i64 a0_5) ∧ w'.cell? ⟨gb245, 6, none⟩ = some (.int .i64 a0_6) ∧ w'.cell? ⟨gb245, 7, none⟩ = some (.int .i64 a0_7)) (ds := []) (ba 6 0) (by kernel_rfl) rfl rfl ⟨(blk_cell BK245.out 0).trans rfl, (blk_cell BK245.out 1).trans rfl, (blk_cell BK245.out 2).trans rfl, (blk_cell BK245.out 3).trans rfl, (blk_cell BK245.out 4).trans rfl, (blk_cell BK245.out 5).trans rfl, (blk_cell BK245.out 6).trans rfl, (blk_cell BK245.out 7).trans rfl⟩ (fun hHeld => ?_)
 generalize w5.drew = w6 at BK245 BK246 HB hHeld ⊢
 refine pure_ (i := 0) (N := some 3) (v := ?_) (a' := ?_) (ba 6 1) rfl rfl (by kernel_rfl) (fun _ _ _ h => h) (Or.inl ⟨by rfl, ?_⟩) ?_ ?_
 rotate_left
 ·intro w'
  go_simp
  with_reducible rfl
 rotate_left
 ·simp only [Act.put, List.setIfInBounds_toArray, List.set_cons_zero, List.set_cons_succ, i64_w, i32_w]
  rfl
 refine take_ (i := 1) (N := some 4) (v := ?_) (a' := ?_) (ba 6 3) rfl rfl (by kernel_rfl) (fun _ _ _ h => h) (Or.inl ⟨by rfl, ?_⟩) hHeld ?_ ?_
 rotate_left
 ·rintro w' ⟨s0, s1, s2, s3, s4, s5, s6, s7⟩
  go_simp
  with_reducible rfl
 rotate_left
 ·simp only [Act.put, List.setIfInBounds_toArray, List.set_cons_zero, List.set_cons_succ, i64_w, i32_w]
  rfl
 refine take_ (i := 2) (N := some 5) (v := ?_) (a' := ?_) (ba 6 7) rfl rfl (by kernel_rfl) (fun _ _ _ h => h) (Or.inl ⟨by rfl, ?_⟩) hHeld ?_ ?_
 rotate_left
 ·rintro w' ⟨s0, s1, s2, s3, s4, s5, s6, s7⟩
  go_simp
  with_reducible rfl
 rotate_left
 ·simp only [Act.put, List.setIfInBounds_toArray, List.set_cons_zero, List.set_cons_succ, i64_w, i32_w]
  rfl
 refine one_ (i := 3) (N := some 6) (ba 6 15) rfl rfl (by kernel_rfl) (by decide) (fun K hK => ?_)
 refine goes_ Try.func69 (by kernel_rfl) rfl #[.agg #[.int .i64 a0_0, .bool a0_1, .int .i64 a0_2, .int .i64 a0_3, .int .i64 a0_4, .int .i64 a0_5, .int .i64 a0_6, .int .i64 a0_7]] (by rfl) rfl rfl am ?_
 with_reducible refine (pochoirref20_Next.calls a0_0 a0_1 a0_2 a0_3 a0_4 a0_5 a0_6 a0_7 t247 t248 _ A2.out).mono ?_
 rintro e w7 ⟨rfl, hb⟩
 refine ⟨_, rfl, ?_⟩
 replace BK245 := Aside0.mk (bb BK245.out hb)
 replace BK246 := Aside0.mk (bb BK246.out hb)
 replace HB := Aside0.mk (below_step (bl2 HB.out GE245.out GE246.out) hb)
 (try clear hb)
 (try clear hb2)
 (try clear hk)
 (try clear hi)
 refine hK.out _ _ ⟨(blk_cell BK245.out 0).trans rfl, (blk_cell BK245.out 1).trans rfl, (blk_cell BK245.out 2).trans rfl, (blk_cell BK245.out 3).trans rfl, (blk_cell BK245.out 4).trans rfl, (blk_cell BK245.out 5).trans rfl, (blk_cell BK245.out 6).trans rfl, (blk_cell BK245.out 7).trans rfl⟩ (fun hHeld => ?_)
 clear hK K
 refine norm_ (a' := ?_) ?_ ?_
 rotate_left
 ·show Act.put _ (some 6) _ = _
  simp only [Act.put, List.setIfInBounds_toArray, List.set_cons_zero, List.set_cons_succ, i64_w, i32_w]
  rfl
 refine one_ (i := 4) (N := some 7) (ba 6 31) rfl rfl (by kernel_rfl) (by decide) (fun K hK => ?_)
 refine goes_ Try.func68 (by kernel_rfl) rfl #[.agg #[.int .i64 a0_2, .int .i64 a0_3], .agg #[.int .i64 t247, .int .i64 t248]] (by rfl) rfl rfl am ?_
 with_reducible refine (pochoirref22_way.calls a0_2 a0_3 t247 t248 t249 t250 _ A3.out).mono ?_
 rintro e w8 ⟨rfl, hb⟩
 refine ⟨_, rfl, ?_⟩
 replace BK245 := Aside0.mk (bb BK245.out hb)
 replace BK246 := Aside0.mk (bb BK246.out hb)
 replace HB := Aside0.mk (below_step (bl2 HB.out GE245.out GE246.out) hb)
 (try clear hb)
 (try clear hb2)
 (try clear hk)
 (try clear hi)
 refine hK.out _ _ ⟨(blk_cell BK245.out 0).trans rfl, (blk_cell BK245.out 1).trans rfl, (blk_cell BK245.out 2).trans rfl, (blk_cell BK245.out 3).trans rfl, (blk_cell BK245.out 4).trans rfl, (blk_cell BK245.out 5).trans rfl, (blk_cell BK245.out 6).trans rfl, (blk_cell BK245.out 7).trans rfl⟩ (fun hHeld => ?_)
 clear hK K
 refine norm_ (a' := ?_) ?_ ?_
 rotate_left
 ·show Act.put _ (some 7) _ = _
  simp only [Act.put, List.setIfInBounds_toArray, List.set_cons_zero, List.set_cons_succ, i64_w, i32_w]
  rfl
 refine one_ (i := 5) (N := none) (ba 6 63) rfl rfl (by kernel_rfl) (by decide) (fun K hK => ?_)
 have hs9 : w8.cell? ⟨gb246, 0, none⟩ = some (.int .i64 0) := (blk_cell BK246.out 0).trans rfl
 have hfs9 := blk_frozen BK246.out 0
 have hns9_0 := NB245_246.out
 have hms9_0 := NB246_245.out
 have hs10 : w8.cell? ⟨gb246, 1, none⟩ = some (.int .i64 0) := (blk_cell BK246.out 1).trans rfl
 have hfs10 := blk_frozen BK246.out 1
 have hns10_0 := NB245_246.out
 have hms10_0 := NB246_245.out
 refine skip_ (w1 := ?_) (by rfl) rfl ?_ ?_
 rotate_left
 ·go_simp
  rfl
 refine hK.out _ _ ⟨((cell_far (p := ⟨gb246, _, none⟩) NB245_246.out _).trans (((cell_far (p := ⟨gb246, _, none⟩) NB245_246.out _).trans (hHeld.1)))), ((cell_far (p := ⟨gb246, _, none⟩) NB245_246.out _).trans (((cell_far (p := ⟨gb246, _, none⟩) NB245_246.out _).trans (hHeld.2.1)))), ((cell_far (p := ⟨gb246, _, none⟩) NB245_246.out _).trans (((cell_far (p := ⟨gb246, _, none⟩) NB245_246.out _).trans (hHeld.2.2.1)))), ((cell_far (p := ⟨gb246, _, none⟩) NB245_246.out _).trans (((cell_far (p := ⟨gb246, _, none⟩) NB245_246.out _).trans (hHeld.2.2.2.1)))), ((cell_far (p := ⟨gb246, _, none⟩) NB245_246.out _).trans (((cell_far (p := ⟨gb246, _, none⟩) NB245_246.out _).trans (hHeld.2.2.2.2.1)))), ((cell_far (p := ⟨gb246, _, none⟩) NB245_246.out _).trans (((cell_far (p := ⟨gb246, _, none⟩) NB245_246.out _).trans (hHeld.2.2.2.2.2.1)))), ((cell_far (p := ⟨gb246, _, none⟩) NB245_246.out _).trans (((cell_far (p := ⟨gb246, _, none⟩) NB245_246.out _).trans (hHeld.2.2.2.2.2.2.1)))), ((cell_far (p := ⟨gb246, _, none⟩) NB245_246.out _).trans (((cell_far (p := ⟨gb246, _, none⟩) NB245_246.out _).trans (hHeld.2.2.2.2.2.2.2))))⟩ (fun hHeld => ?_)
 clear hK K
 refine done_ (by kernel_rfl) ?_
 try go_wp2
 refine bodyPost_ret (results_cell_row rfl _ _ gb246 36 #[.int .i64 t249, .int .i64 t250] (0, 0) _ rfl (by (with_reducible repeat (first | refine blk_drewN ?_ _ | refine blk_drew ?_ | refine blk_alloc ?_ _)); refine blk_put (cs := #[.int .i64 t249, .int .i64 0]) ?_ 1 _ rfl; (with_reducible repeat (first | refine blk_drewN ?_ _ | refine blk_drew ?_ | refine blk_alloc ?_ _)); refine blk_put (cs := #[.int .i64 0, .int .i64 0]) ?_ 0 _ rfl; (with_reducible repeat (first | refine blk_drewN ?_ _ | refine blk_drew ?_ | refine blk_alloc ?_ _)); exact BK246.out) Try.underlying36 rfl (by kernel_rfl)) rfl ?_
 exact ⟨by first | rfl | (simp [errW_none, errW_some] <;> rfl) | (simp [*, errW_none, errW_some] <;> rfl), bl2 HB.out GE245.out GE246.out⟩

/-! ### pochoirref20_Ahead: function 70 -/
def pochoirref20_Ahead.f (a0_0 : Int) (a0_1 : Bool) (a0_2 : Int) (a0_3 : Int) (a0_4 : Int) (a0_5 : Int) (a0_6 : Int) (a0_7 : Int) : Option (Int × Int) := if a0_1 = true then (if (!(a0_4 == a0_6) || (!(a0_5 == a0_7))) = true then (some (a0_4, a0_5)) else (some (a0_2, a0_3))) else (some (a0_2, a0_3))
set_option maxHeartbeats 8000000 in
set_option maxRecDepth 100000 in
theorem pochoirref20_Ahead.calls (a0_0 : Int) (a0_1 : Bool) (a0_2 : Int) (a0_3 : Int) (a0_4 : Int) (a0_5 : Int) (a0_6 : Int) (a0_7 : Int) (r1 : Int) (r2 : Int) (w : World) (h : pochoirref20_Ahead.f a0_0 a0_1 a0_2 a0_3 a0_4 a0_5 a0_6 a0_7 = some (r1, r2)) :
  Calls Try.prog 70 #[.agg #[.int .i64 a0_0, .bool a0_1, .int .i64 a0_2, .int .i64 a0_3, .int .i64 a0_4, .int .i64 a0_5, .int .i64 a0_6, .int .i64 a0_7]] w fun e w' => e = .returned (.agg #[.int .i64 r1, .int .i64 r2]) ∧ Below w.heap.size w w' := by
 have hu38 := Try.underlying38
 have hu36 := Try.underlying36
 have HB := Aside0.mk (Below.refl w.heap.size w)
 have H : (if a0_1 = true then (if (!(a0_4 == a0_6) || (!(a0_5 == a0_7))) = true then (some (a0_4, a0_5)) else (some (a0_2, a0_3))) else (some (a0_2, a0_3))) = some (r1, r2) := h
 clear h
 by_cases c2 : a0_1 = true
 ·subst c2
  have H1 : (if (!(a0_4 == a0_6) || (!(a0_5 == a0_7))) = true then (some (a0_4, a0_5)) else (some (a0_2, a0_3))) = some (r1, r2) := by rw [if_pos rfl] at H; exact H
  clear H
  have H := H1
  clear H1
  by_cases c3 : (!(a0_4 == a0_6) || (!(a0_5 == a0_7))) = true
  ·rw [if_pos c3] at H
   have c3b0 : (!(a0_4 == a0_6) || (!(a0_5 == a0_7))) = true := c3
   clear c3
   simp only [Option.some.injEq, Prod.mk.injEq] at H
   obtain ⟨rfl, rfl⟩ := H
   go_enter Try.func70, Try.ntmps70
   go_wp2_with (first | ((with_reducible refine gate_dst (N := 1) rfl ?_); refine be 1 (#[.int .i64 a0_0, .bool true, .int .i64 a0_2, .int .i64 a0_3, .int .i64 a0_4, .int .i64 a0_5, .int .i64 a0_6, .int .i64 a0_7]) 38 ?_; intro gb251 hg w4 hbox hb; have BK251 := Aside0.mk (hbox); have GW251 := Aside0.mk ((by rw [hg]; exact (below_size (bl0 HB.out)) : w.heap.size ≤ gb251)); have GE251 := GW251; replace HB := Aside0.mk (below_step (bl0 HB.out) hb); clear hb hbox hg) | ((with_reducible refine gate_dst (N := 2) rfl ?_); refine be 2 (#[.int .i64 0, .int .i64 0]) 36 ?_; intro gb252 hg w5 hbox hb; have BK252 := Aside0.mk (hbox); have GW252 := Aside0.mk ((by rw [hg]; exact (below_size (bl1 HB.out GE251.out)) : w.heap.size ≤ gb252)); have GE252 := GW252; have NB251_252 := Aside0.mk ((by rw [hg]; exact Nat.ne_of_lt (lt_ BK251.out) : gb251 ≠ gb252)); have NB252_251 := Aside0.mk ((by rw [hg]; exact Nat.ne_of_gt (lt_ BK251.out) : gb252 ≠ gb251)); replace BK251 := Aside0.mk (bb BK251.out hb); replace HB := Aside0.mk (below_step (bl1 HB.out GE251.out) hb); clear hb hbox hg; have hnb6 := NB251_252.out; have hnc6 := NB252_251.out; have hcz7_0 : w5.cell? ⟨gb251, 0, none⟩ = some (.int .i64 a0_0) := (blk_cell BK251.out 0).trans rfl; have hcz7_1 : w5.cell? ⟨gb251, 1, none⟩ = some (.bool true) := (blk_cell BK251.out 1).trans rfl; have hcz7_2 : w5.cell? ⟨gb251, 2, none⟩ = some (.int .i64 a0_2) := (blk_cell BK251.out 2).trans rfl; have hcz7_3 : w5.cell? ⟨gb251, 3, none⟩ = some (.int .i64 a0_3) := (blk_cell BK251.out 3).trans rfl; have hcz7_4 : w5.cell? ⟨gb251, 4, none⟩ = some (.int .i64 a0_4) := (blk_cell BK251.out 4).trans rfl; have hcz7_5 : w5.cell? ⟨gb251, 5, none⟩ = some (.int .i64 a0_5) := (blk_cell BK251.out 5).trans rfl; have hcz7_6 : w5.cell? ⟨gb251, 6, none⟩ = some (.int .i64 a0_6) := (blk_cell BK251.out 6).trans rfl; have hcz7_7 : w5.cell? ⟨gb251, 7, none⟩ = some (.int .i64 a0_7) := (blk_cell BK251.out 7).trans rfl; have hfz7_0 := blk_frozen BK251.out 0; have hfz7_1 := blk_frozen BK251.out 1; have hfz7_2 := blk_frozen BK251.out 2; have hfz7_3 := blk_frozen BK251.out 3; have hfz7_4 := blk_frozen BK251.out 4; have hfz7_5 := blk_frozen BK251.out 5; have hfz7_6 := blk_frozen BK251.out 6; have hfz7_7 := blk_frozen BK251.out 7; have hcz8_0 : w5.cell? ⟨gb252, 0, none⟩ = some (.int .i64 0) := (blk_cell BK252.out 0).trans rfl; have hcz8_1 : w5.cell? ⟨gb252, 1, none⟩ = some (.int .i64 0) := (blk_cell BK252.out 1).trans rfl; have hfz8_0 := blk_frozen BK252.out 0; have hfz8_1 := blk_frozen BK252.out 1))
   refine bodyPost_ret (results_cell_row rfl _ _ gb252 36 #[.int .i64 a0_4, .int .i64 a0_5] (0, 0) _ rfl (by (with_reducible repeat (first | refine blk_drewN ?_ _ | refine blk_drew ?_ | refine blk_alloc ?_ _)); refine blk_put (cs := #[.int .i64 a0_4, .int .i64 0]) ?_ 1 _ rfl; (with_reducible repeat (first | refine blk_drewN ?_ _ | refine blk_drew ?_ | refine blk_alloc ?_ _)); refine blk_put (cs := #[.int .i64 0, .int .i64 0]) ?_ 0 _ rfl; (with_reducible repeat (first | refine blk_drewN ?_ _ | refine blk_drew ?_ | refine blk_alloc ?_ _)); exact BK252.out) Try.underlying36 rfl (by kernel_rfl)) rfl ?_
   exact ⟨by first | rfl | (simp [errW_none, errW_some] <;> rfl) | (simp [*, errW_none, errW_some] <;> rfl), bl2 HB.out GE251.out GE252.out⟩
  ·rw [if_neg c3] at H
   have c3b0 : (!(a0_4 == a0_6) || (!(a0_5 == a0_7))) = false := by simpa using c3
   clear c3
   simp only [Option.some.injEq, Prod.mk.injEq] at H
   obtain ⟨rfl, rfl⟩ := H
   go_enter Try.func70, Try.ntmps70
   go_wp2_with (first | ((with_reducible refine gate_dst (N := 1) rfl ?_); refine be 1 (#[.int .i64 a0_0, .bool true, .int .i64 a0_2, .int .i64 a0_3, .int .i64 a0_4, .int .i64 a0_5, .int .i64 a0_6, .int .i64 a0_7]) 38 ?_; intro gb251 hg w9 hbox hb; have BK251 := Aside0.mk (hbox); have GW251 := Aside0.mk ((by rw [hg]; exact (below_size (bl0 HB.out)) : w.heap.size ≤ gb251)); have GE251 := GW251; replace HB := Aside0.mk (below_step (bl0 HB.out) hb); clear hb hbox hg) | ((with_reducible refine gate_dst (N := 2) rfl ?_); refine be 2 (#[.int .i64 0, .int .i64 0]) 36 ?_; intro gb252 hg w10 hbox hb; have BK252 := Aside0.mk (hbox); have GW252 := Aside0.mk ((by rw [hg]; exact (below_size (bl1 HB.out GE251.out)) : w.heap.size ≤ gb252)); have GE252 := GW252; have NB251_252 := Aside0.mk ((by rw [hg]; exact Nat.ne_of_lt (lt_ BK251.out) : gb251 ≠ gb252)); have NB252_251 := Aside0.mk ((by rw [hg]; exact Nat.ne_of_gt (lt_ BK251.out) : gb252 ≠ gb251)); replace BK251 := Aside0.mk (bb BK251.out hb); replace HB := Aside0.mk (below_step (bl1 HB.out GE251.out) hb); clear hb hbox hg; have hnb11 := NB251_252.out; have hnc11 := NB252_251.out; have hcz12_0 : w10.cell? ⟨gb251, 0, none⟩ = some (.int .i64 a0_0) := (blk_cell BK251.out 0).trans rfl; have hcz12_1 : w10.cell? ⟨gb251, 1, none⟩ = some (.bool true) := (blk_cell BK251.out 1).trans rfl; have hcz12_2 : w10.cell? ⟨gb251, 2, none⟩ = some (.int .i64 a0_2) := (blk_cell BK251.out 2).trans rfl; have hcz12_3 : w10.cell? ⟨gb251, 3, none⟩ = some (.int .i64 a0_3) := (blk_cell BK251.out 3).trans rfl; have hcz12_4 : w10.cell? ⟨gb251, 4, none⟩ = some (.int .i64 a0_4) := (blk_cell BK251.out 4).trans rfl; have hcz12_5 : w10.cell? ⟨gb251, 5, none⟩ = some (.int .i64 a0_5) := (blk_cell BK251.out 5).trans rfl; have hcz12_6 : w10.cell? ⟨gb251, 6, none⟩ = some (.int .i64 a0_6) := (blk_cell BK251.out 6).trans rfl; have hcz12_7 : w10.cell? ⟨gb251, 7, none⟩ = some (.int .i64 a0_7) := (blk_cell BK251.out 7).trans rfl; have hfz12_0 := blk_frozen BK251.out 0; have hfz12_1 := blk_frozen BK251.out 1; have hfz12_2 := blk_frozen BK251.out 2; have hfz12_3 := blk_frozen BK251.out 3; have hfz12_4 := blk_frozen BK251.out 4; have hfz12_5 := blk_frozen BK251.out 5; have hfz12_6 := blk_frozen BK251.out 6; have hfz12_7 := blk_frozen BK251.out 7; have hcz13_0 : w10.cell? ⟨gb252, 0, none⟩ = some (.int .i64 0) := (blk_cell BK252.out 0).trans rfl; have hcz13_1 : w10.cell? ⟨gb252, 1, none⟩ = some (.int .i64 0) := (blk_cell BK252.out 1).trans rfl; have hfz13_0 := blk_frozen BK252.out 0; have hfz13_1 := blk_frozen BK252.out 1))
   refine bodyPost_ret (results_cell_row rfl _ _ gb252 36 #[.int .i64 a0_2, .int .i64 a0_3] (0, 0) _ rfl (by (with_reducible repeat (first | refine blk_drewN ?_ _ | refine blk_drew ?_ | refine blk_alloc ?_ _)); refine blk_put (cs := #[.int .i64 a0_2, .int .i64 0]) ?_ 1 _ rfl; (with_reducible repeat (first | refine blk_drewN ?_ _ | refine blk_drew ?_ | refine blk_alloc ?_ _)); refine blk_put (cs := #[.int .i64 0, .int .i64 0]) ?_ 0 _ rfl; (with_reducible repeat (first | refine blk_drewN ?_ _ | refine blk_drew ?_ | refine blk_alloc ?_ _)); exact BK252.out) Try.underlying36 rfl (by kernel_rfl)) rfl ?_
   exact ⟨by first | rfl | (simp [errW_none, errW_some] <;> rfl) | (simp [*, errW_none, errW_some] <;> rfl), bl2 HB.out GE251.out GE252.out⟩
 ·replace c2 := Bool.eq_false_iff.mpr c2
  subst c2
  have H1 : (some (a0_2, a0_3)) = some (r1, r2) := by rw [if_neg (show ¬ (false = true) by decide)] at H; exact H
  clear H
  have H := H1
  clear H1
  simp only [Option.some.injEq, Prod.mk.injEq] at H
  obtain ⟨rfl, rfl⟩ := H
  go_enter Try.func70, Try.ntmps70
  go_wp2_with (first | ((with_reducible refine gate_dst (N := 1) rfl ?_); refine be 1 (#[.int .i64 a0_0, .bool false, .int .i64 a0_2, .int .i64 a0_3, .int .i64 a0_4, .int .i64 a0_5, .int .i64 a0_6, .int .i64 a0_7]) 38 ?_; intro gb251 hg w14 hbox hb; have BK251 := Aside0.mk (hbox); have GW251 := Aside0.mk ((by rw [hg]; exact (below_size (bl0 HB.out)) : w.heap.size ≤ gb251)); have GE251 := GW251; replace HB := Aside0.mk (below_step (bl0 HB.out) hb); clear hb hbox hg) | ((with_reducible refine gate_dst (N := 2) rfl ?_); refine be 2 (#[.int .i64 0, .int .i64 0]) 36 ?_; intro gb252 hg w15 hbox hb; have BK252 := Aside0.mk (hbox); have GW252 := Aside0.mk ((by rw [hg]; exact (below_size (bl1 HB.out GE251.out)) : w.heap.size ≤ gb252)); have GE252 := GW252; have NB251_252 := Aside0.mk ((by rw [hg]; exact Nat.ne_of_lt (lt_ BK251.out) : gb251 ≠ gb252)); have NB252_251 := Aside0.mk ((by rw [hg]; exact Nat.ne_of_gt (lt_ BK251.out) : gb252 ≠ gb251)); replace BK251 := Aside0.mk (bb BK251.out hb); replace HB := Aside0.mk (below_step (bl1 HB.out GE251.out) hb); clear hb hbox hg; have hnb16 := NB251_252.out; have hnc16 := NB252_251.out; have hcz17_0 : w15.cell? ⟨gb251, 0, none⟩ = some (.int .i64 a0_0) := (blk_cell BK251.out 0).trans rfl; have hcz17_1 : w15.cell? ⟨gb251, 1, none⟩ = some (.bool false) := (blk_cell BK251.out 1).trans rfl; have hcz17_2 : w15.cell? ⟨gb251, 2, none⟩ = some (.int .i64 a0_2) := (blk_cell BK251.out 2).trans rfl; have hcz17_3 : w15.cell? ⟨gb251, 3, none⟩ = some (.int .i64 a0_3) := (blk_cell BK251.out 3).trans rfl; have hcz17_4 : w15.cell? ⟨gb251, 4, none⟩ = some (.int .i64 a0_4) := (blk_cell BK251.out 4).trans rfl; have hcz17_5 : w15.cell? ⟨gb251, 5, none⟩ = some (.int .i64 a0_5) := (blk_cell BK251.out 5).trans rfl; have hcz17_6 : w15.cell? ⟨gb251, 6, none⟩ = some (.int .i64 a0_6) := (blk_cell BK251.out 6).trans rfl; have hcz17_7 : w15.cell? ⟨gb251, 7, none⟩ = some (.int .i64 a0_7) := (blk_cell BK251.out 7).trans rfl; have hfz17_0 := blk_frozen BK251.out 0; have hfz17_1 := blk_frozen BK251.out 1; have hfz17_2 := blk_frozen BK251.out 2; have hfz17_3 := blk_frozen BK251.out 3; have hfz17_4 := blk_frozen BK251.out 4; have hfz17_5 := blk_frozen BK251.out 5; have hfz17_6 := blk_frozen BK251.out 6; have hfz17_7 := blk_frozen BK251.out 7; have hcz18_0 : w15.cell? ⟨gb252, 0, none⟩ = some (.int .i64 0) := (blk_cell BK252.out 0).trans rfl; have hcz18_1 : w15.cell? ⟨gb252, 1, none⟩ = some (.int .i64 0) := (blk_cell BK252.out 1).trans rfl; have hfz18_0 := blk_frozen BK252.out 0; have hfz18_1 := blk_frozen BK252.out 1))
  refine bodyPost_ret (results_cell_row rfl _ _ gb252 36 #[.int .i64 a0_2, .int .i64 a0_3] (0, 0) _ rfl (by (with_reducible repeat (first | refine blk_drewN ?_ _ | refine blk_drew ?_ | refine blk_alloc ?_ _)); refine blk_put (cs := #[.int .i64 a0_2, .int .i64 0]) ?_ 1 _ rfl; (with_reducible repeat (first | refine blk_drewN ?_ _ | refine blk_drew ?_ | refine blk_alloc ?_ _)); refine blk_put (cs := #[.int .i64 0, .int .i64 0]) ?_ 0 _ rfl; (with_reducible repeat (first | refine blk_drewN ?_ _ | refine blk_drew ?_ | refine blk_alloc ?_ _)); exact BK252.out) Try.underlying36 rfl (by kernel_rfl)) rfl ?_
  exact ⟨by first | rfl | (simp [errW_none, errW_some] <;> rfl) | (simp [*, errW_none, errW_some] <;> rfl), bl2 HB.out GE251.out GE252.out⟩

end Go.Proofs.Ytalgppclaolonaa.XCora
