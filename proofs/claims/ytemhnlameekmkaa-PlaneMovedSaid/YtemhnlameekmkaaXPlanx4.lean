-- Printed by a program of this claim. Not trusted: Lean checks it.
import Derived.Test.YtemhnlameekmkaaXPlanx0
import Derived.Test.YtemhnlameekmkaaXPlanx1
import Derived.Test.YtemhnlameekmkaaXPlanx3
namespace Go.Proofs.Ytemhnlameekmkaa.XPlan
open Go.RowKit Go.Proofs.YtemhnlameekmkaaW.PrintWords Go.Proofs.YtemhnlameekmkaaW.PrintLast Go.Proofs.YtemhnlameekmkaaW.PrintMore
attribute [local go_sem] max2_int min2_int max_two min_two max_three min_three max_four min_four   -- for this text's walks alone
set_option linter.unusedVariables false
set_option linter.unusedSimpArgs false
open XOpen

/-! ### plane_Meet: function 16 -/
def plane_Meet.j0 : Nat → Bool → Int → Int → Int → Int → Int → Int → Int → Int → Option (Bool × Int)
 | 0, _, _, _, _, _, _, _, _, _ => none
 | k + 1, x41, x184000, x184001, x185000, x185001, x186000, x186001, x187000, x187001 => if x41 = true then (some (true, 0)) else ((plane_turn.f x184000 x184001 x185000 x185001 x186000 x186001).bind fun t195 => ((plane_turn.f x184000 x184001 x185000 x185001 x187000 x187001).bind fun t196 => (if (wrap64 (t195 * t196)) < 0 then ((plane_turn.f x186000 x186001 x187000 x187001 x184000 x184001).bind fun t197 => ((plane_turn.f x186000 x186001 x187000 x187001 x185000 x185001).bind fun t198 => (some (decide ((wrap64 (t197 * t198)) < 0), 0)))) else (some (false, 0)))))
def plane_Meet.f (k : Nat) (a0_0 : Int) (a0_1 : Int) (a1_0 : Int) (a1_1 : Int) (a2_0 : Int) (a2_1 : Int) (a3_0 : Int) (a3_1 : Int) : Option (Bool × Int) := (plane_asked.f k (([(⟨a0_0, a0_1⟩ : S26), (⟨a1_0, a1_1⟩ : S26), (⟨a2_0, a2_1⟩ : S26), (⟨a3_0, a3_1⟩ : S26)] : List (S26)))).bind fun t190 => (if t190 = 0 then ((plane_between.f a0_0 a0_1 a1_0 a1_1 a2_0 a2_1).bind fun t191 => (if t191 = true then (plane_Meet.j0 k true a0_0 a0_1 a1_0 a1_1 a2_0 a2_1 a3_0 a3_1) else ((plane_between.f a0_0 a0_1 a1_0 a1_1 a3_0 a3_1).bind fun t192 => (if t192 = true then (plane_Meet.j0 k true a0_0 a0_1 a1_0 a1_1 a2_0 a2_1 a3_0 a3_1) else ((plane_between.f a2_0 a2_1 a3_0 a3_1 a0_0 a0_1).bind fun t193 => (if t193 = true then (plane_Meet.j0 k true a0_0 a0_1 a1_0 a1_1 a2_0 a2_1 a3_0 a3_1) else ((plane_between.f a2_0 a2_1 a3_0 a3_1 a1_0 a1_1).bind fun t194 => (plane_Meet.j0 k t194 a0_0 a0_1 a1_0 a1_1 a2_0 a2_1 a3_0 a3_1)))))))) else (some (false, t190)))
theorem plane_Meet.mono_l : ∀ k, (∀ y0 y1 y2 y3 y4 y5 y6 y7 y8, LeO (plane_Meet.j0 k y0 y1 y2 y3 y4 y5 y6 y7 y8) (plane_Meet.j0 (k + 1) y0 y1 y2 y3 y4 y5 y6 y7 y8))
 | 0 => fun _ _ _ _ _ _ _ _ _ r h => by simp [plane_Meet.j0] at h
 | k + 1 => by
  have ih0 := plane_Meet.mono_l k
  ·intro y0 y1 y2 y3 y4 y5 y6 y7 y8
   unfold plane_Meet.j0
   repeat' first
   | (with_reducible exact ih0 _ _ _ _ _ _ _ _ _)
   | (with_reducible exact plane_asked.mono _ _)
   | (with_reducible exact LeO.refl _)
   | (with_reducible exact LeO.none _)
   | (with_reducible refine LeO.ite ?_ ?_)
   | (with_reducible refine LeO.bind ?_ (fun _ => ?_))
   | exact ih0 _ _ _ _ _ _ _ _ _
   | exact plane_asked.mono _ _
   | exact LeO.none _
   | refine LeO.ite ?_ ?_
   | refine LeO.bind ?_ (fun _ => ?_)
theorem plane_Meet.mono : ∀ a0 a1 a2 a3 a4 a5 a6 a7 k, LeO (plane_Meet.f k a0 a1 a2 a3 a4 a5 a6 a7) (plane_Meet.f (k + 1) a0 a1 a2 a3 a4 a5 a6 a7) := by
 intro a0 a1 a2 a3 a4 a5 a6 a7 k
 have ih0 := plane_Meet.mono_l k
 unfold plane_Meet.f
 repeat' first
   | (with_reducible exact ih0 _ _ _ _ _ _ _ _ _)
   | (with_reducible exact plane_asked.mono _ _)
   | (with_reducible exact LeO.refl _)
   | (with_reducible exact LeO.none _)
   | (with_reducible refine LeO.ite ?_ ?_)
   | (with_reducible refine LeO.bind ?_ (fun _ => ?_))
   | exact ih0 _ _ _ _ _ _ _ _ _
   | exact plane_asked.mono _ _
   | exact LeO.none _
   | refine LeO.ite ?_ ?_
   | refine LeO.bind ?_ (fun _ => ?_)
def plane_Meet.T6 : Bool × List (List Nat × List Nat) := (true, [([], []), ([], []), ([], []), ([0, 1, 2], [0, 1, 2]), ([], []), ([], []), ([], []), ([4, 5, 6, 3], [4, 5, 6]), ([3, 7], [3, 7]), ([8], [8]), ([9, 7], [9]), ([10], [10]), ([10], [10]), ([10], [10]), ([11, 12, 13, 10, 10], [10, 11, 12, 13]), ([10], [10]), ([10], [10]), ([10], [10]), ([15, 16, 17, 14, 10], [10, 15, 16, 17]), ([14, 18, 10], [10, 14, 18]), ([19, 10], [10, 19]), ([10, 20], [10, 20]), ([21, 18, 0, 1, 2, 3, 4, 5, 6, 7, 8, 9, 10, 11, 12, 13, 14, 15, 16, 17, 18, 19, 20, 21], [21]), ([22, 0, 1, 2, 3, 4, 5, 6, 7, 8, 9, 10, 11, 12, 13, 14, 15, 16, 17, 18, 19, 20, 21, 22], [])])
def plane_Meet.B6 : List Nat := [0, 0, 0, 7, 0, 0, 0, 127, 255, 511, 1023, 2047, 2047, 2047, 16383, 2047, 2047, 2047, 262143, 524287, 1048575, 2097151, 4194303, 8388607]
theorem plane_Meet.tab6 : rtab .any (opsOf Try.f16 6) = plane_Meet.T6 := by kernel_rfl
theorem plane_Meet.bits6 : waitsOk plane_Meet.T6.2 plane_Meet.B6 = true := by kernel_rfl
set_option maxHeartbeats 8000000 in
set_option maxRecDepth 100000 in
theorem plane_Meet.calls (k : Nat) (a0_0 : Int) (a0_1 : Int) (a1_0 : Int) (a1_1 : Int) (a2_0 : Int) (a2_1 : Int) (a3_0 : Int) (a3_1 : Int) (r1 : Bool) (r2 : Int) (w : World) (h : plane_Meet.f k a0_0 a0_1 a1_0 a1_1 a2_0 a2_1 a3_0 a3_1 = some (r1, r2)) :
  Calls Try.prog 16 #[.agg #[.int .i64 a0_0, .int .i64 a0_1], .agg #[.int .i64 a1_0, .int .i64 a1_1], .agg #[.int .i64 a2_0, .int .i64 a2_1], .agg #[.int .i64 a3_0, .int .i64 a3_1]] w fun e w' => e = .returned (.tuple #[.bool r1, .int .i64 r2]) ∧ Below w.heap.size w w' := by
 have hu26 := Try.underlying26
 have HB := Aside0.mk (Below.refl w.heap.size w)
 have H : ((plane_asked.f k (([(⟨a0_0, a0_1⟩ : S26), (⟨a1_0, a1_1⟩ : S26), (⟨a2_0, a2_1⟩ : S26), (⟨a3_0, a3_1⟩ : S26)] : List (S26)))).bind fun t190 => (if t190 = 0 then ((plane_between.f a0_0 a0_1 a1_0 a1_1 a2_0 a2_1).bind fun t191 => (if t191 = true then (plane_Meet.j0 k true a0_0 a0_1 a1_0 a1_1 a2_0 a2_1 a3_0 a3_1) else ((plane_between.f a0_0 a0_1 a1_0 a1_1 a3_0 a3_1).bind fun t192 => (if t192 = true then (plane_Meet.j0 k true a0_0 a0_1 a1_0 a1_1 a2_0 a2_1 a3_0 a3_1) else ((plane_between.f a2_0 a2_1 a3_0 a3_1 a0_0 a0_1).bind fun t193 => (if t193 = true then (plane_Meet.j0 k true a0_0 a0_1 a1_0 a1_1 a2_0 a2_1 a3_0 a3_1) else ((plane_between.f a2_0 a2_1 a3_0 a3_1 a1_0 a1_1).bind fun t194 => (plane_Meet.j0 k t194 a0_0 a0_1 a1_0 a1_1 a2_0 a2_1 a3_0 a3_1)))))))) else (some (false, t190)))) = some (r1, r2) := h
 clear h
 obtain ⟨y187, hy187⟩ : ∃ y_ : List (S26), y_ = (([(⟨a0_0, a0_1⟩ : S26), (⟨a1_0, a1_1⟩ : S26), (⟨a2_0, a2_1⟩ : S26), (⟨a3_0, a3_1⟩ : S26)] : List (S26))) := ⟨_, rfl⟩
 replace H : ((plane_asked.f k y187).bind fun t190 => (if t190 = 0 then ((plane_between.f a0_0 a0_1 a1_0 a1_1 a2_0 a2_1).bind fun t191 => (if t191 = true then (plane_Meet.j0 k true a0_0 a0_1 a1_0 a1_1 a2_0 a2_1 a3_0 a3_1) else ((plane_between.f a0_0 a0_1 a1_0 a1_1 a3_0 a3_1).bind fun t192 => (if t192 = true then (plane_Meet.j0 k true a0_0 a0_1 a1_0 a1_1 a2_0 a2_1 a3_0 a3_1) else ((plane_between.f a2_0 a2_1 a3_0 a3_1 a0_0 a0_1).bind fun t193 => (if t193 = true then (plane_Meet.j0 k true a0_0 a0_1 a1_0 a1_1 a2_0 a2_1 a3_0 a3_1) else ((plane_between.f a2_0 a2_1 a3_0 a3_1 a1_0 a1_1).bind fun t194 => (plane_Meet.j0 k t194 a0_0 a0_1 a1_0 a1_1 a2_0 a2_1 a3_0 a3_1)))))))) else (some (false, t190)))) = some (r1, r2) := by first | (rw [hy187]; with_reducible exact H) | (have H2_ := (Option.bind_some _ _).symm.trans H; rw [hy187]; with_reducible exact H2_) | (have H2_ := (Option.bind_some _ _).symm.trans H; with_reducible exact H2_) | with_reducible exact H | (rw [hy187]; exact H) | exact H
 have Ny187 := Aside0.mk hy187
 clear hy187
 replace H := Option.bind_eq_some_iff.mp H
 obtain ⟨t190, A50, H⟩ := H
 replace H : (if t190 = 0 then ((plane_between.f a0_0 a0_1 a1_0 a1_1 a2_0 a2_1).bind fun t191 => (if t191 = true then (plane_Meet.j0 k true a0_0 a0_1 a1_0 a1_1 a2_0 a2_1 a3_0 a3_1) else ((plane_between.f a0_0 a0_1 a1_0 a1_1 a3_0 a3_1).bind fun t192 => (if t192 = true then (plane_Meet.j0 k true a0_0 a0_1 a1_0 a1_1 a2_0 a2_1 a3_0 a3_1) else ((plane_between.f a2_0 a2_1 a3_0 a3_1 a0_0 a0_1).bind fun t193 => (if t193 = true then (plane_Meet.j0 k true a0_0 a0_1 a1_0 a1_1 a2_0 a2_1 a3_0 a3_1) else ((plane_between.f a2_0 a2_1 a3_0 a3_1 a1_0 a1_1).bind fun t194 => (plane_Meet.j0 k t194 a0_0 a0_1 a1_0 a1_1 a2_0 a2_1 a3_0 a3_1)))))))) else (some (false, t190))) = some (r1, r2) := H
 have A5 := Aside0.mk A50
 clear A50
 by_cases c6 : t190 = 0
 ·rw [if_pos c6] at H
  have c6b0 : (t190 == 0) = true := beq_iff_eq.mpr c6
  have c6b1 : (t190 != 0) = false := bne_eq_false_iff_eq.mpr c6
  clear c6
  have HC7 := Aside0.mk H
  clear H
  go_enter Try.func16, Try.ntmps16
  go_upto_region 4 with (first | ((with_reducible refine gate_dst (N := 4) rfl ?_); refine be 4 (#[.int .i64 a0_0, .int .i64 a0_1]) 26 ?_; intro gb183 hg w8 hbox hb; have BK183 := Aside0.mk (hbox); have GW183 := Aside0.mk ((by rw [hg]; exact (below_size (bl0 HB.out)) : w.heap.size ≤ gb183)); have GE183 := GW183; replace HB := Aside0.mk (below_step (bl0 HB.out) hb); clear hb hbox hg) | ((with_reducible refine gate_dst (N := 5) rfl ?_); refine be 5 (#[.int .i64 a1_0, .int .i64 a1_1]) 26 ?_; intro gb184 hg w9 hbox hb; have BK184 := Aside0.mk (hbox); have GW184 := Aside0.mk ((by rw [hg]; exact (below_size (bl1 HB.out GE183.out)) : w.heap.size ≤ gb184)); have GE184 := GW184; have NB183_184 := Aside0.mk ((by rw [hg]; exact Nat.ne_of_lt (lt_ BK183.out) : gb183 ≠ gb184)); have NB184_183 := Aside0.mk ((by rw [hg]; exact Nat.ne_of_gt (lt_ BK183.out) : gb184 ≠ gb183)); replace BK183 := Aside0.mk (bb BK183.out hb); replace HB := Aside0.mk (below_step (bl1 HB.out GE183.out) hb); clear hb hbox hg) | ((with_reducible refine gate_dst (N := 6) rfl ?_); refine be 6 (#[.int .i64 a2_0, .int .i64 a2_1]) 26 ?_; intro gb185 hg w10 hbox hb; have BK185 := Aside0.mk (hbox); have GW185 := Aside0.mk ((by rw [hg]; exact (below_size (bl2 HB.out GE183.out GE184.out)) : w.heap.size ≤ gb185)); have GE185 := GW185; have NB183_185 := Aside0.mk ((by rw [hg]; exact Nat.ne_of_lt (lt_ BK183.out) : gb183 ≠ gb185)); have NB185_183 := Aside0.mk ((by rw [hg]; exact Nat.ne_of_gt (lt_ BK183.out) : gb185 ≠ gb183)); have NB184_185 := Aside0.mk ((by rw [hg]; exact Nat.ne_of_lt (lt_ BK184.out) : gb184 ≠ gb185)); have NB185_184 := Aside0.mk ((by rw [hg]; exact Nat.ne_of_gt (lt_ BK184.out) : gb185 ≠ gb184)); replace BK183 := Aside0.mk (bb BK183.out hb); replace BK184 := Aside0.mk (bb BK184.out hb); replace HB := Aside0.mk (below_step (bl2 HB.out GE183.out GE184.out) hb); clear hb hbox hg) | ((with_reducible refine gate_dst (N := 7) rfl ?_); refine be 7 (#[.int .i64 a3_0, .int .i64 a3_1]) 26 ?_; intro gb186 hg w11 hbox hb; have BK186 := Aside0.mk (hbox); have GW186 := Aside0.mk ((by rw [hg]; exact (below_size (bl3 HB.out GE183.out GE184.out GE185.out)) : w.heap.size ≤ gb186)); have GE186 := GW186; have NB183_186 := Aside0.mk ((by rw [hg]; exact Nat.ne_of_lt (lt_ BK183.out) : gb183 ≠ gb186)); have NB186_183 := Aside0.mk ((by rw [hg]; exact Nat.ne_of_gt (lt_ BK183.out) : gb186 ≠ gb183)); have NB184_186 := Aside0.mk ((by rw [hg]; exact Nat.ne_of_lt (lt_ BK184.out) : gb184 ≠ gb186)); have NB186_184 := Aside0.mk ((by rw [hg]; exact Nat.ne_of_gt (lt_ BK184.out) : gb186 ≠ gb184)); have NB185_186 := Aside0.mk ((by rw [hg]; exact Nat.ne_of_lt (lt_ BK185.out) : gb185 ≠ gb186)); have NB186_185 := Aside0.mk ((by rw [hg]; exact Nat.ne_of_gt (lt_ BK185.out) : gb186 ≠ gb185)); replace BK183 := Aside0.mk (bb BK183.out hb); replace BK184 := Aside0.mk (bb BK184.out hb); replace BK185 := Aside0.mk (bb BK185.out hb); replace HB := Aside0.mk (below_step (bl3 HB.out GE183.out GE184.out GE185.out) hb); clear hb hbox hg; have hnb12 := NB183_184.out; have hnc12 := NB184_183.out; have hnb13 := NB183_185.out; have hnc13 := NB185_183.out; have hnb14 := NB183_186.out; have hnc14 := NB186_183.out; have hcz15_0 : w11.cell? ⟨gb183, 0, none⟩ = some (.int .i64 a0_0) := (blk_cell BK183.out 0).trans rfl; have hcz15_1 : w11.cell? ⟨gb183, 1, none⟩ = some (.int .i64 a0_1) := (blk_cell BK183.out 1).trans rfl; have hfz15_0 := blk_frozen BK183.out 0; have hfz15_1 := blk_frozen BK183.out 1; have hnb16 := NB184_185.out; have hnc16 := NB185_184.out; have hnb17 := NB184_186.out; have hnc17 := NB186_184.out; have hcz18_0 : w11.cell? ⟨gb184, 0, none⟩ = some (.int .i64 a1_0) := (blk_cell BK184.out 0).trans rfl; have hcz18_1 : w11.cell? ⟨gb184, 1, none⟩ = some (.int .i64 a1_1) := (blk_cell BK184.out 1).trans rfl; have hfz18_0 := blk_frozen BK184.out 0; have hfz18_1 := blk_frozen BK184.out 1; have hnb19 := NB185_186.out; have hnc19 := NB186_185.out; have hcz20_0 : w11.cell? ⟨gb185, 0, none⟩ = some (.int .i64 a2_0) := (blk_cell BK185.out 0).trans rfl; have hcz20_1 : w11.cell? ⟨gb185, 1, none⟩ = some (.int .i64 a2_1) := (blk_cell BK185.out 1).trans rfl; have hfz20_0 := blk_frozen BK185.out 0; have hfz20_1 := blk_frozen BK185.out 1; have hcz21_0 : w11.cell? ⟨gb186, 0, none⟩ = some (.int .i64 a3_0) := (blk_cell BK186.out 0).trans rfl; have hcz21_1 : w11.cell? ⟨gb186, 1, none⟩ = some (.int .i64 a3_1) := (blk_cell BK186.out 1).trans rfl; have hfz21_0 := blk_frozen BK186.out 0; have hfz21_1 := blk_frozen BK186.out 1) | ((with_reducible refine gate_dst (N := 15) rfl ?_); refine Kd.R_lit k26 _ 26 ?hg (N := 15) ?hd (xs := ([(⟨a0_0, a0_1⟩ : S26), (⟨a1_0, a1_1⟩ : S26), (⟨a2_0, a2_1⟩ : S26), (⟨a3_0, a3_1⟩ : S26)] : List (S26))) (inner := [.int .i64 a0_0, .int .i64 a0_1, .int .i64 a1_0, .int .i64 a1_1, .int .i64 a2_0, .int .i64 a2_1, .int .i64 a3_0, .int .i64 a3_1]) (ok := fun _ => True) (okp := fun _ => True) ?hr ?hp (fun _ hk => hk) trivial (Below.refl _ _) (Nat.le_refl _) (by simp) ?_; (case hd => rfl); (case hg => rfl); (case hr => first | (go_simp; done) | (go_simp; rfl)); (case hp => exact (Reps.c2 (show Kd.M k26 _ _ _ (⟨a0_0, a0_1⟩ : S26) [.int .i64 a0_0, .int .i64 a0_1] from (k26_mkM _ _ _ (⟨a0_0, a0_1⟩ : S26) )) (Reps.c2 (show Kd.M k26 _ _ _ (⟨a1_0, a1_1⟩ : S26) [.int .i64 a1_0, .int .i64 a1_1] from (k26_mkM _ _ _ (⟨a1_0, a1_1⟩ : S26) )) (Reps.c2 (show Kd.M k26 _ _ _ (⟨a2_0, a2_1⟩ : S26) [.int .i64 a2_0, .int .i64 a2_1] from (k26_mkM _ _ _ (⟨a2_0, a2_1⟩ : S26) )) (Reps.c2 (show Kd.M k26 _ _ _ (⟨a3_0, a3_1⟩ : S26) [.int .i64 a3_0, .int .i64 a3_1] from (k26_mkM _ _ _ (⟨a3_0, a3_1⟩ : S26) )) (Reps.none _ _)))))); intro v188 w22 ho23 hb hg_ hnew_; clear hg_ hnew_; (first | rw [← Ny187.out] at ho23 | (simp only [Int.reduceToNat] at ho23; rw [← Ny187.out] at ho23)); have HO189 := Aside0.mk (Kd.R_lower (Kd.R_newB (Kd.R_newB (Kd.R_newB (Kd.R_newB ho23 (g := gb183) (o := .cells #[.int .i64 a0_0, .int .i64 a0_1] 26 (0, 0)) (bk BK183.out)) (g := gb184) (o := .cells #[.int .i64 a1_0, .int .i64 a1_1] 26 (0, 0)) (bk BK184.out)) (g := gb185) (o := .cells #[.int .i64 a2_0, .int .i64 a2_1] 26 (0, 0)) (bk BK185.out)) (g := gb186) (o := .cells #[.int .i64 a3_0, .int .i64 a3_1] 26 (0, 0)) (bk BK186.out)) (below_size (bl4 HB.out GE183.out GE184.out GE185.out GE186.out))); replace BK183 := Aside0.mk (bb BK183.out hb); replace BK184 := Aside0.mk (bb BK184.out hb); replace BK185 := Aside0.mk (bb BK185.out hb); replace BK186 := Aside0.mk (bb BK186.out hb); replace HB := Aside0.mk (below_step (bl4 HB.out GE183.out GE184.out GE185.out GE186.out) hb); clear hb ho23; obtain ⟨Ao24, co24, eo24⟩ := Kd.R_slice HO189.out; subst eo24) | ((with_reducible refine gate_callee (f := 47) rfl ?_); refine goesL_ (some 16) rfl rfl Try.func47 (by kernel_rfl) rfl #[.slice Ao24 y187.length co24] rfl am ?_; (with_reducible refine (plane_asked.calls k _ _ y187 t190 _ ?side1 ?side2 A5.out).mono ?_); (case side1 => repeat (first | exact (Kd.R_reads' HO189.out).2.2 | (with_reducible refine Kd.C_alloc ?_ _) | (with_reducible refine Kd.C_drewN ?_ _) | (with_reducible refine Kd.C_drew ?_))); (case side2 => exact (Kd.R_reads' HO189.out).2.1); rintro e w25 ⟨rfl, hb⟩; refine ⟨_, rfl, ?_⟩; replace HO189 := Aside0.mk (Kd.R_below (by (with_reducible repeat (first | apply Kd.R_alloc | apply Kd.R_drewN | apply Kd.R_drew)); exact HO189.out) hb); replace BK183 := Aside0.mk (bb BK183.out hb); replace BK184 := Aside0.mk (bb BK184.out hb); replace BK185 := Aside0.mk (bb BK185.out hb); replace BK186 := Aside0.mk (bb BK186.out hb); replace HB := Aside0.mk (below_step (bl4 HB.out GE183.out GE184.out GE185.out GE186.out) hb); (try clear hb); (try clear hb2); (try clear hk); (try clear hi)))
  (try simp only [Act.put, List.setIfInBounds_toArray, List.set_cons_zero, List.set_cons_succ])
  go_cut [41] (fun v41 wc => ∃ (kq : Nat) (x41_6 : Bool), v41 = .bool x41_6 ∧ Aside0 (plane_Meet.j0 kq x41_6 a0_0 a0_1 a1_0 a1_1 a2_0 a2_1 a3_0 a3_1 = some (r1, r2)) ∧ Aside0 (kq ≤ k) ∧ Aside0 (wc.heap[gb183]? = some (.cells #[.int .i64 a0_0, .int .i64 a0_1] 26 (0, 0))) ∧ Aside0 (wc.heap[gb184]? = some (.cells #[.int .i64 a1_0, .int .i64 a1_1] 26 (0, 0))) ∧ Aside0 (wc.heap[gb185]? = some (.cells #[.int .i64 a2_0, .int .i64 a2_1] 26 (0, 0))) ∧ Aside0 (wc.heap[gb186]? = some (.cells #[.int .i64 a3_0, .int .i64 a3_1] 26 (0, 0))) ∧ Aside0 (Below w.heap.size w wc))
  case first =>
   have H := HC7.out
   clear HC7
   replace H := Option.bind_eq_some_iff.mp H
   obtain ⟨t191, A260, H⟩ := H
   replace H : (if t191 = true then (plane_Meet.j0 k true a0_0 a0_1 a1_0 a1_1 a2_0 a2_1 a3_0 a3_1) else ((plane_between.f a0_0 a0_1 a1_0 a1_1 a3_0 a3_1).bind fun t192 => (if t192 = true then (plane_Meet.j0 k true a0_0 a0_1 a1_0 a1_1 a2_0 a2_1 a3_0 a3_1) else ((plane_between.f a2_0 a2_1 a3_0 a3_1 a0_0 a0_1).bind fun t193 => (if t193 = true then (plane_Meet.j0 k true a0_0 a0_1 a1_0 a1_1 a2_0 a2_1 a3_0 a3_1) else ((plane_between.f a2_0 a2_1 a3_0 a3_1 a1_0 a1_1).bind fun t194 => (plane_Meet.j0 k t194 a0_0 a0_1 a1_0 a1_1 a2_0 a2_1 a3_0 a3_1))))))) = some (r1, r2) := H
   have A26 := Aside0.mk A260
   clear A260
   by_cases c27 : t191 = true
   ·subst c27
    have H1 : (plane_Meet.j0 k true a0_0 a0_1 a1_0 a1_1 a2_0 a2_1 a3_0 a3_1) = some (r1, r2) := by rw [if_pos rfl] at H; exact H
    clear H
    have H := H1
    clear H1
    have H' := Aside0.mk H
    clear H
    have hnb28 := NB183_184.out
    have hnc28 := NB184_183.out
    have hnb29 := NB183_185.out
    have hnc29 := NB185_183.out
    have hnb30 := NB183_186.out
    have hnc30 := NB186_183.out
    have hcz31_0 : w25.cell? ⟨gb183, 0, none⟩ = some (.int .i64 a0_0) := (blk_cell BK183.out 0).trans rfl
    have hcz31_1 : w25.cell? ⟨gb183, 1, none⟩ = some (.int .i64 a0_1) := (blk_cell BK183.out 1).trans rfl
    have hfz31_0 := blk_frozen BK183.out 0
    have hfz31_1 := blk_frozen BK183.out 1
    have hnb32 := NB184_185.out
    have hnc32 := NB185_184.out
    have hnb33 := NB184_186.out
    have hnc33 := NB186_184.out
    have hcz34_0 : w25.cell? ⟨gb184, 0, none⟩ = some (.int .i64 a1_0) := (blk_cell BK184.out 0).trans rfl
    have hcz34_1 : w25.cell? ⟨gb184, 1, none⟩ = some (.int .i64 a1_1) := (blk_cell BK184.out 1).trans rfl
    have hfz34_0 := blk_frozen BK184.out 0
    have hfz34_1 := blk_frozen BK184.out 1
    have hnb35 := NB185_186.out
    have hnc35 := NB186_185.out
    have hcz36_0 : w25.cell? ⟨gb185, 0, none⟩ = some (.int .i64 a2_0) := (blk_cell BK185.out 0).trans rfl
    have hcz36_1 : w25.cell? ⟨gb185, 1, none⟩ = some (.int .i64 a2_1) := (blk_cell BK185.out 1).trans rfl
    have hfz36_0 := blk_frozen BK185.out 0
    have hfz36_1 := blk_frozen BK185.out 1
    go_wp2_with (first | ((with_reducible refine gate_callee (f := 50) rfl ?_); refine goesL_ (some 23) rfl rfl Try.func50 (by kernel_rfl) rfl #[.agg #[.int .i64 a0_0, .int .i64 a0_1], .agg #[.int .i64 a1_0, .int .i64 a1_1], .agg #[.int .i64 a2_0, .int .i64 a2_1]] rfl am ?_; (with_reducible refine (plane_between.calls a0_0 a0_1 a1_0 a1_1 a2_0 a2_1 true _ A26.out).mono ?_); rintro e w37 ⟨rfl, hb⟩; refine ⟨_, rfl, ?_⟩; replace HO189 := Aside0.mk (Kd.R_below (by (with_reducible repeat (first | apply Kd.R_alloc | apply Kd.R_drewN | apply Kd.R_drew)); exact HO189.out) hb); replace BK183 := Aside0.mk (bb BK183.out hb); replace BK184 := Aside0.mk (bb BK184.out hb); replace BK185 := Aside0.mk (bb BK185.out hb); replace BK186 := Aside0.mk (bb BK186.out hb); replace HB := Aside0.mk (below_step (bl4 HB.out GE183.out GE184.out GE185.out GE186.out) hb); (try clear hb); (try clear hb2); (try clear hk); (try clear hi)))
    go_meet
    case rel => exact ⟨_, (true), fr, H', ⟨by first | omega | exact Nat.le_refl _⟩, ⟨bk BK183.out⟩, ⟨bk BK184.out⟩, ⟨bk BK185.out⟩, ⟨bk BK186.out⟩, ⟨bl4 HB.out GE183.out GE184.out GE185.out GE186.out⟩⟩
   ·replace c27 := Bool.eq_false_iff.mpr c27
    subst c27
    have H1 : ((plane_between.f a0_0 a0_1 a1_0 a1_1 a3_0 a3_1).bind fun t192 => (if t192 = true then (plane_Meet.j0 k true a0_0 a0_1 a1_0 a1_1 a2_0 a2_1 a3_0 a3_1) else ((plane_between.f a2_0 a2_1 a3_0 a3_1 a0_0 a0_1).bind fun t193 => (if t193 = true then (plane_Meet.j0 k true a0_0 a0_1 a1_0 a1_1 a2_0 a2_1 a3_0 a3_1) else ((plane_between.f a2_0 a2_1 a3_0 a3_1 a1_0 a1_1).bind fun t194 => (plane_Meet.j0 k t194 a0_0 a0_1 a1_0 a1_1 a2_0 a2_1 a3_0 a3_1)))))) = some (r1, r2) := by rw [if_neg (show ¬ (false = true) by decide)] at H; exact H
    clear H
    have H := H1
    clear H1
    replace H := Option.bind_eq_some_iff.mp H
    obtain ⟨t192, A380, H⟩ := H
    replace H : (if t192 = true then (plane_Meet.j0 k true a0_0 a0_1 a1_0 a1_1 a2_0 a2_1 a3_0 a3_1) else ((plane_between.f a2_0 a2_1 a3_0 a3_1 a0_0 a0_1).bind fun t193 => (if t193 = true then (plane_Meet.j0 k true a0_0 a0_1 a1_0 a1_1 a2_0 a2_1 a3_0 a3_1) else ((plane_between.f a2_0 a2_1 a3_0 a3_1 a1_0 a1_1).bind fun t194 => (plane_Meet.j0 k t194 a0_0 a0_1 a1_0 a1_1 a2_0 a2_1 a3_0 a3_1))))) = some (r1, r2) := H
    have A38 := Aside0.mk A380
    clear A380
    by_cases c39 : t192 = true
    ·subst c39
     have H1 : (plane_Meet.j0 k true a0_0 a0_1 a1_0 a1_1 a2_0 a2_1 a3_0 a3_1) = some (r1, r2) := by rw [if_pos rfl] at H; exact H
     clear H
     have H := H1
     clear H1
     have H' := Aside0.mk H
     clear H
     have hnb40 := NB183_184.out
     have hnc40 := NB184_183.out
     have hnb41 := NB183_185.out
     have hnc41 := NB185_183.out
     have hnb42 := NB183_186.out
     have hnc42 := NB186_183.out
     have hcz43_0 : w25.cell? ⟨gb183, 0, none⟩ = some (.int .i64 a0_0) := (blk_cell BK183.out 0).trans rfl
     have hcz43_1 : w25.cell? ⟨gb183, 1, none⟩ = some (.int .i64 a0_1) := (blk_cell BK183.out 1).trans rfl
     have hfz43_0 := blk_frozen BK183.out 0
     have hfz43_1 := blk_frozen BK183.out 1
     have hnb44 := NB184_185.out
     have hnc44 := NB185_184.out
     have hnb45 := NB184_186.out
     have hnc45 := NB186_184.out
     have hcz46_0 : w25.cell? ⟨gb184, 0, none⟩ = some (.int .i64 a1_0) := (blk_cell BK184.out 0).trans rfl
     have hcz46_1 : w25.cell? ⟨gb184, 1, none⟩ = some (.int .i64 a1_1) := (blk_cell BK184.out 1).trans rfl
     have hfz46_0 := blk_frozen BK184.out 0
     have hfz46_1 := blk_frozen BK184.out 1
     have hnb47 := NB185_186.out
     have hnc47 := NB186_185.out
     have hcz48_0 : w25.cell? ⟨gb185, 0, none⟩ = some (.int .i64 a2_0) := (blk_cell BK185.out 0).trans rfl
     have hcz48_1 : w25.cell? ⟨gb185, 1, none⟩ = some (.int .i64 a2_1) := (blk_cell BK185.out 1).trans rfl
     have hfz48_0 := blk_frozen BK185.out 0
     have hfz48_1 := blk_frozen BK185.out 1
     go_wp2_with (first | ((with_reducible refine gate_callee (f := 50) rfl ?_); refine goesL_ (some 23) rfl rfl Try.func50 (by kernel_rfl) rfl #[.agg #[.int .i64 a0_0, .int .i64 a0_1], .agg #[.int .i64 a1_0, .int .i64 a1_1], .agg #[.int .i64 a2_0, .int .i64 a2_1]] rfl am ?_; (with_reducible refine (plane_between.calls a0_0 a0_1 a1_0 a1_1 a2_0 a2_1 false _ A26.out).mono ?_); rintro e w49 ⟨rfl, hb⟩; refine ⟨_, rfl, ?_⟩; replace HO189 := Aside0.mk (Kd.R_below (by (with_reducible repeat (first | apply Kd.R_alloc | apply Kd.R_drewN | apply Kd.R_drew)); exact HO189.out) hb); replace BK183 := Aside0.mk (bb BK183.out hb); replace BK184 := Aside0.mk (bb BK184.out hb); replace BK185 := Aside0.mk (bb BK185.out hb); replace BK186 := Aside0.mk (bb BK186.out hb); replace HB := Aside0.mk (below_step (bl4 HB.out GE183.out GE184.out GE185.out GE186.out) hb); (try clear hb); (try clear hb2); (try clear hk); (try clear hi); have hcz50_0 : w49.cell? ⟨gb183, 0, none⟩ = some (.int .i64 a0_0) := (blk_cell BK183.out 0).trans rfl; have hcz50_1 : w49.cell? ⟨gb183, 1, none⟩ = some (.int .i64 a0_1) := (blk_cell BK183.out 1).trans rfl; have hfz50_0 := blk_frozen BK183.out 0; have hfz50_1 := blk_frozen BK183.out 1; have hcz51_0 : w49.cell? ⟨gb184, 0, none⟩ = some (.int .i64 a1_0) := (blk_cell BK184.out 0).trans rfl; have hcz51_1 : w49.cell? ⟨gb184, 1, none⟩ = some (.int .i64 a1_1) := (blk_cell BK184.out 1).trans rfl; have hfz51_0 := blk_frozen BK184.out 0; have hfz51_1 := blk_frozen BK184.out 1; have hcz52_0 : w49.cell? ⟨gb186, 0, none⟩ = some (.int .i64 a3_0) := (blk_cell BK186.out 0).trans rfl; have hcz52_1 : w49.cell? ⟨gb186, 1, none⟩ = some (.int .i64 a3_1) := (blk_cell BK186.out 1).trans rfl; have hfz52_0 := blk_frozen BK186.out 0; have hfz52_1 := blk_frozen BK186.out 1) | (go_at_call 50; (with_reducible refine (plane_between.calls a0_0 a0_1 a1_0 a1_1 a3_0 a3_1 true _ A38.out).mono ?_); rintro e w53 ⟨rfl, hb⟩; replace HO189 := Aside0.mk (Kd.R_below (by (with_reducible repeat (first | apply Kd.R_alloc | apply Kd.R_drewN | apply Kd.R_drew)); exact HO189.out) hb); replace BK183 := Aside0.mk (bb BK183.out hb); replace BK184 := Aside0.mk (bb BK184.out hb); replace BK185 := Aside0.mk (bb BK185.out hb); replace BK186 := Aside0.mk (bb BK186.out hb); replace HB := Aside0.mk (below_step (bl4 HB.out GE183.out GE184.out GE185.out GE186.out) hb); (try clear hb); (try clear hb2); (try clear hk); (try clear hi)))
     go_meet
     case rel => exact ⟨_, (true), fr, H', ⟨by first | omega | exact Nat.le_refl _⟩, ⟨bk BK183.out⟩, ⟨bk BK184.out⟩, ⟨bk BK185.out⟩, ⟨bk BK186.out⟩, ⟨bl4 HB.out GE183.out GE184.out GE185.out GE186.out⟩⟩
    ·replace c39 := Bool.eq_false_iff.mpr c39
     subst c39
     have H1 : ((plane_between.f a2_0 a2_1 a3_0 a3_1 a0_0 a0_1).bind fun t193 => (if t193 = true then (plane_Meet.j0 k true a0_0 a0_1 a1_0 a1_1 a2_0 a2_1 a3_0 a3_1) else ((plane_between.f a2_0 a2_1 a3_0 a3_1 a1_0 a1_1).bind fun t194 => (plane_Meet.j0 k t194 a0_0 a0_1 a1_0 a1_1 a2_0 a2_1 a3_0 a3_1)))) = some (r1, r2) := by rw [if_neg (show ¬ (false = true) by decide)] at H; exact H
     clear H
     have H := H1
     clear H1
     replace H := Option.bind_eq_some_iff.mp H
     obtain ⟨t193, A540, H⟩ := H
     replace H : (if t193 = true then (plane_Meet.j0 k true a0_0 a0_1 a1_0 a1_1 a2_0 a2_1 a3_0 a3_1) else ((plane_between.f a2_0 a2_1 a3_0 a3_1 a1_0 a1_1).bind fun t194 => (plane_Meet.j0 k t194 a0_0 a0_1 a1_0 a1_1 a2_0 a2_1 a3_0 a3_1))) = some (r1, r2) := H
     have A54 := Aside0.mk A540
     clear A540
     by_cases c55 : t193 = true
     ·subst c55
      have H1 : (plane_Meet.j0 k true a0_0 a0_1 a1_0 a1_1 a2_0 a2_1 a3_0 a3_1) = some (r1, r2) := by rw [if_pos rfl] at H; exact H
      clear H
      have H := H1
      clear H1
      have H' := Aside0.mk H
      clear H
      have hnb56 := NB183_184.out
      have hnc56 := NB184_183.out
      have hnb57 := NB183_185.out
      have hnc57 := NB185_183.out
      have hnb58 := NB183_186.out
      have hnc58 := NB186_183.out
      have hcz59_0 : w25.cell? ⟨gb183, 0, none⟩ = some (.int .i64 a0_0) := (blk_cell BK183.out 0).trans rfl
      have hcz59_1 : w25.cell? ⟨gb183, 1, none⟩ = some (.int .i64 a0_1) := (blk_cell BK183.out 1).trans rfl
      have hfz59_0 := blk_frozen BK183.out 0
      have hfz59_1 := blk_frozen BK183.out 1
      have hnb60 := NB184_185.out
      have hnc60 := NB185_184.out
      have hnb61 := NB184_186.out
      have hnc61 := NB186_184.out
      have hcz62_0 : w25.cell? ⟨gb184, 0, none⟩ = some (.int .i64 a1_0) := (blk_cell BK184.out 0).trans rfl
      have hcz62_1 : w25.cell? ⟨gb184, 1, none⟩ = some (.int .i64 a1_1) := (blk_cell BK184.out 1).trans rfl
      have hfz62_0 := blk_frozen BK184.out 0
      have hfz62_1 := blk_frozen BK184.out 1
      have hnb63 := NB185_186.out
      have hnc63 := NB186_185.out
      have hcz64_0 : w25.cell? ⟨gb185, 0, none⟩ = some (.int .i64 a2_0) := (blk_cell BK185.out 0).trans rfl
      have hcz64_1 : w25.cell? ⟨gb185, 1, none⟩ = some (.int .i64 a2_1) := (blk_cell BK185.out 1).trans rfl
      have hfz64_0 := blk_frozen BK185.out 0
      have hfz64_1 := blk_frozen BK185.out 1
      go_wp2_with (first | ((with_reducible refine gate_callee (f := 50) rfl ?_); refine goesL_ (some 23) rfl rfl Try.func50 (by kernel_rfl) rfl #[.agg #[.int .i64 a0_0, .int .i64 a0_1], .agg #[.int .i64 a1_0, .int .i64 a1_1], .agg #[.int .i64 a2_0, .int .i64 a2_1]] rfl am ?_; (with_reducible refine (plane_between.calls a0_0 a0_1 a1_0 a1_1 a2_0 a2_1 false _ A26.out).mono ?_); rintro e w65 ⟨rfl, hb⟩; refine ⟨_, rfl, ?_⟩; replace HO189 := Aside0.mk (Kd.R_below (by (with_reducible repeat (first | apply Kd.R_alloc | apply Kd.R_drewN | apply Kd.R_drew)); exact HO189.out) hb); replace BK183 := Aside0.mk (bb BK183.out hb); replace BK184 := Aside0.mk (bb BK184.out hb); replace BK185 := Aside0.mk (bb BK185.out hb); replace BK186 := Aside0.mk (bb BK186.out hb); replace HB := Aside0.mk (below_step (bl4 HB.out GE183.out GE184.out GE185.out GE186.out) hb); (try clear hb); (try clear hb2); (try clear hk); (try clear hi); have hcz66_0 : w65.cell? ⟨gb183, 0, none⟩ = some (.int .i64 a0_0) := (blk_cell BK183.out 0).trans rfl; have hcz66_1 : w65.cell? ⟨gb183, 1, none⟩ = some (.int .i64 a0_1) := (blk_cell BK183.out 1).trans rfl; have hfz66_0 := blk_frozen BK183.out 0; have hfz66_1 := blk_frozen BK183.out 1; have hcz67_0 : w65.cell? ⟨gb184, 0, none⟩ = some (.int .i64 a1_0) := (blk_cell BK184.out 0).trans rfl; have hcz67_1 : w65.cell? ⟨gb184, 1, none⟩ = some (.int .i64 a1_1) := (blk_cell BK184.out 1).trans rfl; have hfz67_0 := blk_frozen BK184.out 0; have hfz67_1 := blk_frozen BK184.out 1; have hcz68_0 : w65.cell? ⟨gb186, 0, none⟩ = some (.int .i64 a3_0) := (blk_cell BK186.out 0).trans rfl; have hcz68_1 : w65.cell? ⟨gb186, 1, none⟩ = some (.int .i64 a3_1) := (blk_cell BK186.out 1).trans rfl; have hfz68_0 := blk_frozen BK186.out 0; have hfz68_1 := blk_frozen BK186.out 1) | (go_at_call 50; (with_reducible refine (plane_between.calls a0_0 a0_1 a1_0 a1_1 a3_0 a3_1 false _ A38.out).mono ?_); rintro e w69 ⟨rfl, hb⟩; replace HO189 := Aside0.mk (Kd.R_below (by (with_reducible repeat (first | apply Kd.R_alloc | apply Kd.R_drewN | apply Kd.R_drew)); exact HO189.out) hb); replace BK183 := Aside0.mk (bb BK183.out hb); replace BK184 := Aside0.mk (bb BK184.out hb); replace BK185 := Aside0.mk (bb BK185.out hb); replace BK186 := Aside0.mk (bb BK186.out hb); replace HB := Aside0.mk (below_step (bl4 HB.out GE183.out GE184.out GE185.out GE186.out) hb); (try clear hb); (try clear hb2); (try clear hk); (try clear hi); have hcz70_0 : w69.cell? ⟨gb185, 0, none⟩ = some (.int .i64 a2_0) := (blk_cell BK185.out 0).trans rfl; have hcz70_1 : w69.cell? ⟨gb185, 1, none⟩ = some (.int .i64 a2_1) := (blk_cell BK185.out 1).trans rfl; have hfz70_0 := blk_frozen BK185.out 0; have hfz70_1 := blk_frozen BK185.out 1; have hcz71_0 : w69.cell? ⟨gb186, 0, none⟩ = some (.int .i64 a3_0) := (blk_cell BK186.out 0).trans rfl; have hcz71_1 : w69.cell? ⟨gb186, 1, none⟩ = some (.int .i64 a3_1) := (blk_cell BK186.out 1).trans rfl; have hfz71_0 := blk_frozen BK186.out 0; have hfz71_1 := blk_frozen BK186.out 1; have hcz72_0 : w69.cell? ⟨gb183, 0, none⟩ = some (.int .i64 a0_0) := (blk_cell BK183.out 0).trans rfl; have hcz72_1 : w69.cell? ⟨gb183, 1, none⟩ = some (.int .i64 a0_1) := (blk_cell BK183.out 1).trans rfl; have hfz72_0 := blk_frozen BK183.out 0; have hfz72_1 := blk_frozen BK183.out 1) | (go_at_call 50; (with_reducible refine (plane_between.calls a2_0 a2_1 a3_0 a3_1 a0_0 a0_1 true _ A54.out).mono ?_); rintro e w73 ⟨rfl, hb⟩; replace HO189 := Aside0.mk (Kd.R_below (by (with_reducible repeat (first | apply Kd.R_alloc | apply Kd.R_drewN | apply Kd.R_drew)); exact HO189.out) hb); replace BK183 := Aside0.mk (bb BK183.out hb); replace BK184 := Aside0.mk (bb BK184.out hb); replace BK185 := Aside0.mk (bb BK185.out hb); replace BK186 := Aside0.mk (bb BK186.out hb); replace HB := Aside0.mk (below_step (bl4 HB.out GE183.out GE184.out GE185.out GE186.out) hb); (try clear hb); (try clear hb2); (try clear hk); (try clear hi)))
      go_meet
      case rel => exact ⟨_, (true), fr, H', ⟨by first | omega | exact Nat.le_refl _⟩, ⟨bk BK183.out⟩, ⟨bk BK184.out⟩, ⟨bk BK185.out⟩, ⟨bk BK186.out⟩, ⟨bl4 HB.out GE183.out GE184.out GE185.out GE186.out⟩⟩
     ·replace c55 := Bool.eq_false_iff.mpr c55
      subst c55
      have H1 : ((plane_between.f a2_0 a2_1 a3_0 a3_1 a1_0 a1_1).bind fun t194 => (plane_Meet.j0 k t194 a0_0 a0_1 a1_0 a1_1 a2_0 a2_1 a3_0 a3_1)) = some (r1, r2) := by rw [if_neg (show ¬ (false = true) by decide)] at H; exact H
      clear H
      have H := H1
      clear H1
      replace H := Option.bind_eq_some_iff.mp H
      obtain ⟨t194, A740, H⟩ := H
      replace H : (plane_Meet.j0 k t194 a0_0 a0_1 a1_0 a1_1 a2_0 a2_1 a3_0 a3_1) = some (r1, r2) := H
      have A74 := Aside0.mk A740
      clear A740
      have H' := Aside0.mk H
      clear H
      have hnb75 := NB183_184.out
      have hnc75 := NB184_183.out
      have hnb76 := NB183_185.out
      have hnc76 := NB185_183.out
      have hnb77 := NB183_186.out
      have hnc77 := NB186_183.out
      have hcz78_0 : w25.cell? ⟨gb183, 0, none⟩ = some (.int .i64 a0_0) := (blk_cell BK183.out 0).trans rfl
      have hcz78_1 : w25.cell? ⟨gb183, 1, none⟩ = some (.int .i64 a0_1) := (blk_cell BK183.out 1).trans rfl
      have hfz78_0 := blk_frozen BK183.out 0
      have hfz78_1 := blk_frozen BK183.out 1
      have hnb79 := NB184_185.out
      have hnc79 := NB185_184.out
      have hnb80 := NB184_186.out
      have hnc80 := NB186_184.out
      have hcz81_0 : w25.cell? ⟨gb184, 0, none⟩ = some (.int .i64 a1_0) := (blk_cell BK184.out 0).trans rfl
      have hcz81_1 : w25.cell? ⟨gb184, 1, none⟩ = some (.int .i64 a1_1) := (blk_cell BK184.out 1).trans rfl
      have hfz81_0 := blk_frozen BK184.out 0
      have hfz81_1 := blk_frozen BK184.out 1
      have hnb82 := NB185_186.out
      have hnc82 := NB186_185.out
      have hcz83_0 : w25.cell? ⟨gb185, 0, none⟩ = some (.int .i64 a2_0) := (blk_cell BK185.out 0).trans rfl
      have hcz83_1 : w25.cell? ⟨gb185, 1, none⟩ = some (.int .i64 a2_1) := (blk_cell BK185.out 1).trans rfl
      have hfz83_0 := blk_frozen BK185.out 0
      have hfz83_1 := blk_frozen BK185.out 1
      go_wp2_with (first | ((with_reducible refine gate_callee (f := 50) rfl ?_); refine goesL_ (some 23) rfl rfl Try.func50 (by kernel_rfl) rfl #[.agg #[.int .i64 a0_0, .int .i64 a0_1], .agg #[.int .i64 a1_0, .int .i64 a1_1], .agg #[.int .i64 a2_0, .int .i64 a2_1]] rfl am ?_; (with_reducible refine (plane_between.calls a0_0 a0_1 a1_0 a1_1 a2_0 a2_1 false _ A26.out).mono ?_); rintro e w84 ⟨rfl, hb⟩; refine ⟨_, rfl, ?_⟩; replace HO189 := Aside0.mk (Kd.R_below (by (with_reducible repeat (first | apply Kd.R_alloc | apply Kd.R_drewN | apply Kd.R_drew)); exact HO189.out) hb); replace BK183 := Aside0.mk (bb BK183.out hb); replace BK184 := Aside0.mk (bb BK184.out hb); replace BK185 := Aside0.mk (bb BK185.out hb); replace BK186 := Aside0.mk (bb BK186.out hb); replace HB := Aside0.mk (below_step (bl4 HB.out GE183.out GE184.out GE185.out GE186.out) hb); (try clear hb); (try clear hb2); (try clear hk); (try clear hi); have hcz85_0 : w84.cell? ⟨gb183, 0, none⟩ = some (.int .i64 a0_0) := (blk_cell BK183.out 0).trans rfl; have hcz85_1 : w84.cell? ⟨gb183, 1, none⟩ = some (.int .i64 a0_1) := (blk_cell BK183.out 1).trans rfl; have hfz85_0 := blk_frozen BK183.out 0; have hfz85_1 := blk_frozen BK183.out 1; have hcz86_0 : w84.cell? ⟨gb184, 0, none⟩ = some (.int .i64 a1_0) := (blk_cell BK184.out 0).trans rfl; have hcz86_1 : w84.cell? ⟨gb184, 1, none⟩ = some (.int .i64 a1_1) := (blk_cell BK184.out 1).trans rfl; have hfz86_0 := blk_frozen BK184.out 0; have hfz86_1 := blk_frozen BK184.out 1; have hcz87_0 : w84.cell? ⟨gb186, 0, none⟩ = some (.int .i64 a3_0) := (blk_cell BK186.out 0).trans rfl; have hcz87_1 : w84.cell? ⟨gb186, 1, none⟩ = some (.int .i64 a3_1) := (blk_cell BK186.out 1).trans rfl; have hfz87_0 := blk_frozen BK186.out 0; have hfz87_1 := blk_frozen BK186.out 1) | (go_at_call 50; (with_reducible refine (plane_between.calls a0_0 a0_1 a1_0 a1_1 a3_0 a3_1 false _ A38.out).mono ?_); rintro e w88 ⟨rfl, hb⟩; replace HO189 := Aside0.mk (Kd.R_below (by (with_reducible repeat (first | apply Kd.R_alloc | apply Kd.R_drewN | apply Kd.R_drew)); exact HO189.out) hb); replace BK183 := Aside0.mk (bb BK183.out hb); replace BK184 := Aside0.mk (bb BK184.out hb); replace BK185 := Aside0.mk (bb BK185.out hb); replace BK186 := Aside0.mk (bb BK186.out hb); replace HB := Aside0.mk (below_step (bl4 HB.out GE183.out GE184.out GE185.out GE186.out) hb); (try clear hb); (try clear hb2); (try clear hk); (try clear hi); have hcz89_0 : w88.cell? ⟨gb185, 0, none⟩ = some (.int .i64 a2_0) := (blk_cell BK185.out 0).trans rfl; have hcz89_1 : w88.cell? ⟨gb185, 1, none⟩ = some (.int .i64 a2_1) := (blk_cell BK185.out 1).trans rfl; have hfz89_0 := blk_frozen BK185.out 0; have hfz89_1 := blk_frozen BK185.out 1; have hcz90_0 : w88.cell? ⟨gb186, 0, none⟩ = some (.int .i64 a3_0) := (blk_cell BK186.out 0).trans rfl; have hcz90_1 : w88.cell? ⟨gb186, 1, none⟩ = some (.int .i64 a3_1) := (blk_cell BK186.out 1).trans rfl; have hfz90_0 := blk_frozen BK186.out 0; have hfz90_1 := blk_frozen BK186.out 1; have hcz91_0 : w88.cell? ⟨gb183, 0, none⟩ = some (.int .i64 a0_0) := (blk_cell BK183.out 0).trans rfl; have hcz91_1 : w88.cell? ⟨gb183, 1, none⟩ = some (.int .i64 a0_1) := (blk_cell BK183.out 1).trans rfl; have hfz91_0 := blk_frozen BK183.out 0; have hfz91_1 := blk_frozen BK183.out 1) | (go_at_call 50; (with_reducible refine (plane_between.calls a2_0 a2_1 a3_0 a3_1 a0_0 a0_1 false _ A54.out).mono ?_); rintro e w92 ⟨rfl, hb⟩; replace HO189 := Aside0.mk (Kd.R_below (by (with_reducible repeat (first | apply Kd.R_alloc | apply Kd.R_drewN | apply Kd.R_drew)); exact HO189.out) hb); replace BK183 := Aside0.mk (bb BK183.out hb); replace BK184 := Aside0.mk (bb BK184.out hb); replace BK185 := Aside0.mk (bb BK185.out hb); replace BK186 := Aside0.mk (bb BK186.out hb); replace HB := Aside0.mk (below_step (bl4 HB.out GE183.out GE184.out GE185.out GE186.out) hb); (try clear hb); (try clear hb2); (try clear hk); (try clear hi); have hcz93_0 : w92.cell? ⟨gb185, 0, none⟩ = some (.int .i64 a2_0) := (blk_cell BK185.out 0).trans rfl; have hcz93_1 : w92.cell? ⟨gb185, 1, none⟩ = some (.int .i64 a2_1) := (blk_cell BK185.out 1).trans rfl; have hfz93_0 := blk_frozen BK185.out 0; have hfz93_1 := blk_frozen BK185.out 1; have hcz94_0 : w92.cell? ⟨gb186, 0, none⟩ = some (.int .i64 a3_0) := (blk_cell BK186.out 0).trans rfl; have hcz94_1 : w92.cell? ⟨gb186, 1, none⟩ = some (.int .i64 a3_1) := (blk_cell BK186.out 1).trans rfl; have hfz94_0 := blk_frozen BK186.out 0; have hfz94_1 := blk_frozen BK186.out 1; have hcz95_0 : w92.cell? ⟨gb184, 0, none⟩ = some (.int .i64 a1_0) := (blk_cell BK184.out 0).trans rfl; have hcz95_1 : w92.cell? ⟨gb184, 1, none⟩ = some (.int .i64 a1_1) := (blk_cell BK184.out 1).trans rfl; have hfz95_0 := blk_frozen BK184.out 0; have hfz95_1 := blk_frozen BK184.out 1) | (go_at_call 50; (with_reducible refine (plane_between.calls a2_0 a2_1 a3_0 a3_1 a1_0 a1_1 t194 _ A74.out).mono ?_); rintro e w96 ⟨rfl, hb⟩; replace HO189 := Aside0.mk (Kd.R_below (by (with_reducible repeat (first | apply Kd.R_alloc | apply Kd.R_drewN | apply Kd.R_drew)); exact HO189.out) hb); replace BK183 := Aside0.mk (bb BK183.out hb); replace BK184 := Aside0.mk (bb BK184.out hb); replace BK185 := Aside0.mk (bb BK185.out hb); replace BK186 := Aside0.mk (bb BK186.out hb); replace HB := Aside0.mk (below_step (bl4 HB.out GE183.out GE184.out GE185.out GE186.out) hb); (try clear hb); (try clear hb2); (try clear hk); (try clear hi)))
      go_meet
      case rel => exact ⟨_, (t194), fr, H', ⟨by first | omega | exact Nat.le_refl _⟩, ⟨bk BK183.out⟩, ⟨bk BK184.out⟩, ⟨bk BK185.out⟩, ⟨bk BK186.out⟩, ⟨bl4 HB.out GE183.out GE184.out GE185.out GE186.out⟩⟩
  case rest =>
   clear HC7
   try clear c1
   try clear c2
   try clear p2
   try clear c3
   try clear c4
   try clear c5
   try clear c6
   try clear c6b0
   try clear c6b1
   try clear c7
   try clear c8
   try clear c12
   try clear c13
   try clear c14
   try clear c16
   try clear c17
   try clear c19
   try clear c27
   try clear c28
   try clear c29
   try clear c30
   try clear c32
   try clear c33
   try clear c35
   try clear c39
   try clear c40
   try clear c41
   try clear c42
   try clear c44
   try clear c45
   try clear c47
   try clear c50
   try clear c55
   try clear c56
   try clear c57
   try clear c58
   try clear c60
   try clear c61
   try clear c63
   try clear c75
   try clear c76
   try clear c77
   try clear c79
   try clear c80
   try clear c82
   try clear hcz15_0
   try clear hcz15_1
   try clear hcz18_0
   try clear hcz18_1
   try clear hcz20_0
   try clear hcz20_1
   try clear hcz21_0
   try clear hcz21_1
   try clear hcz31_0
   try clear hcz31_1
   try clear hcz34_0
   try clear hcz34_1
   try clear hcz36_0
   try clear hcz36_1
   try clear hcz43_0
   try clear hcz43_1
   try clear hcz46_0
   try clear hcz46_1
   try clear hcz48_0
   try clear hcz48_1
   try clear hcz50_0
   try clear hcz50_1
   try clear hcz51_0
   try clear hcz51_1
   try clear hcz52_0
   try clear hcz52_1
   try clear hcz59_0
   try clear hcz59_1
   try clear hcz62_0
   try clear hcz62_1
   try clear hcz64_0
   try clear hcz64_1
   try clear hcz66_0
   try clear hcz66_1
   try clear hcz67_0
   try clear hcz67_1
   try clear hcz68_0
   try clear hcz68_1
   try clear hcz70_0
   try clear hcz70_1
   try clear hcz71_0
   try clear hcz71_1
   try clear hcz72_0
   try clear hcz72_1
   try clear hcz78_0
   try clear hcz78_1
   try clear hcz81_0
   try clear hcz81_1
   try clear hcz83_0
   try clear hcz83_1
   try clear hcz85_0
   try clear hcz85_1
   try clear hcz86_0
   try clear hcz86_1
   try clear hcz87_0
   try clear hcz87_1
   try clear hcz89_0
   try clear hcz89_1
   try clear hcz90_0
   try clear hcz90_1
   try clear hcz91_0
   try clear hcz91_1
   try clear hcz93_0
   try clear hcz93_1
   try clear hcz94_0
   try clear hcz94_1
   try clear hcz95_0
   try clear hcz95_1
   try clear hfz15_0
   try clear hfz15_1
   try clear hfz18_0
   try clear hfz18_1
   try clear hfz20_0
   try clear hfz20_1
   try clear hfz21_0
   try clear hfz21_1
   try clear hfz31_0
   try clear hfz31_1
   try clear hfz34_0
   try clear hfz34_1
   try clear hfz36_0
   try clear hfz36_1
   try clear hfz43_0
   try clear hfz43_1
   try clear hfz46_0
   try clear hfz46_1
   try clear hfz48_0
   try clear hfz48_1
   try clear hfz50_0
   try clear hfz50_1
   try clear hfz51_0
   try clear hfz51_1
   try clear hfz52_0
   try clear hfz52_1
   try clear hfz59_0
   try clear hfz59_1
   try clear hfz62_0
   try clear hfz62_1
   try clear hfz64_0
   try clear hfz64_1
   try clear hfz66_0
   try clear hfz66_1
   try clear hfz67_0
   try clear hfz67_1
   try clear hfz68_0
   try clear hfz68_1
   try clear hfz70_0
   try clear hfz70_1
   try clear hfz71_0
   try clear hfz71_1
   try clear hfz72_0
   try clear hfz72_1
   try clear hfz78_0
   try clear hfz78_1
   try clear hfz81_0
   try clear hfz81_1
   try clear hfz83_0
   try clear hfz83_1
   try clear hfz85_0
   try clear hfz85_1
   try clear hfz86_0
   try clear hfz86_1
   try clear hfz87_0
   try clear hfz87_1
   try clear hfz89_0
   try clear hfz89_1
   try clear hfz90_0
   try clear hfz90_1
   try clear hfz91_0
   try clear hfz91_1
   try clear hfz93_0
   try clear hfz93_1
   try clear hfz94_0
   try clear hfz94_1
   try clear hfz95_0
   try clear hfz95_1
   obtain ⟨kq, x41_6, rfl, HA, HJ6, BK183, BK184, BK185, BK186, HB⟩ := hcut
   cases kq with
   | zero => exact absurd HA.out (by simp [plane_Meet.j0])
   | succ kj6 =>
    have H := HA.out
    clear HA
    simp only [plane_Meet.j0] at H
    by_cases c97 : x41_6 = true
    ·subst c97
     have H1 : (some (true, 0)) = some (r1, r2) := by rw [if_pos rfl] at H; exact H
     clear H
     have H := H1
     clear H1
     simp only [Option.some.injEq, Prod.mk.injEq] at H
     obtain ⟨rfl, rfl⟩ := H
     go_wp2
     go_ret2
     exact ⟨by first | rfl | (simp [errW_none, errW_some] <;> rfl) | (simp [*, errW_none, errW_some] <;> rfl), bl4 HB.out GE183.out GE184.out GE185.out GE186.out⟩
    ·replace c97 := Bool.eq_false_iff.mpr c97
     subst c97
     have H1 : ((plane_turn.f a0_0 a0_1 a1_0 a1_1 a2_0 a2_1).bind fun t195 => ((plane_turn.f a0_0 a0_1 a1_0 a1_1 a3_0 a3_1).bind fun t196 => (if (wrap64 (t195 * t196)) < 0 then ((plane_turn.f a2_0 a2_1 a3_0 a3_1 a0_0 a0_1).bind fun t197 => ((plane_turn.f a2_0 a2_1 a3_0 a3_1 a1_0 a1_1).bind fun t198 => (some (decide ((wrap64 (t197 * t198)) < 0), 0)))) else (some (false, 0))))) = some (r1, r2) := by rw [if_neg (show ¬ (false = true) by decide)] at H; exact H
     clear H
     have H := H1
     clear H1
     replace H := Option.bind_eq_some_iff.mp H
     obtain ⟨t195, A980, H⟩ := H
     replace H : ((plane_turn.f a0_0 a0_1 a1_0 a1_1 a3_0 a3_1).bind fun t196 => (if (wrap64 (t195 * t196)) < 0 then ((plane_turn.f a2_0 a2_1 a3_0 a3_1 a0_0 a0_1).bind fun t197 => ((plane_turn.f a2_0 a2_1 a3_0 a3_1 a1_0 a1_1).bind fun t198 => (some (decide ((wrap64 (t197 * t198)) < 0), 0)))) else (some (false, 0)))) = some (r1, r2) := H
     have A98 := Aside0.mk A980
     clear A980
     replace H := Option.bind_eq_some_iff.mp H
     obtain ⟨t196, A990, H⟩ := H
     replace H : (if (wrap64 (t195 * t196)) < 0 then ((plane_turn.f a2_0 a2_1 a3_0 a3_1 a0_0 a0_1).bind fun t197 => ((plane_turn.f a2_0 a2_1 a3_0 a3_1 a1_0 a1_1).bind fun t198 => (some (decide ((wrap64 (t197 * t198)) < 0), 0)))) else (some (false, 0))) = some (r1, r2) := H
     have A99 := Aside0.mk A990
     clear A990
     by_cases c100 : (wrap64 (t195 * t196)) < 0
     ·rw [if_pos c100] at H
      have c100b0 : decide ((wrap64 (t195 * t196)) < 0) = true := decide_eq_true c100
      clear c100
      replace H := Option.bind_eq_some_iff.mp H
      obtain ⟨t197, A1010, H⟩ := H
      replace H : ((plane_turn.f a2_0 a2_1 a3_0 a3_1 a1_0 a1_1).bind fun t198 => (some (decide ((wrap64 (t197 * t198)) < 0), 0))) = some (r1, r2) := H
      have A101 := Aside0.mk A1010
      clear A1010
      replace H := Option.bind_eq_some_iff.mp H
      obtain ⟨t198, A1020, H⟩ := H
      replace H : (some (decide ((wrap64 (t197 * t198)) < 0), 0)) = some (r1, r2) := H
      have A102 := Aside0.mk A1020
      clear A1020
      simp only [Option.some.injEq, Prod.mk.injEq] at H
      obtain ⟨rfl, rfl⟩ := H
      try go_wp2
      replace BK183 := Aside0.mk (blk_drew BK183.out)
      replace BK184 := Aside0.mk (blk_drew BK184.out)
      replace BK185 := Aside0.mk (blk_drew BK185.out)
      replace BK186 := Aside0.mk (blk_drew BK186.out)
      replace HB := Aside0.mk (below_drew1 HB.out)
      refine start_ (n := 24) (S := fun w' => w'.cell? ⟨gb183, 0, none⟩ = some (.int .i64 a0_0) ∧ w'.cell? ⟨gb183, 1, none⟩ = some (.int .i64 a0_1) ∧ w'.cell? ⟨gb184, 0, none⟩ = some (.int .i64 a1_0) ∧ w'.cell? ⟨gb184, 1, none⟩ = some (.int .i64 a1_1) ∧ w'.cell? ⟨gb185, 0, none⟩ = some (.int .i64 a2_0) ∧ w'.cell? ⟨gb185, 1, none⟩ = some (.int .i64 a2_1) ∧ w'.cell? ⟨gb186, 0, none⟩ = some (.int .i64 a3_0) ∧ w'.cell? ⟨gb186, 1, none⟩ = some (.int .i64 a3_1)) (ds := []) (ba 24 0) (by kernel_rfl) rfl rfl ⟨(blk_cell BK183.out 0).trans rfl, (blk_cell BK183.out 1).trans rfl, (blk_cell BK184.out 0).trans rfl, (blk_cell BK184.out 1).trans rfl, (blk_cell BK185.out 0).trans rfl, (blk_cell BK185.out 1).trans rfl, (blk_cell BK186.out 0).trans rfl, (blk_cell BK186.out 1).trans rfl⟩ (fun hHeld => ?_); refine with_tabW plane_Meet.tab6 plane_Meet.bits6 (fun HT_ HW_ => ?_)
      generalize wc.drew = w103 at BK183 BK184 BK185 BK186 HB hHeld ⊢
      refine take_ (i := 0) (N := some 42) (v := ?_) (a' := ?_) (ba 24 1) rfl rfl (take_ofW HT_.out HW_.out (by kernel_rfl)) (fun _ _ _ h => h) (Or.inl ⟨by rfl, ?_⟩) hHeld ?_ ?_
      rotate_left
      ·rintro w' ⟨s0, s1, s2, s3, s4, s5, s6, s7⟩
       go_simp
       with_reducible rfl
      rotate_left
      ·simp only [Act.put, List.setIfInBounds_toArray, List.set_cons_zero, List.set_cons_succ, i64_w, i32_w]
       rfl
      refine take_ (i := 1) (N := some 43) (v := ?_) (a' := ?_) (ba 24 3) rfl rfl (take_ofW HT_.out HW_.out (by kernel_rfl)) (fun _ _ _ h => h) (Or.inl ⟨by rfl, ?_⟩) hHeld ?_ ?_
      rotate_left
      ·rintro w' ⟨s0, s1, s2, s3, s4, s5, s6, s7⟩
       go_simp
       with_reducible rfl
      rotate_left
      ·simp only [Act.put, List.setIfInBounds_toArray, List.set_cons_zero, List.set_cons_succ, i64_w, i32_w]
       rfl
      refine take_ (i := 2) (N := some 44) (v := ?_) (a' := ?_) (ba 24 7) rfl rfl (take_ofW HT_.out HW_.out (by kernel_rfl)) (fun _ _ _ h => h) (Or.inl ⟨by rfl, ?_⟩) hHeld ?_ ?_
      rotate_left
      ·rintro w' ⟨s0, s1, s2, s3, s4, s5, s6, s7⟩
       go_simp
       with_reducible rfl
      rotate_left
      ·simp only [Act.put, List.setIfInBounds_toArray, List.set_cons_zero, List.set_cons_succ, i64_w, i32_w]
       rfl
      refine take_ (i := 4) (N := some 46) (v := ?_) (a' := ?_) (ba 24 23) rfl rfl (take_ofW HT_.out HW_.out (by kernel_rfl)) (fun _ _ _ h => h) (Or.inl ⟨by rfl, ?_⟩) hHeld ?_ ?_
      rotate_left
      ·rintro w' ⟨s0, s1, s2, s3, s4, s5, s6, s7⟩
       go_simp
       with_reducible rfl
      rotate_left
      ·simp only [Act.put, List.setIfInBounds_toArray, List.set_cons_zero, List.set_cons_succ, i64_w, i32_w]
       rfl
      refine take_ (i := 5) (N := some 47) (v := ?_) (a' := ?_) (ba 24 55) rfl rfl (take_ofW HT_.out HW_.out (by kernel_rfl)) (fun _ _ _ h => h) (Or.inl ⟨by rfl, ?_⟩) hHeld ?_ ?_
      rotate_left
      ·rintro w' ⟨s0, s1, s2, s3, s4, s5, s6, s7⟩
       go_simp
       with_reducible rfl
      rotate_left
      ·simp only [Act.put, List.setIfInBounds_toArray, List.set_cons_zero, List.set_cons_succ, i64_w, i32_w]
       rfl
      refine take_ (i := 6) (N := some 48) (v := ?_) (a' := ?_) (ba 24 119) rfl rfl (take_ofW HT_.out HW_.out (by kernel_rfl)) (fun _ _ _ h => h) (Or.inl ⟨by rfl, ?_⟩) hHeld ?_ ?_
      rotate_left
      ·rintro w' ⟨s0, s1, s2, s3, s4, s5, s6, s7⟩
       go_simp
       with_reducible rfl
      rotate_left
      ·simp only [Act.put, List.setIfInBounds_toArray, List.set_cons_zero, List.set_cons_succ, i64_w, i32_w]
       rfl
      refine one_ (i := 3) (N := some 45) (ba 24 127) rfl rfl (one_of HT_.out (by kernel_rfl)) (by decide) (fun K hK => ?_)
      refine goes_ Try.func51 (by kernel_rfl) rfl #[.agg #[.int .i64 a0_0, .int .i64 a0_1], .agg #[.int .i64 a1_0, .int .i64 a1_1], .agg #[.int .i64 a2_0, .int .i64 a2_1]] (by rfl) rfl rfl am ?_
      with_reducible refine (plane_turn.calls a0_0 a0_1 a1_0 a1_1 a2_0 a2_1 t195 _ A98.out).mono ?_
      rintro e w104 ⟨rfl, hb⟩
      refine ⟨_, rfl, ?_⟩
      replace BK183 := Aside0.mk (bb BK183.out hb)
      replace BK184 := Aside0.mk (bb BK184.out hb)
      replace BK185 := Aside0.mk (bb BK185.out hb)
      replace BK186 := Aside0.mk (bb BK186.out hb)
      replace HB := Aside0.mk (below_step (bl4 HB.out GE183.out GE184.out GE185.out GE186.out) hb)
      (try clear hb)
      (try clear hb2)
      (try clear hk)
      (try clear hi)
      refine hK.out _ _ ⟨(blk_cell BK183.out 0).trans rfl, (blk_cell BK183.out 1).trans rfl, (blk_cell BK184.out 0).trans rfl, (blk_cell BK184.out 1).trans rfl, (blk_cell BK185.out 0).trans rfl, (blk_cell BK185.out 1).trans rfl, (blk_cell BK186.out 0).trans rfl, (blk_cell BK186.out 1).trans rfl⟩ (fun hHeld => ?_)
      clear hK K
      refine norm_ (a' := ?_) ?_ ?_
      rotate_left
      ·show Act.put _ (some 45) _ = _
       simp only [Act.put, List.setIfInBounds_toArray, List.set_cons_zero, List.set_cons_succ, i64_w, i32_w]
       rfl
      refine one_ (i := 7) (N := some 49) (ba 24 255) rfl rfl (one_of HT_.out (by kernel_rfl)) (by decide) (fun K hK => ?_)
      refine goes_ Try.func51 (by kernel_rfl) rfl #[.agg #[.int .i64 a0_0, .int .i64 a0_1], .agg #[.int .i64 a1_0, .int .i64 a1_1], .agg #[.int .i64 a3_0, .int .i64 a3_1]] (by rfl) rfl rfl am ?_
      with_reducible refine (plane_turn.calls a0_0 a0_1 a1_0 a1_1 a3_0 a3_1 t196 _ A99.out).mono ?_
      rintro e w105 ⟨rfl, hb⟩
      refine ⟨_, rfl, ?_⟩
      replace BK183 := Aside0.mk (bb BK183.out hb)
      replace BK184 := Aside0.mk (bb BK184.out hb)
      replace BK185 := Aside0.mk (bb BK185.out hb)
      replace BK186 := Aside0.mk (bb BK186.out hb)
      replace HB := Aside0.mk (below_step (bl4 HB.out GE183.out GE184.out GE185.out GE186.out) hb)
      (try clear hb)
      (try clear hb2)
      (try clear hk)
      (try clear hi)
      refine hK.out _ _ ⟨(blk_cell BK183.out 0).trans rfl, (blk_cell BK183.out 1).trans rfl, (blk_cell BK184.out 0).trans rfl, (blk_cell BK184.out 1).trans rfl, (blk_cell BK185.out 0).trans rfl, (blk_cell BK185.out 1).trans rfl, (blk_cell BK186.out 0).trans rfl, (blk_cell BK186.out 1).trans rfl⟩ (fun hHeld => ?_)
      clear hK K
      refine norm_ (a' := ?_) ?_ ?_
      rotate_left
      ·show Act.put _ (some 49) _ = _
       simp only [Act.put, List.setIfInBounds_toArray, List.set_cons_zero, List.set_cons_succ, i64_w, i32_w]
       rfl
      refine pI 8 50 (ba 24 511) HT_.out ?_
      refine pI 9 51 (ba 24 1023) HT_.out ?_
      refine pI 10 52 (ba 24 2047) HT_.out ?_
      refine take_ (i := 11) (N := some 53) (v := ?_) (a' := ?_) (ba 24 4095) rfl rfl (take_ofW HT_.out HW_.out (by kernel_rfl)) (fun _ _ _ h => h) (Or.inl ⟨by rfl, ?_⟩) hHeld ?_ ?_
      rotate_left
      ·rintro w' ⟨s0, s1, s2, s3, s4, s5, s6, s7⟩
       go_simp
       with_reducible rfl
      rotate_left
      ·simp only [Act.put, List.setIfInBounds_toArray, List.set_cons_zero, List.set_cons_succ, i64_w, i32_w]
       rfl
      refine take_ (i := 12) (N := some 54) (v := ?_) (a' := ?_) (ba 24 8191) rfl rfl (take_ofW HT_.out HW_.out (by kernel_rfl)) (fun _ _ _ h => h) (Or.inl ⟨by rfl, ?_⟩) hHeld ?_ ?_
      rotate_left
      ·rintro w' ⟨s0, s1, s2, s3, s4, s5, s6, s7⟩
       go_simp
       with_reducible rfl
      rotate_left
      ·simp only [Act.put, List.setIfInBounds_toArray, List.set_cons_zero, List.set_cons_succ, i64_w, i32_w]
       rfl
      refine take_ (i := 13) (N := some 55) (v := ?_) (a' := ?_) (ba 24 16383) rfl rfl (take_ofW HT_.out HW_.out (by kernel_rfl)) (fun _ _ _ h => h) (Or.inl ⟨by rfl, ?_⟩) hHeld ?_ ?_
      rotate_left
      ·rintro w' ⟨s0, s1, s2, s3, s4, s5, s6, s7⟩
       go_simp
       with_reducible rfl
      rotate_left
      ·simp only [Act.put, List.setIfInBounds_toArray, List.set_cons_zero, List.set_cons_succ, i64_w, i32_w]
       rfl
      refine take_ (i := 15) (N := some 57) (v := ?_) (a' := ?_) (ba 24 49151) rfl rfl (take_ofW HT_.out HW_.out (by kernel_rfl)) (fun _ _ _ h => h) (Or.inl ⟨by rfl, ?_⟩) hHeld ?_ ?_
      rotate_left
      ·rintro w' ⟨s0, s1, s2, s3, s4, s5, s6, s7⟩
       go_simp
       with_reducible rfl
      rotate_left
      ·simp only [Act.put, List.setIfInBounds_toArray, List.set_cons_zero, List.set_cons_succ, i64_w, i32_w]
       rfl
      refine take_ (i := 16) (N := some 58) (v := ?_) (a' := ?_) (ba 24 114687) rfl rfl (take_ofW HT_.out HW_.out (by kernel_rfl)) (fun _ _ _ h => h) (Or.inl ⟨by rfl, ?_⟩) hHeld ?_ ?_
      rotate_left
      ·rintro w' ⟨s0, s1, s2, s3, s4, s5, s6, s7⟩
       go_simp
       with_reducible rfl
      rotate_left
      ·simp only [Act.put, List.setIfInBounds_toArray, List.set_cons_zero, List.set_cons_succ, i64_w, i32_w]
       rfl
      refine take_ (i := 17) (N := some 59) (v := ?_) (a' := ?_) (ba 24 245759) rfl rfl (take_ofW HT_.out HW_.out (by kernel_rfl)) (fun _ _ _ h => h) (Or.inl ⟨by rfl, ?_⟩) hHeld ?_ ?_
      rotate_left
      ·rintro w' ⟨s0, s1, s2, s3, s4, s5, s6, s7⟩
       go_simp
       with_reducible rfl
      rotate_left
      ·simp only [Act.put, List.setIfInBounds_toArray, List.set_cons_zero, List.set_cons_succ, i64_w, i32_w]
       rfl
      refine one_ (i := 14) (N := some 56) (ba 24 262143) rfl rfl (one_of HT_.out (by kernel_rfl)) (by decide) (fun K hK => ?_)
      refine goes_ Try.func51 (by kernel_rfl) rfl #[.agg #[.int .i64 a2_0, .int .i64 a2_1], .agg #[.int .i64 a3_0, .int .i64 a3_1], .agg #[.int .i64 a0_0, .int .i64 a0_1]] (by rfl) rfl rfl am ?_
      with_reducible refine (plane_turn.calls a2_0 a2_1 a3_0 a3_1 a0_0 a0_1 t197 _ A101.out).mono ?_
      rintro e w106 ⟨rfl, hb⟩
      refine ⟨_, rfl, ?_⟩
      replace BK183 := Aside0.mk (bb BK183.out hb)
      replace BK184 := Aside0.mk (bb BK184.out hb)
      replace BK185 := Aside0.mk (bb BK185.out hb)
      replace BK186 := Aside0.mk (bb BK186.out hb)
      replace HB := Aside0.mk (below_step (bl4 HB.out GE183.out GE184.out GE185.out GE186.out) hb)
      (try clear hb)
      (try clear hb2)
      (try clear hk)
      (try clear hi)
      refine hK.out _ _ ⟨(blk_cell BK183.out 0).trans rfl, (blk_cell BK183.out 1).trans rfl, (blk_cell BK184.out 0).trans rfl, (blk_cell BK184.out 1).trans rfl, (blk_cell BK185.out 0).trans rfl, (blk_cell BK185.out 1).trans rfl, (blk_cell BK186.out 0).trans rfl, (blk_cell BK186.out 1).trans rfl⟩ (fun hHeld => ?_)
      clear hK K
      refine norm_ (a' := ?_) ?_ ?_
      rotate_left
      ·show Act.put _ (some 56) _ = _
       simp only [Act.put, List.setIfInBounds_toArray, List.set_cons_zero, List.set_cons_succ, i64_w, i32_w]
       rfl
      refine one_ (i := 18) (N := some 60) (ba 24 524287) rfl rfl (one_of HT_.out (by kernel_rfl)) (by decide) (fun K hK => ?_)
      refine goes_ Try.func51 (by kernel_rfl) rfl #[.agg #[.int .i64 a2_0, .int .i64 a2_1], .agg #[.int .i64 a3_0, .int .i64 a3_1], .agg #[.int .i64 a1_0, .int .i64 a1_1]] (by rfl) rfl rfl am ?_
      with_reducible refine (plane_turn.calls a2_0 a2_1 a3_0 a3_1 a1_0 a1_1 t198 _ A102.out).mono ?_
      rintro e w107 ⟨rfl, hb⟩
      refine ⟨_, rfl, ?_⟩
      replace BK183 := Aside0.mk (bb BK183.out hb)
      replace BK184 := Aside0.mk (bb BK184.out hb)
      replace BK185 := Aside0.mk (bb BK185.out hb)
      replace BK186 := Aside0.mk (bb BK186.out hb)
      replace HB := Aside0.mk (below_step (bl4 HB.out GE183.out GE184.out GE185.out GE186.out) hb)
      (try clear hb)
      (try clear hb2)
      (try clear hk)
      (try clear hi)
      refine hK.out _ _ ⟨(blk_cell BK183.out 0).trans rfl, (blk_cell BK183.out 1).trans rfl, (blk_cell BK184.out 0).trans rfl, (blk_cell BK184.out 1).trans rfl, (blk_cell BK185.out 0).trans rfl, (blk_cell BK185.out 1).trans rfl, (blk_cell BK186.out 0).trans rfl, (blk_cell BK186.out 1).trans rfl⟩ (fun hHeld => ?_)
      clear hK K
      refine norm_ (a' := ?_) ?_ ?_
      rotate_left
      ·show Act.put _ (some 60) _ = _
       simp only [Act.put, List.setIfInBounds_toArray, List.set_cons_zero, List.set_cons_succ, i64_w, i32_w]
       rfl
      refine pI 19 61 (ba 24 1048575) HT_.out ?_
      refine pI 20 62 (ba 24 2097151) HT_.out ?_
      refine pI 21 63 (ba 24 4194303) HT_.out ?_
      refine pI 22 8 (ba 24 8388607) HT_.out ?_
      refine pI 23 9 (ba 24 16777215) HT_.out ?_
      refine done_ (done_of HT_.out (by kernel_rfl)) ?_
      try go_wp2
      go_ret2
      exact ⟨by first | rfl | (simp [errW_none, errW_some] <;> rfl) | (simp [*, errW_none, errW_some] <;> rfl), bl4 HB.out GE183.out GE184.out GE185.out GE186.out⟩
     ·rw [if_neg c100] at H
      have c100b0 : decide ((wrap64 (t195 * t196)) < 0) = false := decide_eq_false c100
      clear c100
      simp only [Option.some.injEq, Prod.mk.injEq] at H
      obtain ⟨rfl, rfl⟩ := H
      try go_wp2
      replace BK183 := Aside0.mk (blk_drew BK183.out)
      replace BK184 := Aside0.mk (blk_drew BK184.out)
      replace BK185 := Aside0.mk (blk_drew BK185.out)
      replace BK186 := Aside0.mk (blk_drew BK186.out)
      replace HB := Aside0.mk (below_drew1 HB.out)
      refine start_ (n := 24) (S := fun w' => w'.cell? ⟨gb183, 0, none⟩ = some (.int .i64 a0_0) ∧ w'.cell? ⟨gb183, 1, none⟩ = some (.int .i64 a0_1) ∧ w'.cell? ⟨gb184, 0, none⟩ = some (.int .i64 a1_0) ∧ w'.cell? ⟨gb184, 1, none⟩ = some (.int .i64 a1_1) ∧ w'.cell? ⟨gb185, 0, none⟩ = some (.int .i64 a2_0) ∧ w'.cell? ⟨gb185, 1, none⟩ = some (.int .i64 a2_1) ∧ w'.cell? ⟨gb186, 0, none⟩ = some (.int .i64 a3_0) ∧ w'.cell? ⟨gb186, 1, none⟩ = some (.int .i64 a3_1)) (ds := []) (ba 24 0) (by kernel_rfl) rfl rfl ⟨(blk_cell BK183.out 0).trans rfl, (blk_cell BK183.out 1).trans rfl, (blk_cell BK184.out 0).trans rfl, (blk_cell BK184.out 1).trans rfl, (blk_cell BK185.out 0).trans rfl, (blk_cell BK185.out 1).trans rfl, (blk_cell BK186.out 0).trans rfl, (blk_cell BK186.out 1).trans rfl⟩ (fun hHeld => ?_); refine with_tabW plane_Meet.tab6 plane_Meet.bits6 (fun HT_ HW_ => ?_)
      generalize wc.drew = w108 at BK183 BK184 BK185 BK186 HB hHeld ⊢
      refine take_ (i := 0) (N := some 42) (v := ?_) (a' := ?_) (ba 24 1) rfl rfl (take_ofW HT_.out HW_.out (by kernel_rfl)) (fun _ _ _ h => h) (Or.inl ⟨by rfl, ?_⟩) hHeld ?_ ?_
      rotate_left
      ·rintro w' ⟨s0, s1, s2, s3, s4, s5, s6, s7⟩
       go_simp
       with_reducible rfl
      rotate_left
      ·simp only [Act.put, List.setIfInBounds_toArray, List.set_cons_zero, List.set_cons_succ, i64_w, i32_w]
       rfl
      refine take_ (i := 1) (N := some 43) (v := ?_) (a' := ?_) (ba 24 3) rfl rfl (take_ofW HT_.out HW_.out (by kernel_rfl)) (fun _ _ _ h => h) (Or.inl ⟨by rfl, ?_⟩) hHeld ?_ ?_
      rotate_left
      ·rintro w' ⟨s0, s1, s2, s3, s4, s5, s6, s7⟩
       go_simp
       with_reducible rfl
      rotate_left
      ·simp only [Act.put, List.setIfInBounds_toArray, List.set_cons_zero, List.set_cons_succ, i64_w, i32_w]
       rfl
      refine take_ (i := 2) (N := some 44) (v := ?_) (a' := ?_) (ba 24 7) rfl rfl (take_ofW HT_.out HW_.out (by kernel_rfl)) (fun _ _ _ h => h) (Or.inl ⟨by rfl, ?_⟩) hHeld ?_ ?_
      rotate_left
      ·rintro w' ⟨s0, s1, s2, s3, s4, s5, s6, s7⟩
       go_simp
       with_reducible rfl
      rotate_left
      ·simp only [Act.put, List.setIfInBounds_toArray, List.set_cons_zero, List.set_cons_succ, i64_w, i32_w]
       rfl
      refine take_ (i := 4) (N := some 46) (v := ?_) (a' := ?_) (ba 24 23) rfl rfl (take_ofW HT_.out HW_.out (by kernel_rfl)) (fun _ _ _ h => h) (Or.inl ⟨by rfl, ?_⟩) hHeld ?_ ?_
      rotate_left
      ·rintro w' ⟨s0, s1, s2, s3, s4, s5, s6, s7⟩
       go_simp
       with_reducible rfl
      rotate_left
      ·simp only [Act.put, List.setIfInBounds_toArray, List.set_cons_zero, List.set_cons_succ, i64_w, i32_w]
       rfl
      refine take_ (i := 5) (N := some 47) (v := ?_) (a' := ?_) (ba 24 55) rfl rfl (take_ofW HT_.out HW_.out (by kernel_rfl)) (fun _ _ _ h => h) (Or.inl ⟨by rfl, ?_⟩) hHeld ?_ ?_
      rotate_left
      ·rintro w' ⟨s0, s1, s2, s3, s4, s5, s6, s7⟩
       go_simp
       with_reducible rfl
      rotate_left
      ·simp only [Act.put, List.setIfInBounds_toArray, List.set_cons_zero, List.set_cons_succ, i64_w, i32_w]
       rfl
      refine take_ (i := 6) (N := some 48) (v := ?_) (a' := ?_) (ba 24 119) rfl rfl (take_ofW HT_.out HW_.out (by kernel_rfl)) (fun _ _ _ h => h) (Or.inl ⟨by rfl, ?_⟩) hHeld ?_ ?_
      rotate_left
      ·rintro w' ⟨s0, s1, s2, s3, s4, s5, s6, s7⟩
       go_simp
       with_reducible rfl
      rotate_left
      ·simp only [Act.put, List.setIfInBounds_toArray, List.set_cons_zero, List.set_cons_succ, i64_w, i32_w]
       rfl
      refine one_ (i := 3) (N := some 45) (ba 24 127) rfl rfl (one_of HT_.out (by kernel_rfl)) (by decide) (fun K hK => ?_)
      refine goes_ Try.func51 (by kernel_rfl) rfl #[.agg #[.int .i64 a0_0, .int .i64 a0_1], .agg #[.int .i64 a1_0, .int .i64 a1_1], .agg #[.int .i64 a2_0, .int .i64 a2_1]] (by rfl) rfl rfl am ?_
      with_reducible refine (plane_turn.calls a0_0 a0_1 a1_0 a1_1 a2_0 a2_1 t195 _ A98.out).mono ?_
      rintro e w109 ⟨rfl, hb⟩
      refine ⟨_, rfl, ?_⟩
      replace BK183 := Aside0.mk (bb BK183.out hb)
      replace BK184 := Aside0.mk (bb BK184.out hb)
      replace BK185 := Aside0.mk (bb BK185.out hb)
      replace BK186 := Aside0.mk (bb BK186.out hb)
      replace HB := Aside0.mk (below_step (bl4 HB.out GE183.out GE184.out GE185.out GE186.out) hb)
      (try clear hb)
      (try clear hb2)
      (try clear hk)
      (try clear hi)
      refine hK.out _ _ ⟨(blk_cell BK183.out 0).trans rfl, (blk_cell BK183.out 1).trans rfl, (blk_cell BK184.out 0).trans rfl, (blk_cell BK184.out 1).trans rfl, (blk_cell BK185.out 0).trans rfl, (blk_cell BK185.out 1).trans rfl, (blk_cell BK186.out 0).trans rfl, (blk_cell BK186.out 1).trans rfl⟩ (fun hHeld => ?_)
      clear hK K
      refine norm_ (a' := ?_) ?_ ?_
      rotate_left
      ·show Act.put _ (some 45) _ = _
       simp only [Act.put, List.setIfInBounds_toArray, List.set_cons_zero, List.set_cons_succ, i64_w, i32_w]
       rfl
      refine one_ (i := 7) (N := some 49) (ba 24 255) rfl rfl (one_of HT_.out (by kernel_rfl)) (by decide) (fun K hK => ?_)
      refine goes_ Try.func51 (by kernel_rfl) rfl #[.agg #[.int .i64 a0_0, .int .i64 a0_1], .agg #[.int .i64 a1_0, .int .i64 a1_1], .agg #[.int .i64 a3_0, .int .i64 a3_1]] (by rfl) rfl rfl am ?_
      with_reducible refine (plane_turn.calls a0_0 a0_1 a1_0 a1_1 a3_0 a3_1 t196 _ A99.out).mono ?_
      rintro e w110 ⟨rfl, hb⟩
      refine ⟨_, rfl, ?_⟩
      replace BK183 := Aside0.mk (bb BK183.out hb)
      replace BK184 := Aside0.mk (bb BK184.out hb)
      replace BK185 := Aside0.mk (bb BK185.out hb)
      replace BK186 := Aside0.mk (bb BK186.out hb)
      replace HB := Aside0.mk (below_step (bl4 HB.out GE183.out GE184.out GE185.out GE186.out) hb)
      (try clear hb)
      (try clear hb2)
      (try clear hk)
      (try clear hi)
      refine hK.out _ _ ⟨(blk_cell BK183.out 0).trans rfl, (blk_cell BK183.out 1).trans rfl, (blk_cell BK184.out 0).trans rfl, (blk_cell BK184.out 1).trans rfl, (blk_cell BK185.out 0).trans rfl, (blk_cell BK185.out 1).trans rfl, (blk_cell BK186.out 0).trans rfl, (blk_cell BK186.out 1).trans rfl⟩ (fun hHeld => ?_)
      clear hK K
      refine norm_ (a' := ?_) ?_ ?_
      rotate_left
      ·show Act.put _ (some 49) _ = _
       simp only [Act.put, List.setIfInBounds_toArray, List.set_cons_zero, List.set_cons_succ, i64_w, i32_w]
       rfl
      refine pI 8 50 (ba 24 511) HT_.out ?_
      refine pI 9 51 (ba 24 1023) HT_.out ?_
      refine pI 10 52 (ba 24 2047) HT_.out ?_
      refine pO 11 53 (ba 24 4095) HT_.out ?_
      refine pO 12 54 (ba 24 8191) HT_.out ?_
      refine pO 13 55 (ba 24 16383) HT_.out ?_
      refine pO 14 56 (ba 24 32767) HT_.out ?_
      refine pO 15 57 (ba 24 65535) HT_.out ?_
      refine pO 16 58 (ba 24 131071) HT_.out ?_
      refine pO 17 59 (ba 24 262143) HT_.out ?_
      refine pO 18 60 (ba 24 524287) HT_.out ?_
      refine pO 19 61 (ba 24 1048575) HT_.out ?_
      refine pO 20 62 (ba 24 2097151) HT_.out ?_
      refine pI 21 63 (ba 24 4194303) HT_.out ?_
      refine pI 22 8 (ba 24 8388607) HT_.out ?_
      refine pI 23 9 (ba 24 16777215) HT_.out ?_
      refine done_ (done_of HT_.out (by kernel_rfl)) ?_
      try go_wp2
      go_ret2
      exact ⟨by first | rfl | (simp [errW_none, errW_some] <;> rfl) | (simp [*, errW_none, errW_some] <;> rfl), bl4 HB.out GE183.out GE184.out GE185.out GE186.out⟩
 ·rw [if_neg c6] at H
  have c6b0 : (t190 == 0) = false := beq_eq_false_iff_ne.mpr c6
  have c6b1 : (t190 != 0) = true := bne_iff_ne.mpr c6
  simp only [Option.some.injEq, Prod.mk.injEq] at H
  obtain ⟨rfl, rfl⟩ := H
  go_enter Try.func16, Try.ntmps16
  go_wp2_with (first | ((with_reducible refine gate_dst (N := 4) rfl ?_); refine be 4 (#[.int .i64 a0_0, .int .i64 a0_1]) 26 ?_; intro gb183 hg w111 hbox hb; have BK183 := Aside0.mk (hbox); have GW183 := Aside0.mk ((by rw [hg]; exact (below_size (bl0 HB.out)) : w.heap.size ≤ gb183)); have GE183 := GW183; replace HB := Aside0.mk (below_step (bl0 HB.out) hb); clear hb hbox hg) | ((with_reducible refine gate_dst (N := 5) rfl ?_); refine be 5 (#[.int .i64 a1_0, .int .i64 a1_1]) 26 ?_; intro gb184 hg w112 hbox hb; have BK184 := Aside0.mk (hbox); have GW184 := Aside0.mk ((by rw [hg]; exact (below_size (bl1 HB.out GE183.out)) : w.heap.size ≤ gb184)); have GE184 := GW184; have NB183_184 := Aside0.mk ((by rw [hg]; exact Nat.ne_of_lt (lt_ BK183.out) : gb183 ≠ gb184)); have NB184_183 := Aside0.mk ((by rw [hg]; exact Nat.ne_of_gt (lt_ BK183.out) : gb184 ≠ gb183)); replace BK183 := Aside0.mk (bb BK183.out hb); replace HB := Aside0.mk (below_step (bl1 HB.out GE183.out) hb); clear hb hbox hg) | ((with_reducible refine gate_dst (N := 6) rfl ?_); refine be 6 (#[.int .i64 a2_0, .int .i64 a2_1]) 26 ?_; intro gb185 hg w113 hbox hb; have BK185 := Aside0.mk (hbox); have GW185 := Aside0.mk ((by rw [hg]; exact (below_size (bl2 HB.out GE183.out GE184.out)) : w.heap.size ≤ gb185)); have GE185 := GW185; have NB183_185 := Aside0.mk ((by rw [hg]; exact Nat.ne_of_lt (lt_ BK183.out) : gb183 ≠ gb185)); have NB185_183 := Aside0.mk ((by rw [hg]; exact Nat.ne_of_gt (lt_ BK183.out) : gb185 ≠ gb183)); have NB184_185 := Aside0.mk ((by rw [hg]; exact Nat.ne_of_lt (lt_ BK184.out) : gb184 ≠ gb185)); have NB185_184 := Aside0.mk ((by rw [hg]; exact Nat.ne_of_gt (lt_ BK184.out) : gb185 ≠ gb184)); replace BK183 := Aside0.mk (bb BK183.out hb); replace BK184 := Aside0.mk (bb BK184.out hb); replace HB := Aside0.mk (below_step (bl2 HB.out GE183.out GE184.out) hb); clear hb hbox hg) | ((with_reducible refine gate_dst (N := 7) rfl ?_); refine be 7 (#[.int .i64 a3_0, .int .i64 a3_1]) 26 ?_; intro gb186 hg w114 hbox hb; have BK186 := Aside0.mk (hbox); have GW186 := Aside0.mk ((by rw [hg]; exact (below_size (bl3 HB.out GE183.out GE184.out GE185.out)) : w.heap.size ≤ gb186)); have GE186 := GW186; have NB183_186 := Aside0.mk ((by rw [hg]; exact Nat.ne_of_lt (lt_ BK183.out) : gb183 ≠ gb186)); have NB186_183 := Aside0.mk ((by rw [hg]; exact Nat.ne_of_gt (lt_ BK183.out) : gb186 ≠ gb183)); have NB184_186 := Aside0.mk ((by rw [hg]; exact Nat.ne_of_lt (lt_ BK184.out) : gb184 ≠ gb186)); have NB186_184 := Aside0.mk ((by rw [hg]; exact Nat.ne_of_gt (lt_ BK184.out) : gb186 ≠ gb184)); have NB185_186 := Aside0.mk ((by rw [hg]; exact Nat.ne_of_lt (lt_ BK185.out) : gb185 ≠ gb186)); have NB186_185 := Aside0.mk ((by rw [hg]; exact Nat.ne_of_gt (lt_ BK185.out) : gb186 ≠ gb185)); replace BK183 := Aside0.mk (bb BK183.out hb); replace BK184 := Aside0.mk (bb BK184.out hb); replace BK185 := Aside0.mk (bb BK185.out hb); replace HB := Aside0.mk (below_step (bl3 HB.out GE183.out GE184.out GE185.out) hb); clear hb hbox hg; have hnb115 := NB183_184.out; have hnc115 := NB184_183.out; have hnb116 := NB183_185.out; have hnc116 := NB185_183.out; have hnb117 := NB183_186.out; have hnc117 := NB186_183.out; have hcz118_0 : w114.cell? ⟨gb183, 0, none⟩ = some (.int .i64 a0_0) := (blk_cell BK183.out 0).trans rfl; have hcz118_1 : w114.cell? ⟨gb183, 1, none⟩ = some (.int .i64 a0_1) := (blk_cell BK183.out 1).trans rfl; have hfz118_0 := blk_frozen BK183.out 0; have hfz118_1 := blk_frozen BK183.out 1; have hnb119 := NB184_185.out; have hnc119 := NB185_184.out; have hnb120 := NB184_186.out; have hnc120 := NB186_184.out; have hcz121_0 : w114.cell? ⟨gb184, 0, none⟩ = some (.int .i64 a1_0) := (blk_cell BK184.out 0).trans rfl; have hcz121_1 : w114.cell? ⟨gb184, 1, none⟩ = some (.int .i64 a1_1) := (blk_cell BK184.out 1).trans rfl; have hfz121_0 := blk_frozen BK184.out 0; have hfz121_1 := blk_frozen BK184.out 1; have hnb122 := NB185_186.out; have hnc122 := NB186_185.out; have hcz123_0 : w114.cell? ⟨gb185, 0, none⟩ = some (.int .i64 a2_0) := (blk_cell BK185.out 0).trans rfl; have hcz123_1 : w114.cell? ⟨gb185, 1, none⟩ = some (.int .i64 a2_1) := (blk_cell BK185.out 1).trans rfl; have hfz123_0 := blk_frozen BK185.out 0; have hfz123_1 := blk_frozen BK185.out 1; have hcz124_0 : w114.cell? ⟨gb186, 0, none⟩ = some (.int .i64 a3_0) := (blk_cell BK186.out 0).trans rfl; have hcz124_1 : w114.cell? ⟨gb186, 1, none⟩ = some (.int .i64 a3_1) := (blk_cell BK186.out 1).trans rfl; have hfz124_0 := blk_frozen BK186.out 0; have hfz124_1 := blk_frozen BK186.out 1) | ((with_reducible refine gate_dst (N := 15) rfl ?_); refine Kd.R_lit k26 _ 26 ?hg (N := 15) ?hd (xs := ([(⟨a0_0, a0_1⟩ : S26), (⟨a1_0, a1_1⟩ : S26), (⟨a2_0, a2_1⟩ : S26), (⟨a3_0, a3_1⟩ : S26)] : List (S26))) (inner := [.int .i64 a0_0, .int .i64 a0_1, .int .i64 a1_0, .int .i64 a1_1, .int .i64 a2_0, .int .i64 a2_1, .int .i64 a3_0, .int .i64 a3_1]) (ok := fun _ => True) (okp := fun _ => True) ?hr ?hp (fun _ hk => hk) trivial (Below.refl _ _) (Nat.le_refl _) (by simp) ?_; (case hd => rfl); (case hg => rfl); (case hr => first | (go_simp; done) | (go_simp; rfl)); (case hp => exact (Reps.c2 (show Kd.M k26 _ _ _ (⟨a0_0, a0_1⟩ : S26) [.int .i64 a0_0, .int .i64 a0_1] from (k26_mkM _ _ _ (⟨a0_0, a0_1⟩ : S26) )) (Reps.c2 (show Kd.M k26 _ _ _ (⟨a1_0, a1_1⟩ : S26) [.int .i64 a1_0, .int .i64 a1_1] from (k26_mkM _ _ _ (⟨a1_0, a1_1⟩ : S26) )) (Reps.c2 (show Kd.M k26 _ _ _ (⟨a2_0, a2_1⟩ : S26) [.int .i64 a2_0, .int .i64 a2_1] from (k26_mkM _ _ _ (⟨a2_0, a2_1⟩ : S26) )) (Reps.c2 (show Kd.M k26 _ _ _ (⟨a3_0, a3_1⟩ : S26) [.int .i64 a3_0, .int .i64 a3_1] from (k26_mkM _ _ _ (⟨a3_0, a3_1⟩ : S26) )) (Reps.none _ _)))))); intro v188 w125 ho126 hb hg_ hnew_; clear hg_ hnew_; (first | rw [← Ny187.out] at ho126 | (simp only [Int.reduceToNat] at ho126; rw [← Ny187.out] at ho126)); have HO189 := Aside0.mk (Kd.R_lower (Kd.R_newB (Kd.R_newB (Kd.R_newB (Kd.R_newB ho126 (g := gb183) (o := .cells #[.int .i64 a0_0, .int .i64 a0_1] 26 (0, 0)) (bk BK183.out)) (g := gb184) (o := .cells #[.int .i64 a1_0, .int .i64 a1_1] 26 (0, 0)) (bk BK184.out)) (g := gb185) (o := .cells #[.int .i64 a2_0, .int .i64 a2_1] 26 (0, 0)) (bk BK185.out)) (g := gb186) (o := .cells #[.int .i64 a3_0, .int .i64 a3_1] 26 (0, 0)) (bk BK186.out)) (below_size (bl4 HB.out GE183.out GE184.out GE185.out GE186.out))); replace BK183 := Aside0.mk (bb BK183.out hb); replace BK184 := Aside0.mk (bb BK184.out hb); replace BK185 := Aside0.mk (bb BK185.out hb); replace BK186 := Aside0.mk (bb BK186.out hb); replace HB := Aside0.mk (below_step (bl4 HB.out GE183.out GE184.out GE185.out GE186.out) hb); clear hb ho126; obtain ⟨Ao127, co127, eo127⟩ := Kd.R_slice HO189.out; subst eo127) | ((with_reducible refine gate_callee (f := 47) rfl ?_); refine goesL_ (some 16) rfl rfl Try.func47 (by kernel_rfl) rfl #[.slice Ao127 y187.length co127] rfl am ?_; (with_reducible refine (plane_asked.calls k _ _ y187 t190 _ ?side1 ?side2 A5.out).mono ?_); (case side1 => repeat (first | exact (Kd.R_reads' HO189.out).2.2 | (with_reducible refine Kd.C_alloc ?_ _) | (with_reducible refine Kd.C_drewN ?_ _) | (with_reducible refine Kd.C_drew ?_))); (case side2 => exact (Kd.R_reads' HO189.out).2.1); rintro e w128 ⟨rfl, hb⟩; refine ⟨_, rfl, ?_⟩; replace HO189 := Aside0.mk (Kd.R_below (by (with_reducible repeat (first | apply Kd.R_alloc | apply Kd.R_drewN | apply Kd.R_drew)); exact HO189.out) hb); replace BK183 := Aside0.mk (bb BK183.out hb); replace BK184 := Aside0.mk (bb BK184.out hb); replace BK185 := Aside0.mk (bb BK185.out hb); replace BK186 := Aside0.mk (bb BK186.out hb); replace HB := Aside0.mk (below_step (bl4 HB.out GE183.out GE184.out GE185.out GE186.out) hb); (try clear hb); (try clear hb2); (try clear hk); (try clear hi)))
  go_ret2
  exact ⟨by first | rfl | (simp [errW_none, errW_some] <;> rfl) | (simp [*, errW_none, errW_some] <;> rfl), bl4 HB.out GE183.out GE184.out GE185.out GE186.out⟩

end Go.Proofs.Ytemhnlameekmkaa.XPlan
