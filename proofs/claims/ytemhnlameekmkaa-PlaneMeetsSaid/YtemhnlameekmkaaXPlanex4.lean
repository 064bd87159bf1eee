-- Printed by a program of this claim. Not trusted: Lean checks it.
import Derived.Test.YtemhnlameekmkaaXPlanex0
import Derived.Test.YtemhnlameekmkaaXPlanex1
import Derived.Test.YtemhnlameekmkaaXPlanex3
namespace Go.Proofs.Ytemhnlameekmkaa.XPlane
open Go.RowKit Go.Proofs.YtemhnlameekmkaaW.PrintWords Go.Proofs.YtemhnlameekmkaaW.PrintLast Go.Proofs.YtemhnlameekmkaaW.PrintMore
attribute [local go_sem] max2_int min2_int max_two min_two max_three min_three max_four min_four   -- for this text's walks alone
set_option linter.unusedVariables false
set_option linter.unusedSimpArgs false

/-! ### pochoirlaw18_PlaneMeets: function 4 -/
mutual
def pochoirlaw18_PlaneMeets.j0 : Nat → Bool → Int → Int → Int → Int → Int → Int → Int → Int → Option (Bool)
 | 0, _, _, _, _, _, _, _, _, _ => none
 | k + 1, x18, x185000, x185001, x186000, x186001, x187000, x187001, x187002, x187003 => if x18 = true then (some false) else ((pochoirref18_Asked.f k (([(⟨x185000, x185001⟩ : S26), (⟨x186000, x186001⟩ : S26), (⟨x187000, x187001⟩ : S26), (⟨x187002, x187003⟩ : S26)] : List (S26)))).bind fun t193 => (pochoirlaw18_PlaneMeets.j1 k (t193 != 0) x185000 x185001 x186000 x186001 x187000 x187001 x187002 x187003))
def pochoirlaw18_PlaneMeets.j1 : Nat → Bool → Int → Int → Int → Int → Int → Int → Int → Int → Option (Bool)
 | 0, _, _, _, _, _, _, _, _, _ => none
 | k + 1, x29, x185000, x185001, x186000, x186001, x189000, x189001, x190000, x190001 => if x29 = true then (some true) else ((plane_Meet.f k x185000 x185001 x186000 x186001 x189000 x189001 x190000 x190001).bind fun bt194 => ((plane_Meet.f k x190000 x190001 x189000 x189001 x185000 x185001 x186000 x186001).bind fun bt196 => ((plane_Meet.f k x185000 x185001 x186000 x186001 x186000 x186001 x185000 x185001).bind fun bt198 => ((plane_Meet.f k x185000 x185001 x186000 x186001 x186000 x186001 x189000 x189001).bind fun bt200 => (if bt194.2 = 0 then (if bt196.2 = 0 then (if bt198.2 = 0 then (if bt200.2 = 0 then (if (bt194.1 == bt196.1) = true then (if bt198.1 = true then (some bt200.1) else (some false)) else (some false)) else (some false)) else (some false)) else (some false)) else (some false))))))
end
def pochoirlaw18_PlaneMeets.f (k : Nat) (a0_0 : Int) (a0_1 : Int) (a1_0 : Int) (a1_1 : Int) (a2_0 : Int) (a2_1 : Int) (a2_2 : Int) (a2_3 : Int) : Option (Bool) := (pochoirlaw18_awake.f k).bind fun t187 => (pochoirlaw18_PlaneMeets.j0 k (!t187) a0_0 a0_1 a1_0 a1_1 a2_0 a2_1 a2_2 a2_3)
theorem pochoirlaw18_PlaneMeets.mono_l : ∀ k, (∀ y0 y1 y2 y3 y4 y5 y6 y7 y8, LeO (pochoirlaw18_PlaneMeets.j0 k y0 y1 y2 y3 y4 y5 y6 y7 y8) (pochoirlaw18_PlaneMeets.j0 (k + 1) y0 y1 y2 y3 y4 y5 y6 y7 y8)) ∧ (∀ y0 y1 y2 y3 y4 y5 y6 y7 y8, LeO (pochoirlaw18_PlaneMeets.j1 k y0 y1 y2 y3 y4 y5 y6 y7 y8) (pochoirlaw18_PlaneMeets.j1 (k + 1) y0 y1 y2 y3 y4 y5 y6 y7 y8))
 | 0 => ⟨fun _ _ _ _ _ _ _ _ _ r h => by simp [pochoirlaw18_PlaneMeets.j0] at h, fun _ _ _ _ _ _ _ _ _ r h => by simp [pochoirlaw18_PlaneMeets.j1] at h⟩
 | k + 1 => by
  obtain ⟨ih0, ih1⟩ := pochoirlaw18_PlaneMeets.mono_l k
  refine ⟨?_, ?_⟩
  ·intro y0 y1 y2 y3 y4 y5 y6 y7 y8
   unfold pochoirlaw18_PlaneMeets.j0
   repeat' first
   | (with_reducible exact ih0 _ _ _ _ _ _ _ _ _)
   | (with_reducible exact ih1 _ _ _ _ _ _ _ _ _)
   | (with_reducible exact plane_Meet.mono _ _ _ _ _ _ _ _ _)
   | (with_reducible exact pochoirlaw18_awake.mono _)
   | (with_reducible exact pochoirref18_Asked.mono _ _)
   | (with_reducible exact LeO.refl _)
   | (with_reducible exact LeO.none _)
   | (with_reducible refine LeO.ite ?_ ?_)
   | (with_reducible refine LeO.bind ?_ (fun _ => ?_))
   | exact ih0 _ _ _ _ _ _ _ _ _
   | exact ih1 _ _ _ _ _ _ _ _ _
   | exact plane_Meet.mono _ _ _ _ _ _ _ _ _
   | exact pochoirlaw18_awake.mono _
   | exact pochoirref18_Asked.mono _ _
   | exact LeO.none _
   | refine LeO.ite ?_ ?_
   | refine LeO.bind ?_ (fun _ => ?_)
  ·intro y0 y1 y2 y3 y4 y5 y6 y7 y8
   unfold pochoirlaw18_PlaneMeets.j1
   repeat' first
   | (with_reducible exact ih0 _ _ _ _ _ _ _ _ _)
   | (with_reducible exact ih1 _ _ _ _ _ _ _ _ _)
   | (with_reducible exact plane_Meet.mono _ _ _ _ _ _ _ _ _)
   | (with_reducible exact pochoirlaw18_awake.mono _)
   | (with_reducible exact pochoirref18_Asked.mono _ _)
   | (with_reducible exact LeO.refl _)
   | (with_reducible exact LeO.none _)
   | (with_reducible refine LeO.ite ?_ ?_)
   | (with_reducible refine LeO.bind ?_ (fun _ => ?_))
   | exact ih0 _ _ _ _ _ _ _ _ _
   | exact ih1 _ _ _ _ _ _ _ _ _
   | exact plane_Meet.mono _ _ _ _ _ _ _ _ _
   | exact pochoirlaw18_awake.mono _
   | exact pochoirref18_Asked.mono _ _
   | exact LeO.none _
   | refine LeO.ite ?_ ?_
   | refine LeO.bind ?_ (fun _ => ?_)
theorem pochoirlaw18_PlaneMeets.mono : ∀ a0 a1 a2 a3 a4 a5 a6 a7 k, LeO (pochoirlaw18_PlaneMeets.f k a0 a1 a2 a3 a4 a5 a6 a7) (pochoirlaw18_PlaneMeets.f (k + 1) a0 a1 a2 a3 a4 a5 a6 a7) := by
 intro a0 a1 a2 a3 a4 a5 a6 a7 k
 obtain ⟨ih0, ih1⟩ := pochoirlaw18_PlaneMeets.mono_l k
 unfold pochoirlaw18_PlaneMeets.f
 repeat' first
   | (with_reducible exact ih0 _ _ _ _ _ _ _ _ _)
   | (with_reducible exact ih1 _ _ _ _ _ _ _ _ _)
   | (with_reducible exact plane_Meet.mono _ _ _ _ _ _ _ _ _)
   | (with_reducible exact pochoirlaw18_awake.mono _)
   | (with_reducible exact pochoirref18_Asked.mono _ _)
   | (with_reducible exact LeO.refl _)
   | (with_reducible exact LeO.none _)
   | (with_reducible refine LeO.ite ?_ ?_)
   | (with_reducible refine LeO.bind ?_ (fun _ => ?_))
   | exact ih0 _ _ _ _ _ _ _ _ _
   | exact ih1 _ _ _ _ _ _ _ _ _
   | exact plane_Meet.mono _ _ _ _ _ _ _ _ _
   | exact pochoirlaw18_awake.mono _
   | exact pochoirref18_Asked.mono _ _
   | exact LeO.none _
   | refine LeO.ite ?_ ?_
   | refine LeO.bind ?_ (fun _ => ?_)
def pochoirlaw18_PlaneMeets.T3 : Bool × List (List Nat × List Nat) := (true, [([], []), ([0], [0]), ([], []), ([2], [2]), ([], []), ([], []), ([4, 1, 0, 1, 4, 5], [1, 4]), ([5, 3, 6, 0, 1, 2, 3, 4, 5, 6], [3, 5])])
def pochoirlaw18_PlaneMeets.B3 : List Nat := [0, 1, 0, 4, 0, 0, 51, 127]
theorem pochoirlaw18_PlaneMeets.tab3 : rtab .any (opsOf Try.f4 3) = pochoirlaw18_PlaneMeets.T3 := by kernel_rfl
theorem pochoirlaw18_PlaneMeets.bits3 : waitsOk pochoirlaw18_PlaneMeets.T3.2 pochoirlaw18_PlaneMeets.B3 = true := by kernel_rfl
set_option maxHeartbeats 8000000 in
set_option maxRecDepth 100000 in
theorem pochoirlaw18_PlaneMeets.calls (k : Nat) (a0_0 : Int) (a0_1 : Int) (a1_0 : Int) (a1_1 : Int) (a2_0 : Int) (a2_1 : Int) (a2_2 : Int) (a2_3 : Int) (r : Bool) (w : World) (h : pochoirlaw18_PlaneMeets.f k a0_0 a0_1 a1_0 a1_1 a2_0 a2_1 a2_2 a2_3 = some r) :
  Calls Try.prog 4 #[.agg #[.int .i64 a0_0, .int .i64 a0_1], .agg #[.int .i64 a1_0, .int .i64 a1_1], .agg #[.int .i64 a2_0, .int .i64 a2_1, .int .i64 a2_2, .int .i64 a2_3]] w fun e w' => e = .returned (.bool r) ∧ Below w.heap.size w w' := by
 have hu26 := Try.underlying26
 have hu33 := Try.underlying33
 have HB := Aside0.mk (Below.refl w.heap.size w)
 have H : ((pochoirlaw18_awake.f k).bind fun t187 => (pochoirlaw18_PlaneMeets.j0 k (!t187) a0_0 a0_1 a1_0 a1_1 a2_0 a2_1 a2_2 a2_3)) = some r := h
 clear h
 have HC4 := Aside0.mk H
 clear H
 go_enter Try.func4, Try.ntmps4
 go_upto_region 1 with (first | ((with_reducible refine gate_dst (N := 3) rfl ?_); refine box_event ?hg (N := 3) ?hd (cs := #[.int .i64 a0_0, .int .i64 a0_1]) (t := 26) ?hr ?_; (case hd => rfl); (case hg => rfl); (case hr => first | (go_simp; done) | (go_simp; rfl)); intro gb184 hg w5 hbox hb; have n0_ := Aside0.mk (below_step (XOpen.bl0 HB.out) hb); have n1_ := Aside0.mk (hbox); have n2_ := Aside0.mk ((by rw [hg]; exact (below_size (XOpen.bl0 HB.out)) : w.heap.size ≤ gb184)); have n3_ := Aside0.mk ((by rw [hg]; exact (below_size (XOpen.bl0 HB.out)) : w.heap.size ≤ gb184)); clear HB; have HB := n0_; have BK184 := n1_; have GW184 := n2_; have GE184 := n3_; clear n0_ n1_ n2_ n3_; clear hb hbox hg) | ((with_reducible refine gate_dst (N := 4) rfl ?_); refine box_event ?hg (N := 4) ?hd (cs := #[.int .i64 a1_0, .int .i64 a1_1]) (t := 26) ?hr ?_; (case hd => rfl); (case hg => rfl); (case hr => first | (go_simp; done) | (go_simp; rfl)); intro gb185 hg w6 hbox hb; have n0_ := Aside0.mk (blk_below (g := gb184) (o := .cells #[.int .i64 a0_0, .int .i64 a0_1] 26 (0, 0)) (XOpen.bk BK184.out) hb); have n1_ := Aside0.mk (below_step (XOpen.bl1 HB.out GE184.out) hb); have n2_ := Aside0.mk (hbox); have n3_ := Aside0.mk ((by rw [hg]; exact (below_size (XOpen.bl1 HB.out GE184.out)) : w.heap.size ≤ gb185)); have n4_ := Aside0.mk ((by rw [hg]; exact (below_size (XOpen.bl1 HB.out GE184.out)) : w.heap.size ≤ gb185)); have n5_ := Aside0.mk ((by rw [hg]; exact Nat.ne_of_lt (blk_lt (g := gb184) (o := .cells #[.int .i64 a0_0, .int .i64 a0_1] 26 (0, 0)) (XOpen.bk BK184.out)) : gb184 ≠ gb185)); have n6_ := Aside0.mk ((by rw [hg]; exact Nat.ne_of_gt (blk_lt (g := gb184) (o := .cells #[.int .i64 a0_0, .int .i64 a0_1] 26 (0, 0)) (XOpen.bk BK184.out)) : gb185 ≠ gb184)); clear BK184; clear HB; have BK184 := n0_; have HB := n1_; have BK185 := n2_; have GW185 := n3_; have GE185 := n4_; have NB184_185 := n5_; have NB185_184 := n6_; clear n0_ n1_ n2_ n3_ n4_ n5_ n6_; clear hb hbox hg) | ((with_reducible refine gate_dst (N := 5) rfl ?_); refine box_event ?hg (N := 5) ?hd (cs := #[.int .i64 a2_0, .int .i64 a2_1, .int .i64 a2_2, .int .i64 a2_3]) (t := 33) ?hr ?_; (case hd => rfl); (case hg => rfl); (case hr => first | (go_simp; done) | (go_simp; rfl)); intro gb186 hg w7 hbox hb; have n0_ := Aside0.mk (blk_below (g := gb184) (o := .cells #[.int .i64 a0_0, .int .i64 a0_1] 26 (0, 0)) (XOpen.bk BK184.out) hb); have n1_ := Aside0.mk (blk_below (g := gb185) (o := .cells #[.int .i64 a1_0, .int .i64 a1_1] 26 (0, 0)) (XOpen.bk BK185.out) hb); have n2_ := Aside0.mk (below_step (XOpen.bl2 HB.out GE184.out GE185.out) hb); have n3_ := Aside0.mk (hbox); have n4_ := Aside0.mk ((by rw [hg]; exact (below_size (XOpen.bl2 HB.out GE184.out GE185.out)) : w.heap.size ≤ gb186)); have n5_ := Aside0.mk ((by rw [hg]; exact (below_size (XOpen.bl2 HB.out GE184.out GE185.out)) : w.heap.size ≤ gb186)); have n6_ := Aside0.mk ((by rw [hg]; exact Nat.ne_of_lt (blk_lt (g := gb184) (o := .cells #[.int .i64 a0_0, .int .i64 a0_1] 26 (0, 0)) (XOpen.bk BK184.out)) : gb184 ≠ gb186)); have n7_ := Aside0.mk ((by rw [hg]; exact Nat.ne_of_gt (blk_lt (g := gb184) (o := .cells #[.int .i64 a0_0, .int .i64 a0_1] 26 (0, 0)) (XOpen.bk BK184.out)) : gb186 ≠ gb184)); have n8_ := Aside0.mk ((by rw [hg]; exact Nat.ne_of_lt (blk_lt (g := gb185) (o := .cells #[.int .i64 a1_0, .int .i64 a1_1] 26 (0, 0)) (XOpen.bk BK185.out)) : gb185 ≠ gb186)); have n9_ := Aside0.mk ((by rw [hg]; exact Nat.ne_of_gt (blk_lt (g := gb185) (o := .cells #[.int .i64 a1_0, .int .i64 a1_1] 26 (0, 0)) (XOpen.bk BK185.out)) : gb186 ≠ gb185)); clear BK184; clear BK185; clear HB; have BK184 := n0_; have BK185 := n1_; have HB := n2_; have BK186 := n3_; have GW186 := n4_; have GE186 := n5_; have NB184_186 := n6_; have NB186_184 := n7_; have NB185_186 := n8_; have NB186_185 := n9_; clear n0_ n1_ n2_ n3_ n4_ n5_ n6_ n7_ n8_ n9_; clear hb hbox hg))
 (try simp only [Act.put, List.setIfInBounds_toArray, List.set_cons_zero, List.set_cons_succ])
 go_cut [18] (fun v18 wc => ∃ (kq : Nat) (x18_3 : Bool), v18 = .bool x18_3 ∧ Aside0 (pochoirlaw18_PlaneMeets.j0 kq x18_3 a0_0 a0_1 a1_0 a1_1 a2_0 a2_1 a2_2 a2_3 = some r) ∧ Aside0 (kq ≤ k) ∧ Aside0 (wc.heap[gb184]? = some (.cells #[.int .i64 a0_0, .int .i64 a0_1] 26 (0, 0))) ∧ Aside0 (wc.heap[gb185]? = some (.cells #[.int .i64 a1_0, .int .i64 a1_1] 26 (0, 0))) ∧ Aside0 (wc.heap[gb186]? = some (.cells #[.int .i64 a2_0, .int .i64 a2_1, .int .i64 a2_2, .int .i64 a2_3] 33 (0, 0))) ∧ Aside0 (Below w.heap.size w wc))
 case first =>
  have H := HC4.out
  clear HC4
  replace H := Option.bind_eq_some_iff.mp H
  obtain ⟨t187, A80, H⟩ := H
  replace H : (pochoirlaw18_PlaneMeets.j0 k (!t187) a0_0 a0_1 a1_0 a1_1 a2_0 a2_1 a2_2 a2_3) = some r := H
  have A8 := Aside0.mk A80
  clear A80
  have H' := Aside0.mk H
  clear H
  go_wp2_with (first | ((with_reducible refine gate_callee (f := 12) rfl ?_); refine goesL_ (some 17) rfl rfl Try.func12 (by kernel_rfl) rfl #[] rfl (by (try simp only [List.map_toArray, List.map_cons, List.map_nil]); first | done | rfl | (simp only [List.length_drop, List.length_take]; rfl)) ?_; (with_reducible refine (pochoirlaw18_awake.calls k  t187 _ A8.out).mono ?_); rintro e w9 ⟨rfl, hb⟩; refine ⟨_, rfl, ?_⟩; have n0_ := Aside0.mk (blk_below (g := gb184) (o := .cells #[.int .i64 a0_0, .int .i64 a0_1] 26 (0, 0)) (XOpen.bk BK184.out) hb); have n1_ := Aside0.mk (blk_below (g := gb185) (o := .cells #[.int .i64 a1_0, .int .i64 a1_1] 26 (0, 0)) (XOpen.bk BK185.out) hb); have n2_ := Aside0.mk (blk_below (g := gb186) (o := .cells #[.int .i64 a2_0, .int .i64 a2_1, .int .i64 a2_2, .int .i64 a2_3] 33 (0, 0)) (XOpen.bk BK186.out) hb); have n3_ := Aside0.mk (below_step (XOpen.bl3 HB.out GE184.out GE185.out GE186.out) hb); clear BK184; clear BK185; clear BK186; clear HB; have BK184 := n0_; have BK185 := n1_; have BK186 := n2_; have HB := n3_; clear n0_ n1_ n2_ n3_; (try clear hb); (try clear hb2); (try clear hk); (try clear hi)))
  go_meet
  case rel => exact ⟨_, (!t187), (by first | rfl | (simp; done) | (simp [*]; done)), H', ⟨by first | omega | exact Nat.le_refl _⟩, ⟨by (with_reducible repeat (first | refine blk_drewN ?_ _ | refine blk_drew ?_ | refine blk_alloc ?_ _)); exact BK184.out⟩, ⟨by (with_reducible repeat (first | refine blk_drewN ?_ _ | refine blk_drew ?_ | refine blk_alloc ?_ _)); exact BK185.out⟩, ⟨by (with_reducible repeat (first | refine blk_drewN ?_ _ | refine blk_drew ?_ | refine blk_alloc ?_ _)); exact BK186.out⟩, ⟨XOpen.bl3 HB.out GE184.out GE185.out GE186.out⟩⟩
 case rest =>
  clear HC4
  try clear c1
  try clear p2
  try clear c4
  obtain ⟨kq, x18_3, rfl, HA, HJ3, BK184, BK185, BK186, HB⟩ := hcut
  cases kq with
  | zero => exact absurd HA.out (by simp [pochoirlaw18_PlaneMeets.j0])
  | succ kj3 =>
   have H := HA.out
   clear HA
   simp only [pochoirlaw18_PlaneMeets.j0] at H
   by_cases c10 : x18_3 = true
   ·subst c10
    have H1 : (some false) = some r := by rw [if_pos rfl] at H; exact H
    clear H
    have H := H1
    clear H1
    obtain rfl := Option.some.inj H
    go_wp2
    go_ret
    exact ⟨by first | rfl | (simp [errW_none, errW_some] <;> rfl) | (simp [*, errW_none, errW_some] <;> rfl), XOpen.bl3 HB.out GE184.out GE185.out GE186.out⟩
   ·replace c10 := Bool.eq_false_iff.mpr c10
    subst c10
    have H1 : ((pochoirref18_Asked.f kj3 (([(⟨a0_0, a0_1⟩ : S26), (⟨a1_0, a1_1⟩ : S26), (⟨a2_0, a2_1⟩ : S26), (⟨a2_2, a2_3⟩ : S26)] : List (S26)))).bind fun t193 => (pochoirlaw18_PlaneMeets.j1 kj3 (t193 != 0) a0_0 a0_1 a1_0 a1_1 a2_0 a2_1 a2_2 a2_3)) = some r := by rw [if_neg (show ¬ (false = true) by decide)] at H; exact H
    clear H
    have H := H1
    clear H1
    have HC11 := Aside0.mk H
    clear H
    try go_wp2
    have n0_ := Aside0.mk (blk_drew BK184.out)
    have n1_ := Aside0.mk (blk_drew BK185.out)
    have n2_ := Aside0.mk (blk_drew BK186.out)
    have n3_ := Aside0.mk (below_drew1 HB.out)
    clear BK184
    clear BK185
    clear BK186
    clear HB
    have BK184 := n0_
    have BK185 := n1_
    have BK186 := n2_
    have HB := n3_
    clear n0_ n1_ n2_ n3_
    refine start_ (n := 8) (S := fun w' => w'.cell? ⟨gb186, 0, none⟩ = some (.int .i64 a2_0) ∧ w'.cell? ⟨gb186, 1, none⟩ = some (.int .i64 a2_1) ∧ w'.cell? ⟨gb186, 2, none⟩ = some (.int .i64 a2_2) ∧ w'.cell? ⟨gb186, 3, none⟩ = some (.int .i64 a2_3)) (ds := []) #[false, false, false, false, false, false, false, false] (by kernel_rfl) rfl rfl ⟨(blk_cell BK186.out 0).trans rfl, (blk_cell BK186.out 1).trans rfl, (blk_cell BK186.out 2).trans rfl, (blk_cell BK186.out 3).trans rfl⟩ (fun hHeld => ?_); refine with_tabW pochoirlaw18_PlaneMeets.tab3 pochoirlaw18_PlaneMeets.bits3 (fun HT_ HW_ => ?_)
    generalize wc.drew = w12 at BK184 BK185 BK186 HB hHeld ⊢
    refine pure_ (i := 0) (N := some 19) (v := ?_) (a' := ?_) #[true, false, false, false, false, false, false, false] rfl rfl (any_of HT_.out (by kernel_rfl)) (fun _ _ _ h => h) (Or.inl ⟨by rfl, ?_⟩) ?_ ?_
    rotate_left
    ·intro w'
     go_simp
     with_reducible rfl
    rotate_left
    ·simp only [Act.put, List.setIfInBounds_toArray, List.set_cons_zero, List.set_cons_succ, i64_w, i32_w]
     rfl
    refine pure_ (i := 2) (N := some 21) (v := ?_) (a' := ?_) #[true, false, true, false, false, false, false, false] rfl rfl (any_of HT_.out (by kernel_rfl)) (fun _ _ _ h => h) (Or.inl ⟨by rfl, ?_⟩) ?_ ?_
    rotate_left
    ·intro w'
     go_simp
     with_reducible rfl
    rotate_left
    ·simp only [Act.put, List.setIfInBounds_toArray, List.set_cons_zero, List.set_cons_succ, i64_w, i32_w]
     rfl
    refine take_ (i := 1) (N := some 20) (v := ?_) (a' := ?_) #[true, true, true, false, false, false, false, false] rfl rfl (take_ofW HT_.out HW_.out (by kernel_rfl)) (fun _ _ _ h => h) (Or.inl ⟨by rfl, ?_⟩) hHeld ?_ ?_
    rotate_left
    ·rintro w' ⟨s0, s1, s2, s3⟩
     go_simp
     with_reducible rfl
    rotate_left
    ·simp only [Act.put, List.setIfInBounds_toArray, List.set_cons_zero, List.set_cons_succ, i64_w, i32_w]
     rfl
    refine take_ (i := 3) (N := some 22) (v := ?_) (a' := ?_) #[true, true, true, true, false, false, false, false] rfl rfl (take_ofW HT_.out HW_.out (by kernel_rfl)) (fun _ _ _ h => h) (Or.inl ⟨by rfl, ?_⟩) hHeld ?_ ?_
    rotate_left
    ·rintro w' ⟨s0, s1, s2, s3⟩
     go_simp
     with_reducible rfl
    rotate_left
    ·simp only [Act.put, List.setIfInBounds_toArray, List.set_cons_zero, List.set_cons_succ, i64_w, i32_w]
     rfl
    refine join_ (σ := Nat × Nat) 2 #[true, true, true, true, true, true, false, false] (fun s_ => [(7, .pointer (some ⟨s_.1, 0, none⟩)), (8, .pointer (some ⟨s_.2, 0, none⟩))]) (fun s_ w' => (w'.cell? ⟨gb186, 0, none⟩ = some (.int .i64 a2_0) ∧ w'.cell? ⟨gb186, 1, none⟩ = some (.int .i64 a2_1) ∧ w'.cell? ⟨gb186, 2, none⟩ = some (.int .i64 a2_2) ∧ w'.cell? ⟨gb186, 3, none⟩ = some (.int .i64 a2_3)) ∧ (w'.heap[gb184]? = some (.cells #[.int .i64 a0_0, .int .i64 a0_1] 26 (0, 0))) ∧ (w'.heap[gb185]? = some (.cells #[.int .i64 a1_0, .int .i64 a1_1] 26 (0, 0))) ∧ (w'.heap[gb186]? = some (.cells #[.int .i64 a2_0, .int .i64 a2_1, .int .i64 a2_2, .int .i64 a2_3] 33 (0, 0))) ∧ (w'.heap[s_.1]? = some (.cells #[.int .i64 0, .int .i64 0] 26 (0, 0))) ∧ (w'.heap[s_.2]? = some (.cells #[.int .i64 0, .int .i64 0] 26 (0, 0))) ∧ (w.heap.size ≤ s_.1) ∧ (w.heap.size ≤ s_.1) ∧ (gb184 ≠ s_.1) ∧ (s_.1 ≠ gb184) ∧ (gb185 ≠ s_.1) ∧ (s_.1 ≠ gb185) ∧ (gb186 ≠ s_.1) ∧ (s_.1 ≠ gb186) ∧ (s_.2 ≠ s_.1) ∧ (s_.1 ≠ s_.2) ∧ (w.heap.size ≤ s_.2) ∧ (w.heap.size ≤ s_.2) ∧ (gb184 ≠ s_.2) ∧ (s_.2 ≠ gb184) ∧ (gb185 ≠ s_.2) ∧ (s_.2 ≠ gb185) ∧ (gb186 ≠ s_.2) ∧ (s_.2 ≠ gb186) ∧ (Below w.heap.size w w')) ?_ ?_
    rotate_left
    ·intro hCont
     refine two_ (i := 4) (j := 5) (Ni := some 7) (Nj := some 8) #[true, true, true, true, true, false, false, false] #[true, true, true, true, false, true, false, false] rfl rfl rfl rfl (two_of HT_.out (by kernel_rfl)) (by decide) (by decide) (fun K hK => ?_) (fun K hK => ?_)
     ·skip
      refine box_step ?hg (N := 7) ?hd (cs := #[.int .i64 0, .int .i64 0]) (t := 26) ?hr ?_; (case hd => rfl); (case hg => rfl); (case hr => first | (go_simp; done) | (go_simp; rfl))
      intro gb188 hg w13 hbox hb
      have n0_ := Aside0.mk (blk_below (g := gb184) (o := .cells #[.int .i64 a0_0, .int .i64 a0_1] 26 (0, 0)) (XOpen.bk BK184.out) hb)
      have n1_ := Aside0.mk (blk_below (g := gb185) (o := .cells #[.int .i64 a1_0, .int .i64 a1_1] 26 (0, 0)) (XOpen.bk BK185.out) hb)
      have n2_ := Aside0.mk (blk_below (g := gb186) (o := .cells #[.int .i64 a2_0, .int .i64 a2_1, .int .i64 a2_2, .int .i64 a2_3] 33 (0, 0)) (XOpen.bk BK186.out) hb)
      have n3_ := Aside0.mk (below_step (XOpen.bl3 HB.out GE184.out GE185.out GE186.out) hb)
      have n4_ := Aside0.mk (hbox)
      have n5_ := Aside0.mk ((by rw [hg]; exact (below_size (XOpen.bl3 HB.out GE184.out GE185.out GE186.out)) : w.heap.size ≤ gb188))
      have n6_ := Aside0.mk ((by rw [hg]; exact (below_size (XOpen.bl3 HB.out GE184.out GE185.out GE186.out)) : w.heap.size ≤ gb188))
      have n7_ := Aside0.mk ((by rw [hg]; exact Nat.ne_of_lt (blk_lt (g := gb184) (o := .cells #[.int .i64 a0_0, .int .i64 a0_1] 26 (0, 0)) (XOpen.bk BK184.out)) : gb184 ≠ gb188))
      have n8_ := Aside0.mk ((by rw [hg]; exact Nat.ne_of_gt (blk_lt (g := gb184) (o := .cells #[.int .i64 a0_0, .int .i64 a0_1] 26 (0, 0)) (XOpen.bk BK184.out)) : gb188 ≠ gb184))
      have n9_ := Aside0.mk ((by rw [hg]; exact Nat.ne_of_lt (blk_lt (g := gb185) (o := .cells #[.int .i64 a1_0, .int .i64 a1_1] 26 (0, 0)) (XOpen.bk BK185.out)) : gb185 ≠ gb188))
      have n10_ := Aside0.mk ((by rw [hg]; exact Nat.ne_of_gt (blk_lt (g := gb185) (o := .cells #[.int .i64 a1_0, .int .i64 a1_1] 26 (0, 0)) (XOpen.bk BK185.out)) : gb188 ≠ gb185))
      have n11_ := Aside0.mk ((by rw [hg]; exact Nat.ne_of_lt (blk_lt (g := gb186) (o := .cells #[.int .i64 a2_0, .int .i64 a2_1, .int .i64 a2_2, .int .i64 a2_3] 33 (0, 0)) (XOpen.bk BK186.out)) : gb186 ≠ gb188))
      have n12_ := Aside0.mk ((by rw [hg]; exact Nat.ne_of_gt (blk_lt (g := gb186) (o := .cells #[.int .i64 a2_0, .int .i64 a2_1, .int .i64 a2_2, .int .i64 a2_3] 33 (0, 0)) (XOpen.bk BK186.out)) : gb188 ≠ gb186))
      clear BK184
      clear BK185
      clear BK186
      clear HB
      have BK184 := n0_
      have BK185 := n1_
      have BK186 := n2_
      have HB := n3_
      have BK188 := n4_
      have GW188 := n5_
      have GE188 := n6_
      have NB184_188 := n7_
      have NB188_184 := n8_
      have NB185_188 := n9_
      have NB188_185 := n10_
      have NB186_188 := n11_
      have NB188_186 := n12_
      clear n0_ n1_ n2_ n3_ n4_ n5_ n6_ n7_ n8_ n9_ n10_ n11_ n12_
      clear hb hbox hg
      refine hK.out _ _ ⟨(blk_cell BK186.out 0).trans rfl, (blk_cell BK186.out 1).trans rfl, (blk_cell BK186.out 2).trans rfl, (blk_cell BK186.out 3).trans rfl⟩ (fun hHeld => ?_)
      clear hK K
      refine norm_ (a' := ?_) ?_ ?_
      rotate_left
      ·show Act.put _ (some 7) _ = _
       simp only [Act.put, List.setIfInBounds_toArray, List.set_cons_zero, List.set_cons_succ, i64_w, i32_w]
       rfl
      refine one_ (i := 5) (N := some 8) #[true, true, true, true, true, true, false, false] rfl rfl (one_of HT_.out (by kernel_rfl)) (by decide) (fun K hK => ?_)
      refine box_step ?hg (N := 8) ?hd (cs := #[.int .i64 0, .int .i64 0]) (t := 26) ?hr ?_; (case hd => rfl); (case hg => rfl); (case hr => first | (go_simp; done) | (go_simp; rfl))
      intro gb189 hg w14 hbox hb
      have n0_ := Aside0.mk (blk_below (g := gb184) (o := .cells #[.int .i64 a0_0, .int .i64 a0_1] 26 (0, 0)) (XOpen.bk BK184.out) hb)
      have n1_ := Aside0.mk (blk_below (g := gb185) (o := .cells #[.int .i64 a1_0, .int .i64 a1_1] 26 (0, 0)) (XOpen.bk BK185.out) hb)
      have n2_ := Aside0.mk (blk_below (g := gb186) (o := .cells #[.int .i64 a2_0, .int .i64 a2_1, .int .i64 a2_2, .int .i64 a2_3] 33 (0, 0)) (XOpen.bk BK186.out) hb)
      have n3_ := Aside0.mk (blk_below (g := gb188) (o := .cells #[.int .i64 0, .int .i64 0] 26 (0, 0)) (XOpen.bk BK188.out) hb)
      have n4_ := Aside0.mk (below_step (XOpen.bl4 HB.out GE184.out GE185.out GE186.out GE188.out) hb)
      have n5_ := Aside0.mk (hbox)
      have n6_ := Aside0.mk ((by rw [hg]; exact (below_size (XOpen.bl4 HB.out GE184.out GE185.out GE186.out GE188.out)) : w.heap.size ≤ gb189))
      have n7_ := Aside0.mk ((by rw [hg]; exact (below_size (XOpen.bl4 HB.out GE184.out GE185.out GE186.out GE188.out)) : w.heap.size ≤ gb189))
      have n8_ := Aside0.mk ((by rw [hg]; exact Nat.ne_of_lt (blk_lt (g := gb184) (o := .cells #[.int .i64 a0_0, .int .i64 a0_1] 26 (0, 0)) (XOpen.bk BK184.out)) : gb184 ≠ gb189))
      have n9_ := Aside0.mk ((by rw [hg]; exact Nat.ne_of_gt (blk_lt (g := gb184) (o := .cells #[.int .i64 a0_0, .int .i64 a0_1] 26 (0, 0)) (XOpen.bk BK184.out)) : gb189 ≠ gb184))
      have n10_ := Aside0.mk ((by rw [hg]; exact Nat.ne_of_lt (blk_lt (g := gb185) (o := .cells #[.int .i64 a1_0, .int .i64 a1_1] 26 (0, 0)) (XOpen.bk BK185.out)) : gb185 ≠ gb189))
      have n11_ := Aside0.mk ((by rw [hg]; exact Nat.ne_of_gt (blk_lt (g := gb185) (o := .cells #[.int .i64 a1_0, .int .i64 a1_1] 26 (0, 0)) (XOpen.bk BK185.out)) : gb189 ≠ gb185))
      have n12_ := Aside0.mk ((by rw [hg]; exact Nat.ne_of_lt (blk_lt (g := gb186) (o := .cells #[.int .i64 a2_0, .int .i64 a2_1, .int .i64 a2_2, .int .i64 a2_3] 33 (0, 0)) (XOpen.bk BK186.out)) : gb186 ≠ gb189))
      have n13_ := Aside0.mk ((by rw [hg]; exact Nat.ne_of_gt (blk_lt (g := gb186) (o := .cells #[.int .i64 a2_0, .int .i64 a2_1, .int .i64 a2_2, .int .i64 a2_3] 33 (0, 0)) (XOpen.bk BK186.out)) : gb189 ≠ gb186))
      have n14_ := Aside0.mk ((by rw [hg]; exact Nat.ne_of_lt (blk_lt (g := gb188) (o := .cells #[.int .i64 0, .int .i64 0] 26 (0, 0)) (XOpen.bk BK188.out)) : gb188 ≠ gb189))
      have n15_ := Aside0.mk ((by rw [hg]; exact Nat.ne_of_gt (blk_lt (g := gb188) (o := .cells #[.int .i64 0, .int .i64 0] 26 (0, 0)) (XOpen.bk BK188.out)) : gb189 ≠ gb188))
      clear BK184
      clear BK185
      clear BK186
      clear BK188
      clear HB
      have BK184 := n0_
      have BK185 := n1_
      have BK186 := n2_
      have BK188 := n3_
      have HB := n4_
      have BK189 := n5_
      have GW189 := n6_
      have GE189 := n7_
      have NB184_189 := n8_
      have NB189_184 := n9_
      have NB185_189 := n10_
      have NB189_185 := n11_
      have NB186_189 := n12_
      have NB189_186 := n13_
      have NB188_189 := n14_
      have NB189_188 := n15_
      clear n0_ n1_ n2_ n3_ n4_ n5_ n6_ n7_ n8_ n9_ n10_ n11_ n12_ n13_ n14_ n15_
      clear hb hbox hg
      refine hK.out _ _ ⟨(blk_cell BK186.out 0).trans rfl, (blk_cell BK186.out 1).trans rfl, (blk_cell BK186.out 2).trans rfl, (blk_cell BK186.out 3).trans rfl⟩ (fun hHeld => ?_)
      clear hK K
      refine norm_ (a' := ?_) ?_ ?_
      rotate_left
      ·show Act.put _ (some 8) _ = _
       simp only [Act.put, List.setIfInBounds_toArray, List.set_cons_zero, List.set_cons_succ, i64_w, i32_w]
       rfl
      exact norm_ (by simp only [putAll, Act.put, List.setIfInBounds_toArray, List.set_cons_zero, List.set_cons_succ]) (hCont (gb188, gb189) _ ⟨hHeld, (XOpen.bk BK184.out), (XOpen.bk BK185.out), (XOpen.bk BK186.out), (XOpen.bk BK188.out), (XOpen.bk BK189.out), GW188.out, GE188.out, NB184_188.out, NB188_184.out, NB185_188.out, NB188_185.out, NB186_188.out, NB188_186.out, NB189_188.out, NB188_189.out, GW189.out, GE189.out, NB184_189.out, NB189_184.out, NB185_189.out, NB189_185.out, NB186_189.out, NB189_186.out, (XOpen.bl5 HB.out GE184.out GE185.out GE186.out GE188.out GE189.out)⟩)
     ·skip
      refine box_step ?hg (N := 8) ?hd (cs := #[.int .i64 0, .int .i64 0]) (t := 26) ?hr ?_; (case hd => rfl); (case hg => rfl); (case hr => first | (go_simp; done) | (go_simp; rfl))
      intro gb189 hg w13 hbox hb
      have n0_ := Aside0.mk (blk_below (g := gb184) (o := .cells #[.int .i64 a0_0, .int .i64 a0_1] 26 (0, 0)) (XOpen.bk BK184.out) hb)
      have n1_ := Aside0.mk (blk_below (g := gb185) (o := .cells #[.int .i64 a1_0, .int .i64 a1_1] 26 (0, 0)) (XOpen.bk BK185.out) hb)
      have n2_ := Aside0.mk (blk_below (g := gb186) (o := .cells #[.int .i64 a2_0, .int .i64 a2_1, .int .i64 a2_2, .int .i64 a2_3] 33 (0, 0)) (XOpen.bk BK186.out) hb)
      have n3_ := Aside0.mk (below_step (XOpen.bl3 HB.out GE184.out GE185.out GE186.out) hb)
      have n4_ := Aside0.mk (hbox)
      have n5_ := Aside0.mk ((by rw [hg]; exact (below_size (XOpen.bl3 HB.out GE184.out GE185.out GE186.out)) : w.heap.size ≤ gb189))
      have n6_ := Aside0.mk ((by rw [hg]; exact (below_size (XOpen.bl3 HB.out GE184.out GE185.out GE186.out)) : w.heap.size ≤ gb189))
      have n7_ := Aside0.mk ((by rw [hg]; exact Nat.ne_of_lt (blk_lt (g := gb184) (o := .cells #[.int .i64 a0_0, .int .i64 a0_1] 26 (0, 0)) (XOpen.bk BK184.out)) : gb184 ≠ gb189))
      have n8_ := Aside0.mk ((by rw [hg]; exact Nat.ne_of_gt (blk_lt (g := gb184) (o := .cells #[.int .i64 a0_0, .int .i64 a0_1] 26 (0, 0)) (XOpen.bk BK184.out)) : gb189 ≠ gb184))
      have n9_ := Aside0.mk ((by rw [hg]; exact Nat.ne_of_lt (blk_lt (g := gb185) (o := .cells #[.int .i64 a1_0, .int .i64 a1_1] 26 (0, 0)) (XOpen.bk BK185.out)) : gb185 ≠ gb189))
      have n10_ := Aside0.mk ((by rw [hg]; exact Nat.ne_of_gt (blk_lt (g := gb185) (o := .cells #[.int .i64 a1_0, .int .i64 a1_1] 26 (0, 0)) (XOpen.bk BK185.out)) : gb189 ≠ gb185))
      have n11_ := Aside0.mk ((by rw [hg]; exact Nat.ne_of_lt (blk_lt (g := gb186) (o := .cells #[.int .i64 a2_0, .int .i64 a2_1, .int .i64 a2_2, .int .i64 a2_3] 33 (0, 0)) (XOpen.bk BK186.out)) : gb186 ≠ gb189))
      have n12_ := Aside0.mk ((by rw [hg]; exact Nat.ne_of_gt (blk_lt (g := gb186) (o := .cells #[.int .i64 a2_0, .int .i64 a2_1, .int .i64 a2_2, .int .i64 a2_3] 33 (0, 0)) (XOpen.bk BK186.out)) : gb189 ≠ gb186))
      clear BK184
      clear BK185
      clear BK186
      clear HB
      have BK184 := n0_
      have BK185 := n1_
      have BK186 := n2_
      have HB := n3_
      have BK189 := n4_
      have GW189 := n5_
      have GE189 := n6_
      have NB184_189 := n7_
      have NB189_184 := n8_
      have NB185_189 := n9_
      have NB189_185 := n10_
      have NB186_189 := n11_
      have NB189_186 := n12_
      clear n0_ n1_ n2_ n3_ n4_ n5_ n6_ n7_ n8_ n9_ n10_ n11_ n12_
      clear hb hbox hg
      refine hK.out _ _ ⟨(blk_cell BK186.out 0).trans rfl, (blk_cell BK186.out 1).trans rfl, (blk_cell BK186.out 2).trans rfl, (blk_cell BK186.out 3).trans rfl⟩ (fun hHeld => ?_)
      clear hK K
      refine norm_ (a' := ?_) ?_ ?_
      rotate_left
      ·show Act.put _ (some 8) _ = _
       simp only [Act.put, List.setIfInBounds_toArray, List.set_cons_zero, List.set_cons_succ, i64_w, i32_w]
       rfl
      refine one_ (i := 4) (N := some 7) #[true, true, true, true, true, true, false, false] rfl rfl (one_of HT_.out (by kernel_rfl)) (by decide) (fun K hK => ?_)
      refine box_step ?hg (N := 7) ?hd (cs := #[.int .i64 0, .int .i64 0]) (t := 26) ?hr ?_; (case hd => rfl); (case hg => rfl); (case hr => first | (go_simp; done) | (go_simp; rfl))
      intro gb188 hg w14 hbox hb
      have n0_ := Aside0.mk (blk_below (g := gb184) (o := .cells #[.int .i64 a0_0, .int .i64 a0_1] 26 (0, 0)) (XOpen.bk BK184.out) hb)
      have n1_ := Aside0.mk (blk_below (g := gb185) (o := .cells #[.int .i64 a1_0, .int .i64 a1_1] 26 (0, 0)) (XOpen.bk BK185.out) hb)
      have n2_ := Aside0.mk (blk_below (g := gb186) (o := .cells #[.int .i64 a2_0, .int .i64 a2_1, .int .i64 a2_2, .int .i64 a2_3] 33 (0, 0)) (XOpen.bk BK186.out) hb)
      have n3_ := Aside0.mk (blk_below (g := gb189) (o := .cells #[.int .i64 0, .int .i64 0] 26 (0, 0)) (XOpen.bk BK189.out) hb)
      have n4_ := Aside0.mk (below_step (XOpen.bl4 HB.out GE184.out GE185.out GE186.out GE189.out) hb)
      have n5_ := Aside0.mk (hbox)
      have n6_ := Aside0.mk ((by rw [hg]; exact (below_size (XOpen.bl4 HB.out GE184.out GE185.out GE186.out GE189.out)) : w.heap.size ≤ gb188))
      have n7_ := Aside0.mk ((by rw [hg]; exact (below_size (XOpen.bl4 HB.out GE184.out GE185.out GE186.out GE189.out)) : w.heap.size ≤ gb188))
      have n8_ := Aside0.mk ((by rw [hg]; exact Nat.ne_of_lt (blk_lt (g := gb184) (o := .cells #[.int .i64 a0_0, .int .i64 a0_1] 26 (0, 0)) (XOpen.bk BK184.out)) : gb184 ≠ gb188))
      have n9_ := Aside0.mk ((by rw [hg]; exact Nat.ne_of_gt (blk_lt (g := gb184) (o := .cells #[.int .i64 a0_0, .int .i64 a0_1] 26 (0, 0)) (XOpen.bk BK184.out)) : gb188 ≠ gb184))
      have n10_ := Aside0.mk ((by rw [hg]; exact Nat.ne_of_lt (blk_lt (g := gb185) (o := .cells #[.int .i64 a1_0, .int .i64 a1_1] 26 (0, 0)) (XOpen.bk BK185.out)) : gb185 ≠ gb188))
      have n11_ := Aside0.mk ((by rw [hg]; exact Nat.ne_of_gt (blk_lt (g := gb185) (o := .cells #[.int .i64 a1_0, .int .i64 a1_1] 26 (0, 0)) (XOpen.bk BK185.out)) : gb188 ≠ gb185))
      have n12_ := Aside0.mk ((by rw [hg]; exact Nat.ne_of_lt (blk_lt (g := gb186) (o := .cells #[.int .i64 a2_0, .int .i64 a2_1, .int .i64 a2_2, .int .i64 a2_3] 33 (0, 0)) (XOpen.bk BK186.out)) : gb186 ≠ gb188))
      have n13_ := Aside0.mk ((by rw [hg]; exact Nat.ne_of_gt (blk_lt (g := gb186) (o := .cells #[.int .i64 a2_0, .int .i64 a2_1, .int .i64 a2_2, .int .i64 a2_3] 33 (0, 0)) (XOpen.bk BK186.out)) : gb188 ≠ gb186))
      have n14_ := Aside0.mk ((by rw [hg]; exact Nat.ne_of_lt (blk_lt (g := gb189) (o := .cells #[.int .i64 0, .int .i64 0] 26 (0, 0)) (XOpen.bk BK189.out)) : gb189 ≠ gb188))
      have n15_ := Aside0.mk ((by rw [hg]; exact Nat.ne_of_gt (blk_lt (g := gb189) (o := .cells #[.int .i64 0, .int .i64 0] 26 (0, 0)) (XOpen.bk BK189.out)) : gb188 ≠ gb189))
      clear BK184
      clear BK185
      clear BK186
      clear BK189
      clear HB
      have BK184 := n0_
      have BK185 := n1_
      have BK186 := n2_
      have BK189 := n3_
      have HB := n4_
      have BK188 := n5_
      have GW188 := n6_
      have GE188 := n7_
      have NB184_188 := n8_
      have NB188_184 := n9_
      have NB185_188 := n10_
      have NB188_185 := n11_
      have NB186_188 := n12_
      have NB188_186 := n13_
      have NB189_188 := n14_
      have NB188_189 := n15_
      clear n0_ n1_ n2_ n3_ n4_ n5_ n6_ n7_ n8_ n9_ n10_ n11_ n12_ n13_ n14_ n15_
      clear hb hbox hg
      refine hK.out _ _ ⟨(blk_cell BK186.out 0).trans rfl, (blk_cell BK186.out 1).trans rfl, (blk_cell BK186.out 2).trans rfl, (blk_cell BK186.out 3).trans rfl⟩ (fun hHeld => ?_)
      clear hK K
      refine norm_ (a' := ?_) ?_ ?_
      rotate_left
      ·show Act.put _ (some 7) _ = _
       simp only [Act.put, List.setIfInBounds_toArray, List.set_cons_zero, List.set_cons_succ, i64_w, i32_w]
       rfl
      exact norm_ (by simp only [putAll, Act.put, List.setIfInBounds_toArray, List.set_cons_zero, List.set_cons_succ]) (hCont (gb188, gb189) _ ⟨hHeld, (XOpen.bk BK184.out), (XOpen.bk BK185.out), (XOpen.bk BK186.out), (XOpen.bk BK188.out), (XOpen.bk BK189.out), GW188.out, GE188.out, NB184_188.out, NB188_184.out, NB185_188.out, NB188_185.out, NB186_188.out, NB188_186.out, NB189_188.out, NB188_189.out, GW189.out, GE189.out, NB184_189.out, NB189_184.out, NB185_189.out, NB189_185.out, NB186_189.out, NB189_186.out, (XOpen.bl5 HB.out GE184.out GE185.out GE186.out GE189.out GE188.out)⟩)
    rintro ⟨gb188, gb189⟩ w15 ⟨hS_, h0_, h1_, h2_, h3_, h4_, h5_, h6_, h7_, h8_, h9_, h10_, h11_, h12_, h13_, h14_, h15_, h16_, h17_, h18_, h19_, h20_, h21_, h22_, h23_⟩
    have n0_ : Aside0 (w15.heap[gb184]? = some (.cells #[.int .i64 a0_0, .int .i64 a0_1] 26 (0, 0))) := ⟨h0_⟩
    have n1_ : Aside0 (w15.heap[gb185]? = some (.cells #[.int .i64 a1_0, .int .i64 a1_1] 26 (0, 0))) := ⟨h1_⟩
    have n2_ : Aside0 (w15.heap[gb186]? = some (.cells #[.int .i64 a2_0, .int .i64 a2_1, .int .i64 a2_2, .int .i64 a2_3] 33 (0, 0))) := ⟨h2_⟩
    have n3_ : Aside0 (w15.heap[gb188]? = some (.cells #[.int .i64 0, .int .i64 0] 26 (0, 0))) := ⟨h3_⟩
    have n4_ : Aside0 (w15.heap[gb189]? = some (.cells #[.int .i64 0, .int .i64 0] 26 (0, 0))) := ⟨h4_⟩
    have n5_ : Aside0 (w.heap.size ≤ gb188) := ⟨h5_⟩
    have n6_ : Aside0 (w.heap.size ≤ gb188) := ⟨h6_⟩
    have n7_ : Aside0 (gb184 ≠ gb188) := ⟨h7_⟩
    have n8_ : Aside0 (gb188 ≠ gb184) := ⟨h8_⟩
    have n9_ : Aside0 (gb185 ≠ gb188) := ⟨h9_⟩
    have n10_ : Aside0 (gb188 ≠ gb185) := ⟨h10_⟩
    have n11_ : Aside0 (gb186 ≠ gb188) := ⟨h11_⟩
    have n12_ : Aside0 (gb188 ≠ gb186) := ⟨h12_⟩
    have n13_ : Aside0 (gb189 ≠ gb188) := ⟨h13_⟩
    have n14_ : Aside0 (gb188 ≠ gb189) := ⟨h14_⟩
    have n15_ : Aside0 (w.heap.size ≤ gb189) := ⟨h15_⟩
    have n16_ : Aside0 (w.heap.size ≤ gb189) := ⟨h16_⟩
    have n17_ : Aside0 (gb184 ≠ gb189) := ⟨h17_⟩
    have n18_ : Aside0 (gb189 ≠ gb184) := ⟨h18_⟩
    have n19_ : Aside0 (gb185 ≠ gb189) := ⟨h19_⟩
    have n20_ : Aside0 (gb189 ≠ gb185) := ⟨h20_⟩
    have n21_ : Aside0 (gb186 ≠ gb189) := ⟨h21_⟩
    have n22_ : Aside0 (gb189 ≠ gb186) := ⟨h22_⟩
    have n23_ : Aside0 (Below w.heap.size w w15) := ⟨h23_⟩
    clear BK184
    clear BK185
    clear BK186
    clear HB
    clear h0_ h1_ h2_ h3_ h4_ h5_ h6_ h7_ h8_ h9_ h10_ h11_ h12_ h13_ h14_ h15_ h16_ h17_ h18_ h19_ h20_ h21_ h22_ h23_
    have BK184 := n0_
    have BK185 := n1_
    have BK186 := n2_
    have BK188 := n3_
    have BK189 := n4_
    have GW188 := n5_
    have GE188 := n6_
    have NB184_188 := n7_
    have NB188_184 := n8_
    have NB185_188 := n9_
    have NB188_185 := n10_
    have NB186_188 := n11_
    have NB188_186 := n12_
    have NB189_188 := n13_
    have NB188_189 := n14_
    have GW189 := n15_
    have GE189 := n16_
    have NB184_189 := n17_
    have NB189_184 := n18_
    have NB185_189 := n19_
    have NB189_185 := n20_
    have NB186_189 := n21_
    have NB189_186 := n22_
    have HB := n23_
    clear n0_ n1_ n2_ n3_ n4_ n5_ n6_ n7_ n8_ n9_ n10_ n11_ n12_ n13_ n14_ n15_ n16_ n17_ n18_ n19_ n20_ n21_ n22_ n23_
    have hHeld : w15.cell? ⟨gb186, 0, none⟩ = some (.int .i64 a2_0) ∧ w15.cell? ⟨gb186, 1, none⟩ = some (.int .i64 a2_1) ∧ w15.cell? ⟨gb186, 2, none⟩ = some (.int .i64 a2_2) ∧ w15.cell? ⟨gb186, 3, none⟩ = some (.int .i64 a2_3) := hS_
    refine norm_ (a' := ?_) ?_ ?_
    rotate_left
    ·simp only [putAll, Act.put, List.setIfInBounds_toArray, List.set_cons_zero, List.set_cons_succ]
     rfl
    refine one_ (i := 6) (N := none) #[true, true, true, true, true, true, true, false] rfl rfl (one_of HT_.out (by kernel_rfl)) (by decide) (fun K hK => ?_)
    have hs16 : w15.cell? ⟨gb188, 0, none⟩ = some (.int .i64 0) := (blk_cell BK188.out 0).trans rfl
    have hfs16 := blk_frozen BK188.out 0
    have hns16_0 := NB184_188.out
    have hns16_1 := NB185_188.out
    have hns16_2 := NB186_188.out
    have hns16_4 := NB189_188.out
    have hms16_0 := NB188_184.out
    have hms16_1 := NB188_185.out
    have hms16_2 := NB188_186.out
    have hms16_4 := NB188_189.out
    have hs17 : w15.cell? ⟨gb188, 1, none⟩ = some (.int .i64 0) := (blk_cell BK188.out 1).trans rfl
    have hfs17 := blk_frozen BK188.out 1
    have hns17_0 := NB184_188.out
    have hns17_1 := NB185_188.out
    have hns17_2 := NB186_188.out
    have hns17_4 := NB189_188.out
    have hms17_0 := NB188_184.out
    have hms17_1 := NB188_185.out
    have hms17_2 := NB188_186.out
    have hms17_4 := NB188_189.out
    refine skip_ (w1 := ?_) (by rfl) rfl ?_ ?_
    rotate_left
    ·go_simp
     rfl
    refine hK.out _ _ ⟨((cell_far (p := ⟨gb188, _, none⟩) NB186_188.out _).trans (((cell_far (p := ⟨gb188, _, none⟩) NB186_188.out _).trans (hHeld.1)))), ((cell_far (p := ⟨gb188, _, none⟩) NB186_188.out _).trans (((cell_far (p := ⟨gb188, _, none⟩) NB186_188.out _).trans (hHeld.2.1)))), ((cell_far (p := ⟨gb188, _, none⟩) NB186_188.out _).trans (((cell_far (p := ⟨gb188, _, none⟩) NB186_188.out _).trans (hHeld.2.2.1)))), ((cell_far (p := ⟨gb188, _, none⟩) NB186_188.out _).trans (((cell_far (p := ⟨gb188, _, none⟩) NB186_188.out _).trans (hHeld.2.2.2))))⟩ (fun hHeld => ?_)
    clear hK K
    refine one_ (i := 7) (N := none) #[true, true, true, true, true, true, true, true] rfl rfl (one_of HT_.out (by kernel_rfl)) (by decide) (fun K hK => ?_)
    have hs18 : w15.cell? ⟨gb189, 0, none⟩ = some (.int .i64 0) := (blk_cell BK189.out 0).trans rfl
    have hfs18 := blk_frozen BK189.out 0
    have hns18_0 := NB184_189.out
    have hns18_1 := NB185_189.out
    have hns18_2 := NB186_189.out
    have hns18_3 := NB188_189.out
    have hms18_0 := NB189_184.out
    have hms18_1 := NB189_185.out
    have hms18_2 := NB189_186.out
    have hms18_3 := NB189_188.out
    have hs19 : w15.cell? ⟨gb189, 1, none⟩ = some (.int .i64 0) := (blk_cell BK189.out 1).trans rfl
    have hfs19 := blk_frozen BK189.out 1
    have hns19_0 := NB184_189.out
    have hns19_1 := NB185_189.out
    have hns19_2 := NB186_189.out
    have hns19_3 := NB188_189.out
    have hms19_0 := NB189_184.out
    have hms19_1 := NB189_185.out
    have hms19_2 := NB189_186.out
    have hms19_3 := NB189_188.out
    refine skip_ (w1 := ?_) (by rfl) rfl ?_ ?_
    rotate_left
    ·go_simp
     rfl
    refine hK.out _ _ ⟨((cell_far (p := ⟨gb189, _, none⟩) NB186_189.out _).trans (((cell_far (p := ⟨gb189, _, none⟩) NB186_189.out _).trans (hHeld.1)))), ((cell_far (p := ⟨gb189, _, none⟩) NB186_189.out _).trans (((cell_far (p := ⟨gb189, _, none⟩) NB186_189.out _).trans (hHeld.2.1)))), ((cell_far (p := ⟨gb189, _, none⟩) NB186_189.out _).trans (((cell_far (p := ⟨gb189, _, none⟩) NB186_189.out _).trans (hHeld.2.2.1)))), ((cell_far (p := ⟨gb189, _, none⟩) NB186_189.out _).trans (((cell_far (p := ⟨gb189, _, none⟩) NB186_189.out _).trans (hHeld.2.2.2))))⟩ (fun hHeld => ?_)
    clear hK K
    refine done_ (done_of HT_.out (by kernel_rfl)) ?_
    go_upto_region 4 with (fail)
    go_cut [29] (fun v29 wc => ∃ (kq : Nat) (x29_10 : Bool), v29 = .bool x29_10 ∧ Aside0 (pochoirlaw18_PlaneMeets.j1 kq x29_10 a0_0 a0_1 a1_0 a1_1 a2_0 a2_1 a2_2 a2_3 = some r) ∧ Aside0 (kq ≤ kj3) ∧ Aside0 (wc.heap[gb184]? = some (.cells #[.int .i64 a0_0, .int .i64 a0_1] 26 (0, 0))) ∧ Aside0 (wc.heap[gb185]? = some (.cells #[.int .i64 a1_0, .int .i64 a1_1] 26 (0, 0))) ∧ Aside0 (wc.heap[gb186]? = some (.cells #[.int .i64 a2_0, .int .i64 a2_1, .int .i64 a2_2, .int .i64 a2_3] 33 (0, 0))) ∧ Aside0 (wc.heap[gb188]? = some (.cells #[.int .i64 a2_0, .int .i64 a2_1] 26 (0, 0))) ∧ Aside0 (wc.heap[gb189]? = some (.cells #[.int .i64 a2_2, .int .i64 a2_3] 26 (0, 0))) ∧ Aside0 (Below w.heap.size w wc))
    case first =>
     have H := HC11.out
     clear HC11
     obtain ⟨y190, hy190⟩ : ∃ y_ : List (S26), y_ = (([(⟨a0_0, a0_1⟩ : S26), (⟨a1_0, a1_1⟩ : S26), (⟨a2_0, a2_1⟩ : S26), (⟨a2_2, a2_3⟩ : S26)] : List (S26))) := ⟨_, rfl⟩
     replace H : ((pochoirref18_Asked.f kj3 y190).bind fun t193 => (pochoirlaw18_PlaneMeets.j1 kj3 (t193 != 0) a0_0 a0_1 a1_0 a1_1 a2_0 a2_1 a2_2 a2_3)) = some r := by first | (rw [hy190]; with_reducible exact H) | (have H2_ := (Option.bind_some _ _).symm.trans H; rw [hy190]; with_reducible exact H2_) | (have H2_ := (Option.bind_some _ _).symm.trans H; with_reducible exact H2_) | with_reducible exact H | (rw [hy190]; exact H) | exact H
     have Ny190 := Aside0.mk hy190
     clear hy190
     replace H := Option.bind_eq_some_iff.mp H
     obtain ⟨t193, A200, H⟩ := H
     replace H : (pochoirlaw18_PlaneMeets.j1 kj3 (t193 != 0) a0_0 a0_1 a1_0 a1_1 a2_0 a2_1 a2_2 a2_3) = some r := H
     have A20 := Aside0.mk A200
     clear A200
     have H' := Aside0.mk H
     clear H
     have hnb21 := NB184_185.out
     have hnc21 := NB185_184.out
     have hnb22 := NB184_186.out
     have hnc22 := NB186_184.out
     have hnb23 := NB184_188.out
     have hnc23 := NB188_184.out
     have hnb24 := NB184_189.out
     have hnc24 := NB189_184.out
     have hcz25_0 : w15.cell? ⟨gb184, 0, none⟩ = some (.int .i64 a0_0) := (blk_cell BK184.out 0).trans rfl
     have hcz25_1 : w15.cell? ⟨gb184, 1, none⟩ = some (.int .i64 a0_1) := (blk_cell BK184.out 1).trans rfl
     have hfz25_0 := blk_frozen BK184.out 0
     have hfz25_1 := blk_frozen BK184.out 1
     have hnb26 := NB185_186.out
     have hnc26 := NB186_185.out
     have hnb27 := NB185_188.out
     have hnc27 := NB188_185.out
     have hnb28 := NB185_189.out
     have hnc28 := NB189_185.out
     have hcz29_0 : w15.cell? ⟨gb185, 0, none⟩ = some (.int .i64 a1_0) := (blk_cell BK185.out 0).trans rfl
     have hcz29_1 : w15.cell? ⟨gb185, 1, none⟩ = some (.int .i64 a1_1) := (blk_cell BK185.out 1).trans rfl
     have hfz29_0 := blk_frozen BK185.out 0
     have hfz29_1 := blk_frozen BK185.out 1
     have hnb30 := NB188_186.out
     have hnc30 := NB186_188.out
     have hnb31 := NB188_189.out
     have hnc31 := NB189_188.out
     have hcz32_0 : w15.cell? ⟨gb188, 0, none⟩ = some (.int .i64 0) := (blk_cell BK188.out 0).trans rfl
     have hcz32_1 : w15.cell? ⟨gb188, 1, none⟩ = some (.int .i64 0) := (blk_cell BK188.out 1).trans rfl
     have hfz32_0 := blk_frozen BK188.out 0
     have hfz32_1 := blk_frozen BK188.out 1
     have hnb33 := NB189_186.out
     have hnc33 := NB186_189.out
     have hcz34_0 : w15.cell? ⟨gb189, 0, none⟩ = some (.int .i64 0) := (blk_cell BK189.out 0).trans rfl
     have hcz34_1 : w15.cell? ⟨gb189, 1, none⟩ = some (.int .i64 0) := (blk_cell BK189.out 1).trans rfl
     have hfz34_0 := blk_frozen BK189.out 0
     have hfz34_1 := blk_frozen BK189.out 1
     go_wp2_with (first | ((with_reducible refine gate_dst (N := 27) rfl ?_); refine Kd.R_lit k26 _ 26 ?hg (N := 27) ?hd (xs := ([(⟨a0_0, a0_1⟩ : S26), (⟨a1_0, a1_1⟩ : S26), (⟨a2_0, a2_1⟩ : S26), (⟨a2_2, a2_3⟩ : S26)] : List (S26))) (inner := [.int .i64 a0_0, .int .i64 a0_1, .int .i64 a1_0, .int .i64 a1_1, .int .i64 a2_0, .int .i64 a2_1, .int .i64 a2_2, .int .i64 a2_3]) (ok := fun _ => True) (okp := fun _ => True) ?hr ?hp (fun _ hk => hk) trivial (Below.refl _ _) (Nat.le_refl _) (by simp) ?_; (case hd => rfl); (case hg => rfl); (case hr => first | (go_simp; done) | (go_simp; rfl)); (case hp => exact (Reps.c2 (show Kd.M k26 _ _ _ (⟨a0_0, a0_1⟩ : S26) [.int .i64 a0_0, .int .i64 a0_1] from (k26_mkM _ _ _ (⟨a0_0, a0_1⟩ : S26) )) (Reps.c2 (show Kd.M k26 _ _ _ (⟨a1_0, a1_1⟩ : S26) [.int .i64 a1_0, .int .i64 a1_1] from (k26_mkM _ _ _ (⟨a1_0, a1_1⟩ : S26) )) (Reps.c2 (show Kd.M k26 _ _ _ (⟨a2_0, a2_1⟩ : S26) [.int .i64 a2_0, .int .i64 a2_1] from (k26_mkM _ _ _ (⟨a2_0, a2_1⟩ : S26) )) (Reps.c2 (show Kd.M k26 _ _ _ (⟨a2_2, a2_3⟩ : S26) [.int .i64 a2_2, .int .i64 a2_3] from (k26_mkM _ _ _ (⟨a2_2, a2_3⟩ : S26) )) (Reps.none _ _)))))); intro v191 w35 ho36 hb hg_ hnew_; clear hg_ hnew_; (first | rw [← Ny190.out] at ho36 | (simp only [Int.reduceToNat] at ho36; rw [← Ny190.out] at ho36)); have n0_ := Aside0.mk (Kd.R_lower (Kd.R_newB (Kd.R_newB (Kd.R_newB (Kd.R_newB ho36 (g := gb184) (o := .cells #[.int .i64 a0_0, .int .i64 a0_1] 26 (0, 0)) (by (with_reducible repeat (first | refine blk_drewN ?_ _ | refine blk_drew ?_ | refine blk_alloc ?_ _)); refine blk_far ?_ NB184_189.out _; (with_reducible repeat (first | refine blk_drewN ?_ _ | refine blk_drew ?_ | refine blk_alloc ?_ _)); refine blk_far ?_ NB184_189.out _; (with_reducible repeat (first | refine blk_drewN ?_ _ | refine blk_drew ?_ | refine blk_alloc ?_ _)); refine blk_far ?_ NB184_188.out _; (with_reducible repeat (first | refine blk_drewN ?_ _ | refine blk_drew ?_ | refine blk_alloc ?_ _)); refine blk_far ?_ NB184_188.out _; (with_reducible repeat (first | refine blk_drewN ?_ _ | refine blk_drew ?_ | refine blk_alloc ?_ _)); exact BK184.out)) (g := gb185) (o := .cells #[.int .i64 a1_0, .int .i64 a1_1] 26 (0, 0)) (by (with_reducible repeat (first | refine blk_drewN ?_ _ | refine blk_drew ?_ | refine blk_alloc ?_ _)); refine blk_far ?_ NB185_189.out _; (with_reducible repeat (first | refine blk_drewN ?_ _ | refine blk_drew ?_ | refine blk_alloc ?_ _)); refine blk_far ?_ NB185_189.out _; (with_reducible repeat (first | refine blk_drewN ?_ _ | refine blk_drew ?_ | refine blk_alloc ?_ _)); refine blk_far ?_ NB185_188.out _; (with_reducible repeat (first | refine blk_drewN ?_ _ | refine blk_drew ?_ | refine blk_alloc ?_ _)); refine blk_far ?_ NB185_188.out _; (with_reducible repeat (first | refine blk_drewN ?_ _ | refine blk_drew ?_ | refine blk_alloc ?_ _)); exact BK185.out)) (g := gb188) (o := .cells #[.int .i64 a2_0, .int .i64 a2_1] 26 (0, 0)) (by (with_reducible repeat (first | refine blk_drewN ?_ _ | refine blk_drew ?_ | refine blk_alloc ?_ _)); refine blk_far ?_ NB188_189.out _; (with_reducible repeat (first | refine blk_drewN ?_ _ | refine blk_drew ?_ | refine blk_alloc ?_ _)); refine blk_far ?_ NB188_189.out _; (with_reducible repeat (first | refine blk_drewN ?_ _ | refine blk_drew ?_ | refine blk_alloc ?_ _)); refine blk_put (cs := #[.int .i64 a2_0, .int .i64 0]) ?_ 1 _ rfl; (with_reducible repeat (first | refine blk_drewN ?_ _ | refine blk_drew ?_ | refine blk_alloc ?_ _)); refine blk_put (cs := #[.int .i64 0, .int .i64 0]) ?_ 0 _ rfl; (with_reducible repeat (first | refine blk_drewN ?_ _ | refine blk_drew ?_ | refine blk_alloc ?_ _)); exact BK188.out)) (g := gb189) (o := .cells #[.int .i64 a2_2, .int .i64 a2_3] 26 (0, 0)) (by (with_reducible repeat (first | refine blk_drewN ?_ _ | refine blk_drew ?_ | refine blk_alloc ?_ _)); refine blk_put (cs := #[.int .i64 a2_2, .int .i64 0]) ?_ 1 _ rfl; (with_reducible repeat (first | refine blk_drewN ?_ _ | refine blk_drew ?_ | refine blk_alloc ?_ _)); refine blk_put (cs := #[.int .i64 0, .int .i64 0]) ?_ 0 _ rfl; (with_reducible repeat (first | refine blk_drewN ?_ _ | refine blk_drew ?_ | refine blk_alloc ?_ _)); refine blk_far ?_ NB189_188.out _; (with_reducible repeat (first | refine blk_drewN ?_ _ | refine blk_drew ?_ | refine blk_alloc ?_ _)); refine blk_far ?_ NB189_188.out _; (with_reducible repeat (first | refine blk_drewN ?_ _ | refine blk_drew ?_ | refine blk_alloc ?_ _)); exact BK189.out)) (below_size (XOpen.bl5 HB.out GE184.out GE185.out GE186.out GE188.out GE189.out))); have n1_ := Aside0.mk (blk_below (g := gb184) (o := .cells #[.int .i64 a0_0, .int .i64 a0_1] 26 (0, 0)) (by (with_reducible repeat (first | refine blk_drewN ?_ _ | refine blk_drew ?_ | refine blk_alloc ?_ _)); refine blk_far ?_ NB184_189.out _; (with_reducible repeat (first | refine blk_drewN ?_ _ | refine blk_drew ?_ | refine blk_alloc ?_ _)); refine blk_far ?_ NB184_189.out _; (with_reducible repeat (first | refine blk_drewN ?_ _ | refine blk_drew ?_ | refine blk_alloc ?_ _)); refine blk_far ?_ NB184_188.out _; (with_reducible repeat (first | refine blk_drewN ?_ _ | refine blk_drew ?_ | refine blk_alloc ?_ _)); refine blk_far ?_ NB184_188.out _; (with_reducible repeat (first | refine blk_drewN ?_ _ | refine blk_drew ?_ | refine blk_alloc ?_ _)); exact BK184.out) hb); have n2_ := Aside0.mk (blk_below (g := gb185) (o := .cells #[.int .i64 a1_0, .int .i64 a1_1] 26 (0, 0)) (by (with_reducible repeat (first | refine blk_drewN ?_ _ | refine blk_drew ?_ | refine blk_alloc ?_ _)); refine blk_far ?_ NB185_189.out _; (with_reducible repeat (first | refine blk_drewN ?_ _ | refine blk_drew ?_ | refine blk_alloc ?_ _)); refine blk_far ?_ NB185_189.out _; (with_reducible repeat (first | refine blk_drewN ?_ _ | refine blk_drew ?_ | refine blk_alloc ?_ _)); refine blk_far ?_ NB185_188.out _; (with_reducible repeat (first | refine blk_drewN ?_ _ | refine blk_drew ?_ | refine blk_alloc ?_ _)); refine blk_far ?_ NB185_188.out _; (with_reducible repeat (first | refine blk_drewN ?_ _ | refine blk_drew ?_ | refine blk_alloc ?_ _)); exact BK185.out) hb); have n3_ := Aside0.mk (blk_below (g := gb186) (o := .cells #[.int .i64 a2_0, .int .i64 a2_1, .int .i64 a2_2, .int .i64 a2_3] 33 (0, 0)) (by (with_reducible repeat (first | refine blk_drewN ?_ _ | refine blk_drew ?_ | refine blk_alloc ?_ _)); refine blk_far ?_ NB186_189.out _; (with_reducible repeat (first | refine blk_drewN ?_ _ | refine blk_drew ?_ | refine blk_alloc ?_ _)); refine blk_far ?_ NB186_189.out _; (with_reducible repeat (first | refine blk_drewN ?_ _ | refine blk_drew ?_ | refine blk_alloc ?_ _)); refine blk_far ?_ NB186_188.out _; (with_reducible repeat (first | refine blk_drewN ?_ _ | refine blk_drew ?_ | refine blk_alloc ?_ _)); refine blk_far ?_ NB186_188.out _; (with_reducible repeat (first | refine blk_drewN ?_ _ | refine blk_drew ?_ | refine blk_alloc ?_ _)); exact BK186.out) hb); have n4_ := Aside0.mk (blk_below (g := gb188) (o := .cells #[.int .i64 a2_0, .int .i64 a2_1] 26 (0, 0)) (by (with_reducible repeat (first | refine blk_drewN ?_ _ | refine blk_drew ?_ | refine blk_alloc ?_ _)); refine blk_far ?_ NB188_189.out _; (with_reducible repeat (first | refine blk_drewN ?_ _ | refine blk_drew ?_ | refine blk_alloc ?_ _)); refine blk_far ?_ NB188_189.out _; (with_reducible repeat (first | refine blk_drewN ?_ _ | refine blk_drew ?_ | refine blk_alloc ?_ _)); refine blk_put (cs := #[.int .i64 a2_0, .int .i64 0]) ?_ 1 _ rfl; (with_reducible repeat (first | refine blk_drewN ?_ _ | refine blk_drew ?_ | refine blk_alloc ?_ _)); refine blk_put (cs := #[.int .i64 0, .int .i64 0]) ?_ 0 _ rfl; (with_reducible repeat (first | refine blk_drewN ?_ _ | refine blk_drew ?_ | refine blk_alloc ?_ _)); exact BK188.out) hb); have n5_ := Aside0.mk (blk_below (g := gb189) (o := .cells #[.int .i64 a2_2, .int .i64 a2_3] 26 (0, 0)) (by (with_reducible repeat (first | refine blk_drewN ?_ _ | refine blk_drew ?_ | refine blk_alloc ?_ _)); refine blk_put (cs := #[.int .i64 a2_2, .int .i64 0]) ?_ 1 _ rfl; (with_reducible repeat (first | refine blk_drewN ?_ _ | refine blk_drew ?_ | refine blk_alloc ?_ _)); refine blk_put (cs := #[.int .i64 0, .int .i64 0]) ?_ 0 _ rfl; (with_reducible repeat (first | refine blk_drewN ?_ _ | refine blk_drew ?_ | refine blk_alloc ?_ _)); refine blk_far ?_ NB189_188.out _; (with_reducible repeat (first | refine blk_drewN ?_ _ | refine blk_drew ?_ | refine blk_alloc ?_ _)); refine blk_far ?_ NB189_188.out _; (with_reducible repeat (first | refine blk_drewN ?_ _ | refine blk_drew ?_ | refine blk_alloc ?_ _)); exact BK189.out) hb); have n6_ := Aside0.mk (below_step (XOpen.bl5 HB.out GE184.out GE185.out GE186.out GE188.out GE189.out) hb); clear BK184; clear BK185; clear BK186; clear BK188; clear BK189; clear HB; have HO192 := n0_; have BK184 := n1_; have BK185 := n2_; have BK186 := n3_; have BK188 := n4_; have BK189 := n5_; have HB := n6_; clear n0_ n1_ n2_ n3_ n4_ n5_ n6_; clear hb ho36; obtain ⟨Ao37, co37, eo37⟩ := Kd.R_slice HO192.out; subst eo37) | ((with_reducible refine gate_callee (f := 15) rfl ?_); refine goesL_ (some 28) rfl rfl Try.func15 (by kernel_rfl) rfl #[.slice Ao37 y190.length co37] rfl (by (try simp only [List.map_toArray, List.map_cons, List.map_nil]); first | done | rfl | (simp only [List.length_drop, List.length_take]; rfl)) ?_; (with_reducible refine (pochoirref18_Asked.calls kj3 _ _ y190 t193 _ ?side1 ?side2 A20.out).mono ?_); (case side1 => repeat (first | exact (Kd.R_reads' HO192.out).2.2 | (with_reducible refine Kd.C_alloc ?_ _) | (with_reducible refine Kd.C_drewN ?_ _) | (with_reducible refine Kd.C_drew ?_))); (case side2 => exact (Kd.R_reads' HO192.out).2.1); rintro e w38 ⟨rfl, hb⟩; refine ⟨_, rfl, ?_⟩; have n0_ := Aside0.mk (Kd.R_below (by (with_reducible repeat (first | apply Kd.R_alloc | apply Kd.R_drewN | apply Kd.R_drew)); exact HO192.out) hb); have n1_ := Aside0.mk (blk_below (g := gb184) (o := .cells #[.int .i64 a0_0, .int .i64 a0_1] 26 (0, 0)) (XOpen.bk BK184.out) hb); have n2_ := Aside0.mk (blk_below (g := gb185) (o := .cells #[.int .i64 a1_0, .int .i64 a1_1] 26 (0, 0)) (XOpen.bk BK185.out) hb); have n3_ := Aside0.mk (blk_below (g := gb186) (o := .cells #[.int .i64 a2_0, .int .i64 a2_1, .int .i64 a2_2, .int .i64 a2_3] 33 (0, 0)) (XOpen.bk BK186.out) hb); have n4_ := Aside0.mk (blk_below (g := gb188) (o := .cells #[.int .i64 a2_0, .int .i64 a2_1] 26 (0, 0)) (XOpen.bk BK188.out) hb); have n5_ := Aside0.mk (blk_below (g := gb189) (o := .cells #[.int .i64 a2_2, .int .i64 a2_3] 26 (0, 0)) (XOpen.bk BK189.out) hb); have n6_ := Aside0.mk (below_step (XOpen.bl5 HB.out GE184.out GE185.out GE186.out GE188.out GE189.out) hb); clear HO192; clear BK184; clear BK185; clear BK186; clear BK188; clear BK189; clear HB; have HO192 := n0_; have BK184 := n1_; have BK185 := n2_; have BK186 := n3_; have BK188 := n4_; have BK189 := n5_; have HB := n6_; clear n0_ n1_ n2_ n3_ n4_ n5_ n6_; (try clear hb); (try clear hb2); (try clear hk); (try clear hi)))
     go_meet
     case rel => exact ⟨_, ((t193 != 0)), (by first | rfl | (simp; done) | (simp [*]; done)), H', ⟨by have := HJ3.out; first | omega | exact Nat.le_refl _⟩, ⟨by (with_reducible repeat (first | refine blk_drewN ?_ _ | refine blk_drew ?_ | refine blk_alloc ?_ _)); exact BK184.out⟩, ⟨by (with_reducible repeat (first | refine blk_drewN ?_ _ | refine blk_drew ?_ | refine blk_alloc ?_ _)); exact BK185.out⟩, ⟨by (with_reducible repeat (first | refine blk_drewN ?_ _ | refine blk_drew ?_ | refine blk_alloc ?_ _)); exact BK186.out⟩, ⟨by (with_reducible repeat (first | refine blk_drewN ?_ _ | refine blk_drew ?_ | refine blk_alloc ?_ _)); exact BK188.out⟩, ⟨by (with_reducible repeat (first | refine blk_drewN ?_ _ | refine blk_drew ?_ | refine blk_alloc ?_ _)); exact BK189.out⟩, ⟨XOpen.bl5 HB.out GE184.out GE185.out GE186.out GE188.out GE189.out⟩⟩
    case rest =>
     clear HC11
     try clear c1
     try clear c2
     try clear p2
     try clear c3
     try clear c4
     try clear c10
     try clear c12
     try clear c15
     try clear c21
     try clear c22
     try clear c23
     try clear c24
     try clear c26
     try clear c27
     try clear c28
     try clear c30
     try clear c31
     try clear c33
     try clear hcz25_0
     try clear hcz25_1
     try clear hcz29_0
     try clear hcz29_1
     try clear hcz32_0
     try clear hcz32_1
     try clear hcz34_0
     try clear hcz34_1
     try clear hfz25_0
     try clear hfz25_1
     try clear hfz29_0
     try clear hfz29_1
     try clear hfz32_0
     try clear hfz32_1
     try clear hfz34_0
     try clear hfz34_1
     try clear p2
     obtain ⟨kq, x29_10, rfl, HA, HJ10, BK184, BK185, BK186, BK188, BK189, HB⟩ := hcut
     cases kq with
     | zero => exact absurd HA.out (by simp [pochoirlaw18_PlaneMeets.j1])
     | succ kj10 =>
      have H := HA.out
      clear HA
      simp only [pochoirlaw18_PlaneMeets.j1] at H
      by_cases c39 : x29_10 = true
      ·subst c39
       have H1 : (some true) = some r := by rw [if_pos rfl] at H; exact H
       clear H
       have H := H1
       clear H1
       obtain rfl := Option.some.inj H
       go_wp2
       go_ret
       exact ⟨by first | rfl | (simp [errW_none, errW_some] <;> rfl) | (simp [*, errW_none, errW_some] <;> rfl), XOpen.bl5 HB.out GE184.out GE185.out GE186.out GE188.out GE189.out⟩
      ·replace c39 := Bool.eq_false_iff.mpr c39
       subst c39
       have H1 : ((plane_Meet.f kj10 a0_0 a0_1 a1_0 a1_1 a2_0 a2_1 a2_2 a2_3).bind fun bt194 => ((plane_Meet.f kj10 a2_2 a2_3 a2_0 a2_1 a0_0 a0_1 a1_0 a1_1).bind fun bt196 => ((plane_Meet.f kj10 a0_0 a0_1 a1_0 a1_1 a1_0 a1_1 a0_0 a0_1).bind fun bt198 => ((plane_Meet.f kj10 a0_0 a0_1 a1_0 a1_1 a1_0 a1_1 a2_0 a2_1).bind fun bt200 => (if bt194.2 = 0 then (if bt196.2 = 0 then (if bt198.2 = 0 then (if bt200.2 = 0 then (if (bt194.1 == bt196.1) = true then (if bt198.1 = true then (some bt200.1) else (some false)) else (some false)) else (some false)) else (some false)) else (some false)) else (some false)))))) = some r := by rw [if_neg (show ¬ (false = true) by decide)] at H; exact H
       clear H
       have H := H1
       clear H1
       replace H := Option.bind_eq_some_iff.mp H
       obtain ⟨⟨t194, t195⟩, A400, H⟩ := H
       replace H : ((plane_Meet.f kj10 a2_2 a2_3 a2_0 a2_1 a0_0 a0_1 a1_0 a1_1).bind fun bt196 => ((plane_Meet.f kj10 a0_0 a0_1 a1_0 a1_1 a1_0 a1_1 a0_0 a0_1).bind fun bt198 => ((plane_Meet.f kj10 a0_0 a0_1 a1_0 a1_1 a1_0 a1_1 a2_0 a2_1).bind fun bt200 => (if t195 = 0 then (if bt196.2 = 0 then (if bt198.2 = 0 then (if bt200.2 = 0 then (if (t194 == bt196.1) = true then (if bt198.1 = true then (some bt200.1) else (some false)) else (some false)) else (some false)) else (some false)) else (some false)) else (some false))))) = some r := H
       have A40 := Aside0.mk A400
       clear A400
       replace H := Option.bind_eq_some_iff.mp H
       obtain ⟨⟨t196, t197⟩, A410, H⟩ := H
       replace H : ((plane_Meet.f kj10 a0_0 a0_1 a1_0 a1_1 a1_0 a1_1 a0_0 a0_1).bind fun bt198 => ((plane_Meet.f kj10 a0_0 a0_1 a1_0 a1_1 a1_0 a1_1 a2_0 a2_1).bind fun bt200 => (if t195 = 0 then (if t197 = 0 then (if bt198.2 = 0 then (if bt200.2 = 0 then (if (t194 == t196) = true then (if bt198.1 = true then (some bt200.1) else (some false)) else (some false)) else (some false)) else (some false)) else (some false)) else (some false)))) = some r := H
       have A41 := Aside0.mk A410
       clear A410
       replace H := Option.bind_eq_some_iff.mp H
       obtain ⟨⟨t198, t199⟩, A420, H⟩ := H
       replace H : ((plane_Meet.f kj10 a0_0 a0_1 a1_0 a1_1 a1_0 a1_1 a2_0 a2_1).bind fun bt200 => (if t195 = 0 then (if t197 = 0 then (if t199 = 0 then (if bt200.2 = 0 then (if (t194 == t196) = true then (if t198 = true then (some bt200.1) else (some false)) else (some false)) else (some false)) else (some false)) else (some false)) else (some false))) = some r := H
       have A42 := Aside0.mk A420
       clear A420
       replace H := Option.bind_eq_some_iff.mp H
       obtain ⟨⟨t200, t201⟩, A430, H⟩ := H
       replace H : (if t195 = 0 then (if t197 = 0 then (if t199 = 0 then (if t201 = 0 then (if (t194 == t196) = true then (if t198 = true then (some t200) else (some false)) else (some false)) else (some false)) else (some false)) else (some false)) else (some false)) = some r := H
       have A43 := Aside0.mk A430
       clear A430
       by_cases c44 : t195 = 0
       ·rw [if_pos c44] at H
        have c44b0 : (t195 == 0) = true := beq_iff_eq.mpr c44
        have c44b1 : (t195 != 0) = false := bne_eq_false_iff_eq.mpr c44
        clear c44
        by_cases c45 : t197 = 0
        ·rw [if_pos c45] at H
         have c45b0 : (t197 == 0) = true := beq_iff_eq.mpr c45
         have c45b1 : (t197 != 0) = false := bne_eq_false_iff_eq.mpr c45
         clear c45
         by_cases c46 : t199 = 0
         ·rw [if_pos c46] at H
          have c46b0 : (t199 == 0) = true := beq_iff_eq.mpr c46
          have c46b1 : (t199 != 0) = false := bne_eq_false_iff_eq.mpr c46
          clear c46
          by_cases c47 : t201 = 0
          ·rw [if_pos c47] at H
           have c47b0 : (t201 == 0) = true := beq_iff_eq.mpr c47
           have c47b1 : (t201 != 0) = false := bne_eq_false_iff_eq.mpr c47
           clear c47
           by_cases c48 : (t194 == t196) = true
           ·rw [if_pos c48] at H
            have c48b0 : (t194 == t196) = true := c48
            (try (have c48b1 : decide (t194 = t196) = true := by simpa using c48))
            (try (have c48b2 : (t194 == t196) = true := by simpa using c48))
            clear c48
            by_cases c49 : t198 = true
            ·subst c49
             have H1 : (some t200) = some r := by rw [if_pos rfl] at H; exact H
             clear H
             have H := H1
             clear H1
             obtain rfl := Option.some.inj H
             have hnb50 := NB184_185.out
             have hnc50 := NB185_184.out
             have hnb51 := NB184_186.out
             have hnc51 := NB186_184.out
             have hnb52 := NB184_188.out
             have hnc52 := NB188_184.out
             have hnb53 := NB184_189.out
             have hnc53 := NB189_184.out
             have hcz54_0 : wc.cell? ⟨gb184, 0, none⟩ = some (.int .i64 a0_0) := (blk_cell BK184.out 0).trans rfl
             have hcz54_1 : wc.cell? ⟨gb184, 1, none⟩ = some (.int .i64 a0_1) := (blk_cell BK184.out 1).trans rfl
             have hfz54_0 := blk_frozen BK184.out 0
             have hfz54_1 := blk_frozen BK184.out 1
             have hnb55 := NB185_186.out
             have hnc55 := NB186_185.out
             have hnb56 := NB185_188.out
             have hnc56 := NB188_185.out
             have hnb57 := NB185_189.out
             have hnc57 := NB189_185.out
             have hcz58_0 : wc.cell? ⟨gb185, 0, none⟩ = some (.int .i64 a1_0) := (blk_cell BK185.out 0).trans rfl
             have hcz58_1 : wc.cell? ⟨gb185, 1, none⟩ = some (.int .i64 a1_1) := (blk_cell BK185.out 1).trans rfl
             have hfz58_0 := blk_frozen BK185.out 0
             have hfz58_1 := blk_frozen BK185.out 1
             have hnb59 := NB188_186.out
             have hnc59 := NB186_188.out
             have hnb60 := NB188_189.out
             have hnc60 := NB189_188.out
             have hcz61_0 : wc.cell? ⟨gb188, 0, none⟩ = some (.int .i64 a2_0) := (blk_cell BK188.out 0).trans rfl
             have hcz61_1 : wc.cell? ⟨gb188, 1, none⟩ = some (.int .i64 a2_1) := (blk_cell BK188.out 1).trans rfl
             have hfz61_0 := blk_frozen BK188.out 0
             have hfz61_1 := blk_frozen BK188.out 1
             have hnb62 := NB189_186.out
             have hnc62 := NB186_189.out
             have hcz63_0 : wc.cell? ⟨gb189, 0, none⟩ = some (.int .i64 a2_2) := (blk_cell BK189.out 0).trans rfl
             have hcz63_1 : wc.cell? ⟨gb189, 1, none⟩ = some (.int .i64 a2_3) := (blk_cell BK189.out 1).trans rfl
             have hfz63_0 := blk_frozen BK189.out 0
             have hfz63_1 := blk_frozen BK189.out 1
             go_wp2_with (first | ((with_reducible refine gate_callee (f := 16) rfl ?_); refine goesL_ (some 35) rfl rfl Try.func16 (by kernel_rfl) rfl #[.agg #[.int .i64 a0_0, .int .i64 a0_1], .agg #[.int .i64 a1_0, .int .i64 a1_1], .agg #[.int .i64 a2_0, .int .i64 a2_1], .agg #[.int .i64 a2_2, .int .i64 a2_3]] rfl (by (try simp only [List.map_toArray, List.map_cons, List.map_nil]); first | done | rfl | (simp only [List.length_drop, List.length_take]; rfl)) ?_; (with_reducible refine (plane_Meet.calls kj10 a0_0 a0_1 a1_0 a1_1 a2_0 a2_1 a2_2 a2_3 t194 t195 _ A40.out).mono ?_); rintro e w64 ⟨rfl, hb⟩; refine ⟨_, rfl, ?_⟩; have n0_ := Aside0.mk (blk_below (g := gb184) (o := .cells #[.int .i64 a0_0, .int .i64 a0_1] 26 (0, 0)) (XOpen.bk BK184.out) hb); have n1_ := Aside0.mk (blk_below (g := gb185) (o := .cells #[.int .i64 a1_0, .int .i64 a1_1] 26 (0, 0)) (XOpen.bk BK185.out) hb); have n2_ := Aside0.mk (blk_below (g := gb186) (o := .cells #[.int .i64 a2_0, .int .i64 a2_1, .int .i64 a2_2, .int .i64 a2_3] 33 (0, 0)) (XOpen.bk BK186.out) hb); have n3_ := Aside0.mk (blk_below (g := gb188) (o := .cells #[.int .i64 a2_0, .int .i64 a2_1] 26 (0, 0)) (XOpen.bk BK188.out) hb); have n4_ := Aside0.mk (blk_below (g := gb189) (o := .cells #[.int .i64 a2_2, .int .i64 a2_3] 26 (0, 0)) (XOpen.bk BK189.out) hb); have n5_ := Aside0.mk (below_step (XOpen.bl5 HB.out GE184.out GE185.out GE186.out GE188.out GE189.out) hb); clear BK184; clear BK185; clear BK186; clear BK188; clear BK189; clear HB; have BK184 := n0_; have BK185 := n1_; have BK186 := n2_; have BK188 := n3_; have BK189 := n4_; have HB := n5_; clear n0_ n1_ n2_ n3_ n4_ n5_; (try clear hb); (try clear hb2); (try clear hk); (try clear hi); have hcz65_0 : w64.cell? ⟨gb189, 0, none⟩ = some (.int .i64 a2_2) := (blk_cell BK189.out 0).trans rfl; have hcz65_1 : w64.cell? ⟨gb189, 1, none⟩ = some (.int .i64 a2_3) := (blk_cell BK189.out 1).trans rfl; have hfz65_0 := blk_frozen BK189.out 0; have hfz65_1 := blk_frozen BK189.out 1; have hcz66_0 : w64.cell? ⟨gb188, 0, none⟩ = some (.int .i64 a2_0) := (blk_cell BK188.out 0).trans rfl; have hcz66_1 : w64.cell? ⟨gb188, 1, none⟩ = some (.int .i64 a2_1) := (blk_cell BK188.out 1).trans rfl; have hfz66_0 := blk_frozen BK188.out 0; have hfz66_1 := blk_frozen BK188.out 1; have hcz67_0 : w64.cell? ⟨gb184, 0, none⟩ = some (.int .i64 a0_0) := (blk_cell BK184.out 0).trans rfl; have hcz67_1 : w64.cell? ⟨gb184, 1, none⟩ = some (.int .i64 a0_1) := (blk_cell BK184.out 1).trans rfl; have hfz67_0 := blk_frozen BK184.out 0; have hfz67_1 := blk_frozen BK184.out 1; have hcz68_0 : w64.cell? ⟨gb185, 0, none⟩ = some (.int .i64 a1_0) := (blk_cell BK185.out 0).trans rfl; have hcz68_1 : w64.cell? ⟨gb185, 1, none⟩ = some (.int .i64 a1_1) := (blk_cell BK185.out 1).trans rfl; have hfz68_0 := blk_frozen BK185.out 0; have hfz68_1 := blk_frozen BK185.out 1) | ((with_reducible refine gate_callee (f := 16) rfl ?_); refine goesL_ (some 43) rfl rfl Try.func16 (by kernel_rfl) rfl #[.agg #[.int .i64 a2_2, .int .i64 a2_3], .agg #[.int .i64 a2_0, .int .i64 a2_1], .agg #[.int .i64 a0_0, .int .i64 a0_1], .agg #[.int .i64 a1_0, .int .i64 a1_1]] rfl (by (try simp only [List.map_toArray, List.map_cons, List.map_nil]); first | done | rfl | (simp only [List.length_drop, List.length_take]; rfl)) ?_; (with_reducible refine (plane_Meet.calls kj10 a2_2 a2_3 a2_0 a2_1 a0_0 a0_1 a1_0 a1_1 t196 t197 _ A41.out).mono ?_); rintro e w69 ⟨rfl, hb⟩; refine ⟨_, rfl, ?_⟩; have n0_ := Aside0.mk (blk_below (g := gb184) (o := .cells #[.int .i64 a0_0, .int .i64 a0_1] 26 (0, 0)) (XOpen.bk BK184.out) hb); have n1_ := Aside0.mk (blk_below (g := gb185) (o := .cells #[.int .i64 a1_0, .int .i64 a1_1] 26 (0, 0)) (XOpen.bk BK185.out) hb); have n2_ := Aside0.mk (blk_below (g := gb186) (o := .cells #[.int .i64 a2_0, .int .i64 a2_1, .int .i64 a2_2, .int .i64 a2_3] 33 (0, 0)) (XOpen.bk BK186.out) hb); have n3_ := Aside0.mk (blk_below (g := gb188) (o := .cells #[.int .i64 a2_0, .int .i64 a2_1] 26 (0, 0)) (XOpen.bk BK188.out) hb); have n4_ := Aside0.mk (blk_below (g := gb189) (o := .cells #[.int .i64 a2_2, .int .i64 a2_3] 26 (0, 0)) (XOpen.bk BK189.out) hb); have n5_ := Aside0.mk (below_step (XOpen.bl5 HB.out GE184.out GE185.out GE186.out GE188.out GE189.out) hb); clear BK184; clear BK185; clear BK186; clear BK188; clear BK189; clear HB; have BK184 := n0_; have BK185 := n1_; have BK186 := n2_; have BK188 := n3_; have BK189 := n4_; have HB := n5_; clear n0_ n1_ n2_ n3_ n4_ n5_; (try clear hb); (try clear hb2); (try clear hk); (try clear hi); have hcz70_0 : w69.cell? ⟨gb184, 0, none⟩ = some (.int .i64 a0_0) := (blk_cell BK184.out 0).trans rfl; have hcz70_1 : w69.cell? ⟨gb184, 1, none⟩ = some (.int .i64 a0_1) := (blk_cell BK184.out 1).trans rfl; have hfz70_0 := blk_frozen BK184.out 0; have hfz70_1 := blk_frozen BK184.out 1; have hcz71_0 : w69.cell? ⟨gb185, 0, none⟩ = some (.int .i64 a1_0) := (blk_cell BK185.out 0).trans rfl; have hcz71_1 : w69.cell? ⟨gb185, 1, none⟩ = some (.int .i64 a1_1) := (blk_cell BK185.out 1).trans rfl; have hfz71_0 := blk_frozen BK185.out 0; have hfz71_1 := blk_frozen BK185.out 1) | ((with_reducible refine gate_callee (f := 16) rfl ?_); refine goesL_ (some 51) rfl rfl Try.func16 (by kernel_rfl) rfl #[.agg #[.int .i64 a0_0, .int .i64 a0_1], .agg #[.int .i64 a1_0, .int .i64 a1_1], .agg #[.int .i64 a1_0, .int .i64 a1_1], .agg #[.int .i64 a0_0, .int .i64 a0_1]] rfl (by (try simp only [List.map_toArray, List.map_cons, List.map_nil]); first | done | rfl | (simp only [List.length_drop, List.length_take]; rfl)) ?_; (with_reducible refine (plane_Meet.calls kj10 a0_0 a0_1 a1_0 a1_1 a1_0 a1_1 a0_0 a0_1 true t199 _ A42.out).mono ?_); rintro e w72 ⟨rfl, hb⟩; refine ⟨_, rfl, ?_⟩; have n0_ := Aside0.mk (blk_below (g := gb184) (o := .cells #[.int .i64 a0_0, .int .i64 a0_1] 26 (0, 0)) (XOpen.bk BK184.out) hb); have n1_ := Aside0.mk (blk_below (g := gb185) (o := .cells #[.int .i64 a1_0, .int .i64 a1_1] 26 (0, 0)) (XOpen.bk BK185.out) hb); have n2_ := Aside0.mk (blk_below (g := gb186) (o := .cells #[.int .i64 a2_0, .int .i64 a2_1, .int .i64 a2_2, .int .i64 a2_3] 33 (0, 0)) (XOpen.bk BK186.out) hb); have n3_ := Aside0.mk (blk_below (g := gb188) (o := .cells #[.int .i64 a2_0, .int .i64 a2_1] 26 (0, 0)) (XOpen.bk BK188.out) hb); have n4_ := Aside0.mk (blk_below (g := gb189) (o := .cells #[.int .i64 a2_2, .int .i64 a2_3] 26 (0, 0)) (XOpen.bk BK189.out) hb); have n5_ := Aside0.mk (below_step (XOpen.bl5 HB.out GE184.out GE185.out GE186.out GE188.out GE189.out) hb); clear BK184; clear BK185; clear BK186; clear BK188; clear BK189; clear HB; have BK184 := n0_; have BK185 := n1_; have BK186 := n2_; have BK188 := n3_; have BK189 := n4_; have HB := n5_; clear n0_ n1_ n2_ n3_ n4_ n5_; (try clear hb); (try clear hb2); (try clear hk); (try clear hi); have hcz73_0 : w72.cell? ⟨gb184, 0, none⟩ = some (.int .i64 a0_0) := (blk_cell BK184.out 0).trans rfl; have hcz73_1 : w72.cell? ⟨gb184, 1, none⟩ = some (.int .i64 a0_1) := (blk_cell BK184.out 1).trans rfl; have hfz73_0 := blk_frozen BK184.out 0; have hfz73_1 := blk_frozen BK184.out 1; have hcz74_0 : w72.cell? ⟨gb185, 0, none⟩ = some (.int .i64 a1_0) := (blk_cell BK185.out 0).trans rfl; have hcz74_1 : w72.cell? ⟨gb185, 1, none⟩ = some (.int .i64 a1_1) := (blk_cell BK185.out 1).trans rfl; have hfz74_0 := blk_frozen BK185.out 0; have hfz74_1 := blk_frozen BK185.out 1; have hcz75_0 : w72.cell? ⟨gb188, 0, none⟩ = some (.int .i64 a2_0) := (blk_cell BK188.out 0).trans rfl; have hcz75_1 : w72.cell? ⟨gb188, 1, none⟩ = some (.int .i64 a2_1) := (blk_cell BK188.out 1).trans rfl; have hfz75_0 := blk_frozen BK188.out 0; have hfz75_1 := blk_frozen BK188.out 1) | ((with_reducible refine gate_callee (f := 16) rfl ?_); refine goesL_ (some 59) rfl rfl Try.func16 (by kernel_rfl) rfl #[.agg #[.int .i64 a0_0, .int .i64 a0_1], .agg #[.int .i64 a1_0, .int .i64 a1_1], .agg #[.int .i64 a1_0, .int .i64 a1_1], .agg #[.int .i64 a2_0, .int .i64 a2_1]] rfl (by (try simp only [List.map_toArray, List.map_cons, List.map_nil]); first | done | rfl | (simp only [List.length_drop, List.length_take]; rfl)) ?_; (with_reducible refine (plane_Meet.calls kj10 a0_0 a0_1 a1_0 a1_1 a1_0 a1_1 a2_0 a2_1 t200 t201 _ A43.out).mono ?_); rintro e w76 ⟨rfl, hb⟩; refine ⟨_, rfl, ?_⟩; have n0_ := Aside0.mk (blk_below (g := gb184) (o := .cells #[.int .i64 a0_0, .int .i64 a0_1] 26 (0, 0)) (XOpen.bk BK184.out) hb); have n1_ := Aside0.mk (blk_below (g := gb185) (o := .cells #[.int .i64 a1_0, .int .i64 a1_1] 26 (0, 0)) (XOpen.bk BK185.out) hb); have n2_ := Aside0.mk (blk_below (g := gb186) (o := .cells #[.int .i64 a2_0, .int .i64 a2_1, .int .i64 a2_2, .int .i64 a2_3] 33 (0, 0)) (XOpen.bk BK186.out) hb); have n3_ := Aside0.mk (blk_below (g := gb188) (o := .cells #[.int .i64 a2_0, .int .i64 a2_1] 26 (0, 0)) (XOpen.bk BK188.out) hb); have n4_ := Aside0.mk (blk_below (g := gb189) (o := .cells #[.int .i64 a2_2, .int .i64 a2_3] 26 (0, 0)) (XOpen.bk BK189.out) hb); have n5_ := Aside0.mk (below_step (XOpen.bl5 HB.out GE184.out GE185.out GE186.out GE188.out GE189.out) hb); clear BK184; clear BK185; clear BK186; clear BK188; clear BK189; clear HB; have BK184 := n0_; have BK185 := n1_; have BK186 := n2_; have BK188 := n3_; have BK189 := n4_; have HB := n5_; clear n0_ n1_ n2_ n3_ n4_ n5_; (try clear hb); (try clear hb2); (try clear hk); (try clear hi)))
             go_ret
             exact ⟨by first | rfl | (simp [errW_none, errW_some] <;> rfl) | (simp [*, errW_none, errW_some] <;> rfl), XOpen.bl5 HB.out GE184.out GE185.out GE186.out GE188.out GE189.out⟩
            ·replace c49 := Bool.eq_false_iff.mpr c49
             subst c49
             have H1 : (some false) = some r := by rw [if_neg (show ¬ (false = true) by decide)] at H; exact H
             clear H
             have H := H1
             clear H1
             obtain rfl := Option.some.inj H
             have hnb77 := NB184_185.out
             have hnc77 := NB185_184.out
             have hnb78 := NB184_186.out
             have hnc78 := NB186_184.out
             have hnb79 := NB184_188.out
             have hnc79 := NB188_184.out
             have hnb80 := NB184_189.out
             have hnc80 := NB189_184.out
             have hcz81_0 : wc.cell? ⟨gb184, 0, none⟩ = some (.int .i64 a0_0) := (blk_cell BK184.out 0).trans rfl
             have hcz81_1 : wc.cell? ⟨gb184, 1, none⟩ = some (.int .i64 a0_1) := (blk_cell BK184.out 1).trans rfl
             have hfz81_0 := blk_frozen BK184.out 0
             have hfz81_1 := blk_frozen BK184.out 1
             have hnb82 := NB185_186.out
             have hnc82 := NB186_185.out
             have hnb83 := NB185_188.out
             have hnc83 := NB188_185.out
             have hnb84 := NB185_189.out
             have hnc84 := NB189_185.out
             have hcz85_0 : wc.cell? ⟨gb185, 0, none⟩ = some (.int .i64 a1_0) := (blk_cell BK185.out 0).trans rfl
             have hcz85_1 : wc.cell? ⟨gb185, 1, none⟩ = some (.int .i64 a1_1) := (blk_cell BK185.out 1).trans rfl
             have hfz85_0 := blk_frozen BK185.out 0
             have hfz85_1 := blk_frozen BK185.out 1
             have hnb86 := NB188_186.out
             have hnc86 := NB186_188.out
             have hnb87 := NB188_189.out
             have hnc87 := NB189_188.out
             have hcz88_0 : wc.cell? ⟨gb188, 0, none⟩ = some (.int .i64 a2_0) := (blk_cell BK188.out 0).trans rfl
             have hcz88_1 : wc.cell? ⟨gb188, 1, none⟩ = some (.int .i64 a2_1) := (blk_cell BK188.out 1).trans rfl
             have hfz88_0 := blk_frozen BK188.out 0
             have hfz88_1 := blk_frozen BK188.out 1
             have hnb89 := NB189_186.out
             have hnc89 := NB186_189.out
             have hcz90_0 : wc.cell? ⟨gb189, 0, none⟩ = some (.int .i64 a2_2) := (blk_cell BK189.out 0).trans rfl
             have hcz90_1 : wc.cell? ⟨gb189, 1, none⟩ = some (.int .i64 a2_3) := (blk_cell BK189.out 1).trans rfl
             have hfz90_0 := blk_frozen BK189.out 0
             have hfz90_1 := blk_frozen BK189.out 1
             go_wp2_with (first | ((with_reducible refine gate_callee (f := 16) rfl ?_); refine goesL_ (some 35) rfl rfl Try.func16 (by kernel_rfl) rfl #[.agg #[.int .i64 a0_0, .int .i64 a0_1], .agg #[.int .i64 a1_0, .int .i64 a1_1], .agg #[.int .i64 a2_0, .int .i64 a2_1], .agg #[.int .i64 a2_2, .int .i64 a2_3]] rfl (by (try simp only [List.map_toArray, List.map_cons, List.map_nil]); first | done | rfl | (simp only [List.length_drop, List.length_take]; rfl)) ?_; (with_reducible refine (plane_Meet.calls kj10 a0_0 a0_1 a1_0 a1_1 a2_0 a2_1 a2_2 a2_3 t194 t195 _ A40.out).mono ?_); rintro e w91 ⟨rfl, hb⟩; refine ⟨_, rfl, ?_⟩; have n0_ := Aside0.mk (blk_below (g := gb184) (o := .cells #[.int .i64 a0_0, .int .i64 a0_1] 26 (0, 0)) (XOpen.bk BK184.out) hb); have n1_ := Aside0.mk (blk_below (g := gb185) (o := .cells #[.int .i64 a1_0, .int .i64 a1_1] 26 (0, 0)) (XOpen.bk BK185.out) hb); have n2_ := Aside0.mk (blk_below (g := gb186) (o := .cells #[.int .i64 a2_0, .int .i64 a2_1, .int .i64 a2_2, .int .i64 a2_3] 33 (0, 0)) (XOpen.bk BK186.out) hb); have n3_ := Aside0.mk (blk_below (g := gb188) (o := .cells #[.int .i64 a2_0, .int .i64 a2_1] 26 (0, 0)) (XOpen.bk BK188.out) hb); have n4_ := Aside0.mk (blk_below (g := gb189) (o := .cells #[.int .i64 a2_2, .int .i64 a2_3] 26 (0, 0)) (XOpen.bk BK189.out) hb); have n5_ := Aside0.mk (below_step (XOpen.bl5 HB.out GE184.out GE185.out GE186.out GE188.out GE189.out) hb); clear BK184; clear BK185; clear BK186; clear BK188; clear BK189; clear HB; have BK184 := n0_; have BK185 := n1_; have BK186 := n2_; have BK188 := n3_; have BK189 := n4_; have HB := n5_; clear n0_ n1_ n2_ n3_ n4_ n5_; (try clear hb); (try clear hb2); (try clear hk); (try clear hi); have hcz92_0 : w91.cell? ⟨gb189, 0, none⟩ = some (.int .i64 a2_2) := (blk_cell BK189.out 0).trans rfl; have hcz92_1 : w91.cell? ⟨gb189, 1, none⟩ = some (.int .i64 a2_3) := (blk_cell BK189.out 1).trans rfl; have hfz92_0 := blk_frozen BK189.out 0; have hfz92_1 := blk_frozen BK189.out 1; have hcz93_0 : w91.cell? ⟨gb188, 0, none⟩ = some (.int .i64 a2_0) := (blk_cell BK188.out 0).trans rfl; have hcz93_1 : w91.cell? ⟨gb188, 1, none⟩ = some (.int .i64 a2_1) := (blk_cell BK188.out 1).trans rfl; have hfz93_0 := blk_frozen BK188.out 0; have hfz93_1 := blk_frozen BK188.out 1; have hcz94_0 : w91.cell? ⟨gb184, 0, none⟩ = some (.int .i64 a0_0) := (blk_cell BK184.out 0).trans rfl; have hcz94_1 : w91.cell? ⟨gb184, 1, none⟩ = some (.int .i64 a0_1) := (blk_cell BK184.out 1).trans rfl; have hfz94_0 := blk_frozen BK184.out 0; have hfz94_1 := blk_frozen BK184.out 1; have hcz95_0 : w91.cell? ⟨gb185, 0, none⟩ = some (.int .i64 a1_0) := (blk_cell BK185.out 0).trans rfl; have hcz95_1 : w91.cell? ⟨gb185, 1, none⟩ = some (.int .i64 a1_1) := (blk_cell BK185.out 1).trans rfl; have hfz95_0 := blk_frozen BK185.out 0; have hfz95_1 := blk_frozen BK185.out 1) | ((with_reducible refine gate_callee (f := 16) rfl ?_); refine goesL_ (some 43) rfl rfl Try.func16 (by kernel_rfl) rfl #[.agg #[.int .i64 a2_2, .int .i64 a2_3], .agg #[.int .i64 a2_0, .int .i64 a2_1], .agg #[.int .i64 a0_0, .int .i64 a0_1], .agg #[.int .i64 a1_0, .int .i64 a1_1]] rfl (by (try simp only [List.map_toArray, List.map_cons, List.map_nil]); first | done | rfl | (simp only [List.length_drop, List.length_take]; rfl)) ?_; (with_reducible refine (plane_Meet.calls kj10 a2_2 a2_3 a2_0 a2_1 a0_0 a0_1 a1_0 a1_1 t196 t197 _ A41.out).mono ?_); rintro e w96 ⟨rfl, hb⟩; refine ⟨_, rfl, ?_⟩; have n0_ := Aside0.mk (blk_below (g := gb184) (o := .cells #[.int .i64 a0_0, .int .i64 a0_1] 26 (0, 0)) (XOpen.bk BK184.out) hb); have n1_ := Aside0.mk (blk_below (g := gb185) (o := .cells #[.int .i64 a1_0, .int .i64 a1_1] 26 (0, 0)) (XOpen.bk BK185.out) hb); have n2_ := Aside0.mk (blk_below (g := gb186) (o := .cells #[.int .i64 a2_0, .int .i64 a2_1, .int .i64 a2_2, .int .i64 a2_3] 33 (0, 0)) (XOpen.bk BK186.out) hb); have n3_ := Aside0.mk (blk_below (g := gb188) (o := .cells #[.int .i64 a2_0, .int .i64 a2_1] 26 (0, 0)) (XOpen.bk BK188.out) hb); have n4_ := Aside0.mk (blk_below (g := gb189) (o := .cells #[.int .i64 a2_2, .int .i64 a2_3] 26 (0, 0)) (XOpen.bk BK189.out) hb); have n5_ := Aside0.mk (below_step (XOpen.bl5 HB.out GE184.out GE185.out GE186.out GE188.out GE189.out) hb); clear BK184; clear BK185; clear BK186; clear BK188; clear BK189; clear HB; have BK184 := n0_; have BK185 := n1_; have BK186 := n2_; have BK188 := n3_; have BK189 := n4_; have HB := n5_; clear n0_ n1_ n2_ n3_ n4_ n5_; (try clear hb); (try clear hb2); (try clear hk); (try clear hi); have hcz97_0 : w96.cell? ⟨gb184, 0, none⟩ = some (.int .i64 a0_0) := (blk_cell BK184.out 0).trans rfl; have hcz97_1 : w96.cell? ⟨gb184, 1, none⟩ = some (.int .i64 a0_1) := (blk_cell BK184.out 1).trans rfl; have hfz97_0 := blk_frozen BK184.out 0; have hfz97_1 := blk_frozen BK184.out 1; have hcz98_0 : w96.cell? ⟨gb185, 0, none⟩ = some (.int .i64 a1_0) := (blk_cell BK185.out 0).trans rfl; have hcz98_1 : w96.cell? ⟨gb185, 1, none⟩ = some (.int .i64 a1_1) := (blk_cell BK185.out 1).trans rfl; have hfz98_0 := blk_frozen BK185.out 0; have hfz98_1 := blk_frozen BK185.out 1) | ((with_reducible refine gate_callee (f := 16) rfl ?_); refine goesL_ (some 51) rfl rfl Try.func16 (by kernel_rfl) rfl #[.agg #[.int .i64 a0_0, .int .i64 a0_1], .agg #[.int .i64 a1_0, .int .i64 a1_1], .agg #[.int .i64 a1_0, .int .i64 a1_1], .agg #[.int .i64 a0_0, .int .i64 a0_1]] rfl (by (try simp only [List.map_toArray, List.map_cons, List.map_nil]); first | done | rfl | (simp only [List.length_drop, List.length_take]; rfl)) ?_; (with_reducible refine (plane_Meet.calls kj10 a0_0 a0_1 a1_0 a1_1 a1_0 a1_1 a0_0 a0_1 false t199 _ A42.out).mono ?_); rintro e w99 ⟨rfl, hb⟩; refine ⟨_, rfl, ?_⟩; have n0_ := Aside0.mk (blk_below (g := gb184) (o := .cells #[.int .i64 a0_0, .int .i64 a0_1] 26 (0, 0)) (XOpen.bk BK184.out) hb); have n1_ := Aside0.mk (blk_below (g := gb185) (o := .cells #[.int .i64 a1_0, .int .i64 a1_1] 26 (0, 0)) (XOpen.bk BK185.out) hb); have n2_ := Aside0.mk (blk_below (g := gb186) (o := .cells #[.int .i64 a2_0, .int .i64 a2_1, .int .i64 a2_2, .int .i64 a2_3] 33 (0, 0)) (XOpen.bk BK186.out) hb); have n3_ := Aside0.mk (blk_below (g := gb188) (o := .cells #[.int .i64 a2_0, .int .i64 a2_1] 26 (0, 0)) (XOpen.bk BK188.out) hb); have n4_ := Aside0.mk (blk_below (g := gb189) (o := .cells #[.int .i64 a2_2, .int .i64 a2_3] 26 (0, 0)) (XOpen.bk BK189.out) hb); have n5_ := Aside0.mk (below_step (XOpen.bl5 HB.out GE184.out GE185.out GE186.out GE188.out GE189.out) hb); clear BK184; clear BK185; clear BK186; clear BK188; clear BK189; clear HB; have BK184 := n0_; have BK185 := n1_; have BK186 := n2_; have BK188 := n3_; have BK189 := n4_; have HB := n5_; clear n0_ n1_ n2_ n3_ n4_ n5_; (try clear hb); (try clear hb2); (try clear hk); (try clear hi); have hcz100_0 : w99.cell? ⟨gb184, 0, none⟩ = some (.int .i64 a0_0) := (blk_cell BK184.out 0).trans rfl; have hcz100_1 : w99.cell? ⟨gb184, 1, none⟩ = some (.int .i64 a0_1) := (blk_cell BK184.out 1).trans rfl; have hfz100_0 := blk_frozen BK184.out 0; have hfz100_1 := blk_frozen BK184.out 1; have hcz101_0 : w99.cell? ⟨gb185, 0, none⟩ = some (.int .i64 a1_0) := (blk_cell BK185.out 0).trans rfl; have hcz101_1 : w99.cell? ⟨gb185, 1, none⟩ = some (.int .i64 a1_1) := (blk_cell BK185.out 1).trans rfl; have hfz101_0 := blk_frozen BK185.out 0; have hfz101_1 := blk_frozen BK185.out 1; have hcz102_0 : w99.cell? ⟨gb188, 0, none⟩ = some (.int .i64 a2_0) := (blk_cell BK188.out 0).trans rfl; have hcz102_1 : w99.cell? ⟨gb188, 1, none⟩ = some (.int .i64 a2_1) := (blk_cell BK188.out 1).trans rfl; have hfz102_0 := blk_frozen BK188.out 0; have hfz102_1 := blk_frozen BK188.out 1) | ((with_reducible refine gate_callee (f := 16) rfl ?_); refine goesL_ (some 59) rfl rfl Try.func16 (by kernel_rfl) rfl #[.agg #[.int .i64 a0_0, .int .i64 a0_1], .agg #[.int .i64 a1_0, .int .i64 a1_1], .agg #[.int .i64 a1_0, .int .i64 a1_1], .agg #[.int .i64 a2_0, .int .i64 a2_1]] rfl (by (try simp only [List.map_toArray, List.map_cons, List.map_nil]); first | done | rfl | (simp only [List.length_drop, List.length_take]; rfl)) ?_; (with_reducible refine (plane_Meet.calls kj10 a0_0 a0_1 a1_0 a1_1 a1_0 a1_1 a2_0 a2_1 t200 t201 _ A43.out).mono ?_); rintro e w103 ⟨rfl, hb⟩; refine ⟨_, rfl, ?_⟩; have n0_ := Aside0.mk (blk_below (g := gb184) (o := .cells #[.int .i64 a0_0, .int .i64 a0_1] 26 (0, 0)) (XOpen.bk BK184.out) hb); have n1_ := Aside0.mk (blk_below (g := gb185) (o := .cells #[.int .i64 a1_0, .int .i64 a1_1] 26 (0, 0)) (XOpen.bk BK185.out) hb); have n2_ := Aside0.mk (blk_below (g := gb186) (o := .cells #[.int .i64 a2_0, .int .i64 a2_1, .int .i64 a2_2, .int .i64 a2_3] 33 (0, 0)) (XOpen.bk BK186.out) hb); have n3_ := Aside0.mk (blk_below (g := gb188) (o := .cells #[.int .i64 a2_0, .int .i64 a2_1] 26 (0, 0)) (XOpen.bk BK188.out) hb); have n4_ := Aside0.mk (blk_below (g := gb189) (o := .cells #[.int .i64 a2_2, .int .i64 a2_3] 26 (0, 0)) (XOpen.bk BK189.out) hb); have n5_ := Aside0.mk (below_step (XOpen.bl5 HB.out GE184.out GE185.out GE186.out GE188.out GE189.out) hb); clear BK184; clear BK185; clear BK186; clear BK188; clear BK189; clear HB; have BK184 := n0_; have BK185 := n1_; have BK186 := n2_; have BK188 := n3_; have BK189 := n4_; have HB := n5_; clear n0_ n1_ n2_ n3_ n4_ n5_; (try clear hb); (try clear hb2); (try clear hk); (try clear hi)))
             go_ret
             exact ⟨by first | rfl | (simp [errW_none, errW_some] <;> rfl) | (simp [*, errW_none, errW_some] <;> rfl), XOpen.bl5 HB.out GE184.out GE185.out GE186.out GE188.out GE189.out⟩
           ·rw [if_neg c48] at H
            have c48b0 : (t194 == t196) = false := by simpa using c48
            (try (have c48b1 : decide (t194 = t196) = false := by simpa using c48))
            (try (have c48b2 : (t194 == t196) = false := by simpa using c48))
            (try (have c48b3 : ¬ (t194 = t196) := by simpa using c48))
            clear c48
            obtain rfl := Option.some.inj H
            have hnb104 := NB184_185.out
            have hnc104 := NB185_184.out
            have hnb105 := NB184_186.out
            have hnc105 := NB186_184.out
            have hnb106 := NB184_188.out
            have hnc106 := NB188_184.out
            have hnb107 := NB184_189.out
            have hnc107 := NB189_184.out
            have hcz108_0 : wc.cell? ⟨gb184, 0, none⟩ = some (.int .i64 a0_0) := (blk_cell BK184.out 0).trans rfl
            have hcz108_1 : wc.cell? ⟨gb184, 1, none⟩ = some (.int .i64 a0_1) := (blk_cell BK184.out 1).trans rfl
            have hfz108_0 := blk_frozen BK184.out 0
            have hfz108_1 := blk_frozen BK184.out 1
            have hnb109 := NB185_186.out
            have hnc109 := NB186_185.out
            have hnb110 := NB185_188.out
            have hnc110 := NB188_185.out
            have hnb111 := NB185_189.out
            have hnc111 := NB189_185.out
            have hcz112_0 : wc.cell? ⟨gb185, 0, none⟩ = some (.int .i64 a1_0) := (blk_cell BK185.out 0).trans rfl
            have hcz112_1 : wc.cell? ⟨gb185, 1, none⟩ = some (.int .i64 a1_1) := (blk_cell BK185.out 1).trans rfl
            have hfz112_0 := blk_frozen BK185.out 0
            have hfz112_1 := blk_frozen BK185.out 1
            have hnb113 := NB188_186.out
            have hnc113 := NB186_188.out
            have hnb114 := NB188_189.out
            have hnc114 := NB189_188.out
            have hcz115_0 : wc.cell? ⟨gb188, 0, none⟩ = some (.int .i64 a2_0) := (blk_cell BK188.out 0).trans rfl
            have hcz115_1 : wc.cell? ⟨gb188, 1, none⟩ = some (.int .i64 a2_1) := (blk_cell BK188.out 1).trans rfl
            have hfz115_0 := blk_frozen BK188.out 0
            have hfz115_1 := blk_frozen BK188.out 1
            have hnb116 := NB189_186.out
            have hnc116 := NB186_189.out
            have hcz117_0 : wc.cell? ⟨gb189, 0, none⟩ = some (.int .i64 a2_2) := (blk_cell BK189.out 0).trans rfl
            have hcz117_1 : wc.cell? ⟨gb189, 1, none⟩ = some (.int .i64 a2_3) := (blk_cell BK189.out 1).trans rfl
            have hfz117_0 := blk_frozen BK189.out 0
            have hfz117_1 := blk_frozen BK189.out 1
            go_wp2_with (first | ((with_reducible refine gate_callee (f := 16) rfl ?_); refine goesL_ (some 35) rfl rfl Try.func16 (by kernel_rfl) rfl #[.agg #[.int .i64 a0_0, .int .i64 a0_1], .agg #[.int .i64 a1_0, .int .i64 a1_1], .agg #[.int .i64 a2_0, .int .i64 a2_1], .agg #[.int .i64 a2_2, .int .i64 a2_3]] rfl (by (try simp only [List.map_toArray, List.map_cons, List.map_nil]); first | done | rfl | (simp only [List.length_drop, List.length_take]; rfl)) ?_; (with_reducible refine (plane_Meet.calls kj10 a0_0 a0_1 a1_0 a1_1 a2_0 a2_1 a2_2 a2_3 t194 t195 _ A40.out).mono ?_); rintro e w118 ⟨rfl, hb⟩; refine ⟨_, rfl, ?_⟩; have n0_ := Aside0.mk (blk_below (g := gb184) (o := .cells #[.int .i64 a0_0, .int .i64 a0_1] 26 (0, 0)) (XOpen.bk BK184.out) hb); have n1_ := Aside0.mk (blk_below (g := gb185) (o := .cells #[.int .i64 a1_0, .int .i64 a1_1] 26 (0, 0)) (XOpen.bk BK185.out) hb); have n2_ := Aside0.mk (blk_below (g := gb186) (o := .cells #[.int .i64 a2_0, .int .i64 a2_1, .int .i64 a2_2, .int .i64 a2_3] 33 (0, 0)) (XOpen.bk BK186.out) hb); have n3_ := Aside0.mk (blk_below (g := gb188) (o := .cells #[.int .i64 a2_0, .int .i64 a2_1] 26 (0, 0)) (XOpen.bk BK188.out) hb); have n4_ := Aside0.mk (blk_below (g := gb189) (o := .cells #[.int .i64 a2_2, .int .i64 a2_3] 26 (0, 0)) (XOpen.bk BK189.out) hb); have n5_ := Aside0.mk (below_step (XOpen.bl5 HB.out GE184.out GE185.out GE186.out GE188.out GE189.out) hb); clear BK184; clear BK185; clear BK186; clear BK188; clear BK189; clear HB; have BK184 := n0_; have BK185 := n1_; have BK186 := n2_; have BK188 := n3_; have BK189 := n4_; have HB := n5_; clear n0_ n1_ n2_ n3_ n4_ n5_; (try clear hb); (try clear hb2); (try clear hk); (try clear hi); have hcz119_0 : w118.cell? ⟨gb189, 0, none⟩ = some (.int .i64 a2_2) := (blk_cell BK189.out 0).trans rfl; have hcz119_1 : w118.cell? ⟨gb189, 1, none⟩ = some (.int .i64 a2_3) := (blk_cell BK189.out 1).trans rfl; have hfz119_0 := blk_frozen BK189.out 0; have hfz119_1 := blk_frozen BK189.out 1; have hcz120_0 : w118.cell? ⟨gb188, 0, none⟩ = some (.int .i64 a2_0) := (blk_cell BK188.out 0).trans rfl; have hcz120_1 : w118.cell? ⟨gb188, 1, none⟩ = some (.int .i64 a2_1) := (blk_cell BK188.out 1).trans rfl; have hfz120_0 := blk_frozen BK188.out 0; have hfz120_1 := blk_frozen BK188.out 1; have hcz121_0 : w118.cell? ⟨gb184, 0, none⟩ = some (.int .i64 a0_0) := (blk_cell BK184.out 0).trans rfl; have hcz121_1 : w118.cell? ⟨gb184, 1, none⟩ = some (.int .i64 a0_1) := (blk_cell BK184.out 1).trans rfl; have hfz121_0 := blk_frozen BK184.out 0; have hfz121_1 := blk_frozen BK184.out 1; have hcz122_0 : w118.cell? ⟨gb185, 0, none⟩ = some (.int .i64 a1_0) := (blk_cell BK185.out 0).trans rfl; have hcz122_1 : w118.cell? ⟨gb185, 1, none⟩ = some (.int .i64 a1_1) := (blk_cell BK185.out 1).trans rfl; have hfz122_0 := blk_frozen BK185.out 0; have hfz122_1 := blk_frozen BK185.out 1) | ((with_reducible refine gate_callee (f := 16) rfl ?_); refine goesL_ (some 43) rfl rfl Try.func16 (by kernel_rfl) rfl #[.agg #[.int .i64 a2_2, .int .i64 a2_3], .agg #[.int .i64 a2_0, .int .i64 a2_1], .agg #[.int .i64 a0_0, .int .i64 a0_1], .agg #[.int .i64 a1_0, .int .i64 a1_1]] rfl (by (try simp only [List.map_toArray, List.map_cons, List.map_nil]); first | done | rfl | (simp only [List.length_drop, List.length_take]; rfl)) ?_; (with_reducible refine (plane_Meet.calls kj10 a2_2 a2_3 a2_0 a2_1 a0_0 a0_1 a1_0 a1_1 t196 t197 _ A41.out).mono ?_); rintro e w123 ⟨rfl, hb⟩; refine ⟨_, rfl, ?_⟩; have n0_ := Aside0.mk (blk_below (g := gb184) (o := .cells #[.int .i64 a0_0, .int .i64 a0_1] 26 (0, 0)) (XOpen.bk BK184.out) hb); have n1_ := Aside0.mk (blk_below (g := gb185) (o := .cells #[.int .i64 a1_0, .int .i64 a1_1] 26 (0, 0)) (XOpen.bk BK185.out) hb); have n2_ := Aside0.mk (blk_below (g := gb186) (o := .cells #[.int .i64 a2_0, .int .i64 a2_1, .int .i64 a2_2, .int .i64 a2_3] 33 (0, 0)) (XOpen.bk BK186.out) hb); have n3_ := Aside0.mk (blk_below (g := gb188) (o := .cells #[.int .i64 a2_0, .int .i64 a2_1] 26 (0, 0)) (XOpen.bk BK188.out) hb); have n4_ := Aside0.mk (blk_below (g := gb189) (o := .cells #[.int .i64 a2_2, .int .i64 a2_3] 26 (0, 0)) (XOpen.bk BK189.out) hb); have n5_ := Aside0.mk (below_step (XOpen.bl5 HB.out GE184.out GE185.out GE186.out GE188.out GE189.out) hb); clear BK184; clear BK185; clear BK186; clear BK188; clear BK189; clear HB; have BK184 := n0_; have BK185 := n1_; have BK186 := n2_; have BK188 := n3_; have BK189 := n4_; have HB := n5_; clear n0_ n1_ n2_ n3_ n4_ n5_; (try clear hb); (try clear hb2); (try clear hk); (try clear hi); have hcz124_0 : w123.cell? ⟨gb184, 0, none⟩ = some (.int .i64 a0_0) := (blk_cell BK184.out 0).trans rfl; have hcz124_1 : w123.cell? ⟨gb184, 1, none⟩ = some (.int .i64 a0_1) := (blk_cell BK184.out 1).trans rfl; have hfz124_0 := blk_frozen BK184.out 0; have hfz124_1 := blk_frozen BK184.out 1; have hcz125_0 : w123.cell? ⟨gb185, 0, none⟩ = some (.int .i64 a1_0) := (blk_cell BK185.out 0).trans rfl; have hcz125_1 : w123.cell? ⟨gb185, 1, none⟩ = some (.int .i64 a1_1) := (blk_cell BK185.out 1).trans rfl; have hfz125_0 := blk_frozen BK185.out 0; have hfz125_1 := blk_frozen BK185.out 1) | ((with_reducible refine gate_callee (f := 16) rfl ?_); refine goesL_ (some 51) rfl rfl Try.func16 (by kernel_rfl) rfl #[.agg #[.int .i64 a0_0, .int .i64 a0_1], .agg #[.int .i64 a1_0, .int .i64 a1_1], .agg #[.int .i64 a1_0, .int .i64 a1_1], .agg #[.int .i64 a0_0, .int .i64 a0_1]] rfl (by (try simp only [List.map_toArray, List.map_cons, List.map_nil]); first | done | rfl | (simp only [List.length_drop, List.length_take]; rfl)) ?_; (with_reducible refine (plane_Meet.calls kj10 a0_0 a0_1 a1_0 a1_1 a1_0 a1_1 a0_0 a0_1 t198 t199 _ A42.out).mono ?_); rintro e w126 ⟨rfl, hb⟩; refine ⟨_, rfl, ?_⟩; have n0_ := Aside0.mk (blk_below (g := gb184) (o := .cells #[.int .i64 a0_0, .int .i64 a0_1] 26 (0, 0)) (XOpen.bk BK184.out) hb); have n1_ := Aside0.mk (blk_below (g := gb185) (o := .cells #[.int .i64 a1_0, .int .i64 a1_1] 26 (0, 0)) (XOpen.bk BK185.out) hb); have n2_ := Aside0.mk (blk_below (g := gb186) (o := .cells #[.int .i64 a2_0, .int .i64 a2_1, .int .i64 a2_2, .int .i64 a2_3] 33 (0, 0)) (XOpen.bk BK186.out) hb); have n3_ := Aside0.mk (blk_below (g := gb188) (o := .cells #[.int .i64 a2_0, .int .i64 a2_1] 26 (0, 0)) (XOpen.bk BK188.out) hb); have n4_ := Aside0.mk (blk_below (g := gb189) (o := .cells #[.int .i64 a2_2, .int .i64 a2_3] 26 (0, 0)) (XOpen.bk BK189.out) hb); have n5_ := Aside0.mk (below_step (XOpen.bl5 HB.out GE184.out GE185.out GE186.out GE188.out GE189.out) hb); clear BK184; clear BK185; clear BK186; clear BK188; clear BK189; clear HB; have BK184 := n0_; have BK185 := n1_; have BK186 := n2_; have BK188 := n3_; have BK189 := n4_; have HB := n5_; clear n0_ n1_ n2_ n3_ n4_ n5_; (try clear hb); (try clear hb2); (try clear hk); (try clear hi); have hcz127_0 : w126.cell? ⟨gb184, 0, none⟩ = some (.int .i64 a0_0) := (blk_cell BK184.out 0).trans rfl; have hcz127_1 : w126.cell? ⟨gb184, 1, none⟩ = some (.int .i64 a0_1) := (blk_cell BK184.out 1).trans rfl; have hfz127_0 := blk_frozen BK184.out 0; have hfz127_1 := blk_frozen BK184.out 1; have hcz128_0 : w126.cell? ⟨gb185, 0, none⟩ = some (.int .i64 a1_0) := (blk_cell BK185.out 0).trans rfl; have hcz128_1 : w126.cell? ⟨gb185, 1, none⟩ = some (.int .i64 a1_1) := (blk_cell BK185.out 1).trans rfl; have hfz128_0 := blk_frozen BK185.out 0; have hfz128_1 := blk_frozen BK185.out 1; have hcz129_0 : w126.cell? ⟨gb188, 0, none⟩ = some (.int .i64 a2_0) := (blk_cell BK188.out 0).trans rfl; have hcz129_1 : w126.cell? ⟨gb188, 1, none⟩ = some (.int .i64 a2_1) := (blk_cell BK188.out 1).trans rfl; have hfz129_0 := blk_frozen BK188.out 0; have hfz129_1 := blk_frozen BK188.out 1) | ((with_reducible refine gate_callee (f := 16) rfl ?_); refine goesL_ (some 59) rfl rfl Try.func16 (by kernel_rfl) rfl #[.agg #[.int .i64 a0_0, .int .i64 a0_1], .agg #[.int .i64 a1_0, .int .i64 a1_1], .agg #[.int .i64 a1_0, .int .i64 a1_1], .agg #[.int .i64 a2_0, .int .i64 a2_1]] rfl (by (try simp only [List.map_toArray, List.map_cons, List.map_nil]); first | done | rfl | (simp only [List.length_drop, List.length_take]; rfl)) ?_; (with_reducible refine (plane_Meet.calls kj10 a0_0 a0_1 a1_0 a1_1 a1_0 a1_1 a2_0 a2_1 t200 t201 _ A43.out).mono ?_); rintro e w130 ⟨rfl, hb⟩; refine ⟨_, rfl, ?_⟩; have n0_ := Aside0.mk (blk_below (g := gb184) (o := .cells #[.int .i64 a0_0, .int .i64 a0_1] 26 (0, 0)) (XOpen.bk BK184.out) hb); have n1_ := Aside0.mk (blk_below (g := gb185) (o := .cells #[.int .i64 a1_0, .int .i64 a1_1] 26 (0, 0)) (XOpen.bk BK185.out) hb); have n2_ := Aside0.mk (blk_below (g := gb186) (o := .cells #[.int .i64 a2_0, .int .i64 a2_1, .int .i64 a2_2, .int .i64 a2_3] 33 (0, 0)) (XOpen.bk BK186.out) hb); have n3_ := Aside0.mk (blk_below (g := gb188) (o := .cells #[.int .i64 a2_0, .int .i64 a2_1] 26 (0, 0)) (XOpen.bk BK188.out) hb); have n4_ := Aside0.mk (blk_below (g := gb189) (o := .cells #[.int .i64 a2_2, .int .i64 a2_3] 26 (0, 0)) (XOpen.bk BK189.out) hb); have n5_ := Aside0.mk (below_step (XOpen.bl5 HB.out GE184.out GE185.out GE186.out GE188.out GE189.out) hb); clear BK184; clear BK185; clear BK186; clear BK188; clear BK189; clear HB; have BK184 := n0_; have BK185 := n1_; have BK186 := n2_; have BK188 := n3_; have BK189 := n4_; have HB := n5_; clear n0_ n1_ n2_ n3_ n4_ n5_; (try clear hb); (try clear hb2); (try clear hk); (try clear hi)))
            go_ret
            exact ⟨by first | rfl | (simp [errW_none, errW_some] <;> rfl) | (simp [*, errW_none, errW_some] <;> rfl), XOpen.bl5 HB.out GE184.out GE185.out GE186.out GE188.out GE189.out⟩
          ·rw [if_neg c47] at H
           have c47b0 : (t201 == 0) = false := beq_eq_false_iff_ne.mpr c47
           have c47b1 : (t201 != 0) = true := bne_iff_ne.mpr c47
           obtain rfl := Option.some.inj H
           have hnb131 := NB184_185.out
           have hnc131 := NB185_184.out
           have hnb132 := NB184_186.out
           have hnc132 := NB186_184.out
           have hnb133 := NB184_188.out
           have hnc133 := NB188_184.out
           have hnb134 := NB184_189.out
           have hnc134 := NB189_184.out
           have hcz135_0 : wc.cell? ⟨gb184, 0, none⟩ = some (.int .i64 a0_0) := (blk_cell BK184.out 0).trans rfl
           have hcz135_1 : wc.cell? ⟨gb184, 1, none⟩ = some (.int .i64 a0_1) := (blk_cell BK184.out 1).trans rfl
           have hfz135_0 := blk_frozen BK184.out 0
           have hfz135_1 := blk_frozen BK184.out 1
           have hnb136 := NB185_186.out
           have hnc136 := NB186_185.out
           have hnb137 := NB185_188.out
           have hnc137 := NB188_185.out
           have hnb138 := NB185_189.out
           have hnc138 := NB189_185.out
           have hcz139_0 : wc.cell? ⟨gb185, 0, none⟩ = some (.int .i64 a1_0) := (blk_cell BK185.out 0).trans rfl
           have hcz139_1 : wc.cell? ⟨gb185, 1, none⟩ = some (.int .i64 a1_1) := (blk_cell BK185.out 1).trans rfl
           have hfz139_0 := blk_frozen BK185.out 0
           have hfz139_1 := blk_frozen BK185.out 1
           have hnb140 := NB188_186.out
           have hnc140 := NB186_188.out
           have hnb141 := NB188_189.out
           have hnc141 := NB189_188.out
           have hcz142_0 : wc.cell? ⟨gb188, 0, none⟩ = some (.int .i64 a2_0) := (blk_cell BK188.out 0).trans rfl
           have hcz142_1 : wc.cell? ⟨gb188, 1, none⟩ = some (.int .i64 a2_1) := (blk_cell BK188.out 1).trans rfl
           have hfz142_0 := blk_frozen BK188.out 0
           have hfz142_1 := blk_frozen BK188.out 1
           have hnb143 := NB189_186.out
           have hnc143 := NB186_189.out
           have hcz144_0 : wc.cell? ⟨gb189, 0, none⟩ = some (.int .i64 a2_2) := (blk_cell BK189.out 0).trans rfl
           have hcz144_1 : wc.cell? ⟨gb189, 1, none⟩ = some (.int .i64 a2_3) := (blk_cell BK189.out 1).trans rfl
           have hfz144_0 := blk_frozen BK189.out 0
           have hfz144_1 := blk_frozen BK189.out 1
           go_wp2_with (first | ((with_reducible refine gate_callee (f := 16) rfl ?_); refine goesL_ (some 35) rfl rfl Try.func16 (by kernel_rfl) rfl #[.agg #[.int .i64 a0_0, .int .i64 a0_1], .agg #[.int .i64 a1_0, .int .i64 a1_1], .agg #[.int .i64 a2_0, .int .i64 a2_1], .agg #[.int .i64 a2_2, .int .i64 a2_3]] rfl (by (try simp only [List.map_toArray, List.map_cons, List.map_nil]); first | done | rfl | (simp only [List.length_drop, List.length_take]; rfl)) ?_; (with_reducible refine (plane_Meet.calls kj10 a0_0 a0_1 a1_0 a1_1 a2_0 a2_1 a2_2 a2_3 t194 t195 _ A40.out).mono ?_); rintro e w145 ⟨rfl, hb⟩; refine ⟨_, rfl, ?_⟩; have n0_ := Aside0.mk (blk_below (g := gb184) (o := .cells #[.int .i64 a0_0, .int .i64 a0_1] 26 (0, 0)) (XOpen.bk BK184.out) hb); have n1_ := Aside0.mk (blk_below (g := gb185) (o := .cells #[.int .i64 a1_0, .int .i64 a1_1] 26 (0, 0)) (XOpen.bk BK185.out) hb); have n2_ := Aside0.mk (blk_below (g := gb186) (o := .cells #[.int .i64 a2_0, .int .i64 a2_1, .int .i64 a2_2, .int .i64 a2_3] 33 (0, 0)) (XOpen.bk BK186.out) hb); have n3_ := Aside0.mk (blk_below (g := gb188) (o := .cells #[.int .i64 a2_0, .int .i64 a2_1] 26 (0, 0)) (XOpen.bk BK188.out) hb); have n4_ := Aside0.mk (blk_below (g := gb189) (o := .cells #[.int .i64 a2_2, .int .i64 a2_3] 26 (0, 0)) (XOpen.bk BK189.out) hb); have n5_ := Aside0.mk (below_step (XOpen.bl5 HB.out GE184.out GE185.out GE186.out GE188.out GE189.out) hb); clear BK184; clear BK185; clear BK186; clear BK188; clear BK189; clear HB; have BK184 := n0_; have BK185 := n1_; have BK186 := n2_; have BK188 := n3_; have BK189 := n4_; have HB := n5_; clear n0_ n1_ n2_ n3_ n4_ n5_; (try clear hb); (try clear hb2); (try clear hk); (try clear hi); have hcz146_0 : w145.cell? ⟨gb189, 0, none⟩ = some (.int .i64 a2_2) := (blk_cell BK189.out 0).trans rfl; have hcz146_1 : w145.cell? ⟨gb189, 1, none⟩ = some (.int .i64 a2_3) := (blk_cell BK189.out 1).trans rfl; have hfz146_0 := blk_frozen BK189.out 0; have hfz146_1 := blk_frozen BK189.out 1; have hcz147_0 : w145.cell? ⟨gb188, 0, none⟩ = some (.int .i64 a2_0) := (blk_cell BK188.out 0).trans rfl; have hcz147_1 : w145.cell? ⟨gb188, 1, none⟩ = some (.int .i64 a2_1) := (blk_cell BK188.out 1).trans rfl; have hfz147_0 := blk_frozen BK188.out 0; have hfz147_1 := blk_frozen BK188.out 1; have hcz148_0 : w145.cell? ⟨gb184, 0, none⟩ = some (.int .i64 a0_0) := (blk_cell BK184.out 0).trans rfl; have hcz148_1 : w145.cell? ⟨gb184, 1, none⟩ = some (.int .i64 a0_1) := (blk_cell BK184.out 1).trans rfl; have hfz148_0 := blk_frozen BK184.out 0; have hfz148_1 := blk_frozen BK184.out 1; have hcz149_0 : w145.cell? ⟨gb185, 0, none⟩ = some (.int .i64 a1_0) := (blk_cell BK185.out 0).trans rfl; have hcz149_1 : w145.cell? ⟨gb185, 1, none⟩ = some (.int .i64 a1_1) := (blk_cell BK185.out 1).trans rfl; have hfz149_0 := blk_frozen BK185.out 0; have hfz149_1 := blk_frozen BK185.out 1) | ((with_reducible refine gate_callee (f := 16) rfl ?_); refine goesL_ (some 43) rfl rfl Try.func16 (by kernel_rfl) rfl #[.agg #[.int .i64 a2_2, .int .i64 a2_3], .agg #[.int .i64 a2_0, .int .i64 a2_1], .agg #[.int .i64 a0_0, .int .i64 a0_1], .agg #[.int .i64 a1_0, .int .i64 a1_1]] rfl (by (try simp only [List.map_toArray, List.map_cons, List.map_nil]); first | done | rfl | (simp only [List.length_drop, List.length_take]; rfl)) ?_; (with_reducible refine (plane_Meet.calls kj10 a2_2 a2_3 a2_0 a2_1 a0_0 a0_1 a1_0 a1_1 t196 t197 _ A41.out).mono ?_); rintro e w150 ⟨rfl, hb⟩; refine ⟨_, rfl, ?_⟩; have n0_ := Aside0.mk (blk_below (g := gb184) (o := .cells #[.int .i64 a0_0, .int .i64 a0_1] 26 (0, 0)) (XOpen.bk BK184.out) hb); have n1_ := Aside0.mk (blk_below (g := gb185) (o := .cells #[.int .i64 a1_0, .int .i64 a1_1] 26 (0, 0)) (XOpen.bk BK185.out) hb); have n2_ := Aside0.mk (blk_below (g := gb186) (o := .cells #[.int .i64 a2_0, .int .i64 a2_1, .int .i64 a2_2, .int .i64 a2_3] 33 (0, 0)) (XOpen.bk BK186.out) hb); have n3_ := Aside0.mk (blk_below (g := gb188) (o := .cells #[.int .i64 a2_0, .int .i64 a2_1] 26 (0, 0)) (XOpen.bk BK188.out) hb); have n4_ := Aside0.mk (blk_below (g := gb189) (o := .cells #[.int .i64 a2_2, .int .i64 a2_3] 26 (0, 0)) (XOpen.bk BK189.out) hb); have n5_ := Aside0.mk (below_step (XOpen.bl5 HB.out GE184.out GE185.out GE186.out GE188.out GE189.out) hb); clear BK184; clear BK185; clear BK186; clear BK188; clear BK189; clear HB; have BK184 := n0_; have BK185 := n1_; have BK186 := n2_; have BK188 := n3_; have BK189 := n4_; have HB := n5_; clear n0_ n1_ n2_ n3_ n4_ n5_; (try clear hb); (try clear hb2); (try clear hk); (try clear hi); have hcz151_0 : w150.cell? ⟨gb184, 0, none⟩ = some (.int .i64 a0_0) := (blk_cell BK184.out 0).trans rfl; have hcz151_1 : w150.cell? ⟨gb184, 1, none⟩ = some (.int .i64 a0_1) := (blk_cell BK184.out 1).trans rfl; have hfz151_0 := blk_frozen BK184.out 0; have hfz151_1 := blk_frozen BK184.out 1; have hcz152_0 : w150.cell? ⟨gb185, 0, none⟩ = some (.int .i64 a1_0) := (blk_cell BK185.out 0).trans rfl; have hcz152_1 : w150.cell? ⟨gb185, 1, none⟩ = some (.int .i64 a1_1) := (blk_cell BK185.out 1).trans rfl; have hfz152_0 := blk_frozen BK185.out 0; have hfz152_1 := blk_frozen BK185.out 1) | ((with_reducible refine gate_callee (f := 16) rfl ?_); refine goesL_ (some 51) rfl rfl Try.func16 (by kernel_rfl) rfl #[.agg #[.int .i64 a0_0, .int .i64 a0_1], .agg #[.int .i64 a1_0, .int .i64 a1_1], .agg #[.int .i64 a1_0, .int .i64 a1_1], .agg #[.int .i64 a0_0, .int .i64 a0_1]] rfl (by (try simp only [List.map_toArray, List.map_cons, List.map_nil]); first | done | rfl | (simp only [List.length_drop, List.length_take]; rfl)) ?_; (with_reducible refine (plane_Meet.calls kj10 a0_0 a0_1 a1_0 a1_1 a1_0 a1_1 a0_0 a0_1 t198 t199 _ A42.out).mono ?_); rintro e w153 ⟨rfl, hb⟩; refine ⟨_, rfl, ?_⟩; have n0_ := Aside0.mk (blk_below (g := gb184) (o := .cells #[.int .i64 a0_0, .int .i64 a0_1] 26 (0, 0)) (XOpen.bk BK184.out) hb); have n1_ := Aside0.mk (blk_below (g := gb185) (o := .cells #[.int .i64 a1_0, .int .i64 a1_1] 26 (0, 0)) (XOpen.bk BK185.out) hb); have n2_ := Aside0.mk (blk_below (g := gb186) (o := .cells #[.int .i64 a2_0, .int .i64 a2_1, .int .i64 a2_2, .int .i64 a2_3] 33 (0, 0)) (XOpen.bk BK186.out) hb); have n3_ := Aside0.mk (blk_below (g := gb188) (o := .cells #[.int .i64 a2_0, .int .i64 a2_1] 26 (0, 0)) (XOpen.bk BK188.out) hb); have n4_ := Aside0.mk (blk_below (g := gb189) (o := .cells #[.int .i64 a2_2, .int .i64 a2_3] 26 (0, 0)) (XOpen.bk BK189.out) hb); have n5_ := Aside0.mk (below_step (XOpen.bl5 HB.out GE184.out GE185.out GE186.out GE188.out GE189.out) hb); clear BK184; clear BK185; clear BK186; clear BK188; clear BK189; clear HB; have BK184 := n0_; have BK185 := n1_; have BK186 := n2_; have BK188 := n3_; have BK189 := n4_; have HB := n5_; clear n0_ n1_ n2_ n3_ n4_ n5_; (try clear hb); (try clear hb2); (try clear hk); (try clear hi); have hcz154_0 : w153.cell? ⟨gb184, 0, none⟩ = some (.int .i64 a0_0) := (blk_cell BK184.out 0).trans rfl; have hcz154_1 : w153.cell? ⟨gb184, 1, none⟩ = some (.int .i64 a0_1) := (blk_cell BK184.out 1).trans rfl; have hfz154_0 := blk_frozen BK184.out 0; have hfz154_1 := blk_frozen BK184.out 1; have hcz155_0 : w153.cell? ⟨gb185, 0, none⟩ = some (.int .i64 a1_0) := (blk_cell BK185.out 0).trans rfl; have hcz155_1 : w153.cell? ⟨gb185, 1, none⟩ = some (.int .i64 a1_1) := (blk_cell BK185.out 1).trans rfl; have hfz155_0 := blk_frozen BK185.out 0; have hfz155_1 := blk_frozen BK185.out 1; have hcz156_0 : w153.cell? ⟨gb188, 0, none⟩ = some (.int .i64 a2_0) := (blk_cell BK188.out 0).trans rfl; have hcz156_1 : w153.cell? ⟨gb188, 1, none⟩ = some (.int .i64 a2_1) := (blk_cell BK188.out 1).trans rfl; have hfz156_0 := blk_frozen BK188.out 0; have hfz156_1 := blk_frozen BK188.out 1) | ((with_reducible refine gate_callee (f := 16) rfl ?_); refine goesL_ (some 59) rfl rfl Try.func16 (by kernel_rfl) rfl #[.agg #[.int .i64 a0_0, .int .i64 a0_1], .agg #[.int .i64 a1_0, .int .i64 a1_1], .agg #[.int .i64 a1_0, .int .i64 a1_1], .agg #[.int .i64 a2_0, .int .i64 a2_1]] rfl (by (try simp only [List.map_toArray, List.map_cons, List.map_nil]); first | done | rfl | (simp only [List.length_drop, List.length_take]; rfl)) ?_; (with_reducible refine (plane_Meet.calls kj10 a0_0 a0_1 a1_0 a1_1 a1_0 a1_1 a2_0 a2_1 t200 t201 _ A43.out).mono ?_); rintro e w157 ⟨rfl, hb⟩; refine ⟨_, rfl, ?_⟩; have n0_ := Aside0.mk (blk_below (g := gb184) (o := .cells #[.int .i64 a0_0, .int .i64 a0_1] 26 (0, 0)) (XOpen.bk BK184.out) hb); have n1_ := Aside0.mk (blk_below (g := gb185) (o := .cells #[.int .i64 a1_0, .int .i64 a1_1] 26 (0, 0)) (XOpen.bk BK185.out) hb); have n2_ := Aside0.mk (blk_below (g := gb186) (o := .cells #[.int .i64 a2_0, .int .i64 a2_1, .int .i64 a2_2, .int .i64 a2_3] 33 (0, 0)) (XOpen.bk BK186.out) hb); have n3_ := Aside0.mk (blk_below (g := gb188) (o := .cells #[.int .i64 a2_0, .int .i64 a2_1] 26 (0, 0)) (XOpen.bk BK188.out) hb); have n4_ := Aside0.mk (blk_below (g := gb189) (o := .cells #[.int .i64 a2_2, .int .i64 a2_3] 26 (0, 0)) (XOpen.bk BK189.out) hb); have n5_ := Aside0.mk (below_step (XOpen.bl5 HB.out GE184.out GE185.out GE186.out GE188.out GE189.out) hb); clear BK184; clear BK185; clear BK186; clear BK188; clear BK189; clear HB; have BK184 := n0_; have BK185 := n1_; have BK186 := n2_; have BK188 := n3_; have BK189 := n4_; have HB := n5_; clear n0_ n1_ n2_ n3_ n4_ n5_; (try clear hb); (try clear hb2); (try clear hk); (try clear hi)))
           go_ret
           exact ⟨by first | rfl | (simp [errW_none, errW_some] <;> rfl) | (simp [*, errW_none, errW_some] <;> rfl), XOpen.bl5 HB.out GE184.out GE185.out GE186.out GE188.out GE189.out⟩
         ·rw [if_neg c46] at H
          have c46b0 : (t199 == 0) = false := beq_eq_false_iff_ne.mpr c46
          have c46b1 : (t199 != 0) = true := bne_iff_ne.mpr c46
          obtain rfl := Option.some.inj H
          have hnb158 := NB184_185.out
          have hnc158 := NB185_184.out
          have hnb159 := NB184_186.out
          have hnc159 := NB186_184.out
          have hnb160 := NB184_188.out
          have hnc160 := NB188_184.out
          have hnb161 := NB184_189.out
          have hnc161 := NB189_184.out
          have hcz162_0 : wc.cell? ⟨gb184, 0, none⟩ = some (.int .i64 a0_0) := (blk_cell BK184.out 0).trans rfl
          have hcz162_1 : wc.cell? ⟨gb184, 1, none⟩ = some (.int .i64 a0_1) := (blk_cell BK184.out 1).trans rfl
          have hfz162_0 := blk_frozen BK184.out 0
          have hfz162_1 := blk_frozen BK184.out 1
          have hnb163 := NB185_186.out
          have hnc163 := NB186_185.out
          have hnb164 := NB185_188.out
          have hnc164 := NB188_185.out
          have hnb165 := NB185_189.out
          have hnc165 := NB189_185.out
          have hcz166_0 : wc.cell? ⟨gb185, 0, none⟩ = some (.int .i64 a1_0) := (blk_cell BK185.out 0).trans rfl
          have hcz166_1 : wc.cell? ⟨gb185, 1, none⟩ = some (.int .i64 a1_1) := (blk_cell BK185.out 1).trans rfl
          have hfz166_0 := blk_frozen BK185.out 0
          have hfz166_1 := blk_frozen BK185.out 1
          have hnb167 := NB188_186.out
          have hnc167 := NB186_188.out
          have hnb168 := NB188_189.out
          have hnc168 := NB189_188.out
          have hcz169_0 : wc.cell? ⟨gb188, 0, none⟩ = some (.int .i64 a2_0) := (blk_cell BK188.out 0).trans rfl
          have hcz169_1 : wc.cell? ⟨gb188, 1, none⟩ = some (.int .i64 a2_1) := (blk_cell BK188.out 1).trans rfl
          have hfz169_0 := blk_frozen BK188.out 0
          have hfz169_1 := blk_frozen BK188.out 1
          have hnb170 := NB189_186.out
          have hnc170 := NB186_189.out
          have hcz171_0 : wc.cell? ⟨gb189, 0, none⟩ = some (.int .i64 a2_2) := (blk_cell BK189.out 0).trans rfl
          have hcz171_1 : wc.cell? ⟨gb189, 1, none⟩ = some (.int .i64 a2_3) := (blk_cell BK189.out 1).trans rfl
          have hfz171_0 := blk_frozen BK189.out 0
          have hfz171_1 := blk_frozen BK189.out 1
          go_wp2_with (first | ((with_reducible refine gate_callee (f := 16) rfl ?_); refine goesL_ (some 35) rfl rfl Try.func16 (by kernel_rfl) rfl #[.agg #[.int .i64 a0_0, .int .i64 a0_1], .agg #[.int .i64 a1_0, .int .i64 a1_1], .agg #[.int .i64 a2_0, .int .i64 a2_1], .agg #[.int .i64 a2_2, .int .i64 a2_3]] rfl (by (try simp only [List.map_toArray, List.map_cons, List.map_nil]); first | done | rfl | (simp only [List.length_drop, List.length_take]; rfl)) ?_; (with_reducible refine (plane_Meet.calls kj10 a0_0 a0_1 a1_0 a1_1 a2_0 a2_1 a2_2 a2_3 t194 t195 _ A40.out).mono ?_); rintro e w172 ⟨rfl, hb⟩; refine ⟨_, rfl, ?_⟩; have n0_ := Aside0.mk (blk_below (g := gb184) (o := .cells #[.int .i64 a0_0, .int .i64 a0_1] 26 (0, 0)) (XOpen.bk BK184.out) hb); have n1_ := Aside0.mk (blk_below (g := gb185) (o := .cells #[.int .i64 a1_0, .int .i64 a1_1] 26 (0, 0)) (XOpen.bk BK185.out) hb); have n2_ := Aside0.mk (blk_below (g := gb186) (o := .cells #[.int .i64 a2_0, .int .i64 a2_1, .int .i64 a2_2, .int .i64 a2_3] 33 (0, 0)) (XOpen.bk BK186.out) hb); have n3_ := Aside0.mk (blk_below (g := gb188) (o := .cells #[.int .i64 a2_0, .int .i64 a2_1] 26 (0, 0)) (XOpen.bk BK188.out) hb); have n4_ := Aside0.mk (blk_below (g := gb189) (o := .cells #[.int .i64 a2_2, .int .i64 a2_3] 26 (0, 0)) (XOpen.bk BK189.out) hb); have n5_ := Aside0.mk (below_step (XOpen.bl5 HB.out GE184.out GE185.out GE186.out GE188.out GE189.out) hb); clear BK184; clear BK185; clear BK186; clear BK188; clear BK189; clear HB; have BK184 := n0_; have BK185 := n1_; have BK186 := n2_; have BK188 := n3_; have BK189 := n4_; have HB := n5_; clear n0_ n1_ n2_ n3_ n4_ n5_; (try clear hb); (try clear hb2); (try clear hk); (try clear hi); have hcz173_0 : w172.cell? ⟨gb189, 0, none⟩ = some (.int .i64 a2_2) := (blk_cell BK189.out 0).trans rfl; have hcz173_1 : w172.cell? ⟨gb189, 1, none⟩ = some (.int .i64 a2_3) := (blk_cell BK189.out 1).trans rfl; have hfz173_0 := blk_frozen BK189.out 0; have hfz173_1 := blk_frozen BK189.out 1; have hcz174_0 : w172.cell? ⟨gb188, 0, none⟩ = some (.int .i64 a2_0) := (blk_cell BK188.out 0).trans rfl; have hcz174_1 : w172.cell? ⟨gb188, 1, none⟩ = some (.int .i64 a2_1) := (blk_cell BK188.out 1).trans rfl; have hfz174_0 := blk_frozen BK188.out 0; have hfz174_1 := blk_frozen BK188.out 1; have hcz175_0 : w172.cell? ⟨gb184, 0, none⟩ = some (.int .i64 a0_0) := (blk_cell BK184.out 0).trans rfl; have hcz175_1 : w172.cell? ⟨gb184, 1, none⟩ = some (.int .i64 a0_1) := (blk_cell BK184.out 1).trans rfl; have hfz175_0 := blk_frozen BK184.out 0; have hfz175_1 := blk_frozen BK184.out 1; have hcz176_0 : w172.cell? ⟨gb185, 0, none⟩ = some (.int .i64 a1_0) := (blk_cell BK185.out 0).trans rfl; have hcz176_1 : w172.cell? ⟨gb185, 1, none⟩ = some (.int .i64 a1_1) := (blk_cell BK185.out 1).trans rfl; have hfz176_0 := blk_frozen BK185.out 0; have hfz176_1 := blk_frozen BK185.out 1) | ((with_reducible refine gate_callee (f := 16) rfl ?_); refine goesL_ (some 43) rfl rfl Try.func16 (by kernel_rfl) rfl #[.agg #[.int .i64 a2_2, .int .i64 a2_3], .agg #[.int .i64 a2_0, .int .i64 a2_1], .agg #[.int .i64 a0_0, .int .i64 a0_1], .agg #[.int .i64 a1_0, .int .i64 a1_1]] rfl (by (try simp only [List.map_toArray, List.map_cons, List.map_nil]); first | done | rfl | (simp only [List.length_drop, List.length_take]; rfl)) ?_; (with_reducible refine (plane_Meet.calls kj10 a2_2 a2_3 a2_0 a2_1 a0_0 a0_1 a1_0 a1_1 t196 t197 _ A41.out).mono ?_); rintro e w177 ⟨rfl, hb⟩; refine ⟨_, rfl, ?_⟩; have n0_ := Aside0.mk (blk_below (g := gb184) (o := .cells #[.int .i64 a0_0, .int .i64 a0_1] 26 (0, 0)) (XOpen.bk BK184.out) hb); have n1_ := Aside0.mk (blk_below (g := gb185) (o := .cells #[.int .i64 a1_0, .int .i64 a1_1] 26 (0, 0)) (XOpen.bk BK185.out) hb); have n2_ := Aside0.mk (blk_below (g := gb186) (o := .cells #[.int .i64 a2_0, .int .i64 a2_1, .int .i64 a2_2, .int .i64 a2_3] 33 (0, 0)) (XOpen.bk BK186.out) hb); have n3_ := Aside0.mk (blk_below (g := gb188) (o := .cells #[.int .i64 a2_0, .int .i64 a2_1] 26 (0, 0)) (XOpen.bk BK188.out) hb); have n4_ := Aside0.mk (blk_below (g := gb189) (o := .cells #[.int .i64 a2_2, .int .i64 a2_3] 26 (0, 0)) (XOpen.bk BK189.out) hb); have n5_ := Aside0.mk (below_step (XOpen.bl5 HB.out GE184.out GE185.out GE186.out GE188.out GE189.out) hb); clear BK184; clear BK185; clear BK186; clear BK188; clear BK189; clear HB; have BK184 := n0_; have BK185 := n1_; have BK186 := n2_; have BK188 := n3_; have BK189 := n4_; have HB := n5_; clear n0_ n1_ n2_ n3_ n4_ n5_; (try clear hb); (try clear hb2); (try clear hk); (try clear hi); have hcz178_0 : w177.cell? ⟨gb184, 0, none⟩ = some (.int .i64 a0_0) := (blk_cell BK184.out 0).trans rfl; have hcz178_1 : w177.cell? ⟨gb184, 1, none⟩ = some (.int .i64 a0_1) := (blk_cell BK184.out 1).trans rfl; have hfz178_0 := blk_frozen BK184.out 0; have hfz178_1 := blk_frozen BK184.out 1; have hcz179_0 : w177.cell? ⟨gb185, 0, none⟩ = some (.int .i64 a1_0) := (blk_cell BK185.out 0).trans rfl; have hcz179_1 : w177.cell? ⟨gb185, 1, none⟩ = some (.int .i64 a1_1) := (blk_cell BK185.out 1).trans rfl; have hfz179_0 := blk_frozen BK185.out 0; have hfz179_1 := blk_frozen BK185.out 1) | ((with_reducible refine gate_callee (f := 16) rfl ?_); refine goesL_ (some 51) rfl rfl Try.func16 (by kernel_rfl) rfl #[.agg #[.int .i64 a0_0, .int .i64 a0_1], .agg #[.int .i64 a1_0, .int .i64 a1_1], .agg #[.int .i64 a1_0, .int .i64 a1_1], .agg #[.int .i64 a0_0, .int .i64 a0_1]] rfl (by (try simp only [List.map_toArray, List.map_cons, List.map_nil]); first | done | rfl | (simp only [List.length_drop, List.length_take]; rfl)) ?_; (with_reducible refine (plane_Meet.calls kj10 a0_0 a0_1 a1_0 a1_1 a1_0 a1_1 a0_0 a0_1 t198 t199 _ A42.out).mono ?_); rintro e w180 ⟨rfl, hb⟩; refine ⟨_, rfl, ?_⟩; have n0_ := Aside0.mk (blk_below (g := gb184) (o := .cells #[.int .i64 a0_0, .int .i64 a0_1] 26 (0, 0)) (XOpen.bk BK184.out) hb); have n1_ := Aside0.mk (blk_below (g := gb185) (o := .cells #[.int .i64 a1_0, .int .i64 a1_1] 26 (0, 0)) (XOpen.bk BK185.out) hb); have n2_ := Aside0.mk (blk_below (g := gb186) (o := .cells #[.int .i64 a2_0, .int .i64 a2_1, .int .i64 a2_2, .int .i64 a2_3] 33 (0, 0)) (XOpen.bk BK186.out) hb); have n3_ := Aside0.mk (blk_below (g := gb188) (o := .cells #[.int .i64 a2_0, .int .i64 a2_1] 26 (0, 0)) (XOpen.bk BK188.out) hb); have n4_ := Aside0.mk (blk_below (g := gb189) (o := .cells #[.int .i64 a2_2, .int .i64 a2_3] 26 (0, 0)) (XOpen.bk BK189.out) hb); have n5_ := Aside0.mk (below_step (XOpen.bl5 HB.out GE184.out GE185.out GE186.out GE188.out GE189.out) hb); clear BK184; clear BK185; clear BK186; clear BK188; clear BK189; clear HB; have BK184 := n0_; have BK185 := n1_; have BK186 := n2_; have BK188 := n3_; have BK189 := n4_; have HB := n5_; clear n0_ n1_ n2_ n3_ n4_ n5_; (try clear hb); (try clear hb2); (try clear hk); (try clear hi); have hcz181_0 : w180.cell? ⟨gb184, 0, none⟩ = some (.int .i64 a0_0) := (blk_cell BK184.out 0).trans rfl; have hcz181_1 : w180.cell? ⟨gb184, 1, none⟩ = some (.int .i64 a0_1) := (blk_cell BK184.out 1).trans rfl; have hfz181_0 := blk_frozen BK184.out 0; have hfz181_1 := blk_frozen BK184.out 1; have hcz182_0 : w180.cell? ⟨gb185, 0, none⟩ = some (.int .i64 a1_0) := (blk_cell BK185.out 0).trans rfl; have hcz182_1 : w180.cell? ⟨gb185, 1, none⟩ = some (.int .i64 a1_1) := (blk_cell BK185.out 1).trans rfl; have hfz182_0 := blk_frozen BK185.out 0; have hfz182_1 := blk_frozen BK185.out 1; have hcz183_0 : w180.cell? ⟨gb188, 0, none⟩ = some (.int .i64 a2_0) := (blk_cell BK188.out 0).trans rfl; have hcz183_1 : w180.cell? ⟨gb188, 1, none⟩ = some (.int .i64 a2_1) := (blk_cell BK188.out 1).trans rfl; have hfz183_0 := blk_frozen BK188.out 0; have hfz183_1 := blk_frozen BK188.out 1) | ((with_reducible refine gate_callee (f := 16) rfl ?_); refine goesL_ (some 59) rfl rfl Try.func16 (by kernel_rfl) rfl #[.agg #[.int .i64 a0_0, .int .i64 a0_1], .agg #[.int .i64 a1_0, .int .i64 a1_1], .agg #[.int .i64 a1_0, .int .i64 a1_1], .agg #[.int .i64 a2_0, .int .i64 a2_1]] rfl (by (try simp only [List.map_toArray, List.map_cons, List.map_nil]); first | done | rfl | (simp only [List.length_drop, List.length_take]; rfl)) ?_; (with_reducible refine (plane_Meet.calls kj10 a0_0 a0_1 a1_0 a1_1 a1_0 a1_1 a2_0 a2_1 t200 t201 _ A43.out).mono ?_); rintro e w184 ⟨rfl, hb⟩; refine ⟨_, rfl, ?_⟩; have n0_ := Aside0.mk (blk_below (g := gb184) (o := .cells #[.int .i64 a0_0, .int .i64 a0_1] 26 (0, 0)) (XOpen.bk BK184.out) hb); have n1_ := Aside0.mk (blk_below (g := gb185) (o := .cells #[.int .i64 a1_0, .int .i64 a1_1] 26 (0, 0)) (XOpen.bk BK185.out) hb); have n2_ := Aside0.mk (blk_below (g := gb186) (o := .cells #[.int .i64 a2_0, .int .i64 a2_1, .int .i64 a2_2, .int .i64 a2_3] 33 (0, 0)) (XOpen.bk BK186.out) hb); have n3_ := Aside0.mk (blk_below (g := gb188) (o := .cells #[.int .i64 a2_0, .int .i64 a2_1] 26 (0, 0)) (XOpen.bk BK188.out) hb); have n4_ := Aside0.mk (blk_below (g := gb189) (o := .cells #[.int .i64 a2_2, .int .i64 a2_3] 26 (0, 0)) (XOpen.bk BK189.out) hb); have n5_ := Aside0.mk (below_step (XOpen.bl5 HB.out GE184.out GE185.out GE186.out GE188.out GE189.out) hb); clear BK184; clear BK185; clear BK186; clear BK188; clear BK189; clear HB; have BK184 := n0_; have BK185 := n1_; have BK186 := n2_; have BK188 := n3_; have BK189 := n4_; have HB := n5_; clear n0_ n1_ n2_ n3_ n4_ n5_; (try clear hb); (try clear hb2); (try clear hk); (try clear hi)))
          go_ret
          exact ⟨by first | rfl | (simp [errW_none, errW_some] <;> rfl) | (simp [*, errW_none, errW_some] <;> rfl), XOpen.bl5 HB.out GE184.out GE185.out GE186.out GE188.out GE189.out⟩
        ·rw [if_neg c45] at H
         have c45b0 : (t197 == 0) = false := beq_eq_false_iff_ne.mpr c45
         have c45b1 : (t197 != 0) = true := bne_iff_ne.mpr c45
         obtain rfl := Option.some.inj H
         have hnb185 := NB184_185.out
         have hnc185 := NB185_184.out
         have hnb186 := NB184_186.out
         have hnc186 := NB186_184.out
         have hnb187 := NB184_188.out
         have hnc187 := NB188_184.out
         have hnb188 := NB184_189.out
         have hnc188 := NB189_184.out
         have hcz189_0 : wc.cell? ⟨gb184, 0, none⟩ = some (.int .i64 a0_0) := (blk_cell BK184.out 0).trans rfl
         have hcz189_1 : wc.cell? ⟨gb184, 1, none⟩ = some (.int .i64 a0_1) := (blk_cell BK184.out 1).trans rfl
         have hfz189_0 := blk_frozen BK184.out 0
         have hfz189_1 := blk_frozen BK184.out 1
         have hnb190 := NB185_186.out
         have hnc190 := NB186_185.out
         have hnb191 := NB185_188.out
         have hnc191 := NB188_185.out
         have hnb192 := NB185_189.out
         have hnc192 := NB189_185.out
         have hcz193_0 : wc.cell? ⟨gb185, 0, none⟩ = some (.int .i64 a1_0) := (blk_cell BK185.out 0).trans rfl
         have hcz193_1 : wc.cell? ⟨gb185, 1, none⟩ = some (.int .i64 a1_1) := (blk_cell BK185.out 1).trans rfl
         have hfz193_0 := blk_frozen BK185.out 0
         have hfz193_1 := blk_frozen BK185.out 1
         have hnb194 := NB188_186.out
         have hnc194 := NB186_188.out
         have hnb195 := NB188_189.out
         have hnc195 := NB189_188.out
         have hcz196_0 : wc.cell? ⟨gb188, 0, none⟩ = some (.int .i64 a2_0) := (blk_cell BK188.out 0).trans rfl
         have hcz196_1 : wc.cell? ⟨gb188, 1, none⟩ = some (.int .i64 a2_1) := (blk_cell BK188.out 1).trans rfl
         have hfz196_0 := blk_frozen BK188.out 0
         have hfz196_1 := blk_frozen BK188.out 1
         have hnb197 := NB189_186.out
         have hnc197 := NB186_189.out
         have hcz198_0 : wc.cell? ⟨gb189, 0, none⟩ = some (.int .i64 a2_2) := (blk_cell BK189.out 0).trans rfl
         have hcz198_1 : wc.cell? ⟨gb189, 1, none⟩ = some (.int .i64 a2_3) := (blk_cell BK189.out 1).trans rfl
         have hfz198_0 := blk_frozen BK189.out 0
         have hfz198_1 := blk_frozen BK189.out 1
         go_wp2_with (first | ((with_reducible refine gate_callee (f := 16) rfl ?_); refine goesL_ (some 35) rfl rfl Try.func16 (by kernel_rfl) rfl #[.agg #[.int .i64 a0_0, .int .i64 a0_1], .agg #[.int .i64 a1_0, .int .i64 a1_1], .agg #[.int .i64 a2_0, .int .i64 a2_1], .agg #[.int .i64 a2_2, .int .i64 a2_3]] rfl (by (try simp only [List.map_toArray, List.map_cons, List.map_nil]); first | done | rfl | (simp only [List.length_drop, List.length_take]; rfl)) ?_; (with_reducible refine (plane_Meet.calls kj10 a0_0 a0_1 a1_0 a1_1 a2_0 a2_1 a2_2 a2_3 t194 t195 _ A40.out).mono ?_); rintro e w199 ⟨rfl, hb⟩; refine ⟨_, rfl, ?_⟩; have n0_ := Aside0.mk (blk_below (g := gb184) (o := .cells #[.int .i64 a0_0, .int .i64 a0_1] 26 (0, 0)) (XOpen.bk BK184.out) hb); have n1_ := Aside0.mk (blk_below (g := gb185) (o := .cells #[.int .i64 a1_0, .int .i64 a1_1] 26 (0, 0)) (XOpen.bk BK185.out) hb); have n2_ := Aside0.mk (blk_below (g := gb186) (o := .cells #[.int .i64 a2_0, .int .i64 a2_1, .int .i64 a2_2, .int .i64 a2_3] 33 (0, 0)) (XOpen.bk BK186.out) hb); have n3_ := Aside0.mk (blk_below (g := gb188) (o := .cells #[.int .i64 a2_0, .int .i64 a2_1] 26 (0, 0)) (XOpen.bk BK188.out) hb); have n4_ := Aside0.mk (blk_below (g := gb189) (o := .cells #[.int .i64 a2_2, .int .i64 a2_3] 26 (0, 0)) (XOpen.bk BK189.out) hb); have n5_ := Aside0.mk (below_step (XOpen.bl5 HB.out GE184.out GE185.out GE186.out GE188.out GE189.out) hb); clear BK184; clear BK185; clear BK186; clear BK188; clear BK189; clear HB; have BK184 := n0_; have BK185 := n1_; have BK186 := n2_; have BK188 := n3_; have BK189 := n4_; have HB := n5_; clear n0_ n1_ n2_ n3_ n4_ n5_; (try clear hb); (try clear hb2); (try clear hk); (try clear hi); have hcz200_0 : w199.cell? ⟨gb189, 0, none⟩ = some (.int .i64 a2_2) := (blk_cell BK189.out 0).trans rfl; have hcz200_1 : w199.cell? ⟨gb189, 1, none⟩ = some (.int .i64 a2_3) := (blk_cell BK189.out 1).trans rfl; have hfz200_0 := blk_frozen BK189.out 0; have hfz200_1 := blk_frozen BK189.out 1; have hcz201_0 : w199.cell? ⟨gb188, 0, none⟩ = some (.int .i64 a2_0) := (blk_cell BK188.out 0).trans rfl; have hcz201_1 : w199.cell? ⟨gb188, 1, none⟩ = some (.int .i64 a2_1) := (blk_cell BK188.out 1).trans rfl; have hfz201_0 := blk_frozen BK188.out 0; have hfz201_1 := blk_frozen BK188.out 1; have hcz202_0 : w199.cell? ⟨gb184, 0, none⟩ = some (.int .i64 a0_0) := (blk_cell BK184.out 0).trans rfl; have hcz202_1 : w199.cell? ⟨gb184, 1, none⟩ = some (.int .i64 a0_1) := (blk_cell BK184.out 1).trans rfl; have hfz202_0 := blk_frozen BK184.out 0; have hfz202_1 := blk_frozen BK184.out 1; have hcz203_0 : w199.cell? ⟨gb185, 0, none⟩ = some (.int .i64 a1_0) := (blk_cell BK185.out 0).trans rfl; have hcz203_1 : w199.cell? ⟨gb185, 1, none⟩ = some (.int .i64 a1_1) := (blk_cell BK185.out 1).trans rfl; have hfz203_0 := blk_frozen BK185.out 0; have hfz203_1 := blk_frozen BK185.out 1) | ((with_reducible refine gate_callee (f := 16) rfl ?_); refine goesL_ (some 43) rfl rfl Try.func16 (by kernel_rfl) rfl #[.agg #[.int .i64 a2_2, .int .i64 a2_3], .agg #[.int .i64 a2_0, .int .i64 a2_1], .agg #[.int .i64 a0_0, .int .i64 a0_1], .agg #[.int .i64 a1_0, .int .i64 a1_1]] rfl (by (try simp only [List.map_toArray, List.map_cons, List.map_nil]); first | done | rfl | (simp only [List.length_drop, List.length_take]; rfl)) ?_; (with_reducible refine (plane_Meet.calls kj10 a2_2 a2_3 a2_0 a2_1 a0_0 a0_1 a1_0 a1_1 t196 t197 _ A41.out).mono ?_); rintro e w204 ⟨rfl, hb⟩; refine ⟨_, rfl, ?_⟩; have n0_ := Aside0.mk (blk_below (g := gb184) (o := .cells #[.int .i64 a0_0, .int .i64 a0_1] 26 (0, 0)) (XOpen.bk BK184.out) hb); have n1_ := Aside0.mk (blk_below (g := gb185) (o := .cells #[.int .i64 a1_0, .int .i64 a1_1] 26 (0, 0)) (XOpen.bk BK185.out) hb); have n2_ := Aside0.mk (blk_below (g := gb186) (o := .cells #[.int .i64 a2_0, .int .i64 a2_1, .int .i64 a2_2, .int .i64 a2_3] 33 (0, 0)) (XOpen.bk BK186.out) hb); have n3_ := Aside0.mk (blk_below (g := gb188) (o := .cells #[.int .i64 a2_0, .int .i64 a2_1] 26 (0, 0)) (XOpen.bk BK188.out) hb); have n4_ := Aside0.mk (blk_below (g := gb189) (o := .cells #[.int .i64 a2_2, .int .i64 a2_3] 26 (0, 0)) (XOpen.bk BK189.out) hb); have n5_ := Aside0.mk (below_step (XOpen.bl5 HB.out GE184.out GE185.out GE186.out GE188.out GE189.out) hb); clear BK184; clear BK185; clear BK186; clear BK188; clear BK189; clear HB; have BK184 := n0_; have BK185 := n1_; have BK186 := n2_; have BK188 := n3_; have BK189 := n4_; have HB := n5_; clear n0_ n1_ n2_ n3_ n4_ n5_; (try clear hb); (try clear hb2); (try clear hk); (try clear hi); have hcz205_0 : w204.cell? ⟨gb184, 0, none⟩ = some (.int .i64 a0_0) := (blk_cell BK184.out 0).trans rfl; have hcz205_1 : w204.cell? ⟨gb184, 1, none⟩ = some (.int .i64 a0_1) := (blk_cell BK184.out 1).trans rfl; have hfz205_0 := blk_frozen BK184.out 0; have hfz205_1 := blk_frozen BK184.out 1; have hcz206_0 : w204.cell? ⟨gb185, 0, none⟩ = some (.int .i64 a1_0) := (blk_cell BK185.out 0).trans rfl; have hcz206_1 : w204.cell? ⟨gb185, 1, none⟩ = some (.int .i64 a1_1) := (blk_cell BK185.out 1).trans rfl; have hfz206_0 := blk_frozen BK185.out 0; have hfz206_1 := blk_frozen BK185.out 1) | ((with_reducible refine gate_callee (f := 16) rfl ?_); refine goesL_ (some 51) rfl rfl Try.func16 (by kernel_rfl) rfl #[.agg #[.int .i64 a0_0, .int .i64 a0_1], .agg #[.int .i64 a1_0, .int .i64 a1_1], .agg #[.int .i64 a1_0, .int .i64 a1_1], .agg #[.int .i64 a0_0, .int .i64 a0_1]] rfl (by (try simp only [List.map_toArray, List.map_cons, List.map_nil]); first | done | rfl | (simp only [List.length_drop, List.length_take]; rfl)) ?_; (with_reducible refine (plane_Meet.calls kj10 a0_0 a0_1 a1_0 a1_1 a1_0 a1_1 a0_0 a0_1 t198 t199 _ A42.out).mono ?_); rintro e w207 ⟨rfl, hb⟩; refine ⟨_, rfl, ?_⟩; have n0_ := Aside0.mk (blk_below (g := gb184) (o := .cells #[.int .i64 a0_0, .int .i64 a0_1] 26 (0, 0)) (XOpen.bk BK184.out) hb); have n1_ := Aside0.mk (blk_below (g := gb185) (o := .cells #[.int .i64 a1_0, .int .i64 a1_1] 26 (0, 0)) (XOpen.bk BK185.out) hb); have n2_ := Aside0.mk (blk_below (g := gb186) (o := .cells #[.int .i64 a2_0, .int .i64 a2_1, .int .i64 a2_2, .int .i64 a2_3] 33 (0, 0)) (XOpen.bk BK186.out) hb); have n3_ := Aside0.mk (blk_below (g := gb188) (o := .cells #[.int .i64 a2_0, .int .i64 a2_1] 26 (0, 0)) (XOpen.bk BK188.out) hb); have n4_ := Aside0.mk (blk_below (g := gb189) (o := .cells #[.int .i64 a2_2, .int .i64 a2_3] 26 (0, 0)) (XOpen.bk BK189.out) hb); have n5_ := Aside0.mk (below_step (XOpen.bl5 HB.out GE184.out GE185.out GE186.out GE188.out GE189.out) hb); clear BK184; clear BK185; clear BK186; clear BK188; clear BK189; clear HB; have BK184 := n0_; have BK185 := n1_; have BK186 := n2_; have BK188 := n3_; have BK189 := n4_; have HB := n5_; clear n0_ n1_ n2_ n3_ n4_ n5_; (try clear hb); (try clear hb2); (try clear hk); (try clear hi); have hcz208_0 : w207.cell? ⟨gb184, 0, none⟩ = some (.int .i64 a0_0) := (blk_cell BK184.out 0).trans rfl; have hcz208_1 : w207.cell? ⟨gb184, 1, none⟩ = some (.int .i64 a0_1) := (blk_cell BK184.out 1).trans rfl; have hfz208_0 := blk_frozen BK184.out 0; have hfz208_1 := blk_frozen BK184.out 1; have hcz209_0 : w207.cell? ⟨gb185, 0, none⟩ = some (.int .i64 a1_0) := (blk_cell BK185.out 0).trans rfl; have hcz209_1 : w207.cell? ⟨gb185, 1, none⟩ = some (.int .i64 a1_1) := (blk_cell BK185.out 1).trans rfl; have hfz209_0 := blk_frozen BK185.out 0; have hfz209_1 := blk_frozen BK185.out 1; have hcz210_0 : w207.cell? ⟨gb188, 0, none⟩ = some (.int .i64 a2_0) := (blk_cell BK188.out 0).trans rfl; have hcz210_1 : w207.cell? ⟨gb188, 1, none⟩ = some (.int .i64 a2_1) := (blk_cell BK188.out 1).trans rfl; have hfz210_0 := blk_frozen BK188.out 0; have hfz210_1 := blk_frozen BK188.out 1) | ((with_reducible refine gate_callee (f := 16) rfl ?_); refine goesL_ (some 59) rfl rfl Try.func16 (by kernel_rfl) rfl #[.agg #[.int .i64 a0_0, .int .i64 a0_1], .agg #[.int .i64 a1_0, .int .i64 a1_1], .agg #[.int .i64 a1_0, .int .i64 a1_1], .agg #[.int .i64 a2_0, .int .i64 a2_1]] rfl (by (try simp only [List.map_toArray, List.map_cons, List.map_nil]); first | done | rfl | (simp only [List.length_drop, List.length_take]; rfl)) ?_; (with_reducible refine (plane_Meet.calls kj10 a0_0 a0_1 a1_0 a1_1 a1_0 a1_1 a2_0 a2_1 t200 t201 _ A43.out).mono ?_); rintro e w211 ⟨rfl, hb⟩; refine ⟨_, rfl, ?_⟩; have n0_ := Aside0.mk (blk_below (g := gb184) (o := .cells #[.int .i64 a0_0, .int .i64 a0_1] 26 (0, 0)) (XOpen.bk BK184.out) hb); have n1_ := Aside0.mk (blk_below (g := gb185) (o := .cells #[.int .i64 a1_0, .int .i64 a1_1] 26 (0, 0)) (XOpen.bk BK185.out) hb); have n2_ := Aside0.mk (blk_below (g := gb186) (o := .cells #[.int .i64 a2_0, .int .i64 a2_1, .int .i64 a2_2, .int .i64 a2_3] 33 (0, 0)) (XOpen.bk BK186.out) hb); have n3_ := Aside0.mk (blk_below (g := gb188) (o := .cells #[.int .i64 a2_0, .int .i64 a2_1] 26 (0, 0)) (XOpen.bk BK188.out) hb); have n4_ := Aside0.mk (blk_below (g := gb189) (o := .cells #[.int .i64 a2_2, .int .i64 a2_3] 26 (0, 0)) (XOpen.bk BK189.out) hb); have n5_ := Aside0.mk (below_step (XOpen.bl5 HB.out GE184.out GE185.out GE186.out GE188.out GE189.out) hb); clear BK184; clear BK185; clear BK186; clear BK188; clear BK189; clear HB; have BK184 := n0_; have BK185 := n1_; have BK186 := n2_; have BK188 := n3_; have BK189 := n4_; have HB := n5_; clear n0_ n1_ n2_ n3_ n4_ n5_; (try clear hb); (try clear hb2); (try clear hk); (try clear hi)))
         go_ret
         exact ⟨by first | rfl | (simp [errW_none, errW_some] <;> rfl) | (simp [*, errW_none, errW_some] <;> rfl), XOpen.bl5 HB.out GE184.out GE185.out GE186.out GE188.out GE189.out⟩
       ·rw [if_neg c44] at H
        have c44b0 : (t195 == 0) = false := beq_eq_false_iff_ne.mpr c44
        have c44b1 : (t195 != 0) = true := bne_iff_ne.mpr c44
        obtain rfl := Option.some.inj H
        have hnb212 := NB184_185.out
        have hnc212 := NB185_184.out
        have hnb213 := NB184_186.out
        have hnc213 := NB186_184.out
        have hnb214 := NB184_188.out
        have hnc214 := NB188_184.out
        have hnb215 := NB184_189.out
        have hnc215 := NB189_184.out
        have hcz216_0 : wc.cell? ⟨gb184, 0, none⟩ = some (.int .i64 a0_0) := (blk_cell BK184.out 0).trans rfl
        have hcz216_1 : wc.cell? ⟨gb184, 1, none⟩ = some (.int .i64 a0_1) := (blk_cell BK184.out 1).trans rfl
        have hfz216_0 := blk_frozen BK184.out 0
        have hfz216_1 := blk_frozen BK184.out 1
        have hnb217 := NB185_186.out
        have hnc217 := NB186_185.out
        have hnb218 := NB185_188.out
        have hnc218 := NB188_185.out
        have hnb219 := NB185_189.out
        have hnc219 := NB189_185.out
        have hcz220_0 : wc.cell? ⟨gb185, 0, none⟩ = some (.int .i64 a1_0) := (blk_cell BK185.out 0).trans rfl
        have hcz220_1 : wc.cell? ⟨gb185, 1, none⟩ = some (.int .i64 a1_1) := (blk_cell BK185.out 1).trans rfl
        have hfz220_0 := blk_frozen BK185.out 0
        have hfz220_1 := blk_frozen BK185.out 1
        have hnb221 := NB188_186.out
        have hnc221 := NB186_188.out
        have hnb222 := NB188_189.out
        have hnc222 := NB189_188.out
        have hcz223_0 : wc.cell? ⟨gb188, 0, none⟩ = some (.int .i64 a2_0) := (blk_cell BK188.out 0).trans rfl
        have hcz223_1 : wc.cell? ⟨gb188, 1, none⟩ = some (.int .i64 a2_1) := (blk_cell BK188.out 1).trans rfl
        have hfz223_0 := blk_frozen BK188.out 0
        have hfz223_1 := blk_frozen BK188.out 1
        have hnb224 := NB189_186.out
        have hnc224 := NB186_189.out
        have hcz225_0 : wc.cell? ⟨gb189, 0, none⟩ = some (.int .i64 a2_2) := (blk_cell BK189.out 0).trans rfl
        have hcz225_1 : wc.cell? ⟨gb189, 1, none⟩ = some (.int .i64 a2_3) := (blk_cell BK189.out 1).trans rfl
        have hfz225_0 := blk_frozen BK189.out 0
        have hfz225_1 := blk_frozen BK189.out 1
        go_wp2_with (first | ((with_reducible refine gate_callee (f := 16) rfl ?_); refine goesL_ (some 35) rfl rfl Try.func16 (by kernel_rfl) rfl #[.agg #[.int .i64 a0_0, .int .i64 a0_1], .agg #[.int .i64 a1_0, .int .i64 a1_1], .agg #[.int .i64 a2_0, .int .i64 a2_1], .agg #[.int .i64 a2_2, .int .i64 a2_3]] rfl (by (try simp only [List.map_toArray, List.map_cons, List.map_nil]); first | done | rfl | (simp only [List.length_drop, List.length_take]; rfl)) ?_; (with_reducible refine (plane_Meet.calls kj10 a0_0 a0_1 a1_0 a1_1 a2_0 a2_1 a2_2 a2_3 t194 t195 _ A40.out).mono ?_); rintro e w226 ⟨rfl, hb⟩; refine ⟨_, rfl, ?_⟩; have n0_ := Aside0.mk (blk_below (g := gb184) (o := .cells #[.int .i64 a0_0, .int .i64 a0_1] 26 (0, 0)) (XOpen.bk BK184.out) hb); have n1_ := Aside0.mk (blk_below (g := gb185) (o := .cells #[.int .i64 a1_0, .int .i64 a1_1] 26 (0, 0)) (XOpen.bk BK185.out) hb); have n2_ := Aside0.mk (blk_below (g := gb186) (o := .cells #[.int .i64 a2_0, .int .i64 a2_1, .int .i64 a2_2, .int .i64 a2_3] 33 (0, 0)) (XOpen.bk BK186.out) hb); have n3_ := Aside0.mk (blk_below (g := gb188) (o := .cells #[.int .i64 a2_0, .int .i64 a2_1] 26 (0, 0)) (XOpen.bk BK188.out) hb); have n4_ := Aside0.mk (blk_below (g := gb189) (o := .cells #[.int .i64 a2_2, .int .i64 a2_3] 26 (0, 0)) (XOpen.bk BK189.out) hb); have n5_ := Aside0.mk (below_step (XOpen.bl5 HB.out GE184.out GE185.out GE186.out GE188.out GE189.out) hb); clear BK184; clear BK185; clear BK186; clear BK188; clear BK189; clear HB; have BK184 := n0_; have BK185 := n1_; have BK186 := n2_; have BK188 := n3_; have BK189 := n4_; have HB := n5_; clear n0_ n1_ n2_ n3_ n4_ n5_; (try clear hb); (try clear hb2); (try clear hk); (try clear hi); have hcz227_0 : w226.cell? ⟨gb189, 0, none⟩ = some (.int .i64 a2_2) := (blk_cell BK189.out 0).trans rfl; have hcz227_1 : w226.cell? ⟨gb189, 1, none⟩ = some (.int .i64 a2_3) := (blk_cell BK189.out 1).trans rfl; have hfz227_0 := blk_frozen BK189.out 0; have hfz227_1 := blk_frozen BK189.out 1; have hcz228_0 : w226.cell? ⟨gb188, 0, none⟩ = some (.int .i64 a2_0) := (blk_cell BK188.out 0).trans rfl; have hcz228_1 : w226.cell? ⟨gb188, 1, none⟩ = some (.int .i64 a2_1) := (blk_cell BK188.out 1).trans rfl; have hfz228_0 := blk_frozen BK188.out 0; have hfz228_1 := blk_frozen BK188.out 1; have hcz229_0 : w226.cell? ⟨gb184, 0, none⟩ = some (.int .i64 a0_0) := (blk_cell BK184.out 0).trans rfl; have hcz229_1 : w226.cell? ⟨gb184, 1, none⟩ = some (.int .i64 a0_1) := (blk_cell BK184.out 1).trans rfl; have hfz229_0 := blk_frozen BK184.out 0; have hfz229_1 := blk_frozen BK184.out 1; have hcz230_0 : w226.cell? ⟨gb185, 0, none⟩ = some (.int .i64 a1_0) := (blk_cell BK185.out 0).trans rfl; have hcz230_1 : w226.cell? ⟨gb185, 1, none⟩ = some (.int .i64 a1_1) := (blk_cell BK185.out 1).trans rfl; have hfz230_0 := blk_frozen BK185.out 0; have hfz230_1 := blk_frozen BK185.out 1) | ((with_reducible refine gate_callee (f := 16) rfl ?_); refine goesL_ (some 43) rfl rfl Try.func16 (by kernel_rfl) rfl #[.agg #[.int .i64 a2_2, .int .i64 a2_3], .agg #[.int .i64 a2_0, .int .i64 a2_1], .agg #[.int .i64 a0_0, .int .i64 a0_1], .agg #[.int .i64 a1_0, .int .i64 a1_1]] rfl (by (try simp only [List.map_toArray, List.map_cons, List.map_nil]); first | done | rfl | (simp only [List.length_drop, List.length_take]; rfl)) ?_; (with_reducible refine (plane_Meet.calls kj10 a2_2 a2_3 a2_0 a2_1 a0_0 a0_1 a1_0 a1_1 t196 t197 _ A41.out).mono ?_); rintro e w231 ⟨rfl, hb⟩; refine ⟨_, rfl, ?_⟩; have n0_ := Aside0.mk (blk_below (g := gb184) (o := .cells #[.int .i64 a0_0, .int .i64 a0_1] 26 (0, 0)) (XOpen.bk BK184.out) hb); have n1_ := Aside0.mk (blk_below (g := gb185) (o := .cells #[.int .i64 a1_0, .int .i64 a1_1] 26 (0, 0)) (XOpen.bk BK185.out) hb); have n2_ := Aside0.mk (blk_below (g := gb186) (o := .cells #[.int .i64 a2_0, .int .i64 a2_1, .int .i64 a2_2, .int .i64 a2_3] 33 (0, 0)) (XOpen.bk BK186.out) hb); have n3_ := Aside0.mk (blk_below (g := gb188) (o := .cells #[.int .i64 a2_0, .int .i64 a2_1] 26 (0, 0)) (XOpen.bk BK188.out) hb); have n4_ := Aside0.mk (blk_below (g := gb189) (o := .cells #[.int .i64 a2_2, .int .i64 a2_3] 26 (0, 0)) (XOpen.bk BK189.out) hb); have n5_ := Aside0.mk (below_step (XOpen.bl5 HB.out GE184.out GE185.out GE186.out GE188.out GE189.out) hb); clear BK184; clear BK185; clear BK186; clear BK188; clear BK189; clear HB; have BK184 := n0_; have BK185 := n1_; have BK186 := n2_; have BK188 := n3_; have BK189 := n4_; have HB := n5_; clear n0_ n1_ n2_ n3_ n4_ n5_; (try clear hb); (try clear hb2); (try clear hk); (try clear hi); have hcz232_0 : w231.cell? ⟨gb184, 0, none⟩ = some (.int .i64 a0_0) := (blk_cell BK184.out 0).trans rfl; have hcz232_1 : w231.cell? ⟨gb184, 1, none⟩ = some (.int .i64 a0_1) := (blk_cell BK184.out 1).trans rfl; have hfz232_0 := blk_frozen BK184.out 0; have hfz232_1 := blk_frozen BK184.out 1; have hcz233_0 : w231.cell? ⟨gb185, 0, none⟩ = some (.int .i64 a1_0) := (blk_cell BK185.out 0).trans rfl; have hcz233_1 : w231.cell? ⟨gb185, 1, none⟩ = some (.int .i64 a1_1) := (blk_cell BK185.out 1).trans rfl; have hfz233_0 := blk_frozen BK185.out 0; have hfz233_1 := blk_frozen BK185.out 1) | ((with_reducible refine gate_callee (f := 16) rfl ?_); refine goesL_ (some 51) rfl rfl Try.func16 (by kernel_rfl) rfl #[.agg #[.int .i64 a0_0, .int .i64 a0_1], .agg #[.int .i64 a1_0, .int .i64 a1_1], .agg #[.int .i64 a1_0, .int .i64 a1_1], .agg #[.int .i64 a0_0, .int .i64 a0_1]] rfl (by (try simp only [List.map_toArray, List.map_cons, List.map_nil]); first | done | rfl | (simp only [List.length_drop, List.length_take]; rfl)) ?_; (with_reducible refine (plane_Meet.calls kj10 a0_0 a0_1 a1_0 a1_1 a1_0 a1_1 a0_0 a0_1 t198 t199 _ A42.out).mono ?_); rintro e w234 ⟨rfl, hb⟩; refine ⟨_, rfl, ?_⟩; have n0_ := Aside0.mk (blk_below (g := gb184) (o := .cells #[.int .i64 a0_0, .int .i64 a0_1] 26 (0, 0)) (XOpen.bk BK184.out) hb); have n1_ := Aside0.mk (blk_below (g := gb185) (o := .cells #[.int .i64 a1_0, .int .i64 a1_1] 26 (0, 0)) (XOpen.bk BK185.out) hb); have n2_ := Aside0.mk (blk_below (g := gb186) (o := .cells #[.int .i64 a2_0, .int .i64 a2_1, .int .i64 a2_2, .int .i64 a2_3] 33 (0, 0)) (XOpen.bk BK186.out) hb); have n3_ := Aside0.mk (blk_below (g := gb188) (o := .cells #[.int .i64 a2_0, .int .i64 a2_1] 26 (0, 0)) (XOpen.bk BK188.out) hb); have n4_ := Aside0.mk (blk_below (g := gb189) (o := .cells #[.int .i64 a2_2, .int .i64 a2_3] 26 (0, 0)) (XOpen.bk BK189.out) hb); have n5_ := Aside0.mk (below_step (XOpen.bl5 HB.out GE184.out GE185.out GE186.out GE188.out GE189.out) hb); clear BK184; clear BK185; clear BK186; clear BK188; clear BK189; clear HB; have BK184 := n0_; have BK185 := n1_; have BK186 := n2_; have BK188 := n3_; have BK189 := n4_; have HB := n5_; clear n0_ n1_ n2_ n3_ n4_ n5_; (try clear hb); (try clear hb2); (try clear hk); (try clear hi); have hcz235_0 : w234.cell? ⟨gb184, 0, none⟩ = some (.int .i64 a0_0) := (blk_cell BK184.out 0).trans rfl; have hcz235_1 : w234.cell? ⟨gb184, 1, none⟩ = some (.int .i64 a0_1) := (blk_cell BK184.out 1).trans rfl; have hfz235_0 := blk_frozen BK184.out 0; have hfz235_1 := blk_frozen BK184.out 1; have hcz236_0 : w234.cell? ⟨gb185, 0, none⟩ = some (.int .i64 a1_0) := (blk_cell BK185.out 0).trans rfl; have hcz236_1 : w234.cell? ⟨gb185, 1, none⟩ = some (.int .i64 a1_1) := (blk_cell BK185.out 1).trans rfl; have hfz236_0 := blk_frozen BK185.out 0; have hfz236_1 := blk_frozen BK185.out 1; have hcz237_0 : w234.cell? ⟨gb188, 0, none⟩ = some (.int .i64 a2_0) := (blk_cell BK188.out 0).trans rfl; have hcz237_1 : w234.cell? ⟨gb188, 1, none⟩ = some (.int .i64 a2_1) := (blk_cell BK188.out 1).trans rfl; have hfz237_0 := blk_frozen BK188.out 0; have hfz237_1 := blk_frozen BK188.out 1) | ((with_reducible refine gate_callee (f := 16) rfl ?_); refine goesL_ (some 59) rfl rfl Try.func16 (by kernel_rfl) rfl #[.agg #[.int .i64 a0_0, .int .i64 a0_1], .agg #[.int .i64 a1_0, .int .i64 a1_1], .agg #[.int .i64 a1_0, .int .i64 a1_1], .agg #[.int .i64 a2_0, .int .i64 a2_1]] rfl (by (try simp only [List.map_toArray, List.map_cons, List.map_nil]); first | done | rfl | (simp only [List.length_drop, List.length_take]; rfl)) ?_; (with_reducible refine (plane_Meet.calls kj10 a0_0 a0_1 a1_0 a1_1 a1_0 a1_1 a2_0 a2_1 t200 t201 _ A43.out).mono ?_); rintro e w238 ⟨rfl, hb⟩; refine ⟨_, rfl, ?_⟩; have n0_ := Aside0.mk (blk_below (g := gb184) (o := .cells #[.int .i64 a0_0, .int .i64 a0_1] 26 (0, 0)) (XOpen.bk BK184.out) hb); have n1_ := Aside0.mk (blk_below (g := gb185) (o := .cells #[.int .i64 a1_0, .int .i64 a1_1] 26 (0, 0)) (XOpen.bk BK185.out) hb); have n2_ := Aside0.mk (blk_below (g := gb186) (o := .cells #[.int .i64 a2_0, .int .i64 a2_1, .int .i64 a2_2, .int .i64 a2_3] 33 (0, 0)) (XOpen.bk BK186.out) hb); have n3_ := Aside0.mk (blk_below (g := gb188) (o := .cells #[.int .i64 a2_0, .int .i64 a2_1] 26 (0, 0)) (XOpen.bk BK188.out) hb); have n4_ := Aside0.mk (blk_below (g := gb189) (o := .cells #[.int .i64 a2_2, .int .i64 a2_3] 26 (0, 0)) (XOpen.bk BK189.out) hb); have n5_ := Aside0.mk (below_step (XOpen.bl5 HB.out GE184.out GE185.out GE186.out GE188.out GE189.out) hb); clear BK184; clear BK185; clear BK186; clear BK188; clear BK189; clear HB; have BK184 := n0_; have BK185 := n1_; have BK186 := n2_; have BK188 := n3_; have BK189 := n4_; have HB := n5_; clear n0_ n1_ n2_ n3_ n4_ n5_; (try clear hb); (try clear hb2); (try clear hk); (try clear hi)))
        go_ret
        exact ⟨by first | rfl | (simp [errW_none, errW_some] <;> rfl) | (simp [*, errW_none, errW_some] <;> rfl), XOpen.bl5 HB.out GE184.out GE185.out GE186.out GE188.out GE189.out⟩

/-- THE ONE PURE STATEMENT of pochoirlaw18_PlaneMeets. -/
def pochoirlaw18_PlaneMeets.Pure : Prop := ∀ (x0 : S26) (x1 : S26) (x2 : S33), wf26 x0 → wf26 x1 → wf33 x2 → ∃ k, pochoirlaw18_PlaneMeets.f k x0.f0 x0.f1 x1.f0 x1.f1 x2.f0.f0 x2.f0.f1 x2.f1.f0 x2.f1.f1 = some true

end Go.Proofs.Ytemhnlameekmkaa.XPlane
