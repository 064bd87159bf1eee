-- Printed by a program of this claim. Not trusted: Lean checks it.
import Derived.Test.YtalgppclaolonaaXColrx0
import Derived.Test.YtalgppclaolonaaXColrx9
namespace Go.Proofs.Ytalgppclaolonaa.XColr
open Go.RowKit Go.Proofs.YtalgppclaolonaaW.PrintWords Go.Proofs.YtalgppclaolonaaW.PrintLast Go.Proofs.YtalgppclaolonaaW.PrintMore
attribute [local go_sem] max2_int min2_int max_two min_two max_three min_three max_four min_four   -- for this text's walks alone
set_option linter.unusedVariables false
set_option linter.unusedSimpArgs false
open XOpen

/-! ### color_contour: function 84 -/
mutual
def color_contour.j0 : Nat → Int → List Int → List Int → Int → Bool → Option (List Int)
 | 0, _, _, _, _, _ => none
 | k + 1, x0, x1, x5, x6, x23 => if x23 = true then (if 0 ≤ (x5.length : Int) then ((some (x5.take (0 : Int).toNat : List Int)).bind fun y210 => ((slices_Repeat_int_int.f (([7] : List Int)) x0).bind fun t216 => (if y210.length + t216.length < 17592186044416 then (some (y210 ++ t216)) else (none)))) else (none)) else (color_contour.l0 k x0 x1 x5 x6 (-1) x0 0)
def color_contour.l0 : Nat → Int → List Int → List Int → Int → Int → Int → Int → Option (List Int)
 | 0, _, _, _, _, _, _, _ => none
 | k + 1, x0, x1, x5, x6, x7, x30, x31 => if x31 < x30 then (if 0 < (x1.length : Int) then (if x0 = 0 then (none) else (if x6 = 1 then ((color_third.f x31 x0).bind fun t223 => (if 0 ≤ (Int.tmod (wrap64 ((rd x1 0) + x31)) x0) then (if (Int.tmod (wrap64 ((rd x1 0) + x31)) x0) < (x5.length : Int) then (color_contour.l0 k x0 x1 (x5.set ((Int.tmod (wrap64 ((rd x1 0) + x31)) x0) : Int).toNat t223) x6 x7 x30 (wrap64 (x31 + 1))) else (none)) else (none))) else (if (wrap64 (x7 + 1)) < x6 then (if 0 ≤ (wrap64 (x7 + 1)) then (if (wrap64 (x7 + 1)) < (x1.length : Int) then (if (rd x1 (wrap64 (x7 + 1))) = (Int.tmod (wrap64 ((rd x1 0) + x31)) x0) then ((color_behind.f k (wrap64 (x7 + 1)) x6).bind fun t226 => (if 0 ≤ (Int.tmod (wrap64 ((rd x1 0) + x31)) x0) then (if (Int.tmod (wrap64 ((rd x1 0) + x31)) x0) < (x5.length : Int) then (color_contour.l0 k x0 x1 (x5.set ((Int.tmod (wrap64 ((rd x1 0) + x31)) x0) : Int).toNat t226) x6 (wrap64 (x7 + 1)) x30 (wrap64 (x31 + 1))) else (none)) else (none))) else ((color_behind.f k x7 x6).bind fun t228 => (if 0 ≤ (Int.tmod (wrap64 ((rd x1 0) + x31)) x0) then (if (Int.tmod (wrap64 ((rd x1 0) + x31)) x0) < (x5.length : Int) then (color_contour.l0 k x0 x1 (x5.set ((Int.tmod (wrap64 ((rd x1 0) + x31)) x0) : Int).toNat t228) x6 x7 x30 (wrap64 (x31 + 1))) else (none)) else (none)))) else (none)) else (none)) else ((color_behind.f k x7 x6).bind fun t230 => (if 0 ≤ (Int.tmod (wrap64 ((rd x1 0) + x31)) x0) then (if (Int.tmod (wrap64 ((rd x1 0) + x31)) x0) < (x5.length : Int) then (color_contour.l0 k x0 x1 (x5.set ((Int.tmod (wrap64 ((rd x1 0) + x31)) x0) : Int).toNat t230) x6 x7 x30 (wrap64 (x31 + 1))) else (none)) else (none)))))) else (none)) else (some x5)
end
def color_contour.f (k : Nat) (a0 : Int) (l1 : List Int) : Option (List Int) := if 0 ≤ a0 then (if (a0 : Int).toNat ≤ 35184372088832 then ((some (List.replicate (a0 : Int).toNat 0 : List Int)).bind fun y207 => (if (l1.length : Int) = 0 then (color_contour.j0 k a0 l1 y207 (l1.length : Int) true) else (if (l1.length : Int) = 1 then (color_contour.j0 k a0 l1 y207 (l1.length : Int) (decide (a0 < 3))) else (color_contour.j0 k a0 l1 y207 (l1.length : Int) false)))) else (none)) else (none)
theorem color_contour.mono_l : ∀ k, (∀ y0 y1 y2 y3 y4, LeO (color_contour.j0 k y0 y1 y2 y3 y4) (color_contour.j0 (k + 1) y0 y1 y2 y3 y4)) ∧ (∀ y0 y1 y2 y3 y4 y5 y6, LeO (color_contour.l0 k y0 y1 y2 y3 y4 y5 y6) (color_contour.l0 (k + 1) y0 y1 y2 y3 y4 y5 y6))
 | 0 => ⟨fun _ _ _ _ _ r h => by simp [color_contour.j0] at h, fun _ _ _ _ _ _ _ r h => by simp [color_contour.l0] at h⟩
 | k + 1 => by
  obtain ⟨ih0, ih1⟩ := color_contour.mono_l k
  refine ⟨?_, ?_⟩
  ·intro y0 y1 y2 y3 y4
   unfold color_contour.j0
   repeat' first | (with_reducible first | exact ih0 _ _ _ _ _ | exact ih1 _ _ _ _ _ _ _ | exact color_behind.mono _ _ _ | exact LeO.refl _ | exact LeO.none _ | refine LeO.ite ?_ ?_ | refine LeO.bind ?_ (fun _ => ?_)) | exact ih0 _ _ _ _ _ | exact ih1 _ _ _ _ _ _ _ | exact color_behind.mono _ _ _ | exact LeO.none _ | refine LeO.ite ?_ ?_ | refine LeO.bind ?_ (fun _ => ?_)
  ·intro y0 y1 y2 y3 y4 y5 y6
   unfold color_contour.l0
   repeat' first | (with_reducible first | exact ih0 _ _ _ _ _ | exact ih1 _ _ _ _ _ _ _ | exact color_behind.mono _ _ _ | exact LeO.refl _ | exact LeO.none _ | refine LeO.ite ?_ ?_ | refine LeO.bind ?_ (fun _ => ?_)) | exact ih0 _ _ _ _ _ | exact ih1 _ _ _ _ _ _ _ | exact color_behind.mono _ _ _ | exact LeO.none _ | refine LeO.ite ?_ ?_ | refine LeO.bind ?_ (fun _ => ?_)
theorem color_contour.mono : ∀ a0 a1 k, LeO (color_contour.f k a0 a1) (color_contour.f (k + 1) a0 a1) := by
 intro a0 a1 k
 obtain ⟨ih0, ih1⟩ := color_contour.mono_l k
 unfold color_contour.f
 repeat' first | (with_reducible first | exact ih0 _ _ _ _ _ | exact ih1 _ _ _ _ _ _ _ | exact color_behind.mono _ _ _ | exact LeO.refl _ | exact LeO.none _ | refine LeO.ite ?_ ?_ | refine LeO.bind ?_ (fun _ => ?_)) | exact ih0 _ _ _ _ _ | exact ih1 _ _ _ _ _ _ _ | exact color_behind.mono _ _ _ | exact LeO.none _ | refine LeO.ite ?_ ?_ | refine LeO.bind ?_ (fun _ => ?_)
set_option maxHeartbeats 8000000 in
set_option maxRecDepth 100000 in
theorem color_contour.calls (k : Nat) (a0 : Int) (A1 : Option Addr) (c1 : Nat) (l1 : List Int) (r : List Int) (w : World) (hr1 : Kd.C (Kd.int .i64) w A1 l1.length l1) (hc1 : l1.length ≤ c1) (h : color_contour.f k a0 l1 = some r) :
  Calls Try.prog 84 #[.int .i64 a0, .slice A1 l1.length c1] w fun e w' => ∃ v0_ : Value, e = .returned (v0_) ∧ Kd.R (Kd.int .i64) 3 w' w.heap.size (fun _ => True) v0_ r ∧ Below w.heap.size w w' := by
 have HR1 := Aside0.mk hr1
 have HC1 := Aside0.mk hc1
 clear hr1 hc1
 have HB := Aside0.mk (Below.refl w.heap.size w)
 have H := h
 clear h; unfold color_contour.f at H
 by_cases c3 : 0 ≤ a0
 ·rw [if_pos c3] at H
  have c3b0 := eq_true c3
  have c3b1 : decide (0 ≤ a0) = true := decide_eq_true c3
  clear c3
  refine ifk H ?_; clear H; intro c4 H
  have c4b0 := eq_true c4
  have c4b1 : decide ((a0 : Int).toNat ≤ 35184372088832) = true := decide_eq_true c4
  clear c4
  obtain ⟨y207, hy207⟩ : ∃ y_ : List Int, y_ = (List.replicate (a0 : Int).toNat 0) := ⟨_, rfl⟩
  replace H : (if (l1.length : Int) = 0 then (color_contour.j0 k a0 l1 y207 (l1.length : Int) true) else (if (l1.length : Int) = 1 then (color_contour.j0 k a0 l1 y207 (l1.length : Int) (decide (a0 < 3))) else (color_contour.j0 k a0 l1 y207 (l1.length : Int) false))) = some r := by (try rw [hy207]); first | with_reducible exact H | (have H2_ := (Option.bind_some _ _).symm.trans H; with_reducible exact H2_) | exact H
  have Ny207 := Aside0.mk hy207
  clear hy207
  have HC5 := Aside0.mk H
  clear H
  go_enter Try.func84, Try.ntmps84
  go_upto_region 3 with (first | ((with_reducible refine gate_dst (N := 11) rfl ?_); refine Kd.R_make (Kd.int .i64) _ 3 rfl (N := 11) rfl 24 _ _ rfl a0 rfl rfl Try.underlying24 (.int .i64 0) 8 info3 rfl (by decide) (by omega) 0 (ok := fun _ => True) (okp := fun _ => True) rfl (fun _ hk => hk) trivial (od) (Nat.le_trans (Nat.mul_le_mul_right _ (od : a0.toNat ≤ 35184372088832)) (by omega)) (Below.refl _ _) (Nat.le_refl _) ?_; intro v208 w6 ho7 hb hg_ hnew_; clear hg_ hnew_; (first | rw [← Ny207.out] at ho7 | (simp only [Int.reduceToNat] at ho7; rw [← Ny207.out] at ho7)); have HO209 := Aside0.mk (Kd.R_lower ho7 (below_size (bl0 HB.out))); replace HB := Aside0.mk (below_step (bl0 HB.out) hb); clear hb ho7))
  (try simp only [Act.put, List.setIfInBounds_toArray, List.set_cons_zero, List.set_cons_succ])
  go_cut [23] (fun v23 wc => ∃ (kq : Nat) (x23_4 : Bool), v23 = .bool x23_4 ∧ Aside0 (color_contour.j0 kq a0 l1 y207 (l1.length : Int) x23_4 = some r) ∧ Aside0 (kq ≤ k) ∧ Aside0 (Kd.R (Kd.int .i64) 3 wc w.heap.size (fun _ => True) v208 y207) ∧ Aside0 (Below w.heap.size w wc))
  case first =>
   have H := HC5.out
   clear HC5
   by_cases c8 : (l1.length : Int) = 0
   ·rw [if_pos c8] at H
    have c8b0 : ((l1.length : Int) == 0) = true := beq_iff_eq.mpr c8
    have c8b1 : ((l1.length : Int) != 0) = false := bne_eq_false_iff_eq.mpr c8
    clear c8
    (first | rw [c8b0] | (simp only [i64_w, i32_w]; rw [c8b0]) | rw [c8b1] | skip)
    have H' := Aside0.mk H
    clear H
    go_wp2
    go_meet
    case rel => exact ⟨_, (true), fr, H', ⟨by first | omega | exact Nat.le_refl _⟩, ⟨kr HO209.out⟩, ⟨bl0 HB.out⟩⟩
   rw [if_neg c8] at H
   have c8b0 : ((l1.length : Int) == 0) = false := beq_eq_false_iff_ne.mpr c8
   have c8b1 : ((l1.length : Int) != 0) = true := bne_iff_ne.mpr c8
   have c8b2 : ¬ (l1 = []) := fun h_ => c8 (by rw [h_]; rfl)
   (first | rw [c8b0] | (simp only [i64_w, i32_w]; rw [c8b0]) | rw [c8b1] | rw [c8b2] | skip)
   by_cases c9 : (l1.length : Int) = 1
   ·rw [if_pos c9] at H
    have c9b0 : ((l1.length : Int) == 1) = true := beq_iff_eq.mpr c9
    have c9b1 : ((l1.length : Int) != 1) = false := bne_eq_false_iff_eq.mpr c9
    clear c9
    have H' := Aside0.mk H
    clear H
    go_wp2
    go_meet
    case rel => exact ⟨_, (decide (a0 < 3)), fr, H', ⟨by first | omega | exact Nat.le_refl _⟩, ⟨kr HO209.out⟩, ⟨bl0 HB.out⟩⟩
   rw [if_neg c9] at H
   have c9b0 : ((l1.length : Int) == 1) = false := beq_eq_false_iff_ne.mpr c9
   have c9b1 : ((l1.length : Int) != 1) = true := bne_iff_ne.mpr c9
   have H' := Aside0.mk H
   clear H
   go_wp2
   go_meet
   case rel => exact ⟨_, (false), fr, H', ⟨by first | omega | exact Nat.le_refl _⟩, ⟨kr HO209.out⟩, ⟨bl0 HB.out⟩⟩
  case rest =>
   clear HC5
   try clear c1
   try clear p2
   try clear c3b0
   try clear c3b1
   try clear c4b0
   try clear c4b1
   try clear c8b0
   try clear c8b1
   try clear c8b2
   try clear c9b0
   try clear c9b1
   obtain ⟨kq, x23_4, rfl, HA, HJ4, HO_5, HB⟩ := hcut
   cases kq with
   | zero => exact absurd HA.out (by simp [color_contour.j0])
   | succ kj4 =>
    have H := HA.out
    clear HA
    simp only [color_contour.j0] at H
    by_cases c10 : x23_4 = true
    ·subst c10
     rw [if_pos rfl] at H
     refine ifk H ?_; clear H; intro c11 H
     have c11b0 := eq_true c11
     have c11b1 : decide (0 ≤ (y207.length : Int)) = true := decide_eq_true c11
     clear c11
     obtain ⟨y210, hy210⟩ : ∃ y_ : List Int, y_ = (y207.take (0 : Int).toNat) := ⟨_, rfl⟩
     replace H : ((slices_Repeat_int_int.f (([7] : List Int)) a0).bind fun t216 => (if y210.length + t216.length < 17592186044416 then (some (y210 ++ t216)) else (none))) = some r := by (try rw [hy210]); first | with_reducible exact H | (have H2_ := (Option.bind_some _ _).symm.trans H; with_reducible exact H2_) | exact H
     have Ny210 := Aside0.mk hy210
     clear hy210
     obtain ⟨y213, hy213⟩ : ∃ y_ : List Int, y_ = (([7] : List Int)) := ⟨_, rfl⟩
     replace H : ((slices_Repeat_int_int.f y213 a0).bind fun t216 => (if y210.length + t216.length < 17592186044416 then (some (y210 ++ t216)) else (none))) = some r := by (try rw [hy213]); first | with_reducible exact H | (have H2_ := (Option.bind_some _ _).symm.trans H; with_reducible exact H2_) | exact H
     have Ny213 := Aside0.mk hy213
     clear hy213
     replace H := Option.bind_eq_some_iff.mp H
     obtain ⟨t216, A120, H⟩ := H
     replace H : (if y210.length + t216.length < 17592186044416 then (some (y210 ++ t216)) else (none)) = some r := H
     have A12 := Aside0.mk A120
     clear A120
     refine ifk H ?_; clear H; intro c13 H
     have LMc13 := Aside0.mk c13
     clear c13
     obtain ⟨y219, hy219⟩ : ∃ y_ : List Int, y_ = (y210 ++ t216) := ⟨_, rfl⟩
     replace H : (some y219) = some r := by (try rw [hy219]); first | with_reducible exact H | (have H2_ := (Option.bind_some _ _).symm.trans H; with_reducible exact H2_) | exact H
     have Ny219 := Aside0.mk hy219
     clear hy219
     obtain rfl := Option.some.inj H
     try go_wp2
     replace HO_5 := Aside0.mk (Kd.R_drew HO_5.out)
     replace HB := Aside0.mk (below_drew1 HB.out)
     obtain ⟨Ao15, co15, eo15⟩ := Kd.R_slice HO_5.out
     (first | subst eo15 | (injection eo15 with f1_ f2_ f3_; have f4_ := f1_.symm; have f5_ := f3_.symm; clear f1_ f2_ f3_; subst f4_; subst f5_))
     have q16 : (0 : Int) ≤ ((y207.length : Int) : Int) := od
     obtain ⟨i016, hi016, _, hsz16, _⟩ := info_parts info3
     have hcut16 := cut_to (P := Try.prog) 24 3 .i64 Try.underlying24 hi016 Ao15 y207.length co15 0 (by omega) q16 (Kd.R_reads' HO_5.out).2.1
     have hr16 := Kd.R_take (m := (0 : Int).toNat) HO_5.out (by omega)
     have hy16 : y210.length = (0 : Int).toNat := (by rw [Ny210.out, List.length_take]; omega)
     rw [← Ny210.out] at hr16
     rw [← hy16] at hr16 hcut16
     clear hy16 hi016 hsz16 HO_5
     have HO212 := Aside0.mk hr16
     clear hr16
     replace q16 := eq_true q16
     refine start_ (n := 7) (S := fun w' => True) (ds := []) (ba 7 0) (by kernel_rfl) rfl rfl trivial (fun hHeld => ?_)
     generalize wc.drew = w14 at HB HO212 hHeld ⊢
     refine pure_ (i := 0) (N := some 24) (v := ?_) (a' := ?_) (ba 7 1) rfl rfl (by kernel_rfl) (fun _ _ _ h => h) (Or.inl ⟨by rfl, ?_⟩) ?_ ?_
     rotate_left
     ·intro w'
      go_simp
      with_reducible rfl
     rotate_left
     ·exact pa
     refine pure_ (i := 1) (N := some 25) (v := ?_) (a' := ?_) (ba 7 3) rfl rfl (by kernel_rfl) (fun _ _ _ h => h) (Or.inl ⟨by rfl, ?_⟩) ?_ ?_
     rotate_left
     ·intro w'
      go_simp
      with_reducible rfl
     rotate_left
     ·exact pa
     refine pure_ (i := 3) (N := some 27) (v := ?_) (a' := ?_) (ba 7 11) rfl rfl (by kernel_rfl) (fun _ _ _ h => h) (Or.inl ⟨by rfl, ?_⟩) ?_ ?_
     rotate_left
     ·intro w'
      go_simp
      with_reducible rfl
     rotate_left
     ·exact pa
     refine one_ (i := 2) (N := some 26) (ba 7 15) rfl rfl (by kernel_rfl) (by decide) (fun K hK => ?_)
     refine Kd.R_lit_step (Kd.int .i64) _ 3 ?hg (N := 26) ?hd (xs := ([7] : List Int)) (inner := [.int .i64 7]) (ok := fun _ => True) (okp := fun _ => True) ?hr ?hp (fun _ hk => hk) trivial (Below.refl _ _) (Nat.le_refl _) (by simp) ?_; (case hd => rfl); (case hg => rfl); (case hr => first | (go_simp; done) | (go_simp; rfl)); (case hp => exact (Reps.one (show Kd.M (Kd.int .i64) _ _ _ 7 [.int .i64 7] from rfl) (Reps.none _ _)))
     intro v214 w17 ho18 hb hg_ hnew_
     clear hg_ hnew_
     (first | rw [← Ny213.out] at ho18 | (simp only [Int.reduceToNat] at ho18; rw [← Ny213.out] at ho18))
     have HO215 := Aside0.mk (Kd.R_lower (Kd.R_new' ho18 (Kd.R_lt (kr HO212.out))) (below_size (bl0 HB.out)))
     replace HO212 := Aside0.mk (Kd.R_elder' (kr HO212.out) (Kd.R_base ho18) hb)
     replace HB := Aside0.mk (below_step (bl0 HB.out) hb)
     clear hb ho18
     obtain ⟨Ao19, co19, eo19⟩ := Kd.R_slice HO215.out
     (first | subst eo19 | (injection eo19 with f1_ f2_ f3_; have f4_ := f1_.symm; have f5_ := f3_.symm; clear f1_ f2_ f3_; subst f4_; subst f5_))
     refine hK.out _ _ trivial (fun hHeld => ?_)
     clear hK K
     refine np 26 ?_
     refine one_ (i := 4) (N := some 28) (ba 7 31) rfl rfl (by kernel_rfl) (by decide) (fun K hK => ?_)
     refine goes_ Try.func116 (by kernel_rfl) rfl #[.slice Ao19 y213.length co19, .int .i64 a0] (by rfl) rfl rfl am ?_
     with_reducible refine (slices_Repeat_int_int.calls _ _ y213 a0 t216 _ ?side1 ?side2 A12.out).mono ?_
     (case side1 => exact kc (Kd.R_reads' HO215.out).2.2)
     (case side2 => exact (Kd.R_reads' HO215.out).2.1)
     rintro e w20 ⟨v217, rfl, ho0, hb⟩
     refine ⟨_, rfl, ?_⟩
     have HO218 := Aside0.mk (Kd.R_lower (Kd.R_new' (Kd.R_new' ho0 (Kd.R_lt (kr HO212.out))) (Kd.R_lt (kr HO215.out))) (below_size (bl0 HB.out)))
     replace HO212 := Aside0.mk (Kd.R_elder' (kr HO212.out) (Kd.R_base ho0) hb)
     replace HO215 := Aside0.mk (Kd.R_elder' (kr HO215.out) (Kd.R_base ho0) hb)
     replace HB := Aside0.mk (below_step (bl0 HB.out) hb)
     (try clear hb)
     (try clear hb2)
     (try clear hk)
     (try clear hi)
     (try clear ho0)
     obtain ⟨Ao22, co22, eo22⟩ := Kd.R_slice HO218.out
     (first | subst eo22 | (injection eo22 with f1_ f2_ f3_; have f4_ := f1_.symm; have f5_ := f3_.symm; clear f1_ f2_ f3_; subst f4_; subst f5_))
     refine hK.out _ _ trivial (fun hHeld => ?_)
     clear hK K
     refine np 28 ?_
     refine one_ (i := 5) (N := some 29) (ba 7 63) rfl rfl (by kernel_rfl) (by decide) (fun K hK => ?_)
     refine Kd.R_append_rows_step (Kd.int .i64) (w0 := w) w.heap.size (by rfl) (.tmp 25) (.tmp 28) 24 3 (.int .i64 0) 8 rfl Try.underlying24 info3 rfl (by decide) (by omega) (.slice Ao15 y210.length co15) y210 t216 _ _ _ (fun k_ => some k_ ≠ (.slice Ao19 y213.length co19 : Value).ownBlock ∧ some k_ ≠ (.slice Ao22 t216.length co22 : Value).ownBlock) (fun _ => False) rfl rfl ?aO ?aR (fun _ _ h => h) (fun _ h => h.elim) ?aF ?aB ?aS ?aL ?_
     (case aR => repeat (first | exact (Kd.R_reads' HO218.out).2.2 | (with_reducible refine Kd.C_alloc ?_ _) | (with_reducible refine Kd.C_drewN ?_ _) | (with_reducible refine Kd.C_drew ?_)))
     (case aB => exact (bl0 HB.out))
     (case aF => exact (fun k_ hk => ⟨Kd.fresh' (Kd.R_lt (kr HO215.out)) k_ hk, Kd.fresh' (Kd.R_lt (kr HO218.out)) k_ hk⟩))
     (case aO => exact (by (with_reducible repeat (first | apply Kd.R_alloc | apply Kd.R_drewN | apply Kd.R_drew)); exact Kd.R_mono HO212.out (fun _ hk => ⟨hk.1.2, hk.2⟩)))
     (case aS => exact (below_size (bl0 HB.out)))
     (case aL => have := LMc13.out; omega)
     intro v220 w21 ho hb hg hat
     rw [← Ny219.out] at ho
     have HO221 := Aside0.mk (ho)
     replace HO215 := Aside0.mk (Kd.R_after (ok := (fun k_ => some k_ ≠ (.slice Ao22 t216.length co22 : Value).ownBlock)) (by (with_reducible repeat (first | apply Kd.R_alloc | apply Kd.R_drewN | apply Kd.R_drew)); exact Kd.R_mono HO215.out (fun _ hk => ⟨hk.2, hk.1.2⟩)) hg hat)
     replace HO218 := Aside0.mk (Kd.R_after (ok := (fun k_ => some k_ ≠ (.slice Ao19 y213.length co19 : Value).ownBlock)) (by (with_reducible repeat (first | apply Kd.R_alloc | apply Kd.R_drewN | apply Kd.R_drew)); exact Kd.R_mono HO218.out (fun _ hk => ⟨hk.2, hk.1.2⟩)) hg hat)
     replace HB := Aside0.mk (hb)
     clear HO212 ho hb hg hat
     refine hK.out _ _ trivial (fun hHeld => ?_)
     clear hK K
     refine np 29 ?_
     refine pure_ (i := 6) (N := some 4) (v := ?_) (a' := ?_) (ba 7 127) rfl rfl (by kernel_rfl) (fun _ _ _ h => h) (Or.inl ⟨by rfl, ?_⟩) ?_ ?_
     rotate_left
     ·intro w'
      go_simp
      with_reducible rfl
     rotate_left
     ·exact pa
     refine done_ (by kernel_rfl) ?_
     try go_wp2
     go_ret
     exact ⟨_, by first | rfl | (simp [errW_none, errW_some] <;> rfl) | (simp [*, errW_none, errW_some] <;> rfl), by (with_reducible repeat (first | apply Kd.R_alloc | apply Kd.R_drewN | apply Kd.R_drew)); exact Kd.R_mono HO221.out (fun _ hk => trivial), bl0 HB.out⟩
    replace c10 := Bool.eq_false_iff.mpr c10
    subst c10
    rw [if_neg (show ¬ (false = true) by decide)] at H
    have H' := Aside0.mk H
    clear H
    go_wp2
    go_loopg [7, 31] kj4 (fun kq v7 v31 w' => ∃ (x5_2 : List Int) (x7_2 : Int) (x31_2 : Int), v7 = .int .i64 x7_2 ∧ v31 = .int .i64 x31_2 ∧ Aside0 (color_contour.l0 kq a0 l1 x5_2 (l1.length : Int) x7_2 a0 x31_2 = some r) ∧ Aside0 (kq ≤ kj4) ∧ Aside0 (Kd.R (Kd.int .i64) 3 w' w.heap.size (fun _ => True) v208 x5_2) ∧ Aside0 (Below w.heap.size w w'))
    case atStart => exact ⟨(y207), ((-1)), (0), fr, fr, H', ⟨Nat.le_refl _⟩, ⟨kr HO_5.out⟩, ⟨bl0 HB.out⟩⟩
    case round =>
     clear H'
     try clear c1
     try clear q1
     try clear p2
     try clear c3b0
     try clear c3b1
     try clear c4b0
     try clear c4b1
     try clear c8b0
     try clear c8b1
     try clear c8b2
     try clear c9b0
     try clear c9b1
     try clear c10
     try clear c11b0
     try clear c11b1
     try clear q16
     try clear p2
     try clear q16
     obtain ⟨x5_2, x7_2, x31_2, rfl, rfl, HA, HK2, HO_5, HB⟩ := hrel
     cases gk with
     | zero => exact absurd HA.out (by simp [color_contour.l0])
     | succ k2 =>
      have H := HA.out
      clear HA
      simp only [color_contour.l0] at H
      by_cases c23 : x31_2 < a0
      ·rw [if_pos c23] at H
       have c23b0 := decide_eq_true c23
       clear c23
       refine ifk H ?_; clear H; intro c24 H
       have c24b0 := decide_eq_true c24
       have c24b1 : decide (0 < l1.length) = true := decide_eq_true (by omega)
       clear c24
       by_cases c25 : a0 = 0
       ·rw [if_pos c25] at H
        exact absurd H (by simp)
       rw [if_neg c25] at H
       have c25b0 : (a0 == 0) = false := beq_eq_false_iff_ne.mpr c25
       have c25b1 : (a0 != 0) = true := bne_iff_ne.mpr c25
       by_cases c26 : (l1.length : Int) = 1
       ·rw [if_pos c26] at H
        have c26b0 : ((l1.length : Int) == 1) = true := beq_iff_eq.mpr c26
        have c26b1 : ((l1.length : Int) != 1) = false := bne_eq_false_iff_eq.mpr c26
        clear c26
        replace H := Option.bind_eq_some_iff.mp H
        obtain ⟨t223, A270, H⟩ := H
        replace H : (if 0 ≤ (Int.tmod (wrap64 ((rd l1 0) + x31_2)) a0) then (if (Int.tmod (wrap64 ((rd l1 0) + x31_2)) a0) < (x5_2.length : Int) then (color_contour.l0 k2 a0 l1 (x5_2.set ((Int.tmod (wrap64 ((rd l1 0) + x31_2)) a0) : Int).toNat t223) (l1.length : Int) x7_2 a0 (wrap64 (x31_2 + 1))) else (none)) else (none)) = some r := H
        have A27 := Aside0.mk A270
        clear A270
        obtain ⟨ji28, hji28⟩ : ∃ j_ : Int, (Int.tmod (wrap64 ((rd l1 0) + x31_2)) a0) = j_ := ⟨_, rfl⟩
        replace H : (if 0 ≤ (ji28) then (if (ji28) < (x5_2.length : Int) then (color_contour.l0 k2 a0 l1 (x5_2.set ((ji28) : Int).toNat t223) (l1.length : Int) x7_2 a0 (wrap64 (x31_2 + 1))) else (none)) else (none)) = some r := by first | (rw [hji28] at H; exact H) | (simp only [hji28] at H ⊢; exact H)
        (try rw [hji28] at A27)
        refine ifk H ?_; clear H; intro c29 H
        have c29b0 := decide_eq_true c29
        clear c29
        refine ifk H ?_; clear H; intro c30 H
        have c30b0 := decide_eq_true c30
        clear c30
        obtain ⟨y224, hy224⟩ : ∃ y_ : List Int, y_ = (x5_2.set ((ji28) : Int).toNat t223) := ⟨_, rfl⟩
        replace H : (color_contour.l0 k2 a0 l1 y224 (l1.length : Int) x7_2 a0 (wrap64 (x31_2 + 1))) = some r := by (try rw [hy224]); first | with_reducible exact H | (have H2_ := (Option.bind_some _ _).symm.trans H; with_reducible exact H2_) | exact H
        have Ny224 := Aside0.mk hy224
        clear hy224
        have H' := Aside0.mk H
        clear H
        have p222 : 0 ≤ (0 : Int) := (by omega)
        have q222 : 0 < (l1.length : Int) := od
        obtain ⟨ad222, e222, hx222_0⟩ := Kd.at_int HR1.out 0 p222 q222
        cases e222
        have qi222 : (0 < l1.length) = True := eq_true (by omega)
        (try rw [show ((0 : Int)).toNat = 0 from rfl] at hx222_0)
        (try rw [Addr.add_zero'] at hx222_0)
        replace hx222_0 := hc HB hx222_0
        replace p222 := eq_true p222
        replace q222 := eq_true q222
        go_wp2_with (first | ((with_reducible refine gate_callee (f := 117) rfl ?_); refine goesL_ (some 47) rfl rfl Try.func117 (by kernel_rfl) rfl #[.int .i64 x31_2, .int .i64 a0] rfl am ?_; (with_reducible refine (color_third.calls x31_2 a0 t223 _ A27.out).mono ?_); rintro e w' ⟨rfl, ⟨nd, rfl⟩⟩; refine ⟨_, rfl, ?_⟩; (try (rw [drewN_self wr]; generalize hq_ : World.drewN wr _ = wr; replace HO_5 : Aside0 (Kd.R (Kd.int .i64) 3 wr w.heap.size (fun _ => True) v208 x5_2) := ⟨by rw [← hq_]; exact (kr HO_5.out)⟩; replace HB : Aside0 (Below w.heap.size w wr) := ⟨by rw [← hq_]; exact (bl0 HB.out)⟩; clear hq_)); have p31 : 0 ≤ ((ji28) : Int) := od; have q31 : ((ji28) : Int) < ((x5_2.length : Int) : Int) := od; obtain ⟨go31, co31, eo31, gb31, gl31, cl31, HG31⟩ := Kd.R_form HO_5.out (by omega); (first | cases eo31 | (injection eo31 with ea_ en_ ec_; (first | subst ea_ | (injection ea_ with ea_; subst ea_)); subst ec_; clear en_)); have GB31 := Aside0.mk gb31; have GG31 := Aside0.mk HG31; clear gb31 gl31 HG31; obtain ⟨hx31_0, hf31_0⟩ := Kd.R_celln 0 HO_5.out ((ji28) : Int) p31 q31; replace p31 := eq_true p31; replace q31 := eq_true q31; obtain ⟨hy32_, hz32_⟩ := Kd.R_celln 0 HO_5.out ((ji28) : Int) (od) (od); have HP32 := Kd.R_putg HO_5.out ((ji28) : Int) t223) | ((with_reducible refine gate_store (t := 3) (p := 48) rfl ?_); refine store_event (t := 3) (p := 48) (v := ?vo_w33) (w1 := (wr.setCell ⟨go31, ((ji28) : Int).toNat, none⟩ (.int .i64 t223))) ?hg ?ho ?hn ?hr ?_; (case ho => rfl); (case hg => rfl); (case hn => rfl); (case hr => first | (go_simp; done) | (go_simp; rfl)); intro w33 hw; have hg : wr.grownBy w33 (some go31) := (by rw [hw]; exact HP32.2); have hp_ : Kd.R (Kd.int .i64) 3 w33 w.heap.size (fun _ => True) (.slice (some ⟨go31, 0, none⟩) x5_2.length co31) y224 := (by rw [hw, Ny224.out]; exact HP32.1); clear HP32; replace HO_5 := Aside0.mk (hp_); replace HB := Aside0.mk ((by rw [hw]; exact below_set (HB.out) GB31.out : Below w.heap.size w w33)); clear hg hw hp_))
        go_roundg k2
        case measure => have := HJ4.out; have := HK2.out; omega
        case rel => exact ⟨(y224), (x7_2), (wrap64 (x31_2 + 1)), fr, fr, H', ⟨by have := HJ4.out; have := HK2.out; omega⟩, ⟨kr HO_5.out⟩, ⟨bl0 HB.out⟩⟩
       rw [if_neg c26] at H
       have c26b0 : ((l1.length : Int) == 1) = false := beq_eq_false_iff_ne.mpr c26
       have c26b1 : ((l1.length : Int) != 1) = true := bne_iff_ne.mpr c26
       by_cases c34 : (wrap64 (x7_2 + 1)) < (l1.length : Int)
       ·rw [if_pos c34] at H
        have c34b0 := decide_eq_true c34
        clear c34
        obtain ⟨ji35, hji35⟩ : ∃ j_ : Int, (wrap64 (x7_2 + 1)) = j_ := ⟨_, rfl⟩
        replace H : (if 0 ≤ (ji35) then (if (ji35) < (l1.length : Int) then (if (rd l1 (ji35)) = (Int.tmod (wrap64 ((rd l1 0) + x31_2)) a0) then ((color_behind.f k2 (ji35) (l1.length : Int)).bind fun t226 => (if 0 ≤ (Int.tmod (wrap64 ((rd l1 0) + x31_2)) a0) then (if (Int.tmod (wrap64 ((rd l1 0) + x31_2)) a0) < (x5_2.length : Int) then (color_contour.l0 k2 a0 l1 (x5_2.set ((Int.tmod (wrap64 ((rd l1 0) + x31_2)) a0) : Int).toNat t226) (l1.length : Int) ji35 a0 (wrap64 (x31_2 + 1))) else (none)) else (none))) else ((color_behind.f k2 x7_2 (l1.length : Int)).bind fun t228 => (if 0 ≤ (Int.tmod (wrap64 ((rd l1 0) + x31_2)) a0) then (if (Int.tmod (wrap64 ((rd l1 0) + x31_2)) a0) < (x5_2.length : Int) then (color_contour.l0 k2 a0 l1 (x5_2.set ((Int.tmod (wrap64 ((rd l1 0) + x31_2)) a0) : Int).toNat t228) (l1.length : Int) x7_2 a0 (wrap64 (x31_2 + 1))) else (none)) else (none)))) else (none)) else (none)) = some r := by first | (rw [hji35] at H; exact H) | (simp only [hji35] at H ⊢; exact H)
        (try rw [hji35] at c34b0)
        have hji35w : (IntKind.i64.wrap (x7_2 + 1)) = ji35 := (i64_w _).trans hji35
        refine ifk H ?_; clear H; intro c36 H
        have c36b0 := decide_eq_true c36
        clear c36
        refine ifk H ?_; clear H; intro c37 H
        have c37b0 := decide_eq_true c37
        clear c37
        by_cases c38 : (rd l1 (ji35)) = (Int.tmod (wrap64 ((rd l1 0) + x31_2)) a0)
        ·rw [if_pos c38] at H
         have c38b0 : ((rd l1 (ji35)) == (Int.tmod (wrap64 ((rd l1 0) + x31_2)) a0)) = true := beq_iff_eq.mpr c38
         have c38b1 : ((rd l1 (ji35)) != (Int.tmod (wrap64 ((rd l1 0) + x31_2)) a0)) = false := bne_eq_false_iff_eq.mpr c38
         clear c38
         replace H := Option.bind_eq_some_iff.mp H
         obtain ⟨t226, A390, H⟩ := H
         replace H : (if 0 ≤ (Int.tmod (wrap64 ((rd l1 0) + x31_2)) a0) then (if (Int.tmod (wrap64 ((rd l1 0) + x31_2)) a0) < (x5_2.length : Int) then (color_contour.l0 k2 a0 l1 (x5_2.set ((Int.tmod (wrap64 ((rd l1 0) + x31_2)) a0) : Int).toNat t226) (l1.length : Int) ji35 a0 (wrap64 (x31_2 + 1))) else (none)) else (none)) = some r := H
         have A39 := Aside0.mk A390
         clear A390
         obtain ⟨ji40, hji40⟩ : ∃ j_ : Int, (Int.tmod (wrap64 ((rd l1 0) + x31_2)) a0) = j_ := ⟨_, rfl⟩
         replace H : (if 0 ≤ (ji40) then (if (ji40) < (x5_2.length : Int) then (color_contour.l0 k2 a0 l1 (x5_2.set ((ji40) : Int).toNat t226) (l1.length : Int) ji35 a0 (wrap64 (x31_2 + 1))) else (none)) else (none)) = some r := by first | (rw [hji40] at H; exact H) | (simp only [hji40] at H ⊢; exact H)
         (try rw [hji40] at c38b0)
         (try rw [hji40] at c38b1)
         (try rw [hji40] at A39)
         refine ifk H ?_; clear H; intro c41 H
         have c41b0 := decide_eq_true c41
         clear c41
         refine ifk H ?_; clear H; intro c42 H
         have c42b0 := decide_eq_true c42
         clear c42
         obtain ⟨y227, hy227⟩ : ∃ y_ : List Int, y_ = (x5_2.set ((ji40) : Int).toNat t226) := ⟨_, rfl⟩
         replace H : (color_contour.l0 k2 a0 l1 y227 (l1.length : Int) ji35 a0 (wrap64 (x31_2 + 1))) = some r := by (try rw [hy227]); first | with_reducible exact H | (have H2_ := (Option.bind_some _ _).symm.trans H; with_reducible exact H2_) | exact H
         have Ny227 := Aside0.mk hy227
         clear hy227
         have H' := Aside0.mk H
         clear H
         have p222 : 0 ≤ (0 : Int) := (by omega)
         have q222 : 0 < (l1.length : Int) := od
         obtain ⟨ad222, e222, hx222_0⟩ := Kd.at_int HR1.out 0 p222 q222
         cases e222
         have qi222 : (0 < l1.length) = True := eq_true (by omega)
         (try rw [show ((0 : Int)).toNat = 0 from rfl] at hx222_0)
         (try rw [Addr.add_zero'] at hx222_0)
         replace hx222_0 := hc HB hx222_0
         replace p222 := eq_true p222
         replace q222 := eq_true q222
         have p225 : 0 ≤ ((ji35) : Int) := od
         have q225 : (ji35) < (l1.length : Int) := od
         obtain ⟨ad225, e225, hx225_0⟩ := Kd.at_int HR1.out (ji35) p225 q225
         obtain rfl : ad222 = ad225 := (by injection e225)
         replace hx225_0 := hc HB hx225_0
         replace p225 := eq_true p225
         replace q225 := eq_true q225
         go_wp2_with (first | ((with_reducible refine gate_callee (f := 118) rfl ?_); refine goesL_ (some 68) rfl rfl Try.func118 (by kernel_rfl) rfl #[.int .i64 ji35, .int .i64 (l1.length : Int)] rfl (by (try simp only [List.map_toArray, List.map_cons, List.map_nil]); first | done | (simp only [hji35]; rfl) | rfl | (simp only [List.length_drop, List.length_take]; rfl)) ?_; (with_reducible refine (color_behind.calls k2 ji35 (l1.length : Int) t226 _ A39.out).mono ?_); rintro e w' ⟨rfl, ⟨nd, rfl⟩⟩; refine ⟨_, rfl, ?_⟩; (try (rw [drewN_self wr]; generalize hq_ : World.drewN wr _ = wr; replace HO_5 : Aside0 (Kd.R (Kd.int .i64) 3 wr w.heap.size (fun _ => True) v208 x5_2) := ⟨by rw [← hq_]; exact (kr HO_5.out)⟩; replace HB : Aside0 (Below w.heap.size w wr) := ⟨by rw [← hq_]; exact (bl0 HB.out)⟩; clear hq_)); have p43 : 0 ≤ ((ji40) : Int) := od; have q43 : ((ji40) : Int) < ((x5_2.length : Int) : Int) := od; obtain ⟨go43, co43, eo43, gb43, gl43, cl43, HG43⟩ := Kd.R_form HO_5.out (by omega); (first | cases eo43 | (injection eo43 with ea_ en_ ec_; (first | subst ea_ | (injection ea_ with ea_; subst ea_)); subst ec_; clear en_)); have GB43 := Aside0.mk gb43; have GG43 := Aside0.mk HG43; clear gb43 gl43 HG43; obtain ⟨hx43_0, hf43_0⟩ := Kd.R_celln 0 HO_5.out ((ji40) : Int) p43 q43; replace p43 := eq_true p43; replace q43 := eq_true q43; obtain ⟨hy44_, hz44_⟩ := Kd.R_celln 0 HO_5.out ((ji40) : Int) (od) (od); have HP44 := Kd.R_putg HO_5.out ((ji40) : Int) t226) | ((with_reducible refine gate_store (t := 3) (p := 69) rfl ?_); refine store_event (t := 3) (p := 69) (v := ?vo_w45) (w1 := (wr.setCell ⟨go43, ((ji40) : Int).toNat, none⟩ (.int .i64 t226))) ?hg ?ho ?hn ?hr ?_; (case ho => rfl); (case hg => rfl); (case hn => rfl); (case hr => first | (go_simp; done) | (go_simp; rfl)); intro w45 hw; have hg : wr.grownBy w45 (some go43) := (by rw [hw]; exact HP44.2); have hp_ : Kd.R (Kd.int .i64) 3 w45 w.heap.size (fun _ => True) (.slice (some ⟨go43, 0, none⟩) x5_2.length co43) y227 := (by rw [hw, Ny227.out]; exact HP44.1); clear HP44; replace HO_5 := Aside0.mk (hp_); replace HB := Aside0.mk ((by rw [hw]; exact below_set (HB.out) GB43.out : Below w.heap.size w w45)); clear hg hw hp_))
         go_roundg k2
         case measure => have := HJ4.out; have := HK2.out; omega
         case rel => exact ⟨(y227), (ji35), (wrap64 (x31_2 + 1)), (by first | rfl | (simp; done) | (simp only [← hji35] <;> (first | rfl | simp)) | (simp [*]; done)), fr, H', ⟨by have := HJ4.out; have := HK2.out; omega⟩, ⟨kr HO_5.out⟩, ⟨bl0 HB.out⟩⟩
        rw [if_neg c38] at H
        have c38b0 : ((rd l1 (ji35)) == (Int.tmod (wrap64 ((rd l1 0) + x31_2)) a0)) = false := beq_eq_false_iff_ne.mpr c38
        have c38b1 : ((rd l1 (ji35)) != (Int.tmod (wrap64 ((rd l1 0) + x31_2)) a0)) = true := bne_iff_ne.mpr c38
        replace H := Option.bind_eq_some_iff.mp H
        obtain ⟨t228, A460, H⟩ := H
        replace H : (if 0 ≤ (Int.tmod (wrap64 ((rd l1 0) + x31_2)) a0) then (if (Int.tmod (wrap64 ((rd l1 0) + x31_2)) a0) < (x5_2.length : Int) then (color_contour.l0 k2 a0 l1 (x5_2.set ((Int.tmod (wrap64 ((rd l1 0) + x31_2)) a0) : Int).toNat t228) (l1.length : Int) x7_2 a0 (wrap64 (x31_2 + 1))) else (none)) else (none)) = some r := H
        have A46 := Aside0.mk A460
        clear A460
        obtain ⟨ji47, hji47⟩ : ∃ j_ : Int, (Int.tmod (wrap64 ((rd l1 0) + x31_2)) a0) = j_ := ⟨_, rfl⟩
        replace H : (if 0 ≤ (ji47) then (if (ji47) < (x5_2.length : Int) then (color_contour.l0 k2 a0 l1 (x5_2.set ((ji47) : Int).toNat t228) (l1.length : Int) x7_2 a0 (wrap64 (x31_2 + 1))) else (none)) else (none)) = some r := by first | (rw [hji47] at H; exact H) | (simp only [hji47] at H ⊢; exact H)
        (try rw [hji47] at c38b0)
        (try rw [hji47] at c38b1)
        (try rw [hji47] at A46)
        refine ifk H ?_; clear H; intro c48 H
        have c48b0 := decide_eq_true c48
        clear c48
        refine ifk H ?_; clear H; intro c49 H
        have c49b0 := decide_eq_true c49
        clear c49
        obtain ⟨y229, hy229⟩ : ∃ y_ : List Int, y_ = (x5_2.set ((ji47) : Int).toNat t228) := ⟨_, rfl⟩
        replace H : (color_contour.l0 k2 a0 l1 y229 (l1.length : Int) x7_2 a0 (wrap64 (x31_2 + 1))) = some r := by (try rw [hy229]); first | with_reducible exact H | (have H2_ := (Option.bind_some _ _).symm.trans H; with_reducible exact H2_) | exact H
        have Ny229 := Aside0.mk hy229
        clear hy229
        have H' := Aside0.mk H
        clear H
        have p222 : 0 ≤ (0 : Int) := (by omega)
        have q222 : 0 < (l1.length : Int) := od
        obtain ⟨ad222, e222, hx222_0⟩ := Kd.at_int HR1.out 0 p222 q222
        cases e222
        have qi222 : (0 < l1.length) = True := eq_true (by omega)
        (try rw [show ((0 : Int)).toNat = 0 from rfl] at hx222_0)
        (try rw [Addr.add_zero'] at hx222_0)
        replace hx222_0 := hc HB hx222_0
        replace p222 := eq_true p222
        replace q222 := eq_true q222
        have p225 : 0 ≤ ((ji35) : Int) := od
        have q225 : (ji35) < (l1.length : Int) := od
        obtain ⟨ad225, e225, hx225_0⟩ := Kd.at_int HR1.out (ji35) p225 q225
        obtain rfl : ad222 = ad225 := (by injection e225)
        replace hx225_0 := hc HB hx225_0
        replace p225 := eq_true p225
        replace q225 := eq_true q225
        go_wp2_with (first | ((with_reducible refine gate_callee (f := 118) rfl ?_); refine goesL_ (some 68) rfl rfl Try.func118 (by kernel_rfl) rfl #[.int .i64 x7_2, .int .i64 (l1.length : Int)] rfl am ?_; (with_reducible refine (color_behind.calls k2 x7_2 (l1.length : Int) t228 _ A46.out).mono ?_); rintro e w' ⟨rfl, ⟨nd, rfl⟩⟩; refine ⟨_, rfl, ?_⟩; (try (rw [drewN_self wr]; generalize hq_ : World.drewN wr _ = wr; replace HO_5 : Aside0 (Kd.R (Kd.int .i64) 3 wr w.heap.size (fun _ => True) v208 x5_2) := ⟨by rw [← hq_]; exact (kr HO_5.out)⟩; replace HB : Aside0 (Below w.heap.size w wr) := ⟨by rw [← hq_]; exact (bl0 HB.out)⟩; clear hq_)); have p50 : 0 ≤ ((ji47) : Int) := od; have q50 : ((ji47) : Int) < ((x5_2.length : Int) : Int) := od; obtain ⟨go50, co50, eo50, gb50, gl50, cl50, HG50⟩ := Kd.R_form HO_5.out (by omega); (first | cases eo50 | (injection eo50 with ea_ en_ ec_; (first | subst ea_ | (injection ea_ with ea_; subst ea_)); subst ec_; clear en_)); have GB50 := Aside0.mk gb50; have GG50 := Aside0.mk HG50; clear gb50 gl50 HG50; obtain ⟨hx50_0, hf50_0⟩ := Kd.R_celln 0 HO_5.out ((ji47) : Int) p50 q50; replace p50 := eq_true p50; replace q50 := eq_true q50; obtain ⟨hy51_, hz51_⟩ := Kd.R_celln 0 HO_5.out ((ji47) : Int) (od) (od); have HP51 := Kd.R_putg HO_5.out ((ji47) : Int) t228) | ((with_reducible refine gate_store (t := 3) (p := 69) rfl ?_); refine store_event (t := 3) (p := 69) (v := ?vo_w52) (w1 := (wr.setCell ⟨go50, ((ji47) : Int).toNat, none⟩ (.int .i64 t228))) ?hg ?ho ?hn ?hr ?_; (case ho => rfl); (case hg => rfl); (case hn => rfl); (case hr => first | (go_simp; done) | (go_simp; rfl)); intro w52 hw; have hg : wr.grownBy w52 (some go50) := (by rw [hw]; exact HP51.2); have hp_ : Kd.R (Kd.int .i64) 3 w52 w.heap.size (fun _ => True) (.slice (some ⟨go50, 0, none⟩) x5_2.length co50) y229 := (by rw [hw, Ny229.out]; exact HP51.1); clear HP51; replace HO_5 := Aside0.mk (hp_); replace HB := Aside0.mk ((by rw [hw]; exact below_set (HB.out) GB50.out : Below w.heap.size w w52)); clear hg hw hp_))
        go_roundg k2
        case measure => have := HJ4.out; have := HK2.out; omega
        case rel => exact ⟨(y229), (x7_2), (wrap64 (x31_2 + 1)), fr, fr, H', ⟨by have := HJ4.out; have := HK2.out; omega⟩, ⟨kr HO_5.out⟩, ⟨bl0 HB.out⟩⟩
       rw [if_neg c34] at H
       have c34b0 := decide_eq_false c34
       clear c34
       replace H := Option.bind_eq_some_iff.mp H
       obtain ⟨t230, A530, H⟩ := H
       replace H : (if 0 ≤ (Int.tmod (wrap64 ((rd l1 0) + x31_2)) a0) then (if (Int.tmod (wrap64 ((rd l1 0) + x31_2)) a0) < (x5_2.length : Int) then (color_contour.l0 k2 a0 l1 (x5_2.set ((Int.tmod (wrap64 ((rd l1 0) + x31_2)) a0) : Int).toNat t230) (l1.length : Int) x7_2 a0 (wrap64 (x31_2 + 1))) else (none)) else (none)) = some r := H
       have A53 := Aside0.mk A530
       clear A530
       obtain ⟨ji54, hji54⟩ : ∃ j_ : Int, (Int.tmod (wrap64 ((rd l1 0) + x31_2)) a0) = j_ := ⟨_, rfl⟩
       replace H : (if 0 ≤ (ji54) then (if (ji54) < (x5_2.length : Int) then (color_contour.l0 k2 a0 l1 (x5_2.set ((ji54) : Int).toNat t230) (l1.length : Int) x7_2 a0 (wrap64 (x31_2 + 1))) else (none)) else (none)) = some r := by first | (rw [hji54] at H; exact H) | (simp only [hji54] at H ⊢; exact H)
       (try rw [hji54] at A53)
       refine ifk H ?_; clear H; intro c55 H
       have c55b0 := decide_eq_true c55
       clear c55
       refine ifk H ?_; clear H; intro c56 H
       have c56b0 := decide_eq_true c56
       clear c56
       obtain ⟨y231, hy231⟩ : ∃ y_ : List Int, y_ = (x5_2.set ((ji54) : Int).toNat t230) := ⟨_, rfl⟩
       replace H : (color_contour.l0 k2 a0 l1 y231 (l1.length : Int) x7_2 a0 (wrap64 (x31_2 + 1))) = some r := by (try rw [hy231]); first | with_reducible exact H | (have H2_ := (Option.bind_some _ _).symm.trans H; with_reducible exact H2_) | exact H
       have Ny231 := Aside0.mk hy231
       clear hy231
       have H' := Aside0.mk H
       clear H
       have p222 : 0 ≤ (0 : Int) := (by omega)
       have q222 : 0 < (l1.length : Int) := od
       obtain ⟨ad222, e222, hx222_0⟩ := Kd.at_int HR1.out 0 p222 q222
       cases e222
       have qi222 : (0 < l1.length) = True := eq_true (by omega)
       (try rw [show ((0 : Int)).toNat = 0 from rfl] at hx222_0)
       (try rw [Addr.add_zero'] at hx222_0)
       replace hx222_0 := hc HB hx222_0
       replace p222 := eq_true p222
       replace q222 := eq_true q222
       go_wp2_with (first | ((with_reducible refine gate_callee (f := 118) rfl ?_); refine goesL_ (some 68) rfl rfl Try.func118 (by kernel_rfl) rfl #[.int .i64 x7_2, .int .i64 (l1.length : Int)] rfl am ?_; (with_reducible refine (color_behind.calls k2 x7_2 (l1.length : Int) t230 _ A53.out).mono ?_); rintro e w' ⟨rfl, ⟨nd, rfl⟩⟩; refine ⟨_, rfl, ?_⟩; (try (rw [drewN_self wr]; generalize hq_ : World.drewN wr _ = wr; replace HO_5 : Aside0 (Kd.R (Kd.int .i64) 3 wr w.heap.size (fun _ => True) v208 x5_2) := ⟨by rw [← hq_]; exact (kr HO_5.out)⟩; replace HB : Aside0 (Below w.heap.size w wr) := ⟨by rw [← hq_]; exact (bl0 HB.out)⟩; clear hq_)); have p57 : 0 ≤ ((ji54) : Int) := od; have q57 : ((ji54) : Int) < ((x5_2.length : Int) : Int) := od; obtain ⟨go57, co57, eo57, gb57, gl57, cl57, HG57⟩ := Kd.R_form HO_5.out (by omega); (first | cases eo57 | (injection eo57 with ea_ en_ ec_; (first | subst ea_ | (injection ea_ with ea_; subst ea_)); subst ec_; clear en_)); have GB57 := Aside0.mk gb57; have GG57 := Aside0.mk HG57; clear gb57 gl57 HG57; obtain ⟨hx57_0, hf57_0⟩ := Kd.R_celln 0 HO_5.out ((ji54) : Int) p57 q57; replace p57 := eq_true p57; replace q57 := eq_true q57; obtain ⟨hy58_, hz58_⟩ := Kd.R_celln 0 HO_5.out ((ji54) : Int) (od) (od); have HP58 := Kd.R_putg HO_5.out ((ji54) : Int) t230) | ((with_reducible refine gate_store (t := 3) (p := 69) rfl ?_); refine store_event (t := 3) (p := 69) (v := ?vo_w59) (w1 := (wr.setCell ⟨go57, ((ji54) : Int).toNat, none⟩ (.int .i64 t230))) ?hg ?ho ?hn ?hr ?_; (case ho => rfl); (case hg => rfl); (case hn => rfl); (case hr => first | (go_simp; done) | (go_simp; rfl)); intro w59 hw; have hg : wr.grownBy w59 (some go57) := (by rw [hw]; exact HP58.2); have hp_ : Kd.R (Kd.int .i64) 3 w59 w.heap.size (fun _ => True) (.slice (some ⟨go57, 0, none⟩) x5_2.length co57) y231 := (by rw [hw, Ny231.out]; exact HP58.1); clear HP58; replace HO_5 := Aside0.mk (hp_); replace HB := Aside0.mk ((by rw [hw]; exact below_set (HB.out) GB57.out : Below w.heap.size w w59)); clear hg hw hp_))
       go_roundg k2
       case measure => have := HJ4.out; have := HK2.out; omega
       case rel => exact ⟨(y231), (x7_2), (wrap64 (x31_2 + 1)), fr, fr, H', ⟨by have := HJ4.out; have := HK2.out; omega⟩, ⟨kr HO_5.out⟩, ⟨bl0 HB.out⟩⟩
      rw [if_neg c23] at H
      have c23b0 := decide_eq_false c23
      clear c23
      obtain rfl := Option.some.inj H
      go_wp2
      go_ret
      exact ⟨_, by first | rfl | (simp [errW_none, errW_some] <;> rfl) | (simp [*, errW_none, errW_some] <;> rfl), kr HO_5.out, bl0 HB.out⟩
 rw [if_neg c3] at H
 exact absurd H (by simp)

end Go.Proofs.Ytalgppclaolonaa.XColr
