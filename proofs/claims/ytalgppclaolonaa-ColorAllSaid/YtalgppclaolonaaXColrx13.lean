-- Printed by a program of this claim. Not trusted: Lean checks it.
import Derived.Test.YtalgppclaolonaaXColrx0
import Derived.Test.YtalgppclaolonaaXColrx12
namespace Go.Proofs.Ytalgppclaolonaa.XColr
open Go.RowKit Go.Proofs.YtalgppclaolonaaW.PrintWords Go.Proofs.YtalgppclaolonaaW.PrintLast Go.Proofs.YtalgppclaolonaaW.PrintMore
attribute [local go_sem] max2_int min2_int max_two min_two max_three min_three max_four min_four   -- for this text's walks alone
set_option linter.unusedVariables false
set_option linter.unusedSimpArgs false
open XOpen

/-! ### pochoirref23_contour: function 85 -/
mutual
def pochoirref23_contour.l0 : Nat → Int → List Int → List Int → Int → Int → Option (List Int)
 | 0, _, _, _, _, _ => none
 | k + 1, x0, x1, x5, x6, x7 => if x7 < x0 then (if 0 ≤ x7 then (if x7 < (x5.length : Int) then (pochoirref23_contour.l0 k x0 x1 (x5.set (x7 : Int).toNat 7) x6 (wrap64 (x7 + 1))) else (none)) else (none)) else (if x6 = 0 then (pochoirref23_contour.j1 k x0 x1 x5 x6 true) else (if x6 = 1 then (pochoirref23_contour.j1 k x0 x1 x5 x6 (decide (x0 < 3))) else (pochoirref23_contour.j1 k x0 x1 x5 x6 false)))
def pochoirref23_contour.j1 : Nat → Int → List Int → List Int → Int → Bool → Option (List Int)
 | 0, _, _, _, _, _ => none
 | k + 1, x0, x1, x5, x6, x33 => if x33 = true then (some x5) else (if x6 = 1 then (pochoirref23_contour.l1 k x0 x1 x5 0) else (pochoirref23_contour.l2 k x0 x1 x5 x6 0))
def pochoirref23_contour.l1 : Nat → Int → List Int → List Int → Int → Option (List Int)
 | 0, _, _, _, _ => none
 | k + 1, x0, x1, x5, x8 => if x8 < x0 then (if 0 < (x1.length : Int) then (if x0 = 0 then (none) else ((some (([5, 7, 6] : List Int) : List Int)).bind fun y297 => (if 0 ≤ (wrap64 (Int.tdiv (wrap64 (3 * x8)) x0)) then (if (wrap64 (Int.tdiv (wrap64 (3 * x8)) x0)) < (y297.length : Int) then (if 0 ≤ (Int.tmod (wrap64 ((rd x1 0) + x8)) x0) then (if (Int.tmod (wrap64 ((rd x1 0) + x8)) x0) < (x5.length : Int) then (pochoirref23_contour.l1 k x0 x1 (x5.set ((Int.tmod (wrap64 ((rd x1 0) + x8)) x0) : Int).toNat (rd y297 (wrap64 (Int.tdiv (wrap64 (3 * x8)) x0)))) (wrap64 (x8 + 1))) else (none)) else (none)) else (none)) else (none)))) else (none)) else (some x5)
def pochoirref23_contour.l2 : Nat → Int → List Int → List Int → Int → Int → Option (List Int)
 | 0, _, _, _, _, _ => none
 | k + 1, x0, x1, x5, x6, x9 => if x9 < x6 then (if x6 = 0 then (none) else (if 0 ≤ (Int.tmod (wrap64 (x9 + 1)) x6) then (if (Int.tmod (wrap64 (x9 + 1)) x6) < (x1.length : Int) then (if 0 ≤ x9 then (if x9 < (x1.length : Int) then (pochoirref23_contour.l3 k x0 x1 x5 x6 x9 (rd x1 (Int.tmod (wrap64 (x9 + 1)) x6)) (rd x1 x9)) else (none)) else (none)) else (none)) else (none))) else (some x5)
def pochoirref23_contour.l3 : Nat → Int → List Int → List Int → Int → Int → Int → Int → Option (List Int)
 | 0, _, _, _, _, _, _, _ => none
 | k + 1, x0, x1, x5, x6, x9, x10, x11 => (pochoirref23_of.f x9 x6).bind fun t304 => (if 0 ≤ x11 then (if x11 < (x5.length : Int) then ((some (x5.set (x11 : Int).toNat t304 : List Int)).bind fun y305 => (if x0 = 0 then (none) else (if (Int.tmod (wrap64 (x11 + 1)) x0) = x10 then (pochoirref23_contour.l2 k x0 x1 y305 x6 (wrap64 (x9 + 1))) else (pochoirref23_contour.l3 k x0 x1 y305 x6 x9 x10 (Int.tmod (wrap64 (x11 + 1)) x0))))) else (none)) else (none))
end
def pochoirref23_contour.f (k : Nat) (a0 : Int) (l1 : List Int) : Option (List Int) := if 0 ≤ a0 then (if (a0 : Int).toNat ≤ 35184372088832 then (pochoirref23_contour.l0 k a0 l1 (List.replicate (a0 : Int).toNat 0) (l1.length : Int) 0) else (none)) else (none)
theorem pochoirref23_contour.mono_l : ∀ k, (∀ y0 y1 y2 y3 y4, LeO (pochoirref23_contour.l0 k y0 y1 y2 y3 y4) (pochoirref23_contour.l0 (k + 1) y0 y1 y2 y3 y4)) ∧ (∀ y0 y1 y2 y3 y4, LeO (pochoirref23_contour.j1 k y0 y1 y2 y3 y4) (pochoirref23_contour.j1 (k + 1) y0 y1 y2 y3 y4)) ∧ (∀ y0 y1 y2 y3, LeO (pochoirref23_contour.l1 k y0 y1 y2 y3) (pochoirref23_contour.l1 (k + 1) y0 y1 y2 y3)) ∧ (∀ y0 y1 y2 y3 y4, LeO (pochoirref23_contour.l2 k y0 y1 y2 y3 y4) (pochoirref23_contour.l2 (k + 1) y0 y1 y2 y3 y4)) ∧ (∀ y0 y1 y2 y3 y4 y5 y6, LeO (pochoirref23_contour.l3 k y0 y1 y2 y3 y4 y5 y6) (pochoirref23_contour.l3 (k + 1) y0 y1 y2 y3 y4 y5 y6))
 | 0 => ⟨fun _ _ _ _ _ r h => by simp [pochoirref23_contour.l0] at h, fun _ _ _ _ _ r h => by simp [pochoirref23_contour.j1] at h, fun _ _ _ _ r h => by simp [pochoirref23_contour.l1] at h, fun _ _ _ _ _ r h => by simp [pochoirref23_contour.l2] at h, fun _ _ _ _ _ _ _ r h => by simp [pochoirref23_contour.l3] at h⟩
 | k + 1 => by
  obtain ⟨ih0, ih1, ih2, ih3, ih4⟩ := pochoirref23_contour.mono_l k
  refine ⟨?_, ?_, ?_, ?_, ?_⟩
  ·intro y0 y1 y2 y3 y4
   unfold pochoirref23_contour.l0
   repeat' first | (with_reducible first | exact ih0 _ _ _ _ _ | exact ih1 _ _ _ _ _ | exact ih2 _ _ _ _ | exact ih3 _ _ _ _ _ | exact ih4 _ _ _ _ _ _ _ | exact LeO.refl _ | exact LeO.none _ | refine LeO.ite ?_ ?_ | refine LeO.bind ?_ (fun _ => ?_)) | exact ih0 _ _ _ _ _ | exact ih1 _ _ _ _ _ | exact ih2 _ _ _ _ | exact ih3 _ _ _ _ _ | exact ih4 _ _ _ _ _ _ _ | exact LeO.none _ | refine LeO.ite ?_ ?_ | refine LeO.bind ?_ (fun _ => ?_)
  ·intro y0 y1 y2 y3 y4
   unfold pochoirref23_contour.j1
   repeat' first | (with_reducible first | exact ih0 _ _ _ _ _ | exact ih1 _ _ _ _ _ | exact ih2 _ _ _ _ | exact ih3 _ _ _ _ _ | exact ih4 _ _ _ _ _ _ _ | exact LeO.refl _ | exact LeO.none _ | refine LeO.ite ?_ ?_ | refine LeO.bind ?_ (fun _ => ?_)) | exact ih0 _ _ _ _ _ | exact ih1 _ _ _ _ _ | exact ih2 _ _ _ _ | exact ih3 _ _ _ _ _ | exact ih4 _ _ _ _ _ _ _ | exact LeO.none _ | refine LeO.ite ?_ ?_ | refine LeO.bind ?_ (fun _ => ?_)
  ·intro y0 y1 y2 y3
   unfold pochoirref23_contour.l1
   repeat' first | (with_reducible first | exact ih0 _ _ _ _ _ | exact ih1 _ _ _ _ _ | exact ih2 _ _ _ _ | exact ih3 _ _ _ _ _ | exact ih4 _ _ _ _ _ _ _ | exact LeO.refl _ | exact LeO.none _ | refine LeO.ite ?_ ?_ | refine LeO.bind ?_ (fun _ => ?_)) | exact ih0 _ _ _ _ _ | exact ih1 _ _ _ _ _ | exact ih2 _ _ _ _ | exact ih3 _ _ _ _ _ | exact ih4 _ _ _ _ _ _ _ | exact LeO.none _ | refine LeO.ite ?_ ?_ | refine LeO.bind ?_ (fun _ => ?_)
  ·intro y0 y1 y2 y3 y4
   unfold pochoirref23_contour.l2
   repeat' first | (with_reducible first | exact ih0 _ _ _ _ _ | exact ih1 _ _ _ _ _ | exact ih2 _ _ _ _ | exact ih3 _ _ _ _ _ | exact ih4 _ _ _ _ _ _ _ | exact LeO.refl _ | exact LeO.none _ | refine LeO.ite ?_ ?_ | refine LeO.bind ?_ (fun _ => ?_)) | exact ih0 _ _ _ _ _ | exact ih1 _ _ _ _ _ | exact ih2 _ _ _ _ | exact ih3 _ _ _ _ _ | exact ih4 _ _ _ _ _ _ _ | exact LeO.none _ | refine LeO.ite ?_ ?_ | refine LeO.bind ?_ (fun _ => ?_)
  ·intro y0 y1 y2 y3 y4 y5 y6
   unfold pochoirref23_contour.l3
   repeat' first | (with_reducible first | exact ih0 _ _ _ _ _ | exact ih1 _ _ _ _ _ | exact ih2 _ _ _ _ | exact ih3 _ _ _ _ _ | exact ih4 _ _ _ _ _ _ _ | exact LeO.refl _ | exact LeO.none _ | refine LeO.ite ?_ ?_ | refine LeO.bind ?_ (fun _ => ?_)) | exact ih0 _ _ _ _ _ | exact ih1 _ _ _ _ _ | exact ih2 _ _ _ _ | exact ih3 _ _ _ _ _ | exact ih4 _ _ _ _ _ _ _ | exact LeO.none _ | refine LeO.ite ?_ ?_ | refine LeO.bind ?_ (fun _ => ?_)
theorem pochoirref23_contour.mono : ∀ a0 a1 k, LeO (pochoirref23_contour.f k a0 a1) (pochoirref23_contour.f (k + 1) a0 a1) := by
 intro a0 a1 k
 obtain ⟨ih0, ih1, ih2, ih3, ih4⟩ := pochoirref23_contour.mono_l k
 unfold pochoirref23_contour.f
 repeat' first | (with_reducible first | exact ih0 _ _ _ _ _ | exact ih1 _ _ _ _ _ | exact ih2 _ _ _ _ | exact ih3 _ _ _ _ _ | exact ih4 _ _ _ _ _ _ _ | exact LeO.refl _ | exact LeO.none _ | refine LeO.ite ?_ ?_ | refine LeO.bind ?_ (fun _ => ?_)) | exact ih0 _ _ _ _ _ | exact ih1 _ _ _ _ _ | exact ih2 _ _ _ _ | exact ih3 _ _ _ _ _ | exact ih4 _ _ _ _ _ _ _ | exact LeO.none _ | refine LeO.ite ?_ ?_ | refine LeO.bind ?_ (fun _ => ?_)
def pochoirref23_contour.T13 : Bool × List (List Nat × List Nat) := (true, [([], []), ([], []), ([1], [1]), ([2], [2]), ([], []), ([3, 4], [3, 4]), ([], []), ([5, 6], [5, 6]), ([], []), ([], []), ([9], [9]), ([], []), ([10, 11], [10, 11]), ([8, 12], [8, 12]), ([13], [13]), ([0, 7, 0, 1, 2, 3, 4, 5, 6, 7, 8, 9, 10, 11, 12, 13, 14], [0, 7]), ([15, 14, 0, 1, 2, 3, 4, 5, 6, 7, 8, 9, 10, 11, 12, 13, 14], [14, 15])])
def pochoirref23_contour.B13 : List Nat := [0, 0, 2, 6, 0, 30, 0, 126, 0, 0, 512, 0, 3584, 7936, 16128, 32767, 65535]
theorem pochoirref23_contour.tab13 : rtab .any (opsOf Try.f85 13) = pochoirref23_contour.T13 := by kernel_rfl
theorem pochoirref23_contour.bits13 : waitsOk pochoirref23_contour.T13.2 pochoirref23_contour.B13 = true := by kernel_rfl
set_option maxHeartbeats 8000000 in
set_option maxRecDepth 100000 in
theorem pochoirref23_contour.calls (k : Nat) (a0 : Int) (A1 : Option Addr) (c1 : Nat) (l1 : List Int) (r : List Int) (w : World) (hr1 : Kd.C (Kd.int .i64) w A1 l1.length l1) (hc1 : l1.length ≤ c1) (h : pochoirref23_contour.f k a0 l1 = some r) :
  Calls Try.prog 85 #[.int .i64 a0, .slice A1 l1.length c1] w fun e w' => ∃ v0_ : Value, e = .returned (v0_) ∧ Kd.R (Kd.int .i64) 3 w' w.heap.size (fun _ => True) v0_ r ∧ Below w.heap.size w w' := by
 have HR1 := Aside0.mk hr1
 have HC1 := Aside0.mk hc1
 clear hr1 hc1
 have HB := Aside0.mk (Below.refl w.heap.size w)
 have H := h
 clear h; unfold pochoirref23_contour.f at H
 by_cases c3 : 0 ≤ a0
 ·rw [if_pos c3] at H
  have c3b0 := eq_true c3
  have c3b1 : decide (0 ≤ a0) = true := decide_eq_true c3
  clear c3
  refine ifk H ?_; clear H; intro c4 H
  have c4b0 := eq_true c4
  have c4b1 : decide ((a0 : Int).toNat ≤ 35184372088832) = true := decide_eq_true c4
  clear c4
  obtain ⟨y292, hy292⟩ : ∃ y_ : List Int, y_ = (List.replicate (a0 : Int).toNat 0) := ⟨_, rfl⟩
  replace H : (pochoirref23_contour.l0 k a0 l1 y292 (l1.length : Int) 0) = some r := by first | (rw [hy292]; with_reducible exact H) | (have H2_ := (Option.bind_some _ _).symm.trans H; rw [hy292]; with_reducible exact H2_) | (have H2_ := (Option.bind_some _ _).symm.trans H; with_reducible exact H2_) | with_reducible exact H | (rw [hy292]; exact H) | exact H
  have Ny292 := Aside0.mk hy292
  clear hy292
  have H' := Aside0.mk H
  clear H
  go_enter Try.func85, Try.ntmps85
  go_wp2_with (first | ((with_reducible refine gate_dst (N := 13) rfl ?_); refine Kd.R_make (Kd.int .i64) _ 3 rfl (N := 13) rfl 24 _ _ rfl a0 rfl rfl Try.underlying24 (.int .i64 0) 8 info3 rfl (by decide) (by omega) 0 (ok := fun _ => True) (okp := fun _ => True) rfl (fun _ hk => hk) trivial (od) (Nat.le_trans (Nat.mul_le_mul_right _ (od : a0.toNat ≤ 35184372088832)) (by omega)) (Below.refl _ _) (Nat.le_refl _) ?_; intro v293 w5 ho6 hb hg_ hnew_; clear hg_ hnew_; (first | rw [← Ny292.out] at ho6 | (simp only [Int.reduceToNat] at ho6; rw [← Ny292.out] at ho6)); have HO294 := Aside0.mk (Kd.R_lower ho6 (below_size (bl0 HB.out))); replace HB := Aside0.mk (below_step (bl0 HB.out) hb); clear hb ho6))
  go_loopg [7] k (fun kq v7 w' => ∃ (x5_1 : List Int) (x7_1 : Int), v7 = .int .i64 x7_1 ∧ Aside0 (pochoirref23_contour.l0 kq a0 l1 x5_1 (l1.length : Int) x7_1 = some r) ∧ Aside0 (kq ≤ k) ∧ Aside0 (Kd.R (Kd.int .i64) 3 w' w.heap.size (fun _ => True) v293 x5_1) ∧ Aside0 (Below w.heap.size w w'))
  case atStart => exact ⟨(y292), (0), fr, H', ⟨Nat.le_refl _⟩, ⟨kr HO294.out⟩, ⟨bl0 HB.out⟩⟩
  case round =>
   clear H'
   try clear c1
   try clear p2
   try clear c3b0
   try clear c3b1
   try clear c4b0
   try clear c4b1
   obtain ⟨x5_1, x7_1, rfl, HA, HK1, HO_5, HB⟩ := hrel
   cases gk with
   | zero => exact absurd HA.out (by simp [pochoirref23_contour.l0])
   | succ k1 =>
    have H := HA.out
    clear HA
    simp only [pochoirref23_contour.l0] at H
    by_cases c7 : x7_1 < a0
    ·rw [if_pos c7] at H
     have c7b0 := decide_eq_true c7
     clear c7
     refine ifk H ?_; clear H; intro c8 H
     have c8b0 := decide_eq_true c8
     clear c8
     refine ifk H ?_; clear H; intro c9 H
     have c9b0 := decide_eq_true c9
     clear c9
     obtain ⟨y295, hy295⟩ : ∃ y_ : List Int, y_ = (x5_1.set (x7_1 : Int).toNat 7) := ⟨_, rfl⟩
     replace H : (pochoirref23_contour.l0 k1 a0 l1 y295 (l1.length : Int) (wrap64 (x7_1 + 1))) = some r := by first | (rw [hy295]; with_reducible exact H) | (have H2_ := (Option.bind_some _ _).symm.trans H; rw [hy295]; with_reducible exact H2_) | (have H2_ := (Option.bind_some _ _).symm.trans H; with_reducible exact H2_) | with_reducible exact H | (rw [hy295]; exact H) | exact H
     have Ny295 := Aside0.mk hy295
     clear hy295
     have H' := Aside0.mk H
     clear H
     have p10 : 0 ≤ (x7_1 : Int) := od
     have q10 : (x7_1 : Int) < ((x5_1.length : Int) : Int) := od
     obtain ⟨go10, co10, eo10, gb10, gl10, cl10, HG10⟩ := Kd.R_form HO_5.out (by omega)
     (first | cases eo10 | (injection eo10 with ea_ en_ ec_; (first | subst ea_ | (injection ea_ with ea_; subst ea_)); subst ec_; clear en_))
     have GB10 := Aside0.mk gb10
     have GG10 := Aside0.mk HG10
     clear gb10 gl10 HG10
     obtain ⟨hx10_0, hf10_0⟩ := Kd.R_celln 0 HO_5.out (x7_1 : Int) p10 q10
     replace p10 := eq_true p10
     replace q10 := eq_true q10
     have HP11 := Kd.R_putg HO_5.out (x7_1 : Int) 7
     go_wp2_with (first | ((with_reducible refine gate_store (t := 3) (p := 23) rfl ?_); refine store_event (t := 3) (p := 23) (v := ?vo_w12) (w1 := (wr.setCell ⟨go10, (x7_1 : Int).toNat, none⟩ (.int .i64 7))) ?hg ?ho ?hn ?hr ?_; (case ho => rfl); (case hg => rfl); (case hn => rfl); (case hr => first | (go_simp; done) | (go_simp; rfl)); intro w12 hw; have hg : wr.grownBy w12 (some go10) := (by rw [hw]; exact HP11.2); have hp_ : Kd.R (Kd.int .i64) 3 w12 w.heap.size (fun _ => True) (.slice (some ⟨go10, 0, none⟩) x5_1.length co10) y295 := (by rw [hw, Ny295.out]; exact HP11.1); clear HP11; replace HO_5 := Aside0.mk (hp_); replace HB := Aside0.mk ((by rw [hw]; exact below_set (HB.out) GB10.out : Below w.heap.size w w12)); clear hg hw hp_))
     go_roundg k1
     case measure => have := HK1.out; omega
     case rel => exact ⟨(y295), (wrap64 (x7_1 + 1)), fr, H', ⟨by have := HK1.out; omega⟩, ⟨kr HO_5.out⟩, ⟨bl0 HB.out⟩⟩
    rw [if_neg c7] at H
    have c7b0 := decide_eq_false c7
    clear c7
    have HC13 := Aside0.mk H
    clear H
    go_upto_region 7 with (fail)
    go_cut [33] (fun v33 wc => ∃ (kq : Nat) (x33_12 : Bool), v33 = .bool x33_12 ∧ Aside0 (pochoirref23_contour.j1 kq a0 l1 x5_1 (l1.length : Int) x33_12 = some r) ∧ Aside0 (kq ≤ k1) ∧ Aside0 (Kd.R (Kd.int .i64) 3 wc w.heap.size (fun _ => True) v293 x5_1) ∧ Aside0 (Below w.heap.size w wc))
    case first =>
     have H := HC13.out
     clear HC13
     by_cases c14 : (l1.length : Int) = 0
     ·rw [if_pos c14] at H
      have c14b0 : ((l1.length : Int) == 0) = true := beq_iff_eq.mpr c14
      have c14b1 : ((l1.length : Int) != 0) = false := bne_eq_false_iff_eq.mpr c14
      clear c14
      (first | rw [c14b0] | (simp only [i64_w, i32_w]; rw [c14b0]) | rw [c14b1] | skip)
      have H' := Aside0.mk H
      clear H
      go_wp2
      go_meet
      case rel => exact ⟨_, (true), fr, H', ⟨by have := HK1.out; first | omega | exact Nat.le_refl _⟩, ⟨kr HO_5.out⟩, ⟨bl0 HB.out⟩⟩
     rw [if_neg c14] at H
     have c14b0 : ((l1.length : Int) == 0) = false := beq_eq_false_iff_ne.mpr c14
     have c14b1 : ((l1.length : Int) != 0) = true := bne_iff_ne.mpr c14
     have c14b2 : ¬ (l1 = []) := fun h_ => c14 (by rw [h_]; rfl)
     (first | rw [c14b0] | (simp only [i64_w, i32_w]; rw [c14b0]) | rw [c14b1] | rw [c14b2] | skip)
     by_cases c15 : (l1.length : Int) = 1
     ·rw [if_pos c15] at H
      have c15b0 : ((l1.length : Int) == 1) = true := beq_iff_eq.mpr c15
      have c15b1 : ((l1.length : Int) != 1) = false := bne_eq_false_iff_eq.mpr c15
      clear c15
      have H' := Aside0.mk H
      clear H
      go_wp2
      go_meet
      case rel => exact ⟨_, (decide (a0 < 3)), fr, H', ⟨by have := HK1.out; first | omega | exact Nat.le_refl _⟩, ⟨kr HO_5.out⟩, ⟨bl0 HB.out⟩⟩
     rw [if_neg c15] at H
     have c15b0 : ((l1.length : Int) == 1) = false := beq_eq_false_iff_ne.mpr c15
     have c15b1 : ((l1.length : Int) != 1) = true := bne_iff_ne.mpr c15
     have H' := Aside0.mk H
     clear H
     go_wp2
     go_meet
     case rel => exact ⟨_, (false), fr, H', ⟨by have := HK1.out; first | omega | exact Nat.le_refl _⟩, ⟨kr HO_5.out⟩, ⟨bl0 HB.out⟩⟩
    case rest =>
     clear HC13
     try clear c1
     try clear p1
     try clear q1
     try clear hx1
     try clear p2
     try clear c3b0
     try clear c3b1
     try clear c4b0
     try clear c4b1
     try clear p6
     try clear c7b0
     try clear c8b0
     try clear c9b0
     try clear p10
     try clear q10
     try clear hx10
     try clear hf10
     try clear c14b0
     try clear c14b1
     try clear c14b2
     try clear c15b0
     try clear c15b1
     try clear hx10_0
     try clear p10
     try clear p2
     try clear q10
     obtain ⟨kq, x33_12, rfl, HA, HJ12, HO_5, HB⟩ := hcut
     cases kq with
     | zero => exact absurd HA.out (by simp [pochoirref23_contour.j1])
     | succ kj12 =>
      have H := HA.out
      clear HA
      simp only [pochoirref23_contour.j1] at H
      by_cases c16 : x33_12 = true
      ·subst c16
       have H1 : (some x5_1) = some r := by rw [if_pos rfl] at H; exact H
       clear H
       have H := H1
       clear H1
       obtain rfl := Option.some.inj H
       go_wp2
       go_ret
       exact ⟨_, by first | rfl | (simp [errW_none, errW_some] <;> rfl) | (simp [*, errW_none, errW_some] <;> rfl), kr HO_5.out, bl0 HB.out⟩
      replace c16 := Bool.eq_false_iff.mpr c16
      subst c16
      have H1 : (if (l1.length : Int) = 1 then (pochoirref23_contour.l1 kj12 a0 l1 x5_1 0) else (pochoirref23_contour.l2 kj12 a0 l1 x5_1 (l1.length : Int) 0)) = some r := by rw [if_neg (show ¬ (false = true) by decide)] at H; exact H
      clear H
      have H := H1
      clear H1
      by_cases c17 : (l1.length : Int) = 1
      ·rw [if_pos c17] at H
       have c17b0 : ((l1.length : Int) == 1) = true := beq_iff_eq.mpr c17
       have c17b1 : ((l1.length : Int) != 1) = false := bne_eq_false_iff_eq.mpr c17
       clear c17
       have H' := Aside0.mk H
       clear H
       go_wp2
       go_loopg [8] kj12 (fun kq v8 w' => ∃ (x5_3 : List Int) (x8_3 : Int), v8 = .int .i64 x8_3 ∧ Aside0 (pochoirref23_contour.l1 kq a0 l1 x5_3 x8_3 = some r) ∧ Aside0 (kq ≤ kj12) ∧ Aside0 (Kd.R (Kd.int .i64) 3 w' w.heap.size (fun _ => True) v293 x5_3) ∧ Aside0 (Below w.heap.size w w'))
       case atStart => exact ⟨(x5_1), (0), fr, H', ⟨Nat.le_refl _⟩, ⟨kr HO_5.out⟩, ⟨bl0 HB.out⟩⟩
       case round =>
        clear H'
        try clear c1
        try clear p1
        try clear q1
        try clear hx1
        try clear p2
        try clear c3b0
        try clear c3b1
        try clear c4b0
        try clear c4b1
        try clear p6
        try clear c7b0
        try clear c8b0
        try clear c9b0
        try clear p10
        try clear q10
        try clear hx10
        try clear hf10
        try clear c14b0
        try clear c14b1
        try clear c14b2
        try clear c15b0
        try clear c15b1
        try clear c16
        try clear c17b0
        try clear c17b1
        try clear hx10_0
        try clear p1
        try clear p10
        try clear p2
        try clear p6
        try clear q1
        try clear q10
        obtain ⟨x5_3, x8_3, rfl, HA, HK3, HO_5, HB⟩ := hrel
        cases gk with
        | zero => exact absurd HA.out (by simp [pochoirref23_contour.l1])
        | succ k3 =>
         have H := HA.out
         clear HA
         simp only [pochoirref23_contour.l1] at H
         by_cases c18 : x8_3 < a0
         ·rw [if_pos c18] at H
          have c18b0 := decide_eq_true c18
          clear c18
          refine ifk H ?_; clear H; intro c19 H
          have c19b0 := decide_eq_true c19
          have c19b1 : decide (0 < l1.length) = true := decide_eq_true (by omega)
          clear c19
          by_cases c20 : a0 = 0
          ·rw [if_pos c20] at H
           exact absurd H (by simp)
          rw [if_neg c20] at H
          have c20b0 : (a0 == 0) = false := beq_eq_false_iff_ne.mpr c20
          have c20b1 : (a0 != 0) = true := bne_iff_ne.mpr c20
          obtain ⟨y297, hy297⟩ : ∃ y_ : List Int, y_ = (([5, 7, 6] : List Int)) := ⟨_, rfl⟩
          replace H : (if 0 ≤ (wrap64 (Int.tdiv (wrap64 (3 * x8_3)) a0)) then (if (wrap64 (Int.tdiv (wrap64 (3 * x8_3)) a0)) < (y297.length : Int) then (if 0 ≤ (Int.tmod (wrap64 ((rd l1 0) + x8_3)) a0) then (if (Int.tmod (wrap64 ((rd l1 0) + x8_3)) a0) < (x5_3.length : Int) then (pochoirref23_contour.l1 k3 a0 l1 (x5_3.set ((Int.tmod (wrap64 ((rd l1 0) + x8_3)) a0) : Int).toNat (rd y297 (wrap64 (Int.tdiv (wrap64 (3 * x8_3)) a0)))) (wrap64 (x8_3 + 1))) else (none)) else (none)) else (none)) else (none)) = some r := by first | (rw [hy297]; with_reducible exact H) | (have H2_ := (Option.bind_some _ _).symm.trans H; rw [hy297]; with_reducible exact H2_) | (have H2_ := (Option.bind_some _ _).symm.trans H; with_reducible exact H2_) | with_reducible exact H | (rw [hy297]; exact H) | exact H
          have Ny297 := Aside0.mk hy297
          clear hy297
          obtain ⟨ji21, hji21⟩ : ∃ j_ : Int, (wrap64 (Int.tdiv (wrap64 (3 * x8_3)) a0)) = j_ := ⟨_, rfl⟩
          replace H : (if 0 ≤ (ji21) then (if (ji21) < (y297.length : Int) then (if 0 ≤ (Int.tmod (wrap64 ((rd l1 0) + x8_3)) a0) then (if (Int.tmod (wrap64 ((rd l1 0) + x8_3)) a0) < (x5_3.length : Int) then (pochoirref23_contour.l1 k3 a0 l1 (x5_3.set ((Int.tmod (wrap64 ((rd l1 0) + x8_3)) a0) : Int).toNat (rd y297 (ji21))) (wrap64 (x8_3 + 1))) else (none)) else (none)) else (none)) else (none)) = some r := by first | (rw [hji21] at H; exact H) | (simp only [hji21] at H ⊢; exact H)
          have hji21w : (IntKind.i64.wrap (Int.tdiv (wrap64 (3 * x8_3)) a0)) = ji21 := (i64_w _).trans hji21
          refine ifk H ?_; clear H; intro c22 H
          have c22b0 := decide_eq_true c22
          clear c22
          refine ifk H ?_; clear H; intro c23 H
          have c23b0 := decide_eq_true c23
          clear c23
          obtain ⟨ji24, hji24⟩ : ∃ j_ : Int, (Int.tmod (wrap64 ((rd l1 0) + x8_3)) a0) = j_ := ⟨_, rfl⟩
          replace H : (if 0 ≤ (ji24) then (if (ji24) < (x5_3.length : Int) then (pochoirref23_contour.l1 k3 a0 l1 (x5_3.set ((ji24) : Int).toNat (rd y297 (ji21))) (wrap64 (x8_3 + 1))) else (none)) else (none)) = some r := by first | (rw [hji24] at H; exact H) | (simp only [hji24] at H ⊢; exact H)
          refine ifk H ?_; clear H; intro c25 H
          have c25b0 := decide_eq_true c25
          clear c25
          refine ifk H ?_; clear H; intro c26 H
          have c26b0 := decide_eq_true c26
          clear c26
          obtain ⟨y301, hy301⟩ : ∃ y_ : List Int, y_ = (x5_3.set ((ji24) : Int).toNat (rd y297 (ji21))) := ⟨_, rfl⟩
          replace H : (pochoirref23_contour.l1 k3 a0 l1 y301 (wrap64 (x8_3 + 1))) = some r := by first | (rw [hy301]; with_reducible exact H) | (have H2_ := (Option.bind_some _ _).symm.trans H; rw [hy301]; with_reducible exact H2_) | (have H2_ := (Option.bind_some _ _).symm.trans H; with_reducible exact H2_) | with_reducible exact H | (rw [hy301]; exact H) | exact H
          have Ny301 := Aside0.mk hy301
          clear hy301
          have H' := Aside0.mk H
          clear H
          try go_wp2
          have pi300 : (0 ≤ ((ji21) : Int)) = True := eq_true (od)
          have qi300 : ((ji21) < (y297.length : Int)) = True := eq_true (od)
          replace HO_5 := Aside0.mk (Kd.R_drew HO_5.out)
          replace HB := Aside0.mk (below_drew1 HB.out)
          have p296 : 0 ≤ (0 : Int) := (by omega)
          have q296 : 0 < (l1.length : Int) := od
          obtain ⟨ad296, e296, hx296_0⟩ := Kd.at_int HR1.out 0 p296 q296
          have hw296_0 := hx296_0
          (try rw [show ((0 : Int)).toNat = 0 from rfl] at hw296_0)
          (try rw [show 0 * 1 = 0 from rfl] at hw296_0)
          (try rw [Addr.add_zero'] at hw296_0)
          cases e296
          have qi296 : (0 < l1.length) = True := eq_true (by omega)
          (try rw [show ((0 : Int)).toNat = 0 from rfl] at hx296_0)
          (try rw [Addr.add_zero'] at hx296_0)
          replace hx296_0 := hc HB hx296_0
          replace p296 := eq_true p296
          replace q296 := eq_true q296
          refine start_ (n := 17) (S := fun w' => w'.cell? ad296 = some (.int .i64 (rd l1 0))) (ds := [16]) (ba 17 0) (by kernel_rfl) rfl rfl ((hc HB hw296_0)) (fun hHeld => ?_); refine with_tabW pochoirref23_contour.tab13 pochoirref23_contour.bits13 (fun HT_ HW_ => ?_)
          generalize wr.drew = w28 at HO_5 HB hx296_0 hHeld ⊢
          refine pI 0 42 (ba 17 1) HT_.out ?_
          refine pI 1 43 (ba 17 3) HT_.out ?_
          refine pI 2 44 (ba 17 7) HT_.out ?_
          refine pI 4 46 (ba 17 23) HT_.out ?_
          refine pI 6 48 (ba 17 87) HT_.out ?_
          refine pI 9 51 (ba 17 599) HT_.out ?_
          refine pI 10 52 (ba 17 1623) HT_.out ?_
          refine pI 11 53 (ba 17 3671) HT_.out ?_
          refine pI 12 54 (ba 17 7767) HT_.out ?_
          refine take_ (i := 3) (N := some 45) (v := ?_) (a' := ?_) (ba 17 7775) rfl rfl (take_ofW HT_.out HW_.out (by kernel_rfl)) (fun _ _ _ h => h) (Or.inl ⟨by rfl, ?_⟩) hHeld ?_ ?_
          rotate_left
          ·intro w' s0
           go_simp
           with_reducible rfl
          rotate_left
          ·simp only [Act.put, List.setIfInBounds_toArray, List.set_cons_zero, List.set_cons_succ, i64_w, i32_w]
           rfl
          refine pI 5 47 (ba 17 7807) HT_.out ?_
          refine pI 7 49 (ba 17 7935) HT_.out ?_
          refine one_ (i := 8) (N := some 50) (ba 17 8191) rfl rfl (one_of HT_.out (by kernel_rfl)) (by decide) (fun K hK => ?_)
          refine Kd.R_lit_step (Kd.int .i64) _ 3 ?hg (N := 50) ?hd (xs := ([5, 7, 6] : List Int)) (inner := [.int .i64 5, .int .i64 7, .int .i64 6]) (ok := fun _ => True) (okp := fun _ => True) ?hr ?hp (fun _ hk => hk) trivial (Below.refl _ _) (Nat.le_refl _) (by simp) ?_; (case hd => rfl); (case hg => rfl); (case hr => first | (go_simp; done) | (go_simp; rfl)); (case hp => exact (Reps.one (show Kd.M (Kd.int .i64) _ _ _ 5 [.int .i64 5] from rfl) (Reps.one (show Kd.M (Kd.int .i64) _ _ _ 7 [.int .i64 7] from rfl) (Reps.one (show Kd.M (Kd.int .i64) _ _ _ 6 [.int .i64 6] from rfl) (Reps.none _ _)))))
          intro v298 w29 ho30 hb hg_ hnew_
          clear hg_ hnew_
          (first | rw [← Ny297.out] at ho30 | (simp only [Int.reduceToNat] at ho30; rw [← Ny297.out] at ho30))
          have HO299 := Aside0.mk (Kd.R_lower (Kd.R_new' ho30 (Kd.R_lt (kr HO_5.out))) (below_size (bl0 HB.out)))
          replace HO_5 := Aside0.mk (Kd.R_elder' (kr HO_5.out) (Kd.R_base ho30) hb)
          replace HB := Aside0.mk (below_step (bl0 HB.out) hb)
          clear hb ho30
          obtain ⟨Ao31, co31, eo31⟩ := Kd.R_slice HO299.out
          subst eo31
          obtain ⟨ado31, fo31, _⟩ := Kd.at_int (Kd.R_reads' HO299.out).2.2 0 (by decide) (by rw [Ny297.out]; simp)
          cases fo31
          have p27 : 0 ≤ ((ji24) : Int) := od
          have q27 : ((ji24) : Int) < ((x5_3.length : Int) : Int) := od
          obtain ⟨go27, co27, eo27, gb27, gl27, cl27, HG27⟩ := Kd.R_form HO_5.out (by omega)
          (first | cases eo27 | (injection eo27 with ea_ en_ ec_; (first | subst ea_ | (injection ea_ with ea_; subst ea_)); subst ec_; clear en_))
          have GB27 := Aside0.mk gb27
          have GG27 := Aside0.mk HG27
          clear gb27 gl27 HG27
          obtain ⟨hx27_0, hf27_0⟩ := Kd.R_celln 0 HO_5.out ((ji24) : Int) p27 q27
          replace p27 := eq_true p27
          replace q27 := eq_true q27
          have HP32 := Kd.R_putn HO_5.out ((ji24) : Int) (rd y297 (ji21))
          rw [← Ny301.out] at HP32
          have HQ32 := Aside0.mk HP32
          clear HP32
          refine hK.out _ _ ((hc HB hw296_0)) (fun hHeld => ?_)
          clear hK K
          refine np 50 ?_
          refine pI 13 55 (ba 17 16383) HT_.out ?_
          refine one_ (i := 14) (N := some 56) (ba 17 32767) rfl rfl (one_of HT_.out (by kernel_rfl)) (by decide) (fun K hK => ?_)
          (have p300 : 0 ≤ ((ji21) : Int) := od; have q300 : (ji21) < (y297.length : Int) := od; obtain ⟨ad300, e300, hx300_0⟩ := Kd.at_int (Kd.R_reads' HO299.out).2.2 (ji21) p300 q300; obtain rfl : ado31 = ad300 := (by injection e300))
          refine value_ (w1 := ?_) (v := ?_) (by rfl) rfl ?_ ?_
          rotate_left 2
          ·go_simp
           constructor
           ·rfl
           ·rfl
          clear hx300_0
          refine hK.out _ _ ((hc HB hw296_0)) (fun hHeld => ?_)
          clear hK K
          refine np 56 ?_
          refine pI 15 57 (ba 17 65535) HT_.out ?_
          refine last_ (i := 16) (N := none) (ba 17 131071) rfl rfl (one_of HT_.out (by kernel_rfl)) (by decide) (fun K hK => ?_)
          refine skip_ (w1 := ?_) (by rfl) rfl ?_ ?_
          rotate_left
          ·go_simp
           rfl
          refine hK.out _ _ ?_
          clear hK K
          refine done_ (done_of HT_.out (by kernel_rfl)) ?_
          try go_wp2
          go_roundg k3
          case measure => have := HK1.out; have := HJ12.out; have := HK3.out; omega
          case rel => exact ⟨(y301), (wrap64 (x8_3 + 1)), fr, H', ⟨by have := HK1.out; have := HJ12.out; have := HK3.out; omega⟩, ⟨by (with_reducible repeat (first | apply Kd.R_alloc | apply Kd.R_drewN | apply Kd.R_drew)); exact Kd.R_mono HQ32.out (fun _ hk => trivial)⟩, ⟨bl1 HB.out GB27.out⟩⟩
         rw [if_neg c18] at H
         have c18b0 := decide_eq_false c18
         clear c18
         obtain rfl := Option.some.inj H
         go_wp2
         go_ret
         exact ⟨_, by first | rfl | (simp [errW_none, errW_some] <;> rfl) | (simp [*, errW_none, errW_some] <;> rfl), kr HO_5.out, bl0 HB.out⟩
      rw [if_neg c17] at H
      have c17b0 : ((l1.length : Int) == 1) = false := beq_eq_false_iff_ne.mpr c17
      have c17b1 : ((l1.length : Int) != 1) = true := bne_iff_ne.mpr c17
      have H' := Aside0.mk H
      clear H
      go_wp2
      go_loopg [9] kj12 (fun kq v9 w' => ∃ (x5_3 : List Int) (x9_3 : Int), v9 = .int .i64 x9_3 ∧ Aside0 (pochoirref23_contour.l2 kq a0 l1 x5_3 (l1.length : Int) x9_3 = some r) ∧ Aside0 (kq ≤ kj12) ∧ Aside0 (Kd.R (Kd.int .i64) 3 w' w.heap.size (fun _ => True) v293 x5_3) ∧ Aside0 (Below w.heap.size w w'))
      case atStart => exact ⟨(x5_1), (0), fr, H', ⟨Nat.le_refl _⟩, ⟨kr HO_5.out⟩, ⟨bl0 HB.out⟩⟩
      case round =>
       clear H'
       try clear c1
       try clear p1
       try clear q1
       try clear hx1
       try clear c2
       try clear p2
       try clear q2
       try clear hx2
       try clear qi2
       try clear hf2
       try clear c3b0
       try clear c3b1
       try clear p3
       try clear q3
       try clear hx3
       try clear qi3
       try clear c4b0
       try clear c4b1
       try clear p6
       try clear c7b0
       try clear c8b0
       try clear c9b0
       try clear p10
       try clear q10
       try clear hx10
       try clear hf10
       try clear c14b0
       try clear c14b1
       try clear c14b2
       try clear c15b0
       try clear c15b1
       try clear c16
       try clear c17b0
       try clear c17b1
       try clear c18b0
       try clear c19b0
       try clear c19b1
       try clear c20
       try clear c20b0
       try clear c20b1
       try clear c22b0
       try clear c23b0
       try clear c25b0
       try clear c26b0
       try clear p27
       try clear q27
       try clear hx27
       try clear hf27
       try clear p29
       try clear q29
       try clear hx29
       try clear qi29
       try clear p30
       try clear q30
       try clear hx30
       try clear qi30
       try clear hx10_0
       try clear hx27_0
       try clear hx296_0
       try clear p1
       try clear p10
       try clear p2
       try clear p27
       try clear p296
       try clear p300
       try clear p6
       try clear q1
       try clear q10
       try clear q27
       try clear q296
       try clear q300
       obtain ⟨x5_3, x9_3, rfl, HA, HK3, HO_5, HB⟩ := hrel
       cases gk with
       | zero => exact absurd HA.out (by simp [pochoirref23_contour.l2])
       | succ k3 =>
        have H := HA.out
        clear HA
        simp only [pochoirref23_contour.l2] at H
        by_cases c33 : x9_3 < (l1.length : Int)
        ·rw [if_pos c33] at H
         have c33b0 := decide_eq_true c33
         clear c33
         by_cases c34 : (l1.length : Int) = 0
         ·rw [if_pos c34] at H
          exact absurd H (by simp)
         rw [if_neg c34] at H
         have c34b0 : ((l1.length : Int) == 0) = false := beq_eq_false_iff_ne.mpr c34
         have c34b1 : ((l1.length : Int) != 0) = true := bne_iff_ne.mpr c34
         have c34b2 : ¬ (l1 = []) := fun h_ => c34 (by rw [h_]; rfl)
         obtain ⟨ji35, hji35⟩ : ∃ j_ : Int, (Int.tmod (wrap64 (x9_3 + 1)) (l1.length : Int)) = j_ := ⟨_, rfl⟩
         replace H : (if 0 ≤ (ji35) then (if (ji35) < (l1.length : Int) then (if 0 ≤ x9_3 then (if x9_3 < (l1.length : Int) then (pochoirref23_contour.l3 k3 a0 l1 x5_3 (l1.length : Int) x9_3 (rd l1 (ji35)) (rd l1 x9_3)) else (none)) else (none)) else (none)) else (none)) = some r := by first | (rw [hji35] at H; exact H) | (simp only [hji35] at H ⊢; exact H)
         refine ifk H ?_; clear H; intro c36 H
         have c36b0 := decide_eq_true c36
         clear c36
         refine ifk H ?_; clear H; intro c37 H
         have c37b0 := decide_eq_true c37
         clear c37
         refine ifk H ?_; clear H; intro c38 H
         have c38b0 := decide_eq_true c38
         clear c38
         refine ifk H ?_; clear H; intro c39 H
         have c39b0 := decide_eq_true c39
         clear c39
         have H' := Aside0.mk H
         clear H
         have p302 : 0 ≤ ((ji35) : Int) := od
         have q302 : (ji35) < (l1.length : Int) := od
         obtain ⟨ad302, e302, hx302_0⟩ := Kd.at_int HR1.out (ji35) p302 q302
         cases e302
         replace hx302_0 := hc HB hx302_0
         replace p302 := eq_true p302
         replace q302 := eq_true q302
         have p303 : 0 ≤ (x9_3 : Int) := od
         have q303 : x9_3 < (l1.length : Int) := od
         obtain ⟨ad303, e303, hx303_0⟩ := Kd.at_int HR1.out x9_3 p303 q303
         obtain rfl : ad302 = ad303 := (by injection e303)
         replace hx303_0 := hc HB hx303_0
         replace p303 := eq_true p303
         replace q303 := eq_true q303
         go_wp2
         go_loopg [11] k3 (fun kq v11 w' => ∃ (x5_4 : List Int) (x11_4 : Int), v11 = .int .i64 x11_4 ∧ Aside0 (pochoirref23_contour.l3 kq a0 l1 x5_4 (l1.length : Int) x9_3 (rd l1 (ji35)) x11_4 = some r) ∧ Aside0 (kq ≤ k3) ∧ Aside0 (Kd.R (Kd.int .i64) 3 w' w.heap.size (fun _ => True) v293 x5_4) ∧ Aside0 (Below w.heap.size w w'))
         case atStart => exact ⟨(x5_3), (rd l1 x9_3), fr, H', ⟨Nat.le_refl _⟩, ⟨kr HO_5.out⟩, ⟨bl0 HB.out⟩⟩
         case round =>
          clear H'
          try clear c1
          try clear p1
          try clear q1
          try clear hx1
          try clear c2
          try clear p2
          try clear q2
          try clear hx2
          try clear qi2
          try clear hf2
          try clear c3b0
          try clear c3b1
          try clear p3
          try clear q3
          try clear hx3
          try clear qi3
          try clear c4b0
          try clear c4b1
          try clear p6
          try clear c7b0
          try clear c8b0
          try clear c9b0
          try clear p10
          try clear q10
          try clear hx10
          try clear hf10
          try clear c14b0
          try clear c14b1
          try clear c14b2
          try clear c15b0
          try clear c15b1
          try clear c16
          try clear c17b0
          try clear c17b1
          try clear c18b0
          try clear c19b0
          try clear c19b1
          try clear c20
          try clear c20b0
          try clear c20b1
          try clear c22b0
          try clear c23b0
          try clear c25b0
          try clear c26b0
          try clear p27
          try clear q27
          try clear hx27
          try clear hf27
          try clear p29
          try clear q29
          try clear hx29
          try clear qi29
          try clear p30
          try clear q30
          try clear hx30
          try clear qi30
          try clear c33b0
          try clear c34
          try clear c34b0
          try clear c34b1
          try clear c34b2
          try clear c36b0
          try clear c37b0
          try clear c38b0
          try clear c39b0
          try clear hx10_0
          try clear hx27_0
          try clear hx296_0
          try clear hx302_0
          try clear hx303_0
          try clear p1
          try clear p10
          try clear p2
          try clear p27
          try clear p29
          try clear p296
          try clear p3
          try clear p30
          try clear p300
          try clear p302
          try clear p303
          try clear p6
          try clear q1
          try clear q10
          try clear q2
          try clear q27
          try clear q29
          try clear q296
          try clear q3
          try clear q30
          try clear q300
          try clear q302
          try clear q303
          obtain ⟨x5_4, x11_4, rfl, HA, HK4, HO_5, HB⟩ := hrel
          cases gk with
          | zero => exact absurd HA.out (by simp [pochoirref23_contour.l3])
          | succ k4 =>
           have H := HA.out
           clear HA
           simp only [pochoirref23_contour.l3] at H
           replace H := Option.bind_eq_some_iff.mp H
           obtain ⟨t304, A400, H⟩ := H
           replace H : (if 0 ≤ x11_4 then (if x11_4 < (x5_4.length : Int) then ((some (x5_4.set (x11_4 : Int).toNat t304 : List Int)).bind fun y305 => (if a0 = 0 then (none) else (if (Int.tmod (wrap64 (x11_4 + 1)) a0) = (rd l1 (ji35)) then (pochoirref23_contour.l2 k4 a0 l1 y305 (l1.length : Int) (wrap64 (x9_3 + 1))) else (pochoirref23_contour.l3 k4 a0 l1 y305 (l1.length : Int) x9_3 (rd l1 (ji35)) (Int.tmod (wrap64 (x11_4 + 1)) a0))))) else (none)) else (none)) = some r := H
           have A40 := Aside0.mk A400
           clear A400
           refine ifk H ?_; clear H; intro c41 H
           have c41b0 := decide_eq_true c41
           clear c41
           refine ifk H ?_; clear H; intro c42 H
           have c42b0 := decide_eq_true c42
           clear c42
           obtain ⟨y305, hy305⟩ : ∃ y_ : List Int, y_ = (x5_4.set (x11_4 : Int).toNat t304) := ⟨_, rfl⟩
           replace H : (if a0 = 0 then (none) else (if (Int.tmod (wrap64 (x11_4 + 1)) a0) = (rd l1 (ji35)) then (pochoirref23_contour.l2 k4 a0 l1 y305 (l1.length : Int) (wrap64 (x9_3 + 1))) else (pochoirref23_contour.l3 k4 a0 l1 y305 (l1.length : Int) x9_3 (rd l1 (ji35)) (Int.tmod (wrap64 (x11_4 + 1)) a0)))) = some r := by first | (rw [hy305]; with_reducible exact H) | (have H2_ := (Option.bind_some _ _).symm.trans H; rw [hy305]; with_reducible exact H2_) | (have H2_ := (Option.bind_some _ _).symm.trans H; with_reducible exact H2_) | with_reducible exact H | (rw [hy305]; exact H) | exact H
           have Ny305 := Aside0.mk hy305
           clear hy305
           by_cases c44 : a0 = 0
           ·rw [if_pos c44] at H
            exact absurd H (by simp)
           rw [if_neg c44] at H
           have c44b0 : (a0 == 0) = false := beq_eq_false_iff_ne.mpr c44
           have c44b1 : (a0 != 0) = true := bne_iff_ne.mpr c44
           by_cases c45 : (Int.tmod (wrap64 (x11_4 + 1)) a0) = (rd l1 (ji35))
           ·rw [if_pos c45] at H
            have c45b0 : ((Int.tmod (wrap64 (x11_4 + 1)) a0) == (rd l1 (ji35))) = true := beq_iff_eq.mpr c45
            have c45b1 : ((Int.tmod (wrap64 (x11_4 + 1)) a0) != (rd l1 (ji35))) = false := bne_eq_false_iff_eq.mpr c45
            clear c45
            have H' := Aside0.mk H
            clear H
            go_wp2_with (first | ((with_reducible refine gate_callee (f := 119) rfl ?_); refine goesL_ (some 79) rfl rfl Try.func119 (by kernel_rfl) rfl #[.int .i64 x9_3, .int .i64 (l1.length : Int)] rfl am ?_; (with_reducible refine (pochoirref23_of.calls x9_3 (l1.length : Int) t304 _ A40.out).mono ?_); rintro e w46 ⟨rfl, hb⟩; refine ⟨_, rfl, ?_⟩; replace HO_5 := Aside0.mk (Kd.R_below (kr HO_5.out) hb); replace HB := Aside0.mk (below_step (bl0 HB.out) hb); (try clear hb); have p43 : 0 ≤ (x11_4 : Int) := od; have q43 : (x11_4 : Int) < ((x5_4.length : Int) : Int) := od; obtain ⟨go43, co43, eo43, gb43, gl43, cl43, HG43⟩ := Kd.R_form HO_5.out (by omega); (first | cases eo43 | (injection eo43 with ea_ en_ ec_; (first | subst ea_ | (injection ea_ with ea_; subst ea_)); subst ec_; clear en_)); have GB43 := Aside0.mk gb43; have GG43 := Aside0.mk HG43; clear gb43 gl43 HG43; obtain ⟨hx43_0, hf43_0⟩ := Kd.R_celln 0 HO_5.out (x11_4 : Int) p43 q43; replace p43 := eq_true p43; replace q43 := eq_true q43; obtain ⟨hy47_, hz47_⟩ := Kd.R_celln 0 HO_5.out (x11_4 : Int) (od) (od); have HP47 := Kd.R_putg HO_5.out (x11_4 : Int) t304) | ((with_reducible refine gate_store (t := 3) (p := 80) rfl ?_); refine store_event (t := 3) (p := 80) (v := ?vo_w48) (w1 := (w46.setCell ⟨go43, (x11_4 : Int).toNat, none⟩ (.int .i64 t304))) ?hg ?ho ?hn ?hr ?_; (case ho => rfl); (case hg => rfl); (case hn => rfl); (case hr => first | (go_simp; done) | (go_simp; rfl)); intro w48 hw; have hg : w46.grownBy w48 (some go43) := (by rw [hw]; exact HP47.2); have hp_ : Kd.R (Kd.int .i64) 3 w48 w.heap.size (fun _ => True) (.slice (some ⟨go43, 0, none⟩) x5_4.length co43) y305 := (by rw [hw, Ny305.out]; exact HP47.1); clear HP47; replace HO_5 := Aside0.mk (hp_); replace HB := Aside0.mk ((by rw [hw]; exact below_set (HB.out) GB43.out : Below w.heap.size w w48)); clear hg hw hp_))
            go_roundg k4
            case measure => have := HK1.out; have := HJ12.out; have := HK3.out; have := HK4.out; omega
            case rel => exact ⟨(y305), (wrap64 (x9_3 + 1)), fr, H', ⟨by have := HK1.out; have := HJ12.out; have := HK3.out; have := HK4.out; omega⟩, ⟨kr HO_5.out⟩, ⟨bl0 HB.out⟩⟩
           rw [if_neg c45] at H
           have c45b0 : ((Int.tmod (wrap64 (x11_4 + 1)) a0) == (rd l1 (ji35))) = false := beq_eq_false_iff_ne.mpr c45
           have c45b1 : ((Int.tmod (wrap64 (x11_4 + 1)) a0) != (rd l1 (ji35))) = true := bne_iff_ne.mpr c45
           have H' := Aside0.mk H
           clear H
           go_wp2_with (first | ((with_reducible refine gate_callee (f := 119) rfl ?_); refine goesL_ (some 79) rfl rfl Try.func119 (by kernel_rfl) rfl #[.int .i64 x9_3, .int .i64 (l1.length : Int)] rfl am ?_; (with_reducible refine (pochoirref23_of.calls x9_3 (l1.length : Int) t304 _ A40.out).mono ?_); rintro e w49 ⟨rfl, hb⟩; refine ⟨_, rfl, ?_⟩; replace HO_5 := Aside0.mk (Kd.R_below (kr HO_5.out) hb); replace HB := Aside0.mk (below_step (bl0 HB.out) hb); (try clear hb); have p43 : 0 ≤ (x11_4 : Int) := od; have q43 : (x11_4 : Int) < ((x5_4.length : Int) : Int) := od; obtain ⟨go43, co43, eo43, gb43, gl43, cl43, HG43⟩ := Kd.R_form HO_5.out (by omega); (first | cases eo43 | (injection eo43 with ea_ en_ ec_; (first | subst ea_ | (injection ea_ with ea_; subst ea_)); subst ec_; clear en_)); have GB43 := Aside0.mk gb43; have GG43 := Aside0.mk HG43; clear gb43 gl43 HG43; obtain ⟨hx43_0, hf43_0⟩ := Kd.R_celln 0 HO_5.out (x11_4 : Int) p43 q43; replace p43 := eq_true p43; replace q43 := eq_true q43; obtain ⟨hy50_, hz50_⟩ := Kd.R_celln 0 HO_5.out (x11_4 : Int) (od) (od); have HP50 := Kd.R_putg HO_5.out (x11_4 : Int) t304) | ((with_reducible refine gate_store (t := 3) (p := 80) rfl ?_); refine store_event (t := 3) (p := 80) (v := ?vo_w51) (w1 := (w49.setCell ⟨go43, (x11_4 : Int).toNat, none⟩ (.int .i64 t304))) ?hg ?ho ?hn ?hr ?_; (case ho => rfl); (case hg => rfl); (case hn => rfl); (case hr => first | (go_simp; done) | (go_simp; rfl)); intro w51 hw; have hg : w49.grownBy w51 (some go43) := (by rw [hw]; exact HP50.2); have hp_ : Kd.R (Kd.int .i64) 3 w51 w.heap.size (fun _ => True) (.slice (some ⟨go43, 0, none⟩) x5_4.length co43) y305 := (by rw [hw, Ny305.out]; exact HP50.1); clear HP50; replace HO_5 := Aside0.mk (hp_); replace HB := Aside0.mk ((by rw [hw]; exact below_set (HB.out) GB43.out : Below w.heap.size w w51)); clear hg hw hp_))
           go_roundg k4
           case measure => have := HK1.out; have := HJ12.out; have := HK3.out; have := HK4.out; omega
           case rel => exact ⟨(y305), (Int.tmod (wrap64 (x11_4 + 1)) a0), fr, H', ⟨by have := HK1.out; have := HJ12.out; have := HK3.out; have := HK4.out; omega⟩, ⟨kr HO_5.out⟩, ⟨bl0 HB.out⟩⟩
        rw [if_neg c33] at H
        have c33b0 := decide_eq_false c33
        clear c33
        obtain rfl := Option.some.inj H
        go_wp2
        go_ret
        exact ⟨_, by first | rfl | (simp [errW_none, errW_some] <;> rfl) | (simp [*, errW_none, errW_some] <;> rfl), kr HO_5.out, bl0 HB.out⟩
 rw [if_neg c3] at H
 exact absurd H (by simp)

end Go.Proofs.Ytalgppclaolonaa.XColr
