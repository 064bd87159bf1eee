-- Printed by a program of this claim. Not trusted: Lean checks it.
import Derived.Test.YtalgppclaolonaaXColrx0
import Derived.Test.YtalgppclaolonaaXColrx8
import Derived.Test.YtalgppclaolonaaXColrx10
namespace Go.Proofs.Ytalgppclaolonaa.XColr
open Go.RowKit Go.Proofs.YtalgppclaolonaaW.PrintWords Go.Proofs.YtalgppclaolonaaW.PrintLast Go.Proofs.YtalgppclaolonaaW.PrintMore
attribute [local go_sem] max2_int min2_int max_two min_two max_three min_three max_four min_four   -- for this text's walks alone
set_option linter.unusedVariables false
set_option linter.unusedSimpArgs false
open XOpen

/-! ### color_All: function 46 -/
mutual
def color_All.l0 : Nat → List (S38) → List Int → List Int → Int → Option (List Int × Int)
 | 0, _, _, _, _ => none
 | k + 1, x0, x4, x6, x7 => if x7 < (x0.length : Int) then (color_All.l1 k x0 x4 x6 x7 (wrap64 (x7 + 1))) else (some (x6, 0))
def color_All.j2 : Nat → List (S38) → List Int → List Int → Int → Int → Option (List Int × Int)
 | 0, _, _, _, _, _ => none
 | k + 1, x0, x4, x6, x7, x8 => color_All.l2 k x0 x4 x6 x7 x8 ([] : List Int)
def color_All.l2 : Nat → List (S38) → List Int → List Int → Int → Int → List Int → Option (List Int × Int)
 | 0, _, _, _, _, _, _ => none
 | k + 1, x0, x4, x6, x7, x8, x9 => if (x4.length : Int) > 0 then (if 0 < (x4.length : Int) then (if (rd x4 0) < x8 then (if x9.length < 17592186044416 then (if 1 ≤ (x4.length : Int) then (color_All.l2 k x0 (x4.drop (1 : Int).toNat) x6 x7 x8 (x9 ++ [wrap64 ((rd x4 0) - x7)])) else (none)) else (none)) else ((color_contour.f k (wrap64 (x8 - x7)) x9).bind fun t246 => (if x6.length + t246.length < 17592186044416 then (color_All.l0 k x0 x4 (x6 ++ t246) x8) else (none)))) else (none)) else ((color_contour.f k (wrap64 (x8 - x7)) x9).bind fun t252 => (if x6.length + t252.length < 17592186044416 then (color_All.l0 k x0 x4 (x6 ++ t252) x8) else (none)))
def color_All.l1 : Nat → List (S38) → List Int → List Int → Int → Int → Option (List Int × Int)
 | 0, _, _, _, _, _ => none
 | k + 1, x0, x4, x6, x7, x8 => if x8 < (x0.length : Int) then (if 0 ≤ x8 then (if 0 ≤ x7 then (if x7 < (x0.length : Int) then (if ((rd_T38 x0 x8).f0) = ((rd_T38 x0 x7).f0) then (color_All.l1 k x0 x4 x6 x7 (wrap64 (x8 + 1))) else (color_All.j2 k x0 x4 x6 x7 x8)) else (none)) else (none)) else (none)) else (color_All.j2 k x0 x4 x6 x7 x8)
end
def color_All.f (k : Nat) (l0 : List (S38)) : Option (List Int × Int) := (corner_All.f k l0).bind fun bt232 => (if bt232.2 = 0 then (color_All.l0 k l0 bt232.1 ([] : List Int) 0) else (some (([] : List Int), bt232.2)))
theorem color_All.mono_l : ∀ k, (∀ y0 y1 y2 y3, LeO (color_All.l0 k y0 y1 y2 y3) (color_All.l0 (k + 1) y0 y1 y2 y3)) ∧ (∀ y0 y1 y2 y3 y4, LeO (color_All.j2 k y0 y1 y2 y3 y4) (color_All.j2 (k + 1) y0 y1 y2 y3 y4)) ∧ (∀ y0 y1 y2 y3 y4 y5, LeO (color_All.l2 k y0 y1 y2 y3 y4 y5) (color_All.l2 (k + 1) y0 y1 y2 y3 y4 y5)) ∧ (∀ y0 y1 y2 y3 y4, LeO (color_All.l1 k y0 y1 y2 y3 y4) (color_All.l1 (k + 1) y0 y1 y2 y3 y4))
 | 0 => ⟨fun _ _ _ _ r h => by simp [color_All.l0] at h, fun _ _ _ _ _ r h => by simp [color_All.j2] at h, fun _ _ _ _ _ _ r h => by simp [color_All.l2] at h, fun _ _ _ _ _ r h => by simp [color_All.l1] at h⟩
 | k + 1 => by
  obtain ⟨ih0, ih1, ih2, ih3⟩ := color_All.mono_l k
  refine ⟨?_, ?_, ?_, ?_⟩
  ·intro y0 y1 y2 y3
   unfold color_All.l0
   repeat' first | (with_reducible first | exact ih0 _ _ _ _ | exact ih1 _ _ _ _ _ | exact ih2 _ _ _ _ _ _ | exact ih3 _ _ _ _ _ | exact color_contour.mono _ _ _ | exact corner_All.mono _ _ | exact LeO.refl _ | exact LeO.none _ | refine LeO.ite ?_ ?_ | refine LeO.bind ?_ (fun _ => ?_)) | exact ih0 _ _ _ _ | exact ih1 _ _ _ _ _ | exact ih2 _ _ _ _ _ _ | exact ih3 _ _ _ _ _ | exact color_contour.mono _ _ _ | exact corner_All.mono _ _ | exact LeO.none _ | refine LeO.ite ?_ ?_ | refine LeO.bind ?_ (fun _ => ?_)
  ·intro y0 y1 y2 y3 y4
   unfold color_All.j2
   repeat' first | (with_reducible first | exact ih0 _ _ _ _ | exact ih1 _ _ _ _ _ | exact ih2 _ _ _ _ _ _ | exact ih3 _ _ _ _ _ | exact color_contour.mono _ _ _ | exact corner_All.mono _ _ | exact LeO.refl _ | exact LeO.none _ | refine LeO.ite ?_ ?_ | refine LeO.bind ?_ (fun _ => ?_)) | exact ih0 _ _ _ _ | exact ih1 _ _ _ _ _ | exact ih2 _ _ _ _ _ _ | exact ih3 _ _ _ _ _ | exact color_contour.mono _ _ _ | exact corner_All.mono _ _ | exact LeO.none _ | refine LeO.ite ?_ ?_ | refine LeO.bind ?_ (fun _ => ?_)
  ·intro y0 y1 y2 y3 y4 y5
   unfold color_All.l2
   repeat' first | (with_reducible first | exact ih0 _ _ _ _ | exact ih1 _ _ _ _ _ | exact ih2 _ _ _ _ _ _ | exact ih3 _ _ _ _ _ | exact color_contour.mono _ _ _ | exact corner_All.mono _ _ | exact LeO.refl _ | exact LeO.none _ | refine LeO.ite ?_ ?_ | refine LeO.bind ?_ (fun _ => ?_)) | exact ih0 _ _ _ _ | exact ih1 _ _ _ _ _ | exact ih2 _ _ _ _ _ _ | exact ih3 _ _ _ _ _ | exact color_contour.mono _ _ _ | exact corner_All.mono _ _ | exact LeO.none _ | refine LeO.ite ?_ ?_ | refine LeO.bind ?_ (fun _ => ?_)
  ·intro y0 y1 y2 y3 y4
   unfold color_All.l1
   repeat' first | (with_reducible first | exact ih0 _ _ _ _ | exact ih1 _ _ _ _ _ | exact ih2 _ _ _ _ _ _ | exact ih3 _ _ _ _ _ | exact color_contour.mono _ _ _ | exact corner_All.mono _ _ | exact LeO.refl _ | exact LeO.none _ | refine LeO.ite ?_ ?_ | refine LeO.bind ?_ (fun _ => ?_)) | exact ih0 _ _ _ _ | exact ih1 _ _ _ _ _ | exact ih2 _ _ _ _ _ _ | exact ih3 _ _ _ _ _ | exact color_contour.mono _ _ _ | exact corner_All.mono _ _ | exact LeO.none _ | refine LeO.ite ?_ ?_ | refine LeO.bind ?_ (fun _ => ?_)
theorem color_All.mono : ∀ a0 k, LeO (color_All.f k a0) (color_All.f (k + 1) a0) := by
 intro a0 k
 obtain ⟨ih0, ih1, ih2, ih3⟩ := color_All.mono_l k
 unfold color_All.f
 repeat' first | (with_reducible first | exact ih0 _ _ _ _ | exact ih1 _ _ _ _ _ | exact ih2 _ _ _ _ _ _ | exact ih3 _ _ _ _ _ | exact color_contour.mono _ _ _ | exact corner_All.mono _ _ | exact LeO.refl _ | exact LeO.none _ | refine LeO.ite ?_ ?_ | refine LeO.bind ?_ (fun _ => ?_)) | exact ih0 _ _ _ _ | exact ih1 _ _ _ _ _ | exact ih2 _ _ _ _ _ _ | exact ih3 _ _ _ _ _ | exact color_contour.mono _ _ _ | exact corner_All.mono _ _ | exact LeO.none _ | refine LeO.ite ?_ ?_ | refine LeO.bind ?_ (fun _ => ?_)
def color_All.T8 : Bool × List (List Nat × List Nat) := (true, [([], []), ([], []), ([1], [1]), ([0, 2], [0, 2]), ([3], [3]), ([4], [4]), ([4], [4]), ([5, 6, 4], [4, 5, 6]), ([7, 4], [4, 7]), ([8, 4], [4, 8]), ([4], [4]), ([4], [4]), ([10, 11, 4], [4, 10, 11]), ([12, 4], [4, 12]), ([13, 4], [4, 13]), ([9, 14, 4], [4, 9, 14]), ([4, 15], [4, 15])])
def color_All.B8 : List Nat := [0, 0, 2, 7, 15, 31, 31, 127, 255, 511, 31, 31, 3103, 7199, 15391, 32767, 65535]
theorem color_All.tab8 : rtab .any (opsOf Try.f46 8) = color_All.T8 := by kernel_rfl
theorem color_All.bits8 : waitsOk color_All.T8.2 color_All.B8 = true := by kernel_rfl
def color_All.T12 : Bool × List (List Nat × List Nat) := (true, [([], []), ([], []), ([1], [1]), ([2], [2]), ([], []), ([3, 4], [3, 4]), ([5], [5]), ([0, 6], [0, 6]), ([], []), ([8], [8]), ([7, 7, 0, 1, 2, 3, 4, 5, 6, 7], [0, 7]), ([9, 10, 0, 1, 2, 3, 4, 5, 6, 7, 8, 9, 10], [1, 8, 9])])
def color_All.B12 : List Nat := [0, 0, 2, 6, 0, 30, 62, 127, 0, 256, 255, 2047]
theorem color_All.tab12 : rtab .any (opsOf Try.f46 12) = color_All.T12 := by kernel_rfl
theorem color_All.bits12 : waitsOk color_All.T12.2 color_All.B12 = true := by kernel_rfl
set_option maxHeartbeats 8000000 in
set_option maxRecDepth 100000 in
theorem color_All.calls (k : Nat) (A0 : Option Addr) (c0 : Nat) (l0 : List (S38)) (r1 : List Int) (r2 : Int) (w : World) (hr0 : Kd.C k38 w A0 l0.length l0) (hc0 : l0.length ≤ c0) (h : color_All.f k l0 = some (r1, r2)) :
  Calls Try.prog 46 #[.slice A0 l0.length c0] w fun e w' => ∃ v0_ : Value, e = .returned (.tuple #[v0_, .int .i64 r2]) ∧ Kd.R (Kd.int .i64) 3 w' w.heap.size (fun _ => True) v0_ r1 ∧ Below w.heap.size w w' := by
 have HR0 := Aside0.mk hr0
 have HC0 := Aside0.mk hc0
 clear hr0 hc0
 have HB := Aside0.mk (Below.refl w.heap.size w)
 have H := h
 clear h; unfold color_All.f at H
 replace H := Option.bind_eq_some_iff.mp H
 obtain ⟨⟨t232, t233⟩, A20, H⟩ := H
 replace H : (if t233 = 0 then (color_All.l0 k l0 t232 ([] : List Int) 0) else (some (([] : List Int), t233))) = some (r1, r2) := H
 have A2 := Aside0.mk A20
 clear A20
 by_cases c3 : t233 = 0
 ·rw [if_pos c3] at H
  have c3b0 : (t233 == 0) = true := beq_iff_eq.mpr c3
  have c3b1 : (t233 != 0) = false := bne_eq_false_iff_eq.mpr c3
  clear c3
  have H' := Aside0.mk H
  clear H
  go_enter Try.func46, Try.ntmps46
  go_wp2_with (first | ((with_reducible refine gate_callee (f := 13) rfl ?_); refine goesL_ (some 12) rfl rfl Try.func13 (by kernel_rfl) rfl #[.slice A0 l0.length c0] rfl am ?_; (with_reducible refine (corner_All.calls k _ _ l0 t232 t233 _ ?side1 ?side2 A2.out).mono ?_); (case side1 => exact kc HR0.out); (case side2 => exact HC0.out); rintro e w4 ⟨v234, rfl, ho0, hb⟩; refine ⟨_, rfl, ?_⟩; have HO235 := Aside0.mk (Kd.R_lower ho0 (below_size (bl0 HB.out))); replace HB := Aside0.mk (below_step (bl0 HB.out) hb); (try clear hb); (try clear ho0)))
  go_loopg [4, 6, 7] k (fun kq v4 v6 v7 w' => ∃ (x4_1 : List Int) (x6_1 : List Int) (x7_1 : Int), v7 = .int .i64 x7_1 ∧ Aside0 (color_All.l0 kq l0 x4_1 x6_1 x7_1 = some (r1, r2)) ∧ Aside0 (kq ≤ k) ∧ Aside0 (Kd.Q (Kd.int .i64) 3 w' w.heap.size (fun k_ => some k_ ≠ (v6 : Value).ownBlock) v4 x4_1) ∧ Aside0 (Kd.R (Kd.int .i64) 3 w' w.heap.size (fun k_ => some k_ ≠ (v4 : Value).ownBlock) v6 x6_1) ∧ Aside0 (Below w.heap.size w w'))
  case atStart => exact ⟨(t232), (([] : List Int)), (0), fr, H', ⟨Nat.le_refl _⟩, ⟨Kd.Q_of_R (by (with_reducible repeat (first | apply Kd.R_alloc | apply Kd.R_drewN | apply Kd.R_drew)); exact Kd.R_mono HO235.out (fun _ hk => (by simp [Value.ownBlock])))⟩, ⟨by first | exact Kd.R_nil _ _ _ _ _ | exact Kd.N_nil _ _ _ _ _ | exact Kd.V_nil _ _ _ _ _ | exact Kd.Q_nil _ _ _ _ _ | exact Kd.S_nil _ _ _ _ _⟩, ⟨bl0 HB.out⟩⟩
  case round =>
   clear H'
   try clear c1
   try clear p2
   try clear c3b0
   try clear c3b1
   try clear c4
   obtain ⟨x4_1, x6_1, x7_1, rfl, HA, HK1, HO_4, HO_6, HB⟩ := hrel
   cases gk with
   | zero => exact absurd HA.out (by simp [color_All.l0])
   | succ k1 =>
    have H := HA.out
    clear HA
    simp only [color_All.l0] at H
    by_cases c5 : x7_1 < (l0.length : Int)
    ·rw [if_pos c5] at H
     have c5b0 := decide_eq_true c5
     clear c5
     have HC6 := Aside0.mk H
     clear H
     go_upto_block 2 with (fail)
     go_cut [8] (fun v8 wc => ∃ (kq : Nat) (x8_5 : Int), v8 = .int .i64 x8_5 ∧ Aside0 (color_All.j2 kq l0 x4_1 x6_1 x7_1 x8_5 = some (r1, r2)) ∧ Aside0 (kq ≤ k1) ∧ Aside0 (Kd.Q (Kd.int .i64) 3 wc w.heap.size (fun k_ => some k_ ≠ (u6 : Value).ownBlock) u4 x4_1) ∧ Aside0 (Kd.R (Kd.int .i64) 3 wc w.heap.size (fun k_ => some k_ ≠ (u4 : Value).ownBlock) u6 x6_1) ∧ Aside0 (Below w.heap.size w wc))
     case first =>
      have H := HC6.out
      clear HC6
      have H' := Aside0.mk H
      clear H
      go_wp2
      go_loopg [8] k1 (fun kq v8 w' => ∃ (x8_2 : Int), v8 = .int .i64 x8_2 ∧ Aside0 (color_All.l1 kq l0 x4_1 x6_1 x7_1 x8_2 = some (r1, r2)) ∧ Aside0 (kq ≤ k1) ∧ Aside0 (Kd.Q (Kd.int .i64) 3 w' w.heap.size (fun k_ => some k_ ≠ (u6 : Value).ownBlock) u4 x4_1) ∧ Aside0 (Kd.R (Kd.int .i64) 3 w' w.heap.size (fun k_ => some k_ ≠ (u4 : Value).ownBlock) u6 x6_1) ∧ Aside0 (Below w.heap.size w w'))
      case atStart => exact ⟨(wrap64 (x7_1 + 1)), fr, H', ⟨Nat.le_refl _⟩, ⟨by (with_reducible repeat (first | apply Kd.Q_alloc | apply Kd.Q_drewN | apply Kd.Q_drew)); exact HO_4.out⟩, ⟨kr HO_6.out⟩, ⟨bl0 HB.out⟩⟩
      case round =>
       clear H'
       try clear c1
       try clear p2
       try clear c3b0
       try clear c3b1
       try clear c4
       try clear c5b0
       try clear p6
       try clear p2
       obtain ⟨x8_2, rfl, HA, HK2, HO_4, HO_6, HB⟩ := hrel
       cases gk with
       | zero => exact absurd HA.out (by simp [color_All.l1])
       | succ k2 =>
        have H := HA.out
        clear HA
        simp only [color_All.l1] at H
        by_cases c7 : x8_2 < (l0.length : Int)
        ·rw [if_pos c7] at H
         have c7b0 := decide_eq_true c7
         clear c7
         (first | rw [c7b0] | (simp only [i64_w, i32_w]; rw [c7b0]) | skip)
         refine ifk H ?_; clear H; intro c8 H
         have c8b0 := decide_eq_true c8
         clear c8
         refine ifk H ?_; clear H; intro c9 H
         have c9b0 := decide_eq_true c9
         clear c9
         refine ifk H ?_; clear H; intro c10 H
         have c10b0 := decide_eq_true c10
         clear c10
         by_cases c11 : ((rd_T38 l0 x8_2).f0) = ((rd_T38 l0 x7_1).f0)
         ·rw [if_pos c11] at H
          have c11b0 : (((rd_T38 l0 x8_2).f0) == ((rd_T38 l0 x7_1).f0)) = true := beq_iff_eq.mpr c11
          have c11b1 : (((rd_T38 l0 x8_2).f0) != ((rd_T38 l0 x7_1).f0)) = false := bne_eq_false_iff_eq.mpr c11
          clear c11
          have H' := Aside0.mk H
          clear H
          try go_wp2
          replace HO_4 := Aside0.mk (Kd.Q_drew HO_4.out)
          replace HO_6 := Aside0.mk (Kd.R_drew HO_6.out)
          replace HB := Aside0.mk (below_drew1 HB.out)
          have p236 : 0 ≤ (x8_2 : Int) := od
          have q236 : x8_2 < (l0.length : Int) := od
          obtain ⟨ad236, e236, hx236_0, hx236_1, hx236_2, hx236_3, hx236_4, hx236_5, hx236_6, hx236_7⟩ := at_T38 HR0.out x8_2 p236 q236
          have hw236_7 := hx236_7
          have hw236_6 := hx236_6
          have hw236_5 := hx236_5
          have hw236_4 := hx236_4
          have hw236_3 := hx236_3
          have hw236_2 := hx236_2
          have hw236_1 := hx236_1
          have hw236_0 := hx236_0
          cases e236
          replace hx236_0 := hc HB hx236_0
          replace hx236_1 := hc HB hx236_1
          replace hx236_2 := hc HB hx236_2
          replace hx236_3 := hc HB hx236_3
          replace hx236_4 := hc HB hx236_4
          replace hx236_5 := hc HB hx236_5
          replace hx236_6 := hc HB hx236_6
          replace hx236_7 := hc HB hx236_7
          replace p236 := eq_true p236
          replace q236 := eq_true q236
          have p237 : 0 ≤ (x7_1 : Int) := od
          have q237 : x7_1 < (l0.length : Int) := od
          obtain ⟨ad237, e237, hx237_0, hx237_1, hx237_2, hx237_3, hx237_4, hx237_5, hx237_6, hx237_7⟩ := at_T38 HR0.out x7_1 p237 q237
          have hw237_7 := hx237_7
          have hw237_6 := hx237_6
          have hw237_5 := hx237_5
          have hw237_4 := hx237_4
          have hw237_3 := hx237_3
          have hw237_2 := hx237_2
          have hw237_1 := hx237_1
          have hw237_0 := hx237_0
          obtain rfl : ad236 = ad237 := (by injection e237)
          replace hx237_0 := hc HB hx237_0
          replace hx237_1 := hc HB hx237_1
          replace hx237_2 := hc HB hx237_2
          replace hx237_3 := hc HB hx237_3
          replace hx237_4 := hc HB hx237_4
          replace hx237_5 := hc HB hx237_5
          replace hx237_6 := hc HB hx237_6
          replace hx237_7 := hc HB hx237_7
          replace p237 := eq_true p237
          replace q237 := eq_true q237
          refine start_ (n := 17) (S := fun w' => w'.cell? (ad236.add ((x8_2).toNat * 8)) = some (.int .i64 ((rd_T38 l0 x8_2).f0)) ∧ w'.cell? ⟨(ad236.add ((x8_2).toNat * 8)).block, (ad236.add ((x8_2).toNat * 8)).off + 1, none⟩ = some (.bool ((rd_T38 l0 x8_2).f1)) ∧ w'.cell? ⟨(ad236.add ((x8_2).toNat * 8)).block, (ad236.add ((x8_2).toNat * 8)).off + 2, none⟩ = some (.int .i64 ((rd_T38 l0 x8_2).f2.f0)) ∧ w'.cell? ⟨(ad236.add ((x8_2).toNat * 8)).block, (ad236.add ((x8_2).toNat * 8)).off + 3, none⟩ = some (.int .i64 ((rd_T38 l0 x8_2).f2.f1)) ∧ w'.cell? ⟨(ad236.add ((x8_2).toNat * 8)).block, (ad236.add ((x8_2).toNat * 8)).off + 4, none⟩ = some (.int .i64 ((rd_T38 l0 x8_2).f3.f0)) ∧ w'.cell? ⟨(ad236.add ((x8_2).toNat * 8)).block, (ad236.add ((x8_2).toNat * 8)).off + 5, none⟩ = some (.int .i64 ((rd_T38 l0 x8_2).f3.f1)) ∧ w'.cell? ⟨(ad236.add ((x8_2).toNat * 8)).block, (ad236.add ((x8_2).toNat * 8)).off + 6, none⟩ = some (.int .i64 ((rd_T38 l0 x8_2).f4.f0)) ∧ w'.cell? ⟨(ad236.add ((x8_2).toNat * 8)).block, (ad236.add ((x8_2).toNat * 8)).off + 7, none⟩ = some (.int .i64 ((rd_T38 l0 x8_2).f4.f1)) ∧ w'.cell? (ad236.add ((x7_1).toNat * 8)) = some (.int .i64 ((rd_T38 l0 x7_1).f0)) ∧ w'.cell? ⟨(ad236.add ((x7_1).toNat * 8)).block, (ad236.add ((x7_1).toNat * 8)).off + 1, none⟩ = some (.bool ((rd_T38 l0 x7_1).f1)) ∧ w'.cell? ⟨(ad236.add ((x7_1).toNat * 8)).block, (ad236.add ((x7_1).toNat * 8)).off + 2, none⟩ = some (.int .i64 ((rd_T38 l0 x7_1).f2.f0)) ∧ w'.cell? ⟨(ad236.add ((x7_1).toNat * 8)).block, (ad236.add ((x7_1).toNat * 8)).off + 3, none⟩ = some (.int .i64 ((rd_T38 l0 x7_1).f2.f1)) ∧ w'.cell? ⟨(ad236.add ((x7_1).toNat * 8)).block, (ad236.add ((x7_1).toNat * 8)).off + 4, none⟩ = some (.int .i64 ((rd_T38 l0 x7_1).f3.f0)) ∧ w'.cell? ⟨(ad236.add ((x7_1).toNat * 8)).block, (ad236.add ((x7_1).toNat * 8)).off + 5, none⟩ = some (.int .i64 ((rd_T38 l0 x7_1).f3.f1)) ∧ w'.cell? ⟨(ad236.add ((x7_1).toNat * 8)).block, (ad236.add ((x7_1).toNat * 8)).off + 6, none⟩ = some (.int .i64 ((rd_T38 l0 x7_1).f4.f0)) ∧ w'.cell? ⟨(ad236.add ((x7_1).toNat * 8)).block, (ad236.add ((x7_1).toNat * 8)).off + 7, none⟩ = some (.int .i64 ((rd_T38 l0 x7_1).f4.f1))) (ds := []) (ba 17 0) (by kernel_rfl) rfl rfl ⟨(hc HB hw236_0), (hc HB hw236_1), (hc HB hw236_2), (hc HB hw236_3), (hc HB hw236_4), (hc HB hw236_5), (hc HB hw236_6), (hc HB hw236_7), (hc HB hw237_0), (hc HB hw237_1), (hc HB hw237_2), (hc HB hw237_3), (hc HB hw237_4), (hc HB hw237_5), (hc HB hw237_6), (hc HB hw237_7)⟩ (fun hHeld => ?_); refine with_tabW color_All.tab8 color_All.bits8 (fun HT_ HW_ => ?_)
          generalize wr.drew = w12 at HO_4 HO_6 HB hx236_0 hx236_1 hx236_2 hx236_3 hx236_4 hx236_5 hx236_6 hx236_7 hx237_0 hx237_1 hx237_2 hx237_3 hx237_4 hx237_5 hx237_6 hx237_7 hHeld ⊢
          refine pI 0 24 (ba 17 1) HT_.out ?_
          refine pI 1 25 (ba 17 3) HT_.out ?_
          refine pI 2 26 (ba 17 7) HT_.out ?_
          refine pI 3 27 (ba 17 15) HT_.out ?_
          refine pI 4 28 (ba 17 31) HT_.out ?_
          refine pI 5 29 (ba 17 63) HT_.out ?_
          refine pI 6 30 (ba 17 127) HT_.out ?_
          refine pI 7 31 (ba 17 255) HT_.out ?_
          refine pI 8 32 (ba 17 511) HT_.out ?_
          refine pI 10 34 (ba 17 1535) HT_.out ?_
          refine pI 11 35 (ba 17 3583) HT_.out ?_
          refine pI 12 36 (ba 17 7679) HT_.out ?_
          refine pI 13 37 (ba 17 15871) HT_.out ?_
          refine take_ (i := 9) (N := some 33) (v := ?_) (a' := ?_) (ba 17 16383) rfl rfl (take_ofW HT_.out HW_.out (by kernel_rfl)) (fun _ _ _ h => h) (Or.inl ⟨by rfl, ?_⟩) hHeld ?_ ?_
          rotate_left
          ·rintro w' ⟨s0, s1, s2, s3, s4, s5, s6, s7, s8, s9, s10, s11, s12, s13, s14, s15⟩
           go_simp
           with_reducible rfl
          rotate_left
          ·exact pa
          refine take_ (i := 14) (N := some 38) (v := ?_) (a' := ?_) (ba 17 32767) rfl rfl (take_ofW HT_.out HW_.out (by kernel_rfl)) (fun _ _ _ h => h) (Or.inl ⟨by rfl, ?_⟩) hHeld ?_ ?_
          rotate_left
          ·rintro w' ⟨s0, s1, s2, s3, s4, s5, s6, s7, s8, s9, s10, s11, s12, s13, s14, s15⟩
           go_simp
           with_reducible rfl
          rotate_left
          ·exact pa
          refine pI 15 39 (ba 17 65535) HT_.out ?_
          refine pI 16 40 (ba 17 131071) HT_.out ?_
          refine done_ (done_of HT_.out (by kernel_rfl)) ?_
          try go_wp2
          go_roundg k2
          case measure => have := HK1.out; have := HK2.out; omega
          case rel => exact ⟨(wrap64 (x8_2 + 1)), fr, H', ⟨by have := HK1.out; have := HK2.out; omega⟩, ⟨by (with_reducible repeat (first | apply Kd.Q_alloc | apply Kd.Q_drewN | apply Kd.Q_drew)); exact HO_4.out⟩, ⟨kr HO_6.out⟩, ⟨bl0 HB.out⟩⟩
         rw [if_neg c11] at H
         have c11b0 : (((rd_T38 l0 x8_2).f0) == ((rd_T38 l0 x7_1).f0)) = false := beq_eq_false_iff_ne.mpr c11
         have c11b1 : (((rd_T38 l0 x8_2).f0) != ((rd_T38 l0 x7_1).f0)) = true := bne_iff_ne.mpr c11
         have H' := Aside0.mk H
         clear H
         try go_wp2
         replace HO_4 := Aside0.mk (Kd.Q_drew HO_4.out)
         replace HO_6 := Aside0.mk (Kd.R_drew HO_6.out)
         replace HB := Aside0.mk (below_drew1 HB.out)
         have p236 : 0 ≤ (x8_2 : Int) := od
         have q236 : x8_2 < (l0.length : Int) := od
         obtain ⟨ad236, e236, hx236_0, hx236_1, hx236_2, hx236_3, hx236_4, hx236_5, hx236_6, hx236_7⟩ := at_T38 HR0.out x8_2 p236 q236
         have hw236_7 := hx236_7
         have hw236_6 := hx236_6
         have hw236_5 := hx236_5
         have hw236_4 := hx236_4
         have hw236_3 := hx236_3
         have hw236_2 := hx236_2
         have hw236_1 := hx236_1
         have hw236_0 := hx236_0
         cases e236
         replace hx236_0 := hc HB hx236_0
         replace hx236_1 := hc HB hx236_1
         replace hx236_2 := hc HB hx236_2
         replace hx236_3 := hc HB hx236_3
         replace hx236_4 := hc HB hx236_4
         replace hx236_5 := hc HB hx236_5
         replace hx236_6 := hc HB hx236_6
         replace hx236_7 := hc HB hx236_7
         replace p236 := eq_true p236
         replace q236 := eq_true q236
         have p237 : 0 ≤ (x7_1 : Int) := od
         have q237 : x7_1 < (l0.length : Int) := od
         obtain ⟨ad237, e237, hx237_0, hx237_1, hx237_2, hx237_3, hx237_4, hx237_5, hx237_6, hx237_7⟩ := at_T38 HR0.out x7_1 p237 q237
         have hw237_7 := hx237_7
         have hw237_6 := hx237_6
         have hw237_5 := hx237_5
         have hw237_4 := hx237_4
         have hw237_3 := hx237_3
         have hw237_2 := hx237_2
         have hw237_1 := hx237_1
         have hw237_0 := hx237_0
         obtain rfl : ad236 = ad237 := (by injection e237)
         replace hx237_0 := hc HB hx237_0
         replace hx237_1 := hc HB hx237_1
         replace hx237_2 := hc HB hx237_2
         replace hx237_3 := hc HB hx237_3
         replace hx237_4 := hc HB hx237_4
         replace hx237_5 := hc HB hx237_5
         replace hx237_6 := hc HB hx237_6
         replace hx237_7 := hc HB hx237_7
         replace p237 := eq_true p237
         replace q237 := eq_true q237
         refine start_ (n := 17) (S := fun w' => w'.cell? (ad236.add ((x8_2).toNat * 8)) = some (.int .i64 ((rd_T38 l0 x8_2).f0)) ∧ w'.cell? ⟨(ad236.add ((x8_2).toNat * 8)).block, (ad236.add ((x8_2).toNat * 8)).off + 1, none⟩ = some (.bool ((rd_T38 l0 x8_2).f1)) ∧ w'.cell? ⟨(ad236.add ((x8_2).toNat * 8)).block, (ad236.add ((x8_2).toNat * 8)).off + 2, none⟩ = some (.int .i64 ((rd_T38 l0 x8_2).f2.f0)) ∧ w'.cell? ⟨(ad236.add ((x8_2).toNat * 8)).block, (ad236.add ((x8_2).toNat * 8)).off + 3, none⟩ = some (.int .i64 ((rd_T38 l0 x8_2).f2.f1)) ∧ w'.cell? ⟨(ad236.add ((x8_2).toNat * 8)).block, (ad236.add ((x8_2).toNat * 8)).off + 4, none⟩ = some (.int .i64 ((rd_T38 l0 x8_2).f3.f0)) ∧ w'.cell? ⟨(ad236.add ((x8_2).toNat * 8)).block, (ad236.add ((x8_2).toNat * 8)).off + 5, none⟩ = some (.int .i64 ((rd_T38 l0 x8_2).f3.f1)) ∧ w'.cell? ⟨(ad236.add ((x8_2).toNat * 8)).block, (ad236.add ((x8_2).toNat * 8)).off + 6, none⟩ = some (.int .i64 ((rd_T38 l0 x8_2).f4.f0)) ∧ w'.cell? ⟨(ad236.add ((x8_2).toNat * 8)).block, (ad236.add ((x8_2).toNat * 8)).off + 7, none⟩ = some (.int .i64 ((rd_T38 l0 x8_2).f4.f1)) ∧ w'.cell? (ad236.add ((x7_1).toNat * 8)) = some (.int .i64 ((rd_T38 l0 x7_1).f0)) ∧ w'.cell? ⟨(ad236.add ((x7_1).toNat * 8)).block, (ad236.add ((x7_1).toNat * 8)).off + 1, none⟩ = some (.bool ((rd_T38 l0 x7_1).f1)) ∧ w'.cell? ⟨(ad236.add ((x7_1).toNat * 8)).block, (ad236.add ((x7_1).toNat * 8)).off + 2, none⟩ = some (.int .i64 ((rd_T38 l0 x7_1).f2.f0)) ∧ w'.cell? ⟨(ad236.add ((x7_1).toNat * 8)).block, (ad236.add ((x7_1).toNat * 8)).off + 3, none⟩ = some (.int .i64 ((rd_T38 l0 x7_1).f2.f1)) ∧ w'.cell? ⟨(ad236.add ((x7_1).toNat * 8)).block, (ad236.add ((x7_1).toNat * 8)).off + 4, none⟩ = some (.int .i64 ((rd_T38 l0 x7_1).f3.f0)) ∧ w'.cell? ⟨(ad236.add ((x7_1).toNat * 8)).block, (ad236.add ((x7_1).toNat * 8)).off + 5, none⟩ = some (.int .i64 ((rd_T38 l0 x7_1).f3.f1)) ∧ w'.cell? ⟨(ad236.add ((x7_1).toNat * 8)).block, (ad236.add ((x7_1).toNat * 8)).off + 6, none⟩ = some (.int .i64 ((rd_T38 l0 x7_1).f4.f0)) ∧ w'.cell? ⟨(ad236.add ((x7_1).toNat * 8)).block, (ad236.add ((x7_1).toNat * 8)).off + 7, none⟩ = some (.int .i64 ((rd_T38 l0 x7_1).f4.f1))) (ds := []) (ba 17 0) (by kernel_rfl) rfl rfl ⟨(hc HB hw236_0), (hc HB hw236_1), (hc HB hw236_2), (hc HB hw236_3), (hc HB hw236_4), (hc HB hw236_5), (hc HB hw236_6), (hc HB hw236_7), (hc HB hw237_0), (hc HB hw237_1), (hc HB hw237_2), (hc HB hw237_3), (hc HB hw237_4), (hc HB hw237_5), (hc HB hw237_6), (hc HB hw237_7)⟩ (fun hHeld => ?_); refine with_tabW color_All.tab8 color_All.bits8 (fun HT_ HW_ => ?_)
         generalize wr.drew = w13 at HO_4 HO_6 HB hx236_0 hx236_1 hx236_2 hx236_3 hx236_4 hx236_5 hx236_6 hx236_7 hx237_0 hx237_1 hx237_2 hx237_3 hx237_4 hx237_5 hx237_6 hx237_7 hHeld ⊢
         refine pI 0 24 (ba 17 1) HT_.out ?_
         refine pI 1 25 (ba 17 3) HT_.out ?_
         refine pI 2 26 (ba 17 7) HT_.out ?_
         refine pI 3 27 (ba 17 15) HT_.out ?_
         refine pI 4 28 (ba 17 31) HT_.out ?_
         refine pI 5 29 (ba 17 63) HT_.out ?_
         refine pI 6 30 (ba 17 127) HT_.out ?_
         refine pI 7 31 (ba 17 255) HT_.out ?_
         refine pI 8 32 (ba 17 511) HT_.out ?_
         refine pI 10 34 (ba 17 1535) HT_.out ?_
         refine pI 11 35 (ba 17 3583) HT_.out ?_
         refine pI 12 36 (ba 17 7679) HT_.out ?_
         refine pI 13 37 (ba 17 15871) HT_.out ?_
         refine take_ (i := 9) (N := some 33) (v := ?_) (a' := ?_) (ba 17 16383) rfl rfl (take_ofW HT_.out HW_.out (by kernel_rfl)) (fun _ _ _ h => h) (Or.inl ⟨by rfl, ?_⟩) hHeld ?_ ?_
         rotate_left
         ·rintro w' ⟨s0, s1, s2, s3, s4, s5, s6, s7, s8, s9, s10, s11, s12, s13, s14, s15⟩
          go_simp
          with_reducible rfl
         rotate_left
         ·exact pa
         refine take_ (i := 14) (N := some 38) (v := ?_) (a' := ?_) (ba 17 32767) rfl rfl (take_ofW HT_.out HW_.out (by kernel_rfl)) (fun _ _ _ h => h) (Or.inl ⟨by rfl, ?_⟩) hHeld ?_ ?_
         rotate_left
         ·rintro w' ⟨s0, s1, s2, s3, s4, s5, s6, s7, s8, s9, s10, s11, s12, s13, s14, s15⟩
          go_simp
          with_reducible rfl
         rotate_left
         ·exact pa
         refine pI 15 39 (ba 17 65535) HT_.out ?_
         refine pI 16 40 (ba 17 131071) HT_.out ?_
         refine done_ (done_of HT_.out (by kernel_rfl)) ?_
         try go_wp2
         go_meet
         case rel => exact ⟨_, (x8_2), fr, H', ⟨by have := HK1.out; have := HK2.out; first | omega | exact Nat.le_refl _⟩, ⟨by (with_reducible repeat (first | apply Kd.Q_alloc | apply Kd.Q_drewN | apply Kd.Q_drew)); exact HO_4.out⟩, ⟨kr HO_6.out⟩, ⟨bl0 HB.out⟩⟩
        rw [if_neg c7] at H
        have c7b0 := decide_eq_false c7
        clear c7
        (first | rw [c7b0] | (simp only [i64_w, i32_w]; rw [c7b0]) | skip)
        have H' := Aside0.mk H
        clear H
        try go_wp2
        replace HO_4 := Aside0.mk (Kd.Q_drew HO_4.out)
        replace HO_6 := Aside0.mk (Kd.R_drew HO_6.out)
        replace HB := Aside0.mk (below_drew1 HB.out)
        refine start_ (n := 17) (S := fun w' => True) (ds := []) (ba 17 0) (by kernel_rfl) rfl rfl trivial (fun hHeld => ?_); refine with_tabW color_All.tab8 color_All.bits8 (fun HT_ HW_ => ?_)
        generalize wr.drew = w14 at HO_4 HO_6 HB hHeld ⊢
        refine pI 0 24 (ba 17 1) HT_.out ?_
        refine pI 1 25 (ba 17 3) HT_.out ?_
        refine pI 2 26 (ba 17 7) HT_.out ?_
        refine pI 3 27 (ba 17 15) HT_.out ?_
        refine pI 4 28 (ba 17 31) HT_.out ?_
        refine pO 5 29 (ba 17 63) HT_.out ?_
        refine pO 6 30 (ba 17 127) HT_.out ?_
        refine pO 7 31 (ba 17 255) HT_.out ?_
        refine pO 8 32 (ba 17 511) HT_.out ?_
        refine pO 9 33 (ba 17 1023) HT_.out ?_
        refine pO 10 34 (ba 17 2047) HT_.out ?_
        refine pO 11 35 (ba 17 4095) HT_.out ?_
        refine pO 12 36 (ba 17 8191) HT_.out ?_
        refine pO 13 37 (ba 17 16383) HT_.out ?_
        refine pO 14 38 (ba 17 32767) HT_.out ?_
        refine pO 15 39 (ba 17 65535) HT_.out ?_
        refine pI 16 40 (ba 17 131071) HT_.out ?_
        refine done_ (done_of HT_.out (by kernel_rfl)) ?_
        try go_wp2
        go_meet
        case rel => exact ⟨_, (x8_2), fr, H', ⟨by have := HK1.out; have := HK2.out; first | omega | exact Nat.le_refl _⟩, ⟨by (with_reducible repeat (first | apply Kd.Q_alloc | apply Kd.Q_drewN | apply Kd.Q_drew)); exact HO_4.out⟩, ⟨kr HO_6.out⟩, ⟨bl0 HB.out⟩⟩
     case rest =>
      clear HC6
      try clear c1
      try clear p2
      try clear q2
      try clear hx2
      try clear c3b0
      try clear c3b1
      try clear c4
      try clear c5b0
      try clear p6
      try clear c7b0
      try clear c8b0
      try clear c9b0
      try clear c10b0
      try clear c11b0
      try clear c11b1
      try clear c13
      try clear hx236_0
      try clear hx236_1
      try clear hx236_2
      try clear hx236_3
      try clear hx236_4
      try clear hx236_5
      try clear hx236_6
      try clear hx236_7
      try clear hx237_0
      try clear hx237_1
      try clear hx237_2
      try clear hx237_3
      try clear hx237_4
      try clear hx237_5
      try clear hx237_6
      try clear hx237_7
      try clear p2
      try clear p236
      try clear p237
      try clear p6
      try clear q236
      try clear q237
      obtain ⟨kq, x8_5, rfl, HA, HJ5, HO_4, HO_6, HB⟩ := hcut
      cases kq with
      | zero => exact absurd HA.out (by simp [color_All.j2])
      | succ kj5 =>
       have H := HA.out
       clear HA
       simp only [color_All.j2] at H
       have H' := Aside0.mk H
       clear H
       go_wp2
       go_loopg [4, 9] kj5 (fun kq v4 v9 w' => ∃ (x4_3 : List Int) (x9_3 : List Int), Aside0 (color_All.l2 kq l0 x4_3 x6_1 x7_1 x8_5 x9_3 = some (r1, r2)) ∧ Aside0 (kq ≤ kj5) ∧ Aside0 (Kd.Q (Kd.int .i64) 3 w' w.heap.size (fun k_ => some k_ ≠ (u6 : Value).ownBlock ∧ some k_ ≠ (v9 : Value).ownBlock) v4 x4_3) ∧ Aside0 (Kd.R (Kd.int .i64) 3 w' w.heap.size (fun k_ => some k_ ≠ (v4 : Value).ownBlock ∧ some k_ ≠ (v9 : Value).ownBlock) u6 x6_1) ∧ Aside0 (Kd.R (Kd.int .i64) 3 w' w.heap.size (fun k_ => some k_ ≠ (v4 : Value).ownBlock ∧ some k_ ≠ (u6 : Value).ownBlock) v9 x9_3) ∧ Aside0 (Below w.heap.size w w'))
       case atStart => exact ⟨(x4_1), (([] : List Int)), H', ⟨Nat.le_refl _⟩, ⟨by (with_reducible repeat (first | apply Kd.Q_alloc | apply Kd.Q_drewN | apply Kd.Q_drew)); exact Kd.Q_mono HO_4.out (fun _ hk => ⟨hk, (by simp [Value.ownBlock])⟩)⟩, ⟨by (with_reducible repeat (first | apply Kd.R_alloc | apply Kd.R_drewN | apply Kd.R_drew)); exact Kd.R_mono HO_6.out (fun _ hk => ⟨hk, (by simp [Value.ownBlock])⟩)⟩, ⟨by first | exact Kd.R_nil _ _ _ _ _ | exact Kd.N_nil _ _ _ _ _ | exact Kd.V_nil _ _ _ _ _ | exact Kd.Q_nil _ _ _ _ _ | exact Kd.S_nil _ _ _ _ _⟩, ⟨bl0 HB.out⟩⟩
       case round =>
        clear H'
        try clear c1
        try clear p2
        try clear q2
        try clear hx2
        try clear c3b0
        try clear c3b1
        try clear c4
        try clear c5b0
        try clear p6
        try clear c7b0
        try clear c8b0
        try clear c9b0
        try clear c10b0
        try clear c11b0
        try clear c11b1
        try clear c13
        try clear hx236_0
        try clear hx236_1
        try clear hx236_2
        try clear hx236_3
        try clear hx236_4
        try clear hx236_5
        try clear hx236_6
        try clear hx236_7
        try clear hx237_0
        try clear hx237_1
        try clear hx237_2
        try clear hx237_3
        try clear hx237_4
        try clear hx237_5
        try clear hx237_6
        try clear hx237_7
        try clear p2
        try clear p236
        try clear p237
        try clear p6
        try clear q2
        try clear q236
        try clear q237
        obtain ⟨x4_3, x9_3, HA, HK3, HO_4, HO_6, HO_9, HB⟩ := hrel
        cases gk with
        | zero => exact absurd HA.out (by simp [color_All.l2])
        | succ k3 =>
         have H := HA.out
         clear HA
         simp only [color_All.l2] at H
         by_cases c15 : (x4_3.length : Int) > 0
         ·rw [if_pos c15] at H
          have c15b0 : decide (0 < (x4_3.length : Int)) = true := decide_eq_true c15
          have c15b1 : decide (0 < x4_3.length) = true := decide_eq_true (by omega)
          clear c15
          refine ifk H ?_; clear H; intro c16 H
          have c16b0 := decide_eq_true c16
          have c16b1 : decide (0 < x4_3.length) = true := decide_eq_true (by omega)
          clear c16
          by_cases c17 : (rd x4_3 0) < x8_5
          ·rw [if_pos c17] at H
           have c17b0 := decide_eq_true c17
           clear c17
           refine ifk H ?_; clear H; intro c18 H
           have LMc18 := Aside0.mk c18
           clear c18
           obtain ⟨y240, hy240⟩ : ∃ y_ : List Int, y_ = (x9_3 ++ [wrap64 ((rd x4_3 0) - x7_1)]) := ⟨_, rfl⟩
           replace H : (if 1 ≤ (x4_3.length : Int) then (color_All.l2 k3 l0 (x4_3.drop (1 : Int).toNat) x6_1 x7_1 x8_5 y240) else (none)) = some (r1, r2) := by (try rw [hy240]); first | with_reducible exact H | (have H2_ := (Option.bind_some _ _).symm.trans H; with_reducible exact H2_) | exact H
           have Ny240 := Aside0.mk hy240
           clear hy240
           refine ifk H ?_; clear H; intro c19 H
           have c19b0 := eq_true c19
           have c19b1 : decide (1 ≤ (x4_3.length : Int)) = true := decide_eq_true c19
           clear c19
           obtain ⟨y243, hy243⟩ : ∃ y_ : List Int, y_ = (x4_3.drop (1 : Int).toNat) := ⟨_, rfl⟩
           replace H : (color_All.l2 k3 l0 y243 x6_1 x7_1 x8_5 y240) = some (r1, r2) := by (try rw [hy243]); first | with_reducible exact H | (have H2_ := (Option.bind_some _ _).symm.trans H; with_reducible exact H2_) | exact H
           have Ny243 := Aside0.mk hy243
           clear hy243
           have H' := Aside0.mk H
           clear H
           obtain ⟨Ao20, co20, eo20, _⟩ := Kd.Q_slice HO_4.out
           subst eo20
           have p238 : 0 ≤ (0 : Int) := (by omega)
           have q238 : 0 < (x4_3.length : Int) := od
           obtain ⟨ad238, e238, hx238_0⟩ := Kd.at_int (Kd.Q_reads' HO_4.out).2.2 0 p238 q238
           cases e238
           have qi238 : (0 < x4_3.length) = True := eq_true (by omega)
           (try rw [show ((0 : Int)).toNat = 0 from rfl] at hx238_0)
           (try rw [Addr.add_zero'] at hx238_0)
           replace p238 := eq_true p238
           replace q238 := eq_true q238
           try go_wp2
           replace HO_4 := Aside0.mk (Kd.Q_drew HO_4.out)
           replace HO_6 := Aside0.mk (Kd.R_drew HO_6.out)
           replace HO_9 := Aside0.mk (Kd.R_drew HO_9.out)
           replace HB := Aside0.mk (below_drew1 HB.out)
           have p239 : 0 ≤ (0 : Int) := (by omega)
           have q239 : 0 < (x4_3.length : Int) := od
           obtain ⟨ad239, e239, hx239_0⟩ := Kd.at_int (Kd.Q_reads' HO_4.out).2.2 0 p239 q239
           obtain rfl : ad238 = ad239 := (by injection e239)
           have qi239 : (0 < x4_3.length) = True := eq_true (by omega)
           (try rw [show ((0 : Int)).toNat = 0 from rfl] at hx239_0)
           (try rw [Addr.add_zero'] at hx239_0)
           replace p239 := eq_true p239
           replace q239 := eq_true q239
           have q22 : (1 : Int) ≤ ((x4_3.length : Int) : Int) := od
           obtain ⟨i022, hi022, _, hsz22, _⟩ := info_parts info3
           have hcut22 := cut_from (P := Try.prog) 24 3 .i64 Try.underlying24 hi022 1 hsz22 (some ad238) x4_3.length co20 1 (by omega) q22
           have hr22 := Kd.Q_drop (k := (1 : Int).toNat) HO_4.out (by omega)
           obtain ⟨A22, hA22⟩ : ∃ A1, A1 = (if co20 = (1 : Int).toNat then (some ad238) else ((some ad238) : Option Addr).map (·.add ((1 : Int).toNat * 1))) := ⟨_, rfl⟩
           obtain ⟨c22, hc22⟩ : ∃ c1, c1 = co20 - (1 : Int).toNat := ⟨_, rfl⟩
           have hy22 : y243.length = x4_3.length - (1 : Int).toNat := (by rw [Ny243.out, List.length_drop])
           rw [← Ny243.out] at hr22
           rw [← hy22, ← hA22, ← hc22] at hcut22
           replace hr22 : Kd.Q (Kd.int .i64) 3 wr.drew w.heap.size (fun k_ => some k_ ≠ (u6 : Value).ownBlock ∧ some k_ ≠ (u9 : Value).ownBlock) (.slice A22 y243.length c22) y243 := (by rw [hA22, hc22, hy22]; exact hr22)
           have HE22 : Aside0 ((Value.slice A22 y243.length c22).ownBlock = (.slice (some ad238) x4_3.length co20 : Value).ownBlock) := ⟨by rw [hA22]; split <;> (cases ((some ad238) : Option Addr) <;> rfl)⟩
           clear hy22 hi022 hsz22 HO_4 hA22 hc22
           have HO245 := Aside0.mk hr22
           clear hr22
           replace q22 := eq_true q22
           have n_ := Aside0.mk (Kd.R_mono (ok' := fun k_ => (some k_ ≠ (.slice A22 y243.length c22 : Value).ownBlock ∧ some k_ ≠ (u9 : Value).ownBlock)) HO_6.out (fun k_ hk => ⟨(by rw [HE22.out]; exact hk.1), hk.2⟩))
           clear HO_6
           have HO_6 := n_
           clear n_
           have n_ := Aside0.mk (Kd.R_mono (ok' := fun k_ => (some k_ ≠ (.slice A22 y243.length c22 : Value).ownBlock ∧ some k_ ≠ (u6 : Value).ownBlock)) HO_9.out (fun k_ hk => ⟨(by rw [HE22.out]; exact hk.1), hk.2⟩))
           clear HO_9
           have HO_9 := n_
           clear n_
           refine start_ (n := 12) (S := fun w' => w'.cell? ad238 = some (.int .i64 (rd x4_3 0))) (ds := [6, 7]) (ba 12 0) (by kernel_rfl) rfl rfl (hx239_0) (fun hHeld => ?_); refine with_tabW color_All.tab12 color_All.bits12 (fun HT_ HW_ => ?_)
           generalize wr.drew = w21 at HO_6 HO_9 HB HO245 hx239_0 hHeld ⊢
           refine pI 0 53 (ba 12 1) HT_.out ?_
           refine pI 1 54 (ba 12 3) HT_.out ?_
           refine pI 2 55 (ba 12 7) HT_.out ?_
           refine pI 4 57 (ba 12 23) HT_.out ?_
           refine pI 8 61 (ba 12 279) HT_.out ?_
           refine pI 9 62 (ba 12 791) HT_.out ?_
           refine take_ (i := 3) (N := some 56) (v := ?_) (a' := ?_) (ba 12 799) rfl rfl (take_ofW HT_.out HW_.out (by kernel_rfl)) (fun _ _ _ h => h) (Or.inl ⟨by rfl, ?_⟩) hHeld ?_ ?_
           rotate_left
           ·intro w' s0
            go_simp
            with_reducible rfl
           rotate_left
           ·exact pa
           refine pI 5 58 (ba 12 831) HT_.out ?_
           refine last_ (i := 6) (N := some 59) (ba 12 895) rfl rfl (one_of HT_.out (by kernel_rfl)) (by decide) (fun K hK => ?_)
           refine value_ (w1 := ?_) (v := ?_) (by rfl) rfl ?_ ?_
           rotate_left 2
           ·go_simp
            constructor
            ·rfl
            ·rfl
           refine hK.out _ _ ?_
           clear hK K
           refine np 59 ?_
           refine last_ (i := 7) (N := some 60) (ba 12 1023) rfl rfl (one_of HT_.out (by kernel_rfl)) (by decide) (fun K hK => ?_)
           refine Kd.R_append_step (Kd.int .i64) (w0 := w) w.heap.size (by rfl) (.tmp 53) (.tmp 59) 24 3 (.int .i64 0) 8 rfl Try.underlying24 info3 rfl (by decide) (by omega) u9 x9_3 (wrap64 ((rd x4_3 0) - x7_1)) [.int .i64 (wrap64 ((rd x4_3 0) - x7_1))] (fun k_ => some k_ ≠ (.slice A22 y243.length c22 : Value).ownBlock ∧ some k_ ≠ (u6 : Value).ownBlock) (fun _ => False) rfl rfl ?aP (fun _ hk => hk.elim) ?aF ?aO ?aB ?aS ?aL ?_
           (case aP => exact rfl)
           (case aB => exact (bl0 HB.out))
           (case aF => exact (fun k_ hk => ⟨Kd.fresh' (Kd.Q_lt (by (with_reducible repeat (first | apply Kd.Q_alloc | apply Kd.Q_drewN | apply Kd.Q_drew)); exact HO245.out)) k_ hk, Kd.fresh' (Kd.R_lt (kr HO_6.out)) k_ hk⟩))
           (case aO => exact (kr HO_9.out))
           (case aS => exact (below_size (bl0 HB.out)))
           (case aL => have := LMc18.out; omega)
           intro v241 w23 ho hb hg hat
           rw [← Ny240.out] at ho
           have HO242 := Aside0.mk (ho)
           replace HO245 := Aside0.mk (Kd.Q_after (ok := (fun k_ => some k_ ≠ (u6 : Value).ownBlock)) (by (with_reducible repeat (first | apply Kd.Q_alloc | apply Kd.Q_drewN | apply Kd.Q_drew)); exact HO245.out) hg hat)
           replace HO_6 := Aside0.mk (Kd.R_after (ok := (fun k_ => some k_ ≠ (.slice A22 y243.length c22 : Value).ownBlock)) (kr HO_6.out) hg hat)
           replace HB := Aside0.mk (hb)
           clear HO_9 ho hb hg hat
           refine hK.out _ _ ?_
           clear hK K
           refine np 60 ?_
           refine pI 10 9 (ba 12 2047) HT_.out ?_
           refine pI 11 4 (ba 12 4095) HT_.out ?_
           refine done_ (done_of HT_.out (by kernel_rfl)) ?_
           try go_wp2
           go_roundg k3
           case measure => have := HK1.out; have := HJ5.out; have := HK3.out; omega
           case rel => exact ⟨(y243), (y240), H', ⟨by have := HK1.out; have := HJ5.out; have := HK3.out; omega⟩, ⟨by (with_reducible repeat (first | apply Kd.Q_alloc | apply Kd.Q_drewN | apply Kd.Q_drew)); exact HO245.out⟩, ⟨kr HO_6.out⟩, ⟨kr HO242.out⟩, ⟨bl0 HB.out⟩⟩
          rw [if_neg c17] at H
          have c17b0 := decide_eq_false c17
          clear c17
          replace H := Option.bind_eq_some_iff.mp H
          obtain ⟨t246, A240, H⟩ := H
          replace H : (if x6_1.length + t246.length < 17592186044416 then (color_All.l0 k3 l0 x4_3 (x6_1 ++ t246) x8_5) else (none)) = some (r1, r2) := H
          have A24 := Aside0.mk A240
          clear A240
          refine ifk H ?_; clear H; intro c25 H
          have LMc25 := Aside0.mk c25
          clear c25
          obtain ⟨y249, hy249⟩ : ∃ y_ : List Int, y_ = (x6_1 ++ t246) := ⟨_, rfl⟩
          replace H : (color_All.l0 k3 l0 x4_3 y249 x8_5) = some (r1, r2) := by (try rw [hy249]); first | with_reducible exact H | (have H2_ := (Option.bind_some _ _).symm.trans H; with_reducible exact H2_) | exact H
          have Ny249 := Aside0.mk hy249
          clear hy249
          have H' := Aside0.mk H
          clear H
          obtain ⟨Ao26, co26, eo26, _⟩ := Kd.Q_slice HO_4.out
          subst eo26
          have p238 : 0 ≤ (0 : Int) := (by omega)
          have q238 : 0 < (x4_3.length : Int) := od
          obtain ⟨ad238, e238, hx238_0⟩ := Kd.at_int (Kd.Q_reads' HO_4.out).2.2 0 p238 q238
          cases e238
          have qi238 : (0 < x4_3.length) = True := eq_true (by omega)
          (try rw [show ((0 : Int)).toNat = 0 from rfl] at hx238_0)
          (try rw [Addr.add_zero'] at hx238_0)
          replace p238 := eq_true p238
          replace q238 := eq_true q238
          obtain ⟨Ao27, co27, eo27⟩ := Kd.R_slice HO_9.out
          subst eo27
          go_wp2_with (first | ((with_reducible refine gate_callee (f := 84) rfl ?_); refine goesL_ (some 68) rfl rfl Try.func84 (by kernel_rfl) rfl #[.int .i64 (wrap64 (x8_5 - x7_1)), .slice Ao27 x9_3.length co27] rfl am ?_; (with_reducible refine (color_contour.calls k3 (wrap64 (x8_5 - x7_1)) _ _ x9_3 t246 _ ?side1 ?side2 A24.out).mono ?_); (case side1 => exact kc (Kd.R_reads' HO_9.out).2.2); (case side2 => exact (Kd.R_reads' HO_9.out).2.1); rintro e w28 ⟨v247, rfl, ho0, hb⟩; refine ⟨_, rfl, ?_⟩; have HO248 := Aside0.mk (Kd.R_lower (Kd.R_new' (Kd.R_new' (Kd.R_new' ho0 (Kd.Q_lt (by (with_reducible repeat (first | apply Kd.Q_alloc | apply Kd.Q_drewN | apply Kd.Q_drew)); exact HO_4.out))) (Kd.R_lt (kr HO_6.out))) (Kd.R_lt (kr HO_9.out))) (below_size (bl0 HB.out))); replace HO_4 := Aside0.mk (Kd.Q_elder' (by (with_reducible repeat (first | apply Kd.Q_alloc | apply Kd.Q_drewN | apply Kd.Q_drew)); exact HO_4.out) (Kd.R_base ho0) hb); replace HO_6 := Aside0.mk (Kd.R_elder' (kr HO_6.out) (Kd.R_base ho0) hb); replace HO_9 := Aside0.mk (Kd.R_elder' (kr HO_9.out) (Kd.R_base ho0) hb); replace HB := Aside0.mk (below_step (bl0 HB.out) hb); (try clear hb); (try clear hk); (try clear ho0); obtain ⟨Ao30, co30, eo30⟩ := Kd.R_slice HO248.out; subst eo30) | ((with_reducible refine gate_builtin (b := .append) (xs := #[.tmp 63, .tmp 68]) rfl ?_); at_builtin; refine Kd.R_append_rows (Kd.int .i64) (w0 := w) w.heap.size rfl (.tmp 63) (.tmp 68) 24 3 (.int .i64 0) 8 rfl Try.underlying24 info3 rfl (by decide) (by omega) u6 x6_1 t246 _ _ _ (fun k_ => some k_ ≠ (.slice (some ad238) x4_3.length co26 : Value).ownBlock ∧ some k_ ≠ (.slice Ao27 x9_3.length co27 : Value).ownBlock ∧ some k_ ≠ (.slice Ao30 t246.length co30 : Value).ownBlock) (fun _ => False) rfl rfl ?aO ?aR (fun _ _ h => h) (fun _ h => h.elim) ?aF ?aB ?aS ?aL ?_; (case aR => repeat (first | exact (Kd.R_reads' HO248.out).2.2 | (with_reducible refine Kd.C_alloc ?_ _) | (with_reducible refine Kd.C_drewN ?_ _) | (with_reducible refine Kd.C_drew ?_))); (case aB => exact (bl0 HB.out)); (case aF => exact (fun k_ hk => ⟨Kd.fresh' (Kd.Q_lt (by (with_reducible repeat (first | apply Kd.Q_alloc | apply Kd.Q_drewN | apply Kd.Q_drew)); exact HO_4.out)) k_ hk, Kd.fresh' (Kd.R_lt (kr HO_9.out)) k_ hk, Kd.fresh' (Kd.R_lt (kr HO248.out)) k_ hk⟩)); (case aO => exact (by (with_reducible repeat (first | apply Kd.R_alloc | apply Kd.R_drewN | apply Kd.R_drew)); exact Kd.R_mono HO_6.out (fun _ hk => ⟨hk.1.1, ⟨hk.1.2, hk.2⟩⟩))); (case aS => exact (below_size (bl0 HB.out))); (case aL => have := LMc25.out; omega); intro v250 w29 ho hb hg hat; rw [← Ny249.out] at ho; have HO251 := Aside0.mk (ho); replace HO_4 := Aside0.mk (Kd.Q_after (ok := (fun k_ => some k_ ≠ (.slice Ao27 x9_3.length co27 : Value).ownBlock ∧ some k_ ≠ (.slice Ao30 t246.length co30 : Value).ownBlock)) (by (with_reducible repeat (first | apply Kd.Q_alloc | apply Kd.Q_drewN | apply Kd.Q_drew)); exact Kd.Q_mono HO_4.out (fun _ hk => ⟨⟨hk.1.2, hk.2⟩, hk.1.1⟩)) hg hat); replace HO_9 := Aside0.mk (Kd.R_after (ok := (fun k_ => some k_ ≠ (.slice (some ad238) x4_3.length co26 : Value).ownBlock ∧ some k_ ≠ (.slice Ao30 t246.length co30 : Value).ownBlock)) (by (with_reducible repeat (first | apply Kd.R_alloc | apply Kd.R_drewN | apply Kd.R_drew)); exact Kd.R_mono HO_9.out (fun _ hk => ⟨⟨hk.1.1, hk.2⟩, hk.1.2⟩)) hg hat); replace HO248 := Aside0.mk (Kd.R_after (ok := (fun k_ => some k_ ≠ (.slice (some ad238) x4_3.length co26 : Value).ownBlock ∧ some k_ ≠ (.slice Ao27 x9_3.length co27 : Value).ownBlock)) (by (with_reducible repeat (first | apply Kd.R_alloc | apply Kd.R_drewN | apply Kd.R_drew)); exact Kd.R_mono HO248.out (fun _ hk => ⟨⟨hk.1.1.2, hk.2⟩, hk.1.2⟩)) hg hat); replace HB := Aside0.mk (hb); clear HO_6 ho hb hg hat))
          go_roundg k3
          case measure => have := HK1.out; have := HJ5.out; have := HK3.out; omega
          case rel => exact ⟨(x4_3), (y249), (x8_5), fr, H', ⟨by have := HK1.out; have := HJ5.out; have := HK3.out; omega⟩, ⟨by (with_reducible repeat (first | apply Kd.Q_alloc | apply Kd.Q_drewN | apply Kd.Q_drew)); exact Kd.Q_mono HO_4.out (fun _ hk => hk.2)⟩, ⟨by (with_reducible repeat (first | apply Kd.R_alloc | apply Kd.R_drewN | apply Kd.R_drew)); exact Kd.R_mono HO251.out (fun _ hk => hk.1)⟩, ⟨bl0 HB.out⟩⟩
         rw [if_neg c15] at H
         have c15b0 : decide (0 < (x4_3.length : Int)) = false := decide_eq_false c15
         have c15b1 : decide (0 < x4_3.length) = false := decide_eq_false (by omega)
         clear c15
         replace H := Option.bind_eq_some_iff.mp H
         obtain ⟨t252, A310, H⟩ := H
         replace H : (if x6_1.length + t252.length < 17592186044416 then (color_All.l0 k3 l0 x4_3 (x6_1 ++ t252) x8_5) else (none)) = some (r1, r2) := H
         have A31 := Aside0.mk A310
         clear A310
         refine ifk H ?_; clear H; intro c32 H
         have LMc32 := Aside0.mk c32
         clear c32
         obtain ⟨y255, hy255⟩ : ∃ y_ : List Int, y_ = (x6_1 ++ t252) := ⟨_, rfl⟩
         replace H : (color_All.l0 k3 l0 x4_3 y255 x8_5) = some (r1, r2) := by (try rw [hy255]); first | with_reducible exact H | (have H2_ := (Option.bind_some _ _).symm.trans H; with_reducible exact H2_) | exact H
         have Ny255 := Aside0.mk hy255
         clear hy255
         have H' := Aside0.mk H
         clear H
         obtain ⟨Ao33, co33, eo33, _⟩ := Kd.Q_slice HO_4.out
         subst eo33
         obtain ⟨Ao34, co34, eo34⟩ := Kd.R_slice HO_9.out
         subst eo34
         go_wp2_with (first | ((with_reducible refine gate_callee (f := 84) rfl ?_); refine goesL_ (some 68) rfl rfl Try.func84 (by kernel_rfl) rfl #[.int .i64 (wrap64 (x8_5 - x7_1)), .slice Ao34 x9_3.length co34] rfl am ?_; (with_reducible refine (color_contour.calls k3 (wrap64 (x8_5 - x7_1)) _ _ x9_3 t252 _ ?side1 ?side2 A31.out).mono ?_); (case side1 => exact kc (Kd.R_reads' HO_9.out).2.2); (case side2 => exact (Kd.R_reads' HO_9.out).2.1); rintro e w35 ⟨v253, rfl, ho0, hb⟩; refine ⟨_, rfl, ?_⟩; have HO254 := Aside0.mk (Kd.R_lower (Kd.R_new' (Kd.R_new' (Kd.R_new' ho0 (Kd.Q_lt (by (with_reducible repeat (first | apply Kd.Q_alloc | apply Kd.Q_drewN | apply Kd.Q_drew)); exact HO_4.out))) (Kd.R_lt (kr HO_6.out))) (Kd.R_lt (kr HO_9.out))) (below_size (bl0 HB.out))); replace HO_4 := Aside0.mk (Kd.Q_elder' (by (with_reducible repeat (first | apply Kd.Q_alloc | apply Kd.Q_drewN | apply Kd.Q_drew)); exact HO_4.out) (Kd.R_base ho0) hb); replace HO_6 := Aside0.mk (Kd.R_elder' (kr HO_6.out) (Kd.R_base ho0) hb); replace HO_9 := Aside0.mk (Kd.R_elder' (kr HO_9.out) (Kd.R_base ho0) hb); replace HB := Aside0.mk (below_step (bl0 HB.out) hb); (try clear hb); (try clear hk); (try clear ho0); obtain ⟨Ao37, co37, eo37⟩ := Kd.R_slice HO254.out; subst eo37) | ((with_reducible refine gate_builtin (b := .append) (xs := #[.tmp 63, .tmp 68]) rfl ?_); at_builtin; refine Kd.R_append_rows (Kd.int .i64) (w0 := w) w.heap.size rfl (.tmp 63) (.tmp 68) 24 3 (.int .i64 0) 8 rfl Try.underlying24 info3 rfl (by decide) (by omega) u6 x6_1 t252 _ _ _ (fun k_ => some k_ ≠ (.slice Ao33 x4_3.length co33 : Value).ownBlock ∧ some k_ ≠ (.slice Ao34 x9_3.length co34 : Value).ownBlock ∧ some k_ ≠ (.slice Ao37 t252.length co37 : Value).ownBlock) (fun _ => False) rfl rfl ?aO ?aR (fun _ _ h => h) (fun _ h => h.elim) ?aF ?aB ?aS ?aL ?_; (case aR => repeat (first | exact (Kd.R_reads' HO254.out).2.2 | (with_reducible refine Kd.C_alloc ?_ _) | (with_reducible refine Kd.C_drewN ?_ _) | (with_reducible refine Kd.C_drew ?_))); (case aB => exact (bl0 HB.out)); (case aF => exact (fun k_ hk => ⟨Kd.fresh' (Kd.Q_lt (by (with_reducible repeat (first | apply Kd.Q_alloc | apply Kd.Q_drewN | apply Kd.Q_drew)); exact HO_4.out)) k_ hk, Kd.fresh' (Kd.R_lt (kr HO_9.out)) k_ hk, Kd.fresh' (Kd.R_lt (kr HO254.out)) k_ hk⟩)); (case aO => exact (by (with_reducible repeat (first | apply Kd.R_alloc | apply Kd.R_drewN | apply Kd.R_drew)); exact Kd.R_mono HO_6.out (fun _ hk => ⟨hk.1.1, ⟨hk.1.2, hk.2⟩⟩))); (case aS => exact (below_size (bl0 HB.out))); (case aL => have := LMc32.out; omega); intro v256 w36 ho hb hg hat; rw [← Ny255.out] at ho; have HO257 := Aside0.mk (ho); replace HO_4 := Aside0.mk (Kd.Q_after (ok := (fun k_ => some k_ ≠ (.slice Ao34 x9_3.length co34 : Value).ownBlock ∧ some k_ ≠ (.slice Ao37 t252.length co37 : Value).ownBlock)) (by (with_reducible repeat (first | apply Kd.Q_alloc | apply Kd.Q_drewN | apply Kd.Q_drew)); exact Kd.Q_mono HO_4.out (fun _ hk => ⟨⟨hk.1.2, hk.2⟩, hk.1.1⟩)) hg hat); replace HO_9 := Aside0.mk (Kd.R_after (ok := (fun k_ => some k_ ≠ (.slice Ao33 x4_3.length co33 : Value).ownBlock ∧ some k_ ≠ (.slice Ao37 t252.length co37 : Value).ownBlock)) (by (with_reducible repeat (first | apply Kd.R_alloc | apply Kd.R_drewN | apply Kd.R_drew)); exact Kd.R_mono HO_9.out (fun _ hk => ⟨⟨hk.1.1, hk.2⟩, hk.1.2⟩)) hg hat); replace HO254 := Aside0.mk (Kd.R_after (ok := (fun k_ => some k_ ≠ (.slice Ao33 x4_3.length co33 : Value).ownBlock ∧ some k_ ≠ (.slice Ao34 x9_3.length co34 : Value).ownBlock)) (by (with_reducible repeat (first | apply Kd.R_alloc | apply Kd.R_drewN | apply Kd.R_drew)); exact Kd.R_mono HO254.out (fun _ hk => ⟨⟨hk.1.1.2, hk.2⟩, hk.1.2⟩)) hg hat); replace HB := Aside0.mk (hb); clear HO_6 ho hb hg hat))
         go_roundg k3
         case measure => have := HK1.out; have := HJ5.out; have := HK3.out; omega
         case rel => exact ⟨(x4_3), (y255), (x8_5), fr, H', ⟨by have := HK1.out; have := HJ5.out; have := HK3.out; omega⟩, ⟨by (with_reducible repeat (first | apply Kd.Q_alloc | apply Kd.Q_drewN | apply Kd.Q_drew)); exact Kd.Q_mono HO_4.out (fun _ hk => hk.2)⟩, ⟨by (with_reducible repeat (first | apply Kd.R_alloc | apply Kd.R_drewN | apply Kd.R_drew)); exact Kd.R_mono HO257.out (fun _ hk => hk.1)⟩, ⟨bl0 HB.out⟩⟩
    rw [if_neg c5] at H
    have c5b0 := decide_eq_false c5
    clear c5
    simp only [Option.some.injEq, Prod.mk.injEq] at H
    obtain ⟨rfl, rfl⟩ := H
    go_wp2
    go_ret2
    exact ⟨_, by first | rfl | (simp [errW_none, errW_some] <;> rfl) | (simp [*, errW_none, errW_some] <;> rfl), by (with_reducible repeat (first | apply Kd.R_alloc | apply Kd.R_drewN | apply Kd.R_drew)); exact Kd.R_mono HO_6.out (fun _ hk => trivial), bl0 HB.out⟩
 rw [if_neg c3] at H
 have c3b0 : (t233 == 0) = false := beq_eq_false_iff_ne.mpr c3
 have c3b1 : (t233 != 0) = true := bne_iff_ne.mpr c3
 simp only [Option.some.injEq, Prod.mk.injEq] at H
 obtain ⟨rfl, rfl⟩ := H
 go_enter Try.func46, Try.ntmps46
 go_wp2_with (first | ((with_reducible refine gate_callee (f := 13) rfl ?_); refine goesL_ (some 12) rfl rfl Try.func13 (by kernel_rfl) rfl #[.slice A0 l0.length c0] rfl am ?_; (with_reducible refine (corner_All.calls k _ _ l0 t232 t233 _ ?side1 ?side2 A2.out).mono ?_); (case side1 => exact kc HR0.out); (case side2 => exact HC0.out); rintro e w38 ⟨v234, rfl, ho0, hb⟩; refine ⟨_, rfl, ?_⟩; have HO235 := Aside0.mk (Kd.R_lower ho0 (below_size (bl0 HB.out))); replace HB := Aside0.mk (below_step (bl0 HB.out) hb); (try clear hb); (try clear ho0)))
 go_ret2
 exact ⟨_, by first | rfl | (simp [errW_none, errW_some] <;> rfl) | (simp [*, errW_none, errW_some] <;> rfl), by first | exact Kd.R_nil _ _ _ _ _ | exact Kd.N_nil _ _ _ _ _ | exact Kd.V_nil _ _ _ _ _ | exact Kd.Q_nil _ _ _ _ _ | exact Kd.S_nil _ _ _ _ _, bl0 HB.out⟩

end Go.Proofs.Ytalgppclaolonaa.XColr
