-- Printed by a program of this claim. Not trusted: Lean checks it.
import Derived.Test.YtalgppclaolonaaXColrx0
import Derived.Test.YtalgppclaolonaaXColrx11
import Derived.Test.YtalgppclaolonaaXColrx12
import Derived.Test.YtalgppclaolonaaXColrx13
import Derived.Test.YtalgppclaolonaaXColrx16
import Derived.Test.YtalgppclaolonaaXColrx17
namespace Go.Proofs.Ytalgppclaolonaa.XColr
open Go.RowKit Go.Proofs.YtalgppclaolonaaW.PrintWords Go.Proofs.YtalgppclaolonaaW.PrintLast Go.Proofs.YtalgppclaolonaaW.PrintMore
attribute [local go_sem] max2_int min2_int max_two min_two max_three min_three max_four min_four   -- for this text's walks alone
set_option linter.unusedVariables false
set_option linter.unusedSimpArgs false
open XOpen

/-! ### pochoirref23_All: function 47 -/
mutual
def pochoirref23_All.l0 : Nat → List (S38) → List Int → List Int → Int → Option (List Int × Int)
 | 0, _, _, _, _ => none
 | k + 1, x0, x4, x6, x7 => if x7 < (x0.length : Int) then (pochoirref23_All.l1 k x0 x4 x6 x7 x7) else (some (x6, 0))
def pochoirref23_All.j2 : Nat → List (S38) → List Int → List Int → Int → Int → Option (List Int × Int)
 | 0, _, _, _, _, _ => none
 | k + 1, x0, x4, x6, x7, x8 => pochoirref23_All.l2 k x0 x4 x6 x7 x8 ([] : List Int) 0
def pochoirref23_All.l2 : Nat → List (S38) → List Int → List Int → Int → Int → List Int → Int → Option (List Int × Int)
 | 0, _, _, _, _, _, _, _ => none
 | k + 1, x0, x4, x6, x7, x8, x9, x10 => if x10 < (x4.length : Int) then (if 0 ≤ x10 then (if (rd x4 x10) ≥ x7 then (if (rd x4 x10) < x8 then (if x9.length < 17592186044416 then (pochoirref23_All.l2 k x0 x4 x6 x7 x8 (x9 ++ [wrap64 ((rd x4 x10) - x7)]) (wrap64 (x10 + 1))) else (none)) else (pochoirref23_All.l2 k x0 x4 x6 x7 x8 x9 (wrap64 (x10 + 1)))) else (pochoirref23_All.l2 k x0 x4 x6 x7 x8 x9 (wrap64 (x10 + 1)))) else (none)) else ((pochoirref23_contour.f k (wrap64 (x8 - x7)) x9).bind fun t454 => (if x6.length + t454.length < 17592186044416 then (pochoirref23_All.l0 k x0 x4 (x6 ++ t454) x8) else (none)))
def pochoirref23_All.l1 : Nat → List (S38) → List Int → List Int → Int → Int → Option (List Int × Int)
 | 0, _, _, _, _, _ => none
 | k + 1, x0, x4, x6, x7, x8 => if x8 < (x0.length : Int) then (if 0 ≤ x8 then (if 0 ≤ x7 then (if x7 < (x0.length : Int) then (if ((rd_T38 x0 x8).f0) = ((rd_T38 x0 x7).f0) then (pochoirref23_All.l1 k x0 x4 x6 x7 (wrap64 (x8 + 1))) else (pochoirref23_All.j2 k x0 x4 x6 x7 x8)) else (none)) else (none)) else (none)) else (pochoirref23_All.j2 k x0 x4 x6 x7 x8)
end
def pochoirref23_All.f (k : Nat) (l0 : List (S38)) : Option (List Int × Int) := (pochoirref16_May.f k l0).bind fun t441 => (if t441 = true then ((pochoirref22_All.f k l0).bind fun bt442 => (pochoirref23_All.l0 k l0 bt442.1 ([] : List Int) 0)) else (some (([] : List Int), 1)))
theorem pochoirref23_All.mono_l : ∀ k, (∀ y0 y1 y2 y3, LeO (pochoirref23_All.l0 k y0 y1 y2 y3) (pochoirref23_All.l0 (k + 1) y0 y1 y2 y3)) ∧ (∀ y0 y1 y2 y3 y4, LeO (pochoirref23_All.j2 k y0 y1 y2 y3 y4) (pochoirref23_All.j2 (k + 1) y0 y1 y2 y3 y4)) ∧ (∀ y0 y1 y2 y3 y4 y5 y6, LeO (pochoirref23_All.l2 k y0 y1 y2 y3 y4 y5 y6) (pochoirref23_All.l2 (k + 1) y0 y1 y2 y3 y4 y5 y6)) ∧ (∀ y0 y1 y2 y3 y4, LeO (pochoirref23_All.l1 k y0 y1 y2 y3 y4) (pochoirref23_All.l1 (k + 1) y0 y1 y2 y3 y4))
 | 0 => ⟨fun _ _ _ _ r h => by simp [pochoirref23_All.l0] at h, fun _ _ _ _ _ r h => by simp [pochoirref23_All.j2] at h, fun _ _ _ _ _ _ _ r h => by simp [pochoirref23_All.l2] at h, fun _ _ _ _ _ r h => by simp [pochoirref23_All.l1] at h⟩
 | k + 1 => by
  obtain ⟨ih0, ih1, ih2, ih3⟩ := pochoirref23_All.mono_l k
  refine ⟨?_, ?_, ?_, ?_⟩
  ·intro y0 y1 y2 y3
   unfold pochoirref23_All.l0
   repeat' first | (with_reducible first | exact ih0 _ _ _ _ | exact ih1 _ _ _ _ _ | exact ih2 _ _ _ _ _ _ _ | exact ih3 _ _ _ _ _ | exact pochoirref16_May.mono _ _ | exact pochoirref22_All.mono _ _ | exact pochoirref23_contour.mono _ _ _ | exact LeO.refl _ | exact LeO.none _ | refine LeO.ite ?_ ?_ | refine LeO.bind ?_ (fun _ => ?_)) | exact ih0 _ _ _ _ | exact ih1 _ _ _ _ _ | exact ih2 _ _ _ _ _ _ _ | exact ih3 _ _ _ _ _ | exact pochoirref16_May.mono _ _ | exact pochoirref22_All.mono _ _ | exact pochoirref23_contour.mono _ _ _ | exact LeO.none _ | refine LeO.ite ?_ ?_ | refine LeO.bind ?_ (fun _ => ?_)
  ·intro y0 y1 y2 y3 y4
   unfold pochoirref23_All.j2
   repeat' first | (with_reducible first | exact ih0 _ _ _ _ | exact ih1 _ _ _ _ _ | exact ih2 _ _ _ _ _ _ _ | exact ih3 _ _ _ _ _ | exact pochoirref16_May.mono _ _ | exact pochoirref22_All.mono _ _ | exact pochoirref23_contour.mono _ _ _ | exact LeO.refl _ | exact LeO.none _ | refine LeO.ite ?_ ?_ | refine LeO.bind ?_ (fun _ => ?_)) | exact ih0 _ _ _ _ | exact ih1 _ _ _ _ _ | exact ih2 _ _ _ _ _ _ _ | exact ih3 _ _ _ _ _ | exact pochoirref16_May.mono _ _ | exact pochoirref22_All.mono _ _ | exact pochoirref23_contour.mono _ _ _ | exact LeO.none _ | refine LeO.ite ?_ ?_ | refine LeO.bind ?_ (fun _ => ?_)
  ·intro y0 y1 y2 y3 y4 y5 y6
   unfold pochoirref23_All.l2
   repeat' first | (with_reducible first | exact ih0 _ _ _ _ | exact ih1 _ _ _ _ _ | exact ih2 _ _ _ _ _ _ _ | exact ih3 _ _ _ _ _ | exact pochoirref16_May.mono _ _ | exact pochoirref22_All.mono _ _ | exact pochoirref23_contour.mono _ _ _ | exact LeO.refl _ | exact LeO.none _ | refine LeO.ite ?_ ?_ | refine LeO.bind ?_ (fun _ => ?_)) | exact ih0 _ _ _ _ | exact ih1 _ _ _ _ _ | exact ih2 _ _ _ _ _ _ _ | exact ih3 _ _ _ _ _ | exact pochoirref16_May.mono _ _ | exact pochoirref22_All.mono _ _ | exact pochoirref23_contour.mono _ _ _ | exact LeO.none _ | refine LeO.ite ?_ ?_ | refine LeO.bind ?_ (fun _ => ?_)
  ·intro y0 y1 y2 y3 y4
   unfold pochoirref23_All.l1
   repeat' first | (with_reducible first | exact ih0 _ _ _ _ | exact ih1 _ _ _ _ _ | exact ih2 _ _ _ _ _ _ _ | exact ih3 _ _ _ _ _ | exact pochoirref16_May.mono _ _ | exact pochoirref22_All.mono _ _ | exact pochoirref23_contour.mono _ _ _ | exact LeO.refl _ | exact LeO.none _ | refine LeO.ite ?_ ?_ | refine LeO.bind ?_ (fun _ => ?_)) | exact ih0 _ _ _ _ | exact ih1 _ _ _ _ _ | exact ih2 _ _ _ _ _ _ _ | exact ih3 _ _ _ _ _ | exact pochoirref16_May.mono _ _ | exact pochoirref22_All.mono _ _ | exact pochoirref23_contour.mono _ _ _ | exact LeO.none _ | refine LeO.ite ?_ ?_ | refine LeO.bind ?_ (fun _ => ?_)
theorem pochoirref23_All.mono : ∀ a0 k, LeO (pochoirref23_All.f k a0) (pochoirref23_All.f (k + 1) a0) := by
 intro a0 k
 obtain ⟨ih0, ih1, ih2, ih3⟩ := pochoirref23_All.mono_l k
 unfold pochoirref23_All.f
 repeat' first | (with_reducible first | exact ih0 _ _ _ _ | exact ih1 _ _ _ _ _ | exact ih2 _ _ _ _ _ _ _ | exact ih3 _ _ _ _ _ | exact pochoirref16_May.mono _ _ | exact pochoirref22_All.mono _ _ | exact pochoirref23_contour.mono _ _ _ | exact LeO.refl _ | exact LeO.none _ | refine LeO.ite ?_ ?_ | refine LeO.bind ?_ (fun _ => ?_)) | exact ih0 _ _ _ _ | exact ih1 _ _ _ _ _ | exact ih2 _ _ _ _ _ _ _ | exact ih3 _ _ _ _ _ | exact pochoirref16_May.mono _ _ | exact pochoirref22_All.mono _ _ | exact pochoirref23_contour.mono _ _ _ | exact LeO.none _ | refine LeO.ite ?_ ?_ | refine LeO.bind ?_ (fun _ => ?_)
set_option maxHeartbeats 8000000 in
set_option maxRecDepth 100000 in
theorem pochoirref23_All.calls (k : Nat) (A0 : Option Addr) (c0 : Nat) (l0 : List (S38)) (r1 : List Int) (r2 : Int) (w : World) (hr0 : Kd.C k38 w A0 l0.length l0) (hc0 : l0.length ≤ c0) (h : pochoirref23_All.f k l0 = some (r1, r2)) :
  Calls Try.prog 47 #[.slice A0 l0.length c0] w fun e w' => ∃ v0_ : Value, e = .returned (.tuple #[v0_, .int .i64 r2]) ∧ Kd.R (Kd.int .i64) 3 w' w.heap.size (fun _ => True) v0_ r1 ∧ Below w.heap.size w w' := by
 have HR0 := Aside0.mk hr0
 have HC0 := Aside0.mk hc0
 clear hr0 hc0
 have HB := Aside0.mk (Below.refl w.heap.size w)
 have H := h
 clear h; unfold pochoirref23_All.f at H
 replace H := Option.bind_eq_some_iff.mp H
 obtain ⟨t441, A20, H⟩ := H
 replace H : (if t441 = true then ((pochoirref22_All.f k l0).bind fun bt442 => (pochoirref23_All.l0 k l0 bt442.1 ([] : List Int) 0)) else (some (([] : List Int), 1))) = some (r1, r2) := H
 have A2 := Aside0.mk A20
 clear A20
 by_cases c3 : t441 = true
 ·subst c3
  have H1 : ((pochoirref22_All.f k l0).bind fun bt442 => (pochoirref23_All.l0 k l0 bt442.1 ([] : List Int) 0)) = some (r1, r2) := by rw [if_pos rfl] at H; exact H
  clear H
  have H := H1
  clear H1
  replace H := Option.bind_eq_some_iff.mp H
  obtain ⟨⟨t442, t443⟩, A40, H⟩ := H
  replace H : (pochoirref23_All.l0 k l0 t442 ([] : List Int) 0) = some (r1, r2) := H
  have A4 := Aside0.mk A40
  clear A40
  have H' := Aside0.mk H
  clear H
  go_enter Try.func47, Try.ntmps47
  go_wp2_with (first | (go_at_call 40; (with_reducible refine (pochoirref16_May.calls k _ _ l0 true _ ?side1 ?side2 A2.out).mono ?_); (case side1 => exact kc HR0.out); (case side2 => exact HC0.out); rintro e w5 ⟨rfl, hb⟩; replace HB := Aside0.mk (below_step (bl0 HB.out) hb); (try clear hb)) | (go_at_call 14; (with_reducible refine (pochoirref22_All.calls k _ _ l0 t442 t443 _ ?side1 ?side2 A4.out).mono ?_); (case side1 => exact kc (Kd.C_below HR0.out HB.out)); (case side2 => exact HC0.out); rintro e w6 ⟨v444, rfl, ho0, hb⟩; have HO445 := Aside0.mk (Kd.R_lower ho0 (below_size (bl0 HB.out))); replace HB := Aside0.mk (below_step (bl0 HB.out) hb); (try clear hb); (try clear ho0)))
  repeat (go_quiet (first | (go_at_call 40; (with_reducible refine (pochoirref16_May.calls k _ _ l0 true _ ?side1 ?side2 A2.out).mono ?_); (case side1 => exact kc HR0.out); (case side2 => exact HC0.out); rintro e w5 ⟨rfl, hb⟩; replace HB := Aside0.mk (below_step (bl0 HB.out) hb); (try clear hb)) | (go_at_call 14; (with_reducible refine (pochoirref22_All.calls k _ _ l0 t442 t443 _ ?side1 ?side2 A4.out).mono ?_); (case side1 => exact kc (Kd.C_below HR0.out HB.out)); (case side2 => exact HC0.out); rintro e w6 ⟨v444, rfl, ho0, hb⟩; have HO445 := Aside0.mk (Kd.R_lower ho0 (below_size (bl0 HB.out))); replace HB := Aside0.mk (below_step (bl0 HB.out) hb); (try clear hb); (try clear ho0))); try go_wp2_with (first | (go_at_call 40; (with_reducible refine (pochoirref16_May.calls k _ _ l0 true _ ?side1 ?side2 A2.out).mono ?_); (case side1 => exact kc HR0.out); (case side2 => exact HC0.out); rintro e w5 ⟨rfl, hb⟩; replace HB := Aside0.mk (below_step (bl0 HB.out) hb); (try clear hb)) | (go_at_call 14; (with_reducible refine (pochoirref22_All.calls k _ _ l0 t442 t443 _ ?side1 ?side2 A4.out).mono ?_); (case side1 => exact kc (Kd.C_below HR0.out HB.out)); (case side2 => exact HC0.out); rintro e w6 ⟨v444, rfl, ho0, hb⟩; have HO445 := Aside0.mk (Kd.R_lower ho0 (below_size (bl0 HB.out))); replace HB := Aside0.mk (below_step (bl0 HB.out) hb); (try clear hb); (try clear ho0))))
  go_loopg [6, 7] k (fun kq v6 v7 w' => ∃ (x6_1 : List Int) (x7_1 : Int), v7 = .int .i64 x7_1 ∧ Aside0 (pochoirref23_All.l0 kq l0 t442 x6_1 x7_1 = some (r1, r2)) ∧ Aside0 (kq ≤ k) ∧ Aside0 (Kd.R (Kd.int .i64) 3 w' w.heap.size (fun k_ => some k_ ≠ (v6 : Value).ownBlock) v444 t442) ∧ Aside0 (Kd.R (Kd.int .i64) 3 w' w.heap.size (fun k_ => some k_ ≠ (v444 : Value).ownBlock) v6 x6_1) ∧ Aside0 (Below w.heap.size w w'))
  case atStart => exact ⟨(([] : List Int)), (0), fr, H', ⟨Nat.le_refl _⟩, ⟨by (with_reducible repeat (first | apply Kd.R_alloc | apply Kd.R_drewN | apply Kd.R_drew)); exact Kd.R_mono HO445.out (fun _ hk => (by simp [Value.ownBlock]))⟩, ⟨by first | exact Kd.R_nil _ _ _ _ _ | exact Kd.N_nil _ _ _ _ _ | exact Kd.V_nil _ _ _ _ _ | exact Kd.Q_nil _ _ _ _ _ | exact Kd.S_nil _ _ _ _ _⟩, ⟨bl0 HB.out⟩⟩
  case round =>
   clear H'
   try clear p2
   try clear c3
   try clear c4
   obtain ⟨x6_1, x7_1, rfl, HA, HK1, HO_4, HO_6, HB⟩ := hrel
   cases gk with
   | zero => exact absurd HA.out (by simp [pochoirref23_All.l0])
   | succ k1 =>
    have H := HA.out
    clear HA
    simp only [pochoirref23_All.l0] at H
    by_cases c7 : x7_1 < (l0.length : Int)
    ·rw [if_pos c7] at H
     have c7b0 := decide_eq_true c7
     clear c7
     have HC8 := Aside0.mk H
     clear H
     go_upto_block 2 with (fail)
     repeat (go_quiet (fail); go_upto_block 2 with (fail))
     go_cut [8] (fun v8 wc => ∃ (kq : Nat) (x8_7 : Int), v8 = .int .i64 x8_7 ∧ Aside0 (pochoirref23_All.j2 kq l0 t442 x6_1 x7_1 x8_7 = some (r1, r2)) ∧ Aside0 (kq ≤ k1) ∧ Aside0 (Kd.R (Kd.int .i64) 3 wc w.heap.size (fun k_ => some k_ ≠ (u6 : Value).ownBlock) v444 t442) ∧ Aside0 (Kd.R (Kd.int .i64) 3 wc w.heap.size (fun k_ => some k_ ≠ (v444 : Value).ownBlock) u6 x6_1) ∧ Aside0 (Below w.heap.size w wc))
     case first =>
      have H := HC8.out
      clear HC8
      have H' := Aside0.mk H
      clear H
      go_wp2
      repeat (go_quiet (fail); try go_wp2)
      go_loopg [8] k1 (fun kq v8 w' => ∃ (x8_2 : Int), v8 = .int .i64 x8_2 ∧ Aside0 (pochoirref23_All.l1 kq l0 t442 x6_1 x7_1 x8_2 = some (r1, r2)) ∧ Aside0 (kq ≤ k1) ∧ Aside0 (Kd.R (Kd.int .i64) 3 w' w.heap.size (fun k_ => some k_ ≠ (u6 : Value).ownBlock) v444 t442) ∧ Aside0 (Kd.R (Kd.int .i64) 3 w' w.heap.size (fun k_ => some k_ ≠ (v444 : Value).ownBlock) u6 x6_1) ∧ Aside0 (Below w.heap.size w w'))
      case atStart => exact ⟨(x7_1), fr, H', ⟨Nat.le_refl _⟩, ⟨kr HO_4.out⟩, ⟨kr HO_6.out⟩, ⟨bl0 HB.out⟩⟩
      case round =>
       clear H'
       try clear p2
       try clear c3
       try clear c4
       try clear c7b0
       try clear p2
       obtain ⟨x8_2, rfl, HA, HK2, HO_4, HO_6, HB⟩ := hrel
       cases gk with
       | zero => exact absurd HA.out (by simp [pochoirref23_All.l1])
       | succ k2 =>
        have H := HA.out
        clear HA
        simp only [pochoirref23_All.l1] at H
        by_cases c9 : x8_2 < (l0.length : Int)
        ·rw [if_pos c9] at H
         have c9b0 := decide_eq_true c9
         clear c9
         (first | rw [c9b0] | (simp only [i64_w, i32_w]; rw [c9b0]) | skip)
         refine ifk H ?_; clear H; intro c10 H
         have c10b0 := decide_eq_true c10
         clear c10
         refine ifk H ?_; clear H; intro c11 H
         have c11b0 := decide_eq_true c11
         clear c11
         refine ifk H ?_; clear H; intro c12 H
         have c12b0 := decide_eq_true c12
         clear c12
         by_cases c13 : ((rd_T38 l0 x8_2).f0) = ((rd_T38 l0 x7_1).f0)
         ·rw [if_pos c13] at H
          have c13b0 : (((rd_T38 l0 x8_2).f0) == ((rd_T38 l0 x7_1).f0)) = true := beq_iff_eq.mpr c13
          have c13b1 : (((rd_T38 l0 x8_2).f0) != ((rd_T38 l0 x7_1).f0)) = false := bne_eq_false_iff_eq.mpr c13
          clear c13
          have H' := Aside0.mk H
          clear H
          have p446 : 0 ≤ (x8_2 : Int) := od
          have q446 : x8_2 < (l0.length : Int) := od
          obtain ⟨ad446, e446, hx446_0, hx446_1, hx446_2, hx446_3, hx446_4, hx446_5, hx446_6, hx446_7⟩ := at_T38 HR0.out x8_2 p446 q446
          cases e446
          replace hx446_0 := hc HB hx446_0
          replace hx446_1 := hc HB hx446_1
          replace hx446_2 := hc HB hx446_2
          replace hx446_3 := hc HB hx446_3
          replace hx446_4 := hc HB hx446_4
          replace hx446_5 := hc HB hx446_5
          replace hx446_6 := hc HB hx446_6
          replace hx446_7 := hc HB hx446_7
          replace p446 := eq_true p446
          replace q446 := eq_true q446
          have p447 : 0 ≤ (x7_1 : Int) := od
          have q447 : x7_1 < (l0.length : Int) := od
          obtain ⟨ad447, e447, hx447_0, hx447_1, hx447_2, hx447_3, hx447_4, hx447_5, hx447_6, hx447_7⟩ := at_T38 HR0.out x7_1 p447 q447
          obtain rfl : ad446 = ad447 := (by injection e447)
          replace hx447_0 := hc HB hx447_0
          replace hx447_1 := hc HB hx447_1
          replace hx447_2 := hc HB hx447_2
          replace hx447_3 := hc HB hx447_3
          replace hx447_4 := hc HB hx447_4
          replace hx447_5 := hc HB hx447_5
          replace hx447_6 := hc HB hx447_6
          replace hx447_7 := hc HB hx447_7
          replace p447 := eq_true p447
          replace q447 := eq_true q447
          go_wp2
          repeat (go_quiet (fail); try go_wp2)
          go_roundg k2
          case measure => have := HK1.out; have := HK2.out; omega
          case rel => exact ⟨(wrap64 (x8_2 + 1)), fr, H', ⟨by have := HK1.out; have := HK2.out; omega⟩, ⟨kr HO_4.out⟩, ⟨kr HO_6.out⟩, ⟨bl0 HB.out⟩⟩
         rw [if_neg c13] at H
         have c13b0 : (((rd_T38 l0 x8_2).f0) == ((rd_T38 l0 x7_1).f0)) = false := beq_eq_false_iff_ne.mpr c13
         have c13b1 : (((rd_T38 l0 x8_2).f0) != ((rd_T38 l0 x7_1).f0)) = true := bne_iff_ne.mpr c13
         have H' := Aside0.mk H
         clear H
         have p446 : 0 ≤ (x8_2 : Int) := od
         have q446 : x8_2 < (l0.length : Int) := od
         obtain ⟨ad446, e446, hx446_0, hx446_1, hx446_2, hx446_3, hx446_4, hx446_5, hx446_6, hx446_7⟩ := at_T38 HR0.out x8_2 p446 q446
         cases e446
         replace hx446_0 := hc HB hx446_0
         replace hx446_1 := hc HB hx446_1
         replace hx446_2 := hc HB hx446_2
         replace hx446_3 := hc HB hx446_3
         replace hx446_4 := hc HB hx446_4
         replace hx446_5 := hc HB hx446_5
         replace hx446_6 := hc HB hx446_6
         replace hx446_7 := hc HB hx446_7
         replace p446 := eq_true p446
         replace q446 := eq_true q446
         have p447 : 0 ≤ (x7_1 : Int) := od
         have q447 : x7_1 < (l0.length : Int) := od
         obtain ⟨ad447, e447, hx447_0, hx447_1, hx447_2, hx447_3, hx447_4, hx447_5, hx447_6, hx447_7⟩ := at_T38 HR0.out x7_1 p447 q447
         obtain rfl : ad446 = ad447 := (by injection e447)
         replace hx447_0 := hc HB hx447_0
         replace hx447_1 := hc HB hx447_1
         replace hx447_2 := hc HB hx447_2
         replace hx447_3 := hc HB hx447_3
         replace hx447_4 := hc HB hx447_4
         replace hx447_5 := hc HB hx447_5
         replace hx447_6 := hc HB hx447_6
         replace hx447_7 := hc HB hx447_7
         replace p447 := eq_true p447
         replace q447 := eq_true q447
         go_wp2
         repeat (go_quiet (fail); try go_wp2)
         go_meet
         case rel => exact ⟨_, (x8_2), fr, H', ⟨by have := HK1.out; have := HK2.out; first | omega | exact Nat.le_refl _⟩, ⟨kr HO_4.out⟩, ⟨kr HO_6.out⟩, ⟨bl0 HB.out⟩⟩
        rw [if_neg c9] at H
        have c9b0 := decide_eq_false c9
        clear c9
        (first | rw [c9b0] | (simp only [i64_w, i32_w]; rw [c9b0]) | skip)
        have H' := Aside0.mk H
        clear H
        go_wp2
        repeat (go_quiet (fail); try go_wp2)
        go_meet
        case rel => exact ⟨_, (x8_2), fr, H', ⟨by have := HK1.out; have := HK2.out; first | omega | exact Nat.le_refl _⟩, ⟨kr HO_4.out⟩, ⟨kr HO_6.out⟩, ⟨bl0 HB.out⟩⟩
     case rest =>
      clear HC8
      try clear c1
      try clear p2
      try clear c3
      try clear c4
      try clear p4
      try clear q4
      try clear hx4
      try clear p6
      try clear c7b0
      try clear c9b0
      try clear c10b0
      try clear c11b0
      try clear c12b0
      try clear c13b0
      try clear c13b1
      try clear hx446_0
      try clear hx446_1
      try clear hx446_2
      try clear hx446_3
      try clear hx446_4
      try clear hx446_5
      try clear hx446_6
      try clear hx446_7
      try clear hx447_0
      try clear hx447_1
      try clear hx447_2
      try clear hx447_3
      try clear hx447_4
      try clear hx447_5
      try clear hx447_6
      try clear hx447_7
      try clear p2
      try clear p446
      try clear p447
      try clear q446
      try clear q447
      obtain ⟨kq, x8_7, rfl, HA, HJ7, HO_4, HO_6, HB⟩ := hcut
      cases kq with
      | zero => exact absurd HA.out (by simp [pochoirref23_All.j2])
      | succ kj7 =>
       have H := HA.out
       clear HA
       simp only [pochoirref23_All.j2] at H
       have H' := Aside0.mk H
       clear H
       go_wp2
       repeat (go_quiet (fail); try go_wp2)
       go_loopg [9, 10] kj7 (fun kq v9 v10 w' => ∃ (x9_3 : List Int) (x10_3 : Int), v10 = .int .i64 x10_3 ∧ Aside0 (pochoirref23_All.l2 kq l0 t442 x6_1 x7_1 x8_7 x9_3 x10_3 = some (r1, r2)) ∧ Aside0 (kq ≤ kj7) ∧ Aside0 (Kd.R (Kd.int .i64) 3 w' w.heap.size (fun k_ => some k_ ≠ (u6 : Value).ownBlock ∧ some k_ ≠ (v9 : Value).ownBlock) v444 t442) ∧ Aside0 (Kd.R (Kd.int .i64) 3 w' w.heap.size (fun k_ => some k_ ≠ (v444 : Value).ownBlock ∧ some k_ ≠ (v9 : Value).ownBlock) u6 x6_1) ∧ Aside0 (Kd.R (Kd.int .i64) 3 w' w.heap.size (fun k_ => some k_ ≠ (v444 : Value).ownBlock ∧ some k_ ≠ (u6 : Value).ownBlock) v9 x9_3) ∧ Aside0 (Below w.heap.size w w'))
       case atStart => exact ⟨(([] : List Int)), (0), fr, H', ⟨Nat.le_refl _⟩, ⟨by (with_reducible repeat (first | apply Kd.R_alloc | apply Kd.R_drewN | apply Kd.R_drew)); exact Kd.R_mono HO_4.out (fun _ hk => ⟨hk, (by simp [Value.ownBlock])⟩)⟩, ⟨by (with_reducible repeat (first | apply Kd.R_alloc | apply Kd.R_drewN | apply Kd.R_drew)); exact Kd.R_mono HO_6.out (fun _ hk => ⟨hk, (by simp [Value.ownBlock])⟩)⟩, ⟨by first | exact Kd.R_nil _ _ _ _ _ | exact Kd.N_nil _ _ _ _ _ | exact Kd.V_nil _ _ _ _ _ | exact Kd.Q_nil _ _ _ _ _ | exact Kd.S_nil _ _ _ _ _⟩, ⟨bl0 HB.out⟩⟩
       case round =>
        clear H'
        try clear c1
        try clear p2
        try clear c3
        try clear c4
        try clear p4
        try clear q4
        try clear hx4
        try clear p6
        try clear c7b0
        try clear c9b0
        try clear c10b0
        try clear c11b0
        try clear c12b0
        try clear c13b0
        try clear c13b1
        try clear hx446_0
        try clear hx446_1
        try clear hx446_2
        try clear hx446_3
        try clear hx446_4
        try clear hx446_5
        try clear hx446_6
        try clear hx446_7
        try clear hx447_0
        try clear hx447_1
        try clear hx447_2
        try clear hx447_3
        try clear hx447_4
        try clear hx447_5
        try clear hx447_6
        try clear hx447_7
        try clear p2
        try clear p4
        try clear p446
        try clear p447
        try clear p6
        try clear q4
        try clear q446
        try clear q447
        obtain ⟨x9_3, x10_3, rfl, HA, HK3, HO_4, HO_6, HO_9, HB⟩ := hrel
        cases gk with
        | zero => exact absurd HA.out (by simp [pochoirref23_All.l2])
        | succ k3 =>
         have H := HA.out
         clear HA
         simp only [pochoirref23_All.l2] at H
         by_cases c14 : x10_3 < (t442.length : Int)
         ·rw [if_pos c14] at H
          have c14b0 := decide_eq_true c14
          clear c14
          refine ifk H ?_; clear H; intro c15 H
          have c15b0 := decide_eq_true c15
          clear c15
          by_cases c16 : (rd t442 x10_3) ≥ x7_1
          ·rw [if_pos c16] at H
           have c16b0 : decide (x7_1 ≤ (rd t442 x10_3)) = true := decide_eq_true c16
           clear c16
           by_cases c17 : (rd t442 x10_3) < x8_7
           ·rw [if_pos c17] at H
            have c17b0 := decide_eq_true c17
            clear c17
            refine ifk H ?_; clear H; intro c18 H
            have LMc18 := Aside0.mk c18
            clear c18
            obtain ⟨y451, hy451⟩ : ∃ y_ : List Int, y_ = (x9_3 ++ [wrap64 ((rd t442 x10_3) - x7_1)]) := ⟨_, rfl⟩
            replace H : (pochoirref23_All.l2 k3 l0 t442 x6_1 x7_1 x8_7 y451 (wrap64 (x10_3 + 1))) = some (r1, r2) := by first | (rw [hy451]; with_reducible exact H) | (have H2_ := (Option.bind_some _ _).symm.trans H; rw [hy451]; with_reducible exact H2_) | (have H2_ := (Option.bind_some _ _).symm.trans H; with_reducible exact H2_) | with_reducible exact H | (rw [hy451]; exact H) | exact H
            have Ny451 := Aside0.mk hy451
            clear hy451
            have H' := Aside0.mk H
            clear H
            obtain ⟨Ao19, co19, eo19⟩ := Kd.R_slice HO_4.out
            subst eo19
            have p448 : 0 ≤ (x10_3 : Int) := od
            have q448 : x10_3 < (t442.length : Int) := od
            obtain ⟨ad448, e448, hx448_0⟩ := Kd.at_int (Kd.R_reads' HO_4.out).2.2 x10_3 p448 q448
            cases e448
            replace p448 := eq_true p448
            replace q448 := eq_true q448
            have p449 : 0 ≤ (x10_3 : Int) := od
            have q449 : x10_3 < (t442.length : Int) := od
            obtain ⟨ad449, e449, hx449_0⟩ := Kd.at_int (Kd.R_reads' HO_4.out).2.2 x10_3 p449 q449
            obtain rfl : ad448 = ad449 := (by injection e449)
            replace p449 := eq_true p449
            replace q449 := eq_true q449
            have p450 : 0 ≤ (x10_3 : Int) := od
            have q450 : x10_3 < (t442.length : Int) := od
            obtain ⟨ad450, e450, hx450_0⟩ := Kd.at_int (Kd.R_reads' HO_4.out).2.2 x10_3 p450 q450
            obtain rfl : ad448 = ad450 := (by injection e450)
            replace p450 := eq_true p450
            replace q450 := eq_true q450
            go_wp2_with (first | ((with_reducible refine gate_builtin (b := .append) (xs := #[.tmp 63, .tmp 70]) rfl ?_); at_builtin; refine Kd.R_append (Kd.int .i64) (w0 := w) w.heap.size rfl (.tmp 63) (.tmp 70) 24 3 (.int .i64 0) 8 rfl Try.underlying24 info3 rfl (by decide) (by omega) u9 x9_3 (wrap64 ((rd t442 x10_3) - x7_1)) [.int .i64 (wrap64 ((rd t442 x10_3) - x7_1))] (fun k_ => some k_ ≠ (.slice (some ad448) t442.length co19 : Value).ownBlock ∧ some k_ ≠ (u6 : Value).ownBlock) (fun _ => False) rfl rfl ?aP (fun _ hk => hk.elim) ?aF ?aO ?aB ?aS ?aL ?_; (case aP => exact rfl); (case aB => exact (bl0 HB.out)); (case aF => exact (fun k_ hk => ⟨Kd.fresh' (Kd.R_lt (kr HO_4.out)) k_ hk, Kd.fresh' (Kd.R_lt (kr HO_6.out)) k_ hk⟩)); (case aO => exact (kr HO_9.out)); (case aS => exact (below_size (bl0 HB.out))); (case aL => have := LMc18.out; omega); intro v452 w20 ho hb hg hat; rw [← Ny451.out] at ho; have HO453 := Aside0.mk (ho); replace HO_4 := Aside0.mk (Kd.R_after (ok := (fun k_ => some k_ ≠ (u6 : Value).ownBlock)) (kr HO_4.out) hg hat); replace HO_6 := Aside0.mk (Kd.R_after (ok := (fun k_ => some k_ ≠ (.slice (some ad448) t442.length co19 : Value).ownBlock)) (kr HO_6.out) hg hat); replace HB := Aside0.mk (hb); clear HO_9 ho hb hg hat))
            repeat (go_quiet (first | ((with_reducible refine gate_builtin (b := .append) (xs := #[.tmp 63, .tmp 70]) rfl ?_); at_builtin; refine Kd.R_append (Kd.int .i64) (w0 := w) w.heap.size rfl (.tmp 63) (.tmp 70) 24 3 (.int .i64 0) 8 rfl Try.underlying24 info3 rfl (by decide) (by omega) u9 x9_3 (wrap64 ((rd t442 x10_3) - x7_1)) [.int .i64 (wrap64 ((rd t442 x10_3) - x7_1))] (fun k_ => some k_ ≠ (.slice (some ad448) t442.length co19 : Value).ownBlock ∧ some k_ ≠ (u6 : Value).ownBlock) (fun _ => False) rfl rfl ?aP (fun _ hk => hk.elim) ?aF ?aO ?aB ?aS ?aL ?_; (case aP => exact rfl); (case aB => exact (bl0 HB.out)); (case aF => exact (fun k_ hk => ⟨Kd.fresh' (Kd.R_lt (kr HO_4.out)) k_ hk, Kd.fresh' (Kd.R_lt (kr HO_6.out)) k_ hk⟩)); (case aO => exact (kr HO_9.out)); (case aS => exact (below_size (bl0 HB.out))); (case aL => have := LMc18.out; omega); intro v452 w20 ho hb hg hat; rw [← Ny451.out] at ho; have HO453 := Aside0.mk (ho); replace HO_4 := Aside0.mk (Kd.R_after (ok := (fun k_ => some k_ ≠ (u6 : Value).ownBlock)) (kr HO_4.out) hg hat); replace HO_6 := Aside0.mk (Kd.R_after (ok := (fun k_ => some k_ ≠ (.slice (some ad448) t442.length co19 : Value).ownBlock)) (kr HO_6.out) hg hat); replace HB := Aside0.mk (hb); clear HO_9 ho hb hg hat)); try go_wp2_with (first | ((with_reducible refine gate_builtin (b := .append) (xs := #[.tmp 63, .tmp 70]) rfl ?_); at_builtin; refine Kd.R_append (Kd.int .i64) (w0 := w) w.heap.size rfl (.tmp 63) (.tmp 70) 24 3 (.int .i64 0) 8 rfl Try.underlying24 info3 rfl (by decide) (by omega) u9 x9_3 (wrap64 ((rd t442 x10_3) - x7_1)) [.int .i64 (wrap64 ((rd t442 x10_3) - x7_1))] (fun k_ => some k_ ≠ (.slice (some ad448) t442.length co19 : Value).ownBlock ∧ some k_ ≠ (u6 : Value).ownBlock) (fun _ => False) rfl rfl ?aP (fun _ hk => hk.elim) ?aF ?aO ?aB ?aS ?aL ?_; (case aP => exact rfl); (case aB => exact (bl0 HB.out)); (case aF => exact (fun k_ hk => ⟨Kd.fresh' (Kd.R_lt (kr HO_4.out)) k_ hk, Kd.fresh' (Kd.R_lt (kr HO_6.out)) k_ hk⟩)); (case aO => exact (kr HO_9.out)); (case aS => exact (below_size (bl0 HB.out))); (case aL => have := LMc18.out; omega); intro v452 w20 ho hb hg hat; rw [← Ny451.out] at ho; have HO453 := Aside0.mk (ho); replace HO_4 := Aside0.mk (Kd.R_after (ok := (fun k_ => some k_ ≠ (u6 : Value).ownBlock)) (kr HO_4.out) hg hat); replace HO_6 := Aside0.mk (Kd.R_after (ok := (fun k_ => some k_ ≠ (.slice (some ad448) t442.length co19 : Value).ownBlock)) (kr HO_6.out) hg hat); replace HB := Aside0.mk (hb); clear HO_9 ho hb hg hat)))
            go_roundg k3
            case measure => have := HK1.out; have := HJ7.out; have := HK3.out; omega
            case rel => exact ⟨(y451), (wrap64 (x10_3 + 1)), fr, H', ⟨by have := HK1.out; have := HJ7.out; have := HK3.out; omega⟩, ⟨kr HO_4.out⟩, ⟨kr HO_6.out⟩, ⟨kr HO453.out⟩, ⟨bl0 HB.out⟩⟩
           rw [if_neg c17] at H
           have c17b0 := decide_eq_false c17
           clear c17
           have H' := Aside0.mk H
           clear H
           obtain ⟨Ao21, co21, eo21⟩ := Kd.R_slice HO_4.out
           subst eo21
           have p448 : 0 ≤ (x10_3 : Int) := od
           have q448 : x10_3 < (t442.length : Int) := od
           obtain ⟨ad448, e448, hx448_0⟩ := Kd.at_int (Kd.R_reads' HO_4.out).2.2 x10_3 p448 q448
           cases e448
           replace p448 := eq_true p448
           replace q448 := eq_true q448
           have p449 : 0 ≤ (x10_3 : Int) := od
           have q449 : x10_3 < (t442.length : Int) := od
           obtain ⟨ad449, e449, hx449_0⟩ := Kd.at_int (Kd.R_reads' HO_4.out).2.2 x10_3 p449 q449
           obtain rfl : ad448 = ad449 := (by injection e449)
           replace p449 := eq_true p449
           replace q449 := eq_true q449
           go_wp2
           repeat (go_quiet (fail); try go_wp2)
           go_roundg k3
           case measure => have := HK1.out; have := HJ7.out; have := HK3.out; omega
           case rel => exact ⟨(x9_3), (wrap64 (x10_3 + 1)), fr, H', ⟨by have := HK1.out; have := HJ7.out; have := HK3.out; omega⟩, ⟨kr HO_4.out⟩, ⟨kr HO_6.out⟩, ⟨kr HO_9.out⟩, ⟨bl0 HB.out⟩⟩
          rw [if_neg c16] at H
          have c16b0 : decide (x7_1 ≤ (rd t442 x10_3)) = false := decide_eq_false c16
          clear c16
          have H' := Aside0.mk H
          clear H
          obtain ⟨Ao22, co22, eo22⟩ := Kd.R_slice HO_4.out
          subst eo22
          have p448 : 0 ≤ (x10_3 : Int) := od
          have q448 : x10_3 < (t442.length : Int) := od
          obtain ⟨ad448, e448, hx448_0⟩ := Kd.at_int (Kd.R_reads' HO_4.out).2.2 x10_3 p448 q448
          cases e448
          replace p448 := eq_true p448
          replace q448 := eq_true q448
          go_wp2
          repeat (go_quiet (fail); try go_wp2)
          go_roundg k3
          case measure => have := HK1.out; have := HJ7.out; have := HK3.out; omega
          case rel => exact ⟨(x9_3), (wrap64 (x10_3 + 1)), fr, H', ⟨by have := HK1.out; have := HJ7.out; have := HK3.out; omega⟩, ⟨kr HO_4.out⟩, ⟨kr HO_6.out⟩, ⟨kr HO_9.out⟩, ⟨bl0 HB.out⟩⟩
         rw [if_neg c14] at H
         have c14b0 := decide_eq_false c14
         clear c14
         replace H := Option.bind_eq_some_iff.mp H
         obtain ⟨t454, A230, H⟩ := H
         replace H : (if x6_1.length + t454.length < 17592186044416 then (pochoirref23_All.l0 k3 l0 t442 (x6_1 ++ t454) x8_7) else (none)) = some (r1, r2) := H
         have A23 := Aside0.mk A230
         clear A230
         refine ifk H ?_; clear H; intro c24 H
         have LMc24 := Aside0.mk c24
         clear c24
         obtain ⟨y457, hy457⟩ : ∃ y_ : List Int, y_ = (x6_1 ++ t454) := ⟨_, rfl⟩
         replace H : (pochoirref23_All.l0 k3 l0 t442 y457 x8_7) = some (r1, r2) := by first | (rw [hy457]; with_reducible exact H) | (have H2_ := (Option.bind_some _ _).symm.trans H; rw [hy457]; with_reducible exact H2_) | (have H2_ := (Option.bind_some _ _).symm.trans H; with_reducible exact H2_) | with_reducible exact H | (rw [hy457]; exact H) | exact H
         have Ny457 := Aside0.mk hy457
         clear hy457
         have H' := Aside0.mk H
         clear H
         obtain ⟨Ao25, co25, eo25⟩ := Kd.R_slice HO_4.out
         subst eo25
         obtain ⟨Ao26, co26, eo26⟩ := Kd.R_slice HO_9.out
         subst eo26
         go_wp2_with (first | (go_at_call 85; (with_reducible refine (pochoirref23_contour.calls k3 (wrap64 (x8_7 - x7_1)) _ _ x9_3 t454 _ ?side1 ?side2 A23.out).mono ?_); (case side1 => exact kc (Kd.R_reads' HO_9.out).2.2); (case side2 => exact (Kd.R_reads' HO_9.out).2.1); rintro e w27 ⟨v455, rfl, ho0, hb⟩; have HO456 := Aside0.mk (Kd.R_lower (Kd.R_new' (Kd.R_new' (Kd.R_new' ho0 (Kd.R_lt (kr HO_4.out))) (Kd.R_lt (kr HO_6.out))) (Kd.R_lt (kr HO_9.out))) (below_size (bl0 HB.out))); replace HO_4 := Aside0.mk (Kd.R_elder' (kr HO_4.out) (Kd.R_base ho0) hb); replace HO_6 := Aside0.mk (Kd.R_elder' (kr HO_6.out) (Kd.R_base ho0) hb); replace HO_9 := Aside0.mk (Kd.R_elder' (kr HO_9.out) (Kd.R_base ho0) hb); replace HB := Aside0.mk (below_step (bl0 HB.out) hb); (try clear hb); (try clear hk); (try clear ho0); obtain ⟨Ao29, co29, eo29⟩ := Kd.R_slice HO456.out; subst eo29) | ((with_reducible refine gate_builtin (b := .append) (xs := #[.tmp 72, .tmp 77]) rfl ?_); at_builtin; refine Kd.R_append_rows (Kd.int .i64) (w0 := w) w.heap.size rfl (.tmp 72) (.tmp 77) 24 3 (.int .i64 0) 8 rfl Try.underlying24 info3 rfl (by decide) (by omega) u6 x6_1 t454 _ _ _ (fun k_ => some k_ ≠ (.slice Ao25 t442.length co25 : Value).ownBlock ∧ some k_ ≠ (.slice Ao26 x9_3.length co26 : Value).ownBlock ∧ some k_ ≠ (.slice Ao29 t454.length co29 : Value).ownBlock) (fun _ => False) rfl rfl ?aO ?aR (fun _ _ h => h) (fun _ h => h.elim) ?aF ?aB ?aS ?aL ?_; (case aR => repeat (first | exact (Kd.R_reads' HO456.out).2.2 | (with_reducible refine Kd.C_alloc ?_ _) | (with_reducible refine Kd.C_drewN ?_ _) | (with_reducible refine Kd.C_drew ?_))); (case aB => exact (bl0 HB.out)); (case aF => exact (fun k_ hk => ⟨Kd.fresh' (Kd.R_lt (kr HO_4.out)) k_ hk, Kd.fresh' (Kd.R_lt (kr HO_9.out)) k_ hk, Kd.fresh' (Kd.R_lt (kr HO456.out)) k_ hk⟩)); (case aO => exact (by (with_reducible repeat (first | apply Kd.R_alloc | apply Kd.R_drewN | apply Kd.R_drew)); exact Kd.R_mono HO_6.out (fun _ hk => ⟨hk.1.1, ⟨hk.1.2, hk.2⟩⟩))); (case aS => exact (below_size (bl0 HB.out))); (case aL => have := LMc24.out; omega); intro v458 w28 ho hb hg hat; rw [← Ny457.out] at ho; have HO459 := Aside0.mk (ho); replace HO_4 := Aside0.mk (Kd.R_after (ok := (fun k_ => some k_ ≠ (.slice Ao26 x9_3.length co26 : Value).ownBlock ∧ some k_ ≠ (.slice Ao29 t454.length co29 : Value).ownBlock)) (by (with_reducible repeat (first | apply Kd.R_alloc | apply Kd.R_drewN | apply Kd.R_drew)); exact Kd.R_mono HO_4.out (fun _ hk => ⟨⟨hk.1.2, hk.2⟩, hk.1.1⟩)) hg hat); replace HO_9 := Aside0.mk (Kd.R_after (ok := (fun k_ => some k_ ≠ (.slice Ao25 t442.length co25 : Value).ownBlock ∧ some k_ ≠ (.slice Ao29 t454.length co29 : Value).ownBlock)) (by (with_reducible repeat (first | apply Kd.R_alloc | apply Kd.R_drewN | apply Kd.R_drew)); exact Kd.R_mono HO_9.out (fun _ hk => ⟨⟨hk.1.1, hk.2⟩, hk.1.2⟩)) hg hat); replace HO456 := Aside0.mk (Kd.R_after (ok := (fun k_ => some k_ ≠ (.slice Ao25 t442.length co25 : Value).ownBlock ∧ some k_ ≠ (.slice Ao26 x9_3.length co26 : Value).ownBlock)) (by (with_reducible repeat (first | apply Kd.R_alloc | apply Kd.R_drewN | apply Kd.R_drew)); exact Kd.R_mono HO456.out (fun _ hk => ⟨⟨hk.1.1.2, hk.2⟩, hk.1.2⟩)) hg hat); replace HB := Aside0.mk (hb); clear HO_6 ho hb hg hat))
         repeat (go_quiet (first | (go_at_call 85; (with_reducible refine (pochoirref23_contour.calls k3 (wrap64 (x8_7 - x7_1)) _ _ x9_3 t454 _ ?side1 ?side2 A23.out).mono ?_); (case side1 => exact kc (Kd.R_reads' HO_9.out).2.2); (case side2 => exact (Kd.R_reads' HO_9.out).2.1); rintro e w27 ⟨v455, rfl, ho0, hb⟩; have HO456 := Aside0.mk (Kd.R_lower (Kd.R_new' (Kd.R_new' (Kd.R_new' ho0 (Kd.R_lt (kr HO_4.out))) (Kd.R_lt (kr HO_6.out))) (Kd.R_lt (kr HO_9.out))) (below_size (bl0 HB.out))); replace HO_4 := Aside0.mk (Kd.R_elder' (kr HO_4.out) (Kd.R_base ho0) hb); replace HO_6 := Aside0.mk (Kd.R_elder' (kr HO_6.out) (Kd.R_base ho0) hb); replace HO_9 := Aside0.mk (Kd.R_elder' (kr HO_9.out) (Kd.R_base ho0) hb); replace HB := Aside0.mk (below_step (bl0 HB.out) hb); (try clear hb); (try clear hk); (try clear ho0); obtain ⟨Ao29, co29, eo29⟩ := Kd.R_slice HO456.out; subst eo29) | ((with_reducible refine gate_builtin (b := .append) (xs := #[.tmp 72, .tmp 77]) rfl ?_); at_builtin; refine Kd.R_append_rows (Kd.int .i64) (w0 := w) w.heap.size rfl (.tmp 72) (.tmp 77) 24 3 (.int .i64 0) 8 rfl Try.underlying24 info3 rfl (by decide) (by omega) u6 x6_1 t454 _ _ _ (fun k_ => some k_ ≠ (.slice Ao25 t442.length co25 : Value).ownBlock ∧ some k_ ≠ (.slice Ao26 x9_3.length co26 : Value).ownBlock ∧ some k_ ≠ (.slice Ao29 t454.length co29 : Value).ownBlock) (fun _ => False) rfl rfl ?aO ?aR (fun _ _ h => h) (fun _ h => h.elim) ?aF ?aB ?aS ?aL ?_; (case aR => repeat (first | exact (Kd.R_reads' HO456.out).2.2 | (with_reducible refine Kd.C_alloc ?_ _) | (with_reducible refine Kd.C_drewN ?_ _) | (with_reducible refine Kd.C_drew ?_))); (case aB => exact (bl0 HB.out)); (case aF => exact (fun k_ hk => ⟨Kd.fresh' (Kd.R_lt (kr HO_4.out)) k_ hk, Kd.fresh' (Kd.R_lt (kr HO_9.out)) k_ hk, Kd.fresh' (Kd.R_lt (kr HO456.out)) k_ hk⟩)); (case aO => exact (by (with_reducible repeat (first | apply Kd.R_alloc | apply Kd.R_drewN | apply Kd.R_drew)); exact Kd.R_mono HO_6.out (fun _ hk => ⟨hk.1.1, ⟨hk.1.2, hk.2⟩⟩))); (case aS => exact (below_size (bl0 HB.out))); (case aL => have := LMc24.out; omega); intro v458 w28 ho hb hg hat; rw [← Ny457.out] at ho; have HO459 := Aside0.mk (ho); replace HO_4 := Aside0.mk (Kd.R_after (ok := (fun k_ => some k_ ≠ (.slice Ao26 x9_3.length co26 : Value).ownBlock ∧ some k_ ≠ (.slice Ao29 t454.length co29 : Value).ownBlock)) (by (with_reducible repeat (first | apply Kd.R_alloc | apply Kd.R_drewN | apply Kd.R_drew)); exact Kd.R_mono HO_4.out (fun _ hk => ⟨⟨hk.1.2, hk.2⟩, hk.1.1⟩)) hg hat); replace HO_9 := Aside0.mk (Kd.R_after (ok := (fun k_ => some k_ ≠ (.slice Ao25 t442.length co25 : Value).ownBlock ∧ some k_ ≠ (.slice Ao29 t454.length co29 : Value).ownBlock)) (by (with_reducible repeat (first | apply Kd.R_alloc | apply Kd.R_drewN | apply Kd.R_drew)); exact Kd.R_mono HO_9.out (fun _ hk => ⟨⟨hk.1.1, hk.2⟩, hk.1.2⟩)) hg hat); replace HO456 := Aside0.mk (Kd.R_after (ok := (fun k_ => some k_ ≠ (.slice Ao25 t442.length co25 : Value).ownBlock ∧ some k_ ≠ (.slice Ao26 x9_3.length co26 : Value).ownBlock)) (by (with_reducible repeat (first | apply Kd.R_alloc | apply Kd.R_drewN | apply Kd.R_drew)); exact Kd.R_mono HO456.out (fun _ hk => ⟨⟨hk.1.1.2, hk.2⟩, hk.1.2⟩)) hg hat); replace HB := Aside0.mk (hb); clear HO_6 ho hb hg hat)); try go_wp2_with (first | (go_at_call 85; (with_reducible refine (pochoirref23_contour.calls k3 (wrap64 (x8_7 - x7_1)) _ _ x9_3 t454 _ ?side1 ?side2 A23.out).mono ?_); (case side1 => exact kc (Kd.R_reads' HO_9.out).2.2); (case side2 => exact (Kd.R_reads' HO_9.out).2.1); rintro e w27 ⟨v455, rfl, ho0, hb⟩; have HO456 := Aside0.mk (Kd.R_lower (Kd.R_new' (Kd.R_new' (Kd.R_new' ho0 (Kd.R_lt (kr HO_4.out))) (Kd.R_lt (kr HO_6.out))) (Kd.R_lt (kr HO_9.out))) (below_size (bl0 HB.out))); replace HO_4 := Aside0.mk (Kd.R_elder' (kr HO_4.out) (Kd.R_base ho0) hb); replace HO_6 := Aside0.mk (Kd.R_elder' (kr HO_6.out) (Kd.R_base ho0) hb); replace HO_9 := Aside0.mk (Kd.R_elder' (kr HO_9.out) (Kd.R_base ho0) hb); replace HB := Aside0.mk (below_step (bl0 HB.out) hb); (try clear hb); (try clear hk); (try clear ho0); obtain ⟨Ao29, co29, eo29⟩ := Kd.R_slice HO456.out; subst eo29) | ((with_reducible refine gate_builtin (b := .append) (xs := #[.tmp 72, .tmp 77]) rfl ?_); at_builtin; refine Kd.R_append_rows (Kd.int .i64) (w0 := w) w.heap.size rfl (.tmp 72) (.tmp 77) 24 3 (.int .i64 0) 8 rfl Try.underlying24 info3 rfl (by decide) (by omega) u6 x6_1 t454 _ _ _ (fun k_ => some k_ ≠ (.slice Ao25 t442.length co25 : Value).ownBlock ∧ some k_ ≠ (.slice Ao26 x9_3.length co26 : Value).ownBlock ∧ some k_ ≠ (.slice Ao29 t454.length co29 : Value).ownBlock) (fun _ => False) rfl rfl ?aO ?aR (fun _ _ h => h) (fun _ h => h.elim) ?aF ?aB ?aS ?aL ?_; (case aR => repeat (first | exact (Kd.R_reads' HO456.out).2.2 | (with_reducible refine Kd.C_alloc ?_ _) | (with_reducible refine Kd.C_drewN ?_ _) | (with_reducible refine Kd.C_drew ?_))); (case aB => exact (bl0 HB.out)); (case aF => exact (fun k_ hk => ⟨Kd.fresh' (Kd.R_lt (kr HO_4.out)) k_ hk, Kd.fresh' (Kd.R_lt (kr HO_9.out)) k_ hk, Kd.fresh' (Kd.R_lt (kr HO456.out)) k_ hk⟩)); (case aO => exact (by (with_reducible repeat (first | apply Kd.R_alloc | apply Kd.R_drewN | apply Kd.R_drew)); exact Kd.R_mono HO_6.out (fun _ hk => ⟨hk.1.1, ⟨hk.1.2, hk.2⟩⟩))); (case aS => exact (below_size (bl0 HB.out))); (case aL => have := LMc24.out; omega); intro v458 w28 ho hb hg hat; rw [← Ny457.out] at ho; have HO459 := Aside0.mk (ho); replace HO_4 := Aside0.mk (Kd.R_after (ok := (fun k_ => some k_ ≠ (.slice Ao26 x9_3.length co26 : Value).ownBlock ∧ some k_ ≠ (.slice Ao29 t454.length co29 : Value).ownBlock)) (by (with_reducible repeat (first | apply Kd.R_alloc | apply Kd.R_drewN | apply Kd.R_drew)); exact Kd.R_mono HO_4.out (fun _ hk => ⟨⟨hk.1.2, hk.2⟩, hk.1.1⟩)) hg hat); replace HO_9 := Aside0.mk (Kd.R_after (ok := (fun k_ => some k_ ≠ (.slice Ao25 t442.length co25 : Value).ownBlock ∧ some k_ ≠ (.slice Ao29 t454.length co29 : Value).ownBlock)) (by (with_reducible repeat (first | apply Kd.R_alloc | apply Kd.R_drewN | apply Kd.R_drew)); exact Kd.R_mono HO_9.out (fun _ hk => ⟨⟨hk.1.1, hk.2⟩, hk.1.2⟩)) hg hat); replace HO456 := Aside0.mk (Kd.R_after (ok := (fun k_ => some k_ ≠ (.slice Ao25 t442.length co25 : Value).ownBlock ∧ some k_ ≠ (.slice Ao26 x9_3.length co26 : Value).ownBlock)) (by (with_reducible repeat (first | apply Kd.R_alloc | apply Kd.R_drewN | apply Kd.R_drew)); exact Kd.R_mono HO456.out (fun _ hk => ⟨⟨hk.1.1.2, hk.2⟩, hk.1.2⟩)) hg hat); replace HB := Aside0.mk (hb); clear HO_6 ho hb hg hat)))
         go_roundg k3
         case measure => have := HK1.out; have := HJ7.out; have := HK3.out; omega
         case rel => exact ⟨(y457), (x8_7), fr, H', ⟨by have := HK1.out; have := HJ7.out; have := HK3.out; omega⟩, ⟨by (with_reducible repeat (first | apply Kd.R_alloc | apply Kd.R_drewN | apply Kd.R_drew)); exact Kd.R_mono HO_4.out (fun _ hk => hk.2)⟩, ⟨by (with_reducible repeat (first | apply Kd.R_alloc | apply Kd.R_drewN | apply Kd.R_drew)); exact Kd.R_mono HO459.out (fun _ hk => hk.1)⟩, ⟨bl0 HB.out⟩⟩
    rw [if_neg c7] at H
    have c7b0 := decide_eq_false c7
    clear c7
    simp only [Option.some.injEq, Prod.mk.injEq] at H
    obtain ⟨rfl, rfl⟩ := H
    go_wp2
    repeat (go_quiet (fail); try go_wp2)
    go_ret2
    exact ⟨_, by first | rfl | (simp [errW_none, errW_some] <;> rfl) | (simp [*, errW_none, errW_some] <;> rfl), by (with_reducible repeat (first | apply Kd.R_alloc | apply Kd.R_drewN | apply Kd.R_drew)); exact Kd.R_mono HO_6.out (fun _ hk => trivial), bl0 HB.out⟩
 replace c3 := Bool.eq_false_iff.mpr c3
 subst c3
 have H1 : (some (([] : List Int), 1)) = some (r1, r2) := by rw [if_neg (show ¬ (false = true) by decide)] at H; exact H
 clear H
 have H := H1
 clear H1
 simp only [Option.some.injEq, Prod.mk.injEq] at H
 obtain ⟨rfl, rfl⟩ := H
 go_enter Try.func47, Try.ntmps47
 go_wp2_with (first | (go_at_call 40; (with_reducible refine (pochoirref16_May.calls k _ _ l0 false _ ?side1 ?side2 A2.out).mono ?_); (case side1 => exact kc HR0.out); (case side2 => exact HC0.out); rintro e w30 ⟨rfl, hb⟩; replace HB := Aside0.mk (below_step (bl0 HB.out) hb); (try clear hb)))
 repeat (go_quiet (first | (go_at_call 40; (with_reducible refine (pochoirref16_May.calls k _ _ l0 false _ ?side1 ?side2 A2.out).mono ?_); (case side1 => exact kc HR0.out); (case side2 => exact HC0.out); rintro e w30 ⟨rfl, hb⟩; replace HB := Aside0.mk (below_step (bl0 HB.out) hb); (try clear hb))); try go_wp2_with (first | (go_at_call 40; (with_reducible refine (pochoirref16_May.calls k _ _ l0 false _ ?side1 ?side2 A2.out).mono ?_); (case side1 => exact kc HR0.out); (case side2 => exact HC0.out); rintro e w30 ⟨rfl, hb⟩; replace HB := Aside0.mk (below_step (bl0 HB.out) hb); (try clear hb))))
 go_ret2
 exact ⟨_, by first | rfl | (simp [errW_none, errW_some] <;> rfl) | (simp [*, errW_none, errW_some] <;> rfl), by first | exact Kd.R_nil _ _ _ _ _ | exact Kd.N_nil _ _ _ _ _ | exact Kd.V_nil _ _ _ _ _ | exact Kd.Q_nil _ _ _ _ _ | exact Kd.S_nil _ _ _ _ _, bl0 HB.out⟩

/-! ### pochoirlaw23_ColorAll: function 9 -/
def pochoirlaw23_ColorAll.f (k : Nat) (l0 : List (S38)) : Option (Bool) := (pochoirlaw23_awake.f k).bind fun t460 => (if t460 = true then (if (l0.length : Int) > 60 then (some true) else ((color_All.f k l0).bind fun bt461 => ((pochoirref23_All.f k l0).bind fun bt465 => ((pochoirlaw23_ints.f k bt461.1 bt465.1).bind fun t469 => (if t469 = true then (some (bt461.2 == bt465.2)) else (some false)))))) else (some false))
theorem pochoirlaw23_ColorAll.mono : ∀ a0 k, LeO (pochoirlaw23_ColorAll.f k a0) (pochoirlaw23_ColorAll.f (k + 1) a0) := by
 intro a0 k
 unfold pochoirlaw23_ColorAll.f
 repeat' first | (with_reducible first | exact color_All.mono _ _ | exact pochoirlaw23_awake.mono _ | exact pochoirlaw23_ints.mono _ _ _ | exact pochoirref23_All.mono _ _ | exact LeO.refl _ | exact LeO.none _ | refine LeO.ite ?_ ?_ | refine LeO.bind ?_ (fun _ => ?_)) | exact color_All.mono _ _ | exact pochoirlaw23_awake.mono _ | exact pochoirlaw23_ints.mono _ _ _ | exact pochoirref23_All.mono _ _ | exact LeO.none _ | refine LeO.ite ?_ ?_ | refine LeO.bind ?_ (fun _ => ?_)
set_option maxHeartbeats 8000000 in
set_option maxRecDepth 100000 in
theorem pochoirlaw23_ColorAll.calls (k : Nat) (A0 : Option Addr) (c0 : Nat) (l0 : List (S38)) (r : Bool) (w : World) (hr0 : Kd.C k38 w A0 l0.length l0) (hc0 : l0.length ≤ c0) (hq_ : r = true) (h : pochoirlaw23_ColorAll.f k l0 = some r) :
  Calls Try.prog 9 #[.slice A0 l0.length c0] w fun e w' => e = .returned (.bool r) ∧ Below w.heap.size w w' := by
 have HR0 := Aside0.mk hr0
 have HC0 := Aside0.mk hc0
 clear hr0 hc0
 have HB := Aside0.mk (Below.refl w.heap.size w)
 have HQ := Aside0.mk hq_
 clear hq_
 have H := h
 clear h; unfold pochoirlaw23_ColorAll.f at H
 replace H := Option.bind_eq_some_iff.mp H
 obtain ⟨t460, A20, H⟩ := H
 replace H : (if t460 = true then (if (l0.length : Int) > 60 then (some true) else ((color_All.f k l0).bind fun bt461 => ((pochoirref23_All.f k l0).bind fun bt465 => ((pochoirlaw23_ints.f k bt461.1 bt465.1).bind fun t469 => (if t469 = true then (some (bt461.2 == bt465.2)) else (some false)))))) else (some false)) = some r := H
 have A2 := Aside0.mk A20
 clear A20
 by_cases c3 : t460 = true
 ·subst c3
  have H1 : (if (l0.length : Int) > 60 then (some true) else ((color_All.f k l0).bind fun bt461 => ((pochoirref23_All.f k l0).bind fun bt465 => ((pochoirlaw23_ints.f k bt461.1 bt465.1).bind fun t469 => (if t469 = true then (some (bt461.2 == bt465.2)) else (some false)))))) = some r := by rw [if_pos rfl] at H; exact H
  clear H
  have H := H1
  clear H1
  by_cases c4 : (l0.length : Int) > 60
  ·rw [if_pos c4] at H
   have c4b0 : decide (60 < (l0.length : Int)) = true := decide_eq_true c4
   have c4b1 : decide (60 < l0.length) = true := decide_eq_true (by omega)
   clear c4
   obtain rfl := Option.some.inj H
   go_enter Try.func9, Try.ntmps9
   go_wp2_with (first | ((with_reducible refine gate_callee (f := 45) rfl ?_); refine goesL_ (some 7) rfl rfl Try.func45 (by kernel_rfl) rfl #[] rfl am ?_; (with_reducible refine (pochoirlaw23_awake.calls k  true _ rfl A2.out).mono ?_); rintro e w5 ⟨rfl, hb⟩; refine ⟨_, rfl, ?_⟩; replace HB := Aside0.mk (below_step (bl0 HB.out) hb); (try clear hb)))
   go_ret
   exact ⟨by first | rfl | (simp [errW_none, errW_some] <;> rfl) | (simp [*, errW_none, errW_some] <;> rfl), bl0 HB.out⟩
  rw [if_neg c4] at H
  have c4b0 : decide (60 < (l0.length : Int)) = false := decide_eq_false c4
  have c4b1 : decide (60 < l0.length) = false := decide_eq_false (by omega)
  clear c4
  replace H := Option.bind_eq_some_iff.mp H
  obtain ⟨⟨t461, t462⟩, A60, H⟩ := H
  replace H : ((pochoirref23_All.f k l0).bind fun bt465 => ((pochoirlaw23_ints.f k t461 bt465.1).bind fun t469 => (if t469 = true then (some (t462 == bt465.2)) else (some false)))) = some r := H
  have A6 := Aside0.mk A60
  clear A60
  replace H := Option.bind_eq_some_iff.mp H
  obtain ⟨⟨t465, t466⟩, A70, H⟩ := H
  replace H : ((pochoirlaw23_ints.f k t461 t465).bind fun t469 => (if t469 = true then (some (t462 == t466)) else (some false))) = some r := H
  have A7 := Aside0.mk A70
  clear A70
  replace H := Option.bind_eq_some_iff.mp H
  obtain ⟨t469, A80, H⟩ := H
  replace H : (if t469 = true then (some (t462 == t466)) else (some false)) = some r := H
  have A8 := Aside0.mk A80
  clear A80
  by_cases c9 : t469 = true
  ·subst c9
   have H1 : (some (t462 == t466)) = some r := by rw [if_pos rfl] at H; exact H
   clear H
   have H := H1
   clear H1
   obtain rfl := Option.some.inj H
   go_enter Try.func9, Try.ntmps9
   go_wp2_with (first | ((with_reducible refine gate_callee (f := 45) rfl ?_); refine goesL_ (some 7) rfl rfl Try.func45 (by kernel_rfl) rfl #[] rfl am ?_; (with_reducible refine (pochoirlaw23_awake.calls k  true _ rfl A2.out).mono ?_); rintro e w10 ⟨rfl, hb⟩; refine ⟨_, rfl, ?_⟩; replace HB := Aside0.mk (below_step (bl0 HB.out) hb); (try clear hb)) | ((with_reducible refine gate_callee (f := 46) rfl ?_); refine goesL_ (some 14) rfl rfl Try.func46 (by kernel_rfl) rfl #[.slice A0 l0.length c0] rfl am ?_; (with_reducible refine (color_All.calls k _ _ l0 t461 t462 _ ?side1 ?side2 A6.out).mono ?_); (case side1 => exact kc (Kd.C_below HR0.out HB.out)); (case side2 => exact HC0.out); rintro e w11 ⟨v463, rfl, ho0, hb⟩; refine ⟨_, rfl, ?_⟩; have HO464 := Aside0.mk (Kd.R_lower ho0 (below_size (bl0 HB.out))); replace HB := Aside0.mk (below_step (bl0 HB.out) hb); (try clear hb); (try clear ho0)) | ((with_reducible refine gate_callee (f := 47) rfl ?_); refine goesL_ (some 19) rfl rfl Try.func47 (by kernel_rfl) rfl #[.slice A0 l0.length c0] rfl am ?_; (with_reducible refine (pochoirref23_All.calls k _ _ l0 t465 t466 _ ?side1 ?side2 A7.out).mono ?_); (case side1 => exact kc (Kd.C_below HR0.out HB.out)); (case side2 => exact HC0.out); rintro e w12 ⟨v467, rfl, ho0, hb⟩; refine ⟨_, rfl, ?_⟩; have HO468 := Aside0.mk (Kd.R_lower (Kd.R_new' ho0 (Kd.R_lt (kr HO464.out))) (below_size (bl0 HB.out))); replace HO464 := Aside0.mk (Kd.R_elder' (kr HO464.out) (Kd.R_base ho0) hb); replace HB := Aside0.mk (below_step (bl0 HB.out) hb); (try clear hb); (try clear ho0); obtain ⟨Ao13, co13, eo13⟩ := Kd.R_slice HO464.out; subst eo13; obtain ⟨Ao14, co14, eo14⟩ := Kd.R_slice HO468.out; subst eo14) | ((with_reducible refine gate_callee (f := 48) rfl ?_); refine goesL_ (some 24) rfl rfl Try.func48 (by kernel_rfl) rfl #[.slice Ao13 t461.length co13, .slice Ao14 t465.length co14] rfl am ?_; (with_reducible refine (pochoirlaw23_ints.calls k _ _ t461 _ _ t465 true _ ?side1 ?side2 ?side3 ?side4 A8.out).mono ?_); (case side1 => exact kc (Kd.R_reads' HO464.out).2.2); (case side2 => exact (Kd.R_reads' HO464.out).2.1); (case side3 => exact kc (Kd.R_reads' HO468.out).2.2); (case side4 => exact (Kd.R_reads' HO468.out).2.1); rintro e w' ⟨rfl, ⟨nd, rfl⟩⟩; refine ⟨_, rfl, ?_⟩))
   go_ret
   exact ⟨by first | rfl | (simp [errW_none, errW_some] <;> rfl) | (simp [*, errW_none, errW_some] <;> rfl), bl0 HB.out⟩
  replace c9 := Bool.eq_false_iff.mpr c9
  subst c9
  have H1 : (some false) = some r := by rw [if_neg (show ¬ (false = true) by decide)] at H; exact H
  clear H
  have H := H1
  clear H1
  exact absurd (HQ.out ▸ H) (by simp)
 replace c3 := Bool.eq_false_iff.mpr c3
 subst c3
 have H1 : (some false) = some r := by rw [if_neg (show ¬ (false = true) by decide)] at H; exact H
 clear H
 have H := H1
 clear H1
 exact absurd (HQ.out ▸ H) (by simp)

/-- THE ONE PURE STATEMENT of pochoirlaw23_ColorAll. -/
def pochoirlaw23_ColorAll.Pure : Prop := ∀ (x0 : List (S38)), (x0.length * 64 ≤ 140737488351232 ∧ x0.length ≤ 9223372036854775807 ∧ ∀ x ∈ x0, wf38 x) → ∃ k, pochoirlaw23_ColorAll.f k x0 = some true

end Go.Proofs.Ytalgppclaolonaa.XColr
