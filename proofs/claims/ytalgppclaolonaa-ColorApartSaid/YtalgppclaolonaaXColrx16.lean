-- Printed by a program of this claim. Not trusted: Lean checks it.
import Derived.Test.YtalgppclaolonaaXColrx0
import Derived.Test.YtalgppclaolonaaXColrx1
import Derived.Test.YtalgppclaolonaaXColrx15
namespace Go.Proofs.Ytalgppclaolonaa.XColr
open Go.RowKit Go.Proofs.YtalgppclaolonaaW.PrintWords Go.Proofs.YtalgppclaolonaaW.PrintLast Go.Proofs.YtalgppclaolonaaW.PrintMore
attribute [local go_sem] max2_int min2_int max_two min_two max_three min_three max_four min_four   -- for this text's walks alone
set_option linter.unusedVariables false
set_option linter.unusedSimpArgs false
open XOpen

attribute [local go_sem high] eqA36
/-! ### pochoirref16_Closed: function 82 -/
def pochoirref16_Closed.l0 : Nat → List (S38) → Int → Int → Option (Bool)
 | 0, _, _, _ => none
 | k + 1, x0, x3, x4 => if x4 < (x0.length : Int) then (if 0 ≤ x4 then (if 0 ≤ x3 then (if x3 < (x0.length : Int) then (if ((rd_T38 x0 x4).f0) = ((rd_T38 x0 x3).f0) then (if x4 = (wrap64 ((x0.length : Int) - 1)) then (if (!(((rd_T38 x0 x4).f4.f0) == ((rd_T38 x0 x3).f2.f0)) || (!(((rd_T38 x0 x4).f4.f1) == ((rd_T38 x0 x3).f2.f1)))) = true then (some false) else (pochoirref16_Closed.l0 k x0 x3 (wrap64 (x4 + 1)))) else (if 0 ≤ (wrap64 (x4 + 1)) then (if (wrap64 (x4 + 1)) < (x0.length : Int) then (if ((rd_T38 x0 (wrap64 (x4 + 1))).f0) = ((rd_T38 x0 x4).f0) then (if (!(((rd_T38 x0 x4).f4.f0) == ((rd_T38 x0 (wrap64 (x4 + 1))).f2.f0)) || (!(((rd_T38 x0 x4).f4.f1) == ((rd_T38 x0 (wrap64 (x4 + 1))).f2.f1)))) = true then (some false) else (pochoirref16_Closed.l0 k x0 x3 (wrap64 (x4 + 1)))) else (if (!(((rd_T38 x0 x4).f4.f0) == ((rd_T38 x0 x3).f2.f0)) || (!(((rd_T38 x0 x4).f4.f1) == ((rd_T38 x0 x3).f2.f1)))) = true then (some false) else (pochoirref16_Closed.l0 k x0 x3 (wrap64 (x4 + 1))))) else (none)) else (none))) else (if x4 = (wrap64 ((x0.length : Int) - 1)) then (if (!(((rd_T38 x0 x4).f4.f0) == ((rd_T38 x0 x4).f2.f0)) || (!(((rd_T38 x0 x4).f4.f1) == ((rd_T38 x0 x4).f2.f1)))) = true then (some false) else (pochoirref16_Closed.l0 k x0 x4 (wrap64 (x4 + 1)))) else (if 0 ≤ (wrap64 (x4 + 1)) then (if (wrap64 (x4 + 1)) < (x0.length : Int) then (if ((rd_T38 x0 (wrap64 (x4 + 1))).f0) = ((rd_T38 x0 x4).f0) then (if (!(((rd_T38 x0 x4).f4.f0) == ((rd_T38 x0 (wrap64 (x4 + 1))).f2.f0)) || (!(((rd_T38 x0 x4).f4.f1) == ((rd_T38 x0 (wrap64 (x4 + 1))).f2.f1)))) = true then (some false) else (pochoirref16_Closed.l0 k x0 x4 (wrap64 (x4 + 1)))) else (if (!(((rd_T38 x0 x4).f4.f0) == ((rd_T38 x0 x4).f2.f0)) || (!(((rd_T38 x0 x4).f4.f1) == ((rd_T38 x0 x4).f2.f1)))) = true then (some false) else (pochoirref16_Closed.l0 k x0 x4 (wrap64 (x4 + 1))))) else (none)) else (none)))) else (none)) else (none)) else (none)) else (some true)
def pochoirref16_Closed.f (k : Nat) (l0 : List (S38)) : Option (Bool) := pochoirref16_Closed.l0 k l0 0 0
theorem pochoirref16_Closed.mono_l : ∀ k, (∀ y0 y1 y2, LeO (pochoirref16_Closed.l0 k y0 y1 y2) (pochoirref16_Closed.l0 (k + 1) y0 y1 y2))
 | 0 => fun _ _ _ r h => by simp [pochoirref16_Closed.l0] at h
 | k + 1 => by
  have ih0 := pochoirref16_Closed.mono_l k
  ·intro y0 y1 y2
   unfold pochoirref16_Closed.l0
   repeat' first | (with_reducible first | exact ih0 _ _ _ | exact LeO.refl _ | exact LeO.none _ | refine LeO.ite ?_ ?_ | refine LeO.bind ?_ (fun _ => ?_)) | exact ih0 _ _ _ | exact LeO.none _ | refine LeO.ite ?_ ?_ | refine LeO.bind ?_ (fun _ => ?_)
theorem pochoirref16_Closed.mono : ∀ a0 k, LeO (pochoirref16_Closed.f k a0) (pochoirref16_Closed.f (k + 1) a0) := by
 intro a0 k
 have ih0 := pochoirref16_Closed.mono_l k
 unfold pochoirref16_Closed.f
 repeat' first | (with_reducible first | exact ih0 _ _ _ | exact LeO.refl _ | exact LeO.none _ | refine LeO.ite ?_ ?_ | refine LeO.bind ?_ (fun _ => ?_)) | exact ih0 _ _ _ | exact LeO.none _ | refine LeO.ite ?_ ?_ | refine LeO.bind ?_ (fun _ => ?_)
set_option maxHeartbeats 8000000 in
set_option maxRecDepth 100000 in
theorem pochoirref16_Closed.calls (k : Nat) (A0 : Option Addr) (c0 : Nat) (l0 : List (S38)) (r : Bool) (w : World) (hr0 : Kd.C k38 w A0 l0.length l0) (hc0 : l0.length ≤ c0) (h : pochoirref16_Closed.f k l0 = some r) :
  Calls Try.prog 82 #[.slice A0 l0.length c0] w fun e w' => e = .returned (.bool r) ∧ Drawn0 w w' := by
 have hu36 := Try.underlying36
 have HR0 := Aside0.mk hr0
 have HC0 := Aside0.mk hc0
 clear hr0 hc0
 have H : (pochoirref16_Closed.l0 k l0 0 0) = some r := h
 clear h
 have H' := Aside0.mk H
 clear H
 go_enter Try.func82, Try.ntmps82
 go_wp2
 repeat (go_quiet (fail); try go_wp2)
 go_loopg [3, 4] k (fun kq v3 v4 w' => ∃ (x3_1 : Int) (x4_1 : Int), v3 = .int .i64 x3_1 ∧ v4 = .int .i64 x4_1 ∧ Aside0 (pochoirref16_Closed.l0 kq l0 x3_1 x4_1 = some r) ∧ Aside0 (kq ≤ k) ∧ Drawn0 w w')
 case atStart => exact ⟨(0), (0), fr, fr, H', ⟨Nat.le_refl _⟩, by repeat (first | exact Drawn0.refl _ | apply Drawn0.step)⟩
 case round =>
  clear H'
  obtain ⟨x3_1, x4_1, rfl, rfl, HA, HK1, ⟨m1, rfl⟩⟩ := hrel
  cases gk with
  | zero => exact absurd HA.out (by simp [pochoirref16_Closed.l0])
  | succ k1 =>
   have H := HA.out
   clear HA
   simp only [pochoirref16_Closed.l0] at H
   by_cases c2 : x4_1 < (l0.length : Int)
   ·rw [if_pos c2] at H
    have c2b0 := decide_eq_true c2
    clear c2
    refine ifk H ?_; clear H; intro c3 H
    have c3b0 := decide_eq_true c3
    clear c3
    refine ifk H ?_; clear H; intro c4 H
    have c4b0 := decide_eq_true c4
    clear c4
    refine ifk H ?_; clear H; intro c5 H
    have c5b0 := decide_eq_true c5
    clear c5
    by_cases c6 : ((rd_T38 l0 x4_1).f0) = ((rd_T38 l0 x3_1).f0)
    ·rw [if_pos c6] at H
     have c6b0 : (((rd_T38 l0 x4_1).f0) == ((rd_T38 l0 x3_1).f0)) = true := beq_iff_eq.mpr c6
     have c6b1 : (((rd_T38 l0 x4_1).f0) != ((rd_T38 l0 x3_1).f0)) = false := bne_eq_false_iff_eq.mpr c6
     clear c6
     by_cases c7 : x4_1 = (wrap64 ((l0.length : Int) - 1))
     ·rw [if_pos c7] at H
      have c7b0 : (x4_1 == (wrap64 ((l0.length : Int) - 1))) = true := beq_iff_eq.mpr c7
      have c7b1 : (x4_1 != (wrap64 ((l0.length : Int) - 1))) = false := bne_eq_false_iff_eq.mpr c7
      clear c7
      by_cases c8 : (!(((rd_T38 l0 x4_1).f4.f0) == ((rd_T38 l0 x3_1).f2.f0)) || (!(((rd_T38 l0 x4_1).f4.f1) == ((rd_T38 l0 x3_1).f2.f1)))) = true
      ·rw [if_pos c8] at H
       have c8b0 : (!(((rd_T38 l0 x4_1).f4.f0) == ((rd_T38 l0 x3_1).f2.f0)) || (!(((rd_T38 l0 x4_1).f4.f1) == ((rd_T38 l0 x3_1).f2.f1)))) = true := c8
       clear c8
       obtain rfl := Option.some.inj H
       have p408 : 0 ≤ (x4_1 : Int) := od
       have q408 : x4_1 < (l0.length : Int) := od
       obtain ⟨ad408, e408, hx408_0, hx408_1, hx408_2, hx408_3, hx408_4, hx408_5, hx408_6, hx408_7⟩ := at_T38 HR0.out x4_1 p408 q408
       cases e408
       replace p408 := eq_true p408
       replace q408 := eq_true q408
       have p409 : 0 ≤ (x3_1 : Int) := od
       have q409 : x3_1 < (l0.length : Int) := od
       obtain ⟨ad409, e409, hx409_0, hx409_1, hx409_2, hx409_3, hx409_4, hx409_5, hx409_6, hx409_7⟩ := at_T38 HR0.out x3_1 p409 q409
       obtain rfl : ad408 = ad409 := (by injection e409)
       replace p409 := eq_true p409
       replace q409 := eq_true q409
       have p410 : 0 ≤ (x4_1 : Int) := od
       have q410 : x4_1 < (l0.length : Int) := od
       obtain ⟨ad410, e410, hx410_0, hx410_1, hx410_2, hx410_3, hx410_4, hx410_5, hx410_6, hx410_7⟩ := at_T38 HR0.out x4_1 p410 q410
       obtain rfl : ad408 = ad410 := (by injection e410)
       replace p410 := eq_true p410
       replace q410 := eq_true q410
       have p411 : 0 ≤ (x3_1 : Int) := od
       have q411 : x3_1 < (l0.length : Int) := od
       obtain ⟨ad411, e411, hx411_0, hx411_1, hx411_2, hx411_3, hx411_4, hx411_5, hx411_6, hx411_7⟩ := at_T38 HR0.out x3_1 p411 q411
       obtain rfl : ad408 = ad411 := (by injection e411)
       replace p411 := eq_true p411
       replace q411 := eq_true q411
       go_wp2
       repeat (go_quiet (fail); try go_wp2)
       go_ret
       exact ⟨fr, dr⟩
      rw [if_neg c8] at H
      have c8b0 : (!(((rd_T38 l0 x4_1).f4.f0) == ((rd_T38 l0 x3_1).f2.f0)) || (!(((rd_T38 l0 x4_1).f4.f1) == ((rd_T38 l0 x3_1).f2.f1)))) = false := by simpa using c8
      clear c8
      have H' := Aside0.mk H
      clear H
      have p408 : 0 ≤ (x4_1 : Int) := od
      have q408 : x4_1 < (l0.length : Int) := od
      obtain ⟨ad408, e408, hx408_0, hx408_1, hx408_2, hx408_3, hx408_4, hx408_5, hx408_6, hx408_7⟩ := at_T38 HR0.out x4_1 p408 q408
      cases e408
      replace p408 := eq_true p408
      replace q408 := eq_true q408
      have p409 : 0 ≤ (x3_1 : Int) := od
      have q409 : x3_1 < (l0.length : Int) := od
      obtain ⟨ad409, e409, hx409_0, hx409_1, hx409_2, hx409_3, hx409_4, hx409_5, hx409_6, hx409_7⟩ := at_T38 HR0.out x3_1 p409 q409
      obtain rfl : ad408 = ad409 := (by injection e409)
      replace p409 := eq_true p409
      replace q409 := eq_true q409
      have p410 : 0 ≤ (x4_1 : Int) := od
      have q410 : x4_1 < (l0.length : Int) := od
      obtain ⟨ad410, e410, hx410_0, hx410_1, hx410_2, hx410_3, hx410_4, hx410_5, hx410_6, hx410_7⟩ := at_T38 HR0.out x4_1 p410 q410
      obtain rfl : ad408 = ad410 := (by injection e410)
      replace p410 := eq_true p410
      replace q410 := eq_true q410
      have p411 : 0 ≤ (x3_1 : Int) := od
      have q411 : x3_1 < (l0.length : Int) := od
      obtain ⟨ad411, e411, hx411_0, hx411_1, hx411_2, hx411_3, hx411_4, hx411_5, hx411_6, hx411_7⟩ := at_T38 HR0.out x3_1 p411 q411
      obtain rfl : ad408 = ad411 := (by injection e411)
      replace p411 := eq_true p411
      replace q411 := eq_true q411
      go_wp2
      repeat (go_quiet (fail); try go_wp2)
      go_roundg k1
      case measure => have := HK1.out; omega
      case rel => exact ⟨(x3_1), (wrap64 (x4_1 + 1)), fr, fr, H', ⟨by have := HK1.out; omega⟩, by repeat (first | exact Drawn0.refl _ | apply Drawn0.step)⟩
     rw [if_neg c7] at H
     have c7b0 : (x4_1 == (wrap64 ((l0.length : Int) - 1))) = false := beq_eq_false_iff_ne.mpr c7
     have c7b1 : (x4_1 != (wrap64 ((l0.length : Int) - 1))) = true := bne_iff_ne.mpr c7
     obtain ⟨ji9, hji9⟩ : ∃ j_ : Int, (wrap64 (x4_1 + 1)) = j_ := ⟨_, rfl⟩
     replace H : (if 0 ≤ (ji9) then (if (ji9) < (l0.length : Int) then (if ((rd_T38 l0 (ji9)).f0) = ((rd_T38 l0 x4_1).f0) then (if (!(((rd_T38 l0 x4_1).f4.f0) == ((rd_T38 l0 (ji9)).f2.f0)) || (!(((rd_T38 l0 x4_1).f4.f1) == ((rd_T38 l0 (ji9)).f2.f1)))) = true then (some false) else (pochoirref16_Closed.l0 k1 l0 x3_1 ji9)) else (if (!(((rd_T38 l0 x4_1).f4.f0) == ((rd_T38 l0 x3_1).f2.f0)) || (!(((rd_T38 l0 x4_1).f4.f1) == ((rd_T38 l0 x3_1).f2.f1)))) = true then (some false) else (pochoirref16_Closed.l0 k1 l0 x3_1 ji9))) else (none)) else (none)) = some r := by first | (rw [hji9] at H; exact H) | (simp only [hji9] at H ⊢; exact H)
     have hji9w : (IntKind.i64.wrap (x4_1 + 1)) = ji9 := (i64_w _).trans hji9
     refine ifk H ?_; clear H; intro c10 H
     have c10b0 := decide_eq_true c10
     clear c10
     refine ifk H ?_; clear H; intro c11 H
     have c11b0 := decide_eq_true c11
     clear c11
     by_cases c12 : ((rd_T38 l0 (ji9)).f0) = ((rd_T38 l0 x4_1).f0)
     ·rw [if_pos c12] at H
      have c12b0 : (((rd_T38 l0 (ji9)).f0) == ((rd_T38 l0 x4_1).f0)) = true := beq_iff_eq.mpr c12
      have c12b1 : (((rd_T38 l0 (ji9)).f0) != ((rd_T38 l0 x4_1).f0)) = false := bne_eq_false_iff_eq.mpr c12
      clear c12
      by_cases c13 : (!(((rd_T38 l0 x4_1).f4.f0) == ((rd_T38 l0 (ji9)).f2.f0)) || (!(((rd_T38 l0 x4_1).f4.f1) == ((rd_T38 l0 (ji9)).f2.f1)))) = true
      ·rw [if_pos c13] at H
       have c13b0 : (!(((rd_T38 l0 x4_1).f4.f0) == ((rd_T38 l0 (ji9)).f2.f0)) || (!(((rd_T38 l0 x4_1).f4.f1) == ((rd_T38 l0 (ji9)).f2.f1)))) = true := c13
       clear c13
       obtain rfl := Option.some.inj H
       have p408 : 0 ≤ (x4_1 : Int) := od
       have q408 : x4_1 < (l0.length : Int) := od
       obtain ⟨ad408, e408, hx408_0, hx408_1, hx408_2, hx408_3, hx408_4, hx408_5, hx408_6, hx408_7⟩ := at_T38 HR0.out x4_1 p408 q408
       cases e408
       replace p408 := eq_true p408
       replace q408 := eq_true q408
       have p409 : 0 ≤ (x3_1 : Int) := od
       have q409 : x3_1 < (l0.length : Int) := od
       obtain ⟨ad409, e409, hx409_0, hx409_1, hx409_2, hx409_3, hx409_4, hx409_5, hx409_6, hx409_7⟩ := at_T38 HR0.out x3_1 p409 q409
       obtain rfl : ad408 = ad409 := (by injection e409)
       replace p409 := eq_true p409
       replace q409 := eq_true q409
       have p412 : 0 ≤ ((ji9) : Int) := od
       have q412 : (ji9) < (l0.length : Int) := od
       obtain ⟨ad412, e412, hx412_0, hx412_1, hx412_2, hx412_3, hx412_4, hx412_5, hx412_6, hx412_7⟩ := at_T38 HR0.out (ji9) p412 q412
       obtain rfl : ad408 = ad412 := (by injection e412)
       replace p412 := eq_true p412
       replace q412 := eq_true q412
       have p413 : 0 ≤ (x4_1 : Int) := od
       have q413 : x4_1 < (l0.length : Int) := od
       obtain ⟨ad413, e413, hx413_0, hx413_1, hx413_2, hx413_3, hx413_4, hx413_5, hx413_6, hx413_7⟩ := at_T38 HR0.out x4_1 p413 q413
       obtain rfl : ad408 = ad413 := (by injection e413)
       replace p413 := eq_true p413
       replace q413 := eq_true q413
       have p414 : 0 ≤ (x4_1 : Int) := od
       have q414 : x4_1 < (l0.length : Int) := od
       obtain ⟨ad414, e414, hx414_0, hx414_1, hx414_2, hx414_3, hx414_4, hx414_5, hx414_6, hx414_7⟩ := at_T38 HR0.out x4_1 p414 q414
       obtain rfl : ad408 = ad414 := (by injection e414)
       replace p414 := eq_true p414
       replace q414 := eq_true q414
       have p415 : 0 ≤ ((ji9) : Int) := od
       have q415 : (ji9) < (l0.length : Int) := od
       obtain ⟨ad415, e415, hx415_0, hx415_1, hx415_2, hx415_3, hx415_4, hx415_5, hx415_6, hx415_7⟩ := at_T38 HR0.out (ji9) p415 q415
       obtain rfl : ad408 = ad415 := (by injection e415)
       replace p415 := eq_true p415
       replace q415 := eq_true q415
       go_wp2
       repeat (go_quiet (fail); try go_wp2)
       go_ret
       exact ⟨by first | rfl | (simp; done) | (simp only [← hji9] <;> (first | rfl | simp)) | (simp [*]; done), by repeat (first | exact Drawn0.refl _ | apply Drawn0.step)⟩
      rw [if_neg c13] at H
      have c13b0 : (!(((rd_T38 l0 x4_1).f4.f0) == ((rd_T38 l0 (ji9)).f2.f0)) || (!(((rd_T38 l0 x4_1).f4.f1) == ((rd_T38 l0 (ji9)).f2.f1)))) = false := by simpa using c13
      clear c13
      have H' := Aside0.mk H
      clear H
      have p408 : 0 ≤ (x4_1 : Int) := od
      have q408 : x4_1 < (l0.length : Int) := od
      obtain ⟨ad408, e408, hx408_0, hx408_1, hx408_2, hx408_3, hx408_4, hx408_5, hx408_6, hx408_7⟩ := at_T38 HR0.out x4_1 p408 q408
      cases e408
      replace p408 := eq_true p408
      replace q408 := eq_true q408
      have p409 : 0 ≤ (x3_1 : Int) := od
      have q409 : x3_1 < (l0.length : Int) := od
      obtain ⟨ad409, e409, hx409_0, hx409_1, hx409_2, hx409_3, hx409_4, hx409_5, hx409_6, hx409_7⟩ := at_T38 HR0.out x3_1 p409 q409
      obtain rfl : ad408 = ad409 := (by injection e409)
      replace p409 := eq_true p409
      replace q409 := eq_true q409
      have p412 : 0 ≤ ((ji9) : Int) := od
      have q412 : (ji9) < (l0.length : Int) := od
      obtain ⟨ad412, e412, hx412_0, hx412_1, hx412_2, hx412_3, hx412_4, hx412_5, hx412_6, hx412_7⟩ := at_T38 HR0.out (ji9) p412 q412
      obtain rfl : ad408 = ad412 := (by injection e412)
      replace p412 := eq_true p412
      replace q412 := eq_true q412
      have p413 : 0 ≤ (x4_1 : Int) := od
      have q413 : x4_1 < (l0.length : Int) := od
      obtain ⟨ad413, e413, hx413_0, hx413_1, hx413_2, hx413_3, hx413_4, hx413_5, hx413_6, hx413_7⟩ := at_T38 HR0.out x4_1 p413 q413
      obtain rfl : ad408 = ad413 := (by injection e413)
      replace p413 := eq_true p413
      replace q413 := eq_true q413
      have p414 : 0 ≤ (x4_1 : Int) := od
      have q414 : x4_1 < (l0.length : Int) := od
      obtain ⟨ad414, e414, hx414_0, hx414_1, hx414_2, hx414_3, hx414_4, hx414_5, hx414_6, hx414_7⟩ := at_T38 HR0.out x4_1 p414 q414
      obtain rfl : ad408 = ad414 := (by injection e414)
      replace p414 := eq_true p414
      replace q414 := eq_true q414
      have p415 : 0 ≤ ((ji9) : Int) := od
      have q415 : (ji9) < (l0.length : Int) := od
      obtain ⟨ad415, e415, hx415_0, hx415_1, hx415_2, hx415_3, hx415_4, hx415_5, hx415_6, hx415_7⟩ := at_T38 HR0.out (ji9) p415 q415
      obtain rfl : ad408 = ad415 := (by injection e415)
      replace p415 := eq_true p415
      replace q415 := eq_true q415
      go_wp2
      repeat (go_quiet (fail); try go_wp2)
      go_roundg k1
      case measure => have := HK1.out; omega
      case rel => exact ⟨(x3_1), (ji9), fr, (by first | rfl | (simp; done) | (simp only [← hji9] <;> (first | rfl | simp)) | (simp [*]; done)), H', ⟨by have := HK1.out; omega⟩, by repeat (first | exact Drawn0.refl _ | apply Drawn0.step)⟩
     rw [if_neg c12] at H
     have c12b0 : (((rd_T38 l0 (ji9)).f0) == ((rd_T38 l0 x4_1).f0)) = false := beq_eq_false_iff_ne.mpr c12
     have c12b1 : (((rd_T38 l0 (ji9)).f0) != ((rd_T38 l0 x4_1).f0)) = true := bne_iff_ne.mpr c12
     by_cases c14 : (!(((rd_T38 l0 x4_1).f4.f0) == ((rd_T38 l0 x3_1).f2.f0)) || (!(((rd_T38 l0 x4_1).f4.f1) == ((rd_T38 l0 x3_1).f2.f1)))) = true
     ·rw [if_pos c14] at H
      have c14b0 : (!(((rd_T38 l0 x4_1).f4.f0) == ((rd_T38 l0 x3_1).f2.f0)) || (!(((rd_T38 l0 x4_1).f4.f1) == ((rd_T38 l0 x3_1).f2.f1)))) = true := c14
      clear c14
      obtain rfl := Option.some.inj H
      have p408 : 0 ≤ (x4_1 : Int) := od
      have q408 : x4_1 < (l0.length : Int) := od
      obtain ⟨ad408, e408, hx408_0, hx408_1, hx408_2, hx408_3, hx408_4, hx408_5, hx408_6, hx408_7⟩ := at_T38 HR0.out x4_1 p408 q408
      cases e408
      replace p408 := eq_true p408
      replace q408 := eq_true q408
      have p409 : 0 ≤ (x3_1 : Int) := od
      have q409 : x3_1 < (l0.length : Int) := od
      obtain ⟨ad409, e409, hx409_0, hx409_1, hx409_2, hx409_3, hx409_4, hx409_5, hx409_6, hx409_7⟩ := at_T38 HR0.out x3_1 p409 q409
      obtain rfl : ad408 = ad409 := (by injection e409)
      replace p409 := eq_true p409
      replace q409 := eq_true q409
      have p412 : 0 ≤ ((ji9) : Int) := od
      have q412 : (ji9) < (l0.length : Int) := od
      obtain ⟨ad412, e412, hx412_0, hx412_1, hx412_2, hx412_3, hx412_4, hx412_5, hx412_6, hx412_7⟩ := at_T38 HR0.out (ji9) p412 q412
      obtain rfl : ad408 = ad412 := (by injection e412)
      replace p412 := eq_true p412
      replace q412 := eq_true q412
      have p413 : 0 ≤ (x4_1 : Int) := od
      have q413 : x4_1 < (l0.length : Int) := od
      obtain ⟨ad413, e413, hx413_0, hx413_1, hx413_2, hx413_3, hx413_4, hx413_5, hx413_6, hx413_7⟩ := at_T38 HR0.out x4_1 p413 q413
      obtain rfl : ad408 = ad413 := (by injection e413)
      replace p413 := eq_true p413
      replace q413 := eq_true q413
      have p416 : 0 ≤ (x4_1 : Int) := od
      have q416 : x4_1 < (l0.length : Int) := od
      obtain ⟨ad416, e416, hx416_0, hx416_1, hx416_2, hx416_3, hx416_4, hx416_5, hx416_6, hx416_7⟩ := at_T38 HR0.out x4_1 p416 q416
      obtain rfl : ad408 = ad416 := (by injection e416)
      replace p416 := eq_true p416
      replace q416 := eq_true q416
      have p417 : 0 ≤ (x3_1 : Int) := od
      have q417 : x3_1 < (l0.length : Int) := od
      obtain ⟨ad417, e417, hx417_0, hx417_1, hx417_2, hx417_3, hx417_4, hx417_5, hx417_6, hx417_7⟩ := at_T38 HR0.out x3_1 p417 q417
      obtain rfl : ad408 = ad417 := (by injection e417)
      replace p417 := eq_true p417
      replace q417 := eq_true q417
      go_wp2
      repeat (go_quiet (fail); try go_wp2)
      go_ret
      exact ⟨by first | rfl | (simp; done) | (simp only [← hji9] <;> (first | rfl | simp)) | (simp [*]; done), by repeat (first | exact Drawn0.refl _ | apply Drawn0.step)⟩
     rw [if_neg c14] at H
     have c14b0 : (!(((rd_T38 l0 x4_1).f4.f0) == ((rd_T38 l0 x3_1).f2.f0)) || (!(((rd_T38 l0 x4_1).f4.f1) == ((rd_T38 l0 x3_1).f2.f1)))) = false := by simpa using c14
     clear c14
     have H' := Aside0.mk H
     clear H
     have p408 : 0 ≤ (x4_1 : Int) := od
     have q408 : x4_1 < (l0.length : Int) := od
     obtain ⟨ad408, e408, hx408_0, hx408_1, hx408_2, hx408_3, hx408_4, hx408_5, hx408_6, hx408_7⟩ := at_T38 HR0.out x4_1 p408 q408
     cases e408
     replace p408 := eq_true p408
     replace q408 := eq_true q408
     have p409 : 0 ≤ (x3_1 : Int) := od
     have q409 : x3_1 < (l0.length : Int) := od
     obtain ⟨ad409, e409, hx409_0, hx409_1, hx409_2, hx409_3, hx409_4, hx409_5, hx409_6, hx409_7⟩ := at_T38 HR0.out x3_1 p409 q409
     obtain rfl : ad408 = ad409 := (by injection e409)
     replace p409 := eq_true p409
     replace q409 := eq_true q409
     have p412 : 0 ≤ ((ji9) : Int) := od
     have q412 : (ji9) < (l0.length : Int) := od
     obtain ⟨ad412, e412, hx412_0, hx412_1, hx412_2, hx412_3, hx412_4, hx412_5, hx412_6, hx412_7⟩ := at_T38 HR0.out (ji9) p412 q412
     obtain rfl : ad408 = ad412 := (by injection e412)
     replace p412 := eq_true p412
     replace q412 := eq_true q412
     have p413 : 0 ≤ (x4_1 : Int) := od
     have q413 : x4_1 < (l0.length : Int) := od
     obtain ⟨ad413, e413, hx413_0, hx413_1, hx413_2, hx413_3, hx413_4, hx413_5, hx413_6, hx413_7⟩ := at_T38 HR0.out x4_1 p413 q413
     obtain rfl : ad408 = ad413 := (by injection e413)
     replace p413 := eq_true p413
     replace q413 := eq_true q413
     have p416 : 0 ≤ (x4_1 : Int) := od
     have q416 : x4_1 < (l0.length : Int) := od
     obtain ⟨ad416, e416, hx416_0, hx416_1, hx416_2, hx416_3, hx416_4, hx416_5, hx416_6, hx416_7⟩ := at_T38 HR0.out x4_1 p416 q416
     obtain rfl : ad408 = ad416 := (by injection e416)
     replace p416 := eq_true p416
     replace q416 := eq_true q416
     have p417 : 0 ≤ (x3_1 : Int) := od
     have q417 : x3_1 < (l0.length : Int) := od
     obtain ⟨ad417, e417, hx417_0, hx417_1, hx417_2, hx417_3, hx417_4, hx417_5, hx417_6, hx417_7⟩ := at_T38 HR0.out x3_1 p417 q417
     obtain rfl : ad408 = ad417 := (by injection e417)
     replace p417 := eq_true p417
     replace q417 := eq_true q417
     go_wp2
     repeat (go_quiet (fail); try go_wp2)
     go_roundg k1
     case measure => have := HK1.out; omega
     case rel => exact ⟨(x3_1), (ji9), fr, (by first | rfl | (simp; done) | (simp only [← hji9] <;> (first | rfl | simp)) | (simp [*]; done)), H', ⟨by have := HK1.out; omega⟩, by repeat (first | exact Drawn0.refl _ | apply Drawn0.step)⟩
    rw [if_neg c6] at H
    have c6b0 : (((rd_T38 l0 x4_1).f0) == ((rd_T38 l0 x3_1).f0)) = false := beq_eq_false_iff_ne.mpr c6
    have c6b1 : (((rd_T38 l0 x4_1).f0) != ((rd_T38 l0 x3_1).f0)) = true := bne_iff_ne.mpr c6
    by_cases c15 : x4_1 = (wrap64 ((l0.length : Int) - 1))
    ·rw [if_pos c15] at H
     have c15b0 : (x4_1 == (wrap64 ((l0.length : Int) - 1))) = true := beq_iff_eq.mpr c15
     have c15b1 : (x4_1 != (wrap64 ((l0.length : Int) - 1))) = false := bne_eq_false_iff_eq.mpr c15
     clear c15
     by_cases c16 : (!(((rd_T38 l0 x4_1).f4.f0) == ((rd_T38 l0 x4_1).f2.f0)) || (!(((rd_T38 l0 x4_1).f4.f1) == ((rd_T38 l0 x4_1).f2.f1)))) = true
     ·rw [if_pos c16] at H
      have c16b0 : (!(((rd_T38 l0 x4_1).f4.f0) == ((rd_T38 l0 x4_1).f2.f0)) || (!(((rd_T38 l0 x4_1).f4.f1) == ((rd_T38 l0 x4_1).f2.f1)))) = true := c16
      clear c16
      obtain rfl := Option.some.inj H
      have p408 : 0 ≤ (x4_1 : Int) := od
      have q408 : x4_1 < (l0.length : Int) := od
      obtain ⟨ad408, e408, hx408_0, hx408_1, hx408_2, hx408_3, hx408_4, hx408_5, hx408_6, hx408_7⟩ := at_T38 HR0.out x4_1 p408 q408
      cases e408
      replace p408 := eq_true p408
      replace q408 := eq_true q408
      have p409 : 0 ≤ (x3_1 : Int) := od
      have q409 : x3_1 < (l0.length : Int) := od
      obtain ⟨ad409, e409, hx409_0, hx409_1, hx409_2, hx409_3, hx409_4, hx409_5, hx409_6, hx409_7⟩ := at_T38 HR0.out x3_1 p409 q409
      obtain rfl : ad408 = ad409 := (by injection e409)
      replace p409 := eq_true p409
      replace q409 := eq_true q409
      have p418 : 0 ≤ (x4_1 : Int) := od
      have q418 : x4_1 < (l0.length : Int) := od
      obtain ⟨ad418, e418, hx418_0, hx418_1, hx418_2, hx418_3, hx418_4, hx418_5, hx418_6, hx418_7⟩ := at_T38 HR0.out x4_1 p418 q418
      obtain rfl : ad408 = ad418 := (by injection e418)
      replace p418 := eq_true p418
      replace q418 := eq_true q418
      have p419 : 0 ≤ (x4_1 : Int) := od
      have q419 : x4_1 < (l0.length : Int) := od
      obtain ⟨ad419, e419, hx419_0, hx419_1, hx419_2, hx419_3, hx419_4, hx419_5, hx419_6, hx419_7⟩ := at_T38 HR0.out x4_1 p419 q419
      obtain rfl : ad408 = ad419 := (by injection e419)
      replace p419 := eq_true p419
      replace q419 := eq_true q419
      go_wp2
      repeat (go_quiet (fail); try go_wp2)
      go_ret
      exact ⟨fr, dr⟩
     rw [if_neg c16] at H
     have c16b0 : (!(((rd_T38 l0 x4_1).f4.f0) == ((rd_T38 l0 x4_1).f2.f0)) || (!(((rd_T38 l0 x4_1).f4.f1) == ((rd_T38 l0 x4_1).f2.f1)))) = false := by simpa using c16
     clear c16
     have H' := Aside0.mk H
     clear H
     have p408 : 0 ≤ (x4_1 : Int) := od
     have q408 : x4_1 < (l0.length : Int) := od
     obtain ⟨ad408, e408, hx408_0, hx408_1, hx408_2, hx408_3, hx408_4, hx408_5, hx408_6, hx408_7⟩ := at_T38 HR0.out x4_1 p408 q408
     cases e408
     replace p408 := eq_true p408
     replace q408 := eq_true q408
     have p409 : 0 ≤ (x3_1 : Int) := od
     have q409 : x3_1 < (l0.length : Int) := od
     obtain ⟨ad409, e409, hx409_0, hx409_1, hx409_2, hx409_3, hx409_4, hx409_5, hx409_6, hx409_7⟩ := at_T38 HR0.out x3_1 p409 q409
     obtain rfl : ad408 = ad409 := (by injection e409)
     replace p409 := eq_true p409
     replace q409 := eq_true q409
     have p418 : 0 ≤ (x4_1 : Int) := od
     have q418 : x4_1 < (l0.length : Int) := od
     obtain ⟨ad418, e418, hx418_0, hx418_1, hx418_2, hx418_3, hx418_4, hx418_5, hx418_6, hx418_7⟩ := at_T38 HR0.out x4_1 p418 q418
     obtain rfl : ad408 = ad418 := (by injection e418)
     replace p418 := eq_true p418
     replace q418 := eq_true q418
     have p419 : 0 ≤ (x4_1 : Int) := od
     have q419 : x4_1 < (l0.length : Int) := od
     obtain ⟨ad419, e419, hx419_0, hx419_1, hx419_2, hx419_3, hx419_4, hx419_5, hx419_6, hx419_7⟩ := at_T38 HR0.out x4_1 p419 q419
     obtain rfl : ad408 = ad419 := (by injection e419)
     replace p419 := eq_true p419
     replace q419 := eq_true q419
     go_wp2
     repeat (go_quiet (fail); try go_wp2)
     go_roundg k1
     case measure => have := HK1.out; omega
     case rel => exact ⟨(x4_1), (wrap64 (x4_1 + 1)), fr, fr, H', ⟨by have := HK1.out; omega⟩, by repeat (first | exact Drawn0.refl _ | apply Drawn0.step)⟩
    rw [if_neg c15] at H
    have c15b0 : (x4_1 == (wrap64 ((l0.length : Int) - 1))) = false := beq_eq_false_iff_ne.mpr c15
    have c15b1 : (x4_1 != (wrap64 ((l0.length : Int) - 1))) = true := bne_iff_ne.mpr c15
    obtain ⟨ji17, hji17⟩ : ∃ j_ : Int, (wrap64 (x4_1 + 1)) = j_ := ⟨_, rfl⟩
    replace H : (if 0 ≤ (ji17) then (if (ji17) < (l0.length : Int) then (if ((rd_T38 l0 (ji17)).f0) = ((rd_T38 l0 x4_1).f0) then (if (!(((rd_T38 l0 x4_1).f4.f0) == ((rd_T38 l0 (ji17)).f2.f0)) || (!(((rd_T38 l0 x4_1).f4.f1) == ((rd_T38 l0 (ji17)).f2.f1)))) = true then (some false) else (pochoirref16_Closed.l0 k1 l0 x4_1 ji17)) else (if (!(((rd_T38 l0 x4_1).f4.f0) == ((rd_T38 l0 x4_1).f2.f0)) || (!(((rd_T38 l0 x4_1).f4.f1) == ((rd_T38 l0 x4_1).f2.f1)))) = true then (some false) else (pochoirref16_Closed.l0 k1 l0 x4_1 ji17))) else (none)) else (none)) = some r := by first | (rw [hji17] at H; exact H) | (simp only [hji17] at H ⊢; exact H)
    have hji17w : (IntKind.i64.wrap (x4_1 + 1)) = ji17 := (i64_w _).trans hji17
    refine ifk H ?_; clear H; intro c18 H
    have c18b0 := decide_eq_true c18
    clear c18
    refine ifk H ?_; clear H; intro c19 H
    have c19b0 := decide_eq_true c19
    clear c19
    by_cases c20 : ((rd_T38 l0 (ji17)).f0) = ((rd_T38 l0 x4_1).f0)
    ·rw [if_pos c20] at H
     have c20b0 : (((rd_T38 l0 (ji17)).f0) == ((rd_T38 l0 x4_1).f0)) = true := beq_iff_eq.mpr c20
     have c20b1 : (((rd_T38 l0 (ji17)).f0) != ((rd_T38 l0 x4_1).f0)) = false := bne_eq_false_iff_eq.mpr c20
     clear c20
     by_cases c21 : (!(((rd_T38 l0 x4_1).f4.f0) == ((rd_T38 l0 (ji17)).f2.f0)) || (!(((rd_T38 l0 x4_1).f4.f1) == ((rd_T38 l0 (ji17)).f2.f1)))) = true
     ·rw [if_pos c21] at H
      have c21b0 : (!(((rd_T38 l0 x4_1).f4.f0) == ((rd_T38 l0 (ji17)).f2.f0)) || (!(((rd_T38 l0 x4_1).f4.f1) == ((rd_T38 l0 (ji17)).f2.f1)))) = true := c21
      clear c21
      obtain rfl := Option.some.inj H
      have p408 : 0 ≤ (x4_1 : Int) := od
      have q408 : x4_1 < (l0.length : Int) := od
      obtain ⟨ad408, e408, hx408_0, hx408_1, hx408_2, hx408_3, hx408_4, hx408_5, hx408_6, hx408_7⟩ := at_T38 HR0.out x4_1 p408 q408
      cases e408
      replace p408 := eq_true p408
      replace q408 := eq_true q408
      have p409 : 0 ≤ (x3_1 : Int) := od
      have q409 : x3_1 < (l0.length : Int) := od
      obtain ⟨ad409, e409, hx409_0, hx409_1, hx409_2, hx409_3, hx409_4, hx409_5, hx409_6, hx409_7⟩ := at_T38 HR0.out x3_1 p409 q409
      obtain rfl : ad408 = ad409 := (by injection e409)
      replace p409 := eq_true p409
      replace q409 := eq_true q409
      have p420 : 0 ≤ ((ji17) : Int) := od
      have q420 : (ji17) < (l0.length : Int) := od
      obtain ⟨ad420, e420, hx420_0, hx420_1, hx420_2, hx420_3, hx420_4, hx420_5, hx420_6, hx420_7⟩ := at_T38 HR0.out (ji17) p420 q420
      obtain rfl : ad408 = ad420 := (by injection e420)
      replace p420 := eq_true p420
      replace q420 := eq_true q420
      have p421 : 0 ≤ (x4_1 : Int) := od
      have q421 : x4_1 < (l0.length : Int) := od
      obtain ⟨ad421, e421, hx421_0, hx421_1, hx421_2, hx421_3, hx421_4, hx421_5, hx421_6, hx421_7⟩ := at_T38 HR0.out x4_1 p421 q421
      obtain rfl : ad408 = ad421 := (by injection e421)
      replace p421 := eq_true p421
      replace q421 := eq_true q421
      have p422 : 0 ≤ (x4_1 : Int) := od
      have q422 : x4_1 < (l0.length : Int) := od
      obtain ⟨ad422, e422, hx422_0, hx422_1, hx422_2, hx422_3, hx422_4, hx422_5, hx422_6, hx422_7⟩ := at_T38 HR0.out x4_1 p422 q422
      obtain rfl : ad408 = ad422 := (by injection e422)
      replace p422 := eq_true p422
      replace q422 := eq_true q422
      have p423 : 0 ≤ ((ji17) : Int) := od
      have q423 : (ji17) < (l0.length : Int) := od
      obtain ⟨ad423, e423, hx423_0, hx423_1, hx423_2, hx423_3, hx423_4, hx423_5, hx423_6, hx423_7⟩ := at_T38 HR0.out (ji17) p423 q423
      obtain rfl : ad408 = ad423 := (by injection e423)
      replace p423 := eq_true p423
      replace q423 := eq_true q423
      go_wp2
      repeat (go_quiet (fail); try go_wp2)
      go_ret
      exact ⟨by first | rfl | (simp; done) | (simp only [← hji17] <;> (first | rfl | simp)) | (simp [*]; done), by repeat (first | exact Drawn0.refl _ | apply Drawn0.step)⟩
     rw [if_neg c21] at H
     have c21b0 : (!(((rd_T38 l0 x4_1).f4.f0) == ((rd_T38 l0 (ji17)).f2.f0)) || (!(((rd_T38 l0 x4_1).f4.f1) == ((rd_T38 l0 (ji17)).f2.f1)))) = false := by simpa using c21
     clear c21
     have H' := Aside0.mk H
     clear H
     have p408 : 0 ≤ (x4_1 : Int) := od
     have q408 : x4_1 < (l0.length : Int) := od
     obtain ⟨ad408, e408, hx408_0, hx408_1, hx408_2, hx408_3, hx408_4, hx408_5, hx408_6, hx408_7⟩ := at_T38 HR0.out x4_1 p408 q408
     cases e408
     replace p408 := eq_true p408
     replace q408 := eq_true q408
     have p409 : 0 ≤ (x3_1 : Int) := od
     have q409 : x3_1 < (l0.length : Int) := od
     obtain ⟨ad409, e409, hx409_0, hx409_1, hx409_2, hx409_3, hx409_4, hx409_5, hx409_6, hx409_7⟩ := at_T38 HR0.out x3_1 p409 q409
     obtain rfl : ad408 = ad409 := (by injection e409)
     replace p409 := eq_true p409
     replace q409 := eq_true q409
     have p420 : 0 ≤ ((ji17) : Int) := od
     have q420 : (ji17) < (l0.length : Int) := od
     obtain ⟨ad420, e420, hx420_0, hx420_1, hx420_2, hx420_3, hx420_4, hx420_5, hx420_6, hx420_7⟩ := at_T38 HR0.out (ji17) p420 q420
     obtain rfl : ad408 = ad420 := (by injection e420)
     replace p420 := eq_true p420
     replace q420 := eq_true q420
     have p421 : 0 ≤ (x4_1 : Int) := od
     have q421 : x4_1 < (l0.length : Int) := od
     obtain ⟨ad421, e421, hx421_0, hx421_1, hx421_2, hx421_3, hx421_4, hx421_5, hx421_6, hx421_7⟩ := at_T38 HR0.out x4_1 p421 q421
     obtain rfl : ad408 = ad421 := (by injection e421)
     replace p421 := eq_true p421
     replace q421 := eq_true q421
     have p422 : 0 ≤ (x4_1 : Int) := od
     have q422 : x4_1 < (l0.length : Int) := od
     obtain ⟨ad422, e422, hx422_0, hx422_1, hx422_2, hx422_3, hx422_4, hx422_5, hx422_6, hx422_7⟩ := at_T38 HR0.out x4_1 p422 q422
     obtain rfl : ad408 = ad422 := (by injection e422)
     replace p422 := eq_true p422
     replace q422 := eq_true q422
     have p423 : 0 ≤ ((ji17) : Int) := od
     have q423 : (ji17) < (l0.length : Int) := od
     obtain ⟨ad423, e423, hx423_0, hx423_1, hx423_2, hx423_3, hx423_4, hx423_5, hx423_6, hx423_7⟩ := at_T38 HR0.out (ji17) p423 q423
     obtain rfl : ad408 = ad423 := (by injection e423)
     replace p423 := eq_true p423
     replace q423 := eq_true q423
     go_wp2
     repeat (go_quiet (fail); try go_wp2)
     go_roundg k1
     case measure => have := HK1.out; omega
     case rel => exact ⟨(x4_1), (ji17), fr, (by first | rfl | (simp; done) | (simp only [← hji17] <;> (first | rfl | simp)) | (simp [*]; done)), H', ⟨by have := HK1.out; omega⟩, by repeat (first | exact Drawn0.refl _ | apply Drawn0.step)⟩
    rw [if_neg c20] at H
    have c20b0 : (((rd_T38 l0 (ji17)).f0) == ((rd_T38 l0 x4_1).f0)) = false := beq_eq_false_iff_ne.mpr c20
    have c20b1 : (((rd_T38 l0 (ji17)).f0) != ((rd_T38 l0 x4_1).f0)) = true := bne_iff_ne.mpr c20
    by_cases c22 : (!(((rd_T38 l0 x4_1).f4.f0) == ((rd_T38 l0 x4_1).f2.f0)) || (!(((rd_T38 l0 x4_1).f4.f1) == ((rd_T38 l0 x4_1).f2.f1)))) = true
    ·rw [if_pos c22] at H
     have c22b0 : (!(((rd_T38 l0 x4_1).f4.f0) == ((rd_T38 l0 x4_1).f2.f0)) || (!(((rd_T38 l0 x4_1).f4.f1) == ((rd_T38 l0 x4_1).f2.f1)))) = true := c22
     clear c22
     obtain rfl := Option.some.inj H
     have p408 : 0 ≤ (x4_1 : Int) := od
     have q408 : x4_1 < (l0.length : Int) := od
     obtain ⟨ad408, e408, hx408_0, hx408_1, hx408_2, hx408_3, hx408_4, hx408_5, hx408_6, hx408_7⟩ := at_T38 HR0.out x4_1 p408 q408
     cases e408
     replace p408 := eq_true p408
     replace q408 := eq_true q408
     have p409 : 0 ≤ (x3_1 : Int) := od
     have q409 : x3_1 < (l0.length : Int) := od
     obtain ⟨ad409, e409, hx409_0, hx409_1, hx409_2, hx409_3, hx409_4, hx409_5, hx409_6, hx409_7⟩ := at_T38 HR0.out x3_1 p409 q409
     obtain rfl : ad408 = ad409 := (by injection e409)
     replace p409 := eq_true p409
     replace q409 := eq_true q409
     have p420 : 0 ≤ ((ji17) : Int) := od
     have q420 : (ji17) < (l0.length : Int) := od
     obtain ⟨ad420, e420, hx420_0, hx420_1, hx420_2, hx420_3, hx420_4, hx420_5, hx420_6, hx420_7⟩ := at_T38 HR0.out (ji17) p420 q420
     obtain rfl : ad408 = ad420 := (by injection e420)
     replace p420 := eq_true p420
     replace q420 := eq_true q420
     have p421 : 0 ≤ (x4_1 : Int) := od
     have q421 : x4_1 < (l0.length : Int) := od
     obtain ⟨ad421, e421, hx421_0, hx421_1, hx421_2, hx421_3, hx421_4, hx421_5, hx421_6, hx421_7⟩ := at_T38 HR0.out x4_1 p421 q421
     obtain rfl : ad408 = ad421 := (by injection e421)
     replace p421 := eq_true p421
     replace q421 := eq_true q421
     have p424 : 0 ≤ (x4_1 : Int) := od
     have q424 : x4_1 < (l0.length : Int) := od
     obtain ⟨ad424, e424, hx424_0, hx424_1, hx424_2, hx424_3, hx424_4, hx424_5, hx424_6, hx424_7⟩ := at_T38 HR0.out x4_1 p424 q424
     obtain rfl : ad408 = ad424 := (by injection e424)
     replace p424 := eq_true p424
     replace q424 := eq_true q424
     have p425 : 0 ≤ (x4_1 : Int) := od
     have q425 : x4_1 < (l0.length : Int) := od
     obtain ⟨ad425, e425, hx425_0, hx425_1, hx425_2, hx425_3, hx425_4, hx425_5, hx425_6, hx425_7⟩ := at_T38 HR0.out x4_1 p425 q425
     obtain rfl : ad408 = ad425 := (by injection e425)
     replace p425 := eq_true p425
     replace q425 := eq_true q425
     go_wp2
     repeat (go_quiet (fail); try go_wp2)
     go_ret
     exact ⟨by first | rfl | (simp; done) | (simp only [← hji17] <;> (first | rfl | simp)) | (simp [*]; done), by repeat (first | exact Drawn0.refl _ | apply Drawn0.step)⟩
    rw [if_neg c22] at H
    have c22b0 : (!(((rd_T38 l0 x4_1).f4.f0) == ((rd_T38 l0 x4_1).f2.f0)) || (!(((rd_T38 l0 x4_1).f4.f1) == ((rd_T38 l0 x4_1).f2.f1)))) = false := by simpa using c22
    clear c22
    have H' := Aside0.mk H
    clear H
    have p408 : 0 ≤ (x4_1 : Int) := od
    have q408 : x4_1 < (l0.length : Int) := od
    obtain ⟨ad408, e408, hx408_0, hx408_1, hx408_2, hx408_3, hx408_4, hx408_5, hx408_6, hx408_7⟩ := at_T38 HR0.out x4_1 p408 q408
    cases e408
    replace p408 := eq_true p408
    replace q408 := eq_true q408
    have p409 : 0 ≤ (x3_1 : Int) := od
    have q409 : x3_1 < (l0.length : Int) := od
    obtain ⟨ad409, e409, hx409_0, hx409_1, hx409_2, hx409_3, hx409_4, hx409_5, hx409_6, hx409_7⟩ := at_T38 HR0.out x3_1 p409 q409
    obtain rfl : ad408 = ad409 := (by injection e409)
    replace p409 := eq_true p409
    replace q409 := eq_true q409
    have p420 : 0 ≤ ((ji17) : Int) := od
    have q420 : (ji17) < (l0.length : Int) := od
    obtain ⟨ad420, e420, hx420_0, hx420_1, hx420_2, hx420_3, hx420_4, hx420_5, hx420_6, hx420_7⟩ := at_T38 HR0.out (ji17) p420 q420
    obtain rfl : ad408 = ad420 := (by injection e420)
    replace p420 := eq_true p420
    replace q420 := eq_true q420
    have p421 : 0 ≤ (x4_1 : Int) := od
    have q421 : x4_1 < (l0.length : Int) := od
    obtain ⟨ad421, e421, hx421_0, hx421_1, hx421_2, hx421_3, hx421_4, hx421_5, hx421_6, hx421_7⟩ := at_T38 HR0.out x4_1 p421 q421
    obtain rfl : ad408 = ad421 := (by injection e421)
    replace p421 := eq_true p421
    replace q421 := eq_true q421
    have p424 : 0 ≤ (x4_1 : Int) := od
    have q424 : x4_1 < (l0.length : Int) := od
    obtain ⟨ad424, e424, hx424_0, hx424_1, hx424_2, hx424_3, hx424_4, hx424_5, hx424_6, hx424_7⟩ := at_T38 HR0.out x4_1 p424 q424
    obtain rfl : ad408 = ad424 := (by injection e424)
    replace p424 := eq_true p424
    replace q424 := eq_true q424
    have p425 : 0 ≤ (x4_1 : Int) := od
    have q425 : x4_1 < (l0.length : Int) := od
    obtain ⟨ad425, e425, hx425_0, hx425_1, hx425_2, hx425_3, hx425_4, hx425_5, hx425_6, hx425_7⟩ := at_T38 HR0.out x4_1 p425 q425
    obtain rfl : ad408 = ad425 := (by injection e425)
    replace p425 := eq_true p425
    replace q425 := eq_true q425
    go_wp2
    repeat (go_quiet (fail); try go_wp2)
    go_roundg k1
    case measure => have := HK1.out; omega
    case rel => exact ⟨(x4_1), (ji17), fr, (by first | rfl | (simp; done) | (simp only [← hji17] <;> (first | rfl | simp)) | (simp [*]; done)), H', ⟨by have := HK1.out; omega⟩, by repeat (first | exact Drawn0.refl _ | apply Drawn0.step)⟩
   rw [if_neg c2] at H
   have c2b0 := decide_eq_false c2
   clear c2
   obtain rfl := Option.some.inj H
   go_wp2
   repeat (go_quiet (fail); try go_wp2)
   go_ret
   exact ⟨fr, dr⟩

/-! ### pochoirref16_May: function 40 -/
def pochoirref16_May.l0 : Nat → List (S38) → Int → Option (Bool)
 | 0, _, _ => none
 | k + 1, x0, x3 => if x3 < (x0.length : Int) then (if 0 ≤ x3 then ((pochoirref16_One.f ((rd_T38 x0 x3).f0) ((rd_T38 x0 x3).f1) ((rd_T38 x0 x3).f2.f0) ((rd_T38 x0 x3).f2.f1) ((rd_T38 x0 x3).f3.f0) ((rd_T38 x0 x3).f3.f1) ((rd_T38 x0 x3).f4.f0) ((rd_T38 x0 x3).f4.f1)).bind fun t427 => (if t427 = true then (pochoirref16_May.l0 k x0 (wrap64 (x3 + 1))) else (some false))) else (none)) else ((pochoirref16_Closed.f k x0).bind fun t428 => (some t428))
def pochoirref16_May.f (k : Nat) (l0 : List (S38)) : Option (Bool) := if (l0.length : Int) > 8192 then (some false) else (pochoirref16_May.l0 k l0 0)
theorem pochoirref16_May.mono_l : ∀ k, (∀ y0 y1, LeO (pochoirref16_May.l0 k y0 y1) (pochoirref16_May.l0 (k + 1) y0 y1))
 | 0 => fun _ _ r h => by simp [pochoirref16_May.l0] at h
 | k + 1 => by
  have ih0 := pochoirref16_May.mono_l k
  ·intro y0 y1
   unfold pochoirref16_May.l0
   repeat' first | (with_reducible first | exact ih0 _ _ | exact pochoirref16_Closed.mono _ _ | exact LeO.refl _ | exact LeO.none _ | refine LeO.ite ?_ ?_ | refine LeO.bind ?_ (fun _ => ?_)) | exact ih0 _ _ | exact pochoirref16_Closed.mono _ _ | exact LeO.none _ | refine LeO.ite ?_ ?_ | refine LeO.bind ?_ (fun _ => ?_)
theorem pochoirref16_May.mono : ∀ a0 k, LeO (pochoirref16_May.f k a0) (pochoirref16_May.f (k + 1) a0) := by
 intro a0 k
 have ih0 := pochoirref16_May.mono_l k
 unfold pochoirref16_May.f
 repeat' first | (with_reducible first | exact ih0 _ _ | exact pochoirref16_Closed.mono _ _ | exact LeO.refl _ | exact LeO.none _ | refine LeO.ite ?_ ?_ | refine LeO.bind ?_ (fun _ => ?_)) | exact ih0 _ _ | exact pochoirref16_Closed.mono _ _ | exact LeO.none _ | refine LeO.ite ?_ ?_ | refine LeO.bind ?_ (fun _ => ?_)
set_option maxHeartbeats 8000000 in
set_option maxRecDepth 100000 in
theorem pochoirref16_May.calls (k : Nat) (A0 : Option Addr) (c0 : Nat) (l0 : List (S38)) (r : Bool) (w : World) (hr0 : Kd.C k38 w A0 l0.length l0) (hc0 : l0.length ≤ c0) (h : pochoirref16_May.f k l0 = some r) :
  Calls Try.prog 40 #[.slice A0 l0.length c0] w fun e w' => e = .returned (.bool r) ∧ Below w.heap.size w w' := by
 have hu38 := Try.underlying38
 have HR0 := Aside0.mk hr0
 have HC0 := Aside0.mk hc0
 clear hr0 hc0
 have HB := Aside0.mk (Below.refl w.heap.size w)
 have H := h
 clear h; unfold pochoirref16_May.f at H
 by_cases c2 : (l0.length : Int) > 8192
 ·rw [if_pos c2] at H
  have c2b0 : decide (8192 < (l0.length : Int)) = true := decide_eq_true c2
  have c2b1 : decide (8192 < l0.length) = true := decide_eq_true (by omega)
  clear c2
  obtain rfl := Option.some.inj H
  go_enter Try.func40, Try.ntmps40
  go_wp2
  go_ret
  exact ⟨by first | rfl | (simp [errW_none, errW_some] <;> rfl) | (simp [*, errW_none, errW_some] <;> rfl), bl0 HB.out⟩
 rw [if_neg c2] at H
 have c2b0 : decide (8192 < (l0.length : Int)) = false := decide_eq_false c2
 have c2b1 : decide (8192 < l0.length) = false := decide_eq_false (by omega)
 clear c2
 have H' := Aside0.mk H
 clear H
 go_enter Try.func40, Try.ntmps40
 go_wp2
 go_loopg [3] k (fun kq v3 w' => ∃ (x3_1 : Int), v3 = .int .i64 x3_1 ∧ Aside0 (pochoirref16_May.l0 kq l0 x3_1 = some r) ∧ Aside0 (kq ≤ k) ∧ Aside0 (Below w.heap.size w w'))
 case atStart => exact ⟨(0), fr, H', ⟨Nat.le_refl _⟩, ⟨bl0 HB.out⟩⟩
 case round =>
  clear H'
  try clear c2b0
  try clear c2b1
  try clear p2
  obtain ⟨x3_1, rfl, HA, HK1, HB⟩ := hrel
  cases gk with
  | zero => exact absurd HA.out (by simp [pochoirref16_May.l0])
  | succ k1 =>
   have H := HA.out
   clear HA
   simp only [pochoirref16_May.l0] at H
   by_cases c3 : x3_1 < (l0.length : Int)
   ·rw [if_pos c3] at H
    have c3b0 := decide_eq_true c3
    clear c3
    refine ifk H ?_; clear H; intro c4 H
    have c4b0 := decide_eq_true c4
    clear c4
    replace H := Option.bind_eq_some_iff.mp H
    obtain ⟨t427, A50, H⟩ := H
    replace H : (if t427 = true then (pochoirref16_May.l0 k1 l0 (wrap64 (x3_1 + 1))) else (some false)) = some r := H
    have A5 := Aside0.mk A50
    clear A50
    by_cases c6 : t427 = true
    ·subst c6
     rw [if_pos rfl] at H
     have H' := Aside0.mk H
     clear H
     have p426 : 0 ≤ (x3_1 : Int) := od
     have q426 : x3_1 < (l0.length : Int) := od
     obtain ⟨ad426, e426, hx426_0, hx426_1, hx426_2, hx426_3, hx426_4, hx426_5, hx426_6, hx426_7⟩ := at_T38 HR0.out x3_1 p426 q426
     cases e426
     replace hx426_0 := hc HB hx426_0
     replace hx426_1 := hc HB hx426_1
     replace hx426_2 := hc HB hx426_2
     replace hx426_3 := hc HB hx426_3
     replace hx426_4 := hc HB hx426_4
     replace hx426_5 := hc HB hx426_5
     replace hx426_6 := hc HB hx426_6
     replace hx426_7 := hc HB hx426_7
     replace p426 := eq_true p426
     replace q426 := eq_true q426
     go_wp2_with (first | ((with_reducible refine gate_callee (f := 17) rfl ?_); refine goesL_ (some 17) rfl rfl Try.func17 (by kernel_rfl) rfl #[.agg #[.int .i64 ((rd_T38 l0 x3_1).f0), .bool ((rd_T38 l0 x3_1).f1), .int .i64 ((rd_T38 l0 x3_1).f2.f0), .int .i64 ((rd_T38 l0 x3_1).f2.f1), .int .i64 ((rd_T38 l0 x3_1).f3.f0), .int .i64 ((rd_T38 l0 x3_1).f3.f1), .int .i64 ((rd_T38 l0 x3_1).f4.f0), .int .i64 ((rd_T38 l0 x3_1).f4.f1)]] rfl am ?_; (with_reducible refine (pochoirref16_One.calls ((rd_T38 l0 x3_1).f0) ((rd_T38 l0 x3_1).f1) ((rd_T38 l0 x3_1).f2.f0) ((rd_T38 l0 x3_1).f2.f1) ((rd_T38 l0 x3_1).f3.f0) ((rd_T38 l0 x3_1).f3.f1) ((rd_T38 l0 x3_1).f4.f0) ((rd_T38 l0 x3_1).f4.f1) true _ A5.out).mono ?_); rintro e w7 ⟨rfl, hb⟩; refine ⟨_, rfl, ?_⟩; replace HB := Aside0.mk (below_step (bl0 HB.out) hb); (try clear hb)))
     go_roundg k1
     case measure => have := HK1.out; omega
     case rel => exact ⟨(wrap64 (x3_1 + 1)), fr, H', ⟨by have := HK1.out; omega⟩, ⟨bl0 HB.out⟩⟩
    replace c6 := Bool.eq_false_iff.mpr c6
    subst c6
    rw [if_neg (show ¬ (false = true) by decide)] at H
    obtain rfl := Option.some.inj H
    have p426 : 0 ≤ (x3_1 : Int) := od
    have q426 : x3_1 < (l0.length : Int) := od
    obtain ⟨ad426, e426, hx426_0, hx426_1, hx426_2, hx426_3, hx426_4, hx426_5, hx426_6, hx426_7⟩ := at_T38 HR0.out x3_1 p426 q426
    cases e426
    replace hx426_0 := hc HB hx426_0
    replace hx426_1 := hc HB hx426_1
    replace hx426_2 := hc HB hx426_2
    replace hx426_3 := hc HB hx426_3
    replace hx426_4 := hc HB hx426_4
    replace hx426_5 := hc HB hx426_5
    replace hx426_6 := hc HB hx426_6
    replace hx426_7 := hc HB hx426_7
    replace p426 := eq_true p426
    replace q426 := eq_true q426
    go_wp2_with (first | ((with_reducible refine gate_callee (f := 17) rfl ?_); refine goesL_ (some 17) rfl rfl Try.func17 (by kernel_rfl) rfl #[.agg #[.int .i64 ((rd_T38 l0 x3_1).f0), .bool ((rd_T38 l0 x3_1).f1), .int .i64 ((rd_T38 l0 x3_1).f2.f0), .int .i64 ((rd_T38 l0 x3_1).f2.f1), .int .i64 ((rd_T38 l0 x3_1).f3.f0), .int .i64 ((rd_T38 l0 x3_1).f3.f1), .int .i64 ((rd_T38 l0 x3_1).f4.f0), .int .i64 ((rd_T38 l0 x3_1).f4.f1)]] rfl am ?_; (with_reducible refine (pochoirref16_One.calls ((rd_T38 l0 x3_1).f0) ((rd_T38 l0 x3_1).f1) ((rd_T38 l0 x3_1).f2.f0) ((rd_T38 l0 x3_1).f2.f1) ((rd_T38 l0 x3_1).f3.f0) ((rd_T38 l0 x3_1).f3.f1) ((rd_T38 l0 x3_1).f4.f0) ((rd_T38 l0 x3_1).f4.f1) false _ A5.out).mono ?_); rintro e w8 ⟨rfl, hb⟩; refine ⟨_, rfl, ?_⟩; replace HB := Aside0.mk (below_step (bl0 HB.out) hb); (try clear hb)))
    go_ret
    exact ⟨by first | rfl | (simp [errW_none, errW_some] <;> rfl) | (simp [*, errW_none, errW_some] <;> rfl), bl0 HB.out⟩
   rw [if_neg c3] at H
   have c3b0 := decide_eq_false c3
   clear c3
   replace H := Option.bind_eq_some_iff.mp H
   obtain ⟨t428, A90, H⟩ := H
   replace H : (some t428) = some r := H
   have A9 := Aside0.mk A90
   clear A90
   obtain rfl := Option.some.inj H
   go_wp2_with (first | ((with_reducible refine gate_callee (f := 82) rfl ?_); refine goesL_ (some 20) rfl rfl Try.func82 (by kernel_rfl) rfl #[.slice A0 l0.length c0] rfl am ?_; (with_reducible refine (pochoirref16_Closed.calls k1 _ _ l0 t428 _ ?side1 ?side2 A9.out).mono ?_); (case side1 => exact kc (Kd.C_below HR0.out HB.out)); (case side2 => exact HC0.out); rintro e w' ⟨rfl, ⟨nd, rfl⟩⟩; refine ⟨_, rfl, ?_⟩))
   go_ret
   exact ⟨by first | rfl | (simp [errW_none, errW_some] <;> rfl) | (simp [*, errW_none, errW_some] <;> rfl), bl0 HB.out⟩

end Go.Proofs.Ytalgppclaolonaa.XColr
