-- Printed by a program of this claim. Not trusted: Lean checks it.
import Derived.Test.YtalgppclaolonaaXCorax0
import Derived.Test.YtalgppclaolonaaXCorax1
import Derived.Test.YtalgppclaolonaaXCorax11
namespace Go.Proofs.Ytalgppclaolonaa.XCora
open Go.RowKit Go.Proofs.YtalgppclaolonaaW.PrintWords Go.Proofs.YtalgppclaolonaaW.PrintLast Go.Proofs.YtalgppclaolonaaW.PrintMore
attribute [local go_sem] max2_int min2_int max_two min_two max_three min_three max_four min_four   -- for this text's walks alone
set_option linter.unusedVariables false
set_option linter.unusedSimpArgs false
open XOpen

attribute [local go_sem high] eqA36
/-! ### pochoirref16_Closed: function 82 -/
def pochoirref16_Closed.l0 : Nat → List (S38) → Int → Int → Option (Bool)
 | 0, _, _, _ => none
 | k + 1, x0, x3, x4 => if x4 < (x0.length : Int) then (if 0 ≤ x4 then (if 0 ≤ x3 then (if x3 < (x0.length : Int) then (if ((rd_T38 x0 x4).f0) = ((rd_T38 x0 x3).f0) then (if x4 = (wrap64 ((x0.length : Int) - 1)) then (if (!(((rd_T38 x0 x4).f4.f0) == ((rd_T38 x0 x3).f2.f0)) || (!(((rd_T38 x0 x4).f4.f1) == ((rd_T38 x0 x3).f2.f1)))) = true then (some false) else (pochoirref16_Closed.l0 k x0 x3 (wrap64 (x4 + 1)))) else (if 0 ≤ (wrap64 (x4 + 1)) then (if (wrap64 (x4 + 1)) < (x0.length : Int) then (if ((rd_T38 x0 (wrap64 (x4 + 1))).f0) = ((rd_T38 x0 x4).f0) then (if (!(((rd_T38 x0 x4).f4.f0) == ((rd_T38 x0 (wrap64 (x4 + 1))).f2.f0)) || (!(((rd_T38 x0 x4).f4.f1) == ((rd_T38 x0 (wrap64 (x4 + 1))).f2.f1)))) = true then (some false) else (pochoirref16_Closed.l0 k x0 x3 (wrap64 (x4 + 1)))) else (if (!(((rd_T38 x0 x4).f4.f0) == ((rd_T38 x0 x3).f2.f0)) || (!(((rd_T38 x0 x4).f4.f1) == ((rd_T38 x0 x3).f2.f1)))) = true then (some false) else (pochoirref16_Closed.l0 k x0 x3 (wrap64 (x4 + 1))))) else (none)) else (none))) else (if x4 = (wrap64 ((x0.length : Int) - 1)) then (if (!(((rd_T38 x0 x4).f4.f0) == ((rd_T38 x0 x4).f2.f0)) || (!(((rd_T38 x0 x4).f4.f1) == ((rd_T38 x0 x4).f2.f1)))) = true then (some false) else (pochoirref16_Closed.l0 k x0 x4 (wrap64 (x4 + 1)))) else (if 0 ≤ (wrap64 (x4 + 1)) then (if (wrap64 (x4 + 1)) < (x0.length : Int) then (if ((rd_T38 x0 (wrap64 (x4 + 1))).f0) = ((rd_T38 x0 x4).f0) then (if (!(((rd_T38 x0 x4).f4.f0) == ((rd_T38 x0 (wrap64 (x4 + 1))).f2.f0)) || (!(((rd_T38 x0 x4).f4.f1) == ((rd_T38 x0 (wrap64 (x4 + 1))).f2.f1)))) = true then (some false) else (pochoirref16_Closed.l0 k x0 x4 (wrap64 (x4 + 1)))) else (if (!(((rd_T38 x0 x4).f4.f0) == ((rd_T38 x0 x4).f2.f0)) || (!(((rd_T38 x0 x4).f4.f1) == ((rd_T38 x0 x4).f2.f1)))) = true then (some false) else (pochoirref16_Closed.l0 k x0 x4 (wrap64 (x4 + 1))))) else (none)) else (none)))) else (none)) else (none)) else (none)) else (some true)
def pochoirref16_Closed.f (k : Nat) (l0 : List (S38)) : Option (Bool) := pochoirref16_Closed.l0 k l0 0 0
theorem pochoirref16_Closed.mono_l : ∀ k, (∀ y0 y1 y2, LeO (pochoirref16_Closed.l0 k y0 y1 y2) (pochoirref16_Closed.l0 (k + 1) y0 y1 y2))
 | 0 => fun _ _ _ r h => by simp [pochoirref16_Closed.l0] at h
 | k + 1 => by
  have ih0 := pochoirref16_Closed.mono_l k
  ·intro y0 y1 y2
   unfold pochoirref16_Closed.l0
   repeat' first
   | (with_reducible exact ih0 _ _ _)
   | (with_reducible exact LeO.refl _)
   | (with_reducible exact LeO.none _)
   | (with_reducible refine LeO.ite ?_ ?_)
   | (with_reducible refine LeO.bind ?_ (fun _ => ?_))
   | exact ih0 _ _ _
   | exact LeO.none _
   | refine LeO.ite ?_ ?_
   | refine LeO.bind ?_ (fun _ => ?_)
theorem pochoirref16_Closed.mono : ∀ a0 k, LeO (pochoirref16_Closed.f k a0) (pochoirref16_Closed.f (k + 1) a0) := by
 intro a0 k
 have ih0 := pochoirref16_Closed.mono_l k
 unfold pochoirref16_Closed.f
 repeat' first
   | (with_reducible exact ih0 _ _ _)
   | (with_reducible exact LeO.refl _)
   | (with_reducible exact LeO.none _)
   | (with_reducible refine LeO.ite ?_ ?_)
   | (with_reducible refine LeO.bind ?_ (fun _ => ?_))
   | exact ih0 _ _ _
   | exact LeO.none _
   | refine LeO.ite ?_ ?_
   | refine LeO.bind ?_ (fun _ => ?_)
set_option maxHeartbeats 8000000 in
set_option maxRecDepth 100000 in
theorem pochoirref16_Closed.calls (k : Nat) (A0 : Option Addr) (c0 : Nat) (l0 : List (S38)) (r : Bool) (w : World) (hr0 : Kd.C k38 w A0 l0.length l0) (hc0 : l0.length ≤ c0) (h : pochoirref16_Closed.f k l0 = some r) :
  Calls Try.prog 82 #[.slice A0 l0.length c0] w fun e w' => e = .returned (.bool r) ∧ Drawn0 w w' := by
 have hu36 := Try.underlying36
 have HR0 := Aside0.mk hr0
 have HC0 := Aside0.mk hc0
 clear hr0 hc0
 have H : (pochoirref16_Closed.l0 k l0 0 0) = some r := h
 clear h
 have H' := Aside0.mk H
 clear H
 go_enter Try.func82, Try.ntmps82
 go_wp2
 repeat (go_quiet (fail); try go_wp2)
 go_loopg [3, 4] k (fun kq v3 v4 w' => ∃ (x3_1 : Int) (x4_1 : Int), v3 = .int .i64 x3_1 ∧ v4 = .int .i64 x4_1 ∧ Aside0 (pochoirref16_Closed.l0 kq l0 x3_1 x4_1 = some r) ∧ Aside0 (kq ≤ k) ∧ Drawn0 w w')
 case atStart => exact ⟨(0), (0), fr, fr, H', ⟨Nat.le_refl _⟩, by repeat (first | exact Drawn0.refl _ | apply Drawn0.step)⟩
 case round =>
  clear H'
  obtain ⟨x3_1, x4_1, rfl, rfl, HA, HK1, ⟨m1, rfl⟩⟩ := hrel
  cases gk with
  | zero => exact absurd HA.out (by simp [pochoirref16_Closed.l0])
  | succ k1 =>
   have H := HA.out
   clear HA
   simp only [pochoirref16_Closed.l0] at H
   by_cases c2 : x4_1 < (l0.length : Int)
   ·rw [if_pos c2] at H
    have c2b0 : decide (x4_1 < (l0.length : Int)) = true := decide_eq_true c2
    clear c2
    by_cases c3 : 0 ≤ x4_1
    ·rw [if_pos c3] at H
     have c3b0 : decide (0 ≤ x4_1) = true := decide_eq_true c3
     clear c3
     by_cases c4 : 0 ≤ x3_1
     ·rw [if_pos c4] at H
      have c4b0 : decide (0 ≤ x3_1) = true := decide_eq_true c4
      clear c4
      by_cases c5 : x3_1 < (l0.length : Int)
      ·rw [if_pos c5] at H
       have c5b0 : decide (x3_1 < (l0.length : Int)) = true := decide_eq_true c5
       clear c5
       by_cases c6 : ((rd_T38 l0 x4_1).f0) = ((rd_T38 l0 x3_1).f0)
       ·rw [if_pos c6] at H
        have c6b0 : (((rd_T38 l0 x4_1).f0) == ((rd_T38 l0 x3_1).f0)) = true := beq_iff_eq.mpr c6
        have c6b1 : (((rd_T38 l0 x4_1).f0) != ((rd_T38 l0 x3_1).f0)) = false := bne_eq_false_iff_eq.mpr c6
        clear c6
        by_cases c7 : x4_1 = (wrap64 ((l0.length : Int) - 1))
        ·rw [if_pos c7] at H
         have c7b0 : (x4_1 == (wrap64 ((l0.length : Int) - 1))) = true := beq_iff_eq.mpr c7
         have c7b1 : (x4_1 != (wrap64 ((l0.length : Int) - 1))) = false := bne_eq_false_iff_eq.mpr c7
         clear c7
         by_cases c8 : (!(((rd_T38 l0 x4_1).f4.f0) == ((rd_T38 l0 x3_1).f2.f0)) || (!(((rd_T38 l0 x4_1).f4.f1) == ((rd_T38 l0 x3_1).f2.f1)))) = true
         ·rw [if_pos c8] at H
          have c8b0 : (!(((rd_T38 l0 x4_1).f4.f0) == ((rd_T38 l0 x3_1).f2.f0)) || (!(((rd_T38 l0 x4_1).f4.f1) == ((rd_T38 l0 x3_1).f2.f1)))) = true := c8
          clear c8
          obtain rfl := Option.some.inj H
          have p325 : 0 ≤ (x4_1 : Int) := of_decide_eq_true (by first | (with_reducible assumption) | assumption)
          have q325 : x4_1 < (l0.length : Int) := of_decide_eq_true (by first | (with_reducible assumption) | assumption)
          obtain ⟨ad325, e325, hx325_0, hx325_1, hx325_2, hx325_3, hx325_4, hx325_5, hx325_6, hx325_7⟩ := at_T38 HR0.out x4_1 p325 q325
          cases e325
          replace p325 := eq_true p325
          replace q325 := eq_true q325
          have p326 : 0 ≤ (x3_1 : Int) := of_decide_eq_true (by first | (with_reducible assumption) | assumption)
          have q326 : x3_1 < (l0.length : Int) := of_decide_eq_true (by first | (with_reducible assumption) | assumption)
          obtain ⟨ad326, e326, hx326_0, hx326_1, hx326_2, hx326_3, hx326_4, hx326_5, hx326_6, hx326_7⟩ := at_T38 HR0.out x3_1 p326 q326
          obtain rfl : ad325 = ad326 := (by injection e326)
          replace p326 := eq_true p326
          replace q326 := eq_true q326
          have p327 : 0 ≤ (x4_1 : Int) := of_decide_eq_true (by first | (with_reducible assumption) | assumption)
          have q327 : x4_1 < (l0.length : Int) := of_decide_eq_true (by first | (with_reducible assumption) | assumption)
          obtain ⟨ad327, e327, hx327_0, hx327_1, hx327_2, hx327_3, hx327_4, hx327_5, hx327_6, hx327_7⟩ := at_T38 HR0.out x4_1 p327 q327
          obtain rfl : ad325 = ad327 := (by injection e327)
          replace p327 := eq_true p327
          replace q327 := eq_true q327
          have p328 : 0 ≤ (x3_1 : Int) := of_decide_eq_true (by first | (with_reducible assumption) | assumption)
          have q328 : x3_1 < (l0.length : Int) := of_decide_eq_true (by first | (with_reducible assumption) | assumption)
          obtain ⟨ad328, e328, hx328_0, hx328_1, hx328_2, hx328_3, hx328_4, hx328_5, hx328_6, hx328_7⟩ := at_T38 HR0.out x3_1 p328 q328
          obtain rfl : ad325 = ad328 := (by injection e328)
          replace p328 := eq_true p328
          replace q328 := eq_true q328
          go_wp2
          repeat (go_quiet (fail); try go_wp2)
          go_ret
          exact ⟨by first | rfl | (simp; done) | (simp [*]; done), by repeat (first | exact Drawn0.refl _ | apply Drawn0.step)⟩
         ·rw [if_neg c8] at H
          have c8b0 : (!(((rd_T38 l0 x4_1).f4.f0) == ((rd_T38 l0 x3_1).f2.f0)) || (!(((rd_T38 l0 x4_1).f4.f1) == ((rd_T38 l0 x3_1).f2.f1)))) = false := by simpa using c8
          clear c8
          have H' := Aside0.mk H
          clear H
          have p325 : 0 ≤ (x4_1 : Int) := of_decide_eq_true (by first | (with_reducible assumption) | assumption)
          have q325 : x4_1 < (l0.length : Int) := of_decide_eq_true (by first | (with_reducible assumption) | assumption)
          obtain ⟨ad325, e325, hx325_0, hx325_1, hx325_2, hx325_3, hx325_4, hx325_5, hx325_6, hx325_7⟩ := at_T38 HR0.out x4_1 p325 q325
          cases e325
          replace p325 := eq_true p325
          replace q325 := eq_true q325
          have p326 : 0 ≤ (x3_1 : Int) := of_decide_eq_true (by first | (with_reducible assumption) | assumption)
          have q326 : x3_1 < (l0.length : Int) := of_decide_eq_true (by first | (with_reducible assumption) | assumption)
          obtain ⟨ad326, e326, hx326_0, hx326_1, hx326_2, hx326_3, hx326_4, hx326_5, hx326_6, hx326_7⟩ := at_T38 HR0.out x3_1 p326 q326
          obtain rfl : ad325 = ad326 := (by injection e326)
          replace p326 := eq_true p326
          replace q326 := eq_true q326
          have p327 : 0 ≤ (x4_1 : Int) := of_decide_eq_true (by first | (with_reducible assumption) | assumption)
          have q327 : x4_1 < (l0.length : Int) := of_decide_eq_true (by first | (with_reducible assumption) | assumption)
          obtain ⟨ad327, e327, hx327_0, hx327_1, hx327_2, hx327_3, hx327_4, hx327_5, hx327_6, hx327_7⟩ := at_T38 HR0.out x4_1 p327 q327
          obtain rfl : ad325 = ad327 := (by injection e327)
          replace p327 := eq_true p327
          replace q327 := eq_true q327
          have p328 : 0 ≤ (x3_1 : Int) := of_decide_eq_true (by first | (with_reducible assumption) | assumption)
          have q328 : x3_1 < (l0.length : Int) := of_decide_eq_true (by first | (with_reducible assumption) | assumption)
          obtain ⟨ad328, e328, hx328_0, hx328_1, hx328_2, hx328_3, hx328_4, hx328_5, hx328_6, hx328_7⟩ := at_T38 HR0.out x3_1 p328 q328
          obtain rfl : ad325 = ad328 := (by injection e328)
          replace p328 := eq_true p328
          replace q328 := eq_true q328
          go_wp2
          repeat (go_quiet (fail); try go_wp2)
          go_roundg k1
          case measure => have := HK1.out; omega
          case rel => exact ⟨(x3_1), (wrap64 (x4_1 + 1)), fr, fr, H', ⟨by have := HK1.out; omega⟩, by repeat (first | exact Drawn0.refl _ | apply Drawn0.step)⟩
        ·rw [if_neg c7] at H
         have c7b0 : (x4_1 == (wrap64 ((l0.length : Int) - 1))) = false := beq_eq_false_iff_ne.mpr c7
         have c7b1 : (x4_1 != (wrap64 ((l0.length : Int) - 1))) = true := bne_iff_ne.mpr c7
         obtain ⟨ji9, hji9⟩ : ∃ j_ : Int, (wrap64 (x4_1 + 1)) = j_ := ⟨_, rfl⟩
         replace H : (if 0 ≤ (ji9) then (if (ji9) < (l0.length : Int) then (if ((rd_T38 l0 (ji9)).f0) = ((rd_T38 l0 x4_1).f0) then (if (!(((rd_T38 l0 x4_1).f4.f0) == ((rd_T38 l0 (ji9)).f2.f0)) || (!(((rd_T38 l0 x4_1).f4.f1) == ((rd_T38 l0 (ji9)).f2.f1)))) = true then (some false) else (pochoirref16_Closed.l0 k1 l0 x3_1 ji9)) else (if (!(((rd_T38 l0 x4_1).f4.f0) == ((rd_T38 l0 x3_1).f2.f0)) || (!(((rd_T38 l0 x4_1).f4.f1) == ((rd_T38 l0 x3_1).f2.f1)))) = true then (some false) else (pochoirref16_Closed.l0 k1 l0 x3_1 ji9))) else (none)) else (none)) = some r := by first | (rw [hji9] at H; exact H) | (simp only [hji9] at H ⊢; exact H)
         have hji9w : (IntKind.i64.wrap (x4_1 + 1)) = ji9 := (i64_w _).trans hji9
         by_cases c10 : 0 ≤ (ji9)
         ·rw [if_pos c10] at H
          have c10b0 : decide (0 ≤ (ji9)) = true := decide_eq_true c10
          clear c10
          by_cases c11 : (ji9) < (l0.length : Int)
          ·rw [if_pos c11] at H
           have c11b0 : decide ((ji9) < (l0.length : Int)) = true := decide_eq_true c11
           clear c11
           by_cases c12 : ((rd_T38 l0 (ji9)).f0) = ((rd_T38 l0 x4_1).f0)
           ·rw [if_pos c12] at H
            have c12b0 : (((rd_T38 l0 (ji9)).f0) == ((rd_T38 l0 x4_1).f0)) = true := beq_iff_eq.mpr c12
            have c12b1 : (((rd_T38 l0 (ji9)).f0) != ((rd_T38 l0 x4_1).f0)) = false := bne_eq_false_iff_eq.mpr c12
            clear c12
            by_cases c13 : (!(((rd_T38 l0 x4_1).f4.f0) == ((rd_T38 l0 (ji9)).f2.f0)) || (!(((rd_T38 l0 x4_1).f4.f1) == ((rd_T38 l0 (ji9)).f2.f1)))) = true
            ·rw [if_pos c13] at H
             have c13b0 : (!(((rd_T38 l0 x4_1).f4.f0) == ((rd_T38 l0 (ji9)).f2.f0)) || (!(((rd_T38 l0 x4_1).f4.f1) == ((rd_T38 l0 (ji9)).f2.f1)))) = true := c13
             clear c13
             obtain rfl := Option.some.inj H
             have p325 : 0 ≤ (x4_1 : Int) := of_decide_eq_true (by first | (with_reducible assumption) | assumption)
             have q325 : x4_1 < (l0.length : Int) := of_decide_eq_true (by first | (with_reducible assumption) | assumption)
             obtain ⟨ad325, e325, hx325_0, hx325_1, hx325_2, hx325_3, hx325_4, hx325_5, hx325_6, hx325_7⟩ := at_T38 HR0.out x4_1 p325 q325
             cases e325
             replace p325 := eq_true p325
             replace q325 := eq_true q325
             have p326 : 0 ≤ (x3_1 : Int) := of_decide_eq_true (by first | (with_reducible assumption) | assumption)
             have q326 : x3_1 < (l0.length : Int) := of_decide_eq_true (by first | (with_reducible assumption) | assumption)
             obtain ⟨ad326, e326, hx326_0, hx326_1, hx326_2, hx326_3, hx326_4, hx326_5, hx326_6, hx326_7⟩ := at_T38 HR0.out x3_1 p326 q326
             obtain rfl : ad325 = ad326 := (by injection e326)
             replace p326 := eq_true p326
             replace q326 := eq_true q326
             have p329 : 0 ≤ ((ji9) : Int) := of_decide_eq_true (by first | (with_reducible assumption) | assumption)
             have q329 : (ji9) < (l0.length : Int) := of_decide_eq_true (by first | (with_reducible assumption) | assumption)
             obtain ⟨ad329, e329, hx329_0, hx329_1, hx329_2, hx329_3, hx329_4, hx329_5, hx329_6, hx329_7⟩ := at_T38 HR0.out (ji9) p329 q329
             obtain rfl : ad325 = ad329 := (by injection e329)
             replace p329 := eq_true p329
             replace q329 := eq_true q329
             have p330 : 0 ≤ (x4_1 : Int) := of_decide_eq_true (by first | (with_reducible assumption) | assumption)
             have q330 : x4_1 < (l0.length : Int) := of_decide_eq_true (by first | (with_reducible assumption) | assumption)
             obtain ⟨ad330, e330, hx330_0, hx330_1, hx330_2, hx330_3, hx330_4, hx330_5, hx330_6, hx330_7⟩ := at_T38 HR0.out x4_1 p330 q330
             obtain rfl : ad325 = ad330 := (by injection e330)
             replace p330 := eq_true p330
             replace q330 := eq_true q330
             have p331 : 0 ≤ (x4_1 : Int) := of_decide_eq_true (by first | (with_reducible assumption) | assumption)
             have q331 : x4_1 < (l0.length : Int) := of_decide_eq_true (by first | (with_reducible assumption) | assumption)
             obtain ⟨ad331, e331, hx331_0, hx331_1, hx331_2, hx331_3, hx331_4, hx331_5, hx331_6, hx331_7⟩ := at_T38 HR0.out x4_1 p331 q331
             obtain rfl : ad325 = ad331 := (by injection e331)
             replace p331 := eq_true p331
             replace q331 := eq_true q331
             have p332 : 0 ≤ ((ji9) : Int) := of_decide_eq_true (by first | (with_reducible assumption) | assumption)
             have q332 : (ji9) < (l0.length : Int) := of_decide_eq_true (by first | (with_reducible assumption) | assumption)
             obtain ⟨ad332, e332, hx332_0, hx332_1, hx332_2, hx332_3, hx332_4, hx332_5, hx332_6, hx332_7⟩ := at_T38 HR0.out (ji9) p332 q332
             obtain rfl : ad325 = ad332 := (by injection e332)
             replace p332 := eq_true p332
             replace q332 := eq_true q332
             go_wp2
             repeat (go_quiet (fail); try go_wp2)
             go_ret
             exact ⟨by first | rfl | (simp; done) | (simp only [← hji9] <;> (first | rfl | simp)) | (simp [*]; done), by repeat (first | exact Drawn0.refl _ | apply Drawn0.step)⟩
            ·rw [if_neg c13] at H
             have c13b0 : (!(((rd_T38 l0 x4_1).f4.f0) == ((rd_T38 l0 (ji9)).f2.f0)) || (!(((rd_T38 l0 x4_1).f4.f1) == ((rd_T38 l0 (ji9)).f2.f1)))) = false := by simpa using c13
             clear c13
             have H' := Aside0.mk H
             clear H
             have p325 : 0 ≤ (x4_1 : Int) := of_decide_eq_true (by first | (with_reducible assumption) | assumption)
             have q325 : x4_1 < (l0.length : Int) := of_decide_eq_true (by first | (with_reducible assumption) | assumption)
             obtain ⟨ad325, e325, hx325_0, hx325_1, hx325_2, hx325_3, hx325_4, hx325_5, hx325_6, hx325_7⟩ := at_T38 HR0.out x4_1 p325 q325
             cases e325
             replace p325 := eq_true p325
             replace q325 := eq_true q325
             have p326 : 0 ≤ (x3_1 : Int) := of_decide_eq_true (by first | (with_reducible assumption) | assumption)
             have q326 : x3_1 < (l0.length : Int) := of_decide_eq_true (by first | (with_reducible assumption) | assumption)
             obtain ⟨ad326, e326, hx326_0, hx326_1, hx326_2, hx326_3, hx326_4, hx326_5, hx326_6, hx326_7⟩ := at_T38 HR0.out x3_1 p326 q326
             obtain rfl : ad325 = ad326 := (by injection e326)
             replace p326 := eq_true p326
             replace q326 := eq_true q326
             have p329 : 0 ≤ ((ji9) : Int) := of_decide_eq_true (by first | (with_reducible assumption) | assumption)
             have q329 : (ji9) < (l0.length : Int) := of_decide_eq_true (by first | (with_reducible assumption) | assumption)
             obtain ⟨ad329, e329, hx329_0, hx329_1, hx329_2, hx329_3, hx329_4, hx329_5, hx329_6, hx329_7⟩ := at_T38 HR0.out (ji9) p329 q329
             obtain rfl : ad325 = ad329 := (by injection e329)
             replace p329 := eq_true p329
             replace q329 := eq_true q329
             have p330 : 0 ≤ (x4_1 : Int) := of_decide_eq_true (by first | (with_reducible assumption) | assumption)
             have q330 : x4_1 < (l0.length : Int) := of_decide_eq_true (by first | (with_reducible assumption) | assumption)
             obtain ⟨ad330, e330, hx330_0, hx330_1, hx330_2, hx330_3, hx330_4, hx330_5, hx330_6, hx330_7⟩ := at_T38 HR0.out x4_1 p330 q330
             obtain rfl : ad325 = ad330 := (by injection e330)
             replace p330 := eq_true p330
             replace q330 := eq_true q330
             have p331 : 0 ≤ (x4_1 : Int) := of_decide_eq_true (by first | (with_reducible assumption) | assumption)
             have q331 : x4_1 < (l0.length : Int) := of_decide_eq_true (by first | (with_reducible assumption) | assumption)
             obtain ⟨ad331, e331, hx331_0, hx331_1, hx331_2, hx331_3, hx331_4, hx331_5, hx331_6, hx331_7⟩ := at_T38 HR0.out x4_1 p331 q331
             obtain rfl : ad325 = ad331 := (by injection e331)
             replace p331 := eq_true p331
             replace q331 := eq_true q331
             have p332 : 0 ≤ ((ji9) : Int) := of_decide_eq_true (by first | (with_reducible assumption) | assumption)
             have q332 : (ji9) < (l0.length : Int) := of_decide_eq_true (by first | (with_reducible assumption) | assumption)
             obtain ⟨ad332, e332, hx332_0, hx332_1, hx332_2, hx332_3, hx332_4, hx332_5, hx332_6, hx332_7⟩ := at_T38 HR0.out (ji9) p332 q332
             obtain rfl : ad325 = ad332 := (by injection e332)
             replace p332 := eq_true p332
             replace q332 := eq_true q332
             go_wp2
             repeat (go_quiet (fail); try go_wp2)
             go_roundg k1
             case measure => have := HK1.out; omega
             case rel => exact ⟨(x3_1), (ji9), fr, (by first | rfl | (simp; done) | (simp only [← hji9] <;> (first | rfl | simp)) | (simp [*]; done)), H', ⟨by have := HK1.out; omega⟩, by repeat (first | exact Drawn0.refl _ | apply Drawn0.step)⟩
           ·rw [if_neg c12] at H
            have c12b0 : (((rd_T38 l0 (ji9)).f0) == ((rd_T38 l0 x4_1).f0)) = false := beq_eq_false_iff_ne.mpr c12
            have c12b1 : (((rd_T38 l0 (ji9)).f0) != ((rd_T38 l0 x4_1).f0)) = true := bne_iff_ne.mpr c12
            by_cases c14 : (!(((rd_T38 l0 x4_1).f4.f0) == ((rd_T38 l0 x3_1).f2.f0)) || (!(((rd_T38 l0 x4_1).f4.f1) == ((rd_T38 l0 x3_1).f2.f1)))) = true
            ·rw [if_pos c14] at H
             have c14b0 : (!(((rd_T38 l0 x4_1).f4.f0) == ((rd_T38 l0 x3_1).f2.f0)) || (!(((rd_T38 l0 x4_1).f4.f1) == ((rd_T38 l0 x3_1).f2.f1)))) = true := c14
             clear c14
             obtain rfl := Option.some.inj H
             have p325 : 0 ≤ (x4_1 : Int) := of_decide_eq_true (by first | (with_reducible assumption) | assumption)
             have q325 : x4_1 < (l0.length : Int) := of_decide_eq_true (by first | (with_reducible assumption) | assumption)
             obtain ⟨ad325, e325, hx325_0, hx325_1, hx325_2, hx325_3, hx325_4, hx325_5, hx325_6, hx325_7⟩ := at_T38 HR0.out x4_1 p325 q325
             cases e325
             replace p325 := eq_true p325
             replace q325 := eq_true q325
             have p326 : 0 ≤ (x3_1 : Int) := of_decide_eq_true (by first | (with_reducible assumption) | assumption)
             have q326 : x3_1 < (l0.length : Int) := of_decide_eq_true (by first | (with_reducible assumption) | assumption)
             obtain ⟨ad326, e326, hx326_0, hx326_1, hx326_2, hx326_3, hx326_4, hx326_5, hx326_6, hx326_7⟩ := at_T38 HR0.out x3_1 p326 q326
             obtain rfl : ad325 = ad326 := (by injection e326)
             replace p326 := eq_true p326
             replace q326 := eq_true q326
             have p329 : 0 ≤ ((ji9) : Int) := of_decide_eq_true (by first | (with_reducible assumption) | assumption)
             have q329 : (ji9) < (l0.length : Int) := of_decide_eq_true (by first | (with_reducible assumption) | assumption)
             obtain ⟨ad329, e329, hx329_0, hx329_1, hx329_2, hx329_3, hx329_4, hx329_5, hx329_6, hx329_7⟩ := at_T38 HR0.out (ji9) p329 q329
             obtain rfl : ad325 = ad329 := (by injection e329)
             replace p329 := eq_true p329
             replace q329 := eq_true q329
             have p330 : 0 ≤ (x4_1 : Int) := of_decide_eq_true (by first | (with_reducible assumption) | assumption)
             have q330 : x4_1 < (l0.length : Int) := of_decide_eq_true (by first | (with_reducible assumption) | assumption)
             obtain ⟨ad330, e330, hx330_0, hx330_1, hx330_2, hx330_3, hx330_4, hx330_5, hx330_6, hx330_7⟩ := at_T38 HR0.out x4_1 p330 q330
             obtain rfl : ad325 = ad330 := (by injection e330)
             replace p330 := eq_true p330
             replace q330 := eq_true q330
             have p333 : 0 ≤ (x4_1 : Int) := of_decide_eq_true (by first | (with_reducible assumption) | assumption)
             have q333 : x4_1 < (l0.length : Int) := of_decide_eq_true (by first | (with_reducible assumption) | assumption)
             obtain ⟨ad333, e333, hx333_0, hx333_1, hx333_2, hx333_3, hx333_4, hx333_5, hx333_6, hx333_7⟩ := at_T38 HR0.out x4_1 p333 q333
             obtain rfl : ad325 = ad333 := (by injection e333)
             replace p333 := eq_true p333
             replace q333 := eq_true q333
             have p334 : 0 ≤ (x3_1 : Int) := of_decide_eq_true (by first | (with_reducible assumption) | assumption)
             have q334 : x3_1 < (l0.length : Int) := of_decide_eq_true (by first | (with_reducible assumption) | assumption)
             obtain ⟨ad334, e334, hx334_0, hx334_1, hx334_2, hx334_3, hx334_4, hx334_5, hx334_6, hx334_7⟩ := at_T38 HR0.out x3_1 p334 q334
             obtain rfl : ad325 = ad334 := (by injection e334)
             replace p334 := eq_true p334
             replace q334 := eq_true q334
             go_wp2
             repeat (go_quiet (fail); try go_wp2)
             go_ret
             exact ⟨by first | rfl | (simp; done) | (simp only [← hji9] <;> (first | rfl | simp)) | (simp [*]; done), by repeat (first | exact Drawn0.refl _ | apply Drawn0.step)⟩
            ·rw [if_neg c14] at H
             have c14b0 : (!(((rd_T38 l0 x4_1).f4.f0) == ((rd_T38 l0 x3_1).f2.f0)) || (!(((rd_T38 l0 x4_1).f4.f1) == ((rd_T38 l0 x3_1).f2.f1)))) = false := by simpa using c14
             clear c14
             have H' := Aside0.mk H
             clear H
             have p325 : 0 ≤ (x4_1 : Int) := of_decide_eq_true (by first | (with_reducible assumption) | assumption)
             have q325 : x4_1 < (l0.length : Int) := of_decide_eq_true (by first | (with_reducible assumption) | assumption)
             obtain ⟨ad325, e325, hx325_0, hx325_1, hx325_2, hx325_3, hx325_4, hx325_5, hx325_6, hx325_7⟩ := at_T38 HR0.out x4_1 p325 q325
             cases e325
             replace p325 := eq_true p325
             replace q325 := eq_true q325
             have p326 : 0 ≤ (x3_1 : Int) := of_decide_eq_true (by first | (with_reducible assumption) | assumption)
             have q326 : x3_1 < (l0.length : Int) := of_decide_eq_true (by first | (with_reducible assumption) | assumption)
             obtain ⟨ad326, e326, hx326_0, hx326_1, hx326_2, hx326_3, hx326_4, hx326_5, hx326_6, hx326_7⟩ := at_T38 HR0.out x3_1 p326 q326
             obtain rfl : ad325 = ad326 := (by injection e326)
             replace p326 := eq_true p326
             replace q326 := eq_true q326
             have p329 : 0 ≤ ((ji9) : Int) := of_decide_eq_true (by first | (with_reducible assumption) | assumption)
             have q329 : (ji9) < (l0.length : Int) := of_decide_eq_true (by first | (with_reducible assumption) | assumption)
             obtain ⟨ad329, e329, hx329_0, hx329_1, hx329_2, hx329_3, hx329_4, hx329_5, hx329_6, hx329_7⟩ := at_T38 HR0.out (ji9) p329 q329
             obtain rfl : ad325 = ad329 := (by injection e329)
             replace p329 := eq_true p329
             replace q329 := eq_true q329
             have p330 : 0 ≤ (x4_1 : Int) := of_decide_eq_true (by first | (with_reducible assumption) | assumption)
             have q330 : x4_1 < (l0.length : Int) := of_decide_eq_true (by first | (with_reducible assumption) | assumption)
             obtain ⟨ad330, e330, hx330_0, hx330_1, hx330_2, hx330_3, hx330_4, hx330_5, hx330_6, hx330_7⟩ := at_T38 HR0.out x4_1 p330 q330
             obtain rfl : ad325 = ad330 := (by injection e330)
             replace p330 := eq_true p330
             replace q330 := eq_true q330
             have p333 : 0 ≤ (x4_1 : Int) := of_decide_eq_true (by first | (with_reducible assumption) | assumption)
             have q333 : x4_1 < (l0.length : Int) := of_decide_eq_true (by first | (with_reducible assumption) | assumption)
             obtain ⟨ad333, e333, hx333_0, hx333_1, hx333_2, hx333_3, hx333_4, hx333_5, hx333_6, hx333_7⟩ := at_T38 HR0.out x4_1 p333 q333
             obtain rfl : ad325 = ad333 := (by injection e333)
             replace p333 := eq_true p333
             replace q333 := eq_true q333
             have p334 : 0 ≤ (x3_1 : Int) := of_decide_eq_true (by first | (with_reducible assumption) | assumption)
             have q334 : x3_1 < (l0.length : Int) := of_decide_eq_true (by first | (with_reducible assumption) | assumption)
             obtain ⟨ad334, e334, hx334_0, hx334_1, hx334_2, hx334_3, hx334_4, hx334_5, hx334_6, hx334_7⟩ := at_T38 HR0.out x3_1 p334 q334
             obtain rfl : ad325 = ad334 := (by injection e334)
             replace p334 := eq_true p334
             replace q334 := eq_true q334
             go_wp2
             repeat (go_quiet (fail); try go_wp2)
             go_roundg k1
             case measure => have := HK1.out; omega
             case rel => exact ⟨(x3_1), (ji9), fr, (by first | rfl | (simp; done) | (simp only [← hji9] <;> (first | rfl | simp)) | (simp [*]; done)), H', ⟨by have := HK1.out; omega⟩, by repeat (first | exact Drawn0.refl _ | apply Drawn0.step)⟩
          ·rw [if_neg c11] at H
           exact absurd H (by simp)
         ·rw [if_neg c10] at H
          exact absurd H (by simp)
       ·rw [if_neg c6] at H
        have c6b0 : (((rd_T38 l0 x4_1).f0) == ((rd_T38 l0 x3_1).f0)) = false := beq_eq_false_iff_ne.mpr c6
        have c6b1 : (((rd_T38 l0 x4_1).f0) != ((rd_T38 l0 x3_1).f0)) = true := bne_iff_ne.mpr c6
        by_cases c15 : x4_1 = (wrap64 ((l0.length : Int) - 1))
        ·rw [if_pos c15] at H
         have c15b0 : (x4_1 == (wrap64 ((l0.length : Int) - 1))) = true := beq_iff_eq.mpr c15
         have c15b1 : (x4_1 != (wrap64 ((l0.length : Int) - 1))) = false := bne_eq_false_iff_eq.mpr c15
         clear c15
         by_cases c16 : (!(((rd_T38 l0 x4_1).f4.f0) == ((rd_T38 l0 x4_1).f2.f0)) || (!(((rd_T38 l0 x4_1).f4.f1) == ((rd_T38 l0 x4_1).f2.f1)))) = true
         ·rw [if_pos c16] at H
          have c16b0 : (!(((rd_T38 l0 x4_1).f4.f0) == ((rd_T38 l0 x4_1).f2.f0)) || (!(((rd_T38 l0 x4_1).f4.f1) == ((rd_T38 l0 x4_1).f2.f1)))) = true := c16
          clear c16
          obtain rfl := Option.some.inj H
          have p325 : 0 ≤ (x4_1 : Int) := of_decide_eq_true (by first | (with_reducible assumption) | assumption)
          have q325 : x4_1 < (l0.length : Int) := of_decide_eq_true (by first | (with_reducible assumption) | assumption)
          obtain ⟨ad325, e325, hx325_0, hx325_1, hx325_2, hx325_3, hx325_4, hx325_5, hx325_6, hx325_7⟩ := at_T38 HR0.out x4_1 p325 q325
          cases e325
          replace p325 := eq_true p325
          replace q325 := eq_true q325
          have p326 : 0 ≤ (x3_1 : Int) := of_decide_eq_true (by first | (with_reducible assumption) | assumption)
          have q326 : x3_1 < (l0.length : Int) := of_decide_eq_true (by first | (with_reducible assumption) | assumption)
          obtain ⟨ad326, e326, hx326_0, hx326_1, hx326_2, hx326_3, hx326_4, hx326_5, hx326_6, hx326_7⟩ := at_T38 HR0.out x3_1 p326 q326
          obtain rfl : ad325 = ad326 := (by injection e326)
          replace p326 := eq_true p326
          replace q326 := eq_true q326
          have p335 : 0 ≤ (x4_1 : Int) := of_decide_eq_true (by first | (with_reducible assumption) | assumption)
          have q335 : x4_1 < (l0.length : Int) := of_decide_eq_true (by first | (with_reducible assumption) | assumption)
          obtain ⟨ad335, e335, hx335_0, hx335_1, hx335_2, hx335_3, hx335_4, hx335_5, hx335_6, hx335_7⟩ := at_T38 HR0.out x4_1 p335 q335
          obtain rfl : ad325 = ad335 := (by injection e335)
          replace p335 := eq_true p335
          replace q335 := eq_true q335
          have p336 : 0 ≤ (x4_1 : Int) := of_decide_eq_true (by first | (with_reducible assumption) | assumption)
          have q336 : x4_1 < (l0.length : Int) := of_decide_eq_true (by first | (with_reducible assumption) | assumption)
          obtain ⟨ad336, e336, hx336_0, hx336_1, hx336_2, hx336_3, hx336_4, hx336_5, hx336_6, hx336_7⟩ := at_T38 HR0.out x4_1 p336 q336
          obtain rfl : ad325 = ad336 := (by injection e336)
          replace p336 := eq_true p336
          replace q336 := eq_true q336
          go_wp2
          repeat (go_quiet (fail); try go_wp2)
          go_ret
          exact ⟨by first | rfl | (simp; done) | (simp [*]; done), by repeat (first | exact Drawn0.refl _ | apply Drawn0.step)⟩
         ·rw [if_neg c16] at H
          have c16b0 : (!(((rd_T38 l0 x4_1).f4.f0) == ((rd_T38 l0 x4_1).f2.f0)) || (!(((rd_T38 l0 x4_1).f4.f1) == ((rd_T38 l0 x4_1).f2.f1)))) = false := by simpa using c16
          clear c16
          have H' := Aside0.mk H
          clear H
          have p325 : 0 ≤ (x4_1 : Int) := of_decide_eq_true (by first | (with_reducible assumption) | assumption)
          have q325 : x4_1 < (l0.length : Int) := of_decide_eq_true (by first | (with_reducible assumption) | assumption)
          obtain ⟨ad325, e325, hx325_0, hx325_1, hx325_2, hx325_3, hx325_4, hx325_5, hx325_6, hx325_7⟩ := at_T38 HR0.out x4_1 p325 q325
          cases e325
          replace p325 := eq_true p325
          replace q325 := eq_true q325
          have p326 : 0 ≤ (x3_1 : Int) := of_decide_eq_true (by first | (with_reducible assumption) | assumption)
          have q326 : x3_1 < (l0.length : Int) := of_decide_eq_true (by first | (with_reducible assumption) | assumption)
          obtain ⟨ad326, e326, hx326_0, hx326_1, hx326_2, hx326_3, hx326_4, hx326_5, hx326_6, hx326_7⟩ := at_T38 HR0.out x3_1 p326 q326
          obtain rfl : ad325 = ad326 := (by injection e326)
          replace p326 := eq_true p326
          replace q326 := eq_true q326
          have p335 : 0 ≤ (x4_1 : Int) := of_decide_eq_true (by first | (with_reducible assumption) | assumption)
          have q335 : x4_1 < (l0.length : Int) := of_decide_eq_true (by first | (with_reducible assumption) | assumption)
          obtain ⟨ad335, e335, hx335_0, hx335_1, hx335_2, hx335_3, hx335_4, hx335_5, hx335_6, hx335_7⟩ := at_T38 HR0.out x4_1 p335 q335
          obtain rfl : ad325 = ad335 := (by injection e335)
          replace p335 := eq_true p335
          replace q335 := eq_true q335
          have p336 : 0 ≤ (x4_1 : Int) := of_decide_eq_true (by first | (with_reducible assumption) | assumption)
          have q336 : x4_1 < (l0.length : Int) := of_decide_eq_true (by first | (with_reducible assumption) | assumption)
          obtain ⟨ad336, e336, hx336_0, hx336_1, hx336_2, hx336_3, hx336_4, hx336_5, hx336_6, hx336_7⟩ := at_T38 HR0.out x4_1 p336 q336
          obtain rfl : ad325 = ad336 := (by injection e336)
          replace p336 := eq_true p336
          replace q336 := eq_true q336
          go_wp2
          repeat (go_quiet (fail); try go_wp2)
          go_roundg k1
          case measure => have := HK1.out; omega
          case rel => exact ⟨(x4_1), (wrap64 (x4_1 + 1)), fr, fr, H', ⟨by have := HK1.out; omega⟩, by repeat (first | exact Drawn0.refl _ | apply Drawn0.step)⟩
        ·rw [if_neg c15] at H
         have c15b0 : (x4_1 == (wrap64 ((l0.length : Int) - 1))) = false := beq_eq_false_iff_ne.mpr c15
         have c15b1 : (x4_1 != (wrap64 ((l0.length : Int) - 1))) = true := bne_iff_ne.mpr c15
         obtain ⟨ji17, hji17⟩ : ∃ j_ : Int, (wrap64 (x4_1 + 1)) = j_ := ⟨_, rfl⟩
         replace H : (if 0 ≤ (ji17) then (if (ji17) < (l0.length : Int) then (if ((rd_T38 l0 (ji17)).f0) = ((rd_T38 l0 x4_1).f0) then (if (!(((rd_T38 l0 x4_1).f4.f0) == ((rd_T38 l0 (ji17)).f2.f0)) || (!(((rd_T38 l0 x4_1).f4.f1) == ((rd_T38 l0 (ji17)).f2.f1)))) = true then (some false) else (pochoirref16_Closed.l0 k1 l0 x4_1 ji17)) else (if (!(((rd_T38 l0 x4_1).f4.f0) == ((rd_T38 l0 x4_1).f2.f0)) || (!(((rd_T38 l0 x4_1).f4.f1) == ((rd_T38 l0 x4_1).f2.f1)))) = true then (some false) else (pochoirref16_Closed.l0 k1 l0 x4_1 ji17))) else (none)) else (none)) = some r := by first | (rw [hji17] at H; exact H) | (simp only [hji17] at H ⊢; exact H)
         have hji17w : (IntKind.i64.wrap (x4_1 + 1)) = ji17 := (i64_w _).trans hji17
         by_cases c18 : 0 ≤ (ji17)
         ·rw [if_pos c18] at H
          have c18b0 : decide (0 ≤ (ji17)) = true := decide_eq_true c18
          clear c18
          by_cases c19 : (ji17) < (l0.length : Int)
          ·rw [if_pos c19] at H
           have c19b0 : decide ((ji17) < (l0.length : Int)) = true := decide_eq_true c19
           clear c19
           by_cases c20 : ((rd_T38 l0 (ji17)).f0) = ((rd_T38 l0 x4_1).f0)
           ·rw [if_pos c20] at H
            have c20b0 : (((rd_T38 l0 (ji17)).f0) == ((rd_T38 l0 x4_1).f0)) = true := beq_iff_eq.mpr c20
            have c20b1 : (((rd_T38 l0 (ji17)).f0) != ((rd_T38 l0 x4_1).f0)) = false := bne_eq_false_iff_eq.mpr c20
            clear c20
            by_cases c21 : (!(((rd_T38 l0 x4_1).f4.f0) == ((rd_T38 l0 (ji17)).f2.f0)) || (!(((rd_T38 l0 x4_1).f4.f1) == ((rd_T38 l0 (ji17)).f2.f1)))) = true
            ·rw [if_pos c21] at H
             have c21b0 : (!(((rd_T38 l0 x4_1).f4.f0) == ((rd_T38 l0 (ji17)).f2.f0)) || (!(((rd_T38 l0 x4_1).f4.f1) == ((rd_T38 l0 (ji17)).f2.f1)))) = true := c21
             clear c21
             obtain rfl := Option.some.inj H
             have p325 : 0 ≤ (x4_1 : Int) := of_decide_eq_true (by first | (with_reducible assumption) | assumption)
             have q325 : x4_1 < (l0.length : Int) := of_decide_eq_true (by first | (with_reducible assumption) | assumption)
             obtain ⟨ad325, e325, hx325_0, hx325_1, hx325_2, hx325_3, hx325_4, hx325_5, hx325_6, hx325_7⟩ := at_T38 HR0.out x4_1 p325 q325
             cases e325
             replace p325 := eq_true p325
             replace q325 := eq_true q325
             have p326 : 0 ≤ (x3_1 : Int) := of_decide_eq_true (by first | (with_reducible assumption) | assumption)
             have q326 : x3_1 < (l0.length : Int) := of_decide_eq_true (by first | (with_reducible assumption) | assumption)
             obtain ⟨ad326, e326, hx326_0, hx326_1, hx326_2, hx326_3, hx326_4, hx326_5, hx326_6, hx326_7⟩ := at_T38 HR0.out x3_1 p326 q326
             obtain rfl : ad325 = ad326 := (by injection e326)
             replace p326 := eq_true p326
             replace q326 := eq_true q326
             have p337 : 0 ≤ ((ji17) : Int) := of_decide_eq_true (by first | (with_reducible assumption) | assumption)
             have q337 : (ji17) < (l0.length : Int) := of_decide_eq_true (by first | (with_reducible assumption) | assumption)
             obtain ⟨ad337, e337, hx337_0, hx337_1, hx337_2, hx337_3, hx337_4, hx337_5, hx337_6, hx337_7⟩ := at_T38 HR0.out (ji17) p337 q337
             obtain rfl : ad325 = ad337 := (by injection e337)
             replace p337 := eq_true p337
             replace q337 := eq_true q337
             have p338 : 0 ≤ (x4_1 : Int) := of_decide_eq_true (by first | (with_reducible assumption) | assumption)
             have q338 : x4_1 < (l0.length : Int) := of_decide_eq_true (by first | (with_reducible assumption) | assumption)
             obtain ⟨ad338, e338, hx338_0, hx338_1, hx338_2, hx338_3, hx338_4, hx338_5, hx338_6, hx338_7⟩ := at_T38 HR0.out x4_1 p338 q338
             obtain rfl : ad325 = ad338 := (by injection e338)
             replace p338 := eq_true p338
             replace q338 := eq_true q338
             have p339 : 0 ≤ (x4_1 : Int) := of_decide_eq_true (by first | (with_reducible assumption) | assumption)
             have q339 : x4_1 < (l0.length : Int) := of_decide_eq_true (by first | (with_reducible assumption) | assumption)
             obtain ⟨ad339, e339, hx339_0, hx339_1, hx339_2, hx339_3, hx339_4, hx339_5, hx339_6, hx339_7⟩ := at_T38 HR0.out x4_1 p339 q339
             obtain rfl : ad325 = ad339 := (by injection e339)
             replace p339 := eq_true p339
             replace q339 := eq_true q339
             have p340 : 0 ≤ ((ji17) : Int) := of_decide_eq_true (by first | (with_reducible assumption) | assumption)
             have q340 : (ji17) < (l0.length : Int) := of_decide_eq_true (by first | (with_reducible assumption) | assumption)
             obtain ⟨ad340, e340, hx340_0, hx340_1, hx340_2, hx340_3, hx340_4, hx340_5, hx340_6, hx340_7⟩ := at_T38 HR0.out (ji17) p340 q340
             obtain rfl : ad325 = ad340 := (by injection e340)
             replace p340 := eq_true p340
             replace q340 := eq_true q340
             go_wp2
             repeat (go_quiet (fail); try go_wp2)
             go_ret
             exact ⟨by first | rfl | (simp; done) | (simp only [← hji17] <;> (first | rfl | simp)) | (simp [*]; done), by repeat (first | exact Drawn0.refl _ | apply Drawn0.step)⟩
            ·rw [if_neg c21] at H
             have c21b0 : (!(((rd_T38 l0 x4_1).f4.f0) == ((rd_T38 l0 (ji17)).f2.f0)) || (!(((rd_T38 l0 x4_1).f4.f1) == ((rd_T38 l0 (ji17)).f2.f1)))) = false := by simpa using c21
             clear c21
             have H' := Aside0.mk H
             clear H
             have p325 : 0 ≤ (x4_1 : Int) := of_decide_eq_true (by first | (with_reducible assumption) | assumption)
             have q325 : x4_1 < (l0.length : Int) := of_decide_eq_true (by first | (with_reducible assumption) | assumption)
             obtain ⟨ad325, e325, hx325_0, hx325_1, hx325_2, hx325_3, hx325_4, hx325_5, hx325_6, hx325_7⟩ := at_T38 HR0.out x4_1 p325 q325
             cases e325
             replace p325 := eq_true p325
             replace q325 := eq_true q325
             have p326 : 0 ≤ (x3_1 : Int) := of_decide_eq_true (by first | (with_reducible assumption) | assumption)
             have q326 : x3_1 < (l0.length : Int) := of_decide_eq_true (by first | (with_reducible assumption) | assumption)
             obtain ⟨ad326, e326, hx326_0, hx326_1, hx326_2, hx326_3, hx326_4, hx326_5, hx326_6, hx326_7⟩ := at_T38 HR0.out x3_1 p326 q326
             obtain rfl : ad325 = ad326 := (by injection e326)
             replace p326 := eq_true p326
             replace q326 := eq_true q326
             have p337 : 0 ≤ ((ji17) : Int) := of_decide_eq_true (by first | (with_reducible assumption) | assumption)
             have q337 : (ji17) < (l0.length : Int) := of_decide_eq_true (by first | (with_reducible assumption) | assumption)
             obtain ⟨ad337, e337, hx337_0, hx337_1, hx337_2, hx337_3, hx337_4, hx337_5, hx337_6, hx337_7⟩ := at_T38 HR0.out (ji17) p337 q337
             obtain rfl : ad325 = ad337 := (by injection e337)
             replace p337 := eq_true p337
             replace q337 := eq_true q337
             have p338 : 0 ≤ (x4_1 : Int) := of_decide_eq_true (by first | (with_reducible assumption) | assumption)
             have q338 : x4_1 < (l0.length : Int) := of_decide_eq_true (by first | (with_reducible assumption) | assumption)
             obtain ⟨ad338, e338, hx338_0, hx338_1, hx338_2, hx338_3, hx338_4, hx338_5, hx338_6, hx338_7⟩ := at_T38 HR0.out x4_1 p338 q338
             obtain rfl : ad325 = ad338 := (by injection e338)
             replace p338 := eq_true p338
             replace q338 := eq_true q338
             have p339 : 0 ≤ (x4_1 : Int) := of_decide_eq_true (by first | (with_reducible assumption) | assumption)
             have q339 : x4_1 < (l0.length : Int) := of_decide_eq_true (by first | (with_reducible assumption) | assumption)
             obtain ⟨ad339, e339, hx339_0, hx339_1, hx339_2, hx339_3, hx339_4, hx339_5, hx339_6, hx339_7⟩ := at_T38 HR0.out x4_1 p339 q339
             obtain rfl : ad325 = ad339 := (by injection e339)
             replace p339 := eq_true p339
             replace q339 := eq_true q339
             have p340 : 0 ≤ ((ji17) : Int) := of_decide_eq_true (by first | (with_reducible assumption) | assumption)
             have q340 : (ji17) < (l0.length : Int) := of_decide_eq_true (by first | (with_reducible assumption) | assumption)
             obtain ⟨ad340, e340, hx340_0, hx340_1, hx340_2, hx340_3, hx340_4, hx340_5, hx340_6, hx340_7⟩ := at_T38 HR0.out (ji17) p340 q340
             obtain rfl : ad325 = ad340 := (by injection e340)
             replace p340 := eq_true p340
             replace q340 := eq_true q340
             go_wp2
             repeat (go_quiet (fail); try go_wp2)
             go_roundg k1
             case measure => have := HK1.out; omega
             case rel => exact ⟨(x4_1), (ji17), fr, (by first | rfl | (simp; done) | (simp only [← hji17] <;> (first | rfl | simp)) | (simp [*]; done)), H', ⟨by have := HK1.out; omega⟩, by repeat (first | exact Drawn0.refl _ | apply Drawn0.step)⟩
           ·rw [if_neg c20] at H
            have c20b0 : (((rd_T38 l0 (ji17)).f0) == ((rd_T38 l0 x4_1).f0)) = false := beq_eq_false_iff_ne.mpr c20
            have c20b1 : (((rd_T38 l0 (ji17)).f0) != ((rd_T38 l0 x4_1).f0)) = true := bne_iff_ne.mpr c20
            by_cases c22 : (!(((rd_T38 l0 x4_1).f4.f0) == ((rd_T38 l0 x4_1).f2.f0)) || (!(((rd_T38 l0 x4_1).f4.f1) == ((rd_T38 l0 x4_1).f2.f1)))) = true
            ·rw [if_pos c22] at H
             have c22b0 : (!(((rd_T38 l0 x4_1).f4.f0) == ((rd_T38 l0 x4_1).f2.f0)) || (!(((rd_T38 l0 x4_1).f4.f1) == ((rd_T38 l0 x4_1).f2.f1)))) = true := c22
             clear c22
             obtain rfl := Option.some.inj H
             have p325 : 0 ≤ (x4_1 : Int) := of_decide_eq_true (by first | (with_reducible assumption) | assumption)
             have q325 : x4_1 < (l0.length : Int) := of_decide_eq_true (by first | (with_reducible assumption) | assumption)
             obtain ⟨ad325, e325, hx325_0, hx325_1, hx325_2, hx325_3, hx325_4, hx325_5, hx325_6, hx325_7⟩ := at_T38 HR0.out x4_1 p325 q325
             cases e325
             replace p325 := eq_true p325
             replace q325 := eq_true q325
             have p326 : 0 ≤ (x3_1 : Int) := of_decide_eq_true (by first | (with_reducible assumption) | assumption)
             have q326 : x3_1 < (l0.length : Int) := of_decide_eq_true (by first | (with_reducible assumption) | assumption)
             obtain ⟨ad326, e326, hx326_0, hx326_1, hx326_2, hx326_3, hx326_4, hx326_5, hx326_6, hx326_7⟩ := at_T38 HR0.out x3_1 p326 q326
             obtain rfl : ad325 = ad326 := (by injection e326)
             replace p326 := eq_true p326
             replace q326 := eq_true q326
             have p337 : 0 ≤ ((ji17) : Int) := of_decide_eq_true (by first | (with_reducible assumption) | assumption)
             have q337 : (ji17) < (l0.length : Int) := of_decide_eq_true (by first | (with_reducible assumption) | assumption)
             obtain ⟨ad337, e337, hx337_0, hx337_1, hx337_2, hx337_3, hx337_4, hx337_5, hx337_6, hx337_7⟩ := at_T38 HR0.out (ji17) p337 q337
             obtain rfl : ad325 = ad337 := (by injection e337)
             replace p337 := eq_true p337
             replace q337 := eq_true q337
             have p338 : 0 ≤ (x4_1 : Int) := of_decide_eq_true (by first | (with_reducible assumption) | assumption)
             have q338 : x4_1 < (l0.length : Int) := of_decide_eq_true (by first | (with_reducible assumption) | assumption)
             obtain ⟨ad338, e338, hx338_0, hx338_1, hx338_2, hx338_3, hx338_4, hx338_5, hx338_6, hx338_7⟩ := at_T38 HR0.out x4_1 p338 q338
             obtain rfl : ad325 = ad338 := (by injection e338)
             replace p338 := eq_true p338
             replace q338 := eq_true q338
             have p341 : 0 ≤ (x4_1 : Int) := of_decide_eq_true (by first | (with_reducible assumption) | assumption)
             have q341 : x4_1 < (l0.length : Int) := of_decide_eq_true (by first | (with_reducible assumption) | assumption)
             obtain ⟨ad341, e341, hx341_0, hx341_1, hx341_2, hx341_3, hx341_4, hx341_5, hx341_6, hx341_7⟩ := at_T38 HR0.out x4_1 p341 q341
             obtain rfl : ad325 = ad341 := (by injection e341)
             replace p341 := eq_true p341
             replace q341 := eq_true q341
             have p342 : 0 ≤ (x4_1 : Int) := of_decide_eq_true (by first | (with_reducible assumption) | assumption)
             have q342 : x4_1 < (l0.length : Int) := of_decide_eq_true (by first | (with_reducible assumption) | assumption)
             obtain ⟨ad342, e342, hx342_0, hx342_1, hx342_2, hx342_3, hx342_4, hx342_5, hx342_6, hx342_7⟩ := at_T38 HR0.out x4_1 p342 q342
             obtain rfl : ad325 = ad342 := (by injection e342)
             replace p342 := eq_true p342
             replace q342 := eq_true q342
             go_wp2
             repeat (go_quiet (fail); try go_wp2)
             go_ret
             exact ⟨by first | rfl | (simp; done) | (simp only [← hji17] <;> (first | rfl | simp)) | (simp [*]; done), by repeat (first | exact Drawn0.refl _ | apply Drawn0.step)⟩
            ·rw [if_neg c22] at H
             have c22b0 : (!(((rd_T38 l0 x4_1).f4.f0) == ((rd_T38 l0 x4_1).f2.f0)) || (!(((rd_T38 l0 x4_1).f4.f1) == ((rd_T38 l0 x4_1).f2.f1)))) = false := by simpa using c22
             clear c22
             have H' := Aside0.mk H
             clear H
             have p325 : 0 ≤ (x4_1 : Int) := of_decide_eq_true (by first | (with_reducible assumption) | assumption)
             have q325 : x4_1 < (l0.length : Int) := of_decide_eq_true (by first | (with_reducible assumption) | assumption)
             obtain ⟨ad325, e325, hx325_0, hx325_1, hx325_2, hx325_3, hx325_4, hx325_5, hx325_6, hx325_7⟩ := at_T38 HR0.out x4_1 p325 q325
             cases e325
             replace p325 := eq_true p325
             replace q325 := eq_true q325
             have p326 : 0 ≤ (x3_1 : Int) := of_decide_eq_true (by first | (with_reducible assumption) | assumption)
             have q326 : x3_1 < (l0.length : Int) := of_decide_eq_true (by first | (with_reducible assumption) | assumption)
             obtain ⟨ad326, e326, hx326_0, hx326_1, hx326_2, hx326_3, hx326_4, hx326_5, hx326_6, hx326_7⟩ := at_T38 HR0.out x3_1 p326 q326
             obtain rfl : ad325 = ad326 := (by injection e326)
             replace p326 := eq_true p326
             replace q326 := eq_true q326
             have p337 : 0 ≤ ((ji17) : Int) := of_decide_eq_true (by first | (with_reducible assumption) | assumption)
             have q337 : (ji17) < (l0.length : Int) := of_decide_eq_true (by first | (with_reducible assumption) | assumption)
             obtain ⟨ad337, e337, hx337_0, hx337_1, hx337_2, hx337_3, hx337_4, hx337_5, hx337_6, hx337_7⟩ := at_T38 HR0.out (ji17) p337 q337
             obtain rfl : ad325 = ad337 := (by injection e337)
             replace p337 := eq_true p337
             replace q337 := eq_true q337
             have p338 : 0 ≤ (x4_1 : Int) := of_decide_eq_true (by first | (with_reducible assumption) | assumption)
             have q338 : x4_1 < (l0.length : Int) := of_decide_eq_true (by first | (with_reducible assumption) | assumption)
             obtain ⟨ad338, e338, hx338_0, hx338_1, hx338_2, hx338_3, hx338_4, hx338_5, hx338_6, hx338_7⟩ := at_T38 HR0.out x4_1 p338 q338
             obtain rfl : ad325 = ad338 := (by injection e338)
             replace p338 := eq_true p338
             replace q338 := eq_true q338
             have p341 : 0 ≤ (x4_1 : Int) := of_decide_eq_true (by first | (with_reducible assumption) | assumption)
             have q341 : x4_1 < (l0.length : Int) := of_decide_eq_true (by first | (with_reducible assumption) | assumption)
             obtain ⟨ad341, e341, hx341_0, hx341_1, hx341_2, hx341_3, hx341_4, hx341_5, hx341_6, hx341_7⟩ := at_T38 HR0.out x4_1 p341 q341
             obtain rfl : ad325 = ad341 := (by injection e341)
             replace p341 := eq_true p341
             replace q341 := eq_true q341
             have p342 : 0 ≤ (x4_1 : Int) := of_decide_eq_true (by first | (with_reducible assumption) | assumption)
             have q342 : x4_1 < (l0.length : Int) := of_decide_eq_true (by first | (with_reducible assumption) | assumption)
             obtain ⟨ad342, e342, hx342_0, hx342_1, hx342_2, hx342_3, hx342_4, hx342_5, hx342_6, hx342_7⟩ := at_T38 HR0.out x4_1 p342 q342
             obtain rfl : ad325 = ad342 := (by injection e342)
             replace p342 := eq_true p342
             replace q342 := eq_true q342
             go_wp2
             repeat (go_quiet (fail); try go_wp2)
             go_roundg k1
             case measure => have := HK1.out; omega
             case rel => exact ⟨(x4_1), (ji17), fr, (by first | rfl | (simp; done) | (simp only [← hji17] <;> (first | rfl | simp)) | (simp [*]; done)), H', ⟨by have := HK1.out; omega⟩, by repeat (first | exact Drawn0.refl _ | apply Drawn0.step)⟩
          ·rw [if_neg c19] at H
           exact absurd H (by simp)
         ·rw [if_neg c18] at H
          exact absurd H (by simp)
      ·rw [if_neg c5] at H
       exact absurd H (by simp)
     ·rw [if_neg c4] at H
      exact absurd H (by simp)
    ·rw [if_neg c3] at H
     exact absurd H (by simp)
   ·rw [if_neg c2] at H
    have c2b0 : decide (x4_1 < (l0.length : Int)) = false := decide_eq_false c2
    clear c2
    obtain rfl := Option.some.inj H
    go_wp2
    repeat (go_quiet (fail); try go_wp2)
    go_ret
    exact ⟨by first | rfl | (simp; done) | (simp [*]; done), by repeat (first | exact Drawn0.refl _ | apply Drawn0.step)⟩

/-! ### pochoirref16_May: function 40 -/
def pochoirref16_May.l0 : Nat → List (S38) → Int → Option (Bool)
 | 0, _, _ => none
 | k + 1, x0, x3 => if x3 < (x0.length : Int) then (if 0 ≤ x3 then ((pochoirref16_One.f ((rd_T38 x0 x3).f0) ((rd_T38 x0 x3).f1) ((rd_T38 x0 x3).f2.f0) ((rd_T38 x0 x3).f2.f1) ((rd_T38 x0 x3).f3.f0) ((rd_T38 x0 x3).f3.f1) ((rd_T38 x0 x3).f4.f0) ((rd_T38 x0 x3).f4.f1)).bind fun t344 => (if t344 = true then (pochoirref16_May.l0 k x0 (wrap64 (x3 + 1))) else (some false))) else (none)) else ((pochoirref16_Closed.f k x0).bind fun t345 => (some t345))
def pochoirref16_May.f (k : Nat) (l0 : List (S38)) : Option (Bool) := if (l0.length : Int) > 8192 then (some false) else (pochoirref16_May.l0 k l0 0)
theorem pochoirref16_May.mono_l : ∀ k, (∀ y0 y1, LeO (pochoirref16_May.l0 k y0 y1) (pochoirref16_May.l0 (k + 1) y0 y1))
 | 0 => fun _ _ r h => by simp [pochoirref16_May.l0] at h
 | k + 1 => by
  have ih0 := pochoirref16_May.mono_l k
  ·intro y0 y1
   unfold pochoirref16_May.l0
   repeat' first
   | (with_reducible exact ih0 _ _)
   | (with_reducible exact pochoirref16_Closed.mono _ _)
   | (with_reducible exact LeO.refl _)
   | (with_reducible exact LeO.none _)
   | (with_reducible refine LeO.ite ?_ ?_)
   | (with_reducible refine LeO.bind ?_ (fun _ => ?_))
   | exact ih0 _ _
   | exact pochoirref16_Closed.mono _ _
   | exact LeO.none _
   | refine LeO.ite ?_ ?_
   | refine LeO.bind ?_ (fun _ => ?_)
theorem pochoirref16_May.mono : ∀ a0 k, LeO (pochoirref16_May.f k a0) (pochoirref16_May.f (k + 1) a0) := by
 intro a0 k
 have ih0 := pochoirref16_May.mono_l k
 unfold pochoirref16_May.f
 repeat' first
   | (with_reducible exact ih0 _ _)
   | (with_reducible exact pochoirref16_Closed.mono _ _)
   | (with_reducible exact LeO.refl _)
   | (with_reducible exact LeO.none _)
   | (with_reducible refine LeO.ite ?_ ?_)
   | (with_reducible refine LeO.bind ?_ (fun _ => ?_))
   | exact ih0 _ _
   | exact pochoirref16_Closed.mono _ _
   | exact LeO.none _
   | refine LeO.ite ?_ ?_
   | refine LeO.bind ?_ (fun _ => ?_)
set_option maxHeartbeats 8000000 in
set_option maxRecDepth 100000 in
theorem pochoirref16_May.calls (k : Nat) (A0 : Option Addr) (c0 : Nat) (l0 : List (S38)) (r : Bool) (w : World) (hr0 : Kd.C k38 w A0 l0.length l0) (hc0 : l0.length ≤ c0) (h : pochoirref16_May.f k l0 = some r) :
  Calls Try.prog 40 #[.slice A0 l0.length c0] w fun e w' => e = .returned (.bool r) ∧ Below w.heap.size w w' := by
 have hu38 := Try.underlying38
 have HR0 := Aside0.mk hr0
 have HC0 := Aside0.mk hc0
 clear hr0 hc0
 have HB := Aside0.mk (Below.refl w.heap.size w)
 have H : (if (l0.length : Int) > 8192 then (some false) else (pochoirref16_May.l0 k l0 0)) = some r := h
 clear h
 by_cases c2 : (l0.length : Int) > 8192
 ·rw [if_pos c2] at H
  have c2b0 : decide (8192 < (l0.length : Int)) = true := decide_eq_true c2
  have c2b1 : decide (8192 < l0.length) = true := decide_eq_true (by omega)
  clear c2
  obtain rfl := Option.some.inj H
  go_enter Try.func40, Try.ntmps40
  go_wp2
  go_ret
  exact ⟨by first | rfl | (simp [errW_none, errW_some] <;> rfl) | (simp [*, errW_none, errW_some] <;> rfl), bl0 HB.out⟩
 ·rw [if_neg c2] at H
  have c2b0 : decide (8192 < (l0.length : Int)) = false := decide_eq_false c2
  have c2b1 : decide (8192 < l0.length) = false := decide_eq_false (by omega)
  clear c2
  have H' := Aside0.mk H
  clear H
  go_enter Try.func40, Try.ntmps40
  go_wp2
  go_loopg [3] k (fun kq v3 w' => ∃ (x3_1 : Int), v3 = .int .i64 x3_1 ∧ Aside0 (pochoirref16_May.l0 kq l0 x3_1 = some r) ∧ Aside0 (kq ≤ k) ∧ Aside0 (Below w.heap.size w w'))
  case atStart => exact ⟨(0), fr, H', ⟨Nat.le_refl _⟩, ⟨bl0 HB.out⟩⟩
  case round =>
   clear H'
   try clear c2
   try clear c2b0
   try clear c2b1
   try clear p2
   obtain ⟨x3_1, rfl, HA, HK1, HB⟩ := hrel
   cases gk with
   | zero => exact absurd HA.out (by simp [pochoirref16_May.l0])
   | succ k1 =>
    have H := HA.out
    clear HA
    simp only [pochoirref16_May.l0] at H
    by_cases c3 : x3_1 < (l0.length : Int)
    ·rw [if_pos c3] at H
     have c3b0 : decide (x3_1 < (l0.length : Int)) = true := decide_eq_true c3
     clear c3
     by_cases c4 : 0 ≤ x3_1
     ·rw [if_pos c4] at H
      have c4b0 : decide (0 ≤ x3_1) = true := decide_eq_true c4
      clear c4
      replace H := Option.bind_eq_some_iff.mp H
      obtain ⟨t344, A50, H⟩ := H
      replace H : (if t344 = true then (pochoirref16_May.l0 k1 l0 (wrap64 (x3_1 + 1))) else (some false)) = some r := H
      have A5 := Aside0.mk A50
      clear A50
      by_cases c6 : t344 = true
      ·subst c6
       have H1 : (pochoirref16_May.l0 k1 l0 (wrap64 (x3_1 + 1))) = some r := by rw [if_pos rfl] at H; exact H
       clear H
       have H := H1
       clear H1
       have H' := Aside0.mk H
       clear H
       have p343 : 0 ≤ (x3_1 : Int) := of_decide_eq_true (by first | (with_reducible assumption) | assumption)
       have q343 : x3_1 < (l0.length : Int) := of_decide_eq_true (by first | (with_reducible assumption) | assumption)
       obtain ⟨ad343, e343, hx343_0, hx343_1, hx343_2, hx343_3, hx343_4, hx343_5, hx343_6, hx343_7⟩ := at_T38 HR0.out x3_1 p343 q343
       cases e343
       replace hx343_0 := (HB.out.cell (World.block_lt_of_cell? w _ hx343_0)).trans hx343_0
       replace hx343_1 := (HB.out.cell (World.block_lt_of_cell? w _ hx343_1)).trans hx343_1
       replace hx343_2 := (HB.out.cell (World.block_lt_of_cell? w _ hx343_2)).trans hx343_2
       replace hx343_3 := (HB.out.cell (World.block_lt_of_cell? w _ hx343_3)).trans hx343_3
       replace hx343_4 := (HB.out.cell (World.block_lt_of_cell? w _ hx343_4)).trans hx343_4
       replace hx343_5 := (HB.out.cell (World.block_lt_of_cell? w _ hx343_5)).trans hx343_5
       replace hx343_6 := (HB.out.cell (World.block_lt_of_cell? w _ hx343_6)).trans hx343_6
       replace hx343_7 := (HB.out.cell (World.block_lt_of_cell? w _ hx343_7)).trans hx343_7
       replace p343 := eq_true p343
       replace q343 := eq_true q343
       go_wp2_with (first | ((with_reducible refine gate_callee (f := 17) rfl ?_); refine goesL_ (some 17) rfl rfl Try.func17 (by kernel_rfl) rfl #[.agg #[.int .i64 ((rd_T38 l0 x3_1).f0), .bool ((rd_T38 l0 x3_1).f1), .int .i64 ((rd_T38 l0 x3_1).f2.f0), .int .i64 ((rd_T38 l0 x3_1).f2.f1), .int .i64 ((rd_T38 l0 x3_1).f3.f0), .int .i64 ((rd_T38 l0 x3_1).f3.f1), .int .i64 ((rd_T38 l0 x3_1).f4.f0), .int .i64 ((rd_T38 l0 x3_1).f4.f1)]] rfl am ?_; (with_reducible refine (pochoirref16_One.calls ((rd_T38 l0 x3_1).f0) ((rd_T38 l0 x3_1).f1) ((rd_T38 l0 x3_1).f2.f0) ((rd_T38 l0 x3_1).f2.f1) ((rd_T38 l0 x3_1).f3.f0) ((rd_T38 l0 x3_1).f3.f1) ((rd_T38 l0 x3_1).f4.f0) ((rd_T38 l0 x3_1).f4.f1) true _ A5.out).mono ?_); rintro e w7 ⟨rfl, hb⟩; refine ⟨_, rfl, ?_⟩; replace HB := Aside0.mk (below_step (bl0 HB.out) hb); (try clear hb); (try clear hb2); (try clear hk); (try clear hi)))
       go_roundg k1
       case measure => have := HK1.out; omega
       case rel => exact ⟨(wrap64 (x3_1 + 1)), fr, H', ⟨by have := HK1.out; omega⟩, ⟨bl0 HB.out⟩⟩
      ·replace c6 := Bool.eq_false_iff.mpr c6
       subst c6
       have H1 : (some false) = some r := by rw [if_neg (show ¬ (false = true) by decide)] at H; exact H
       clear H
       have H := H1
       clear H1
       obtain rfl := Option.some.inj H
       have p343 : 0 ≤ (x3_1 : Int) := of_decide_eq_true (by first | (with_reducible assumption) | assumption)
       have q343 : x3_1 < (l0.length : Int) := of_decide_eq_true (by first | (with_reducible assumption) | assumption)
       obtain ⟨ad343, e343, hx343_0, hx343_1, hx343_2, hx343_3, hx343_4, hx343_5, hx343_6, hx343_7⟩ := at_T38 HR0.out x3_1 p343 q343
       cases e343
       replace hx343_0 := (HB.out.cell (World.block_lt_of_cell? w _ hx343_0)).trans hx343_0
       replace hx343_1 := (HB.out.cell (World.block_lt_of_cell? w _ hx343_1)).trans hx343_1
       replace hx343_2 := (HB.out.cell (World.block_lt_of_cell? w _ hx343_2)).trans hx343_2
       replace hx343_3 := (HB.out.cell (World.block_lt_of_cell? w _ hx343_3)).trans hx343_3
       replace hx343_4 := (HB.out.cell (World.block_lt_of_cell? w _ hx343_4)).trans hx343_4
       replace hx343_5 := (HB.out.cell (World.block_lt_of_cell? w _ hx343_5)).trans hx343_5
       replace hx343_6 := (HB.out.cell (World.block_lt_of_cell? w _ hx343_6)).trans hx343_6
       replace hx343_7 := (HB.out.cell (World.block_lt_of_cell? w _ hx343_7)).trans hx343_7
       replace p343 := eq_true p343
       replace q343 := eq_true q343
       go_wp2_with (first | ((with_reducible refine gate_callee (f := 17) rfl ?_); refine goesL_ (some 17) rfl rfl Try.func17 (by kernel_rfl) rfl #[.agg #[.int .i64 ((rd_T38 l0 x3_1).f0), .bool ((rd_T38 l0 x3_1).f1), .int .i64 ((rd_T38 l0 x3_1).f2.f0), .int .i64 ((rd_T38 l0 x3_1).f2.f1), .int .i64 ((rd_T38 l0 x3_1).f3.f0), .int .i64 ((rd_T38 l0 x3_1).f3.f1), .int .i64 ((rd_T38 l0 x3_1).f4.f0), .int .i64 ((rd_T38 l0 x3_1).f4.f1)]] rfl am ?_; (with_reducible refine (pochoirref16_One.calls ((rd_T38 l0 x3_1).f0) ((rd_T38 l0 x3_1).f1) ((rd_T38 l0 x3_1).f2.f0) ((rd_T38 l0 x3_1).f2.f1) ((rd_T38 l0 x3_1).f3.f0) ((rd_T38 l0 x3_1).f3.f1) ((rd_T38 l0 x3_1).f4.f0) ((rd_T38 l0 x3_1).f4.f1) false _ A5.out).mono ?_); rintro e w8 ⟨rfl, hb⟩; refine ⟨_, rfl, ?_⟩; replace HB := Aside0.mk (below_step (bl0 HB.out) hb); (try clear hb); (try clear hb2); (try clear hk); (try clear hi)))
       go_ret
       exact ⟨by first | rfl | (simp [errW_none, errW_some] <;> rfl) | (simp [*, errW_none, errW_some] <;> rfl), bl0 HB.out⟩
     ·rw [if_neg c4] at H
      exact absurd H (by simp)
    ·rw [if_neg c3] at H
     have c3b0 : decide (x3_1 < (l0.length : Int)) = false := decide_eq_false c3
     clear c3
     replace H := Option.bind_eq_some_iff.mp H
     obtain ⟨t345, A90, H⟩ := H
     replace H : (some t345) = some r := H
     have A9 := Aside0.mk A90
     clear A90
     obtain rfl := Option.some.inj H
     go_wp2_with (first | ((with_reducible refine gate_callee (f := 82) rfl ?_); refine goesL_ (some 20) rfl rfl Try.func82 (by kernel_rfl) rfl #[.slice A0 l0.length c0] rfl am ?_; (with_reducible refine (pochoirref16_Closed.calls k1 _ _ l0 t345 _ ?side1 ?side2 A9.out).mono ?_); (case side1 => repeat (first | exact (Kd.C_below HR0.out HB.out) | (with_reducible refine Kd.C_alloc ?_ _) | (with_reducible refine Kd.C_drewN ?_ _) | (with_reducible refine Kd.C_drew ?_))); (case side2 => exact HC0.out); rintro e w' ⟨rfl, ⟨nd, rfl⟩⟩; refine ⟨_, rfl, ?_⟩))
     go_ret
     exact ⟨by first | rfl | (simp [errW_none, errW_some] <;> rfl) | (simp [*, errW_none, errW_some] <;> rfl), bl0 HB.out⟩

end Go.Proofs.Ytalgppclaolonaa.XCora
