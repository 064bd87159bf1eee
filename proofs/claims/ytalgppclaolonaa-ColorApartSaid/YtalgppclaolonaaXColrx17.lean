-- Printed by a program of this claim. Not trusted: Lean checks it.
import Derived.Test.YtalgppclaolonaaXColrx0
import Derived.Test.YtalgppclaolonaaXColrx15
import Derived.Test.YtalgppclaolonaaXColrx16
namespace Go.Proofs.Ytalgppclaolonaa.XColr
open Go.RowKit Go.Proofs.YtalgppclaolonaaW.PrintWords Go.Proofs.YtalgppclaolonaaW.PrintLast Go.Proofs.YtalgppclaolonaaW.PrintMore
attribute [local go_sem] max2_int min2_int max_two min_two max_three min_three max_four min_four   -- for this text's walks alone
set_option linter.unusedVariables false
set_option linter.unusedSimpArgs false
open XOpen

/-! ### pochoirref22_Ahead: function 51 -/
mutual
def pochoirref22_Ahead.j0 : Nat → List (S38) → Int → Bool → Option (Int)
 | 0, _, _, _ => none
 | k + 1, x0, x1, x21 => if x21 = true then (some (wrap64 (x1 - 1))) else (pochoirref22_Ahead.l0 k x0 x1 x1)
def pochoirref22_Ahead.l0 : Nat → List (S38) → Int → Int → Option (Int)
 | 0, _, _, _ => none
 | k + 1, x0, x1, x5 => if (wrap64 (x5 + 1)) < (x0.length : Int) then (if 0 ≤ (wrap64 (x5 + 1)) then (if 0 ≤ x1 then (if x1 < (x0.length : Int) then (if ((rd_T38 x0 (wrap64 (x5 + 1))).f0) = ((rd_T38 x0 x1).f0) then (pochoirref22_Ahead.l0 k x0 x1 (wrap64 (x5 + 1))) else (some x5)) else (none)) else (none)) else (none)) else (some x5)
end
def pochoirref22_Ahead.f (k : Nat) (l0 : List (S38)) (a1 : Int) : Option (Int) := if a1 > 0 then (if 0 ≤ (wrap64 (a1 - 1)) then (if (wrap64 (a1 - 1)) < (l0.length : Int) then (if 0 ≤ a1 then (if a1 < (l0.length : Int) then (pochoirref22_Ahead.j0 k l0 a1 (((rd_T38 l0 (wrap64 (a1 - 1))).f0) == ((rd_T38 l0 a1).f0))) else (none)) else (none)) else (none)) else (none)) else (pochoirref22_Ahead.j0 k l0 a1 false)
theorem pochoirref22_Ahead.mono_l : ∀ k, (∀ y0 y1 y2, LeO (pochoirref22_Ahead.j0 k y0 y1 y2) (pochoirref22_Ahead.j0 (k + 1) y0 y1 y2)) ∧ (∀ y0 y1 y2, LeO (pochoirref22_Ahead.l0 k y0 y1 y2) (pochoirref22_Ahead.l0 (k + 1) y0 y1 y2))
 | 0 => ⟨fun _ _ _ r h => by simp [pochoirref22_Ahead.j0] at h, fun _ _ _ r h => by simp [pochoirref22_Ahead.l0] at h⟩
 | k + 1 => by
  obtain ⟨ih0, ih1⟩ := pochoirref22_Ahead.mono_l k
  refine ⟨?_, ?_⟩
  ·intro y0 y1 y2
   unfold pochoirref22_Ahead.j0
   repeat' first | (with_reducible first | exact ih0 _ _ _ | exact ih1 _ _ _ | exact LeO.refl _ | exact LeO.none _ | refine LeO.ite ?_ ?_ | refine LeO.bind ?_ (fun _ => ?_)) | exact ih0 _ _ _ | exact ih1 _ _ _ | exact LeO.none _ | refine LeO.ite ?_ ?_ | refine LeO.bind ?_ (fun _ => ?_)
  ·intro y0 y1 y2
   unfold pochoirref22_Ahead.l0
   repeat' first | (with_reducible first | exact ih0 _ _ _ | exact ih1 _ _ _ | exact LeO.refl _ | exact LeO.none _ | refine LeO.ite ?_ ?_ | refine LeO.bind ?_ (fun _ => ?_)) | exact ih0 _ _ _ | exact ih1 _ _ _ | exact LeO.none _ | refine LeO.ite ?_ ?_ | refine LeO.bind ?_ (fun _ => ?_)
theorem pochoirref22_Ahead.mono : ∀ a0 a1 k, LeO (pochoirref22_Ahead.f k a0 a1) (pochoirref22_Ahead.f (k + 1) a0 a1) := by
 intro a0 a1 k
 obtain ⟨ih0, ih1⟩ := pochoirref22_Ahead.mono_l k
 unfold pochoirref22_Ahead.f
 repeat' first | (with_reducible first | exact ih0 _ _ _ | exact ih1 _ _ _ | exact LeO.refl _ | exact LeO.none _ | refine LeO.ite ?_ ?_ | refine LeO.bind ?_ (fun _ => ?_)) | exact ih0 _ _ _ | exact ih1 _ _ _ | exact LeO.none _ | refine LeO.ite ?_ ?_ | refine LeO.bind ?_ (fun _ => ?_)
set_option maxHeartbeats 8000000 in
set_option maxRecDepth 100000 in
theorem pochoirref22_Ahead.calls (k : Nat) (A0 : Option Addr) (c0 : Nat) (l0 : List (S38)) (a1 : Int) (r : Int) (w : World) (hr0 : Kd.C k38 w A0 l0.length l0) (hc0 : l0.length ≤ c0) (h : pochoirref22_Ahead.f k l0 a1 = some r) :
  Calls Try.prog 51 #[.slice A0 l0.length c0, .int .i64 a1] w fun e w' => e = .returned (.int .i64 r) ∧ Drawn0 w w' := by
 have HR0 := Aside0.mk hr0
 have HC0 := Aside0.mk hc0
 clear hr0 hc0
 have H := h
 clear h; unfold pochoirref22_Ahead.f at H
 have HC3 := Aside0.mk H
 clear H
 go_enter Try.func51, Try.ntmps51
 go_upto_region 1 with (fail)
 repeat (go_quiet (fail); go_upto_region 1 with (fail))
 go_cut [21] (fun v21 wc => ∃ (kq : Nat) (x21_2 : Bool), v21 = .bool x21_2 ∧ Aside0 (pochoirref22_Ahead.j0 kq l0 a1 x21_2 = some r) ∧ Aside0 (kq ≤ k) ∧ Drawn0 w wc)
 case first =>
  have H := HC3.out
  clear HC3
  by_cases c4 : a1 > 0
  ·rw [if_pos c4] at H
   have c4b0 : decide (0 < a1) = true := decide_eq_true c4
   clear c4
   (first | rw [c4b0] | (simp only [i64_w, i32_w]; rw [c4b0]) | skip)
   obtain ⟨ji5, hji5⟩ : ∃ j_ : Int, (wrap64 (a1 - 1)) = j_ := ⟨_, rfl⟩
   replace H : (if 0 ≤ (ji5) then (if (ji5) < (l0.length : Int) then (if 0 ≤ a1 then (if a1 < (l0.length : Int) then (pochoirref22_Ahead.j0 k l0 a1 (((rd_T38 l0 (ji5)).f0) == ((rd_T38 l0 a1).f0))) else (none)) else (none)) else (none)) else (none)) = some r := by first | (rw [hji5] at H; exact H) | (simp only [hji5] at H ⊢; exact H)
   have hji5w : (IntKind.i64.wrap (a1 - 1)) = ji5 := (i64_w _).trans hji5
   refine ifk H ?_; clear H; intro c6 H
   have c6b0 := decide_eq_true c6
   clear c6
   refine ifk H ?_; clear H; intro c7 H
   have c7b0 := decide_eq_true c7
   clear c7
   refine ifk H ?_; clear H; intro c8 H
   have c8b0 := decide_eq_true c8
   clear c8
   refine ifk H ?_; clear H; intro c9 H
   have c9b0 := decide_eq_true c9
   clear c9
   have H' := Aside0.mk H
   clear H
   have p429 : 0 ≤ ((ji5) : Int) := od
   have q429 : (ji5) < (l0.length : Int) := od
   obtain ⟨ad429, e429, hx429_0, hx429_1, hx429_2, hx429_3, hx429_4, hx429_5, hx429_6, hx429_7⟩ := at_T38 HR0.out (ji5) p429 q429
   cases e429
   replace p429 := eq_true p429
   replace q429 := eq_true q429
   have p430 : 0 ≤ (a1 : Int) := od
   have q430 : a1 < (l0.length : Int) := od
   obtain ⟨ad430, e430, hx430_0, hx430_1, hx430_2, hx430_3, hx430_4, hx430_5, hx430_6, hx430_7⟩ := at_T38 HR0.out a1 p430 q430
   obtain rfl : ad429 = ad430 := (by injection e430)
   replace p430 := eq_true p430
   replace q430 := eq_true q430
   go_wp2
   repeat (go_quiet (fail); try go_wp2)
   go_meet
   case rel => exact ⟨_, ((((rd_T38 l0 (ji5)).f0) == ((rd_T38 l0 a1).f0))), (by first | rfl | (simp; done) | (simp only [← hji5] <;> (first | rfl | simp)) | (simp [*]; done)), H', ⟨by first | omega | exact Nat.le_refl _⟩, by repeat (first | exact Drawn0.refl _ | apply Drawn0.step)⟩
  rw [if_neg c4] at H
  have c4b0 : decide (0 < a1) = false := decide_eq_false c4
  clear c4
  (first | rw [c4b0] | (simp only [i64_w, i32_w]; rw [c4b0]) | skip)
  have H' := Aside0.mk H
  clear H
  go_wp2
  repeat (go_quiet (fail); try go_wp2)
  go_meet
  case rel => exact ⟨_, (false), fr, H', ⟨by first | omega | exact Nat.le_refl _⟩, by repeat (first | exact Drawn0.refl _ | apply Drawn0.step)⟩
 case rest =>
  clear HC3
  try clear p2
  try clear c4b0
  try clear p4
  try clear q4
  try clear hx4
  try clear c5
  try clear c6b0
  try clear p6
  try clear c7b0
  try clear c8b0
  try clear c9b0
  try clear hx429_0
  try clear hx429_1
  try clear hx429_2
  try clear hx429_3
  try clear hx429_4
  try clear hx429_5
  try clear hx429_6
  try clear hx429_7
  try clear hx430_0
  try clear hx430_1
  try clear hx430_2
  try clear hx430_3
  try clear hx430_4
  try clear hx430_5
  try clear hx430_6
  try clear hx430_7
  try clear p429
  try clear p430
  try clear q429
  try clear q430
  obtain ⟨kq, x21_2, rfl, HA, HJ2, ⟨mc2, rfl⟩⟩ := hcut
  cases kq with
  | zero => exact absurd HA.out (by simp [pochoirref22_Ahead.j0])
  | succ kj2 =>
   have H := HA.out
   clear HA
   simp only [pochoirref22_Ahead.j0] at H
   by_cases c10 : x21_2 = true
   ·subst c10
    rw [if_pos rfl] at H
    obtain rfl := Option.some.inj H
    go_wp2
    repeat (go_quiet (fail); try go_wp2)
    go_ret
    exact ⟨fr, dr⟩
   replace c10 := Bool.eq_false_iff.mpr c10
   subst c10
   rw [if_neg (show ¬ (false = true) by decide)] at H
   have H' := Aside0.mk H
   clear H
   go_wp2
   repeat (go_quiet (fail); try go_wp2)
   go_loopg [5] kj2 (fun kq v5 w' => ∃ (x5_2 : Int), v5 = .int .i64 x5_2 ∧ Aside0 (pochoirref22_Ahead.l0 kq l0 a1 x5_2 = some r) ∧ Aside0 (kq ≤ kj2) ∧ Drawn0 w w')
   case atStart => exact ⟨(a1), fr, H', ⟨Nat.le_refl _⟩, by repeat (first | exact Drawn0.refl _ | apply Drawn0.step)⟩
   case round =>
    clear H'
    try clear c1
    try clear c2
    try clear p2
    try clear c4b0
    try clear p4
    try clear q4
    try clear hx4
    try clear c5
    try clear c6b0
    try clear p6
    try clear c7b0
    try clear c8b0
    try clear c9b0
    try clear c10
    try clear hx429_0
    try clear hx429_1
    try clear hx429_2
    try clear hx429_3
    try clear hx429_4
    try clear hx429_5
    try clear hx429_6
    try clear hx429_7
    try clear hx430_0
    try clear hx430_1
    try clear hx430_2
    try clear hx430_3
    try clear hx430_4
    try clear hx430_5
    try clear hx430_6
    try clear hx430_7
    try clear p2
    try clear p4
    try clear p429
    try clear p430
    try clear p6
    try clear q4
    try clear q429
    try clear q430
    obtain ⟨x5_2, rfl, HA, HK2, ⟨m2, rfl⟩⟩ := hrel
    cases gk with
    | zero => exact absurd HA.out (by simp [pochoirref22_Ahead.l0])
    | succ k2 =>
     have H := HA.out
     clear HA
     simp only [pochoirref22_Ahead.l0] at H
     by_cases c11 : (wrap64 (x5_2 + 1)) < (l0.length : Int)
     ·rw [if_pos c11] at H
      have c11b0 := decide_eq_true c11
      clear c11
      obtain ⟨ji12, hji12⟩ : ∃ j_ : Int, (wrap64 (x5_2 + 1)) = j_ := ⟨_, rfl⟩
      replace H : (if 0 ≤ (ji12) then (if 0 ≤ a1 then (if a1 < (l0.length : Int) then (if ((rd_T38 l0 (ji12)).f0) = ((rd_T38 l0 a1).f0) then (pochoirref22_Ahead.l0 k2 l0 a1 ji12) else (some x5_2)) else (none)) else (none)) else (none)) = some r := by first | (rw [hji12] at H; exact H) | (simp only [hji12] at H ⊢; exact H)
      (try rw [hji12] at c11b0)
      have hji12w : (IntKind.i64.wrap (x5_2 + 1)) = ji12 := (i64_w _).trans hji12
      refine ifk H ?_; clear H; intro c13 H
      have c13b0 := decide_eq_true c13
      clear c13
      refine ifk H ?_; clear H; intro c14 H
      have c14b0 := decide_eq_true c14
      clear c14
      refine ifk H ?_; clear H; intro c15 H
      have c15b0 := decide_eq_true c15
      clear c15
      by_cases c16 : ((rd_T38 l0 (ji12)).f0) = ((rd_T38 l0 a1).f0)
      ·rw [if_pos c16] at H
       have c16b0 : (((rd_T38 l0 (ji12)).f0) == ((rd_T38 l0 a1).f0)) = true := beq_iff_eq.mpr c16
       have c16b1 : (((rd_T38 l0 (ji12)).f0) != ((rd_T38 l0 a1).f0)) = false := bne_eq_false_iff_eq.mpr c16
       clear c16
       have H' := Aside0.mk H
       clear H
       have p431 : 0 ≤ ((ji12) : Int) := od
       have q431 : (ji12) < (l0.length : Int) := od
       obtain ⟨ad431, e431, hx431_0, hx431_1, hx431_2, hx431_3, hx431_4, hx431_5, hx431_6, hx431_7⟩ := at_T38 HR0.out (ji12) p431 q431
       cases e431
       replace p431 := eq_true p431
       replace q431 := eq_true q431
       have p432 : 0 ≤ (a1 : Int) := od
       have q432 : a1 < (l0.length : Int) := od
       obtain ⟨ad432, e432, hx432_0, hx432_1, hx432_2, hx432_3, hx432_4, hx432_5, hx432_6, hx432_7⟩ := at_T38 HR0.out a1 p432 q432
       obtain rfl : ad431 = ad432 := (by injection e432)
       replace p432 := eq_true p432
       replace q432 := eq_true q432
       go_wp2
       repeat (go_quiet (fail); try go_wp2)
       go_roundg k2
       case measure => have := HJ2.out; have := HK2.out; omega
       case rel => exact ⟨(ji12), (by first | rfl | (simp; done) | (simp only [← hji12] <;> (first | rfl | simp)) | (simp [*]; done)), H', ⟨by have := HJ2.out; have := HK2.out; omega⟩, by repeat (first | exact Drawn0.refl _ | apply Drawn0.step)⟩
      rw [if_neg c16] at H
      have c16b0 : (((rd_T38 l0 (ji12)).f0) == ((rd_T38 l0 a1).f0)) = false := beq_eq_false_iff_ne.mpr c16
      have c16b1 : (((rd_T38 l0 (ji12)).f0) != ((rd_T38 l0 a1).f0)) = true := bne_iff_ne.mpr c16
      obtain rfl := Option.some.inj H
      have p431 : 0 ≤ ((ji12) : Int) := od
      have q431 : (ji12) < (l0.length : Int) := od
      obtain ⟨ad431, e431, hx431_0, hx431_1, hx431_2, hx431_3, hx431_4, hx431_5, hx431_6, hx431_7⟩ := at_T38 HR0.out (ji12) p431 q431
      cases e431
      replace p431 := eq_true p431
      replace q431 := eq_true q431
      have p432 : 0 ≤ (a1 : Int) := od
      have q432 : a1 < (l0.length : Int) := od
      obtain ⟨ad432, e432, hx432_0, hx432_1, hx432_2, hx432_3, hx432_4, hx432_5, hx432_6, hx432_7⟩ := at_T38 HR0.out a1 p432 q432
      obtain rfl : ad431 = ad432 := (by injection e432)
      replace p432 := eq_true p432
      replace q432 := eq_true q432
      go_wp2
      repeat (go_quiet (fail); try go_wp2)
      go_ret
      exact ⟨by first | rfl | (simp; done) | (simp only [← hji12] <;> (first | rfl | simp)) | (simp [*]; done), by repeat (first | exact Drawn0.refl _ | apply Drawn0.step)⟩
     rw [if_neg c11] at H
     have c11b0 := decide_eq_false c11
     clear c11
     obtain rfl := Option.some.inj H
     go_wp2
     repeat (go_quiet (fail); try go_wp2)
     go_ret
     exact ⟨fr, dr⟩

/-! ### pochoirref22_All: function 14 -/
def pochoirref22_All.l0 : Nat → List (S38) → List Int → Int → Option (List Int × Int)
 | 0, _, _, _ => none
 | k + 1, x0, x4, x5 => if x5 < (x0.length : Int) then ((pochoirref22_Ahead.f k x0 x5).bind fun t434 => (if 0 ≤ t434 then (if t434 < (x0.length : Int) then (if 0 ≤ x5 then ((pochoirref22_Is.f k ((rd_T38 x0 t434).f0) ((rd_T38 x0 t434).f1) ((rd_T38 x0 t434).f2.f0) ((rd_T38 x0 t434).f2.f1) ((rd_T38 x0 t434).f3.f0) ((rd_T38 x0 t434).f3.f1) ((rd_T38 x0 t434).f4.f0) ((rd_T38 x0 t434).f4.f1) ((rd_T38 x0 x5).f0) ((rd_T38 x0 x5).f1) ((rd_T38 x0 x5).f2.f0) ((rd_T38 x0 x5).f2.f1) ((rd_T38 x0 x5).f3.f0) ((rd_T38 x0 x5).f3.f1) ((rd_T38 x0 x5).f4.f0) ((rd_T38 x0 x5).f4.f1)).bind fun t437 => (if t437 = true then (if x4.length < 17592186044416 then (pochoirref22_All.l0 k x0 (x4 ++ [x5]) (wrap64 (x5 + 1))) else (none)) else (pochoirref22_All.l0 k x0 x4 (wrap64 (x5 + 1))))) else (none)) else (none)) else (none))) else (some (x4, 0))
def pochoirref22_All.f (k : Nat) (l0 : List (S38)) : Option (List Int × Int) := (pochoirref16_May.f k l0).bind fun t433 => (if t433 = true then (pochoirref22_All.l0 k l0 ([] : List Int) 0) else (some (([] : List Int), 1)))
theorem pochoirref22_All.mono_l : ∀ k, (∀ y0 y1 y2, LeO (pochoirref22_All.l0 k y0 y1 y2) (pochoirref22_All.l0 (k + 1) y0 y1 y2))
 | 0 => fun _ _ _ r h => by simp [pochoirref22_All.l0] at h
 | k + 1 => by
  have ih0 := pochoirref22_All.mono_l k
  ·intro y0 y1 y2
   unfold pochoirref22_All.l0
   repeat' first | (with_reducible first | exact ih0 _ _ _ | exact pochoirref16_May.mono _ _ | exact pochoirref22_Ahead.mono _ _ _ | exact pochoirref22_Is.mono _ _ _ _ _ _ _ _ _ _ _ _ _ _ _ _ _ | exact LeO.refl _ | exact LeO.none _ | refine LeO.ite ?_ ?_ | refine LeO.bind ?_ (fun _ => ?_)) | exact ih0 _ _ _ | exact pochoirref16_May.mono _ _ | exact pochoirref22_Ahead.mono _ _ _ | exact pochoirref22_Is.mono _ _ _ _ _ _ _ _ _ _ _ _ _ _ _ _ _ | exact LeO.none _ | refine LeO.ite ?_ ?_ | refine LeO.bind ?_ (fun _ => ?_)
theorem pochoirref22_All.mono : ∀ a0 k, LeO (pochoirref22_All.f k a0) (pochoirref22_All.f (k + 1) a0) := by
 intro a0 k
 have ih0 := pochoirref22_All.mono_l k
 unfold pochoirref22_All.f
 repeat' first | (with_reducible first | exact ih0 _ _ _ | exact pochoirref16_May.mono _ _ | exact pochoirref22_Ahead.mono _ _ _ | exact pochoirref22_Is.mono _ _ _ _ _ _ _ _ _ _ _ _ _ _ _ _ _ | exact LeO.refl _ | exact LeO.none _ | refine LeO.ite ?_ ?_ | refine LeO.bind ?_ (fun _ => ?_)) | exact ih0 _ _ _ | exact pochoirref16_May.mono _ _ | exact pochoirref22_Ahead.mono _ _ _ | exact pochoirref22_Is.mono _ _ _ _ _ _ _ _ _ _ _ _ _ _ _ _ _ | exact LeO.none _ | refine LeO.ite ?_ ?_ | refine LeO.bind ?_ (fun _ => ?_)
def pochoirref22_All.T7 : Bool × List (List Nat × List Nat) := (true, [([], []), ([], []), ([], []), ([1, 2], [1, 2]), ([0, 3], [0, 3]), ([4], [4]), ([], []), ([], []), ([6, 7], [6, 7]), ([8], [8]), ([5, 9, 3], [5, 9])])
def pochoirref22_All.B7 : List Nat := [0, 0, 0, 6, 15, 31, 0, 0, 192, 448, 1023]
theorem pochoirref22_All.tab7 : rtab .any (opsOf Try.f14 7) = pochoirref22_All.T7 := by kernel_rfl
theorem pochoirref22_All.bits7 : waitsOk pochoirref22_All.T7.2 pochoirref22_All.B7 = true := by kernel_rfl
set_option maxHeartbeats 8000000 in
set_option maxRecDepth 100000 in
theorem pochoirref22_All.calls (k : Nat) (A0 : Option Addr) (c0 : Nat) (l0 : List (S38)) (r1 : List Int) (r2 : Int) (w : World) (hr0 : Kd.C k38 w A0 l0.length l0) (hc0 : l0.length ≤ c0) (h : pochoirref22_All.f k l0 = some (r1, r2)) :
  Calls Try.prog 14 #[.slice A0 l0.length c0] w fun e w' => ∃ v0_ : Value, e = .returned (.tuple #[v0_, .int .i64 r2]) ∧ Kd.R (Kd.int .i64) 3 w' w.heap.size (fun _ => True) v0_ r1 ∧ Below w.heap.size w w' := by
 have hu38 := Try.underlying38
 have HR0 := Aside0.mk hr0
 have HC0 := Aside0.mk hc0
 clear hr0 hc0
 have HB := Aside0.mk (Below.refl w.heap.size w)
 have H := h
 clear h; unfold pochoirref22_All.f at H
 replace H := Option.bind_eq_some_iff.mp H
 obtain ⟨t433, A20, H⟩ := H
 replace H : (if t433 = true then (pochoirref22_All.l0 k l0 ([] : List Int) 0) else (some (([] : List Int), 1))) = some (r1, r2) := H
 have A2 := Aside0.mk A20
 clear A20
 by_cases c3 : t433 = true
 ·subst c3
  rw [if_pos rfl] at H
  have H' := Aside0.mk H
  clear H
  go_enter Try.func14, Try.ntmps14
  go_wp2_with (first | ((with_reducible refine gate_callee (f := 40) rfl ?_); refine goesL_ (some 7) rfl rfl Try.func40 (by kernel_rfl) rfl #[.slice A0 l0.length c0] rfl am ?_; (with_reducible refine (pochoirref16_May.calls k _ _ l0 true _ ?side1 ?side2 A2.out).mono ?_); (case side1 => exact kc HR0.out); (case side2 => exact HC0.out); rintro e w4 ⟨rfl, hb⟩; refine ⟨_, rfl, ?_⟩; replace HB := Aside0.mk (below_step (bl0 HB.out) hb); (try clear hb)))
  go_loopg [4, 5] k (fun kq v4 v5 w' => ∃ (x4_1 : List Int) (x5_1 : Int), v5 = .int .i64 x5_1 ∧ Aside0 (pochoirref22_All.l0 kq l0 x4_1 x5_1 = some (r1, r2)) ∧ Aside0 (kq ≤ k) ∧ Aside0 (Kd.R (Kd.int .i64) 3 w' w.heap.size (fun _ => True) v4 x4_1) ∧ Aside0 (Below w.heap.size w w'))
  case atStart => exact ⟨(([] : List Int)), (0), fr, H', ⟨Nat.le_refl _⟩, ⟨by first | exact Kd.R_nil _ _ _ _ _ | exact Kd.N_nil _ _ _ _ _ | exact Kd.V_nil _ _ _ _ _ | exact Kd.Q_nil _ _ _ _ _ | exact Kd.S_nil _ _ _ _ _⟩, ⟨bl0 HB.out⟩⟩
  case round =>
   clear H'
   try clear c1
   try clear p2
   try clear c3
   try clear c4
   obtain ⟨x4_1, x5_1, rfl, HA, HK1, HO_4, HB⟩ := hrel
   cases gk with
   | zero => exact absurd HA.out (by simp [pochoirref22_All.l0])
   | succ k1 =>
    have H := HA.out
    clear HA
    simp only [pochoirref22_All.l0] at H
    by_cases c5 : x5_1 < (l0.length : Int)
    ·rw [if_pos c5] at H
     have c5b0 := decide_eq_true c5
     clear c5
     replace H := Option.bind_eq_some_iff.mp H
     obtain ⟨t434, A60, H⟩ := H
     replace H : (if 0 ≤ t434 then (if t434 < (l0.length : Int) then (if 0 ≤ x5_1 then ((pochoirref22_Is.f k1 ((rd_T38 l0 t434).f0) ((rd_T38 l0 t434).f1) ((rd_T38 l0 t434).f2.f0) ((rd_T38 l0 t434).f2.f1) ((rd_T38 l0 t434).f3.f0) ((rd_T38 l0 t434).f3.f1) ((rd_T38 l0 t434).f4.f0) ((rd_T38 l0 t434).f4.f1) ((rd_T38 l0 x5_1).f0) ((rd_T38 l0 x5_1).f1) ((rd_T38 l0 x5_1).f2.f0) ((rd_T38 l0 x5_1).f2.f1) ((rd_T38 l0 x5_1).f3.f0) ((rd_T38 l0 x5_1).f3.f1) ((rd_T38 l0 x5_1).f4.f0) ((rd_T38 l0 x5_1).f4.f1)).bind fun t437 => (if t437 = true then (if x4_1.length < 17592186044416 then (pochoirref22_All.l0 k1 l0 (x4_1 ++ [x5_1]) (wrap64 (x5_1 + 1))) else (none)) else (pochoirref22_All.l0 k1 l0 x4_1 (wrap64 (x5_1 + 1))))) else (none)) else (none)) else (none)) = some (r1, r2) := H
     have A6 := Aside0.mk A60
     clear A60
     refine ifk H ?_; clear H; intro c7 H
     have c7b0 := decide_eq_true c7
     clear c7
     refine ifk H ?_; clear H; intro c8 H
     have c8b0 := decide_eq_true c8
     clear c8
     refine ifk H ?_; clear H; intro c9 H
     have c9b0 := decide_eq_true c9
     clear c9
     replace H := Option.bind_eq_some_iff.mp H
     obtain ⟨t437, A100, H⟩ := H
     replace H : (if t437 = true then (if x4_1.length < 17592186044416 then (pochoirref22_All.l0 k1 l0 (x4_1 ++ [x5_1]) (wrap64 (x5_1 + 1))) else (none)) else (pochoirref22_All.l0 k1 l0 x4_1 (wrap64 (x5_1 + 1)))) = some (r1, r2) := H
     have A10 := Aside0.mk A100
     clear A100
     by_cases c11 : t437 = true
     ·subst c11
      rw [if_pos rfl] at H
      refine ifk H ?_; clear H; intro c12 H
      have LMc12 := Aside0.mk c12
      clear c12
      obtain ⟨y438, hy438⟩ : ∃ y_ : List Int, y_ = (x4_1 ++ [x5_1]) := ⟨_, rfl⟩
      replace H : (pochoirref22_All.l0 k1 l0 y438 (wrap64 (x5_1 + 1))) = some (r1, r2) := by (try rw [hy438]); first | with_reducible exact H | (have H2_ := (Option.bind_some _ _).symm.trans H; with_reducible exact H2_) | exact H
      have Ny438 := Aside0.mk hy438
      clear hy438
      have H' := Aside0.mk H
      clear H
      try go_wp2
      replace HO_4 := Aside0.mk (Kd.R_drew HO_4.out)
      replace HB := Aside0.mk (below_drew1 HB.out)
      have p436 : 0 ≤ (x5_1 : Int) := od
      have q436 : x5_1 < (l0.length : Int) := od
      obtain ⟨ad436, e436, hx436_0, hx436_1, hx436_2, hx436_3, hx436_4, hx436_5, hx436_6, hx436_7⟩ := at_T38 HR0.out x5_1 p436 q436
      have hw436_7 := hx436_7
      have hw436_6 := hx436_6
      have hw436_5 := hx436_5
      have hw436_4 := hx436_4
      have hw436_3 := hx436_3
      have hw436_2 := hx436_2
      have hw436_1 := hx436_1
      have hw436_0 := hx436_0
      cases e436
      replace hx436_0 := hc HB hx436_0
      replace hx436_1 := hc HB hx436_1
      replace hx436_2 := hc HB hx436_2
      replace hx436_3 := hc HB hx436_3
      replace hx436_4 := hc HB hx436_4
      replace hx436_5 := hc HB hx436_5
      replace hx436_6 := hc HB hx436_6
      replace hx436_7 := hc HB hx436_7
      replace p436 := eq_true p436
      replace q436 := eq_true q436
      have p435 : 0 ≤ (t434 : Int) := od
      have q435 : t434 < (l0.length : Int) := od
      obtain ⟨ad435, e435, hx435_0, hx435_1, hx435_2, hx435_3, hx435_4, hx435_5, hx435_6, hx435_7⟩ := at_T38 HR0.out t434 p435 q435
      have hw435_7 := hx435_7
      have hw435_6 := hx435_6
      have hw435_5 := hx435_5
      have hw435_4 := hx435_4
      have hw435_3 := hx435_3
      have hw435_2 := hx435_2
      have hw435_1 := hx435_1
      have hw435_0 := hx435_0
      obtain rfl : ad436 = ad435 := (by injection e435)
      replace hx435_0 := hc HB hx435_0
      replace hx435_1 := hc HB hx435_1
      replace hx435_2 := hc HB hx435_2
      replace hx435_3 := hc HB hx435_3
      replace hx435_4 := hc HB hx435_4
      replace hx435_5 := hc HB hx435_5
      replace hx435_6 := hc HB hx435_6
      replace hx435_7 := hc HB hx435_7
      replace p435 := eq_true p435
      replace q435 := eq_true q435
      refine start_ (n := 11) (S := fun w' => w'.cell? (ad436.add ((x5_1).toNat * 8)) = some (.int .i64 ((rd_T38 l0 x5_1).f0)) ∧ w'.cell? ⟨(ad436.add ((x5_1).toNat * 8)).block, (ad436.add ((x5_1).toNat * 8)).off + 1, none⟩ = some (.bool ((rd_T38 l0 x5_1).f1)) ∧ w'.cell? ⟨(ad436.add ((x5_1).toNat * 8)).block, (ad436.add ((x5_1).toNat * 8)).off + 2, none⟩ = some (.int .i64 ((rd_T38 l0 x5_1).f2.f0)) ∧ w'.cell? ⟨(ad436.add ((x5_1).toNat * 8)).block, (ad436.add ((x5_1).toNat * 8)).off + 3, none⟩ = some (.int .i64 ((rd_T38 l0 x5_1).f2.f1)) ∧ w'.cell? ⟨(ad436.add ((x5_1).toNat * 8)).block, (ad436.add ((x5_1).toNat * 8)).off + 4, none⟩ = some (.int .i64 ((rd_T38 l0 x5_1).f3.f0)) ∧ w'.cell? ⟨(ad436.add ((x5_1).toNat * 8)).block, (ad436.add ((x5_1).toNat * 8)).off + 5, none⟩ = some (.int .i64 ((rd_T38 l0 x5_1).f3.f1)) ∧ w'.cell? ⟨(ad436.add ((x5_1).toNat * 8)).block, (ad436.add ((x5_1).toNat * 8)).off + 6, none⟩ = some (.int .i64 ((rd_T38 l0 x5_1).f4.f0)) ∧ w'.cell? ⟨(ad436.add ((x5_1).toNat * 8)).block, (ad436.add ((x5_1).toNat * 8)).off + 7, none⟩ = some (.int .i64 ((rd_T38 l0 x5_1).f4.f1)) ∧ w'.cell? (ad436.add ((t434).toNat * 8)) = some (.int .i64 ((rd_T38 l0 t434).f0)) ∧ w'.cell? ⟨(ad436.add ((t434).toNat * 8)).block, (ad436.add ((t434).toNat * 8)).off + 1, none⟩ = some (.bool ((rd_T38 l0 t434).f1)) ∧ w'.cell? ⟨(ad436.add ((t434).toNat * 8)).block, (ad436.add ((t434).toNat * 8)).off + 2, none⟩ = some (.int .i64 ((rd_T38 l0 t434).f2.f0)) ∧ w'.cell? ⟨(ad436.add ((t434).toNat * 8)).block, (ad436.add ((t434).toNat * 8)).off + 3, none⟩ = some (.int .i64 ((rd_T38 l0 t434).f2.f1)) ∧ w'.cell? ⟨(ad436.add ((t434).toNat * 8)).block, (ad436.add ((t434).toNat * 8)).off + 4, none⟩ = some (.int .i64 ((rd_T38 l0 t434).f3.f0)) ∧ w'.cell? ⟨(ad436.add ((t434).toNat * 8)).block, (ad436.add ((t434).toNat * 8)).off + 5, none⟩ = some (.int .i64 ((rd_T38 l0 t434).f3.f1)) ∧ w'.cell? ⟨(ad436.add ((t434).toNat * 8)).block, (ad436.add ((t434).toNat * 8)).off + 6, none⟩ = some (.int .i64 ((rd_T38 l0 t434).f4.f0)) ∧ w'.cell? ⟨(ad436.add ((t434).toNat * 8)).block, (ad436.add ((t434).toNat * 8)).off + 7, none⟩ = some (.int .i64 ((rd_T38 l0 t434).f4.f1))) (ds := []) (ba 11 0) (by kernel_rfl) rfl rfl ⟨(hc HB hw436_0 :), (hc HB hw436_1 :), (hc HB hw436_2 :), (hc HB hw436_3 :), (hc HB hw436_4 :), (hc HB hw436_5 :), (hc HB hw436_6 :), (hc HB hw436_7 :), (hc HB hw435_0 :), (hc HB hw435_1 :), (hc HB hw435_2 :), (hc HB hw435_3 :), (hc HB hw435_4 :), (hc HB hw435_5 :), (hc HB hw435_6 :), (hc HB hw435_7 :)⟩ (fun hHeld => ?_); refine with_tabW pochoirref22_All.tab7 pochoirref22_All.bits7 (fun HT_ HW_ => ?_)
      generalize wr.drew = w13 at HO_4 HB hx435_0 hx435_1 hx435_2 hx435_3 hx435_4 hx435_5 hx435_6 hx435_7 hx436_0 hx436_1 hx436_2 hx436_3 hx436_4 hx436_5 hx436_6 hx436_7 hHeld ⊢
      refine pI 0 15 (ba 11 1) HT_.out ?_
      refine pI 1 16 (ba 11 3) HT_.out ?_
      refine pI 2 17 (ba 11 7) HT_.out ?_
      refine pI 6 21 (ba 11 71) HT_.out ?_
      refine pI 7 22 (ba 11 199) HT_.out ?_
      refine pI 8 23 (ba 11 455) HT_.out ?_
      refine take_ (i := 9) (N := some 24) (v := ?_) (a' := ?_) (ba 11 967) rfl rfl (take_ofW HT_.out HW_.out (by kernel_rfl)) (fun _ _ _ h => h) (Or.inl ⟨by rfl, ?_⟩) hHeld ?_ ?_
      rotate_left
      ·rintro w' ⟨s0, s1, s2, s3, s4, s5, s6, s7, s8, s9, s10, s11, s12, s13, s14, s15⟩
       go_simp
       with_reducible rfl
      rotate_left
      ·exact pa
      refine one_ (i := 3) (N := some 18) (ba 11 975) rfl rfl (one_of HT_.out (by kernel_rfl)) (by decide) (fun K hK => ?_)
      refine goes_ Try.func51 (by kernel_rfl) rfl #[.slice (some ad436) l0.length c0, .int .i64 x5_1] (by rfl) rfl rfl am ?_
      with_reducible refine (pochoirref22_Ahead.calls k1 _ _ l0 x5_1 t434 _ ?side1 ?side2 A6.out).mono ?_
      (case side1 => exact kc (Kd.C_below HR0.out HB.out))
      (case side2 => exact HC0.out)
      rintro e w' ⟨rfl, ⟨nd, rfl⟩⟩
      refine ⟨_, rfl, ?_⟩
      refine hK.out _ _ ⟨(hc HB hw436_0 :), (hc HB hw436_1 :), (hc HB hw436_2 :), (hc HB hw436_3 :), (hc HB hw436_4 :), (hc HB hw436_5 :), (hc HB hw436_6 :), (hc HB hw436_7 :), (hc HB hw435_0 :), (hc HB hw435_1 :), (hc HB hw435_2 :), (hc HB hw435_3 :), (hc HB hw435_4 :), (hc HB hw435_5 :), (hc HB hw435_6 :), (hc HB hw435_7 :)⟩ (fun hHeld => ?_)
      clear hK K
      refine np 18 ?_
      refine pI 4 19 (ba 11 991) HT_.out ?_
      refine take_ (i := 5) (N := some 20) (v := ?_) (a' := ?_) (ba 11 1023) rfl rfl (take_ofW HT_.out HW_.out (by kernel_rfl)) (fun _ _ _ h => h) (Or.inl ⟨by rfl, ?_⟩) hHeld ?_ ?_
      rotate_left
      ·rintro w' ⟨s0, s1, s2, s3, s4, s5, s6, s7, s8, s9, s10, s11, s12, s13, s14, s15⟩
       go_simp
       with_reducible rfl
      rotate_left
      ·exact pa
      refine one_ (i := 10) (N := some 25) (ba 11 2047) rfl rfl (one_of HT_.out (by kernel_rfl)) (by decide) (fun K hK => ?_)
      refine goes_ Try.func30 (by kernel_rfl) rfl #[.agg #[.int .i64 ((rd_T38 l0 t434).f0), .bool ((rd_T38 l0 t434).f1), .int .i64 ((rd_T38 l0 t434).f2.f0), .int .i64 ((rd_T38 l0 t434).f2.f1), .int .i64 ((rd_T38 l0 t434).f3.f0), .int .i64 ((rd_T38 l0 t434).f3.f1), .int .i64 ((rd_T38 l0 t434).f4.f0), .int .i64 ((rd_T38 l0 t434).f4.f1)], .agg #[.int .i64 ((rd_T38 l0 x5_1).f0), .bool ((rd_T38 l0 x5_1).f1), .int .i64 ((rd_T38 l0 x5_1).f2.f0), .int .i64 ((rd_T38 l0 x5_1).f2.f1), .int .i64 ((rd_T38 l0 x5_1).f3.f0), .int .i64 ((rd_T38 l0 x5_1).f3.f1), .int .i64 ((rd_T38 l0 x5_1).f4.f0), .int .i64 ((rd_T38 l0 x5_1).f4.f1)]] (by rfl) rfl rfl am ?_
      with_reducible refine (pochoirref22_Is.calls k1 ((rd_T38 l0 t434).f0) ((rd_T38 l0 t434).f1) ((rd_T38 l0 t434).f2.f0) ((rd_T38 l0 t434).f2.f1) ((rd_T38 l0 t434).f3.f0) ((rd_T38 l0 t434).f3.f1) ((rd_T38 l0 t434).f4.f0) ((rd_T38 l0 t434).f4.f1) ((rd_T38 l0 x5_1).f0) ((rd_T38 l0 x5_1).f1) ((rd_T38 l0 x5_1).f2.f0) ((rd_T38 l0 x5_1).f2.f1) ((rd_T38 l0 x5_1).f3.f0) ((rd_T38 l0 x5_1).f3.f1) ((rd_T38 l0 x5_1).f4.f0) ((rd_T38 l0 x5_1).f4.f1) true _ A10.out).mono ?_
      rintro e w14 ⟨rfl, hb⟩
      refine ⟨_, rfl, ?_⟩
      replace HO_4 := Aside0.mk (Kd.R_below (kr HO_4.out) hb)
      replace HB := Aside0.mk (below_step (bl0 HB.out) hb)
      (try clear hb)
      (try clear hb2)
      (try clear hk)
      (try clear hi)
      refine hK.out _ _ ⟨(hc HB hw436_0 :), (hc HB hw436_1 :), (hc HB hw436_2 :), (hc HB hw436_3 :), (hc HB hw436_4 :), (hc HB hw436_5 :), (hc HB hw436_6 :), (hc HB hw436_7 :), (hc HB hw435_0 :), (hc HB hw435_1 :), (hc HB hw435_2 :), (hc HB hw435_3 :), (hc HB hw435_4 :), (hc HB hw435_5 :), (hc HB hw435_6 :), (hc HB hw435_7 :)⟩ (fun hHeld => ?_)
      clear hK K
      refine np 25 ?_
      refine done_ (done_of HT_.out (by kernel_rfl)) ?_
      try go_wp2_with (first | ((with_reducible refine gate_builtin (b := .append) (xs := #[.tmp 26, .tmp 28]) rfl ?_); at_builtin; refine Kd.R_append (Kd.int .i64) (w0 := w) w.heap.size rfl (.tmp 26) (.tmp 28) 24 3 (.int .i64 0) 8 rfl Try.underlying24 info3 rfl (by decide) (by omega) u4 x4_1 x5_1 [.int .i64 x5_1] (fun _ => True) (fun _ => False) rfl rfl ?aP (fun _ hk => hk.elim) ?aF ?aO ?aB ?aS ?aL ?_; (case aP => exact rfl); (case aB => exact (bl0 HB.out)); (case aF => exact (fun _ _ => trivial)); (case aO => exact (kr HO_4.out)); (case aS => exact (below_size (bl0 HB.out))); (case aL => have := LMc12.out; omega); intro v439 w15 ho hb hg hat; rw [← Ny438.out] at ho; have HO440 := Aside0.mk (ho); replace HB := Aside0.mk (hb); clear HO_4 ho hb hg hat))
      go_roundg k1
      case measure => have := HK1.out; omega
      case rel => exact ⟨(y438), (wrap64 (x5_1 + 1)), fr, H', ⟨by have := HK1.out; omega⟩, ⟨kr HO440.out⟩, ⟨bl0 HB.out⟩⟩
     replace c11 := Bool.eq_false_iff.mpr c11
     subst c11
     rw [if_neg (show ¬ (false = true) by decide)] at H
     have H' := Aside0.mk H
     clear H
     try go_wp2
     replace HO_4 := Aside0.mk (Kd.R_drew HO_4.out)
     replace HB := Aside0.mk (below_drew1 HB.out)
     have p436 : 0 ≤ (x5_1 : Int) := od
     have q436 : x5_1 < (l0.length : Int) := od
     obtain ⟨ad436, e436, hx436_0, hx436_1, hx436_2, hx436_3, hx436_4, hx436_5, hx436_6, hx436_7⟩ := at_T38 HR0.out x5_1 p436 q436
     have hw436_7 := hx436_7
     have hw436_6 := hx436_6
     have hw436_5 := hx436_5
     have hw436_4 := hx436_4
     have hw436_3 := hx436_3
     have hw436_2 := hx436_2
     have hw436_1 := hx436_1
     have hw436_0 := hx436_0
     cases e436
     replace hx436_0 := hc HB hx436_0
     replace hx436_1 := hc HB hx436_1
     replace hx436_2 := hc HB hx436_2
     replace hx436_3 := hc HB hx436_3
     replace hx436_4 := hc HB hx436_4
     replace hx436_5 := hc HB hx436_5
     replace hx436_6 := hc HB hx436_6
     replace hx436_7 := hc HB hx436_7
     replace p436 := eq_true p436
     replace q436 := eq_true q436
     have p435 : 0 ≤ (t434 : Int) := od
     have q435 : t434 < (l0.length : Int) := od
     obtain ⟨ad435, e435, hx435_0, hx435_1, hx435_2, hx435_3, hx435_4, hx435_5, hx435_6, hx435_7⟩ := at_T38 HR0.out t434 p435 q435
     have hw435_7 := hx435_7
     have hw435_6 := hx435_6
     have hw435_5 := hx435_5
     have hw435_4 := hx435_4
     have hw435_3 := hx435_3
     have hw435_2 := hx435_2
     have hw435_1 := hx435_1
     have hw435_0 := hx435_0
     obtain rfl : ad436 = ad435 := (by injection e435)
     replace hx435_0 := hc HB hx435_0
     replace hx435_1 := hc HB hx435_1
     replace hx435_2 := hc HB hx435_2
     replace hx435_3 := hc HB hx435_3
     replace hx435_4 := hc HB hx435_4
     replace hx435_5 := hc HB hx435_5
     replace hx435_6 := hc HB hx435_6
     replace hx435_7 := hc HB hx435_7
     replace p435 := eq_true p435
     replace q435 := eq_true q435
     refine start_ (n := 11) (S := fun w' => w'.cell? (ad436.add ((x5_1).toNat * 8)) = some (.int .i64 ((rd_T38 l0 x5_1).f0)) ∧ w'.cell? ⟨(ad436.add ((x5_1).toNat * 8)).block, (ad436.add ((x5_1).toNat * 8)).off + 1, none⟩ = some (.bool ((rd_T38 l0 x5_1).f1)) ∧ w'.cell? ⟨(ad436.add ((x5_1).toNat * 8)).block, (ad436.add ((x5_1).toNat * 8)).off + 2, none⟩ = some (.int .i64 ((rd_T38 l0 x5_1).f2.f0)) ∧ w'.cell? ⟨(ad436.add ((x5_1).toNat * 8)).block, (ad436.add ((x5_1).toNat * 8)).off + 3, none⟩ = some (.int .i64 ((rd_T38 l0 x5_1).f2.f1)) ∧ w'.cell? ⟨(ad436.add ((x5_1).toNat * 8)).block, (ad436.add ((x5_1).toNat * 8)).off + 4, none⟩ = some (.int .i64 ((rd_T38 l0 x5_1).f3.f0)) ∧ w'.cell? ⟨(ad436.add ((x5_1).toNat * 8)).block, (ad436.add ((x5_1).toNat * 8)).off + 5, none⟩ = some (.int .i64 ((rd_T38 l0 x5_1).f3.f1)) ∧ w'.cell? ⟨(ad436.add ((x5_1).toNat * 8)).block, (ad436.add ((x5_1).toNat * 8)).off + 6, none⟩ = some (.int .i64 ((rd_T38 l0 x5_1).f4.f0)) ∧ w'.cell? ⟨(ad436.add ((x5_1).toNat * 8)).block, (ad436.add ((x5_1).toNat * 8)).off + 7, none⟩ = some (.int .i64 ((rd_T38 l0 x5_1).f4.f1)) ∧ w'.cell? (ad436.add ((t434).toNat * 8)) = some (.int .i64 ((rd_T38 l0 t434).f0)) ∧ w'.cell? ⟨(ad436.add ((t434).toNat * 8)).block, (ad436.add ((t434).toNat * 8)).off + 1, none⟩ = some (.bool ((rd_T38 l0 t434).f1)) ∧ w'.cell? ⟨(ad436.add ((t434).toNat * 8)).block, (ad436.add ((t434).toNat * 8)).off + 2, none⟩ = some (.int .i64 ((rd_T38 l0 t434).f2.f0)) ∧ w'.cell? ⟨(ad436.add ((t434).toNat * 8)).block, (ad436.add ((t434).toNat * 8)).off + 3, none⟩ = some (.int .i64 ((rd_T38 l0 t434).f2.f1)) ∧ w'.cell? ⟨(ad436.add ((t434).toNat * 8)).block, (ad436.add ((t434).toNat * 8)).off + 4, none⟩ = some (.int .i64 ((rd_T38 l0 t434).f3.f0)) ∧ w'.cell? ⟨(ad436.add ((t434).toNat * 8)).block, (ad436.add ((t434).toNat * 8)).off + 5, none⟩ = some (.int .i64 ((rd_T38 l0 t434).f3.f1)) ∧ w'.cell? ⟨(ad436.add ((t434).toNat * 8)).block, (ad436.add ((t434).toNat * 8)).off + 6, none⟩ = some (.int .i64 ((rd_T38 l0 t434).f4.f0)) ∧ w'.cell? ⟨(ad436.add ((t434).toNat * 8)).block, (ad436.add ((t434).toNat * 8)).off + 7, none⟩ = some (.int .i64 ((rd_T38 l0 t434).f4.f1))) (ds := []) (ba 11 0) (by kernel_rfl) rfl rfl ⟨(hc HB hw436_0 :), (hc HB hw436_1 :), (hc HB hw436_2 :), (hc HB hw436_3 :), (hc HB hw436_4 :), (hc HB hw436_5 :), (hc HB hw436_6 :), (hc HB hw436_7 :), (hc HB hw435_0 :), (hc HB hw435_1 :), (hc HB hw435_2 :), (hc HB hw435_3 :), (hc HB hw435_4 :), (hc HB hw435_5 :), (hc HB hw435_6 :), (hc HB hw435_7 :)⟩ (fun hHeld => ?_); refine with_tabW pochoirref22_All.tab7 pochoirref22_All.bits7 (fun HT_ HW_ => ?_)
     generalize wr.drew = w16 at HO_4 HB hx435_0 hx435_1 hx435_2 hx435_3 hx435_4 hx435_5 hx435_6 hx435_7 hx436_0 hx436_1 hx436_2 hx436_3 hx436_4 hx436_5 hx436_6 hx436_7 hHeld ⊢
     refine pI 0 15 (ba 11 1) HT_.out ?_
     refine pI 1 16 (ba 11 3) HT_.out ?_
     refine pI 2 17 (ba 11 7) HT_.out ?_
     refine pI 6 21 (ba 11 71) HT_.out ?_
     refine pI 7 22 (ba 11 199) HT_.out ?_
     refine pI 8 23 (ba 11 455) HT_.out ?_
     refine take_ (i := 9) (N := some 24) (v := ?_) (a' := ?_) (ba 11 967) rfl rfl (take_ofW HT_.out HW_.out (by kernel_rfl)) (fun _ _ _ h => h) (Or.inl ⟨by rfl, ?_⟩) hHeld ?_ ?_
     rotate_left
     ·rintro w' ⟨s0, s1, s2, s3, s4, s5, s6, s7, s8, s9, s10, s11, s12, s13, s14, s15⟩
      go_simp
      with_reducible rfl
     rotate_left
     ·exact pa
     refine one_ (i := 3) (N := some 18) (ba 11 975) rfl rfl (one_of HT_.out (by kernel_rfl)) (by decide) (fun K hK => ?_)
     refine goes_ Try.func51 (by kernel_rfl) rfl #[.slice (some ad436) l0.length c0, .int .i64 x5_1] (by rfl) rfl rfl am ?_
     with_reducible refine (pochoirref22_Ahead.calls k1 _ _ l0 x5_1 t434 _ ?side1 ?side2 A6.out).mono ?_
     (case side1 => exact kc (Kd.C_below HR0.out HB.out))
     (case side2 => exact HC0.out)
     rintro e w' ⟨rfl, ⟨nd, rfl⟩⟩
     refine ⟨_, rfl, ?_⟩
     refine hK.out _ _ ⟨(hc HB hw436_0 :), (hc HB hw436_1 :), (hc HB hw436_2 :), (hc HB hw436_3 :), (hc HB hw436_4 :), (hc HB hw436_5 :), (hc HB hw436_6 :), (hc HB hw436_7 :), (hc HB hw435_0 :), (hc HB hw435_1 :), (hc HB hw435_2 :), (hc HB hw435_3 :), (hc HB hw435_4 :), (hc HB hw435_5 :), (hc HB hw435_6 :), (hc HB hw435_7 :)⟩ (fun hHeld => ?_)
     clear hK K
     refine np 18 ?_
     refine pI 4 19 (ba 11 991) HT_.out ?_
     refine take_ (i := 5) (N := some 20) (v := ?_) (a' := ?_) (ba 11 1023) rfl rfl (take_ofW HT_.out HW_.out (by kernel_rfl)) (fun _ _ _ h => h) (Or.inl ⟨by rfl, ?_⟩) hHeld ?_ ?_
     rotate_left
     ·rintro w' ⟨s0, s1, s2, s3, s4, s5, s6, s7, s8, s9, s10, s11, s12, s13, s14, s15⟩
      go_simp
      with_reducible rfl
     rotate_left
     ·exact pa
     refine one_ (i := 10) (N := some 25) (ba 11 2047) rfl rfl (one_of HT_.out (by kernel_rfl)) (by decide) (fun K hK => ?_)
     refine goes_ Try.func30 (by kernel_rfl) rfl #[.agg #[.int .i64 ((rd_T38 l0 t434).f0), .bool ((rd_T38 l0 t434).f1), .int .i64 ((rd_T38 l0 t434).f2.f0), .int .i64 ((rd_T38 l0 t434).f2.f1), .int .i64 ((rd_T38 l0 t434).f3.f0), .int .i64 ((rd_T38 l0 t434).f3.f1), .int .i64 ((rd_T38 l0 t434).f4.f0), .int .i64 ((rd_T38 l0 t434).f4.f1)], .agg #[.int .i64 ((rd_T38 l0 x5_1).f0), .bool ((rd_T38 l0 x5_1).f1), .int .i64 ((rd_T38 l0 x5_1).f2.f0), .int .i64 ((rd_T38 l0 x5_1).f2.f1), .int .i64 ((rd_T38 l0 x5_1).f3.f0), .int .i64 ((rd_T38 l0 x5_1).f3.f1), .int .i64 ((rd_T38 l0 x5_1).f4.f0), .int .i64 ((rd_T38 l0 x5_1).f4.f1)]] (by rfl) rfl rfl am ?_
     with_reducible refine (pochoirref22_Is.calls k1 ((rd_T38 l0 t434).f0) ((rd_T38 l0 t434).f1) ((rd_T38 l0 t434).f2.f0) ((rd_T38 l0 t434).f2.f1) ((rd_T38 l0 t434).f3.f0) ((rd_T38 l0 t434).f3.f1) ((rd_T38 l0 t434).f4.f0) ((rd_T38 l0 t434).f4.f1) ((rd_T38 l0 x5_1).f0) ((rd_T38 l0 x5_1).f1) ((rd_T38 l0 x5_1).f2.f0) ((rd_T38 l0 x5_1).f2.f1) ((rd_T38 l0 x5_1).f3.f0) ((rd_T38 l0 x5_1).f3.f1) ((rd_T38 l0 x5_1).f4.f0) ((rd_T38 l0 x5_1).f4.f1) false _ A10.out).mono ?_
     rintro e w17 ⟨rfl, hb⟩
     refine ⟨_, rfl, ?_⟩
     replace HO_4 := Aside0.mk (Kd.R_below (kr HO_4.out) hb)
     replace HB := Aside0.mk (below_step (bl0 HB.out) hb)
     (try clear hb)
     (try clear hb2)
     (try clear hk)
     (try clear hi)
     refine hK.out _ _ ⟨(hc HB hw436_0 :), (hc HB hw436_1 :), (hc HB hw436_2 :), (hc HB hw436_3 :), (hc HB hw436_4 :), (hc HB hw436_5 :), (hc HB hw436_6 :), (hc HB hw436_7 :), (hc HB hw435_0 :), (hc HB hw435_1 :), (hc HB hw435_2 :), (hc HB hw435_3 :), (hc HB hw435_4 :), (hc HB hw435_5 :), (hc HB hw435_6 :), (hc HB hw435_7 :)⟩ (fun hHeld => ?_)
     clear hK K
     refine np 25 ?_
     refine done_ (done_of HT_.out (by kernel_rfl)) ?_
     try go_wp2
     go_roundg k1
     case measure => have := HK1.out; omega
     case rel => exact ⟨(x4_1), (wrap64 (x5_1 + 1)), fr, H', ⟨by have := HK1.out; omega⟩, ⟨kr HO_4.out⟩, ⟨bl0 HB.out⟩⟩
    rw [if_neg c5] at H
    have c5b0 := decide_eq_false c5
    clear c5
    simp only [Option.some.injEq, Prod.mk.injEq] at H
    obtain ⟨rfl, rfl⟩ := H
    go_wp2
    go_ret2
    exact ⟨_, by first | rfl | (simp [errW_none, errW_some] <;> rfl) | (simp [*, errW_none, errW_some] <;> rfl), kr HO_4.out, bl0 HB.out⟩
 replace c3 := Bool.eq_false_iff.mpr c3
 subst c3
 rw [if_neg (show ¬ (false = true) by decide)] at H
 simp only [Option.some.injEq, Prod.mk.injEq] at H
 obtain ⟨rfl, rfl⟩ := H
 go_enter Try.func14, Try.ntmps14
 go_wp2_with (first | ((with_reducible refine gate_callee (f := 40) rfl ?_); refine goesL_ (some 7) rfl rfl Try.func40 (by kernel_rfl) rfl #[.slice A0 l0.length c0] rfl am ?_; (with_reducible refine (pochoirref16_May.calls k _ _ l0 false _ ?side1 ?side2 A2.out).mono ?_); (case side1 => exact kc HR0.out); (case side2 => exact HC0.out); rintro e w18 ⟨rfl, hb⟩; refine ⟨_, rfl, ?_⟩; replace HB := Aside0.mk (below_step (bl0 HB.out) hb); (try clear hb)))
 go_ret2
 exact ⟨_, by first | rfl | (simp [errW_none, errW_some] <;> rfl) | (simp [*, errW_none, errW_some] <;> rfl), by first | exact Kd.R_nil _ _ _ _ _ | exact Kd.N_nil _ _ _ _ _ | exact Kd.V_nil _ _ _ _ _ | exact Kd.Q_nil _ _ _ _ _ | exact Kd.S_nil _ _ _ _ _, bl0 HB.out⟩

end Go.Proofs.Ytalgppclaolonaa.XColr
