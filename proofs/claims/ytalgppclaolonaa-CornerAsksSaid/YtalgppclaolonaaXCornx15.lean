-- Printed by a program of this claim. Not trusted: Lean checks it.
import Derived.Test.YtalgppclaolonaaXCornx0
import Derived.Test.YtalgppclaolonaaXCornx1
import Derived.Test.YtalgppclaolonaaXCornx9
import Derived.Test.YtalgppclaolonaaXCornx10
import Derived.Test.YtalgppclaolonaaXCornx11
import Derived.Test.YtalgppclaolonaaXCornx16
namespace Go.Proofs.Ytalgppclaolonaa.XCorn
open Go.RowKit Go.Proofs.YtalgppclaolonaaW.PrintWords Go.Proofs.YtalgppclaolonaaW.PrintLast Go.Proofs.YtalgppclaolonaaW.PrintMore
attribute [local go_sem] max2_int min2_int max_two min_two max_three min_three max_four min_four   -- for this text's walks alone
set_option linter.unusedVariables false
set_option linter.unusedSimpArgs false
open XOpen

attribute [local go_sem high] eqA36
/-! ### pochoirlaw22_CornerAsks: function 6 -/
def pochoirlaw22_CornerAsks.j0 : Nat → Bool → Int → Bool → Int → Bool → Int → Int → Int → Int → Int → Int → Int → Bool → Int → Int → Int → Int → Int → Int → Option (Bool)
 | 0, _, _, _, _, _, _, _, _, _, _, _, _, _, _, _, _, _, _, _ => none
 | k + 1, x9, x10, x73, x380000, x380001, x380002, x380003, x380004, x380005, x380006, x380007, x381000, x381001, x381002, x381003, x381004, x381005, x381006, x381007 => if x73 = true then (some false) else ((pochoirref16_One.f x381000 x381001 x381002 x381003 x381004 x381005 x381006 x381007).bind fun t397 => (if t397 = true then ((pochoirref22_Is.f k x380000 x380001 x380002 x380003 x380004 x380005 x380006 x380007 x381000 x381001 x381002 x381003 x381004 x381005 x381006 x381007).bind fun t398 => (if (x9 == t398) = true then (some (x10 == 0)) else (some false))) else (if x9 = true then (some false) else (some (x10 == 1)))))
def pochoirlaw22_CornerAsks.f (k : Nat) (a0_0 : Int) (a0_1 : Bool) (a0_2 : Int) (a0_3 : Int) (a0_4 : Int) (a0_5 : Int) (a0_6 : Int) (a0_7 : Int) (a1_0 : Int) (a1_1 : Bool) (a1_2 : Int) (a1_3 : Int) (a1_4 : Int) (a1_5 : Int) (a1_6 : Int) (a1_7 : Int) : Option (Bool) := (pochoirlaw22_awake.f k).bind fun t381 => (if t381 = true then ((corner_First.f k a0_0 a0_1 a0_2 a0_3 a0_4 a0_5 a0_6 a0_7).bind fun bt382 => ((corner_Last.f k a0_0 a0_1 a0_2 a0_3 a0_4 a0_5 a0_6 a0_7).bind fun bt386 => ((corner_Is.f k a0_0 a0_1 a0_2 a0_3 a0_4 a0_5 a0_6 a0_7 a1_0 a1_1 a1_2 a1_3 a1_4 a1_5 a1_6 a1_7).bind fun bt390 => ((pochoirref16_One.f a0_0 a0_1 a0_2 a0_3 a0_4 a0_5 a0_6 a0_7).bind fun t392 => (if t392 = true then ((pochoirref22_First.f a0_0 a0_1 a0_2 a0_3 a0_4 a0_5 a0_6 a0_7).bind fun bt393 => (if (!(bt382.1 == bt393.1) || (!(bt382.2.1 == bt393.2))) = true then (pochoirlaw22_CornerAsks.j0 k bt390.1 bt390.2 true a0_0 a0_1 a0_2 a0_3 a0_4 a0_5 a0_6 a0_7 a1_0 a1_1 a1_2 a1_3 a1_4 a1_5 a1_6 a1_7) else ((pochoirref22_Last.f a0_0 a0_1 a0_2 a0_3 a0_4 a0_5 a0_6 a0_7).bind fun bt395 => (if (!(bt386.1 == bt395.1) || (!(bt386.2.1 == bt395.2))) = true then (pochoirlaw22_CornerAsks.j0 k bt390.1 bt390.2 true a0_0 a0_1 a0_2 a0_3 a0_4 a0_5 a0_6 a0_7 a1_0 a1_1 a1_2 a1_3 a1_4 a1_5 a1_6 a1_7) else (if bt382.2.2 = 0 then (pochoirlaw22_CornerAsks.j0 k bt390.1 bt390.2 (bt386.2.2 != 0) a0_0 a0_1 a0_2 a0_3 a0_4 a0_5 a0_6 a0_7 a1_0 a1_1 a1_2 a1_3 a1_4 a1_5 a1_6 a1_7) else (pochoirlaw22_CornerAsks.j0 k bt390.1 bt390.2 true a0_0 a0_1 a0_2 a0_3 a0_4 a0_5 a0_6 a0_7 a1_0 a1_1 a1_2 a1_3 a1_4 a1_5 a1_6 a1_7)))))) else (if (bt382.1 == 0 && (bt382.2.1 == 0)) = true then (if (bt386.1 == 0 && (bt386.2.1 == 0)) = true then (if bt382.2.2 = 1 then (if bt386.2.2 = 1 then (if bt390.1 = true then (some false) else (some (bt390.2 == 1))) else (some false)) else (some false)) else (some false)) else (some false))))))) else (some false))
theorem pochoirlaw22_CornerAsks.mono_l : ∀ k, (∀ y0 y1 y2 y3 y4 y5 y6 y7 y8 y9 y10 y11 y12 y13 y14 y15 y16 y17 y18, LeO (pochoirlaw22_CornerAsks.j0 k y0 y1 y2 y3 y4 y5 y6 y7 y8 y9 y10 y11 y12 y13 y14 y15 y16 y17 y18) (pochoirlaw22_CornerAsks.j0 (k + 1) y0 y1 y2 y3 y4 y5 y6 y7 y8 y9 y10 y11 y12 y13 y14 y15 y16 y17 y18))
 | 0 => fun _ _ _ _ _ _ _ _ _ _ _ _ _ _ _ _ _ _ _ r h => by simp [pochoirlaw22_CornerAsks.j0] at h
 | k + 1 => by
  have ih0 := pochoirlaw22_CornerAsks.mono_l k
  ·intro y0 y1 y2 y3 y4 y5 y6 y7 y8 y9 y10 y11 y12 y13 y14 y15 y16 y17 y18
   unfold pochoirlaw22_CornerAsks.j0
   repeat' first
   | (with_reducible exact ih0 _ _ _ _ _ _ _ _ _ _ _ _ _ _ _ _ _ _ _)
   | (with_reducible exact corner_First.mono _ _ _ _ _ _ _ _ _)
   | (with_reducible exact corner_Is.mono _ _ _ _ _ _ _ _ _ _ _ _ _ _ _ _ _)
   | (with_reducible exact corner_Last.mono _ _ _ _ _ _ _ _ _)
   | (with_reducible exact pochoirlaw22_awake.mono _)
   | (with_reducible exact pochoirref22_Is.mono _ _ _ _ _ _ _ _ _ _ _ _ _ _ _ _ _)
   | (with_reducible exact LeO.refl _)
   | (with_reducible exact LeO.none _)
   | (with_reducible refine LeO.ite ?_ ?_)
   | (with_reducible refine LeO.bind ?_ (fun _ => ?_))
   | exact ih0 _ _ _ _ _ _ _ _ _ _ _ _ _ _ _ _ _ _ _
   | exact corner_First.mono _ _ _ _ _ _ _ _ _
   | exact corner_Is.mono _ _ _ _ _ _ _ _ _ _ _ _ _ _ _ _ _
   | exact corner_Last.mono _ _ _ _ _ _ _ _ _
   | exact pochoirlaw22_awake.mono _
   | exact pochoirref22_Is.mono _ _ _ _ _ _ _ _ _ _ _ _ _ _ _ _ _
   | exact LeO.none _
   | refine LeO.ite ?_ ?_
   | refine LeO.bind ?_ (fun _ => ?_)
theorem pochoirlaw22_CornerAsks.mono : ∀ a0 a1 a2 a3 a4 a5 a6 a7 a8 a9 a10 a11 a12 a13 a14 a15 k, LeO (pochoirlaw22_CornerAsks.f k a0 a1 a2 a3 a4 a5 a6 a7 a8 a9 a10 a11 a12 a13 a14 a15) (pochoirlaw22_CornerAsks.f (k + 1) a0 a1 a2 a3 a4 a5 a6 a7 a8 a9 a10 a11 a12 a13 a14 a15) := by
 intro a0 a1 a2 a3 a4 a5 a6 a7 a8 a9 a10 a11 a12 a13 a14 a15 k
 have ih0 := pochoirlaw22_CornerAsks.mono_l k
 unfold pochoirlaw22_CornerAsks.f
 repeat' first
   | (with_reducible exact ih0 _ _ _ _ _ _ _ _ _ _ _ _ _ _ _ _ _ _ _)
   | (with_reducible exact corner_First.mono _ _ _ _ _ _ _ _ _)
   | (with_reducible exact corner_Is.mono _ _ _ _ _ _ _ _ _ _ _ _ _ _ _ _ _)
   | (with_reducible exact corner_Last.mono _ _ _ _ _ _ _ _ _)
   | (with_reducible exact pochoirlaw22_awake.mono _)
   | (with_reducible exact pochoirref22_Is.mono _ _ _ _ _ _ _ _ _ _ _ _ _ _ _ _ _)
   | (with_reducible exact LeO.refl _)
   | (with_reducible exact LeO.none _)
   | (with_reducible refine LeO.ite ?_ ?_)
   | (with_reducible refine LeO.bind ?_ (fun _ => ?_))
   | exact ih0 _ _ _ _ _ _ _ _ _ _ _ _ _ _ _ _ _ _ _
   | exact corner_First.mono _ _ _ _ _ _ _ _ _
   | exact corner_Is.mono _ _ _ _ _ _ _ _ _ _ _ _ _ _ _ _ _
   | exact corner_Last.mono _ _ _ _ _ _ _ _ _
   | exact pochoirlaw22_awake.mono _
   | exact pochoirref22_Is.mono _ _ _ _ _ _ _ _ _ _ _ _ _ _ _ _ _
   | exact LeO.none _
   | refine LeO.ite ?_ ?_
   | refine LeO.bind ?_ (fun _ => ?_)
def pochoirlaw22_CornerAsks.T8 : Bool × List (List Nat × List Nat) := (true, [([], []), ([], []), ([1], [1]), ([0, 2], [0, 2]), ([3, 2], [3]), ([4], [4]), ([4], [4]), ([6, 4, 4], [4, 6]), ([5, 7, 4], [4, 5, 7]), ([4, 8], [4, 8]), ([9, 7], [9]), ([10], [10]), ([11, 10], [10, 11]), ([10, 12], [10, 12]), ([13, 10], [13]), ([14], [14]), ([15, 14], [14, 15]), ([14, 16], [14, 16])])
def pochoirlaw22_CornerAsks.B8 : List Nat := [0, 0, 2, 7, 15, 31, 31, 95, 255, 511, 1023, 2047, 4095, 8191, 16383, 32767, 65535, 131071]
theorem pochoirlaw22_CornerAsks.tab8 : rtab .any (opsOf Try.f6 8) = pochoirlaw22_CornerAsks.T8 := by kernel_rfl
theorem pochoirlaw22_CornerAsks.bits8 : waitsOk pochoirlaw22_CornerAsks.T8.2 pochoirlaw22_CornerAsks.B8 = true := by kernel_rfl
set_option maxHeartbeats 8000000 in
set_option maxRecDepth 100000 in
theorem pochoirlaw22_CornerAsks.calls (k : Nat) (a0_0 : Int) (a0_1 : Bool) (a0_2 : Int) (a0_3 : Int) (a0_4 : Int) (a0_5 : Int) (a0_6 : Int) (a0_7 : Int) (a1_0 : Int) (a1_1 : Bool) (a1_2 : Int) (a1_3 : Int) (a1_4 : Int) (a1_5 : Int) (a1_6 : Int) (a1_7 : Int) (r : Bool) (w : World) (hq_ : r = true) (h : pochoirlaw22_CornerAsks.f k a0_0 a0_1 a0_2 a0_3 a0_4 a0_5 a0_6 a0_7 a1_0 a1_1 a1_2 a1_3 a1_4 a1_5 a1_6 a1_7 = some r) :
  Calls Try.prog 6 #[.agg #[.int .i64 a0_0, .bool a0_1, .int .i64 a0_2, .int .i64 a0_3, .int .i64 a0_4, .int .i64 a0_5, .int .i64 a0_6, .int .i64 a0_7], .agg #[.int .i64 a1_0, .bool a1_1, .int .i64 a1_2, .int .i64 a1_3, .int .i64 a1_4, .int .i64 a1_5, .int .i64 a1_6, .int .i64 a1_7]] w fun e w' => e = .returned (.bool r) ∧ Below w.heap.size w w' := by
 have hu38 := Try.underlying38
 have hu36 := Try.underlying36
 have HB := Aside0.mk (Below.refl w.heap.size w)
 have HQ := Aside0.mk hq_
 clear hq_
 have H : ((pochoirlaw22_awake.f k).bind fun t381 => (if t381 = true then ((corner_First.f k a0_0 a0_1 a0_2 a0_3 a0_4 a0_5 a0_6 a0_7).bind fun bt382 => ((corner_Last.f k a0_0 a0_1 a0_2 a0_3 a0_4 a0_5 a0_6 a0_7).bind fun bt386 => ((corner_Is.f k a0_0 a0_1 a0_2 a0_3 a0_4 a0_5 a0_6 a0_7 a1_0 a1_1 a1_2 a1_3 a1_4 a1_5 a1_6 a1_7).bind fun bt390 => ((pochoirref16_One.f a0_0 a0_1 a0_2 a0_3 a0_4 a0_5 a0_6 a0_7).bind fun t392 => (if t392 = true then ((pochoirref22_First.f a0_0 a0_1 a0_2 a0_3 a0_4 a0_5 a0_6 a0_7).bind fun bt393 => (if (!(bt382.1 == bt393.1) || (!(bt382.2.1 == bt393.2))) = true then (pochoirlaw22_CornerAsks.j0 k bt390.1 bt390.2 true a0_0 a0_1 a0_2 a0_3 a0_4 a0_5 a0_6 a0_7 a1_0 a1_1 a1_2 a1_3 a1_4 a1_5 a1_6 a1_7) else ((pochoirref22_Last.f a0_0 a0_1 a0_2 a0_3 a0_4 a0_5 a0_6 a0_7).bind fun bt395 => (if (!(bt386.1 == bt395.1) || (!(bt386.2.1 == bt395.2))) = true then (pochoirlaw22_CornerAsks.j0 k bt390.1 bt390.2 true a0_0 a0_1 a0_2 a0_3 a0_4 a0_5 a0_6 a0_7 a1_0 a1_1 a1_2 a1_3 a1_4 a1_5 a1_6 a1_7) else (if bt382.2.2 = 0 then (pochoirlaw22_CornerAsks.j0 k bt390.1 bt390.2 (bt386.2.2 != 0) a0_0 a0_1 a0_2 a0_3 a0_4 a0_5 a0_6 a0_7 a1_0 a1_1 a1_2 a1_3 a1_4 a1_5 a1_6 a1_7) else (pochoirlaw22_CornerAsks.j0 k bt390.1 bt390.2 true a0_0 a0_1 a0_2 a0_3 a0_4 a0_5 a0_6 a0_7 a1_0 a1_1 a1_2 a1_3 a1_4 a1_5 a1_6 a1_7)))))) else (if (bt382.1 == 0 && (bt382.2.1 == 0)) = true then (if (bt386.1 == 0 && (bt386.2.1 == 0)) = true then (if bt382.2.2 = 1 then (if bt386.2.2 = 1 then (if bt390.1 = true then (some false) else (some (bt390.2 == 1))) else (some false)) else (some false)) else (some false)) else (some false))))))) else (some false))) = some r := h
 clear h
 replace H := Option.bind_eq_some_iff.mp H
 obtain ⟨t381, A30, H⟩ := H
 replace H : (if t381 = true then ((corner_First.f k a0_0 a0_1 a0_2 a0_3 a0_4 a0_5 a0_6 a0_7).bind fun bt382 => ((corner_Last.f k a0_0 a0_1 a0_2 a0_3 a0_4 a0_5 a0_6 a0_7).bind fun bt386 => ((corner_Is.f k a0_0 a0_1 a0_2 a0_3 a0_4 a0_5 a0_6 a0_7 a1_0 a1_1 a1_2 a1_3 a1_4 a1_5 a1_6 a1_7).bind fun bt390 => ((pochoirref16_One.f a0_0 a0_1 a0_2 a0_3 a0_4 a0_5 a0_6 a0_7).bind fun t392 => (if t392 = true then ((pochoirref22_First.f a0_0 a0_1 a0_2 a0_3 a0_4 a0_5 a0_6 a0_7).bind fun bt393 => (if (!(bt382.1 == bt393.1) || (!(bt382.2.1 == bt393.2))) = true then (pochoirlaw22_CornerAsks.j0 k bt390.1 bt390.2 true a0_0 a0_1 a0_2 a0_3 a0_4 a0_5 a0_6 a0_7 a1_0 a1_1 a1_2 a1_3 a1_4 a1_5 a1_6 a1_7) else ((pochoirref22_Last.f a0_0 a0_1 a0_2 a0_3 a0_4 a0_5 a0_6 a0_7).bind fun bt395 => (if (!(bt386.1 == bt395.1) || (!(bt386.2.1 == bt395.2))) = true then (pochoirlaw22_CornerAsks.j0 k bt390.1 bt390.2 true a0_0 a0_1 a0_2 a0_3 a0_4 a0_5 a0_6 a0_7 a1_0 a1_1 a1_2 a1_3 a1_4 a1_5 a1_6 a1_7) else (if bt382.2.2 = 0 then (pochoirlaw22_CornerAsks.j0 k bt390.1 bt390.2 (bt386.2.2 != 0) a0_0 a0_1 a0_2 a0_3 a0_4 a0_5 a0_6 a0_7 a1_0 a1_1 a1_2 a1_3 a1_4 a1_5 a1_6 a1_7) else (pochoirlaw22_CornerAsks.j0 k bt390.1 bt390.2 true a0_0 a0_1 a0_2 a0_3 a0_4 a0_5 a0_6 a0_7 a1_0 a1_1 a1_2 a1_3 a1_4 a1_5 a1_6 a1_7)))))) else (if (bt382.1 == 0 && (bt382.2.1 == 0)) = true then (if (bt386.1 == 0 && (bt386.2.1 == 0)) = true then (if bt382.2.2 = 1 then (if bt386.2.2 = 1 then (if bt390.1 = true then (some false) else (some (bt390.2 == 1))) else (some false)) else (some false)) else (some false)) else (some false))))))) else (some false)) = some r := H
 have A3 := Aside0.mk A30
 clear A30
 by_cases c4 : t381 = true
 ·subst c4
  have H1 : ((corner_First.f k a0_0 a0_1 a0_2 a0_3 a0_4 a0_5 a0_6 a0_7).bind fun bt382 => ((corner_Last.f k a0_0 a0_1 a0_2 a0_3 a0_4 a0_5 a0_6 a0_7).bind fun bt386 => ((corner_Is.f k a0_0 a0_1 a0_2 a0_3 a0_4 a0_5 a0_6 a0_7 a1_0 a1_1 a1_2 a1_3 a1_4 a1_5 a1_6 a1_7).bind fun bt390 => ((pochoirref16_One.f a0_0 a0_1 a0_2 a0_3 a0_4 a0_5 a0_6 a0_7).bind fun t392 => (if t392 = true then ((pochoirref22_First.f a0_0 a0_1 a0_2 a0_3 a0_4 a0_5 a0_6 a0_7).bind fun bt393 => (if (!(bt382.1 == bt393.1) || (!(bt382.2.1 == bt393.2))) = true then (pochoirlaw22_CornerAsks.j0 k bt390.1 bt390.2 true a0_0 a0_1 a0_2 a0_3 a0_4 a0_5 a0_6 a0_7 a1_0 a1_1 a1_2 a1_3 a1_4 a1_5 a1_6 a1_7) else ((pochoirref22_Last.f a0_0 a0_1 a0_2 a0_3 a0_4 a0_5 a0_6 a0_7).bind fun bt395 => (if (!(bt386.1 == bt395.1) || (!(bt386.2.1 == bt395.2))) = true then (pochoirlaw22_CornerAsks.j0 k bt390.1 bt390.2 true a0_0 a0_1 a0_2 a0_3 a0_4 a0_5 a0_6 a0_7 a1_0 a1_1 a1_2 a1_3 a1_4 a1_5 a1_6 a1_7) else (if bt382.2.2 = 0 then (pochoirlaw22_CornerAsks.j0 k bt390.1 bt390.2 (bt386.2.2 != 0) a0_0 a0_1 a0_2 a0_3 a0_4 a0_5 a0_6 a0_7 a1_0 a1_1 a1_2 a1_3 a1_4 a1_5 a1_6 a1_7) else (pochoirlaw22_CornerAsks.j0 k bt390.1 bt390.2 true a0_0 a0_1 a0_2 a0_3 a0_4 a0_5 a0_6 a0_7 a1_0 a1_1 a1_2 a1_3 a1_4 a1_5 a1_6 a1_7)))))) else (if (bt382.1 == 0 && (bt382.2.1 == 0)) = true then (if (bt386.1 == 0 && (bt386.2.1 == 0)) = true then (if bt382.2.2 = 1 then (if bt386.2.2 = 1 then (if bt390.1 = true then (some false) else (some (bt390.2 == 1))) else (some false)) else (some false)) else (some false)) else (some false))))))) = some r := by rw [if_pos rfl] at H; exact H
  clear H
  have H := H1
  clear H1
  replace H := Option.bind_eq_some_iff.mp H
  obtain ⟨⟨t382, t383, t384⟩, A50, H⟩ := H
  replace H : ((corner_Last.f k a0_0 a0_1 a0_2 a0_3 a0_4 a0_5 a0_6 a0_7).bind fun bt386 => ((corner_Is.f k a0_0 a0_1 a0_2 a0_3 a0_4 a0_5 a0_6 a0_7 a1_0 a1_1 a1_2 a1_3 a1_4 a1_5 a1_6 a1_7).bind fun bt390 => ((pochoirref16_One.f a0_0 a0_1 a0_2 a0_3 a0_4 a0_5 a0_6 a0_7).bind fun t392 => (if t392 = true then ((pochoirref22_First.f a0_0 a0_1 a0_2 a0_3 a0_4 a0_5 a0_6 a0_7).bind fun bt393 => (if (!(t382 == bt393.1) || (!(t383 == bt393.2))) = true then (pochoirlaw22_CornerAsks.j0 k bt390.1 bt390.2 true a0_0 a0_1 a0_2 a0_3 a0_4 a0_5 a0_6 a0_7 a1_0 a1_1 a1_2 a1_3 a1_4 a1_5 a1_6 a1_7) else ((pochoirref22_Last.f a0_0 a0_1 a0_2 a0_3 a0_4 a0_5 a0_6 a0_7).bind fun bt395 => (if (!(bt386.1 == bt395.1) || (!(bt386.2.1 == bt395.2))) = true then (pochoirlaw22_CornerAsks.j0 k bt390.1 bt390.2 true a0_0 a0_1 a0_2 a0_3 a0_4 a0_5 a0_6 a0_7 a1_0 a1_1 a1_2 a1_3 a1_4 a1_5 a1_6 a1_7) else (if t384 = 0 then (pochoirlaw22_CornerAsks.j0 k bt390.1 bt390.2 (bt386.2.2 != 0) a0_0 a0_1 a0_2 a0_3 a0_4 a0_5 a0_6 a0_7 a1_0 a1_1 a1_2 a1_3 a1_4 a1_5 a1_6 a1_7) else (pochoirlaw22_CornerAsks.j0 k bt390.1 bt390.2 true a0_0 a0_1 a0_2 a0_3 a0_4 a0_5 a0_6 a0_7 a1_0 a1_1 a1_2 a1_3 a1_4 a1_5 a1_6 a1_7)))))) else (if (t382 == 0 && (t383 == 0)) = true then (if (bt386.1 == 0 && (bt386.2.1 == 0)) = true then (if t384 = 1 then (if bt386.2.2 = 1 then (if bt390.1 = true then (some false) else (some (bt390.2 == 1))) else (some false)) else (some false)) else (some false)) else (some false)))))) = some r := H
  have A5 := Aside0.mk A50
  clear A50
  replace H := Option.bind_eq_some_iff.mp H
  obtain ⟨⟨t386, t387, t388⟩, A60, H⟩ := H
  replace H : ((corner_Is.f k a0_0 a0_1 a0_2 a0_3 a0_4 a0_5 a0_6 a0_7 a1_0 a1_1 a1_2 a1_3 a1_4 a1_5 a1_6 a1_7).bind fun bt390 => ((pochoirref16_One.f a0_0 a0_1 a0_2 a0_3 a0_4 a0_5 a0_6 a0_7).bind fun t392 => (if t392 = true then ((pochoirref22_First.f a0_0 a0_1 a0_2 a0_3 a0_4 a0_5 a0_6 a0_7).bind fun bt393 => (if (!(t382 == bt393.1) || (!(t383 == bt393.2))) = true then (pochoirlaw22_CornerAsks.j0 k bt390.1 bt390.2 true a0_0 a0_1 a0_2 a0_3 a0_4 a0_5 a0_6 a0_7 a1_0 a1_1 a1_2 a1_3 a1_4 a1_5 a1_6 a1_7) else ((pochoirref22_Last.f a0_0 a0_1 a0_2 a0_3 a0_4 a0_5 a0_6 a0_7).bind fun bt395 => (if (!(t386 == bt395.1) || (!(t387 == bt395.2))) = true then (pochoirlaw22_CornerAsks.j0 k bt390.1 bt390.2 true a0_0 a0_1 a0_2 a0_3 a0_4 a0_5 a0_6 a0_7 a1_0 a1_1 a1_2 a1_3 a1_4 a1_5 a1_6 a1_7) else (if t384 = 0 then (pochoirlaw22_CornerAsks.j0 k bt390.1 bt390.2 (t388 != 0) a0_0 a0_1 a0_2 a0_3 a0_4 a0_5 a0_6 a0_7 a1_0 a1_1 a1_2 a1_3 a1_4 a1_5 a1_6 a1_7) else (pochoirlaw22_CornerAsks.j0 k bt390.1 bt390.2 true a0_0 a0_1 a0_2 a0_3 a0_4 a0_5 a0_6 a0_7 a1_0 a1_1 a1_2 a1_3 a1_4 a1_5 a1_6 a1_7)))))) else (if (t382 == 0 && (t383 == 0)) = true then (if (t386 == 0 && (t387 == 0)) = true then (if t384 = 1 then (if t388 = 1 then (if bt390.1 = true then (some false) else (some (bt390.2 == 1))) else (some false)) else (some false)) else (some false)) else (some false))))) = some r := H
  have A6 := Aside0.mk A60
  clear A60
  replace H := Option.bind_eq_some_iff.mp H
  obtain ⟨⟨t390, t391⟩, A70, H⟩ := H
  replace H : ((pochoirref16_One.f a0_0 a0_1 a0_2 a0_3 a0_4 a0_5 a0_6 a0_7).bind fun t392 => (if t392 = true then ((pochoirref22_First.f a0_0 a0_1 a0_2 a0_3 a0_4 a0_5 a0_6 a0_7).bind fun bt393 => (if (!(t382 == bt393.1) || (!(t383 == bt393.2))) = true then (pochoirlaw22_CornerAsks.j0 k t390 t391 true a0_0 a0_1 a0_2 a0_3 a0_4 a0_5 a0_6 a0_7 a1_0 a1_1 a1_2 a1_3 a1_4 a1_5 a1_6 a1_7) else ((pochoirref22_Last.f a0_0 a0_1 a0_2 a0_3 a0_4 a0_5 a0_6 a0_7).bind fun bt395 => (if (!(t386 == bt395.1) || (!(t387 == bt395.2))) = true then (pochoirlaw22_CornerAsks.j0 k t390 t391 true a0_0 a0_1 a0_2 a0_3 a0_4 a0_5 a0_6 a0_7 a1_0 a1_1 a1_2 a1_3 a1_4 a1_5 a1_6 a1_7) else (if t384 = 0 then (pochoirlaw22_CornerAsks.j0 k t390 t391 (t388 != 0) a0_0 a0_1 a0_2 a0_3 a0_4 a0_5 a0_6 a0_7 a1_0 a1_1 a1_2 a1_3 a1_4 a1_5 a1_6 a1_7) else (pochoirlaw22_CornerAsks.j0 k t390 t391 true a0_0 a0_1 a0_2 a0_3 a0_4 a0_5 a0_6 a0_7 a1_0 a1_1 a1_2 a1_3 a1_4 a1_5 a1_6 a1_7)))))) else (if (t382 == 0 && (t383 == 0)) = true then (if (t386 == 0 && (t387 == 0)) = true then (if t384 = 1 then (if t388 = 1 then (if t390 = true then (some false) else (some (t391 == 1))) else (some false)) else (some false)) else (some false)) else (some false)))) = some r := H
  have A7 := Aside0.mk A70
  clear A70
  replace H := Option.bind_eq_some_iff.mp H
  obtain ⟨t392, A80, H⟩ := H
  replace H : (if t392 = true then ((pochoirref22_First.f a0_0 a0_1 a0_2 a0_3 a0_4 a0_5 a0_6 a0_7).bind fun bt393 => (if (!(t382 == bt393.1) || (!(t383 == bt393.2))) = true then (pochoirlaw22_CornerAsks.j0 k t390 t391 true a0_0 a0_1 a0_2 a0_3 a0_4 a0_5 a0_6 a0_7 a1_0 a1_1 a1_2 a1_3 a1_4 a1_5 a1_6 a1_7) else ((pochoirref22_Last.f a0_0 a0_1 a0_2 a0_3 a0_4 a0_5 a0_6 a0_7).bind fun bt395 => (if (!(t386 == bt395.1) || (!(t387 == bt395.2))) = true then (pochoirlaw22_CornerAsks.j0 k t390 t391 true a0_0 a0_1 a0_2 a0_3 a0_4 a0_5 a0_6 a0_7 a1_0 a1_1 a1_2 a1_3 a1_4 a1_5 a1_6 a1_7) else (if t384 = 0 then (pochoirlaw22_CornerAsks.j0 k t390 t391 (t388 != 0) a0_0 a0_1 a0_2 a0_3 a0_4 a0_5 a0_6 a0_7 a1_0 a1_1 a1_2 a1_3 a1_4 a1_5 a1_6 a1_7) else (pochoirlaw22_CornerAsks.j0 k t390 t391 true a0_0 a0_1 a0_2 a0_3 a0_4 a0_5 a0_6 a0_7 a1_0 a1_1 a1_2 a1_3 a1_4 a1_5 a1_6 a1_7)))))) else (if (t382 == 0 && (t383 == 0)) = true then (if (t386 == 0 && (t387 == 0)) = true then (if t384 = 1 then (if t388 = 1 then (if t390 = true then (some false) else (some (t391 == 1))) else (some false)) else (some false)) else (some false)) else (some false))) = some r := H
  have A8 := Aside0.mk A80
  clear A80
  by_cases c9 : t392 = true
  ·subst c9
   have H1 : ((pochoirref22_First.f a0_0 a0_1 a0_2 a0_3 a0_4 a0_5 a0_6 a0_7).bind fun bt393 => (if (!(t382 == bt393.1) || (!(t383 == bt393.2))) = true then (pochoirlaw22_CornerAsks.j0 k t390 t391 true a0_0 a0_1 a0_2 a0_3 a0_4 a0_5 a0_6 a0_7 a1_0 a1_1 a1_2 a1_3 a1_4 a1_5 a1_6 a1_7) else ((pochoirref22_Last.f a0_0 a0_1 a0_2 a0_3 a0_4 a0_5 a0_6 a0_7).bind fun bt395 => (if (!(t386 == bt395.1) || (!(t387 == bt395.2))) = true then (pochoirlaw22_CornerAsks.j0 k t390 t391 true a0_0 a0_1 a0_2 a0_3 a0_4 a0_5 a0_6 a0_7 a1_0 a1_1 a1_2 a1_3 a1_4 a1_5 a1_6 a1_7) else (if t384 = 0 then (pochoirlaw22_CornerAsks.j0 k t390 t391 (t388 != 0) a0_0 a0_1 a0_2 a0_3 a0_4 a0_5 a0_6 a0_7 a1_0 a1_1 a1_2 a1_3 a1_4 a1_5 a1_6 a1_7) else (pochoirlaw22_CornerAsks.j0 k t390 t391 true a0_0 a0_1 a0_2 a0_3 a0_4 a0_5 a0_6 a0_7 a1_0 a1_1 a1_2 a1_3 a1_4 a1_5 a1_6 a1_7)))))) = some r := by rw [if_pos rfl] at H; exact H
   clear H
   have H := H1
   clear H1
   have HC10 := Aside0.mk H
   clear H
   go_enter Try.func6, Try.ntmps6
   go_upto_region 8 with (first | ((with_reducible refine gate_dst (N := 2) rfl ?_); refine be 2 (#[.int .i64 a0_0, .bool a0_1, .int .i64 a0_2, .int .i64 a0_3, .int .i64 a0_4, .int .i64 a0_5, .int .i64 a0_6, .int .i64 a0_7]) 38 ?_; intro gb379 hg w11 hbox hb; have BK379 := Aside0.mk (hbox); have GW379 := Aside0.mk ((by rw [hg]; exact (below_size (bl0 HB.out)) : w.heap.size ≤ gb379)); have GE379 := GW379; replace HB := Aside0.mk (below_step (bl0 HB.out) hb); clear hb hbox hg) | ((with_reducible refine gate_dst (N := 3) rfl ?_); refine be 3 (#[.int .i64 a1_0, .bool a1_1, .int .i64 a1_2, .int .i64 a1_3, .int .i64 a1_4, .int .i64 a1_5, .int .i64 a1_6, .int .i64 a1_7]) 38 ?_; intro gb380 hg w12 hbox hb; have BK380 := Aside0.mk (hbox); have GW380 := Aside0.mk ((by rw [hg]; exact (below_size (bl1 HB.out GE379.out)) : w.heap.size ≤ gb380)); have GE380 := GW380; have NB379_380 := Aside0.mk ((by rw [hg]; exact Nat.ne_of_lt (lt_ BK379.out) : gb379 ≠ gb380)); have NB380_379 := Aside0.mk ((by rw [hg]; exact Nat.ne_of_gt (lt_ BK379.out) : gb380 ≠ gb379)); replace BK379 := Aside0.mk (bb BK379.out hb); replace HB := Aside0.mk (below_step (bl1 HB.out GE379.out) hb); clear hb hbox hg) | ((with_reducible refine gate_callee (f := 12) rfl ?_); refine goesL_ (some 11) rfl rfl Try.func12 (by kernel_rfl) rfl #[] rfl am ?_; (with_reducible refine (pochoirlaw22_awake.calls k  true _ rfl A3.out).mono ?_); rintro e w13 ⟨rfl, hb⟩; refine ⟨_, rfl, ?_⟩; replace BK379 := Aside0.mk (bb BK379.out hb); replace BK380 := Aside0.mk (bb BK380.out hb); replace HB := Aside0.mk (below_step (bl2 HB.out GE379.out GE380.out) hb); (try clear hb); (try clear hb2); (try clear hk); (try clear hi); have hnb14 := NB379_380.out; have hnc14 := NB380_379.out; have hcz15_0 : w13.cell? ⟨gb379, 0, none⟩ = some (.int .i64 a0_0) := (blk_cell BK379.out 0).trans rfl; have hcz15_1 : w13.cell? ⟨gb379, 1, none⟩ = some (.bool a0_1) := (blk_cell BK379.out 1).trans rfl; have hcz15_2 : w13.cell? ⟨gb379, 2, none⟩ = some (.int .i64 a0_2) := (blk_cell BK379.out 2).trans rfl; have hcz15_3 : w13.cell? ⟨gb379, 3, none⟩ = some (.int .i64 a0_3) := (blk_cell BK379.out 3).trans rfl; have hcz15_4 : w13.cell? ⟨gb379, 4, none⟩ = some (.int .i64 a0_4) := (blk_cell BK379.out 4).trans rfl; have hcz15_5 : w13.cell? ⟨gb379, 5, none⟩ = some (.int .i64 a0_5) := (blk_cell BK379.out 5).trans rfl; have hcz15_6 : w13.cell? ⟨gb379, 6, none⟩ = some (.int .i64 a0_6) := (blk_cell BK379.out 6).trans rfl; have hcz15_7 : w13.cell? ⟨gb379, 7, none⟩ = some (.int .i64 a0_7) := (blk_cell BK379.out 7).trans rfl; have hfz15_0 := blk_frozen BK379.out 0; have hfz15_1 := blk_frozen BK379.out 1; have hfz15_2 := blk_frozen BK379.out 2; have hfz15_3 := blk_frozen BK379.out 3; have hfz15_4 := blk_frozen BK379.out 4; have hfz15_5 := blk_frozen BK379.out 5; have hfz15_6 := blk_frozen BK379.out 6; have hfz15_7 := blk_frozen BK379.out 7) | ((with_reducible refine gate_callee (f := 26) rfl ?_); refine goesL_ (some 15) rfl rfl Try.func26 (by kernel_rfl) rfl #[.agg #[.int .i64 a0_0, .bool a0_1, .int .i64 a0_2, .int .i64 a0_3, .int .i64 a0_4, .int .i64 a0_5, .int .i64 a0_6, .int .i64 a0_7]] rfl am ?_; (with_reducible refine (corner_First.calls k a0_0 a0_1 a0_2 a0_3 a0_4 a0_5 a0_6 a0_7 t382 t383 t384 _ A5.out).mono ?_); rintro e w16 ⟨rfl, hb⟩; refine ⟨_, rfl, ?_⟩; replace BK379 := Aside0.mk (bb BK379.out hb); replace BK380 := Aside0.mk (bb BK380.out hb); replace HB := Aside0.mk (below_step (bl2 HB.out GE379.out GE380.out) hb); (try clear hb); (try clear hb2); (try clear hk); (try clear hi)) | ((with_reducible refine gate_dst (N := 5) rfl ?_); refine be 5 (#[.int .i64 0, .int .i64 0]) 36 ?_; intro gb385 hg w17 hbox hb; have BK385 := Aside0.mk (hbox); have GW385 := Aside0.mk ((by rw [hg]; exact (below_size (bl2 HB.out GE379.out GE380.out)) : w.heap.size ≤ gb385)); have GE385 := GW385; have NB379_385 := Aside0.mk ((by rw [hg]; exact Nat.ne_of_lt (lt_ BK379.out) : gb379 ≠ gb385)); have NB385_379 := Aside0.mk ((by rw [hg]; exact Nat.ne_of_gt (lt_ BK379.out) : gb385 ≠ gb379)); have NB380_385 := Aside0.mk ((by rw [hg]; exact Nat.ne_of_lt (lt_ BK380.out) : gb380 ≠ gb385)); have NB385_380 := Aside0.mk ((by rw [hg]; exact Nat.ne_of_gt (lt_ BK380.out) : gb385 ≠ gb380)); replace BK379 := Aside0.mk (bb BK379.out hb); replace BK380 := Aside0.mk (bb BK380.out hb); replace HB := Aside0.mk (below_step (bl2 HB.out GE379.out GE380.out) hb); clear hb hbox hg; have hnb18 := NB385_379.out; have hnc18 := NB379_385.out; have hnb19 := NB385_380.out; have hnc19 := NB380_385.out; have hcz20_0 : w17.cell? ⟨gb385, 0, none⟩ = some (.int .i64 0) := (blk_cell BK385.out 0).trans rfl; have hcz20_1 : w17.cell? ⟨gb385, 1, none⟩ = some (.int .i64 0) := (blk_cell BK385.out 1).trans rfl; have hfz20_0 := blk_frozen BK385.out 0; have hfz20_1 := blk_frozen BK385.out 1; have hcz21_0 : w17.cell? ⟨gb379, 0, none⟩ = some (.int .i64 a0_0) := (blk_cell BK379.out 0).trans rfl; have hcz21_1 : w17.cell? ⟨gb379, 1, none⟩ = some (.bool a0_1) := (blk_cell BK379.out 1).trans rfl; have hcz21_2 : w17.cell? ⟨gb379, 2, none⟩ = some (.int .i64 a0_2) := (blk_cell BK379.out 2).trans rfl; have hcz21_3 : w17.cell? ⟨gb379, 3, none⟩ = some (.int .i64 a0_3) := (blk_cell BK379.out 3).trans rfl; have hcz21_4 : w17.cell? ⟨gb379, 4, none⟩ = some (.int .i64 a0_4) := (blk_cell BK379.out 4).trans rfl; have hcz21_5 : w17.cell? ⟨gb379, 5, none⟩ = some (.int .i64 a0_5) := (blk_cell BK379.out 5).trans rfl; have hcz21_6 : w17.cell? ⟨gb379, 6, none⟩ = some (.int .i64 a0_6) := (blk_cell BK379.out 6).trans rfl; have hcz21_7 : w17.cell? ⟨gb379, 7, none⟩ = some (.int .i64 a0_7) := (blk_cell BK379.out 7).trans rfl; have hfz21_0 := blk_frozen BK379.out 0; have hfz21_1 := blk_frozen BK379.out 1; have hfz21_2 := blk_frozen BK379.out 2; have hfz21_3 := blk_frozen BK379.out 3; have hfz21_4 := blk_frozen BK379.out 4; have hfz21_5 := blk_frozen BK379.out 5; have hfz21_6 := blk_frozen BK379.out 6; have hfz21_7 := blk_frozen BK379.out 7) | ((with_reducible refine gate_callee (f := 27) rfl ?_); refine goesL_ (some 20) rfl rfl Try.func27 (by kernel_rfl) rfl #[.agg #[.int .i64 a0_0, .bool a0_1, .int .i64 a0_2, .int .i64 a0_3, .int .i64 a0_4, .int .i64 a0_5, .int .i64 a0_6, .int .i64 a0_7]] rfl am ?_; (with_reducible refine (corner_Last.calls k a0_0 a0_1 a0_2 a0_3 a0_4 a0_5 a0_6 a0_7 t386 t387 t388 _ A6.out).mono ?_); rintro e w22 ⟨rfl, hb⟩; refine ⟨_, rfl, ?_⟩; replace BK379 := Aside0.mk (blk_below (g := gb379) (o := .cells #[.int .i64 a0_0, .bool a0_1, .int .i64 a0_2, .int .i64 a0_3, .int .i64 a0_4, .int .i64 a0_5, .int .i64 a0_6, .int .i64 a0_7] 38 (0, 0)) (by (with_reducible repeat (first | refine blk_drewN ?_ _ | refine blk_drew ?_ | refine blk_alloc ?_ _)); refine blk_far ?_ NB379_385.out _; (with_reducible repeat (first | refine blk_drewN ?_ _ | refine blk_drew ?_ | refine blk_alloc ?_ _)); refine blk_far ?_ NB379_385.out _; (with_reducible repeat (first | refine blk_drewN ?_ _ | refine blk_drew ?_ | refine blk_alloc ?_ _)); exact BK379.out) hb); replace BK380 := Aside0.mk (blk_below (g := gb380) (o := .cells #[.int .i64 a1_0, .bool a1_1, .int .i64 a1_2, .int .i64 a1_3, .int .i64 a1_4, .int .i64 a1_5, .int .i64 a1_6, .int .i64 a1_7] 38 (0, 0)) (by (with_reducible repeat (first | refine blk_drewN ?_ _ | refine blk_drew ?_ | refine blk_alloc ?_ _)); refine blk_far ?_ NB380_385.out _; (with_reducible repeat (first | refine blk_drewN ?_ _ | refine blk_drew ?_ | refine blk_alloc ?_ _)); refine blk_far ?_ NB380_385.out _; (with_reducible repeat (first | refine blk_drewN ?_ _ | refine blk_drew ?_ | refine blk_alloc ?_ _)); exact BK380.out) hb); replace BK385 := Aside0.mk (blk_below (g := gb385) (o := .cells #[.int .i64 t382, .int .i64 t383] 36 (0, 0)) (by (with_reducible repeat (first | refine blk_drewN ?_ _ | refine blk_drew ?_ | refine blk_alloc ?_ _)); refine blk_put (cs := #[.int .i64 t382, .int .i64 0]) ?_ 1 _ rfl; (with_reducible repeat (first | refine blk_drewN ?_ _ | refine blk_drew ?_ | refine blk_alloc ?_ _)); refine blk_put (cs := #[.int .i64 0, .int .i64 0]) ?_ 0 _ rfl; (with_reducible repeat (first | refine blk_drewN ?_ _ | refine blk_drew ?_ | refine blk_alloc ?_ _)); exact BK385.out) hb); replace HB := Aside0.mk (below_step (bl3 HB.out GE379.out GE380.out GE385.out) hb); (try clear hb); (try clear hb2); (try clear hk); (try clear hi)) | ((with_reducible refine gate_dst (N := 7) rfl ?_); refine be 7 (#[.int .i64 0, .int .i64 0]) 36 ?_; intro gb389 hg w23 hbox hb; have BK389 := Aside0.mk (hbox); have GW389 := Aside0.mk ((by rw [hg]; exact (below_size (bl3 HB.out GE379.out GE380.out GE385.out)) : w.heap.size ≤ gb389)); have GE389 := GW389; have NB379_389 := Aside0.mk ((by rw [hg]; exact Nat.ne_of_lt (lt_ BK379.out) : gb379 ≠ gb389)); have NB389_379 := Aside0.mk ((by rw [hg]; exact Nat.ne_of_gt (lt_ BK379.out) : gb389 ≠ gb379)); have NB380_389 := Aside0.mk ((by rw [hg]; exact Nat.ne_of_lt (lt_ BK380.out) : gb380 ≠ gb389)); have NB389_380 := Aside0.mk ((by rw [hg]; exact Nat.ne_of_gt (lt_ BK380.out) : gb389 ≠ gb380)); have NB385_389 := Aside0.mk ((by rw [hg]; exact Nat.ne_of_lt (lt_ BK385.out) : gb385 ≠ gb389)); have NB389_385 := Aside0.mk ((by rw [hg]; exact Nat.ne_of_gt (lt_ BK385.out) : gb389 ≠ gb385)); replace BK379 := Aside0.mk (bb BK379.out hb); replace BK380 := Aside0.mk (bb BK380.out hb); replace BK385 := Aside0.mk (bb BK385.out hb); replace HB := Aside0.mk (below_step (bl3 HB.out GE379.out GE380.out GE385.out) hb); clear hb hbox hg; have hnb24 := NB389_379.out; have hnc24 := NB379_389.out; have hnb25 := NB389_380.out; have hnc25 := NB380_389.out; have hnb26 := NB389_385.out; have hnc26 := NB385_389.out; have hcz27_0 : w23.cell? ⟨gb389, 0, none⟩ = some (.int .i64 0) := (blk_cell BK389.out 0).trans rfl; have hcz27_1 : w23.cell? ⟨gb389, 1, none⟩ = some (.int .i64 0) := (blk_cell BK389.out 1).trans rfl; have hfz27_0 := blk_frozen BK389.out 0; have hfz27_1 := blk_frozen BK389.out 1; have hcz28_0 : w23.cell? ⟨gb379, 0, none⟩ = some (.int .i64 a0_0) := (blk_cell BK379.out 0).trans rfl; have hcz28_1 : w23.cell? ⟨gb379, 1, none⟩ = some (.bool a0_1) := (blk_cell BK379.out 1).trans rfl; have hcz28_2 : w23.cell? ⟨gb379, 2, none⟩ = some (.int .i64 a0_2) := (blk_cell BK379.out 2).trans rfl; have hcz28_3 : w23.cell? ⟨gb379, 3, none⟩ = some (.int .i64 a0_3) := (blk_cell BK379.out 3).trans rfl; have hcz28_4 : w23.cell? ⟨gb379, 4, none⟩ = some (.int .i64 a0_4) := (blk_cell BK379.out 4).trans rfl; have hcz28_5 : w23.cell? ⟨gb379, 5, none⟩ = some (.int .i64 a0_5) := (blk_cell BK379.out 5).trans rfl; have hcz28_6 : w23.cell? ⟨gb379, 6, none⟩ = some (.int .i64 a0_6) := (blk_cell BK379.out 6).trans rfl; have hcz28_7 : w23.cell? ⟨gb379, 7, none⟩ = some (.int .i64 a0_7) := (blk_cell BK379.out 7).trans rfl; have hfz28_0 := blk_frozen BK379.out 0; have hfz28_1 := blk_frozen BK379.out 1; have hfz28_2 := blk_frozen BK379.out 2; have hfz28_3 := blk_frozen BK379.out 3; have hfz28_4 := blk_frozen BK379.out 4; have hfz28_5 := blk_frozen BK379.out 5; have hfz28_6 := blk_frozen BK379.out 6; have hfz28_7 := blk_frozen BK379.out 7; have hcz29_0 : w23.cell? ⟨gb380, 0, none⟩ = some (.int .i64 a1_0) := (blk_cell BK380.out 0).trans rfl; have hcz29_1 : w23.cell? ⟨gb380, 1, none⟩ = some (.bool a1_1) := (blk_cell BK380.out 1).trans rfl; have hcz29_2 : w23.cell? ⟨gb380, 2, none⟩ = some (.int .i64 a1_2) := (blk_cell BK380.out 2).trans rfl; have hcz29_3 : w23.cell? ⟨gb380, 3, none⟩ = some (.int .i64 a1_3) := (blk_cell BK380.out 3).trans rfl; have hcz29_4 : w23.cell? ⟨gb380, 4, none⟩ = some (.int .i64 a1_4) := (blk_cell BK380.out 4).trans rfl; have hcz29_5 : w23.cell? ⟨gb380, 5, none⟩ = some (.int .i64 a1_5) := (blk_cell BK380.out 5).trans rfl; have hcz29_6 : w23.cell? ⟨gb380, 6, none⟩ = some (.int .i64 a1_6) := (blk_cell BK380.out 6).trans rfl; have hcz29_7 : w23.cell? ⟨gb380, 7, none⟩ = some (.int .i64 a1_7) := (blk_cell BK380.out 7).trans rfl; have hfz29_0 := blk_frozen BK380.out 0; have hfz29_1 := blk_frozen BK380.out 1; have hfz29_2 := blk_frozen BK380.out 2; have hfz29_3 := blk_frozen BK380.out 3; have hfz29_4 := blk_frozen BK380.out 4; have hfz29_5 := blk_frozen BK380.out 5; have hfz29_6 := blk_frozen BK380.out 6; have hfz29_7 := blk_frozen BK380.out 7) | ((with_reducible refine gate_callee (f := 18) rfl ?_); refine goesL_ (some 26) rfl rfl Try.func18 (by kernel_rfl) rfl #[.agg #[.int .i64 a0_0, .bool a0_1, .int .i64 a0_2, .int .i64 a0_3, .int .i64 a0_4, .int .i64 a0_5, .int .i64 a0_6, .int .i64 a0_7], .agg #[.int .i64 a1_0, .bool a1_1, .int .i64 a1_2, .int .i64 a1_3, .int .i64 a1_4, .int .i64 a1_5, .int .i64 a1_6, .int .i64 a1_7]] rfl am ?_; (with_reducible refine (corner_Is.calls k a0_0 a0_1 a0_2 a0_3 a0_4 a0_5 a0_6 a0_7 a1_0 a1_1 a1_2 a1_3 a1_4 a1_5 a1_6 a1_7 t390 t391 _ A7.out).mono ?_); rintro e w30 ⟨rfl, hb⟩; refine ⟨_, rfl, ?_⟩; replace BK379 := Aside0.mk (blk_below (g := gb379) (o := .cells #[.int .i64 a0_0, .bool a0_1, .int .i64 a0_2, .int .i64 a0_3, .int .i64 a0_4, .int .i64 a0_5, .int .i64 a0_6, .int .i64 a0_7] 38 (0, 0)) (by (with_reducible repeat (first | refine blk_drewN ?_ _ | refine blk_drew ?_ | refine blk_alloc ?_ _)); refine blk_far ?_ NB379_389.out _; (with_reducible repeat (first | refine blk_drewN ?_ _ | refine blk_drew ?_ | refine blk_alloc ?_ _)); refine blk_far ?_ NB379_389.out _; (with_reducible repeat (first | refine blk_drewN ?_ _ | refine blk_drew ?_ | refine blk_alloc ?_ _)); exact BK379.out) hb); replace BK380 := Aside0.mk (blk_below (g := gb380) (o := .cells #[.int .i64 a1_0, .bool a1_1, .int .i64 a1_2, .int .i64 a1_3, .int .i64 a1_4, .int .i64 a1_5, .int .i64 a1_6, .int .i64 a1_7] 38 (0, 0)) (by (with_reducible repeat (first | refine blk_drewN ?_ _ | refine blk_drew ?_ | refine blk_alloc ?_ _)); refine blk_far ?_ NB380_389.out _; (with_reducible repeat (first | refine blk_drewN ?_ _ | refine blk_drew ?_ | refine blk_alloc ?_ _)); refine blk_far ?_ NB380_389.out _; (with_reducible repeat (first | refine blk_drewN ?_ _ | refine blk_drew ?_ | refine blk_alloc ?_ _)); exact BK380.out) hb); replace BK385 := Aside0.mk (blk_below (g := gb385) (o := .cells #[.int .i64 t382, .int .i64 t383] 36 (0, 0)) (by (with_reducible repeat (first | refine blk_drewN ?_ _ | refine blk_drew ?_ | refine blk_alloc ?_ _)); refine blk_far ?_ NB385_389.out _; (with_reducible repeat (first | refine blk_drewN ?_ _ | refine blk_drew ?_ | refine blk_alloc ?_ _)); refine blk_far ?_ NB385_389.out _; (with_reducible repeat (first | refine blk_drewN ?_ _ | refine blk_drew ?_ | refine blk_alloc ?_ _)); exact BK385.out) hb); replace BK389 := Aside0.mk (blk_below (g := gb389) (o := .cells #[.int .i64 t386, .int .i64 t387] 36 (0, 0)) (by (with_reducible repeat (first | refine blk_drewN ?_ _ | refine blk_drew ?_ | refine blk_alloc ?_ _)); refine blk_put (cs := #[.int .i64 t386, .int .i64 0]) ?_ 1 _ rfl; (with_reducible repeat (first | refine blk_drewN ?_ _ | refine blk_drew ?_ | refine blk_alloc ?_ _)); refine blk_put (cs := #[.int .i64 0, .int .i64 0]) ?_ 0 _ rfl; (with_reducible repeat (first | refine blk_drewN ?_ _ | refine blk_drew ?_ | refine blk_alloc ?_ _)); exact BK389.out) hb); replace HB := Aside0.mk (below_step (bl4 HB.out GE379.out GE380.out GE385.out GE389.out) hb); (try clear hb); (try clear hb2); (try clear hk); (try clear hi); have hcz31_0 : w30.cell? ⟨gb379, 0, none⟩ = some (.int .i64 a0_0) := (blk_cell BK379.out 0).trans rfl; have hcz31_1 : w30.cell? ⟨gb379, 1, none⟩ = some (.bool a0_1) := (blk_cell BK379.out 1).trans rfl; have hcz31_2 : w30.cell? ⟨gb379, 2, none⟩ = some (.int .i64 a0_2) := (blk_cell BK379.out 2).trans rfl; have hcz31_3 : w30.cell? ⟨gb379, 3, none⟩ = some (.int .i64 a0_3) := (blk_cell BK379.out 3).trans rfl; have hcz31_4 : w30.cell? ⟨gb379, 4, none⟩ = some (.int .i64 a0_4) := (blk_cell BK379.out 4).trans rfl; have hcz31_5 : w30.cell? ⟨gb379, 5, none⟩ = some (.int .i64 a0_5) := (blk_cell BK379.out 5).trans rfl; have hcz31_6 : w30.cell? ⟨gb379, 6, none⟩ = some (.int .i64 a0_6) := (blk_cell BK379.out 6).trans rfl; have hcz31_7 : w30.cell? ⟨gb379, 7, none⟩ = some (.int .i64 a0_7) := (blk_cell BK379.out 7).trans rfl; have hfz31_0 := blk_frozen BK379.out 0; have hfz31_1 := blk_frozen BK379.out 1; have hfz31_2 := blk_frozen BK379.out 2; have hfz31_3 := blk_frozen BK379.out 3; have hfz31_4 := blk_frozen BK379.out 4; have hfz31_5 := blk_frozen BK379.out 5; have hfz31_6 := blk_frozen BK379.out 6; have hfz31_7 := blk_frozen BK379.out 7) | ((with_reducible refine gate_callee (f := 17) rfl ?_); refine goesL_ (some 30) rfl rfl Try.func17 (by kernel_rfl) rfl #[.agg #[.int .i64 a0_0, .bool a0_1, .int .i64 a0_2, .int .i64 a0_3, .int .i64 a0_4, .int .i64 a0_5, .int .i64 a0_6, .int .i64 a0_7]] rfl am ?_; (with_reducible refine (pochoirref16_One.calls a0_0 a0_1 a0_2 a0_3 a0_4 a0_5 a0_6 a0_7 true _ A8.out).mono ?_); rintro e w32 ⟨rfl, hb⟩; refine ⟨_, rfl, ?_⟩; replace BK379 := Aside0.mk (bb BK379.out hb); replace BK380 := Aside0.mk (bb BK380.out hb); replace BK385 := Aside0.mk (bb BK385.out hb); replace BK389 := Aside0.mk (bb BK389.out hb); replace HB := Aside0.mk (below_step (bl4 HB.out GE379.out GE380.out GE385.out GE389.out) hb); (try clear hb); (try clear hb2); (try clear hk); (try clear hi)))
   (try simp only [Act.put, List.setIfInBounds_toArray, List.set_cons_zero, List.set_cons_succ])
   go_cut [73] (fun v73 wc => ∃ (kq : Nat) (x73_9 : Bool), v73 = .bool x73_9 ∧ Aside0 (pochoirlaw22_CornerAsks.j0 kq t390 t391 x73_9 a0_0 a0_1 a0_2 a0_3 a0_4 a0_5 a0_6 a0_7 a1_0 a1_1 a1_2 a1_3 a1_4 a1_5 a1_6 a1_7 = some r) ∧ Aside0 (kq ≤ k) ∧ Aside0 (wc.heap[gb379]? = some (.cells #[.int .i64 a0_0, .bool a0_1, .int .i64 a0_2, .int .i64 a0_3, .int .i64 a0_4, .int .i64 a0_5, .int .i64 a0_6, .int .i64 a0_7] 38 (0, 0))) ∧ Aside0 (wc.heap[gb380]? = some (.cells #[.int .i64 a1_0, .bool a1_1, .int .i64 a1_2, .int .i64 a1_3, .int .i64 a1_4, .int .i64 a1_5, .int .i64 a1_6, .int .i64 a1_7] 38 (0, 0))) ∧ Aside0 (wc.heap[gb385]? = some (.cells #[.int .i64 t382, .int .i64 t383] 36 (0, 0))) ∧ Aside0 (wc.heap[gb389]? = some (.cells #[.int .i64 t386, .int .i64 t387] 36 (0, 0))) ∧ Aside0 (Below w.heap.size w wc))
   case first =>
    have H := HC10.out
    clear HC10
    replace H := Option.bind_eq_some_iff.mp H
    obtain ⟨⟨t393, t394⟩, A330, H⟩ := H
    replace H : (if (!(t382 == t393) || (!(t383 == t394))) = true then (pochoirlaw22_CornerAsks.j0 k t390 t391 true a0_0 a0_1 a0_2 a0_3 a0_4 a0_5 a0_6 a0_7 a1_0 a1_1 a1_2 a1_3 a1_4 a1_5 a1_6 a1_7) else ((pochoirref22_Last.f a0_0 a0_1 a0_2 a0_3 a0_4 a0_5 a0_6 a0_7).bind fun bt395 => (if (!(t386 == bt395.1) || (!(t387 == bt395.2))) = true then (pochoirlaw22_CornerAsks.j0 k t390 t391 true a0_0 a0_1 a0_2 a0_3 a0_4 a0_5 a0_6 a0_7 a1_0 a1_1 a1_2 a1_3 a1_4 a1_5 a1_6 a1_7) else (if t384 = 0 then (pochoirlaw22_CornerAsks.j0 k t390 t391 (t388 != 0) a0_0 a0_1 a0_2 a0_3 a0_4 a0_5 a0_6 a0_7 a1_0 a1_1 a1_2 a1_3 a1_4 a1_5 a1_6 a1_7) else (pochoirlaw22_CornerAsks.j0 k t390 t391 true a0_0 a0_1 a0_2 a0_3 a0_4 a0_5 a0_6 a0_7 a1_0 a1_1 a1_2 a1_3 a1_4 a1_5 a1_6 a1_7))))) = some r := H
    have A33 := Aside0.mk A330
    clear A330
    by_cases c34 : (!(t382 == t393) || (!(t383 == t394))) = true
    ·rw [if_pos c34] at H
     have c34b0 : (!(t382 == t393) || (!(t383 == t394))) = true := c34
     clear c34
     (first | rw [c34b0] | (simp only [i64_w, i32_w]; rw [c34b0]) | skip)
     exact absurd (HQ.out ▸ H) (by cases k <;> (rw [pochoirlaw22_CornerAsks.j0]; simp))
    ·rw [if_neg c34] at H
     have c34b0 : (!(t382 == t393) || (!(t383 == t394))) = false := by simpa using c34
     clear c34
     (first | rw [c34b0] | (simp only [i64_w, i32_w]; rw [c34b0]) | skip)
     replace H := Option.bind_eq_some_iff.mp H
     obtain ⟨⟨t395, t396⟩, A350, H⟩ := H
     replace H : (if (!(t386 == t395) || (!(t387 == t396))) = true then (pochoirlaw22_CornerAsks.j0 k t390 t391 true a0_0 a0_1 a0_2 a0_3 a0_4 a0_5 a0_6 a0_7 a1_0 a1_1 a1_2 a1_3 a1_4 a1_5 a1_6 a1_7) else (if t384 = 0 then (pochoirlaw22_CornerAsks.j0 k t390 t391 (t388 != 0) a0_0 a0_1 a0_2 a0_3 a0_4 a0_5 a0_6 a0_7 a1_0 a1_1 a1_2 a1_3 a1_4 a1_5 a1_6 a1_7) else (pochoirlaw22_CornerAsks.j0 k t390 t391 true a0_0 a0_1 a0_2 a0_3 a0_4 a0_5 a0_6 a0_7 a1_0 a1_1 a1_2 a1_3 a1_4 a1_5 a1_6 a1_7))) = some r := H
     have A35 := Aside0.mk A350
     clear A350
     by_cases c36 : (!(t386 == t395) || (!(t387 == t396))) = true
     ·rw [if_pos c36] at H
      have c36b0 : (!(t386 == t395) || (!(t387 == t396))) = true := c36
      clear c36
      exact absurd (HQ.out ▸ H) (by cases k <;> (rw [pochoirlaw22_CornerAsks.j0]; simp))
     ·rw [if_neg c36] at H
      have c36b0 : (!(t386 == t395) || (!(t387 == t396))) = false := by simpa using c36
      clear c36
      by_cases c37 : t384 = 0
      ·rw [if_pos c37] at H
       have c37b0 : (t384 == 0) = true := beq_iff_eq.mpr c37
       have c37b1 : (t384 != 0) = false := bne_eq_false_iff_eq.mpr c37
       clear c37
       have H' := Aside0.mk H
       clear H
       try go_wp2
       replace BK379 := Aside0.mk (blk_drew BK379.out)
       replace BK380 := Aside0.mk (blk_drew BK380.out)
       replace BK385 := Aside0.mk (blk_drew BK385.out)
       replace BK389 := Aside0.mk (blk_drew BK389.out)
       replace HB := Aside0.mk (below_drew1 HB.out)
       refine start_ (n := 18) (S := fun w' => w'.cell? ⟨gb385, 0, none⟩ = some (.int .i64 t382) ∧ w'.cell? ⟨gb385, 1, none⟩ = some (.int .i64 t383) ∧ w'.cell? ⟨gb379, 0, none⟩ = some (.int .i64 a0_0) ∧ w'.cell? ⟨gb379, 1, none⟩ = some (.bool a0_1) ∧ w'.cell? ⟨gb379, 2, none⟩ = some (.int .i64 a0_2) ∧ w'.cell? ⟨gb379, 3, none⟩ = some (.int .i64 a0_3) ∧ w'.cell? ⟨gb379, 4, none⟩ = some (.int .i64 a0_4) ∧ w'.cell? ⟨gb379, 5, none⟩ = some (.int .i64 a0_5) ∧ w'.cell? ⟨gb379, 6, none⟩ = some (.int .i64 a0_6) ∧ w'.cell? ⟨gb379, 7, none⟩ = some (.int .i64 a0_7) ∧ w'.cell? ⟨gb389, 0, none⟩ = some (.int .i64 t386) ∧ w'.cell? ⟨gb389, 1, none⟩ = some (.int .i64 t387)) (ds := []) (ba 18 0) (by kernel_rfl) rfl rfl ⟨(blk_cell BK385.out 0).trans rfl, (blk_cell BK385.out 1).trans rfl, (blk_cell BK379.out 0).trans rfl, (blk_cell BK379.out 1).trans rfl, (blk_cell BK379.out 2).trans rfl, (blk_cell BK379.out 3).trans rfl, (blk_cell BK379.out 4).trans rfl, (blk_cell BK379.out 5).trans rfl, (blk_cell BK379.out 6).trans rfl, (blk_cell BK379.out 7).trans rfl, (blk_cell BK389.out 0).trans rfl, (blk_cell BK389.out 1).trans rfl⟩ (fun hHeld => ?_); refine with_tabW pochoirlaw22_CornerAsks.tab8 pochoirlaw22_CornerAsks.bits8 (fun HT_ HW_ => ?_)
       generalize w32.drew = w38 at BK379 BK380 BK385 BK389 HB hHeld ⊢
       refine take_ (i := 0) (N := some 56) (v := ?_) (a' := ?_) (ba 18 1) rfl rfl (take_ofW HT_.out HW_.out (by kernel_rfl)) (fun _ _ _ h => h) (Or.inl ⟨by rfl, ?_⟩) hHeld ?_ ?_
       rotate_left
       ·rintro w' ⟨s0, s1, s2, s3, s4, s5, s6, s7, s8, s9, s10, s11⟩
        go_simp
        with_reducible rfl
       rotate_left
       ·simp only [Act.put, List.setIfInBounds_toArray, List.set_cons_zero, List.set_cons_succ, i64_w, i32_w]
        rfl
       refine take_ (i := 1) (N := some 57) (v := ?_) (a' := ?_) (ba 18 3) rfl rfl (take_ofW HT_.out HW_.out (by kernel_rfl)) (fun _ _ _ h => h) (Or.inl ⟨by rfl, ?_⟩) hHeld ?_ ?_
       rotate_left
       ·rintro w' ⟨s0, s1, s2, s3, s4, s5, s6, s7, s8, s9, s10, s11⟩
        go_simp
        with_reducible rfl
       rotate_left
       ·simp only [Act.put, List.setIfInBounds_toArray, List.set_cons_zero, List.set_cons_succ, i64_w, i32_w]
        rfl
       refine one_ (i := 2) (N := some 58) (ba 18 7) rfl rfl (one_of HT_.out (by kernel_rfl)) (by decide) (fun K hK => ?_)
       refine goes_ Try.func28 (by kernel_rfl) rfl #[.agg #[.int .i64 a0_0, .bool a0_1, .int .i64 a0_2, .int .i64 a0_3, .int .i64 a0_4, .int .i64 a0_5, .int .i64 a0_6, .int .i64 a0_7]] (by rfl) rfl rfl am ?_
       with_reducible refine (pochoirref22_First.calls a0_0 a0_1 a0_2 a0_3 a0_4 a0_5 a0_6 a0_7 t393 t394 _ A33.out).mono ?_
       rintro e w39 ⟨rfl, hb⟩
       refine ⟨_, rfl, ?_⟩
       replace BK379 := Aside0.mk (bb BK379.out hb)
       replace BK380 := Aside0.mk (bb BK380.out hb)
       replace BK385 := Aside0.mk (bb BK385.out hb)
       replace BK389 := Aside0.mk (bb BK389.out hb)
       replace HB := Aside0.mk (below_step (bl4 HB.out GE379.out GE380.out GE385.out GE389.out) hb)
       (try clear hb)
       (try clear hb2)
       (try clear hk)
       (try clear hi)
       refine hK.out _ _ ⟨(blk_cell BK385.out 0).trans rfl, (blk_cell BK385.out 1).trans rfl, (blk_cell BK379.out 0).trans rfl, (blk_cell BK379.out 1).trans rfl, (blk_cell BK379.out 2).trans rfl, (blk_cell BK379.out 3).trans rfl, (blk_cell BK379.out 4).trans rfl, (blk_cell BK379.out 5).trans rfl, (blk_cell BK379.out 6).trans rfl, (blk_cell BK379.out 7).trans rfl, (blk_cell BK389.out 0).trans rfl, (blk_cell BK389.out 1).trans rfl⟩ (fun hHeld => ?_)
       clear hK K
       refine norm_ (a' := ?_) ?_ ?_
       rotate_left
       ·show Act.put _ (some 58) _ = _
        simp only [Act.put, List.setIfInBounds_toArray, List.set_cons_zero, List.set_cons_succ, i64_w, i32_w]
        rfl
       refine pI 3 59 (ba 18 15) HT_.out ?_
       refine pI 4 60 (ba 18 31) HT_.out ?_
       refine take_ (i := 5) (N := some 61) (v := ?_) (a' := ?_) (ba 18 63) rfl rfl (take_ofW HT_.out HW_.out (by kernel_rfl)) (fun _ _ _ h => h) (Or.inl ⟨by rfl, ?_⟩) hHeld ?_ ?_
       rotate_left
       ·rintro w' ⟨s0, s1, s2, s3, s4, s5, s6, s7, s8, s9, s10, s11⟩
        go_simp
        with_reducible rfl
       rotate_left
       ·simp only [Act.put, List.setIfInBounds_toArray, List.set_cons_zero, List.set_cons_succ, i64_w, i32_w]
        rfl
       refine take_ (i := 6) (N := some 62) (v := ?_) (a' := ?_) (ba 18 127) rfl rfl (take_ofW HT_.out HW_.out (by kernel_rfl)) (fun _ _ _ h => h) (Or.inl ⟨by rfl, ?_⟩) hHeld ?_ ?_
       rotate_left
       ·rintro w' ⟨s0, s1, s2, s3, s4, s5, s6, s7, s8, s9, s10, s11⟩
        go_simp
        with_reducible rfl
       rotate_left
       ·simp only [Act.put, List.setIfInBounds_toArray, List.set_cons_zero, List.set_cons_succ, i64_w, i32_w]
        rfl
       refine one_ (i := 7) (N := some 63) (ba 18 255) rfl rfl (one_of HT_.out (by kernel_rfl)) (by decide) (fun K hK => ?_)
       refine goes_ Try.func29 (by kernel_rfl) rfl #[.agg #[.int .i64 a0_0, .bool a0_1, .int .i64 a0_2, .int .i64 a0_3, .int .i64 a0_4, .int .i64 a0_5, .int .i64 a0_6, .int .i64 a0_7]] (by rfl) rfl rfl am ?_
       with_reducible refine (pochoirref22_Last.calls a0_0 a0_1 a0_2 a0_3 a0_4 a0_5 a0_6 a0_7 t395 t396 _ A35.out).mono ?_
       rintro e w40 ⟨rfl, hb⟩
       refine ⟨_, rfl, ?_⟩
       replace BK379 := Aside0.mk (bb BK379.out hb)
       replace BK380 := Aside0.mk (bb BK380.out hb)
       replace BK385 := Aside0.mk (bb BK385.out hb)
       replace BK389 := Aside0.mk (bb BK389.out hb)
       replace HB := Aside0.mk (below_step (bl4 HB.out GE379.out GE380.out GE385.out GE389.out) hb)
       (try clear hb)
       (try clear hb2)
       (try clear hk)
       (try clear hi)
       refine hK.out _ _ ⟨(blk_cell BK385.out 0).trans rfl, (blk_cell BK385.out 1).trans rfl, (blk_cell BK379.out 0).trans rfl, (blk_cell BK379.out 1).trans rfl, (blk_cell BK379.out 2).trans rfl, (blk_cell BK379.out 3).trans rfl, (blk_cell BK379.out 4).trans rfl, (blk_cell BK379.out 5).trans rfl, (blk_cell BK379.out 6).trans rfl, (blk_cell BK379.out 7).trans rfl, (blk_cell BK389.out 0).trans rfl, (blk_cell BK389.out 1).trans rfl⟩ (fun hHeld => ?_)
       clear hK K
       refine norm_ (a' := ?_) ?_ ?_
       rotate_left
       ·show Act.put _ (some 63) _ = _
        simp only [Act.put, List.setIfInBounds_toArray, List.set_cons_zero, List.set_cons_succ, i64_w, i32_w]
        rfl
       refine pI 8 64 (ba 18 511) HT_.out ?_
       refine pI 9 65 (ba 18 1023) HT_.out ?_
       refine pI 10 66 (ba 18 2047) HT_.out ?_
       refine pI 11 67 (ba 18 4095) HT_.out ?_
       refine pI 12 68 (ba 18 8191) HT_.out ?_
       refine pI 13 69 (ba 18 16383) HT_.out ?_
       refine pI 14 70 (ba 18 32767) HT_.out ?_
       refine pI 15 71 (ba 18 65535) HT_.out ?_
       refine pI 16 72 (ba 18 131071) HT_.out ?_
       refine pI 17 73 (ba 18 262143) HT_.out ?_
       refine done_ (done_of HT_.out (by kernel_rfl)) ?_
       try go_wp2
       go_meet
       case rel => exact ⟨_, ((t388 != 0)), fr, H', ⟨by first | omega | exact Nat.le_refl _⟩, ⟨bk BK379.out⟩, ⟨bk BK380.out⟩, ⟨bk BK385.out⟩, ⟨bk BK389.out⟩, ⟨bl4 HB.out GE379.out GE380.out GE385.out GE389.out⟩⟩
      ·rw [if_neg c37] at H
       have c37b0 : (t384 == 0) = false := beq_eq_false_iff_ne.mpr c37
       have c37b1 : (t384 != 0) = true := bne_iff_ne.mpr c37
       exact absurd (HQ.out ▸ H) (by cases k <;> (rw [pochoirlaw22_CornerAsks.j0]; simp))
   case rest =>
    clear HC10
    try clear c1
    try clear c2
    try clear p2
    try clear c3
    try clear c4
    try clear c6
    try clear c9
    try clear c12
    try clear c14
    try clear c17
    try clear c18
    try clear c19
    try clear c24
    try clear c25
    try clear c26
    try clear c27
    try clear c28
    try clear c29
    try clear c34
    try clear c34b0
    try clear c36
    try clear c36b0
    try clear c37
    try clear c37b0
    try clear c37b1
    try clear hcz15_0
    try clear hcz15_1
    try clear hcz15_2
    try clear hcz15_3
    try clear hcz15_4
    try clear hcz15_5
    try clear hcz15_6
    try clear hcz15_7
    try clear hcz20_0
    try clear hcz20_1
    try clear hcz21_0
    try clear hcz21_1
    try clear hcz21_2
    try clear hcz21_3
    try clear hcz21_4
    try clear hcz21_5
    try clear hcz21_6
    try clear hcz21_7
    try clear hcz27_0
    try clear hcz27_1
    try clear hcz28_0
    try clear hcz28_1
    try clear hcz28_2
    try clear hcz28_3
    try clear hcz28_4
    try clear hcz28_5
    try clear hcz28_6
    try clear hcz28_7
    try clear hcz29_0
    try clear hcz29_1
    try clear hcz29_2
    try clear hcz29_3
    try clear hcz29_4
    try clear hcz29_5
    try clear hcz29_6
    try clear hcz29_7
    try clear hcz31_0
    try clear hcz31_1
    try clear hcz31_2
    try clear hcz31_3
    try clear hcz31_4
    try clear hcz31_5
    try clear hcz31_6
    try clear hcz31_7
    try clear hfz15_0
    try clear hfz15_1
    try clear hfz15_2
    try clear hfz15_3
    try clear hfz15_4
    try clear hfz15_5
    try clear hfz15_6
    try clear hfz15_7
    try clear hfz20_0
    try clear hfz20_1
    try clear hfz21_0
    try clear hfz21_1
    try clear hfz21_2
    try clear hfz21_3
    try clear hfz21_4
    try clear hfz21_5
    try clear hfz21_6
    try clear hfz21_7
    try clear hfz27_0
    try clear hfz27_1
    try clear hfz28_0
    try clear hfz28_1
    try clear hfz28_2
    try clear hfz28_3
    try clear hfz28_4
    try clear hfz28_5
    try clear hfz28_6
    try clear hfz28_7
    try clear hfz29_0
    try clear hfz29_1
    try clear hfz29_2
    try clear hfz29_3
    try clear hfz29_4
    try clear hfz29_5
    try clear hfz29_6
    try clear hfz29_7
    try clear hfz31_0
    try clear hfz31_1
    try clear hfz31_2
    try clear hfz31_3
    try clear hfz31_4
    try clear hfz31_5
    try clear hfz31_6
    try clear hfz31_7
    obtain ⟨kq, x73_9, rfl, HA, HJ9, BK379, BK380, BK385, BK389, HB⟩ := hcut
    cases kq with
    | zero => exact absurd HA.out (by simp [pochoirlaw22_CornerAsks.j0])
    | succ kj9 =>
     have H := HA.out
     clear HA
     simp only [pochoirlaw22_CornerAsks.j0] at H
     by_cases c41 : x73_9 = true
     ·subst c41
      have H1 : (some false) = some r := by rw [if_pos rfl] at H; exact H
      clear H
      have H := H1
      clear H1
      exact absurd (HQ.out ▸ H) (by simp)
     ·replace c41 := Bool.eq_false_iff.mpr c41
      subst c41
      have H1 : ((pochoirref16_One.f a1_0 a1_1 a1_2 a1_3 a1_4 a1_5 a1_6 a1_7).bind fun t397 => (if t397 = true then ((pochoirref22_Is.f kj9 a0_0 a0_1 a0_2 a0_3 a0_4 a0_5 a0_6 a0_7 a1_0 a1_1 a1_2 a1_3 a1_4 a1_5 a1_6 a1_7).bind fun t398 => (if (t390 == t398) = true then (some (t391 == 0)) else (some false))) else (if t390 = true then (some false) else (some (t391 == 1))))) = some r := by rw [if_neg (show ¬ (false = true) by decide)] at H; exact H
      clear H
      have H := H1
      clear H1
      replace H := Option.bind_eq_some_iff.mp H
      obtain ⟨t397, A420, H⟩ := H
      replace H : (if t397 = true then ((pochoirref22_Is.f kj9 a0_0 a0_1 a0_2 a0_3 a0_4 a0_5 a0_6 a0_7 a1_0 a1_1 a1_2 a1_3 a1_4 a1_5 a1_6 a1_7).bind fun t398 => (if (t390 == t398) = true then (some (t391 == 0)) else (some false))) else (if t390 = true then (some false) else (some (t391 == 1)))) = some r := H
      have A42 := Aside0.mk A420
      clear A420
      by_cases c43 : t397 = true
      ·subst c43
       have H1 : ((pochoirref22_Is.f kj9 a0_0 a0_1 a0_2 a0_3 a0_4 a0_5 a0_6 a0_7 a1_0 a1_1 a1_2 a1_3 a1_4 a1_5 a1_6 a1_7).bind fun t398 => (if (t390 == t398) = true then (some (t391 == 0)) else (some false))) = some r := by rw [if_pos rfl] at H; exact H
       clear H
       have H := H1
       clear H1
       replace H := Option.bind_eq_some_iff.mp H
       obtain ⟨t398, A440, H⟩ := H
       replace H : (if (t390 == t398) = true then (some (t391 == 0)) else (some false)) = some r := H
       have A44 := Aside0.mk A440
       clear A440
       by_cases c45 : (t390 == t398) = true
       ·rw [if_pos c45] at H
        have c45b0 : (t390 == t398) = true := c45
        (try (have c45b1 : decide (t390 = t398) = true := by simpa using c45))
        (try (have c45b2 : (t390 == t398) = true := by simpa using c45))
        clear c45
        obtain rfl := Option.some.inj H
        have hnb46 := NB380_379.out
        have hnc46 := NB379_380.out
        have hnb47 := NB380_385.out
        have hnc47 := NB385_380.out
        have hnb48 := NB380_389.out
        have hnc48 := NB389_380.out
        have hcz49_0 : wc.cell? ⟨gb380, 0, none⟩ = some (.int .i64 a1_0) := (blk_cell BK380.out 0).trans rfl
        have hcz49_1 : wc.cell? ⟨gb380, 1, none⟩ = some (.bool a1_1) := (blk_cell BK380.out 1).trans rfl
        have hcz49_2 : wc.cell? ⟨gb380, 2, none⟩ = some (.int .i64 a1_2) := (blk_cell BK380.out 2).trans rfl
        have hcz49_3 : wc.cell? ⟨gb380, 3, none⟩ = some (.int .i64 a1_3) := (blk_cell BK380.out 3).trans rfl
        have hcz49_4 : wc.cell? ⟨gb380, 4, none⟩ = some (.int .i64 a1_4) := (blk_cell BK380.out 4).trans rfl
        have hcz49_5 : wc.cell? ⟨gb380, 5, none⟩ = some (.int .i64 a1_5) := (blk_cell BK380.out 5).trans rfl
        have hcz49_6 : wc.cell? ⟨gb380, 6, none⟩ = some (.int .i64 a1_6) := (blk_cell BK380.out 6).trans rfl
        have hcz49_7 : wc.cell? ⟨gb380, 7, none⟩ = some (.int .i64 a1_7) := (blk_cell BK380.out 7).trans rfl
        have hfz49_0 := blk_frozen BK380.out 0
        have hfz49_1 := blk_frozen BK380.out 1
        have hfz49_2 := blk_frozen BK380.out 2
        have hfz49_3 := blk_frozen BK380.out 3
        have hfz49_4 := blk_frozen BK380.out 4
        have hfz49_5 := blk_frozen BK380.out 5
        have hfz49_6 := blk_frozen BK380.out 6
        have hfz49_7 := blk_frozen BK380.out 7
        go_wp2_with (first | ((with_reducible refine gate_callee (f := 17) rfl ?_); refine goesL_ (some 75) rfl rfl Try.func17 (by kernel_rfl) rfl #[.agg #[.int .i64 a1_0, .bool a1_1, .int .i64 a1_2, .int .i64 a1_3, .int .i64 a1_4, .int .i64 a1_5, .int .i64 a1_6, .int .i64 a1_7]] rfl am ?_; (with_reducible refine (pochoirref16_One.calls a1_0 a1_1 a1_2 a1_3 a1_4 a1_5 a1_6 a1_7 true _ A42.out).mono ?_); rintro e w50 ⟨rfl, hb⟩; refine ⟨_, rfl, ?_⟩; replace BK379 := Aside0.mk (bb BK379.out hb); replace BK380 := Aside0.mk (bb BK380.out hb); replace BK385 := Aside0.mk (bb BK385.out hb); replace BK389 := Aside0.mk (bb BK389.out hb); replace HB := Aside0.mk (below_step (bl4 HB.out GE379.out GE380.out GE385.out GE389.out) hb); (try clear hb); (try clear hb2); (try clear hk); (try clear hi); have hnb51 := NB379_385.out; have hnc51 := NB385_379.out; have hnb52 := NB379_389.out; have hnc52 := NB389_379.out; have hcz53_0 : w50.cell? ⟨gb379, 0, none⟩ = some (.int .i64 a0_0) := (blk_cell BK379.out 0).trans rfl; have hcz53_1 : w50.cell? ⟨gb379, 1, none⟩ = some (.bool a0_1) := (blk_cell BK379.out 1).trans rfl; have hcz53_2 : w50.cell? ⟨gb379, 2, none⟩ = some (.int .i64 a0_2) := (blk_cell BK379.out 2).trans rfl; have hcz53_3 : w50.cell? ⟨gb379, 3, none⟩ = some (.int .i64 a0_3) := (blk_cell BK379.out 3).trans rfl; have hcz53_4 : w50.cell? ⟨gb379, 4, none⟩ = some (.int .i64 a0_4) := (blk_cell BK379.out 4).trans rfl; have hcz53_5 : w50.cell? ⟨gb379, 5, none⟩ = some (.int .i64 a0_5) := (blk_cell BK379.out 5).trans rfl; have hcz53_6 : w50.cell? ⟨gb379, 6, none⟩ = some (.int .i64 a0_6) := (blk_cell BK379.out 6).trans rfl; have hcz53_7 : w50.cell? ⟨gb379, 7, none⟩ = some (.int .i64 a0_7) := (blk_cell BK379.out 7).trans rfl; have hfz53_0 := blk_frozen BK379.out 0; have hfz53_1 := blk_frozen BK379.out 1; have hfz53_2 := blk_frozen BK379.out 2; have hfz53_3 := blk_frozen BK379.out 3; have hfz53_4 := blk_frozen BK379.out 4; have hfz53_5 := blk_frozen BK379.out 5; have hfz53_6 := blk_frozen BK379.out 6; have hfz53_7 := blk_frozen BK379.out 7; have hcz54_0 : w50.cell? ⟨gb380, 0, none⟩ = some (.int .i64 a1_0) := (blk_cell BK380.out 0).trans rfl; have hcz54_1 : w50.cell? ⟨gb380, 1, none⟩ = some (.bool a1_1) := (blk_cell BK380.out 1).trans rfl; have hcz54_2 : w50.cell? ⟨gb380, 2, none⟩ = some (.int .i64 a1_2) := (blk_cell BK380.out 2).trans rfl; have hcz54_3 : w50.cell? ⟨gb380, 3, none⟩ = some (.int .i64 a1_3) := (blk_cell BK380.out 3).trans rfl; have hcz54_4 : w50.cell? ⟨gb380, 4, none⟩ = some (.int .i64 a1_4) := (blk_cell BK380.out 4).trans rfl; have hcz54_5 : w50.cell? ⟨gb380, 5, none⟩ = some (.int .i64 a1_5) := (blk_cell BK380.out 5).trans rfl; have hcz54_6 : w50.cell? ⟨gb380, 6, none⟩ = some (.int .i64 a1_6) := (blk_cell BK380.out 6).trans rfl; have hcz54_7 : w50.cell? ⟨gb380, 7, none⟩ = some (.int .i64 a1_7) := (blk_cell BK380.out 7).trans rfl; have hfz54_0 := blk_frozen BK380.out 0; have hfz54_1 := blk_frozen BK380.out 1; have hfz54_2 := blk_frozen BK380.out 2; have hfz54_3 := blk_frozen BK380.out 3; have hfz54_4 := blk_frozen BK380.out 4; have hfz54_5 := blk_frozen BK380.out 5; have hfz54_6 := blk_frozen BK380.out 6; have hfz54_7 := blk_frozen BK380.out 7) | ((with_reducible refine gate_callee (f := 30) rfl ?_); refine goesL_ (some 86) rfl rfl Try.func30 (by kernel_rfl) rfl #[.agg #[.int .i64 a0_0, .bool a0_1, .int .i64 a0_2, .int .i64 a0_3, .int .i64 a0_4, .int .i64 a0_5, .int .i64 a0_6, .int .i64 a0_7], .agg #[.int .i64 a1_0, .bool a1_1, .int .i64 a1_2, .int .i64 a1_3, .int .i64 a1_4, .int .i64 a1_5, .int .i64 a1_6, .int .i64 a1_7]] rfl am ?_; (with_reducible refine (pochoirref22_Is.calls kj9 a0_0 a0_1 a0_2 a0_3 a0_4 a0_5 a0_6 a0_7 a1_0 a1_1 a1_2 a1_3 a1_4 a1_5 a1_6 a1_7 t398 _ A44.out).mono ?_); rintro e w55 ⟨rfl, hb⟩; refine ⟨_, rfl, ?_⟩; replace BK379 := Aside0.mk (bb BK379.out hb); replace BK380 := Aside0.mk (bb BK380.out hb); replace BK385 := Aside0.mk (bb BK385.out hb); replace BK389 := Aside0.mk (bb BK389.out hb); replace HB := Aside0.mk (below_step (bl4 HB.out GE379.out GE380.out GE385.out GE389.out) hb); (try clear hb); (try clear hb2); (try clear hk); (try clear hi)))
        go_ret
        exact ⟨by first | rfl | (simp [errW_none, errW_some] <;> rfl) | (simp [*, errW_none, errW_some] <;> rfl), bl4 HB.out GE379.out GE380.out GE385.out GE389.out⟩
       ·rw [if_neg c45] at H
        have c45b0 : (t390 == t398) = false := by simpa using c45
        (try (have c45b1 : decide (t390 = t398) = false := by simpa using c45))
        (try (have c45b2 : (t390 == t398) = false := by simpa using c45))
        (try (have c45b3 : ¬ (t390 = t398) := by simpa using c45))
        clear c45
        exact absurd (HQ.out ▸ H) (by simp)
      ·replace c43 := Bool.eq_false_iff.mpr c43
       subst c43
       have H1 : (if t390 = true then (some false) else (some (t391 == 1))) = some r := by rw [if_neg (show ¬ (false = true) by decide)] at H; exact H
       clear H
       have H := H1
       clear H1
       by_cases c56 : t390 = true
       ·subst c56
        have H1 : (some false) = some r := by rw [if_pos rfl] at H; exact H
        clear H
        have H := H1
        clear H1
        exact absurd (HQ.out ▸ H) (by simp)
       ·replace c56 := Bool.eq_false_iff.mpr c56
        subst c56
        have H1 : (some (t391 == 1)) = some r := by rw [if_neg (show ¬ (false = true) by decide)] at H; exact H
        clear H
        have H := H1
        clear H1
        obtain rfl := Option.some.inj H
        have hnb57 := NB380_379.out
        have hnc57 := NB379_380.out
        have hnb58 := NB380_385.out
        have hnc58 := NB385_380.out
        have hnb59 := NB380_389.out
        have hnc59 := NB389_380.out
        have hcz60_0 : wc.cell? ⟨gb380, 0, none⟩ = some (.int .i64 a1_0) := (blk_cell BK380.out 0).trans rfl
        have hcz60_1 : wc.cell? ⟨gb380, 1, none⟩ = some (.bool a1_1) := (blk_cell BK380.out 1).trans rfl
        have hcz60_2 : wc.cell? ⟨gb380, 2, none⟩ = some (.int .i64 a1_2) := (blk_cell BK380.out 2).trans rfl
        have hcz60_3 : wc.cell? ⟨gb380, 3, none⟩ = some (.int .i64 a1_3) := (blk_cell BK380.out 3).trans rfl
        have hcz60_4 : wc.cell? ⟨gb380, 4, none⟩ = some (.int .i64 a1_4) := (blk_cell BK380.out 4).trans rfl
        have hcz60_5 : wc.cell? ⟨gb380, 5, none⟩ = some (.int .i64 a1_5) := (blk_cell BK380.out 5).trans rfl
        have hcz60_6 : wc.cell? ⟨gb380, 6, none⟩ = some (.int .i64 a1_6) := (blk_cell BK380.out 6).trans rfl
        have hcz60_7 : wc.cell? ⟨gb380, 7, none⟩ = some (.int .i64 a1_7) := (blk_cell BK380.out 7).trans rfl
        have hfz60_0 := blk_frozen BK380.out 0
        have hfz60_1 := blk_frozen BK380.out 1
        have hfz60_2 := blk_frozen BK380.out 2
        have hfz60_3 := blk_frozen BK380.out 3
        have hfz60_4 := blk_frozen BK380.out 4
        have hfz60_5 := blk_frozen BK380.out 5
        have hfz60_6 := blk_frozen BK380.out 6
        have hfz60_7 := blk_frozen BK380.out 7
        go_wp2_with (first | ((with_reducible refine gate_callee (f := 17) rfl ?_); refine goesL_ (some 75) rfl rfl Try.func17 (by kernel_rfl) rfl #[.agg #[.int .i64 a1_0, .bool a1_1, .int .i64 a1_2, .int .i64 a1_3, .int .i64 a1_4, .int .i64 a1_5, .int .i64 a1_6, .int .i64 a1_7]] rfl am ?_; (with_reducible refine (pochoirref16_One.calls a1_0 a1_1 a1_2 a1_3 a1_4 a1_5 a1_6 a1_7 false _ A42.out).mono ?_); rintro e w61 ⟨rfl, hb⟩; refine ⟨_, rfl, ?_⟩; replace BK379 := Aside0.mk (bb BK379.out hb); replace BK380 := Aside0.mk (bb BK380.out hb); replace BK385 := Aside0.mk (bb BK385.out hb); replace BK389 := Aside0.mk (bb BK389.out hb); replace HB := Aside0.mk (below_step (bl4 HB.out GE379.out GE380.out GE385.out GE389.out) hb); (try clear hb); (try clear hb2); (try clear hk); (try clear hi)))
        go_ret
        exact ⟨by first | rfl | (simp [errW_none, errW_some] <;> rfl) | (simp [*, errW_none, errW_some] <;> rfl), bl4 HB.out GE379.out GE380.out GE385.out GE389.out⟩
  ·replace c9 := Bool.eq_false_iff.mpr c9
   subst c9
   have H1 : (if (t382 == 0 && (t383 == 0)) = true then (if (t386 == 0 && (t387 == 0)) = true then (if t384 = 1 then (if t388 = 1 then (if t390 = true then (some false) else (some (t391 == 1))) else (some false)) else (some false)) else (some false)) else (some false)) = some r := by rw [if_neg (show ¬ (false = true) by decide)] at H; exact H
   clear H
   have H := H1
   clear H1
   by_cases c62 : (t382 == 0 && (t383 == 0)) = true
   ·rw [if_pos c62] at H
    have c62b0 : (t382 == 0 && (t383 == 0)) = true := c62
    (try (have c62b1 : decide (t382 = 0 && (t383 == 0)) = true := by simpa using c62))
    (try (have c62b2 : (t382 == 0 && (t383 == 0)) = true := by simpa using c62))
    clear c62
    by_cases c63 : (t386 == 0 && (t387 == 0)) = true
    ·rw [if_pos c63] at H
     have c63b0 : (t386 == 0 && (t387 == 0)) = true := c63
     (try (have c63b1 : decide (t386 = 0 && (t387 == 0)) = true := by simpa using c63))
     (try (have c63b2 : (t386 == 0 && (t387 == 0)) = true := by simpa using c63))
     clear c63
     by_cases c64 : t384 = 1
     ·rw [if_pos c64] at H
      have c64b0 : (t384 == 1) = true := beq_iff_eq.mpr c64
      have c64b1 : (t384 != 1) = false := bne_eq_false_iff_eq.mpr c64
      clear c64
      by_cases c65 : t388 = 1
      ·rw [if_pos c65] at H
       have c65b0 : (t388 == 1) = true := beq_iff_eq.mpr c65
       have c65b1 : (t388 != 1) = false := bne_eq_false_iff_eq.mpr c65
       clear c65
       by_cases c66 : t390 = true
       ·subst c66
        have H1 : (some false) = some r := by rw [if_pos rfl] at H; exact H
        clear H
        have H := H1
        clear H1
        exact absurd (HQ.out ▸ H) (by simp)
       ·replace c66 := Bool.eq_false_iff.mpr c66
        subst c66
        have H1 : (some (t391 == 1)) = some r := by rw [if_neg (show ¬ (false = true) by decide)] at H; exact H
        clear H
        have H := H1
        clear H1
        obtain rfl := Option.some.inj H
        go_enter Try.func6, Try.ntmps6
        go_wp2_with (first | ((with_reducible refine gate_dst (N := 2) rfl ?_); refine be 2 (#[.int .i64 a0_0, .bool a0_1, .int .i64 a0_2, .int .i64 a0_3, .int .i64 a0_4, .int .i64 a0_5, .int .i64 a0_6, .int .i64 a0_7]) 38 ?_; intro gb379 hg w67 hbox hb; have BK379 := Aside0.mk (hbox); have GW379 := Aside0.mk ((by rw [hg]; exact (below_size (bl0 HB.out)) : w.heap.size ≤ gb379)); have GE379 := GW379; replace HB := Aside0.mk (below_step (bl0 HB.out) hb); clear hb hbox hg) | ((with_reducible refine gate_dst (N := 3) rfl ?_); refine be 3 (#[.int .i64 a1_0, .bool a1_1, .int .i64 a1_2, .int .i64 a1_3, .int .i64 a1_4, .int .i64 a1_5, .int .i64 a1_6, .int .i64 a1_7]) 38 ?_; intro gb380 hg w68 hbox hb; have BK380 := Aside0.mk (hbox); have GW380 := Aside0.mk ((by rw [hg]; exact (below_size (bl1 HB.out GE379.out)) : w.heap.size ≤ gb380)); have GE380 := GW380; have NB379_380 := Aside0.mk ((by rw [hg]; exact Nat.ne_of_lt (lt_ BK379.out) : gb379 ≠ gb380)); have NB380_379 := Aside0.mk ((by rw [hg]; exact Nat.ne_of_gt (lt_ BK379.out) : gb380 ≠ gb379)); replace BK379 := Aside0.mk (bb BK379.out hb); replace HB := Aside0.mk (below_step (bl1 HB.out GE379.out) hb); clear hb hbox hg) | ((with_reducible refine gate_callee (f := 12) rfl ?_); refine goesL_ (some 11) rfl rfl Try.func12 (by kernel_rfl) rfl #[] rfl am ?_; (with_reducible refine (pochoirlaw22_awake.calls k  true _ rfl A3.out).mono ?_); rintro e w69 ⟨rfl, hb⟩; refine ⟨_, rfl, ?_⟩; replace BK379 := Aside0.mk (bb BK379.out hb); replace BK380 := Aside0.mk (bb BK380.out hb); replace HB := Aside0.mk (below_step (bl2 HB.out GE379.out GE380.out) hb); (try clear hb); (try clear hb2); (try clear hk); (try clear hi); have hnb70 := NB379_380.out; have hnc70 := NB380_379.out; have hcz71_0 : w69.cell? ⟨gb379, 0, none⟩ = some (.int .i64 a0_0) := (blk_cell BK379.out 0).trans rfl; have hcz71_1 : w69.cell? ⟨gb379, 1, none⟩ = some (.bool a0_1) := (blk_cell BK379.out 1).trans rfl; have hcz71_2 : w69.cell? ⟨gb379, 2, none⟩ = some (.int .i64 a0_2) := (blk_cell BK379.out 2).trans rfl; have hcz71_3 : w69.cell? ⟨gb379, 3, none⟩ = some (.int .i64 a0_3) := (blk_cell BK379.out 3).trans rfl; have hcz71_4 : w69.cell? ⟨gb379, 4, none⟩ = some (.int .i64 a0_4) := (blk_cell BK379.out 4).trans rfl; have hcz71_5 : w69.cell? ⟨gb379, 5, none⟩ = some (.int .i64 a0_5) := (blk_cell BK379.out 5).trans rfl; have hcz71_6 : w69.cell? ⟨gb379, 6, none⟩ = some (.int .i64 a0_6) := (blk_cell BK379.out 6).trans rfl; have hcz71_7 : w69.cell? ⟨gb379, 7, none⟩ = some (.int .i64 a0_7) := (blk_cell BK379.out 7).trans rfl; have hfz71_0 := blk_frozen BK379.out 0; have hfz71_1 := blk_frozen BK379.out 1; have hfz71_2 := blk_frozen BK379.out 2; have hfz71_3 := blk_frozen BK379.out 3; have hfz71_4 := blk_frozen BK379.out 4; have hfz71_5 := blk_frozen BK379.out 5; have hfz71_6 := blk_frozen BK379.out 6; have hfz71_7 := blk_frozen BK379.out 7) | ((with_reducible refine gate_callee (f := 26) rfl ?_); refine goesL_ (some 15) rfl rfl Try.func26 (by kernel_rfl) rfl #[.agg #[.int .i64 a0_0, .bool a0_1, .int .i64 a0_2, .int .i64 a0_3, .int .i64 a0_4, .int .i64 a0_5, .int .i64 a0_6, .int .i64 a0_7]] rfl am ?_; (with_reducible refine (corner_First.calls k a0_0 a0_1 a0_2 a0_3 a0_4 a0_5 a0_6 a0_7 t382 t383 t384 _ A5.out).mono ?_); rintro e w72 ⟨rfl, hb⟩; refine ⟨_, rfl, ?_⟩; replace BK379 := Aside0.mk (bb BK379.out hb); replace BK380 := Aside0.mk (bb BK380.out hb); replace HB := Aside0.mk (below_step (bl2 HB.out GE379.out GE380.out) hb); (try clear hb); (try clear hb2); (try clear hk); (try clear hi)) | ((with_reducible refine gate_dst (N := 5) rfl ?_); refine be 5 (#[.int .i64 0, .int .i64 0]) 36 ?_; intro gb385 hg w73 hbox hb; have BK385 := Aside0.mk (hbox); have GW385 := Aside0.mk ((by rw [hg]; exact (below_size (bl2 HB.out GE379.out GE380.out)) : w.heap.size ≤ gb385)); have GE385 := GW385; have NB379_385 := Aside0.mk ((by rw [hg]; exact Nat.ne_of_lt (lt_ BK379.out) : gb379 ≠ gb385)); have NB385_379 := Aside0.mk ((by rw [hg]; exact Nat.ne_of_gt (lt_ BK379.out) : gb385 ≠ gb379)); have NB380_385 := Aside0.mk ((by rw [hg]; exact Nat.ne_of_lt (lt_ BK380.out) : gb380 ≠ gb385)); have NB385_380 := Aside0.mk ((by rw [hg]; exact Nat.ne_of_gt (lt_ BK380.out) : gb385 ≠ gb380)); replace BK379 := Aside0.mk (bb BK379.out hb); replace BK380 := Aside0.mk (bb BK380.out hb); replace HB := Aside0.mk (below_step (bl2 HB.out GE379.out GE380.out) hb); clear hb hbox hg; have hnb74 := NB385_379.out; have hnc74 := NB379_385.out; have hnb75 := NB385_380.out; have hnc75 := NB380_385.out; have hcz76_0 : w73.cell? ⟨gb385, 0, none⟩ = some (.int .i64 0) := (blk_cell BK385.out 0).trans rfl; have hcz76_1 : w73.cell? ⟨gb385, 1, none⟩ = some (.int .i64 0) := (blk_cell BK385.out 1).trans rfl; have hfz76_0 := blk_frozen BK385.out 0; have hfz76_1 := blk_frozen BK385.out 1; have hcz77_0 : w73.cell? ⟨gb379, 0, none⟩ = some (.int .i64 a0_0) := (blk_cell BK379.out 0).trans rfl; have hcz77_1 : w73.cell? ⟨gb379, 1, none⟩ = some (.bool a0_1) := (blk_cell BK379.out 1).trans rfl; have hcz77_2 : w73.cell? ⟨gb379, 2, none⟩ = some (.int .i64 a0_2) := (blk_cell BK379.out 2).trans rfl; have hcz77_3 : w73.cell? ⟨gb379, 3, none⟩ = some (.int .i64 a0_3) := (blk_cell BK379.out 3).trans rfl; have hcz77_4 : w73.cell? ⟨gb379, 4, none⟩ = some (.int .i64 a0_4) := (blk_cell BK379.out 4).trans rfl; have hcz77_5 : w73.cell? ⟨gb379, 5, none⟩ = some (.int .i64 a0_5) := (blk_cell BK379.out 5).trans rfl; have hcz77_6 : w73.cell? ⟨gb379, 6, none⟩ = some (.int .i64 a0_6) := (blk_cell BK379.out 6).trans rfl; have hcz77_7 : w73.cell? ⟨gb379, 7, none⟩ = some (.int .i64 a0_7) := (blk_cell BK379.out 7).trans rfl; have hfz77_0 := blk_frozen BK379.out 0; have hfz77_1 := blk_frozen BK379.out 1; have hfz77_2 := blk_frozen BK379.out 2; have hfz77_3 := blk_frozen BK379.out 3; have hfz77_4 := blk_frozen BK379.out 4; have hfz77_5 := blk_frozen BK379.out 5; have hfz77_6 := blk_frozen BK379.out 6; have hfz77_7 := blk_frozen BK379.out 7) | ((with_reducible refine gate_callee (f := 27) rfl ?_); refine goesL_ (some 20) rfl rfl Try.func27 (by kernel_rfl) rfl #[.agg #[.int .i64 a0_0, .bool a0_1, .int .i64 a0_2, .int .i64 a0_3, .int .i64 a0_4, .int .i64 a0_5, .int .i64 a0_6, .int .i64 a0_7]] rfl am ?_; (with_reducible refine (corner_Last.calls k a0_0 a0_1 a0_2 a0_3 a0_4 a0_5 a0_6 a0_7 t386 t387 t388 _ A6.out).mono ?_); rintro e w78 ⟨rfl, hb⟩; refine ⟨_, rfl, ?_⟩; replace BK379 := Aside0.mk (blk_below (g := gb379) (o := .cells #[.int .i64 a0_0, .bool a0_1, .int .i64 a0_2, .int .i64 a0_3, .int .i64 a0_4, .int .i64 a0_5, .int .i64 a0_6, .int .i64 a0_7] 38 (0, 0)) (by (with_reducible repeat (first | refine blk_drewN ?_ _ | refine blk_drew ?_ | refine blk_alloc ?_ _)); refine blk_far ?_ NB379_385.out _; (with_reducible repeat (first | refine blk_drewN ?_ _ | refine blk_drew ?_ | refine blk_alloc ?_ _)); refine blk_far ?_ NB379_385.out _; (with_reducible repeat (first | refine blk_drewN ?_ _ | refine blk_drew ?_ | refine blk_alloc ?_ _)); exact BK379.out) hb); replace BK380 := Aside0.mk (blk_below (g := gb380) (o := .cells #[.int .i64 a1_0, .bool a1_1, .int .i64 a1_2, .int .i64 a1_3, .int .i64 a1_4, .int .i64 a1_5, .int .i64 a1_6, .int .i64 a1_7] 38 (0, 0)) (by (with_reducible repeat (first | refine blk_drewN ?_ _ | refine blk_drew ?_ | refine blk_alloc ?_ _)); refine blk_far ?_ NB380_385.out _; (with_reducible repeat (first | refine blk_drewN ?_ _ | refine blk_drew ?_ | refine blk_alloc ?_ _)); refine blk_far ?_ NB380_385.out _; (with_reducible repeat (first | refine blk_drewN ?_ _ | refine blk_drew ?_ | refine blk_alloc ?_ _)); exact BK380.out) hb); replace BK385 := Aside0.mk (blk_below (g := gb385) (o := .cells #[.int .i64 t382, .int .i64 t383] 36 (0, 0)) (by (with_reducible repeat (first | refine blk_drewN ?_ _ | refine blk_drew ?_ | refine blk_alloc ?_ _)); refine blk_put (cs := #[.int .i64 t382, .int .i64 0]) ?_ 1 _ rfl; (with_reducible repeat (first | refine blk_drewN ?_ _ | refine blk_drew ?_ | refine blk_alloc ?_ _)); refine blk_put (cs := #[.int .i64 0, .int .i64 0]) ?_ 0 _ rfl; (with_reducible repeat (first | refine blk_drewN ?_ _ | refine blk_drew ?_ | refine blk_alloc ?_ _)); exact BK385.out) hb); replace HB := Aside0.mk (below_step (bl3 HB.out GE379.out GE380.out GE385.out) hb); (try clear hb); (try clear hb2); (try clear hk); (try clear hi)) | ((with_reducible refine gate_dst (N := 7) rfl ?_); refine be 7 (#[.int .i64 0, .int .i64 0]) 36 ?_; intro gb389 hg w79 hbox hb; have BK389 := Aside0.mk (hbox); have GW389 := Aside0.mk ((by rw [hg]; exact (below_size (bl3 HB.out GE379.out GE380.out GE385.out)) : w.heap.size ≤ gb389)); have GE389 := GW389; have NB379_389 := Aside0.mk ((by rw [hg]; exact Nat.ne_of_lt (lt_ BK379.out) : gb379 ≠ gb389)); have NB389_379 := Aside0.mk ((by rw [hg]; exact Nat.ne_of_gt (lt_ BK379.out) : gb389 ≠ gb379)); have NB380_389 := Aside0.mk ((by rw [hg]; exact Nat.ne_of_lt (lt_ BK380.out) : gb380 ≠ gb389)); have NB389_380 := Aside0.mk ((by rw [hg]; exact Nat.ne_of_gt (lt_ BK380.out) : gb389 ≠ gb380)); have NB385_389 := Aside0.mk ((by rw [hg]; exact Nat.ne_of_lt (lt_ BK385.out) : gb385 ≠ gb389)); have NB389_385 := Aside0.mk ((by rw [hg]; exact Nat.ne_of_gt (lt_ BK385.out) : gb389 ≠ gb385)); replace BK379 := Aside0.mk (bb BK379.out hb); replace BK380 := Aside0.mk (bb BK380.out hb); replace BK385 := Aside0.mk (bb BK385.out hb); replace HB := Aside0.mk (below_step (bl3 HB.out GE379.out GE380.out GE385.out) hb); clear hb hbox hg; have hnb80 := NB389_379.out; have hnc80 := NB379_389.out; have hnb81 := NB389_380.out; have hnc81 := NB380_389.out; have hnb82 := NB389_385.out; have hnc82 := NB385_389.out; have hcz83_0 : w79.cell? ⟨gb389, 0, none⟩ = some (.int .i64 0) := (blk_cell BK389.out 0).trans rfl; have hcz83_1 : w79.cell? ⟨gb389, 1, none⟩ = some (.int .i64 0) := (blk_cell BK389.out 1).trans rfl; have hfz83_0 := blk_frozen BK389.out 0; have hfz83_1 := blk_frozen BK389.out 1; have hcz84_0 : w79.cell? ⟨gb379, 0, none⟩ = some (.int .i64 a0_0) := (blk_cell BK379.out 0).trans rfl; have hcz84_1 : w79.cell? ⟨gb379, 1, none⟩ = some (.bool a0_1) := (blk_cell BK379.out 1).trans rfl; have hcz84_2 : w79.cell? ⟨gb379, 2, none⟩ = some (.int .i64 a0_2) := (blk_cell BK379.out 2).trans rfl; have hcz84_3 : w79.cell? ⟨gb379, 3, none⟩ = some (.int .i64 a0_3) := (blk_cell BK379.out 3).trans rfl; have hcz84_4 : w79.cell? ⟨gb379, 4, none⟩ = some (.int .i64 a0_4) := (blk_cell BK379.out 4).trans rfl; have hcz84_5 : w79.cell? ⟨gb379, 5, none⟩ = some (.int .i64 a0_5) := (blk_cell BK379.out 5).trans rfl; have hcz84_6 : w79.cell? ⟨gb379, 6, none⟩ = some (.int .i64 a0_6) := (blk_cell BK379.out 6).trans rfl; have hcz84_7 : w79.cell? ⟨gb379, 7, none⟩ = some (.int .i64 a0_7) := (blk_cell BK379.out 7).trans rfl; have hfz84_0 := blk_frozen BK379.out 0; have hfz84_1 := blk_frozen BK379.out 1; have hfz84_2 := blk_frozen BK379.out 2; have hfz84_3 := blk_frozen BK379.out 3; have hfz84_4 := blk_frozen BK379.out 4; have hfz84_5 := blk_frozen BK379.out 5; have hfz84_6 := blk_frozen BK379.out 6; have hfz84_7 := blk_frozen BK379.out 7; have hcz85_0 : w79.cell? ⟨gb380, 0, none⟩ = some (.int .i64 a1_0) := (blk_cell BK380.out 0).trans rfl; have hcz85_1 : w79.cell? ⟨gb380, 1, none⟩ = some (.bool a1_1) := (blk_cell BK380.out 1).trans rfl; have hcz85_2 : w79.cell? ⟨gb380, 2, none⟩ = some (.int .i64 a1_2) := (blk_cell BK380.out 2).trans rfl; have hcz85_3 : w79.cell? ⟨gb380, 3, none⟩ = some (.int .i64 a1_3) := (blk_cell BK380.out 3).trans rfl; have hcz85_4 : w79.cell? ⟨gb380, 4, none⟩ = some (.int .i64 a1_4) := (blk_cell BK380.out 4).trans rfl; have hcz85_5 : w79.cell? ⟨gb380, 5, none⟩ = some (.int .i64 a1_5) := (blk_cell BK380.out 5).trans rfl; have hcz85_6 : w79.cell? ⟨gb380, 6, none⟩ = some (.int .i64 a1_6) := (blk_cell BK380.out 6).trans rfl; have hcz85_7 : w79.cell? ⟨gb380, 7, none⟩ = some (.int .i64 a1_7) := (blk_cell BK380.out 7).trans rfl; have hfz85_0 := blk_frozen BK380.out 0; have hfz85_1 := blk_frozen BK380.out 1; have hfz85_2 := blk_frozen BK380.out 2; have hfz85_3 := blk_frozen BK380.out 3; have hfz85_4 := blk_frozen BK380.out 4; have hfz85_5 := blk_frozen BK380.out 5; have hfz85_6 := blk_frozen BK380.out 6; have hfz85_7 := blk_frozen BK380.out 7) | ((with_reducible refine gate_callee (f := 18) rfl ?_); refine goesL_ (some 26) rfl rfl Try.func18 (by kernel_rfl) rfl #[.agg #[.int .i64 a0_0, .bool a0_1, .int .i64 a0_2, .int .i64 a0_3, .int .i64 a0_4, .int .i64 a0_5, .int .i64 a0_6, .int .i64 a0_7], .agg #[.int .i64 a1_0, .bool a1_1, .int .i64 a1_2, .int .i64 a1_3, .int .i64 a1_4, .int .i64 a1_5, .int .i64 a1_6, .int .i64 a1_7]] rfl am ?_; (with_reducible refine (corner_Is.calls k a0_0 a0_1 a0_2 a0_3 a0_4 a0_5 a0_6 a0_7 a1_0 a1_1 a1_2 a1_3 a1_4 a1_5 a1_6 a1_7 false t391 _ A7.out).mono ?_); rintro e w86 ⟨rfl, hb⟩; refine ⟨_, rfl, ?_⟩; replace BK379 := Aside0.mk (blk_below (g := gb379) (o := .cells #[.int .i64 a0_0, .bool a0_1, .int .i64 a0_2, .int .i64 a0_3, .int .i64 a0_4, .int .i64 a0_5, .int .i64 a0_6, .int .i64 a0_7] 38 (0, 0)) (by (with_reducible repeat (first | refine blk_drewN ?_ _ | refine blk_drew ?_ | refine blk_alloc ?_ _)); refine blk_far ?_ NB379_389.out _; (with_reducible repeat (first | refine blk_drewN ?_ _ | refine blk_drew ?_ | refine blk_alloc ?_ _)); refine blk_far ?_ NB379_389.out _; (with_reducible repeat (first | refine blk_drewN ?_ _ | refine blk_drew ?_ | refine blk_alloc ?_ _)); exact BK379.out) hb); replace BK380 := Aside0.mk (blk_below (g := gb380) (o := .cells #[.int .i64 a1_0, .bool a1_1, .int .i64 a1_2, .int .i64 a1_3, .int .i64 a1_4, .int .i64 a1_5, .int .i64 a1_6, .int .i64 a1_7] 38 (0, 0)) (by (with_reducible repeat (first | refine blk_drewN ?_ _ | refine blk_drew ?_ | refine blk_alloc ?_ _)); refine blk_far ?_ NB380_389.out _; (with_reducible repeat (first | refine blk_drewN ?_ _ | refine blk_drew ?_ | refine blk_alloc ?_ _)); refine blk_far ?_ NB380_389.out _; (with_reducible repeat (first | refine blk_drewN ?_ _ | refine blk_drew ?_ | refine blk_alloc ?_ _)); exact BK380.out) hb); replace BK385 := Aside0.mk (blk_below (g := gb385) (o := .cells #[.int .i64 t382, .int .i64 t383] 36 (0, 0)) (by (with_reducible repeat (first | refine blk_drewN ?_ _ | refine blk_drew ?_ | refine blk_alloc ?_ _)); refine blk_far ?_ NB385_389.out _; (with_reducible repeat (first | refine blk_drewN ?_ _ | refine blk_drew ?_ | refine blk_alloc ?_ _)); refine blk_far ?_ NB385_389.out _; (with_reducible repeat (first | refine blk_drewN ?_ _ | refine blk_drew ?_ | refine blk_alloc ?_ _)); exact BK385.out) hb); replace BK389 := Aside0.mk (blk_below (g := gb389) (o := .cells #[.int .i64 t386, .int .i64 t387] 36 (0, 0)) (by (with_reducible repeat (first | refine blk_drewN ?_ _ | refine blk_drew ?_ | refine blk_alloc ?_ _)); refine blk_put (cs := #[.int .i64 t386, .int .i64 0]) ?_ 1 _ rfl; (with_reducible repeat (first | refine blk_drewN ?_ _ | refine blk_drew ?_ | refine blk_alloc ?_ _)); refine blk_put (cs := #[.int .i64 0, .int .i64 0]) ?_ 0 _ rfl; (with_reducible repeat (first | refine blk_drewN ?_ _ | refine blk_drew ?_ | refine blk_alloc ?_ _)); exact BK389.out) hb); replace HB := Aside0.mk (below_step (bl4 HB.out GE379.out GE380.out GE385.out GE389.out) hb); (try clear hb); (try clear hb2); (try clear hk); (try clear hi); have hcz87_0 : w86.cell? ⟨gb379, 0, none⟩ = some (.int .i64 a0_0) := (blk_cell BK379.out 0).trans rfl; have hcz87_1 : w86.cell? ⟨gb379, 1, none⟩ = some (.bool a0_1) := (blk_cell BK379.out 1).trans rfl; have hcz87_2 : w86.cell? ⟨gb379, 2, none⟩ = some (.int .i64 a0_2) := (blk_cell BK379.out 2).trans rfl; have hcz87_3 : w86.cell? ⟨gb379, 3, none⟩ = some (.int .i64 a0_3) := (blk_cell BK379.out 3).trans rfl; have hcz87_4 : w86.cell? ⟨gb379, 4, none⟩ = some (.int .i64 a0_4) := (blk_cell BK379.out 4).trans rfl; have hcz87_5 : w86.cell? ⟨gb379, 5, none⟩ = some (.int .i64 a0_5) := (blk_cell BK379.out 5).trans rfl; have hcz87_6 : w86.cell? ⟨gb379, 6, none⟩ = some (.int .i64 a0_6) := (blk_cell BK379.out 6).trans rfl; have hcz87_7 : w86.cell? ⟨gb379, 7, none⟩ = some (.int .i64 a0_7) := (blk_cell BK379.out 7).trans rfl; have hfz87_0 := blk_frozen BK379.out 0; have hfz87_1 := blk_frozen BK379.out 1; have hfz87_2 := blk_frozen BK379.out 2; have hfz87_3 := blk_frozen BK379.out 3; have hfz87_4 := blk_frozen BK379.out 4; have hfz87_5 := blk_frozen BK379.out 5; have hfz87_6 := blk_frozen BK379.out 6; have hfz87_7 := blk_frozen BK379.out 7) | ((with_reducible refine gate_callee (f := 17) rfl ?_); refine goesL_ (some 30) rfl rfl Try.func17 (by kernel_rfl) rfl #[.agg #[.int .i64 a0_0, .bool a0_1, .int .i64 a0_2, .int .i64 a0_3, .int .i64 a0_4, .int .i64 a0_5, .int .i64 a0_6, .int .i64 a0_7]] rfl am ?_; (with_reducible refine (pochoirref16_One.calls a0_0 a0_1 a0_2 a0_3 a0_4 a0_5 a0_6 a0_7 false _ A8.out).mono ?_); rintro e w88 ⟨rfl, hb⟩; refine ⟨_, rfl, ?_⟩; replace BK379 := Aside0.mk (bb BK379.out hb); replace BK380 := Aside0.mk (bb BK380.out hb); replace BK385 := Aside0.mk (bb BK385.out hb); replace BK389 := Aside0.mk (bb BK389.out hb); replace HB := Aside0.mk (below_step (bl4 HB.out GE379.out GE380.out GE385.out GE389.out) hb); (try clear hb); (try clear hb2); (try clear hk); (try clear hi); have hcz89_0 : w88.cell? ⟨gb385, 0, none⟩ = some (.int .i64 t382) := (blk_cell BK385.out 0).trans rfl; have hcz89_1 : w88.cell? ⟨gb385, 1, none⟩ = some (.int .i64 t383) := (blk_cell BK385.out 1).trans rfl; have hfz89_0 := blk_frozen BK385.out 0; have hfz89_1 := blk_frozen BK385.out 1; have hcz90_0 : w88.cell? ⟨gb389, 0, none⟩ = some (.int .i64 t386) := (blk_cell BK389.out 0).trans rfl; have hcz90_1 : w88.cell? ⟨gb389, 1, none⟩ = some (.int .i64 t387) := (blk_cell BK389.out 1).trans rfl; have hfz90_0 := blk_frozen BK389.out 0; have hfz90_1 := blk_frozen BK389.out 1))
        go_ret
        exact ⟨by first | rfl | (simp [errW_none, errW_some] <;> rfl) | (simp [*, errW_none, errW_some] <;> rfl), bl4 HB.out GE379.out GE380.out GE385.out GE389.out⟩
      ·rw [if_neg c65] at H
       have c65b0 : (t388 == 1) = false := beq_eq_false_iff_ne.mpr c65
       have c65b1 : (t388 != 1) = true := bne_iff_ne.mpr c65
       exact absurd (HQ.out ▸ H) (by simp)
     ·rw [if_neg c64] at H
      have c64b0 : (t384 == 1) = false := beq_eq_false_iff_ne.mpr c64
      have c64b1 : (t384 != 1) = true := bne_iff_ne.mpr c64
      exact absurd (HQ.out ▸ H) (by simp)
    ·rw [if_neg c63] at H
     have c63b0 : (t386 == 0 && (t387 == 0)) = false := by simpa using c63
     (try (have c63b1 : decide (t386 = 0 && (t387 == 0)) = false := by simpa using c63))
     (try (have c63b2 : (t386 == 0 && (t387 == 0)) = false := by simpa using c63))
     (try (have c63b3 : ¬ (t386 = 0 && (t387 == 0)) := by simpa using c63))
     clear c63
     exact absurd (HQ.out ▸ H) (by simp)
   ·rw [if_neg c62] at H
    have c62b0 : (t382 == 0 && (t383 == 0)) = false := by simpa using c62
    (try (have c62b1 : decide (t382 = 0 && (t383 == 0)) = false := by simpa using c62))
    (try (have c62b2 : (t382 == 0 && (t383 == 0)) = false := by simpa using c62))
    (try (have c62b3 : ¬ (t382 = 0 && (t383 == 0)) := by simpa using c62))
    clear c62
    exact absurd (HQ.out ▸ H) (by simp)
 ·replace c4 := Bool.eq_false_iff.mpr c4
  subst c4
  have H1 : (some false) = some r := by rw [if_neg (show ¬ (false = true) by decide)] at H; exact H
  clear H
  have H := H1
  clear H1
  exact absurd (HQ.out ▸ H) (by simp)

/-- THE ONE PURE STATEMENT of pochoirlaw22_CornerAsks. -/
def pochoirlaw22_CornerAsks.Pure : Prop := ∀ (x0 : S38) (x1 : S38), wf38 x0 → wf38 x1 → ∃ k, pochoirlaw22_CornerAsks.f k x0.f0 x0.f1 x0.f2.f0 x0.f2.f1 x0.f3.f0 x0.f3.f1 x0.f4.f0 x0.f4.f1 x1.f0 x1.f1 x1.f2.f0 x1.f2.f1 x1.f3.f0 x1.f3.f1 x1.f4.f0 x1.f4.f1 = some true

end Go.Proofs.Ytalgppclaolonaa.XCorn
