-- Printed by a program of this claim. Not trusted: Lean checks it.
import Derived.Test.YtemhnlameekmkaaXLinex0
import Derived.Test.YtemhnlameekmkaaXLinex6
import Derived.Test.YtemhnlameekmkaaXLinex7
import Derived.Test.YtemhnlameekmkaaXLinex9
import Derived.Test.YtemhnlameekmkaaXLinex10
namespace Go.Proofs.Ytemhnlameekmkaa.XLine
open Go.RowKit Go.Proofs.YtemhnlameekmkaaW.PrintWords Go.Proofs.YtemhnlameekmkaaW.PrintLast Go.Proofs.YtemhnlameekmkaaW.PrintMore
attribute [local go_sem] max2_int min2_int max_two min_two max_three min_three max_four min_four   -- for this text's walks alone
set_option linter.unusedVariables false
set_option linter.unusedSimpArgs false
open XOpen

/-! ### pochoirlaw19_LineLevels: function 10 -/
mutual
def pochoirlaw19_LineLevels.j0 : Nat → Int → Int → Bool → Int → Int → Int → Int → Int → Int → Option (Bool)
 | 0, _, _, _, _, _, _, _, _, _ => none
 | k + 1, x1, x2, x19, x364000, x364001, x364002, x364003, x364004, x364005 => if x19 = true then (some false) else ((line_Point.f k x364000 x364001 x364002 x364003 x1 x2).bind fun bt368 => (pochoirlaw19_LineLevels.j1 k x1 x2 bt368.1 bt368.2 x364000 x364001 x364002 x364003 x364004 x364005))
def pochoirlaw19_LineLevels.j1 : Nat → Int → Int → Int → Int → Int → Int → Int → Int → Int → Int → Option (Bool)
 | 0, _, _, _, _, _, _, _, _, _, _ => none
 | k + 1, x1, x2, x10, x11, x366000, x366001, x367000, x367001, x368000, x368001 => (line_Segment.f k x366000 x366001 x367000 x367001 x368000 x368001 x1 x2).bind fun bt370 => (pochoirlaw19_LineLevels.j2 k x1 x2 x10 x11 bt370.1 bt370.2 x366000 x366001 x367000 x367001 x368000 x368001)
def pochoirlaw19_LineLevels.j2 : Nat → Int → Int → Int → Int → Int → Int → Int → Int → Int → Int → Int → Int → Option (Bool)
 | 0, _, _, _, _, _, _, _, _, _, _, _, _ => none
 | k + 1, x1, x2, x10, x11, x12, x13, x366000, x366001, x367000, x367001, x368000, x368001 => (line_Ray.f k x366000 x366001 x367000 x367001 x368000 x368001 x1 x2).bind fun bt372 => (pochoirlaw19_LineLevels.j3 k x1 x2 x10 x11 x12 x13 bt372.1 bt372.2 x366000 x366001 x367000 x367001 x368000 x368001)
def pochoirlaw19_LineLevels.j3 : Nat → Int → Int → Int → Int → Int → Int → Int → Int → Int → Int → Int → Int → Int → Int → Option (Bool)
 | 0, _, _, _, _, _, _, _, _, _, _, _, _, _, _ => none
 | k + 1, x1, x2, x10, x11, x12, x13, x14, x15, x366000, x366001, x367000, x367001, x368000, x368001 => (pochoirref19_Asked.f k (([(⟨x366000, x366001⟩ : S26), (⟨x367000, x367001⟩ : S26)] : List (S26))) x1 x2).bind fun t377 => ((pochoirref19_Asked.f k (([(⟨x366000, x366001⟩ : S26), (⟨x367000, x367001⟩ : S26), (⟨x368000, x368001⟩ : S26)] : List (S26))) x1 x2).bind fun t381 => (if x11 = t377 then (if x13 = t381 then (pochoirlaw19_LineLevels.j4 k x1 x2 x10 x12 x14 t377 t381 (x15 != t381) x366000 x366001 x367000 x367001 x368000 x368001) else (pochoirlaw19_LineLevels.j4 k x1 x2 x10 x12 x14 t377 t381 true x366000 x366001 x367000 x367001 x368000 x368001)) else (pochoirlaw19_LineLevels.j4 k x1 x2 x10 x12 x14 t377 t381 true x366000 x366001 x367000 x367001 x368000 x368001)))
def pochoirlaw19_LineLevels.j4 : Nat → Int → Int → Int → Int → Int → Int → Int → Bool → Int → Int → Int → Int → Int → Int → Option (Bool)
 | 0, _, _, _, _, _, _, _, _, _, _, _, _, _, _ => none
 | k + 1, x1, x2, x10, x12, x14, x16, x17, x77, x366000, x366001, x367000, x367001, x368000, x368001 => if x77 = true then (some false) else (if x16 = 0 then (if x17 = 0 then ((pochoirref19_Near.f k x366000 x366001 x367000 x367001 x1 x2).bind fun t382 => (pochoirlaw19_LineLevels.j5 k x1 x2 x12 x14 x17 (x10 != t382) x366000 x366001 x367000 x367001 x368000 x368001)) else (if x12 = 0 then (if x14 = 0 then ((pochoirref19_Near.f k x366000 x366001 x367000 x367001 x1 x2).bind fun t383 => (pochoirlaw19_LineLevels.j5 k x1 x2 x12 x14 x17 (x10 != t383) x366000 x366001 x367000 x367001 x368000 x368001)) else (pochoirlaw19_LineLevels.j5 k x1 x2 x12 x14 x17 true x366000 x366001 x367000 x367001 x368000 x368001)) else (pochoirlaw19_LineLevels.j5 k x1 x2 x12 x14 x17 true x366000 x366001 x367000 x367001 x368000 x368001))) else (if x10 = 0 then (if x17 = 0 then (pochoirlaw19_LineLevels.j5 k x1 x2 x12 x14 x17 false x366000 x366001 x367000 x367001 x368000 x368001) else (if x12 = 0 then (if x14 = 0 then (pochoirlaw19_LineLevels.j5 k x1 x2 x12 x14 x17 false x366000 x366001 x367000 x367001 x368000 x368001) else (pochoirlaw19_LineLevels.j5 k x1 x2 x12 x14 x17 true x366000 x366001 x367000 x367001 x368000 x368001)) else (pochoirlaw19_LineLevels.j5 k x1 x2 x12 x14 x17 true x366000 x366001 x367000 x367001 x368000 x368001))) else (pochoirlaw19_LineLevels.j5 k x1 x2 x12 x14 x17 true x366000 x366001 x367000 x367001 x368000 x368001)))
def pochoirlaw19_LineLevels.j5 : Nat → Int → Int → Int → Int → Int → Bool → Int → Int → Int → Int → Int → Int → Option (Bool)
 | 0, _, _, _, _, _, _, _, _, _, _, _, _ => none
 | k + 1, x1, x2, x12, x14, x17, x108, x366000, x366001, x367000, x367001, x368000, x368001 => if x108 = true then (some false) else (if x17 = 0 then ((pochoirref19_Segment.f k x366000 x366001 x367000 x367001 x368000 x368001 x1 x2).bind fun t384 => (if x12 = t384 then ((pochoirref19_Ray.f k x366000 x366001 x367000 x367001 x368000 x368001 x1 x2).bind fun t385 => (some (x14 == t385))) else (some false))) else (some true))
end
def pochoirlaw19_LineLevels.f (k : Nat) (a0_0 : Int) (a0_1 : Int) (a0_2 : Int) (a0_3 : Int) (a0_4 : Int) (a0_5 : Int) (a1 : Int) (a2 : Int) : Option (Bool) := (pochoirlaw19_awake.f k).bind fun t364 => (pochoirlaw19_LineLevels.j0 k a1 a2 (!t364) a0_0 a0_1 a0_2 a0_3 a0_4 a0_5)
theorem pochoirlaw19_LineLevels.mono_l : ∀ k, (∀ y0 y1 y2 y3 y4 y5 y6 y7 y8, LeO (pochoirlaw19_LineLevels.j0 k y0 y1 y2 y3 y4 y5 y6 y7 y8) (pochoirlaw19_LineLevels.j0 (k + 1) y0 y1 y2 y3 y4 y5 y6 y7 y8)) ∧ (∀ y0 y1 y2 y3 y4 y5 y6 y7 y8 y9, LeO (pochoirlaw19_LineLevels.j1 k y0 y1 y2 y3 y4 y5 y6 y7 y8 y9) (pochoirlaw19_LineLevels.j1 (k + 1) y0 y1 y2 y3 y4 y5 y6 y7 y8 y9)) ∧ (∀ y0 y1 y2 y3 y4 y5 y6 y7 y8 y9 y10 y11, LeO (pochoirlaw19_LineLevels.j2 k y0 y1 y2 y3 y4 y5 y6 y7 y8 y9 y10 y11) (pochoirlaw19_LineLevels.j2 (k + 1) y0 y1 y2 y3 y4 y5 y6 y7 y8 y9 y10 y11)) ∧ (∀ y0 y1 y2 y3 y4 y5 y6 y7 y8 y9 y10 y11 y12 y13, LeO (pochoirlaw19_LineLevels.j3 k y0 y1 y2 y3 y4 y5 y6 y7 y8 y9 y10 y11 y12 y13) (pochoirlaw19_LineLevels.j3 (k + 1) y0 y1 y2 y3 y4 y5 y6 y7 y8 y9 y10 y11 y12 y13)) ∧ (∀ y0 y1 y2 y3 y4 y5 y6 y7 y8 y9 y10 y11 y12 y13, LeO (pochoirlaw19_LineLevels.j4 k y0 y1 y2 y3 y4 y5 y6 y7 y8 y9 y10 y11 y12 y13) (pochoirlaw19_LineLevels.j4 (k + 1) y0 y1 y2 y3 y4 y5 y6 y7 y8 y9 y10 y11 y12 y13)) ∧ (∀ y0 y1 y2 y3 y4 y5 y6 y7 y8 y9 y10 y11, LeO (pochoirlaw19_LineLevels.j5 k y0 y1 y2 y3 y4 y5 y6 y7 y8 y9 y10 y11) (pochoirlaw19_LineLevels.j5 (k + 1) y0 y1 y2 y3 y4 y5 y6 y7 y8 y9 y10 y11))
 | 0 => ⟨fun _ _ _ _ _ _ _ _ _ r h => by simp [pochoirlaw19_LineLevels.j0] at h, fun _ _ _ _ _ _ _ _ _ _ r h => by simp [pochoirlaw19_LineLevels.j1] at h, fun _ _ _ _ _ _ _ _ _ _ _ _ r h => by simp [pochoirlaw19_LineLevels.j2] at h, fun _ _ _ _ _ _ _ _ _ _ _ _ _ _ r h => by simp [pochoirlaw19_LineLevels.j3] at h, fun _ _ _ _ _ _ _ _ _ _ _ _ _ _ r h => by simp [pochoirlaw19_LineLevels.j4] at h, fun _ _ _ _ _ _ _ _ _ _ _ _ r h => by simp [pochoirlaw19_LineLevels.j5] at h⟩
 | k + 1 => by
  obtain ⟨ih0, ih1, ih2, ih3, ih4, ih5⟩ := pochoirlaw19_LineLevels.mono_l k
  refine ⟨?_, ?_, ?_, ?_, ?_, ?_⟩
  ·intro y0 y1 y2 y3 y4 y5 y6 y7 y8
   unfold pochoirlaw19_LineLevels.j0
   repeat' first
   | (with_reducible exact ih0 _ _ _ _ _ _ _ _ _)
   | (with_reducible exact ih1 _ _ _ _ _ _ _ _ _ _)
   | (with_reducible exact ih2 _ _ _ _ _ _ _ _ _ _ _ _)
   | (with_reducible exact ih3 _ _ _ _ _ _ _ _ _ _ _ _ _ _)
   | (with_reducible exact ih4 _ _ _ _ _ _ _ _ _ _ _ _ _ _)
   | (with_reducible exact ih5 _ _ _ _ _ _ _ _ _ _ _ _)
   | (with_reducible exact line_Point.mono _ _ _ _ _ _ _)
   | (with_reducible exact line_Ray.mono _ _ _ _ _ _ _ _ _)
   | (with_reducible exact line_Segment.mono _ _ _ _ _ _ _ _ _)
   | (with_reducible exact pochoirlaw19_awake.mono _)
   | (with_reducible exact pochoirref19_Asked.mono _ _ _ _)
   | (with_reducible exact pochoirref19_Near.mono _ _ _ _ _ _ _)
   | (with_reducible exact pochoirref19_Ray.mono _ _ _ _ _ _ _ _ _)
   | (with_reducible exact pochoirref19_Segment.mono _ _ _ _ _ _ _ _ _)
   | (with_reducible exact LeO.refl _)
   | (with_reducible exact LeO.none _)
   | (with_reducible refine LeO.ite ?_ ?_)
   | (with_reducible refine LeO.bind ?_ (fun _ => ?_))
   | exact ih0 _ _ _ _ _ _ _ _ _
   | exact ih1 _ _ _ _ _ _ _ _ _ _
   | exact ih2 _ _ _ _ _ _ _ _ _ _ _ _
   | exact ih3 _ _ _ _ _ _ _ _ _ _ _ _ _ _
   | exact ih4 _ _ _ _ _ _ _ _ _ _ _ _ _ _
   | exact ih5 _ _ _ _ _ _ _ _ _ _ _ _
   | exact line_Point.mono _ _ _ _ _ _ _
   | exact line_Ray.mono _ _ _ _ _ _ _ _ _
   | exact line_Segment.mono _ _ _ _ _ _ _ _ _
   | exact pochoirlaw19_awake.mono _
   | exact pochoirref19_Asked.mono _ _ _ _
   | exact pochoirref19_Near.mono _ _ _ _ _ _ _
   | exact pochoirref19_Ray.mono _ _ _ _ _ _ _ _ _
   | exact pochoirref19_Segment.mono _ _ _ _ _ _ _ _ _
   | exact LeO.none _
   | refine LeO.ite ?_ ?_
   | refine LeO.bind ?_ (fun _ => ?_)
  ·intro y0 y1 y2 y3 y4 y5 y6 y7 y8 y9
   unfold pochoirlaw19_LineLevels.j1
   repeat' first
   | (with_reducible exact ih0 _ _ _ _ _ _ _ _ _)
   | (with_reducible exact ih1 _ _ _ _ _ _ _ _ _ _)
   | (with_reducible exact ih2 _ _ _ _ _ _ _ _ _ _ _ _)
   | (with_reducible exact ih3 _ _ _ _ _ _ _ _ _ _ _ _ _ _)
   | (with_reducible exact ih4 _ _ _ _ _ _ _ _ _ _ _ _ _ _)
   | (with_reducible exact ih5 _ _ _ _ _ _ _ _ _ _ _ _)
   | (with_reducible exact line_Point.mono _ _ _ _ _ _ _)
   | (with_reducible exact line_Ray.mono _ _ _ _ _ _ _ _ _)
   | (with_reducible exact line_Segment.mono _ _ _ _ _ _ _ _ _)
   | (with_reducible exact pochoirlaw19_awake.mono _)
   | (with_reducible exact pochoirref19_Asked.mono _ _ _ _)
   | (with_reducible exact pochoirref19_Near.mono _ _ _ _ _ _ _)
   | (with_reducible exact pochoirref19_Ray.mono _ _ _ _ _ _ _ _ _)
   | (with_reducible exact pochoirref19_Segment.mono _ _ _ _ _ _ _ _ _)
   | (with_reducible exact LeO.refl _)
   | (with_reducible exact LeO.none _)
   | (with_reducible refine LeO.ite ?_ ?_)
   | (with_reducible refine LeO.bind ?_ (fun _ => ?_))
   | exact ih0 _ _ _ _ _ _ _ _ _
   | exact ih1 _ _ _ _ _ _ _ _ _ _
   | exact ih2 _ _ _ _ _ _ _ _ _ _ _ _
   | exact ih3 _ _ _ _ _ _ _ _ _ _ _ _ _ _
   | exact ih4 _ _ _ _ _ _ _ _ _ _ _ _ _ _
   | exact ih5 _ _ _ _ _ _ _ _ _ _ _ _
   | exact line_Point.mono _ _ _ _ _ _ _
   | exact line_Ray.mono _ _ _ _ _ _ _ _ _
   | exact line_Segment.mono _ _ _ _ _ _ _ _ _
   | exact pochoirlaw19_awake.mono _
   | exact pochoirref19_Asked.mono _ _ _ _
   | exact pochoirref19_Near.mono _ _ _ _ _ _ _
   | exact pochoirref19_Ray.mono _ _ _ _ _ _ _ _ _
   | exact pochoirref19_Segment.mono _ _ _ _ _ _ _ _ _
   | exact LeO.none _
   | refine LeO.ite ?_ ?_
   | refine LeO.bind ?_ (fun _ => ?_)
  ·intro y0 y1 y2 y3 y4 y5 y6 y7 y8 y9 y10 y11
   unfold pochoirlaw19_LineLevels.j2
   repeat' first
   | (with_reducible exact ih0 _ _ _ _ _ _ _ _ _)
   | (with_reducible exact ih1 _ _ _ _ _ _ _ _ _ _)
   | (with_reducible exact ih2 _ _ _ _ _ _ _ _ _ _ _ _)
   | (with_reducible exact ih3 _ _ _ _ _ _ _ _ _ _ _ _ _ _)
   | (with_reducible exact ih4 _ _ _ _ _ _ _ _ _ _ _ _ _ _)
   | (with_reducible exact ih5 _ _ _ _ _ _ _ _ _ _ _ _)
   | (with_reducible exact line_Point.mono _ _ _ _ _ _ _)
   | (with_reducible exact line_Ray.mono _ _ _ _ _ _ _ _ _)
   | (with_reducible exact line_Segment.mono _ _ _ _ _ _ _ _ _)
   | (with_reducible exact pochoirlaw19_awake.mono _)
   | (with_reducible exact pochoirref19_Asked.mono _ _ _ _)
   | (with_reducible exact pochoirref19_Near.mono _ _ _ _ _ _ _)
   | (with_reducible exact pochoirref19_Ray.mono _ _ _ _ _ _ _ _ _)
   | (with_reducible exact pochoirref19_Segment.mono _ _ _ _ _ _ _ _ _)
   | (with_reducible exact LeO.refl _)
   | (with_reducible exact LeO.none _)
   | (with_reducible refine LeO.ite ?_ ?_)
   | (with_reducible refine LeO.bind ?_ (fun _ => ?_))
   | exact ih0 _ _ _ _ _ _ _ _ _
   | exact ih1 _ _ _ _ _ _ _ _ _ _
   | exact ih2 _ _ _ _ _ _ _ _ _ _ _ _
   | exact ih3 _ _ _ _ _ _ _ _ _ _ _ _ _ _
   | exact ih4 _ _ _ _ _ _ _ _ _ _ _ _ _ _
   | exact ih5 _ _ _ _ _ _ _ _ _ _ _ _
   | exact line_Point.mono _ _ _ _ _ _ _
   | exact line_Ray.mono _ _ _ _ _ _ _ _ _
   | exact line_Segment.mono _ _ _ _ _ _ _ _ _
   | exact pochoirlaw19_awake.mono _
   | exact pochoirref19_Asked.mono _ _ _ _
   | exact pochoirref19_Near.mono _ _ _ _ _ _ _
   | exact pochoirref19_Ray.mono _ _ _ _ _ _ _ _ _
   | exact pochoirref19_Segment.mono _ _ _ _ _ _ _ _ _
   | exact LeO.none _
   | refine LeO.ite ?_ ?_
   | refine LeO.bind ?_ (fun _ => ?_)
  ·intro y0 y1 y2 y3 y4 y5 y6 y7 y8 y9 y10 y11 y12 y13
   unfold pochoirlaw19_LineLevels.j3
   repeat' first
   | (with_reducible exact ih0 _ _ _ _ _ _ _ _ _)
   | (with_reducible exact ih1 _ _ _ _ _ _ _ _ _ _)
   | (with_reducible exact ih2 _ _ _ _ _ _ _ _ _ _ _ _)
   | (with_reducible exact ih3 _ _ _ _ _ _ _ _ _ _ _ _ _ _)
   | (with_reducible exact ih4 _ _ _ _ _ _ _ _ _ _ _ _ _ _)
   | (with_reducible exact ih5 _ _ _ _ _ _ _ _ _ _ _ _)
   | (with_reducible exact line_Point.mono _ _ _ _ _ _ _)
   | (with_reducible exact line_Ray.mono _ _ _ _ _ _ _ _ _)
   | (with_reducible exact line_Segment.mono _ _ _ _ _ _ _ _ _)
   | (with_reducible exact pochoirlaw19_awake.mono _)
   | (with_reducible exact pochoirref19_Asked.mono _ _ _ _)
   | (with_reducible exact pochoirref19_Near.mono _ _ _ _ _ _ _)
   | (with_reducible exact pochoirref19_Ray.mono _ _ _ _ _ _ _ _ _)
   | (with_reducible exact pochoirref19_Segment.mono _ _ _ _ _ _ _ _ _)
   | (with_reducible exact LeO.refl _)
   | (with_reducible exact LeO.none _)
   | (with_reducible refine LeO.ite ?_ ?_)
   | (with_reducible refine LeO.bind ?_ (fun _ => ?_))
   | exact ih0 _ _ _ _ _ _ _ _ _
   | exact ih1 _ _ _ _ _ _ _ _ _ _
   | exact ih2 _ _ _ _ _ _ _ _ _ _ _ _
   | exact ih3 _ _ _ _ _ _ _ _ _ _ _ _ _ _
   | exact ih4 _ _ _ _ _ _ _ _ _ _ _ _ _ _
   | exact ih5 _ _ _ _ _ _ _ _ _ _ _ _
   | exact line_Point.mono _ _ _ _ _ _ _
   | exact line_Ray.mono _ _ _ _ _ _ _ _ _
   | exact line_Segment.mono _ _ _ _ _ _ _ _ _
   | exact pochoirlaw19_awake.mono _
   | exact pochoirref19_Asked.mono _ _ _ _
   | exact pochoirref19_Near.mono _ _ _ _ _ _ _
   | exact pochoirref19_Ray.mono _ _ _ _ _ _ _ _ _
   | exact pochoirref19_Segment.mono _ _ _ _ _ _ _ _ _
   | exact LeO.none _
   | refine LeO.ite ?_ ?_
   | refine LeO.bind ?_ (fun _ => ?_)
  ·intro y0 y1 y2 y3 y4 y5 y6 y7 y8 y9 y10 y11 y12 y13
   unfold pochoirlaw19_LineLevels.j4
   repeat' first
   | (with_reducible exact ih0 _ _ _ _ _ _ _ _ _)
   | (with_reducible exact ih1 _ _ _ _ _ _ _ _ _ _)
   | (with_reducible exact ih2 _ _ _ _ _ _ _ _ _ _ _ _)
   | (with_reducible exact ih3 _ _ _ _ _ _ _ _ _ _ _ _ _ _)
   | (with_reducible exact ih4 _ _ _ _ _ _ _ _ _ _ _ _ _ _)
   | (with_reducible exact ih5 _ _ _ _ _ _ _ _ _ _ _ _)
   | (with_reducible exact line_Point.mono _ _ _ _ _ _ _)
   | (with_reducible exact line_Ray.mono _ _ _ _ _ _ _ _ _)
   | (with_reducible exact line_Segment.mono _ _ _ _ _ _ _ _ _)
   | (with_reducible exact pochoirlaw19_awake.mono _)
   | (with_reducible exact pochoirref19_Asked.mono _ _ _ _)
   | (with_reducible exact pochoirref19_Near.mono _ _ _ _ _ _ _)
   | (with_reducible exact pochoirref19_Ray.mono _ _ _ _ _ _ _ _ _)
   | (with_reducible exact pochoirref19_Segment.mono _ _ _ _ _ _ _ _ _)
   | (with_reducible exact LeO.refl _)
   | (with_reducible exact LeO.none _)
   | (with_reducible refine LeO.ite ?_ ?_)
   | (with_reducible refine LeO.bind ?_ (fun _ => ?_))
   | exact ih0 _ _ _ _ _ _ _ _ _
   | exact ih1 _ _ _ _ _ _ _ _ _ _
   | exact ih2 _ _ _ _ _ _ _ _ _ _ _ _
   | exact ih3 _ _ _ _ _ _ _ _ _ _ _ _ _ _
   | exact ih4 _ _ _ _ _ _ _ _ _ _ _ _ _ _
   | exact ih5 _ _ _ _ _ _ _ _ _ _ _ _
   | exact line_Point.mono _ _ _ _ _ _ _
   | exact line_Ray.mono _ _ _ _ _ _ _ _ _
   | exact line_Segment.mono _ _ _ _ _ _ _ _ _
   | exact pochoirlaw19_awake.mono _
   | exact pochoirref19_Asked.mono _ _ _ _
   | exact pochoirref19_Near.mono _ _ _ _ _ _ _
   | exact pochoirref19_Ray.mono _ _ _ _ _ _ _ _ _
   | exact pochoirref19_Segment.mono _ _ _ _ _ _ _ _ _
   | exact LeO.none _
   | refine LeO.ite ?_ ?_
   | refine LeO.bind ?_ (fun _ => ?_)
  ·intro y0 y1 y2 y3 y4 y5 y6 y7 y8 y9 y10 y11
   unfold pochoirlaw19_LineLevels.j5
   repeat' first
   | (with_reducible exact ih0 _ _ _ _ _ _ _ _ _)
   | (with_reducible exact ih1 _ _ _ _ _ _ _ _ _ _)
   | (with_reducible exact ih2 _ _ _ _ _ _ _ _ _ _ _ _)
   | (with_reducible exact ih3 _ _ _ _ _ _ _ _ _ _ _ _ _ _)
   | (with_reducible exact ih4 _ _ _ _ _ _ _ _ _ _ _ _ _ _)
   | (with_reducible exact ih5 _ _ _ _ _ _ _ _ _ _ _ _)
   | (with_reducible exact line_Point.mono _ _ _ _ _ _ _)
   | (with_reducible exact line_Ray.mono _ _ _ _ _ _ _ _ _)
   | (with_reducible exact line_Segment.mono _ _ _ _ _ _ _ _ _)
   | (with_reducible exact pochoirlaw19_awake.mono _)
   | (with_reducible exact pochoirref19_Asked.mono _ _ _ _)
   | (with_reducible exact pochoirref19_Near.mono _ _ _ _ _ _ _)
   | (with_reducible exact pochoirref19_Ray.mono _ _ _ _ _ _ _ _ _)
   | (with_reducible exact pochoirref19_Segment.mono _ _ _ _ _ _ _ _ _)
   | (with_reducible exact LeO.refl _)
   | (with_reducible exact LeO.none _)
   | (with_reducible refine LeO.ite ?_ ?_)
   | (with_reducible refine LeO.bind ?_ (fun _ => ?_))
   | exact ih0 _ _ _ _ _ _ _ _ _
   | exact ih1 _ _ _ _ _ _ _ _ _ _
   | exact ih2 _ _ _ _ _ _ _ _ _ _ _ _
   | exact ih3 _ _ _ _ _ _ _ _ _ _ _ _ _ _
   | exact ih4 _ _ _ _ _ _ _ _ _ _ _ _ _ _
   | exact ih5 _ _ _ _ _ _ _ _ _ _ _ _
   | exact line_Point.mono _ _ _ _ _ _ _
   | exact line_Ray.mono _ _ _ _ _ _ _ _ _
   | exact line_Segment.mono _ _ _ _ _ _ _ _ _
   | exact pochoirlaw19_awake.mono _
   | exact pochoirref19_Asked.mono _ _ _ _
   | exact pochoirref19_Near.mono _ _ _ _ _ _ _
   | exact pochoirref19_Ray.mono _ _ _ _ _ _ _ _ _
   | exact pochoirref19_Segment.mono _ _ _ _ _ _ _ _ _
   | exact LeO.none _
   | refine LeO.ite ?_ ?_
   | refine LeO.bind ?_ (fun _ => ?_)
theorem pochoirlaw19_LineLevels.mono : ∀ a0 a1 a2 a3 a4 a5 a6 a7 k, LeO (pochoirlaw19_LineLevels.f k a0 a1 a2 a3 a4 a5 a6 a7) (pochoirlaw19_LineLevels.f (k + 1) a0 a1 a2 a3 a4 a5 a6 a7) := by
 intro a0 a1 a2 a3 a4 a5 a6 a7 k
 obtain ⟨ih0, ih1, ih2, ih3, ih4, ih5⟩ := pochoirlaw19_LineLevels.mono_l k
 unfold pochoirlaw19_LineLevels.f
 repeat' first
   | (with_reducible exact ih0 _ _ _ _ _ _ _ _ _)
   | (with_reducible exact ih1 _ _ _ _ _ _ _ _ _ _)
   | (with_reducible exact ih2 _ _ _ _ _ _ _ _ _ _ _ _)
   | (with_reducible exact ih3 _ _ _ _ _ _ _ _ _ _ _ _ _ _)
   | (with_reducible exact ih4 _ _ _ _ _ _ _ _ _ _ _ _ _ _)
   | (with_reducible exact ih5 _ _ _ _ _ _ _ _ _ _ _ _)
   | (with_reducible exact line_Point.mono _ _ _ _ _ _ _)
   | (with_reducible exact line_Ray.mono _ _ _ _ _ _ _ _ _)
   | (with_reducible exact line_Segment.mono _ _ _ _ _ _ _ _ _)
   | (with_reducible exact pochoirlaw19_awake.mono _)
   | (with_reducible exact pochoirref19_Asked.mono _ _ _ _)
   | (with_reducible exact pochoirref19_Near.mono _ _ _ _ _ _ _)
   | (with_reducible exact pochoirref19_Ray.mono _ _ _ _ _ _ _ _ _)
   | (with_reducible exact pochoirref19_Segment.mono _ _ _ _ _ _ _ _ _)
   | (with_reducible exact LeO.refl _)
   | (with_reducible exact LeO.none _)
   | (with_reducible refine LeO.ite ?_ ?_)
   | (with_reducible refine LeO.bind ?_ (fun _ => ?_))
   | exact ih0 _ _ _ _ _ _ _ _ _
   | exact ih1 _ _ _ _ _ _ _ _ _ _
   | exact ih2 _ _ _ _ _ _ _ _ _ _ _ _
   | exact ih3 _ _ _ _ _ _ _ _ _ _ _ _ _ _
   | exact ih4 _ _ _ _ _ _ _ _ _ _ _ _ _ _
   | exact ih5 _ _ _ _ _ _ _ _ _ _ _ _
   | exact line_Point.mono _ _ _ _ _ _ _
   | exact line_Ray.mono _ _ _ _ _ _ _ _ _
   | exact line_Segment.mono _ _ _ _ _ _ _ _ _
   | exact pochoirlaw19_awake.mono _
   | exact pochoirref19_Asked.mono _ _ _ _
   | exact pochoirref19_Near.mono _ _ _ _ _ _ _
   | exact pochoirref19_Ray.mono _ _ _ _ _ _ _ _ _
   | exact pochoirref19_Segment.mono _ _ _ _ _ _ _ _ _
   | exact LeO.none _
   | refine LeO.ite ?_ ?_
   | refine LeO.bind ?_ (fun _ => ?_)
def pochoirlaw19_LineLevels.T3 : Bool × List (List Nat × List Nat) := (true, [([], []), ([0], [0]), ([], []), ([2], [2]), ([], []), ([4], [4]), ([], []), ([], []), ([], []), ([6, 1, 0, 1, 6, 7, 8], [1, 6]), ([7, 3, 9, 0, 1, 2, 3, 6, 7, 8, 9], [3, 7]), ([8, 5, 10, 0, 1, 2, 3, 4, 5, 6, 7, 8, 9, 10], [5, 8])])
def pochoirlaw19_LineLevels.B3 : List Nat := [0, 1, 0, 4, 0, 16, 0, 0, 0, 451, 975, 2047]
theorem pochoirlaw19_LineLevels.tab3 : rtab .any (opsOf Try.f10 3) = pochoirlaw19_LineLevels.T3 := by kernel_rfl
theorem pochoirlaw19_LineLevels.bits3 : waitsOk pochoirlaw19_LineLevels.T3.2 pochoirlaw19_LineLevels.B3 = true := by kernel_rfl
def pochoirlaw19_LineLevels.T7 : Bool × List (List Nat × List Nat) := (true, [([], []), ([], []), ([0, 1], [0, 1]), ([], []), ([], []), ([2, 3, 4], [2, 3, 4]), ([], []), ([], []), ([], []), ([6, 7, 8], [6, 7, 8]), ([], []), ([], []), ([9, 10, 11, 5], [9, 10, 11]), ([5, 12, 0, 1, 2, 3, 4, 5], [5]), ([12, 13, 0, 1, 2, 3, 4, 5, 6, 7, 8, 9, 10, 11, 12, 13], [12])])
def pochoirlaw19_LineLevels.B7 : List Nat := [0, 0, 3, 0, 0, 31, 0, 0, 0, 448, 0, 0, 4095, 8191, 16383]
theorem pochoirlaw19_LineLevels.tab7 : rtab .any (opsOf Try.f10 7) = pochoirlaw19_LineLevels.T7 := by kernel_rfl
theorem pochoirlaw19_LineLevels.bits7 : waitsOk pochoirlaw19_LineLevels.T7.2 pochoirlaw19_LineLevels.B7 = true := by kernel_rfl
set_option maxHeartbeats 8000000 in
set_option maxRecDepth 100000 in
theorem pochoirlaw19_LineLevels.calls (k : Nat) (a0_0 : Int) (a0_1 : Int) (a0_2 : Int) (a0_3 : Int) (a0_4 : Int) (a0_5 : Int) (a1 : Int) (a2 : Int) (r : Bool) (w : World) (hq_ : r = true) (h : pochoirlaw19_LineLevels.f k a0_0 a0_1 a0_2 a0_3 a0_4 a0_5 a1 a2 = some r) :
  Calls Try.prog 10 #[.agg #[.int .i64 a0_0, .int .i64 a0_1, .int .i64 a0_2, .int .i64 a0_3, .int .i64 a0_4, .int .i64 a0_5], .int .i64 a1, .int .i64 a2] w fun e w' => e = .returned (.bool r) ∧ Below w.heap.size w w' := by
 have hu27 := Try.underlying27
 have hu26 := Try.underlying26
 have HB := Aside0.mk (Below.refl w.heap.size w)
 have HQ := Aside0.mk hq_
 clear hq_
 have H : ((pochoirlaw19_awake.f k).bind fun t364 => (pochoirlaw19_LineLevels.j0 k a1 a2 (!t364) a0_0 a0_1 a0_2 a0_3 a0_4 a0_5)) = some r := h
 clear h
 have HC4 := Aside0.mk H
 clear H
 go_enter Try.func10, Try.ntmps10
 go_upto_region 1 with (first | ((with_reducible refine gate_dst (N := 3) rfl ?_); refine be 3 (#[.int .i64 a0_0, .int .i64 a0_1, .int .i64 a0_2, .int .i64 a0_3, .int .i64 a0_4, .int .i64 a0_5]) 27 ?_; intro gb363 hg w5 hbox hb; have BK363 := Aside0.mk (hbox); have GW363 := Aside0.mk ((by rw [hg]; exact (below_size (bl0 HB.out)) : w.heap.size ≤ gb363)); have GE363 := GW363; replace HB := Aside0.mk (below_step (bl0 HB.out) hb); clear hb hbox hg))
 (try simp only [Act.put, List.setIfInBounds_toArray, List.set_cons_zero, List.set_cons_succ])
 go_cut [19] (fun v19 wc => ∃ (kq : Nat) (x19_3 : Bool), v19 = .bool x19_3 ∧ Aside0 (pochoirlaw19_LineLevels.j0 kq a1 a2 x19_3 a0_0 a0_1 a0_2 a0_3 a0_4 a0_5 = some r) ∧ Aside0 (kq ≤ k) ∧ Aside0 (wc.heap[gb363]? = some (.cells #[.int .i64 a0_0, .int .i64 a0_1, .int .i64 a0_2, .int .i64 a0_3, .int .i64 a0_4, .int .i64 a0_5] 27 (0, 0))) ∧ Aside0 (Below w.heap.size w wc))
 case first =>
  have H := HC4.out
  clear HC4
  replace H := Option.bind_eq_some_iff.mp H
  obtain ⟨t364, A60, H⟩ := H
  replace H : (pochoirlaw19_LineLevels.j0 k a1 a2 (!t364) a0_0 a0_1 a0_2 a0_3 a0_4 a0_5) = some r := H
  have A6 := Aside0.mk A60
  clear A60
  have H' := Aside0.mk H
  clear H
  go_wp2_with (first | ((with_reducible refine gate_callee (f := 37) rfl ?_); refine goesL_ (some 18) rfl rfl Try.func37 (by kernel_rfl) rfl #[] rfl am ?_; (with_reducible refine (pochoirlaw19_awake.calls k  t364 _ A6.out).mono ?_); rintro e w7 ⟨rfl, hb⟩; refine ⟨_, rfl, ?_⟩; replace BK363 := Aside0.mk (bb BK363.out hb); replace HB := Aside0.mk (below_step (bl1 HB.out GE363.out) hb); (try clear hb); (try clear hb2); (try clear hk); (try clear hi)))
  go_meet
  case rel => exact ⟨_, (!t364), fr, H', ⟨by first | omega | exact Nat.le_refl _⟩, ⟨bk BK363.out⟩, ⟨bl1 HB.out GE363.out⟩⟩
 case rest =>
  clear HC4
  try clear c1
  try clear p2
  try clear c3
  obtain ⟨kq, x19_3, rfl, HA, HJ3, BK363, HB⟩ := hcut
  cases kq with
  | zero => exact absurd HA.out (by simp [pochoirlaw19_LineLevels.j0])
  | succ kj3 =>
   have H := HA.out
   clear HA
   simp only [pochoirlaw19_LineLevels.j0] at H
   by_cases c8 : x19_3 = true
   ·subst c8
    have H1 : (some false) = some r := by rw [if_pos rfl] at H; exact H
    clear H
    have H := H1
    clear H1
    exact absurd (HQ.out ▸ H) (by simp)
   ·replace c8 := Bool.eq_false_iff.mpr c8
    subst c8
    have H1 : ((line_Point.f kj3 a0_0 a0_1 a0_2 a0_3 a1 a2).bind fun bt368 => (pochoirlaw19_LineLevels.j1 kj3 a1 a2 bt368.1 bt368.2 a0_0 a0_1 a0_2 a0_3 a0_4 a0_5)) = some r := by rw [if_neg (show ¬ (false = true) by decide)] at H; exact H
    clear H
    have H := H1
    clear H1
    have HC9 := Aside0.mk H
    clear H
    try go_wp2
    replace BK363 := Aside0.mk (blk_drew BK363.out)
    replace HB := Aside0.mk (below_drew1 HB.out)
    refine start_ (n := 12) (S := fun w' => w'.cell? ⟨gb363, 0, none⟩ = some (.int .i64 a0_0) ∧ w'.cell? ⟨gb363, 1, none⟩ = some (.int .i64 a0_1) ∧ w'.cell? ⟨gb363, 2, none⟩ = some (.int .i64 a0_2) ∧ w'.cell? ⟨gb363, 3, none⟩ = some (.int .i64 a0_3) ∧ w'.cell? ⟨gb363, 4, none⟩ = some (.int .i64 a0_4) ∧ w'.cell? ⟨gb363, 5, none⟩ = some (.int .i64 a0_5)) (ds := []) (ba 12 0) (by kernel_rfl) rfl rfl ⟨(blk_cell BK363.out 0).trans rfl, (blk_cell BK363.out 1).trans rfl, (blk_cell BK363.out 2).trans rfl, (blk_cell BK363.out 3).trans rfl, (blk_cell BK363.out 4).trans rfl, (blk_cell BK363.out 5).trans rfl⟩ (fun hHeld => ?_); refine with_tabW pochoirlaw19_LineLevels.tab3 pochoirlaw19_LineLevels.bits3 (fun HT_ HW_ => ?_)
    generalize wc.drew = w10 at BK363 HB hHeld ⊢
    refine pI 0 20 (ba 12 1) HT_.out ?_
    refine pI 2 22 (ba 12 5) HT_.out ?_
    refine pI 4 24 (ba 12 21) HT_.out ?_
    refine take_ (i := 1) (N := some 21) (v := ?_) (a' := ?_) (ba 12 23) rfl rfl (take_ofW HT_.out HW_.out (by kernel_rfl)) (fun _ _ _ h => h) (Or.inl ⟨by rfl, ?_⟩) hHeld ?_ ?_
    rotate_left
    ·rintro w' ⟨s0, s1, s2, s3, s4, s5⟩
     go_simp
     with_reducible rfl
    rotate_left
    ·simp only [Act.put, List.setIfInBounds_toArray, List.set_cons_zero, List.set_cons_succ, i64_w, i32_w]
     rfl
    refine take_ (i := 3) (N := some 23) (v := ?_) (a' := ?_) (ba 12 31) rfl rfl (take_ofW HT_.out HW_.out (by kernel_rfl)) (fun _ _ _ h => h) (Or.inl ⟨by rfl, ?_⟩) hHeld ?_ ?_
    rotate_left
    ·rintro w' ⟨s0, s1, s2, s3, s4, s5⟩
     go_simp
     with_reducible rfl
    rotate_left
    ·simp only [Act.put, List.setIfInBounds_toArray, List.set_cons_zero, List.set_cons_succ, i64_w, i32_w]
     rfl
    refine take_ (i := 5) (N := some 25) (v := ?_) (a' := ?_) (ba 12 63) rfl rfl (take_ofW HT_.out HW_.out (by kernel_rfl)) (fun _ _ _ h => h) (Or.inl ⟨by rfl, ?_⟩) hHeld ?_ ?_
    rotate_left
    ·rintro w' ⟨s0, s1, s2, s3, s4, s5⟩
     go_simp
     with_reducible rfl
    rotate_left
    ·simp only [Act.put, List.setIfInBounds_toArray, List.set_cons_zero, List.set_cons_succ, i64_w, i32_w]
     rfl
    refine join_ (σ := Nat × Nat × Nat) 3 (ba 12 511) (fun s_ => [(7, .pointer (some ⟨s_.1, 0, none⟩)), (8, .pointer (some ⟨s_.2.1, 0, none⟩)), (9, .pointer (some ⟨s_.2.2, 0, none⟩))]) (fun s_ w' => (w'.cell? ⟨gb363, 0, none⟩ = some (.int .i64 a0_0) ∧ w'.cell? ⟨gb363, 1, none⟩ = some (.int .i64 a0_1) ∧ w'.cell? ⟨gb363, 2, none⟩ = some (.int .i64 a0_2) ∧ w'.cell? ⟨gb363, 3, none⟩ = some (.int .i64 a0_3) ∧ w'.cell? ⟨gb363, 4, none⟩ = some (.int .i64 a0_4) ∧ w'.cell? ⟨gb363, 5, none⟩ = some (.int .i64 a0_5)) ∧ (w'.heap[gb363]? = some (.cells #[.int .i64 a0_0, .int .i64 a0_1, .int .i64 a0_2, .int .i64 a0_3, .int .i64 a0_4, .int .i64 a0_5] 27 (0, 0))) ∧ (w'.heap[s_.1]? = some (.cells #[.int .i64 0, .int .i64 0] 26 (0, 0))) ∧ (w'.heap[s_.2.1]? = some (.cells #[.int .i64 0, .int .i64 0] 26 (0, 0))) ∧ (w'.heap[s_.2.2]? = some (.cells #[.int .i64 0, .int .i64 0] 26 (0, 0))) ∧ (w.heap.size ≤ s_.1) ∧ (w.heap.size ≤ s_.1) ∧ (gb363 ≠ s_.1) ∧ (s_.1 ≠ gb363) ∧ (s_.2.1 ≠ s_.1) ∧ (s_.1 ≠ s_.2.1) ∧ (s_.2.2 ≠ s_.1) ∧ (s_.1 ≠ s_.2.2) ∧ (w.heap.size ≤ s_.2.1) ∧ (w.heap.size ≤ s_.2.1) ∧ (gb363 ≠ s_.2.1) ∧ (s_.2.1 ≠ gb363) ∧ (s_.2.2 ≠ s_.2.1) ∧ (s_.2.1 ≠ s_.2.2) ∧ (w.heap.size ≤ s_.2.2) ∧ (w.heap.size ≤ s_.2.2) ∧ (gb363 ≠ s_.2.2) ∧ (s_.2.2 ≠ gb363) ∧ (Below w.heap.size w w')) ?_ ?_
    rotate_left
    ·intro hJ6_7_8
     refine join_ (σ := Nat × Nat) 4 (ba 12 255) (fun s_ => [(7, .pointer (some ⟨s_.1, 0, none⟩)), (8, .pointer (some ⟨s_.2, 0, none⟩))]) (fun s_ w' => (w'.cell? ⟨gb363, 0, none⟩ = some (.int .i64 a0_0) ∧ w'.cell? ⟨gb363, 1, none⟩ = some (.int .i64 a0_1) ∧ w'.cell? ⟨gb363, 2, none⟩ = some (.int .i64 a0_2) ∧ w'.cell? ⟨gb363, 3, none⟩ = some (.int .i64 a0_3) ∧ w'.cell? ⟨gb363, 4, none⟩ = some (.int .i64 a0_4) ∧ w'.cell? ⟨gb363, 5, none⟩ = some (.int .i64 a0_5)) ∧ (w'.heap[gb363]? = some (.cells #[.int .i64 a0_0, .int .i64 a0_1, .int .i64 a0_2, .int .i64 a0_3, .int .i64 a0_4, .int .i64 a0_5] 27 (0, 0))) ∧ (w'.heap[s_.1]? = some (.cells #[.int .i64 0, .int .i64 0] 26 (0, 0))) ∧ (w'.heap[s_.2]? = some (.cells #[.int .i64 0, .int .i64 0] 26 (0, 0))) ∧ (w.heap.size ≤ s_.1) ∧ (w.heap.size ≤ s_.1) ∧ (gb363 ≠ s_.1) ∧ (s_.1 ≠ gb363) ∧ (s_.2 ≠ s_.1) ∧ (s_.1 ≠ s_.2) ∧ (w.heap.size ≤ s_.2) ∧ (w.heap.size ≤ s_.2) ∧ (gb363 ≠ s_.2) ∧ (s_.2 ≠ gb363) ∧ (Below w.heap.size w w')) ?_ ?_
     rotate_left
     ·intro hJ6_7
      refine join_ (σ := Nat × Nat) 4 (ba 12 383) (fun s_ => [(7, .pointer (some ⟨s_.1, 0, none⟩)), (9, .pointer (some ⟨s_.2, 0, none⟩))]) (fun s_ w' => (w'.cell? ⟨gb363, 0, none⟩ = some (.int .i64 a0_0) ∧ w'.cell? ⟨gb363, 1, none⟩ = some (.int .i64 a0_1) ∧ w'.cell? ⟨gb363, 2, none⟩ = some (.int .i64 a0_2) ∧ w'.cell? ⟨gb363, 3, none⟩ = some (.int .i64 a0_3) ∧ w'.cell? ⟨gb363, 4, none⟩ = some (.int .i64 a0_4) ∧ w'.cell? ⟨gb363, 5, none⟩ = some (.int .i64 a0_5)) ∧ (w'.heap[gb363]? = some (.cells #[.int .i64 a0_0, .int .i64 a0_1, .int .i64 a0_2, .int .i64 a0_3, .int .i64 a0_4, .int .i64 a0_5] 27 (0, 0))) ∧ (w'.heap[s_.1]? = some (.cells #[.int .i64 0, .int .i64 0] 26 (0, 0))) ∧ (w'.heap[s_.2]? = some (.cells #[.int .i64 0, .int .i64 0] 26 (0, 0))) ∧ (w.heap.size ≤ s_.1) ∧ (w.heap.size ≤ s_.1) ∧ (gb363 ≠ s_.1) ∧ (s_.1 ≠ gb363) ∧ (s_.2 ≠ s_.1) ∧ (s_.1 ≠ s_.2) ∧ (w.heap.size ≤ s_.2) ∧ (w.heap.size ≤ s_.2) ∧ (gb363 ≠ s_.2) ∧ (s_.2 ≠ gb363) ∧ (Below w.heap.size w w')) ?_ ?_
      rotate_left
      ·intro hJ6_8
       refine join_ (σ := Nat × Nat) 4 (ba 12 447) (fun s_ => [(8, .pointer (some ⟨s_.1, 0, none⟩)), (9, .pointer (some ⟨s_.2, 0, none⟩))]) (fun s_ w' => (w'.cell? ⟨gb363, 0, none⟩ = some (.int .i64 a0_0) ∧ w'.cell? ⟨gb363, 1, none⟩ = some (.int .i64 a0_1) ∧ w'.cell? ⟨gb363, 2, none⟩ = some (.int .i64 a0_2) ∧ w'.cell? ⟨gb363, 3, none⟩ = some (.int .i64 a0_3) ∧ w'.cell? ⟨gb363, 4, none⟩ = some (.int .i64 a0_4) ∧ w'.cell? ⟨gb363, 5, none⟩ = some (.int .i64 a0_5)) ∧ (w'.heap[gb363]? = some (.cells #[.int .i64 a0_0, .int .i64 a0_1, .int .i64 a0_2, .int .i64 a0_3, .int .i64 a0_4, .int .i64 a0_5] 27 (0, 0))) ∧ (w'.heap[s_.1]? = some (.cells #[.int .i64 0, .int .i64 0] 26 (0, 0))) ∧ (w'.heap[s_.2]? = some (.cells #[.int .i64 0, .int .i64 0] 26 (0, 0))) ∧ (w.heap.size ≤ s_.1) ∧ (w.heap.size ≤ s_.1) ∧ (gb363 ≠ s_.1) ∧ (s_.1 ≠ gb363) ∧ (s_.2 ≠ s_.1) ∧ (s_.1 ≠ s_.2) ∧ (w.heap.size ≤ s_.2) ∧ (w.heap.size ≤ s_.2) ∧ (gb363 ≠ s_.2) ∧ (s_.2 ≠ gb363) ∧ (Below w.heap.size w w')) ?_ ?_
       rotate_left
       ·intro hJ7_8
        refine join_ (σ := Nat) 5 (ba 12 127) (fun s_ => [(7, .pointer (some ⟨s_, 0, none⟩))]) (fun s_ w' => (w'.cell? ⟨gb363, 0, none⟩ = some (.int .i64 a0_0) ∧ w'.cell? ⟨gb363, 1, none⟩ = some (.int .i64 a0_1) ∧ w'.cell? ⟨gb363, 2, none⟩ = some (.int .i64 a0_2) ∧ w'.cell? ⟨gb363, 3, none⟩ = some (.int .i64 a0_3) ∧ w'.cell? ⟨gb363, 4, none⟩ = some (.int .i64 a0_4) ∧ w'.cell? ⟨gb363, 5, none⟩ = some (.int .i64 a0_5)) ∧ (w'.heap[gb363]? = some (.cells #[.int .i64 a0_0, .int .i64 a0_1, .int .i64 a0_2, .int .i64 a0_3, .int .i64 a0_4, .int .i64 a0_5] 27 (0, 0))) ∧ (w'.heap[s_]? = some (.cells #[.int .i64 0, .int .i64 0] 26 (0, 0))) ∧ (w.heap.size ≤ s_) ∧ (w.heap.size ≤ s_) ∧ (gb363 ≠ s_) ∧ (s_ ≠ gb363) ∧ (Below w.heap.size w w')) ?_ ?_
        rotate_left
        ·intro hJ6
         refine join_ (σ := Nat) 5 (ba 12 191) (fun s_ => [(8, .pointer (some ⟨s_, 0, none⟩))]) (fun s_ w' => (w'.cell? ⟨gb363, 0, none⟩ = some (.int .i64 a0_0) ∧ w'.cell? ⟨gb363, 1, none⟩ = some (.int .i64 a0_1) ∧ w'.cell? ⟨gb363, 2, none⟩ = some (.int .i64 a0_2) ∧ w'.cell? ⟨gb363, 3, none⟩ = some (.int .i64 a0_3) ∧ w'.cell? ⟨gb363, 4, none⟩ = some (.int .i64 a0_4) ∧ w'.cell? ⟨gb363, 5, none⟩ = some (.int .i64 a0_5)) ∧ (w'.heap[gb363]? = some (.cells #[.int .i64 a0_0, .int .i64 a0_1, .int .i64 a0_2, .int .i64 a0_3, .int .i64 a0_4, .int .i64 a0_5] 27 (0, 0))) ∧ (w'.heap[s_]? = some (.cells #[.int .i64 0, .int .i64 0] 26 (0, 0))) ∧ (w.heap.size ≤ s_) ∧ (w.heap.size ≤ s_) ∧ (gb363 ≠ s_) ∧ (s_ ≠ gb363) ∧ (Below w.heap.size w w')) ?_ ?_
         rotate_left
         ·intro hJ7
          refine join_ (σ := Nat) 5 (ba 12 319) (fun s_ => [(9, .pointer (some ⟨s_, 0, none⟩))]) (fun s_ w' => (w'.cell? ⟨gb363, 0, none⟩ = some (.int .i64 a0_0) ∧ w'.cell? ⟨gb363, 1, none⟩ = some (.int .i64 a0_1) ∧ w'.cell? ⟨gb363, 2, none⟩ = some (.int .i64 a0_2) ∧ w'.cell? ⟨gb363, 3, none⟩ = some (.int .i64 a0_3) ∧ w'.cell? ⟨gb363, 4, none⟩ = some (.int .i64 a0_4) ∧ w'.cell? ⟨gb363, 5, none⟩ = some (.int .i64 a0_5)) ∧ (w'.heap[gb363]? = some (.cells #[.int .i64 a0_0, .int .i64 a0_1, .int .i64 a0_2, .int .i64 a0_3, .int .i64 a0_4, .int .i64 a0_5] 27 (0, 0))) ∧ (w'.heap[s_]? = some (.cells #[.int .i64 0, .int .i64 0] 26 (0, 0))) ∧ (w.heap.size ≤ s_) ∧ (w.heap.size ≤ s_) ∧ (gb363 ≠ s_) ∧ (s_ ≠ gb363) ∧ (Below w.heap.size w w')) ?_ ?_
          rotate_left
          ·intro hJ8
           refine three_ (i := 6) (j := 7) (k := 8) (Ni := some 7) (Nj := some 8) (Nk := some 9) (ba 12 127) (ba 12 191) (ba 12 319) rfl rfl rfl rfl rfl rfl (three_of HT_.out (by kernel_rfl)) (by decide) (by decide) (by decide) (fun K hK => ?_) (fun K hK => ?_) (fun K hK => ?_)
           ·skip
            refine box_step ?hg (N := 7) ?hd (cs := #[.int .i64 0, .int .i64 0]) (t := 26) ?hr ?_; (case hd => rfl); (case hg => rfl); (case hr => first | (go_simp; done) | (go_simp; rfl))
            intro gb365 hg w11 hbox hb
            have BK365 := Aside0.mk (hbox)
            have GW365 := Aside0.mk ((by rw [hg]; exact (below_size (bl1 HB.out GE363.out)) : w.heap.size ≤ gb365))
            have GE365 := Aside0.mk ((by rw [hg]; exact (below_size (bl1 HB.out GE363.out)) : w.heap.size ≤ gb365))
            have NB363_365 := Aside0.mk ((by rw [hg]; exact Nat.ne_of_lt (lt_ BK363.out) : gb363 ≠ gb365))
            have NB365_363 := Aside0.mk ((by rw [hg]; exact Nat.ne_of_gt (lt_ BK363.out) : gb365 ≠ gb363))
            replace BK363 := Aside0.mk (bb BK363.out hb)
            replace HB := Aside0.mk (below_step (bl1 HB.out GE363.out) hb)
            clear hb hbox hg
            refine hK.out _ _ ⟨(blk_cell BK363.out 0).trans rfl, (blk_cell BK363.out 1).trans rfl, (blk_cell BK363.out 2).trans rfl, (blk_cell BK363.out 3).trans rfl, (blk_cell BK363.out 4).trans rfl, (blk_cell BK363.out 5).trans rfl⟩ (fun hHeld => ?_)
            clear hK K
            refine norm_ (a' := ?_) ?_ ?_
            rotate_left
            ·show Act.put _ (some 7) _ = _
             simp only [Act.put, List.setIfInBounds_toArray, List.set_cons_zero, List.set_cons_succ, i64_w, i32_w]
             rfl
            exact norm_ (by first | (simp only [putAll, Act.put, List.setIfInBounds_toArray, List.set_cons_zero, List.set_cons_succ]; done) | (simp only [putAll, Act.put, List.setIfInBounds_toArray, List.set_cons_zero, List.set_cons_succ]; rfl)) (hJ6 (gb365) _ ⟨hHeld, (bk BK363.out), (bk BK365.out), GW365.out, GE365.out, NB363_365.out, NB365_363.out, (bl2 HB.out GE363.out GE365.out)⟩)
           ·skip
            refine box_step ?hg (N := 8) ?hd (cs := #[.int .i64 0, .int .i64 0]) (t := 26) ?hr ?_; (case hd => rfl); (case hg => rfl); (case hr => first | (go_simp; done) | (go_simp; rfl))
            intro gb366 hg w11 hbox hb
            have BK366 := Aside0.mk (hbox)
            have GW366 := Aside0.mk ((by rw [hg]; exact (below_size (bl1 HB.out GE363.out)) : w.heap.size ≤ gb366))
            have GE366 := Aside0.mk ((by rw [hg]; exact (below_size (bl1 HB.out GE363.out)) : w.heap.size ≤ gb366))
            have NB363_366 := Aside0.mk ((by rw [hg]; exact Nat.ne_of_lt (lt_ BK363.out) : gb363 ≠ gb366))
            have NB366_363 := Aside0.mk ((by rw [hg]; exact Nat.ne_of_gt (lt_ BK363.out) : gb366 ≠ gb363))
            replace BK363 := Aside0.mk (bb BK363.out hb)
            replace HB := Aside0.mk (below_step (bl1 HB.out GE363.out) hb)
            clear hb hbox hg
            refine hK.out _ _ ⟨(blk_cell BK363.out 0).trans rfl, (blk_cell BK363.out 1).trans rfl, (blk_cell BK363.out 2).trans rfl, (blk_cell BK363.out 3).trans rfl, (blk_cell BK363.out 4).trans rfl, (blk_cell BK363.out 5).trans rfl⟩ (fun hHeld => ?_)
            clear hK K
            refine norm_ (a' := ?_) ?_ ?_
            rotate_left
            ·show Act.put _ (some 8) _ = _
             simp only [Act.put, List.setIfInBounds_toArray, List.set_cons_zero, List.set_cons_succ, i64_w, i32_w]
             rfl
            exact norm_ (by first | (simp only [putAll, Act.put, List.setIfInBounds_toArray, List.set_cons_zero, List.set_cons_succ]; done) | (simp only [putAll, Act.put, List.setIfInBounds_toArray, List.set_cons_zero, List.set_cons_succ]; rfl)) (hJ7 (gb366) _ ⟨hHeld, (bk BK363.out), (bk BK366.out), GW366.out, GE366.out, NB363_366.out, NB366_363.out, (bl2 HB.out GE363.out GE366.out)⟩)
           ·skip
            refine box_step ?hg (N := 9) ?hd (cs := #[.int .i64 0, .int .i64 0]) (t := 26) ?hr ?_; (case hd => rfl); (case hg => rfl); (case hr => first | (go_simp; done) | (go_simp; rfl))
            intro gb367 hg w11 hbox hb
            have BK367 := Aside0.mk (hbox)
            have GW367 := Aside0.mk ((by rw [hg]; exact (below_size (bl1 HB.out GE363.out)) : w.heap.size ≤ gb367))
            have GE367 := Aside0.mk ((by rw [hg]; exact (below_size (bl1 HB.out GE363.out)) : w.heap.size ≤ gb367))
            have NB363_367 := Aside0.mk ((by rw [hg]; exact Nat.ne_of_lt (lt_ BK363.out) : gb363 ≠ gb367))
            have NB367_363 := Aside0.mk ((by rw [hg]; exact Nat.ne_of_gt (lt_ BK363.out) : gb367 ≠ gb363))
            replace BK363 := Aside0.mk (bb BK363.out hb)
            replace HB := Aside0.mk (below_step (bl1 HB.out GE363.out) hb)
            clear hb hbox hg
            refine hK.out _ _ ⟨(blk_cell BK363.out 0).trans rfl, (blk_cell BK363.out 1).trans rfl, (blk_cell BK363.out 2).trans rfl, (blk_cell BK363.out 3).trans rfl, (blk_cell BK363.out 4).trans rfl, (blk_cell BK363.out 5).trans rfl⟩ (fun hHeld => ?_)
            clear hK K
            refine norm_ (a' := ?_) ?_ ?_
            rotate_left
            ·show Act.put _ (some 9) _ = _
             simp only [Act.put, List.setIfInBounds_toArray, List.set_cons_zero, List.set_cons_succ, i64_w, i32_w]
             rfl
            exact norm_ (by first | (simp only [putAll, Act.put, List.setIfInBounds_toArray, List.set_cons_zero, List.set_cons_succ]; done) | (simp only [putAll, Act.put, List.setIfInBounds_toArray, List.set_cons_zero, List.set_cons_succ]; rfl)) (hJ8 (gb367) _ ⟨hHeld, (bk BK363.out), (bk BK367.out), GW367.out, GE367.out, NB363_367.out, NB367_363.out, (bl2 HB.out GE363.out GE367.out)⟩)
          ·skip
           rintro gb367 w12 ⟨hS_, h0_, h1_, h2_, h3_, h4_, h5_, h6_⟩
           have BK367 : Aside0 (w12.heap[gb367]? = some (.cells #[.int .i64 0, .int .i64 0] 26 (0, 0))) := ⟨h1_⟩
           have GW367 : Aside0 (w.heap.size ≤ gb367) := ⟨h2_⟩
           have GE367 : Aside0 (w.heap.size ≤ gb367) := ⟨h3_⟩
           have NB363_367 : Aside0 (gb363 ≠ gb367) := ⟨h4_⟩
           have NB367_363 : Aside0 (gb367 ≠ gb363) := ⟨h5_⟩
           replace BK363 : Aside0 (w12.heap[gb363]? = some (.cells #[.int .i64 a0_0, .int .i64 a0_1, .int .i64 a0_2, .int .i64 a0_3, .int .i64 a0_4, .int .i64 a0_5] 27 (0, 0))) := ⟨h0_⟩
           replace HB : Aside0 (Below w.heap.size w w12) := ⟨h6_⟩
           clear h0_ h1_ h2_ h3_ h4_ h5_ h6_
           have hHeld : w12.cell? ⟨gb363, 0, none⟩ = some (.int .i64 a0_0) ∧ w12.cell? ⟨gb363, 1, none⟩ = some (.int .i64 a0_1) ∧ w12.cell? ⟨gb363, 2, none⟩ = some (.int .i64 a0_2) ∧ w12.cell? ⟨gb363, 3, none⟩ = some (.int .i64 a0_3) ∧ w12.cell? ⟨gb363, 4, none⟩ = some (.int .i64 a0_4) ∧ w12.cell? ⟨gb363, 5, none⟩ = some (.int .i64 a0_5) := hS_
           refine norm_ (a' := ?_) ?_ ?_
           rotate_left
           ·simp only [putAll, Act.put, List.setIfInBounds_toArray, List.set_cons_zero, List.set_cons_succ]
            rfl
           refine two_ (i := 6) (j := 7) (Ni := some 7) (Nj := some 8) (ba 12 383) (ba 12 447) rfl rfl rfl rfl (two_of HT_.out (by kernel_rfl)) (by decide) (by decide) (fun K hK => ?_) (fun K hK => ?_)
           ·skip
            refine box_step ?hg (N := 7) ?hd (cs := #[.int .i64 0, .int .i64 0]) (t := 26) ?hr ?_; (case hd => rfl); (case hg => rfl); (case hr => first | (go_simp; done) | (go_simp; rfl))
            intro gb365 hg w13 hbox hb
            have BK365 := Aside0.mk (hbox)
            have GW365 := Aside0.mk ((by rw [hg]; exact (below_size (bl2 HB.out GE363.out GE367.out)) : w.heap.size ≤ gb365))
            have GE365 := Aside0.mk ((by rw [hg]; exact (below_size (bl2 HB.out GE363.out GE367.out)) : w.heap.size ≤ gb365))
            have NB363_365 := Aside0.mk ((by rw [hg]; exact Nat.ne_of_lt (lt_ BK363.out) : gb363 ≠ gb365))
            have NB365_363 := Aside0.mk ((by rw [hg]; exact Nat.ne_of_gt (lt_ BK363.out) : gb365 ≠ gb363))
            have NB367_365 := Aside0.mk ((by rw [hg]; exact Nat.ne_of_lt (lt_ BK367.out) : gb367 ≠ gb365))
            have NB365_367 := Aside0.mk ((by rw [hg]; exact Nat.ne_of_gt (lt_ BK367.out) : gb365 ≠ gb367))
            replace BK363 := Aside0.mk (bb BK363.out hb)
            replace BK367 := Aside0.mk (bb BK367.out hb)
            replace HB := Aside0.mk (below_step (bl2 HB.out GE363.out GE367.out) hb)
            clear hb hbox hg
            refine hK.out _ _ ⟨(blk_cell BK363.out 0).trans rfl, (blk_cell BK363.out 1).trans rfl, (blk_cell BK363.out 2).trans rfl, (blk_cell BK363.out 3).trans rfl, (blk_cell BK363.out 4).trans rfl, (blk_cell BK363.out 5).trans rfl⟩ (fun hHeld => ?_)
            clear hK K
            refine norm_ (a' := ?_) ?_ ?_
            rotate_left
            ·show Act.put _ (some 7) _ = _
             simp only [Act.put, List.setIfInBounds_toArray, List.set_cons_zero, List.set_cons_succ, i64_w, i32_w]
             rfl
            exact norm_ (by first | (simp only [putAll, Act.put, List.setIfInBounds_toArray, List.set_cons_zero, List.set_cons_succ]; done) | (simp only [putAll, Act.put, List.setIfInBounds_toArray, List.set_cons_zero, List.set_cons_succ]; rfl)) (hJ6_8 (gb365, gb367) _ ⟨hHeld, (bk BK363.out), (bk BK365.out), (bk BK367.out), GW365.out, GE365.out, NB363_365.out, NB365_363.out, NB367_365.out, NB365_367.out, GW367.out, GE367.out, NB363_367.out, NB367_363.out, (bl3 HB.out GE363.out GE367.out GE365.out)⟩)
           ·skip
            refine box_step ?hg (N := 8) ?hd (cs := #[.int .i64 0, .int .i64 0]) (t := 26) ?hr ?_; (case hd => rfl); (case hg => rfl); (case hr => first | (go_simp; done) | (go_simp; rfl))
            intro gb366 hg w13 hbox hb
            have BK366 := Aside0.mk (hbox)
            have GW366 := Aside0.mk ((by rw [hg]; exact (below_size (bl2 HB.out GE363.out GE367.out)) : w.heap.size ≤ gb366))
            have GE366 := Aside0.mk ((by rw [hg]; exact (below_size (bl2 HB.out GE363.out GE367.out)) : w.heap.size ≤ gb366))
            have NB363_366 := Aside0.mk ((by rw [hg]; exact Nat.ne_of_lt (lt_ BK363.out) : gb363 ≠ gb366))
            have NB366_363 := Aside0.mk ((by rw [hg]; exact Nat.ne_of_gt (lt_ BK363.out) : gb366 ≠ gb363))
            have NB367_366 := Aside0.mk ((by rw [hg]; exact Nat.ne_of_lt (lt_ BK367.out) : gb367 ≠ gb366))
            have NB366_367 := Aside0.mk ((by rw [hg]; exact Nat.ne_of_gt (lt_ BK367.out) : gb366 ≠ gb367))
            replace BK363 := Aside0.mk (bb BK363.out hb)
            replace BK367 := Aside0.mk (bb BK367.out hb)
            replace HB := Aside0.mk (below_step (bl2 HB.out GE363.out GE367.out) hb)
            clear hb hbox hg
            refine hK.out _ _ ⟨(blk_cell BK363.out 0).trans rfl, (blk_cell BK363.out 1).trans rfl, (blk_cell BK363.out 2).trans rfl, (blk_cell BK363.out 3).trans rfl, (blk_cell BK363.out 4).trans rfl, (blk_cell BK363.out 5).trans rfl⟩ (fun hHeld => ?_)
            clear hK K
            refine norm_ (a' := ?_) ?_ ?_
            rotate_left
            ·show Act.put _ (some 8) _ = _
             simp only [Act.put, List.setIfInBounds_toArray, List.set_cons_zero, List.set_cons_succ, i64_w, i32_w]
             rfl
            exact norm_ (by first | (simp only [putAll, Act.put, List.setIfInBounds_toArray, List.set_cons_zero, List.set_cons_succ]; done) | (simp only [putAll, Act.put, List.setIfInBounds_toArray, List.set_cons_zero, List.set_cons_succ]; rfl)) (hJ7_8 (gb366, gb367) _ ⟨hHeld, (bk BK363.out), (bk BK366.out), (bk BK367.out), GW366.out, GE366.out, NB363_366.out, NB366_363.out, NB367_366.out, NB366_367.out, GW367.out, GE367.out, NB363_367.out, NB367_363.out, (bl3 HB.out GE363.out GE367.out GE366.out)⟩)
         ·skip
          rintro gb366 w12 ⟨hS_, h0_, h1_, h2_, h3_, h4_, h5_, h6_⟩
          have BK366 : Aside0 (w12.heap[gb366]? = some (.cells #[.int .i64 0, .int .i64 0] 26 (0, 0))) := ⟨h1_⟩
          have GW366 : Aside0 (w.heap.size ≤ gb366) := ⟨h2_⟩
          have GE366 : Aside0 (w.heap.size ≤ gb366) := ⟨h3_⟩
          have NB363_366 : Aside0 (gb363 ≠ gb366) := ⟨h4_⟩
          have NB366_363 : Aside0 (gb366 ≠ gb363) := ⟨h5_⟩
          replace BK363 : Aside0 (w12.heap[gb363]? = some (.cells #[.int .i64 a0_0, .int .i64 a0_1, .int .i64 a0_2, .int .i64 a0_3, .int .i64 a0_4, .int .i64 a0_5] 27 (0, 0))) := ⟨h0_⟩
          replace HB : Aside0 (Below w.heap.size w w12) := ⟨h6_⟩
          clear h0_ h1_ h2_ h3_ h4_ h5_ h6_
          have hHeld : w12.cell? ⟨gb363, 0, none⟩ = some (.int .i64 a0_0) ∧ w12.cell? ⟨gb363, 1, none⟩ = some (.int .i64 a0_1) ∧ w12.cell? ⟨gb363, 2, none⟩ = some (.int .i64 a0_2) ∧ w12.cell? ⟨gb363, 3, none⟩ = some (.int .i64 a0_3) ∧ w12.cell? ⟨gb363, 4, none⟩ = some (.int .i64 a0_4) ∧ w12.cell? ⟨gb363, 5, none⟩ = some (.int .i64 a0_5) := hS_
          refine norm_ (a' := ?_) ?_ ?_
          rotate_left
          ·simp only [putAll, Act.put, List.setIfInBounds_toArray, List.set_cons_zero, List.set_cons_succ]
           rfl
          refine two_ (i := 6) (j := 8) (Ni := some 7) (Nj := some 9) (ba 12 255) (ba 12 447) rfl rfl rfl rfl (two_of HT_.out (by kernel_rfl)) (by decide) (by decide) (fun K hK => ?_) (fun K hK => ?_)
          ·skip
           refine box_step ?hg (N := 7) ?hd (cs := #[.int .i64 0, .int .i64 0]) (t := 26) ?hr ?_; (case hd => rfl); (case hg => rfl); (case hr => first | (go_simp; done) | (go_simp; rfl))
           intro gb365 hg w13 hbox hb
           have BK365 := Aside0.mk (hbox)
           have GW365 := Aside0.mk ((by rw [hg]; exact (below_size (bl2 HB.out GE363.out GE366.out)) : w.heap.size ≤ gb365))
           have GE365 := Aside0.mk ((by rw [hg]; exact (below_size (bl2 HB.out GE363.out GE366.out)) : w.heap.size ≤ gb365))
           have NB363_365 := Aside0.mk ((by rw [hg]; exact Nat.ne_of_lt (lt_ BK363.out) : gb363 ≠ gb365))
           have NB365_363 := Aside0.mk ((by rw [hg]; exact Nat.ne_of_gt (lt_ BK363.out) : gb365 ≠ gb363))
           have NB366_365 := Aside0.mk ((by rw [hg]; exact Nat.ne_of_lt (lt_ BK366.out) : gb366 ≠ gb365))
           have NB365_366 := Aside0.mk ((by rw [hg]; exact Nat.ne_of_gt (lt_ BK366.out) : gb365 ≠ gb366))
           replace BK363 := Aside0.mk (bb BK363.out hb)
           replace BK366 := Aside0.mk (bb BK366.out hb)
           replace HB := Aside0.mk (below_step (bl2 HB.out GE363.out GE366.out) hb)
           clear hb hbox hg
           refine hK.out _ _ ⟨(blk_cell BK363.out 0).trans rfl, (blk_cell BK363.out 1).trans rfl, (blk_cell BK363.out 2).trans rfl, (blk_cell BK363.out 3).trans rfl, (blk_cell BK363.out 4).trans rfl, (blk_cell BK363.out 5).trans rfl⟩ (fun hHeld => ?_)
           clear hK K
           refine norm_ (a' := ?_) ?_ ?_
           rotate_left
           ·show Act.put _ (some 7) _ = _
            simp only [Act.put, List.setIfInBounds_toArray, List.set_cons_zero, List.set_cons_succ, i64_w, i32_w]
            rfl
           exact norm_ (by first | (simp only [putAll, Act.put, List.setIfInBounds_toArray, List.set_cons_zero, List.set_cons_succ]; done) | (simp only [putAll, Act.put, List.setIfInBounds_toArray, List.set_cons_zero, List.set_cons_succ]; rfl)) (hJ6_7 (gb365, gb366) _ ⟨hHeld, (bk BK363.out), (bk BK365.out), (bk BK366.out), GW365.out, GE365.out, NB363_365.out, NB365_363.out, NB366_365.out, NB365_366.out, GW366.out, GE366.out, NB363_366.out, NB366_363.out, (bl3 HB.out GE363.out GE366.out GE365.out)⟩)
          ·skip
           refine box_step ?hg (N := 9) ?hd (cs := #[.int .i64 0, .int .i64 0]) (t := 26) ?hr ?_; (case hd => rfl); (case hg => rfl); (case hr => first | (go_simp; done) | (go_simp; rfl))
           intro gb367 hg w13 hbox hb
           have BK367 := Aside0.mk (hbox)
           have GW367 := Aside0.mk ((by rw [hg]; exact (below_size (bl2 HB.out GE363.out GE366.out)) : w.heap.size ≤ gb367))
           have GE367 := Aside0.mk ((by rw [hg]; exact (below_size (bl2 HB.out GE363.out GE366.out)) : w.heap.size ≤ gb367))
           have NB363_367 := Aside0.mk ((by rw [hg]; exact Nat.ne_of_lt (lt_ BK363.out) : gb363 ≠ gb367))
           have NB367_363 := Aside0.mk ((by rw [hg]; exact Nat.ne_of_gt (lt_ BK363.out) : gb367 ≠ gb363))
           have NB366_367 := Aside0.mk ((by rw [hg]; exact Nat.ne_of_lt (lt_ BK366.out) : gb366 ≠ gb367))
           have NB367_366 := Aside0.mk ((by rw [hg]; exact Nat.ne_of_gt (lt_ BK366.out) : gb367 ≠ gb366))
           replace BK363 := Aside0.mk (bb BK363.out hb)
           replace BK366 := Aside0.mk (bb BK366.out hb)
           replace HB := Aside0.mk (below_step (bl2 HB.out GE363.out GE366.out) hb)
           clear hb hbox hg
           refine hK.out _ _ ⟨(blk_cell BK363.out 0).trans rfl, (blk_cell BK363.out 1).trans rfl, (blk_cell BK363.out 2).trans rfl, (blk_cell BK363.out 3).trans rfl, (blk_cell BK363.out 4).trans rfl, (blk_cell BK363.out 5).trans rfl⟩ (fun hHeld => ?_)
           clear hK K
           refine norm_ (a' := ?_) ?_ ?_
           rotate_left
           ·show Act.put _ (some 9) _ = _
            simp only [Act.put, List.setIfInBounds_toArray, List.set_cons_zero, List.set_cons_succ, i64_w, i32_w]
            rfl
           exact norm_ (by first | (simp only [putAll, Act.put, List.setIfInBounds_toArray, List.set_cons_zero, List.set_cons_succ]; done) | (simp only [putAll, Act.put, List.setIfInBounds_toArray, List.set_cons_zero, List.set_cons_succ]; rfl)) (hJ7_8 (gb366, gb367) _ ⟨hHeld, (bk BK363.out), (bk BK366.out), (bk BK367.out), GW366.out, GE366.out, NB363_366.out, NB366_363.out, NB367_366.out, NB366_367.out, GW367.out, GE367.out, NB363_367.out, NB367_363.out, (bl3 HB.out GE363.out GE366.out GE367.out)⟩)
        ·skip
         rintro gb365 w12 ⟨hS_, h0_, h1_, h2_, h3_, h4_, h5_, h6_⟩
         have BK365 : Aside0 (w12.heap[gb365]? = some (.cells #[.int .i64 0, .int .i64 0] 26 (0, 0))) := ⟨h1_⟩
         have GW365 : Aside0 (w.heap.size ≤ gb365) := ⟨h2_⟩
         have GE365 : Aside0 (w.heap.size ≤ gb365) := ⟨h3_⟩
         have NB363_365 : Aside0 (gb363 ≠ gb365) := ⟨h4_⟩
         have NB365_363 : Aside0 (gb365 ≠ gb363) := ⟨h5_⟩
         replace BK363 : Aside0 (w12.heap[gb363]? = some (.cells #[.int .i64 a0_0, .int .i64 a0_1, .int .i64 a0_2, .int .i64 a0_3, .int .i64 a0_4, .int .i64 a0_5] 27 (0, 0))) := ⟨h0_⟩
         replace HB : Aside0 (Below w.heap.size w w12) := ⟨h6_⟩
         clear h0_ h1_ h2_ h3_ h4_ h5_ h6_
         have hHeld : w12.cell? ⟨gb363, 0, none⟩ = some (.int .i64 a0_0) ∧ w12.cell? ⟨gb363, 1, none⟩ = some (.int .i64 a0_1) ∧ w12.cell? ⟨gb363, 2, none⟩ = some (.int .i64 a0_2) ∧ w12.cell? ⟨gb363, 3, none⟩ = some (.int .i64 a0_3) ∧ w12.cell? ⟨gb363, 4, none⟩ = some (.int .i64 a0_4) ∧ w12.cell? ⟨gb363, 5, none⟩ = some (.int .i64 a0_5) := hS_
         refine norm_ (a' := ?_) ?_ ?_
         rotate_left
         ·simp only [putAll, Act.put, List.setIfInBounds_toArray, List.set_cons_zero, List.set_cons_succ]
          rfl
         refine two_ (i := 7) (j := 8) (Ni := some 8) (Nj := some 9) (ba 12 255) (ba 12 383) rfl rfl rfl rfl (two_of HT_.out (by kernel_rfl)) (by decide) (by decide) (fun K hK => ?_) (fun K hK => ?_)
         ·skip
          refine box_step ?hg (N := 8) ?hd (cs := #[.int .i64 0, .int .i64 0]) (t := 26) ?hr ?_; (case hd => rfl); (case hg => rfl); (case hr => first | (go_simp; done) | (go_simp; rfl))
          intro gb366 hg w13 hbox hb
          have BK366 := Aside0.mk (hbox)
          have GW366 := Aside0.mk ((by rw [hg]; exact (below_size (bl2 HB.out GE363.out GE365.out)) : w.heap.size ≤ gb366))
          have GE366 := Aside0.mk ((by rw [hg]; exact (below_size (bl2 HB.out GE363.out GE365.out)) : w.heap.size ≤ gb366))
          have NB363_366 := Aside0.mk ((by rw [hg]; exact Nat.ne_of_lt (lt_ BK363.out) : gb363 ≠ gb366))
          have NB366_363 := Aside0.mk ((by rw [hg]; exact Nat.ne_of_gt (lt_ BK363.out) : gb366 ≠ gb363))
          have NB365_366 := Aside0.mk ((by rw [hg]; exact Nat.ne_of_lt (lt_ BK365.out) : gb365 ≠ gb366))
          have NB366_365 := Aside0.mk ((by rw [hg]; exact Nat.ne_of_gt (lt_ BK365.out) : gb366 ≠ gb365))
          replace BK363 := Aside0.mk (bb BK363.out hb)
          replace BK365 := Aside0.mk (bb BK365.out hb)
          replace HB := Aside0.mk (below_step (bl2 HB.out GE363.out GE365.out) hb)
          clear hb hbox hg
          refine hK.out _ _ ⟨(blk_cell BK363.out 0).trans rfl, (blk_cell BK363.out 1).trans rfl, (blk_cell BK363.out 2).trans rfl, (blk_cell BK363.out 3).trans rfl, (blk_cell BK363.out 4).trans rfl, (blk_cell BK363.out 5).trans rfl⟩ (fun hHeld => ?_)
          clear hK K
          refine norm_ (a' := ?_) ?_ ?_
          rotate_left
          ·show Act.put _ (some 8) _ = _
           simp only [Act.put, List.setIfInBounds_toArray, List.set_cons_zero, List.set_cons_succ, i64_w, i32_w]
           rfl
          exact norm_ (by first | (simp only [putAll, Act.put, List.setIfInBounds_toArray, List.set_cons_zero, List.set_cons_succ]; done) | (simp only [putAll, Act.put, List.setIfInBounds_toArray, List.set_cons_zero, List.set_cons_succ]; rfl)) (hJ6_7 (gb365, gb366) _ ⟨hHeld, (bk BK363.out), (bk BK365.out), (bk BK366.out), GW365.out, GE365.out, NB363_365.out, NB365_363.out, NB366_365.out, NB365_366.out, GW366.out, GE366.out, NB363_366.out, NB366_363.out, (bl3 HB.out GE363.out GE365.out GE366.out)⟩)
         ·skip
          refine box_step ?hg (N := 9) ?hd (cs := #[.int .i64 0, .int .i64 0]) (t := 26) ?hr ?_; (case hd => rfl); (case hg => rfl); (case hr => first | (go_simp; done) | (go_simp; rfl))
          intro gb367 hg w13 hbox hb
          have BK367 := Aside0.mk (hbox)
          have GW367 := Aside0.mk ((by rw [hg]; exact (below_size (bl2 HB.out GE363.out GE365.out)) : w.heap.size ≤ gb367))
          have GE367 := Aside0.mk ((by rw [hg]; exact (below_size (bl2 HB.out GE363.out GE365.out)) : w.heap.size ≤ gb367))
          have NB363_367 := Aside0.mk ((by rw [hg]; exact Nat.ne_of_lt (lt_ BK363.out) : gb363 ≠ gb367))
          have NB367_363 := Aside0.mk ((by rw [hg]; exact Nat.ne_of_gt (lt_ BK363.out) : gb367 ≠ gb363))
          have NB365_367 := Aside0.mk ((by rw [hg]; exact Nat.ne_of_lt (lt_ BK365.out) : gb365 ≠ gb367))
          have NB367_365 := Aside0.mk ((by rw [hg]; exact Nat.ne_of_gt (lt_ BK365.out) : gb367 ≠ gb365))
          replace BK363 := Aside0.mk (bb BK363.out hb)
          replace BK365 := Aside0.mk (bb BK365.out hb)
          replace HB := Aside0.mk (below_step (bl2 HB.out GE363.out GE365.out) hb)
          clear hb hbox hg
          refine hK.out _ _ ⟨(blk_cell BK363.out 0).trans rfl, (blk_cell BK363.out 1).trans rfl, (blk_cell BK363.out 2).trans rfl, (blk_cell BK363.out 3).trans rfl, (blk_cell BK363.out 4).trans rfl, (blk_cell BK363.out 5).trans rfl⟩ (fun hHeld => ?_)
          clear hK K
          refine norm_ (a' := ?_) ?_ ?_
          rotate_left
          ·show Act.put _ (some 9) _ = _
           simp only [Act.put, List.setIfInBounds_toArray, List.set_cons_zero, List.set_cons_succ, i64_w, i32_w]
           rfl
          exact norm_ (by first | (simp only [putAll, Act.put, List.setIfInBounds_toArray, List.set_cons_zero, List.set_cons_succ]; done) | (simp only [putAll, Act.put, List.setIfInBounds_toArray, List.set_cons_zero, List.set_cons_succ]; rfl)) (hJ6_8 (gb365, gb367) _ ⟨hHeld, (bk BK363.out), (bk BK365.out), (bk BK367.out), GW365.out, GE365.out, NB363_365.out, NB365_363.out, NB367_365.out, NB365_367.out, GW367.out, GE367.out, NB363_367.out, NB367_363.out, (bl3 HB.out GE363.out GE365.out GE367.out)⟩)
       ·skip
        rintro ⟨gb366, gb367⟩ w13 ⟨hS_, h0_, h1_, h2_, h3_, h4_, h5_, h6_, h7_, h8_, h9_, h10_, h11_, h12_, h13_⟩
        have BK366 : Aside0 (w13.heap[gb366]? = some (.cells #[.int .i64 0, .int .i64 0] 26 (0, 0))) := ⟨h1_⟩
        have BK367 : Aside0 (w13.heap[gb367]? = some (.cells #[.int .i64 0, .int .i64 0] 26 (0, 0))) := ⟨h2_⟩
        have GW366 : Aside0 (w.heap.size ≤ gb366) := ⟨h3_⟩
        have GE366 : Aside0 (w.heap.size ≤ gb366) := ⟨h4_⟩
        have NB363_366 : Aside0 (gb363 ≠ gb366) := ⟨h5_⟩
        have NB366_363 : Aside0 (gb366 ≠ gb363) := ⟨h6_⟩
        have NB367_366 : Aside0 (gb367 ≠ gb366) := ⟨h7_⟩
        have NB366_367 : Aside0 (gb366 ≠ gb367) := ⟨h8_⟩
        have GW367 : Aside0 (w.heap.size ≤ gb367) := ⟨h9_⟩
        have GE367 : Aside0 (w.heap.size ≤ gb367) := ⟨h10_⟩
        have NB363_367 : Aside0 (gb363 ≠ gb367) := ⟨h11_⟩
        have NB367_363 : Aside0 (gb367 ≠ gb363) := ⟨h12_⟩
        replace BK363 : Aside0 (w13.heap[gb363]? = some (.cells #[.int .i64 a0_0, .int .i64 a0_1, .int .i64 a0_2, .int .i64 a0_3, .int .i64 a0_4, .int .i64 a0_5] 27 (0, 0))) := ⟨h0_⟩
        replace HB : Aside0 (Below w.heap.size w w13) := ⟨h13_⟩
        clear h0_ h1_ h2_ h3_ h4_ h5_ h6_ h7_ h8_ h9_ h10_ h11_ h12_ h13_
        have hHeld : w13.cell? ⟨gb363, 0, none⟩ = some (.int .i64 a0_0) ∧ w13.cell? ⟨gb363, 1, none⟩ = some (.int .i64 a0_1) ∧ w13.cell? ⟨gb363, 2, none⟩ = some (.int .i64 a0_2) ∧ w13.cell? ⟨gb363, 3, none⟩ = some (.int .i64 a0_3) ∧ w13.cell? ⟨gb363, 4, none⟩ = some (.int .i64 a0_4) ∧ w13.cell? ⟨gb363, 5, none⟩ = some (.int .i64 a0_5) := hS_
        refine norm_ (a' := ?_) ?_ ?_
        rotate_left
        ·simp only [putAll, Act.put, List.setIfInBounds_toArray, List.set_cons_zero, List.set_cons_succ]
         rfl
        refine one_ (i := 6) (N := some 7) (ba 12 511) rfl rfl (one_of HT_.out (by kernel_rfl)) (by decide) (fun K hK => ?_)
        refine box_step ?hg (N := 7) ?hd (cs := #[.int .i64 0, .int .i64 0]) (t := 26) ?hr ?_; (case hd => rfl); (case hg => rfl); (case hr => first | (go_simp; done) | (go_simp; rfl))
        intro gb365 hg w14 hbox hb
        have BK365 := Aside0.mk (hbox)
        have GW365 := Aside0.mk ((by rw [hg]; exact (below_size (bl3 HB.out GE363.out GE366.out GE367.out)) : w.heap.size ≤ gb365))
        have GE365 := Aside0.mk ((by rw [hg]; exact (below_size (bl3 HB.out GE363.out GE366.out GE367.out)) : w.heap.size ≤ gb365))
        have NB363_365 := Aside0.mk ((by rw [hg]; exact Nat.ne_of_lt (lt_ BK363.out) : gb363 ≠ gb365))
        have NB365_363 := Aside0.mk ((by rw [hg]; exact Nat.ne_of_gt (lt_ BK363.out) : gb365 ≠ gb363))
        have NB366_365 := Aside0.mk ((by rw [hg]; exact Nat.ne_of_lt (lt_ BK366.out) : gb366 ≠ gb365))
        have NB365_366 := Aside0.mk ((by rw [hg]; exact Nat.ne_of_gt (lt_ BK366.out) : gb365 ≠ gb366))
        have NB367_365 := Aside0.mk ((by rw [hg]; exact Nat.ne_of_lt (lt_ BK367.out) : gb367 ≠ gb365))
        have NB365_367 := Aside0.mk ((by rw [hg]; exact Nat.ne_of_gt (lt_ BK367.out) : gb365 ≠ gb367))
        replace BK363 := Aside0.mk (bb BK363.out hb)
        replace BK366 := Aside0.mk (bb BK366.out hb)
        replace BK367 := Aside0.mk (bb BK367.out hb)
        replace HB := Aside0.mk (below_step (bl3 HB.out GE363.out GE366.out GE367.out) hb)
        clear hb hbox hg
        refine hK.out _ _ ⟨(blk_cell BK363.out 0).trans rfl, (blk_cell BK363.out 1).trans rfl, (blk_cell BK363.out 2).trans rfl, (blk_cell BK363.out 3).trans rfl, (blk_cell BK363.out 4).trans rfl, (blk_cell BK363.out 5).trans rfl⟩ (fun hHeld => ?_)
        clear hK K
        refine norm_ (a' := ?_) ?_ ?_
        rotate_left
        ·show Act.put _ (some 7) _ = _
         simp only [Act.put, List.setIfInBounds_toArray, List.set_cons_zero, List.set_cons_succ, i64_w, i32_w]
         rfl
        exact norm_ (by first | (simp only [putAll, Act.put, List.setIfInBounds_toArray, List.set_cons_zero, List.set_cons_succ]; done) | (simp only [putAll, Act.put, List.setIfInBounds_toArray, List.set_cons_zero, List.set_cons_succ]; rfl)) (hJ6_7_8 (gb365, gb366, gb367) _ ⟨hHeld, (bk BK363.out), (bk BK365.out), (bk BK366.out), (bk BK367.out), GW365.out, GE365.out, NB363_365.out, NB365_363.out, NB366_365.out, NB365_366.out, NB367_365.out, NB365_367.out, GW366.out, GE366.out, NB363_366.out, NB366_363.out, NB367_366.out, NB366_367.out, GW367.out, GE367.out, NB363_367.out, NB367_363.out, (bl4 HB.out GE363.out GE366.out GE367.out GE365.out)⟩)
      ·skip
       rintro ⟨gb365, gb367⟩ w13 ⟨hS_, h0_, h1_, h2_, h3_, h4_, h5_, h6_, h7_, h8_, h9_, h10_, h11_, h12_, h13_⟩
       have BK365 : Aside0 (w13.heap[gb365]? = some (.cells #[.int .i64 0, .int .i64 0] 26 (0, 0))) := ⟨h1_⟩
       have BK367 : Aside0 (w13.heap[gb367]? = some (.cells #[.int .i64 0, .int .i64 0] 26 (0, 0))) := ⟨h2_⟩
       have GW365 : Aside0 (w.heap.size ≤ gb365) := ⟨h3_⟩
       have GE365 : Aside0 (w.heap.size ≤ gb365) := ⟨h4_⟩
       have NB363_365 : Aside0 (gb363 ≠ gb365) := ⟨h5_⟩
       have NB365_363 : Aside0 (gb365 ≠ gb363) := ⟨h6_⟩
       have NB367_365 : Aside0 (gb367 ≠ gb365) := ⟨h7_⟩
       have NB365_367 : Aside0 (gb365 ≠ gb367) := ⟨h8_⟩
       have GW367 : Aside0 (w.heap.size ≤ gb367) := ⟨h9_⟩
       have GE367 : Aside0 (w.heap.size ≤ gb367) := ⟨h10_⟩
       have NB363_367 : Aside0 (gb363 ≠ gb367) := ⟨h11_⟩
       have NB367_363 : Aside0 (gb367 ≠ gb363) := ⟨h12_⟩
       replace BK363 : Aside0 (w13.heap[gb363]? = some (.cells #[.int .i64 a0_0, .int .i64 a0_1, .int .i64 a0_2, .int .i64 a0_3, .int .i64 a0_4, .int .i64 a0_5] 27 (0, 0))) := ⟨h0_⟩
       replace HB : Aside0 (Below w.heap.size w w13) := ⟨h13_⟩
       clear h0_ h1_ h2_ h3_ h4_ h5_ h6_ h7_ h8_ h9_ h10_ h11_ h12_ h13_
       have hHeld : w13.cell? ⟨gb363, 0, none⟩ = some (.int .i64 a0_0) ∧ w13.cell? ⟨gb363, 1, none⟩ = some (.int .i64 a0_1) ∧ w13.cell? ⟨gb363, 2, none⟩ = some (.int .i64 a0_2) ∧ w13.cell? ⟨gb363, 3, none⟩ = some (.int .i64 a0_3) ∧ w13.cell? ⟨gb363, 4, none⟩ = some (.int .i64 a0_4) ∧ w13.cell? ⟨gb363, 5, none⟩ = some (.int .i64 a0_5) := hS_
       refine norm_ (a' := ?_) ?_ ?_
       rotate_left
       ·simp only [putAll, Act.put, List.setIfInBounds_toArray, List.set_cons_zero, List.set_cons_succ]
        rfl
       refine one_ (i := 7) (N := some 8) (ba 12 511) rfl rfl (one_of HT_.out (by kernel_rfl)) (by decide) (fun K hK => ?_)
       refine box_step ?hg (N := 8) ?hd (cs := #[.int .i64 0, .int .i64 0]) (t := 26) ?hr ?_; (case hd => rfl); (case hg => rfl); (case hr => first | (go_simp; done) | (go_simp; rfl))
       intro gb366 hg w14 hbox hb
       have BK366 := Aside0.mk (hbox)
       have GW366 := Aside0.mk ((by rw [hg]; exact (below_size (bl3 HB.out GE363.out GE365.out GE367.out)) : w.heap.size ≤ gb366))
       have GE366 := Aside0.mk ((by rw [hg]; exact (below_size (bl3 HB.out GE363.out GE365.out GE367.out)) : w.heap.size ≤ gb366))
       have NB363_366 := Aside0.mk ((by rw [hg]; exact Nat.ne_of_lt (lt_ BK363.out) : gb363 ≠ gb366))
       have NB366_363 := Aside0.mk ((by rw [hg]; exact Nat.ne_of_gt (lt_ BK363.out) : gb366 ≠ gb363))
       have NB365_366 := Aside0.mk ((by rw [hg]; exact Nat.ne_of_lt (lt_ BK365.out) : gb365 ≠ gb366))
       have NB366_365 := Aside0.mk ((by rw [hg]; exact Nat.ne_of_gt (lt_ BK365.out) : gb366 ≠ gb365))
       have NB367_366 := Aside0.mk ((by rw [hg]; exact Nat.ne_of_lt (lt_ BK367.out) : gb367 ≠ gb366))
       have NB366_367 := Aside0.mk ((by rw [hg]; exact Nat.ne_of_gt (lt_ BK367.out) : gb366 ≠ gb367))
       replace BK363 := Aside0.mk (bb BK363.out hb)
       replace BK365 := Aside0.mk (bb BK365.out hb)
       replace BK367 := Aside0.mk (bb BK367.out hb)
       replace HB := Aside0.mk (below_step (bl3 HB.out GE363.out GE365.out GE367.out) hb)
       clear hb hbox hg
       refine hK.out _ _ ⟨(blk_cell BK363.out 0).trans rfl, (blk_cell BK363.out 1).trans rfl, (blk_cell BK363.out 2).trans rfl, (blk_cell BK363.out 3).trans rfl, (blk_cell BK363.out 4).trans rfl, (blk_cell BK363.out 5).trans rfl⟩ (fun hHeld => ?_)
       clear hK K
       refine norm_ (a' := ?_) ?_ ?_
       rotate_left
       ·show Act.put _ (some 8) _ = _
        simp only [Act.put, List.setIfInBounds_toArray, List.set_cons_zero, List.set_cons_succ, i64_w, i32_w]
        rfl
       exact norm_ (by first | (simp only [putAll, Act.put, List.setIfInBounds_toArray, List.set_cons_zero, List.set_cons_succ]; done) | (simp only [putAll, Act.put, List.setIfInBounds_toArray, List.set_cons_zero, List.set_cons_succ]; rfl)) (hJ6_7_8 (gb365, gb366, gb367) _ ⟨hHeld, (bk BK363.out), (bk BK365.out), (bk BK366.out), (bk BK367.out), GW365.out, GE365.out, NB363_365.out, NB365_363.out, NB366_365.out, NB365_366.out, NB367_365.out, NB365_367.out, GW366.out, GE366.out, NB363_366.out, NB366_363.out, NB367_366.out, NB366_367.out, GW367.out, GE367.out, NB363_367.out, NB367_363.out, (bl4 HB.out GE363.out GE365.out GE367.out GE366.out)⟩)
     ·skip
      rintro ⟨gb365, gb366⟩ w13 ⟨hS_, h0_, h1_, h2_, h3_, h4_, h5_, h6_, h7_, h8_, h9_, h10_, h11_, h12_, h13_⟩
      have BK365 : Aside0 (w13.heap[gb365]? = some (.cells #[.int .i64 0, .int .i64 0] 26 (0, 0))) := ⟨h1_⟩
      have BK366 : Aside0 (w13.heap[gb366]? = some (.cells #[.int .i64 0, .int .i64 0] 26 (0, 0))) := ⟨h2_⟩
      have GW365 : Aside0 (w.heap.size ≤ gb365) := ⟨h3_⟩
      have GE365 : Aside0 (w.heap.size ≤ gb365) := ⟨h4_⟩
      have NB363_365 : Aside0 (gb363 ≠ gb365) := ⟨h5_⟩
      have NB365_363 : Aside0 (gb365 ≠ gb363) := ⟨h6_⟩
      have NB366_365 : Aside0 (gb366 ≠ gb365) := ⟨h7_⟩
      have NB365_366 : Aside0 (gb365 ≠ gb366) := ⟨h8_⟩
      have GW366 : Aside0 (w.heap.size ≤ gb366) := ⟨h9_⟩
      have GE366 : Aside0 (w.heap.size ≤ gb366) := ⟨h10_⟩
      have NB363_366 : Aside0 (gb363 ≠ gb366) := ⟨h11_⟩
      have NB366_363 : Aside0 (gb366 ≠ gb363) := ⟨h12_⟩
      replace BK363 : Aside0 (w13.heap[gb363]? = some (.cells #[.int .i64 a0_0, .int .i64 a0_1, .int .i64 a0_2, .int .i64 a0_3, .int .i64 a0_4, .int .i64 a0_5] 27 (0, 0))) := ⟨h0_⟩
      replace HB : Aside0 (Below w.heap.size w w13) := ⟨h13_⟩
      clear h0_ h1_ h2_ h3_ h4_ h5_ h6_ h7_ h8_ h9_ h10_ h11_ h12_ h13_
      have hHeld : w13.cell? ⟨gb363, 0, none⟩ = some (.int .i64 a0_0) ∧ w13.cell? ⟨gb363, 1, none⟩ = some (.int .i64 a0_1) ∧ w13.cell? ⟨gb363, 2, none⟩ = some (.int .i64 a0_2) ∧ w13.cell? ⟨gb363, 3, none⟩ = some (.int .i64 a0_3) ∧ w13.cell? ⟨gb363, 4, none⟩ = some (.int .i64 a0_4) ∧ w13.cell? ⟨gb363, 5, none⟩ = some (.int .i64 a0_5) := hS_
      refine norm_ (a' := ?_) ?_ ?_
      rotate_left
      ·simp only [putAll, Act.put, List.setIfInBounds_toArray, List.set_cons_zero, List.set_cons_succ]
       rfl
      refine one_ (i := 8) (N := some 9) (ba 12 511) rfl rfl (one_of HT_.out (by kernel_rfl)) (by decide) (fun K hK => ?_)
      refine box_step ?hg (N := 9) ?hd (cs := #[.int .i64 0, .int .i64 0]) (t := 26) ?hr ?_; (case hd => rfl); (case hg => rfl); (case hr => first | (go_simp; done) | (go_simp; rfl))
      intro gb367 hg w14 hbox hb
      have BK367 := Aside0.mk (hbox)
      have GW367 := Aside0.mk ((by rw [hg]; exact (below_size (bl3 HB.out GE363.out GE365.out GE366.out)) : w.heap.size ≤ gb367))
      have GE367 := Aside0.mk ((by rw [hg]; exact (below_size (bl3 HB.out GE363.out GE365.out GE366.out)) : w.heap.size ≤ gb367))
      have NB363_367 := Aside0.mk ((by rw [hg]; exact Nat.ne_of_lt (lt_ BK363.out) : gb363 ≠ gb367))
      have NB367_363 := Aside0.mk ((by rw [hg]; exact Nat.ne_of_gt (lt_ BK363.out) : gb367 ≠ gb363))
      have NB365_367 := Aside0.mk ((by rw [hg]; exact Nat.ne_of_lt (lt_ BK365.out) : gb365 ≠ gb367))
      have NB367_365 := Aside0.mk ((by rw [hg]; exact Nat.ne_of_gt (lt_ BK365.out) : gb367 ≠ gb365))
      have NB366_367 := Aside0.mk ((by rw [hg]; exact Nat.ne_of_lt (lt_ BK366.out) : gb366 ≠ gb367))
      have NB367_366 := Aside0.mk ((by rw [hg]; exact Nat.ne_of_gt (lt_ BK366.out) : gb367 ≠ gb366))
      replace BK363 := Aside0.mk (bb BK363.out hb)
      replace BK365 := Aside0.mk (bb BK365.out hb)
      replace BK366 := Aside0.mk (bb BK366.out hb)
      replace HB := Aside0.mk (below_step (bl3 HB.out GE363.out GE365.out GE366.out) hb)
      clear hb hbox hg
      refine hK.out _ _ ⟨(blk_cell BK363.out 0).trans rfl, (blk_cell BK363.out 1).trans rfl, (blk_cell BK363.out 2).trans rfl, (blk_cell BK363.out 3).trans rfl, (blk_cell BK363.out 4).trans rfl, (blk_cell BK363.out 5).trans rfl⟩ (fun hHeld => ?_)
      clear hK K
      refine norm_ (a' := ?_) ?_ ?_
      rotate_left
      ·show Act.put _ (some 9) _ = _
       simp only [Act.put, List.setIfInBounds_toArray, List.set_cons_zero, List.set_cons_succ, i64_w, i32_w]
       rfl
      exact norm_ (by first | (simp only [putAll, Act.put, List.setIfInBounds_toArray, List.set_cons_zero, List.set_cons_succ]; done) | (simp only [putAll, Act.put, List.setIfInBounds_toArray, List.set_cons_zero, List.set_cons_succ]; rfl)) (hJ6_7_8 (gb365, gb366, gb367) _ ⟨hHeld, (bk BK363.out), (bk BK365.out), (bk BK366.out), (bk BK367.out), GW365.out, GE365.out, NB363_365.out, NB365_363.out, NB366_365.out, NB365_366.out, NB367_365.out, NB365_367.out, GW366.out, GE366.out, NB363_366.out, NB366_363.out, NB367_366.out, NB366_367.out, GW367.out, GE367.out, NB363_367.out, NB367_363.out, (bl4 HB.out GE363.out GE365.out GE366.out GE367.out)⟩)
    rintro ⟨gb365, gb366, gb367⟩ w14 ⟨hS_, h0_, h1_, h2_, h3_, h4_, h5_, h6_, h7_, h8_, h9_, h10_, h11_, h12_, h13_, h14_, h15_, h16_, h17_, h18_, h19_, h20_, h21_, h22_⟩
    have BK365 : Aside0 (w14.heap[gb365]? = some (.cells #[.int .i64 0, .int .i64 0] 26 (0, 0))) := ⟨h1_⟩
    have BK366 : Aside0 (w14.heap[gb366]? = some (.cells #[.int .i64 0, .int .i64 0] 26 (0, 0))) := ⟨h2_⟩
    have BK367 : Aside0 (w14.heap[gb367]? = some (.cells #[.int .i64 0, .int .i64 0] 26 (0, 0))) := ⟨h3_⟩
    have GW365 : Aside0 (w.heap.size ≤ gb365) := ⟨h4_⟩
    have GE365 : Aside0 (w.heap.size ≤ gb365) := ⟨h5_⟩
    have NB363_365 : Aside0 (gb363 ≠ gb365) := ⟨h6_⟩
    have NB365_363 : Aside0 (gb365 ≠ gb363) := ⟨h7_⟩
    have NB366_365 : Aside0 (gb366 ≠ gb365) := ⟨h8_⟩
    have NB365_366 : Aside0 (gb365 ≠ gb366) := ⟨h9_⟩
    have NB367_365 : Aside0 (gb367 ≠ gb365) := ⟨h10_⟩
    have NB365_367 : Aside0 (gb365 ≠ gb367) := ⟨h11_⟩
    have GW366 : Aside0 (w.heap.size ≤ gb366) := ⟨h12_⟩
    have GE366 : Aside0 (w.heap.size ≤ gb366) := ⟨h13_⟩
    have NB363_366 : Aside0 (gb363 ≠ gb366) := ⟨h14_⟩
    have NB366_363 : Aside0 (gb366 ≠ gb363) := ⟨h15_⟩
    have NB367_366 : Aside0 (gb367 ≠ gb366) := ⟨h16_⟩
    have NB366_367 : Aside0 (gb366 ≠ gb367) := ⟨h17_⟩
    have GW367 : Aside0 (w.heap.size ≤ gb367) := ⟨h18_⟩
    have GE367 : Aside0 (w.heap.size ≤ gb367) := ⟨h19_⟩
    have NB363_367 : Aside0 (gb363 ≠ gb367) := ⟨h20_⟩
    have NB367_363 : Aside0 (gb367 ≠ gb363) := ⟨h21_⟩
    replace BK363 : Aside0 (w14.heap[gb363]? = some (.cells #[.int .i64 a0_0, .int .i64 a0_1, .int .i64 a0_2, .int .i64 a0_3, .int .i64 a0_4, .int .i64 a0_5] 27 (0, 0))) := ⟨h0_⟩
    replace HB : Aside0 (Below w.heap.size w w14) := ⟨h22_⟩
    clear h0_ h1_ h2_ h3_ h4_ h5_ h6_ h7_ h8_ h9_ h10_ h11_ h12_ h13_ h14_ h15_ h16_ h17_ h18_ h19_ h20_ h21_ h22_
    have hHeld : w14.cell? ⟨gb363, 0, none⟩ = some (.int .i64 a0_0) ∧ w14.cell? ⟨gb363, 1, none⟩ = some (.int .i64 a0_1) ∧ w14.cell? ⟨gb363, 2, none⟩ = some (.int .i64 a0_2) ∧ w14.cell? ⟨gb363, 3, none⟩ = some (.int .i64 a0_3) ∧ w14.cell? ⟨gb363, 4, none⟩ = some (.int .i64 a0_4) ∧ w14.cell? ⟨gb363, 5, none⟩ = some (.int .i64 a0_5) := hS_
    refine norm_ (a' := ?_) ?_ ?_
    rotate_left
    ·simp only [putAll, Act.put, List.setIfInBounds_toArray, List.set_cons_zero, List.set_cons_succ]
     rfl
    refine one_ (i := 9) (N := none) (ba 12 1023) rfl rfl (one_of HT_.out (by kernel_rfl)) (by decide) (fun K hK => ?_)
    have hs15 : w14.cell? ⟨gb365, 0, none⟩ = some (.int .i64 0) := (blk_cell BK365.out 0).trans rfl
    have hfs15 := blk_frozen BK365.out 0
    have hns15_0 := NB363_365.out
    have hns15_2 := NB366_365.out
    have hns15_3 := NB367_365.out
    have hms15_0 := NB365_363.out
    have hms15_2 := NB365_366.out
    have hms15_3 := NB365_367.out
    have hs16 : w14.cell? ⟨gb365, 1, none⟩ = some (.int .i64 0) := (blk_cell BK365.out 1).trans rfl
    have hfs16 := blk_frozen BK365.out 1
    have hns16_0 := NB363_365.out
    have hns16_2 := NB366_365.out
    have hns16_3 := NB367_365.out
    have hms16_0 := NB365_363.out
    have hms16_2 := NB365_366.out
    have hms16_3 := NB365_367.out
    refine skip_ (w1 := ?_) (by rfl) rfl ?_ ?_
    rotate_left
    ·go_simp
     rfl
    refine hK.out _ _ ⟨((cell_far (p := ⟨gb365, _, none⟩) NB363_365.out _).trans (((cell_far (p := ⟨gb365, _, none⟩) NB363_365.out _).trans (hHeld.1)))), ((cell_far (p := ⟨gb365, _, none⟩) NB363_365.out _).trans (((cell_far (p := ⟨gb365, _, none⟩) NB363_365.out _).trans (hHeld.2.1)))), ((cell_far (p := ⟨gb365, _, none⟩) NB363_365.out _).trans (((cell_far (p := ⟨gb365, _, none⟩) NB363_365.out _).trans (hHeld.2.2.1)))), ((cell_far (p := ⟨gb365, _, none⟩) NB363_365.out _).trans (((cell_far (p := ⟨gb365, _, none⟩) NB363_365.out _).trans (hHeld.2.2.2.1)))), ((cell_far (p := ⟨gb365, _, none⟩) NB363_365.out _).trans (((cell_far (p := ⟨gb365, _, none⟩) NB363_365.out _).trans (hHeld.2.2.2.2.1)))), ((cell_far (p := ⟨gb365, _, none⟩) NB363_365.out _).trans (((cell_far (p := ⟨gb365, _, none⟩) NB363_365.out _).trans (hHeld.2.2.2.2.2))))⟩ (fun hHeld => ?_)
    clear hK K
    refine one_ (i := 10) (N := none) (ba 12 2047) rfl rfl (one_of HT_.out (by kernel_rfl)) (by decide) (fun K hK => ?_)
    have hs17 : w14.cell? ⟨gb366, 0, none⟩ = some (.int .i64 0) := (blk_cell BK366.out 0).trans rfl
    have hfs17 := blk_frozen BK366.out 0
    have hns17_0 := NB363_366.out
    have hns17_1 := NB365_366.out
    have hns17_3 := NB367_366.out
    have hms17_0 := NB366_363.out
    have hms17_1 := NB366_365.out
    have hms17_3 := NB366_367.out
    have hs18 : w14.cell? ⟨gb366, 1, none⟩ = some (.int .i64 0) := (blk_cell BK366.out 1).trans rfl
    have hfs18 := blk_frozen BK366.out 1
    have hns18_0 := NB363_366.out
    have hns18_1 := NB365_366.out
    have hns18_3 := NB367_366.out
    have hms18_0 := NB366_363.out
    have hms18_1 := NB366_365.out
    have hms18_3 := NB366_367.out
    refine skip_ (w1 := ?_) (by rfl) rfl ?_ ?_
    rotate_left
    ·go_simp
     rfl
    refine hK.out _ _ ⟨((cell_far (p := ⟨gb366, _, none⟩) NB363_366.out _).trans (((cell_far (p := ⟨gb366, _, none⟩) NB363_366.out _).trans (hHeld.1)))), ((cell_far (p := ⟨gb366, _, none⟩) NB363_366.out _).trans (((cell_far (p := ⟨gb366, _, none⟩) NB363_366.out _).trans (hHeld.2.1)))), ((cell_far (p := ⟨gb366, _, none⟩) NB363_366.out _).trans (((cell_far (p := ⟨gb366, _, none⟩) NB363_366.out _).trans (hHeld.2.2.1)))), ((cell_far (p := ⟨gb366, _, none⟩) NB363_366.out _).trans (((cell_far (p := ⟨gb366, _, none⟩) NB363_366.out _).trans (hHeld.2.2.2.1)))), ((cell_far (p := ⟨gb366, _, none⟩) NB363_366.out _).trans (((cell_far (p := ⟨gb366, _, none⟩) NB363_366.out _).trans (hHeld.2.2.2.2.1)))), ((cell_far (p := ⟨gb366, _, none⟩) NB363_366.out _).trans (((cell_far (p := ⟨gb366, _, none⟩) NB363_366.out _).trans (hHeld.2.2.2.2.2))))⟩ (fun hHeld => ?_)
    clear hK K
    refine one_ (i := 11) (N := none) (ba 12 4095) rfl rfl (one_of HT_.out (by kernel_rfl)) (by decide) (fun K hK => ?_)
    have hs19 : w14.cell? ⟨gb367, 0, none⟩ = some (.int .i64 0) := (blk_cell BK367.out 0).trans rfl
    have hfs19 := blk_frozen BK367.out 0
    have hns19_0 := NB363_367.out
    have hns19_1 := NB365_367.out
    have hns19_2 := NB366_367.out
    have hms19_0 := NB367_363.out
    have hms19_1 := NB367_365.out
    have hms19_2 := NB367_366.out
    have hs20 : w14.cell? ⟨gb367, 1, none⟩ = some (.int .i64 0) := (blk_cell BK367.out 1).trans rfl
    have hfs20 := blk_frozen BK367.out 1
    have hns20_0 := NB363_367.out
    have hns20_1 := NB365_367.out
    have hns20_2 := NB366_367.out
    have hms20_0 := NB367_363.out
    have hms20_1 := NB367_365.out
    have hms20_2 := NB367_366.out
    refine skip_ (w1 := ?_) (by rfl) rfl ?_ ?_
    rotate_left
    ·go_simp
     rfl
    refine hK.out _ _ ⟨((cell_far (p := ⟨gb367, _, none⟩) NB363_367.out _).trans (((cell_far (p := ⟨gb367, _, none⟩) NB363_367.out _).trans (hHeld.1)))), ((cell_far (p := ⟨gb367, _, none⟩) NB363_367.out _).trans (((cell_far (p := ⟨gb367, _, none⟩) NB363_367.out _).trans (hHeld.2.1)))), ((cell_far (p := ⟨gb367, _, none⟩) NB363_367.out _).trans (((cell_far (p := ⟨gb367, _, none⟩) NB363_367.out _).trans (hHeld.2.2.1)))), ((cell_far (p := ⟨gb367, _, none⟩) NB363_367.out _).trans (((cell_far (p := ⟨gb367, _, none⟩) NB363_367.out _).trans (hHeld.2.2.2.1)))), ((cell_far (p := ⟨gb367, _, none⟩) NB363_367.out _).trans (((cell_far (p := ⟨gb367, _, none⟩) NB363_367.out _).trans (hHeld.2.2.2.2.1)))), ((cell_far (p := ⟨gb367, _, none⟩) NB363_367.out _).trans (((cell_far (p := ⟨gb367, _, none⟩) NB363_367.out _).trans (hHeld.2.2.2.2.2))))⟩ (fun hHeld => ?_)
    clear hK K
    refine done_ (done_of HT_.out (by kernel_rfl)) ?_
    go_upto_region 4 with (fail)
    go_cut [10, 11] (fun v10 v11 wc => ∃ (kq : Nat) (x10_8 : Int) (x11_8 : Int), v10 = .int .i64 x10_8 ∧ v11 = .int .i64 x11_8 ∧ Aside0 (pochoirlaw19_LineLevels.j1 kq a1 a2 x10_8 x11_8 a0_0 a0_1 a0_2 a0_3 a0_4 a0_5 = some r) ∧ Aside0 (kq ≤ kj3) ∧ Aside0 (wc.heap[gb363]? = some (.cells #[.int .i64 a0_0, .int .i64 a0_1, .int .i64 a0_2, .int .i64 a0_3, .int .i64 a0_4, .int .i64 a0_5] 27 (0, 0))) ∧ Aside0 (wc.heap[gb365]? = some (.cells #[.int .i64 a0_0, .int .i64 a0_1] 26 (0, 0))) ∧ Aside0 (wc.heap[gb366]? = some (.cells #[.int .i64 a0_2, .int .i64 a0_3] 26 (0, 0))) ∧ Aside0 (wc.heap[gb367]? = some (.cells #[.int .i64 a0_4, .int .i64 a0_5] 26 (0, 0))) ∧ Aside0 (Below w.heap.size w wc))
    case first =>
     have H := HC9.out
     clear HC9
     replace H := Option.bind_eq_some_iff.mp H
     obtain ⟨⟨t368, t369⟩, A210, H⟩ := H
     replace H : (pochoirlaw19_LineLevels.j1 kj3 a1 a2 t368 t369 a0_0 a0_1 a0_2 a0_3 a0_4 a0_5) = some r := H
     have A21 := Aside0.mk A210
     clear A210
     have H' := Aside0.mk H
     clear H
     have hnb22 := NB365_363.out
     have hnc22 := NB363_365.out
     have hnb23 := NB365_366.out
     have hnc23 := NB366_365.out
     have hnb24 := NB365_367.out
     have hnc24 := NB367_365.out
     have hcz25_0 : w14.cell? ⟨gb365, 0, none⟩ = some (.int .i64 0) := (blk_cell BK365.out 0).trans rfl
     have hcz25_1 : w14.cell? ⟨gb365, 1, none⟩ = some (.int .i64 0) := (blk_cell BK365.out 1).trans rfl
     have hfz25_0 := blk_frozen BK365.out 0
     have hfz25_1 := blk_frozen BK365.out 1
     have hnb26 := NB366_363.out
     have hnc26 := NB363_366.out
     have hnb27 := NB366_367.out
     have hnc27 := NB367_366.out
     have hcz28_0 : w14.cell? ⟨gb366, 0, none⟩ = some (.int .i64 0) := (blk_cell BK366.out 0).trans rfl
     have hcz28_1 : w14.cell? ⟨gb366, 1, none⟩ = some (.int .i64 0) := (blk_cell BK366.out 1).trans rfl
     have hfz28_0 := blk_frozen BK366.out 0
     have hfz28_1 := blk_frozen BK366.out 1
     go_wp2_with (first | ((with_reducible refine gate_callee (f := 40) rfl ?_); refine goesL_ (some 31) rfl rfl Try.func40 (by kernel_rfl) rfl #[.agg #[.int .i64 a0_0, .int .i64 a0_1], .agg #[.int .i64 a0_2, .int .i64 a0_3], .int .i64 a1, .int .i64 a2] rfl am ?_; (with_reducible refine (line_Point.calls kj3 a0_0 a0_1 a0_2 a0_3 a1 a2 t368 t369 _ A21.out).mono ?_); rintro e w29 ⟨rfl, hb⟩; refine ⟨_, rfl, ?_⟩; replace BK363 := Aside0.mk (blk_below (g := gb363) (o := .cells #[.int .i64 a0_0, .int .i64 a0_1, .int .i64 a0_2, .int .i64 a0_3, .int .i64 a0_4, .int .i64 a0_5] 27 (0, 0)) (by (with_reducible repeat (first | refine blk_drewN ?_ _ | refine blk_drew ?_ | refine blk_alloc ?_ _)); refine blk_far ?_ NB363_367.out _; (with_reducible repeat (first | refine blk_drewN ?_ _ | refine blk_drew ?_ | refine blk_alloc ?_ _)); refine blk_far ?_ NB363_367.out _; (with_reducible repeat (first | refine blk_drewN ?_ _ | refine blk_drew ?_ | refine blk_alloc ?_ _)); refine blk_far ?_ NB363_366.out _; (with_reducible repeat (first | refine blk_drewN ?_ _ | refine blk_drew ?_ | refine blk_alloc ?_ _)); refine blk_far ?_ NB363_366.out _; (with_reducible repeat (first | refine blk_drewN ?_ _ | refine blk_drew ?_ | refine blk_alloc ?_ _)); refine blk_far ?_ NB363_365.out _; (with_reducible repeat (first | refine blk_drewN ?_ _ | refine blk_drew ?_ | refine blk_alloc ?_ _)); refine blk_far ?_ NB363_365.out _; (with_reducible repeat (first | refine blk_drewN ?_ _ | refine blk_drew ?_ | refine blk_alloc ?_ _)); exact BK363.out) hb); replace BK365 := Aside0.mk (blk_below (g := gb365) (o := .cells #[.int .i64 a0_0, .int .i64 a0_1] 26 (0, 0)) (by (with_reducible repeat (first | refine blk_drewN ?_ _ | refine blk_drew ?_ | refine blk_alloc ?_ _)); refine blk_far ?_ NB365_367.out _; (with_reducible repeat (first | refine blk_drewN ?_ _ | refine blk_drew ?_ | refine blk_alloc ?_ _)); refine blk_far ?_ NB365_367.out _; (with_reducible repeat (first | refine blk_drewN ?_ _ | refine blk_drew ?_ | refine blk_alloc ?_ _)); refine blk_far ?_ NB365_366.out _; (with_reducible repeat (first | refine blk_drewN ?_ _ | refine blk_drew ?_ | refine blk_alloc ?_ _)); refine blk_far ?_ NB365_366.out _; (with_reducible repeat (first | refine blk_drewN ?_ _ | refine blk_drew ?_ | refine blk_alloc ?_ _)); refine blk_put (cs := #[.int .i64 a0_0, .int .i64 0]) ?_ 1 _ rfl; (with_reducible repeat (first | refine blk_drewN ?_ _ | refine blk_drew ?_ | refine blk_alloc ?_ _)); refine blk_put (cs := #[.int .i64 0, .int .i64 0]) ?_ 0 _ rfl; (with_reducible repeat (first | refine blk_drewN ?_ _ | refine blk_drew ?_ | refine blk_alloc ?_ _)); exact BK365.out) hb); replace BK366 := Aside0.mk (blk_below (g := gb366) (o := .cells #[.int .i64 a0_2, .int .i64 a0_3] 26 (0, 0)) (by (with_reducible repeat (first | refine blk_drewN ?_ _ | refine blk_drew ?_ | refine blk_alloc ?_ _)); refine blk_far ?_ NB366_367.out _; (with_reducible repeat (first | refine blk_drewN ?_ _ | refine blk_drew ?_ | refine blk_alloc ?_ _)); refine blk_far ?_ NB366_367.out _; (with_reducible repeat (first | refine blk_drewN ?_ _ | refine blk_drew ?_ | refine blk_alloc ?_ _)); refine blk_put (cs := #[.int .i64 a0_2, .int .i64 0]) ?_ 1 _ rfl; (with_reducible repeat (first | refine blk_drewN ?_ _ | refine blk_drew ?_ | refine blk_alloc ?_ _)); refine blk_put (cs := #[.int .i64 0, .int .i64 0]) ?_ 0 _ rfl; (with_reducible repeat (first | refine blk_drewN ?_ _ | refine blk_drew ?_ | refine blk_alloc ?_ _)); refine blk_far ?_ NB366_365.out _; (with_reducible repeat (first | refine blk_drewN ?_ _ | refine blk_drew ?_ | refine blk_alloc ?_ _)); refine blk_far ?_ NB366_365.out _; (with_reducible repeat (first | refine blk_drewN ?_ _ | refine blk_drew ?_ | refine blk_alloc ?_ _)); exact BK366.out) hb); replace BK367 := Aside0.mk (blk_below (g := gb367) (o := .cells #[.int .i64 a0_4, .int .i64 a0_5] 26 (0, 0)) (by (with_reducible repeat (first | refine blk_drewN ?_ _ | refine blk_drew ?_ | refine blk_alloc ?_ _)); refine blk_put (cs := #[.int .i64 a0_4, .int .i64 0]) ?_ 1 _ rfl; (with_reducible repeat (first | refine blk_drewN ?_ _ | refine blk_drew ?_ | refine blk_alloc ?_ _)); refine blk_put (cs := #[.int .i64 0, .int .i64 0]) ?_ 0 _ rfl; (with_reducible repeat (first | refine blk_drewN ?_ _ | refine blk_drew ?_ | refine blk_alloc ?_ _)); refine blk_far ?_ NB367_366.out _; (with_reducible repeat (first | refine blk_drewN ?_ _ | refine blk_drew ?_ | refine blk_alloc ?_ _)); refine blk_far ?_ NB367_366.out _; (with_reducible repeat (first | refine blk_drewN ?_ _ | refine blk_drew ?_ | refine blk_alloc ?_ _)); refine blk_far ?_ NB367_365.out _; (with_reducible repeat (first | refine blk_drewN ?_ _ | refine blk_drew ?_ | refine blk_alloc ?_ _)); refine blk_far ?_ NB367_365.out _; (with_reducible repeat (first | refine blk_drewN ?_ _ | refine blk_drew ?_ | refine blk_alloc ?_ _)); exact BK367.out) hb); replace HB := Aside0.mk (below_step (bl4 HB.out GE363.out GE365.out GE366.out GE367.out) hb); (try clear hb); (try clear hb2); (try clear hk); (try clear hi)))
     go_meet
     case rel => exact ⟨_, (t368), (t369), fr, fr, H', ⟨by have := HJ3.out; first | omega | exact Nat.le_refl _⟩, ⟨bk BK363.out⟩, ⟨bk BK365.out⟩, ⟨bk BK366.out⟩, ⟨bk BK367.out⟩, ⟨bl4 HB.out GE363.out GE365.out GE366.out GE367.out⟩⟩
    case rest =>
     clear HC9
     try clear c2
     try clear p2
     try clear c4
     try clear c22
     try clear c23
     try clear c24
     try clear c26
     try clear c27
     try clear hcz25_0
     try clear hcz25_1
     try clear hcz28_0
     try clear hcz28_1
     try clear hfz25_0
     try clear hfz25_1
     try clear hfz28_0
     try clear hfz28_1
     obtain ⟨kq, x10_8, x11_8, rfl, rfl, HA, HJ8, BK363, BK365, BK366, BK367, HB⟩ := hcut
     cases kq with
     | zero => exact absurd HA.out (by simp [pochoirlaw19_LineLevels.j1])
     | succ kj8 =>
      have H := HA.out
      clear HA
      simp only [pochoirlaw19_LineLevels.j1] at H
      have HC30 := Aside0.mk H
      clear H
      go_upto_region 5 with (fail)
      go_cut [12, 13] (fun v12 v13 wc => ∃ (kq : Nat) (x12_29 : Int) (x13_29 : Int), v12 = .int .i64 x12_29 ∧ v13 = .int .i64 x13_29 ∧ Aside0 (pochoirlaw19_LineLevels.j2 kq a1 a2 x10_8 x11_8 x12_29 x13_29 a0_0 a0_1 a0_2 a0_3 a0_4 a0_5 = some r) ∧ Aside0 (kq ≤ kj8) ∧ Aside0 (wc.heap[gb363]? = some (.cells #[.int .i64 a0_0, .int .i64 a0_1, .int .i64 a0_2, .int .i64 a0_3, .int .i64 a0_4, .int .i64 a0_5] 27 (0, 0))) ∧ Aside0 (wc.heap[gb365]? = some (.cells #[.int .i64 a0_0, .int .i64 a0_1] 26 (0, 0))) ∧ Aside0 (wc.heap[gb366]? = some (.cells #[.int .i64 a0_2, .int .i64 a0_3] 26 (0, 0))) ∧ Aside0 (wc.heap[gb367]? = some (.cells #[.int .i64 a0_4, .int .i64 a0_5] 26 (0, 0))) ∧ Aside0 (Below w.heap.size w wc))
      case first =>
       have H := HC30.out
       clear HC30
       replace H := Option.bind_eq_some_iff.mp H
       obtain ⟨⟨t370, t371⟩, A310, H⟩ := H
       replace H : (pochoirlaw19_LineLevels.j2 kj8 a1 a2 x10_8 x11_8 t370 t371 a0_0 a0_1 a0_2 a0_3 a0_4 a0_5) = some r := H
       have A31 := Aside0.mk A310
       clear A310
       have H' := Aside0.mk H
       clear H
       have hnb32 := NB365_363.out
       have hnc32 := NB363_365.out
       have hnb33 := NB365_366.out
       have hnc33 := NB366_365.out
       have hnb34 := NB365_367.out
       have hnc34 := NB367_365.out
       have hcz35_0 : wc.cell? ⟨gb365, 0, none⟩ = some (.int .i64 a0_0) := (blk_cell BK365.out 0).trans rfl
       have hcz35_1 : wc.cell? ⟨gb365, 1, none⟩ = some (.int .i64 a0_1) := (blk_cell BK365.out 1).trans rfl
       have hfz35_0 := blk_frozen BK365.out 0
       have hfz35_1 := blk_frozen BK365.out 1
       have hnb36 := NB366_363.out
       have hnc36 := NB363_366.out
       have hnb37 := NB366_367.out
       have hnc37 := NB367_366.out
       have hcz38_0 : wc.cell? ⟨gb366, 0, none⟩ = some (.int .i64 a0_2) := (blk_cell BK366.out 0).trans rfl
       have hcz38_1 : wc.cell? ⟨gb366, 1, none⟩ = some (.int .i64 a0_3) := (blk_cell BK366.out 1).trans rfl
       have hfz38_0 := blk_frozen BK366.out 0
       have hfz38_1 := blk_frozen BK366.out 1
       have hnb39 := NB367_363.out
       have hnc39 := NB363_367.out
       have hcz40_0 : wc.cell? ⟨gb367, 0, none⟩ = some (.int .i64 a0_4) := (blk_cell BK367.out 0).trans rfl
       have hcz40_1 : wc.cell? ⟨gb367, 1, none⟩ = some (.int .i64 a0_5) := (blk_cell BK367.out 1).trans rfl
       have hfz40_0 := blk_frozen BK367.out 0
       have hfz40_1 := blk_frozen BK367.out 1
       go_wp2_with (first | ((with_reducible refine gate_callee (f := 41) rfl ?_); refine goesL_ (some 40) rfl rfl Try.func41 (by kernel_rfl) rfl #[.agg #[.int .i64 a0_0, .int .i64 a0_1], .agg #[.int .i64 a0_2, .int .i64 a0_3], .agg #[.int .i64 a0_4, .int .i64 a0_5], .int .i64 a1, .int .i64 a2] rfl am ?_; (with_reducible refine (line_Segment.calls kj8 a0_0 a0_1 a0_2 a0_3 a0_4 a0_5 a1 a2 t370 t371 _ A31.out).mono ?_); rintro e w41 ⟨rfl, hb⟩; refine ⟨_, rfl, ?_⟩; replace BK363 := Aside0.mk (bb BK363.out hb); replace BK365 := Aside0.mk (bb BK365.out hb); replace BK366 := Aside0.mk (bb BK366.out hb); replace BK367 := Aside0.mk (bb BK367.out hb); replace HB := Aside0.mk (below_step (bl4 HB.out GE363.out GE365.out GE366.out GE367.out) hb); (try clear hb); (try clear hb2); (try clear hk); (try clear hi)))
       go_meet
       case rel => exact ⟨_, (t370), (t371), fr, fr, H', ⟨by have := HJ3.out; have := HJ8.out; first | omega | exact Nat.le_refl _⟩, ⟨bk BK363.out⟩, ⟨bk BK365.out⟩, ⟨bk BK366.out⟩, ⟨bk BK367.out⟩, ⟨bl4 HB.out GE363.out GE365.out GE366.out GE367.out⟩⟩
      case rest =>
       clear HC30
       try clear c2
       try clear p2
       try clear c3
       try clear c4
       try clear c22
       try clear c23
       try clear c24
       try clear c26
       try clear c27
       try clear c32
       try clear c33
       try clear c34
       try clear c36
       try clear c37
       try clear c39
       try clear c40
       try clear c41
       try clear hcz25_0
       try clear hcz25_1
       try clear hcz28_0
       try clear hcz28_1
       try clear hcz35_0
       try clear hcz35_1
       try clear hcz38_0
       try clear hcz38_1
       try clear hcz40_0
       try clear hcz40_1
       try clear hfz25_0
       try clear hfz25_1
       try clear hfz28_0
       try clear hfz28_1
       try clear hfz35_0
       try clear hfz35_1
       try clear hfz38_0
       try clear hfz38_1
       try clear hfz40_0
       try clear hfz40_1
       try clear p2
       obtain ⟨kq, x12_29, x13_29, rfl, rfl, HA, HJ29, BK363, BK365, BK366, BK367, HB⟩ := hcut
       cases kq with
       | zero => exact absurd HA.out (by simp [pochoirlaw19_LineLevels.j2])
       | succ kj29 =>
        have H := HA.out
        clear HA
        simp only [pochoirlaw19_LineLevels.j2] at H
        have HC42 := Aside0.mk H
        clear H
        go_upto_region 6 with (fail)
        go_cut [14, 15] (fun v14 v15 wc => ∃ (kq : Nat) (x14_41 : Int) (x15_41 : Int), v14 = .int .i64 x14_41 ∧ v15 = .int .i64 x15_41 ∧ Aside0 (pochoirlaw19_LineLevels.j3 kq a1 a2 x10_8 x11_8 x12_29 x13_29 x14_41 x15_41 a0_0 a0_1 a0_2 a0_3 a0_4 a0_5 = some r) ∧ Aside0 (kq ≤ kj29) ∧ Aside0 (wc.heap[gb363]? = some (.cells #[.int .i64 a0_0, .int .i64 a0_1, .int .i64 a0_2, .int .i64 a0_3, .int .i64 a0_4, .int .i64 a0_5] 27 (0, 0))) ∧ Aside0 (wc.heap[gb365]? = some (.cells #[.int .i64 a0_0, .int .i64 a0_1] 26 (0, 0))) ∧ Aside0 (wc.heap[gb366]? = some (.cells #[.int .i64 a0_2, .int .i64 a0_3] 26 (0, 0))) ∧ Aside0 (wc.heap[gb367]? = some (.cells #[.int .i64 a0_4, .int .i64 a0_5] 26 (0, 0))) ∧ Aside0 (Below w.heap.size w wc))
        case first =>
         have H := HC42.out
         clear HC42
         replace H := Option.bind_eq_some_iff.mp H
         obtain ⟨⟨t372, t373⟩, A430, H⟩ := H
         replace H : (pochoirlaw19_LineLevels.j3 kj29 a1 a2 x10_8 x11_8 x12_29 x13_29 t372 t373 a0_0 a0_1 a0_2 a0_3 a0_4 a0_5) = some r := H
         have A43 := Aside0.mk A430
         clear A430
         have H' := Aside0.mk H
         clear H
         have hnb44 := NB365_363.out
         have hnc44 := NB363_365.out
         have hnb45 := NB365_366.out
         have hnc45 := NB366_365.out
         have hnb46 := NB365_367.out
         have hnc46 := NB367_365.out
         have hcz47_0 : wc.cell? ⟨gb365, 0, none⟩ = some (.int .i64 a0_0) := (blk_cell BK365.out 0).trans rfl
         have hcz47_1 : wc.cell? ⟨gb365, 1, none⟩ = some (.int .i64 a0_1) := (blk_cell BK365.out 1).trans rfl
         have hfz47_0 := blk_frozen BK365.out 0
         have hfz47_1 := blk_frozen BK365.out 1
         have hnb48 := NB366_363.out
         have hnc48 := NB363_366.out
         have hnb49 := NB366_367.out
         have hnc49 := NB367_366.out
         have hcz50_0 : wc.cell? ⟨gb366, 0, none⟩ = some (.int .i64 a0_2) := (blk_cell BK366.out 0).trans rfl
         have hcz50_1 : wc.cell? ⟨gb366, 1, none⟩ = some (.int .i64 a0_3) := (blk_cell BK366.out 1).trans rfl
         have hfz50_0 := blk_frozen BK366.out 0
         have hfz50_1 := blk_frozen BK366.out 1
         have hnb51 := NB367_363.out
         have hnc51 := NB363_367.out
         have hcz52_0 : wc.cell? ⟨gb367, 0, none⟩ = some (.int .i64 a0_4) := (blk_cell BK367.out 0).trans rfl
         have hcz52_1 : wc.cell? ⟨gb367, 1, none⟩ = some (.int .i64 a0_5) := (blk_cell BK367.out 1).trans rfl
         have hfz52_0 := blk_frozen BK367.out 0
         have hfz52_1 := blk_frozen BK367.out 1
         go_wp2_with (first | ((with_reducible refine gate_callee (f := 42) rfl ?_); refine goesL_ (some 49) rfl rfl Try.func42 (by kernel_rfl) rfl #[.agg #[.int .i64 a0_0, .int .i64 a0_1], .agg #[.int .i64 a0_2, .int .i64 a0_3], .agg #[.int .i64 a0_4, .int .i64 a0_5], .int .i64 a1, .int .i64 a2] rfl am ?_; (with_reducible refine (line_Ray.calls kj29 a0_0 a0_1 a0_2 a0_3 a0_4 a0_5 a1 a2 t372 t373 _ A43.out).mono ?_); rintro e w53 ⟨rfl, hb⟩; refine ⟨_, rfl, ?_⟩; replace BK363 := Aside0.mk (bb BK363.out hb); replace BK365 := Aside0.mk (bb BK365.out hb); replace BK366 := Aside0.mk (bb BK366.out hb); replace BK367 := Aside0.mk (bb BK367.out hb); replace HB := Aside0.mk (below_step (bl4 HB.out GE363.out GE365.out GE366.out GE367.out) hb); (try clear hb); (try clear hb2); (try clear hk); (try clear hi)))
         go_meet
         case rel => exact ⟨_, (t372), (t373), fr, fr, H', ⟨by have := HJ3.out; have := HJ8.out; have := HJ29.out; first | omega | exact Nat.le_refl _⟩, ⟨bk BK363.out⟩, ⟨bk BK365.out⟩, ⟨bk BK366.out⟩, ⟨bk BK367.out⟩, ⟨bl4 HB.out GE363.out GE365.out GE366.out GE367.out⟩⟩
        case rest =>
         clear HC42
         try clear c2
         try clear p2
         try clear c3
         try clear c4
         try clear c5
         try clear c22
         try clear c23
         try clear c24
         try clear c26
         try clear c27
         try clear c32
         try clear c33
         try clear c34
         try clear c36
         try clear c37
         try clear c39
         try clear c40
         try clear c41
         try clear c42
         try clear c44
         try clear c45
         try clear c46
         try clear c48
         try clear c49
         try clear c51
         try clear hcz25_0
         try clear hcz25_1
         try clear hcz28_0
         try clear hcz28_1
         try clear hcz35_0
         try clear hcz35_1
         try clear hcz38_0
         try clear hcz38_1
         try clear hcz40_0
         try clear hcz40_1
         try clear hcz47_0
         try clear hcz47_1
         try clear hcz50_0
         try clear hcz50_1
         try clear hcz52_0
         try clear hcz52_1
         try clear hfz25_0
         try clear hfz25_1
         try clear hfz28_0
         try clear hfz28_1
         try clear hfz35_0
         try clear hfz35_1
         try clear hfz38_0
         try clear hfz38_1
         try clear hfz40_0
         try clear hfz40_1
         try clear hfz47_0
         try clear hfz47_1
         try clear hfz50_0
         try clear hfz50_1
         try clear hfz52_0
         try clear hfz52_1
         try clear p2
         obtain ⟨kq, x14_41, x15_41, rfl, rfl, HA, HJ41, BK363, BK365, BK366, BK367, HB⟩ := hcut
         cases kq with
         | zero => exact absurd HA.out (by simp [pochoirlaw19_LineLevels.j3])
         | succ kj41 =>
          have H := HA.out
          clear HA
          simp only [pochoirlaw19_LineLevels.j3] at H
          obtain ⟨y374, hy374⟩ : ∃ y_ : List (S26), y_ = (([(⟨a0_0, a0_1⟩ : S26), (⟨a0_2, a0_3⟩ : S26)] : List (S26))) := ⟨_, rfl⟩
          replace H : ((pochoirref19_Asked.f kj41 y374 a1 a2).bind fun t377 => ((pochoirref19_Asked.f kj41 (([(⟨a0_0, a0_1⟩ : S26), (⟨a0_2, a0_3⟩ : S26), (⟨a0_4, a0_5⟩ : S26)] : List (S26))) a1 a2).bind fun t381 => (if x11_8 = t377 then (if x13_29 = t381 then (pochoirlaw19_LineLevels.j4 kj41 a1 a2 x10_8 x12_29 x14_41 t377 t381 (x15_41 != t381) a0_0 a0_1 a0_2 a0_3 a0_4 a0_5) else (pochoirlaw19_LineLevels.j4 kj41 a1 a2 x10_8 x12_29 x14_41 t377 t381 true a0_0 a0_1 a0_2 a0_3 a0_4 a0_5)) else (pochoirlaw19_LineLevels.j4 kj41 a1 a2 x10_8 x12_29 x14_41 t377 t381 true a0_0 a0_1 a0_2 a0_3 a0_4 a0_5)))) = some r := by first | (rw [hy374]; with_reducible exact H) | (have H2_ := (Option.bind_some _ _).symm.trans H; rw [hy374]; with_reducible exact H2_) | (have H2_ := (Option.bind_some _ _).symm.trans H; with_reducible exact H2_) | with_reducible exact H | (rw [hy374]; exact H) | exact H
          have Ny374 := Aside0.mk hy374
          clear hy374
          replace H := Option.bind_eq_some_iff.mp H
          obtain ⟨t377, A540, H⟩ := H
          replace H : ((pochoirref19_Asked.f kj41 (([(⟨a0_0, a0_1⟩ : S26), (⟨a0_2, a0_3⟩ : S26), (⟨a0_4, a0_5⟩ : S26)] : List (S26))) a1 a2).bind fun t381 => (if x11_8 = t377 then (if x13_29 = t381 then (pochoirlaw19_LineLevels.j4 kj41 a1 a2 x10_8 x12_29 x14_41 t377 t381 (x15_41 != t381) a0_0 a0_1 a0_2 a0_3 a0_4 a0_5) else (pochoirlaw19_LineLevels.j4 kj41 a1 a2 x10_8 x12_29 x14_41 t377 t381 true a0_0 a0_1 a0_2 a0_3 a0_4 a0_5)) else (pochoirlaw19_LineLevels.j4 kj41 a1 a2 x10_8 x12_29 x14_41 t377 t381 true a0_0 a0_1 a0_2 a0_3 a0_4 a0_5))) = some r := H
          have A54 := Aside0.mk A540
          clear A540
          obtain ⟨y378, hy378⟩ : ∃ y_ : List (S26), y_ = (([(⟨a0_0, a0_1⟩ : S26), (⟨a0_2, a0_3⟩ : S26), (⟨a0_4, a0_5⟩ : S26)] : List (S26))) := ⟨_, rfl⟩
          replace H : ((pochoirref19_Asked.f kj41 y378 a1 a2).bind fun t381 => (if x11_8 = t377 then (if x13_29 = t381 then (pochoirlaw19_LineLevels.j4 kj41 a1 a2 x10_8 x12_29 x14_41 t377 t381 (x15_41 != t381) a0_0 a0_1 a0_2 a0_3 a0_4 a0_5) else (pochoirlaw19_LineLevels.j4 kj41 a1 a2 x10_8 x12_29 x14_41 t377 t381 true a0_0 a0_1 a0_2 a0_3 a0_4 a0_5)) else (pochoirlaw19_LineLevels.j4 kj41 a1 a2 x10_8 x12_29 x14_41 t377 t381 true a0_0 a0_1 a0_2 a0_3 a0_4 a0_5))) = some r := by first | (rw [hy378]; with_reducible exact H) | (have H2_ := (Option.bind_some _ _).symm.trans H; rw [hy378]; with_reducible exact H2_) | (have H2_ := (Option.bind_some _ _).symm.trans H; with_reducible exact H2_) | with_reducible exact H | (rw [hy378]; exact H) | exact H
          have Ny378 := Aside0.mk hy378
          clear hy378
          replace H := Option.bind_eq_some_iff.mp H
          obtain ⟨t381, A550, H⟩ := H
          replace H : (if x11_8 = t377 then (if x13_29 = t381 then (pochoirlaw19_LineLevels.j4 kj41 a1 a2 x10_8 x12_29 x14_41 t377 t381 (x15_41 != t381) a0_0 a0_1 a0_2 a0_3 a0_4 a0_5) else (pochoirlaw19_LineLevels.j4 kj41 a1 a2 x10_8 x12_29 x14_41 t377 t381 true a0_0 a0_1 a0_2 a0_3 a0_4 a0_5)) else (pochoirlaw19_LineLevels.j4 kj41 a1 a2 x10_8 x12_29 x14_41 t377 t381 true a0_0 a0_1 a0_2 a0_3 a0_4 a0_5)) = some r := H
          have A55 := Aside0.mk A550
          clear A550
          have HC56 := Aside0.mk H
          clear H
          try go_wp2
          replace BK363 := Aside0.mk (blk_drew BK363.out)
          replace BK365 := Aside0.mk (blk_drew BK365.out)
          replace BK366 := Aside0.mk (blk_drew BK366.out)
          replace BK367 := Aside0.mk (blk_drew BK367.out)
          replace HB := Aside0.mk (below_drew1 HB.out)
          refine start_ (n := 15) (S := fun w' => True) (ds := []) (ba 15 0) (by kernel_rfl) rfl rfl trivial (fun hHeld => ?_); refine with_tabW pochoirlaw19_LineLevels.tab7 pochoirlaw19_LineLevels.bits7 (fun HT_ HW_ => ?_)
          generalize wc.drew = w57 at BK363 BK365 BK366 BK367 HB hHeld ⊢
          refine pI 3 55 (ba 15 8) HT_.out ?_
          refine pI 4 56 (ba 15 24) HT_.out ?_
          refine pI 10 62 (ba 15 1048) HT_.out ?_
          refine pI 11 63 (ba 15 3096) HT_.out ?_
          refine inv_at [0, 1, 2, 5, 6, 7, 8, 9, 12, 13, 14] (fun a0_ b a w' => ∃ (v375 : Value) (v379 : Value), a = putSel a0_ b [(0, 52, .agg #[.int .i64 a0_0, .int .i64 a0_1]), (1, 53, .agg #[.int .i64 a0_2, .int .i64 a0_3]), (2, 54, v375), (5, 57, .int .i64 t377), (6, 58, .agg #[.int .i64 a0_0, .int .i64 a0_1]), (7, 59, .agg #[.int .i64 a0_2, .int .i64 a0_3]), (8, 60, .agg #[.int .i64 a0_4, .int .i64 a0_5]), (9, 61, v379), (12, 64, .int .i64 t381), (13, 16, .int .i64 t377), (14, 17, .int .i64 t381)] ∧ (w'.heap[gb363]? = some (.cells #[.int .i64 a0_0, .int .i64 a0_1, .int .i64 a0_2, .int .i64 a0_3, .int .i64 a0_4, .int .i64 a0_5] 27 (0, 0))) ∧ (w'.heap[gb365]? = some (.cells #[.int .i64 a0_0, .int .i64 a0_1] 26 (0, 0))) ∧ (w'.heap[gb366]? = some (.cells #[.int .i64 a0_2, .int .i64 a0_3] 26 (0, 0))) ∧ (w'.heap[gb367]? = some (.cells #[.int .i64 a0_4, .int .i64 a0_5] 26 (0, 0))) ∧ (Below w.heap.size w w') ∧ (b 2 = true → Kd.R k26 26 w' w.heap.size (fun k_ => k_ ≠ gb365 ∧ k_ ≠ gb366 ∧ k_ ≠ gb367) v375 y374) ∧ (b 9 = true → Kd.R k26 26 w' w.heap.size (fun k_ => k_ ≠ gb365 ∧ k_ ≠ gb366 ∧ k_ ≠ gb367) v379 y378)) HT_.out HW_.out (by kernel_rfl) (by kernel_rfl) ?_ ?_ ?_
          ·exact ⟨.bool false, .bool false, by simp only [putSel, Bool.false_eq_true, if_false], BK363.out, BK365.out, BK366.out, BK367.out, HB.out, fun h_ => absurd h_ (by decide), fun h_ => absurd h_ (by decide)⟩
          ·skip
           clear BK363 BK365 BK366 BK367 HB
           refine steps_cons ?_ ?_
           ·rintro b a w' ⟨v375, v379, ha, Q_BK363, Q_BK365, Q_BK366, Q_BK367, Q_HB, Q_HO376, Q_HO380⟩ hb_ hon hoff
            refine ⟨_, rfl, fun K hK => ?_⟩
            have e7 : a.tmps[7]? = some (.pointer (some ⟨gb365, 0, none⟩)) := by rw [ha]; exact (putSel_off rfl).trans rfl
            replace ha := Aside0.mk ha
            have BK363 := Aside0.mk Q_BK363
            have BK365 := Aside0.mk Q_BK365
            have BK366 := Aside0.mk Q_BK366
            have BK367 := Aside0.mk Q_BK367
            have HB := Aside0.mk Q_HB
            have hc0_ : w'.cell? ⟨gb365, 0, none⟩ = some (.int .i64 a0_0) := (blk_cell BK365.out 0).trans rfl
            have hc1_ : w'.cell? ⟨gb365, 1, none⟩ = some (.int .i64 a0_1) := (blk_cell BK365.out 1).trans rfl
            refine value_ (w1 := w') (v := .agg #[.int .i64 a0_0, .int .i64 a0_1]) (by rfl) rfl ?_ ?_
            ·go_simp
             (try simp only [i64_w])
             try rfl
            refine hK.out _ _ ⟨v375, v379, (by rw [ha.out]; exact putSel_upk 0 hb_ rfl rfl rfl), Q_BK363, Q_BK365, Q_BK366, Q_BK367, Q_HB, fun h0_ => absurd ((hoff 2 (by kernel_rfl)).symm.trans h0_) (by decide), Q_HO380⟩
           refine steps_cons ?_ ?_
           ·rintro b a w' ⟨v375, v379, ha, Q_BK363, Q_BK365, Q_BK366, Q_BK367, Q_HB, Q_HO376, Q_HO380⟩ hb_ hon hoff
            refine ⟨_, rfl, fun K hK => ?_⟩
            have e8 : a.tmps[8]? = some (.pointer (some ⟨gb366, 0, none⟩)) := by rw [ha]; exact (putSel_off rfl).trans rfl
            replace ha := Aside0.mk ha
            have BK363 := Aside0.mk Q_BK363
            have BK365 := Aside0.mk Q_BK365
            have BK366 := Aside0.mk Q_BK366
            have BK367 := Aside0.mk Q_BK367
            have HB := Aside0.mk Q_HB
            have hc0_ : w'.cell? ⟨gb366, 0, none⟩ = some (.int .i64 a0_2) := (blk_cell BK366.out 0).trans rfl
            have hc1_ : w'.cell? ⟨gb366, 1, none⟩ = some (.int .i64 a0_3) := (blk_cell BK366.out 1).trans rfl
            refine value_ (w1 := w') (v := .agg #[.int .i64 a0_2, .int .i64 a0_3]) (by rfl) rfl ?_ ?_
            ·go_simp
             (try simp only [i64_w])
             try rfl
            refine hK.out _ _ ⟨v375, v379, (by rw [ha.out]; exact putSel_upk 1 hb_ rfl rfl rfl), Q_BK363, Q_BK365, Q_BK366, Q_BK367, Q_HB, fun h0_ => absurd ((hoff 2 (by kernel_rfl)).symm.trans h0_) (by decide), Q_HO380⟩
           refine steps_cons ?_ ?_
           ·rintro b a w' ⟨v375, v379, ha, Q_BK363, Q_BK365, Q_BK366, Q_BK367, Q_HB, Q_HO376, Q_HO380⟩ hb_ hon hoff
            refine ⟨_, rfl, fun K hK => ?_⟩
            have e52 : a.tmps[52]? = some (.agg #[.int .i64 a0_0, .int .i64 a0_1]) := by rw [ha]; exact putSel_on (e := (0, 52, .agg #[.int .i64 a0_0, .int .i64 a0_1])) 0 rfl rfl (hon 0 (by kernel_rfl)) rfl
            have e53 : a.tmps[53]? = some (.agg #[.int .i64 a0_2, .int .i64 a0_3]) := by rw [ha]; exact putSel_on (e := (1, 53, .agg #[.int .i64 a0_2, .int .i64 a0_3])) 1 rfl rfl (hon 1 (by kernel_rfl)) rfl
            replace ha := Aside0.mk ha
            have BK363 := Aside0.mk Q_BK363
            have BK365 := Aside0.mk Q_BK365
            have BK366 := Aside0.mk Q_BK366
            have BK367 := Aside0.mk Q_BK367
            have HB := Aside0.mk Q_HB
            refine Kd.R_lit_step k26 _ 26 ?hg (N := 54) ?hd (xs := ([(⟨a0_0, a0_1⟩ : S26), (⟨a0_2, a0_3⟩ : S26)] : List (S26))) (inner := [.int .i64 a0_0, .int .i64 a0_1, .int .i64 a0_2, .int .i64 a0_3]) (ok := fun _ => True) (okp := fun _ => True) ?hr ?hp (fun _ hk => hk) trivial (Below.refl _ _) (Nat.le_refl _) (by simp) ?_; (case hd => rfl); (case hg => rfl); (case hr => first | (go_simp; done) | (go_simp; rfl)); (case hp => exact (Reps.c2 (show Kd.M k26 _ _ _ (⟨a0_0, a0_1⟩ : S26) [.int .i64 a0_0, .int .i64 a0_1] from (k26_mkM _ _ _ (⟨a0_0, a0_1⟩ : S26) )) (Reps.c2 (show Kd.M k26 _ _ _ (⟨a0_2, a0_3⟩ : S26) [.int .i64 a0_2, .int .i64 a0_3] from (k26_mkM _ _ _ (⟨a0_2, a0_3⟩ : S26) )) (Reps.none _ _))))
            intro v375 w58 ho59 hb hg_ hnew_
            clear hg_ hnew_
            (first | rw [← Ny374.out] at ho59 | (simp only [Int.reduceToNat] at ho59; rw [← Ny374.out] at ho59))
            have n0_ := Aside0.mk (Kd.R_lower (Kd.R_newB (Kd.R_newB (Kd.R_newB ho59 (g := gb365) (o := .cells #[.int .i64 a0_0, .int .i64 a0_1] 26 (0, 0)) (bk BK365.out)) (g := gb366) (o := .cells #[.int .i64 a0_2, .int .i64 a0_3] 26 (0, 0)) (bk BK366.out)) (g := gb367) (o := .cells #[.int .i64 a0_4, .int .i64 a0_5] 26 (0, 0)) (bk BK367.out)) (below_size (bl4 HB.out GE363.out GE365.out GE366.out GE367.out)))
            have n1_ := Aside0.mk (bb BK363.out hb)
            have n2_ := Aside0.mk (bb BK365.out hb)
            have n3_ := Aside0.mk (bb BK366.out hb)
            have n4_ := Aside0.mk (bb BK367.out hb)
            have n5_ := Aside0.mk (below_step (bl4 HB.out GE363.out GE365.out GE366.out GE367.out) hb)
            have z_HO380 := fun (h0_ : b 9 = true) => (show Kd.R k26 26 w58 w.heap.size (fun k_ => k_ ≠ gb365 ∧ k_ ≠ gb366 ∧ k_ ≠ gb367) v379 y378 from by first | exact (Kd.R_elder' (by (with_reducible repeat (first | apply Kd.R_alloc | apply Kd.R_drewN | apply Kd.R_drew)); exact (Q_HO380 h0_)) (Kd.R_base ho59) hb) | exact Kd.R_mono (Kd.R_elder' (by (with_reducible repeat (first | apply Kd.R_alloc | apply Kd.R_drewN | apply Kd.R_drew)); exact (Q_HO380 h0_)) (Kd.R_base ho59) hb) (fun _ h_ => by first | trivial | exact h_ | exact h_.1))
            clear BK363 BK365 BK366 BK367 HB
            have HO376 := n0_
            have BK363 := n1_
            have BK365 := n2_
            have BK366 := n3_
            have BK367 := n4_
            have HB := n5_
            clear n0_ n1_ n2_ n3_ n4_ n5_ hb ho59
            refine hK.out _ _ ⟨v375, v379, (by rw [ha.out]; exact putSel_upk 2 hb_ rfl rfl rfl), (bk BK363.out), (bk BK365.out), (bk BK366.out), (bk BK367.out), (bl4 HB.out GE363.out GE365.out GE366.out GE367.out), fun _ => (by (with_reducible repeat (first | apply Kd.R_alloc | apply Kd.R_drewN | apply Kd.R_drew)); exact Kd.R_mono HO376.out (fun _ hk => ⟨hk.1.1.2, ⟨hk.1.2, hk.2⟩⟩)), z_HO380⟩
           refine steps_cons ?_ ?_
           ·rintro b a w' ⟨v375, v379, ha, Q_BK363, Q_BK365, Q_BK366, Q_BK367, Q_HB, Q_HO376, Q_HO380⟩ hb_ hon hoff
            refine ⟨_, rfl, fun K hK => ?_⟩
            have e54 : a.tmps[54]? = some (v375) := by rw [ha]; exact putSel_on (e := (2, 54, v375)) 2 rfl rfl (hon 2 (by kernel_rfl)) rfl
            have e55 : a.tmps[55]? = some (.int .i64 a1) := by rw [ha]; exact (putSel_off rfl).trans rfl
            have e56 : a.tmps[56]? = some (.int .i64 a2) := by rw [ha]; exact (putSel_off rfl).trans rfl
            replace ha := Aside0.mk ha
            have BK363 := Aside0.mk Q_BK363
            have BK365 := Aside0.mk Q_BK365
            have BK366 := Aside0.mk Q_BK366
            have BK367 := Aside0.mk Q_BK367
            have HB := Aside0.mk Q_HB
            have HO376 := Aside0.mk (Q_HO376 (hon 2 (by kernel_rfl)))
            obtain ⟨Ao61, co61, eo61⟩ := Kd.R_slice HO376.out
            (first | subst eo61 | (injection eo61 with f1_ f2_ f3_; have f4_ := f1_.symm; have f5_ := f3_.symm; clear f1_ f2_ f3_; subst f4_; subst f5_))
            refine goes_ Try.func43 (by kernel_rfl) rfl #[.slice Ao61 y374.length co61, .int .i64 a1, .int .i64 a2] (by rfl) rfl rfl (by first | (simp only [List.map_toArray, List.map_cons, List.map_nil, Act.eval, Array.getD_eq_getD_getElem?, Option.getD_some, e54, e55, e56]; done) | (simp only [List.map_toArray, List.map_cons, List.map_nil, Act.eval, Array.getD_eq_getD_getElem?, Option.getD_some, e54, e55, e56]; rfl)) ?_
            with_reducible refine (pochoirref19_Asked.calls kj41 _ _ y374 a1 a2 t377 _ ?side1 ?side2 A54.out).mono ?_
            (case side1 => repeat (first | exact (Kd.R_reads' HO376.out).2.2 | (with_reducible refine Kd.C_alloc ?_ _) | (with_reducible refine Kd.C_drewN ?_ _) | (with_reducible refine Kd.C_drew ?_)))
            (case side2 => exact (Kd.R_reads' HO376.out).2.1)
            rintro e w62 ⟨rfl, hb⟩
            refine ⟨_, rfl, ?_⟩
            have n0_ := Aside0.mk (Kd.R_below (by (with_reducible repeat (first | apply Kd.R_alloc | apply Kd.R_drewN | apply Kd.R_drew)); exact HO376.out) hb)
            have n1_ := Aside0.mk (bb BK363.out hb)
            have n2_ := Aside0.mk (bb BK365.out hb)
            have n3_ := Aside0.mk (bb BK366.out hb)
            have n4_ := Aside0.mk (bb BK367.out hb)
            have n5_ := Aside0.mk (below_step (bl4 HB.out GE363.out GE365.out GE366.out GE367.out) hb)
            have z_HO380 := fun (h0_ : b 9 = true) => (show Kd.R k26 26 w62 w.heap.size (fun k_ => k_ ≠ gb365 ∧ k_ ≠ gb366 ∧ k_ ≠ gb367) v379 y378 from by first | exact (Kd.R_below (by (with_reducible repeat (first | apply Kd.R_alloc | apply Kd.R_drewN | apply Kd.R_drew)); exact (Q_HO380 h0_)) hb) | exact Kd.R_mono (Kd.R_below (by (with_reducible repeat (first | apply Kd.R_alloc | apply Kd.R_drewN | apply Kd.R_drew)); exact (Q_HO380 h0_)) hb) (fun _ h_ => by first | trivial | exact h_ | exact h_.1))
            clear HO376 BK363 BK365 BK366 BK367 HB
            have HO376 := n0_
            have BK363 := n1_
            have BK365 := n2_
            have BK366 := n3_
            have BK367 := n4_
            have HB := n5_
            clear n0_ n1_ n2_ n3_ n4_ n5_
            (try clear hb)
            (try clear hb2)
            (try clear hk)
            (try clear hi)
            refine hK.out _ _ ⟨.slice Ao61 y374.length co61, v379, (by rw [ha.out]; exact putSel_upk 3 hb_ rfl rfl rfl), (bk BK363.out), (bk BK365.out), (bk BK366.out), (bk BK367.out), (bl4 HB.out GE363.out GE365.out GE366.out GE367.out), fun _ => (by (with_reducible repeat (first | apply Kd.R_alloc | apply Kd.R_drewN | apply Kd.R_drew)); exact HO376.out), z_HO380⟩
           refine steps_cons ?_ ?_
           ·rintro b a w' ⟨v375, v379, ha, Q_BK363, Q_BK365, Q_BK366, Q_BK367, Q_HB, Q_HO376, Q_HO380⟩ hb_ hon hoff
            refine ⟨_, rfl, fun K hK => ?_⟩
            have e7 : a.tmps[7]? = some (.pointer (some ⟨gb365, 0, none⟩)) := by rw [ha]; exact (putSel_off rfl).trans rfl
            replace ha := Aside0.mk ha
            have BK363 := Aside0.mk Q_BK363
            have BK365 := Aside0.mk Q_BK365
            have BK366 := Aside0.mk Q_BK366
            have BK367 := Aside0.mk Q_BK367
            have HB := Aside0.mk Q_HB
            have hc0_ : w'.cell? ⟨gb365, 0, none⟩ = some (.int .i64 a0_0) := (blk_cell BK365.out 0).trans rfl
            have hc1_ : w'.cell? ⟨gb365, 1, none⟩ = some (.int .i64 a0_1) := (blk_cell BK365.out 1).trans rfl
            refine value_ (w1 := w') (v := .agg #[.int .i64 a0_0, .int .i64 a0_1]) (by rfl) rfl ?_ ?_
            ·go_simp
             (try simp only [i64_w])
             try rfl
            refine hK.out _ _ ⟨v375, v379, (by rw [ha.out]; exact putSel_upk 4 hb_ rfl rfl rfl), Q_BK363, Q_BK365, Q_BK366, Q_BK367, Q_HB, Q_HO376, fun h0_ => absurd ((hoff 9 (by kernel_rfl)).symm.trans h0_) (by decide)⟩
           refine steps_cons ?_ ?_
           ·rintro b a w' ⟨v375, v379, ha, Q_BK363, Q_BK365, Q_BK366, Q_BK367, Q_HB, Q_HO376, Q_HO380⟩ hb_ hon hoff
            refine ⟨_, rfl, fun K hK => ?_⟩
            have e8 : a.tmps[8]? = some (.pointer (some ⟨gb366, 0, none⟩)) := by rw [ha]; exact (putSel_off rfl).trans rfl
            replace ha := Aside0.mk ha
            have BK363 := Aside0.mk Q_BK363
            have BK365 := Aside0.mk Q_BK365
            have BK366 := Aside0.mk Q_BK366
            have BK367 := Aside0.mk Q_BK367
            have HB := Aside0.mk Q_HB
            have hc0_ : w'.cell? ⟨gb366, 0, none⟩ = some (.int .i64 a0_2) := (blk_cell BK366.out 0).trans rfl
            have hc1_ : w'.cell? ⟨gb366, 1, none⟩ = some (.int .i64 a0_3) := (blk_cell BK366.out 1).trans rfl
            refine value_ (w1 := w') (v := .agg #[.int .i64 a0_2, .int .i64 a0_3]) (by rfl) rfl ?_ ?_
            ·go_simp
             (try simp only [i64_w])
             try rfl
            refine hK.out _ _ ⟨v375, v379, (by rw [ha.out]; exact putSel_upk 5 hb_ rfl rfl rfl), Q_BK363, Q_BK365, Q_BK366, Q_BK367, Q_HB, Q_HO376, fun h0_ => absurd ((hoff 9 (by kernel_rfl)).symm.trans h0_) (by decide)⟩
           refine steps_cons ?_ ?_
           ·rintro b a w' ⟨v375, v379, ha, Q_BK363, Q_BK365, Q_BK366, Q_BK367, Q_HB, Q_HO376, Q_HO380⟩ hb_ hon hoff
            refine ⟨_, rfl, fun K hK => ?_⟩
            have e9 : a.tmps[9]? = some (.pointer (some ⟨gb367, 0, none⟩)) := by rw [ha]; exact (putSel_off rfl).trans rfl
            replace ha := Aside0.mk ha
            have BK363 := Aside0.mk Q_BK363
            have BK365 := Aside0.mk Q_BK365
            have BK366 := Aside0.mk Q_BK366
            have BK367 := Aside0.mk Q_BK367
            have HB := Aside0.mk Q_HB
            have hc0_ : w'.cell? ⟨gb367, 0, none⟩ = some (.int .i64 a0_4) := (blk_cell BK367.out 0).trans rfl
            have hc1_ : w'.cell? ⟨gb367, 1, none⟩ = some (.int .i64 a0_5) := (blk_cell BK367.out 1).trans rfl
            refine value_ (w1 := w') (v := .agg #[.int .i64 a0_4, .int .i64 a0_5]) (by rfl) rfl ?_ ?_
            ·go_simp
             (try simp only [i64_w])
             try rfl
            refine hK.out _ _ ⟨v375, v379, (by rw [ha.out]; exact putSel_upk 6 hb_ rfl rfl rfl), Q_BK363, Q_BK365, Q_BK366, Q_BK367, Q_HB, Q_HO376, fun h0_ => absurd ((hoff 9 (by kernel_rfl)).symm.trans h0_) (by decide)⟩
           refine steps_cons ?_ ?_
           ·rintro b a w' ⟨v375, v379, ha, Q_BK363, Q_BK365, Q_BK366, Q_BK367, Q_HB, Q_HO376, Q_HO380⟩ hb_ hon hoff
            refine ⟨_, rfl, fun K hK => ?_⟩
            have e58 : a.tmps[58]? = some (.agg #[.int .i64 a0_0, .int .i64 a0_1]) := by rw [ha]; exact putSel_on (e := (6, 58, .agg #[.int .i64 a0_0, .int .i64 a0_1])) 4 rfl rfl (hon 6 (by kernel_rfl)) rfl
            have e59 : a.tmps[59]? = some (.agg #[.int .i64 a0_2, .int .i64 a0_3]) := by rw [ha]; exact putSel_on (e := (7, 59, .agg #[.int .i64 a0_2, .int .i64 a0_3])) 5 rfl rfl (hon 7 (by kernel_rfl)) rfl
            have e60 : a.tmps[60]? = some (.agg #[.int .i64 a0_4, .int .i64 a0_5]) := by rw [ha]; exact putSel_on (e := (8, 60, .agg #[.int .i64 a0_4, .int .i64 a0_5])) 6 rfl rfl (hon 8 (by kernel_rfl)) rfl
            replace ha := Aside0.mk ha
            have BK363 := Aside0.mk Q_BK363
            have BK365 := Aside0.mk Q_BK365
            have BK366 := Aside0.mk Q_BK366
            have BK367 := Aside0.mk Q_BK367
            have HB := Aside0.mk Q_HB
            refine Kd.R_lit_step k26 _ 26 ?hg (N := 61) ?hd (xs := ([(⟨a0_0, a0_1⟩ : S26), (⟨a0_2, a0_3⟩ : S26), (⟨a0_4, a0_5⟩ : S26)] : List (S26))) (inner := [.int .i64 a0_0, .int .i64 a0_1, .int .i64 a0_2, .int .i64 a0_3, .int .i64 a0_4, .int .i64 a0_5]) (ok := fun _ => True) (okp := fun _ => True) ?hr ?hp (fun _ hk => hk) trivial (Below.refl _ _) (Nat.le_refl _) (by simp) ?_; (case hd => rfl); (case hg => rfl); (case hr => first | (go_simp; done) | (go_simp; rfl)); (case hp => exact (Reps.c2 (show Kd.M k26 _ _ _ (⟨a0_0, a0_1⟩ : S26) [.int .i64 a0_0, .int .i64 a0_1] from (k26_mkM _ _ _ (⟨a0_0, a0_1⟩ : S26) )) (Reps.c2 (show Kd.M k26 _ _ _ (⟨a0_2, a0_3⟩ : S26) [.int .i64 a0_2, .int .i64 a0_3] from (k26_mkM _ _ _ (⟨a0_2, a0_3⟩ : S26) )) (Reps.c2 (show Kd.M k26 _ _ _ (⟨a0_4, a0_5⟩ : S26) [.int .i64 a0_4, .int .i64 a0_5] from (k26_mkM _ _ _ (⟨a0_4, a0_5⟩ : S26) )) (Reps.none _ _)))))
            intro v379 w58 ho59 hb hg_ hnew_
            clear hg_ hnew_
            (first | rw [← Ny378.out] at ho59 | (simp only [Int.reduceToNat] at ho59; rw [← Ny378.out] at ho59))
            have n0_ := Aside0.mk (Kd.R_lower (Kd.R_newB (Kd.R_newB (Kd.R_newB ho59 (g := gb365) (o := .cells #[.int .i64 a0_0, .int .i64 a0_1] 26 (0, 0)) (bk BK365.out)) (g := gb366) (o := .cells #[.int .i64 a0_2, .int .i64 a0_3] 26 (0, 0)) (bk BK366.out)) (g := gb367) (o := .cells #[.int .i64 a0_4, .int .i64 a0_5] 26 (0, 0)) (bk BK367.out)) (below_size (bl4 HB.out GE363.out GE365.out GE366.out GE367.out)))
            have n1_ := Aside0.mk (bb BK363.out hb)
            have n2_ := Aside0.mk (bb BK365.out hb)
            have n3_ := Aside0.mk (bb BK366.out hb)
            have n4_ := Aside0.mk (bb BK367.out hb)
            have n5_ := Aside0.mk (below_step (bl4 HB.out GE363.out GE365.out GE366.out GE367.out) hb)
            have z_HO376 := fun (h0_ : b 2 = true) => (show Kd.R k26 26 w58 w.heap.size (fun k_ => k_ ≠ gb365 ∧ k_ ≠ gb366 ∧ k_ ≠ gb367) v375 y374 from by first | exact (Kd.R_elder' (by (with_reducible repeat (first | apply Kd.R_alloc | apply Kd.R_drewN | apply Kd.R_drew)); exact (Q_HO376 h0_)) (Kd.R_base ho59) hb) | exact Kd.R_mono (Kd.R_elder' (by (with_reducible repeat (first | apply Kd.R_alloc | apply Kd.R_drewN | apply Kd.R_drew)); exact (Q_HO376 h0_)) (Kd.R_base ho59) hb) (fun _ h_ => by first | trivial | exact h_ | exact h_.1))
            clear BK363 BK365 BK366 BK367 HB
            have HO380 := n0_
            have BK363 := n1_
            have BK365 := n2_
            have BK366 := n3_
            have BK367 := n4_
            have HB := n5_
            clear n0_ n1_ n2_ n3_ n4_ n5_ hb ho59
            refine hK.out _ _ ⟨v375, v379, (by rw [ha.out]; exact putSel_upk 7 hb_ rfl rfl rfl), (bk BK363.out), (bk BK365.out), (bk BK366.out), (bk BK367.out), (bl4 HB.out GE363.out GE365.out GE366.out GE367.out), z_HO376, fun _ => (by (with_reducible repeat (first | apply Kd.R_alloc | apply Kd.R_drewN | apply Kd.R_drew)); exact Kd.R_mono HO380.out (fun _ hk => ⟨hk.1.1.2, ⟨hk.1.2, hk.2⟩⟩))⟩
           refine steps_cons ?_ ?_
           ·rintro b a w' ⟨v375, v379, ha, Q_BK363, Q_BK365, Q_BK366, Q_BK367, Q_HB, Q_HO376, Q_HO380⟩ hb_ hon hoff
            refine ⟨_, rfl, fun K hK => ?_⟩
            have e61 : a.tmps[61]? = some (v379) := by rw [ha]; exact putSel_on (e := (9, 61, v379)) 7 rfl rfl (hon 9 (by kernel_rfl)) rfl
            have e62 : a.tmps[62]? = some (.int .i64 a1) := by rw [ha]; exact (putSel_off rfl).trans rfl
            have e63 : a.tmps[63]? = some (.int .i64 a2) := by rw [ha]; exact (putSel_off rfl).trans rfl
            replace ha := Aside0.mk ha
            have BK363 := Aside0.mk Q_BK363
            have BK365 := Aside0.mk Q_BK365
            have BK366 := Aside0.mk Q_BK366
            have BK367 := Aside0.mk Q_BK367
            have HB := Aside0.mk Q_HB
            have HO376 := Aside0.mk (Q_HO376 (hon 2 (by kernel_rfl)))
            have HO380 := Aside0.mk (Q_HO380 (hon 9 (by kernel_rfl)))
            obtain ⟨Ao65, co65, eo65⟩ := Kd.R_slice HO380.out
            (first | subst eo65 | (injection eo65 with f1_ f2_ f3_; have f4_ := f1_.symm; have f5_ := f3_.symm; clear f1_ f2_ f3_; subst f4_; subst f5_))
            refine goes_ Try.func43 (by kernel_rfl) rfl #[.slice Ao65 y378.length co65, .int .i64 a1, .int .i64 a2] (by rfl) rfl rfl (by first | (simp only [List.map_toArray, List.map_cons, List.map_nil, Act.eval, Array.getD_eq_getD_getElem?, Option.getD_some, e61, e62, e63]; done) | (simp only [List.map_toArray, List.map_cons, List.map_nil, Act.eval, Array.getD_eq_getD_getElem?, Option.getD_some, e61, e62, e63]; rfl)) ?_
            with_reducible refine (pochoirref19_Asked.calls kj41 _ _ y378 a1 a2 t381 _ ?side1 ?side2 A55.out).mono ?_
            (case side1 => repeat (first | exact (Kd.R_reads' HO380.out).2.2 | (with_reducible refine Kd.C_alloc ?_ _) | (with_reducible refine Kd.C_drewN ?_ _) | (with_reducible refine Kd.C_drew ?_)))
            (case side2 => exact (Kd.R_reads' HO380.out).2.1)
            rintro e w66 ⟨rfl, hb⟩
            refine ⟨_, rfl, ?_⟩
            replace HO376 := Aside0.mk (Kd.R_below (by (with_reducible repeat (first | apply Kd.R_alloc | apply Kd.R_drewN | apply Kd.R_drew)); exact HO376.out) hb)
            replace HO380 := Aside0.mk (Kd.R_below (by (with_reducible repeat (first | apply Kd.R_alloc | apply Kd.R_drewN | apply Kd.R_drew)); exact HO380.out) hb)
            replace BK363 := Aside0.mk (bb BK363.out hb)
            replace BK365 := Aside0.mk (bb BK365.out hb)
            replace BK366 := Aside0.mk (bb BK366.out hb)
            replace BK367 := Aside0.mk (bb BK367.out hb)
            replace HB := Aside0.mk (below_step (bl4 HB.out GE363.out GE365.out GE366.out GE367.out) hb)
            (try clear hb)
            (try clear hb2)
            (try clear hk)
            (try clear hi)
            refine hK.out _ _ ⟨v375, .slice Ao65 y378.length co65, (by rw [ha.out]; exact putSel_upk 8 hb_ rfl rfl rfl), (bk BK363.out), (bk BK365.out), (bk BK366.out), (bk BK367.out), (bl4 HB.out GE363.out GE365.out GE366.out GE367.out), fun _ => (by (with_reducible repeat (first | apply Kd.R_alloc | apply Kd.R_drewN | apply Kd.R_drew)); exact HO376.out), fun _ => (by (with_reducible repeat (first | apply Kd.R_alloc | apply Kd.R_drewN | apply Kd.R_drew)); exact HO380.out)⟩
           refine steps_cons ?_ ?_
           ·rintro b a w' ⟨v375, v379, ha, Q_BK363, Q_BK365, Q_BK366, Q_BK367, Q_HB, Q_HO376, Q_HO380⟩ hb_ hon hoff
            refine ⟨_, rfl, fun K hK => ?_⟩
            have e57 : a.tmps[57]? = some (.int .i64 t377) := by rw [ha]; exact putSel_on (e := (5, 57, .int .i64 t377)) 3 rfl rfl (hon 5 (by kernel_rfl)) rfl
            replace ha := Aside0.mk ha
            have BK363 := Aside0.mk Q_BK363
            have BK365 := Aside0.mk Q_BK365
            have BK366 := Aside0.mk Q_BK366
            have BK367 := Aside0.mk Q_BK367
            have HB := Aside0.mk Q_HB
            have HO376 := Aside0.mk (Q_HO376 (hon 2 (by kernel_rfl)))
            have HO380 := Aside0.mk (Q_HO380 (hon 9 (by kernel_rfl)))
            refine value_ (w1 := w') (v := .int .i64 t377) (by rfl) rfl ?_ ?_
            ·go_simp
             (try simp only [i64_w])
             try rfl
            refine hK.out _ _ ⟨v375, v379, (by rw [ha.out]; exact putSel_upk 9 hb_ rfl rfl rfl), Q_BK363, Q_BK365, Q_BK366, Q_BK367, Q_HB, Q_HO376, Q_HO380⟩
           refine steps_cons ?_ ?_
           ·rintro b a w' ⟨v375, v379, ha, Q_BK363, Q_BK365, Q_BK366, Q_BK367, Q_HB, Q_HO376, Q_HO380⟩ hb_ hon hoff
            refine ⟨_, rfl, fun K hK => ?_⟩
            have e64 : a.tmps[64]? = some (.int .i64 t381) := by rw [ha]; exact putSel_on (e := (12, 64, .int .i64 t381)) 8 rfl rfl (hon 12 (by kernel_rfl)) rfl
            replace ha := Aside0.mk ha
            have BK363 := Aside0.mk Q_BK363
            have BK365 := Aside0.mk Q_BK365
            have BK366 := Aside0.mk Q_BK366
            have BK367 := Aside0.mk Q_BK367
            have HB := Aside0.mk Q_HB
            have HO376 := Aside0.mk (Q_HO376 (hon 2 (by kernel_rfl)))
            have HO380 := Aside0.mk (Q_HO380 (hon 9 (by kernel_rfl)))
            refine value_ (w1 := w') (v := .int .i64 t381) (by rfl) rfl ?_ ?_
            ·go_simp
             (try simp only [i64_w])
             try rfl
            refine hK.out _ _ ⟨v375, v379, (by rw [ha.out]; exact putSel_upk 10 hb_ rfl rfl rfl), Q_BK363, Q_BK365, Q_BK366, Q_BK367, Q_HB, Q_HO376, Q_HO380⟩
           exact steps_nil
          rintro b a w66 hall ⟨v375, v379, ha, Q_BK363, Q_BK365, Q_BK366, Q_BK367, Q_HB, Q_HO376, Q_HO380⟩
          clear BK363 BK365 BK366 BK367 HB
          have hb0_ := hall 0 (by kernel_rfl)
          have hb1_ := hall 1 (by kernel_rfl)
          have hb2_ := hall 2 (by kernel_rfl)
          have hb5_ := hall 5 (by kernel_rfl)
          have hb6_ := hall 6 (by kernel_rfl)
          have hb7_ := hall 7 (by kernel_rfl)
          have hb8_ := hall 8 (by kernel_rfl)
          have hb9_ := hall 9 (by kernel_rfl)
          have hb12_ := hall 12 (by kernel_rfl)
          have hb13_ := hall 13 (by kernel_rfl)
          have hb14_ := hall 14 (by kernel_rfl)
          subst ha
          simp only [putSel, hb0_, hb1_, hb2_, hb5_, hb6_, hb7_, hb8_, hb9_, hb12_, hb13_, hb14_, if_true, Act.put, List.setIfInBounds_toArray, List.set_cons_zero, List.set_cons_succ]
          have BK363 := Aside0.mk Q_BK363
          clear Q_BK363
          have BK365 := Aside0.mk Q_BK365
          clear Q_BK365
          have BK366 := Aside0.mk Q_BK366
          clear Q_BK366
          have BK367 := Aside0.mk Q_BK367
          clear Q_BK367
          have HB := Aside0.mk Q_HB
          clear Q_HB
          have HO376 := Aside0.mk (Q_HO376 hb2_)
          clear Q_HO376
          have HO380 := Aside0.mk (Q_HO380 hb9_)
          clear Q_HO380 hall hb0_ hb1_ hb2_ hb5_ hb6_ hb7_ hb8_ hb9_ hb12_ hb13_ hb14_
          go_upto_region 8 with (fail)
          go_cut [77] (fun v77 wc => ∃ (kq : Nat) (x77_55 : Bool), v77 = .bool x77_55 ∧ Aside0 (pochoirlaw19_LineLevels.j4 kq a1 a2 x10_8 x12_29 x14_41 t377 t381 x77_55 a0_0 a0_1 a0_2 a0_3 a0_4 a0_5 = some r) ∧ Aside0 (kq ≤ kj41) ∧ Aside0 (wc.heap[gb363]? = some (.cells #[.int .i64 a0_0, .int .i64 a0_1, .int .i64 a0_2, .int .i64 a0_3, .int .i64 a0_4, .int .i64 a0_5] 27 (0, 0))) ∧ Aside0 (wc.heap[gb365]? = some (.cells #[.int .i64 a0_0, .int .i64 a0_1] 26 (0, 0))) ∧ Aside0 (wc.heap[gb366]? = some (.cells #[.int .i64 a0_2, .int .i64 a0_3] 26 (0, 0))) ∧ Aside0 (wc.heap[gb367]? = some (.cells #[.int .i64 a0_4, .int .i64 a0_5] 26 (0, 0))) ∧ Aside0 (Below w.heap.size w wc))
          case first =>
           have H := HC56.out
           clear HC56
           by_cases c67 : x11_8 = t377
           ·rw [if_pos c67] at H
            have c67b0 : (x11_8 == t377) = true := beq_iff_eq.mpr c67
            have c67b1 : (x11_8 != t377) = false := bne_eq_false_iff_eq.mpr c67
            clear c67
            (first | rw [c67b0] | (simp only [i64_w, i32_w]; rw [c67b0]) | rw [c67b1] | skip)
            by_cases c68 : x13_29 = t381
            ·rw [if_pos c68] at H
             have c68b0 : (x13_29 == t381) = true := beq_iff_eq.mpr c68
             have c68b1 : (x13_29 != t381) = false := bne_eq_false_iff_eq.mpr c68
             clear c68
             have H' := Aside0.mk H
             clear H
             go_wp2
             go_meet
             case rel => exact ⟨_, ((x15_41 != t381)), fr, H', ⟨by have := HJ3.out; have := HJ8.out; have := HJ29.out; have := HJ41.out; first | omega | exact Nat.le_refl _⟩, ⟨bk BK363.out⟩, ⟨bk BK365.out⟩, ⟨bk BK366.out⟩, ⟨bk BK367.out⟩, ⟨bl4 HB.out GE363.out GE365.out GE366.out GE367.out⟩⟩
            ·rw [if_neg c68] at H
             have c68b0 : (x13_29 == t381) = false := beq_eq_false_iff_ne.mpr c68
             have c68b1 : (x13_29 != t381) = true := bne_iff_ne.mpr c68
             exact absurd (HQ.out ▸ H) (by cases kj41 <;> (rw [pochoirlaw19_LineLevels.j4]; simp))
           ·rw [if_neg c67] at H
            have c67b0 : (x11_8 == t377) = false := beq_eq_false_iff_ne.mpr c67
            have c67b1 : (x11_8 != t377) = true := bne_iff_ne.mpr c67
            (first | rw [c67b0] | (simp only [i64_w, i32_w]; rw [c67b0]) | rw [c67b1] | skip)
            exact absurd (HQ.out ▸ H) (by cases kj41 <;> (rw [pochoirlaw19_LineLevels.j4]; simp))
          case rest =>
           clear HC56
           try clear c1
           try clear c2
           try clear p2
           try clear c3
           try clear c4
           try clear c5
           try clear c6
           try clear c22
           try clear c23
           try clear c24
           try clear c26
           try clear c27
           try clear c32
           try clear c33
           try clear c34
           try clear c36
           try clear c37
           try clear c39
           try clear c40
           try clear c41
           try clear c42
           try clear c43
           try clear c44
           try clear c45
           try clear c46
           try clear c48
           try clear c49
           try clear c51
           try clear c67
           try clear c67b0
           try clear c67b1
           try clear c68
           try clear c68b0
           try clear c68b1
           try clear hcz25_0
           try clear hcz25_1
           try clear hcz28_0
           try clear hcz28_1
           try clear hcz35_0
           try clear hcz35_1
           try clear hcz38_0
           try clear hcz38_1
           try clear hcz40_0
           try clear hcz40_1
           try clear hcz47_0
           try clear hcz47_1
           try clear hcz50_0
           try clear hcz50_1
           try clear hcz52_0
           try clear hcz52_1
           try clear hfz25_0
           try clear hfz25_1
           try clear hfz28_0
           try clear hfz28_1
           try clear hfz35_0
           try clear hfz35_1
           try clear hfz38_0
           try clear hfz38_1
           try clear hfz40_0
           try clear hfz40_1
           try clear hfz47_0
           try clear hfz47_1
           try clear hfz50_0
           try clear hfz50_1
           try clear hfz52_0
           try clear hfz52_1
           try clear p2
           obtain ⟨kq, x77_55, rfl, HA, HJ55, BK363, BK365, BK366, BK367, HB⟩ := hcut
           cases kq with
           | zero => exact absurd HA.out (by simp [pochoirlaw19_LineLevels.j4])
           | succ kj55 =>
            have H := HA.out
            clear HA
            simp only [pochoirlaw19_LineLevels.j4] at H
            by_cases c69 : x77_55 = true
            ·subst c69
             have H1 : (some false) = some r := by rw [if_pos rfl] at H; exact H
             clear H
             have H := H1
             clear H1
             exact absurd (HQ.out ▸ H) (by simp)
            ·replace c69 := Bool.eq_false_iff.mpr c69
             subst c69
             have H1 : (if t377 = 0 then (if t381 = 0 then ((pochoirref19_Near.f kj55 a0_0 a0_1 a0_2 a0_3 a1 a2).bind fun t382 => (pochoirlaw19_LineLevels.j5 kj55 a1 a2 x12_29 x14_41 t381 (x10_8 != t382) a0_0 a0_1 a0_2 a0_3 a0_4 a0_5)) else (if x12_29 = 0 then (if x14_41 = 0 then ((pochoirref19_Near.f kj55 a0_0 a0_1 a0_2 a0_3 a1 a2).bind fun t383 => (pochoirlaw19_LineLevels.j5 kj55 a1 a2 x12_29 x14_41 t381 (x10_8 != t383) a0_0 a0_1 a0_2 a0_3 a0_4 a0_5)) else (pochoirlaw19_LineLevels.j5 kj55 a1 a2 x12_29 x14_41 t381 true a0_0 a0_1 a0_2 a0_3 a0_4 a0_5)) else (pochoirlaw19_LineLevels.j5 kj55 a1 a2 x12_29 x14_41 t381 true a0_0 a0_1 a0_2 a0_3 a0_4 a0_5))) else (if x10_8 = 0 then (if t381 = 0 then (pochoirlaw19_LineLevels.j5 kj55 a1 a2 x12_29 x14_41 t381 false a0_0 a0_1 a0_2 a0_3 a0_4 a0_5) else (if x12_29 = 0 then (if x14_41 = 0 then (pochoirlaw19_LineLevels.j5 kj55 a1 a2 x12_29 x14_41 t381 false a0_0 a0_1 a0_2 a0_3 a0_4 a0_5) else (pochoirlaw19_LineLevels.j5 kj55 a1 a2 x12_29 x14_41 t381 true a0_0 a0_1 a0_2 a0_3 a0_4 a0_5)) else (pochoirlaw19_LineLevels.j5 kj55 a1 a2 x12_29 x14_41 t381 true a0_0 a0_1 a0_2 a0_3 a0_4 a0_5))) else (pochoirlaw19_LineLevels.j5 kj55 a1 a2 x12_29 x14_41 t381 true a0_0 a0_1 a0_2 a0_3 a0_4 a0_5))) = some r := by rw [if_neg (show ¬ (false = true) by decide)] at H; exact H
             clear H
             have H := H1
             clear H1
             have HC70 := Aside0.mk H
             clear H
             go_upto_region 10 with (fail)
             go_cut [108] (fun v108 wc => ∃ (kq : Nat) (x108_69 : Bool), v108 = .bool x108_69 ∧ Aside0 (pochoirlaw19_LineLevels.j5 kq a1 a2 x12_29 x14_41 t381 x108_69 a0_0 a0_1 a0_2 a0_3 a0_4 a0_5 = some r) ∧ Aside0 (kq ≤ kj55) ∧ Aside0 (wc.heap[gb363]? = some (.cells #[.int .i64 a0_0, .int .i64 a0_1, .int .i64 a0_2, .int .i64 a0_3, .int .i64 a0_4, .int .i64 a0_5] 27 (0, 0))) ∧ Aside0 (wc.heap[gb365]? = some (.cells #[.int .i64 a0_0, .int .i64 a0_1] 26 (0, 0))) ∧ Aside0 (wc.heap[gb366]? = some (.cells #[.int .i64 a0_2, .int .i64 a0_3] 26 (0, 0))) ∧ Aside0 (wc.heap[gb367]? = some (.cells #[.int .i64 a0_4, .int .i64 a0_5] 26 (0, 0))) ∧ Aside0 (Below w.heap.size w wc))
             case first =>
              have H := HC70.out
              clear HC70
              by_cases c71 : t377 = 0
              ·rw [if_pos c71] at H
               have c71b0 : (t377 == 0) = true := beq_iff_eq.mpr c71
               have c71b1 : (t377 != 0) = false := bne_eq_false_iff_eq.mpr c71
               clear c71
               (first | rw [c71b0] | (simp only [i64_w, i32_w]; rw [c71b0]) | rw [c71b1] | skip)
               by_cases c72 : t381 = 0
               ·rw [if_pos c72] at H
                have c72b0 : (t381 == 0) = true := beq_iff_eq.mpr c72
                have c72b1 : (t381 != 0) = false := bne_eq_false_iff_eq.mpr c72
                clear c72
                replace H := Option.bind_eq_some_iff.mp H
                obtain ⟨t382, A730, H⟩ := H
                replace H : (pochoirlaw19_LineLevels.j5 kj55 a1 a2 x12_29 x14_41 t381 (x10_8 != t382) a0_0 a0_1 a0_2 a0_3 a0_4 a0_5) = some r := H
                have A73 := Aside0.mk A730
                clear A730
                have H' := Aside0.mk H
                clear H
                have hnb74 := NB365_363.out
                have hnc74 := NB363_365.out
                have hnb75 := NB365_366.out
                have hnc75 := NB366_365.out
                have hnb76 := NB365_367.out
                have hnc76 := NB367_365.out
                have hcz77_0 : wc.cell? ⟨gb365, 0, none⟩ = some (.int .i64 a0_0) := (blk_cell BK365.out 0).trans rfl
                have hcz77_1 : wc.cell? ⟨gb365, 1, none⟩ = some (.int .i64 a0_1) := (blk_cell BK365.out 1).trans rfl
                have hfz77_0 := blk_frozen BK365.out 0
                have hfz77_1 := blk_frozen BK365.out 1
                have hnb78 := NB366_363.out
                have hnc78 := NB363_366.out
                have hnb79 := NB366_367.out
                have hnc79 := NB367_366.out
                have hcz80_0 : wc.cell? ⟨gb366, 0, none⟩ = some (.int .i64 a0_2) := (blk_cell BK366.out 0).trans rfl
                have hcz80_1 : wc.cell? ⟨gb366, 1, none⟩ = some (.int .i64 a0_3) := (blk_cell BK366.out 1).trans rfl
                have hfz80_0 := blk_frozen BK366.out 0
                have hfz80_1 := blk_frozen BK366.out 1
                go_wp2_with (first | (go_at_call 44; (with_reducible refine (pochoirref19_Near.calls kj55 a0_0 a0_1 a0_2 a0_3 a1 a2 t382 _ A73.out).mono ?_); rintro e w81 ⟨rfl, hb⟩; replace BK363 := Aside0.mk (bb BK363.out hb); replace BK365 := Aside0.mk (bb BK365.out hb); replace BK366 := Aside0.mk (bb BK366.out hb); replace BK367 := Aside0.mk (bb BK367.out hb); replace HB := Aside0.mk (below_step (bl4 HB.out GE363.out GE365.out GE366.out GE367.out) hb); (try clear hb); (try clear hb2); (try clear hk); (try clear hi)))
                go_meet
                case rel => exact ⟨_, ((x10_8 != t382)), fr, H', ⟨by have := HJ3.out; have := HJ8.out; have := HJ29.out; have := HJ41.out; have := HJ55.out; first | omega | exact Nat.le_refl _⟩, ⟨bk BK363.out⟩, ⟨bk BK365.out⟩, ⟨bk BK366.out⟩, ⟨bk BK367.out⟩, ⟨bl4 HB.out GE363.out GE365.out GE366.out GE367.out⟩⟩
               ·rw [if_neg c72] at H
                have c72b0 : (t381 == 0) = false := beq_eq_false_iff_ne.mpr c72
                have c72b1 : (t381 != 0) = true := bne_iff_ne.mpr c72
                by_cases c82 : x12_29 = 0
                ·rw [if_pos c82] at H
                 have c82b0 : (x12_29 == 0) = true := beq_iff_eq.mpr c82
                 have c82b1 : (x12_29 != 0) = false := bne_eq_false_iff_eq.mpr c82
                 clear c82
                 by_cases c83 : x14_41 = 0
                 ·rw [if_pos c83] at H
                  have c83b0 : (x14_41 == 0) = true := beq_iff_eq.mpr c83
                  have c83b1 : (x14_41 != 0) = false := bne_eq_false_iff_eq.mpr c83
                  clear c83
                  replace H := Option.bind_eq_some_iff.mp H
                  obtain ⟨t383, A840, H⟩ := H
                  replace H : (pochoirlaw19_LineLevels.j5 kj55 a1 a2 x12_29 x14_41 t381 (x10_8 != t383) a0_0 a0_1 a0_2 a0_3 a0_4 a0_5) = some r := H
                  have A84 := Aside0.mk A840
                  clear A840
                  have H' := Aside0.mk H
                  clear H
                  have hnb85 := NB365_363.out
                  have hnc85 := NB363_365.out
                  have hnb86 := NB365_366.out
                  have hnc86 := NB366_365.out
                  have hnb87 := NB365_367.out
                  have hnc87 := NB367_365.out
                  have hcz88_0 : wc.cell? ⟨gb365, 0, none⟩ = some (.int .i64 a0_0) := (blk_cell BK365.out 0).trans rfl
                  have hcz88_1 : wc.cell? ⟨gb365, 1, none⟩ = some (.int .i64 a0_1) := (blk_cell BK365.out 1).trans rfl
                  have hfz88_0 := blk_frozen BK365.out 0
                  have hfz88_1 := blk_frozen BK365.out 1
                  have hnb89 := NB366_363.out
                  have hnc89 := NB363_366.out
                  have hnb90 := NB366_367.out
                  have hnc90 := NB367_366.out
                  have hcz91_0 : wc.cell? ⟨gb366, 0, none⟩ = some (.int .i64 a0_2) := (blk_cell BK366.out 0).trans rfl
                  have hcz91_1 : wc.cell? ⟨gb366, 1, none⟩ = some (.int .i64 a0_3) := (blk_cell BK366.out 1).trans rfl
                  have hfz91_0 := blk_frozen BK366.out 0
                  have hfz91_1 := blk_frozen BK366.out 1
                  go_wp2_with (first | (go_at_call 44; (with_reducible refine (pochoirref19_Near.calls kj55 a0_0 a0_1 a0_2 a0_3 a1 a2 t383 _ A84.out).mono ?_); rintro e w92 ⟨rfl, hb⟩; replace BK363 := Aside0.mk (bb BK363.out hb); replace BK365 := Aside0.mk (bb BK365.out hb); replace BK366 := Aside0.mk (bb BK366.out hb); replace BK367 := Aside0.mk (bb BK367.out hb); replace HB := Aside0.mk (below_step (bl4 HB.out GE363.out GE365.out GE366.out GE367.out) hb); (try clear hb); (try clear hb2); (try clear hk); (try clear hi)))
                  go_meet
                  case rel => exact ⟨_, ((x10_8 != t383)), fr, H', ⟨by have := HJ3.out; have := HJ8.out; have := HJ29.out; have := HJ41.out; have := HJ55.out; first | omega | exact Nat.le_refl _⟩, ⟨bk BK363.out⟩, ⟨bk BK365.out⟩, ⟨bk BK366.out⟩, ⟨bk BK367.out⟩, ⟨bl4 HB.out GE363.out GE365.out GE366.out GE367.out⟩⟩
                 ·rw [if_neg c83] at H
                  have c83b0 : (x14_41 == 0) = false := beq_eq_false_iff_ne.mpr c83
                  have c83b1 : (x14_41 != 0) = true := bne_iff_ne.mpr c83
                  exact absurd (HQ.out ▸ H) (by cases kj55 <;> (rw [pochoirlaw19_LineLevels.j5]; simp))
                ·rw [if_neg c82] at H
                 have c82b0 : (x12_29 == 0) = false := beq_eq_false_iff_ne.mpr c82
                 have c82b1 : (x12_29 != 0) = true := bne_iff_ne.mpr c82
                 exact absurd (HQ.out ▸ H) (by cases kj55 <;> (rw [pochoirlaw19_LineLevels.j5]; simp))
              ·rw [if_neg c71] at H
               have c71b0 : (t377 == 0) = false := beq_eq_false_iff_ne.mpr c71
               have c71b1 : (t377 != 0) = true := bne_iff_ne.mpr c71
               (first | rw [c71b0] | (simp only [i64_w, i32_w]; rw [c71b0]) | rw [c71b1] | skip)
               by_cases c93 : x10_8 = 0
               ·rw [if_pos c93] at H
                have c93b0 : (x10_8 == 0) = true := beq_iff_eq.mpr c93
                have c93b1 : (x10_8 != 0) = false := bne_eq_false_iff_eq.mpr c93
                clear c93
                by_cases c94 : t381 = 0
                ·rw [if_pos c94] at H
                 have c94b0 : (t381 == 0) = true := beq_iff_eq.mpr c94
                 have c94b1 : (t381 != 0) = false := bne_eq_false_iff_eq.mpr c94
                 clear c94
                 have H' := Aside0.mk H
                 clear H
                 go_wp2
                 go_meet
                 case rel => exact ⟨_, (false), fr, H', ⟨by have := HJ3.out; have := HJ8.out; have := HJ29.out; have := HJ41.out; have := HJ55.out; first | omega | exact Nat.le_refl _⟩, ⟨bk BK363.out⟩, ⟨bk BK365.out⟩, ⟨bk BK366.out⟩, ⟨bk BK367.out⟩, ⟨bl4 HB.out GE363.out GE365.out GE366.out GE367.out⟩⟩
                ·rw [if_neg c94] at H
                 have c94b0 : (t381 == 0) = false := beq_eq_false_iff_ne.mpr c94
                 have c94b1 : (t381 != 0) = true := bne_iff_ne.mpr c94
                 by_cases c95 : x12_29 = 0
                 ·rw [if_pos c95] at H
                  have c95b0 : (x12_29 == 0) = true := beq_iff_eq.mpr c95
                  have c95b1 : (x12_29 != 0) = false := bne_eq_false_iff_eq.mpr c95
                  clear c95
                  by_cases c96 : x14_41 = 0
                  ·rw [if_pos c96] at H
                   have c96b0 : (x14_41 == 0) = true := beq_iff_eq.mpr c96
                   have c96b1 : (x14_41 != 0) = false := bne_eq_false_iff_eq.mpr c96
                   clear c96
                   have H' := Aside0.mk H
                   clear H
                   go_wp2
                   go_meet
                   case rel => exact ⟨_, (false), fr, H', ⟨by have := HJ3.out; have := HJ8.out; have := HJ29.out; have := HJ41.out; have := HJ55.out; first | omega | exact Nat.le_refl _⟩, ⟨bk BK363.out⟩, ⟨bk BK365.out⟩, ⟨bk BK366.out⟩, ⟨bk BK367.out⟩, ⟨bl4 HB.out GE363.out GE365.out GE366.out GE367.out⟩⟩
                  ·rw [if_neg c96] at H
                   have c96b0 : (x14_41 == 0) = false := beq_eq_false_iff_ne.mpr c96
                   have c96b1 : (x14_41 != 0) = true := bne_iff_ne.mpr c96
                   exact absurd (HQ.out ▸ H) (by cases kj55 <;> (rw [pochoirlaw19_LineLevels.j5]; simp))
                 ·rw [if_neg c95] at H
                  have c95b0 : (x12_29 == 0) = false := beq_eq_false_iff_ne.mpr c95
                  have c95b1 : (x12_29 != 0) = true := bne_iff_ne.mpr c95
                  exact absurd (HQ.out ▸ H) (by cases kj55 <;> (rw [pochoirlaw19_LineLevels.j5]; simp))
               ·rw [if_neg c93] at H
                have c93b0 : (x10_8 == 0) = false := beq_eq_false_iff_ne.mpr c93
                have c93b1 : (x10_8 != 0) = true := bne_iff_ne.mpr c93
                exact absurd (HQ.out ▸ H) (by cases kj55 <;> (rw [pochoirlaw19_LineLevels.j5]; simp))
             case rest =>
              clear HC70
              try clear c1
              try clear c2
              try clear p2
              try clear c3
              try clear c4
              try clear c5
              try clear c6
              try clear c7
              try clear c8
              try clear c9
              try clear c22
              try clear c23
              try clear c24
              try clear c26
              try clear c27
              try clear c32
              try clear c33
              try clear c34
              try clear c36
              try clear c37
              try clear c39
              try clear c40
              try clear c41
              try clear c42
              try clear c43
              try clear c44
              try clear c45
              try clear c46
              try clear c48
              try clear c49
              try clear c51
              try clear c67
              try clear c67b0
              try clear c67b1
              try clear c68
              try clear c68b0
              try clear c68b1
              try clear c69
              try clear c71
              try clear c71b0
              try clear c71b1
              try clear c72
              try clear c72b0
              try clear c72b1
              try clear c74
              try clear c75
              try clear c76
              try clear c78
              try clear c79
              try clear c82
              try clear c82b0
              try clear c82b1
              try clear c83
              try clear c83b0
              try clear c83b1
              try clear c85
              try clear c86
              try clear c87
              try clear c89
              try clear c90
              try clear c93
              try clear c93b0
              try clear c93b1
              try clear c94
              try clear c94b0
              try clear c94b1
              try clear c95
              try clear c95b0
              try clear c95b1
              try clear c96
              try clear c96b0
              try clear c96b1
              try clear hcz25_0
              try clear hcz25_1
              try clear hcz28_0
              try clear hcz28_1
              try clear hcz35_0
              try clear hcz35_1
              try clear hcz38_0
              try clear hcz38_1
              try clear hcz40_0
              try clear hcz40_1
              try clear hcz47_0
              try clear hcz47_1
              try clear hcz50_0
              try clear hcz50_1
              try clear hcz52_0
              try clear hcz52_1
              try clear hcz77_0
              try clear hcz77_1
              try clear hcz80_0
              try clear hcz80_1
              try clear hcz88_0
              try clear hcz88_1
              try clear hcz91_0
              try clear hcz91_1
              try clear hfz25_0
              try clear hfz25_1
              try clear hfz28_0
              try clear hfz28_1
              try clear hfz35_0
              try clear hfz35_1
              try clear hfz38_0
              try clear hfz38_1
              try clear hfz40_0
              try clear hfz40_1
              try clear hfz47_0
              try clear hfz47_1
              try clear hfz50_0
              try clear hfz50_1
              try clear hfz52_0
              try clear hfz52_1
              try clear hfz77_0
              try clear hfz77_1
              try clear hfz80_0
              try clear hfz80_1
              try clear hfz88_0
              try clear hfz88_1
              try clear hfz91_0
              try clear hfz91_1
              try clear p2
              obtain ⟨kq, x108_69, rfl, HA, HJ69, BK363, BK365, BK366, BK367, HB⟩ := hcut
              cases kq with
              | zero => exact absurd HA.out (by simp [pochoirlaw19_LineLevels.j5])
              | succ kj69 =>
               have H := HA.out
               clear HA
               simp only [pochoirlaw19_LineLevels.j5] at H
               by_cases c97 : x108_69 = true
               ·subst c97
                have H1 : (some false) = some r := by rw [if_pos rfl] at H; exact H
                clear H
                have H := H1
                clear H1
                exact absurd (HQ.out ▸ H) (by simp)
               ·replace c97 := Bool.eq_false_iff.mpr c97
                subst c97
                have H1 : (if t381 = 0 then ((pochoirref19_Segment.f kj69 a0_0 a0_1 a0_2 a0_3 a0_4 a0_5 a1 a2).bind fun t384 => (if x12_29 = t384 then ((pochoirref19_Ray.f kj69 a0_0 a0_1 a0_2 a0_3 a0_4 a0_5 a1 a2).bind fun t385 => (some (x14_41 == t385))) else (some false))) else (some true)) = some r := by rw [if_neg (show ¬ (false = true) by decide)] at H; exact H
                clear H
                have H := H1
                clear H1
                by_cases c98 : t381 = 0
                ·rw [if_pos c98] at H
                 have c98b0 : (t381 == 0) = true := beq_iff_eq.mpr c98
                 have c98b1 : (t381 != 0) = false := bne_eq_false_iff_eq.mpr c98
                 clear c98
                 replace H := Option.bind_eq_some_iff.mp H
                 obtain ⟨t384, A990, H⟩ := H
                 replace H : (if x12_29 = t384 then ((pochoirref19_Ray.f kj69 a0_0 a0_1 a0_2 a0_3 a0_4 a0_5 a1 a2).bind fun t385 => (some (x14_41 == t385))) else (some false)) = some r := H
                 have A99 := Aside0.mk A990
                 clear A990
                 by_cases c100 : x12_29 = t384
                 ·rw [if_pos c100] at H
                  have c100b0 : (x12_29 == t384) = true := beq_iff_eq.mpr c100
                  have c100b1 : (x12_29 != t384) = false := bne_eq_false_iff_eq.mpr c100
                  clear c100
                  replace H := Option.bind_eq_some_iff.mp H
                  obtain ⟨t385, A1010, H⟩ := H
                  replace H : (some (x14_41 == t385)) = some r := H
                  have A101 := Aside0.mk A1010
                  clear A1010
                  obtain rfl := Option.some.inj H
                  have hnb102 := NB365_363.out
                  have hnc102 := NB363_365.out
                  have hnb103 := NB365_366.out
                  have hnc103 := NB366_365.out
                  have hnb104 := NB365_367.out
                  have hnc104 := NB367_365.out
                  have hcz105_0 : wc.cell? ⟨gb365, 0, none⟩ = some (.int .i64 a0_0) := (blk_cell BK365.out 0).trans rfl
                  have hcz105_1 : wc.cell? ⟨gb365, 1, none⟩ = some (.int .i64 a0_1) := (blk_cell BK365.out 1).trans rfl
                  have hfz105_0 := blk_frozen BK365.out 0
                  have hfz105_1 := blk_frozen BK365.out 1
                  have hnb106 := NB366_363.out
                  have hnc106 := NB363_366.out
                  have hnb107 := NB366_367.out
                  have hnc107 := NB367_366.out
                  have hcz108_0 : wc.cell? ⟨gb366, 0, none⟩ = some (.int .i64 a0_2) := (blk_cell BK366.out 0).trans rfl
                  have hcz108_1 : wc.cell? ⟨gb366, 1, none⟩ = some (.int .i64 a0_3) := (blk_cell BK366.out 1).trans rfl
                  have hfz108_0 := blk_frozen BK366.out 0
                  have hfz108_1 := blk_frozen BK366.out 1
                  have hnb109 := NB367_363.out
                  have hnc109 := NB363_367.out
                  have hcz110_0 : wc.cell? ⟨gb367, 0, none⟩ = some (.int .i64 a0_4) := (blk_cell BK367.out 0).trans rfl
                  have hcz110_1 : wc.cell? ⟨gb367, 1, none⟩ = some (.int .i64 a0_5) := (blk_cell BK367.out 1).trans rfl
                  have hfz110_0 := blk_frozen BK367.out 0
                  have hfz110_1 := blk_frozen BK367.out 1
                  go_wp2_with (first | (go_at_call 45; (with_reducible refine (pochoirref19_Segment.calls kj69 a0_0 a0_1 a0_2 a0_3 a0_4 a0_5 a1 a2 t384 _ A99.out).mono ?_); rintro e w111 ⟨rfl, hb⟩; replace BK363 := Aside0.mk (bb BK363.out hb); replace BK365 := Aside0.mk (bb BK365.out hb); replace BK366 := Aside0.mk (bb BK366.out hb); replace BK367 := Aside0.mk (bb BK367.out hb); replace HB := Aside0.mk (below_step (bl4 HB.out GE363.out GE365.out GE366.out GE367.out) hb); (try clear hb); (try clear hb2); (try clear hk); (try clear hi); have hcz112_0 : w111.cell? ⟨gb365, 0, none⟩ = some (.int .i64 a0_0) := (blk_cell BK365.out 0).trans rfl; have hcz112_1 : w111.cell? ⟨gb365, 1, none⟩ = some (.int .i64 a0_1) := (blk_cell BK365.out 1).trans rfl; have hfz112_0 := blk_frozen BK365.out 0; have hfz112_1 := blk_frozen BK365.out 1; have hcz113_0 : w111.cell? ⟨gb366, 0, none⟩ = some (.int .i64 a0_2) := (blk_cell BK366.out 0).trans rfl; have hcz113_1 : w111.cell? ⟨gb366, 1, none⟩ = some (.int .i64 a0_3) := (blk_cell BK366.out 1).trans rfl; have hfz113_0 := blk_frozen BK366.out 0; have hfz113_1 := blk_frozen BK366.out 1; have hcz114_0 : w111.cell? ⟨gb367, 0, none⟩ = some (.int .i64 a0_4) := (blk_cell BK367.out 0).trans rfl; have hcz114_1 : w111.cell? ⟨gb367, 1, none⟩ = some (.int .i64 a0_5) := (blk_cell BK367.out 1).trans rfl; have hfz114_0 := blk_frozen BK367.out 0; have hfz114_1 := blk_frozen BK367.out 1) | (go_at_call 46; (with_reducible refine (pochoirref19_Ray.calls kj69 a0_0 a0_1 a0_2 a0_3 a0_4 a0_5 a1 a2 t385 _ A101.out).mono ?_); rintro e w115 ⟨rfl, hb⟩; replace BK363 := Aside0.mk (bb BK363.out hb); replace BK365 := Aside0.mk (bb BK365.out hb); replace BK366 := Aside0.mk (bb BK366.out hb); replace BK367 := Aside0.mk (bb BK367.out hb); replace HB := Aside0.mk (below_step (bl4 HB.out GE363.out GE365.out GE366.out GE367.out) hb); (try clear hb); (try clear hb2); (try clear hk); (try clear hi)))
                  go_ret
                  exact ⟨by first | rfl | (simp [errW_none, errW_some] <;> rfl) | (simp [*, errW_none, errW_some] <;> rfl), bl4 HB.out GE363.out GE365.out GE366.out GE367.out⟩
                 ·rw [if_neg c100] at H
                  have c100b0 : (x12_29 == t384) = false := beq_eq_false_iff_ne.mpr c100
                  have c100b1 : (x12_29 != t384) = true := bne_iff_ne.mpr c100
                  exact absurd (HQ.out ▸ H) (by simp)
                ·rw [if_neg c98] at H
                 have c98b0 : (t381 == 0) = false := beq_eq_false_iff_ne.mpr c98
                 have c98b1 : (t381 != 0) = true := bne_iff_ne.mpr c98
                 obtain rfl := Option.some.inj H
                 go_wp2
                 go_ret
                 exact ⟨by first | rfl | (simp [errW_none, errW_some] <;> rfl) | (simp [*, errW_none, errW_some] <;> rfl), bl4 HB.out GE363.out GE365.out GE366.out GE367.out⟩

/-- THE ONE PURE STATEMENT of pochoirlaw19_LineLevels. -/
def pochoirlaw19_LineLevels.Pure : Prop := ∀ (x0 : S27) (x1 : Int) (x2 : Int), wf27 x0 → (Lit.int .i64 x1).wf = true → (Lit.int .i64 x2).wf = true → ∃ k, pochoirlaw19_LineLevels.f k x0.f0.f0 x0.f0.f1 x0.f1.f0 x0.f1.f1 x0.f2.f0 x0.f2.f1 x1 x2 = some true

end Go.Proofs.Ytemhnlameekmkaa.XLine
