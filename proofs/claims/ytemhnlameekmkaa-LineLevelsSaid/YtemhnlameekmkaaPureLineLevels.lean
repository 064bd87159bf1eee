/- The pure law LineLevels: the levels of points, segments and rays are the reference's, for any points, reach and steps. -/
import Derived.Test.YtemhnlameekmkaaXLineLinePtM
import Derived.Test.YtemhnlameekmkaaXLinex11
namespace Go.Proofs.Ytemhnlameekmkaa.Pure
open Go.RowKit Go.Proofs.Ytemhnlameekmkaa.XLine Go.Proofs.Ytemhnlameekmkaa.XM Go.Proofs.Ytemhnlameekmkaa.NumM Go.Proofs.YtemhnlameekmkaaW.PrintWords Go.Proofs.YtemhnlameekmkaaW.PrintLast Go.Proofs.YtemhnlameekmkaaW.PrintMore
set_option linter.unusedVariables false

theorem levels_awake : Ev (fun k => pochoirlaw19_awake.f k) true :=
  Ev.of (g := fun k => pochoirlaw19_awake.f k) pochoirlaw19_awake.mono (k := 60) (by decide +kernel)

theorem asked01 (r n : Int) (l : List S26) : (asked r n l = 0 ∧ Scale r n ∧ allMay l = true) ∨ asked r n l = 1 := by
  unfold asked
  by_cases sc : Scale r n
  · rw [if_pos sc]
    cases h : allMay l
    · exact .inr (by simp)
    · exact .inl ⟨by simp, sc, rfl⟩
  · exact .inr (by rw [if_neg sc])
theorem all_two {p a : S26} (h : allMay [p, a] = true) : May p ∧ May a := by simpa [allMay] using h
theorem all_three {p a b : S26} (h : allMay [p, a, b] = true) : May p ∧ May a ∧ May b := by simpa [allMay] using h

theorem Point_any (p a : S26) (r n : Int) : ∃ x, Ev (fun k => line_Point.f k p.f0 p.f1 a.f0 a.f1 r n) (x, asked r n [p, a]) ∧ (asked r n [p, a] = 0 → PtLevel r n p a x) ∧ (asked r n [p, a] ≠ 0 → x = 0) := by
  rcases asked01 r n [p, a] with ⟨h, sc, hm⟩ | h
  · obtain ⟨hp, ha⟩ := all_two hm
    obtain ⟨l, l1, l2⟩ := Point_ev hp ha sc
    exact ⟨l, by rw [h]; exact l2, fun _ => l1, fun e => absurd h e⟩
  · refine ⟨0, ?_, fun e => by rw [h] at e; exact absurd e (by decide), fun _ => rfl⟩
    unfold line_Point.f
    refine Ev.bind (lasked_ev r n [p, a] (by simp)) ?_
    rw [h]
    simp only [show ¬ ((1 : Int) = 0) by decide, if_false]
    exact Ev.now _
theorem Segment_any (p a b : S26) (r n : Int) : ∃ x, Ev (fun k => line_Segment.f k p.f0 p.f1 a.f0 a.f1 b.f0 b.f1 r n) (x, asked r n [p, a, b]) ∧ (asked r n [p, a, b] = 0 → SegLevel r n p a b x) ∧ (asked r n [p, a, b] ≠ 0 → x = 0) := by
  rcases asked01 r n [p, a, b] with ⟨h, sc, hm⟩ | h
  · obtain ⟨hp, ha, hb⟩ := all_three hm
    obtain ⟨l, l1, l2⟩ := Segment_ev hp ha hb sc
    exact ⟨l, by rw [h]; exact l2, fun _ => l1, fun e => absurd h e⟩
  · refine ⟨0, ?_, fun e => by rw [h] at e; exact absurd e (by decide), fun _ => rfl⟩
    unfold line_Segment.f
    refine Ev.bind (lasked_ev r n [p, a, b] (by simp)) ?_
    rw [h]
    simp only [show ¬ ((1 : Int) = 0) by decide, if_false]
    exact Ev.now _
theorem Ray_any (p a b : S26) (r n : Int) : ∃ x, Ev (fun k => line_Ray.f k p.f0 p.f1 a.f0 a.f1 b.f0 b.f1 r n) (x, asked r n [p, a, b]) ∧ (asked r n [p, a, b] = 0 → RayLevel r n p a b x) ∧ (asked r n [p, a, b] ≠ 0 → x = 0) := by
  rcases asked01 r n [p, a, b] with ⟨h, sc, hm⟩ | h
  · obtain ⟨hp, ha, hb⟩ := all_three hm
    obtain ⟨l, l1, l2⟩ := Ray_ev hp ha hb sc
    exact ⟨l, by rw [h]; exact l2, fun _ => l1, fun e => absurd h e⟩
  · refine ⟨0, ?_, fun e => by rw [h] at e; exact absurd e (by decide), fun _ => rfl⟩
    unfold line_Ray.f
    refine Ev.bind (lasked_ev r n [p, a, b] (by simp)) ?_
    rw [h]
    simp only [show ¬ ((1 : Int) = 0) by decide, if_false]
    exact Ev.now _

theorem LineLevels : pochoirlaw19_LineLevels.Pure := by
  intro x0 r n _ _ _
  obtain ⟨p, a, b⟩ := x0
  refine Ev.rounds (g := fun k => pochoirlaw19_LineLevels.f k p.f0 p.f1 a.f0 a.f1 b.f0 b.f1 r n) ?_
  obtain ⟨x, x1, x2, x3⟩ := Point_any p a r n
  obtain ⟨y, y1, y2, y3⟩ := Segment_any p a b r n
  obtain ⟨z, z1, z2, z3⟩ := Ray_any p a b r n
  -- the last two tests
  have J5 : Ev (fun k => pochoirlaw19_LineLevels.j5 k r n y z (asked r n [p, a, b]) false p.f0 p.f1 a.f0 a.f1 b.f0 b.f1) true := by
    refine Ev.step (f := fun k => if asked r n [p, a, b] = 0 then ((pochoirref19_Segment.f k p.f0 p.f1 a.f0 a.f1 b.f0 b.f1 r n).bind fun t384 => (if y = t384 then ((pochoirref19_Ray.f k p.f0 p.f1 a.f0 a.f1 b.f0 b.f1 r n).bind fun t385 => (some (z == t385))) else (some false))) else (some true)) (fun k => rfl) ?_
    rcases asked01 r n [p, a, b] with ⟨h, sc, hm⟩ | h
    · obtain ⟨hp, ha, hb⟩ := all_three hm
      obtain ⟨s, s1, s2⟩ := rSegment_ev hp ha hb sc
      obtain ⟨t, t1, t2⟩ := rRay_ev hp ha hb sc
      obtain rfl := (y2 h).unique sc s1
      obtain rfl := (z2 h).unique sc t1
      simp only [if_pos h]
      refine Ev.bind s2 ?_
      simp only [if_true]
      exact Ev.bind t2 (Ev.some (by simp))
    · simp only [if_neg (show ¬ asked r n [p, a, b] = 0 by rw [h]; decide)]
      exact Ev.now _
  have J4 : Ev (fun k => pochoirlaw19_LineLevels.j4 k r n x y z (asked r n [p, a]) (asked r n [p, a, b]) false p.f0 p.f1 a.f0 a.f1 b.f0 b.f1) true := by
    refine Ev.succ ?_
    rcases asked01 r n [p, a] with ⟨h, sc, hm⟩ | h
    · obtain ⟨hp, ha⟩ := all_two hm
      obtain ⟨s, s1, s2⟩ := rnear_ev hp ha sc
      obtain rfl := (x2 h).unique sc s1
      rcases asked01 r n [p, a, b] with ⟨h3, _, _⟩ | h3
      · rw [h3] at J5
        refine Ev.congr (f := fun k => (pochoirref19_Near.f k p.f0 p.f1 a.f0 a.f1 r n).bind fun t382 => (pochoirlaw19_LineLevels.j5 k r n y z 0 (x != t382) p.f0 p.f1 a.f0 a.f1 b.f0 b.f1)) (fun k => ?_) (Ev.bind s2 (by simpa using J5))
        rw [pochoirlaw19_LineLevels.j4, h, h3, if_neg (by decide), if_pos rfl, if_pos rfl]
      · have hy := y3 (by rw [h3]; decide)
        have hz := z3 (by rw [h3]; decide)
        rw [h3] at J5
        refine Ev.congr (f := fun k => (pochoirref19_Near.f k p.f0 p.f1 a.f0 a.f1 r n).bind fun t382 => (pochoirlaw19_LineLevels.j5 k r n y z 1 (x != t382) p.f0 p.f1 a.f0 a.f1 b.f0 b.f1)) (fun k => ?_) (Ev.bind s2 (by simpa using J5))
        rw [pochoirlaw19_LineLevels.j4, h, h3, if_neg (by decide), if_pos rfl, if_neg (by decide), if_pos hy, if_pos hz]
    · have hx := x3 (by rw [h]; decide)
      rcases asked01 r n [p, a, b] with ⟨h3, _, _⟩ | h3
      · rw [h3] at J5
        refine Ev.congr (fun k => ?_) J5
        rw [pochoirlaw19_LineLevels.j4, h, h3, if_neg (by decide), if_neg (by decide), if_pos hx, if_pos rfl]
      · have hy := y3 (by rw [h3]; decide)
        have hz := z3 (by rw [h3]; decide)
        rw [h3] at J5
        refine Ev.congr (fun k => ?_) J5
        rw [pochoirlaw19_LineLevels.j4, h, h3, if_neg (by decide), if_neg (by decide), if_pos hx, if_neg (by decide), if_pos hy, if_pos hz]
  unfold pochoirlaw19_LineLevels.f
  refine Ev.bind levels_awake ?_
  refine Ev.step (f := fun k => (line_Point.f k p.f0 p.f1 a.f0 a.f1 r n).bind fun bt368 => (pochoirlaw19_LineLevels.j1 k r n bt368.1 bt368.2 p.f0 p.f1 a.f0 a.f1 b.f0 b.f1)) (fun k => rfl) (Ev.bind x1 ?_)
  refine Ev.step (f := fun k => (line_Segment.f k p.f0 p.f1 a.f0 a.f1 b.f0 b.f1 r n).bind fun bt370 => (pochoirlaw19_LineLevels.j2 k r n x (asked r n [p, a]) bt370.1 bt370.2 p.f0 p.f1 a.f0 a.f1 b.f0 b.f1)) (fun k => rfl) (Ev.bind y1 ?_)
  refine Ev.step (f := fun k => (line_Ray.f k p.f0 p.f1 a.f0 a.f1 b.f0 b.f1 r n).bind fun bt372 => (pochoirlaw19_LineLevels.j3 k r n x (asked r n [p, a]) y (asked r n [p, a, b]) bt372.1 bt372.2 p.f0 p.f1 a.f0 a.f1 b.f0 b.f1)) (fun k => rfl) (Ev.bind z1 ?_)
  refine Ev.succ ?_
  simp only [pochoirlaw19_LineLevels.j3]
  refine Ev.bind (rlasked_ev r n [p, a] (by simp)) (Ev.bind (rlasked_ev r n [p, a, b] (by simp)) ?_)
  simp only [if_true, bne_self_eq_false]
  exact J4

end Go.Proofs.Ytemhnlameekmkaa.Pure
