/- Points, segments and rays of layer 19: what the program and its reference compute of points that may be. -/
import Derived.Test.YtemhnlameekmkaaXLineLineM
import Derived.Test.YtemhnlameekmkaaXLinex9
import Derived.Test.YtemhnlameekmkaaXLinex10

namespace Go.Proofs.Ytemhnlameekmkaa.XLine
open Go.RowKit Go.Proofs.Ytemhnlameekmkaa.XM Go.Proofs.Ytemhnlameekmkaa.NumM Go.Proofs.YtemhnlameekmkaaW.PrintWords Go.Proofs.YtemhnlameekmkaaW.PrintLast Go.Proofs.YtemhnlameekmkaaW.PrintMore
set_option linter.unusedVariables false

theorem lasked_l (l : List S26) (hl : l.length ≤ 1000000) : ∀ d (i : Nat), i + d = l.length → Ev (fun k => line_scale_asked.l0 k l l.length i) (if allMay (l.drop i) then 0 else 1)
  | 0, i, h => by
    refine Ev.succ ?_
    simp only [line_scale_asked.l0]
    rw [show l.drop i = [] from List.drop_eq_nil_of_le (by omega)]
    simp only [if_neg (show ¬ ((i : Int) < (l.length : Int)) by omega)]
    exact Ev.now _
  | d + 1, i, h => by
    have ih := lasked_l l hl d (i + 1) (by omega)
    refine Ev.succ ?_
    simp only [line_scale_asked.l0, if_pos (show ((i : Int) < (l.length : Int)) by omega), if_pos (show (0 : Int) ≤ i by omega), may_f, Option.bind_some]
    rw [rd_drop l i (by omega)]
    by_cases hm : May (rd_T26 l i)
    · simp only [hm, decide_true, if_true, w64 (n := (i : Int) + 1) (by omega) (by omega)]
      simpa [allMay, hm] using ih
    · simp only [hm, decide_false, Bool.false_eq_true, if_false]
      simp [allMay, hm]
      exact Ev.now _
/-- 0, or 1: a scale, or a point, may not be. -/
def asked (r n : Int) (l : List S26) : Int := if Scale r n then (if allMay l then 0 else 1) else 1
theorem lasked_ev (r n : Int) (l : List S26) (hl : l.length ≤ 1000000) : Ev (fun k => line_scale_asked.f k r n l) (asked r n l) := by
  unfold line_scale_asked.f asked
  rw [right_f]
  simp only [Option.bind_some]
  by_cases sc : Scale r n
  · simp only [decide_eq_true sc, if_true, if_pos sc]
    have h := lasked_l l hl l.length 0 (by omega)
    simp only [List.drop_zero] at h
    exact h
  · simp only [decide_eq_false sc, Bool.false_eq_true, if_false, if_neg sc]; exact Ev.now _
theorem rlasked_ev (r n : Int) (l : List S26) (hl : l.length ≤ 1000000) : Ev (fun k => pochoirref19_Asked.f k l r n) (asked r n l) := by
  unfold pochoirref19_Asked.f asked
  rw [rright_f]
  simp only [Option.bind_some]
  by_cases sc : Scale r n
  · simp only [decide_eq_true sc, if_true, if_pos sc]
    exact Ev.bind (rasked_ev l hl) (Ev.now _)
  · simp only [decide_eq_false sc, Bool.false_eq_true, if_false, if_neg sc]; exact Ev.now _

theorem wd0 : Word 0 := ⟨by omega, by omega⟩
theorem wd1 : Word 1 := ⟨by omega, by omega⟩
theorem wide0 (x : Int) : wide 0 x = x := by unfold wide; omega
theorem far_word {a b : S26} (ha : May a) (hb : May b) : Word (dt a b b) := ⟨far_nn a b, by have := (dt_bd ha hb hb).2; omega⟩
theorem far_wrap {a b : S26} (ha : May a) (hb : May b) : IntKind.u64.wrap (dt a b b) = dt a b b := wu64 (far_word ha hb).1 (far_word ha hb).2

/-- The level of a point. -/
def PtLevel (r n : Int) (p a : S26) (l : Int) : Prop := IsLevel (dt p a a) 1 r n l
/-- The level of the line through a and b. -/
def LnLevel (r n : Int) (p a b : S26) (l : Int) : Prop := IsLevel (cr a b p * cr a b p) (dt a b b) r n l

theorem lpoint_ev {p a : S26} (hp : May p) (ha : May a) {r n : Int} (sc : Scale r n) : ∃ l, PtLevel r n p a l ∧ Ev (fun k => line_scale_point.f k r n p.f0 p.f1 a.f0 a.f1) l := by
  obtain ⟨l, l1, l2⟩ := level_ev wd0 (far_word hp ha) wd0 wd1 sc
  rw [wide0, wide0] at l1
  refine ⟨l, l1, ?_⟩
  unfold line_scale_point.f wide_Of.f
  refine Ev.bind (Far_ev hp ha) ?_
  simp only [Option.bind_some, far_wrap hp ha]
  exact Ev.bind l2 (Ev.now _)
theorem rnear_ev {p a : S26} (hp : May p) (ha : May a) {r n : Int} (sc : Scale r n) : ∃ l, PtLevel r n p a l ∧ Ev (fun k => pochoirref19_Near.f k p.f0 p.f1 a.f0 a.f1 r n) l := by
  obtain ⟨l, l1, l2⟩ := rlevel_ev (digs_dig 0 (dt p a a)) (digs_dig 0 1) (by rw [digs_len]; omega) (by rw [digs_len]; omega) sc
  rw [rdig_val (far_word hp ha), rdig_val wd1] at l1
  refine ⟨l, l1, ?_⟩
  unfold pochoirref19_Near.f
  rw [rdot_f hp ha ha]
  simp only [Option.bind_some, far_wrap hp ha]
  exact Ev.bind (rdig_ev (far_word hp ha)) (Ev.bind (rdig_ev wd1) (Ev.bind l2 (Ev.now _)))
theorem size_f {c : Int} (h0 : -9007199254740992 ≤ c) (h1 : c ≤ 9007199254740992) : line_size.f c = some (if c < 0 then -c else c) := by
  unfold line_size.f
  rw [w64 (n := -c) (by omega) (by omega)]
  congr 1
  unfold mx
  split <;> split <;> first | (rw [wu64 (by omega) (by omega)]; omega) | (rw [wu64 (by omega) (by omega)])
theorem abs_sq (c : Int) : (if c < 0 then -c else c) * (if c < 0 then -c else c) = c * c := by split <;> grind
theorem abs_word {c : Int} (h0 : -9007199254740992 ≤ c) (h1 : c ≤ 9007199254740992) : Word (if c < 0 then -c else c) := by unfold Word; split <;> omega
theorem lbeside_ev {p a b : S26} (hp : May p) (ha : May a) (hb : May b) {r n : Int} (sc : Scale r n) :
    ∃ l, LnLevel r n p a b l ∧ Ev (fun k => line_scale_beside.f k r n p.f0 p.f1 a.f0 a.f1 b.f0 b.f1) l := by
  have cb := cr_bd ha hb hp
  have aw := abs_word cb.1 cb.2
  have m := word_mul aw aw
  obtain ⟨l, l1, l2⟩ := level_ev (hi_word m.1 m.2) (lo_word _) wd0 (far_word ha hb) sc
  rw [wide_split, wide0, abs_sq] at l1
  refine ⟨l, l1, ?_⟩
  unfold line_scale_beside.f wide_Of.f
  refine Ev.bind (Cross_ev ha hb hp) (Ev.bind (Far_ev ha hb) ?_)
  simp only [size_f cb.1 cb.2, Option.bind_some, wmul_f aw aw, far_wrap ha hb]
  exact Ev.bind l2 (Ev.now _)
theorem rbeside_ev {p a b : S26} (hp : May p) (ha : May a) (hb : May b) {r n : Int} (sc : Scale r n) :
    ∃ l, LnLevel r n p a b l ∧ Ev (fun k => pochoirref19_Beside.f k p.f0 p.f1 a.f0 a.f1 b.f0 b.f1 r n) l := by
  have cb := cr_bd ha hb hp
  have aw := abs_word cb.1 cb.2
  obtain ⟨t, t1, t2, t3, t4⟩ := rtimes_ev (digs_dig 0 (if cr a b p < 0 then -cr a b p else cr a b p)) (digs_dig 0 (if cr a b p < 0 then -cr a b p else cr a b p)) (by rw [digs_len]; omega) (by rw [digs_len]; omega)
  rw [digs_len] at t3
  obtain ⟨l, l1, l2⟩ := rlevel_ev t2 (digs_dig 0 (dt a b b)) (by omega) (by rw [digs_len]; omega) sc
  rw [t4, rdig_val aw, abs_sq, rdig_val (far_word ha hb)] at l1
  refine ⟨l, l1, ?_⟩
  have J : ∀ c, c = (if cr a b p < 0 then -cr a b p else cr a b p) → Ev (fun k => pochoirref19_Beside.j0 k r n c a.f0 a.f1 b.f0 b.f1) l := by
    intro c hc
    refine Ev.step (f := fun k => (pochoirref19_digits.f k c).bind fun t338 => ((pochoirref01_Times.f k t338 t338).bind fun t341 => ((pochoirref19_digits.f k (dt a b b)).bind fun t345 => ((pochoirref19_level.f k t341 t345 r n).bind fun t348 => (some t348))))) (fun k => ?_) ?_
    · rw [pochoirref19_Beside.j0, rdot_f ha hb hb, wu64 (n := c) (by rw [hc]; exact aw.1) (by rw [hc]; exact aw.2)]
      simp only [Option.bind_some, far_wrap ha hb]
    · rw [hc]
      exact Ev.bind (rdig_ev aw) (Ev.bind t1 (Ev.bind (rdig_ev (far_word ha hb)) (Ev.bind l2 (Ev.now _))))
  unfold pochoirref19_Beside.f
  rw [rcross_f ha hb hp]
  simp only [Option.bind_some]
  by_cases c : cr a b p < 0
  · simp only [if_pos c]
    rw [w64 (by omega) (by omega)]
    exact J _ (by rw [if_pos c])
  · simp only [if_neg c]
    exact J _ (by rw [if_neg c])

theorem ahead_ev {a b p : S26} (ha : May a) (hb : May b) (hp : May p) : Ev (fun k => line_ahead.f k a.f0 a.f1 b.f0 b.f1 p.f0 p.f1) (decide (dt a b p ≤ 0)) := by
  unfold line_ahead.f
  exact Ev.bind (Dot_ev ha hb hp) (Ev.now _)

/-- What a segment's level is. -/
def SegLevel (r n : Int) (p a b : S26) (l : Int) : Prop := if dt a b p ≤ 0 then PtLevel r n p a l else if dt b a p ≤ 0 then PtLevel r n p b l else LnLevel r n p a b l
def RayLevel (r n : Int) (p a b : S26) (l : Int) : Prop := if dt a b p ≤ 0 then PtLevel r n p a l else LnLevel r n p a b l
theorem PtLevel.unique {r n l m : Int} {p a : S26} (sc : Scale r n) (h : PtLevel r n p a l) (g : PtLevel r n p a m) : l = m := IsLevel.unique (by have := sc.1; omega) (by omega) h g
theorem LnLevel.unique {r n l m : Int} {p a b : S26} (sc : Scale r n) (h : LnLevel r n p a b l) (g : LnLevel r n p a b m) : l = m := IsLevel.unique (by have := sc.1; omega) (far_nn _ _) h g
theorem SegLevel.unique {r n l m : Int} {p a b : S26} (sc : Scale r n) (h : SegLevel r n p a b l) (g : SegLevel r n p a b m) : l = m := by
  unfold SegLevel at h g
  split at h
  · rename_i c; rw [if_pos c] at g; exact h.unique sc g
  · rename_i c; rw [if_neg c] at g
    split at h
    · rename_i d; rw [if_pos d] at g; exact h.unique sc g
    · rename_i d; rw [if_neg d] at g; exact h.unique sc g
theorem RayLevel.unique {r n l m : Int} {p a b : S26} (sc : Scale r n) (h : RayLevel r n p a b l) (g : RayLevel r n p a b m) : l = m := by
  unfold RayLevel at h g
  split at h
  · rename_i c; rw [if_pos c] at g; exact h.unique sc g
  · rename_i c; rw [if_neg c] at g; exact h.unique sc g

theorem asked_two {p a : S26} (hp : May p) (ha : May a) {r n : Int} (sc : Scale r n) : asked r n [p, a] = 0 := by simp [asked, sc, allMay, hp, ha]
theorem asked_three {p a b : S26} (hp : May p) (ha : May a) (hb : May b) {r n : Int} (sc : Scale r n) : asked r n [p, a, b] = 0 := by simp [asked, sc, allMay, hp, ha, hb]
theorem Point_ev {p a : S26} (hp : May p) (ha : May a) {r n : Int} (sc : Scale r n) : ∃ l, PtLevel r n p a l ∧ Ev (fun k => line_Point.f k p.f0 p.f1 a.f0 a.f1 r n) (l, 0) := by
  obtain ⟨l, l1, l2⟩ := lpoint_ev hp ha sc
  refine ⟨l, l1, ?_⟩
  unfold line_Point.f
  refine Ev.bind (lasked_ev r n [p, a] (by simp)) ?_
  rw [asked_two hp ha sc]
  simp only [if_true]
  exact Ev.bind l2 (Ev.now _)
theorem Segment_ev {p a b : S26} (hp : May p) (ha : May a) (hb : May b) {r n : Int} (sc : Scale r n) :
    ∃ l, SegLevel r n p a b l ∧ Ev (fun k => line_Segment.f k p.f0 p.f1 a.f0 a.f1 b.f0 b.f1 r n) (l, 0) := by
  unfold line_Segment.f SegLevel
  by_cases c : dt a b p ≤ 0
  · simp only [if_pos c]
    obtain ⟨l, l1, l2⟩ := lpoint_ev hp ha sc
    refine ⟨l, l1, Ev.bind (lasked_ev r n [p, a, b] (by simp)) ?_⟩
    rw [asked_three hp ha hb sc]
    simp only [if_true]
    refine Ev.bind (ahead_ev ha hb hp) ?_
    simp only [decide_eq_true c, if_true]
    exact Ev.bind l2 (Ev.now _)
  · simp only [if_neg c]
    by_cases d : dt b a p ≤ 0
    · simp only [if_pos d]
      obtain ⟨l, l1, l2⟩ := lpoint_ev hp hb sc
      refine ⟨l, l1, Ev.bind (lasked_ev r n [p, a, b] (by simp)) ?_⟩
      rw [asked_three hp ha hb sc]
      simp only [if_true]
      refine Ev.bind (ahead_ev ha hb hp) ?_
      simp only [decide_eq_false c, Bool.false_eq_true, if_false]
      refine Ev.bind (ahead_ev hb ha hp) ?_
      simp only [decide_eq_true d, if_true]
      exact Ev.bind l2 (Ev.now _)
    · simp only [if_neg d]
      obtain ⟨l, l1, l2⟩ := lbeside_ev hp ha hb sc
      refine ⟨l, l1, Ev.bind (lasked_ev r n [p, a, b] (by simp)) ?_⟩
      rw [asked_three hp ha hb sc]
      simp only [if_true]
      refine Ev.bind (ahead_ev ha hb hp) ?_
      simp only [decide_eq_false c, Bool.false_eq_true, if_false]
      refine Ev.bind (ahead_ev hb ha hp) ?_
      simp only [decide_eq_false d, Bool.false_eq_true, if_false]
      exact Ev.bind l2 (Ev.now _)
theorem Ray_ev {p a b : S26} (hp : May p) (ha : May a) (hb : May b) {r n : Int} (sc : Scale r n) :
    ∃ l, RayLevel r n p a b l ∧ Ev (fun k => line_Ray.f k p.f0 p.f1 a.f0 a.f1 b.f0 b.f1 r n) (l, 0) := by
  unfold line_Ray.f RayLevel
  by_cases c : dt a b p ≤ 0
  · simp only [if_pos c]
    obtain ⟨l, l1, l2⟩ := lpoint_ev hp ha sc
    refine ⟨l, l1, Ev.bind (lasked_ev r n [p, a, b] (by simp)) ?_⟩
    rw [asked_three hp ha hb sc]
    simp only [if_true]
    refine Ev.bind (ahead_ev ha hb hp) ?_
    simp only [decide_eq_true c, if_true]
    exact Ev.bind l2 (Ev.now _)
  · simp only [if_neg c]
    obtain ⟨l, l1, l2⟩ := lbeside_ev hp ha hb sc
    refine ⟨l, l1, Ev.bind (lasked_ev r n [p, a, b] (by simp)) ?_⟩
    rw [asked_three hp ha hb sc]
    simp only [if_true]
    refine Ev.bind (ahead_ev ha hb hp) ?_
    simp only [decide_eq_false c, Bool.false_eq_true, if_false]
    exact Ev.bind l2 (Ev.now _)

theorem same_dot {a b p : S26} (h : (a.f0 == b.f0 && (a.f1 == b.f1)) = true) : dt a b p ≤ 0 := by
  simp at h
  unfold dt
  rw [h.1, h.2]; simp
theorem rSegment_ev {p a b : S26} (hp : May p) (ha : May a) (hb : May b) {r n : Int} (sc : Scale r n) :
    ∃ l, SegLevel r n p a b l ∧ Ev (fun k => pochoirref19_Segment.f k p.f0 p.f1 a.f0 a.f1 b.f0 b.f1 r n) l := by
  have key : ∃ l, SegLevel r n p a b l ∧ Ev (fun k => pochoirref19_Segment.j0 k r n (decide (dt a b p ≤ 0)) p.f0 p.f1 a.f0 a.f1 b.f0 b.f1) l := by
    unfold SegLevel
    by_cases c : dt a b p ≤ 0
    · simp only [if_pos c, decide_eq_true c]
      obtain ⟨l, l1, l2⟩ := rnear_ev hp ha sc
      refine ⟨l, l1, Ev.step (f := fun k => (pochoirref19_Near.f k p.f0 p.f1 a.f0 a.f1 r n).bind fun t => some t) (fun k => rfl) (Ev.bind l2 (Ev.now _))⟩
    · simp only [if_neg c, decide_eq_false c]
      by_cases d : dt b a p ≤ 0
      · simp only [if_pos d]
        obtain ⟨l, l1, l2⟩ := rnear_ev hp hb sc
        refine ⟨l, l1, Ev.step (f := fun k => (pochoirref19_Near.f k p.f0 p.f1 b.f0 b.f1 r n).bind fun t => some t) (fun k => ?_) (Ev.bind l2 (Ev.now _))⟩
        rw [pochoirref19_Segment.j0, if_neg (by decide), rdot_f hb ha hp]
        simp only [Option.bind_some, if_pos d]
      · simp only [if_neg d]
        obtain ⟨l, l1, l2⟩ := rbeside_ev hp ha hb sc
        refine ⟨l, l1, Ev.step (f := fun k => (pochoirref19_Beside.f k p.f0 p.f1 a.f0 a.f1 b.f0 b.f1 r n).bind fun t => some t) (fun k => ?_) (Ev.bind l2 (Ev.now _))⟩
        rw [pochoirref19_Segment.j0, if_neg (by decide), rdot_f hb ha hp]
        simp only [Option.bind_some, if_neg d]
  obtain ⟨l, l1, l2⟩ := key
  refine ⟨l, l1, ?_⟩
  unfold pochoirref19_Segment.f
  by_cases e : (a.f0 == b.f0 && (a.f1 == b.f1)) = true
  · simp only [if_pos e]
    rw [decide_eq_true (same_dot e)] at l2; exact l2
  · simp only [if_neg e, rdot_f ha hb hp, Option.bind_some]; exact l2
theorem rRay_ev {p a b : S26} (hp : May p) (ha : May a) (hb : May b) {r n : Int} (sc : Scale r n) :
    ∃ l, RayLevel r n p a b l ∧ Ev (fun k => pochoirref19_Ray.f k p.f0 p.f1 a.f0 a.f1 b.f0 b.f1 r n) l := by
  have key : ∃ l, RayLevel r n p a b l ∧ Ev (fun k => pochoirref19_Ray.j0 k r n (decide (dt a b p ≤ 0)) p.f0 p.f1 a.f0 a.f1 b.f0 b.f1) l := by
    unfold RayLevel
    by_cases c : dt a b p ≤ 0
    · simp only [if_pos c, decide_eq_true c]
      obtain ⟨l, l1, l2⟩ := rnear_ev hp ha sc
      refine ⟨l, l1, Ev.step (f := fun k => (pochoirref19_Near.f k p.f0 p.f1 a.f0 a.f1 r n).bind fun t => some t) (fun k => rfl) (Ev.bind l2 (Ev.now _))⟩
    · simp only [if_neg c, decide_eq_false c]
      obtain ⟨l, l1, l2⟩ := rbeside_ev hp ha hb sc
      refine ⟨l, l1, Ev.step (f := fun k => (pochoirref19_Beside.f k p.f0 p.f1 a.f0 a.f1 b.f0 b.f1 r n).bind fun t => some t) (fun k => rfl) (Ev.bind l2 (Ev.now _))⟩
  obtain ⟨l, l1, l2⟩ := key
  refine ⟨l, l1, ?_⟩
  unfold pochoirref19_Ray.f
  by_cases e : (a.f0 == b.f0 && (a.f1 == b.f1)) = true
  · simp only [if_pos e]
    rw [decide_eq_true (same_dot e)] at l2; exact l2
  · simp only [if_neg e, rdot_f ha hb hp, Option.bind_some]; exact l2

end Go.Proofs.Ytemhnlameekmkaa.XLine
