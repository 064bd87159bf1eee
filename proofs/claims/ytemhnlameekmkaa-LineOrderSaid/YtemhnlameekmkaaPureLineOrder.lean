/- The pure law LineOrder: a segment is at most as far as its ends, a ray at most as far as its segment, and twice the steps tell the level more finely. -/
import Derived.Test.YtemhnlameekmkaaXLineLinePtM
import Derived.Test.YtemhnlameekmkaaXLinex12
namespace Go.Proofs.Ytemhnlameekmkaa.Pure
open Go.RowKit Go.Proofs.Ytemhnlameekmkaa.XLine Go.Proofs.Ytemhnlameekmkaa.XM Go.Proofs.Ytemhnlameekmkaa.NumM Go.Proofs.YtemhnlameekmkaaW.PrintWords Go.Proofs.YtemhnlameekmkaaW.PrintLast Go.Proofs.YtemhnlameekmkaaW.PrintMore
set_option linter.unusedVariables false

theorem order_awake : Ev (fun k => pochoirlaw19_awake.f k) true :=
  Ev.of (g := fun k => pochoirlaw19_awake.f k) pochoirlaw19_awake.mono (k := 60) (by decide +kernel)

/-- What is nearer is of no higher level. -/
theorem level_le {s1 b1 s2 b2 r n l m : Int} (hr : 1 ≤ r) (hb1 : 1 ≤ b1) (hb2 : 1 ≤ b2) (h : s1 * b2 ≤ s2 * b1) (hn : 0 ≤ n) (hl : IsLevel s1 b1 r n l) (hm : IsLevel s2 b2 r n m) : l ≤ m := by
  rcases Int.lt_or_le m l with c | c
  · exfalso
    rcases hm.2.2.2 with e | e
    · have := hl.2.1; omega
    · have f := fits_mono (by omega) (by omega) (by have := hm.1; omega) (show m + 1 ≤ l by omega) hl.2.2.1
      apply e
      unfold Fits at f ⊢
      generalize (m + 1) * r * ((m + 1) * r) = q at *
      have hnn : 0 ≤ n * n := sq_nn n
      generalize n * n = w at *
      have g1 := Int.mul_le_mul_of_nonneg_right f (show 0 ≤ b2 by omega)
      have g2 := Int.mul_le_mul_of_nonneg_left h hnn
      have g3 : q * b2 * b1 ≤ w * s2 * b1 := by
        rw [Int.mul_right_comm, Int.mul_assoc w s2 b1]; rw [Int.mul_assoc w s1 b2] at g1; omega
      exact Int.le_of_mul_le_mul_right g3 (by omega)
  · exact c
theorem far_pos {a b p : S26} (h : ¬ dt a b p ≤ 0) : 1 ≤ dt a b b := by
  rcases Int.lt_or_le 0 (dt a b b) with c | c
  · omega
  · exfalso; apply h
    have h0 := far_nn a b
    have e : dt a b b = 0 := by omega
    have l := lagrange a b p
    rw [e, Int.zero_mul] at l
    have q1 := sq_nn (cr a b p)
    have q2 := sq_nn (dt a b p)
    have q3 : dt a b p * dt a b p = 0 := by omega
    rcases Int.mul_eq_zero.1 q3 with z | z <;> omega
theorem dt_sum (a b p : S26) : dt a b p + dt b a p = dt a b b := by unfold dt; grind
theorem far_swap (a b : S26) : dt b a a = dt a b b := by unfold dt; grind
theorem far_back (p a : S26) : dt p a a = dt a p p := by unfold dt; grind
theorem far_far (a b p : S26) : dt b p p = dt a p p - 2 * dt a b p + dt a b b := by unfold dt; grind
theorem cr_flip (a b p : S26) : cr b a p = -cr a b p := by unfold cr; grind
theorem ln_pt {r n l m : Int} {p a b : S26} (sc : Scale r n) (hpos : 1 ≤ dt a b b) (hl : LnLevel r n p a b l) (hm : PtLevel r n p a m) : l ≤ m := by
  refine level_le sc.1 hpos (by omega) ?_ (by have := sc.2.2.1; omega) hl hm
  have := lagrange a b p
  have := sq_nn (dt a b p)
  rw [far_back p a, Int.mul_one, Int.mul_comm (dt a p p)]; omega
theorem ln_flip {r n l : Int} {p a b : S26} (h : LnLevel r n p a b l) : LnLevel r n p b a l := by
  unfold LnLevel at *
  rw [cr_flip a b p, far_swap a b, show -cr a b p * -cr a b p = cr a b p * cr a b p by grind]; exact h

theorem seg_ends {r n s a b : Int} {p u v : S26} (sc : Scale r n) (hs : SegLevel r n p u v s) (ha : PtLevel r n p u a) (hb : PtLevel r n p v b) : s ≤ a ∧ s ≤ b := by
  have n0 := sc.2.2.1
  unfold SegLevel at hs
  by_cases c : dt u v p ≤ 0
  · rw [if_pos c] at hs
    refine ⟨by rw [hs.unique sc ha]; omega, ?_⟩
    refine level_le sc.1 (by omega) (by omega) ?_ (by omega) hs hb
    rw [Int.mul_one, Int.mul_one, far_back p u, far_back p v, far_far u v p]
    have := far_nn u v; omega
  · rw [if_neg c] at hs
    by_cases d : dt v u p ≤ 0
    · rw [if_pos d] at hs
      refine ⟨?_, by rw [hs.unique sc hb]; omega⟩
      refine level_le sc.1 (by omega) (by omega) ?_ (by omega) hs ha
      rw [Int.mul_one, Int.mul_one, far_back p u, far_back p v, far_far v u p]
      have := far_nn v u; omega
    · rw [if_neg d] at hs
      exact ⟨ln_pt sc (far_pos c) hs ha, ln_pt sc (far_pos d) (ln_flip hs) hb⟩
theorem ray_seg {r n s t : Int} {p u v : S26} (sc : Scale r n) (ht : RayLevel r n p u v t) (hs : SegLevel r n p u v s) : t ≤ s := by
  unfold RayLevel at ht
  unfold SegLevel at hs
  by_cases c : dt u v p ≤ 0
  · rw [if_pos c] at ht hs; rw [ht.unique sc hs]; omega
  · rw [if_neg c] at ht hs
    by_cases d : dt v u p ≤ 0
    · rw [if_pos d] at hs
      exact ln_pt sc (by rw [far_swap u v]; exact far_pos c) (ln_flip ht) hs
    · rw [if_neg d] at hs; rw [ht.unique sc hs]; omega
theorem seg_flip {r n s : Int} {p u v : S26} (h : SegLevel r n p u v s) : SegLevel r n p v u s := by
  unfold SegLevel at *
  by_cases c : dt u v p ≤ 0
  · rw [if_pos c] at h
    by_cases d : dt v u p ≤ 0
    · rw [if_pos d]
      have e := dt_sum u v p
      have z := far_nn u v
      have z0 : dt u v v = 0 := by omega
      unfold dt at z0
      have q1 := sq_nn (v.f0 - u.f0)
      have q2 := sq_nn (v.f1 - u.f1)
      have r1 : (v.f0 - u.f0) * (v.f0 - u.f0) = 0 := by omega
      have r2 : (v.f1 - u.f1) * (v.f1 - u.f1) = 0 := by omega
      have i1 : v.f0 = u.f0 := by rcases Int.mul_eq_zero.1 r1 with z | z <;> omega
      have i2 : v.f1 = u.f1 := by rcases Int.mul_eq_zero.1 r2 with z | z <;> omega
      unfold PtLevel dt at *
      rw [i1, i2]; exact h
    · rw [if_neg d, if_pos c]; exact h
  · rw [if_neg c] at h
    by_cases d : dt v u p ≤ 0
    · rw [if_pos d] at h ⊢; exact h
    · rw [if_neg d] at h ⊢; rw [if_neg c]; exact ln_flip h
/-- Twice the steps. -/
theorem level_twice {sq by_ r n l m : Int} (hr : 0 ≤ r) (hb : 0 ≤ by_) (hl : IsLevel sq by_ r n l) (hm : IsLevel sq by_ r (2 * n) m) : m / 2 = l := by
  have key : ∀ k : Int, Fits sq by_ r (2 * n) (2 * k) ↔ Fits sq by_ r n k := by
    intro k
    unfold Fits
    rw [show 2 * k * r * (2 * k * r) * by_ = 4 * (k * r * (k * r) * by_) by grind, show 2 * n * (2 * n) * sq = 4 * (n * n * sq) by grind]
    omega
  obtain ⟨l0, l1, l2, l3⟩ := hl
  obtain ⟨m0, m1, m2, m3⟩ := hm
  have a1 : Fits sq by_ r n (m / 2) := (key _).1 (fits_mono hr hb (by omega) (by omega) m2)
  have b1 : l ≤ m / 2 := by
    rcases m3 with e | e
    · omega
    · rcases Int.lt_or_le (m / 2) l with c | c
      · exact absurd (fits_mono hr hb (by omega) (show m + 1 ≤ 2 * l by omega) ((key l).2 l2)) e
      · exact c
  rcases l3 with e | e
  · omega
  · rcases Int.lt_or_le l (m / 2) with c | c
    · exact absurd (fits_mono hr hb (by omega) (by omega) a1) e
    · omega
theorem seg_twice {r n s t : Int} {p u v : S26} (hr : 1 ≤ r) (hs : SegLevel r n p u v s) (ht : SegLevel r (2 * n) p u v t) : t / 2 = s := by
  unfold SegLevel at hs ht
  by_cases c : dt u v p ≤ 0
  · rw [if_pos c] at hs ht; exact level_twice (by omega) (by omega) hs ht
  · rw [if_neg c] at hs ht
    by_cases d : dt v u p ≤ 0
    · rw [if_pos d] at hs ht; exact level_twice (by omega) (by omega) hs ht
    · rw [if_neg d] at hs ht; exact level_twice (by omega) (far_nn _ _) hs ht

theorem coord {x : Int} (h : (Lit.int .i32 x).wf = true) : -1048576 ≤ Int.tmod (wrap64 x) 1048576 ∧ Int.tmod (wrap64 x) 1048576 ≤ 1048576 := by
  obtain ⟨h0, h1⟩ := i32_of h
  rw [w64 (by omega) (by omega)]
  have a := Int.tmod_lt_of_pos x (show (0 : Int) < 1048576 by decide)
  have b := Int.lt_tmod_of_pos x (show (0 : Int) < 1048576 by decide)
  omega

theorem LineOrder : pochoirlaw19_LineOrder.Pure := by
  intro x0 x1 x2 w0 w1 w2
  obtain ⟨⟨p0, p1⟩, ⟨a0, a1⟩, ⟨b0, b1⟩⟩ := x0
  refine Ev.rounds (g := fun k => pochoirlaw19_LineOrder.f k p0 p1 a0 a1 b0 b1 x1 x2) ?_
  obtain ⟨⟨wp0, wp1⟩, ⟨wa0, wa1⟩, ⟨wb0, wb1⟩⟩ := w0
  have u1 := u32_of w1
  have u2 := u8_of w2
  have cp0 := coord wp0; have cp1 := coord wp1; have ca0 := coord wa0; have ca1 := coord wa1; have cb0 := coord wb0; have cb1 := coord wb1
  simp only at cp0 cp1 ca0 ca1 cb0 cb1
  obtain ⟨p, hp⟩ : ∃ p : S26, p = ⟨Int.tmod (wrap64 p0) 1048576, Int.tmod (wrap64 p1) 1048576⟩ := ⟨_, rfl⟩
  obtain ⟨a, ha⟩ : ∃ a : S26, a = ⟨Int.tmod (wrap64 a0) 1048576, Int.tmod (wrap64 a1) 1048576⟩ := ⟨_, rfl⟩
  obtain ⟨b, hb⟩ : ∃ b : S26, b = ⟨Int.tmod (wrap64 b0) 1048576, Int.tmod (wrap64 b1) 1048576⟩ := ⟨_, rfl⟩
  have mp : May p := by rw [hp]; unfold May; simp only; omega
  have ma : May a := by rw [ha]; unfold May; simp only; omega
  have mb : May b := by rw [hb]; unfold May; simp only; omega
  obtain ⟨r, hr⟩ : ∃ r, r = wrap64 (1 + (wrap64 (Int.tmod x1 1048576))) := ⟨_, rfl⟩
  obtain ⟨n, hn⟩ : ∃ n, n = wrap64 (1 + (wrap64 (Int.tmod x2 127))) := ⟨_, rfl⟩
  have r1 : 1 ≤ r ∧ r ≤ 1048576 := by
    rw [Int.tmod_eq_emod_of_nonneg u1.1, w64 (n := x1 % 1048576) (by omega) (by omega), w64 (by omega) (by omega)] at hr; omega
  have n1 : 1 ≤ n ∧ n ≤ 127 := by
    rw [Int.tmod_eq_emod_of_nonneg u2.1, w64 (n := x2 % 127) (by omega) (by omega), w64 (by omega) (by omega)] at hn; omega
  have sc : Scale r n := ⟨r1.1, r1.2, n1.1, by omega⟩
  have sc2 : Scale r (2 * n) := ⟨r1.1, r1.2, by omega, by omega⟩
  obtain ⟨s, s1, s2⟩ := Segment_ev mp ma mb sc
  obtain ⟨t, t1, t2⟩ := Ray_ev mp ma mb sc
  obtain ⟨u, v1, v2⟩ := Point_ev mp ma sc
  obtain ⟨v, z1, z2⟩ := Point_ev mp mb sc
  obtain ⟨bk, k1, k2⟩ := Segment_ev mp mb ma sc
  obtain ⟨tw, y1, y2⟩ := Segment_ev mp ma mb sc2
  obtain ⟨g1, g2⟩ := seg_ends sc s1 v1 z1
  have g3 := ray_seg sc t1 s1
  have g4 : bk = s := k1.unique sc (seg_flip s1)
  have g5 := seg_twice r1.1 s1 y1
  have g6 : 0 ≤ tw ∧ tw ≤ 2 * n := by
    unfold SegLevel PtLevel LnLevel IsLevel at y1
    split at y1
    · omega
    · split at y1 <;> omega
  unfold pochoirlaw19_LineOrder.f
  refine Ev.bind order_awake ?_
  refine Ev.step (f := fun k => (line_Segment.f k p.f0 p.f1 a.f0 a.f1 b.f0 b.f1 r n).bind fun bt392 => (pochoirlaw19_LineOrder.j1 k r n bt392.1 bt392.2 p.f0 p.f1 a.f0 a.f1 b.f0 b.f1)) (fun k => by subst hp; subst ha; subst hb; subst hr; subst hn; rfl) (Ev.bind s2 ?_)
  refine Ev.step (f := fun k => (line_Ray.f k p.f0 p.f1 a.f0 a.f1 b.f0 b.f1 r n).bind fun bt394 => (pochoirlaw19_LineOrder.j2 k r n s 0 bt394.1 bt394.2 p.f0 p.f1 a.f0 a.f1 b.f0 b.f1)) (fun k => rfl) (Ev.bind t2 ?_)
  refine Ev.succ ?_
  simp only [pochoirlaw19_LineOrder.j2]
  refine Ev.bind v2 (Ev.bind z2 (Ev.bind k2 ?_))
  rw [w64 (n := 2 * n) (by omega) (by omega)]
  refine Ev.bind y2 ?_
  simp only [if_true, if_pos g1, if_pos g2, if_pos g3, if_pos g4]
  rw [Int.tdiv_eq_ediv_of_nonneg g6.1, g5, w64 (by omega) (by omega)]
  exact Ev.some (by simp)

end Go.Proofs.Ytemhnlameekmkaa.Pure
