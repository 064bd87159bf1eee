/- Glyf: the whole reader, both sides; what is read may be. -/
import Derived.Test.YtalghbndblgndaaEvGlyfC
namespace Go.Proofs.Ytalghbndblgndaa.Ev
open Go
set_option linter.unusedVariables false
set_option linter.unusedSimpArgs false
def gP4 (E Fl X : List Int) (q : Q) : CS × Int := cond ((gAl 4 32 Fl [] 0 q).1 != 0) ([], (gAl 4 32 Fl [] 0 q).1) (gCt X (gAl 4 32 Fl [] 0 q).2.1 Fl E 0 [], 0)
def gP3 (E Fl : List Int) (q : Q) : CS × Int := cond ((gAl 2 16 Fl [] 0 q).1 != 0) ([], (gAl 2 16 Fl [] 0 q).1) (gP4 E Fl (gAl 2 16 Fl [] 0 q).2.1 (gAl 2 16 Fl [] 0 q).2.2)
def gP2 (E : List Int) (m : Nat) (q : Q) : CS × Int := cond ((gFl (m + 1) m [] q).1 != 0) ([], (gFl (m + 1) m [] q).1) (gP3 E (gFl (m + 1) m [] q).2.1 (gFl (m + 1) m [] q).2.2)
def gP1 (n : Nat) (q : Q) : CS × Int := cond ((gPl n q).1 != 0) ([], (gPl n q).1) (gP2 (gPl n q).2.1 ((gPl n q).2.2.1 + 1).toNat (gPl n q).2.2.2)
theorem Up.snoc : ∀ {l : List Int} {a z e : Int}, Up a l z → z < e → Up a (l ++ [e]) e
  | [], a, z, e, h, k => ⟨by have : a = z := h; omega, rfl⟩
  | b :: r, a, z, e, h, k => ⟨h.1, Up.snoc h.2 k⟩
section
variable {s : ByteArray} (hs : s.size ≤ 1000000000)
include hs
theorem f74 {n : Nat} (h1 : 1 ≤ n) (hn : n ≤ 256) {y : S192} {q : Q} (hr : RdP s y q) : ∃ x', F74 (S132.mk (some y) [] []) (n : Int) = some ((gP1 n q).1, (gP1 n q).2, x') := by
  rw [F74_eq]
  simp only
  obtain ⟨xa, a1, ⟨q', E', ha⟩, a3⟩ := f121 hs (n := n) (by omega) (Mk.mk' (E := []) (Fl := []) hr)
  rw [bnd a1]
  unfold gP1
  by_cases he : (gPl n q).1 = 0
  · obtain ⟨⟨y2, hy2, hr2⟩, hE2, hF2⟩ := a3 he
    obtain ⟨k1, k2, k3⟩ := gPl_ok he
    generalize hE : (gPl n q).2.1 = E at *
    generalize hz : (gPl n q).2.2.1 = z at *
    generalize hq2 : (gPl n q).2.2.2 = q2 at *
    have hz1 := k2.le
    have hlast := k2.last (n := n - 1) (by omega)
    simp only [hy2, hE2, hF2]
    rw [cnF he, cnF he, wr64 (n := (n : Int) - 1) (by omega) (by omega), show (n : Int) - 1 = ((n - 1 : Nat) : Int) by omega, Int.toNat_natCast, grd_p (by omega), grd_p (by omega), hlast, wr64 (by omega) (by omega)]
    obtain ⟨m, hm⟩ := Int.eq_ofNat_of_zero_le (a := z + 1) (by omega)
    rw [hm, Int.toNat_natCast, F122_eq]
    simp only
    obtain ⟨xb, b1, ⟨q'', a'', hb⟩, b3⟩ := l122 hs (E := E) (n := m) (by omega) (m + 1) (S132.mk (some y2) E []) [] q2 (Mk.mk' hr2) (by simp) (by simp)
    rw [bnd b1]
    unfold gP2
    have hbF := gFl_ok (n := m) (m + 1) [] q2 hr2.byt Byt.nil (by simp) (by simp)
    generalize gFl (m + 1) m [] q2 = R at *
    by_cases he2 : R.1 = 0
    · obtain ⟨⟨y3, hy3, hr3⟩, hE3, hF3⟩ := b3 he2
      obtain ⟨hFl, hFb⟩ := hbF he2
      simp only [hy3, hE3, hF3]
      rw [cnF he2, cnF he2]
      obtain ⟨xc, c1, ⟨q3, hc⟩, c3⟩ := f123 hs (m := 2) (n := 16) (fun f h0 h1 => and_bt8 h0 h1 1 (by decide)) (fun f h0 h1 => and_bt8 h0 h1 4 (by decide)) hFb (by omega) (Mk.mk' (E := E) (Fl := R.2.1) hr3)
      rw [bnd c1]
      unfold gP3
      have hX := gAl_ok (m := 2) (n := 16) R.2.1 [] 0 R.2.2 (fun v hv => by cases hv)
      generalize gAl 2 16 R.2.1 [] 0 R.2.2 = X at *
      by_cases he3 : X.1 = 0
      · obtain ⟨⟨y4, hy4, hr4⟩, hE4, hF4⟩ := c3 he3
        simp only [hy4, hE4, hF4]
        rw [cnF he3, cnF he3]
        obtain ⟨xd, d1, ⟨q4, hd⟩, d3⟩ := f123 hs (m := 4) (n := 32) (fun f h0 h1 => and_bt8 h0 h1 2 (by decide)) (fun f h0 h1 => and_bt8 h0 h1 5 (by decide)) hFb (by omega) (Mk.mk' (E := E) (Fl := R.2.1) hr4)
        rw [bnd d1]
        unfold gP4
        have hY := gAl_ok (m := 4) (n := 32) R.2.1 [] 0 X.2.2 (fun v hv => by cases hv)
        generalize gAl 4 32 R.2.1 [] 0 X.2.2 = Y at *
        by_cases he4 : Y.1 = 0
        · obtain ⟨⟨y5, hy5, hr5⟩, hE5, hF5⟩ := d3 he4
          simp only [hy5, hE5, hF5]
          rw [cnF he4, cnF he4, F124_eq]
          simp only
          have hl := l124_0 (y := y5) (E := E) (xs := X.2.1) (ys := Y.2.1) (Fl := R.2.1) hFb (by simpa using (hX he3).1) (by simpa using (hY he4).1) (by omega) (z := z) (by omega) (by omega) E [] 0 [] rfl k2 rfl
          rw [show L124_0 (S132.mk (some y5) E R.2.1) X.2.1 Y.2.1 [] 0 E (E.length : Int) 0 = _ from hl]
          exact ⟨_, rfl⟩
        · obtain ⟨⟨y5, hy5, hr5⟩, hE5, hF5⟩ := hd
          simp only [hy5, hE5, hF5]
          rw [cnT he4, cnT he4]
          exact ⟨_, rfl⟩
      · obtain ⟨⟨y4, hy4, hr4⟩, hE4, hF4⟩ := hc
        simp only [hy4, hE4, hF4]
        rw [cnT he3, cnT he3]
        exact ⟨_, rfl⟩
    · obtain ⟨⟨y3, hy3, hr3⟩, hE3, hF3⟩ := hb
      simp only [hy3, hE3, hF3]
      rw [cnT he2, cnT he2]
      exact ⟨_, rfl⟩
  · obtain ⟨⟨y2, hy2, hr2⟩, hE2, hF2⟩ := ha
    simp only [hy2, hE2, hF2]
    rw [cnT he, cnT he]
    exact ⟨_, rfl⟩
theorem l31_0 {n : Nat} (h1 : 1 ≤ n) (hn : n ≤ 256) : ∀ (d i : Nat) (x : S139) (last : Int) (E : List Int) (q : Q), d + i = n → RdR s x q → E.length = i → Up (-1) E last → last ≤ 65535 →
    L31_0 x (n : Int) E last (i : Int) = some (cond (gE (gEnds d last E q) != 0) ([], gE (gEnds d last E q)) (gP2 (gEnds d last E q).2.1 ((gEnds d last E q).2.2.1 + 1).toNat (gSkip (gEnds d last E q).2.2.2)))
  | 0, i, x, last, E, q, h, hr, hE, hu, h2 => by
    have hz1 := hu.le
    rw [L31_0_eq, gEnds_0, cF (by omega), wr64 (n := last + 1) (by omega) (by omega)]
    by_cases hl : last ≥ 4096
    · have e : gE (0, E, last, q) = 6 := by unfold gE; rw [cnF rfl, cT hl]
      rw [cT (by omega), e]; rfl
    · have e : gE (0, E, last, q) = cond (gSkip q).2 3 0 := by unfold gE; rw [cnF rfl, cF hl]
      obtain ⟨y3, a3, b3⟩ := f77 hs hr (n := 2) (by omega)
      have a3 : F77 x 2 = _ := a3
      have e3 := n2 hr.byt
      obtain ⟨k, hk⟩ := Int.eq_ofNat_of_zero_le e3.1
      rw [cF (by omega), bnd a3, wr64 (n := (num 2 q).1) (by omega) (by omega), e, hk]
      obtain ⟨t, y4, a4, _, b4⟩ := f76 hs b3 (n := k) (by omega)
      rw [bnd a4]
      have hg : gSkip q = (tk k (num 2 q).2).2 := by unfold gSkip; rw [hk, Int.toNat_natCast]
      rw [← hg] at b4
      show cond y4.f2 _ _ = _
      rw [b4.2.1]
      show _ = some (cond (cond (gSkip q).2 (3 : Int) 0 != 0) ([], cond (gSkip q).2 (3 : Int) 0) (gP2 E (last + 1).toNat (gSkip q)))
      cases (gSkip q).2
      · simp only [cond_false]
        rw [cnF rfl]
        obtain ⟨m, hm⟩ := Int.eq_ofNat_of_zero_le (a := last + 1) (by omega)
        rw [hm, Int.toNat_natCast, F78_eq]
        generalize gSkip q = q2 at *
        obtain ⟨r, xb, b1, b3⟩ := l78 hs (n := m) (by omega) (m + 1) y4 [] q2 b4 (by simp) (by simp)
        rw [bnd b1]
        unfold gP2
        have hbF := gFl_ok (n := m) (m + 1) [] q2 b4.byt Byt.nil (by simp) (by simp)
        generalize gFl (m + 1) m [] q2 = R at *
        by_cases he2 : R.1 = 0
        · obtain ⟨rfl, hr3⟩ := b3 he2
          obtain ⟨hFl, hFb⟩ := hbF he2
          simp only
          rw [cnF he2, cnF he2]
          obtain ⟨xc, c1, c3⟩ := f79 hs (m := 2) (n := 16) (by decide) (by decide) hFb (by omega) hr3
          rw [bnd c1]
          unfold gP3
          have hX := gAl_ok (m := 2) (n := 16) R.2.1 [] 0 R.2.2 (fun v hv => by cases hv)
          generalize gAl 2 16 R.2.1 [] 0 R.2.2 = X at *
          by_cases he3 : X.1 = 0
          · simp only
            rw [cnF he3, cnF he3]
            obtain ⟨xd, d1, d3⟩ := f79 hs (m := 4) (n := 32) (by decide) (by decide) hFb (by omega) (c3 he3)
            rw [bnd d1]
            unfold gP4
            have hY := gAl_ok (m := 4) (n := 32) R.2.1 [] 0 X.2.2 (fun v hv => by cases hv)
            generalize gAl 4 32 R.2.1 [] 0 X.2.2 = Y at *
            by_cases he4 : Y.1 = 0
            · simp only
              rw [cnF he4, cnF he4]
              have hll := l31_1 (E := E) (xs := X.2.1) (ys := Y.2.1) (Fl := R.2.1) hFb (by simpa using (hX he3).1) (by simpa using (hY he4).1) (by omega) (z := last) (by omega) (by omega) E [] 0 [] rfl hu rfl
              rw [show E.length = n by omega] at hll
              exact hll
            · simp only
              rw [cnT he4, cnT he4]
          · simp only
            rw [cnT he3, cnT he3]
        · simp only
          rw [cnT he2, cnT he2]
      · rfl
  | d + 1, i, x, last, E, q, h, hr, hE, hu, h2 => by
    have hz1 := hu.le
    obtain ⟨y2, a2, b2⟩ := f77 hs hr (n := 2) (by omega)
    have a2 : F77 x 2 = _ := a2
    have e2 := n2 hr.byt
    rw [L31_0_eq, gEnds_s, cT (by omega), bnd a2, wr64 (n := (num 2 q).1) (by omega) (by omega)]
    by_cases hl : (num 2 q).1 ≤ last
    · rw [cT hl, cT hl]; rfl
    · rw [cF hl, cF hl, fit_p (by simp; omega), inc (by omega)]
      exact l31_0 h1 hn d (i + 1) _ _ _ _ (by omega) b2 (by simp; omega) (hu.snoc (by omega)) (by omega)
end
def gPar (l : List Int) : CS × Int := cond (decide (l = [])) ([], 0) (cond (tk 8 (num 2 (l, false)).2).2.2 ([], 3) (cond (decide (s16 (num 2 (l, false)).1 < 0)) ([], 4) (cond (decide (s16 (num 2 (l, false)).1 > 256)) ([], 6) (cond (s16 (num 2 (l, false)).1 == 0) ([], 0) (gP1 (s16 (num 2 (l, false)).1).toNat (tk 8 (num 2 (l, false)).2).2)))))
section
variable {s : ByteArray} (hs : s.size ≤ 1000000000)
include hs
theorem f30 : F30 s = some (gPar (strBytes s)) := by
  have hr : RdP s (S192.mk s 0 false) (strBytes s, false) := ⟨rfl, rfl, 0, rfl, by omega, rfl⟩
  have e2 := r2 hr.byt
  obtain ⟨y2, a2, b2⟩ := f71 hs hr
  obtain ⟨y3, a3, b3⟩ := f72 hs b2 (n := 8) (by omega) (by omega)
  have b3 : RdP s y3 (tk 8 (num 2 (strBytes s, false)).2).2 := b3
  rw [F30_eq, by_eq, by_empty, F70_eq]
  simp only [Option.bind_some]
  unfold gPar
  by_cases h0 : strBytes s = []
  · rw [cT h0, cT h0]
  · rw [cF h0, cF h0, bnd a2, bnd a3, bnd (f73 b3)]
    generalize s16 (num 2 (strBytes s, false)).1 = k at *
    generalize (tk 8 (num 2 (strBytes s, false)).2).2 = q at *
    cases hb : q.2
    · simp only [cond_false]
      rw [cnF rfl, wr64 (by omega) (by omega)]
      by_cases h1 : k < 0
      · rw [cT h1, cT h1]
      · by_cases h2 : k > 256
        · rw [cF h1, cF h1, cT h2, cT h2]
        · rw [cF h1, cF h1, cF h2, cF h2]
          by_cases h3 : k = 0
          · rw [ceT h3, ceT h3]
          · rw [ceF h3, ceF h3]
            obtain ⟨n, rfl⟩ := Int.eq_ofNat_of_zero_le (a := k) (by omega)
            obtain ⟨x', hx⟩ := f74 hs (n := n) (by omega) (by omega) b3
            rw [bnd hx, Int.toNat_natCast]
            cases x'.f0 <;> rfl
    · rfl
theorem f31 : F31 s = some (gPar (strBytes s)) := by
  have hr : RdR s (S139.mk s 0 false) (strBytes s, false) := ⟨rfl, rfl, 0, rfl, by omega, rfl⟩
  have e2 := r2 hr.byt
  obtain ⟨y2, a2, b2⟩ := f75 hs hr
  obtain ⟨t, y3, a3, _, b3⟩ := f76 hs b2 (n := 8) (by omega)
  have a3 : F76 y2 8 = _ := a3
  rw [F31_eq, by_eq, by_empty]
  unfold gPar
  by_cases h0 : strBytes s = []
  · rw [cT h0, cT h0]
  · rw [cF h0, cF h0, bnd a2, bnd a3]
    generalize s16 (num 2 (strBytes s, false)).1 = k at *
    generalize (tk 8 (num 2 (strBytes s, false)).2).2 = q at *
    simp only
    rw [b3.2.1]
    cases hb : q.2
    · simp only [cond_false]
      by_cases h1 : k < 0
      · rw [cT h1, cT h1]
      · by_cases h2 : k > 256
        · rw [cF h1, cF h1, cT h2, cT h2]
        · rw [cF h1, cF h1, cF h2, cF h2]
          by_cases h3 : k = 0
          · rw [ceT h3, ceT h3]
          · rw [ceF h3, ceF h3]
            obtain ⟨n, rfl⟩ := Int.eq_ofNat_of_zero_le (a := k) (by omega)
            have hl := b3.left
            have b3' := b3
            obtain ⟨_, _, a, ha1, ha, _⟩ := b3'
            rw [wr64 (n := (s.size : Int) - y3.f1) (by omega) (by omega), wr64 (by omega) (by omega), Int.toNat_natCast]
            unfold gP1 gPl
            by_cases hc : q.1.length < 2 * n
            · rw [cT (by omega), cT hc]; rfl
            · rw [cF (by omega), cF hc]
              exact l31_0 hs (n := n) (by omega) (by omega) n 0 y3 (-1) [] q (by omega) b3 rfl rfl (by omega)
    · rfl
end
end Go.Proofs.Ytalghbndblgndaa.Ev
