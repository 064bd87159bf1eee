/- Is there a corner between two edges that may be: layer 22 and its reference. -/
import Derived.Test.YtalgppclaolonaaXColrCornM
import Derived.Test.YtalgppclaolonaaXColrWideS
import Derived.Test.YtalgppclaolonaaXColrWideC
import Derived.Test.YtalgppclaolonaaXColrRef01T
import Derived.Test.YtalgppclaolonaaXColrx3
import Derived.Test.YtalgppclaolonaaXColrx6
import Derived.Test.YtalgppclaolonaaXColrx7
import Derived.Test.YtalgppclaolonaaXColrx14
import Derived.Test.YtalgppclaolonaaXColrx15

namespace Go.Proofs.Ytalgppclaolonaa.XColr
open Go.RowKit Go.Proofs.Ytalgppclaolonaa.XM Go.Proofs.Ytalgppclaolonaa.NumM Go.Proofs.YtalgppclaolonaaW.PrintWords Go.Proofs.YtalgppclaolonaaW.PrintLast Go.Proofs.YtalgppclaolonaaW.PrintMore
set_option linter.unusedVariables false
set_option linter.unusedSimpArgs false

def fst (e : S38) : S36 := if (e.f1 && !(pe e.f3 e.f2)) = true then ⟨e.f3.f0 - e.f2.f0, e.f3.f1 - e.f2.f1⟩ else ⟨e.f4.f0 - e.f2.f0, e.f4.f1 - e.f2.f1⟩
def lst (e : S38) : S36 := if (e.f1 && !(pe e.f3 e.f4)) = true then ⟨e.f4.f0 - e.f3.f0, e.f4.f1 - e.f3.f1⟩ else ⟨e.f4.f0 - e.f2.f0, e.f4.f1 - e.f2.f1⟩
def Way (p : S36) : Prop := (-67108864 ≤ p.f0 ∧ p.f0 ≤ 67108864) ∧ (-67108864 ≤ p.f1 ∧ p.f1 ≤ 67108864)
theorem fines {e : S38} (h : One e = true) : Fine e.f2 ∧ Fine e.f3 ∧ Fine e.f4 := by
  simp only [One, Bool.and_eq_true, decide_eq_true_eq] at h
  exact ⟨h.1.1.1.1, h.1.1.1.2, h.1.1.2⟩
theorem fst_way {e : S38} (h : One e = true) : Way (fst e) := by
  obtain ⟨h1, h2, h3⟩ := fines h
  unfold Fine at *
  unfold fst Way
  split <;> simp only <;> omega
theorem lst_way {e : S38} (h : One e = true) : Way (lst e) := by
  obtain ⟨h1, h2, h3⟩ := fines h
  unfold Fine at *
  unfold lst Way
  split <;> simp only <;> omega
theorem way_f {p q : S36} (hp : Fine p) (hq : Fine q) : corner_way.f p.f0 p.f1 q.f0 q.f1 = some (q.f0 - p.f0, q.f1 - p.f1) := by
  unfold Fine at *
  unfold corner_way.f; rw [w64 (by omega) (by omega), w64 (by omega) (by omega)]
theorem rway_f {p q : S36} (hp : Fine p) (hq : Fine q) : pochoirref22_way.f p.f0 p.f1 q.f0 q.f1 = some (q.f0 - p.f0, q.f1 - p.f1) := way_f hp hq
theorem cfirst_ev {e : S38} (h : One e = true) : Ev (fun k => corner_first.f k e.f0 e.f1 e.f2.f0 e.f2.f1 e.f3.f0 e.f3.f1 e.f4.f0 e.f4.f1) ((fst e).f0, (fst e).f1) := by
  obtain ⟨h1, h2, h3⟩ := fines h
  have J : ∀ b q : Bool, Ev (fun k => corner_first.j0 k b e.f0 q e.f2.f0 e.f2.f1 e.f3.f0 e.f3.f1 e.f4.f0 e.f4.f1) (if b then (e.f3.f0 - e.f2.f0, e.f3.f1 - e.f2.f1) else (e.f4.f0 - e.f2.f0, e.f4.f1 - e.f2.f1)) := by
    intro b q
    refine Ev.step (fun k => by rw [corner_first.j0]) ?_
    cases b
    · simp only [Bool.false_eq_true, if_false, way_f h1 h3, Option.bind_some]; exact Ev.now _
    · simp only [if_true, way_f h1 h2, Option.bind_some]; exact Ev.now _
  unfold corner_first.f fst
  rw [pe_not]
  cases e.f1
  · simpa using J false false
  · simp only [if_true, Bool.true_and]
    refine Ev.eq (J _ true) ?_
    cases pe e.f3 e.f2 <;> simp
theorem clast_ev {e : S38} (h : One e = true) : Ev (fun k => corner_last.f k e.f0 e.f1 e.f2.f0 e.f2.f1 e.f3.f0 e.f3.f1 e.f4.f0 e.f4.f1) ((lst e).f0, (lst e).f1) := by
  obtain ⟨h1, h2, h3⟩ := fines h
  have J : ∀ b q : Bool, Ev (fun k => corner_last.j0 k b e.f0 q e.f2.f0 e.f2.f1 e.f3.f0 e.f3.f1 e.f4.f0 e.f4.f1) (if b then (e.f4.f0 - e.f3.f0, e.f4.f1 - e.f3.f1) else (e.f4.f0 - e.f2.f0, e.f4.f1 - e.f2.f1)) := by
    intro b q
    refine Ev.step (fun k => by rw [corner_last.j0]) ?_
    cases b
    · simp only [Bool.false_eq_true, if_false, way_f h1 h3, Option.bind_some]; exact Ev.now _
    · simp only [if_true, way_f h2 h3, Option.bind_some]; exact Ev.now _
  unfold corner_last.f lst
  rw [pe_not]
  cases e.f1
  · simpa using J false false
  · simp only [if_true, Bool.true_and]
    refine Ev.eq (J _ true) ?_
    cases pe e.f3 e.f4 <;> simp
theorem rfirst_f {e : S38} (h : One e = true) : pochoirref22_First.f e.f0 e.f1 e.f2.f0 e.f2.f1 e.f3.f0 e.f3.f1 e.f4.f0 e.f4.f1 = some ((fst e).f0, (fst e).f1) := by
  obtain ⟨h1, h2, h3⟩ := fines h
  unfold pochoirref22_First.f pochoirref20_Next.f fst
  rw [pe_not]
  cases e.f1
  · simp [rway_f h1 h3]
  · cases pe e.f3 e.f2
    · simp [rway_f h1 h2]
    · simp [rway_f h1 h3]
theorem rlast_f {e : S38} (h : One e = true) : pochoirref22_Last.f e.f0 e.f1 e.f2.f0 e.f2.f1 e.f3.f0 e.f3.f1 e.f4.f0 e.f4.f1 = some ((lst e).f0, (lst e).f1) := by
  obtain ⟨h1, h2, h3⟩ := fines h
  unfold pochoirref22_Last.f pochoirref20_Ahead.f lst
  rw [pe_not]
  cases e.f1
  · simp [rway_f h1 h3]
  · cases pe e.f3 e.f4
    · simp [rway_f h2 h3]
    · simp [rway_f h1 h3]
def dt (a b : S36) : Int := a.f0 * b.f0 + a.f1 * b.f1
def cs (a b : S36) : Int := a.f0 * b.f1 - a.f1 * b.f0
theorem prods {a b : S36} (ha : Way a) (hb : Way b) : (-4503599627370496 ≤ a.f0 * b.f0 ∧ a.f0 * b.f0 ≤ 4503599627370496) ∧ (-4503599627370496 ≤ a.f1 * b.f1 ∧ a.f1 * b.f1 ≤ 4503599627370496) ∧
    (-4503599627370496 ≤ a.f0 * b.f1 ∧ a.f0 * b.f1 ≤ 4503599627370496) ∧ (-4503599627370496 ≤ a.f1 * b.f0 ∧ a.f1 * b.f0 ≤ 4503599627370496) := by
  obtain ⟨⟨a0, a1⟩, ⟨a2, a3⟩⟩ := ha
  obtain ⟨⟨b0, b1⟩, ⟨b2, b3⟩⟩ := hb
  have h1 := mul_bd a0 a1 b0 b1
  have h2 := mul_bd a2 a3 b2 b3
  have h3 := mul_bd a0 a1 b2 b3
  have h4 := mul_bd a2 a3 b0 b1
  omega
theorem times_f {a b : S36} (ha : Way a) (hb : Way b) : corner_times.f a.f0 a.f1 b.f0 b.f1 = some (dt a b) := by
  obtain ⟨h1, h2, h3, h4⟩ := prods ha hb
  unfold corner_times.f dt
  rw [w64 (n := a.f0 * b.f0) (by omega) (by omega), w64 (n := a.f1 * b.f1) (by omega) (by omega), w64 (by omega) (by omega)]
theorem cross_f {a b : S36} (ha : Way a) (hb : Way b) : corner_times.f a.f0 a.f1 b.f1 (wrap64 (-b.f0)) = some (cs a b) := by
  have hb' : Way ⟨b.f1, -b.f0⟩ := by unfold Way at *; simp only; omega
  have g := times_f ha hb'
  simp only at g
  rw [w64 (n := -b.f0) (by unfold Way at hb; omega) (by unfold Way at hb; omega), g]
  unfold dt cs; simp only
  rw [show a.f1 * -b.f0 = -(a.f1 * b.f0) by grind]; rfl
def absI (x : Int) : Int := if x < 0 then -x else x
theorem abs_sq (x : Int) : absI x * absI x = x * x := by unfold absI; split <;> grind
theorem abs_mx {x : Int} (h0 : -9007199254740992 ≤ x) (h1 : x ≤ 9007199254740992) : IntKind.u64.wrap (mx x (wrap64 (-x))) = absI x := by
  rw [w64 (n := -x) (by omega) (by omega)]
  unfold mx absI
  split
  · rw [wu64 (by omega) (by omega)]; split <;> omega
  · rw [wu64 (by omega) (by omega)]; split <;> omega
theorem digs22 {n : Int} (h0 : -36028797018963968 ≤ n) (h1 : n ≤ 36028797018963968) : Ev (fun k => pochoirref22_digits.f k n) (digs 0 (absI n)) := by
  unfold pochoirref22_digits.f
  by_cases c : n < 0
  · simp only [if_pos c]
    rw [w64 (n := -n) (by omega) (by omega), wu64 (by omega) (by omega), show absI n = -n by unfold absI; rw [if_pos c]]
    exact Ev.bind (rdigits_ev (Int.le_refl 0) (by omega)) (Ev.now _)
  · simp only [if_neg c]
    rw [wu64 (by omega) (by omega), show absI n = n by unfold absI; rw [if_neg c]]
    exact Ev.bind (rdigits_ev (Int.le_refl 0) (by omega)) (Ev.now _)
theorem val0 {n : Int} (h : Word n) : val (digs 0 n) = n := by
  rw [digs_val (Int.le_refl 0) (by decide) h.1 h.2]; unfold wide; omega
/-- The corner's rule. -/
def isC (e f : S38) : Bool := decide (dt (lst e) (fst f) ≤ 0) || decide (cs (lst e) (fst f) * cs (lst e) (fst f) * 50 > dt (lst e) (lst e) * dt (fst f) (fst f))
theorem sq_le {x : Int} (h0 : -9007199254740992 ≤ x) (h1 : x ≤ 9007199254740992) : 0 ≤ x * x ∧ x * x ≤ 81129638414606681695789005144064 := by
  have := mul_bd (x := x) (y := x) (M := 9007199254740992) (N := 9007199254740992) (by omega) h1 (by omega) h1
  have := sq_nn x
  omega
theorem cis_ev {e f : S38} (he : One e = true) (hf : One f = true) : Ev (fun k => corner_is.f k e.f0 e.f1 e.f2.f0 e.f2.f1 e.f3.f0 e.f3.f1 e.f4.f0 e.f4.f1 f.f0 f.f1 f.f2.f0 f.f2.f1 f.f3.f0 f.f3.f1 f.f4.f0 f.f4.f1) (isC e f) := by
  have wa := lst_way he
  have wb := fst_way hf
  unfold corner_is.f isC
  refine Ev.bind (clast_ev he) ?_
  refine Ev.bind (cfirst_ev hf) ?_
  generalize lst e = a at *
  generalize fst f = b at *
  simp only [times_f wa wb, times_f wa wa, times_f wb wb, cross_f wa wb, Option.bind_some]
  by_cases c : dt a b ≤ 0
  · simp only [if_pos c, decide_eq_true c, Bool.true_or]; exact Ev.now _
  · simp only [if_neg c, decide_eq_false c, Bool.false_or]
    have pab := prods wa wb
    have paa := prods wa wa
    have pbb := prods wb wb
    have x0 : -9007199254740992 ≤ cs a b := by unfold cs; omega
    have x1 : cs a b ≤ 9007199254740992 := by unfold cs; omega
    have xs := sq_le x0 x1
    have d0 : 0 ≤ dt a a := by unfold dt; have := sq_nn a.f0; have := sq_nn a.f1; omega
    have d1 : dt a a ≤ 9007199254740992 := by unfold dt; omega
    have d2 : 0 ≤ dt b b := by unfold dt; have := sq_nn b.f0; have := sq_nn b.f1; omega
    have d3 : dt b b ≤ 9007199254740992 := by unfold dt; omega
    have wx : Word (absI (cs a b)) := by unfold absI Word; split <;> omega
    have w50 : Word 50 := by unfold Word; omega
    have wd1 : Word (dt a a) := ⟨d0, by omega⟩
    have wd2 : Word (dt b b) := ⟨d2, by omega⟩
    have xm := abs_sq (cs a b)
    rw [abs_mx x0 x1, wmul_f wx wx, xm]
    simp only [Option.bind_some]
    have sc := wscale_f (hi_word xs.1 (by omega)) (lo_word (cs a b * cs a b)) w50
    rw [wide_split, if_pos (by omega)] at sc
    have dd := word_mul wd1 wd2
    rw [sc, wu64 d0 (by omega), wu64 d2 (by omega), wmul_f wd1 wd2]
    simp only [Option.bind_some]
    have cm := wcmp_ev (h := hi_ (cs a b * cs a b * 50)) (h' := hi_ (dt a a * dt b b)) (lo_word (cs a b * cs a b * 50)) (lo_word (dt a a * dt b b))
    rw [wide_split, wide_split] at cm
    refine Ev.bind cm (Ev.some ?_)
    unfold cmpI
    congr 1
    apply propext
    split
    · constructor <;> intro h <;> omega
    · split <;> constructor <;> intro h <;> omega
theorem ris_ev {e f : S38} (he : One e = true) (hf : One f = true) : Ev (fun k => pochoirref22_Is.f k e.f0 e.f1 e.f2.f0 e.f2.f1 e.f3.f0 e.f3.f1 e.f4.f0 e.f4.f1 f.f0 f.f1 f.f2.f0 f.f2.f1 f.f3.f0 f.f3.f1 f.f4.f0 f.f4.f1) (isC e f) := by
  have wa := lst_way he
  have wb := fst_way hf
  unfold pochoirref22_Is.f isC
  rw [rlast_f he, rfirst_f hf]
  generalize lst e = a at *
  generalize fst f = b at *
  simp only [Option.bind_some]
  have pab := prods wa wb
  have paa := prods wa wa
  have pbb := prods wb wb
  have e1 : wrap64 (wrap64 (a.f0 * b.f0) + wrap64 (a.f1 * b.f1)) = dt a b := by have := times_f wa wb; unfold corner_times.f at this; exact Option.some.inj this
  have e2 : wrap64 (wrap64 (a.f0 * a.f0) + wrap64 (a.f1 * a.f1)) = dt a a := by have := times_f wa wa; unfold corner_times.f at this; exact Option.some.inj this
  have e3 : wrap64 (wrap64 (b.f0 * b.f0) + wrap64 (b.f1 * b.f1)) = dt b b := by have := times_f wb wb; unfold corner_times.f at this; exact Option.some.inj this
  have e4 : wrap64 (wrap64 (a.f0 * b.f1) - wrap64 (a.f1 * b.f0)) = cs a b := by
    rw [w64 (n := a.f0 * b.f1) (by omega) (by omega), w64 (n := a.f1 * b.f0) (by omega) (by omega), w64 (by omega) (by omega)]; rfl
  rw [e1, e2, e3, e4]
  clear e1 e2 e3 e4
  by_cases c : dt a b ≤ 0
  · simp only [if_pos c, decide_eq_true c, Bool.true_or]; exact Ev.now _
  · simp only [if_neg c, decide_eq_false c, Bool.false_or]
    have x0 : -9007199254740992 ≤ cs a b := by unfold cs; omega
    have x1 : cs a b ≤ 9007199254740992 := by unfold cs; omega
    have d0 : 0 ≤ dt a a := by unfold dt; have := sq_nn a.f0; have := sq_nn a.f1; omega
    have d1 : dt a a ≤ 9007199254740992 := by unfold dt; omega
    have d2 : 0 ≤ dt b b := by unfold dt; have := sq_nn b.f0; have := sq_nn b.f1; omega
    have d3 : dt b b ≤ 9007199254740992 := by unfold dt; omega
    have wx : Word (absI (cs a b)) := by unfold absI Word; split <;> omega
    have w50 : Word 50 := by unfold Word; omega
    have wd1 : Word (dt a a) := ⟨d0, by omega⟩
    have wd2 : Word (dt b b) := ⟨d2, by omega⟩
    have a50 : absI 50 = 50 := rfl
    have a1 : absI (dt a a) = dt a a := by unfold absI; rw [if_neg (by omega)]
    have a2 : absI (dt b b) = dt b b := by unfold absI; rw [if_neg (by omega)]
    refine Ev.bind (digs22 (n := cs a b) (by omega) (by omega)) ?_
    obtain ⟨r1, f1, f2, f3, f4⟩ := rtimes_ev (digs_dig 0 (absI (cs a b))) (digs_dig 0 (absI (cs a b))) (by rw [digs_len]; omega) (by rw [digs_len]; omega)
    refine Ev.bind f1 ?_
    refine Ev.bind (digs22 (n := 50) (by omega) (by omega)) ?_
    obtain ⟨r2, g1, g2, g3, g4⟩ := rtimes_ev f2 (digs_dig 0 (absI 50)) (by rw [f3, digs_len]; omega) (by rw [digs_len]; omega)
    refine Ev.bind g1 ?_
    refine Ev.bind (digs22 (n := dt a a) (by omega) (by omega)) ?_
    refine Ev.bind (digs22 (n := dt b b) (by omega) (by omega)) ?_
    obtain ⟨r3, i1, i2, i3, i4⟩ := rtimes_ev (digs_dig 0 (absI (dt a a))) (digs_dig 0 (absI (dt b b))) (by rw [digs_len]; omega) (by rw [digs_len]; omega)
    refine Ev.bind i1 ?_
    refine Ev.bind (rless_ev g2 i2 (by rw [g3, f3, digs_len, digs_len]; omega) (by rw [i3, digs_len, digs_len]; omega)) (Ev.some ?_)
    rw [g4, f4, i4, val0 wx, abs_sq, a50, val0 w50, a1, a2, val0 wd1, val0 wd2]
    unfold cmpI
    congr 1
    apply propext
    split
    · constructor <;> intro h <;> omega
    · split <;> constructor <;> intro h <;> omega

end Go.Proofs.Ytalgppclaolonaa.XColr
