/- Corners: what layer 22 answers. -/
import Derived.Test.YtalgppclaolonaaEvWide
import Derived.Test.YtalgppclaolonaaEvEdge
namespace Go.Proofs.Ytalgppclaolonaa.Ev
open Go
set_option linter.unusedVariables false
set_option linter.unusedSimpArgs false
def fst (e : S38) : S36 := if (e.f1 && !(pe e.f3 e.f2)) = true then ⟨e.f3.f0 - e.f2.f0, e.f3.f1 - e.f2.f1⟩ else ⟨e.f4.f0 - e.f2.f0, e.f4.f1 - e.f2.f1⟩
def lst (e : S38) : S36 := if (e.f1 && !(pe e.f3 e.f4)) = true then ⟨e.f4.f0 - e.f3.f0, e.f4.f1 - e.f3.f1⟩ else ⟨e.f4.f0 - e.f2.f0, e.f4.f1 - e.f2.f1⟩
def Way (p : S36) : Prop := (-67108864 ≤ p.f0 ∧ p.f0 ≤ 67108864) ∧ (-67108864 ≤ p.f1 ∧ p.f1 ≤ 67108864)
theorem fines {e : S38} (h : OneE e = true) : Fine e.f2 ∧ Fine e.f3 ∧ Fine e.f4 := by
  simp only [OneE, Bool.and_eq_true, decide_eq_true_eq] at h
  exact ⟨h.1.1.1.1, h.1.1.1.2, h.1.1.2⟩
theorem fst_way {e : S38} (h : OneE e = true) : Way (fst e) := by
  obtain ⟨h1, h2, h3⟩ := fines h
  unfold Fine at *
  unfold fst Way
  split <;> simp only <;> omega
theorem lst_way {e : S38} (h : OneE e = true) : Way (lst e) := by
  obtain ⟨h1, h2, h3⟩ := fines h
  unfold Fine at *
  unfold lst Way
  split <;> simp only <;> omega
theorem way_f {p q : S36} (hp : Fine p) (hq : Fine q) : F102 p q = some ⟨q.f0 - p.f0, q.f1 - p.f1⟩ := by
  unfold Fine at *
  rw [F102_eq, show wr .i64 (q.f0 - p.f0) = q.f0 - p.f0 from w64 (by omega) (by omega), show wr .i64 (q.f1 - p.f1) = q.f1 - p.f1 from w64 (by omega) (by omega)]
theorem cfirst_f {e : S38} (h : OneE e = true) : F66 e = some (fst e) := by
  obtain ⟨h1, h2, h3⟩ := fines h
  rw [F66_eq, pe_def, L66_0_eq, L66_1_eq, way_f h1 h3, way_f h1 h2]
  unfold fst
  cases e.f1 <;> cases pe e.f3 e.f2 <;> rfl
theorem clast_f {e : S38} (h : OneE e = true) : F67 e = some (lst e) := by
  obtain ⟨h1, h2, h3⟩ := fines h
  rw [F67_eq, pe_def, L67_0_eq, L67_1_eq, way_f h1 h3, way_f h2 h3]
  unfold lst
  cases e.f1 <;> cases pe e.f3 e.f4 <;> rfl
def dt (a b : S36) : Int := a.f0 * b.f0 + a.f1 * b.f1
def cs (a b : S36) : Int := a.f0 * b.f1 - a.f1 * b.f0
theorem prods {a b : S36} (ha : Way a) (hb : Way b) : (-4503599627370496 ≤ a.f0 * b.f0 ∧ a.f0 * b.f0 ≤ 4503599627370496) ∧ (-4503599627370496 ≤ a.f1 * b.f1 ∧ a.f1 * b.f1 ≤ 4503599627370496) ∧
    (-4503599627370496 ≤ a.f0 * b.f1 ∧ a.f0 * b.f1 ≤ 4503599627370496) ∧ (-4503599627370496 ≤ a.f1 * b.f0 ∧ a.f1 * b.f0 ≤ 4503599627370496) := by
  obtain ⟨⟨a0, a1⟩, ⟨a2, a3⟩⟩ := ha
  obtain ⟨⟨b0, b1⟩, ⟨b2, b3⟩⟩ := hb
  have h1 := mul_bd a0 a1 b0 b1
  have h2 := mul_bd a2 a3 b2 b3
  have h3 := mul_bd a0 a1 b2 b3
  have h4 := mul_bd a2 a3 b0 b1
  omega
theorem times_f {a b : S36} (ha : Way a) (hb : Way b) : F89 a b = some (dt a b) := by
  obtain ⟨h1, h2, h3, h4⟩ := prods ha hb
  rw [F89_eq]
  unfold dt
  rw [show wr .i64 (a.f0 * b.f0) = a.f0 * b.f0 from w64 (by omega) (by omega), show wr .i64 (a.f1 * b.f1) = a.f1 * b.f1 from w64 (by omega) (by omega), show wr .i64 (a.f0 * b.f0 + a.f1 * b.f1) = a.f0 * b.f0 + a.f1 * b.f1 from w64 (by omega) (by omega)]
theorem cross_f {a b : S36} (ha : Way a) (hb : Way b) : F89 a ⟨b.f1, wr .i64 (0 - b.f0)⟩ = some (cs a b) := by
  have hb' : Way ⟨b.f1, 0 - b.f0⟩ := by unfold Way at *; simp only; omega
  rw [show wr .i64 (0 - b.f0) = 0 - b.f0 from w64 (by unfold Way at hb; omega) (by unfold Way at hb; omega), times_f ha hb']
  unfold dt cs; simp only
  rw [show a.f1 * (0 - b.f0) = -(a.f1 * b.f0) by grind]; rfl
def absI (x : Int) : Int := if x < 0 then -x else x
theorem abs_sq (x : Int) : absI x * absI x = x * x := by unfold absI; split <;> grind
theorem abs_mx {x : Int} (h0 : -9007199254740992 ≤ x) (h1 : x ≤ 9007199254740992) : wr .u64 (mxE x (wr .i64 (0 - x))) = absI x := by
  rw [show wr .i64 (0 - x) = 0 - x from w64 (by omega) (by omega)]
  unfold mxE absI wr
  split
  · rw [wu64 (by omega) (by omega)]; split <;> omega
  · rw [wu64 (by omega) (by omega)]; split <;> omega
/-- The corner's rule. -/
def isC (e f : S38) : Bool := decide (dt (lst e) (fst f) ≤ 0) || decide (cs (lst e) (fst f) * cs (lst e) (fst f) * 50 > dt (lst e) (lst e) * dt (fst f) (fst f))
theorem sq_le {x : Int} (h0 : -9007199254740992 ≤ x) (h1 : x ≤ 9007199254740992) : 0 ≤ x * x ∧ x * x ≤ 81129638414606681695789005144064 := by
  have := mul_bd (x := x) (y := x) (M := 9007199254740992) (N := 9007199254740992) (by omega) h1 (by omega) h1
  have := sq_nn x
  omega
theorem cis_f {e f : S38} (he : OneE e = true) (hf : OneE f = true) : F53 e f = some (isC e f) := by
  have wa := lst_way he
  have wb := fst_way hf
  rw [F53_eq, bnd (clast_f he), bnd (cfirst_f hf)]
  unfold isC
  generalize lst e = a at *
  generalize fst f = b at *
  rw [bnd (times_f wa wb), bnd (cross_f wa wb)]
  by_cases c : dt a b ≤ 0
  · rw [cT c, decide_eq_true c]; rfl
  · rw [cF c, decide_eq_false c, Bool.false_or]
    have pab := prods wa wb
    have paa := prods wa wa
    have pbb := prods wb wb
    have x0 : -9007199254740992 ≤ cs a b := by unfold cs; omega
    have x1 : cs a b ≤ 9007199254740992 := by unfold cs; omega
    have xs := sq_le x0 x1
    have d0 : 0 ≤ dt a a := by unfold dt; have := sq_nn a.f0; have := sq_nn a.f1; omega
    have d1 : dt a a ≤ 9007199254740992 := by unfold dt; omega
    have d2 : 0 ≤ dt b b := by unfold dt; have := sq_nn b.f0; have := sq_nn b.f1; omega
    have d3 : dt b b ≤ 9007199254740992 := by unfold dt; omega
    have wx : Word (absI (cs a b)) := by unfold absI Word; split <;> omega
    have w50 : Word 50 := by unfold Word; omega
    have wd1 : Word (dt a a) := ⟨d0, by omega⟩
    have wd2 : Word (dt b b) := ⟨d2, by omega⟩
    have dd := word_mul wd1 wd2
    rw [abs_mx x0 x1, bnd (wmul_f wx wx), abs_sq, wscale_f (wd_ww xs.1 (by omega)) w50, wv_wd, if_pos (by omega), Option.bind_some, bnd (times_f wa wa), bnd (times_f wb wb), show wr .u64 (dt a a) = dt a a from wu64 d0 (by omega), show wr .u64 (dt b b) = dt b b from wu64 d2 (by omega), bnd (wmul_f wd1 wd2)]
    rw [bnd (wcmp_f (wd_ww (by omega) (by omega)) (wd_ww dd.1 dd.2)), wv_wd, wv_wd]
    unfold cmpI
    congr 1
    apply decide_eq_decide.2
    split
    · constructor <;> intro h <;> omega
    · split <;> constructor <;> intro h <;> omega
/-- An edge by itself. -/
theorem cright_f (e : S38) : F56 e = some (OneE e) := by
  rw [F56_eq, pe_def]
  have r0 := pe_rfl
  cases hp : pe e.f2 e.f4
  · rw [cond_false, bnd (emay_f _ (by simp))]
    have hp2 : pe e.f4 e.f2 = false := by rw [pe_comm]; exact hp
    have ob : OneE (⟨e.f0, false, e.f4, ⟨0, 0⟩, e.f2⟩ : S38) = (decide (Fine e.f4) && decide (Fine e.f2)) := by
      have z : decide (Fine (⟨0, 0⟩ : S36)) = true := by decide
      have s0 : same (⟨e.f0, false, e.f4, ⟨0, 0⟩, e.f2⟩ : S38) = false := by
        unfold same; simp only; rw [hp2]; rfl
      unfold OneE; rw [s0]; simp only [z, r0]; simp
    have hc : Closed ([e, ⟨e.f0, false, e.f4, ⟨0, 0⟩, e.f2⟩] : List S38) = true := by
      simp only [Closed, cl, if_true, r0, Bool.and_self]
    unfold mayE
    rw [hc]
    simp only [List.all_cons, List.all_nil, ob]
    cases ho : OneE e
    · simp
    · obtain ⟨f1, f2, f3⟩ := fines ho
      simp [f1, f3]
  · rw [cond_true, bnd (emay_f _ (by simp))]
    have hp2 : pe e.f4 e.f2 = true := by rw [pe_comm]; exact hp
    have hc : Closed ([e] : List S38) = true := hp2
    unfold mayE
    rw [hc]
    simp
theorem cIs_f (e f : S38) : F18 e f = some (if (OneE e && OneE f) = true then (isC e f, 0) else (false, 1)) := by
  rw [F18_eq, bnd (cright_f e), bnd (cright_f f), L18_0_eq]
  cases h : OneE e
  · rfl
  · cases g : OneE f
    · rfl
    · rw [cis_f h g]; rfl
end Go.Proofs.Ytalgppclaolonaa.Ev
