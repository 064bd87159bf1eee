/- The gap between a point and a curve, as a polynomial: both sides. Seat Ytnikppnfkjogdaa.ZD's numbers. -/
import Derived.Test.YtnikppnfkjogdaaGreatDoorEvPolyC
import Derived.Test.YtnikppnfkjogdaaGreatDoorEvDiv64
namespace Go.Proofs.YtnikppnfkjogdaaGreatDoor.EvP
open Go Go.Proofs.YtnikppnfkjogdaaGreatDoor.Ev Go.Proofs.YtnikppnfkjogdaaGreatDoor.NumB
set_option linter.unusedVariables false
set_option linter.unusedSimpArgs false
/-! times a power of 2: by two places -/
theorem shift_l {s : Bool} {z : S77} {l : List Int} (hd : Dig l) (hl : l.length ≤ 1000) : ∀ (d i : Nat) (out : List Int) (c : Int), d + i = l.length → out.length = i → Dig out → 0 ≤ c ∧ c < 4 → val out + c * 4294967296 ^ i = 4 * low l i →
    L96_0 2 ⟨s, l⟩ z out c l (l.length : Int) (i : Int) = some (bg (if s = true then -(4 * val l) else 4 * val l))
  | 0, i, out, c, h, ho, hD, hc, hv => by
    have e1 : wr .u32 c = c := wu32 hc.1 (by omega)
    have e2 : val (out ++ [c]) = 4 * val l := by rw [val_app, ho, hv, low_all l i (by omega)]
    rw [L96_0_eq, cF (by omega), e1, fit_p (by simp; omega), bform_f (by simp; omega) (hD.app (by omega)), e2]
    rfl
  | d + 1, i, out, c, h, ho, hD, hc, hv => by
    have hx := at_bd hd i
    have ea : l.getD i 0 = at_ l i := rfl
    have e1 : wr .u64 (at_ l i) = at_ l i := wu64 (by omega) (by omega)
    have e2 : shlE IntKind.u64 (at_ l i) (Int.tmod 2 32) = at_ l i * 4 := by
      show shlE IntKind.u64 (at_ l i) ((2 : Nat) : Int) = _
      rw [EvN.shl_e (by decide)]
      show (at_ l i * 4) % 18446744073709551616 = _
      omega
    have e3 : orE IntKind.u64 (at_ l i * 4) c = at_ l i * 4 + c := EvN.or_add 2 (by omega) (by show at_ l i * 4 % 4 = 0; omega) (by omega) (by omega) (by show c < 4; omega) (by omega)
    have e4 : shrE IntKind.u64 (at_ l i * 4 + c) (32 : Int) = (at_ l i * 4 + c) / 4294967296 := by
      show shrE IntKind.u64 (at_ l i * 4 + c) ((32 : Nat) : Int) = _
      rw [shr_e (by decide)]; rfl
    have e5 : wr .u32 (at_ l i * 4 + c) = (at_ l i * 4 + c) % 4294967296 := wu32_mod _
    have hdm := Int.emod_add_mul_ediv (at_ l i * 4 + c) 4294967296
    have hp := pw_succ i
    have ih := shift_l (s := s) (z := z) hd hl d (i + 1) (out ++ [(at_ l i * 4 + c) % 4294967296]) ((at_ l i * 4 + c) / 4294967296) (by omega) (by simp [ho]) (hD.app (by omega)) (by omega) (by
      rw [val_app, ho, hp, low_succ]
      generalize (at_ l i * 4 + c) / 4294967296 = q at *
      generalize (at_ l i * 4 + c) % 4294967296 = r at *
      generalize (4294967296 : Int) ^ i = p at *
      have : r * p + q * (4294967296 * p) = (at_ l i * 4 + c) * p := by rw [← hdm]; grind
      have h2 : (at_ l i * 4 + c) * p = 4 * (at_ l i * p) + c * p := by grind
      omega)
    rw [L96_0_eq, Int.toNat_natCast, ea, e1, e2, e3, e4, e5, cT (by omega), grd_p (by omega), grd_p (by omega), grd_p (by decide), fit_p (by simp; omega), inc (by omega), ih]
theorem shift2 {x : Int} (hx : Sz 500 x) : F96 (bg x) 2 = some (bg (4 * x)) := by
  have hlen := hx.b
  have h := shift_l (s := decide (x < 0)) (z := ⟨false, []⟩) (l := cd x.natAbs) (cd_dig _) (by omega) (cd x.natAbs).length 0 [] 0 (by omega) rfl (fun y hy => by cases hy) (by omega) (by simp [val, low])
  have e0 : (bg x) = ⟨decide (x < 0), cd x.natAbs⟩ := rfl
  have e : (if decide (x < 0) = true then -(4 * val (cd x.natAbs)) else 4 * val (cd x.natAbs)) = 4 * x := by
    rw [cd_val]
    by_cases h0 : x < 0
    · rw [if_pos (by simpa using h0)]; omega
    · rw [if_neg (by simpa using h0)]; omega
  rw [e] at h
  rw [Int.natCast_zero] at h
  rw [F96_eq, e0]
  have m1 : mnE (mxE 2 (0 : Int)) (4096 : Int) = 2 := by decide
  rw [m1]
  have m2 : wr .i64 (Int.tdiv 2 32) = 0 := by decide
  rw [m2]
  have m3 : wr .i64 (wr .i64 (0 + ((cd x.natAbs).length : Int)) + 1) = ((cd x.natAbs).length : Int) + 1 := by
    rw [Int.zero_add, wr64 (n := ((cd x.natAbs).length : Int)) (by omega) (by omega), wr64 (by omega) (by omega)]
  dsimp only
  rw [m3, grd_p (by omega), grd_p (by omega), fitM_p (by omega)]
  exact h
/-! polynomials of small numbers -/
def I64 (L : List Int) : Prop := ∀ x ∈ L, -9223372036854775808 ≤ x ∧ x ≤ 9223372036854775807
theorem I64.szs {L : List Int} (h : I64 L) : Szs 2 L := fun x hx => sz_i64 (h x hx).1 (h x hx).2
theorem pof_l {L : List Int} (h : I64 L) (hl : L.length ≤ 1000) : ∀ (d i : Nat), d + i = L.length → L161_0 ((L.take i).map bg) L (L.length : Int) (i : Int) = some ((tz L).map bg)
  | 0, i, e => by
    rw [L161_0_eq, cF (by omega), List.take_of_length_le (by omega), ptrim_s (h.szs.le (by omega)) (by omega)]; rfl
  | d + 1, i, e => by
    have hm := h _ (rd_mem L 0 i (by omega))
    rw [L161_0_eq, Int.toNat_natCast, cT (by omega), grd_p (by omega), grd_p (by omega), bof_f hm.1 hm.2]
    simp only [Option.bind_some]
    rw [fit_p (by simp; omega), inc (by omega), show (L.take i).map bg ++ [bg (L.getD i 0)] = (L.take (i + 1)).map bg by
      rw [List.take_add_one, show L[i]? = some (L.getD i 0) by simp [List.getD, show i < L.length by omega]]; simp]
    exact pof_l h hl d (i + 1) (by omega)
theorem pof_f {L : List Int} (h : I64 L) (hl : L.length ≤ 1000) : F161 L = some ((tz L).map bg) := by
  have := pof_l h hl L.length 0 (by omega)
  rw [F161_eq]; exact this
theorem rpof_l {L : List Int} (h : I64 L) (hl : L.length ≤ 1000) : ∀ (d i : Nat), d + i = L.length → L65_0 L ((L.take i).map rb) (i : Int) = some ((tz L).map rb)
  | 0, i, e => by
    rw [L65_0_eq, cF (by omega), List.take_of_length_le (by omega), rptrim_s (by omega)]; rfl
  | d + 1, i, e => by
    have hm := h _ (rd_mem L 0 i (by omega))
    rw [L65_0_eq, Int.toNat_natCast, cT (by omega), grd_p (by omega), grd_p (by omega), EvR.rof_f hm.1 hm.2]
    simp only [Option.bind_some]
    rw [fit_p (by simp; omega), inc (by omega), show (L.take i).map rb ++ [rb (L.getD i 0)] = (L.take (i + 1)).map rb by
      rw [List.take_add_one, show L[i]? = some (L.getD i 0) by simp [List.getD, show i < L.length by omega]]; simp]
    exact rpof_l h hl d (i + 1) (by omega)
theorem rpof_f {L : List Int} (h : I64 L) (hl : L.length ≤ 1000) : F65 L = some ((tz L).map rb) := by
  have := rpof_l h hl L.length 0 (by omega)
  rw [F65_eq]; exact this
/-! what may be -/
def ptB (p : S24) : Bool := decide (p.f0 ≥ -33554432 ∧ p.f0 ≤ 33554432 ∧ p.f1 ≥ -33554432 ∧ p.f1 ≤ 33554432)
theorem pt3 (p : S24) : F59 p = some (ptB p) ∧ F31 p = some (ptB p) ∧ F75 p = some (ptB p) := by
  rw [F59_eq, F31_eq, F75_eq]
  unfold ptB
  have key : ∀ x : Option Bool, x = (cond (decide (p.f0 ≥ -33554432)) (cond (decide (p.f0 ≤ 33554432)) (cond (decide (p.f1 ≥ -33554432)) (some (decide (p.f1 ≤ 33554432))) (some false)) (some false)) (some false)) → x = some (decide (p.f0 ≥ -33554432 ∧ p.f0 ≤ 33554432 ∧ p.f1 ≥ -33554432 ∧ p.f1 ≤ 33554432)) := fun x hx => by
    rw [hx]
    by_cases h1 : p.f0 ≥ -33554432
    · rw [cT h1]
      by_cases h2 : p.f0 ≤ 33554432
      · rw [cT h2]
        by_cases h3 : p.f1 ≥ -33554432
        · rw [cT h3]; congr 1; exact decide_eq_decide.mpr (by omega)
        · rw [cF h3, decide_eq_false (by omega)]
      · rw [cF h2, decide_eq_false (by omega)]
    · rw [cF h1, decide_eq_false (by omega)]
  exact ⟨key _ rfl, key _ rfl, key _ rfl⟩
theorem pt_of {p : S24} (h : ptB p = true) : -33554432 ≤ p.f0 ∧ p.f0 ≤ 33554432 ∧ -33554432 ≤ p.f1 ∧ p.f1 ≤ 33554432 := by
  unfold ptB at h; have := of_decide_eq_true h; omega
def eqP (a b : S24) : Bool := (a.f0 == b.f0) && (a.f1 == b.f1)
/-- May an edge be? -/
def egB (e : S34) : Bool := ptB e.f2 && (ptB e.f3 && (ptB e.f4 && cond e.f1 (!(eqP e.f2 e.f3 && eqP e.f2 e.f4)) (!eqP e.f2 e.f4 && ((e.f3.f0 == 0) && (e.f3.f1 == 0)))))
theorem f37 (e : S34) : F37 e = some (egB e) := by
  rw [F37_eq, (pt3 e.f2).1, (pt3 e.f3).1, (pt3 e.f4).1, L37_0_eq]
  simp only [Option.bind_some]
  unfold egB
  rw [show ((e.f2.f0 == e.f3.f0) && (e.f2.f1 == e.f3.f1)) = eqP e.f2 e.f3 from rfl, show ((e.f2.f0 == e.f4.f0) && (e.f2.f1 == e.f4.f1)) = eqP e.f2 e.f4 from rfl]
  cases ptB e.f2 <;> cases ptB e.f3 <;> cases ptB e.f4 <;> cases e.f1 <;> cases eqP e.f2 e.f3 <;> cases eqP e.f2 e.f4 <;> rfl
theorem f35 (e : S34) : F35 e = some (egB e) := by
  rw [F35_eq, (pt3 e.f2).2.2, (pt3 e.f3).2.2, (pt3 e.f4).2.2, F76_eq]
  simp only [Option.bind_some]
  unfold egB
  rw [show ((e.f2.f0 == e.f3.f0) && (e.f2.f1 == e.f3.f1)) = eqP e.f2 e.f3 from rfl, show ((e.f2.f0 == e.f4.f0) && (e.f2.f1 == e.f4.f1)) = eqP e.f2 e.f4 from rfl]
  cases ptB e.f2 <;> cases ptB e.f3 <;> cases ptB e.f4 <;> cases e.f1 <;> cases eqP e.f2 e.f3 <;> cases eqP e.f2 e.f4 <;> rfl
def rnB (r n : Int) : Bool := decide (1 ≤ r ∧ r ≤ 1048576 ∧ 1 ≤ n ∧ n ≤ 255)
def askB (p : S24) (e : S34) (r n : Int) : Bool := egB e && (ptB p && rnB r n)
theorem f42 (p : S24) (e : S34) (r n : Int) : F42 p e r n = some (cond (askB p e r n) 0 1) := by
  rw [F42_eq, f37, (pt3 p).1]
  simp only [Option.bind_some]
  unfold askB rnB
  cases egB e
  · rfl
  · cases ptB p
    · rfl
    · simp only [Bool.not_true, cond_false, Bool.true_and]
      by_cases h1 : r < 1
      · rw [cT h1, decide_eq_false (by omega)]; rfl
      · by_cases h2 : r > 1048576
        · rw [cF h1, cT h2, decide_eq_false (by omega)]; rfl
        · by_cases h3 : n < 1
          · rw [cF h1, cF h2, cT h3, decide_eq_false (by omega)]; rfl
          · by_cases h4 : n > 255
            · rw [cF h1, cF h2, cF h3, cT h4, decide_eq_false (by omega)]; rfl
            · rw [cF h1, cF h2, cF h3, cF h4, decide_eq_true (by omega)]; rfl
theorem f25 (p : S24) (e : S34) (r n : Int) : F25 p e r n = some (askB p e r n) := by
  rw [F25_eq, f35, (pt3 p).2.1, F21_eq]
  simp only [Option.bind_some]
  unfold askB rnB
  cases egB e
  · rfl
  · cases ptB p
    · rfl
    · simp only [cond_true, Bool.true_and]
      by_cases h1 : r ≥ 1
      · rw [cT h1]
        by_cases h2 : r ≤ 1048576
        · rw [cT h2]
          by_cases h3 : n ≥ 1
          · rw [cT h3]; simp only [Option.bind_some]; congr 1; exact decide_eq_decide.mpr (by omega)
          · rw [cF h3, decide_eq_false (by omega)]; rfl
        · rw [cF h2, decide_eq_false (by omega)]; rfl
      · rw [cF h1, decide_eq_false (by omega)]; rfl
/-! the polynomials -/
theorem sq_f {n : Int} (h : -9223372036854775808 ≤ n ∧ n ≤ 9223372036854775807) : F95 n = some (bg (n * n)) ∧ F54 n = some (rb (n * n)) := by
  have z := sz_i64 h.1 h.2
  rw [F95_eq, F54_eq, bof_f h.1 h.2, EvR.rof_f h.1 h.2]
  simp only [Option.bind_some]
  rw [bmul_s (z.le (by omega)) (z.le (by omega)), rmul_s (z.le (by omega)) (z.le (by omega))]
  exact ⟨rfl, rfl⟩
/-- A coordinate of a curve, less a number. -/
def axL (q : Bool) (a b c p : Int) : List Int := cond q [a - p, 2 * (b - a), a - 2 * b + c] [2 * (a - p), 2 * (c - a)]
theorem axL_i64 {q : Bool} {a b c p : Int} (ha : -33554432 ≤ a ∧ a ≤ 33554432) (hb : -33554432 ≤ b ∧ b ≤ 33554432) (hc : -33554432 ≤ c ∧ c ≤ 33554432) (hp : -33554432 ≤ p ∧ p ≤ 33554432) : I64 (axL q a b c p) := fun x hx => by
  cases q
  · simp only [axL, cond_false, List.mem_cons, List.not_mem_nil, or_false] at hx
    rcases hx with rfl | rfl <;> omega
  · simp only [axL, cond_true, List.mem_cons, List.not_mem_nil, or_false] at hx
    rcases hx with rfl | rfl | rfl <;> omega
theorem axis_f {q : Bool} {a b c p : Int} (ha : -33554432 ≤ a ∧ a ≤ 33554432) (hb : -33554432 ≤ b ∧ b ≤ 33554432) (hc : -33554432 ≤ c ∧ c ≤ 33554432) (hp : -33554432 ≤ p ∧ p ≤ 33554432) : F99 q a b c p = some ((tz (axL q a b c p)).map bg) ∧ F50 q a b c p = some ((tz (axL q a b c p)).map rb) := by
  have hI := axL_i64 (q := q) ha hb hc hp
  rw [F99_eq, F50_eq, wr64 (n := a - p) (by omega) (by omega), wr64 (n := b - a) (by omega) (by omega), wr64 (n := 2 * (b - a)) (by omega) (by omega), wr64 (n := 2 * b) (by omega) (by omega), wr64 (n := a - 2 * b) (by omega) (by omega), wr64 (n := a - 2 * b + c) (by omega) (by omega), wr64 (n := 2 * (a - p)) (by omega) (by omega), wr64 (n := c - a) (by omega) (by omega), wr64 (n := 2 * (c - a)) (by omega) (by omega)]
  cases q
  · have h1 := pof_f hI (by simp [axL])
    have h2 := rpof_f hI (by simp [axL])
    simp only [axL, cond_false] at h1 h2 ⊢
    rw [h1, h2]; exact ⟨rfl, rfl⟩
  · have h1 := pof_f hI (by simp [axL])
    have h2 := rpof_f hI (by simp [axL])
    simp only [axL, cond_true] at h1 h2 ⊢
    rw [h1, h2]; exact ⟨rfl, rfl⟩
theorem axL_len (q : Bool) (a b c p : Int) : (tz (axL q a b c p)).length ≤ 3 := by
  have := tz_len (axL q a b c p)
  cases q
  · have e : (axL false a b c p).length = 2 := rfl
    omega
  · have e : (axL true a b c p).length = 3 := rfl
    omega
/-- The gap, as a polynomial. -/
def farL (p : S24) (e : S34) : List Int := padd (pmul (tz (axL e.f1 e.f2.f0 e.f3.f0 e.f4.f0 p.f0)) (tz (axL e.f1 e.f2.f0 e.f3.f0 e.f4.f0 p.f0))) (pmul (tz (axL e.f1 e.f2.f1 e.f3.f1 e.f4.f1 p.f1)) (tz (axL e.f1 e.f2.f1 e.f3.f1 e.f4.f1 p.f1)))
def limI (q : Bool) (r k : Int) : Int := cond q (k * r * (k * r)) (4 * (k * r * (k * r)))
def gapL (p : S24) (e : S34) (r n k : Int) : List Int := psub (pmul (farL p e) (tz [n * n])) (tz [limI e.f1 r k])
theorem pmul_szs {a b : Nat} {L M : List Int} (hL : Szs a L) (hM : Szs b M) (lL : L.length ≤ 100) (lM : M.length ≤ 100) : Szs (a + b + 1) (pmul L M) ∧ (pmul L M).length ≤ L.length + M.length := by
  unfold pmul
  exact ⟨pol_szs fun i hi => csum_sz (fun j hj => (sz_mul (hL.rd _) (hM.cof _)).le (by omega)) (by omega), pol_len _ _⟩
theorem padd_szs {a : Nat} {L M : List Int} (hL : Szs a L) (hM : Szs a M) : Szs (a + 1) (padd L M) ∧ (padd L M).length ≤ max L.length M.length := by
  unfold padd
  exact ⟨pol_szs fun i hi => (sz_add (hL.rd _) (hM.rd _)).le (by omega), pol_len _ _⟩
theorem psub_szs {a : Nat} {L M : List Int} (hL : Szs a L) (hM : Szs a M) : Szs (a + 1) (psub L M) ∧ (psub L M).length ≤ max L.length M.length := by
  unfold psub
  exact ⟨pol_szs fun i hi => (sz_sub (hL.rd _) (hM.rd _)).le (by omega), pol_len _ _⟩
theorem sq_sz {n : Int} {b : Nat} (h : Sz b n) : Sz (2 * b) (n * n) := by have := sz_mul h h; rwa [← Nat.two_mul] at this
theorem far_f {p : S24} {e : S34} (hp : ptB p = true) (he : egB e = true) : F47 p e = some ((farL p e).map bg) ∧ Szs 6 (farL p e) ∧ (farL p e).length ≤ 6 ∧
    (F50 e.f1 e.f2.f0 e.f3.f0 e.f4.f0 p.f0).bind (fun y1 => (F50 e.f1 e.f2.f1 e.f3.f1 e.f4.f1 p.f1).bind fun y2 => (F52 y1 y1).bind fun y3 => (F52 y2 y2).bind fun y4 => F51 y3 y4) = some ((farL p e).map rb) := by
  simp only [egB, Bool.and_eq_true] at he
  obtain ⟨p0, p1, p2, p3⟩ := pt_of hp
  obtain ⟨a0, a1, a2, a3⟩ := pt_of he.1
  obtain ⟨b0, b1, b2, b3⟩ := pt_of he.2.1
  obtain ⟨c0, c1, c2, c3⟩ := pt_of he.2.2.1
  obtain ⟨x1, x2⟩ := axis_f (q := e.f1) (a := e.f2.f0) (b := e.f3.f0) (c := e.f4.f0) (p := p.f0) ⟨a0, a1⟩ ⟨b0, b1⟩ ⟨c0, c1⟩ ⟨p0, p1⟩
  obtain ⟨y1, y2⟩ := axis_f (q := e.f1) (a := e.f2.f1) (b := e.f3.f1) (c := e.f4.f1) (p := p.f1) ⟨a2, a3⟩ ⟨b2, b3⟩ ⟨c2, c3⟩ ⟨p2, p3⟩
  have zx : Szs 2 (tz (axL e.f1 e.f2.f0 e.f3.f0 e.f4.f0 p.f0)) := (axL_i64 ⟨a0, a1⟩ ⟨b0, b1⟩ ⟨c0, c1⟩ ⟨p0, p1⟩).szs.tz
  have zy : Szs 2 (tz (axL e.f1 e.f2.f1 e.f3.f1 e.f4.f1 p.f1)) := (axL_i64 ⟨a2, a3⟩ ⟨b2, b3⟩ ⟨c2, c3⟩ ⟨p2, p3⟩).szs.tz
  have lx := axL_len e.f1 e.f2.f0 e.f3.f0 e.f4.f0 p.f0
  have ly := axL_len e.f1 e.f2.f1 e.f3.f1 e.f4.f1 p.f1
  rw [F47_eq, x1, x2, y1, y2]
  unfold farL
  generalize tz (axL e.f1 e.f2.f0 e.f3.f0 e.f4.f0 p.f0) = X at *
  generalize tz (axL e.f1 e.f2.f1 e.f3.f1 e.f4.f1 p.f1) = Y at *
  obtain ⟨m1, m2⟩ := pmul_szs zx zx (by omega) (by omega)
  obtain ⟨n1, n2⟩ := pmul_szs zy zy (by omega) (by omega)
  obtain ⟨s1, s2⟩ := padd_szs m1 n1
  simp only [Option.bind_some]
  have hX := pmul_r (P := X.map bg) (Q := X.map bg) (zx.rps.le (by omega)) (zx.rps.le (by omega)) (by rw [List.length_map]; omega) (by rw [List.length_map]; omega)
  have hY := pmul_r (P := Y.map bg) (Q := Y.map bg) (zy.rps.le (by omega)) (zy.rps.le (by omega)) (by rw [List.length_map]; omega) (by rw [List.length_map]; omega)
  rw [pv_bg] at hX hY
  have hS := padd_r (P := (pmul X X).map bg) (Q := (pmul Y Y).map bg) (m1.rps.le (by omega)) (n1.rps.le (by omega)) (by rw [List.length_map]; omega) (by rw [List.length_map]; omega)
  rw [pv_bg, pv_bg] at hS
  rw [hX, hY]
  simp only [Option.bind_some]
  rw [hS, rpmul_s (zx.le (by omega)) (zx.le (by omega)) (by omega) (by omega), rpmul_s (zy.le (by omega)) (zy.le (by omega)) (by omega) (by omega)]
  simp only [Option.bind_some]
  rw [rpadd_s (m1.le (by omega)) (n1.le (by omega)) (by omega) (by omega)]
  exact ⟨trivial, s1.le (by omega), by omega, rfl⟩
theorem one_bg {x : Int} (h : Sz 1000 x) : pv [bg x] = [x] := by
  show [bv (bg x)] = [x]
  rw [bv_bg]
theorem gap_f {p : S24} {e : S34} {r n k : Int} (ha : askB p e r n = true) (hk : 0 ≤ k ∧ k ≤ n) : F24 p e r n k = some ((gapL p e r n k).map bg, 0) ∧ F27 p e r n k = some ((gapL p e r n k).map rb) ∧ Szs 20 (gapL p e r n k) ∧ (gapL p e r n k).length ≤ 20 := by
  have hf42 := f42 p e r n
  rw [ha, cond_true] at hf42
  simp only [askB, rnB, Bool.and_eq_true, decide_eq_true_eq] at ha
  obtain ⟨he, hp, hr1, hr2, hn1, hn2⟩ := ha
  obtain ⟨g1, g2, g3, g4⟩ := far_f hp he
  have bkr : 0 ≤ k * r ∧ k * r ≤ 300000000 := by
    have := mul_bd (x := k) (y := r) (M := 255) (N := 1048576) (by omega) (by omega) (by omega) (by omega)
    have := mul_nn hk.1 (show 0 ≤ r by omega)
    omega
  obtain ⟨q1, q2⟩ := sq_f (n := k * r) (by omega)
  obtain ⟨n1, n2⟩ := sq_f (n := n) (by omega)
  have q3 := (sq_f (n := k) (by omega)).2
  have q4 := (sq_f (n := r) (by omega)).2
  have zk := sz_i64 (x := k) (by omega) (by omega)
  have zr := sz_i64 (x := r) (by omega) (by omega)
  have zn := sz_i64 (x := n) (by omega) (by omega)
  have zkr := sz_i64 (x := k * r) (by omega) (by omega)
  have z4 : Sz 2 4 := sz_i64 (by omega) (by omega)
  have zL : Sz 6 (limI e.f1 r k) := by
    unfold limI
    cases e.f1
    · exact (sz_mul z4 (sz_mul zkr zkr)).le (by omega)
    · exact (sz_mul zkr zkr).le (by omega)
  have zN : Szs 4 ([n * n] : List Int) := fun x hx => by rw [List.mem_singleton.mp hx]; exact sz_mul zn zn
  have zT : Szs 4 (tz [n * n]) := zN.tz
  have lT := tz_len [n * n]
  have zl1 : Szs 6 ([limI e.f1 r k] : List Int) := fun x hx => by rw [List.mem_singleton.mp hx]; exact zL
  have zl := zl1.tz
  have ll := tz_len [limI e.f1 r k]
  obtain ⟨m1, m2⟩ := pmul_szs g2 zT (by omega) (by simp at lT; omega)
  obtain ⟨s1, s2⟩ := psub_szs (m1.le (n := 11) (by omega)) (zl.le (n := 11) (by omega))
  have lim1 : (cond (!e.f1) ((F96 (bg (k * r * (k * r))) 2).bind fun y2 => L46_0 ((farL p e).map bg) n y2) (L46_0 ((farL p e).map bg) n (bg (k * r * (k * r))))) = L46_0 ((farL p e).map bg) n (bg (limI e.f1 r k)) := by
    unfold limI
    cases e.f1
    · rw [Bool.not_false, cond_true, cond_false, shift2 ((sz_mul zkr zkr).le (by omega))]; rfl
    · rfl
  have hM := pmul_r (P := (farL p e).map bg) (Q := [bg (n * n)]) (g2.rps.le (by omega)) (zN.rps.le (by omega)) (by rw [List.length_map]; omega) (by simp)
  rw [pv_bg, one_bg ((sz_mul zn zn).le (by omega)), ← pmul_tz (farL p e) [n * n]] at hM
  have tF : tz (farL p e) = farL p e := tz_pol _ _
  rw [tF] at hM
  have hS := psub_r (P := (pmul (farL p e) (tz [n * n])).map bg) (Q := [bg (limI e.f1 r k)]) (m1.rps.le (by omega)) (zl1.rps.le (by omega)) (by rw [List.length_map]; simp at lT; omega) (by simp)
  rw [pv_bg, one_bg (zL.le (by omega)), ← psub_tz (pmul (farL p e) (tz [n * n])) [limI e.f1 r k], show tz (pmul (farL p e) (tz [n * n])) = pmul (farL p e) (tz [n * n]) from tz_pol _ _] at hS
  refine ⟨?_, ?_, s1.le (by omega), ?_⟩
  · rw [F24_eq, hf42]
    simp only [Option.bind_some, bne_self_eq_false, cond_false]
    rw [cF (by omega), cF (by omega), L24_0_eq, g1]
    simp only [Option.bind_some]
    rw [F46_eq, wr64 (by omega) (by omega), q1]
    simp only [Option.bind_some]
    rw [lim1, L46_0_eq, n1]
    simp only [Option.bind_some]
    rw [hM]
    simp only [Option.bind_some]
    rw [hS]; rfl
  · have r1 := rptrim_s (L := [n * n]) (by simp)
    have r2 := rptrim_s (L := [limI e.f1 r k]) (by simp)
    have core : L27_0 n ((farL p e).map rb) (rb (limI e.f1 r k)) = some ((gapL p e r n k).map rb) := by
      rw [L27_0_eq, n2]
      simp only [Option.bind_some]
      rw [F57_eq, F57_eq, show [rb (n * n)] = ([n * n] : List Int).map rb from rfl, r1, show [rb (limI e.f1 r k)] = ([limI e.f1 r k] : List Int).map rb from rfl, r2]
      simp only [Option.bind_some]
      rw [rpmul_s (g2.le (by omega)) (zT.le (by omega)) (by omega) (by simp at lT; omega)]
      simp only [Option.bind_some]
      rw [rpsub_s (m1.le (by omega)) (zl.le (by omega)) (by simp at lT; omega) (by simp at ll; omega)]; rfl
    have g4' := g4
    rw [F27_eq]
    obtain ⟨X, hX, g4'⟩ := Option.bind_eq_some_iff.mp g4'
    obtain ⟨Y, hY, g4'⟩ := Option.bind_eq_some_iff.mp g4'
    obtain ⟨XX, hXX, g4'⟩ := Option.bind_eq_some_iff.mp g4'
    obtain ⟨YY, hYY, g4'⟩ := Option.bind_eq_some_iff.mp g4'
    rw [bnd hX, bnd hY, bnd hXX, bnd hYY, bnd g4', bnd q3, bnd q4, bnd (rmul_s ((sq_sz zk).le (by omega)) ((sq_sz zr).le (by omega)))]
    have e1 : k * k * (r * r) = k * r * (k * r) := by grind
    rw [e1]
    cases hq : e.f1
    · rw [Bool.not_false, cond_true, EvR.rof_f (by omega) (by omega)]
      simp only [Option.bind_some]
      rw [rmul_s ((sz_mul zkr zkr).le (by omega)) (z4.le (by omega))]
      simp only [Option.bind_some]
      have : limI e.f1 r k = k * r * (k * r) * 4 := by unfold limI; rw [hq, cond_false]; omega
      rw [← this]; exact core
    · rw [Bool.not_true, cond_false]
      have : limI e.f1 r k = k * r * (k * r) := by unfold limI; rw [hq]; rfl
      rw [← this]; exact core
  · unfold gapL; simp at lT ll; omega
theorem gap_no {p : S24} {e : S34} {r n k : Int} (h : ¬ (askB p e r n = true ∧ 0 ≤ k ∧ k ≤ n)) : F24 p e r n k = some ([], 1) := by
  rw [F24_eq, f42]
  simp only [Option.bind_some]
  cases ha : askB p e r n
  · rfl
  · rw [cond_true, bne_self_eq_false, cond_false]
    by_cases h1 : k < 0
    · rw [cT h1]
    · rw [cF h1, cT (show k > n by rcases Int.lt_or_le n k with q | q; exact q; exact absurd ⟨ha, by omega, q⟩ h)]
end Go.Proofs.YtnikppnfkjogdaaGreatDoor.EvP
