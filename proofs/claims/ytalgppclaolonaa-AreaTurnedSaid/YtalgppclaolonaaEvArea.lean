/- The area of an outline: layer 38 and its reference. -/
import Derived.Test.YtalgppclaolonaaEvBig
import Derived.Test.YtalgppclaolonaaEvRef02
import Derived.Test.YtalgppclaolonaaEvEdge
namespace Go.Proofs.Ytalgppclaolonaa.Ev
open Go Go.Proofs.Ytalgppclaolonaa.EvR
set_option linter.unusedVariables false
set_option linter.unusedSimpArgs false
/-! The reference's word for an outline that may be. -/
theorem rclosed_l (l : List S38) (hl : l.length ≤ 1000000) : ∀ d (i first : Nat), i + d + 1 = l.length → first ≤ i →
    L82_0 l (first : Int) (i : Int) = some (cl (l.getD (if (l.getD i z1).f0 = (l.getD first z1).f0 then first else i) z1) (l.getD i z1) (l.drop (i + 1))) := by
  intro d
  induction d with
  | zero =>
    intro i first h hf
    have last : ∀ x : Nat, L82_0 l (x : Int) ((i + 1 : Nat) : Int) = some true := fun x => by rw [L82_0_eq, cF (by omega)]
    have key : ∀ x : Nat, x ≤ i → L82_1 l (x : Int) (i : Int) = some (pe (l.getD i z1).f4 (l.getD x z1).f2) := fun x hx => by
      rw [L82_1_eq, show wr .i64 ((l.length : Int) - 1) = (i : Int) from (w64 (by omega) (by omega)).trans (by omega), beq_self_eq_true, cond_true, L82_2_eq, cond_true, grd_p (by omega), grd_p (by omega), grd_p (by omega), grd_p (by omega), Int.toNat_natCast, Int.toNat_natCast, pe_def, inc (by omega), last]
      cases pe (l.getD i z1).f4 (l.getD x z1).f2 <;> rfl
    rw [L82_0_eq, cT (by omega), grd_p (by omega), grd_p (by omega), grd_p (by omega), grd_p (by omega), Int.toNat_natCast, Int.toNat_natCast, key i (Nat.le_refl _), key first hf, List.drop_eq_nil_of_le (by omega)]
    simp only [cl]
    by_cases c : (l.getD i z1).f0 = (l.getD first z1).f0
    · rw [if_pos c, bne_eq_false_iff_eq.mpr c]; rfl
    · rw [if_neg c, bne_iff_ne.mpr c]; rfl
  | succ d ih =>
    intro i first h hf
    have g := fun x hx => ih (i + 1) x (by omega) hx
    have key : ∀ x : Nat, x ≤ i → (l.getD i z1).f0 = (l.getD x z1).f0 → L82_1 l (x : Int) (i : Int) = some (cl (l.getD x z1) (l.getD i z1) (l.drop (i + 1))) := fun x hx hc => by
      have g1 := g x (by omega)
      rw [L82_1_eq, show ((i : Int) == wr .i64 ((l.length : Int) - 1)) = false by rw [show wr .i64 ((l.length : Int) - 1) = (l.length : Int) - 1 from w64 (by omega) (by omega)]; simp; omega, cond_false, inc (by omega), grd_p (by omega), grd_p (by omega), grd_p (by omega), grd_p (by omega), Int.toNat_natCast, Int.toNat_natCast, L82_2_eq, inc (by omega)]
      simp only [Int.toNat_natCast, pe_def]
      rw [drop_rd l z1 (i + 1) (by omega)]
      simp only [cl]
      by_cases c2 : (l.getD (i + 1) z1).f0 = (l.getD i z1).f0
      · have c3 : (l.getD (i + 1) z1).f0 = (l.getD x z1).f0 := c2.trans hc
        rw [if_pos c3] at g1
        rw [if_pos c3, bne_eq_false_iff_eq.mpr c2, g1]
        simp only [Bool.not_false, cond_false, cond_true]
        rw [grd_p (by omega), grd_p (by omega), grd_p (by omega), grd_p (by omega), pe_comm (l.getD (i + 1) z1).f2]
        cases pe (l.getD i z1).f4 (l.getD (i + 1) z1).f2 <;> rfl
      · have c3 : ¬ (l.getD (i + 1) z1).f0 = (l.getD x z1).f0 := fun q => c2 (q.trans hc.symm)
        rw [if_neg c3] at g1
        rw [if_neg c3, bne_iff_ne.mpr c2, g1]
        simp only [Bool.not_true, cond_false, cond_true]
        rw [grd_p (by omega), grd_p (by omega), grd_p (by omega), grd_p (by omega)]
        cases pe (l.getD i z1).f4 (l.getD x z1).f2 <;> rfl
    rw [L82_0_eq, cT (by omega), grd_p (by omega), grd_p (by omega), grd_p (by omega), grd_p (by omega), Int.toNat_natCast, Int.toNat_natCast]
    by_cases c : (l.getD i z1).f0 = (l.getD first z1).f0
    · rw [if_pos c, bne_eq_false_iff_eq.mpr c, cond_false, key first hf c]
    · rw [if_neg c, bne_iff_ne.mpr c, cond_true, key i (Nat.le_refl _) rfl]
theorem rclosed_f (l : List S38) (hl : l.length ≤ 1000000) : F82 l = some (Closed l) := by
  rw [F82_eq]
  cases hlc : l with
  | nil => rw [L82_0_eq, cF (by simp)]; rfl
  | cons e r =>
    rw [← hlc]
    have hlen : l.length = r.length + 1 := by rw [hlc]; rfl
    have g := rclosed_l l hl r.length 0 0 (by omega) (by omega)
    rw [if_pos rfl] at g
    have : L82_0 l 0 0 = L82_0 l ((0 : Nat) : Int) ((0 : Nat) : Int) := rfl
    rw [this, g, hlc]; rfl
theorem rmay_l (l : List S38) (hl : l.length ≤ 1000000) : ∀ d (i : Nat), i + d = l.length → L40_0 l (i : Int) = some ((l.drop i).all OneE && Closed l)
  | 0, i, h => by
    rw [L40_0_eq, cF (by omega), List.drop_eq_nil_of_le (by omega), bnd (rclosed_f l hl)]; rfl
  | d + 1, i, h => by
    have ih := rmay_l l hl d (i + 1) (by omega)
    rw [L40_0_eq, cT (by omega), grd_p (by omega), grd_p (by omega), Int.toNat_natCast, bnd (rone_f _), inc (by omega), ih, drop_rd l z1 i (by omega), List.all_cons]
    cases OneE (l.getD i z1) <;> rfl
theorem rmay_f (l : List S38) (hl : l.length ≤ 1000000) : F40 l = some (mayE l) := by
  rw [F40_eq]; unfold mayE
  by_cases c : (l.length : Int) > 8192
  · rw [cT c, decide_eq_false (show ¬ (l.length ≤ 8192) by omega)]; rfl
  · have := rmay_l l hl l.length 0 (by omega)
    rw [cF c, decide_eq_true (show l.length ≤ 8192 by omega), show L40_0 l 0 = _ from this, List.drop_zero, Bool.true_and, Bool.and_comm]
/-! Six times the area that lies left of a chord. -/
def cs6 (p q : S36) : Int := p.f0 * q.f1 - p.f1 * q.f0
def areaE (e : S38) : Int := if e.f1 = true then 2 * cs6 e.f2 e.f3 + 2 * cs6 e.f3 e.f4 + cs6 e.f2 e.f4 else 3 * cs6 e.f2 e.f4
def sixE : List S38 → Int
  | [] => 0
  | e :: l => areaE e + sixE l
theorem ones {e : S38} (h : OneE e = true) : Fine e.f2 ∧ Fine e.f3 ∧ Fine e.f4 := by
  unfold OneE at h; simp only [Bool.and_eq_true, decide_eq_true_eq] at h; exact ⟨h.1.1.1.1, h.1.1.1.2, h.1.1.2⟩
theorem cs6_bd {p q : S36} (hp : Fine p) (hq : Fine q) : (-1125899906842624 ≤ p.f0 * q.f1 ∧ p.f0 * q.f1 ≤ 1125899906842624) ∧ (-1125899906842624 ≤ p.f1 * q.f0 ∧ p.f1 * q.f0 ≤ 1125899906842624) := by
  obtain ⟨a1, a2, a3, a4⟩ := hp
  obtain ⟨b1, b2, b3, b4⟩ := hq
  have h1 := mul_bd a1 a2 b3 b4
  have h2 := mul_bd a3 a4 b1 b2
  omega
theorem cs6_lim {p q : S36} (hp : Fine p) (hq : Fine q) : -2251799813685248 ≤ cs6 p q ∧ cs6 p q ≤ 2251799813685248 := by
  have := cs6_bd hp hq; unfold cs6; omega
theorem one_lim {e : S38} (h : OneE e = true) : -11258999068426240 ≤ areaE e ∧ areaE e ≤ 11258999068426240 := by
  obtain ⟨a, b, c⟩ := ones h
  have h1 := cs6_lim a b
  have h2 := cs6_lim b c
  have h3 := cs6_lim a c
  unfold areaE; split <;> omega
theorem six_lim : ∀ {l : List S38}, l.all OneE = true → -(11258999068426240 * (l.length : Int)) ≤ sixE l ∧ sixE l ≤ 11258999068426240 * (l.length : Int)
  | [], _ => by simp [sixE]
  | e :: l, h => by
    simp only [List.all_cons, Bool.and_eq_true] at h
    have h1 := one_lim h.1
    have h2 := six_lim h.2
    simp only [sixE, List.length_cons]; omega
theorem six_app : ∀ (a b : List S38), sixE (a ++ b) = sixE a + sixE b
  | [], b => by simp [sixE]
  | e :: a, b => by simp only [List.cons_append, sixE, six_app a b]; omega
/-- Within 80 bits. -/
def Small (x : Int) : Prop := -1208925819614629174706176 < x ∧ x < 1208925819614629174706176
theorem small_b {x : Int} (h : Small x) : (NumB.cd x.natAbs).length ≤ 90000 := by
  have := NumB.cd_len (z := x.natAbs) (n := 3) (by rw [show (4294967296 : Int) ^ 3 = 79228162514264337593543950336 by decide]; unfold Small at h; omega)
  omega
theorem small_m {x : Int} (h : Small x) : (NumM.cd x.natAbs).length ≤ 90000 := by
  have := NumM.cd_len (z := x.natAbs) (n := 6) (by rw [show (65536 : Int) ^ 6 = 79228162514264337593543950336 by decide]; unfold Small at h; omega)
  omega
theorem small_w {x : Int} (h0 : -9223372036854775808 ≤ x) (h1 : x ≤ 9223372036854775807) : Small x := by unfold Small; omega
theorem across_f {p q : S36} (hp : Fine p) (hq : Fine q) : F110 p q = some (cs6 p q) := by
  have h := cs6_bd hp hq
  rw [F110_eq]; unfold cs6
  rw [show wr .i64 (p.f0 * q.f1) = p.f0 * q.f1 from w64 (by omega) (by omega), show wr .i64 (p.f1 * q.f0) = p.f1 * q.f0 from w64 (by omega) (by omega), show wr .i64 (p.f0 * q.f1 - p.f1 * q.f0) = p.f0 * q.f1 - p.f1 * q.f0 from w64 (by omega) (by omega)]
theorem aone_f {e : S38} (h : OneE e = true) : F76 e = some (areaE e) := by
  obtain ⟨a, b, c⟩ := ones h
  have h1 := cs6_lim a b
  have h2 := cs6_lim b c
  have h3 := cs6_lim a c
  rw [F76_eq, bnd (across_f a b), bnd (across_f b c), bnd (across_f a c), bnd (across_f a c)]
  unfold areaE
  generalize cs6 e.f2 e.f3 = x at *
  generalize cs6 e.f3 e.f4 = y at *
  generalize cs6 e.f2 e.f4 = z at *
  unfold wr
  rw [w64 (n := 2 * x) (by omega) (by omega), w64 (n := 2 * y) (by omega) (by omega), w64 (n := 2 * x + 2 * y) (by omega) (by omega), w64 (n := 2 * x + 2 * y + z) (by omega) (by omega), w64 (n := 3 * z) (by omega) (by omega)]
  cases e.f1 <;> rfl
theorem all_at {l : List S38} (hm : l.all OneE = true) (j : Nat) (hj : j < l.length) : OneE (l.getD j z1) = true := by
  have : l.getD j z1 = l[j] := by simp [hj]
  rw [this]; exact List.all_eq_true.1 hm _ (List.getElem_mem hj)
/-- One more edge's area, added to a sum. -/
theorem aadd_f {α : Type} {e : S38} (h : OneE e = true) {s : Int} (hs : Small s) (f : S57 → Option α) :
    ((F76 e).bind fun t => (F75 t).bind fun b => (F74 (bg s) b).bind fun c => f c) = f (bg (s + areaE e)) := by
  have h1 := one_lim h
  rw [bnd (aone_f h), bnd (bof_f (by omega) (by omega)), bnd (badd_f (small_b hs) (small_b (by unfold Small; omega)))]
theorem asix_l {l : List S38} {z : S57} (hm : l.all OneE = true) (hl : l.length ≤ 8192) : ∀ (d i : Nat) (s : Int), i + d = l.length → -(11258999068426240 * (i : Int)) ≤ s → s ≤ 11258999068426240 * (i : Int) →
    L32_0 z (bg s) l (l.length : Int) (i : Int) = some (bg (s + sixE (l.drop i)), 0)
  | 0, i, s, h, h0, h1 => by
    rw [L32_0_eq, cF (by omega), List.drop_eq_nil_of_le (by omega), sixE, Int.add_zero]
  | d + 1, i, s, h, h0, h1 => by
    have ho := all_at hm i (by omega)
    have hb := one_lim ho
    have ih := asix_l (z := z) hm hl d (i + 1) (s + areaE (l.getD i z1)) (by omega) (by omega) (by omega)
    rw [drop_rd l z1 i (by omega)]
    simp only [sixE]
    rw [← Int.add_assoc, L32_0_eq, cT (by omega), grd_p (by omega), grd_p (by omega), Int.toNat_natCast, aadd_f ho (by unfold Small; omega), inc (by omega)]
    exact ih
theorem may_all {l : List S38} (h : mayE l = true) : l.length ≤ 8192 ∧ l.all OneE = true := by
  unfold mayE at h; simp only [Bool.and_eq_true, decide_eq_true_eq] at h; exact ⟨h.1.1, h.2⟩
theorem aSix_f {l : List S38} (hl : l.length ≤ 1000000) : F32 l = some (if mayE l = true then (bg (sixE l), 0) else (⟨false, []⟩, 1)) := by
  rw [F32_eq, bnd (emay_f l hl)]
  cases c : mayE l
  · rfl
  · obtain ⟨h1, h2⟩ := may_all c
    have := asix_l (z := ⟨false, []⟩) h2 h1 l.length 0 0 (by omega) (by omega) (by omega)
    rw [List.drop_zero, Int.zero_add, bg_zero] at this
    exact this
/-! The areas of the contours. -/
def cntE (c s : Int) : List S38 → List (Int × Int)
  | [] => [(c, s)]
  | e :: l => if e.f0 = c then cntE c (s + areaE e) l else (c, s) :: cntE e.f0 (areaE e) l
def grpE : List S38 → List (Int × Int)
  | [] => []
  | e :: l => cntE e.f0 (areaE e) l
def b57 (p : Int × Int) : S57 := bg p.2
def m71 (p : Int × Int) : S71 := rb p.2
theorem cnt_bd : ∀ (l : List S38) (c s : Int) (m : Nat), l.all OneE = true → -(11258999068426240 * (m : Int)) ≤ s → s ≤ 11258999068426240 * (m : Int) → ∀ p ∈ cntE c s l, -(11258999068426240 * ((m + l.length : Nat) : Int)) ≤ p.2 ∧ p.2 ≤ 11258999068426240 * ((m + l.length : Nat) : Int)
  | [], c, s, m, _, h0, h1, p, hp => by
    simp only [cntE, List.mem_singleton] at hp; subst hp; simp only [List.length_nil]; omega
  | e :: l, c, s, m, h, h0, h1, p, hp => by
    simp only [List.all_cons, Bool.and_eq_true] at h
    have hb := one_lim h.1
    simp only [cntE] at hp
    simp only [List.length_cons]
    by_cases q : e.f0 = c
    · rw [if_pos q] at hp
      have := cnt_bd l c (s + areaE e) (m + 1) h.2 (by omega) (by omega) p hp
      omega
    · rw [if_neg q] at hp
      rcases List.mem_cons.1 hp with z | z
      · subst z; simp only; omega
      · have := cnt_bd l e.f0 (areaE e) 1 h.2 (by omega) (by omega) p z
        omega
theorem cnt_len : ∀ (l : List S38) (c s : Int), (cntE c s l).length ≤ l.length + 1
  | [], c, s => by simp [cntE]
  | e :: l, c, s => by
    simp only [cntE, List.length_cons]
    split
    · have := cnt_len l c (s + areaE e); omega
    · have := cnt_len l e.f0 (areaE e); simp only [List.length_cons]; omega
theorem grp_len (l : List S38) : (grpE l).length ≤ l.length := by
  cases l with
  | nil => simp [grpE]
  | cons e l => simp only [grpE, List.length_cons]; exact cnt_len l e.f0 (areaE e)
theorem grp_small {l : List S38} (hl : l.length ≤ 8192) (h : l.all OneE = true) : ∀ p ∈ grpE l, Small p.2 := by
  cases l with
  | nil => intro p hp; simp [grpE] at hp
  | cons e l =>
    intro p hp
    simp only [List.all_cons, Bool.and_eq_true] at h
    have hb := one_lim h.1
    have := cnt_bd l e.f0 (areaE e) 1 h.2 (by omega) (by omega) p hp
    simp only [List.length_cons] at hl
    unfold Small; omega
theorem acon_f {l : List S38} {e : S38} (he : OneE e = true) (names : List Int) (A : List S57) {s : Int} (hs : Small s) (i : Nat) (hi : i ≤ 8192) (hA : A.length ≤ 8192) :
    L77_1 l names (A ++ [bg s]) e l (l.length : Int) (i : Int) = L77_0 l names (A ++ [bg (s + areaE e)]) l (l.length : Int) ((i + 1 : Nat) : Int) := by
  have e1 : wr .i64 (((A ++ [bg s]).length : Int) - 1) = (A.length : Int) := by rw [List.length_append, List.length_singleton]; exact (w64 (by omega) (by omega)).trans (by omega)
  rw [L77_1_eq, e1, grd_p (by omega), grd_p (by rw [List.length_append, List.length_singleton]; omega), Int.toNat_natCast, show (A ++ [bg s]).getD A.length z5 = bg s by simp, aadd_f he hs, inc (by omega), show (A ++ [bg s]).set A.length (bg (s + areaE e)) = A ++ [bg (s + areaE e)] by simp]
  rw [grd_p (by omega), grd_p (by rw [List.length_append, List.length_singleton]; omega)]
theorem acon_t {l : List S38} {e : S38} (he : OneE e = true) (names : List Int) (A : List S57) (i : Nat) (hi : i ≤ 8192) (hA : A.length ≤ 8192) (hn : names.length ≤ 8192) :
    L77_2 l names A e l (l.length : Int) (i : Int) = L77_0 l (names ++ [e.f0]) (A ++ [bg (areaE e)]) l (l.length : Int) ((i + 1 : Nat) : Int) := by
  rw [L77_2_eq, fit_of (by simp only [List.length_singleton]; omega), grd_t, fit_of (by omega), grd_t]
  have := acon_f (l := l) he (names ++ [e.f0]) A (s := 0) (by unfold Small; omega) i hi hA
  rw [bg_zero, Int.zero_add] at this
  exact this
theorem acon_l {l : List S38} (hm : l.all OneE = true) (hl : l.length ≤ 8192) : ∀ (d i : Nat) (pre : List (Int × Int)) (c s : Int), i + d = l.length → 0 < i → (l.getD (i - 1) z1).f0 = c → pre.length < i → -(11258999068426240 * (i : Int)) ≤ s → s ≤ 11258999068426240 * (i : Int) →
    L77_0 l (pre.map Prod.fst ++ [c]) (pre.map b57 ++ [bg s]) l (l.length : Int) (i : Int) = some ((pre ++ cntE c s (l.drop i)).map Prod.fst, (pre ++ cntE c s (l.drop i)).map b57)
  | 0, i, pre, c, s, h, hi, hc, hp, h0, h1 => by
    rw [L77_0_eq, cF (by omega), List.drop_eq_nil_of_le (by omega), cntE]
    simp only [List.map_append, List.map_cons, List.map_nil]; rfl
  | d + 1, i, pre, c, s, h, hi, hc, hp, h0, h1 => by
    have ho := all_at hm i (by omega)
    have hb := one_lim ho
    rw [L77_0_eq, cT (by omega), grd_p (by omega), grd_p (by omega), show ((i : Int) == 0) = false by simp; omega, cond_false, show wr .i64 ((i : Int) - 1) = ((i - 1 : Nat) : Int) from (w64 (by omega) (by omega)).trans (by omega), grd_p (by omega), grd_p (by omega), Int.toNat_natCast, Int.toNat_natCast, hc, drop_rd l z1 i (by omega)]
    simp only [cntE]
    by_cases q : (l.getD i z1).f0 = c
    · rw [bne_eq_false_iff_eq.mpr q, if_pos q, cond_false, acon_f ho _ _ (by unfold Small; omega) i (by omega) (by simp; omega)]
      exact acon_l hm hl d (i + 1) pre c (s + areaE (l.getD i z1)) (by omega) (by omega) (by rw [show i + 1 - 1 = i by omega]; exact q) (by omega) (by omega) (by omega)
    · rw [bne_iff_ne.mpr q, if_neg q, cond_true, acon_t ho _ _ i (by omega) (by simp; omega) (by simp; omega)]
      have ih := acon_l hm hl d (i + 1) (pre ++ [(c, s)]) (l.getD i z1).f0 (areaE (l.getD i z1)) (by omega) (by omega) (by rw [show i + 1 - 1 = i by omega]) (by simp; omega) (by omega) (by omega)
      simp only [List.append_assoc, List.cons_append, List.nil_append, List.map_append, List.map_cons, List.map_nil] at ih ⊢
      exact ih
theorem acontours_f {l : List S38} (hm : l.all OneE = true) (hl : l.length ≤ 8192) : F77 l = some ((grpE l).map Prod.fst, (grpE l).map b57) := by
  rw [F77_eq]
  cases hd : l with
  | nil => rw [L77_0_eq, cF (by simp)]; rfl
  | cons e t =>
    rw [← hd]
    have hp : 0 < l.length := by rw [hd]; simp
    have e0 : l.getD 0 z1 = e := by rw [hd]; simp
    have ho := all_at hm 0 hp
    rw [e0] at ho
    have hb := one_lim ho
    have h := acon_l hm hl (l.length - 1) 1 [] e.f0 (areaE e) (by omega) (by omega) (by rw [show (1 : Nat) - 1 = 0 by omega, e0]) (by simp) (by omega) (by omega)
    rw [L77_0_eq, cT (by omega), grd_p (by omega), grd_p (by omega), show Int.toNat 0 = 0 from rfl, e0, show ((0 : Int) == 0) = true from rfl, cond_true]
    have h2 := acon_t (l := l) ho [] [] 0 (by omega) (by simp) (by simp)
    rw [show ((0 : Nat) : Int) = 0 from rfl] at h2
    rw [h2]
    have e3 : l.drop 1 = t := by rw [hd]; simp
    rw [e3] at h
    have eg : grpE l = cntE e.f0 (areaE e) t := by rw [hd]; rfl
    rw [eg]
    exact h
theorem aContours_f {l : List S38} (hl : l.length ≤ 1000000) : F33 l = some (if mayE l = true then ((grpE l).map b57, 0) else ([], 1)) := by
  rw [F33_eq, bnd (emay_f l hl)]
  cases c : mayE l
  · rfl
  · obtain ⟨h1, h2⟩ := may_all c
    rw [bnd (acontours_f h2 h1)]; rfl
/-! The contours that run right. -/
def negE (g : List (Int × Int)) : List Int := (g.filter (fun p => decide (p.2 < 0))).map Prod.fst
theorem bsign_f {x : Int} (h : Small x) : F78 (bg x) = some (if x = 0 then 0 else if x < 0 then -1 else 1) := by
  have hl := small_b h
  rw [F78_eq]
  have e1 : (bg x).f1 = NumB.cd x.natAbs := rfl
  have e0 : (bg x).f0 = decide (x < 0) := rfl
  rw [e1, e0, bnd (btrim_f (by omega) (NumB.cd_dig _)), NumB.cd_val, Int.toNat_natCast]
  by_cases c : x = 0
  · subst c
    rw [if_pos rfl]
    simp [NumB.cd_zero]
  · have hn : NumB.cd x.natAbs ≠ [] := fun q => by rw [NumB.cd_nil] at q; omega
    have h0 : (NumB.cd x.natAbs).length ≠ 0 := fun q => hn (List.eq_nil_of_length_eq_zero q)
    rw [if_neg c, show (((NumB.cd x.natAbs).length : Int) == 0) = false by simp; omega, cond_false]
    by_cases d : x < 0 <;> simp [d]
theorem getP {g : List (Int × Int)} {i : Nat} (h : i < g.length) : ∃ p, p ∈ g ∧ g.drop i = p :: g.drop (i + 1) ∧ (g.map Prod.fst).getD i 0 = p.1 ∧ (g.map b57).getD i z5 = b57 p ∧ (g.map m71).getD i z6 = m71 p := by
  exact ⟨g[i], List.getElem_mem h, List.drop_eq_getElem_cons h, by simp [h], by simp [h], by simp [h]⟩
theorem aright_l {g : List (Int × Int)} (hg : ∀ p ∈ g, Small p.2) (hl : g.length ≤ 8192) : ∀ (d i : Nat) (out : List Int), i + d = g.length → out.length ≤ i →
    L34_0 out (g.map Prod.fst) (g.map b57) (g.length : Int) (i : Int) = some (out ++ negE (g.drop i), 0)
  | 0, i, out, h, ho => by
    rw [L34_0_eq, cF (by omega), List.drop_eq_nil_of_le (by omega)]
    simp [negE]
  | d + 1, i, out, h, ho => by
    obtain ⟨p, hp, hd, hf, r1, r3⟩ := getP (show i < g.length by omega)
    rw [L34_0_eq, cT (by omega), grd_p (by omega), grd_p (by simp; omega), grd_p (by omega), grd_p (by simp; omega), Int.toNat_natCast, r1, hf, inc (by omega), hd, fit_of (by simp only [List.length_singleton]; omega), grd_t]
    unfold b57
    rw [bnd (bsign_f (hg p hp))]
    by_cases c : p.2 < 0
    · have ih := aright_l hg hl d (i + 1) (out ++ [p.1]) (by omega) (by simp; omega)
      rw [if_neg (show ¬ p.2 = 0 by omega), if_pos c, cT (by omega)]
      have e : negE (p :: g.drop (i + 1)) = p.1 :: negE (g.drop (i + 1)) := by simp [negE, c]
      rw [e]
      simp only [List.append_assoc, List.cons_append, List.nil_append] at ih
      exact ih
    · have ih := aright_l hg hl d (i + 1) out (by omega) (by omega)
      have hz : ¬ ((if p.2 = 0 then (0 : Int) else if p.2 < 0 then -1 else 1) < 0) := by split <;> (try split) <;> omega
      rw [cF hz]
      have e : negE (p :: g.drop (i + 1)) = negE (g.drop (i + 1)) := by simp [negE, c]
      rw [e]
      exact ih
theorem aRight_f {l : List S38} (hl : l.length ≤ 1000000) : F34 l = some (if mayE l = true then (negE (grpE l), 0) else ([], 1)) := by
  rw [F34_eq, bnd (emay_f l hl)]
  cases c : mayE l
  · rfl
  · obtain ⟨h1, h2⟩ := may_all c
    rw [bnd (acontours_f h2 h1)]
    have hg := grp_len l
    have := aright_l (grp_small h1 h2) (by omega) (grpE l).length 0 [] (by omega) (by simp)
    rw [List.nil_append, List.drop_zero] at this
    simp only [List.length_map]
    exact this
/-! The reference. -/
theorem rcross_f {p q : S36} (hp : Fine p) (hq : Fine q) : F114 p q = some (rb (cs6 p q)) := by
  have h := cs6_bd hp hq
  obtain ⟨a1, a2, a3, a4⟩ := hp
  obtain ⟨b1, b2, b3, b4⟩ := hq
  rw [F114_eq, bnd (rof_f (by omega) (by omega)), bnd (rof_f (by omega) (by omega)), bnd (rmul_f (small_m (small_w (by omega) (by omega))) (small_m (small_w (by omega) (by omega)))), bnd (rof_f (by omega) (by omega)), bnd (rof_f (by omega) (by omega)), bnd (rmul_f (small_m (small_w (by omega) (by omega))) (small_m (small_w (by omega) (by omega)))), bnd (rsub_f (small_m (small_w (by omega) (by omega))) (small_m (small_w (by omega) (by omega))))]
  rfl
theorem rone38_f {e : S38} (h : OneE e = true) : F81 e = some (rb (areaE e)) := by
  obtain ⟨a, b, c⟩ := ones h
  have h1 := cs6_lim a b
  have h2 := cs6_lim b c
  have h3 := cs6_lim a c
  have sm : ∀ {x : Int}, -1152921504606846976 ≤ x → x ≤ 1152921504606846976 → (NumM.cd x.natAbs).length ≤ 90000 := fun q0 q1 => small_m (small_w (by omega) (by omega))
  have k1 := rcross_f a b
  have k2 := rcross_f b c
  have k3 := rcross_f a c
  rw [F81_eq]
  unfold areaE
  cases q : e.f1
  · rw [Bool.not_false, cond_true, if_neg (by simp)]
    generalize cs6 e.f2 e.f4 = z at *
    rw [bnd k3, bnd (rof_f (n := 3) (by omega) (by omega)), bnd (rmul_f (sm (by omega) (by omega)) (sm (by omega) (by omega))), Int.mul_comm 3 z]
  · rw [Bool.not_true, cond_false, if_pos rfl]
    generalize cs6 e.f2 e.f3 = x at *
    generalize cs6 e.f3 e.f4 = y at *
    generalize cs6 e.f2 e.f4 = z at *
    rw [bnd (rof_f (n := 2) (by omega) (by omega)), bnd k1, bnd (rmul_f (sm (by omega) (by omega)) (sm (by omega) (by omega))), bnd k2, bnd (rmul_f (sm (by omega) (by omega)) (sm (by omega) (by omega))), bnd (radd_f (sm (by omega) (by omega)) (sm (by omega) (by omega))), bnd k3, bnd (radd_f (sm (by omega) (by omega)) (sm (by omega) (by omega))), Int.mul_comm 2 x, Int.mul_comm 2 y]
theorem rsix_l {l : List S38} {z : S71} (hm : l.all OneE = true) (hl : l.length ≤ 8192) : ∀ (d i : Nat) (s : Int), i + d = l.length → -(11258999068426240 * (i : Int)) ≤ s → s ≤ 11258999068426240 * (i : Int) →
    L39_0 l z (rb s) (i : Int) = some (rb (s + sixE (l.drop i)))
  | 0, i, s, h, h0, h1 => by
    rw [L39_0_eq, cF (by omega), List.drop_eq_nil_of_le (by omega), sixE, Int.add_zero]
  | d + 1, i, s, h, h0, h1 => by
    have ho := all_at hm i (by omega)
    have hb := one_lim ho
    have ih := rsix_l (z := z) hm hl d (i + 1) (s + areaE (l.getD i z1)) (by omega) (by omega) (by omega)
    rw [drop_rd l z1 i (by omega)]
    simp only [sixE]
    rw [← Int.add_assoc, L39_0_eq, cT (by omega), grd_p (by omega), grd_p (by omega), Int.toNat_natCast, bnd (rone38_f ho), bnd (radd_f (small_m (by unfold Small; omega)) (small_m (by unfold Small; omega))), inc (by omega)]
    exact ih
theorem rb_zero : rb 0 = ⟨false, []⟩ := by unfold rb NumM.sd; rw [show (0 : Int).natAbs = 0 from rfl, NumM.cd_zero]; rfl
theorem rSix_f {l : List S38} (hm : l.all OneE = true) (hl : l.length ≤ 8192) : F39 l = some (rb (sixE l)) := by
  have := rsix_l (z := ⟨false, []⟩) hm hl l.length 0 0 (by omega) (by omega) (by omega)
  rw [List.drop_zero, Int.zero_add, rb_zero] at this
  rw [F39_eq]
  exact this
theorem slice_all {l : List S38} (hm : l.all OneE = true) (i j : Nat) : ((l.drop i).take j).all OneE = true :=
  List.all_eq_true.2 (fun x hx => List.all_eq_true.1 hm x (List.mem_of_mem_drop (List.mem_of_mem_take hx)))
theorem slice_len (l : List S38) (i j : Nat) : ((l.drop i).take j).length ≤ l.length := by simp; omega
theorem slice_more {l : List S38} {i j : Nat} (hij : i ≤ j) (hj : j < l.length) : (l.drop i).take (j + 1 - i) = (l.drop i).take (j - i) ++ [l.getD j z1] := by
  have e : l.getD j z1 = (l.drop i)[j - i]'(by simp; omega) := by simp [show i + (j - i) = j by omega, hj]
  rw [e, show j + 1 - i = (j - i) + 1 by omega, List.take_add_one, List.getElem?_eq_getElem (by simp; omega)]; rfl
theorem rcon_l {l : List S38} (hm : l.all OneE = true) (hl : l.length ≤ 8192) : ∀ (n i j : Nat) (pre : List (Int × Int)), j + n = l.length → i < j → pre.length ≤ i →
    L35_2 l (pre.map m71) (pre.map Prod.fst) (i : Int) (j : Int) = some ((pre ++ cntE (l.getD i z1).f0 (sixE ((l.drop i).take (j - i))) (l.drop j)).map m71, (pre ++ cntE (l.getD i z1).f0 (sixE ((l.drop i).take (j - i))) (l.drop j)).map Prod.fst, 0) := by
  have E : ∀ (i j : Nat) (pre : List (Int × Int)), i < j → j ≤ l.length → pre.length ≤ i → L35_1 l (pre.map m71) (pre.map Prod.fst) (i : Int) (j : Int) = L35_0 l ((pre ++ [((l.getD i z1).f0, sixE ((l.drop i).take (j - i)))]).map m71) ((pre ++ [((l.getD i z1).f0, sixE ((l.drop i).take (j - i)))]).map Prod.fst) (j : Int) := fun i j pre hij hj hp => by
    rw [L35_1_eq, grd_p (by omega), grd_p (by omega), grd_p (by omega), grd_p (by omega), Int.toNat_natCast, Int.toNat_natCast, bnd (rSix_f (slice_all hm i (j - i)) (Nat.le_trans (slice_len l i _) hl)), fit_of (by simp only [List.length_singleton, List.length_map]; omega), grd_t, grd_p (by omega), grd_p (by omega), fit_of (by simp only [List.length_singleton, List.length_map]; omega), grd_t]
    simp only [List.map_append, List.map_cons, List.map_nil, m71]
  intro n
  induction n with
  | zero =>
    intro i j pre h hij hp
    rw [L35_2_eq, cF (by omega), E i j pre hij (by omega) hp, L35_0_eq, cF (by omega), List.drop_eq_nil_of_le (show l.length ≤ j by omega), cntE]
  | succ n ih =>
    intro i j pre h hij hp
    rw [L35_2_eq, cT (by omega), grd_p (by omega), grd_p (by omega), grd_p (by omega), grd_p (by omega), Int.toNat_natCast, Int.toNat_natCast, inc (by omega), drop_rd l z1 j (by omega)]
    simp only [cntE]
    by_cases c : (l.getD j z1).f0 = (l.getD i z1).f0
    · rw [show ((l.getD j z1).f0 == (l.getD i z1).f0) = true by simpa using c, cond_true, if_pos c]
      have g := ih i (j + 1) pre (by omega) (by omega) hp
      rw [slice_more (by omega) (by omega), six_app, sixE, sixE, Int.add_zero] at g
      exact g
    · rw [show ((l.getD j z1).f0 == (l.getD i z1).f0) = false by simpa using c, cond_false, if_neg c, E i j pre hij (by omega) hp, L35_0_eq, cT (by omega), L35_2_eq, cT (by omega), grd_p (by omega), grd_p (by omega), grd_p (by omega), grd_p (by omega), beq_self_eq_true, cond_true, inc (by omega)]
      have g := ih j (j + 1) (pre ++ [((l.getD i z1).f0, sixE ((l.drop i).take (j - i)))]) (by omega) (by omega) (by simp; omega)
      rw [slice_more (Nat.le_refl _) (by omega), Nat.sub_self, List.take_zero, List.nil_append, sixE, sixE, Int.add_zero] at g
      simp only [List.append_assoc, List.cons_append, List.nil_append] at g ⊢
      exact g
theorem rContours_f {l : List S38} (hl : l.length ≤ 1000000) : F35 l = some (if mayE l = true then ((grpE l).map m71, (grpE l).map Prod.fst, 0) else ([], [], 1)) := by
  rw [F35_eq, bnd (rmay_f l hl)]
  cases c : mayE l
  · rfl
  · obtain ⟨h1, h2⟩ := may_all c
    rw [Bool.not_true, cond_false, if_pos rfl]
    cases hd : l with
    | nil => rw [L35_0_eq, cF (by simp)]; rfl
    | cons e t =>
      rw [← hd]
      have hp : 0 < l.length := by rw [hd]; simp
      have e0 : l.getD 0 z1 = e := by rw [hd]; simp
      have h := rcon_l h2 h1 (l.length - 1) 0 1 [] (by omega) (by omega) (by simp)
      have e1 : (l.drop 0).take (1 - 0) = [e] := by rw [hd]; simp
      have e3 : l.drop 1 = t := by rw [hd]; simp
      rw [e1, e0, e3, sixE, sixE, Int.add_zero] at h
      have eg : grpE l = cntE e.f0 (areaE e) t := by rw [hd]; rfl
      rw [eg, L35_0_eq, cT (by omega), L35_2_eq, cT (by omega), grd_p (by omega), grd_p (by omega), grd_p (by omega), grd_p (by omega), beq_self_eq_true, cond_true, show wr .i64 ((0 : Int) + 1) = ((1 : Nat) : Int) from w64 (by omega) (by omega)]
      exact h
theorem rright_l {g : List (Int × Int)} (hl : g.length ≤ 8192) : ∀ (d i : Nat) (out : List Int), i + d = g.length → out.length ≤ i →
    L36_0 (g.map m71) (g.map Prod.fst) out (i : Int) = some (out ++ negE (g.drop i))
  | 0, i, out, h, ho => by
    rw [L36_0_eq, cF (by simp; omega), List.drop_eq_nil_of_le (by omega)]
    simp [negE]
  | d + 1, i, out, h, ho => by
    obtain ⟨p, hp, hd, hf, r1, r3⟩ := getP (show i < g.length by omega)
    rw [L36_0_eq, cT (by simp; omega), grd_p (by omega), grd_p (by simp; omega), grd_p (by omega), grd_p (by simp; omega), Int.toNat_natCast, r3, hf, inc (by omega), hd, fit_of (by simp only [List.length_singleton]; omega), grd_t]
    have e0 : (m71 p).f0 = decide (p.2 < 0) := rfl
    rw [e0]
    by_cases c : p.2 < 0
    · have ih := rright_l hl d (i + 1) (out ++ [p.1]) (by omega) (by simp; omega)
      rw [cT c]
      have e : negE (p :: g.drop (i + 1)) = p.1 :: negE (g.drop (i + 1)) := by simp [negE, c]
      rw [e]
      simp only [List.append_assoc, List.cons_append, List.nil_append] at ih
      exact ih
    · have ih := rright_l hl d (i + 1) out (by omega) (by omega)
      rw [cF c]
      have e : negE (p :: g.drop (i + 1)) = negE (g.drop (i + 1)) := by simp [negE, c]
      rw [e]
      exact ih
theorem rRight_f {l : List S38} (hl : l.length ≤ 1000000) (hm : mayE l = true) : F36 l = some (negE (grpE l)) := by
  have h := rContours_f hl
  rw [if_pos hm] at h
  rw [F36_eq, bnd h]
  obtain ⟨h1, h2⟩ := may_all hm
  have hg := grp_len l
  have := rright_l (g := grpE l) (by omega) (grpE l).length 0 [] (by omega) (by simp)
  rw [List.nil_append, List.drop_zero] at this
  exact this
end Go.Proofs.Ytalgppclaolonaa.Ev
