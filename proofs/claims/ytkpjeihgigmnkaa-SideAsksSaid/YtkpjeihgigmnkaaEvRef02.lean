/- The reference of layer 2: whole numbers of any size, by digits of 16 bits in their one form. -/
import Derived.Test.YtkpjeihgigmnkaaEvG
import Derived.Test.YtkpjeihgigmnkaaEvM
import Derived.Test.YtkpjeihgigmnkaaNumM
import Derived.Test.YtkpjeihgigmnkaaNumB
namespace Go.Proofs.Ytkpjeihgigmnkaa.EvR
open Go Go.Proofs.Ytkpjeihgigmnkaa.Ev Go.Proofs.Ytkpjeihgigmnkaa.NumM
set_option linter.unusedVariables false
set_option linter.unusedSimpArgs false
theorem tmod_nn {x : Int} (h : 0 ≤ x) (m : Int) : Int.tmod x m = x % m := Int.tmod_eq_emod_of_nonneg h
theorem tdiv_nn {x : Int} (h : 0 ≤ x) (m : Int) : Int.tdiv x m = x / m := Int.tdiv_eq_ediv_of_nonneg h
theorem rrd {l : List Int} (n : Nat) : l.getD (Int.toNat (n : Int)) 0 = at_ l n := by unfold at_; rw [Int.toNat_natCast]
theorem inc {i : Nat} (h : i ≤ 10000000) : wr .i64 ((i : Int) + 1) = ((i + 1 : Nat) : Int) := w64 (by omega) (by omega)
theorem rat_f (l : List Int) (i : Nat) : F66 l (i : Int) = some (at_ l i) := by
  rw [F66_eq, rrd]
  by_cases h : (i : Int) < (l.length : Int)
  · rw [cT h, grd_p (by omega), grd_p h]
  · rw [cF h, at_ge (by omega)]
theorem rtrim_l {l : List Int} (hl : l.length ≤ 1000000) (hd : Dig l) : ∀ n : Nat, n ≤ l.length → (∀ x ∈ l.drop n, x = 0) → L65_0 l (n : Int) = some (cd (val l).toNat)
  | 0, hn, hz => by
    rw [L65_0_eq, cF (by omega), grd_p (by omega), grd_p (by omega), Int.toNat_natCast, ← take_cd hd hn hz (.inl rfl)]
  | n + 1, hn, hz => by
    have ih := rtrim_l hl hd n (by omega)
    rw [L65_0_eq, cT (by omega), show wr .i64 (((n + 1 : Nat) : Int) - 1) = (n : Int) from (w64 (by omega) (by omega)).trans (by omega), rrd, grd_p (by omega), grd_p (by omega), grd_p (by omega), grd_p (by omega), Int.toNat_natCast]
    by_cases c : at_ l n = 0
    · rw [show (at_ l n == 0) = true by simpa using c, cond_true]
      refine ih (fun x hx => ?_)
      rw [List.drop_eq_getElem_cons (by omega)] at hx
      rcases List.mem_cons.1 hx with q | q
      · rw [q]; have : l[n]'(by omega) = at_ l n := by simp [at_, show n < l.length by omega]
        rw [this, c]
      · exact hz x q
    · rw [show (at_ l n == 0) = false by simpa using c, cond_false, ← take_cd hd hn hz (.inr (by rw [Nat.add_sub_cancel]; exact c))]
theorem rtrim_f {l : List Int} (hl : l.length ≤ 1000000) (hd : Dig l) : F65 l = some (cd (val l).toNat) := by
  rw [F65_eq]; exact rtrim_l hl hd l.length (Nat.le_refl _) (by simp)
theorem rsd_of {a : Bool} {v : Int} (h : 0 ≤ v) : sd (if a = true then -v else v) = if v = 0 then (false, []) else (a, cd v.toNat) := by
  unfold sd
  by_cases c : v = 0
  · rw [if_pos c, c]; cases a <;> simp [cd_zero]
  · rw [if_neg c]
    cases a
    · simp only [Bool.false_eq_true, if_false]
      rw [decide_eq_false (by omega)]; congr 2; omega
    · simp only [if_true]
      rw [decide_eq_true (by omega)]; congr 2; omega
/-- A number, as the reference holds it. -/
def rb (x : Int) : S73 := ⟨(sd x).1, (sd x).2⟩
theorem rb_f1 (x : Int) : (rb x).f1 = cd x.natAbs := rfl
theorem rb_f0 (x : Int) : (rb x).f0 = decide (x < 0) := rfl
theorem rnorm_f {a : Bool} {l : List Int} (hl : l.length ≤ 1000000) (hd : Dig l) : F51 a l = some (rb (if a = true then -(val l) else val l)) := by
  have hv := (val_bd hd).1
  rw [F51_eq, bnd (rtrim_f hl hd)]
  unfold rb
  rw [rsd_of hv]
  by_cases c : val l = 0
  · rw [c, Int.toNat_zero, cd_zero]
    cases a <;> rfl
  · have hn : cd (val l).toNat ≠ [] := fun q => by rw [cd_nil] at q; omega
    have h0 : (cd (val l).toNat).length ≠ 0 := fun q => hn (List.eq_nil_of_length_eq_zero q)
    rw [if_neg c]
    cases a
    · rfl
    · rw [cond_true, decide_eq_true (show ((cd (val l).toNat).length : Int) > 0 by omega)]
theorem rplus_l {a b : List Int} (ha : Dig a) (hb : Dig b) (la : a.length ≤ 100000) (lb : b.length ≤ 100000) :
    ∀ (d i : Nat) (l : List Int) (c : Int), i + d = max a.length b.length + 1 → l.length = i → Dig l → 0 ≤ c → c ≤ 1 → val l + c * 65536 ^ i = low a i + low b i →
      ∃ r, L69_0 a b l c (i : Int) = some r ∧ Dig r ∧ r.length ≤ max a.length b.length + 1 ∧ val r = val a + val b := by
  intro d
  induction d with
  | zero =>
    intro i l c hi hl hd c0 c1 hv
    have ea := low_all a i (by omega)
    have eb := low_all b i (by omega)
    have h1 := val_bd ha
    have h2 := val_bd hb
    have h3 : (65536 : Int) ^ a.length ≤ 65536 ^ (max a.length b.length) := pw_le (by omega)
    have h4 : (65536 : Int) ^ b.length ≤ 65536 ^ (max a.length b.length) := pw_le (by omega)
    have h5 : (65536 : Int) ^ i = 65536 * 65536 ^ (max a.length b.length) := by rw [show i = max a.length b.length + 1 by omega, pw_succ]
    have h6 := pw_pos (max a.length b.length)
    have h7 := val_bd hd
    have hc : c = 0 := by
      rcases (show c = 0 ∨ c = 1 by omega) with h | h
      · exact h
      · subst h; omega
    subst hc
    refine ⟨l, ?_, hd, by omega, by rw [ea, eb] at hv; omega⟩
    rw [L69_0_eq, cF (by omega), cF (by omega), cF (by omega)]
  | succ d ih =>
    intro i l c hi hl hd c0 c1 hv
    by_cases hend : ¬ (i < a.length) ∧ ¬ (i < b.length) ∧ c = 0
    · obtain ⟨e1, e2, rfl⟩ := hend
      have ea := low_all a i (by omega)
      have eb := low_all b i (by omega)
      refine ⟨l, ?_, hd, by omega, by rw [ea, eb] at hv; omega⟩
      rw [L69_0_eq, cF (by omega), cF (by omega), cF (by omega)]
    · have A := at_bd ha i
      have B := at_bd hb i
      have w1 : wr .u64 (at_ a i + at_ b i) = at_ a i + at_ b i := wu64 (by omega) (by omega)
      obtain ⟨x, hx⟩ : ∃ x, x = at_ a i + at_ b i + c := ⟨_, rfl⟩
      have x0 : 0 ≤ x := by omega
      have w3 : wr .u64 (x / 65536) = x / 65536 := wu64 (by omega) (by omega)
      have wx : wr .u64 x = x := wu64 (by omega) (by omega)
      obtain ⟨r, h1, h2, h3, h4⟩ := ih (i + 1) (l ++ [x % 65536]) (x / 65536) (by omega) (by simp [hl]) (hd.app (by omega)) (by omega) (by omega) (by
        have e := val_app l (x % 65536)
        have e2 : (65536 : Int) ^ (i + 1) = 65536 * 65536 ^ i := pw_succ i
        rw [e, hl, low_succ, low_succ, e2]
        have h5 : x = x % 65536 + 65536 * (x / 65536) := by omega
        generalize x % 65536 = xm at *
        generalize x / 65536 = xd at *
        generalize (65536 : Int) ^ i = P at *
        have : x * P = xm * P + 65536 * xd * P := by rw [h5]; grind
        have h6 : x * P = at_ a i * P + at_ b i * P + c * P := by rw [hx]; grind
        grind)
      refine ⟨r, ?_, h2, h3, h4⟩
      have J : L69_1 a b l c (i : Int) = some r := by
        rw [L69_1_eq, bnd (rat_f a i), bnd (rat_f b i), w1, ← hx, wx, tmod_nn x0, tdiv_nn x0, w3, inc (by omega), fit_of (by simp only [List.length_singleton]; omega), grd_t]
        exact h1
      rw [L69_0_eq]
      by_cases e1 : (i : Int) < (a.length : Int)
      · rw [cT e1]; exact J
      · by_cases e2 : (i : Int) < (b.length : Int)
        · rw [cF e1, cT e2]; exact J
        · rw [cF e1, cF e2, cT (by omega)]; exact J
theorem rplus_f {a b : List Int} (ha : Dig a) (hb : Dig b) (la : a.length ≤ 100000) (lb : b.length ≤ 100000) :
    ∃ r, F69 a b = some r ∧ Dig r ∧ r.length ≤ max a.length b.length + 1 ∧ val r = val a + val b := by
  rw [F69_eq]
  exact rplus_l ha hb la lb (max a.length b.length + 1) 0 [] 0 (by omega) rfl (by intro x hx; simp at hx) (by omega) (by omega) (by simp [val, low])
theorem rminus_l {a b : List Int} (ha : Dig a) (hb : Dig b) (la : a.length ≤ 100000) (hle : val b ≤ val a) :
    ∀ (d i : Nat) (l : List Int) (c : Int), i + d = a.length → l.length = i → Dig l → 0 ≤ c → c ≤ 1 → val l = low a i - low b i + c * 65536 ^ i →
      ∃ r, L71_0 a b l c (i : Int) = some r ∧ Dig r ∧ r.length = a.length ∧ val r = val a - val b := by
  intro d
  induction d with
  | zero =>
    intro i l c hi hl hd c0 c1 hv
    have ea := low_all a i (by omega)
    have h1 := val_bd ha
    have h2 := val_bd hb
    have eb : low b i = val b := low_eq hb (by rw [show i = a.length by omega]; omega)
    have h7 := val_bd hd
    rw [hl] at h7
    have hc : c = 0 := by
      rcases (show c = 0 ∨ c = 1 by omega) with h | h
      · exact h
      · subst h; rw [ea, eb] at hv; omega
    subst hc
    refine ⟨l, ?_, hd, by omega, by rw [ea, eb] at hv; omega⟩
    rw [L71_0_eq, cF (by omega)]
  | succ d ih =>
    intro i l c hi hl hd c0 c1 hv
    have A := at_bd ha i
    have B := at_bd hb i
    have w1 : wr .u64 (65536 + at_ a i) = 65536 + at_ a i := wu64 (by omega) (by omega)
    have w2 : wr .u64 (65536 + at_ a i - at_ b i) = 65536 + at_ a i - at_ b i := wu64 (by omega) (by omega)
    obtain ⟨x, hx⟩ : ∃ x, x = 65536 + at_ a i - at_ b i - c := ⟨_, rfl⟩
    have x0 : 0 ≤ x := by omega
    have w4 : wr .u64 (x / 65536) = x / 65536 := wu64 (by omega) (by omega)
    have wx : wr .u64 x = x := wu64 (by omega) (by omega)
    have w5 : wr .u64 (1 - x / 65536) = 1 - x / 65536 := wu64 (by omega) (by omega)
    obtain ⟨r, h1, h2, h3, h4⟩ := ih (i + 1) (l ++ [x % 65536]) (1 - x / 65536) (by omega) (by simp [hl]) (hd.app (by omega)) (by omega) (by omega) (by
      have e := val_app l (x % 65536)
      have e2 : (65536 : Int) ^ (i + 1) = 65536 * 65536 ^ i := pw_succ i
      rw [e, hl, low_succ, low_succ, e2]
      have h5 : x = x % 65536 + 65536 * (x / 65536) := by omega
      generalize x % 65536 = xm at *
      generalize x / 65536 = xd at *
      generalize (65536 : Int) ^ i = P at *
      have : x * P = xm * P + 65536 * xd * P := by rw [h5]; grind
      have h6 : x * P = 65536 * P + at_ a i * P - at_ b i * P - c * P := by rw [hx]; grind
      grind)
    refine ⟨r, ?_, h2, h3, h4⟩
    rw [L71_0_eq, cT (by omega), grd_p (by omega), grd_p (by omega), rrd, bnd (rat_f b i), w1, w2, ← hx, wx, tmod_nn x0, tdiv_nn x0, w4, w5, inc (by omega), fit_of (by simp only [List.length_singleton]; omega), grd_t]
    exact h1
theorem rminus_f {a b : List Int} (ha : Dig a) (hb : Dig b) (la : a.length ≤ 100000) (hle : val b ≤ val a) :
    ∃ r, F71 a b = some r ∧ Dig r ∧ r.length = a.length ∧ val r = val a - val b := by
  rw [F71_eq]
  exact rminus_l ha hb la hle a.length 0 [] 0 (by omega) rfl (by intro x hx; simp at hx) (by omega) (by omega) (by simp [val, low])
theorem rless_l {a b : List Int} (ha : Dig a) (hb : Dig b) (hab : a.length = b.length) (hl : a.length ≤ 1000000) : ∀ n : Nat, n ≤ a.length → ∃ s, L70_0 a b ((n : Int) - 1) = some s ∧ (s ≥ 0 ↔ low b n ≤ low a n)
  | 0, hn => ⟨0, by rw [L70_0_eq, cF (by omega)], by simp [low]⟩
  | n + 1, hn => by
    obtain ⟨s, s1, s2⟩ := rless_l ha hb hab hl n (by omega)
    have h1 := low_bd ha n
    have h2 := low_bd hb n
    have h3 := pw_pos n
    have step : ∀ {x y p q : Int}, 0 ≤ p → p < 65536 ^ n → 0 ≤ q → q < 65536 ^ n → x < y → p + x * 65536 ^ n < q + y * 65536 ^ n := by
      intro x y p q hp0 hp hq0 hq hxy
      have := Int.mul_le_mul_of_nonneg_right (show x + 1 ≤ y by omega) (Int.le_of_lt h3)
      rw [Int.add_mul] at this
      omega
    rw [show ((n + 1 : Nat) : Int) - 1 = (n : Int) by omega, L70_0_eq, cT (by omega), grd_p (by omega), grd_p (by omega), grd_p (by omega), grd_p (by omega), grd_p (by omega), grd_p (by omega), grd_p (by omega), grd_p (by omega), rrd, rrd, show wr .i64 ((n : Int) - 1) = (n : Int) - 1 from w64 (by omega) (by omega), low_succ, low_succ]
    rcases Int.lt_trichotomy (at_ a n) (at_ b n) with c | c | c
    · have := step h1.1 h1.2 h2.1 h2.2 c
      exact ⟨-1, by rw [cT c], by omega⟩
    · exact ⟨s, by rw [cF (by omega), cF (by omega)]; exact s1, by rw [s2, c]; omega⟩
    · have := step h2.1 h2.2 h1.1 h1.2 c
      exact ⟨1, by rw [cF (by omega), cT c], by omega⟩
theorem rcan_len {a b : List Int} (ha : CanF a) (hb : CanF b) (h : a.length < b.length) : val a < val b := by
  have h1 := val_bd ha.1
  have e := can_cd hb
  rcases Int.lt_or_le (val b) (65536 ^ a.length) with q | q
  · exfalso
    have hv := (val_bd hb.1).1
    have := cd_len (z := (val b).toNat) (n := a.length) (by rw [Int.toNat_of_nonneg hv]; exact q)
    rw [← e] at this
    omega
  · omega
theorem rless_f {a b : List Int} (ha : CanF a) (hb : CanF b) (la : a.length ≤ 1000000) (lb : b.length ≤ 1000000) : ∃ s, F70 a b = some s ∧ (s ≥ 0 ↔ val b ≤ val a) := by
  rw [F70_eq]
  rcases Nat.lt_trichotomy a.length b.length with c | c | c
  · have := rcan_len ha hb c
    exact ⟨-1, by rw [show ((a.length : Int) != (b.length : Int)) = true by simp; omega, cond_true, cT (by omega)], by omega⟩
  · obtain ⟨s, s1, s2⟩ := rless_l ha.1 hb.1 c la a.length (Nat.le_refl _)
    rw [low_all a _ (Nat.le_refl _), low_all b _ (by omega)] at s2
    refine ⟨s, ?_, s2⟩
    rw [show ((a.length : Int) != (b.length : Int)) = false by simp; omega, cond_false, show wr .i64 ((a.length : Int) - 1) = (a.length : Int) - 1 from w64 (by omega) (by omega)]
    exact s1
  · have := rcan_len hb ha c
    exact ⟨1, by rw [show ((a.length : Int) != (b.length : Int)) = true by simp; omega, cond_true, cF (by omega)], by omega⟩
theorem radd_f {x y : Int} (hx : (cd x.natAbs).length ≤ 90000) (hy : (cd y.natAbs).length ≤ 90000) : F60 (rb x) (rb y) = some (rb (x + y)) := by
  have dx := cd_dig x.natAbs
  have dy := cd_dig y.natAbs
  have vx := cd_val x.natAbs
  have vy := cd_val y.natAbs
  have pair : ∀ {l : List Int} {a : Bool}, Dig l → l.length ≤ 1000000 → (if a = true then -(val l) else val l) = x + y → ((F51 a l).bind fun bt => some bt) = some (rb (x + y)) := fun hd hl he => by
    rw [bnd (rnorm_f hl hd), he]
  rw [F60_eq]
  unfold rb sd
  simp only
  by_cases c : (decide (x < 0) == decide (y < 0)) = true
  · rw [c, cond_true]
    obtain ⟨r, r1, r2, r3, r4⟩ := rplus_f dx dy (by omega) (by omega)
    rw [bnd r1]
    refine pair r2 (by omega) ?_
    rw [r4, vx, vy]
    simp only [beq_iff_eq, decide_eq_decide] at c
    simp only [decide_eq_true_eq]
    split <;> omega
  · rw [show (decide (x < 0) == decide (y < 0)) = false by simpa using c, cond_false]
    simp only [beq_iff_eq, decide_eq_decide] at c
    obtain ⟨s, s1, s2⟩ := rless_f (cd_can x.natAbs) (cd_can y.natAbs) (by omega) (by omega)
    rw [vx, vy] at s2
    rw [bnd s1]
    by_cases g : s ≥ 0
    · rw [cT g]
      have hle := s2.1 g
      obtain ⟨r, r1, r2, r3, r4⟩ := rminus_f dx dy (by omega) (by rw [vx, vy]; exact hle)
      rw [bnd r1]
      refine pair r2 (by omega) ?_
      rw [r4, vx, vy]
      simp only [decide_eq_true_eq]
      split <;> omega
    · rw [cF g]
      have hle : ¬ ((y.natAbs : Int) ≤ (x.natAbs : Int)) := fun q => g (s2.2 q)
      obtain ⟨r, r1, r2, r3, r4⟩ := rminus_f dy dx (by omega) (by rw [vx, vy]; omega)
      rw [bnd r1]
      refine pair r2 (by omega) ?_
      rw [r4, vx, vy]
      simp only [decide_eq_true_eq]
      split <;> omega
theorem rmul_in (sa sb : Bool) {a b : List Int} {z : S73} (ha : Dig a) (hb : Dig b) (la : a.length ≤ 100000) (lb : b.length ≤ 100000) (i : Nat) (hi : i < a.length) (T0 : Int)
    (hT : T0 + at_ a i * val b * 65536 ^ i < 65536 ^ (i + 1 + b.length)) :
    ∀ (d k : Nat) (out : List Int) (c : Int), k + d = b.length + 2 → Dig out → out.length = a.length + b.length + 1 → 0 ≤ c → c < 65536 →
      val out + c * 65536 ^ (i + k) = T0 + at_ a i * low b k * 65536 ^ i →
      ∃ out', Dig out' ∧ out'.length = a.length + b.length + 1 ∧ val out' = T0 + at_ a i * val b * 65536 ^ i ∧
        L55_1 ⟨sa, a⟩ ⟨sb, b⟩ z out (i : Int) c (k : Int) = L55_0 ⟨sa, a⟩ ⟨sb, b⟩ z out' ((i + 1 : Nat) : Int) := by
  have ai := at_bd ha i
  have last : ∀ (k : Nat) (out : List Int) (c : Int), b.length + 1 ≤ k → Dig out → 0 ≤ c → val out + c * 65536 ^ (i + k) = T0 + at_ a i * low b k * 65536 ^ i → c = 0 := by
    intro k out c hk hd hc0 hv
    have h1 := val_bd hd
    rw [low_all b k (by omega)] at hv
    have h2 := pw_le (show i + 1 + b.length ≤ i + k by omega)
    rcases Int.lt_or_le 0 c with h | h
    · have := Int.mul_le_mul_of_nonneg_right (show 1 ≤ c by omega) (Int.le_of_lt (pw_pos (i + k)))
      omega
    · omega
  have done : ∀ (k : Nat) (out : List Int) (c : Int), b.length ≤ k → c = 0 → Dig out → out.length = a.length + b.length + 1 → val out + c * 65536 ^ (i + k) = T0 + at_ a i * low b k * 65536 ^ i →
      ∃ out', Dig out' ∧ out'.length = a.length + b.length + 1 ∧ val out' = T0 + at_ a i * val b * 65536 ^ i ∧
        L55_1 ⟨sa, a⟩ ⟨sb, b⟩ z out (i : Int) c (k : Int) = L55_0 ⟨sa, a⟩ ⟨sb, b⟩ z out' ((i + 1 : Nat) : Int) := by
    intro k out c hk hc hd hl hv
    subst hc
    rw [low_all b k hk] at hv
    refine ⟨out, hd, hl, by omega, ?_⟩
    rw [L55_1_eq]
    simp only
    rw [cF (by omega), cF (by omega), inc (by omega)]
  intro d
  induction d with
  | zero =>
    intro k out c hk hd hl hc0 hc hv
    exact done k out c (by omega) (last k out c (by omega) hd hc0 hv) hd hl hv
  | succ d ih =>
    intro k out c hk hd hl hc0 hc hv
    by_cases hend : b.length ≤ k ∧ c = 0
    · exact done k out c hend.1 hend.2 hd hl hv
    · have hkb : k ≤ b.length := by
        rcases Nat.lt_or_ge b.length k with h | h
        · exact absurd ⟨by omega, last k out c (by omega) hd hc0 hv⟩ hend
        · exact h
      have oi := at_bd hd (i + k)
      have bk := at_bd hb k
      have hm := mul_bd (x := at_ a i) (y := at_ b k) (M := 65535) (N := 65535) (by omega) (by omega) (by omega) (by omega)
      have hm0 := mul_nn ai.1 bk.1
      obtain ⟨x, hx⟩ : ∃ x, x = at_ out (i + k) + at_ a i * at_ b k + c := ⟨_, rfl⟩
      have hxb : 0 ≤ x ∧ x < 4294967296 := by omega
      obtain ⟨out', d1, d2, d3, d4⟩ := ih (k + 1) (out.set (i + k) (x % 65536)) (x / 65536) (by omega) (hd.set _ (by omega)) (by simpa using hl) (by omega) (by omega) (by
        rw [val_set _ _ _ (by omega), low_succ, show i + (k + 1) = i + k + 1 by omega, pw_succ]
        exact times_step hx (Int.pow_add _ _ _) hv)
      refine ⟨out', d1, d2, d3, ?_⟩
      have n1 : wr .i64 ((i : Int) + (k : Int)) = ((i + k : Nat) : Int) := (w64 (by omega) (by omega)).trans (by omega)
      have n5 : wr .u64 (at_ a i * at_ b k) = at_ a i * at_ b k := wu64 (by omega) (by omega)
      have n6 : wr .u64 (at_ out (i + k) + at_ a i * at_ b k) = at_ out (i + k) + at_ a i * at_ b k := wu64 (by omega) (by omega)
      have n7 : wr .u64 (at_ out (i + k) + at_ a i * at_ b k + c) = x := by rw [← hx]; exact wu64 (by omega) (by omega)
      have n8 : wr .u64 (x / 65536) = x / 65536 := wu64 (by omega) (by omega)
      have J : L55_2 ⟨sa, a⟩ ⟨sb, b⟩ z out (i : Int) c (k : Int) = L55_0 ⟨sa, a⟩ ⟨sb, b⟩ z out' ((i + 1 : Nat) : Int) := by
        rw [L55_2_eq]
        simp only
        rw [n1, grd_p (by omega), grd_p (by omega), grd_p (by omega), grd_p (by omega), bnd (rat_f b k), grd_p (by omega), grd_p (by omega), rrd, rrd, n5, n6, n7, tmod_nn hxb.1, tdiv_nn hxb.1, n8, inc (by omega), Int.toNat_natCast]
        exact d4
      rw [L55_1_eq]
      simp only
      by_cases c1 : (k : Int) < (b.length : Int)
      · rw [cT c1]; exact J
      · rw [cF c1, cT (by omega)]; exact J
theorem rmul_out (sa sb : Bool) {a b : List Int} {z : S73} (ha : Dig a) (hb : Dig b) (la : a.length ≤ 100000) (lb : b.length ≤ 100000) :
    ∀ (d i : Nat) (out : List Int), i + d = a.length → Dig out → out.length = a.length + b.length + 1 → val out = low a i * val b →
      L55_0 ⟨sa, a⟩ ⟨sb, b⟩ z out (i : Int) = some (rb (if (!(sa == sb)) = true then -(val a * val b) else val a * val b))
  | 0, i, out, hi, hd, hl, hv => by
    have := rnorm_f (a := !(sa == sb)) (show out.length ≤ 1000000 by omega) hd
    rw [hv, low_all a i (by omega)] at this
    rw [L55_0_eq]
    simp only
    rw [cF (by omega), bnd this]
  | d + 1, i, out, hi, hd, hl, hv => by
    have hbv := val_bd hb
    have hlow := low_bd ha (i + 1)
    have e1 : val out + at_ a i * val b * 65536 ^ i = low a (i + 1) * val b := by rw [hv, low_succ, Int.add_mul, Int.mul_assoc, Int.mul_comm (val b), ← Int.mul_assoc]
    have hT : val out + at_ a i * val b * 65536 ^ i < 65536 ^ (i + 1 + b.length) := by
      rw [e1, Int.pow_add]
      have h1 : low a (i + 1) * val b ≤ (65536 ^ (i + 1) - 1) * val b := Int.mul_le_mul_of_nonneg_right (by omega) hbv.1
      have h2 : (65536 ^ (i + 1) - 1) * val b ≤ (65536 ^ (i + 1) - 1) * 65536 ^ b.length := Int.mul_le_mul_of_nonneg_left (by omega) (by have := pw_pos (i + 1); omega)
      have h3 := pw_pos b.length
      have h4 : (65536 ^ (i + 1) - 1) * 65536 ^ b.length = (65536 : Int) ^ (i + 1) * 65536 ^ b.length - 65536 ^ b.length := by rw [Int.sub_mul, Int.one_mul]
      omega
    obtain ⟨out', d1, d2, d3, d4⟩ := rmul_in sa sb (z := z) ha hb la lb i (by omega) (val out) hT (b.length + 2) 0 out 0 (by omega) hd hl (by omega) (by omega) (by simp [low])
    have h1 := rmul_out sa sb (z := z) ha hb la lb d (i + 1) out' (by omega) d1 d2 (by rw [d3, e1])
    rw [L55_0_eq]
    simp only
    rw [cT (by omega)]
    exact (d4.trans h1)
theorem rmul_f {x y : Int} (hx : (cd x.natAbs).length ≤ 90000) (hy : (cd y.natAbs).length ≤ 90000) : F55 (rb x) (rb y) = some (rb (x * y)) := by
  have dx := cd_dig x.natAbs
  have dy := cd_dig y.natAbs
  have vx := cd_val x.natAbs
  have vy := cd_val y.natAbs
  have h := rmul_out (decide (x < 0)) (decide (y < 0)) (z := ⟨false, []⟩) dx dy (by omega) (by omega) (cd x.natAbs).length 0 (List.replicate ((cd x.natAbs).length + (cd y.natAbs).length + 1) 0) (by omega) (Dig.zero _) (by simp) (by simp [low, val_zero])
  have e : (if (!(decide (x < 0) == decide (y < 0))) = true then -(val (cd x.natAbs) * val (cd y.natAbs)) else val (cd x.natAbs) * val (cd y.natAbs)) = x * y := by
    rw [vx, vy]
    by_cases c1 : x < 0 <;> by_cases c2 : y < 0
    · rw [if_neg (by simp [c1, c2])]
      have e1 : x = -(x.natAbs : Int) := by omega
      have e2 : y = -(y.natAbs : Int) := by omega
      generalize (x.natAbs : Int) = p at *
      generalize (y.natAbs : Int) = q at *
      subst e1 e2; grind
    · rw [if_pos (by simp [c1, c2])]
      have e1 : x = -(x.natAbs : Int) := by omega
      have e2 : y = (y.natAbs : Int) := by omega
      generalize (x.natAbs : Int) = p at *
      generalize (y.natAbs : Int) = q at *
      subst e1 e2; grind
    · rw [if_pos (by simp [c1, c2])]
      have e1 : x = (x.natAbs : Int) := by omega
      have e2 : y = -(y.natAbs : Int) := by omega
      generalize (x.natAbs : Int) = p at *
      generalize (y.natAbs : Int) = q at *
      subst e1 e2; grind
    · rw [if_neg (by simp [c1, c2])]
      have e1 : x = (x.natAbs : Int) := by omega
      have e2 : y = (y.natAbs : Int) := by omega
      generalize (x.natAbs : Int) = p at *
      generalize (y.natAbs : Int) = q at *
      subst e1 e2; rfl
  rw [e] at h
  have n1 : wr .i64 (wr .i64 (((cd x.natAbs).length : Int) + ((cd y.natAbs).length : Int)) + 1) = (((cd x.natAbs).length + (cd y.natAbs).length + 1 : Nat) : Int) := by rw [show wr .i64 (((cd x.natAbs).length : Int) + ((cd y.natAbs).length : Int)) = ((cd x.natAbs).length : Int) + ((cd y.natAbs).length : Int) from w64 (by omega) (by omega)]; exact (w64 (by omega) (by omega)).trans (by omega)
  rw [F55_eq, rb_f1, rb_f1, n1, grd_p (by omega), grd_p (by omega), Int.toNat_natCast, fitM_of (by omega), grd_t]
  exact h
theorem rneg_f {x : Int} (hx : (cd x.natAbs).length ≤ 90000) : F67 (rb x) = some (rb (-x)) := by
  have h := rnorm_f (a := !(decide (x < 0))) (show (cd x.natAbs).length ≤ 1000000 by omega) (cd_dig x.natAbs)
  rw [cd_val] at h
  have e : (if (!(decide (x < 0))) = true then -(x.natAbs : Int) else (x.natAbs : Int)) = -x := by
    by_cases c : x < 0
    · rw [if_neg (by simp [c])]; omega
    · rw [if_pos (by simp [c])]; omega
  rw [e] at h
  rw [F67_eq, rb_f1, rb_f0, bnd h]
theorem rsub_f {x y : Int} (hx : (cd x.natAbs).length ≤ 90000) (hy : (cd y.natAbs).length ≤ 90000) : F56 (rb x) (rb y) = some (rb (x - y)) := by
  have h := radd_f (x := x) (y := -y) hx (by rw [Int.natAbs_neg]; exact hy)
  rw [show x + -y = x - y by omega] at h
  rw [F56_eq, bnd (rneg_f hy), bnd h]
theorem four_val (u : Int) (h0 : 0 ≤ u) (h1 : u < 18446744073709551616) : Dig [u % 65536, u / 65536 % 65536, u / 4294967296 % 65536, u / 281474976710656] ∧ val [u % 65536, u / 65536 % 65536, u / 4294967296 % 65536, u / 281474976710656] = u := by
  refine ⟨fun x hx => ?_, ?_⟩
  · simp at hx; rcases hx with rfl | rfl | rfl | rfl <;> omega
  · simp only [val]; omega
theorem rof_f {n : Int} (h0 : -9223372036854775808 ≤ n) (h1 : n ≤ 9223372036854775807) : F40 n = some (rb n) := by
  have J : ∀ u : Int, 0 ≤ u → u < 18446744073709551616 → (if decide (n < 0) = true then -u else u) = n → L40_0 n ⟨false, []⟩ u = some (rb n) := fun u q0 q1 e => by
    obtain ⟨hd, hv⟩ := four_val u q0 q1
    have := rnorm_f (a := decide (n < 0)) (l := [u % 65536, u / 65536 % 65536, u / 4294967296 % 65536, u / 281474976710656]) (by simp) hd
    rw [hv, e] at this
    rw [L40_0_eq, tdiv_nn q0, tdiv_nn q0, tdiv_nn q0, show wr .u64 (u / 65536) = u / 65536 from wu64 (by omega) (by omega), show wr .u64 (u / 4294967296) = u / 4294967296 from wu64 (by omega) (by omega), show wr .u64 (u / 281474976710656) = u / 281474976710656 from wu64 (by omega) (by omega),
      tmod_nn q0, tmod_nn (show 0 ≤ u / 65536 by omega), tmod_nn (show 0 ≤ u / 4294967296 by omega), bnd this]
  rw [F40_eq]
  by_cases c : n < 0
  · rw [cT c]
    have e : wr .u64 (0 - wr .u64 n) = -n := by simp only [wr, wu64_mod]; omega
    rw [e]
    exact J _ (by omega) (by omega) (by rw [decide_eq_true c]; simp)
  · rw [cF c]
    have e : wr .u64 n = n := by simp only [wr, wu64_mod]; omega
    rw [e]
    exact J _ (by omega) (by omega) (by rw [decide_eq_false c]; simp)
/-- Two digits of 16 bits are one of 32. -/
def toB : List Int → List Int
  | [] => []
  | [d] => [d]
  | d :: e :: l => (d + e * 65536) :: toB l
theorem toB_cd (z : Nat) : toB (cd z) = NumB.cd z := by
  induction z using Nat.strongRecOn with
  | _ z ih =>
    rcases Nat.eq_zero_or_pos z with h | h
    · subst h; rw [cd_zero, NumB.cd_zero]; rfl
    · rw [cd_pos h, NumB.cd_pos h]
      rcases Nat.eq_zero_or_pos (z / 65536) with q | q
      · rw [q, cd_zero, toB, show z / 4294967296 = 0 by omega, NumB.cd_zero]
        congr 1; omega
      · rw [cd_pos q, toB, ih (z / 65536 / 65536) (by omega), Nat.div_div_eq_div_mul]
        congr 1; omega
end Go.Proofs.Ytkpjeihgigmnkaa.EvR
