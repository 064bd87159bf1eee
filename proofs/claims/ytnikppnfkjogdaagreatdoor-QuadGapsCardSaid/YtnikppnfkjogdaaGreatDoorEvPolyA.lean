/- Layer 2 on numbers in any form, and the reference from them: what they are worth. -/
import Derived.Test.YtnikppnfkjogdaaGreatDoorEvRef02
import Derived.Test.YtnikppnfkjogdaaGreatDoorEvBig
namespace Go.Proofs.YtnikppnfkjogdaaGreatDoor.EvP
open Go Go.Proofs.YtnikppnfkjogdaaGreatDoor.Ev Go.Proofs.YtnikppnfkjogdaaGreatDoor.NumB
set_option linter.unusedVariables false
set_option linter.unusedSimpArgs false
abbrev rb := EvR.rb
/-- What a number is worth. -/
def bv (a : S77) : Int := if a.f0 = true then -(val a.f1) else val a.f1
/-- Of at most n digits. -/
def Rp (n : Nat) (a : S77) : Prop := Dig a.f1 ∧ a.f1.length ≤ n
@[irreducible] def Sz (n : Nat) (x : Int) : Prop := (x.natAbs : Int) < 4294967296 ^ n
theorem Sz.lt {n : Nat} {x : Int} (h : Sz n x) : (x.natAbs : Int) < 4294967296 ^ n := by unfold Sz at h; exact h
theorem Sz.of {n : Nat} {x : Int} (h : (x.natAbs : Int) < 4294967296 ^ n) : Sz n x := by unfold Sz; exact h
theorem Rp.le {m n : Nat} {a : S77} (h : Rp m a) (hn : m ≤ n) : Rp n a := ⟨h.1, Nat.le_trans h.2 hn⟩
theorem Sz.le {m n : Nat} {x : Int} (h : Sz m x) (hn : m ≤ n) : Sz n x := .of (Int.lt_of_lt_of_le h.lt (pw_le hn))
theorem Sz.b {n : Nat} {x : Int} (h : Sz n x) : (cd x.natAbs).length ≤ n := cd_len h.lt
theorem pw2 (n : Nat) : (65536 : Int) ^ (2 * n) = 4294967296 ^ n := by
  rw [Int.pow_mul]; rfl
theorem Sz.m {n : Nat} {x : Int} (h : Sz n x) : (NumM.cd x.natAbs).length ≤ 2 * n := NumM.cd_len (by rw [pw2]; exact h.lt)
theorem bv_bg (x : Int) : bv (bg x) = x := by
  unfold bv bg sd
  simp only [cd_val, decide_eq_true_eq]
  split <;> omega
theorem Sz.rp {n : Nat} {x : Int} (h : Sz n x) : Rp n (bg x) := ⟨cd_dig _, cd_len h.lt⟩
theorem bv_abs {a : S77} (h : Dig a.f1) : ((bv a).natAbs : Int) = val a.f1 := by
  have := val_bd h
  unfold bv; split <;> omega
theorem Rp.sz {n : Nat} {a : S77} (h : Rp n a) : Sz n (bv a) := by
  unfold Sz; rw [bv_abs h.1]
  exact Int.lt_of_lt_of_le (val_bd h.1).2 (pw_le h.2)
theorem sz_zero (n : Nat) : Sz n 0 := by
  have := pw_pos n
  unfold Sz; simpa using this
theorem sz_add {m n : Nat} {x y : Int} (hx : Sz m x) (hy : Sz n y) : Sz (max m n + 1) (x + y) := by
  have h1 := pw_le (show m ≤ max m n by omega)
  have h2 := pw_le (show n ≤ max m n by omega)
  unfold Sz at *
  rw [pw_succ]
  omega
theorem sz_neg {m : Nat} {x : Int} (hx : Sz m x) : Sz m (-x) := by unfold Sz at *; rwa [Int.natAbs_neg]
theorem sz_abs {m : Nat} {x : Int} (hx : Sz m x) : Sz m (x.natAbs : Int) := by unfold Sz at *; rwa [Int.natAbs_natCast]
theorem sz_sub {m n : Nat} {x y : Int} (hx : Sz m x) (hy : Sz n y) : Sz (max m n + 1) (x - y) := by rw [Int.sub_eq_add_neg]; exact sz_add hx (sz_neg hy)
theorem sz_mul {m n : Nat} {x y : Int} (hx : Sz m x) (hy : Sz n y) : Sz (m + n) (x * y) := by
  unfold Sz at *
  rw [Int.natAbs_mul, Int.pow_add, Int.natCast_mul]
  have h1 : ((x.natAbs : Int)) * (y.natAbs : Int) ≤ (x.natAbs : Int) * 4294967296 ^ n := Int.mul_le_mul_of_nonneg_left (by omega) (by omega)
  have h2 : ((x.natAbs : Int)) * 4294967296 ^ n < 4294967296 ^ m * 4294967296 ^ n := Int.mul_lt_mul_of_pos_right hx (pw_pos n)
  omega
theorem sz_i64 {x : Int} (h0 : -9223372036854775808 ≤ x) (h1 : x ≤ 9223372036854775807) : Sz 2 x := by
  unfold Sz; rw [show (4294967296 : Int) ^ 2 = 18446744073709551616 from rfl]; omega
/-! layer 2 -/
theorem val_nn {l : List Int} (h : Dig l) : ((val l).toNat : Int) = val l := Int.toNat_of_nonneg (val_bd h).1
theorem lc {l : List Int} (h : Dig l) : (cd (val l).toNat).length ≤ l.length := cd_len (by rw [val_nn h]; exact (val_bd h).2)
theorem badd_r {a b : S77} (ha : Rp 90000 a) (hb : Rp 90000 b) : F159 a b = some (bg (bv a + bv b)) := by
  obtain ⟨s, l⟩ := a
  obtain ⟨t, m⟩ := b
  obtain ⟨da, la⟩ := ha
  obtain ⟨db, lb⟩ := hb
  simp only at da la db lb
  have na := lc da
  have nb := lc db
  have dx := cd_dig (val l).toNat
  have dy := cd_dig (val m).toNat
  have vx : val (cd (val l).toNat) = val l := (cd_val _).trans (val_nn da)
  have vy : val (cd (val m).toNat) = val m := (cd_val _).trans (val_nn db)
  have tx := btrim_f (by omega) da
  have ty := btrim_f (by omega) db
  have pair : ∀ {r : List Int} {c : Bool}, Dig r → r.length ≤ 1000000 → (if c = true then -(val r) else val r) = bv ⟨s, l⟩ + bv ⟨t, m⟩ → ((F156 c r).bind fun bt => some bt) = some (bg (bv ⟨s, l⟩ + bv ⟨t, m⟩)) := fun hd hl he => by
    rw [bnd (bform_f hl hd), he]
  rw [F159_eq]
  simp only
  rw [bnd tx, bnd ty]
  by_cases c : (s == t) = true
  · rw [c, cond_true]
    obtain ⟨r, r1, r2, r3, r4⟩ := bplus_f dx dy (by omega) (by omega)
    rw [bnd r1]
    refine pair r2 (by omega) ?_
    rw [r4, vx, vy]
    simp only [beq_iff_eq] at c
    subst c
    cases s <;> simp [bv] <;> omega
  · have ct : t = !s := by cases s <;> cases t <;> simp at c ⊢
    subst ct
    rw [show (s == !s) = false by cases s <;> rfl, cond_false]
    obtain ⟨g, s1, s2⟩ := bagainst_f (cd_can (val l).toNat) (cd_can (val m).toNat) (by omega) (by omega)
    rw [vx, vy] at s2
    rw [bnd s1]
    by_cases k : g ≥ 0
    · rw [cT k]
      have hle := s2.1 k
      have hlen : (cd (val m).toNat).length ≤ (cd (val l).toNat).length := by
        rcases Nat.lt_or_ge (cd (val l).toNat).length (cd (val m).toNat).length with q | q
        · have := can_len (cd_can _) (cd_can _) q; rw [vx, vy] at this; omega
        · exact q
      obtain ⟨r, r1, r2, r3, r4⟩ := bminus_f dx dy (by omega) hlen (by rw [vx, vy]; exact hle)
      rw [bnd r1]
      refine pair r2 (by omega) ?_
      rw [r4, vx, vy]
      cases s <;> simp [bv] <;> omega
    · rw [cF k]
      have hle : ¬ (val m ≤ val l) := fun q => k (s2.2 q)
      have hlen : (cd (val l).toNat).length ≤ (cd (val m).toNat).length := by
        rcases Nat.lt_or_ge (cd (val m).toNat).length (cd (val l).toNat).length with q | q
        · have := can_len (cd_can _) (cd_can _) q; rw [vx, vy] at this; omega
        · exact q
      obtain ⟨r, r1, r2, r3, r4⟩ := bminus_f dy dx (by omega) hlen (by rw [vx, vy]; omega)
      rw [bnd r1]
      refine pair r2 (by omega) ?_
      rw [r4, vx, vy]
      cases s <;> simp [bv] <;> omega
theorem bneg_r {a : S77} (ha : Rp 90000 a) : F207 a = some (bg (-bv a)) := by
  obtain ⟨s, l⟩ := a
  obtain ⟨da, la⟩ := ha
  simp only at da la
  have h := bform_f (a := !s) (show l.length ≤ 1000000 by omega) da
  rw [F207_eq]
  simp only
  rw [F236_eq, fit_of (by omega), grd_t, Option.bind_some, bnd h]
  cases s <;> simp [bv]
theorem bsub_r {a b : S77} (ha : Rp 90000 a) (hb : Rp 90000 b) : F158 a b = some (bg (bv a - bv b)) := by
  have h : Rp 90000 (bg (-bv b)) := (sz_neg hb.sz).rp
  rw [F158_eq, bnd (bneg_r hb), bnd (badd_r ha h), bv_bg, Int.sub_eq_add_neg]
/-- A sign. -/
def sgn (x : Int) : Int := if x = 0 then 0 else if x < 0 then -1 else 1
theorem sgn_zero (x : Int) : (sgn x == 0) = (x == 0) := by
  unfold sgn
  by_cases h : x = 0
  · rw [if_pos h, h]
  · rw [if_neg h]
    have : (x == 0) = false := by simpa using h
    rw [this]; split <;> rfl
theorem sgn_neg (x : Int) : decide (sgn x < 0) = decide (x < 0) := by
  unfold sgn
  by_cases h : x = 0
  · rw [if_pos h, h]
  · rw [if_neg h]; by_cases c : x < 0 <;> simp [c]
theorem bsign_r {a : S77} (ha : Rp 90000 a) : F211 a = some (sgn (bv a)) := by
  obtain ⟨s, l⟩ := a
  obtain ⟨da, la⟩ := ha
  simp only at da la
  have tx := btrim_f (by omega) da
  have hv := val_bd da
  rw [F211_eq]
  simp only
  rw [bnd tx]
  unfold sgn bv
  simp only
  by_cases c : val l = 0
  · rw [c, Int.toNat_zero, cd_zero]
    cases s <;> rfl
  · have hn : cd (val l).toNat ≠ [] := fun q => by rw [cd_nil] at q; omega
    have h0 : (cd (val l).toNat).length ≠ 0 := fun q => hn (List.eq_nil_of_length_eq_zero q)
    rw [show (((cd (val l).toNat).length : Int) == 0) = false by simp; omega, cond_false]
    cases s
    · simp only [cond_false, Bool.false_eq_true, if_false]
      rw [if_neg c, if_neg (by omega)]
    · simp only [cond_true, if_true]
      rw [if_neg (by omega), if_pos (by omega)]
theorem bsized_r {a : S77} (ha : Rp 90000 a) : ∃ b, F240 a = some b ∧ Rp a.f1.length b ∧ bv b = ((bv a).natAbs : Int) := by
  rw [F240_eq, bnd (bsign_r ha), sgn_neg]
  by_cases c : bv a < 0
  · have hs : Rp a.f1.length a := ⟨ha.1, Nat.le_refl _⟩
    refine ⟨_, by rw [cT c, bnd (bneg_r ha)], (sz_neg hs.sz).rp, ?_⟩
    rw [bv_bg]; omega
  · exact ⟨a, by rw [cF c], ⟨ha.1, Nat.le_refl _⟩, by omega⟩
/-! products -/
theorem btimes_step {V T a L t c o x P K B : Int} (hx : x = o + a * t + c) (hB : B = P * K) (hv : V + c * B = T + a * L * P) :
    V + (x % 4294967296 - o) * B + x / 4294967296 * (4294967296 * B) = T + a * (L + t * K) * P := by
  have e2 : x = 4294967296 * (x / 4294967296) + x % 4294967296 := by omega
  generalize x / 4294967296 = q at *
  generalize x % 4294967296 = r at *
  subst hB
  grind
theorem inc {i : Nat} (h : i ≤ 10000000) : wr .i64 ((i : Int) + 1) = ((i + 1 : Nat) : Int) := w64 (by omega) (by omega)
theorem bmul_in (s t : Bool) {a b : List Int} {z : S77} (ha : Dig a) (hb : Dig b) (la : a.length ≤ 100000) (lb : b.length ≤ 100000) (i : Nat) (hi : i < a.length) (T0 : Int) :
    ∀ (d k : Nat) (out : List Int) (c : Int), k + d = b.length → Dig out → out.length = a.length + b.length → 0 ≤ c → c < 4294967296 → at_ out (i + b.length) = 0 →
      val out + c * 4294967296 ^ (i + k) = T0 + at_ a i * low b k * 4294967296 ^ i →
      ∃ out', Dig out' ∧ out'.length = a.length + b.length ∧ val out' = T0 + at_ a i * val b * 4294967296 ^ i ∧
        L154_1 ⟨s, a⟩ ⟨t, b⟩ z out (i : Int) (at_ a i) c a (a.length : Int) (i : Int) b (b.length : Int) (k : Int) = L154_0 ⟨s, a⟩ ⟨t, b⟩ z out' a (a.length : Int) ((i + 1 : Nat) : Int) := by
  have ai := at_bd ha i
  intro d
  induction d with
  | zero =>
    intro k out c hk hd hl hc0 hc hz hv
    have hk' : k = b.length := by omega
    subst hk'
    rw [low_all b _ (Nat.le_refl _)] at hv
    refine ⟨out.set (i + b.length) c, hd.set _ ⟨hc0, hc⟩, by simpa using hl, ?_, ?_⟩
    · rw [val_set _ _ _ (by omega), hz, Int.sub_zero]; exact hv
    · have n1 : wr .i64 ((i : Int) + (b.length : Int)) = ((i + b.length : Nat) : Int) := (w64 (by omega) (by omega)).trans (by omega)
      rw [L154_1_eq]
      simp only
      rw [cF (by omega), n1, grd_p (by omega), grd_p (by omega), show wr .u32 c = c from wu32 (by omega) (by omega), inc (by omega), Int.toNat_natCast]
  | succ d ih =>
    intro k out c hk hd hl hc0 hc hz hv
    have oi := at_bd hd (i + k)
    have bk := at_bd hb k
    have hm := mul_bd (x := at_ a i) (y := at_ b k) (M := 4294967295) (N := 4294967295) (by omega) (by omega) (by omega) (by omega)
    have hm0 := mul_nn ai.1 bk.1
    obtain ⟨x, hx⟩ : ∃ x, x = at_ out (i + k) + at_ a i * at_ b k + c := ⟨_, rfl⟩
    have hxb : 0 ≤ x ∧ x < 18446744073709551616 := by omega
    obtain ⟨out', d1, d2, d3, d4⟩ := ih (k + 1) (out.set (i + k) (x % 4294967296)) (x / 4294967296) (by omega) (hd.set _ (by omega)) (by simpa using hl) (by omega) (by omega) (by rw [at_set (by omega)]; exact hz) (by
      rw [val_set _ _ _ (by omega), low_succ, show i + (k + 1) = i + k + 1 by omega, pw_succ]
      exact btimes_step hx (Int.pow_add _ _ _) hv)
    refine ⟨out', d1, d2, d3, ?_⟩
    have n1 : wr .i64 ((i : Int) + (k : Int)) = ((i + k : Nat) : Int) := (w64 (by omega) (by omega)).trans (by omega)
    have n2 : wr .u64 (at_ a i) = at_ a i := wu64 (by omega) (by omega)
    have n3 : wr .u64 (at_ b k) = at_ b k := wu64 (by omega) (by omega)
    have n4 : wr .u64 (at_ out (i + k)) = at_ out (i + k) := wu64 (by omega) (by omega)
    have n5 : wr .u64 (at_ a i * at_ b k) = at_ a i * at_ b k := wu64 (by omega) (by omega)
    have n6 : wr .u64 (at_ a i * at_ b k + at_ out (i + k)) = at_ a i * at_ b k + at_ out (i + k) := wu64 (by omega) (by omega)
    have n7 : wr .u64 (at_ a i * at_ b k + at_ out (i + k) + c) = x := by rw [hx]; exact (wu64 (by omega) (by omega)).trans (by omega)
    rw [L154_1_eq]
    simp only
    rw [cT (by omega), n1, grd_p (by omega), grd_p (by omega), grd_p (by omega), grd_p (by omega), grd_p (by omega), grd_p (by omega), brd, brd, n2, n3, n4, n5, n6, n7, show shrE IntKind.u64 x 32 = x / 4294967296 from shr64 _ 32 (by omega), inc (by omega), Int.toNat_natCast,
      show wr .u32 x = x % 4294967296 from wu32_mod _]
    exact d4
theorem bmul_out (s t : Bool) {a b : List Int} {z : S77} (ha : Dig a) (hb : Dig b) (la : a.length ≤ 100000) (lb : b.length ≤ 100000) :
    ∀ (d i : Nat) (out : List Int), i + d = a.length → Dig out → out.length = a.length + b.length → val out = low a i * val b →
      L154_0 ⟨s, a⟩ ⟨t, b⟩ z out a (a.length : Int) (i : Int) = some (bg (if (!(s == t)) = true then -(val a * val b) else val a * val b))
  | 0, i, out, hi, hd, hl, hv => by
    have := bform_f (a := !(s == t)) (show out.length ≤ 1000000 by omega) hd
    rw [hv, low_all a i (by omega)] at this
    rw [L154_0_eq]
    simp only
    rw [cF (by omega), bnd this]
  | d + 1, i, out, hi, hd, hl, hv => by
    have hbv := val_bd hb
    have hlow := low_bd ha i
    have e1 : val out + at_ a i * val b * 4294967296 ^ i = low a (i + 1) * val b := by rw [hv, low_succ, Int.add_mul, Int.mul_assoc, Int.mul_comm (val b), ← Int.mul_assoc]
    have hz : at_ out (i + b.length) = 0 := by
      have h0 : low a i * val b < 4294967296 ^ (i + b.length) := by
        rw [Int.pow_add]
        have h1 : low a i * val b ≤ low a i * 4294967296 ^ b.length := Int.mul_le_mul_of_nonneg_left (by omega) hlow.1
        have h2 : low a i * 4294967296 ^ b.length < 4294967296 ^ i * 4294967296 ^ b.length := Int.mul_lt_mul_of_pos_right hlow.2 (pw_pos _)
        omega
      rw [at_val hd, hv, Int.ediv_eq_zero_of_lt (Int.mul_nonneg hlow.1 hbv.1) h0]; rfl
    obtain ⟨out', d1, d2, d3, d4⟩ := bmul_in s t (z := z) ha hb la lb i (by omega) (val out) b.length 0 out 0 (by omega) hd hl (by omega) (by omega) hz (by simp [low])
    have h1 := bmul_out s t (z := z) ha hb la lb d (i + 1) out' (by omega) d1 d2 (by rw [d3, e1])
    rw [L154_0_eq]
    simp only
    rw [cT (by omega), grd_p (by omega), grd_p (by omega), brd]
    exact (d4.trans h1)
theorem bmul_r {a b : S77} (ha : Rp 90000 a) (hb : Rp 90000 b) : F154 a b = some (bg (bv a * bv b)) := by
  obtain ⟨s, l⟩ := a
  obtain ⟨t, m⟩ := b
  obtain ⟨da, la⟩ := ha
  obtain ⟨db, lb⟩ := hb
  simp only at da la db lb
  have h := bmul_out s t (z := ⟨false, []⟩) da db (by omega) (by omega) l.length 0 (List.replicate (l.length + m.length) 0) (by omega) (Dig.zero _) (by simp) (by simp [low, val_zero])
  have e : (if (!(s == t)) = true then -(val l * val m) else val l * val m) = bv ⟨s, l⟩ * bv ⟨t, m⟩ := by
    cases s <;> cases t <;> simp [bv, Int.neg_mul, Int.mul_neg]
  rw [e] at h
  have n1 : wr .i64 ((l.length : Int) + (m.length : Int)) = ((l.length + m.length : Nat) : Int) := (w64 (by omega) (by omega)).trans (by omega)
  rw [F154_eq]
  simp only
  rw [n1, grd_p (by omega), grd_p (by omega), Int.toNat_natCast, fitM_of (by omega), grd_t]
  exact h
/-! the reference -/
open Go.Proofs.YtnikppnfkjogdaaGreatDoor.EvR in
theorem rsign_f (x : Int) : F136 (rb x) = some (sgn x) := by
  rw [F136_eq]
  unfold rb EvR.rb NumM.sd sgn
  simp only
  by_cases c : x = 0
  · subst c
    rw [show (0 : Int).natAbs = 0 from rfl, NumM.cd_zero]; rfl
  · have hn : NumM.cd x.natAbs ≠ [] := fun q => by rw [NumM.cd_nil] at q; omega
    have h0 : (NumM.cd x.natAbs).length ≠ 0 := fun q => hn (List.eq_nil_of_length_eq_zero q)
    rw [show (((NumM.cd x.natAbs).length : Int) == 0) = false by simp; omega, cond_false, if_neg c]
    by_cases k : x < 0
    · rw [cT k, if_pos k]
    · rw [cF k, if_neg k]
def toM : List Int → List Int
  | [] => []
  | d :: l => d % 65536 :: d / 65536 :: toM l
theorem toM_val : ∀ l : List Int, NumM.val (toM l) = NumB.val l
  | [] => rfl
  | d :: l => by simp only [toM, NumM.val, NumB.val, toM_val l]; omega
theorem toM_dig : ∀ {l : List Int}, NumB.Dig l → NumM.Dig (toM l)
  | [], _ => fun x hx => by cases hx
  | d :: l, h => fun x hx => by
    have hd := h d List.mem_cons_self
    have hl := toM_dig (l := l) fun y hy => h y (List.mem_cons_of_mem _ hy)
    simp only [toM] at hx
    rcases List.mem_cons.mp hx with e | hx
    · subst e; omega
    · rcases List.mem_cons.mp hx with e | hx
      · subst e; omega
      · exact hl x hx
theorem toM_len : ∀ l : List Int, (toM l).length = 2 * l.length
  | [] => rfl
  | d :: l => by simp only [toM, List.length_cons, toM_len l]; omega
theorem radd_s {x y : Int} (hx : Sz 40000 x) (hy : Sz 40000 y) : F102 (rb x) (rb y) = some (rb (x + y)) := EvR.radd_f (by have := hx.m; omega) (by have := hy.m; omega)
theorem rmul_s {x y : Int} (hx : Sz 40000 x) (hy : Sz 40000 y) : F53 (rb x) (rb y) = some (rb (x * y)) := EvR.rmul_f (by have := hx.m; omega) (by have := hy.m; omega)
theorem rneg_s {x : Int} (hx : Sz 40000 x) : F138 (rb x) = some (rb (-x)) := EvR.rneg_f (by have := hx.m; omega)
theorem rto_s {x : Int} (hx : Sz 40000 x) : F49 (rb x) = some (bg x) := EvR.rto_f (by have := hx.m; omega)
theorem rb_zero : rb 0 = ⟨false, []⟩ := by
  show EvR.rb 0 = _
  unfold EvR.rb NumM.sd; rw [show (0 : Int).natAbs = 0 from rfl, NumM.cd_zero]; rfl
theorem badd_s {x y : Int} (hx : Sz 40000 x) (hy : Sz 40000 y) : F159 (bg x) (bg y) = some (bg (x + y)) := by
  have := badd_r (hx.rp.le (by omega)) (hy.rp.le (n := 90000) (by omega)); rwa [bv_bg, bv_bg] at this
theorem bmul_s {x y : Int} (hx : Sz 40000 x) (hy : Sz 40000 y) : F154 (bg x) (bg y) = some (bg (x * y)) := by
  have := bmul_r (hx.rp.le (by omega)) (hy.rp.le (n := 90000) (by omega)); rwa [bv_bg, bv_bg] at this
theorem bsub_s {x y : Int} (hx : Sz 40000 x) (hy : Sz 40000 y) : F158 (bg x) (bg y) = some (bg (x - y)) := by
  have := bsub_r (hx.rp.le (by omega)) (hy.rp.le (n := 90000) (by omega)); rwa [bv_bg, bv_bg] at this
theorem bneg_s {x : Int} (hx : Sz 40000 x) : F207 (bg x) = some (bg (-x)) := by
  have := bneg_r (hx.rp.le (n := 90000) (by omega)); rwa [bv_bg] at this
theorem bsign_s {x : Int} (hx : Sz 40000 x) : F211 (bg x) = some (sgn x) := by
  have := bsign_r (hx.rp.le (n := 90000) (by omega)); rwa [bv_bg] at this
end Go.Proofs.YtnikppnfkjogdaaGreatDoor.EvP
