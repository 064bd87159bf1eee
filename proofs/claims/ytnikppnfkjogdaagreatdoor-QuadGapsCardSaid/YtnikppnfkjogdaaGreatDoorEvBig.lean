/- Layer 2: whole numbers of any size, by digits of 32 bits in their one form: sums, from 64 bits, sign. -/
import Derived.Test.YtnikppnfkjogdaaGreatDoorEvG
import Derived.Test.YtnikppnfkjogdaaGreatDoorEvM
import Derived.Test.YtnikppnfkjogdaaGreatDoorNumB
namespace Go.Proofs.YtnikppnfkjogdaaGreatDoor.Ev
open Go Go.Proofs.YtnikppnfkjogdaaGreatDoor.NumB
set_option linter.unusedVariables false
set_option linter.unusedSimpArgs false
theorem brd {l : List Int} (n : Nat) : l.getD (Int.toNat (n : Int)) 0 = at_ l n := by unfold at_; rw [Int.toNat_natCast]
theorem btrim_l {l : List Int} (hl : l.length ≤ 1000000) (hd : Dig l) : ∀ n : Nat, n ≤ l.length → (∀ x ∈ l.drop n, x = 0) → L205_0 l (n : Int) = some (cd (val l).toNat)
  | 0, hn, hz => by
    rw [L205_0_eq, cF (by omega), grd_p (by omega), grd_p (by omega), Int.toNat_natCast, ← take_cd hd hn hz (.inl rfl)]
  | n + 1, hn, hz => by
    have ih := btrim_l hl hd n (by omega)
    rw [L205_0_eq, cT (by omega), show wr .i64 (((n + 1 : Nat) : Int) - 1) = (n : Int) from (w64 (by omega) (by omega)).trans (by omega), brd, grd_p (by omega), grd_p (by omega), grd_p (by omega), grd_p (by omega), Int.toNat_natCast]
    by_cases c : at_ l n = 0
    · rw [show (at_ l n == 0) = true by simpa using c, cond_true]
      refine ih (fun x hx => ?_)
      rw [List.drop_eq_getElem_cons (by omega)] at hx
      rcases List.mem_cons.1 hx with q | q
      · rw [q]; have : l[n]'(by omega) = at_ l n := by simp [at_, show n < l.length by omega]
        rw [this, c]
      · exact hz x q
    · rw [show (at_ l n == 0) = false by simpa using c, cond_false, ← take_cd hd hn hz (.inr (by rw [Nat.add_sub_cancel]; exact c))]
theorem btrim_f {l : List Int} (hl : l.length ≤ 1000000) (hd : Dig l) : F205 l = some (cd (val l).toNat) := by
  rw [F205_eq]; exact btrim_l hl hd l.length (Nat.le_refl _) (by simp)
theorem sd_of {a : Bool} {v : Int} (h : 0 ≤ v) : sd (if a = true then -v else v) = if v = 0 then (false, []) else (a, cd v.toNat) := by
  unfold sd
  by_cases c : v = 0
  · rw [if_pos c, c]; cases a <;> simp [cd_zero]
  · rw [if_neg c]
    cases a
    · simp only [Bool.false_eq_true, if_false]
      rw [decide_eq_false (by omega)]; congr 2; omega
    · simp only [if_true]
      rw [decide_eq_true (by omega)]; congr 2; omega
/-- A number, as layer 2 holds it. -/
def bg (x : Int) : S77 := ⟨(sd x).1, (sd x).2⟩
theorem bform_f {a : Bool} {l : List Int} (hl : l.length ≤ 1000000) (hd : Dig l) : F156 a l = some (bg (if a = true then -(val l) else val l)) := by
  have hv := (val_bd hd).1
  rw [F156_eq, bnd (btrim_f hl hd)]
  unfold bg
  rw [sd_of hv]
  by_cases c : val l = 0
  · rw [c, Int.toNat_zero, cd_zero]; rfl
  · have hn : cd (val l).toNat ≠ [] := fun q => by rw [cd_nil] at q; omega
    have : (cd (val l).toNat).length ≠ 0 := fun q => hn (List.eq_nil_of_length_eq_zero q)
    rw [show (((cd (val l).toNat).length : Int) == 0) = false by simp; omega, if_neg c]; rfl
theorem bat_f {l : List Int} (hd : Dig l) (i : Nat) : F237 l (i : Int) = some (at_ l i) := by
  rw [F237_eq, brd]
  have := at_bd hd i
  by_cases c : i < l.length
  · rw [cT (by omega), grd_p (by omega), grd_p (by omega), show wr .u64 (at_ l i) = at_ l i from wu64 (by omega) (by omega)]
  · rw [cF (by omega), at_ge (by omega)]
theorem at_set {l : List Int} {i j : Nat} {v : Int} (h : i ≠ j) : at_ (l.set i v) j = at_ l j := by
  simp [at_, List.getD, List.getElem?_set, h]
theorem shr64 (x : Int) (n : Nat) (h : n ≤ 64) : shrE IntKind.u64 x (n : Int) = x / 2 ^ n := shr_e (k := .u64) h
theorem bplus_l {a b : List Int} (ha : Dig a) (hb : Dig b) {n : Nat} (hn : n = max a.length b.length) (hl : n ≤ 1000000) : ∀ (d i : Nat) (out : List Int) (c : Int), i + d = n → out.length = n → Dig out → 0 ≤ c → c ≤ 1 → (∀ j, i ≤ j → at_ out j = 0) → val out + c * 4294967296 ^ i = low a i + low b i →
    ∃ r, L208_0 a b out c (n : Int) (i : Int) = some r ∧ Dig r ∧ r.length ≤ n + 1 ∧ val r = val a + val b
  | 0, i, out, c, h, ho, hd, h0, h1, hz, hv => by
    have ea := low_all a i (by omega)
    have eb := low_all b i (by omega)
    refine ⟨out ++ [c], ?_, hd.app ⟨h0, by omega⟩, by simp [ho], ?_⟩
    · rw [L208_0_eq, cF (by omega), show wr .u32 c = c from wu32 (by omega) (by omega), fit_of (by simp only [List.length_singleton]; omega), grd_t]
    · rw [val_app, ho, show n = i by omega, hv, ea, eb]
  | d + 1, i, out, c, h, ho, hd, h0, h1, hz, hv => by
    have ba := at_bd ha i
    have bb := at_bd hb i
    have EM : ∃ m q, (at_ a i + at_ b i + c) % 4294967296 = m ∧ (at_ a i + at_ b i + c) / 4294967296 = q ∧ 0 ≤ m ∧ m < 4294967296 ∧ 0 ≤ q ∧ q ≤ 1 ∧ m + q * 4294967296 = at_ a i + at_ b i + c := by refine ⟨_, _, rfl, rfl, ?_⟩; omega
    have EW : wr .u64 (wr .u64 (at_ a i + at_ b i) + c) = at_ a i + at_ b i + c := by rw [show wr .u64 (at_ a i + at_ b i) = at_ a i + at_ b i from wu64 (by omega) (by omega)]; exact wu64 (by omega) (by omega)
    obtain ⟨m, q, e1, e3, m0, m1, q0, q1, hmq⟩ := EM
    obtain ⟨r, r1, r2, r3, r4⟩ := bplus_l ha hb hn hl d (i + 1) (out.set i m) q (by omega) (by rw [List.length_set]; exact ho) (hd.set i ⟨m0, m1⟩) q0 q1
      (fun j hj => by rw [at_set (by omega)]; exact hz j (by omega))
      (by
        rw [val_set _ _ _ (by omega), hz i (Nat.le_refl _), low_succ, low_succ, pw_succ]
        generalize (4294967296 : Int) ^ i = P at *
        have e4 : m = at_ a i + at_ b i + c - q * 4294967296 := by omega
        rw [e4]
        grind)
    refine ⟨r, ?_, r2, r3, r4⟩
    rw [L208_0_eq, cT (by omega), bnd (bat_f ha i), bnd (bat_f hb i), grd_p (by omega), grd_p (by omega), EW, Int.toNat_natCast, show wr .i64 ((i : Int) + 1) = ((i + 1 : Nat) : Int) from w64 (by omega) (by omega), show wr .u32 (at_ a i + at_ b i + c) = m from (wu32_mod _).trans e1,
      show shrE IntKind.u64 (at_ a i + at_ b i + c) 32 = q from (shr64 _ 32 (by omega)).trans e3]
    exact r1
theorem bplus_f {a b : List Int} (ha : Dig a) (hb : Dig b) (la : a.length ≤ 100000) (lb : b.length ≤ 100000) : ∃ r, F208 a b = some r ∧ Dig r ∧ r.length ≤ max a.length b.length + 1 ∧ val r = val a + val b := by
  have em : mxE (a.length : Int) (b.length : Int) = ((max a.length b.length : Nat) : Int) := by unfold mxE; split <;> omega
  obtain ⟨r, r1, r2, r3, r4⟩ := bplus_l ha hb (n := max a.length b.length) rfl (by omega) (max a.length b.length) 0 (List.replicate (max a.length b.length) 0) 0 (by omega) (by simp) (Dig.zero _) (by omega) (by omega) (fun j _ => by simp [at_, List.getD, List.getElem?_replicate]; split <;> rfl) (by rw [val_zero]; simp [low])
  refine ⟨r, ?_, r2, r3, r4⟩
  rw [F208_eq, em, show wr .i64 (((max a.length b.length : Nat) : Int) + 1) = ((max a.length b.length + 1 : Nat) : Int) from w64 (by omega) (by omega), grd_p (by omega), grd_p (by omega), Int.toNat_natCast, Int.toNat_natCast, fitM_of (by omega), grd_t, List.length_replicate]
  exact r1
theorem bminus_l {a b : List Int} (ha : Dig a) (hb : Dig b) (hl : a.length ≤ 1000000) : ∀ (d i : Nat) (out : List Int) (c : Int), i + d = a.length → out.length = a.length → Dig out → 0 ≤ c → c ≤ 1 → (∀ j, i ≤ j → at_ out j = 0) → val out - c * 4294967296 ^ i = low a i - low b i →
    ∃ r c', L210_0 a b out c (a.length : Int) (i : Int) = some r ∧ Dig r ∧ r.length = a.length ∧ 0 ≤ c' ∧ c' ≤ 1 ∧ val r - c' * 4294967296 ^ a.length = low a a.length - low b a.length
  | 0, i, out, c, h, ho, hd, h0, h1, hz, hv => by
    refine ⟨out, c, ?_, hd, ho, h0, h1, by rw [show a.length = i by omega]; exact hv⟩
    rw [L210_0_eq, cF (by omega)]
  | d + 1, i, out, c, h, ho, hd, h0, h1, hz, hv => by
    have ba := at_bd ha i
    have bb := at_bd hb i
    have EW : ∃ m q, wr .u64 (wr .u64 (wr .u64 (at_ a i) - at_ b i) - c) % 4294967296 = m ∧ wr .u64 (wr .u64 (wr .u64 (at_ a i) - at_ b i) - c) / 9223372036854775808 = q ∧ 0 ≤ m ∧ m < 4294967296 ∧ 0 ≤ q ∧ q ≤ 1 ∧ m - q * 4294967296 = at_ a i - at_ b i - c := by
      refine ⟨_, _, rfl, rfl, ?_⟩
      simp only [wr, wu64_mod]
      omega
    obtain ⟨m, q, e1, e2, m0, m1, q0, q1, hmq⟩ := EW
    obtain ⟨r, c', r1, r2, r3, r4, r5, r6⟩ := bminus_l ha hb hl d (i + 1) (out.set i m) q (by omega) (by rw [List.length_set]; exact ho) (hd.set i ⟨m0, m1⟩) q0 q1
      (fun j hj => by rw [at_set (by omega)]; exact hz j (by omega))
      (by
        rw [val_set _ _ _ (by omega), hz i (Nat.le_refl _), low_succ, low_succ, pw_succ]
        generalize (4294967296 : Int) ^ i = P at *
        have e3 : m = at_ a i - at_ b i - c + q * 4294967296 := by omega
        rw [e3]
        grind)
    refine ⟨r, c', ?_, r2, r3, r4, r5, r6⟩
    rw [L210_0_eq, cT (by omega), grd_p (by omega), grd_p (by omega), bnd (bat_f hb i), grd_p (by omega), grd_p (by omega), brd, Int.toNat_natCast, show wr .i64 ((i : Int) + 1) = ((i + 1 : Nat) : Int) from w64 (by omega) (by omega)]
    rw [show wr .u32 (wr .u64 (wr .u64 (wr .u64 (at_ a i) - at_ b i) - c)) = m from (wu32_mod _).trans e1, show shrE IntKind.u64 (wr .u64 (wr .u64 (wr .u64 (at_ a i) - at_ b i) - c)) 63 = q from (shr64 _ 63 (by omega)).trans e2]
    exact r1
theorem bminus_f {a b : List Int} (ha : Dig a) (hb : Dig b) (la : a.length ≤ 100000) (lb : b.length ≤ a.length) (hle : val b ≤ val a) : ∃ r, F210 a b = some r ∧ Dig r ∧ r.length = a.length ∧ val r = val a - val b := by
  obtain ⟨r, c', r1, r2, r3, r4, r5, r6⟩ := bminus_l ha hb (by omega) a.length 0 (List.replicate a.length 0) 0 (by omega) (by simp) (Dig.zero _) (by omega) (by omega) (fun j _ => by simp [at_, List.getD, List.getElem?_replicate]; split <;> rfl) (by rw [val_zero]; simp [low])
  rw [low_all a _ (Nat.le_refl _), low_all b _ lb] at r6
  have hr := val_bd r2
  rw [r3] at hr
  have hp := pw_pos a.length
  have hc : c' = 0 := by
    rcases (show c' = 0 ∨ c' = 1 by omega) with q | q
    · exact q
    · subst q
      generalize (4294967296 : Int) ^ a.length = P at *
      omega
  subst hc
  refine ⟨r, ?_, r2, r3, by omega⟩
  rw [F210_eq, grd_p (by omega), Int.toNat_natCast, fitM_of (by omega), grd_t]
  exact r1
theorem bcmp32_f (x y : Int) : F239 x y = some (NumM.cmpI x y) := by
  rw [F239_eq, F248_eq, F248_eq]
  simp only [bne_self_eq_false, Option.bind_some, cond_false]
  unfold NumM.cmpI; by_cases h : x < y <;> by_cases h' : x > y <;> simp [*]
theorem bcmp_f (x y : Int) : F238 x y = some (NumM.cmpI x y) := by
  rw [F238_eq, F247_eq, F247_eq]
  simp only [bne_self_eq_false, Option.bind_some, cond_false]
  unfold NumM.cmpI; by_cases h : x < y <;> by_cases h' : x > y <;> simp [*]
/-- How two numbers of the one form are: by sign of the answer. -/
theorem bagainst_l {a b : List Int} (ha : Dig a) (hb : Dig b) (hab : a.length = b.length) (hl : a.length ≤ 1000000) : ∀ n : Nat, n ≤ a.length → ∃ s, L209_0 a b ((n : Int) - 1) = some s ∧ (s ≥ 0 ↔ low b n ≤ low a n)
  | 0, hn => ⟨0, by rw [L209_0_eq, cF (by omega)], by simp [low]⟩
  | n + 1, hn => by
    obtain ⟨s, s1, s2⟩ := bagainst_l ha hb hab hl n (by omega)
    have h1 := low_bd ha n
    have h2 := low_bd hb n
    have h3 := pw_pos n
    have step : ∀ {x y p q : Int}, 0 ≤ p → p < 4294967296 ^ n → 0 ≤ q → q < 4294967296 ^ n → x < y → p + x * 4294967296 ^ n < q + y * 4294967296 ^ n := by
      intro x y p q hp0 hp hq0 hq hxy
      have := Int.mul_le_mul_of_nonneg_right (show x + 1 ≤ y by omega) (Int.le_of_lt h3)
      rw [Int.add_mul] at this
      omega
    rw [show ((n + 1 : Nat) : Int) - 1 = (n : Int) by omega, L209_0_eq, cT (by omega), grd_p (by omega), grd_p (by omega), grd_p (by omega), grd_p (by omega), brd, brd, bnd (bcmp32_f _ _), show wr .i64 ((n : Int) - 1) = (n : Int) - 1 from w64 (by omega) (by omega), low_succ, low_succ]
    rcases Int.lt_trichotomy (at_ a n) (at_ b n) with c | c | c
    · rw [NumM.cmpI_lt c]
      have := step h1.1 h1.2 h2.1 h2.2 c
      exact ⟨-1, rfl, by omega⟩
    · rw [c, NumM.cmpI_self]
      exact ⟨s, s1, by rw [s2]; omega⟩
    · rw [NumM.cmpI_gt c]
      have := step h2.1 h2.2 h1.1 h1.2 c
      exact ⟨1, rfl, by omega⟩
theorem can_len {a b : List Int} (ha : CanF a) (hb : CanF b) (h : a.length < b.length) : val a < val b := by
  have h1 := val_bd ha.1
  have hb0 : b ≠ [] := fun q => by rw [q] at h; simp at h
  have e := can_cd hb
  rcases Int.lt_or_le (val b) (4294967296 ^ a.length) with q | q
  · exfalso
    have hv := (val_bd hb.1).1
    have := cd_len (z := (val b).toNat) (n := a.length) (by rw [Int.toNat_of_nonneg hv]; exact q)
    rw [← e] at this
    omega
  · omega
theorem bagainst_f {a b : List Int} (ha : CanF a) (hb : CanF b) (la : a.length ≤ 1000000) (lb : b.length ≤ 1000000) : ∃ s, F209 a b = some s ∧ (s ≥ 0 ↔ val b ≤ val a) := by
  rw [F209_eq, bnd (bcmp_f _ _)]
  rcases Nat.lt_trichotomy a.length b.length with c | c | c
  · have := can_len ha hb c
    rw [NumM.cmpI_lt (by omega)]
    exact ⟨-1, rfl, by omega⟩
  · rw [c, NumM.cmpI_self]
    obtain ⟨s, s1, s2⟩ := bagainst_l ha.1 hb.1 c la a.length (Nat.le_refl _)
    rw [low_all a _ (Nat.le_refl _), low_all b _ (by omega)] at s2
    refine ⟨s, ?_, s2⟩
    rw [← c, show wr .i64 ((a.length : Int) - 1) = (a.length : Int) - 1 from w64 (by omega) (by omega)]
    exact s1
  · have := can_len hb ha c
    rw [NumM.cmpI_gt (by omega)]
    exact ⟨1, rfl, by omega⟩
theorem sd_zero : sd 0 = (false, []) := by unfold sd; rw [show (0 : Int).natAbs = 0 from rfl, cd_zero]; rfl
theorem bg_zero : bg 0 = ⟨false, []⟩ := by unfold bg; rw [sd_zero]
theorem badd_f {x y : Int} (hx : (cd x.natAbs).length ≤ 90000) (hy : (cd y.natAbs).length ≤ 90000) : F159 (bg x) (bg y) = some (bg (x + y)) := by
  have dx := cd_dig x.natAbs
  have dy := cd_dig y.natAbs
  have vx := cd_val x.natAbs
  have vy := cd_val y.natAbs
  have tx := btrim_f (by omega) dx
  have ty := btrim_f (by omega) dy
  rw [vx, Int.toNat_natCast] at tx
  rw [vy, Int.toNat_natCast] at ty
  have pair : ∀ {l : List Int} {a : Bool}, Dig l → l.length ≤ 1000000 → (if a = true then -(val l) else val l) = x + y → ((F156 a l).bind fun bt => some bt) = some (bg (x + y)) := fun hd hl he => by
    rw [bnd (bform_f hl hd), he]
  have ex : x = if x < 0 then -(x.natAbs : Int) else (x.natAbs : Int) := by split <;> omega
  have ey : y = if y < 0 then -(y.natAbs : Int) else (y.natAbs : Int) := by split <;> omega
  rw [F159_eq]
  unfold bg sd
  simp only
  rw [bnd tx, bnd ty]
  by_cases c : (decide (x < 0) == decide (y < 0)) = true
  · rw [c, cond_true]
    obtain ⟨r, r1, r2, r3, r4⟩ := bplus_f dx dy (by omega) (by omega)
    rw [bnd r1]
    refine pair r2 (by omega) ?_
    rw [r4, vx, vy]
    simp only [beq_iff_eq, decide_eq_decide] at c
    simp only [decide_eq_true_eq]
    split <;> omega
  · rw [show (decide (x < 0) == decide (y < 0)) = false by simpa using c, cond_false]
    simp only [beq_iff_eq, decide_eq_decide] at c
    obtain ⟨s, s1, s2⟩ := bagainst_f (cd_can x.natAbs) (cd_can y.natAbs) (by omega) (by omega)
    rw [vx, vy] at s2
    rw [bnd s1]
    by_cases g : s ≥ 0
    · rw [cT g]
      have hle := s2.1 g
      have hlen : (cd y.natAbs).length ≤ (cd x.natAbs).length := by
        rcases Nat.lt_or_ge (cd x.natAbs).length (cd y.natAbs).length with q | q
        · have := can_len (cd_can _) (cd_can _) q; rw [vx, vy] at this; omega
        · exact q
      obtain ⟨r, r1, r2, r3, r4⟩ := bminus_f dx dy (by omega) hlen (by rw [vx, vy]; exact hle)
      rw [bnd r1]
      refine pair r2 (by omega) ?_
      rw [r4, vx, vy]
      simp only [decide_eq_true_eq]
      split <;> omega
    · rw [cF g]
      have hle : ¬ ((y.natAbs : Int) ≤ (x.natAbs : Int)) := fun q => g (s2.2 q)
      have hlen : (cd x.natAbs).length ≤ (cd y.natAbs).length := by
        rcases Nat.lt_or_ge (cd y.natAbs).length (cd x.natAbs).length with q | q
        · have := can_len (cd_can _) (cd_can _) q; rw [vx, vy] at this; omega
        · exact q
      obtain ⟨r, r1, r2, r3, r4⟩ := bminus_f dy dx (by omega) hlen (by rw [vx, vy]; omega)
      rw [bnd r1]
      refine pair r2 (by omega) ?_
      rw [r4, vx, vy]
      simp only [decide_eq_true_eq]
      split <;> omega
theorem two_val (u : Int) (h0 : 0 ≤ u) (h1 : u < 18446744073709551616) : Dig [u % 4294967296, u / 4294967296 % 4294967296] ∧ val [u % 4294967296, u / 4294967296 % 4294967296] = u := by
  refine ⟨fun x hx => ?_, ?_⟩
  · simp at hx; rcases hx with rfl | rfl <;> omega
  · simp only [val]; omega
theorem bof_f {n : Int} (h0 : -9223372036854775808 ≤ n) (h1 : n ≤ 9223372036854775807) : F155 n = some (bg n) := by
  have J : ∀ u : Int, 0 ≤ u → u < 18446744073709551616 → (if decide (n < 0) = true then -u else u) = n → L155_0 n ⟨false, []⟩ u = some (bg n) := fun u u0 u1 e => by
    obtain ⟨hd, hv⟩ := two_val u u0 u1
    have := bform_f (a := decide (n < 0)) (l := [u % 4294967296, u / 4294967296 % 4294967296]) (by simp) hd
    rw [hv, e] at this
    rw [L155_0_eq, show shrE IntKind.u64 u 32 = u / 4294967296 from shr64 _ 32 (by omega)]
    simp only [wr, wu32_mod]
    rw [bnd this]
  rw [F155_eq]
  by_cases c : n < 0
  · rw [cT c]
    have e : wr .u64 (0 - wr .u64 n) = -n := by simp only [wr, wu64_mod]; omega
    rw [e]
    exact J _ (by omega) (by omega) (by rw [decide_eq_true c]; simp)
  · rw [cF c]
    have e : wr .u64 n = n := by simp only [wr, wu64_mod]; omega
    rw [e]
    exact J _ (by omega) (by omega) (by rw [decide_eq_false c]; simp)
end Go.Proofs.YtnikppnfkjogdaaGreatDoor.Ev
