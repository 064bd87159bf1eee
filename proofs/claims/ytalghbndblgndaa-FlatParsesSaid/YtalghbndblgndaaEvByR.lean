/- Bytes: readers of both sides. -/
import Derived.Test.YtalghbndblgndaaEvByA
import Derived.Test.YtalghbndblgndaaEvG
namespace Go.Proofs.Ytalghbndblgndaa.Ev
open Go
set_option linter.unusedVariables false
set_option linter.unusedSimpArgs false
def RdP (s : ByteArray) (x : S192) (q : List Int × Bool) : Prop := x.f0 = s ∧ x.f2 = q.2 ∧ ∃ a : Nat, x.f1 = (a : Int) ∧ a ≤ s.size ∧ q.1 = (strBytes s).drop a
def RdR (s : ByteArray) (x : S139) (q : List Int × Bool) : Prop := x.f0 = s ∧ x.f2 = q.2 ∧ ∃ a : Nat, x.f1 = (a : Int) ∧ a ≤ s.size ∧ q.1 = (strBytes s).drop a
theorem RdP.byt {s x q} (h : RdP s x q) : Byt q.1 := by obtain ⟨_, _, a, _, _, e⟩ := h; rw [e]; exact (Byt.of s).drop a
theorem RdR.byt {s x q} (h : RdR s x q) : Byt q.1 := by obtain ⟨_, _, a, _, _, e⟩ := h; rw [e]; exact (Byt.of s).drop a
theorem f138 {s : ByteArray} {a n : Nat} (ha : a ≤ s.size) (hs : s.size ≤ 1000000000) (hn : n ≤ 1000000000) : F138 s (a : Int) (n : Int) = some (cond (decide (a + n ≤ s.size)) (s.extract a (a + n), 0) (ByteArray.empty, 3)) := by
  rw [F138_eq, cF (by omega), cF (by omega), cF (by omega), wr64 (by omega) (by omega)]
  by_cases h : a + n ≤ s.size
  · rw [cF (by omega), L138_0_eq, decide_eq_true h, wr64 (by omega) (by omega), grd_p (by omega), grd_p (by omega), grd_p (by omega), grd_p (by omega), Int.toNat_natCast, show ((a : Int) + (n : Int)).toNat = a + n by omega]; rfl
  · rw [cT (by omega), decide_eq_false h]; rfl
theorem f125 {s : ByteArray} {a n : Nat} (ha : a ≤ s.size) (hs : s.size ≤ 1000000000) (hn : n ≤ 1000000000) : F125 s (a : Int) (n : Int) = some (cond (decide (a + n ≤ s.size)) (s.extract a (a + n), 0) (ByteArray.empty, 3)) := by
  rw [F125_eq, cF (by omega), cF (by omega), cF (by omega), wr64 (by omega) (by omega)]
  by_cases h : a + n ≤ s.size
  · rw [cF (by omega), L125_0_eq, decide_eq_true h, wr64 (by omega) (by omega), grd_p (by omega), grd_p (by omega), grd_p (by omega), grd_p (by omega), Int.toNat_natCast, show ((a : Int) + (n : Int)).toNat = a + n by omega]; rfl
  · rw [cT (by omega), decide_eq_false h]; rfl
theorem sh8 {x : Int} (h0 : 0 ≤ x) (h1 : x < 16777216) : shlE IntKind.u32 x (8 : Int) = x * 256 := by
  show IntKind.u32.wrap (x * 2 ^ (min (8 : Int).toNat 32)) = _
  rw [show x * 2 ^ (min (8 : Int).toNat 32) = x * 256 from rfl, wu32 (by omega) (by omega)]
theorem l139 {t : ByteArray} (ht : t.size ≤ 4) : ∀ (d i : Nat), d + i = t.size → L139_0 t (be ((strBytes t).take i)) (t.size : Int) (i : Int) = some (be (strBytes t))
  | 0, i, h => by
    rw [L139_0_eq, cF (by omega), List.take_of_length_le (by rw [by_len]; omega)]
  | d + 1, i, h => by
    have hl := by_len t
    have hb := by_rng t _ (rd_mem (strBytes t) 0 i (by omega))
    have hx := be_bd ((Byt.of t).take i)
    rw [List.length_take, hl, Nat.min_eq_left (by omega)] at hx
    have hp : (256 : Int) ^ i ≤ 256 ^ 3 := by
      have h3 : (((256 : Nat) ^ i : Nat) : Int) ≤ ((256 ^ 3 : Nat) : Int) := Int.ofNat_le.mpr (Nat.pow_le_pow_right (by decide) (by omega))
      rw [Int.natCast_pow, Int.natCast_pow] at h3
      exact h3
    have hx2 : be ((strBytes t).take i) < 16777216 := by have := Int.lt_of_lt_of_le hx.2 hp; omega
    rw [L139_0_eq, cT (by omega), grd_p (by omega), grd_p (by omega), Int.toNat_natCast, by_at, sh8 hx.1 hx2, wru32 hb.1 (by omega), or_add32 8 (by omega) (by show _ % 256 = 0; omega) (by omega) hb.1 (by show _ < 256; omega) (by omega), inc (by omega), ← be_snoc, ← take_rd _ _ _ (by omega), l139 ht d (i + 1) (by omega)]
theorem f139 {t : ByteArray} (ht : t.size ≤ 4) : F139 t = some (be (strBytes t)) := by
  have := l139 ht t.size 0 (by omega)
  rw [F139_eq]; exact this
theorem l126 {t : ByteArray} (ht : t.size ≤ 4) : ∀ (d i : Nat), d + i = t.size → L126_0 t (be ((strBytes t).take i)) (i : Int) = some (be (strBytes t))
  | 0, i, h => by
    rw [L126_0_eq, cF (by omega), List.take_of_length_le (by rw [by_len]; omega)]
  | d + 1, i, h => by
    have hl := by_len t
    have hb := by_rng t _ (rd_mem (strBytes t) 0 i (by omega))
    have hx := be_bd ((Byt.of t).take i)
    rw [List.length_take, hl, Nat.min_eq_left (by omega)] at hx
    have hp : (256 : Int) ^ i ≤ 256 ^ 3 := by
      have h3 : (((256 : Nat) ^ i : Nat) : Int) ≤ ((256 ^ 3 : Nat) : Int) := Int.ofNat_le.mpr (Nat.pow_le_pow_right (by decide) (by omega))
      rw [Int.natCast_pow, Int.natCast_pow] at h3
      exact h3
    have hx2 : be ((strBytes t).take i) < 16777216 := by have := Int.lt_of_lt_of_le hx.2 hp; omega
    have hx3 := hx.1
    rw [L126_0_eq, cT (by omega), grd_p (by omega), grd_p (by omega), Int.toNat_natCast, by_at, wru32 hb.1 (by omega), wru32 (n := _ * 256) (by omega) (by omega), wru32 (by omega) (by omega), inc (by omega), ← be_snoc, ← take_rd _ _ _ (by omega), l126 ht d (i + 1) (by omega)]
theorem f126 {t : ByteArray} (ht : t.size ≤ 4) : F126 t = some (be (strBytes t)) := by
  have := l126 ht t.size 0 (by omega)
  rw [F126_eq]; exact this
theorem drop_drop' {l : List Int} (a n : Nat) : (l.drop a).drop n = l.drop (a + n) := by rw [List.drop_drop]
theorem f120 {s : ByteArray} (hs : s.size ≤ 1000000000) {x : S192} {q : List Int × Bool} (h : RdP s x q) {n : Nat} (hn : n ≤ 1000000000) : ∃ t x', F120 x (n : Int) = some (t, x') ∧ strBytes t = (tk n q).1 ∧ RdP s x' (tk n q).2 := by
  obtain ⟨h0, h2, a, h1, ha, e⟩ := h
  obtain ⟨r, b⟩ := q
  simp only at h2 e
  rw [F120_eq, h2]
  cases b
  · rw [cond_false, L120_0_eq, h0, h1, f138 ha hs hn]
    simp only [Option.bind_some]
    have hl : r.length = s.size - a := by rw [e, List.length_drop, by_len]
    by_cases hc : a + n ≤ s.size
    · rw [decide_eq_true hc, cond_true, cnF rfl, tk_ok (by omega)]
      refine ⟨_, _, rfl, ?_, rfl, h2, a + n, ?_, hc, ?_⟩
      · rw [by_ext, e, show a + n - a = n by omega]
      · show wr .i64 ((a : Int) + (n : Int)) = _
        rw [wr64 (by omega) (by omega)]; omega
      · rw [e, drop_drop']
    · rw [decide_eq_false hc, cond_false, cnT (by decide), tk_no (by omega)]
      exact ⟨_, _, rfl, rfl, rfl, rfl, a, rfl, ha, e⟩
  · rw [cond_true, tk_bad]
    exact ⟨_, _, rfl, rfl, h0, h2, a, h1, ha, e⟩
theorem f76 {s : ByteArray} (hs : s.size ≤ 1000000000) {x : S139} {q : List Int × Bool} (h : RdR s x q) {n : Nat} (hn : n ≤ 1000000000) : ∃ t x', F76 x (n : Int) = some (t, x') ∧ strBytes t = (tk n q).1 ∧ RdR s x' (tk n q).2 := by
  obtain ⟨h0, h2, a, h1, ha, e⟩ := h
  obtain ⟨r, b⟩ := q
  simp only at h2 e
  rw [F76_eq, h0, h1, f125 ha hs hn]
  simp only [Option.bind_some]
  rw [h2]
  cases b
  · rw [cond_false]
    have hl : r.length = s.size - a := by rw [e, List.length_drop, by_len]
    by_cases hc : a + n ≤ s.size
    · rw [decide_eq_true hc, cond_true, cnF rfl, tk_ok (by omega), L76_0_eq]
      refine ⟨_, _, rfl, ?_, h0, h2, a + n, ?_, hc, ?_⟩
      · rw [by_ext, e, show a + n - a = n by omega]
      · show wr .i64 (x.f1 + (n : Int)) = _
        rw [h1, wr64 (by omega) (by omega)]; omega
      · rw [e, drop_drop']
    · rw [decide_eq_false hc, cond_false, cnT (by decide), tk_no (by omega)]
      exact ⟨_, _, rfl, rfl, rfl, rfl, a, rfl, ha, e⟩
  · rw [cond_true, tk_bad]
    exact ⟨_, _, rfl, rfl, rfl, rfl, a, rfl, ha, e⟩
theorem tk_sz {t : ByteArray} {n : Nat} {q : List Int × Bool} (h : strBytes t = (tk n q).1) : t.size ≤ n := by
  rw [← by_len, h]; exact tk_len n q
theorem f119 {s : ByteArray} (hs : s.size ≤ 1000000000) {x : S192} {q : List Int × Bool} (h : RdP s x q) : ∃ x', F119 x = some ((num 2 q).1, x') ∧ RdP s x' (num 2 q).2 := by
  obtain ⟨t, x', h1, h2, h3⟩ := f120 hs h (n := 2) (by omega)
  have hb := num_bd (k := 2) h.byt
  have h1 : F120 x 2 = some (t, x') := h1
  rw [F119_eq, bnd h1, f139 (t := t) (by have := tk_sz h2; omega), h2]
  refine ⟨x', ?_, h3⟩
  show some (wr .u16 (num 2 q).1, x') = _
  rw [wru16 hb.1 (by omega)]
theorem f158 {s : ByteArray} (hs : s.size ≤ 1000000000) {x : S192} {q : List Int × Bool} (h : RdP s x q) : ∃ x', F158 x = some ((num 1 q).1, x') ∧ RdP s x' (num 1 q).2 := by
  obtain ⟨t, x', h1, h2, h3⟩ := f120 hs h (n := 1) (by omega)
  have hb := num_bd (k := 1) h.byt
  have h1 : F120 x 1 = some (t, x') := h1
  rw [F158_eq, bnd h1, f139 (t := t) (by have := tk_sz h2; omega), h2]
  refine ⟨x', ?_, h3⟩
  show some (wr .u8 (num 1 q).1, x') = _
  rw [wru8 hb.1 (by omega)]
theorem f71 {s : ByteArray} (hs : s.size ≤ 1000000000) {x : S192} {q : List Int × Bool} (h : RdP s x q) : ∃ x', F71 x = some (s16 (num 2 q).1, x') ∧ RdP s x' (num 2 q).2 := by
  obtain ⟨x', h1, h2⟩ := f119 hs h
  have hb := num_bd (k := 2) h.byt
  rw [F71_eq, bnd h1, w_i16 hb.1 (by omega)]
  exact ⟨x', rfl, h2⟩
theorem f73 {s : ByteArray} {x : S192} {q : List Int × Bool} (h : RdP s x q) : F73 x = some (cond q.2 3 0, x) := by
  rw [F73_eq, h.2.1]; cases q.2 <;> rfl
theorem f77 {s : ByteArray} (hs : s.size ≤ 1000000000) {x : S139} {q : List Int × Bool} (h : RdR s x q) {n : Nat} (hn : n ≤ 4) : ∃ x', F77 x (n : Int) = some ((num n q).1, x') ∧ RdR s x' (num n q).2 := by
  obtain ⟨t, x', h1, h2, h3⟩ := f76 hs h (n := n) (by omega)
  rw [F77_eq, bnd h1, f126 (t := t) (by have := tk_sz h2; omega), h2]
  exact ⟨x', rfl, h3⟩
theorem f75 {s : ByteArray} (hs : s.size ≤ 1000000000) {x : S139} {q : List Int × Bool} (h : RdR s x q) : ∃ x', F75 x = some (s16 (num 2 q).1, x') ∧ RdR s x' (num 2 q).2 := by
  obtain ⟨x', h1, h2⟩ := f77 hs h (n := 2) (by omega)
  have hb := num_bd (k := 2) h.byt
  have h1 : F77 x 2 = some ((num 2 q).1, x') := h1
  rw [F75_eq, bnd h1]
  refine ⟨x', ?_, h2⟩
  simp only
  rw [wr64 (n := (num 2 q).1) (by omega) (by omega)]
  unfold s16
  by_cases hc : (num 2 q).1 ≥ 32768
  · rw [cT hc, if_pos hc, wr64 (by omega) (by omega)]
  · rw [cF hc, if_neg hc]
end Go.Proofs.Ytalghbndblgndaa.Ev
