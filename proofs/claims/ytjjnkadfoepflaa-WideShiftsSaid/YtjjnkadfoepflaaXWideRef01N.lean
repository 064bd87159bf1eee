/- What the reference of layer 1 computes: sum, difference, value, bits, quotient and rest. -/
import Derived.Test.YtjjnkadfoepflaaNumN
import Derived.Test.YtjjnkadfoepflaaXWideRef01M
import Derived.Test.YtjjnkadfoepflaaXWideWideA
import Derived.Test.YtjjnkadfoepflaaXWidex6

namespace Go.Proofs.Ytjjnkadfoepflaa.XWide
open Go.RowKit Go.Proofs.Ytjjnkadfoepflaa.XM Go.Proofs.Ytjjnkadfoepflaa.NumM Go.Proofs.YtjjnkadfoepflaaW.PrintWords Go.Proofs.YtjjnkadfoepflaaW.PrintLast Go.Proofs.YtjjnkadfoepflaaW.PrintMore
set_option linter.unusedVariables false
set_option linter.unusedSimpArgs false

theorem rplus_l {a b : List Int} (ha : Dig a) (hb : Dig b) (la : a.length ≤ 100000) (lb : b.length ≤ 100000) :
    ∀ (d i : Nat) (l : List Int) (c : Int), i + d = max a.length b.length + 1 → l.length = i → Dig l → 0 ≤ c → c ≤ 1 → val l + c * 65536 ^ i = low a i + low b i →
      ∃ r, Ev (fun k => pochoirref01_Plus.l0 k a b l c (i : Int)) r ∧ Dig r ∧ r.length ≤ max a.length b.length + 1 ∧ val r = val a + val b := by
  intro d
  induction d with
  | zero =>
    intro i l c hi hl hd c0 c1 hv
    have ea := low_all a i (by omega)
    have eb := low_all b i (by omega)
    have h1 := val_bd ha
    have h2 := val_bd hb
    have h3 : (65536 : Int) ^ a.length ≤ 65536 ^ (max a.length b.length) := pw_le (by omega)
    have h4 : (65536 : Int) ^ b.length ≤ 65536 ^ (max a.length b.length) := pw_le (by omega)
    have h5 : (65536 : Int) ^ i = 65536 * 65536 ^ (max a.length b.length) := by rw [show i = max a.length b.length + 1 by omega, pw_succ]
    have h6 := pw_pos (max a.length b.length)
    have h7 := val_bd hd
    have hc : c = 0 := by
      rcases (show c = 0 ∨ c = 1 by omega) with h | h
      · exact h
      · subst h; omega
    subst hc
    refine ⟨l, ?_, hd, by omega, by rw [ea, eb] at hv; omega⟩
    refine Ev.step (fun k => by rw [pochoirref01_Plus.l0]) ?_
    simp only [if_neg (show ¬ ((i : Int) < (a.length : Int)) by omega), if_neg (show ¬ ((i : Int) < (b.length : Int)) by omega)]
    refine Ev.step (fun k => by rw [pochoirref01_Plus.j1]) ?_
    simp
    exact Ev.now _
  | succ d ih =>
    intro i l c hi hl hd c0 c1 hv
    by_cases hend : ¬ (i < a.length) ∧ ¬ (i < b.length) ∧ c = 0
    · obtain ⟨e1, e2, rfl⟩ := hend
      have ea := low_all a i (by omega)
      have eb := low_all b i (by omega)
      refine ⟨l, ?_, hd, by omega, by rw [ea, eb] at hv; omega⟩
      refine Ev.step (fun k => by rw [pochoirref01_Plus.l0]) ?_
      simp only [if_neg (show ¬ ((i : Int) < (a.length : Int)) by omega), if_neg (show ¬ ((i : Int) < (b.length : Int)) by omega)]
      refine Ev.step (fun k => by rw [pochoirref01_Plus.j1]) ?_
      simp
      exact Ev.now _
    · have A := at_bd ha i
      have B := at_bd hb i
      have w1 : IntKind.u64.wrap (at_ a i + at_ b i) = at_ a i + at_ b i := wu64 (by omega) (by omega)
      have w2 : IntKind.u64.wrap (at_ a i + at_ b i + c) = at_ a i + at_ b i + c := wu64 (by omega) (by omega)
      obtain ⟨x, hx⟩ : ∃ x, x = at_ a i + at_ b i + c := ⟨_, rfl⟩
      have x0 : 0 ≤ x := by omega
      have w3 : IntKind.u64.wrap (x / 65536) = x / 65536 := wu64 (by omega) (by omega)
      have wx : IntKind.u64.wrap x = x := wu64 (by omega) (by omega)
      obtain ⟨r, h1, h2, h3, h4⟩ := ih (i + 1) (l ++ [x % 65536]) (x / 65536) (by omega) (by simp [hl]) (hd.app (by omega)) (by omega) (by omega) (by
        have e := val_app l (x % 65536)
        have e2 : (65536 : Int) ^ (i + 1) = 65536 * 65536 ^ i := pw_succ i
        rw [e, hl, low_succ, low_succ, e2]
        have h5 : x = x % 65536 + 65536 * (x / 65536) := by omega
        generalize x % 65536 = xm at *
        generalize x / 65536 = xd at *
        generalize (65536 : Int) ^ i = P at *
        have : x * P = xm * P + 65536 * xd * P := by rw [h5]; grind
        have h6 : x * P = at_ a i * P + at_ b i * P + c * P := by rw [hx]; grind
        grind)
      refine ⟨r, ?_, h2, h3, h4⟩
      have J : Ev (fun k => pochoirref01_Plus.j1 k a b l c (i : Int) true) r := by
        refine Ev.step (fun k => by rw [pochoirref01_Plus.j1]) ?_
        simp only [if_true, rat_f, Option.bind_some, w1, w2, ← hx, wx, tmod_nn x0, tdiv_nn x0, w3, if_pos (show l.length < 17592186044416 by omega)]
        rw [w64 (by omega) (by omega), show (i : Int) + 1 = ((i + 1 : Nat) : Int) by omega]
        exact h1
      refine Ev.step (fun k => by rw [pochoirref01_Plus.l0]) ?_
      by_cases e1 : (i : Int) < (a.length : Int)
      · simp only [if_pos e1]; exact J
      · by_cases e2 : (i : Int) < (b.length : Int)
        · simp only [if_neg e1, if_pos e2]; exact J
        · simp only [if_neg e1, if_neg e2, show decide (c > 0) = true by simp; omega]; exact J
theorem rplus_ev {a b : List Int} (ha : Dig a) (hb : Dig b) (la : a.length ≤ 100000) (lb : b.length ≤ 100000) :
    ∃ r, Ev (fun k => pochoirref01_Plus.f k a b) r ∧ Dig r ∧ r.length ≤ max a.length b.length + 1 ∧ val r = val a + val b :=
  rplus_l ha hb la lb (max a.length b.length + 1) 0 [] 0 (by omega) rfl (by intro x hx; simp at hx) (by omega) (by omega) (by simp [val, low])

theorem rminus_l {a b : List Int} (ha : Dig a) (hb : Dig b) (la : a.length ≤ 100000) (hle : val b ≤ val a) :
    ∀ (d i : Nat) (l : List Int) (c : Int), i + d = a.length → l.length = i → Dig l → 0 ≤ c → c ≤ 1 → val l = low a i - low b i + c * 65536 ^ i →
      ∃ r, Ev (fun k => pochoirref01_Minus.l0 k a b l c (i : Int)) r ∧ Dig r ∧ r.length = a.length ∧ val r = val a - val b := by
  intro d
  induction d with
  | zero =>
    intro i l c hi hl hd c0 c1 hv
    have ea := low_all a i (by omega)
    have h1 := val_bd ha
    have h2 := val_bd hb
    have eb : low b i = val b := low_eq hb (by rw [show i = a.length by omega]; omega)
    have h7 := val_bd hd
    rw [hl] at h7
    have hc : c = 0 := by
      rcases (show c = 0 ∨ c = 1 by omega) with h | h
      · exact h
      · subst h; rw [ea, eb] at hv; omega
    subst hc
    refine ⟨l, ?_, hd, by omega, by rw [ea, eb] at hv; omega⟩
    refine Ev.step (fun k => by rw [pochoirref01_Minus.l0]) ?_
    simp only [if_neg (show ¬ ((i : Int) < (a.length : Int)) by omega)]
    exact Ev.now _
  | succ d ih =>
    intro i l c hi hl hd c0 c1 hv
    have A := at_bd ha i
    have B := at_bd hb i
    have ra : rd a (i : Int) = at_ a i := by simp [rd, at_]
    have w1 : IntKind.u64.wrap (65536 + at_ a i) = 65536 + at_ a i := wu64 (by omega) (by omega)
    have w2 : IntKind.u64.wrap (65536 + at_ a i - at_ b i) = 65536 + at_ a i - at_ b i := wu64 (by omega) (by omega)
    have w3 : IntKind.u64.wrap (65536 + at_ a i - at_ b i - c) = 65536 + at_ a i - at_ b i - c := wu64 (by omega) (by omega)
    obtain ⟨x, hx⟩ : ∃ x, x = 65536 + at_ a i - at_ b i - c := ⟨_, rfl⟩
    have x0 : 0 ≤ x := by omega
    have w4 : IntKind.u64.wrap (x / 65536) = x / 65536 := wu64 (by omega) (by omega)
    have wx : IntKind.u64.wrap x = x := wu64 (by omega) (by omega)
    have w5 : IntKind.u64.wrap (1 - x / 65536) = 1 - x / 65536 := wu64 (by omega) (by omega)
    obtain ⟨r, h1, h2, h3, h4⟩ := ih (i + 1) (l ++ [x % 65536]) (1 - x / 65536) (by omega) (by simp [hl]) (hd.app (by omega)) (by omega) (by omega) (by
      have e := val_app l (x % 65536)
      have e2 : (65536 : Int) ^ (i + 1) = 65536 * 65536 ^ i := pw_succ i
      rw [e, hl, low_succ, low_succ, e2]
      have h5 : x = x % 65536 + 65536 * (x / 65536) := by omega
      generalize x % 65536 = xm at *
      generalize x / 65536 = xd at *
      generalize (65536 : Int) ^ i = P at *
      have : x * P = xm * P + 65536 * xd * P := by rw [h5]; grind
      have h6 : x * P = 65536 * P + at_ a i * P - at_ b i * P - c * P := by rw [hx]; grind
      grind)
    refine ⟨r, ?_, h2, h3, h4⟩
    refine Ev.step (fun k => by rw [pochoirref01_Minus.l0]) ?_
    simp only [if_pos (show ((i : Int) < (a.length : Int)) by omega), if_pos (show (0 : Int) ≤ (i : Int) by omega), rat_f, Option.bind_some, ra, w1, w2, w3, ← hx, wx, tmod_nn x0, tdiv_nn x0, w4, w5, if_pos (show l.length < 17592186044416 by omega)]
    rw [w64 (by omega) (by omega), show (i : Int) + 1 = ((i + 1 : Nat) : Int) by omega]
    exact h1
theorem rminus_ev {a b : List Int} (ha : Dig a) (hb : Dig b) (la : a.length ≤ 100000) (hle : val b ≤ val a) :
    ∃ r, Ev (fun k => pochoirref01_Minus.f k a b) r ∧ Dig r ∧ r.length = a.length ∧ val r = val a - val b :=
  rminus_l ha hb la hle a.length 0 [] 0 (by omega) rfl (by intro x hx; simp at hx) (by omega) (by omega) (by simp [val, low])

theorem shl_lit (x : Int) (n : Nat) (hn : n ≤ 64) : shl .u64 x (n : Int) = (x * 2 ^ n) % 18446744073709551616 := by
  unfold shl; rw [show (min ((n : Int).toNat) (IntKind.u64.bits)) = n from by simp [IntKind.bits]; omega]
  exact wu64_mod _
theorem rvalue_1 {l : List Int} (h : Dig l) : Ev (fun k => pochoirref01_Value.l1 k l 0 0 0) (hi_ (low l 8), lo_ (low l 8), true) := by
  have b0 := at_bd h 0
  have b1 := at_bd h 1
  have b2 := at_bd h 2
  have b3 := at_bd h 3
  have b4 := at_bd h 4
  have b5 := at_bd h 5
  have b6 := at_bd h 6
  have b7 := at_bd h 7
  have s0 : ∀ x : Int, 0 ≤ x ∧ x < 65536 → shl .u64 x 0 = x := fun x hx => by have := shl_lit x 0 (by omega); simp at this; rw [this]; omega
  have s1 : ∀ x : Int, 0 ≤ x ∧ x < 65536 → shl .u64 x 16 = x * 65536 := fun x hx => by have := shl_lit x 16 (by omega); simp at this; rw [this]; omega
  have s2 : ∀ x : Int, 0 ≤ x ∧ x < 65536 → shl .u64 x 32 = x * 4294967296 := fun x hx => by have := shl_lit x 32 (by omega); simp at this; rw [this]; omega
  have s3 : ∀ x : Int, 0 ≤ x ∧ x < 65536 → shl .u64 x 48 = x * 281474976710656 := fun x hx => by have := shl_lit x 48 (by omega); simp at this; rw [this]; omega
  have r0 := rat_f l 0
  have r1 := rat_f l 1
  have r2 := rat_f l 2
  have r3 := rat_f l 3
  have r4 := rat_f l 4
  have r5 := rat_f l 5
  have r6 := rat_f l 6
  have r7 := rat_f l 7
  simp only [show ((0 : Nat) : Int) = 0 from rfl, show ((1 : Nat) : Int) = 1 from rfl, show ((2 : Nat) : Int) = 2 from rfl, show ((3 : Nat) : Int) = 3 from rfl, show ((4 : Nat) : Int) = 4 from rfl, show ((5 : Nat) : Int) = 5 from rfl, show ((6 : Nat) : Int) = 6 from rfl, show ((7 : Nat) : Int) = 7 from rfl] at r0 r1 r2 r3 r4 r5 r6 r7
  have q0 : low l 8 = (at_ l 4 + at_ l 5 * 65536 + at_ l 6 * 4294967296 + at_ l 7 * 281474976710656) * 18446744073709551616 + (at_ l 0 + at_ l 1 * 65536 + at_ l 2 * 4294967296 + at_ l 3 * 281474976710656) := by
    simp only [low]; omega
  have w0 : ∀ x y : Int, 0 ≤ x → x < 281474976710656 → 0 ≤ y → y < 18446462598732840961 → IntKind.u64.wrap (x + y) = x + y := fun x y h1 h2 h3 h4 => wu64 (by omega) (by omega)
  generalize at_ l 0 = d0 at *
  generalize at_ l 1 = d1 at *
  generalize at_ l 2 = d2 at *
  generalize at_ l 3 = d3 at *
  generalize at_ l 4 = d4 at *
  generalize at_ l 5 = d5 at *
  generalize at_ l 6 = d6 at *
  generalize at_ l 7 = d7 at *
  have W0 : ∀ x : Int, 0 ≤ x ∧ x < 65536 → IntKind.u64.wrap (0 + x) = x := fun x hx => by rw [Int.zero_add]; exact wu64 (by omega) (by omega)
  have e1 : hi_ (low l 8) = d4 + d5 * 65536 + d6 * 4294967296 + d7 * 281474976710656 := by rw [q0]; unfold hi_; omega
  have e2 : lo_ (low l 8) = d0 + d1 * 65536 + d2 * 4294967296 + d3 * 281474976710656 := by rw [q0]; unfold lo_; omega
  rw [e1, e2]
  have m0 : wrap64 (16 * 0) = 0 := by unfold wrap64; omega
  have m1 : wrap64 (16 * 1) = 16 := by unfold wrap64; omega
  have m2 : wrap64 (16 * 2) = 32 := by unfold wrap64; omega
  have m3 : wrap64 (16 * 3) = 48 := by unfold wrap64; omega
  have n0 : wrap64 (0 + 4) = 4 := by unfold wrap64; omega
  have n1 : wrap64 (1 + 4) = 5 := by unfold wrap64; omega
  have n2 : wrap64 (2 + 4) = 6 := by unfold wrap64; omega
  have n3 : wrap64 (3 + 4) = 7 := by unfold wrap64; omega
  have o0 : wrap64 (0 + 1) = 1 := by unfold wrap64; omega
  have o1 : wrap64 (1 + 1) = 2 := by unfold wrap64; omega
  have o2 : wrap64 (2 + 1) = 3 := by unfold wrap64; omega
  have o3 : wrap64 (3 + 1) = 4 := by unfold wrap64; omega
  have v1 : IntKind.u64.wrap (d4 + d5 * 65536) = d4 + d5 * 65536 := wu64 (by omega) (by omega)
  have v2 : IntKind.u64.wrap (d4 + d5 * 65536 + d6 * 4294967296) = d4 + d5 * 65536 + d6 * 4294967296 := wu64 (by omega) (by omega)
  have v3 : IntKind.u64.wrap (d4 + d5 * 65536 + d6 * 4294967296 + d7 * 281474976710656) = d4 + d5 * 65536 + d6 * 4294967296 + d7 * 281474976710656 := wu64 (by omega) (by omega)
  have u1 : IntKind.u64.wrap (d0 + d1 * 65536) = d0 + d1 * 65536 := wu64 (by omega) (by omega)
  have u2 : IntKind.u64.wrap (d0 + d1 * 65536 + d2 * 4294967296) = d0 + d1 * 65536 + d2 * 4294967296 := wu64 (by omega) (by omega)
  have u3 : IntKind.u64.wrap (d0 + d1 * 65536 + d2 * 4294967296 + d3 * 281474976710656) = d0 + d1 * 65536 + d2 * 4294967296 + d3 * 281474976710656 := wu64 (by omega) (by omega)
  refine Ev.step (fun k => by rw [pochoirref01_Value.l1]) ?_
  simp only [if_pos (show (0 : Int) < 4 by omega), m0, if_pos (show (0 : Int) ≤ 0 by omega), n0, o0, r0, r4, Option.bind_some, s0 d4 b4, s0 d0 b0, W0 d4 b4, W0 d0 b0]
  refine Ev.step (fun k => by rw [pochoirref01_Value.l1]) ?_
  simp only [if_pos (show (1 : Int) < 4 by omega), m1, if_pos (show (0 : Int) ≤ 16 by omega), n1, o1, r1, r5, Option.bind_some, s1 d5 b5, s1 d1 b1, v1, u1]
  refine Ev.step (fun k => by rw [pochoirref01_Value.l1]) ?_
  simp only [if_pos (show (2 : Int) < 4 by omega), m2, if_pos (show (0 : Int) ≤ 32 by omega), n2, o2, r2, r6, Option.bind_some, s2 d6 b6, s2 d2 b2, v2, u2]
  refine Ev.step (fun k => by rw [pochoirref01_Value.l1]) ?_
  simp only [if_pos (show (3 : Int) < 4 by omega), m3, if_pos (show (0 : Int) ≤ 48 by omega), n3, o3, r3, r7, Option.bind_some, s3 d7 b7, s3 d3 b3, v3, u3]
  refine Ev.step (fun k => by rw [pochoirref01_Value.l1]) ?_
  simp only [if_neg (show ¬ ((4 : Int) < 4) by omega)]
  exact Ev.now _
theorem rvalue_0 {l : List Int} (h : Dig l) (hl : l.length ≤ 1000000) : ∀ (d i : Nat), 8 ≤ i → i + d = max l.length 8 → Ev (fun k => pochoirref01_Value.l0 k l (i : Int)) (if val (l.drop i) = 0 then (hi_ (low l 8), lo_ (low l 8), true) else (0, 0, false))
  | 0, i, h8, hi => by
    refine Ev.step (fun k => by rw [pochoirref01_Value.l0]) ?_
    rw [List.drop_eq_nil_of_le (by omega)]
    simp only [if_neg (show ¬ ((i : Int) < (l.length : Int)) by omega), val, if_true]
    exact rvalue_1 h
  | d + 1, i, h8, hi => by
    have ih := rvalue_0 h hl d (i + 1) (by omega) (by omega)
    have ra : rd l (i : Int) = at_ l i := by simp [rd, at_]
    have b := at_bd h i
    have ev : val (l.drop i) = at_ l i + 65536 * val (l.drop (i + 1)) := by
      have hlt : i < l.length := by omega
      rw [List.drop_eq_getElem_cons hlt]
      have e : l[i] = at_ l i := by simp [at_, hlt]
      rw [e]; rfl
    have b2 := (val_bd (h.drop (i + 1))).1
    refine Ev.step (fun k => by rw [pochoirref01_Value.l0]) ?_
    simp only [if_pos (show ((i : Int) < (l.length : Int)) by omega), if_pos (show (0 : Int) ≤ (i : Int) by omega), ra]
    by_cases c : at_ l i = 0
    · simp only [if_pos c]
      rw [w64 (by omega) (by omega), show (i : Int) + 1 = ((i + 1 : Nat) : Int) by omega]
      have ee : (val (l.drop i) = 0) ↔ (val (l.drop (i + 1)) = 0) := by omega
      simp only [ee]
      exact ih
    · simp only [if_neg c]
      rw [if_neg (by omega)]
      exact Ev.now _
theorem pw8 : (65536 : Int) ^ 8 = 340282366920938463463374607431768211456 := by decide
theorem rvalue_ev {l : List Int} (h : Dig l) (hl : l.length ≤ 1000000) : Ev (fun k => pochoirref01_Value.f k l) (if val l < 340282366920938463463374607431768211456 then (hi_ (val l), lo_ (val l), true) else (0, 0, false)) := by
  have key := rvalue_0 h hl (max l.length 8 - 8) 8 (by omega) (by omega)
  have e := drop_zero_iff h 8
  rw [pw8] at e
  unfold pochoirref01_Value.f
  by_cases c : val l < 340282366920938463463374607431768211456
  · rw [if_pos (e.2 c), low_eq h (by rw [pw8]; exact c)] at key
    rw [if_pos c]; exact key
  · rw [if_neg (fun hh => c (e.1 hh))] at key
    rw [if_neg c]; exact key

theorem rbit_f {l : List Int} (h : Dig l) (i : Nat) (hi : i ≤ 1000000) : pochoirref01_bit.f l (i : Int) = some (val l / 2 ^ i % 2) := by
  unfold pochoirref01_bit.f
  have e1 : Int.tdiv (i : Int) 16 = ((i / 16 : Nat) : Int) := by rw [tdiv_nn (by omega)]; omega
  have e2 : Int.tmod (i : Int) 16 = ((i % 16 : Nat) : Int) := by rw [tmod_nn (by omega)]; omega
  rw [e1, e2, w64 (by omega) (by omega), rat_f]
  simp only [Option.bind_some, if_pos (show (0 : Int) ≤ ((i % 16 : Nat) : Int) by omega)]
  have b := at_bd h (i / 16)
  rw [shr_lit _ _ (by omega), tmod_nn (Int.ediv_nonneg b.1 (Int.le_of_lt (p2_pos _))), bit_val h]
/-- The places that were looked at make quotient and rest. -/
theorem rdivide_l {a b : List Int} (ha : Dig a) (hb : Dig b) (la : a.length = 8) (lb : b.length = 8) (hn : 0 < val b) :
    ∀ (i : Nat) (q r : List Int), i ≤ 128 → Dig q → q.length = 8 → Dig r → r.length + 2 * i ≤ 300 → val q = val a / 2 ^ i / val b * 2 ^ i → val r = val a / 2 ^ i % val b →
      ∃ q' r', Ev (fun k => pochoirref01_Divide.l0 k a b q r ((i : Int) - 1)) (q', r') ∧ Dig q' ∧ q'.length = 8 ∧ Dig r' ∧ r'.length ≤ 300 ∧ val q' = val a / val b ∧ val r' = val a % val b
  | 0, q, r, _, hq, lq, hr, lr, vq, vr => by
    refine ⟨q, r, ?_, hq, lq, hr, by omega, by simpa using vq, by simpa using vr⟩
    refine Ev.step (fun k => by rw [pochoirref01_Divide.l0]) ?_
    simp only [if_neg (show ¬ (((0 : Nat) : Int) - 1 ≥ 0) by omega)]
    exact Ev.now _
  | i + 1, q, r, hi, hq, lq, hr, lr, vq, vr => by
    obtain ⟨s1, p1, p2, p3, p4⟩ := rplus_ev hr hr (by omega) (by omega)
    have hbit0 : 0 ≤ val a / 2 ^ i % 2 ∧ val a / 2 ^ i % 2 < 65536 := by omega
    obtain ⟨s2, t1, t2, t3, t4⟩ := rplus_ev (b := [val a / 2 ^ i % 2]) p2 (by intro x hx; rw [List.mem_singleton.1 hx]; exact hbit0) (by omega) (by simp)
    have hA : val a / 2 ^ i = 2 * (val a / 2 ^ (i + 1)) + val a / 2 ^ i % 2 := by
      have e : val a / 2 ^ (i + 1) = val a / 2 ^ i / 2 := by rw [Int.pow_succ, Int.ediv_ediv_of_nonneg (Int.le_of_lt (p2_pos i))]
      rw [e]; omega
    have v2 : val s2 = 2 * (val a / 2 ^ (i + 1) % val b) + val a / 2 ^ i % 2 := by
      rw [t4, p4, vr]; simp [val]; omega
    obtain ⟨Q, hQ⟩ : ∃ Q, Q = val a / 2 ^ (i + 1) / val b := ⟨_, rfl⟩
    obtain ⟨R, hR⟩ : ∃ R, R = val a / 2 ^ (i + 1) % val b := ⟨_, rfl⟩
    obtain ⟨B, hB⟩ : ∃ B, B = val a / 2 ^ i % 2 := ⟨_, rfl⟩
    have hQR : val a / 2 ^ (i + 1) = val b * Q + R := by rw [hQ, hR]; exact (Int.mul_ediv_add_emod _ _).symm
    have hR0 : 0 ≤ R := by rw [hR]; exact Int.emod_nonneg _ (by omega)
    have hR1 : R < val b := by rw [hR]; exact Int.emod_lt_of_pos _ hn
    rw [← hR, ← hB] at v2
    rw [← hQ] at vq
    have hAi : val a / 2 ^ i = val b * (2 * Q) + val s2 := by rw [hA, hQR, v2, ← hB]; grind
    have lless := rless_ev t2 hb (by simp at t3; omega) (by omega)
    have hB' : 0 ≤ B ∧ B ≤ 1 := by omega
    have ls2 : s2.length + 2 * i ≤ 300 := by simp at t3; omega
    by_cases c : val b ≤ val s2
    · obtain ⟨s3, m1, m2, m3, m4⟩ := rminus_ev t2 hb (by omega) c
      have ei : val a / 2 ^ i / val b = 2 * Q + 1 := by
        rw [hAi, show val b * (2 * Q) + val s2 = (val s2 - val b) + (2 * Q + 1) * val b by grind, Int.add_mul_ediv_right _ _ (by omega), Int.ediv_eq_zero_of_lt (by omega) (by omega), Int.zero_add]
      have em : val a / 2 ^ i % val b = val s2 - val b := by
        rw [hAi, show val b * (2 * Q) + val s2 = (val s2 - val b) + (2 * Q + 1) * val b by grind, Int.add_mul_emod_self_right, Int.emod_eq_of_lt (by omega) (by omega)]
      have hj : i / 16 < q.length := by omega
      have hs : i % 16 < 16 := Nat.mod_lt _ (by decide)
      have e16 : 16 * (i / 16) + i % 16 = i := Nat.div_add_mod i 16
      have hroom := room hq (i / 16) (i % 16) hs Q (by rw [vq, e16])
      have bq := at_bd hq (i / 16)
      have hp := p2_pos (i % 16)
      obtain ⟨q', r', f1, f2, f3, f4, f5, f6, f7⟩ := rdivide_l ha hb la lb hn i (q.set (i / 16) (at_ q (i / 16) + 2 ^ (i % 16))) s3 (by omega) (hq.set _ (by omega)) (by simp [lq]) m2 (by omega)
        (by rw [val_set _ _ _ hj, ei, vq, show at_ q (i / 16) + 2 ^ (i % 16) - at_ q (i / 16) = 2 ^ (i % 16) by omega, Int.mul_comm (2 ^ (i % 16)), ← p2_16, e16, Int.pow_succ]; grind)
        (by rw [m4, em])
      refine ⟨q', r', ?_, f2, f3, f4, f5, f6, f7⟩
      refine Ev.step (fun k => by rw [pochoirref01_Divide.l0]) ?_
      simp only [show (((i + 1 : Nat) : Int) - 1) = (i : Int) by omega, if_pos (show ((i : Int) ≥ 0) by omega)]
      refine Ev.bind p1 ?_
      rw [rbit_f ha i (by omega)]
      simp only [Option.bind_some]
      refine Ev.bind t1 ?_
      refine Ev.bind lless ?_
      have eg : cmpI (val s2) (val b) ≥ 0 := by unfold cmpI; rw [if_neg (by omega)]; split <;> omega
      simp only [if_pos eg]
      refine Ev.bind m1 ?_
      have e1 : Int.tdiv (i : Int) 16 = ((i / 16 : Nat) : Int) := by rw [tdiv_nn (by omega)]; omega
      have e2 : Int.tmod (i : Int) 16 = ((i % 16 : Nat) : Int) := by rw [tmod_nn (by omega)]; omega
      have e3 : rd q ((i / 16 : Nat) : Int) = at_ q (i / 16) := by unfold rd at_; rw [Int.toNat_natCast]
      have e4 : shl .u64 1 ((i % 16 : Nat) : Int) = 2 ^ (i % 16) := by
        rw [shl_lit _ _ (by omega), Int.one_mul]; exact Int.emod_eq_of_lt (by omega) (by omega)
      rw [e1, e2, w64 (n := ((i / 16 : Nat) : Int)) (by omega) (by omega)]
      simp only [if_pos (show (0 : Int) ≤ ((i / 16 : Nat) : Int) by omega), if_pos (show ((i / 16 : Nat) : Int) < (q.length : Int) by omega), if_pos (show (0 : Int) ≤ ((i % 16 : Nat) : Int) by omega), Int.toNat_natCast, e3, e4]
      rw [wu64 (by omega) (by omega), w64 (n := (i : Int) - 1) (by omega) (by omega)]
      exact f1
    · have ei : val a / 2 ^ i / val b = 2 * Q := by
        rw [hAi, show val b * (2 * Q) + val s2 = val s2 + (2 * Q) * val b by grind, Int.add_mul_ediv_right _ _ (by omega), Int.ediv_eq_zero_of_lt (by omega) (by omega), Int.zero_add]
      have em : val a / 2 ^ i % val b = val s2 := by
        rw [hAi, show val b * (2 * Q) + val s2 = val s2 + (2 * Q) * val b by grind, Int.add_mul_emod_self_right, Int.emod_eq_of_lt (by omega) (by omega)]
      obtain ⟨q', r', f1, f2, f3, f4, f5, f6, f7⟩ := rdivide_l ha hb la lb hn i q s2 (by omega) hq lq t2 (by omega) (by rw [ei, vq, Int.pow_succ]; grind) (by rw [em])
      refine ⟨q', r', ?_, f2, f3, f4, f5, f6, f7⟩
      refine Ev.step (fun k => by rw [pochoirref01_Divide.l0]) ?_
      simp only [show (((i + 1 : Nat) : Int) - 1) = (i : Int) by omega, if_pos (show ((i : Int) ≥ 0) by omega)]
      refine Ev.bind p1 ?_
      rw [rbit_f ha i (by omega)]
      simp only [Option.bind_some]
      refine Ev.bind t1 ?_
      refine Ev.bind lless ?_
      have eg : ¬ (cmpI (val s2) (val b) ≥ 0) := by unfold cmpI; rw [if_pos (by omega)]; omega
      simp only [if_neg eg]
      rw [w64 (n := (i : Int) - 1) (by omega) (by omega)]
      exact f1
theorem rdivide_ev {a b : List Int} (ha : Dig a) (hb : Dig b) (la : a.length = 8) (lb : b.length = 8) (hn : 0 < val b) :
    ∃ q r, Ev (fun k => pochoirref01_Divide.f k a b) (q, r) ∧ Dig q ∧ q.length = 8 ∧ Dig r ∧ r.length ≤ 300 ∧ val q = val a / val b ∧ val r = val a % val b := by
  have h1 := val_bd ha
  rw [la, pw8] at h1
  have e0 : val a / 2 ^ 128 = 0 := Int.ediv_eq_zero_of_lt h1.1 (by omega)
  obtain ⟨q, r, f1, f2, f3, f4, f5, f6, f7⟩ := rdivide_l ha hb la lb hn 128 (List.replicate 8 0) [] (by omega) (Dig.zero _) (by simp) (by intro x hx; simp at hx) (by simp) (by rw [e0, val_zero]; simp) (by rw [e0]; simp [val])
  refine ⟨q, r, ?_, f2, f3, f4, f5, f6, f7⟩
  unfold pochoirref01_Divide.f
  simp only [la, if_pos (show (0 : Int) ≤ ((8 : Nat) : Int) by omega), Int.toNat_natCast, if_pos (show 8 ≤ 35184372088832 by omega)]
  rw [show wrap64 (wrap64 (16 * ((8 : Nat) : Int)) - 1) = ((128 : Nat) : Int) - 1 by unfold wrap64; omega]
  exact f1

end Go.Proofs.Ytjjnkadfoepflaa.XWide
