/- Comp: parts that are made, both sides; what is made is read again. -/
import Derived.Test.YtalghbndblgndaaEvCompL
namespace Go.Proofs.Ytalghbndblgndaa.Ev
open Go
set_option linter.unusedVariables false
set_option linter.unusedSimpArgs false
/-! two bytes -/
def b16 (n : Int) : List Int := [n % 65536 / 256, n % 256]
def b16s (l : List Int) : List Int := l.flatMap b16
theorem b16_byt (n : Int) : Byt (b16 n) := fun b hb => by
  simp only [b16, List.mem_cons, List.not_mem_nil, or_false] at hb
  rcases hb with rfl | rfl <;> omega
theorem f96 (n : Int) : ∃ t, F96 (wr .u16 n) = some t ∧ strBytes t = b16 n := by
  rw [F96_eq, wru16_mod]
  refine ⟨_, rfl, ?_⟩
  have e : shrE IntKind.u16 (n % 65536) (8 : Int) = n % 65536 / 256 := shr_e (k := .u16) (n := 8) (by decide)
  rw [e, wru8_mod, wru8_mod, by_of (fun b hb => by
    simp only [List.mem_cons, List.not_mem_nil, or_false] at hb
    rcases hb with rfl | rfl <;> omega)]
  unfold b16
  congr 1
  · omega
  · congr 1; omega
theorem b16s_len (l : List Int) : (b16s l).length = 2 * l.length := by
  induction l with
  | nil => rfl
  | cons x l ih => unfold b16s at *; rw [List.flatMap_cons, List.length_append, ih]; simp [b16]; omega
theorem l80 {l : List Int} (hl : l.length ≤ 100) : ∀ (d i : Nat) (s : ByteArray), d + i = l.length → strBytes s = b16s (l.take i) → ∃ t, L80_0 s l (l.length : Int) (i : Int) = some t ∧ strBytes t = b16s l
  | 0, i, s, h, hs => by
    rw [L80_0_eq, cF (by omega)]
    exact ⟨s, rfl, by rw [hs, List.take_of_length_le (by omega)]⟩
  | d + 1, i, s, h, hs => by
    obtain ⟨t, h1, h2⟩ := f96 (l.getD i 0)
    have n1 := by_len s
    have n2 := by_len t
    rw [hs, b16s_len, List.length_take] at n1
    rw [h2] at n2
    simp only [b16, List.length_cons, List.length_nil] at n2
    rw [L80_0_eq, cT (by omega), grd_p (by omega), grd_p (by omega), Int.toNat_natCast, bnd h1, fitS_p (by omega), inc (by omega)]
    refine l80 hl d (i + 1) _ (by omega) ?_
    rw [by_app, hs, h2, take_rd l 0 i (by omega)]
    simp [b16s]
theorem f80 (l : List Int) (hl : l.length ≤ 100) : ∃ t, F80 l = some t ∧ strBytes t = b16s l := by
  rw [F80_eq]
  exact l80 hl l.length 0 _ (by omega) rfl
theorem f67_1 (x : Int) : ∃ t, F67 (wr .u32 (wr .u8 x)) 1 = some t ∧ strBytes t = [x % 256] := by
  have e : wr .u32 (wr .u8 x) = x % 256 := by rw [wru8_mod, wru32 (by omega) (by omega)]
  have e2 : Int.tmod (x % 256) 256 = x % 256 := by rw [Int.tmod_eq_emod_of_nonneg (by omega)]; omega
  have hb : strBytes (ofBytes [x % 256]) = [x % 256] := by_of fun b hb => by rw [List.mem_singleton.mp hb]; omega
  have hz := by_len (ofBytes [x % 256])
  rw [hb, List.length_singleton] at hz
  have he : ByteArray.empty.size = 0 := rfl
  rw [e, F67_eq, L67_0_eq, cT (by decide), e2, wru8 (by omega) (by omega), fitS_p (by omega), L67_0_eq, cF (by decide)]
  exact ⟨_, rfl, by rw [by_app, hb]; rfl⟩
theorem f84 (x : Int) : ∃ t, F84 x = some t ∧ strBytes t = b16 x := by
  have e : wr .u32 (wr .u16 x) = x % 65536 := by rw [wru16_mod, wru32 (by omega) (by omega)]
  have e2 : Int.tmod (x % 65536) 256 = x % 256 := by rw [Int.tmod_eq_emod_of_nonneg (by omega)]; omega
  have e3 : wr .u32 (Int.tdiv (x % 65536) 256) = x % 65536 / 256 := by rw [Int.tdiv_eq_ediv_of_nonneg (by omega), wru32 (by omega) (by omega)]
  have e4 : Int.tmod (x % 65536 / 256) 256 = x % 65536 / 256 := by rw [Int.tmod_eq_emod_of_nonneg (by omega)]; omega
  have hb : strBytes (ofBytes [x % 256]) = [x % 256] := by_of fun b hb => by rw [List.mem_singleton.mp hb]; omega
  have hb2 : strBytes (ofBytes [x % 65536 / 256]) = [x % 65536 / 256] := by_of fun b hb => by rw [List.mem_singleton.mp hb]; omega
  have hz := by_len (ofBytes [x % 256])
  rw [hb, List.length_singleton] at hz
  have he : ByteArray.empty.size = 0 := rfl
  have hz2 := by_len (ofBytes [x % 65536 / 256])
  rw [hb2, List.length_singleton] at hz2
  have i1 : wr .i64 ((0 : Int) + 1) = 1 := rfl
  have i2 : wr .i64 ((1 : Int) + 1) = 2 := rfl
  rw [F84_eq, e, F67_eq, L67_0_eq, cT (by decide), e2, wru8 (by omega) (by omega), fitS_p (by omega), e3, i1, L67_0_eq, cT (by decide), e4, wru8 (by omega) (by omega), fitS_p (by rw [ByteArray.size_append]; omega), i2, L67_0_eq, cF (by decide)]
  exact ⟨_, rfl, by rw [by_app, by_app, hb, hb2]; rfl⟩
/-! a part -/
def tiny (x : Int) : Bool := decide (-128 ≤ x ∧ x ≤ 127)
def tns (p : S47) : Bool := tiny p.f1 && tiny p.f2
def encT_ (p : S47) : Int × List Int :=
  cond (p.f4 == 0 && p.f5 == 0) (cond (p.f3 == p.f6) (cond (p.f3 == 16384) (0, []) (8, b16 p.f3)) (64, b16 p.f3 ++ b16 p.f6)) (128, b16 p.f3 ++ (b16 p.f4 ++ (b16 p.f5 ++ b16 p.f6)))
def encF (p : S47) (m : Bool) : Int := (encT_ p).1 + 2 + cond m 32 0 + cond (tns p) 0 1
def encA_ (p : S47) : List Int := cond (tns p) [p.f1 % 256, p.f2 % 256] (b16 p.f1 ++ b16 p.f2)
def encP (p : S47) (m : Bool) : List Int := b16 (encF p m) ++ (b16 p.f0 ++ (encA_ p ++ (encT_ p).2))
theorem f132 (x : Int) (h : -32768 ≤ x ∧ x ≤ 32767) : F132 x = some (tiny x) := by
  rw [F132_eq]
  congr 1
  unfold tiny
  have e : wr .i64 (wr .i8 x) = (x + 128) % 256 - 128 := by
    have : wr .i8 x = (x + 128) % 256 - 128 := by
      simp only [IntKind.wrap, IntKind.bits, IntKind.signed]
      simp
      split <;> omega
    rw [this, wr64 (by omega) (by omega)]
  rw [e]
  by_cases hc : -128 ≤ x ∧ x ≤ 127
  · rw [decide_eq_true hc]; exact beq_iff_eq.mpr (by omega)
  · rw [decide_eq_false hc]; exact beq_eq_false_iff_ne.mpr (by omega)
theorem f83 (x : Int) : F83 x = some (tiny x) := by
  rw [F83_eq]; unfold tiny
  by_cases h : x ≥ -128
  · rw [cT h]; congr 1; exact decide_eq_decide.mpr (by omega)
  · rw [cF h, decide_eq_false (by omega)]
theorem bt_nil : b16s [] = [] := rfl
theorem f131 (p : S47) : ∃ t, F131 p = some ((encT_ p).1, t) ∧ strBytes t = (encT_ p).2 := by
  rw [F131_eq]; unfold encT_
  by_cases h4 : p.f4 = 0
  · rw [cnF h4, h4, beq_self_eq_true, Bool.true_and]
    by_cases h5 : p.f5 = 0
    · rw [cnF h5, h5, beq_self_eq_true, cond_true, L131_1_eq]
      by_cases h3 : p.f3 = p.f6
      · rw [cnF h3, ceT h3]
        by_cases h6 : p.f3 = 16384
        · rw [cnF h6, ceT h6]; exact ⟨_, rfl, rfl⟩
        · obtain ⟨t, k1, k2⟩ := f80 [p.f3] (by simp)
          rw [cnT h6, ceF h6, bnd k1]; exact ⟨t, rfl, by rw [k2]; simp [b16s]⟩
      · obtain ⟨t, k1, k2⟩ := f80 [p.f3, p.f6] (by simp)
        rw [cnT h3, ceF h3, bnd k1]; exact ⟨t, rfl, by rw [k2]; simp [b16s]⟩
    · obtain ⟨t, k1, k2⟩ := f80 [p.f3, p.f4, p.f5, p.f6] (by simp)
      rw [cnT h5, ceF h5, L131_0_eq, bnd k1]; exact ⟨t, rfl, by rw [k2, h4]; simp [b16s]⟩
  · obtain ⟨t, k1, k2⟩ := f80 [p.f3, p.f4, p.f5, p.f6] (by simp)
    have : (p.f4 == 0 && p.f5 == 0) = false := by rw [beq_eq_false_iff_ne.mpr h4]; rfl
    rw [cnT h4, this, L131_0_eq, bnd k1]; exact ⟨t, rfl, by rw [k2]; simp [b16s]⟩
theorem encT_c (p : S47) : (encT_ p).1 = 0 ∨ (encT_ p).1 = 8 ∨ (encT_ p).1 = 64 ∨ (encT_ p).1 = 128 := by
  unfold encT_
  cases p.f4 == 0 && p.f5 == 0
  · exact .inr (.inr (.inr rfl))
  · cases p.f3 == p.f6
    · exact .inr (.inr (.inl rfl))
    · cases p.f3 == 16384
      · exact .inr (.inl rfl)
      · exact .inl rfl
theorem encT_len (p : S47) : (encT_ p).2.length ≤ 8 := by
  unfold encT_
  cases p.f4 == 0 && p.f5 == 0 <;> cases p.f3 == p.f6 <;> cases p.f3 == 16384 <;> simp [b16]
theorem encA_len (p : S47) : (encA_ p).length ≤ 4 := by unfold encA_; cases tns p <;> simp [b16]
theorem encP_len (p : S47) (m : Bool) : (encP p m).length ≤ 16 := by
  have h1 := encT_len p
  have h2 := encA_len p
  unfold encP
  simp only [List.length_append, b16, List.length_cons, List.length_nil]
  omega
theorem f82 {p : S47} (hp : ptM p 1024 = true) (m : Bool) : ∃ t, F82 p m = some t ∧ strBytes t = encP p m := by
  obtain ⟨hg, hd, he, _⟩ := ptM_sh hp
  obtain ⟨t, k1, k2⟩ := f131 p
  have ht := encT_len p
  have hz := by_len t
  rw [k2] at hz
  -- what is joined at the end
  have fin : ∀ (f : Int) (a : ByteArray), strBytes a = encA_ p → f = encF p m → ∃ t', L82_1 p f t a = some t' ∧ strBytes t' = encP p m := by
    intro f a ha hf
    obtain ⟨u, j1, j2⟩ := f80 [f, p.f0] (by simp)
    have e : strBytes u = b16 f ++ b16 p.f0 := by rw [j2]; simp [b16s]
    have za := encA_len p
    have z1 := by_len a
    rw [ha] at z1
    have z2 := by_len u
    rw [e] at z2
    simp only [List.length_append, b16, List.length_cons, List.length_nil] at z2
    rw [L82_1_eq, bnd j1, fitS_p (by omega), fitS_p (by rw [ByteArray.size_append]; omega)]
    refine ⟨_, rfl, ?_⟩
    rw [by_app, by_app, e, ha, k2, hf]
    simp [encP, List.append_assoc]
  have two : ∀ (f : Int), orE IntKind.i64 f 1 = encF p m → tns p = false → ∃ t', L82_2 p f t = some t' ∧ strBytes t' = encP p m := by
    intro f hf hn
    obtain ⟨u, j1, j2⟩ := f80 [p.f1, p.f2] (by simp)
    rw [L82_2_eq, bnd j1]
    refine fin _ _ ?_ hf
    rw [j2]; unfold encA_; rw [hn]; simp [b16s]
  have all : ∀ (f : Int), (tns p = true → f = encF p m) → (tns p = false → orE IntKind.i64 f 1 = encF p m) → ∃ t', L82_0 p f t = some t' ∧ strBytes t' = encP p m := by
    intro f h1 h2
    rw [L82_0_eq, bnd (f132 _ hd)]
    cases c1 : tiny p.f1
    · have hn : tns p = false := by unfold tns; rw [c1]; rfl
      exact two f (h2 hn) hn
    · rw [Bool.not_true, cond_false, bnd (f132 _ he)]
      cases c2 : tiny p.f2
      · have hn : tns p = false := by unfold tns; rw [c1, c2]; rfl
        exact two f (h2 hn) hn
      · have hn : tns p = true := by unfold tns; rw [c1, c2]; rfl
        rw [Bool.not_true, cond_false]
        refine fin f _ ?_ (h1 hn)
        unfold encA_; rw [hn, cond_true, wru8_mod, wru8_mod]
        exact by_of fun b hb => by
          simp only [List.mem_cons, List.not_mem_nil, or_false] at hb
          rcases hb with rfl | rfl <;> omega
  rw [F82_eq, bnd k1]
  have hc := encT_c p
  cases m
  · rw [cond_false]
    refine all _ (fun hn => ?_) (fun hn => ?_) <;> (unfold encF; rw [hn]; rcases hc with hc | hc | hc | hc <;> rw [hc] <;> decide +kernel)
  · rw [cond_true]
    refine all _ (fun hn => ?_) (fun hn => ?_) <;> (unfold encF; rw [hn]; rcases hc with hc | hc | hc | hc <;> rw [hc] <;> decide +kernel)
end Go.Proofs.Ytalghbndblgndaa.Ev
