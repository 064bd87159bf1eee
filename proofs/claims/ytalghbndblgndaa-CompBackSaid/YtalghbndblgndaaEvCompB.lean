/- Comp: all parts made, both sides; read again. -/
import Derived.Test.YtalghbndblgndaaEvCompM
namespace Go.Proofs.Ytalghbndblgndaa.Ev
open Go
set_option linter.unusedVariables false
set_option linter.unusedSimpArgs false
def mkL : List S47 → List Int
  | [] => []
  | p :: l => encP p (decide (l.length ≠ 0)) ++ mkL l
theorem mkL_len : ∀ (l : List S47), (mkL l).length ≤ 16 * l.length
  | [] => by simp [mkL]
  | p :: l => by
    have := mkL_len l
    have := encP_len p (decide (l.length ≠ 0))
    simp only [mkL, List.length_append, List.length_cons]; omega
theorem mem_all {l : List S47} {f : S47 → Bool} (h : l.all f = true) {i : Nat} (hi : i < l.length) (z : S47) : f (l.getD i z) = true := List.all_eq_true.mp h _ (rd_mem l z i hi)
theorem l33 {l : List S47} (hl : l.length ≤ 1000) (hp : (l.all fun p => ptM p 1024) = true) : ∀ (d i : Nat) (s : ByteArray), d + i = l.length → s.size ≤ 100 + 16 * i → ∃ t, L33_0 l s l (l.length : Int) (i : Int) = some (t, 0) ∧ strBytes t = strBytes s ++ mkL (l.drop i)
  | 0, i, s, h, hs => by
    rw [L33_0_eq, cF (by omega)]
    exact ⟨s, rfl, by rw [drop_nil (by omega)]; simp [mkL]⟩
  | d + 1, i, s, h, hs => by
    obtain ⟨t, k1, k2⟩ := f82 (mem_all hp (i := i) (by omega) z0) (decide ((l.drop (i + 1)).length ≠ 0))
    have e : decide ((i : Int) < wr .i64 ((l.length : Int) - 1)) = decide ((l.drop (i + 1)).length ≠ 0) := by
      rw [wr64 (by omega) (by omega)]
      refine decide_eq_decide.mpr ?_
      rw [List.length_drop]; omega
    have n1 := by_len t
    have n2 := encP_len (l.getD i z0) (decide ((l.drop (i + 1)).length ≠ 0))
    rw [← k2] at n2
    rw [L33_0_eq, cT (by omega), grd_p (by omega), grd_p (by omega), Int.toNat_natCast, e, bnd k1, fitS_p (by omega), inc (by omega)]
    obtain ⟨u, j1, j2⟩ := l33 hl hp d (i + 1) (s ++ t) (by omega) (by rw [ByteArray.size_append]; omega)
    refine ⟨u, j1, ?_⟩
    rw [j2, by_app, k2, drop_rd l z0 i (by omega), mkL, List.append_assoc]
def hdr : List Int := [255, 255, 0, 0, 0, 0, 0, 0, 0, 0]
theorem hdr_by : strBytes (ofBytes hdr) = hdr := by_of fun b hb => by
  simp only [hdr, List.mem_cons, List.not_mem_nil, or_false] at hb
  omega
theorem hdr_sz : (ofBytes hdr).size = 10 := by rw [← by_len, hdr_by]; rfl
def sMake (l : List S47) : List Int := hdr ++ mkL l
theorem pm_all {l : List S47} {n : Int} (h : pm l n = true) : (1 ≤ n ∧ n ≤ 1024) ∧ (1 ≤ l.length ∧ l.length ≤ 64) ∧ (l.all fun p => ptM p n) = true := by
  simpa [pm, Bool.and_eq_true, and_assoc] using h
theorem f33 {l : List S47} : ∃ t, F33 l = some (t, cond (pm l 1024) 0 1) ∧ (pm l 1024 = true → strBytes t = sMake l) := by
  rw [F33_eq, bnd (f35 l 1024)]
  cases h : pm l 1024
  · exact ⟨_, rfl, fun e => by cases e⟩
  · obtain ⟨_, hl, hp⟩ := pm_all h
    obtain ⟨a, k1, k2⟩ := f80 [-1] (by simp)
    have e81 : F81 (ofBytes [0]) 8 = some ⟨(Lib.repeatL (ofBytes [0]).data.toList (8 : Int).toNat).toArray⟩ := by
      rw [F81_eq]; unfold strings_Repeat; rw [if_pos (by decide)]
    have eb : strBytes ⟨(Lib.repeatL (ofBytes [0]).data.toList (8 : Int).toNat).toArray⟩ = [0, 0, 0, 0, 0, 0, 0, 0] := by decide +kernel
    have ea : strBytes a = [255, 255] := by rw [k2]; rfl
    have z1 := by_len a
    have z2 := by_len ⟨(Lib.repeatL (ofBytes [0]).data.toList (8 : Int).toNat).toArray⟩
    rw [ea] at z1
    rw [eb] at z2
    simp only [List.length_cons, List.length_nil] at z1 z2
    rw [Bool.not_true, cond_false, bnd k1, bnd e81, fitS_p (by omega)]
    obtain ⟨t, j1, j2⟩ := l33 (l := l) (by omega) hp l.length 0 (a ++ ⟨(Lib.repeatL (ofBytes [0]).data.toList (8 : Int).toNat).toArray⟩) (by omega) (by rw [ByteArray.size_append]; omega)
    exact ⟨t, j1, fun _ => by rw [j2, by_app, ea, eb, List.drop_zero]; rfl⟩
section
variable {l : List S47} {s : ByteArray} {i : Nat} (hi : i ≤ 1000) (hs : s.size ≤ 100000)
include hi hs
theorem l34_5 {p : S47} {f : Int} {a t : ByteArray} (ha : a.size ≤ 100) (ht : t.size ≤ 100) : ∃ u, L34_5 l s (i : Int) p f a t = L34_0 l u ((i + 1 : Nat) : Int) ∧ strBytes u = strBytes s ++ (b16 f ++ (b16 p.f0 ++ (strBytes a ++ strBytes t))) := by
  obtain ⟨y, k1, k2⟩ := f84 f
  obtain ⟨z, j1, j2⟩ := f84 p.f0
  have n1 := by_len y
  have n2 := by_len z
  rw [k2] at n1
  rw [j2] at n2
  simp only [b16, List.length_cons, List.length_nil] at n1 n2
  rw [L34_5_eq, bnd k1, fitS_p (by omega), bnd j1, fitS_p (by rw [ByteArray.size_append]; omega), fitS_p (by rw [ByteArray.size_append, ByteArray.size_append]; omega), fitS_p (by rw [ByteArray.size_append, ByteArray.size_append, ByteArray.size_append]; omega), inc (by omega)]
  exact ⟨_, rfl, by rw [by_app, by_app, by_app, by_app, k2, j2]; simp [List.append_assoc]⟩
theorem l34_8 {p : S47} {f : Int} (h0 : 0 ≤ f) (h1 : f ≤ 1000) {a : ByteArray} (ha : a.size ≤ 100) (pl : Bool) : ∃ u, L34_8 l s (i : Int) p f a pl = L34_0 l u ((i + 1 : Nat) : Int) ∧ strBytes u = strBytes s ++ (b16 (f + cond pl 64 128) ++ (b16 p.f0 ++ (strBytes a ++ cond pl (b16 p.f3 ++ b16 p.f6) (b16 p.f3 ++ (b16 p.f4 ++ (b16 p.f5 ++ b16 p.f6)))))) := by
  obtain ⟨t3, k3, e3⟩ := f84 p.f3
  obtain ⟨t4, k4, e4⟩ := f84 p.f4
  obtain ⟨t5, k5, e5⟩ := f84 p.f5
  obtain ⟨t6, k6, e6⟩ := f84 p.f6
  have n3 := by_len t3
  have n4 := by_len t4
  have n5 := by_len t5
  have n6 := by_len t6
  rw [e3] at n3
  rw [e4] at n4
  rw [e5] at n5
  rw [e6] at n6
  simp only [b16, List.length_cons, List.length_nil] at n3 n4 n5 n6
  rw [L34_8_eq]
  cases pl
  · simp only [cond_false]
    rw [bnd k3, bnd k4, fitS_p (by omega), bnd k5, fitS_p (by rw [ByteArray.size_append]; omega), bnd k6, fitS_p (by rw [ByteArray.size_append, ByteArray.size_append]; omega), wr64 (by omega) (by omega)]
    obtain ⟨u, j1, j2⟩ := l34_5 (l := l) hi hs (p := p) (f := f + 128) (a := a) (t := t3 ++ t4 ++ t5 ++ t6) ha (by rw [ByteArray.size_append, ByteArray.size_append, ByteArray.size_append]; omega)
    exact ⟨u, j1, by rw [j2, by_app, by_app, by_app, e3, e4, e5, e6]; simp [List.append_assoc]⟩
  · simp only [cond_true]
    rw [bnd k3, bnd k6, fitS_p (by omega), wr64 (by omega) (by omega)]
    obtain ⟨u, j1, j2⟩ := l34_5 (l := l) hi hs (p := p) (f := f + 64) (a := a) (t := t3 ++ t6) ha (by rw [ByteArray.size_append]; omega)
    exact ⟨u, j1, by rw [j2, by_app, e3, e6]⟩
theorem l34_6 {p : S47} {f : Int} (h0 : 0 ≤ f) (h1 : f ≤ 1000) {a : ByteArray} (ha : a.size ≤ 100) {pl : Bool} (hp : pl = (p.f4 == 0 && p.f5 == 0)) (hn : ¬ (p.f3 = 16384 ∧ p.f6 = 16384 ∧ pl = true)) : ∃ u, L34_6 l s (i : Int) p f a pl = L34_0 l u ((i + 1 : Nat) : Int) ∧ strBytes u = strBytes s ++ (b16 (f + (encT_ p).1) ++ (b16 p.f0 ++ (strBytes a ++ (encT_ p).2))) := by
  rw [L34_6_eq]
  unfold encT_
  rw [← hp]
  cases pl
  · exact l34_8 hi hs h0 h1 ha false
  · rw [cond_true, cond_true]
    by_cases h : p.f3 = p.f6
    · obtain ⟨t3, k3, e3⟩ := f84 p.f3
      have n3 := by_len t3
      rw [e3] at n3
      simp only [b16, List.length_cons, List.length_nil] at n3
      have h6 : p.f3 ≠ 16384 := fun e => hn ⟨e, by omega, rfl⟩
      rw [ceT h, ceT h, ceF h6, L34_7_eq, bnd k3, wr64 (by omega) (by omega)]
      obtain ⟨u, j1, j2⟩ := l34_5 (l := l) hi hs (p := p) (f := f + 8) (a := a) (t := t3) ha (by omega)
      exact ⟨u, j1, by rw [j2, e3]⟩
    · rw [ceF h, ceF h]
      exact l34_8 hi hs h0 h1 ha true
theorem l34_2 {p : S47} {f : Int} (h0 : 0 ≤ f) (h1 : f ≤ 1000) {a : ByteArray} (ha : a.size ≤ 100) : ∃ u, L34_2 l s (i : Int) p f a = L34_0 l u ((i + 1 : Nat) : Int) ∧ strBytes u = strBytes s ++ (b16 (f + (encT_ p).1) ++ (b16 p.f0 ++ (strBytes a ++ (encT_ p).2))) := by
  have e : L34_2 l s (i : Int) p f a = L34_4 l s (i : Int) p f a (p.f4 == 0 && p.f5 == 0) := by
    rw [L34_2_eq]; cases p.f4 == 0 <;> rfl
  rw [e, L34_4_eq]
  generalize hp : (p.f4 == 0 && p.f5 == 0) = pl
  cases pl
  · rw [cond_false]; exact l34_6 hi hs h0 h1 ha hp.symm (fun h => by cases h.2.2)
  · rw [cond_true]
    by_cases h3 : p.f3 = 16384
    · rw [ceT h3]
      by_cases h6 : p.f6 = 16384
      · rw [ceT h6]
        obtain ⟨u, j1, j2⟩ := l34_5 (l := l) hi hs (p := p) (f := f) (a := a) (t := ByteArray.empty) ha (by decide)
        refine ⟨u, j1, ?_⟩
        have et : encT_ p = (0, []) := by
          unfold encT_; rw [hp, cond_true, ceT (by omega), ceT h3]
        rw [j2, et]; simp [by_empty]
      · rw [ceF h6]; exact l34_6 hi hs h0 h1 ha hp.symm (fun h => h6 h.2.1)
    · rw [ceF h3]; exact l34_6 hi hs h0 h1 ha hp.symm (fun h => h3 h.1)
theorem l34_1 {p : S47} (m : Bool) : ∃ u, L34_1 l s (i : Int) p (2 + cond m 32 0) = L34_0 l u ((i + 1 : Nat) : Int) ∧ strBytes u = strBytes s ++ encP p m := by
  obtain ⟨y, k1, k2⟩ := f67_1 p.f1
  obtain ⟨z, j1, j2⟩ := f67_1 p.f2
  have n1 := by_len y
  have n2 := by_len z
  rw [k2] at n1
  rw [j2] at n2
  simp only [List.length_cons, List.length_nil] at n1 n2
  have hm : 0 ≤ cond m (32 : Int) 0 ∧ cond m (32 : Int) 0 ≤ 32 := by cases m <;> decide
  have no : tns p = false → ∃ u, L34_3 l s (i : Int) p (2 + cond m 32 0) = L34_0 l u ((i + 1 : Nat) : Int) ∧ strBytes u = strBytes s ++ encP p m := by
    intro hn
    obtain ⟨y, k1, k2⟩ := f84 p.f1
    obtain ⟨z, j1, j2⟩ := f84 p.f2
    have n1 := by_len y
    have n2 := by_len z
    rw [k2] at n1
    rw [j2] at n2
    simp only [b16, List.length_cons, List.length_nil] at n1 n2
    rw [L34_3_eq, bnd k1, bnd j1, fitS_p (by omega), wr64 (by omega) (by omega)]
    obtain ⟨u, q1, q2⟩ := l34_2 (l := l) hi hs (p := p) (f := 2 + cond m 32 0 + 1) (by omega) (by omega) (a := y ++ z) (by rw [ByteArray.size_append]; omega)
    refine ⟨u, q1, ?_⟩
    rw [q2, by_app, k2, j2]
    unfold encP encF encA_
    rw [hn, cond_false, cond_false, show (encT_ p).1 + 2 + cond m 32 0 + 1 = 2 + cond m 32 0 + 1 + (encT_ p).1 by omega]
  rw [L34_1_eq, bnd k1, bnd j1, fitS_p (by omega), bnd (f83 _)]
  cases c1 : tiny p.f1
  · exact no (by unfold tns; rw [c1]; rfl)
  · rw [Bool.not_true, cond_false, bnd (f83 _)]
    cases c2 : tiny p.f2
    · exact no (by unfold tns; rw [c1, c2]; rfl)
    · have hn : tns p = true := by unfold tns; rw [c1, c2]; rfl
      rw [Bool.not_true, cond_false]
      obtain ⟨u, q1, q2⟩ := l34_2 (l := l) hi hs (p := p) (f := 2 + cond m 32 0) (by omega) (by omega) (a := y ++ z) (by rw [ByteArray.size_append]; omega)
      refine ⟨u, q1, ?_⟩
      rw [q2, by_app, k2, j2]
      unfold encP encF encA_
      rw [hn, cond_true, cond_true, show (encT_ p).1 + 2 + cond m 32 0 + 0 = 2 + cond m 32 0 + (encT_ p).1 by omega]
      rfl
end
theorem l34 {l : List S47} (hl : l.length ≤ 1000) : ∀ (d i : Nat) (s : ByteArray), d + i = l.length → s.size ≤ 100 + 16 * i → ∃ t, L34_0 l s (i : Int) = some (t, 0) ∧ strBytes t = strBytes s ++ mkL (l.drop i)
  | 0, i, s, h, hs => by
    rw [L34_0_eq, cF (by omega)]
    exact ⟨s, rfl, by rw [drop_nil (by omega)]; simp [mkL]⟩
  | d + 1, i, s, h, hs => by
    have key : ∀ m, m = decide ((l.drop (i + 1)).length ≠ 0) → ∃ t, L34_1 l s (i : Int) (l.getD i z0) (2 + cond m 32 0) = some (t, 0) ∧ strBytes t = strBytes s ++ mkL (l.drop i) := by
      intro m hm
      obtain ⟨u, k1, k2⟩ := l34_1 (l := l) (s := s) (i := i) (by omega) (by omega) (p := l.getD i z0) m
      have n1 := by_len u
      have n2 := encP_len (l.getD i z0) m
      rw [k2, List.length_append, by_len] at n1
      obtain ⟨t, j1, j2⟩ := l34 hl d (i + 1) u (by omega) (by omega)
      refine ⟨t, by rw [k1]; exact j1, ?_⟩
      rw [j2, k2, drop_rd l z0 i (by omega), mkL, hm, List.append_assoc]
    have hlen : (l.drop (i + 1)).length = l.length - (i + 1) := List.length_drop
    rw [L34_0_eq, cT (by omega), grd_p (by omega), grd_p (by omega), Int.toNat_natCast, wr64 (by omega) (by omega)]
    by_cases hc : (i : Int) < (l.length : Int) - 1
    · rw [cT hc]; exact key true (by rw [decide_eq_true (by omega)])
    · rw [cF hc]; exact key false (by rw [decide_eq_false (by omega)])
theorem f34 {l : List S47} : ∃ t, F34 l = some (t, cond (pm l 1024) 0 1) ∧ (pm l 1024 = true → strBytes t = sMake l) ∧ (pm l 1024 = false → t = ByteArray.empty) := by
  rw [F34_eq, bnd (f36 l 1024)]
  cases h : pm l 1024
  · exact ⟨_, rfl, (fun e => by cases e), fun _ => rfl⟩
  · obtain ⟨_, hl, hp⟩ := pm_all h
    rw [Bool.not_true, cond_false]
    obtain ⟨t, j1, j2⟩ := l34 (l := l) (by omega) l.length 0 (ofBytes hdr) (by omega) (by rw [hdr_sz]; omega)
    exact ⟨t, j1, (fun _ => by rw [j2, hdr_by, List.drop_zero]; rfl), fun e => by cases e⟩
theorem f33_no {l : List S47} (h : pm l 1024 = false) : F33 l = some (ByteArray.empty, 1) := by
  rw [F33_eq, bnd (f35 l 1024), h]; rfl
/-! read again -/
theorem n_b16 (n : Int) (r : List Int) : num 2 (b16 n ++ r, false) = (n % 65536, r, false) := by
  unfold num
  rw [tk_ok (by simp [b16])]
  simp only [b16, List.cons_append, List.nil_append, List.take_succ_cons, List.take_zero, List.drop_succ_cons, List.drop_zero]
  rw [be2]
  congr 1; omega
theorem n_b1 (n : Int) (r : List Int) : num 1 (n % 256 :: r, false) = (n % 256, r, false) := by
  unfold num
  rw [tk_ok (by simp)]
  simp only [List.take_succ_cons, List.take_zero, List.drop_succ_cons, List.drop_zero]
  rw [be1]
theorem s16_b {n : Int} (h : -32768 ≤ n ∧ n ≤ 32767) : s16 (n % 65536) = n := by unfold s16; split <;> omega
theorem s8_b {n : Int} (h : -128 ≤ n ∧ n ≤ 127) : s8 (n % 256) = n := by unfold s8; split <;> omega
theorem encF_b (p : S47) (m : Bool) : 0 ≤ encF p m ∧ encF p m < 65536 ∧ rt (encF p m) = true ∧ bt (encF p m) 1 = !tns p ∧ bt (encF p m) 32 = m ∧ bt (encF p m) 8 = decide ((encT_ p).1 = 8) ∧ bt (encF p m) 64 = decide ((encT_ p).1 = 64) ∧ bt (encF p m) 128 = decide ((encT_ p).1 = 128) := by
  have hc := encT_c p
  unfold encF
  generalize tns p = n
  rcases hc with hc | hc | hc | hc <;> rw [hc] <;> cases m <;> cases n <;> decide +kernel
theorem sPart_enc {p : S47} (hp : ptM p 1024 = true) (m : Bool) (r : List Int) : sPart 1024 (encP p m ++ r, false) = ((0, m, p), (r, false)) := by
  obtain ⟨⟨hg0, hg⟩, h1, h2, h3, h4, h5, h6⟩ := ptM_sh hp
  obtain ⟨f0, f1, f2, f3, f4, f5, f6, f7⟩ := encF_b p m
  have ef : encF p m % 65536 = encF p m := by omega
  have eg : p.f0 % 65536 = p.f0 := by omega
  unfold sPart
  have e : encP p m ++ r = b16 (encF p m) ++ (b16 p.f0 ++ (encA_ p ++ ((encT_ p).2 ++ r))) := by simp [encP, List.append_assoc]
  rw [e, n_b16, n_b16, ef, eg]
  simp only [cond_false]
  rw [f2, decide_eq_true hg, Bool.true_and, cond_true]
  have ep : sPlace (encF p m) (encA_ p ++ ((encT_ p).2 ++ r), false) = (p.f1, p.f2, ((encT_ p).2 ++ r, false)) := by
    unfold sPlace encA_
    rw [f3]
    cases hn : tns p
    · simp only [Bool.not_false, cond_true, cond_false]
      rw [List.append_assoc, n_b16, n_b16]
      simp only [s16_b h1, s16_b h2]
    · unfold tns tiny at hn
      rw [Bool.and_eq_true, decide_eq_true_eq, decide_eq_true_eq] at hn
      simp only [Bool.not_true, cond_true, cond_false, List.cons_append, List.nil_append]
      rw [n_b1, n_b1]
      simp only [s8_b hn.1, s8_b hn.2]
  have et : sTurn (encF p m) ((encT_ p).2 ++ r, false) = ((p.f3, p.f4, p.f5, p.f6), (r, false)) := by
    unfold sTurn
    rw [f5, f6, f7]
    unfold encT_
    cases hpl : p.f4 == 0 && p.f5 == 0
    · simp only [cond_false, List.append_assoc]
      rw [decide_eq_false (by decide), decide_eq_false (by decide), decide_eq_true (by decide)]
      simp only [cond_false, cond_true]
      rw [n_b16, n_b16, n_b16, n_b16]
      simp only [s16_b h3, s16_b h4, s16_b h5, s16_b h6]
    · rw [Bool.and_eq_true, beq_iff_eq, beq_iff_eq] at hpl
      simp only [cond_true]
      by_cases e36 : p.f3 = p.f6
      · rw [ceT e36]
        by_cases e3 : p.f3 = 16384
        · rw [ceT e3]
          simp only [List.nil_append]
          rw [decide_eq_false (by decide), decide_eq_false (by decide), decide_eq_false (by decide)]
          simp only [cond_false]
          rw [hpl.1, hpl.2, ← e36, e3]
        · rw [ceF e3]
          simp only []
          rw [decide_eq_true (by decide)]
          simp only [cond_true]
          rw [n_b16, hpl.1, hpl.2, ← e36]
          simp only [s16_b h3]
      · rw [ceF e36]
        simp only [List.append_assoc]
        rw [decide_eq_false (by decide), decide_eq_true (by decide)]
        simp only [cond_false, cond_true]
        rw [n_b16, n_b16, hpl.1, hpl.2]
        simp only [s16_b h3, s16_b h6]
  unfold sRest
  rw [ep]
  simp only
  rw [et, f4]
  rfl
theorem sLoop_mk : ∀ (l : List S47) (d : Nat) (acc : List S47), l ≠ [] → (l.all fun p => ptM p 1024) = true → l.length ≤ d → sLoop 1024 d acc (mkL l, false) = (acc ++ l, 0)
  | [], _, _, h, _, _ => absurd rfl h
  | p :: l, 0, _, _, _, h => by simp at h
  | p :: l, d + 1, acc, _, hp, hd => by
    rw [List.all_cons, Bool.and_eq_true] at hp
    unfold sLoop mkL
    rw [sPart_enc hp.1]
    simp only
    rw [cF (by decide)]
    cases l with
    | nil => rfl
    | cons p2 l =>
      rw [decide_eq_true (by simp), cond_true, sLoop_mk (p2 :: l) d _ (by simp) hp.2 (by simpa using hd)]
      simp
theorem sParse_make {l : List S47} (h : pm l 1024 = true) : sParse (sMake l) 1024 = (l, 0) := by
  obtain ⟨_, hl, hp⟩ := pm_all h
  unfold sParse sMake
  rw [decide_eq_true (by decide), cond_true, decide_eq_true (by simp [hdr]), cond_true]
  have e1 : sIs (hdr ++ mkL l) = true := by
    unfold sIs hdr
    rw [decide_eq_true (by simp), Bool.true_and]; rfl
  have e2 : (hdr ++ mkL l).drop 10 = mkL l := rfl
  rw [e1, cond_true, e2, sLoop_mk l 64 [] (fun e => by rw [e] at hl; simp at hl) hp hl.2]; rfl
theorem sIs_make (l : List S47) : sIs (sMake l) = true := by
  unfold sIs sMake hdr
  rw [decide_eq_true (by simp), Bool.true_and]; rfl
theorem sMake_len {l : List S47} (h : l.length ≤ 64) : (sMake l).length ≤ 2000 := by
  have := mkL_len l
  unfold sMake hdr
  simp only [List.length_append, List.length_cons, List.length_nil]; omega
end Go.Proofs.Ytalghbndblgndaa.Ev
