/- Quotients by a word, on both sides. Seat Door's numbers. -/
import Derived.Test.YtidiifdiilahdaaDoorEvDiv64
import Derived.Test.YtidiifdiilahdaaDoorEvPolyD
namespace Go.Proofs.YtidiifdiilahdaaDoor.EvP
open Go Go.Proofs.YtidiifdiilahdaaDoor.Ev Go.Proofs.YtidiifdiilahdaaDoor.NumB
open Go.Proofs.YtidiifdiilahdaaDoor.EvN (i64 div64_f Word wide)
set_option linter.unusedVariables false
set_option linter.unusedSimpArgs false
theorem abs80 {n : Int} (h : i64 n) : F80 n = some (n.natAbs : Int) := by
  obtain ⟨h0, h1⟩ := h
  rw [F80_eq]
  by_cases c : n < 0
  · rw [cT c]; congr 1; simp only [wr, wu64_mod]; omega
  · rw [cF c]; congr 1; simp only [wr, wu64_mod]; omega
theorem drop_val {l : List Int} {n : Nat} (h : n < l.length) : val (l.drop n) = at_ l n + 4294967296 * val (l.drop (n + 1)) := by
  rw [List.drop_eq_getElem_cons h, val]
  congr 1
  simp [at_, h]
/-- The sign of a quotient. -/
theorem tdiv_sign (x d : Int) : (if (!(decide (x < 0) == decide (d < 0))) = true then -(((x.natAbs / d.natAbs : Nat)) : Int) else ((x.natAbs / d.natAbs : Nat) : Int)) = Int.tdiv x d := by
  rcases Int.natAbs_eq x with hx | hx <;> rcases Int.natAbs_eq d with hd | hd
  all_goals
    generalize x.natAbs = X at *
    generalize d.natAbs = D at *
    subst hx hd
  · rw [if_neg (by simp; omega)]; rfl
  · rw [Int.tdiv_neg]
    by_cases c : D = 0
    · subst c; simp
    · rw [if_pos (by simp; omega)]; rfl
  · rw [Int.neg_tdiv]
    by_cases c : X = 0
    · subst c; simp
    · rw [if_pos (by simp; omega)]; rfl
  · rw [Int.neg_tdiv, Int.tdiv_neg, Int.neg_neg]
    by_cases c : X = 0
    · subst c; simp
    · by_cases e : D = 0
      · subst e; simp
      · rw [if_neg (by simp; omega)]; rfl
theorem divB {V D : Int} {g Q r : Int} (hD : 0 < D) (hr : r = V % D) (hQ : Q = V / D) : (g + 4294967296 * V) / D = Q * 4294967296 + (r * 4294967296 + g) / D ∧ (g + 4294967296 * V) % D = (r * 4294967296 + g) % D := by
  have h := Int.mul_ediv_add_emod V D
  have e : g + 4294967296 * V = (r * 4294967296 + g) + D * (Q * 4294967296) := by
    rw [hr, hQ]
    have : 4294967296 * V = 4294967296 * (D * (V / D) + V % D) := by rw [h]
    rw [this]
    generalize V / D = a
    generalize V % D = b
    grind
  rw [e, Int.add_mul_ediv_left _ _ (by omega), Int.add_mul_emod_self_left]
  exact ⟨by omega, rfl⟩
theorem bdiv_l {d : Int} {x1 z : S31} {l : List Int} (hd : i64 d) (hd0 : d ≠ 0) (hl : Dig l) (ll : l.length ≤ 100000) : ∀ (n : Nat) (out : List Int) (r : Int), n ≤ l.length → out.length = l.length → Dig out → (∀ j, j < n → at_ out j = at_ l j) → r = val (l.drop n) % (d.natAbs : Int) →
    val out = low l n + 4294967296 ^ n * (val (l.drop n) / (d.natAbs : Int)) → ∃ y, L62_1 d x1 z out r ((n : Int) - 1) = some (bg (if (!(x1.f0 == decide (d < 0))) = true then -(val l / (d.natAbs : Int)) else val l / (d.natAbs : Int)), y)
  | 0, out, r, hn, ho, hdo, he, hr, hv => by
    have hv' : val out = val l / (d.natAbs : Int) := by rw [hv]; simp [low]
    have fin : ∀ q, ∃ y, L62_0 d x1 z out q = some (bg (if (!(x1.f0 == decide (d < 0))) = true then -(val l / (d.natAbs : Int)) else val l / (d.natAbs : Int)), y) := fun q => by
      have h := bform_f (a := !(x1.f0 == decide (d < 0))) (show out.length ≤ 1000000 by omega) hdo
      rw [hv'] at h
      exact ⟨_, by rw [L62_0_eq, bnd h]⟩
    rw [L62_1_eq, cF (by omega)]
    exact (show ∀ c : Bool, ∃ y, (bif c then L62_0 d x1 z out (wr .u64 (0 - r)) else L62_0 d x1 z out r) = some (bg (if (!(x1.f0 == decide (d < 0))) = true then -(val l / (d.natAbs : Int)) else val l / (d.natAbs : Int)), y) from fun c => by cases c <;> exact fin _) x1.f0
  | n + 1, out, r, hn, ho, hdo, he, hr, hv => by
    have hd' := hd
    unfold i64 at hd'
    have D0 : (0 : Int) < (d.natAbs : Int) := by omega
    have D1 : (d.natAbs : Int) ≤ 9223372036854775808 := by omega
    have g0 := at_bd hl n
    have r0 : 0 ≤ r := by rw [hr]; exact Int.emod_nonneg _ (by omega)
    have r1 : r < (d.natAbs : Int) := by rw [hr]; exact Int.emod_lt_of_pos _ D0
    have eg : at_ out n = at_ l n := he n (by omega)
    have gi : wr .u64 (at_ l n) = at_ l n := wu64 (by omega) (by omega)
    have e1 : shrE IntKind.u64 r 32 = r / 4294967296 := shr64 _ 32 (by omega)
    have e2 : shlE IntKind.u64 r 32 = (r * 4294967296) % 18446744073709551616 := by
      have := EvN.shl_e (x := r) (n := 32) (by omega)
      simpa using this
    have e3 : orE IntKind.u64 ((r * 4294967296) % 18446744073709551616) (at_ l n) = (r * 4294967296) % 18446744073709551616 + at_ l n := EvN.or_add 32 (by omega) (by omega) (by omega) (by omega) (by omega) (by omega)
    obtain ⟨U, hU⟩ : ∃ U, U = r * 4294967296 + at_ l n := ⟨_, rfl⟩
    have ew : wide (r / 4294967296) ((r * 4294967296) % 18446744073709551616 + at_ l n) = U := by unfold wide; omega
    have hdv := div64_f (hi := r / 4294967296) (lo := (r * 4294967296) % 18446744073709551616 + at_ l n) (y := (d.natAbs : Int)) ⟨by omega, by omega⟩ ⟨by omega, by omega⟩ ⟨by omega, by omega⟩ (by omega)
    rw [ew] at hdv
    have q0 : 0 ≤ U / (d.natAbs : Int) := Int.ediv_nonneg (by omega) (by omega)
    have q1 : U / (d.natAbs : Int) < 4294967296 := by rw [hU]; exact EvN.dig_lt D0 r1 (by omega)
    obtain ⟨b1, b2⟩ := divB (g := at_ l n) D0 hr (Q := val (l.drop (n + 1)) / (d.natAbs : Int)) rfl
    rw [← drop_val (by omega), ← hU] at b1 b2
    obtain ⟨y, hy⟩ := bdiv_l (x1 := x1) (z := z) hd hd0 hl ll n (out.set n (U / (d.natAbs : Int))) (U % (d.natAbs : Int)) (by omega) (by rw [List.length_set]; exact ho) (hdo.set n ⟨q0, q1⟩)
      (fun j hj => by rw [at_set (by omega)]; exact he j (by omega)) b2.symm (by
        rw [val_set _ _ _ (by omega), hv, eg, low_succ, b1, pw_succ]
        generalize val (l.drop (n + 1)) / (d.natAbs : Int) = Q
        generalize U / (d.natAbs : Int) = q
        generalize (4294967296 : Int) ^ n = P
        grind)
    refine ⟨y, ?_⟩
    rw [show ((n + 1 : Nat) : Int) - 1 = (n : Int) by omega, L62_1_eq, cT (by omega), grd_p (by omega), grd_p (by omega), bnd (abs80 hd), brd, eg, gi, e1, e2, e3, bnd hdv, grd_p (by omega), grd_p (by omega), Int.toNat_natCast, show wr .i64 ((n : Int) - 1) = (n : Int) - 1 from w64 (by omega) (by omega)]
    simp only
    rw [show wr .u32 (U / (d.natAbs : Int)) = U / (d.natAbs : Int) from wu32 q0 q1]
    exact hy
theorem bdiv_s {x d : Int} (hx : Sz 40000 x) (hd : i64 d) (hd0 : d ≠ 0) : ∃ y, F62 (bg x) d = some (bg (Int.tdiv x d), y) := by
  have hb := hx.b
  obtain ⟨y, hy⟩ := bdiv_l (x1 := bg x) (z := ⟨false, []⟩) hd hd0 (cd_dig x.natAbs) (by omega) (cd x.natAbs).length (cd x.natAbs) 0 (Nat.le_refl _) rfl (cd_dig _) (fun j _ => rfl) (by simp [val]) (by rw [low_all _ _ (Nat.le_refl _)]; simp [val])
  refine ⟨y, ?_⟩
  rw [cd_val] at hy
  have e := tdiv_sign x d
  rw [show ((x.natAbs : Int) / (d.natAbs : Int)) = ((x.natAbs / d.natAbs : Nat) : Int) from rfl] at hy
  have e' : (if (!((bg x).f0 == decide (d < 0))) = true then -(((x.natAbs / d.natAbs : Nat)) : Int) else ((x.natAbs / d.natAbs : Nat) : Int)) = Int.tdiv x d := e
  rw [e'] at hy
  rw [F62_eq, show (d == 0) = false by simpa using hd0, cond_false]
  have ec : F70 (bg x).f1 = some (cd x.natAbs) := by rw [F70_eq]; show grd (fit (0 + (cd x.natAbs).length) 4) _ = _; rw [fit_of (by omega), grd_t]; rfl
  rw [bnd ec, show wr .i64 (((cd x.natAbs).length : Int) - 1) = ((cd x.natAbs).length : Int) - 1 from w64 (by omega) (by omega)]
  exact hy
/-! the reference, bit by bit -/
theorem rcmp_s {x y : Int} (hx : Sz 30000 x) (hy : Sz 30000 y) : F68 (rb x) (rb y) = some (sgn (x - y)) := by
  rw [F68_eq, bnd (rsub_s (hx.le (by omega)) (hy.le (by omega))), bnd (rsign_f _)]
theorem sgn_ge (x : Int) : decide (sgn x ≥ 0) = decide (x ≥ 0) := by
  unfold sgn
  by_cases h : x = 0
  · rw [if_pos h, h]
  · rw [if_neg h]
    by_cases c : x < 0
    · rw [if_pos c, decide_eq_false (by omega), decide_eq_false (by omega)]
    · rw [if_neg c, decide_eq_true (by omega), decide_eq_true (by omega)]
theorem bit16 (A : Int) {k : Nat} (hk : k < 16) : A % 65536 / 2 ^ k % 2 = A / 2 ^ k % 2 := by
  have : k = 0 ∨ k = 1 ∨ k = 2 ∨ k = 3 ∨ k = 4 ∨ k = 5 ∨ k = 6 ∨ k = 7 ∨ k = 8 ∨ k = 9 ∨ k = 10 ∨ k = 11 ∨ k = 12 ∨ k = 13 ∨ k = 14 ∨ k = 15 := by omega
  rcases this with rfl | rfl | rfl | rfl | rfl | rfl | rfl | rfl | rfl | rfl | rfl | rfl | rfl | rfl | rfl | rfl <;> simp <;> omega
theorem two_step {X D : Int} {n : Nat} {b : Int} (hX : 0 ≤ X) (hD : 0 < D) (hb : b = X / 2 ^ n % 2) :
    X / 2 ^ n = 2 * (X / 2 ^ (n + 1)) + b := by
  have e : X / 2 ^ (n + 1) = X / 2 ^ n / 2 := by rw [Int.pow_succ, Int.ediv_ediv_of_nonneg (Int.le_of_lt (Int.pow_pos (by decide)))]
  rw [e, hb]; omega
theorem divT {V D b : Int} (hD : 0 < D) (b0 : 0 ≤ b) (b1 : b ≤ 1) : (2 * V + b) / D = (if 2 * (V % D) + b ≥ D then 2 * (V / D) + 1 else 2 * (V / D)) ∧ (2 * V + b) % D = (if 2 * (V % D) + b ≥ D then 2 * (V % D) + b - D else 2 * (V % D) + b) := by
  have h := Int.mul_ediv_add_emod V D
  have r0 := Int.emod_nonneg V (show D ≠ 0 by omega)
  have r1 := Int.emod_lt_of_pos V hD
  have e : 2 * V + b = (2 * (V % D) + b) + D * (2 * (V / D)) := by
    have : 2 * V = 2 * (D * (V / D) + V % D) := by rw [h]
    rw [this]
    generalize V / D = a
    generalize V % D = c
    grind
  rw [e, Int.add_mul_ediv_left _ _ (by omega), Int.add_mul_emod_self_left]
  generalize V / D = a at *
  generalize V % D = c at *
  by_cases k : 2 * c + b ≥ D
  · rw [if_pos k, if_pos k]
    have e1 : (2 * c + b) / D = 1 := by
      have := Int.add_mul_ediv_left (2 * c + b - D) 1 (show D ≠ 0 by omega)
      rw [show 2 * c + b - D + D * 1 = 2 * c + b by omega, Int.ediv_eq_zero_of_lt (show 0 ≤ 2 * c + b - D by omega) (show 2 * c + b - D < D by omega)] at this
      omega
    have e2 : (2 * c + b) % D = 2 * c + b - D := by
      have := Int.mul_ediv_add_emod (2 * c + b) D
      rw [e1] at this; omega
    exact ⟨by omega, e2⟩
  · rw [if_neg k, if_neg k, Int.ediv_eq_zero_of_lt (show 0 ≤ 2 * c + b by omega) (show 2 * c + b < D by omega), Int.emod_eq_of_lt (show 0 ≤ 2 * c + b by omega) (show 2 * c + b < D by omega)]
    exact ⟨by omega, rfl⟩
theorem sz_le {e : Nat} {x y : Int} (h : Sz e y) (hl : x.natAbs ≤ y.natAbs) : Sz e x := .of (by have := h.lt; omega)
theorem rdiv_l {x d : Int} {z z' : S42} {e : Nat} (hx : Sz e x) (he : e ≤ 20000) (hd : i64 d) (hd0 : d ≠ 0) : ∀ (n : Nat), n ≤ 16 * (NumM.cd x.natAbs).length →
    ∃ y, L43_0 d (rb x) z z' (rb (d.natAbs : Int)) (rb ((x.natAbs : Int) / 2 ^ n / (d.natAbs : Int))) (rb ((x.natAbs : Int) / 2 ^ n % (d.natAbs : Int))) ((n : Int) - 1) = some (rb (Int.tdiv x d), y)
  | 0, hn => by
    have hm := hx.m
    have q0 : ((x.natAbs : Int) / 2 ^ 0 / (d.natAbs : Int)) = ((x.natAbs / d.natAbs : Nat) : Int) := by simp
    have zq : Sz e ((x.natAbs / d.natAbs : Nat) : Int) := sz_le hx (by rw [Int.natAbs_natCast]; exact Nat.div_le_self _ _)
    have h1 := EvR.rnorm_f (a := !((rb x).f0 == decide (d < 0))) (l := NumM.cd (x.natAbs / d.natAbs)) (by have := zq.m; rw [Int.natAbs_natCast] at this; omega) (NumM.cd_dig _)
    rw [NumM.cd_val] at h1
    have e' : (if (!((rb x).f0 == decide (d < 0))) = true then -(((x.natAbs / d.natAbs : Nat)) : Int) else ((x.natAbs / d.natAbs : Nat) : Int)) = Int.tdiv x d := tdiv_sign x d
    rw [e'] at h1
    have zr : Sz e ((x.natAbs : Int) / 2 ^ 0 % (d.natAbs : Int)) := sz_le hx (by
      have : ((x.natAbs : Int) / 2 ^ 0 % (d.natAbs : Int)) = ((x.natAbs % d.natAbs : Nat) : Int) := by simp
      rw [this, Int.natAbs_natCast]; exact Nat.mod_le _ _)
    have h2 := EvR.rnorm_f (a := (rb x).f0) (l := (rb ((x.natAbs : Int) / 2 ^ 0 % (d.natAbs : Int))).f1) (by have := zr.m; show (NumM.cd _).length ≤ _; omega) (NumM.cd_dig _)
    have f1 : (rb ((x.natAbs : Int) / 2 ^ 0 / (d.natAbs : Int))).f1 = NumM.cd (x.natAbs / d.natAbs) := by rw [q0]; show NumM.cd (Int.natAbs _) = _; rw [Int.natAbs_natCast]
    exact ⟨_, by rw [L43_0_eq, cF (by omega), f1, bnd h1, bnd h2]⟩
  | n + 1, hn => by
    have hd' := hd
    unfold i64 at hd'
    have hm := hx.m
    have D0 : (0 : Int) < (d.natAbs : Int) := by omega
    obtain ⟨y, hy⟩ := rdiv_l (z := z) (z' := z') hx he hd hd0 n (by omega)
    refine ⟨y, ?_⟩
    obtain ⟨b, hb⟩ : ∃ b : Int, b = (x.natAbs : Int) / 2 ^ n % 2 := ⟨_, rfl⟩
    have b0 : 0 ≤ b := by omega
    have b1 : b ≤ 1 := by omega
    have hs := two_step (X := (x.natAbs : Int)) (D := (d.natAbs : Int)) (n := n) (by omega) D0 hb
    obtain ⟨t1, t2⟩ := divT (V := (x.natAbs : Int) / 2 ^ (n + 1)) D0 b0 b1
    rw [← hs] at t1 t2
    have V0 : 0 ≤ (x.natAbs : Int) / 2 ^ (n + 1) := Int.ediv_nonneg (by omega) (Int.le_of_lt (Int.pow_pos (by decide)))
    have V1 : (x.natAbs : Int) / 2 ^ (n + 1) ≤ (x.natAbs : Int) := Int.ediv_le_self _ (by omega)
    generalize (x.natAbs : Int) / 2 ^ (n + 1) = V at *
    have q0 : 0 ≤ V / (d.natAbs : Int) := Int.ediv_nonneg V0 (by omega)
    have q1 : V / (d.natAbs : Int) ≤ V := Int.ediv_le_self _ V0
    have r0 := Int.emod_nonneg V (show (d.natAbs : Int) ≠ 0 by omega)
    have r1 := Int.emod_lt_of_pos V D0
    have zq : Sz e (V / (d.natAbs : Int)) := sz_le hx (by omega)
    have zr : Sz 2 (V % (d.natAbs : Int)) := sz_i64 (by omega) (by omega)
    have zD : Sz 2 (d.natAbs : Int) := .of (by rw [show (4294967296 : Int) ^ 2 = 18446744073709551616 from rfl]; omega)
    have zqq : Sz (e + 1) (V / (d.natAbs : Int) + V / (d.natAbs : Int)) := (sz_add zq zq).le (by omega)
    have zrr : Sz 3 (V % (d.natAbs : Int) + V % (d.natAbs : Int)) := (sz_add zr zr).le (by omega)
    have z1 : Sz 2 (1 : Int) := sz_i64 (by omega) (by omega)
    -- the second half
    have half : ∀ r : Int, r = 2 * (V % (d.natAbs : Int)) + b → L43_1 d (rb x) z z' (rb (d.natAbs : Int)) (rb (V / (d.natAbs : Int) + V / (d.natAbs : Int))) (rb r) (n : Int) = some (rb (Int.tdiv x d), y) := fun r hr => by
      have zr' : Sz 4 r := by
        have : r = V % (d.natAbs : Int) + V % (d.natAbs : Int) + b := by omega
        rw [this]; exact (sz_add zrr (sz_i64 (x := b) (by omega) (by omega))).le (by omega)
      rw [L43_1_eq, bnd (rcmp_s (zr'.le (by omega)) (zD.le (by omega))), sgn_ge, show wr .i64 ((n : Int) - 1) = (n : Int) - 1 from w64 (by omega) (by omega)]
      by_cases k : 2 * (V % (d.natAbs : Int)) + b ≥ (d.natAbs : Int)
      · rw [if_pos k] at t1 t2
        rw [t1, t2] at hy
        rw [cT (by omega), bnd (rsub_s (zr'.le (by omega)) (zD.le (by omega))), bnd (EvR.rof_f (by omega) (by omega)), bnd (radd_s (zqq.le (by omega)) (z1.le (by omega)))]
        rw [show r - (d.natAbs : Int) = 2 * (V % (d.natAbs : Int)) + b - (d.natAbs : Int) by omega, show V / (d.natAbs : Int) + V / (d.natAbs : Int) + 1 = 2 * (V / (d.natAbs : Int)) + 1 by omega]
        exact hy
      · rw [if_neg k] at t1 t2
        rw [t1, t2] at hy
        rw [cF (by omega), show r = 2 * (V % (d.natAbs : Int)) + b by omega, show V / (d.natAbs : Int) + V / (d.natAbs : Int) = 2 * (V / (d.natAbs : Int)) by omega]
        exact hy
    have i1 : wr .i64 (Int.tdiv (n : Int) (16 : Int)) = ((n / 16 : Nat) : Int) := by
      rw [EvR.tdiv_nn (by omega)]; exact (w64 (by omega) (by omega)).trans (by omega)
    have i2 : Int.tmod (n : Int) (16 : Int) = ((n % 16 : Nat) : Int) := by rw [EvR.tmod_nn (by omega)]; omega
    have lf : (rb x).f1 = NumM.cd x.natAbs := rfl
    have bitE : Int.tmod (shrE IntKind.u64 ((NumM.cd x.natAbs).getD (n / 16) 0) ((n % 16 : Nat) : Int)) 2 = b := by
      have hat : (NumM.cd x.natAbs).getD (n / 16) 0 = (x.natAbs : Int) / 65536 ^ (n / 16) % 65536 := by
        have := NumM.at_val (NumM.cd_dig x.natAbs) (n / 16)
        rw [NumM.cd_val] at this
        exact this
      have h16 : (65536 : Int) ^ (n / 16) = 2 ^ (16 * (n / 16)) := by rw [Int.pow_mul]; rfl
      have nn : 0 ≤ (x.natAbs : Int) / 65536 ^ (n / 16) % 65536 := Int.emod_nonneg _ (by decide)
      rw [hat, shr_e (show n % 16 ≤ IntKind.u64.bits by show _ ≤ 64; omega), EvR.tmod_nn (Int.ediv_nonneg nn (Int.le_of_lt (Int.pow_pos (by decide)))), bit16 _ (by omega), h16, Int.ediv_ediv_of_nonneg (Int.le_of_lt (Int.pow_pos (by decide))), ← Int.pow_add, show 16 * (n / 16) + n % 16 = n by omega, hb]
    rw [show ((n + 1 : Nat) : Int) - 1 = (n : Int) by omega, L43_0_eq, cT (by omega), bnd (radd_s (zq.le (by omega)) (zq.le (by omega))), bnd (radd_s (zr.le (by omega)) (zr.le (by omega))), i1, i2, lf, grd_p (by omega), grd_p (by omega), grd_p (by omega), Int.toNat_natCast, bitE]
    by_cases k : b = 1
    · rw [show (b == 1) = true by simpa using k, cond_true, bnd (EvR.rof_f (by omega) (by omega)), bnd (radd_s (zrr.le (by omega)) (z1.le (by omega)))]
      exact half _ (by omega)
    · rw [show (b == 1) = false by simpa using k, cond_false]
      exact half _ (by omega)
theorem rdiv_s {x d : Int} {e : Nat} (hx : Sz e x) (he : e ≤ 20000) (hd : i64 d) (hd0 : d ≠ 0) : ∃ y, F43 (rb x) d = some (rb (Int.tdiv x d), y) := by
  have hd' := hd
  unfold i64 at hd'
  have hm := hx.m
  have hlt : (x.natAbs : Int) < 2 ^ (16 * (NumM.cd x.natAbs).length) := by
    have := (NumM.val_bd (NumM.cd_dig x.natAbs)).2
    rw [NumM.cd_val] at this
    rw [Int.pow_mul]; exact this
  obtain ⟨y, hy⟩ := rdiv_l (z := ⟨false, []⟩) (z' := ⟨false, []⟩) hx he hd hd0 (16 * (NumM.cd x.natAbs).length) (Nat.le_refl _)
  rw [Int.ediv_eq_zero_of_lt (by omega) hlt, Int.zero_ediv, Int.zero_emod, rb_zero] at hy
  refine ⟨y, ?_⟩
  rw [F43_eq, bnd (EvR.rof_f (by omega) (by omega))]
  have l0 : (rb x).f1.length = (NumM.cd x.natAbs).length := rfl
  have l1 : wr .i64 (wr .i64 (16 * ((rb x).f1.length : Int)) - 1) = ((16 * (NumM.cd x.natAbs).length : Nat) : Int) - 1 := by
    rw [l0, show wr .i64 (16 * ((NumM.cd x.natAbs).length : Int)) = 16 * ((NumM.cd x.natAbs).length : Int) from w64 (by omega) (by omega)]
    exact (w64 (by omega) (by omega)).trans (by omega)
  have la : S42.mk false (EvR.rb d).f1 = rb (d.natAbs : Int) := rb_abs d
  rw [l1, la]
  exact hy
end Go.Proofs.YtidiifdiilahdaaDoor.EvP
