/- Layer 1 and its reference: moved by places, and how many places there are. -/
import Derived.Test.YtjjnkadfoepflaaXWideRefAddM
import Derived.Test.YtjjnkadfoepflaaXWideDiv64M
import Derived.Test.YtjjnkadfoepflaaXWideWideC
import Derived.Test.YtjjnkadfoepflaaXWidex14

namespace Go.Proofs.Ytjjnkadfoepflaa.XWide
open Go.RowKit Go.Proofs.Ytjjnkadfoepflaa.XM Go.Proofs.Ytjjnkadfoepflaa.NumM Go.Proofs.YtjjnkadfoepflaaW.PrintWords Go.Proofs.YtjjnkadfoepflaaW.PrintLast Go.Proofs.YtjjnkadfoepflaaW.PrintMore
set_option linter.unusedVariables false
set_option linter.unusedSimpArgs false

theorem or_comm_u64 (x y : Int) : Go.bits .or .u64 x y = Go.bits .or .u64 y x := by
  simp [Go.bits, Nat.or_comm]
theorem wright_f {h l : Int} (hh : Word h) (hl : Word l) (m : Nat) (hm : m < 128) : wide_right.f h l (m : Int) = some (hi_ (wide h l / 2 ^ m), lo_ (wide h l / 2 ^ m)) := by
  unfold wide_right.f
  have h0 := hh.1
  have h1 := hh.2
  have l0 := hl.1
  have l1 := hl.2
  by_cases c : 64 ≤ m
  · obtain ⟨s, rfl⟩ : ∃ s, m = 64 + s := ⟨m - 64, by omega⟩
    rw [if_pos (by omega), show ((64 + s : Nat) : Int) - 64 = (s : Int) by omega, wu64 (by omega) (by omega), if_pos (by omega), shr_nat _ _ (by omega)]
    have e : wide h l / 2 ^ (64 + s) = h / 2 ^ s := by
      rw [pw_split, ← Int.ediv_ediv_of_nonneg (by decide)]
      congr 1
      unfold wide; omega
    have b0 : 0 ≤ h / 2 ^ s := Int.ediv_nonneg h0 (Int.le_of_lt (p2pos s))
    have b1 : h / 2 ^ s ≤ h := Int.ediv_le_self _ h0
    rw [e]; unfold hi_ lo_
    congr 2 <;> omega
  · rw [if_neg (by omega), if_pos (by omega), show (64 : Int) - (m : Int) = ((64 - m : Nat) : Int) by omega, wu64 (by omega) (by omega), if_pos (by omega), shr_nat _ _ (by omega), shr_nat _ _ (by omega), shl_nat _ _ (by omega)]
    obtain ⟨P, hP⟩ : ∃ P : Int, P = 2 ^ m := ⟨_, rfl⟩
    obtain ⟨T, hT⟩ : ∃ T : Int, T = 2 ^ (64 - m) := ⟨_, rfl⟩
    have P0 : 0 < P := hP ▸ p2pos m
    have T0 : 0 < T := hT ▸ p2pos _
    have hTP : T * P = 18446744073709551616 := by rw [hT, hP, ← pw_split, show 64 - m + m = 64 by omega]; decide
    rw [← hP, ← hT]
    have y0 : 0 ≤ l / P := Int.ediv_nonneg l0 (by omega)
    have y1 : l / P < T := Int.ediv_lt_of_lt_mul P0 (by omega)
    have q0 : 0 ≤ h / P := Int.ediv_nonneg h0 (by omega)
    have q1 : h / P ≤ h := Int.ediv_le_self _ h0
    have r0 := Int.emod_nonneg h (show P ≠ 0 by omega)
    have r1 := Int.emod_lt_of_pos h P0
    have m1 := Int.mul_ediv_add_emod h P
    have x1 : h * T % 18446744073709551616 = T * (h % P) := by rw [← hTP, Int.mul_comm h T, Int.mul_emod_mul_of_pos _ _ T0]
    have x2 : T * (h % P) ≤ T * (P - 1) := Int.mul_le_mul_of_nonneg_left (by omega) (by omega)
    have x3 : 0 ≤ T * (h % P) := mul_nn (by omega) r0
    rw [Int.mul_sub, hTP, Int.mul_one] at x2
    rw [x1, or_comm_u64, or_add (64 - m) x3 (by rw [← hT]; exact Int.mul_emod_right _ _) (by omega) y0 (by rw [← hT]; exact y1) (by have := Int.ediv_le_self P l0; omega)]
    have e : wide h l / P = h / P * 18446744073709551616 + (T * (h % P) + l / P) := by
      unfold wide
      rw [← hTP, show h * (T * P) + l = l + P * (h * T) by grind, Int.add_mul_ediv_left _ _ (by omega)]
      have : h * T = h / P * (T * P) + T * (h % P) := by
        conv => lhs; rw [← m1]
        grind
      omega
    rw [e]; unfold hi_ lo_
    congr 2 <;> omega
theorem wleft_f {h l : Int} (hh : Word h) (hl : Word l) (m : Nat) (hm : m < 128) (hlt : wide h l * 2 ^ m < 340282366920938463463374607431768211456) : wide_left.f h l (m : Int) = some (hi_ (wide h l * 2 ^ m), lo_ (wide h l * 2 ^ m)) := by
  unfold wide_left.f
  have h0 := hh.1
  have h1 := hh.2
  have l0 := hl.1
  have l1 := hl.2
  by_cases c : 64 ≤ m
  · obtain ⟨s, rfl⟩ : ∃ s, m = 64 + s := ⟨m - 64, by omega⟩
    rw [if_pos (by omega), show ((64 + s : Nat) : Int) - 64 = (s : Int) by omega, wu64 (by omega) (by omega), if_pos (by omega), shl_nat _ _ (by omega)]
    have s0 := p2pos s
    have e2 : (2 : Int) ^ (64 + s) = 18446744073709551616 * 2 ^ s := by rw [pw_split]; rfl
    rw [e2] at hlt ⊢
    generalize (2 : Int) ^ s = S at *
    have hz : h = 0 := by
      rcases Int.lt_or_le 0 h with g | g
      · have := Int.mul_le_mul (show 18446744073709551616 ≤ wide h l by unfold wide; omega) (show (18446744073709551616 : Int) ≤ 18446744073709551616 * S by omega) (by decide) (by unfold wide; omega)
        omega
      · omega
    subst hz
    have e3 : wide 0 l * (18446744073709551616 * S) = l * S * 18446744073709551616 := by rw [wide0]; grind
    rw [e3] at hlt ⊢
    have t0 : 0 ≤ l * S := mul_nn l0 (by omega)
    unfold hi_ lo_
    congr 2 <;> omega
  · rw [if_neg (by omega), if_pos (by omega), show (64 : Int) - (m : Int) = ((64 - m : Nat) : Int) by omega, wu64 (by omega) (by omega), if_pos (by omega), shl_nat _ _ (by omega), shl_nat _ _ (by omega), shr_nat _ _ (by omega)]
    obtain ⟨P, hP⟩ : ∃ P : Int, P = 2 ^ m := ⟨_, rfl⟩
    obtain ⟨T, hT⟩ : ∃ T : Int, T = 2 ^ (64 - m) := ⟨_, rfl⟩
    have P0 : 0 < P := hP ▸ p2pos m
    have T0 : 0 < T := hT ▸ p2pos _
    have hTP : T * P = 18446744073709551616 := by rw [hT, hP, ← pw_split, show 64 - m + m = 64 by omega]; decide
    rw [← hP] at hlt ⊢
    rw [← hT]
    have y0 : 0 ≤ l / T := Int.ediv_nonneg l0 (by omega)
    have y1 : l / T < P := Int.ediv_lt_of_lt_mul T0 (by rw [Int.mul_comm]; omega)
    have hp0 : 0 ≤ h * P := mul_nn h0 (by omega)
    have z : l * P / 18446744073709551616 = l / T := by rw [← hTP]; exact Int.mul_ediv_mul_of_pos_left l T P0
    have zz := Int.mul_ediv_add_emod (l * P) 18446744073709551616
    rw [z] at zz
    have L0 : 0 ≤ l * P % 18446744073709551616 := Int.emod_nonneg _ (by decide)
    have L1 : l * P % 18446744073709551616 < 18446744073709551616 := Int.emod_lt_of_pos _ (by decide)
    have e : wide h l * P = (h * P + l / T) * 18446744073709551616 + l * P % 18446744073709551616 := by
      unfold wide; rw [Int.add_mul, Int.mul_right_comm, Int.add_mul]; omega
    rw [e] at hlt ⊢
    have x1 : h * P % 18446744073709551616 = h * P := Int.emod_eq_of_lt hp0 (by omega)
    rw [x1, or_add m hp0 (by rw [← hP]; exact Int.mul_emod_left _ _) (by omega) y0 (by rw [← hP]; exact y1) (by have := Int.ediv_le_self T l0; omega)]
    unfold hi_ lo_
    congr 2 <;> omega

/-- A number moved by places: up, it fits or not; down, what is left. -/
def shf (W n : Int) : Int × Int × Int := if 0 ≤ n then fitw (W * 2 ^ n.toNat) else (hi_ (W / 2 ^ (-n).toNat), lo_ (W / 2 ^ (-n).toNat), 0)
theorem zero_iff {h l : Int} (hh : Word h) (hl : Word l) : ((h == 0 && (l == 0)) = true) ↔ wide h l = 0 := by
  unfold Word at *
  simp only [Bool.and_eq_true, beq_iff_eq]
  unfold wide; omega
theorem hi0 : hi_ 0 = 0 := rfl
theorem lo0 : lo_ 0 = 0 := rfl
theorem fitw0 : fitw 0 = (0, 0, 0) := by unfold fitw; rw [if_pos (by decide)]; rfl
theorem shf0 (n : Int) : shf 0 n = (0, 0, 0) := by
  unfold shf
  split
  · rw [Int.zero_mul, fitw0]
  · rw [Int.zero_ediv, hi0, lo0]
theorem over_bl {W n : Int} (h0 : 0 < W) (h1 : W < 340282366920938463463374607431768211456) (hn : 0 ≤ n) : (n > 128 - bl W) ↔ ¬ (W * 2 ^ n.toNat < 340282366920938463463374607431768211456) := by
  have a := bl_lt (Int.le_of_lt h0)
  have b := bl_ge h0
  have c := bl_nn W
  have c1 : 1 ≤ bl W := by unfold bl; rw [if_neg (by omega)]; omega
  have p := p2pos n.toNat
  have e128 : (340282366920938463463374607431768211456 : Int) = 2 ^ 128 := by decide
  have mono : ∀ {x y : Nat}, x ≤ y → (2 : Int) ^ x ≤ 2 ^ y := by
    intro x y h
    obtain ⟨d, rfl⟩ := Nat.exists_eq_add_of_le h
    rw [pw_split]
    have := Int.mul_le_mul_of_nonneg_left (show (1 : Int) ≤ 2 ^ d by have := p2pos d; omega) (Int.le_of_lt (p2pos x))
    omega
  constructor
  · intro g g2
    have e1 := Int.mul_le_mul_of_nonneg_right b (Int.le_of_lt p)
    rw [← pw_split] at e1
    have e2 : (2 : Int) ^ 128 ≤ 2 ^ ((bl W - 1).toNat + n.toNat) := mono (by omega)
    omega
  · intro g
    refine Int.not_le.1 fun g2 => g ?_
    have e1 := Int.mul_lt_mul_of_pos_right a p
    rw [← pw_split] at e1
    have e2 : (2 : Int) ^ ((bl W).toNat + n.toNat) ≤ 2 ^ 128 := mono (by omega)
    omega
theorem wshift_ev {h l n : Int} (hh : Word h) (hl : Word l) (n0 : -9223372036854775808 ≤ n) (n1 : n ≤ 9223372036854775807) :
    Ev (fun k => wide_Shift.f k h l n) (if wide h l = 0 then (0, 0, 0) else if n ≤ -128 then (0, 0, 0) else shf (wide h l) n) := by
  have b := wide_bd hh hl
  unfold wide_Shift.f
  by_cases z : wide h l = 0
  · simp only [if_pos ((zero_iff hh hl).2 z), if_pos z]
    refine Ev.step (fun k => by rw [wide_Shift.j0]) ?_
    simp only [if_true]; exact Ev.now _
  · simp only [if_neg (fun g => z ((zero_iff hh hl).1 g)), if_neg z]
    refine Ev.step (fun k => by rw [wide_Shift.j0]) ?_
    by_cases c : n ≤ -128
    · simp only [decide_eq_true c, if_true, if_pos c]; exact Ev.now _
    · simp only [decide_eq_false c, Bool.false_eq_true, if_false, if_neg c]
      by_cases d : n < 0
      · simp only [if_pos d]
        have e : IntKind.u64.wrap (wrap64 (-n)) = (((-n).toNat : Nat) : Int) := by rw [w64 (by omega) (by omega), wu64 (by omega) (by omega)]; omega
        rw [e, wright_f hh hl _ (by omega)]
        refine Ev.some ?_
        unfold shf; rw [if_neg (by omega)]
      · simp only [if_neg d]
        refine Ev.bind (wbits_ev hh hl) ?_
        have b1 := bl_le (n := wide h l) 128 (by have := b.2; omega)
        have b0 := bl_nn (wide h l)
        rw [w64 (n := 128 - bl (wide h l)) (by omega) (by omega)]
        have ob := over_bl (n := n) (show 0 < wide h l by omega) b.2 (by omega)
        unfold shf; rw [if_pos (show 0 ≤ n by omega)]
        unfold fitw
        by_cases g : n > 128 - bl (wide h l)
        · rw [if_neg (ob.1 g)]
          simp only [if_pos g]; exact Ev.now _
        · have g2 : wide h l * 2 ^ n.toNat < 340282366920938463463374607431768211456 := Int.not_le.1 fun q => g (ob.2 (by omega))
          have c1 : 1 ≤ bl (wide h l) := by unfold bl; rw [if_neg (by omega)]; omega
          rw [if_pos g2]
          simp only [if_neg g]
          have e : IntKind.u64.wrap n = ((n.toNat : Nat) : Int) := by rw [wu64 (by omega) (by omega)]; omega
          rw [e, wleft_f hh hl _ (by omega) g2]
          exact Ev.some rfl

theorem rshift_1 : ∀ (d i : Nat) (W : Int), 0 ≤ W → W < 340282366920938463463374607431768211456 → i + d ≤ 1000000 →
    Ev (fun k => pochoirref01_Shift.l1 k (-((i + d : Nat) : Int)) (-(i : Int)) (hi_ W) (lo_ W)) (hi_ (W / 2 ^ d), lo_ (W / 2 ^ d), 0)
  | 0, i, W, h0, h1, hb => by
    refine Ev.step (fun k => by rw [pochoirref01_Shift.l1]) ?_
    simp only [if_neg (show ¬ (-(i : Int) > -((i + 0 : Nat) : Int)) by omega)]
    refine Ev.some ?_
    simp
  | d + 1, i, W, h0, h1, hb => by
    refine Ev.step (fun k => by rw [pochoirref01_Shift.l1]) ?_
    simp only [if_pos (show (-(i : Int) > -((i + (d + 1) : Nat) : Int)) by omega)]
    have zi := zero_iff (hi_word h0 h1) (lo_word W)
    rw [wide_split] at zi
    by_cases z : W = 0
    · subst z
      simp only [hi0, lo0, beq_self_eq_true, Bool.not_true, Bool.or_self, Bool.false_eq_true, if_false, Int.zero_ediv]
      exact Ev.now _
    · have e : ((!(hi_ W == 0)) || (!(lo_ W == 0))) = true := by
        rw [← Bool.not_and]
        have : ¬ ((hi_ W == 0 && (lo_ W == 0)) = true) := fun g => z (zi.1 g)
        simp only [Bool.not_eq_true] at this
        rw [this]; rfl
      simp only [if_pos e]
      have dv := rdiv_ev (hi_word h0 h1) (lo_word W) (n := 2) (by unfold Word; omega)
      rw [if_neg (by omega), wide_split] at dv
      refine Ev.bind dv ?_
      rw [w64 (by omega) (by omega)]
      have ih := rshift_1 d (i + 1) (W / 2) (by omega) (by omega) (by omega)
      rw [show -((i + 1 + d : Nat) : Int) = -((i + (d + 1) : Nat) : Int) by omega, show -((i + 1 : Nat) : Int) = -(i : Int) - 1 by omega] at ih
      have e2 : W / 2 ^ (d + 1) = W / 2 / 2 ^ d := by rw [Int.pow_succ, Int.mul_comm, Int.ediv_ediv_of_nonneg (by decide)]
      rw [e2]
      exact ih
theorem rshift_0 : ∀ (d i : Nat) (W : Int), 0 ≤ W → W < 340282366920938463463374607431768211456 → i + d ≤ 1000000 →
    Ev (fun k => pochoirref01_Shift.l0 k ((i + d : Nat) : Int) (i : Int) (hi_ W) (lo_ W)) (fitw (W * 2 ^ d))
  | 0, i, W, h0, h1, hb => by
    refine Ev.step (fun k => by rw [pochoirref01_Shift.l0]) ?_
    simp only [if_neg (show ¬ ((i : Int) < ((i + 0 : Nat) : Int)) by omega)]
    refine Ev.step (fun k => by rw [pochoirref01_Shift.l1]) ?_
    simp only [if_neg (show ¬ ((0 : Int) > ((i + 0 : Nat) : Int)) by omega)]
    refine Ev.some ?_
    unfold fitw; simp [h1]
  | d + 1, i, W, h0, h1, hb => by
    refine Ev.step (fun k => by rw [pochoirref01_Shift.l0]) ?_
    simp only [if_pos (show ((i : Int) < ((i + (d + 1) : Nat) : Int)) by omega)]
    have ad := radd_ev (hi_word h0 h1) (lo_word W) (hi_word h0 h1) (lo_word W)
    rw [wide_split] at ad
    refine Ev.bind ad ?_
    have e : W * 2 ^ (d + 1) = (W + W) * 2 ^ d := by rw [Int.pow_succ]; grind
    by_cases c : W + W < 340282366920938463463374607431768211456
    · simp only [fitw, if_pos c, if_true]
      rw [w64 (by omega) (by omega)]
      have ih := rshift_0 d (i + 1) (W + W) (by omega) c (by omega)
      rw [show ((i + 1 + d : Nat) : Int) = ((i + (d + 1) : Nat) : Int) by omega, show ((i + 1 : Nat) : Int) = (i : Int) + 1 by omega] at ih
      rw [e]
      exact ih
    · simp only [fitw, if_neg c, if_neg (show ¬ ((2 : Int) = 0) by omega)]
      have := Int.mul_le_mul_of_nonneg_left (show (1 : Int) ≤ 2 ^ d by have := p2pos d; omega) (show 0 ≤ W + W by omega)
      rw [e, if_neg (by omega)]
      exact Ev.now _
theorem rshift_ev {h l n : Int} (hh : Word h) (hl : Word l) (n0 : -200 ≤ n) (n1 : n ≤ 200) : Ev (fun k => pochoirref01_Shift.f k h l n) (shf (wide h l) n) := by
  have b := wide_bd hh hl
  unfold pochoirref01_Shift.f
  by_cases z : wide h l = 0
  · have z2 := (zero_iff hh hl).2 z
    simp only [if_pos z2]
    rw [z, shf0]
    simp only [Bool.and_eq_true, beq_iff_eq] at z2
    rw [z2.1, z2.2]
    exact Ev.now _
  · simp only [if_neg (fun g => z ((zero_iff hh hl).1 g))]
    unfold shf
    by_cases c : 0 ≤ n
    · rw [if_pos c]
      have g := rshift_0 n.toNat 0 (wide h l) b.1 b.2 (by omega)
      rw [hi_wide hl, lo_wide hl, show ((0 + n.toNat : Nat) : Int) = n by omega] at g
      exact g
    · rw [if_neg c]
      refine Ev.step (fun k => by rw [pochoirref01_Shift.l0]) ?_
      simp only [if_neg (show ¬ ((0 : Int) < n) by omega)]
      have g := rshift_1 (-n).toNat 0 (wide h l) b.1 b.2 (by omega)
      rw [hi_wide hl, lo_wide hl, show -((0 + (-n).toNat : Nat) : Int) = n by omega] at g
      exact g
theorem bl_is {W : Int} (n : Nat) (h0 : 2 ^ n ≤ W) (h1 : W < 2 ^ (n + 1)) : bl W = n + 1 := by
  have a := bl_le (n + 1) h1
  have p := p2pos n
  have b := bl_lt (n := W) (by omega)
  have c := bl_nn W
  rcases Int.lt_or_le (bl W) (n + 1) with g | g
  · obtain ⟨d, hd⟩ := Nat.exists_eq_add_of_le (show (bl W).toNat ≤ n by omega)
    have e : (2 : Int) ^ n = 2 ^ (bl W).toNat * 2 ^ d := by rw [← pw_split, ← hd]
    have := Int.mul_le_mul_of_nonneg_left (show (1 : Int) ≤ 2 ^ d by have := p2pos d; omega) (Int.le_of_lt (p2pos (bl W).toNat))
    omega
  · omega
theorem rbits_l {l : List Int} (hd : Dig l) : ∀ n : Nat, n ≤ 128 → val l < 2 ^ n → Ev (fun k => pochoirref01_Bits.l0 k l (n : Int)) (bl (val l))
  | 0, hn, hv => by
    refine Ev.step (fun k => by rw [pochoirref01_Bits.l0]) ?_
    simp only [if_neg (show ¬ (((0 : Nat) : Int) > 0) by omega)]
    refine Ev.some ?_
    have := (val_bd hd).1
    rw [show val l = 0 by simp at hv; omega]; rfl
  | n + 1, hn, hv => by
    refine Ev.step (fun k => by rw [pochoirref01_Bits.l0]) ?_
    simp only [if_pos (show (((n + 1 : Nat) : Int) > 0) by omega)]
    rw [w64 (n := ((n + 1 : Nat) : Int) - 1) (by omega) (by omega), show ((n + 1 : Nat) : Int) - 1 = (n : Int) by omega, rbit_f hd n (by omega)]
    simp only [Option.bind_some]
    have v0 := (val_bd hd).1
    have p := p2pos n
    have hq : val l / 2 ^ n < 2 := Int.ediv_lt_of_lt_mul p (by rw [Int.pow_succ] at hv; omega)
    have hq0 : 0 ≤ val l / 2 ^ n := Int.ediv_nonneg v0 (by omega)
    by_cases c : val l / 2 ^ n % 2 = 0
    · simp only [if_pos c]
      refine rbits_l hd n (by omega) ?_
      have m := Int.mul_ediv_add_emod (val l) (2 ^ n)
      have r := Int.emod_lt_of_pos (val l) p
      rw [show val l / 2 ^ n = 0 by omega] at m
      omega
    · simp only [if_neg c]
      refine Ev.some ?_
      rw [bl_is n ?_ hv]; · omega
      have m := Int.mul_ediv_add_emod (val l) (2 ^ n)
      have r := Int.emod_nonneg (val l) (show (2 : Int) ^ n ≠ 0 by omega)
      rw [show val l / 2 ^ n = 1 by omega] at m
      omega
theorem rbits_ev {h l : Int} (hh : Word h) (hl : Word l) : Ev (fun k => pochoirref01_Bits.f k h l) (bl (wide h l)) := by
  unfold pochoirref01_Bits.f
  refine Ev.bind (rdigits_ev hh.1 hl.1) ?_
  have g := rbits_l (digs_dig h l) 128 (by omega) (by rw [val_digs hh hl]; have := (wide_bd hh hl).2; omega)
  rw [val_digs hh hl] at g
  exact g

end Go.Proofs.Ytjjnkadfoepflaa.XWide
