/- Layer 1's decimal digits; and that its laws are awake. -/
import Derived.Laws.BytesArg
import Derived.Test.YtjjnkadfoepflaaXWideDiv64M
import Derived.Test.YtjjnkadfoepflaaXWideWideC
import Derived.Test.YtjjnkadfoepflaaXWidex3
import Derived.Test.YtjjnkadfoepflaaXWidex4

namespace Go.Proofs.Ytjjnkadfoepflaa.XWide
open Go.RowKit Go.Proofs.Ytjjnkadfoepflaa.XM Go.Proofs.Ytjjnkadfoepflaa.NumM Go.Proofs.YtjjnkadfoepflaaW.PrintWords Go.Proofs.YtjjnkadfoepflaaW.PrintLast Go.Proofs.YtjjnkadfoepflaaW.PrintMore
set_option linter.unusedVariables false
set_option linter.unusedSimpArgs false

def dec : Nat → Int → List Int
  | 0, _ => []
  | f + 1, n => (if n / 10 = 0 then [] else dec f (n / 10)) ++ [48 + n % 10]
theorem dec_len : ∀ (f : Nat) (n : Int), (dec f n).length ≤ f
  | 0, _ => by simp [dec]
  | f + 1, n => by
    have := dec_len f (n / 10)
    simp only [dec]
    split <;> simp <;> omega
theorem dig10 {m : Int} (h : 0 ≤ m ∧ m < 10) : (IntKind.u64.wrap (48 + m)) % 256 = 48 + m := by rw [wu64 (by omega) (by omega)]; omega
theorem nz_wide {m : Int} (h0 : 0 ≤ m) (z : ¬ m = 0) : ¬ ((hi_ m == 0 && (lo_ m == 0)) = true) := by
  simp only [Bool.and_eq_true, beq_iff_eq]
  intro ⟨e1, e2⟩
  have := wide_split m
  rw [e1, e2] at this
  unfold wide at this
  omega
theorem str_app (xs ys : List Int) : strOfNums xs ++ strOfNums ys = strOfNums (xs ++ ys) := by
  apply ByteArray.ext
  simp [strOfNums, ByteArray.data_append]
theorem str_size (xs : List Int) : (strOfNums xs).size = xs.length := by simp [strOfNums, ByteArray.size]
theorem wtext_l : ∀ (f : Nat) (n : Int) (at_ : Nat) (ds : List Int), f + 1 ≤ at_ → at_ ≤ 40 → ds.length = 40 → 0 ≤ n → n < 10 ^ (f + 1) → n < 340282366920938463463374607431768211456 →
    Ev (fun k => wide_Text.l0 k (hi_ n) (lo_ n) at_ ds) (strOfNums (dec (f + 1) n ++ ds.drop at_)) := by
  intro f
  induction f with
  | zero =>
    intro n at_ ds hf h40 hl h0 h1 h2
    have dv := wdiv_ev (hi_word h0 h2) (lo_word n) (n := 10) (by unfold Word; omega)
    rw [if_neg (by omega), wide_split] at dv
    refine Ev.step (fun k => by rw [wide_Text.l0]) ?_
    simp only [if_pos (show 1 ≤ at_ by omega)]
    refine Ev.bind dv ?_
    have z : n / 10 = 0 := by simp at h1; omega
    simp only [z]
    simp only [if_pos (show (hi_ 0 == 0 && (lo_ 0 == 0)) = true by decide), dig10 (show 0 ≤ n % 10 ∧ n % 10 < 10 by omega)]
    refine Ev.some ?_
    rw [List.drop_eq_getElem_cons (by simp; omega), List.drop_set_of_lt (by omega)]
    simp [dec, z, show at_ - 1 + 1 = at_ by omega]
  | succ f ih =>
    intro n at_ ds hf h40 hl h0 h1 h2
    have dv := wdiv_ev (hi_word h0 h2) (lo_word n) (n := 10) (by unfold Word; omega)
    rw [if_neg (by omega), wide_split] at dv
    refine Ev.step (fun k => by rw [wide_Text.l0]) ?_
    simp only [if_pos (show 1 ≤ at_ by omega)]
    refine Ev.bind dv ?_
    simp only [dig10 (show 0 ≤ n % 10 ∧ n % 10 < 10 by omega)]
    have ed : (ds.set (at_ - 1) (48 + n % 10)).drop (at_ - 1) = [48 + n % 10] ++ ds.drop at_ := by
      rw [List.drop_eq_getElem_cons (by simp; omega), List.drop_set_of_lt (by omega)]
      simp [show at_ - 1 + 1 = at_ by omega]
    by_cases z : n / 10 = 0
    · simp only [z]
      simp only [if_pos (show (hi_ 0 == 0 && (lo_ 0 == 0)) = true by decide), ed]
      refine Ev.some ?_
      simp [dec, z]
    · simp only [if_neg (nz_wide (show 0 ≤ n / 10 by omega) z)]
      have e : (10 : Int) ^ (f + 1 + 1) = 10 * 10 ^ (f + 1) := by rw [Int.pow_succ, Int.mul_comm]
      have g := ih (n / 10) (at_ - 1) (ds.set (at_ - 1) (48 + n % 10)) (by omega) (by omega) (by simp [hl]) (by omega) (by rw [e] at h1; omega) (by omega)
      rw [ed] at g
      rw [dec, if_neg z, List.append_assoc]
      exact g
theorem wtext_ev {h l : Int} (hh : Word h) (hl : Word l) : Ev (fun k => wide_Text.f k h l) (strOfNums (dec 39 (wide h l))) := by
  have b := wide_bd hh hl
  have g := wtext_l 38 (wide h l) 40 (List.replicate 40 0) (by omega) (by omega) (by simp) b.1 (by have := b.2; simp; omega) b.2
  rw [hi_wide hl, lo_wide hl, show (List.replicate 40 (0 : Int)).drop 40 = [] by rfl, List.append_nil] at g
  exact g
theorem awake01_ev : Ev (fun k => pochoirlaw01_awake.f k) true := by
  refine Ev.of (g := fun k => pochoirlaw01_awake.f k) pochoirlaw01_awake.mono (k := 60) ?_
  decide +kernel

end Go.Proofs.Ytjjnkadfoepflaa.XWide
