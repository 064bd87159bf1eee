/- The pure law RootRatios: Ratio and Below answer as their reference, for every number, divisor and root. -/
import Derived.Test.YtemhnlameekmkaaXRootRootM
import Derived.Test.YtemhnlameekmkaaXRootx10
namespace Go.Proofs.Ytemhnlameekmkaa.Pure
open Go.RowKit Go.Proofs.Ytemhnlameekmkaa.XRoot Go.Proofs.Ytemhnlameekmkaa.XM Go.Proofs.Ytemhnlameekmkaa.NumM Go.Proofs.YtemhnlameekmkaaW.PrintWords Go.Proofs.YtemhnlameekmkaaW.PrintLast Go.Proofs.YtemhnlameekmkaaW.PrintMore
set_option linter.unusedVariables false

theorem ratios_awake : Ev (fun k => pochoirlaw04_awake.f k) true :=
  Ev.of (g := fun k => pochoirlaw04_awake.f k) pochoirlaw04_awake.mono (k := 90) (by decide +kernel)

theorem ratio_l {h l h' l' : Int} (hh : Word h) (hl : Word l) (hh' : Word h') (hl' : Word l') : ∀ (i : Nat) (r : Int), i ≤ 32 → 0 ≤ r → r % 2 ^ i = 0 → r + 2 ^ i ≤ 4294967296 →
    Ev (fun k => root_Ratio.l0 k r ((i : Int) - 1) h l h' l') (top (fun x => x * x * wide h' l' ≤ wide h l) r i, 0)
  | 0, r, _, _, _, _ => by
    refine Ev.step (f := fun _ => some (r, 0)) (fun k => ?_) (Ev.now _)
    rw [root_Ratio.l0, if_neg (by omega)]
  | i + 1, r, hi, h0, hm, hb => by
    have hp := p2 i
    have hs := p2s i
    have hor : Go.bits .or .u64 r (2 ^ i) = r + 2 ^ i := or_add (i + 1) h0 hm (by omega) (by omega) (by omega) (by omega)
    have a1 := ratio_l hh hl hh' hl' i (r + 2 ^ i) (by omega) (by omega) (mod_add i hm) (by omega)
    have a2 := ratio_l hh hl hh' hl' i r (by omega) h0 (mod_half i hm) (by omega)
    have sq := below_ev (r := r + 2 ^ i) ⟨by omega, by omega⟩ hh hl hh' hl'
    refine Ev.step (f := fun k => (root_Below.f k (r + 2 ^ i) h l h' l').bind fun t => if t = true then root_Ratio.l0 k (r + 2 ^ i) ((i : Int) - 1) h l h' l' else root_Ratio.l0 k r ((i : Int) - 1) h l h' l') (fun k => ?_) ?_
    · rw [root_Ratio.l0, show ((i + 1 : Nat) : Int) - 1 = (i : Int) by omega, if_pos (by omega), if_pos (by omega), shl_one i (by omega), hor, w64 (n := (i : Int) - 1) (by omega) (by omega)]
    · refine Ev.bind sq ?_
      unfold top
      by_cases c : (r + 2 ^ i) * (r + 2 ^ i) * wide h' l' ≤ wide h l
      · simp only [decide_eq_true c, if_true, if_pos c]; exact a1
      · simp only [decide_eq_false c, Bool.false_eq_true, if_false, if_neg c]; exact a2
theorem rratio_l {h l h' l' : Int} (hh : Word h) (hl : Word l) (hh' : Word h') (hl' : Word l') : ∀ (i : Nat) (r : Int), i ≤ 32 → 0 ≤ r → r + 2 ^ i ≤ 4294967296 →
    Ev (fun k => pochoirref04_Ratio.l0 k r ((i : Int) - 1) h l h' l') (top (fun x => x * x * wide h' l' ≤ wide h l) r i, 0)
  | 0, r, _, _, _ => by
    refine Ev.step (f := fun _ => some (r, 0)) (fun k => ?_) (Ev.now _)
    rw [pochoirref04_Ratio.l0, if_neg (by omega)]
  | i + 1, r, hi, h0, hb => by
    have hp := p2 i
    have hs := p2s i
    have wr : IntKind.u64.wrap (r + 2 ^ i) = r + 2 ^ i := wu64 (by omega) (by omega)
    have a1 := rratio_l hh hl hh' hl' i (r + 2 ^ i) (by omega) (by omega) (by omega)
    have a2 := rratio_l hh hl hh' hl' i r (by omega) h0 (by omega)
    have sq := rbelow_ev (r := r + 2 ^ i) ⟨by omega, by omega⟩ hh hl hh' hl'
    refine Ev.step (f := fun k => (pochoirref04_Below.f k (r + 2 ^ i) h l h' l').bind fun t => if t = true then pochoirref04_Ratio.l0 k (r + 2 ^ i) ((i : Int) - 1) h l h' l' else pochoirref04_Ratio.l0 k r ((i : Int) - 1) h l h' l') (fun k => ?_) ?_
    · rw [pochoirref04_Ratio.l0, show ((i + 1 : Nat) : Int) - 1 = (i : Int) by omega, if_pos (by omega), if_pos (by omega), shl_one i (by omega), w64 (n := (i : Int) - 1) (by omega) (by omega), wr]
    · refine Ev.bind sq ?_
      unfold top
      by_cases c : (r + 2 ^ i) * (r + 2 ^ i) * wide h' l' ≤ wide h l
      · simp only [decide_eq_true c, if_true, if_pos c]; exact a1
      · simp only [decide_eq_false c, Bool.false_eq_true, if_false, if_neg c]; exact a2

theorem ratio_same {h l h' l' : Int} (hh : Word h) (hl : Word l) (hh' : Word h') (hl' : Word l') : ∃ x e, Ev (fun k => root_Ratio.f k h l h' l') (x, e) ∧ Ev (fun k => pochoirref04_Ratio.f k h l h' l') (x, e) := by
  have big : Word 4294967296 := ⟨by omega, by omega⟩
  by_cases c : (h' == 0 && (l' == 0)) = true
  · refine ⟨0, 13, ?_, ?_⟩
    · unfold root_Ratio.f; simp only [if_pos c]; exact Ev.now _
    · unfold pochoirref04_Ratio.f; simp only [if_pos c]; exact Ev.now _
  · by_cases d : (4294967296 : Int) * 4294967296 * wide h' l' ≤ wide h l
    · refine ⟨0, 2, ?_, ?_⟩
      · unfold root_Ratio.f; simp only [if_neg c]
        refine Ev.bind (below_ev big hh hl hh' hl') ?_
        simp only [decide_eq_true d, if_true]; exact Ev.now _
      · unfold pochoirref04_Ratio.f; simp only [if_neg c]
        refine Ev.bind (rbelow_ev big hh hl hh' hl') ?_
        simp only [decide_eq_true d, if_true]; exact Ev.now _
    · refine ⟨top (fun x => x * x * wide h' l' ≤ wide h l) 0 32, 0, ?_, ?_⟩
      · unfold root_Ratio.f; simp only [if_neg c]
        refine Ev.bind (below_ev big hh hl hh' hl') ?_
        simp only [decide_eq_false d, Bool.false_eq_true, if_false]
        exact ratio_l hh hl hh' hl' 32 0 (by omega) (by omega) (by simp) (by simp)
      · unfold pochoirref04_Ratio.f; simp only [if_neg c]
        refine Ev.bind (rbelow_ev big hh hl hh' hl') ?_
        simp only [decide_eq_false d, Bool.false_eq_true, if_false]
        exact rratio_l hh hl hh' hl' 32 0 (by omega) (by omega) (by simp)

theorem RootRatios : pochoirlaw04_RootRatios.Pure := by
  intro x0 x1 r hx0 hx1 hr0
  obtain ⟨h, l⟩ := x0
  obtain ⟨h', l'⟩ := x1
  refine Ev.rounds (g := fun k => pochoirlaw04_RootRatios.f k h l h' l' r) ?_
  have hh : Word h := u64_of hx0.1
  have hl : Word l := u64_of hx0.2
  have hh' : Word h' := u64_of hx1.1
  have hl' : Word l' := u64_of hx1.2
  have hr : Word r := u64_of hr0
  obtain ⟨x, e, x1, x2⟩ := ratio_same hh hl hh' hl'
  unfold pochoirlaw04_RootRatios.f
  refine Ev.bind ratios_awake ?_
  refine Ev.step (f := fun k => (root_Ratio.f k h l h' l').bind fun bt249 => ((pochoirref04_Ratio.f k h l h' l').bind fun bt251 => (if bt249.1 = bt251.1 then (if bt249.2 = bt251.2 then ((root_Below.f k r h l h' l').bind fun t253 => ((pochoirref04_Below.f k r h l h' l').bind fun t254 => (some (t253 == t254)))) else (some false)) else (some false)))) (fun k => rfl) ?_
  refine Ev.bind x1 (Ev.bind x2 ?_)
  simp only [if_true]
  refine Ev.bind (below_ev hr hh hl hh' hl') (Ev.bind (rbelow_ev hr hh hl hh' hl') (Ev.some ?_))
  simp

end Go.Proofs.Ytemhnlameekmkaa.Pure
