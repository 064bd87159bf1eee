/- The pure law AreaSix: what layer 38 answers is the document's. -/
import Derived.Test.YtalgppclaolonaaEvArea
import Derived.Test.YtalgppclaolonaaEvV
import Derived.Test.YtalgppclaolonaaEvW
namespace Go.Proofs.Ytalgppclaolonaa.Ev
open Go Go.Proofs.Ytalgppclaolonaa.EvR
set_option linter.unusedVariables false
set_option linter.unusedSimpArgs false
theorem rto_b {x : Int} (h : Small x) : F38 (rb x) = some (bg x) := rto_f (small_m h)
theorem a6_l1 {n : List Int} (hn : n.length ≤ 8192) : ∀ (d i : Nat), i + d = n.length → L7_3 n n (n.length : Int) (i : Int) = some true
  | 0, i, h => by rw [L7_3_eq, cF (by omega)]
  | d + 1, i, h => by
    rw [L7_3_eq, cT (by omega), grd_p (by omega), grd_p (by omega), grd_p (by omega), grd_p (by omega), bne_self_eq_false, cond_false, inc (by omega)]
    exact a6_l1 hn d (i + 1) (by omega)
theorem bg_len {x : Int} (h : Small x) : (bg x).f1.length ≤ 1000000 := Nat.le_trans (small_b h) (by omega)
theorem a6_l0 {g : List (Int × Int)} (hg : ∀ p ∈ g, Small p.2) (hl : g.length ≤ 8192) {n : List Int} (hn : n.length ≤ 8192) : ∀ (d i : Nat), i + d = g.length → L7_2 (g.map b57) n (g.map m71) n (g.length : Int) (i : Int) = some true
  | 0, i, h => by
    rw [L7_2_eq, cF (by omega)]
    exact a6_l1 hn n.length 0 (by omega)
  | d + 1, i, h => by
    obtain ⟨p, hp, hd, hf, r2, r1⟩ := getP (show i < g.length by omega)
    rw [L7_2_eq, cT (by omega), grd_p (by omega), grd_p (by simp; omega), grd_p (by omega), grd_p (by simp; omega), Int.toNat_natCast, r1, r2, inc (by omega)]
    rw [show m71 p = rb p.2 from rfl, show b57 p = bg p.2 from rfl, bnd (rto_b (hg p hp))]
    rw [bnd (EvR.rsame_f (bg p.2) (bg_len (hg p hp))), Bool.not_true, cond_false]
    exact a6_l0 hg hl hn d (i + 1) (by omega)
theorem Pure.AreaSix (x0 : List S38) : (x0.length * 64 ≤ 140737488351232 ∧ x0.length ≤ 9223372036854775807 ∧ ∀ x ∈ x0, wf38 x) → F7 x0 = some true := by
  intro _
  rw [F7_eq, bnd F31_true]
  by_cases c : (x0.length : Int) > 60
  · rw [cT c]; rfl
  · rw [cF c]
    have hl : x0.length ≤ 1000000 := by omega
    rw [bnd (aSix_f hl), bnd (aContours_f hl), bnd (aRight_f hl), bnd (rContours_f hl)]
    cases hm : mayE x0
    · simp [L7_0_eq]
    · obtain ⟨h1, h2⟩ := may_all hm
      have hg := grp_len x0
      have hsm := grp_small h1 h2
      have hlim := six_lim h2
      have hs : Small (sixE x0) := by unfold Small; omega
      have hn : (negE (grpE x0)).length ≤ 8192 := by
        unfold negE; rw [List.length_map]; have := List.length_filter_le (fun p : Int × Int => decide (p.2 < 0)) (grpE x0); omega
      simp only [if_true, bne_self_eq_false, cond_false, Bool.not_true]
      rw [L7_0_eq]
      simp only [bne_self_eq_false, cond_false]
      rw [bnd (rRight_f hl hm), bnd (rSix_f h2 h1), bnd (rto_b hs)]
      rw [bnd (EvR.rsame_f (bg (sixE x0)) (bg_len hs))]
      simp only [List.length_map, bne_self_eq_false, cond_false, Bool.not_true]
      rw [L7_1_eq, List.length_map]
      exact a6_l0 hsm (by omega) hn (grpE x0).length 0 (by omega)
end Go.Proofs.Ytalgppclaolonaa.Ev
