/- Is one of degree two at most above 0 everywhere: what the reference answers. Seat r9's numbers. -/
import Derived.Test.YtkpjeihgigmnkaaEvSideD
namespace Go.Proofs.Ytkpjeihgigmnkaa.EvP
open Go Go.Proofs.Ytkpjeihgigmnkaa.Ev Go.Proofs.Ytkpjeihgigmnkaa.NumB
open Go.Proofs.Ytkpjeihgigmnkaa.EvN (i64)
set_option linter.unusedVariables false
set_option linter.unusedSimpArgs false
theorem cnt2z {f g : Int} (hg : g ≠ 0) (hf : 0 < f) (hs : 0 < f + g) : cnt [f, g] = 0 := by
  have : chn [f, g] = [[f, g], [g]] := by unfold chn; rw [pder2 f g hg, chain_c 7 _ (by simp)]
  unfold cnt; rw [this]
  have e1 : (chgs [[f, g], [g]] 0 1 2).1 = (chg (chg (0, 0) (sgn f)) (sgn g)).1 := by simp [chgs, sm, coef]
  have e2 : (chgs [[f, g], [g]] 1 1 2).1 = (chg (chg (0, 0) (sgn (f + g))) (sgn g)).1 := by simp [chgs, sm, coef, Int.add_comm]
  show (chgs [[f, g], [g]] 0 1 2).1 - (chgs [[f, g], [g]] 1 1 2).1 = 0
  rw [e1, e2, show sgn f = 1 by unfold sgn; rw [if_neg (by omega), if_neg (by omega)], show sgn (f + g) = 1 by unfold sgn; rw [if_neg (by omega), if_neg (by omega)]]
  omega
/-- The forms of what is trimmed. -/
theorem shapes (f g h : Int) : (f = 0 ∧ g = 0 ∧ h = 0 ∧ tz [f, g, h] = []) ∨ (f ≠ 0 ∧ g = 0 ∧ h = 0 ∧ tz [f, g, h] = [f]) ∨ (g ≠ 0 ∧ h = 0 ∧ tz [f, g, h] = [f, g]) ∨ (h ≠ 0 ∧ tz [f, g, h] = [f, g, h]) := by
  by_cases hh : h = 0
  · by_cases hg : g = 0
    · by_cases hf : f = 0
      · exact .inl ⟨hf, hg, hh, by simp [tz, hf, hg, hh]⟩
      · exact .inr (.inl ⟨hf, hg, hh, by simp [tz, hf, hg, hh]⟩)
    · exact .inr (.inr (.inl ⟨hg, hh, by simp [tz, hg, hh]⟩))
  · exact .inr (.inr (.inr ⟨hh, tz3 hh⟩))
def AbvP (z : Bool) (f g h : Int) : Prop := ¬ NegP f g h ∧ (z = true ∨ (0 < f ∧ 0 < f + g + h ∧ ¬ (0 < h ∧ g < 0 ∧ 0 < g + 2 * h ∧ 4 * f * h = g * g)))
instance (z : Bool) (f g h : Int) : Decidable (AbvP z f g h) := by unfold AbvP; infer_instance
theorem sgn_nz (x : Int) : (sgn x != 0) = decide (x ≠ 0) := by
  rw [bne, sgn_zero]
  by_cases h : x = 0
  · rw [decide_eq_false (by omega)]; simp [h]
  · rw [decide_eq_true h]; simp [h]
theorem every_f (z : Bool) {f g h : Int} (zf : -4611686018427387904 ≤ f ∧ f ≤ 4611686018427387904) (zg : -4611686018427387904 ≤ g ∧ g ≤ 4611686018427387904) (zh : -4611686018427387904 ≤ h ∧ h ≤ 4611686018427387904) :
    F18 [f, g, h] z = some (decide (AbvP z f g h)) := by
  have sf : Sz 2 f := sz_i64 (by omega) (by omega)
  have sg : Sz 2 g := sz_i64 (by omega) (by omega)
  have sh : Sz 2 h := sz_i64 (by omega) (by omega)
  have hz : Szs 2 (tz [f, g, h]) := (szs3 sf sg sh).tz
  have h1 := rpof_f (l := [f, g, h]) (by simp) (fun x hx => by
    simp only [List.mem_cons, List.not_mem_nil, or_false] at hx
    unfold EvN.i64
    rcases hx with rfl | rfl | rfl <;> omega)
  have hl : (tz [f, g, h]).length ≤ 3 := Nat.le_trans (tz_len _) (by simp)
  have ht := tz_tz [f, g, h]
  rw [F18_eq, bnd h1, List.length_map]
  by_cases hn : tz [f, g, h] = []
  · obtain ⟨rfl, rfl, rfl⟩ : f = 0 ∧ g = 0 ∧ h = 0 := by
      rcases shapes f g h with ⟨a, b, c, _⟩ | ⟨_, _, _, e⟩ | ⟨_, _, e⟩ | ⟨_, e⟩
      · exact ⟨a, b, c⟩
      all_goals rw [e] at hn; cases hn
    rw [hn]
    cases z <;> rfl
  · have n0 : (tz [f, g, h]).length ≠ 0 := fun q => hn (List.eq_nil_of_length_eq_zero q)
    have hd : Sz 3 ((S59.mk 0 1).f1 * (S59.mk 1 1).f1) := (sz_i64 (by decide) (by decide)).le (by omega)
    have u1 := runit_f (e := 2) hz (by omega) hl (a := S59.mk 0 1) (b := S59.mk 1 1) i64_0 i64_1 i64_1 i64_1 hd
    have e1 : pun (tz [f, g, h]) ((S59.mk 0 1).f1 * (S59.mk 1 1).f1) (tz [(S59.mk 0 1).f0 * (S59.mk 1 1).f1, (S59.mk 1 1).f0 * (S59.mk 0 1).f1 - (S59.mk 0 1).f0 * (S59.mk 1 1).f1]) (tz [f, g, h]).length = tz [f, g, h] := by
      rw [← pun_whole hl ht]
      show pun (pun _ _ _ _) 1 (tz [0, 1]) _ = _
      rw [pun_whole hl ht]; exact pun_whole hl ht
    rw [e1] at u1
    have hb := below_f (L := tz [f, g, h]) rfl hn zf zg zh
    have hneg : F29 ((tz [f, g, h]).map rb) (S59.mk 0 1) (S59.mk 1 1) = some (decide (NegP f g h)) := by
      rw [F29_eq, bnd u1, bnd hb]
    rw [ceF (by omega), bnd hneg]
    by_cases hN : NegP f g h
    · rw [cT hN, decide_eq_false (fun q => q.1 hN)]
    rw [cF hN]
    cases z
    · rw [cond_false]
      have v0 : sm (tz [f, g, h]) 0 1 (tz [f, g, h]).length = f := by
        rcases shapes f g h with ⟨a, b, c, e⟩ | ⟨a, b, c, e⟩ | ⟨a, b, e⟩ | ⟨a, e⟩ <;> rw [e] <;> simp [sm, coef]
        omega
      have v1 : sm (tz [f, g, h]) 1 1 (tz [f, g, h]).length = f + g + h := by
        rcases shapes f g h with ⟨a, b, c, e⟩ | ⟨a, b, c, e⟩ | ⟨a, b, e⟩ | ⟨a, e⟩ <;> rw [e] <;> simp [sm, coef] <;> omega
      rw [bnd (rsign_at (x := S59.mk 0 1) hz (by omega) (by omega) i64_0 i64_1), sgn_nz, v0]
      by_cases f0 : f = 0
      · rw [cF (by omega), decide_eq_false (fun q => by rcases q.2 with q | q; cases q; omega)]
      rw [cT f0, bnd (rsign_at (x := S59.mk 1 1) hz (by omega) (by omega) i64_1 i64_1), sgn_nz, v1]
      by_cases s0 : f + g + h = 0
      · rw [cF (by omega), decide_eq_false (fun q => by rcases q.2 with q | q; cases q; omega)]
      rw [cT s0]
      have fp : 0 < f := by have := hN; unfold NegP at this; omega
      have sp : 0 < f + g + h := by have := hN; unfold NegP at this; omega
      have c1 : L64_0 ((tz [f, g, h]).map rb) (S59.mk 0 1) 0 = some ((tz [f, g, h]).map rb, 0) := by
        obtain ⟨a1, _, _, _⟩ := rwo_f (x := S59.mk 0 1) i64_0 i64_1 (by decide) 10 (tz [f, g, h]) 0 2 (by omega) (by omega) (by omega) ht hz (by omega)
        rw [wo_stop (f := 9) (fun q => f0 (v0.symm.trans q.2))] at a1
        exact a1
      have c2 : L64_0 ((tz [f, g, h]).map rb) (S59.mk 1 1) 0 = some ((tz [f, g, h]).map rb, 0) := by
        obtain ⟨a1, _, _, _⟩ := rwo_f (x := S59.mk 1 1) i64_1 i64_1 (by decide) 10 (tz [f, g, h]) 0 2 (by omega) (by omega) (by omega) ht hz (by omega)
        rw [wo_stop (f := 9) (fun q => s0 (v1.symm.trans q.2))] at a1
        exact a1
      obtain ⟨d1, d2, d3⟩ := rchn_f (hz.le (by omega)) hl (by omega) ht
      have g0 := (chgs_3 (chn (tz [f, g, h])) 0 1 (chn (tz [f, g, h])).length).2
      have g1 := (chgs_3 (chn (tz [f, g, h])) 1 1 (chn (tz [f, g, h])).length).2
      have hcl : F47 ((tz [f, g, h]).map rb) (S59.mk 0 1) (S59.mk 1 1) = some ((tz [f, g, h]).map rb) := by
        rw [F47_eq, F64_eq, bnd c1]
        simp only
        rw [F64_eq, bnd c2]
      rw [F31_eq, bnd hcl, bnd d1, bnd (rchanges_f (x := S59.mk 0 1) d2 (by omega) i64_0 i64_1), bnd (rchanges_f (x := S59.mk 1 1) d2 (by omega) i64_1 i64_1)]
      simp only [Option.bind_some]
      rw [wr64 (by omega) (by omega)]
      show some (cnt (tz [f, g, h]) == 0) = _
      have hc : cnt (tz [f, g, h]) = 0 ↔ ¬ (0 < h ∧ g < 0 ∧ 0 < g + 2 * h ∧ 4 * f * h = g * g) := by
        rcases shapes f g h with ⟨a, b, c, e⟩ | ⟨a, b, c, e⟩ | ⟨a, b, e⟩ | ⟨a, e⟩
        · exact absurd e hn
        · rw [e, cnt1]; exact ⟨fun _ q => by omega, fun _ => rfl⟩
        · rw [e, cnt2z a fp (by omega)]; exact ⟨fun _ q => by omega, fun _ => rfl⟩
        · rw [e]; exact cnt0 a fp sp hN
      by_cases hq : 0 < h ∧ g < 0 ∧ 0 < g + 2 * h ∧ 4 * f * h = g * g
      · rw [beq_eq_false_iff_ne.mpr (fun q => hc.mp q hq), decide_eq_false (fun q => by rcases q.2 with k | k; cases k; exact k.2.2 hq)]
      · rw [beq_iff_eq.mpr (hc.mpr hq), decide_eq_true (show AbvP false f g h from ⟨hN, .inr ⟨fp, sp, hq⟩⟩)]
    · rw [cond_true, decide_eq_true (show AbvP true f g h from ⟨hN, .inl rfl⟩)]
end Go.Proofs.Ytkpjeihgigmnkaa.EvP
