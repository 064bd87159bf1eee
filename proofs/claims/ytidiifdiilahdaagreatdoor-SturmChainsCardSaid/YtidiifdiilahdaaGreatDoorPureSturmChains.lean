/- The pure law SturmChains: a polynomial's chain, and how often its signs change at a number, is the reference's. -/
import Derived.Test.YtidiifdiilahdaaGreatDoorEvSturm
import Derived.Test.YtidiifdiilahdaaGreatDoorEvV
import Derived.Test.YtidiifdiilahdaaGreatDoorEvW
namespace Go.Proofs.YtidiifdiilahdaaGreatDoor.Ev
open Go Go.Proofs.YtidiifdiilahdaaGreatDoor.EvP
open Go.Proofs.YtidiifdiilahdaaGreatDoor.EvN (maY bmay_f rmay_f)
set_option linter.unusedVariables false
set_option linter.unusedSimpArgs false
theorem small_l {P : List S60} (hl : P.length ≤ 8) : ∀ (d i : Nat), i + d = P.length → ∃ b, L7_0 P (P.length : Int) (i : Int) = some b ∧ (b = true → ∀ a ∈ P.drop i, a.f1.length ≤ 4)
  | 0, i, h => ⟨true, by rw [L7_0_eq, cF (by omega)], fun _ a ha => by rw [List.drop_eq_nil_of_le (by omega)] at ha; cases ha⟩
  | d + 1, i, h => by
    obtain ⟨b, h1, h2⟩ := small_l hl d (i + 1) (by omega)
    rw [L7_0_eq, cT (by omega), grd_p (by omega), grd_p (by omega), Int.toNat_natCast, EvP.inc (by omega)]
    by_cases c : ((P.getD i z0).f1.length : Int) > 4
    · exact ⟨false, by rw [cT c], fun q => by cases q⟩
    · refine ⟨b, by rw [cF c]; exact h1, fun q a ha => ?_⟩
      rw [drop_rd P z0 i (by omega)] at ha
      rcases List.mem_cons.1 ha with e | e
      · subst e; omega
      · exact h2 q a e
theorem small_f (P : List S60) : ∃ b, F7 P = some b ∧ (b = true → P.length ≤ 8 ∧ ∀ a ∈ P, a.f1.length ≤ 4) := by
  by_cases c : (P.length : Int) > 8
  · exact ⟨false, by rw [F7_eq, cT c], fun q => by cases q⟩
  · obtain ⟨b, h1, h2⟩ := small_l (P := P) (by omega) P.length 0 (by omega)
    exact ⟨b, by rw [F7_eq, cF c]; exact h1, fun q => ⟨by omega, by have := h2 q; rwa [List.drop_zero] at this⟩⟩
theorem small_rps {P : List S60} (hw : ∀ x ∈ P, wf60 x) (h : ∀ a ∈ P, a.f1.length ≤ 4) : Rps 4 P := fun a ha =>
  ⟨fun x hx => u32_of ((hw a ha).2.2.2 x hx), h a ha⟩
theorem same_l {C : List (List Int)} {x : S24} (hC : ∀ L ∈ C, Szs 15000 L ∧ L.length ≤ 8 ∧ tz L = L) (lC : C.length ≤ 100) {b : Bool} (hb : L3_1 x (C.map fun y => y.map bg) (C.map fun y => y.map rb) (C.length : Int) (C.length : Int) = some b) :
    L3_1 x (C.map fun y => y.map bg) (C.map fun y => y.map rb) (C.length : Int) 0 = some b := by
  have hel : ∀ i, Szs 15000 (C.getD i []) ∧ (C.getD i []).length ≤ 8 := fun i => by
    by_cases c : i < C.length
    · have : C.getD i [] = C[i] := by simp [c]
      rw [this]; exact ⟨(hC _ (List.getElem_mem _)).1, (hC _ (List.getElem_mem _)).2.1⟩
    · have : C.getD i [] = [] := by simp [List.getD, List.getElem?_eq_none (show C.length ≤ i by omega)]
      rw [this]; exact ⟨fun x hx => (by cases hx), Nat.zero_le _⟩
  have hs := loop_st (fun (_ : Unit) i => L3_1 x (C.map fun y => y.map bg) (C.map fun y => y.map rb) (C.length : Int) i) (fun _ => ()) C.length fun i hi => by
    show L3_1 x _ _ _ (i : Int) = L3_1 x _ _ _ _
    obtain ⟨e1, e2⟩ := hel i
    rw [L3_1_eq]
    simp only [List.length_map]
    rw [cT (by omega), grd_p (by omega), grd_p (by omega), grd_p (by omega), grd_p (by omega), Int.toNat_natCast, getD_map _ rfl, getD_map _ rfl, bnd (psame_f (e1.le (by omega)) (by omega)), Bool.not_true, cond_false, EvP.inc (by omega)]
  exact hs.trans hb
theorem chains_f {P : List S60} {x : S24} (hP : Rps 4 P) (lP : P.length ≤ 8) (h0 : EvN.i64 x.f0) (h1 : EvN.i64 x.f1) :
    ((F8 P).bind fun y3 => (F9 P).bind fun y4 =>
      bif ((y3.length : Int) == 0) then
        bif ((y4.1.length : Int) == 0) then some (y4.2 == 13) else some false
      else
      (F10 y3).bind fun y5 =>
      bif (y4.2 != 0) then some false else
      bif ((y4.1.length : Int) != (y5.length : Int)) then some false else
      L3_0 x y4.1 y5) = some true := by
  have tP := hP.szs.tz
  have nP := tz_len (pv P)
  rw [pv_len] at nP
  have tt := tz_tz (pv P)
  have f8 := pfrom_r (hP.le (n := 40000) (by omega)) (by omega)
  have f29 := padd_r (hP.le (by omega)) (Q := []) (fun a ha => by cases ha) (by omega) (by simp)
  rw [show pv ([] : List S60) = [] from rfl, padd_nil] at f29
  generalize tz (pv P) = L at *
  rw [bnd f8]
  by_cases c : L = []
  · have f9 : F9 P = some ([], 13) := by rw [F9_eq, bnd f29, c]; rfl
    rw [bnd f9, c]; rfl
  · have n0 : L.length ≠ 0 := fun q => c (List.eq_nil_of_length_eq_zero q)
    have b0 : ((L.length : Int) == 0) = false := by simpa using c
    have p0 := W_pos L.length
    have w6 : 6 ≤ W L.length := by unfold W; have := Nat.pow_pos (n := 8 - L.length) (show 0 < 3 by omega); omega
    have zD : Szs 7 (pder L) := pol_szs fun i hi => (sz_mul (tP.rd _) (sz_i64 (x := ((i + 1 : Nat) : Int)) (by omega) (by omega))).le (by omega)
    have zD2 : Szs 5 (pder L) := pol_szs fun i hi => by
      have h2 : Sz 1 (((i + 1 : Nat) : Int)) := .of (by rw [Int.natAbs_natCast, Int.pow_one]; omega)
      exact (sz_mul (tP.rd _) h2).le (by omega)
    have tD : tz (pder L) = pder L := tz_pol _ _
    have lD : (pder L).length ≤ L.length - 1 := pol_len _ _
    have d1 := pder_r (P := L.map bg) (tP.rps.le (by omega)) (by rw [List.length_map]; omega)
    rw [pv_bg] at d1
    have d2 := rpder_s (tP.le (n := 30000) (by omega)) (by omega)
    obtain ⟨r1, r2, r3, r4⟩ := chain_f 20 L (pder L) [L] (by omega) (by simp) (by omega) (by omega) tt tD (tP.le (by omega)) (zD2.le (by omega))
    have hC : ∀ y ∈ [L] ++ chain 20 L (pder L), Szs 15000 y ∧ y.length ≤ 8 ∧ tz y = y := fun y hy => by
      rcases List.mem_cons.1 hy with q | q
      · subst q; exact ⟨tP.le (by omega), by omega, tt⟩
      · exact r3 y q
    have lC : ([L] ++ chain 20 L (pder L)).length ≤ 100 := by rw [List.length_append]; simp only [List.length_singleton]; omega
    have f9 : F9 P = some (([L] ++ chain 20 L (pder L)).map fun y => y.map bg, 0) := by
      rw [F9_eq, bnd f29, List.length_map, b0, cond_false, cF (by omega), bnd d1]
      exact r1
    have f10 : F10 (L.map rb) = some (([L] ++ chain 20 L (pder L)).map fun y => y.map rb) := by
      rw [F10_eq, bnd d2]
      exact r2
    rw [bnd f9]
    simp only [List.length_map]
    rw [b0, cond_false, bnd f10, show ((0 : Int) != 0) = false from rfl, cond_false]
    simp only [List.length_map]
    rw [bne_self_eq_false, cond_false, L3_0_eq, List.length_map]
    generalize [L] ++ chain 20 L (pder L) = C at *
    refine same_l hC lC ?_
    have f13 : F13 x = some (maY x) := by rw [F13_eq, bnd (rmay_f h0 h1)]
    rw [L3_1_eq, cF (by omega)]
    cases hm : maY x
    · have f12 : F12 (C.map fun y => y.map bg) x = some (0, 1) := by rw [F12_eq, bnd (bmay_f h0 h1), hm]; rfl
      rw [bnd f12, bnd f13, hm]; rfl
    · obtain ⟨c1, c2⟩ := changes_f hC lC h0 h1 hm
      rw [bnd c1, bnd f13, hm, Bool.not_true, cond_false, bnd c2]
      simp only
      rw [beq_self_eq_true, cond_true]; rfl
theorem Pure.SturmChains (x0 : List S60) (x1 : S24) : (x0.length * 32 ≤ 140737488351232 ∧ x0.length ≤ 9223372036854775807 ∧ ∀ x ∈ x0, wf60 x) → wf24 x1 → F3 x0 x1 = some true := by
  rintro ⟨_, _, w0⟩ ⟨w1, w2⟩
  obtain ⟨b, h1, h2⟩ := small_f x0
  rw [F3_eq, bnd F6_true, Bool.not_true, cond_false, bnd h1]
  cases b
  · rfl
  · obtain ⟨l0, s0⟩ := h2 rfl
    rw [Bool.not_true, cond_false]
    exact chains_f (small_rps w0 s0) l0 (i64_of w1) (i64_of w2)
end Go.Proofs.YtidiifdiilahdaaGreatDoor.Ev
