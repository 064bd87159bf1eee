/- The pure law PolyValues: a polynomial's value at a fraction, and what it is without a root, is the reference's. -/
import Derived.Test.YtidiifdiilahdaaDoorEvPolyF
import Derived.Test.YtidiifdiilahdaaDoorPurePolyRests
namespace Go.Proofs.YtidiifdiilahdaaDoor.Ev
open Go Go.Proofs.YtidiifdiilahdaaDoor.EvP
open Go.Proofs.YtidiifdiilahdaaDoor.EvN (i64 maY bmay_f rmay_f)
set_option linter.unusedVariables false
set_option linter.unusedSimpArgs false
theorem may_d {x : S24} (h : maY x = true) : x.f1 ≠ 0 := by
  unfold maY at h
  simp at h
  omega
theorem values_f {P : List S31} {x : S24} (hP : Rps 10 P) (lP : P.length ≤ 13) (h0 : i64 x.f0) (h1 : i64 x.f1) :
    ((F9 P).bind fun y3 => (F10 P x).bind fun y4 => (F11 P x).bind fun y5 => (F12 x).bind fun y6 =>
      bif (!y6) then
        bif ((y4.1.f1.length : Int) == 0) then
          bif (y4.2 == 1) then
            bif ((y5.1.length : Int) == 0) then
              bif (y5.2.1 == 0) then some (y5.2.2 == 1) else some false
            else some false
          else some false
        else some false
      else
        bif (y4.2 != 0) then some false else
        (F15 y3 x).bind fun y7 => (F14 y7).bind fun y8 => (F13 y4.1 y8).bind fun y9 =>
        bif (!y9) then some false else L3_0 x y3 y5.1 y5.2.1 y5.2.2) = some true := by
  have tP := hP.szs.tz
  have nP := tz_len (pv P)
  rw [pv_len] at nP
  have f9 := pfrom_r (hP.le (n := 40000) (by omega)) (by omega)
  have f12 : F12 x = some (maY x) := by rw [F12_eq, bnd (rmay_f h0 h1)]
  have f24 := padd_r (hP.le (by omega)) (Q := []) (fun a ha => by cases ha) (by omega) (by simp)
  rw [show pv ([] : List S31) = [] from rfl, padd_nil] at f24
  cases hm : maY x
  · have f10 : F10 P x = some (⟨false, []⟩, 1) := by rw [F10_eq, bnd (bmay_f h0 h1), hm]; rfl
    have f11 : F11 P x = some ([], (0, 1)) := by rw [F11_eq, bnd f24, bnd (bmay_f h0 h1), hm]; rfl
    rw [bnd f9, bnd f10, bnd f11, bnd f12, hm]
    rfl
  · have hd := may_d hm
    have v1 := value_f (hP.le (n := 10000) (by omega)) (by omega) h0 h1
    have v2 := rvalue_f (x := x) tP (by omega) (by omega) h0 h1
    have hs := sm_sz (D := x.f1) tP h0 h1 (tz (pv P)).length
    have f10 : F10 P x = some (bg (sm (tz (pv P)) x.f0 x.f1 (tz (pv P)).length), 0) := by rw [F10_eq, bnd (bmay_f h0 h1), hm, bnd v1]; rfl
    have hb := (hs.le (n := 40000) (by omega)).b
    rw [bnd f9, bnd f10]
    by_cases c : tz (pv P) = []
    · have f11 : F11 P x = some ([], (0, 13)) := by rw [F11_eq, bnd f24, bnd (bmay_f h0 h1), hm, c]; rfl
      rw [bnd f11, bnd f12, hm, Bool.not_true, cond_false]
      simp only
      rw [show ((0 : Int) != 0) = false from rfl, cond_false, bnd v2, bnd (rto_s (hs.le (by omega))), bnd (EvR.rsame_f _ (show (NumB.cd _).length ≤ _ by omega)), Bool.not_true, cond_false, L3_0_eq, List.length_map, c]
      rfl
    · have n0 : (tz (pv P)).length ≠ 0 := fun q => c (List.eq_nil_of_length_eq_zero q)
      obtain ⟨r1, r2, r3, r4, r5⟩ := wo_f h0 h1 hd 20 (tz (pv P)) 0 10 (by omega) (by omega) (by omega) (tz_tz _) tP (by omega)
      have b0 : (((tz (pv P)).length : Int) == 0) = false := by simpa using c
      have f11 : F11 P x = some ((wo x.f0 x.f1 20 (tz (pv P)) 0).1.map bg, ((wo x.f0 x.f1 20 (tz (pv P)) 0).2 : Int), 0) := by
        rw [F11_eq, bnd f24, bnd (bmay_f h0 h1), hm, List.length_map, b0, Bool.not_true, cond_false, cond_false]
        exact r1
      have f16 : F16 ((tz (pv P)).map rb) x = some ((wo x.f0 x.f1 20 (tz (pv P)) 0).1.map rb, ((wo x.f0 x.f1 20 (tz (pv P)) 0).2 : Int)) := by
        rw [F16_eq]; exact r2
      rw [bnd f11, bnd f12, hm, Bool.not_true, cond_false]
      simp only
      rw [show ((0 : Int) != 0) = false from rfl, cond_false, bnd v2, bnd (rto_s (hs.le (by omega))), bnd (EvR.rsame_f _ (show (NumB.cd _).length ≤ _ by omega)), Bool.not_true, cond_false, L3_0_eq, List.length_map, b0, cond_false, bnd f16]
      simp only
      rw [show ((0 : Int) == 0) = true from rfl, cond_true, beq_self_eq_true, cond_true, bnd (psame_f (r3.le (by omega)) (by omega))]
theorem Pure.PolyValues (x0 : List S31) (x1 : S24) : (x0.length * 32 ≤ 140737488351232 ∧ x0.length ≤ 9223372036854775807 ∧ ∀ x ∈ x0, wf31 x) → wf24 x1 → F3 x0 x1 = some true := by
  rintro ⟨_, _, w0⟩ ⟨w1, w2⟩
  obtain ⟨b, h1, h2⟩ := small_f x0
  rw [F3_eq, bnd F7_true, Bool.not_true, cond_false, bnd h1]
  cases b
  · rfl
  · obtain ⟨l0, s0⟩ := h2 rfl
    rw [Bool.not_true, cond_false]
    exact values_f (small_rps w0 s0) l0 (i64_of w1) (i64_of w2)
end Go.Proofs.YtidiifdiilahdaaDoor.Ev
