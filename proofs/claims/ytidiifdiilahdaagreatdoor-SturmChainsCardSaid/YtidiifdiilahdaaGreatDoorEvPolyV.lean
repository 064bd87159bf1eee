/- A polynomial's value at a ratio: both sides go the same way. -/
import Derived.Test.YtidiifdiilahdaaGreatDoorEvPolyD
import Derived.Test.YtidiifdiilahdaaGreatDoorEvMay
namespace Go.Proofs.YtidiifdiilahdaaGreatDoor.EvP
open Go Go.Proofs.YtidiifdiilahdaaGreatDoor.Ev Go.Proofs.YtidiifdiilahdaaGreatDoor.NumB
open Go.Proofs.YtidiifdiilahdaaGreatDoor.EvN (maY)
set_option linter.unusedVariables false
set_option linter.unusedSimpArgs false
theorem i64.sz {x : Int} (h : EvN.i64 x) : Sz 2 x := sz_i64 h.1 h.2
theorem sz_pow {d : Int} (h : EvN.i64 d) : ∀ k : Nat, Sz (2 * k + 1) (d ^ k)
  | 0 => sz_i64 (x := 1) (by omega) (by omega) |> fun q => .of (by simp)
  | k + 1 => by rw [Int.pow_succ]; exact (sz_mul (sz_pow h k) (i64.sz h)).le (by omega)
/-- The value: what is summed up after k coefficients from the highest. -/
def sm (L : List Int) (N D : Int) : Nat → Int
  | 0 => 0
  | k + 1 => sm L N D k * N + coef L (L.length - 1 - k) * D ^ k
theorem sm_sz {L : List Int} {N D : Int} {e : Nat} (hL : Szs e L) (hN : EvN.i64 N) (hD : EvN.i64 D) : ∀ k : Nat, Sz (e + 3 * k + 1) (sm L N D k)
  | 0 => sz_zero _
  | k + 1 => by
    have h1 := sz_mul (sm_sz hL hN hD k) (i64.sz hN)
    have h2 := sz_mul (hL.rd (L.length - 1 - k)) (sz_pow hD k)
    exact (sz_add h1 h2).le (by omega)
theorem value_f {P : List S60} {x : S24} (hP : Rps 15000 P) (lP : P.length ≤ 1000) (h0 : EvN.i64 x.f0) (h1 : EvN.i64 x.f1) : F61 P x = some (bg (sm (tz (pv P)) x.f0 x.f1 (tz (pv P)).length)) := by
  have h0' := h0; have h1' := h1
  unfold EvN.i64 at h0' h1'
  have nP := tz_len (pv P)
  rw [pv_len] at nP
  have lT : (P.take (tz (pv P)).length).length = (tz (pv P)).length := by rw [List.length_take]; omega
  have hT : Rps 15000 (P.take (tz (pv P)).length) := hP.take _
  have tP := hP.szs.tz
  have eT := pv_take P
  have h := loop_st (fun (s : Int × Int) i => L61_0 (P.take (tz (pv P)).length) ⟨false, []⟩ (bg s.1) (bg s.2) (bg x.f0) (bg x.f1) (((tz (pv P)).length : Int) - 1 - i)) (fun k => (sm (tz (pv P)) x.f0 x.f1 k, x.f1 ^ k)) (tz (pv P)).length fun k hk => by
    show L61_0 _ _ (bg (sm _ _ _ k)) (bg (x.f1 ^ k)) _ _ _ = L61_0 _ _ (bg (sm _ _ _ (k + 1))) (bg (x.f1 ^ (k + 1))) _ _ _
    have s1 := sm_sz tP h0 h1 k
    have s2 := sz_pow h1 k
    have i0 : ((tz (pv P)).length : Int) - 1 - (k : Int) = (((tz (pv P)).length - 1 - k : Nat) : Int) := by omega
    have z1 : Sz 20000 (sm (tz (pv P)) x.f0 x.f1 k * x.f0) := (sz_mul s1 (i64.sz h0)).le (by omega)
    have z2' : Sz 20000 (coef (tz (pv P)) ((tz (pv P)).length - 1 - k) * x.f1 ^ k) := (sz_mul (tP.rd _) s2).le (by omega)
    rw [i0, L61_0_eq, cT (by omega), bnd (bmul_s (s1.le (by omega)) ((i64.sz h0).le (by omega))), grd_p (by omega), grd_p (by omega), Int.toNat_natCast, bnd (bmul_r ((hT.rd _).le (by omega)) (s2.rp.le (by omega))), pv_rd, eT, bv_bg, bnd (badd_s (z1.le (by omega)) (z2'.le (by omega))), bnd (bmul_s (s2.le (by omega)) ((i64.sz h1).le (by omega)))]
    rw [show wr .i64 ((((tz (pv P)).length - 1 - k : Nat) : Int) - 1) = ((tz (pv P)).length : Int) - 1 - ((k + 1 : Nat) : Int) from (w64 (by omega) (by omega)).trans (by omega), ← Int.pow_succ]
    rfl
  rw [F61_eq, bnd (ptrim_r (hP.le (by omega)) (by omega)), bnd (bof_f (by omega) (by omega)), bnd (bof_f (by omega) (by omega)), bnd (bof_f (by omega) (by omega)), lT, show wr .i64 (((tz (pv P)).length : Int) - 1) = ((tz (pv P)).length : Int) - 1 - 0 from (w64 (by omega) (by omega)).trans (by omega)]
  have e0 : L61_0 (P.take (tz (pv P)).length) ⟨false, []⟩ ⟨false, []⟩ (bg 1) (bg x.f0) (bg x.f1) (((tz (pv P)).length : Int) - 1 - 0) = L61_0 (P.take (tz (pv P)).length) ⟨false, []⟩ (bg (sm (tz (pv P)) x.f0 x.f1 0)) (bg (x.f1 ^ 0)) (bg x.f0) (bg x.f1) (((tz (pv P)).length : Int) - 1 - 0) := by
    rw [Int.pow_zero]; show _ = L61_0 _ _ (bg 0) _ _ _ _; rw [bg_zero]
  refine e0.trans (h.trans ?_)
  show L61_0 _ _ _ _ _ _ _ = _
  rw [L61_0_eq, cF (by omega)]
theorem rvalue_f {L : List Int} {x : S24} {e : Nat} (hL : Szs e L) (he : e ≤ 15000) (lL : L.length ≤ 1000) (h0 : EvN.i64 x.f0) (h1 : EvN.i64 x.f1) : F42 (L.map rb) x = some (rb (sm L x.f0 x.f1 L.length)) := by
  have h0' := h0; have h1' := h1
  unfold EvN.i64 at h0' h1'
  have h := loop_st (fun (s : Int × Int) i => L42_0 (L.map rb) x ⟨false, []⟩ (rb s.1) (rb s.2) ((L.length : Int) - 1 - i)) (fun k => (sm L x.f0 x.f1 k, x.f1 ^ k)) L.length fun k hk => by
    show L42_0 _ _ _ (rb (sm _ _ _ k)) (rb (x.f1 ^ k)) _ = L42_0 _ _ _ (rb (sm _ _ _ (k + 1))) (rb (x.f1 ^ (k + 1))) _
    have s1 := sm_sz hL h0 h1 k
    have s2 := sz_pow h1 k
    have i0 : (L.length : Int) - 1 - (k : Int) = ((L.length - 1 - k : Nat) : Int) := by omega
    have z1 : Sz 20000 (sm L x.f0 x.f1 k * x.f0) := (sz_mul s1 (i64.sz h0)).le (by omega)
    have z2' : Sz 20000 (coef L (L.length - 1 - k) * x.f1 ^ k) := (sz_mul (hL.rd _) s2).le (by omega)
    rw [i0, L42_0_eq, cT (by omega), bnd (EvR.rof_f (by omega) (by omega)), bnd (rmul_s (s1.le (by omega)) ((i64.sz h0).le (by omega))), grd_p (by omega), grd_p (by rw [List.length_map]; omega), Int.toNat_natCast, map_rd rb z2 rb_zero, bnd (rmul_s ((hL.rd _).le (by omega)) (s2.le (by omega))), bnd (radd_s (z1.le (by omega)) (z2'.le (by omega))), bnd (EvR.rof_f (by omega) (by omega)), bnd (rmul_s (s2.le (by omega)) ((i64.sz h1).le (by omega)))]
    rw [show wr .i64 (((L.length - 1 - k : Nat) : Int) - 1) = (L.length : Int) - 1 - ((k + 1 : Nat) : Int) from (w64 (by omega) (by omega)).trans (by omega), ← Int.pow_succ]
    rfl
  rw [F42_eq, bnd (EvR.rof_f (by omega) (by omega)), List.length_map, show wr .i64 ((L.length : Int) - 1) = (L.length : Int) - 1 - 0 from (w64 (by omega) (by omega)).trans (by omega)]
  have e0 : L42_0 (L.map rb) x ⟨false, []⟩ ⟨false, []⟩ (rb 1) ((L.length : Int) - 1 - 0) = L42_0 (L.map rb) x ⟨false, []⟩ (rb (sm L x.f0 x.f1 0)) (rb (x.f1 ^ 0)) ((L.length : Int) - 1 - 0) := by
    rw [Int.pow_zero]; show _ = L42_0 _ _ _ (rb 0) _ _; rw [rb_zero]
  refine e0.trans (h.trans ?_)
  show L42_0 _ _ _ _ _ _ = _
  rw [L42_0_eq, cF (by omega)]
end Go.Proofs.YtidiifdiilahdaaGreatDoor.EvP
