-- Printed by a program of this claim. Not trusted: Lean checks it.
import Derived.Test.YtjjnkadfoepflaaXWidex0
import Derived.Test.YtjjnkadfoepflaaXWidex5
namespace Go.Proofs.Ytjjnkadfoepflaa.XWide
open Go.RowKit Go.Proofs.YtjjnkadfoepflaaW.PrintWords Go.Proofs.YtjjnkadfoepflaaW.PrintLast Go.Proofs.YtjjnkadfoepflaaW.PrintMore
attribute [local go_sem] max2_int min2_int max_two min_two max_three min_three max_four min_four   -- for this text's walks alone
set_option linter.unusedVariables false
set_option linter.unusedSimpArgs false
open XOpen

/-! ### pochoirref01_Divide: function 28 -/
def pochoirref01_Divide.l0 : Nat → List Int → List Int → List Int → List Int → Int → Option (List Int × List Int)
 | 0, _, _, _, _, _ => none
 | k + 1, x0, x1, x6, x7, x8 => if x8 ≥ 0 then ((pochoirref01_Plus.f k x7 x7).bind fun t170 => ((pochoirref01_bit.f x0 x8).bind fun t173 => ((pochoirref01_Plus.f k t170 (([t173] : List Int))).bind fun t177 => ((pochoirref01_Less.f k t177 x1).bind fun t180 => (if t180 ≥ 0 then ((pochoirref01_Minus.f k t177 x1).bind fun t181 => (if 0 ≤ (wrap64 (Int.tdiv x8 16)) then (if (wrap64 (Int.tdiv x8 16)) < (x6.length : Int) then (if 0 ≤ (Int.tmod x8 16) then (pochoirref01_Divide.l0 k x0 x1 (x6.set ((wrap64 (Int.tdiv x8 16)) : Int).toNat (IntKind.u64.wrap ((rd x6 (wrap64 (Int.tdiv x8 16))) + (shl .u64 1 (Int.tmod x8 16))))) t181 (wrap64 (x8 - 1))) else (none)) else (none)) else (none))) else (pochoirref01_Divide.l0 k x0 x1 x6 t177 (wrap64 (x8 - 1)))))))) else (some (x6, x7))
def pochoirref01_Divide.f (k : Nat) (l0 : List Int) (l1 : List Int) : Option (List Int × List Int) := if 0 ≤ (l0.length : Int) then (if ((l0.length : Int) : Int).toNat ≤ 35184372088832 then (pochoirref01_Divide.l0 k l0 l1 (List.replicate ((l0.length : Int) : Int).toNat 0) ([] : List Int) (wrap64 ((wrap64 (16 * (l0.length : Int))) - 1))) else (none)) else (none)
theorem pochoirref01_Divide.mono_l : ∀ k, (∀ y0 y1 y2 y3 y4, LeO (pochoirref01_Divide.l0 k y0 y1 y2 y3 y4) (pochoirref01_Divide.l0 (k + 1) y0 y1 y2 y3 y4))
 | 0 => fun _ _ _ _ _ r h => by simp [pochoirref01_Divide.l0] at h
 | k + 1 => by
  have ih0 := pochoirref01_Divide.mono_l k
  ·intro y0 y1 y2 y3 y4
   unfold pochoirref01_Divide.l0
   repeat' first
   | (with_reducible exact ih0 _ _ _ _ _)
   | (with_reducible exact pochoirref01_Less.mono _ _ _)
   | (with_reducible exact pochoirref01_Minus.mono _ _ _)
   | (with_reducible exact pochoirref01_Plus.mono _ _ _)
   | (with_reducible exact LeO.refl _)
   | (with_reducible exact LeO.none _)
   | (with_reducible refine LeO.ite ?_ ?_)
   | (with_reducible refine LeO.bind ?_ (fun _ => ?_))
   | exact ih0 _ _ _ _ _
   | exact pochoirref01_Less.mono _ _ _
   | exact pochoirref01_Minus.mono _ _ _
   | exact pochoirref01_Plus.mono _ _ _
   | exact LeO.none _
   | refine LeO.ite ?_ ?_
   | refine LeO.bind ?_ (fun _ => ?_)
theorem pochoirref01_Divide.mono : ∀ a0 a1 k, LeO (pochoirref01_Divide.f k a0 a1) (pochoirref01_Divide.f (k + 1) a0 a1) := by
 intro a0 a1 k
 have ih0 := pochoirref01_Divide.mono_l k
 unfold pochoirref01_Divide.f
 repeat' first
   | (with_reducible exact ih0 _ _ _ _ _)
   | (with_reducible exact pochoirref01_Less.mono _ _ _)
   | (with_reducible exact pochoirref01_Minus.mono _ _ _)
   | (with_reducible exact pochoirref01_Plus.mono _ _ _)
   | (with_reducible exact LeO.refl _)
   | (with_reducible exact LeO.none _)
   | (with_reducible refine LeO.ite ?_ ?_)
   | (with_reducible refine LeO.bind ?_ (fun _ => ?_))
   | exact ih0 _ _ _ _ _
   | exact pochoirref01_Less.mono _ _ _
   | exact pochoirref01_Minus.mono _ _ _
   | exact pochoirref01_Plus.mono _ _ _
   | exact LeO.none _
   | refine LeO.ite ?_ ?_
   | refine LeO.bind ?_ (fun _ => ?_)
def pochoirref01_Divide.T9 : Bool × List (List Nat × List Nat) := (true, [([], []), ([], []), ([1], [1]), ([], []), ([], []), ([4], [4]), ([3, 5], [3, 5]), ([6], [6]), ([], []), ([8], [8]), ([9], [9]), ([7, 10], [7, 10]), ([0, 2, 0, 1, 2, 3, 4, 5, 6, 7, 8, 9, 10, 11], [0, 2]), ([12, 11, 0, 1, 2, 3, 4, 5, 6, 7, 8, 9, 10, 11], [11, 12])])
def pochoirref01_Divide.B9 : List Nat := [0, 0, 2, 0, 0, 16, 56, 120, 0, 256, 768, 2040, 4095, 8191]
theorem pochoirref01_Divide.tab9 : rtab .any (opsOf Try.f28 9) = pochoirref01_Divide.T9 := by kernel_rfl
theorem pochoirref01_Divide.bits9 : waitsOk pochoirref01_Divide.T9.2 pochoirref01_Divide.B9 = true := by kernel_rfl
set_option maxHeartbeats 8000000 in
set_option maxRecDepth 100000 in
theorem pochoirref01_Divide.calls (k : Nat) (A0 : Option Addr) (c0 : Nat) (l0 : List Int) (A1 : Option Addr) (c1 : Nat) (l1 : List Int) (r1 : List Int) (r2 : List Int) (w : World) (hr0 : Kd.C (Kd.int .u64) w A0 l0.length l0) (hc0 : l0.length ≤ c0) (hr1 : Kd.C (Kd.int .u64) w A1 l1.length l1) (hc1 : l1.length ≤ c1) (h : pochoirref01_Divide.f k l0 l1 = some (r1, r2)) :
  Calls Try.prog 28 #[.slice A0 l0.length c0, .slice A1 l1.length c1] w fun e w' => ∃ v0_ v1_ : Value, e = .returned (.tuple #[v0_, v1_]) ∧ Kd.R (Kd.int .u64) 22 w' w.heap.size (fun k_ => some k_ ≠ (v1_ : Value).ownBlock) v0_ r1 ∧ Kd.R (Kd.int .u64) 22 w' w.heap.size (fun k_ => some k_ ≠ (v0_ : Value).ownBlock) v1_ r2 ∧ Below w.heap.size w w' := by
 have HR0 := Aside0.mk hr0
 have HC0 := Aside0.mk hc0
 clear hr0 hc0
 have HR1 := Aside0.mk hr1
 have HC1 := Aside0.mk hc1
 clear hr1 hc1
 have HB := Aside0.mk (Below.refl w.heap.size w)
 have H : (if 0 ≤ (l0.length : Int) then (if ((l0.length : Int) : Int).toNat ≤ 35184372088832 then (pochoirref01_Divide.l0 k l0 l1 (List.replicate ((l0.length : Int) : Int).toNat 0) ([] : List Int) (wrap64 ((wrap64 (16 * (l0.length : Int))) - 1))) else (none)) else (none)) = some (r1, r2) := h
 clear h
 by_cases c3 : 0 ≤ (l0.length : Int)
 ·rw [if_pos c3] at H
  have c3b0 := eq_true c3
  have c3b1 : decide (0 ≤ (l0.length : Int)) = true := decide_eq_true c3
  clear c3
  by_cases c4 : ((l0.length : Int) : Int).toNat ≤ 35184372088832
  ·rw [if_pos c4] at H
   have c4b0 := eq_true c4
   have c4b1 : decide (((l0.length : Int) : Int).toNat ≤ 35184372088832) = true := decide_eq_true c4
   clear c4
   obtain ⟨y167, hy167⟩ : ∃ y_ : List Int, y_ = (List.replicate ((l0.length : Int) : Int).toNat 0) := ⟨_, rfl⟩
   replace H : (pochoirref01_Divide.l0 k l0 l1 y167 ([] : List Int) (wrap64 ((wrap64 (16 * (l0.length : Int))) - 1))) = some (r1, r2) := by first | (rw [hy167]; with_reducible exact H) | (have H2_ := (Option.bind_some _ _).symm.trans H; rw [hy167]; with_reducible exact H2_) | (have H2_ := (Option.bind_some _ _).symm.trans H; with_reducible exact H2_) | with_reducible exact H | (rw [hy167]; exact H) | exact H
   have Ny167 := Aside0.mk hy167
   clear hy167
   have H' := Aside0.mk H
   clear H
   go_enter Try.func28, Try.ntmps28
   go_wp2_with (first | ((with_reducible refine gate_dst (N := 11) rfl ?_); refine Kd.R_make (Kd.int .u64) _ 22 rfl (N := 11) rfl 48 _ _ rfl (l0.length : Int) rfl rfl Try.underlying48 (.int .u64 0) 8 info22 rfl (by decide) (by omega) 0 (ok := fun _ => True) (okp := fun _ => True) rfl (fun _ hk => hk) trivial (of_decide_eq_true (by first | (with_reducible assumption) | assumption)) (Nat.le_trans (Nat.mul_le_mul_right _ (of_decide_eq_true (by first | (with_reducible assumption) | assumption) : (l0.length : Int).toNat ≤ 35184372088832)) (by omega)) (Below.refl _ _) (Nat.le_refl _) ?_; intro v168 w5 ho6 hb hg_ hnew_; clear hg_ hnew_; (first | rw [← Ny167.out] at ho6 | (simp only [Int.reduceToNat] at ho6; rw [← Ny167.out] at ho6)); have HO169 := Aside0.mk (Kd.R_lower ho6 (below_size (bl0 HB.out))); replace HB := Aside0.mk (below_step (bl0 HB.out) hb); clear hb ho6))
   go_loopg [7, 8] k (fun kq v7 v8 w' => ∃ (x6_1 : List Int) (x7_1 : List Int) (x8_1 : Int), v8 = .int .i64 x8_1 ∧ Aside0 (pochoirref01_Divide.l0 kq l0 l1 x6_1 x7_1 x8_1 = some (r1, r2)) ∧ Aside0 (kq ≤ k) ∧ Aside0 (Kd.R (Kd.int .u64) 22 w' w.heap.size (fun k_ => some k_ ≠ (v7 : Value).ownBlock) v168 x6_1) ∧ Aside0 (Kd.R (Kd.int .u64) 22 w' w.heap.size (fun k_ => some k_ ≠ (v168 : Value).ownBlock) v7 x7_1) ∧ Aside0 (Below w.heap.size w w'))
   case atStart => exact ⟨(y167), (([] : List Int)), (wrap64 ((wrap64 (16 * (l0.length : Int))) - 1)), fr, H', ⟨Nat.le_refl _⟩, ⟨by (with_reducible repeat (first | apply Kd.R_alloc | apply Kd.R_drewN | apply Kd.R_drew)); exact Kd.R_mono HO169.out (fun _ hk => (by simp [Value.ownBlock]))⟩, ⟨by first | exact Kd.R_nil _ _ _ _ _ | exact Kd.N_nil _ _ _ _ _ | exact Kd.V_nil _ _ _ _ _ | exact Kd.Q_nil _ _ _ _ _ | exact Kd.S_nil _ _ _ _ _⟩, ⟨bl0 HB.out⟩⟩
   case round =>
    clear H'
    try clear c1
    try clear c2
    try clear p2
    try clear c3
    try clear c3b0
    try clear c3b1
    try clear c4
    try clear c4b0
    try clear c4b1
    try clear p6
    obtain ⟨x6_1, x7_1, x8_1, rfl, HA, HK1, HO_6, HO_7, HB⟩ := hrel
    cases gk with
    | zero => exact absurd HA.out (by simp [pochoirref01_Divide.l0])
    | succ k1 =>
     have H := HA.out
     clear HA
     simp only [pochoirref01_Divide.l0] at H
     by_cases c7 : x8_1 ≥ 0
     ·rw [if_pos c7] at H
      have c7b0 : decide (0 ≤ x8_1) = true := decide_eq_true c7
      clear c7
      replace H := Option.bind_eq_some_iff.mp H
      obtain ⟨t170, A80, H⟩ := H
      replace H : ((pochoirref01_bit.f l0 x8_1).bind fun t173 => ((pochoirref01_Plus.f k1 t170 (([t173] : List Int))).bind fun t177 => ((pochoirref01_Less.f k1 t177 l1).bind fun t180 => (if t180 ≥ 0 then ((pochoirref01_Minus.f k1 t177 l1).bind fun t181 => (if 0 ≤ (wrap64 (Int.tdiv x8_1 16)) then (if (wrap64 (Int.tdiv x8_1 16)) < (x6_1.length : Int) then (if 0 ≤ (Int.tmod x8_1 16) then (pochoirref01_Divide.l0 k1 l0 l1 (x6_1.set ((wrap64 (Int.tdiv x8_1 16)) : Int).toNat (IntKind.u64.wrap ((rd x6_1 (wrap64 (Int.tdiv x8_1 16))) + (shl .u64 1 (Int.tmod x8_1 16))))) t181 (wrap64 (x8_1 - 1))) else (none)) else (none)) else (none))) else (pochoirref01_Divide.l0 k1 l0 l1 x6_1 t177 (wrap64 (x8_1 - 1))))))) = some (r1, r2) := H
      have A8 := Aside0.mk A80
      clear A80
      replace H := Option.bind_eq_some_iff.mp H
      obtain ⟨t173, A90, H⟩ := H
      replace H : ((pochoirref01_Plus.f k1 t170 (([t173] : List Int))).bind fun t177 => ((pochoirref01_Less.f k1 t177 l1).bind fun t180 => (if t180 ≥ 0 then ((pochoirref01_Minus.f k1 t177 l1).bind fun t181 => (if 0 ≤ (wrap64 (Int.tdiv x8_1 16)) then (if (wrap64 (Int.tdiv x8_1 16)) < (x6_1.length : Int) then (if 0 ≤ (Int.tmod x8_1 16) then (pochoirref01_Divide.l0 k1 l0 l1 (x6_1.set ((wrap64 (Int.tdiv x8_1 16)) : Int).toNat (IntKind.u64.wrap ((rd x6_1 (wrap64 (Int.tdiv x8_1 16))) + (shl .u64 1 (Int.tmod x8_1 16))))) t181 (wrap64 (x8_1 - 1))) else (none)) else (none)) else (none))) else (pochoirref01_Divide.l0 k1 l0 l1 x6_1 t177 (wrap64 (x8_1 - 1)))))) = some (r1, r2) := H
      have A9 := Aside0.mk A90
      clear A90
      obtain ⟨y174, hy174⟩ : ∃ y_ : List Int, y_ = (([t173] : List Int)) := ⟨_, rfl⟩
      replace H : ((pochoirref01_Plus.f k1 t170 y174).bind fun t177 => ((pochoirref01_Less.f k1 t177 l1).bind fun t180 => (if t180 ≥ 0 then ((pochoirref01_Minus.f k1 t177 l1).bind fun t181 => (if 0 ≤ (wrap64 (Int.tdiv x8_1 16)) then (if (wrap64 (Int.tdiv x8_1 16)) < (x6_1.length : Int) then (if 0 ≤ (Int.tmod x8_1 16) then (pochoirref01_Divide.l0 k1 l0 l1 (x6_1.set ((wrap64 (Int.tdiv x8_1 16)) : Int).toNat (IntKind.u64.wrap ((rd x6_1 (wrap64 (Int.tdiv x8_1 16))) + (shl .u64 1 (Int.tmod x8_1 16))))) t181 (wrap64 (x8_1 - 1))) else (none)) else (none)) else (none))) else (pochoirref01_Divide.l0 k1 l0 l1 x6_1 t177 (wrap64 (x8_1 - 1)))))) = some (r1, r2) := by first | (rw [hy174]; with_reducible exact H) | (have H2_ := (Option.bind_some _ _).symm.trans H; rw [hy174]; with_reducible exact H2_) | (have H2_ := (Option.bind_some _ _).symm.trans H; with_reducible exact H2_) | with_reducible exact H | (rw [hy174]; exact H) | exact H
      have Ny174 := Aside0.mk hy174
      clear hy174
      replace H := Option.bind_eq_some_iff.mp H
      obtain ⟨t177, A100, H⟩ := H
      replace H : ((pochoirref01_Less.f k1 t177 l1).bind fun t180 => (if t180 ≥ 0 then ((pochoirref01_Minus.f k1 t177 l1).bind fun t181 => (if 0 ≤ (wrap64 (Int.tdiv x8_1 16)) then (if (wrap64 (Int.tdiv x8_1 16)) < (x6_1.length : Int) then (if 0 ≤ (Int.tmod x8_1 16) then (pochoirref01_Divide.l0 k1 l0 l1 (x6_1.set ((wrap64 (Int.tdiv x8_1 16)) : Int).toNat (IntKind.u64.wrap ((rd x6_1 (wrap64 (Int.tdiv x8_1 16))) + (shl .u64 1 (Int.tmod x8_1 16))))) t181 (wrap64 (x8_1 - 1))) else (none)) else (none)) else (none))) else (pochoirref01_Divide.l0 k1 l0 l1 x6_1 t177 (wrap64 (x8_1 - 1))))) = some (r1, r2) := H
      have A10 := Aside0.mk A100
      clear A100
      replace H := Option.bind_eq_some_iff.mp H
      obtain ⟨t180, A110, H⟩ := H
      replace H : (if t180 ≥ 0 then ((pochoirref01_Minus.f k1 t177 l1).bind fun t181 => (if 0 ≤ (wrap64 (Int.tdiv x8_1 16)) then (if (wrap64 (Int.tdiv x8_1 16)) < (x6_1.length : Int) then (if 0 ≤ (Int.tmod x8_1 16) then (pochoirref01_Divide.l0 k1 l0 l1 (x6_1.set ((wrap64 (Int.tdiv x8_1 16)) : Int).toNat (IntKind.u64.wrap ((rd x6_1 (wrap64 (Int.tdiv x8_1 16))) + (shl .u64 1 (Int.tmod x8_1 16))))) t181 (wrap64 (x8_1 - 1))) else (none)) else (none)) else (none))) else (pochoirref01_Divide.l0 k1 l0 l1 x6_1 t177 (wrap64 (x8_1 - 1)))) = some (r1, r2) := H
      have A11 := Aside0.mk A110
      clear A110
      by_cases c12 : t180 ≥ 0
      ·rw [if_pos c12] at H
       have c12b0 : decide (0 ≤ t180) = true := decide_eq_true c12
       clear c12
       replace H := Option.bind_eq_some_iff.mp H
       obtain ⟨t181, A130, H⟩ := H
       replace H : (if 0 ≤ (wrap64 (Int.tdiv x8_1 16)) then (if (wrap64 (Int.tdiv x8_1 16)) < (x6_1.length : Int) then (if 0 ≤ (Int.tmod x8_1 16) then (pochoirref01_Divide.l0 k1 l0 l1 (x6_1.set ((wrap64 (Int.tdiv x8_1 16)) : Int).toNat (IntKind.u64.wrap ((rd x6_1 (wrap64 (Int.tdiv x8_1 16))) + (shl .u64 1 (Int.tmod x8_1 16))))) t181 (wrap64 (x8_1 - 1))) else (none)) else (none)) else (none)) = some (r1, r2) := H
       have A13 := Aside0.mk A130
       clear A130
       obtain ⟨ji14, hji14⟩ : ∃ j_ : Int, (wrap64 (Int.tdiv x8_1 16)) = j_ := ⟨_, rfl⟩
       replace H : (if 0 ≤ (ji14) then (if (ji14) < (x6_1.length : Int) then (if 0 ≤ (Int.tmod x8_1 16) then (pochoirref01_Divide.l0 k1 l0 l1 (x6_1.set ((ji14) : Int).toNat (IntKind.u64.wrap ((rd x6_1 (ji14)) + (shl .u64 1 (Int.tmod x8_1 16))))) t181 (wrap64 (x8_1 - 1))) else (none)) else (none)) else (none)) = some (r1, r2) := by first | (rw [hji14] at H; exact H) | (simp only [hji14] at H ⊢; exact H)
       (try rw [hji14] at A8)
       (try rw [hji14] at A9)
       (try rw [hji14] at A10)
       (try rw [hji14] at A11)
       (try rw [hji14] at A13)
       have hji14w : (IntKind.i64.wrap (Int.tdiv x8_1 16)) = ji14 := (i64_w _).trans hji14
       by_cases c15 : 0 ≤ (ji14)
       ·rw [if_pos c15] at H
        have c15b0 : decide (0 ≤ (ji14)) = true := decide_eq_true c15
        clear c15
        by_cases c16 : (ji14) < (x6_1.length : Int)
        ·rw [if_pos c16] at H
         have c16b0 : decide ((ji14) < (x6_1.length : Int)) = true := decide_eq_true c16
         clear c16
         obtain ⟨ji17, hji17⟩ : ∃ j_ : Int, (Int.tmod x8_1 16) = j_ := ⟨_, rfl⟩
         replace H : (if 0 ≤ (ji17) then (pochoirref01_Divide.l0 k1 l0 l1 (x6_1.set ((ji14) : Int).toNat (IntKind.u64.wrap ((rd x6_1 (ji14)) + (shl .u64 1 (ji17))))) t181 (wrap64 (x8_1 - 1))) else (none)) = some (r1, r2) := by first | (rw [hji17] at H; exact H) | (simp only [hji17] at H ⊢; exact H)
         (try rw [hji17] at A8)
         (try rw [hji17] at A9)
         (try rw [hji17] at A10)
         (try rw [hji17] at A11)
         (try rw [hji17] at A13)
         by_cases c18 : 0 ≤ (ji17)
         ·rw [if_pos c18] at H
          have c18b0 := eq_true c18
          have c18b1 : decide (0 ≤ (ji17)) = true := decide_eq_true c18
          clear c18
          obtain ⟨ji19, hji19⟩ : ∃ j_ : Int, (shl .u64 1 (ji17)) = j_ := ⟨_, rfl⟩
          replace H : (pochoirref01_Divide.l0 k1 l0 l1 (x6_1.set ((ji14) : Int).toNat (IntKind.u64.wrap ((rd x6_1 (ji14)) + (ji19)))) t181 (wrap64 (x8_1 - 1))) = some (r1, r2) := by first | (rw [hji19] at H; exact H) | (simp only [hji19] at H ⊢; exact H)
          (try rw [hji19] at A8)
          (try rw [hji19] at A9)
          (try rw [hji19] at A10)
          (try rw [hji19] at A11)
          (try rw [hji19] at A13)
          have hji19_ : (IntKind.u64.wrap (1 * 2 ^ min (ji17).toNat 64)) = ji19 := hji19
          have hji19z : (ji17) ≤ 64 → (IntKind.u64.wrap (1 * 2 ^ (ji17).toNat)) = ji19 := shl_small hji19
          have hji19u : (IntKind.u64.wrap (2 ^ min (ji17).toNat 64)) = ji19 := by have h_ := hji19_; rw [Int.one_mul] at h_; exact h_
          have hji19v : (ji17) ≤ 64 → (IntKind.u64.wrap (2 ^ (ji17).toNat)) = ji19 := fun hle_ => by have h_ := hji19z hle_; rw [Int.one_mul] at h_; exact h_
          obtain ⟨y185, hy185⟩ : ∃ y_ : List Int, y_ = (x6_1.set ((ji14) : Int).toNat (IntKind.u64.wrap ((rd x6_1 (ji14)) + (ji19)))) := ⟨_, rfl⟩
          replace H : (pochoirref01_Divide.l0 k1 l0 l1 y185 t181 (wrap64 (x8_1 - 1))) = some (r1, r2) := by first | (rw [hy185]; with_reducible exact H) | (have H2_ := (Option.bind_some _ _).symm.trans H; rw [hy185]; with_reducible exact H2_) | (have H2_ := (Option.bind_some _ _).symm.trans H; with_reducible exact H2_) | with_reducible exact H | (rw [hy185]; exact H) | exact H
          have Ny185 := Aside0.mk hy185
          clear hy185
          have H' := Aside0.mk H
          clear H
          obtain ⟨Ao21, co21, eo21⟩ := Kd.R_slice HO_7.out
          subst eo21
          try go_wp2_with (first | ((with_reducible refine gate_callee (f := 32) rfl ?_); refine goesL_ (some 22) rfl rfl Try.func32 (by kernel_rfl) rfl #[.slice Ao21 x7_1.length co21, .slice Ao21 x7_1.length co21] rfl am ?_; (with_reducible refine (pochoirref01_Plus.calls k1 _ _ x7_1 _ _ x7_1 t170 _ ?side1 ?side2 ?side3 ?side4 A8.out).mono ?_); (case side1 => repeat (first | exact (Kd.R_reads' HO_7.out).2.2 | (with_reducible refine Kd.C_alloc ?_ _) | (with_reducible refine Kd.C_drewN ?_ _) | (with_reducible refine Kd.C_drew ?_))); (case side2 => exact (Kd.R_reads' HO_7.out).2.1); (case side3 => repeat (first | exact (Kd.R_reads' HO_7.out).2.2 | (with_reducible refine Kd.C_alloc ?_ _) | (with_reducible refine Kd.C_drewN ?_ _) | (with_reducible refine Kd.C_drew ?_))); (case side4 => exact (Kd.R_reads' HO_7.out).2.1); rintro e w22 ⟨v171, rfl, ho0, hb⟩; refine ⟨_, rfl, ?_⟩; have HO172 := Aside0.mk (Kd.R_lower (Kd.R_new' (Kd.R_new' ho0 (Kd.R_lt (by (with_reducible repeat (first | apply Kd.R_alloc | apply Kd.R_drewN | apply Kd.R_drew)); exact HO_6.out))) (Kd.R_lt (by (with_reducible repeat (first | apply Kd.R_alloc | apply Kd.R_drewN | apply Kd.R_drew)); exact HO_7.out))) (below_size (bl0 HB.out))); replace HO_6 := Aside0.mk (Kd.R_elder' (by (with_reducible repeat (first | apply Kd.R_alloc | apply Kd.R_drewN | apply Kd.R_drew)); exact HO_6.out) (Kd.R_base ho0) hb); replace HO_7 := Aside0.mk (Kd.R_elder' (by (with_reducible repeat (first | apply Kd.R_alloc | apply Kd.R_drewN | apply Kd.R_drew)); exact HO_7.out) (Kd.R_base ho0) hb); replace HB := Aside0.mk (below_step (bl0 HB.out) hb); (try clear hb); (try clear hb2); (try clear hk); (try clear hi); (try clear ho0)) | ((with_reducible refine gate_callee (f := 40) rfl ?_); refine goesL_ (some 25) rfl rfl Try.func40 (by kernel_rfl) rfl #[.slice A0 l0.length c0, .int .i64 x8_1] rfl am ?_; (with_reducible refine (pochoirref01_bit.calls _ _ l0 x8_1 t173 _ ?side1 ?side2 A9.out).mono ?_); (case side1 => repeat (first | exact (Kd.C_below HR0.out HB.out) | (with_reducible refine Kd.C_alloc ?_ _) | (with_reducible refine Kd.C_drewN ?_ _) | (with_reducible refine Kd.C_drew ?_))); (case side2 => exact HC0.out); rintro e w' ⟨rfl, ⟨nd, rfl⟩⟩; refine ⟨_, rfl, ?_⟩; (try (rw [drewN_self w22]; generalize hq_ : World.drewN w22 _ = w22; replace HO172 : Aside0 (Kd.R (Kd.int .u64) 22 w22 w.heap.size (fun k_ => some k_ ≠ (v168 : Value).ownBlock ∧ some k_ ≠ (.slice Ao21 x7_1.length co21 : Value).ownBlock) v171 t170) := ⟨by rw [← hq_]; exact (by (with_reducible repeat (first | apply Kd.R_alloc | apply Kd.R_drewN | apply Kd.R_drew)); exact Kd.R_mono HO172.out (fun _ hk => ⟨hk.1.2, hk.2⟩))⟩; replace HO_6 : Aside0 (Kd.R (Kd.int .u64) 22 w22 w.heap.size (fun k_ => some k_ ≠ (v171 : Value).ownBlock ∧ some k_ ≠ (.slice Ao21 x7_1.length co21 : Value).ownBlock) v168 x6_1) := ⟨by rw [← hq_]; exact (by (with_reducible repeat (first | apply Kd.R_alloc | apply Kd.R_drewN | apply Kd.R_drew)); exact Kd.R_mono HO_6.out (fun _ hk => ⟨hk.2, hk.1⟩))⟩; replace HO_7 : Aside0 (Kd.R (Kd.int .u64) 22 w22 w.heap.size (fun k_ => some k_ ≠ (v171 : Value).ownBlock ∧ some k_ ≠ (v168 : Value).ownBlock) (.slice Ao21 x7_1.length co21) x7_1) := ⟨by rw [← hq_]; exact (by (with_reducible repeat (first | apply Kd.R_alloc | apply Kd.R_drewN | apply Kd.R_drew)); exact Kd.R_mono HO_7.out (fun _ hk => ⟨hk.2, hk.1⟩))⟩; replace HB : Aside0 (Below w.heap.size w w22) := ⟨by rw [← hq_]; exact (bl0 HB.out)⟩; clear hq_))) | ((with_reducible refine gate_dst (N := 26) rfl ?_); refine Kd.R_lit (Kd.int .u64) _ 22 ?hg (N := 26) ?hd (xs := ([t173] : List Int)) (inner := [.int .u64 t173]) (ok := fun _ => True) (okp := fun _ => True) ?hr ?hp (fun _ hk => hk) trivial (Below.refl _ _) (Nat.le_refl _) (by simp) ?_; (case hd => rfl); (case hg => rfl); (case hr => first | (go_simp; done) | (go_simp; rfl)); (case hp => exact (Reps.one (show Kd.M (Kd.int .u64) _ _ _ t173 [.int .u64 t173] from rfl) (Reps.none _ _))); intro v175 w23 ho24 hb hg_ hnew_; clear hg_ hnew_; (first | rw [← Ny174.out] at ho24 | (simp only [Int.reduceToNat] at ho24; rw [← Ny174.out] at ho24)); have HO176 := Aside0.mk (Kd.R_lower (Kd.R_new' (Kd.R_new' (Kd.R_new' ho24 (Kd.R_lt (by (with_reducible repeat (first | apply Kd.R_alloc | apply Kd.R_drewN | apply Kd.R_drew)); exact HO_6.out))) (Kd.R_lt (by (with_reducible repeat (first | apply Kd.R_alloc | apply Kd.R_drewN | apply Kd.R_drew)); exact HO_7.out))) (Kd.R_lt (by (with_reducible repeat (first | apply Kd.R_alloc | apply Kd.R_drewN | apply Kd.R_drew)); exact HO172.out))) (below_size (bl0 HB.out))); replace HO_6 := Aside0.mk (Kd.R_elder' (by (with_reducible repeat (first | apply Kd.R_alloc | apply Kd.R_drewN | apply Kd.R_drew)); exact HO_6.out) (Kd.R_base ho24) hb); replace HO_7 := Aside0.mk (Kd.R_elder' (by (with_reducible repeat (first | apply Kd.R_alloc | apply Kd.R_drewN | apply Kd.R_drew)); exact HO_7.out) (Kd.R_base ho24) hb); replace HO172 := Aside0.mk (Kd.R_elder' (by (with_reducible repeat (first | apply Kd.R_alloc | apply Kd.R_drewN | apply Kd.R_drew)); exact HO172.out) (Kd.R_base ho24) hb); replace HB := Aside0.mk (below_step (bl0 HB.out) hb); clear hb ho24; obtain ⟨Ao25, co25, eo25⟩ := Kd.R_slice HO172.out; subst eo25; obtain ⟨Ao26, co26, eo26⟩ := Kd.R_slice HO176.out; subst eo26) | ((with_reducible refine gate_callee (f := 32) rfl ?_); refine goesL_ (some 27) rfl rfl Try.func32 (by kernel_rfl) rfl #[.slice Ao25 t170.length co25, .slice Ao26 y174.length co26] rfl am ?_; (with_reducible refine (pochoirref01_Plus.calls k1 _ _ t170 _ _ y174 t177 _ ?side1 ?side2 ?side3 ?side4 A10.out).mono ?_); (case side1 => repeat (first | exact (Kd.R_reads' HO172.out).2.2 | (with_reducible refine Kd.C_alloc ?_ _) | (with_reducible refine Kd.C_drewN ?_ _) | (with_reducible refine Kd.C_drew ?_))); (case side2 => exact (Kd.R_reads' HO172.out).2.1); (case side3 => repeat (first | exact (Kd.R_reads' HO176.out).2.2 | (with_reducible refine Kd.C_alloc ?_ _) | (with_reducible refine Kd.C_drewN ?_ _) | (with_reducible refine Kd.C_drew ?_))); (case side4 => exact (Kd.R_reads' HO176.out).2.1); rintro e w27 ⟨v178, rfl, ho0, hb⟩; refine ⟨_, rfl, ?_⟩; have HO179 := Aside0.mk (Kd.R_lower (Kd.R_new' (Kd.R_new' (Kd.R_new' (Kd.R_new' ho0 (Kd.R_lt (by (with_reducible repeat (first | apply Kd.R_alloc | apply Kd.R_drewN | apply Kd.R_drew)); exact HO_6.out))) (Kd.R_lt (by (with_reducible repeat (first | apply Kd.R_alloc | apply Kd.R_drewN | apply Kd.R_drew)); exact HO_7.out))) (Kd.R_lt (by (with_reducible repeat (first | apply Kd.R_alloc | apply Kd.R_drewN | apply Kd.R_drew)); exact HO172.out))) (Kd.R_lt (by (with_reducible repeat (first | apply Kd.R_alloc | apply Kd.R_drewN | apply Kd.R_drew)); exact HO176.out))) (below_size (bl0 HB.out))); replace HO_6 := Aside0.mk (Kd.R_elder' (by (with_reducible repeat (first | apply Kd.R_alloc | apply Kd.R_drewN | apply Kd.R_drew)); exact HO_6.out) (Kd.R_base ho0) hb); replace HO_7 := Aside0.mk (Kd.R_elder' (by (with_reducible repeat (first | apply Kd.R_alloc | apply Kd.R_drewN | apply Kd.R_drew)); exact HO_7.out) (Kd.R_base ho0) hb); replace HO172 := Aside0.mk (Kd.R_elder' (by (with_reducible repeat (first | apply Kd.R_alloc | apply Kd.R_drewN | apply Kd.R_drew)); exact HO172.out) (Kd.R_base ho0) hb); replace HO176 := Aside0.mk (Kd.R_elder' (by (with_reducible repeat (first | apply Kd.R_alloc | apply Kd.R_drewN | apply Kd.R_drew)); exact HO176.out) (Kd.R_base ho0) hb); replace HB := Aside0.mk (below_step (bl0 HB.out) hb); (try clear hb); (try clear hb2); (try clear hk); (try clear hi); (try clear ho0); obtain ⟨Ao28, co28, eo28⟩ := Kd.R_slice HO179.out; subst eo28) | ((with_reducible refine gate_callee (f := 25) rfl ?_); refine goesL_ (some 30) rfl rfl Try.func25 (by kernel_rfl) rfl #[.slice Ao28 t177.length co28, .slice A1 l1.length c1] rfl am ?_; (with_reducible refine (pochoirref01_Less.calls k1 _ _ t177 _ _ l1 t180 _ ?side1 ?side2 ?side3 ?side4 A11.out).mono ?_); (case side1 => repeat (first | exact (Kd.R_reads' HO179.out).2.2 | (with_reducible refine Kd.C_alloc ?_ _) | (with_reducible refine Kd.C_drewN ?_ _) | (with_reducible refine Kd.C_drew ?_))); (case side2 => exact (Kd.R_reads' HO179.out).2.1); (case side3 => repeat (first | exact (Kd.C_below HR1.out HB.out) | (with_reducible refine Kd.C_alloc ?_ _) | (with_reducible refine Kd.C_drewN ?_ _) | (with_reducible refine Kd.C_drew ?_))); (case side4 => exact HC1.out); rintro e w' ⟨rfl, ⟨nd, rfl⟩⟩; refine ⟨_, rfl, ?_⟩; (try (rw [drewN_self w27]; generalize hq_ : World.drewN w27 _ = w27; replace HO172 : Aside0 (Kd.R (Kd.int .u64) 22 w27 w.heap.size (fun k_ => some k_ ≠ (.slice Ao26 y174.length co26 : Value).ownBlock ∧ some k_ ≠ (.slice Ao28 t177.length co28 : Value).ownBlock ∧ some k_ ≠ (v168 : Value).ownBlock ∧ some k_ ≠ (.slice Ao21 x7_1.length co21 : Value).ownBlock) (.slice Ao25 t170.length co25) t170) := ⟨by rw [← hq_]; exact (by (with_reducible repeat (first | apply Kd.R_alloc | apply Kd.R_drewN | apply Kd.R_drew)); exact Kd.R_mono HO172.out (fun _ hk => ⟨hk.1.2, ⟨hk.2, ⟨hk.1.1.1.2, hk.1.1.2⟩⟩⟩))⟩; replace HO176 : Aside0 (Kd.R (Kd.int .u64) 22 w27 w.heap.size (fun k_ => some k_ ≠ (.slice Ao25 t170.length co25 : Value).ownBlock ∧ some k_ ≠ (.slice Ao28 t177.length co28 : Value).ownBlock ∧ some k_ ≠ (v168 : Value).ownBlock ∧ some k_ ≠ (.slice Ao21 x7_1.length co21 : Value).ownBlock) (.slice Ao26 y174.length co26) y174) := ⟨by rw [← hq_]; exact (by (with_reducible repeat (first | apply Kd.R_alloc | apply Kd.R_drewN | apply Kd.R_drew)); exact Kd.R_mono HO176.out (fun _ hk => ⟨hk.1.2, ⟨hk.2, ⟨hk.1.1.1.2, hk.1.1.2⟩⟩⟩))⟩; replace HO179 : Aside0 (Kd.R (Kd.int .u64) 22 w27 w.heap.size (fun k_ => some k_ ≠ (.slice Ao25 t170.length co25 : Value).ownBlock ∧ some k_ ≠ (.slice Ao26 y174.length co26 : Value).ownBlock ∧ some k_ ≠ (v168 : Value).ownBlock ∧ some k_ ≠ (.slice Ao21 x7_1.length co21 : Value).ownBlock) (.slice Ao28 t177.length co28) t177) := ⟨by rw [← hq_]; exact (by (with_reducible repeat (first | apply Kd.R_alloc | apply Kd.R_drewN | apply Kd.R_drew)); exact Kd.R_mono HO179.out (fun _ hk => ⟨hk.1.2, ⟨hk.2, ⟨hk.1.1.1.2, hk.1.1.2⟩⟩⟩))⟩; replace HO_6 : Aside0 (Kd.R (Kd.int .u64) 22 w27 w.heap.size (fun k_ => some k_ ≠ (.slice Ao25 t170.length co25 : Value).ownBlock ∧ some k_ ≠ (.slice Ao26 y174.length co26 : Value).ownBlock ∧ some k_ ≠ (.slice Ao28 t177.length co28 : Value).ownBlock ∧ some k_ ≠ (.slice Ao21 x7_1.length co21 : Value).ownBlock) v168 x6_1) := ⟨by rw [← hq_]; exact (by (with_reducible repeat (first | apply Kd.R_alloc | apply Kd.R_drewN | apply Kd.R_drew)); exact Kd.R_mono HO_6.out (fun _ hk => ⟨hk.1.1.2, ⟨hk.1.2, ⟨hk.2, hk.1.1.1⟩⟩⟩))⟩; replace HO_7 : Aside0 (Kd.R (Kd.int .u64) 22 w27 w.heap.size (fun k_ => some k_ ≠ (.slice Ao25 t170.length co25 : Value).ownBlock ∧ some k_ ≠ (.slice Ao26 y174.length co26 : Value).ownBlock ∧ some k_ ≠ (.slice Ao28 t177.length co28 : Value).ownBlock ∧ some k_ ≠ (v168 : Value).ownBlock) (.slice Ao21 x7_1.length co21) x7_1) := ⟨by rw [← hq_]; exact (by (with_reducible repeat (first | apply Kd.R_alloc | apply Kd.R_drewN | apply Kd.R_drew)); exact Kd.R_mono HO_7.out (fun _ hk => ⟨hk.1.1.2, ⟨hk.1.2, ⟨hk.2, hk.1.1.1⟩⟩⟩))⟩; replace HB : Aside0 (Below w.heap.size w w27) := ⟨by rw [← hq_]; exact (bl0 HB.out)⟩; clear hq_))) | ((with_reducible refine gate_callee (f := 34) rfl ?_); refine goesL_ (some 34) rfl rfl Try.func34 (by kernel_rfl) rfl #[.slice Ao28 t177.length co28, .slice A1 l1.length c1] rfl am ?_; (with_reducible refine (pochoirref01_Minus.calls k1 _ _ t177 _ _ l1 t181 _ ?side1 ?side2 ?side3 ?side4 A13.out).mono ?_); (case side1 => repeat (first | exact (Kd.R_reads' HO179.out).2.2 | (with_reducible refine Kd.C_alloc ?_ _) | (with_reducible refine Kd.C_drewN ?_ _) | (with_reducible refine Kd.C_drew ?_))); (case side2 => exact (Kd.R_reads' HO179.out).2.1); (case side3 => repeat (first | exact (Kd.C_below HR1.out HB.out) | (with_reducible refine Kd.C_alloc ?_ _) | (with_reducible refine Kd.C_drewN ?_ _) | (with_reducible refine Kd.C_drew ?_))); (case side4 => exact HC1.out); rintro e w29 ⟨v182, rfl, ho0, hb⟩; refine ⟨_, rfl, ?_⟩; have HO183 := Aside0.mk (Kd.R_lower (Kd.R_new' (Kd.R_new' (Kd.R_new' (Kd.R_new' (Kd.R_new' ho0 (Kd.R_lt (by (with_reducible repeat (first | apply Kd.R_alloc | apply Kd.R_drewN | apply Kd.R_drew)); exact HO_6.out))) (Kd.R_lt (by (with_reducible repeat (first | apply Kd.R_alloc | apply Kd.R_drewN | apply Kd.R_drew)); exact HO_7.out))) (Kd.R_lt (by (with_reducible repeat (first | apply Kd.R_alloc | apply Kd.R_drewN | apply Kd.R_drew)); exact HO172.out))) (Kd.R_lt (by (with_reducible repeat (first | apply Kd.R_alloc | apply Kd.R_drewN | apply Kd.R_drew)); exact HO176.out))) (Kd.R_lt (by (with_reducible repeat (first | apply Kd.R_alloc | apply Kd.R_drewN | apply Kd.R_drew)); exact HO179.out))) (below_size (bl0 HB.out))); replace HO_6 := Aside0.mk (Kd.R_elder' (by (with_reducible repeat (first | apply Kd.R_alloc | apply Kd.R_drewN | apply Kd.R_drew)); exact HO_6.out) (Kd.R_base ho0) hb); replace HO_7 := Aside0.mk (Kd.R_elder' (by (with_reducible repeat (first | apply Kd.R_alloc | apply Kd.R_drewN | apply Kd.R_drew)); exact HO_7.out) (Kd.R_base ho0) hb); replace HO172 := Aside0.mk (Kd.R_elder' (by (with_reducible repeat (first | apply Kd.R_alloc | apply Kd.R_drewN | apply Kd.R_drew)); exact HO172.out) (Kd.R_base ho0) hb); replace HO176 := Aside0.mk (Kd.R_elder' (by (with_reducible repeat (first | apply Kd.R_alloc | apply Kd.R_drewN | apply Kd.R_drew)); exact HO176.out) (Kd.R_base ho0) hb); replace HO179 := Aside0.mk (Kd.R_elder' (by (with_reducible repeat (first | apply Kd.R_alloc | apply Kd.R_drewN | apply Kd.R_drew)); exact HO179.out) (Kd.R_base ho0) hb); replace HB := Aside0.mk (below_step (bl0 HB.out) hb); (try clear hb); (try clear hb2); (try clear hk); (try clear hi); (try clear ho0)))
          replace HO_6 := Aside0.mk (Kd.R_drew HO_6.out)
          replace HO_7 := Aside0.mk (Kd.R_drew HO_7.out)
          replace HO172 := Aside0.mk (Kd.R_drew HO172.out)
          replace HO176 := Aside0.mk (Kd.R_drew HO176.out)
          replace HO179 := Aside0.mk (Kd.R_drew HO179.out)
          replace HO183 := Aside0.mk (Kd.R_drew HO183.out)
          replace HB := Aside0.mk (below_drew1 HB.out)
          obtain ⟨Ao31, co31, eo31⟩ := Kd.R_slice HO_6.out
          (first | subst eo31 | (injection eo31 with f1_ f2_ f3_; have f4_ := f1_.symm; have f5_ := f3_.symm; clear f1_ f2_ f3_; subst f4_; subst f5_))
          have p184 : 0 ≤ ((ji14) : Int) := of_decide_eq_true (by first | (with_reducible assumption) | assumption)
          have q184 : (ji14) < (x6_1.length : Int) := of_decide_eq_true (by first | (with_reducible assumption) | assumption)
          obtain ⟨ad184, e184, hx184_0⟩ := Kd.at_int (Kd.R_reads' HO_6.out).2.2 (ji14) p184 q184
          cases e184
          replace p184 := eq_true p184
          replace q184 := eq_true q184
          have p20 : 0 ≤ ((ji14) : Int) := of_decide_eq_true (by first | (with_reducible assumption) | assumption)
          have q20 : ((ji14) : Int) < ((x6_1.length : Int) : Int) := of_decide_eq_true (by first | (with_reducible assumption) | assumption)
          obtain ⟨go20, co20, eo20, gb20, gl20, cl20, HG20⟩ := Kd.R_form HO_6.out (by omega)
          (first | cases eo20 | (injection eo20 with ea_ en_ ec_; (first | subst ea_ | (injection ea_ with ea_; subst ea_)); subst ec_; clear en_))
          have GB20 := Aside0.mk gb20
          have GG20 := Aside0.mk HG20
          clear gb20 gl20 HG20
          (first | simp only [add_plain] at hx184_0 | skip)
          obtain ⟨hx20_0, hf20_0⟩ := Kd.R_celln 0 HO_6.out ((ji14) : Int) p20 q20
          replace p20 := eq_true p20
          replace q20 := eq_true q20
          have HP32 := Kd.R_putn HO_6.out ((ji14) : Int) (IntKind.u64.wrap ((rd x6_1 (ji14)) + (ji19)))
          rw [← Ny185.out] at HP32
          have HQ32 := Aside0.mk HP32
          clear HP32
          refine start_ (n := 14) (S := fun w' => w'.cell? ⟨go20, ((ji14)).toNat, none⟩ = some (.int .u64 (rd x6_1 (ji14)))) (ds := [13]) (ba 14 0) (by kernel_rfl) rfl rfl (hx184_0) (fun hHeld => ?_); refine with_tabW pochoirref01_Divide.tab9 pochoirref01_Divide.bits9 (fun HT_ HW_ => ?_)
          generalize w29.drew = w30 at HO_6 HO_7 HO172 HO176 HO179 HO183 HB GG20 HQ32 hf20_0 hx184_0 hx20_0 hHeld ⊢
          refine pI 0 35 (ba 14 1) HT_.out ?_
          refine pI 1 36 (ba 14 3) HT_.out ?_
          refine pI 2 37 (ba 14 7) HT_.out ?_
          refine pI 3 38 (ba 14 15) HT_.out ?_
          refine pI 4 39 (ba 14 31) HT_.out ?_
          refine pI 5 40 (ba 14 63) HT_.out ?_
          refine pI 6 41 (ba 14 127) HT_.out ?_
          refine pI 8 43 (ba 14 383) HT_.out ?_
          refine pI 9 44 (ba 14 895) HT_.out ?_
          refine pI 10 45 (ba 14 1919) HT_.out ?_
          refine take_ (i := 7) (N := some 42) (v := ?_) (a' := ?_) (ba 14 2047) rfl rfl (take_ofW HT_.out HW_.out (by kernel_rfl)) (fun _ _ _ h => h) (Or.inl ⟨by rfl, ?_⟩) hHeld ?_ ?_
          rotate_left
          ·intro w' s0
           go_simp
           with_reducible rfl
          rotate_left
          ·simp only [Act.put, List.setIfInBounds_toArray, List.set_cons_zero, List.set_cons_succ, i64_w, i32_w]
           rfl
          refine pI 11 46 (ba 14 4095) HT_.out ?_
          refine pI 12 47 (ba 14 8191) HT_.out ?_
          refine last_ (i := 13) (N := none) (ba 14 16383) rfl rfl (one_of HT_.out (by kernel_rfl)) (by decide) (fun K hK => ?_)
          refine skip_ (w1 := ?_) (by rfl) rfl ?_ ?_
          rotate_left
          ·go_simp
           rfl
          refine hK.out _ _ ?_
          clear hK K
          refine done_ (done_of HT_.out (by kernel_rfl)) ?_
          try go_wp2
          go_roundg k1
          case measure => have := HK1.out; omega
          case rel => exact ⟨(y185), (t181), (wrap64 (x8_1 - 1)), fr, H', ⟨by have := HK1.out; omega⟩, ⟨by (with_reducible repeat (first | apply Kd.R_alloc | apply Kd.R_drewN | apply Kd.R_drew)); exact Kd.R_mono HQ32.out (fun _ hk => hk.2)⟩, ⟨by (with_reducible repeat (first | apply Kd.R_alloc | apply Kd.R_drewN | apply Kd.R_drew)); exact Kd.R_mono (Kd.R_far (p := ⟨go20, ((ji14) : Int).toNat, none⟩) (Kd.R_mono HO183.out (fun k_ hk => (⟨hk, fun e_ => hk.1.1.1.1.2 (by rw [e_]; rfl)⟩ : _ ∧ k_ ≠ go20))) (fun _ hk => hk.2) (.int .u64 (IntKind.u64.wrap ((rd x6_1 (ji14)) + (ji19))))) (fun _ hk => hk.1.1.1.1.1.2)⟩, ⟨bl1 HB.out GB20.out⟩⟩
         ·rw [if_neg c18] at H
          exact absurd H (by simp)
        ·rw [if_neg c16] at H
         exact absurd H (by simp)
       ·rw [if_neg c15] at H
        exact absurd H (by simp)
      ·rw [if_neg c12] at H
       have c12b0 : decide (0 ≤ t180) = false := decide_eq_false c12
       clear c12
       have H' := Aside0.mk H
       clear H
       obtain ⟨Ao33, co33, eo33⟩ := Kd.R_slice HO_7.out
       subst eo33
       go_wp2_with (first | ((with_reducible refine gate_callee (f := 32) rfl ?_); refine goesL_ (some 22) rfl rfl Try.func32 (by kernel_rfl) rfl #[.slice Ao33 x7_1.length co33, .slice Ao33 x7_1.length co33] rfl am ?_; (with_reducible refine (pochoirref01_Plus.calls k1 _ _ x7_1 _ _ x7_1 t170 _ ?side1 ?side2 ?side3 ?side4 A8.out).mono ?_); (case side1 => repeat (first | exact (Kd.R_reads' HO_7.out).2.2 | (with_reducible refine Kd.C_alloc ?_ _) | (with_reducible refine Kd.C_drewN ?_ _) | (with_reducible refine Kd.C_drew ?_))); (case side2 => exact (Kd.R_reads' HO_7.out).2.1); (case side3 => repeat (first | exact (Kd.R_reads' HO_7.out).2.2 | (with_reducible refine Kd.C_alloc ?_ _) | (with_reducible refine Kd.C_drewN ?_ _) | (with_reducible refine Kd.C_drew ?_))); (case side4 => exact (Kd.R_reads' HO_7.out).2.1); rintro e w34 ⟨v171, rfl, ho0, hb⟩; refine ⟨_, rfl, ?_⟩; have HO172 := Aside0.mk (Kd.R_lower (Kd.R_new' (Kd.R_new' ho0 (Kd.R_lt (by (with_reducible repeat (first | apply Kd.R_alloc | apply Kd.R_drewN | apply Kd.R_drew)); exact HO_6.out))) (Kd.R_lt (by (with_reducible repeat (first | apply Kd.R_alloc | apply Kd.R_drewN | apply Kd.R_drew)); exact HO_7.out))) (below_size (bl0 HB.out))); replace HO_6 := Aside0.mk (Kd.R_elder' (by (with_reducible repeat (first | apply Kd.R_alloc | apply Kd.R_drewN | apply Kd.R_drew)); exact HO_6.out) (Kd.R_base ho0) hb); replace HO_7 := Aside0.mk (Kd.R_elder' (by (with_reducible repeat (first | apply Kd.R_alloc | apply Kd.R_drewN | apply Kd.R_drew)); exact HO_7.out) (Kd.R_base ho0) hb); replace HB := Aside0.mk (below_step (bl0 HB.out) hb); (try clear hb); (try clear hb2); (try clear hk); (try clear hi); (try clear ho0)) | ((with_reducible refine gate_callee (f := 40) rfl ?_); refine goesL_ (some 25) rfl rfl Try.func40 (by kernel_rfl) rfl #[.slice A0 l0.length c0, .int .i64 x8_1] rfl am ?_; (with_reducible refine (pochoirref01_bit.calls _ _ l0 x8_1 t173 _ ?side1 ?side2 A9.out).mono ?_); (case side1 => repeat (first | exact (Kd.C_below HR0.out HB.out) | (with_reducible refine Kd.C_alloc ?_ _) | (with_reducible refine Kd.C_drewN ?_ _) | (with_reducible refine Kd.C_drew ?_))); (case side2 => exact HC0.out); rintro e w' ⟨rfl, ⟨nd, rfl⟩⟩; refine ⟨_, rfl, ?_⟩) | ((with_reducible refine gate_dst (N := 26) rfl ?_); refine Kd.R_lit (Kd.int .u64) _ 22 ?hg (N := 26) ?hd (xs := ([t173] : List Int)) (inner := [.int .u64 t173]) (ok := fun _ => True) (okp := fun _ => True) ?hr ?hp (fun _ hk => hk) trivial (Below.refl _ _) (Nat.le_refl _) (by simp) ?_; (case hd => rfl); (case hg => rfl); (case hr => first | (go_simp; done) | (go_simp; rfl)); (case hp => exact (Reps.one (show Kd.M (Kd.int .u64) _ _ _ t173 [.int .u64 t173] from rfl) (Reps.none _ _))); intro v175 w35 ho36 hb hg_ hnew_; clear hg_ hnew_; (first | rw [← Ny174.out] at ho36 | (simp only [Int.reduceToNat] at ho36; rw [← Ny174.out] at ho36)); have HO176 := Aside0.mk (Kd.R_lower (Kd.R_new' (Kd.R_new' (Kd.R_new' ho36 (Kd.R_lt (by (with_reducible repeat (first | apply Kd.R_alloc | apply Kd.R_drewN | apply Kd.R_drew)); exact HO_6.out))) (Kd.R_lt (by (with_reducible repeat (first | apply Kd.R_alloc | apply Kd.R_drewN | apply Kd.R_drew)); exact HO_7.out))) (Kd.R_lt (by (with_reducible repeat (first | apply Kd.R_alloc | apply Kd.R_drewN | apply Kd.R_drew)); exact HO172.out))) (below_size (bl0 HB.out))); replace HO_6 := Aside0.mk (Kd.R_elder' (by (with_reducible repeat (first | apply Kd.R_alloc | apply Kd.R_drewN | apply Kd.R_drew)); exact HO_6.out) (Kd.R_base ho36) hb); replace HO_7 := Aside0.mk (Kd.R_elder' (by (with_reducible repeat (first | apply Kd.R_alloc | apply Kd.R_drewN | apply Kd.R_drew)); exact HO_7.out) (Kd.R_base ho36) hb); replace HO172 := Aside0.mk (Kd.R_elder' (by (with_reducible repeat (first | apply Kd.R_alloc | apply Kd.R_drewN | apply Kd.R_drew)); exact HO172.out) (Kd.R_base ho36) hb); replace HB := Aside0.mk (below_step (bl0 HB.out) hb); clear hb ho36; obtain ⟨Ao37, co37, eo37⟩ := Kd.R_slice HO172.out; subst eo37; obtain ⟨Ao38, co38, eo38⟩ := Kd.R_slice HO176.out; subst eo38) | ((with_reducible refine gate_callee (f := 32) rfl ?_); refine goesL_ (some 27) rfl rfl Try.func32 (by kernel_rfl) rfl #[.slice Ao37 t170.length co37, .slice Ao38 y174.length co38] rfl am ?_; (with_reducible refine (pochoirref01_Plus.calls k1 _ _ t170 _ _ y174 t177 _ ?side1 ?side2 ?side3 ?side4 A10.out).mono ?_); (case side1 => repeat (first | exact (Kd.R_reads' HO172.out).2.2 | (with_reducible refine Kd.C_alloc ?_ _) | (with_reducible refine Kd.C_drewN ?_ _) | (with_reducible refine Kd.C_drew ?_))); (case side2 => exact (Kd.R_reads' HO172.out).2.1); (case side3 => repeat (first | exact (Kd.R_reads' HO176.out).2.2 | (with_reducible refine Kd.C_alloc ?_ _) | (with_reducible refine Kd.C_drewN ?_ _) | (with_reducible refine Kd.C_drew ?_))); (case side4 => exact (Kd.R_reads' HO176.out).2.1); rintro e w39 ⟨v178, rfl, ho0, hb⟩; refine ⟨_, rfl, ?_⟩; have HO179 := Aside0.mk (Kd.R_lower (Kd.R_new' (Kd.R_new' (Kd.R_new' (Kd.R_new' ho0 (Kd.R_lt (by (with_reducible repeat (first | apply Kd.R_alloc | apply Kd.R_drewN | apply Kd.R_drew)); exact HO_6.out))) (Kd.R_lt (by (with_reducible repeat (first | apply Kd.R_alloc | apply Kd.R_drewN | apply Kd.R_drew)); exact HO_7.out))) (Kd.R_lt (by (with_reducible repeat (first | apply Kd.R_alloc | apply Kd.R_drewN | apply Kd.R_drew)); exact HO172.out))) (Kd.R_lt (by (with_reducible repeat (first | apply Kd.R_alloc | apply Kd.R_drewN | apply Kd.R_drew)); exact HO176.out))) (below_size (bl0 HB.out))); replace HO_6 := Aside0.mk (Kd.R_elder' (by (with_reducible repeat (first | apply Kd.R_alloc | apply Kd.R_drewN | apply Kd.R_drew)); exact HO_6.out) (Kd.R_base ho0) hb); replace HO_7 := Aside0.mk (Kd.R_elder' (by (with_reducible repeat (first | apply Kd.R_alloc | apply Kd.R_drewN | apply Kd.R_drew)); exact HO_7.out) (Kd.R_base ho0) hb); replace HO172 := Aside0.mk (Kd.R_elder' (by (with_reducible repeat (first | apply Kd.R_alloc | apply Kd.R_drewN | apply Kd.R_drew)); exact HO172.out) (Kd.R_base ho0) hb); replace HO176 := Aside0.mk (Kd.R_elder' (by (with_reducible repeat (first | apply Kd.R_alloc | apply Kd.R_drewN | apply Kd.R_drew)); exact HO176.out) (Kd.R_base ho0) hb); replace HB := Aside0.mk (below_step (bl0 HB.out) hb); (try clear hb); (try clear hb2); (try clear hk); (try clear hi); (try clear ho0); obtain ⟨Ao40, co40, eo40⟩ := Kd.R_slice HO179.out; subst eo40) | ((with_reducible refine gate_callee (f := 25) rfl ?_); refine goesL_ (some 30) rfl rfl Try.func25 (by kernel_rfl) rfl #[.slice Ao40 t177.length co40, .slice A1 l1.length c1] rfl am ?_; (with_reducible refine (pochoirref01_Less.calls k1 _ _ t177 _ _ l1 t180 _ ?side1 ?side2 ?side3 ?side4 A11.out).mono ?_); (case side1 => repeat (first | exact (Kd.R_reads' HO179.out).2.2 | (with_reducible refine Kd.C_alloc ?_ _) | (with_reducible refine Kd.C_drewN ?_ _) | (with_reducible refine Kd.C_drew ?_))); (case side2 => exact (Kd.R_reads' HO179.out).2.1); (case side3 => repeat (first | exact (Kd.C_below HR1.out HB.out) | (with_reducible refine Kd.C_alloc ?_ _) | (with_reducible refine Kd.C_drewN ?_ _) | (with_reducible refine Kd.C_drew ?_))); (case side4 => exact HC1.out); rintro e w' ⟨rfl, ⟨nd, rfl⟩⟩; refine ⟨_, rfl, ?_⟩))
       go_roundg k1
       case measure => have := HK1.out; omega
       case rel => exact ⟨(x6_1), (t177), (wrap64 (x8_1 - 1)), fr, H', ⟨by have := HK1.out; omega⟩, ⟨by (with_reducible repeat (first | apply Kd.R_alloc | apply Kd.R_drewN | apply Kd.R_drew)); exact Kd.R_mono HO_6.out (fun _ hk => hk.2)⟩, ⟨by (with_reducible repeat (first | apply Kd.R_alloc | apply Kd.R_drewN | apply Kd.R_drew)); exact Kd.R_mono HO179.out (fun _ hk => hk.1.1.1.2)⟩, ⟨bl0 HB.out⟩⟩
     ·rw [if_neg c7] at H
      have c7b0 : decide (0 ≤ x8_1) = false := decide_eq_false c7
      clear c7
      simp only [Option.some.injEq, Prod.mk.injEq] at H
      obtain ⟨rfl, rfl⟩ := H
      go_wp2
      go_ret2
      exact ⟨_, _, by first | rfl | (simp [errW_none, errW_some] <;> rfl) | (simp [*, errW_none, errW_some] <;> rfl), by (with_reducible repeat (first | apply Kd.R_alloc | apply Kd.R_drewN | apply Kd.R_drew)); exact HO_6.out, by (with_reducible repeat (first | apply Kd.R_alloc | apply Kd.R_drewN | apply Kd.R_drew)); exact HO_7.out, bl0 HB.out⟩
  ·rw [if_neg c4] at H
   exact absurd H (by simp)
 ·rw [if_neg c3] at H
  exact absurd H (by simp)

/-! ### pochoirref01_Value: function 29 -/
mutual
def pochoirref01_Value.l0 : Nat → List Int → Int → Option (Int × Int × Bool)
 | 0, _, _ => none
 | k + 1, x0, x4 => if x4 < (x0.length : Int) then (if 0 ≤ x4 then (if (rd x0 x4) = 0 then (pochoirref01_Value.l0 k x0 (wrap64 (x4 + 1))) else (some (0, 0, false))) else (none)) else (pochoirref01_Value.l1 k x0 0 0 0)
def pochoirref01_Value.l1 : Nat → List Int → Int → Int → Int → Option (Int × Int × Bool)
 | 0, _, _, _, _ => none
 | k + 1, x0, x6, x189000, x189001 => if x6 < 4 then ((pochoirref01_at.f x0 x6).bind fun t189 => (if 0 ≤ (wrap64 (16 * x6)) then ((pochoirref01_at.f x0 (wrap64 (x6 + 4))).bind fun t190 => (pochoirref01_Value.l1 k x0 (wrap64 (x6 + 1)) (IntKind.u64.wrap (x189000 + (shl .u64 t190 (wrap64 (16 * x6))))) (IntKind.u64.wrap (x189001 + (shl .u64 t189 (wrap64 (16 * x6))))))) else (none))) else (some (x189000, x189001, true))
end
def pochoirref01_Value.f (k : Nat) (l0 : List Int) : Option (Int × Int × Bool) := pochoirref01_Value.l0 k l0 8
theorem pochoirref01_Value.mono_l : ∀ k, (∀ y0 y1, LeO (pochoirref01_Value.l0 k y0 y1) (pochoirref01_Value.l0 (k + 1) y0 y1)) ∧ (∀ y0 y1 y2 y3, LeO (pochoirref01_Value.l1 k y0 y1 y2 y3) (pochoirref01_Value.l1 (k + 1) y0 y1 y2 y3))
 | 0 => ⟨fun _ _ r h => by simp [pochoirref01_Value.l0] at h, fun _ _ _ _ r h => by simp [pochoirref01_Value.l1] at h⟩
 | k + 1 => by
  obtain ⟨ih0, ih1⟩ := pochoirref01_Value.mono_l k
  refine ⟨?_, ?_⟩
  ·intro y0 y1
   unfold pochoirref01_Value.l0
   repeat' first
   | (with_reducible exact ih0 _ _)
   | (with_reducible exact ih1 _ _ _ _)
   | (with_reducible exact LeO.refl _)
   | (with_reducible exact LeO.none _)
   | (with_reducible refine LeO.ite ?_ ?_)
   | (with_reducible refine LeO.bind ?_ (fun _ => ?_))
   | exact ih0 _ _
   | exact ih1 _ _ _ _
   | exact LeO.none _
   | refine LeO.ite ?_ ?_
   | refine LeO.bind ?_ (fun _ => ?_)
  ·intro y0 y1 y2 y3
   unfold pochoirref01_Value.l1
   repeat' first
   | (with_reducible exact ih0 _ _)
   | (with_reducible exact ih1 _ _ _ _)
   | (with_reducible exact LeO.refl _)
   | (with_reducible exact LeO.none _)
   | (with_reducible refine LeO.ite ?_ ?_)
   | (with_reducible refine LeO.bind ?_ (fun _ => ?_))
   | exact ih0 _ _
   | exact ih1 _ _ _ _
   | exact LeO.none _
   | refine LeO.ite ?_ ?_
   | refine LeO.bind ?_ (fun _ => ?_)
theorem pochoirref01_Value.mono : ∀ a0 k, LeO (pochoirref01_Value.f k a0) (pochoirref01_Value.f (k + 1) a0) := by
 intro a0 k
 obtain ⟨ih0, ih1⟩ := pochoirref01_Value.mono_l k
 unfold pochoirref01_Value.f
 repeat' first
   | (with_reducible exact ih0 _ _)
   | (with_reducible exact ih1 _ _ _ _)
   | (with_reducible exact LeO.refl _)
   | (with_reducible exact LeO.none _)
   | (with_reducible refine LeO.ite ?_ ?_)
   | (with_reducible refine LeO.bind ?_ (fun _ => ?_))
   | exact ih0 _ _
   | exact ih1 _ _ _ _
   | exact LeO.none _
   | refine LeO.ite ?_ ?_
   | refine LeO.bind ?_ (fun _ => ?_)
def pochoirref01_Value.T10 : Bool × List (List Nat × List Nat) := (true, [([], []), ([0], [0]), ([], []), ([], []), ([2, 3], [2, 3]), ([], []), ([5], [5]), ([4, 6], [4, 6]), ([1, 7], [1, 7]), ([0, 1, 2, 3, 4, 5, 6, 7, 8], []), ([9, 8, 4, 0, 1, 2, 3, 4, 5, 6, 7, 8], [8, 9])])
def pochoirref01_Value.B10 : List Nat := [0, 1, 0, 0, 12, 0, 32, 124, 255, 511, 1023]
theorem pochoirref01_Value.tab10 : rtab .any (opsOf Try.f29 10) = pochoirref01_Value.T10 := by kernel_rfl
theorem pochoirref01_Value.bits10 : waitsOk pochoirref01_Value.T10.2 pochoirref01_Value.B10 = true := by kernel_rfl
def pochoirref01_Value.T11 : Bool × List (List Nat × List Nat) := (true, [([], []), ([0], [0]), ([], []), ([], []), ([3], [3]), ([2, 4], [2, 4]), ([], []), ([6], [6]), ([5, 7], [5, 7]), ([1, 8], [1, 8]), ([0, 1, 2, 3, 4, 5, 6, 7, 8, 9], []), ([10, 9, 5, 0, 1, 2, 3, 4, 5, 6, 7, 8, 9], [9, 10])])
def pochoirref01_Value.B11 : List Nat := [0, 1, 0, 0, 8, 28, 0, 64, 252, 511, 1023, 2047]
theorem pochoirref01_Value.tab11 : rtab .any (opsOf Try.f29 11) = pochoirref01_Value.T11 := by kernel_rfl
theorem pochoirref01_Value.bits11 : waitsOk pochoirref01_Value.T11.2 pochoirref01_Value.B11 = true := by kernel_rfl
set_option maxHeartbeats 8000000 in
set_option maxRecDepth 100000 in
theorem pochoirref01_Value.calls (k : Nat) (A0 : Option Addr) (c0 : Nat) (l0 : List Int) (r1 : Int) (r2 : Int) (r3 : Bool) (w : World) (hr0 : Kd.C (Kd.int .u64) w A0 l0.length l0) (hc0 : l0.length ≤ c0) (h : pochoirref01_Value.f k l0 = some (r1, r2, r3)) :
  Calls Try.prog 29 #[.slice A0 l0.length c0] w fun e w' => e = .returned (.tuple #[.agg #[.int .u64 r1, .int .u64 r2], .bool r3]) ∧ Below w.heap.size w w' := by
 have hu24 := Try.underlying24
 have HR0 := Aside0.mk hr0
 have HC0 := Aside0.mk hc0
 clear hr0 hc0
 have HB := Aside0.mk (Below.refl w.heap.size w)
 have H : (pochoirref01_Value.l0 k l0 8) = some (r1, r2, r3) := h
 clear h
 have H' := Aside0.mk H
 clear H
 go_enter Try.func29, Try.ntmps29
 go_wp2_with (first | ((with_reducible refine gate_dst (N := 2) rfl ?_); refine be 2 (#[.int .u64 0, .int .u64 0]) 24 ?_; intro gb186 hg w2 hbox hb; have BK186 := Aside0.mk (hbox); have GW186 := Aside0.mk ((by rw [hg]; exact (below_size (bl0 HB.out)) : w.heap.size ≤ gb186)); have GE186 := GW186; replace HB := Aside0.mk (below_step (bl0 HB.out) hb); clear hb hbox hg))
 go_loopg [4] k (fun kq v4 w' => ∃ (x4_1 : Int) (x187000_1 : Int) (x187001_1 : Int), v4 = .int .i64 x4_1 ∧ Aside0 (pochoirref01_Value.l0 kq l0 x4_1 = some (r1, r2, r3)) ∧ Aside0 (kq ≤ k) ∧ Aside0 (w'.heap[gb186]? = some (.cells #[.int .u64 x187000_1, .int .u64 x187001_1] 24 (0, 0))) ∧ Aside0 (Below w.heap.size w w'))
 case atStart => exact ⟨(8), (0), (0), fr, H', ⟨Nat.le_refl _⟩, ⟨bk BK186.out⟩, ⟨bl1 HB.out GE186.out⟩⟩
 case round =>
  clear H'
  try clear c2
  try clear p2
  obtain ⟨x4_1, x187000_1, x187001_1, rfl, HA, HK1, BK186, HB⟩ := hrel
  cases gk with
  | zero => exact absurd HA.out (by simp [pochoirref01_Value.l0])
  | succ k1 =>
   have H := HA.out
   clear HA
   simp only [pochoirref01_Value.l0] at H
   by_cases c3 : x4_1 < (l0.length : Int)
   ·rw [if_pos c3] at H
    have c3b0 : decide (x4_1 < (l0.length : Int)) = true := decide_eq_true c3
    clear c3
    by_cases c4 : 0 ≤ x4_1
    ·rw [if_pos c4] at H
     have c4b0 : decide (0 ≤ x4_1) = true := decide_eq_true c4
     clear c4
     by_cases c5 : (rd l0 x4_1) = 0
     ·rw [if_pos c5] at H
      have c5b0 : ((rd l0 x4_1) == 0) = true := beq_iff_eq.mpr c5
      have c5b1 : ((rd l0 x4_1) != 0) = false := bne_eq_false_iff_eq.mpr c5
      clear c5
      have H' := Aside0.mk H
      clear H
      have p187 : 0 ≤ (x4_1 : Int) := of_decide_eq_true (by first | (with_reducible assumption) | assumption)
      have q187 : x4_1 < (l0.length : Int) := of_decide_eq_true (by first | (with_reducible assumption) | assumption)
      obtain ⟨ad187, e187, hx187_0⟩ := Kd.at_int HR0.out x4_1 p187 q187
      cases e187
      replace hx187_0 := (HB.out.cell (World.block_lt_of_cell? w _ hx187_0)).trans hx187_0
      replace p187 := eq_true p187
      replace q187 := eq_true q187
      go_wp2
      go_roundg k1
      case measure => have := HK1.out; omega
      case rel => exact ⟨(wrap64 (x4_1 + 1)), (x187000_1), (x187001_1), fr, H', ⟨by have := HK1.out; omega⟩, ⟨bk BK186.out⟩, ⟨bl1 HB.out GE186.out⟩⟩
     ·rw [if_neg c5] at H
      have c5b0 : ((rd l0 x4_1) == 0) = false := beq_eq_false_iff_ne.mpr c5
      have c5b1 : ((rd l0 x4_1) != 0) = true := bne_iff_ne.mpr c5
      simp only [Option.some.injEq, Prod.mk.injEq] at H
      obtain ⟨rfl, rfl, rfl⟩ := H
      have p187 : 0 ≤ (x4_1 : Int) := of_decide_eq_true (by first | (with_reducible assumption) | assumption)
      have q187 : x4_1 < (l0.length : Int) := of_decide_eq_true (by first | (with_reducible assumption) | assumption)
      obtain ⟨ad187, e187, hx187_0⟩ := Kd.at_int HR0.out x4_1 p187 q187
      cases e187
      replace hx187_0 := (HB.out.cell (World.block_lt_of_cell? w _ hx187_0)).trans hx187_0
      replace p187 := eq_true p187
      replace q187 := eq_true q187
      have hcz6_0 : wr.cell? ⟨gb186, 0, none⟩ = some (.int .u64 x187000_1) := (blk_cell BK186.out 0).trans rfl
      have hcz6_1 : wr.cell? ⟨gb186, 1, none⟩ = some (.int .u64 x187001_1) := (blk_cell BK186.out 1).trans rfl
      have hfz6_0 := blk_frozen BK186.out 0
      have hfz6_1 := blk_frozen BK186.out 1
      go_wp2
      refine bodyPost_ret (results_ct rfl _ _ gb186 24 #[.int .u64 0, .int .u64 0] (0, 0) _ rfl (bk (blk_put (cs := #[.int .u64 0, .int .u64 x187001_1]) (bk (blk_put (cs := #[.int .u64 x187000_1, .int .u64 x187001_1]) (bk BK186.out) 0 _ rfl)) 1 _ rfl)) Try.underlying24 rfl (by kernel_rfl)) rfl ?_
      exact ⟨by first | rfl | (simp [errW_none, errW_some] <;> rfl) | (simp [*, errW_none, errW_some] <;> rfl), bl1 HB.out GE186.out⟩
    ·rw [if_neg c4] at H
     exact absurd H (by simp)
   ·rw [if_neg c3] at H
    have c3b0 : decide (x4_1 < (l0.length : Int)) = false := decide_eq_false c3
    clear c3
    have H' := Aside0.mk H
    clear H
    go_wp2_with (first | ((with_reducible refine gate_dst (N := 5) rfl ?_); refine be 5 (#[.int .u64 0, .int .u64 0]) 24 ?_; intro gb188 hg w7 hbox hb; have BK188 := Aside0.mk (hbox); have GW188 := Aside0.mk ((by rw [hg]; exact (below_size (bl1 HB.out GE186.out)) : w.heap.size ≤ gb188)); have GE188 := GW188; have NB186_188 := Aside0.mk ((by rw [hg]; exact Nat.ne_of_lt (lt_ BK186.out) : gb186 ≠ gb188)); have NB188_186 := Aside0.mk ((by rw [hg]; exact Nat.ne_of_gt (lt_ BK186.out) : gb188 ≠ gb186)); replace BK186 := Aside0.mk (bb BK186.out hb); replace HB := Aside0.mk (below_step (bl1 HB.out GE186.out) hb); clear hb hbox hg; have hnb8 := NB188_186.out; have hnc8 := NB186_188.out; have hcz9_0 : w7.cell? ⟨gb188, 0, none⟩ = some (.int .u64 0) := (blk_cell BK188.out 0).trans rfl; have hcz9_1 : w7.cell? ⟨gb188, 1, none⟩ = some (.int .u64 0) := (blk_cell BK188.out 1).trans rfl; have hfz9_0 := blk_frozen BK188.out 0; have hfz9_1 := blk_frozen BK188.out 1))
    go_loopg [6] k1 (fun kq v6 w' => ∃ (x6_2 : Int) (x189000_2 : Int) (x189001_2 : Int), v6 = .int .i64 x6_2 ∧ Aside0 (pochoirref01_Value.l1 kq l0 x6_2 x189000_2 x189001_2 = some (r1, r2, r3)) ∧ Aside0 (kq ≤ k1) ∧ Aside0 (w'.heap[gb186]? = some (.cells #[.int .u64 x187000_1, .int .u64 x187001_1] 24 (0, 0))) ∧ Aside0 (w'.heap[gb188]? = some (.cells #[.int .u64 x189000_2, .int .u64 x189001_2] 24 (0, 0))) ∧ Aside0 (Below w.heap.size w w'))
    case atStart => exact ⟨(0), (0), (0), fr, H', ⟨Nat.le_refl _⟩, ⟨by (with_reducible repeat (first | refine blk_drewN ?_ _ | refine blk_drew ?_ | refine blk_alloc ?_ _)); refine blk_far ?_ NB186_188.out _; (with_reducible repeat (first | refine blk_drewN ?_ _ | refine blk_drew ?_ | refine blk_alloc ?_ _)); refine blk_far ?_ NB186_188.out _; (with_reducible repeat (first | refine blk_drewN ?_ _ | refine blk_drew ?_ | refine blk_alloc ?_ _)); exact BK186.out⟩, ⟨by (with_reducible repeat (first | refine blk_drewN ?_ _ | refine blk_drew ?_ | refine blk_alloc ?_ _)); refine blk_put (cs := #[.int .u64 0, .int .u64 0]) ?_ 1 _ rfl; (with_reducible repeat (first | refine blk_drewN ?_ _ | refine blk_drew ?_ | refine blk_alloc ?_ _)); refine blk_put (cs := #[.int .u64 0, .int .u64 0]) ?_ 0 _ rfl; (with_reducible repeat (first | refine blk_drewN ?_ _ | refine blk_drew ?_ | refine blk_alloc ?_ _)); exact BK188.out⟩, ⟨bl2 HB.out GE186.out GE188.out⟩⟩
    case round =>
     clear H'
     try clear p1
     try clear q1
     try clear hx1
     try clear c2
     try clear p2
     try clear c3
     try clear c3b0
     try clear c4
     try clear c4b0
     try clear c5
     try clear c5b0
     try clear c5b1
     try clear p6
     try clear c8
     try clear hcz6_0
     try clear hcz6_1
     try clear hcz9_0
     try clear hcz9_1
     try clear hfz6_0
     try clear hfz6_1
     try clear hfz9_0
     try clear hfz9_1
     try clear hx187_0
     try clear p187
     try clear p2
     try clear q187
     obtain ⟨x6_2, x189000_2, x189001_2, rfl, HA, HK2, BK186, BK188, HB⟩ := hrel
     cases gk with
     | zero => exact absurd HA.out (by simp [pochoirref01_Value.l1])
     | succ k2 =>
      have H := HA.out
      clear HA
      simp only [pochoirref01_Value.l1] at H
      by_cases c10 : x6_2 < 4
      ·rw [if_pos c10] at H
       have c10b0 : decide (x6_2 < 4) = true := decide_eq_true c10
       clear c10
       replace H := Option.bind_eq_some_iff.mp H
       obtain ⟨t189, A110, H⟩ := H
       replace H : (if 0 ≤ (wrap64 (16 * x6_2)) then ((pochoirref01_at.f l0 (wrap64 (x6_2 + 4))).bind fun t190 => (pochoirref01_Value.l1 k2 l0 (wrap64 (x6_2 + 1)) (IntKind.u64.wrap (x189000_2 + (shl .u64 t190 (wrap64 (16 * x6_2))))) (IntKind.u64.wrap (x189001_2 + (shl .u64 t189 (wrap64 (16 * x6_2))))))) else (none)) = some (r1, r2, r3) := H
       have A11 := Aside0.mk A110
       clear A110
       obtain ⟨ji12, hji12⟩ : ∃ j_ : Int, (wrap64 (16 * x6_2)) = j_ := ⟨_, rfl⟩
       replace H : (if 0 ≤ (ji12) then ((pochoirref01_at.f l0 (wrap64 (x6_2 + 4))).bind fun t190 => (pochoirref01_Value.l1 k2 l0 (wrap64 (x6_2 + 1)) (IntKind.u64.wrap (x189000_2 + (shl .u64 t190 (ji12)))) (IntKind.u64.wrap (x189001_2 + (shl .u64 t189 (ji12)))))) else (none)) = some (r1, r2, r3) := by first | (rw [hji12] at H; exact H) | (simp only [hji12] at H ⊢; exact H)
       (try rw [hji12] at A11)
       have hji12w : (IntKind.i64.wrap (16 * x6_2)) = ji12 := (i64_w _).trans hji12
       by_cases c13 : 0 ≤ (ji12)
       ·rw [if_pos c13] at H
        have c13b0 := eq_true c13
        have c13b1 : decide (0 ≤ (ji12)) = true := decide_eq_true c13
        clear c13
        obtain ⟨ji14, hji14⟩ : ∃ j_ : Int, (shl .u64 t189 (ji12)) = j_ := ⟨_, rfl⟩
        replace H : ((pochoirref01_at.f l0 (wrap64 (x6_2 + 4))).bind fun t190 => (pochoirref01_Value.l1 k2 l0 (wrap64 (x6_2 + 1)) (IntKind.u64.wrap (x189000_2 + (shl .u64 t190 (ji12)))) (IntKind.u64.wrap (x189001_2 + (ji14))))) = some (r1, r2, r3) := by first | (rw [hji14] at H; exact H) | (simp only [hji14] at H ⊢; exact H)
        (try rw [hji14] at A11)
        have hji14_ : (IntKind.u64.wrap (t189 * 2 ^ min (ji12).toNat 64)) = ji14 := hji14
        have hji14z : (ji12) ≤ 64 → (IntKind.u64.wrap (t189 * 2 ^ (ji12).toNat)) = ji14 := shl_small hji14
        replace H := Option.bind_eq_some_iff.mp H
        obtain ⟨t190, A150, H⟩ := H
        replace H : (pochoirref01_Value.l1 k2 l0 (wrap64 (x6_2 + 1)) (IntKind.u64.wrap (x189000_2 + (shl .u64 t190 (ji12)))) (IntKind.u64.wrap (x189001_2 + (ji14)))) = some (r1, r2, r3) := H
        have A15 := Aside0.mk A150
        clear A150
        have c16b0 := eq_true (of_decide_eq_true (by first | (with_reducible assumption) | assumption) : 0 ≤ (ji12))
        obtain ⟨ji17, hji17⟩ : ∃ j_ : Int, (shl .u64 t190 (ji12)) = j_ := ⟨_, rfl⟩
        replace H : (pochoirref01_Value.l1 k2 l0 (wrap64 (x6_2 + 1)) (IntKind.u64.wrap (x189000_2 + (ji17))) (IntKind.u64.wrap (x189001_2 + (ji14)))) = some (r1, r2, r3) := by first | (rw [hji17] at H; exact H) | (simp only [hji17] at H ⊢; exact H)
        (try rw [hji17] at A11)
        (try rw [hji17] at A15)
        have hji17_ : (IntKind.u64.wrap (t190 * 2 ^ min (ji12).toNat 64)) = ji17 := hji17
        have hji17z : (ji12) ≤ 64 → (IntKind.u64.wrap (t190 * 2 ^ (ji12).toNat)) = ji17 := shl_small hji17
        have H' := Aside0.mk H
        clear H
        try go_wp2
        replace BK186 := Aside0.mk (blk_drew BK186.out)
        replace BK188 := Aside0.mk (blk_drew BK188.out)
        replace HB := Aside0.mk (below_drew1 HB.out)
        refine start_ (n := 11) (S := fun w' => w'.cell? ⟨gb188, 0, none⟩ = some (.int .u64 x189000_2) ∧ w'.cell? ⟨gb188, 1, none⟩ = some (.int .u64 x189001_2)) (ds := [10]) (ba 11 0) (by kernel_rfl) rfl rfl ⟨(blk_cell BK188.out 0).trans rfl, (blk_cell BK188.out 1).trans rfl⟩ (fun hHeld => ?_); refine with_tabW pochoirref01_Value.tab10 pochoirref01_Value.bits10 (fun HT_ HW_ => ?_)
        generalize wr.drew = w18 at BK186 BK188 HB hHeld ⊢
        refine pI 0 24 (ba 11 1) HT_.out ?_
        refine pI 2 26 (ba 11 5) HT_.out ?_
        refine pI 3 27 (ba 11 13) HT_.out ?_
        refine pI 5 29 (ba 11 45) HT_.out ?_
        refine pI 6 30 (ba 11 109) HT_.out ?_
        refine take_ (i := 1) (N := some 25) (v := ?_) (a' := ?_) (ba 11 111) rfl rfl (take_ofW HT_.out HW_.out (by kernel_rfl)) (fun _ _ _ h => h) (Or.inl ⟨by rfl, ?_⟩) hHeld ?_ ?_
        rotate_left
        ·rintro w' ⟨s0, s1⟩
         go_simp
         with_reducible rfl
        rotate_left
        ·simp only [Act.put, List.setIfInBounds_toArray, List.set_cons_zero, List.set_cons_succ, i64_w, i32_w]
         rfl
        refine one_ (i := 4) (N := some 28) (ba 11 127) rfl rfl (one_of HT_.out (by kernel_rfl)) (by decide) (fun K hK => ?_)
        refine goes_ Try.func43 (by kernel_rfl) rfl #[.slice A0 l0.length c0, .int .i64 x6_2] (by rfl) rfl rfl am ?_
        with_reducible refine (pochoirref01_at.calls _ _ l0 x6_2 t189 _ ?side1 ?side2 A11.out).mono ?_
        (case side1 => repeat (first | exact (Kd.C_below HR0.out HB.out) | (with_reducible refine Kd.C_alloc ?_ _) | (with_reducible refine Kd.C_drewN ?_ _) | (with_reducible refine Kd.C_drew ?_)))
        (case side2 => exact HC0.out)
        rintro e w' ⟨rfl, ⟨nd, rfl⟩⟩
        refine ⟨_, rfl, ?_⟩
        refine hK.out _ _ ⟨(blk_cell BK188.out 0).trans rfl, (blk_cell BK188.out 1).trans rfl⟩ (fun hHeld => ?_)
        clear hK K
        replace BK186 := Aside0.mk (blk_drewN BK186.out nd)
        replace BK188 := Aside0.mk (blk_drewN BK188.out nd)
        replace HB := Aside0.mk (pw_below_drewN HB.out nd)
        generalize w18.drewN nd = w18 at BK186 BK188 HB hHeld ⊢
        refine norm_ (a' := ?_) ?_ ?_
        rotate_left
        ·show Act.put _ (some 28) _ = _
         simp only [Act.put, List.setIfInBounds_toArray, List.set_cons_zero, List.set_cons_succ, i64_w, i32_w]
         rfl
        refine pI 7 31 (ba 11 255) HT_.out ?_
        refine pI 8 32 (ba 11 511) HT_.out ?_
        refine pI 9 33 (ba 11 1023) HT_.out ?_
        refine last_ (i := 10) (N := none) (ba 11 2047) rfl rfl (one_of HT_.out (by kernel_rfl)) (by decide) (fun K hK => ?_)
        have hs19 : w18.cell? ⟨gb188, 1, none⟩ = some (.int .u64 x189001_2) := (blk_cell BK188.out 1).trans rfl
        have hfs19 := blk_frozen BK188.out 1
        have hns19_0 := NB186_188.out
        have hms19_0 := NB188_186.out
        refine skip_ (w1 := ?_) (by rfl) rfl ?_ ?_
        rotate_left
        ·go_simp
         rfl
        refine hK.out _ _ ?_
        clear hK K
        refine done_ (done_of HT_.out (by kernel_rfl)) ?_
        try go_wp2
        have n0_ : Aside0 ((w18.setCell ⟨gb188, 1, none⟩ (.int .u64 (IntKind.u64.wrap (x189001_2 + (ji14))))).heap[gb186]? = some (.cells #[.int .u64 x187000_1, .int .u64 x187001_1] 24 (0, 0))) := ⟨by (with_reducible repeat (first | refine blk_drewN ?_ _ | refine blk_drew ?_ | refine blk_alloc ?_ _)); refine blk_far ?_ NB186_188.out _; (with_reducible repeat (first | refine blk_drewN ?_ _ | refine blk_drew ?_ | refine blk_alloc ?_ _)); exact BK186.out⟩
        have n1_ : Aside0 ((w18.setCell ⟨gb188, 1, none⟩ (.int .u64 (IntKind.u64.wrap (x189001_2 + (ji14))))).heap[gb188]? = some (.cells #[.int .u64 x189000_2, .int .u64 (IntKind.u64.wrap (x189001_2 + (ji14)))] 24 (0, 0))) := ⟨by (with_reducible repeat (first | refine blk_drewN ?_ _ | refine blk_drew ?_ | refine blk_alloc ?_ _)); refine blk_put (cs := #[.int .u64 x189000_2, .int .u64 x189001_2]) ?_ 1 _ rfl; (with_reducible repeat (first | refine blk_drewN ?_ _ | refine blk_drew ?_ | refine blk_alloc ?_ _)); exact BK188.out⟩
        have n2_ : Aside0 (Below w.heap.size w (w18.setCell ⟨gb188, 1, none⟩ (.int .u64 (IntKind.u64.wrap (x189001_2 + (ji14)))))) := ⟨bl2 HB.out GE186.out GE188.out⟩
        (try clear BK186)
        (try clear BK188)
        (try clear HB)
        generalize (w18.setCell ⟨gb188, 1, none⟩ (.int .u64 (IntKind.u64.wrap (x189001_2 + (ji14))))) = w20 at n0_ n1_ n2_ ⊢
        have BK186 := n0_
        have BK188 := n1_
        have HB := n2_
        clear n0_ n1_ n2_
        (try (rw [drewN_self w20]; generalize hq_ : World.drewN w20 _ = w20; replace BK186 : Aside0 (w20.heap[gb186]? = some (.cells #[.int .u64 x187000_1, .int .u64 x187001_1] 24 (0, 0))) := ⟨by rw [← hq_]; exact (bk BK186.out)⟩; replace BK188 : Aside0 (w20.heap[gb188]? = some (.cells #[.int .u64 x189000_2, .int .u64 (IntKind.u64.wrap (x189001_2 + (ji14)))] 24 (0, 0))) := ⟨by rw [← hq_]; exact (bk BK188.out)⟩; replace HB : Aside0 (Below w.heap.size w w20) := ⟨by rw [← hq_]; exact (bl2 HB.out GE186.out GE188.out)⟩; clear hq_))
        replace BK186 := Aside0.mk (blk_drew BK186.out)
        replace BK188 := Aside0.mk (blk_drew BK188.out)
        replace HB := Aside0.mk (below_drew1 HB.out)
        refine start_ (n := 12) (S := fun w' => w'.cell? ⟨gb188, 0, none⟩ = some (.int .u64 x189000_2) ∧ w'.cell? ⟨gb188, 1, none⟩ = some (.int .u64 (IntKind.u64.wrap (x189001_2 + (ji14))))) (ds := [11]) (ba 12 0) (by kernel_rfl) rfl rfl ⟨(blk_cell BK188.out 0).trans rfl, (blk_cell BK188.out 1).trans rfl⟩ (fun hHeld => ?_); refine with_tabW pochoirref01_Value.tab11 pochoirref01_Value.bits11 (fun HT_ HW_ => ?_)
        generalize w20.drew = w21 at BK186 BK188 HB hHeld ⊢
        refine pI 0 34 (ba 12 1) HT_.out ?_
        refine pI 2 36 (ba 12 5) HT_.out ?_
        refine pI 3 37 (ba 12 13) HT_.out ?_
        refine pI 4 38 (ba 12 29) HT_.out ?_
        refine pI 6 40 (ba 12 93) HT_.out ?_
        refine pI 7 41 (ba 12 221) HT_.out ?_
        refine take_ (i := 1) (N := some 35) (v := ?_) (a' := ?_) (ba 12 223) rfl rfl (take_ofW HT_.out HW_.out (by kernel_rfl)) (fun _ _ _ h => h) (Or.inl ⟨by rfl, ?_⟩) hHeld ?_ ?_
        rotate_left
        ·rintro w' ⟨s0, s1⟩
         go_simp
         with_reducible rfl
        rotate_left
        ·simp only [Act.put, List.setIfInBounds_toArray, List.set_cons_zero, List.set_cons_succ, i64_w, i32_w]
         rfl
        refine one_ (i := 5) (N := some 39) (ba 12 255) rfl rfl (one_of HT_.out (by kernel_rfl)) (by decide) (fun K hK => ?_)
        refine goes_ Try.func43 (by kernel_rfl) rfl #[.slice A0 l0.length c0, .int .i64 (wrap64 (x6_2 + 4))] (by rfl) rfl rfl am ?_
        with_reducible refine (pochoirref01_at.calls _ _ l0 (wrap64 (x6_2 + 4)) t190 _ ?side1 ?side2 A15.out).mono ?_
        (case side1 => repeat (first | exact (Kd.C_below HR0.out HB.out) | (with_reducible refine Kd.C_alloc ?_ _) | (with_reducible refine Kd.C_drewN ?_ _) | (with_reducible refine Kd.C_drew ?_)))
        (case side2 => exact HC0.out)
        rintro e w' ⟨rfl, ⟨nd, rfl⟩⟩
        refine ⟨_, rfl, ?_⟩
        refine hK.out _ _ ⟨(blk_cell BK188.out 0).trans rfl, (blk_cell BK188.out 1).trans rfl⟩ (fun hHeld => ?_)
        clear hK K
        replace BK186 := Aside0.mk (blk_drewN BK186.out nd)
        replace BK188 := Aside0.mk (blk_drewN BK188.out nd)
        replace HB := Aside0.mk (pw_below_drewN HB.out nd)
        generalize w21.drewN nd = w21 at BK186 BK188 HB hHeld ⊢
        refine norm_ (a' := ?_) ?_ ?_
        rotate_left
        ·show Act.put _ (some 39) _ = _
         simp only [Act.put, List.setIfInBounds_toArray, List.set_cons_zero, List.set_cons_succ, i64_w, i32_w]
         rfl
        refine pI 8 42 (ba 12 511) HT_.out ?_
        refine pI 9 43 (ba 12 1023) HT_.out ?_
        refine pI 10 44 (ba 12 2047) HT_.out ?_
        refine last_ (i := 11) (N := none) (ba 12 4095) rfl rfl (one_of HT_.out (by kernel_rfl)) (by decide) (fun K hK => ?_)
        have hs22 : w21.cell? ⟨gb188, 0, none⟩ = some (.int .u64 x189000_2) := (blk_cell BK188.out 0).trans rfl
        have hfs22 := blk_frozen BK188.out 0
        have hns22_0 := NB186_188.out
        have hms22_0 := NB188_186.out
        refine skip_ (w1 := ?_) (by rfl) rfl ?_ ?_
        rotate_left
        ·go_simp
         rfl
        refine hK.out _ _ ?_
        clear hK K
        refine done_ (done_of HT_.out (by kernel_rfl)) ?_
        try go_wp2
        go_roundg k2
        case measure => have := HK1.out; have := HK2.out; omega
        case rel => exact ⟨(wrap64 (x6_2 + 1)), (IntKind.u64.wrap (x189000_2 + (ji17))), (IntKind.u64.wrap (x189001_2 + (ji14))), fr, H', ⟨by have := HK1.out; have := HK2.out; omega⟩, ⟨by (with_reducible repeat (first | refine blk_drewN ?_ _ | refine blk_drew ?_ | refine blk_alloc ?_ _)); refine blk_far ?_ NB186_188.out _; (with_reducible repeat (first | refine blk_drewN ?_ _ | refine blk_drew ?_ | refine blk_alloc ?_ _)); exact BK186.out⟩, ⟨by (with_reducible repeat (first | refine blk_drewN ?_ _ | refine blk_drew ?_ | refine blk_alloc ?_ _)); refine blk_put (cs := #[.int .u64 x189000_2, .int .u64 (IntKind.u64.wrap (x189001_2 + (ji14)))]) ?_ 0 _ rfl; (with_reducible repeat (first | refine blk_drewN ?_ _ | refine blk_drew ?_ | refine blk_alloc ?_ _)); exact BK188.out⟩, ⟨bl2 HB.out GE186.out GE188.out⟩⟩
       ·rw [if_neg c13] at H
        exact absurd H (by simp)
      ·rw [if_neg c10] at H
       have c10b0 : decide (x6_2 < 4) = false := decide_eq_false c10
       clear c10
       simp only [Option.some.injEq, Prod.mk.injEq] at H
       obtain ⟨rfl, rfl, rfl⟩ := H
       have hnb23 := NB188_186.out
       have hnc23 := NB186_188.out
       have hcz24_0 : wr.cell? ⟨gb188, 0, none⟩ = some (.int .u64 x189000_2) := (blk_cell BK188.out 0).trans rfl
       have hcz24_1 : wr.cell? ⟨gb188, 1, none⟩ = some (.int .u64 x189001_2) := (blk_cell BK188.out 1).trans rfl
       have hfz24_0 := blk_frozen BK188.out 0
       have hfz24_1 := blk_frozen BK188.out 1
       have hcz25_0 : wr.cell? ⟨gb186, 0, none⟩ = some (.int .u64 x187000_1) := (blk_cell BK186.out 0).trans rfl
       have hcz25_1 : wr.cell? ⟨gb186, 1, none⟩ = some (.int .u64 x187001_1) := (blk_cell BK186.out 1).trans rfl
       have hfz25_0 := blk_frozen BK186.out 0
       have hfz25_1 := blk_frozen BK186.out 1
       go_wp2
       refine bodyPost_ret (results_ct rfl _ _ gb186 24 #[.int .u64 x189000_2, .int .u64 x189001_2] (0, 0) _ rfl (bk (blk_put (cs := #[.int .u64 x189000_2, .int .u64 x187001_1]) (bk (blk_put (cs := #[.int .u64 x187000_1, .int .u64 x187001_1]) (bk BK186.out) 0 _ rfl)) 1 _ rfl)) Try.underlying24 rfl (by kernel_rfl)) rfl ?_
       exact ⟨by first | rfl | (simp [errW_none, errW_some] <;> rfl) | (simp [*, errW_none, errW_some] <;> rfl), bl2 HB.out GE186.out GE188.out⟩

end Go.Proofs.Ytjjnkadfoepflaa.XWide
