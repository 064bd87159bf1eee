-- Printed by a program of this claim. Not trusted: Lean checks it.
import Derived.Test.YtjjnkadfoepflaaXWidex0
namespace Go.Proofs.Ytjjnkadfoepflaa.XWide
open Go.RowKit Go.Proofs.YtjjnkadfoepflaaW.PrintWords Go.Proofs.YtjjnkadfoepflaaW.PrintLast Go.Proofs.YtjjnkadfoepflaaW.PrintMore
attribute [local go_sem] max2_int min2_int max_two min_two max_three min_three max_four min_four   -- for this text's walks alone
set_option linter.unusedVariables false
set_option linter.unusedSimpArgs false
open XOpen

/-! ### pochoirref01_Digits: function 26 -/
mutual
def pochoirref01_Digits.l0 : Nat → List Int → Int → Int → Int → Option (List Int)
 | 0, _, _, _, _ => none
 | k + 1, x3, x4, x145000, x145001 => if x4 < 4 then (if 0 ≤ (wrap64 (16 * x4)) then (if x3.length < 17592186044416 then (pochoirref01_Digits.l0 k (x3 ++ [Int.tmod (shr .u64 x145001 (wrap64 (16 * x4))) 65536]) (wrap64 (x4 + 1)) x145000 x145001) else (none)) else (none)) else (pochoirref01_Digits.l1 k x3 0 x145000 x145001)
def pochoirref01_Digits.l1 : Nat → List Int → Int → Int → Int → Option (List Int)
 | 0, _, _, _, _ => none
 | k + 1, x3, x5, x145000, x145001 => if x5 < 4 then (if 0 ≤ (wrap64 (16 * x5)) then (if x3.length < 17592186044416 then (pochoirref01_Digits.l1 k (x3 ++ [Int.tmod (shr .u64 x145000 (wrap64 (16 * x5))) 65536]) (wrap64 (x5 + 1)) x145000 x145001) else (none)) else (none)) else (some x3)
end
def pochoirref01_Digits.f (k : Nat) (a0_0 : Int) (a0_1 : Int) : Option (List Int) := pochoirref01_Digits.l0 k ([] : List Int) 0 a0_0 a0_1
theorem pochoirref01_Digits.mono_l : ∀ k, (∀ y0 y1 y2 y3, LeO (pochoirref01_Digits.l0 k y0 y1 y2 y3) (pochoirref01_Digits.l0 (k + 1) y0 y1 y2 y3)) ∧ (∀ y0 y1 y2 y3, LeO (pochoirref01_Digits.l1 k y0 y1 y2 y3) (pochoirref01_Digits.l1 (k + 1) y0 y1 y2 y3))
 | 0 => ⟨fun _ _ _ _ r h => by simp [pochoirref01_Digits.l0] at h, fun _ _ _ _ r h => by simp [pochoirref01_Digits.l1] at h⟩
 | k + 1 => by
  obtain ⟨ih0, ih1⟩ := pochoirref01_Digits.mono_l k
  refine ⟨?_, ?_⟩
  ·intro y0 y1 y2 y3
   unfold pochoirref01_Digits.l0
   repeat' first
   | (with_reducible exact ih0 _ _ _ _)
   | (with_reducible exact ih1 _ _ _ _)
   | (with_reducible exact LeO.refl _)
   | (with_reducible exact LeO.none _)
   | (with_reducible refine LeO.ite ?_ ?_)
   | (with_reducible refine LeO.bind ?_ (fun _ => ?_))
   | exact ih0 _ _ _ _
   | exact ih1 _ _ _ _
   | exact LeO.none _
   | refine LeO.ite ?_ ?_
   | refine LeO.bind ?_ (fun _ => ?_)
  ·intro y0 y1 y2 y3
   unfold pochoirref01_Digits.l1
   repeat' first
   | (with_reducible exact ih0 _ _ _ _)
   | (with_reducible exact ih1 _ _ _ _)
   | (with_reducible exact LeO.refl _)
   | (with_reducible exact LeO.none _)
   | (with_reducible refine LeO.ite ?_ ?_)
   | (with_reducible refine LeO.bind ?_ (fun _ => ?_))
   | exact ih0 _ _ _ _
   | exact ih1 _ _ _ _
   | exact LeO.none _
   | refine LeO.ite ?_ ?_
   | refine LeO.bind ?_ (fun _ => ?_)
theorem pochoirref01_Digits.mono : ∀ a0 a1 k, LeO (pochoirref01_Digits.f k a0 a1) (pochoirref01_Digits.f (k + 1) a0 a1) := by
 intro a0 a1 k
 obtain ⟨ih0, ih1⟩ := pochoirref01_Digits.mono_l k
 unfold pochoirref01_Digits.f
 repeat' first
   | (with_reducible exact ih0 _ _ _ _)
   | (with_reducible exact ih1 _ _ _ _)
   | (with_reducible exact LeO.refl _)
   | (with_reducible exact LeO.none _)
   | (with_reducible refine LeO.ite ?_ ?_)
   | (with_reducible refine LeO.bind ?_ (fun _ => ?_))
   | exact ih0 _ _ _ _
   | exact ih1 _ _ _ _
   | exact LeO.none _
   | refine LeO.ite ?_ ?_
   | refine LeO.bind ?_ (fun _ => ?_)
set_option maxHeartbeats 8000000 in
set_option maxRecDepth 100000 in
theorem pochoirref01_Digits.calls (k : Nat) (a0_0 : Int) (a0_1 : Int) (r : List Int) (w : World) (h : pochoirref01_Digits.f k a0_0 a0_1 = some r) :
  Calls Try.prog 26 #[.agg #[.int .u64 a0_0, .int .u64 a0_1]] w fun e w' => ∃ v0_ : Value, e = .returned (v0_) ∧ Kd.R (Kd.int .u64) 22 w' w.heap.size (fun _ => True) v0_ r ∧ Below w.heap.size w w' := by
 have hu24 := Try.underlying24
 have HB := Aside0.mk (Below.refl w.heap.size w)
 have H : (pochoirref01_Digits.l0 k ([] : List Int) 0 a0_0 a0_1) = some r := h
 clear h
 have H' := Aside0.mk H
 clear H
 go_enter Try.func26, Try.ntmps26
 go_wp2_with (first | ((with_reducible refine gate_dst (N := 1) rfl ?_); refine be 1 (#[.int .u64 a0_0, .int .u64 a0_1]) 24 ?_; intro gb144 hg w2 hbox hb; have BK144 := Aside0.mk (hbox); have GW144 := Aside0.mk ((by rw [hg]; exact (below_size (bl0 HB.out)) : w.heap.size ≤ gb144)); have GE144 := GW144; replace HB := Aside0.mk (below_step (bl0 HB.out) hb); clear hb hbox hg))
 go_loopg [3, 4] k (fun kq v3 v4 w' => ∃ (x3_1 : List Int) (x4_1 : Int), v4 = .int .i64 x4_1 ∧ Aside0 (pochoirref01_Digits.l0 kq x3_1 x4_1 a0_0 a0_1 = some r) ∧ Aside0 (kq ≤ k) ∧ Aside0 (Kd.R (Kd.int .u64) 22 w' w.heap.size (fun _ => True) v3 x3_1) ∧ Aside0 (w'.heap[gb144]? = some (.cells #[.int .u64 a0_0, .int .u64 a0_1] 24 (0, 0))) ∧ Aside0 (Below w.heap.size w w'))
 case atStart => exact ⟨(([] : List Int)), (0), fr, H', ⟨Nat.le_refl _⟩, ⟨by first | exact Kd.R_nil _ _ _ _ _ | exact Kd.N_nil _ _ _ _ _ | exact Kd.V_nil _ _ _ _ _ | exact Kd.Q_nil _ _ _ _ _ | exact Kd.S_nil _ _ _ _ _⟩, ⟨bk BK144.out⟩, ⟨bl1 HB.out GE144.out⟩⟩
 case round =>
  clear H'
  try clear c2
  try clear p2
  obtain ⟨x3_1, x4_1, rfl, HA, HK1, HO_3, BK144, HB⟩ := hrel
  cases gk with
  | zero => exact absurd HA.out (by simp [pochoirref01_Digits.l0])
  | succ k1 =>
   have H := HA.out
   clear HA
   simp only [pochoirref01_Digits.l0] at H
   by_cases c3 : x4_1 < 4
   ·rw [if_pos c3] at H
    have c3b0 : decide (x4_1 < 4) = true := decide_eq_true c3
    clear c3
    obtain ⟨ji4, hji4⟩ : ∃ j_ : Int, (wrap64 (16 * x4_1)) = j_ := ⟨_, rfl⟩
    replace H : (if 0 ≤ (ji4) then (if x3_1.length < 17592186044416 then (pochoirref01_Digits.l0 k1 (x3_1 ++ [Int.tmod (shr .u64 a0_1 (ji4)) 65536]) (wrap64 (x4_1 + 1)) a0_0 a0_1) else (none)) else (none)) = some r := by first | (rw [hji4] at H; exact H) | (simp only [hji4] at H ⊢; exact H)
    have hji4w : (IntKind.i64.wrap (16 * x4_1)) = ji4 := (i64_w _).trans hji4
    by_cases c5 : 0 ≤ (ji4)
    ·rw [if_pos c5] at H
     have c5b0 := eq_true c5
     have c5b1 : decide (0 ≤ (ji4)) = true := decide_eq_true c5
     clear c5
     obtain ⟨ji6, hji6⟩ : ∃ j_ : Int, (shr .u64 a0_1 (ji4)) = j_ := ⟨_, rfl⟩
     replace H : (if x3_1.length < 17592186044416 then (pochoirref01_Digits.l0 k1 (x3_1 ++ [Int.tmod (ji6) 65536]) (wrap64 (x4_1 + 1)) a0_0 a0_1) else (none)) = some r := by first | (rw [hji6] at H; exact H) | (simp only [hji6] at H ⊢; exact H)
     have hji6_ : (a0_1 / 2 ^ min (ji4).toNat 64) = ji6 := hji6
     have hji6z : (ji4) ≤ 64 → (a0_1 / 2 ^ (ji4).toNat) = ji6 := shr_small hji6
     by_cases c7 : x3_1.length < 17592186044416
     ·rw [if_pos c7] at H
      have LMc7 := Aside0.mk c7
      clear c7
      obtain ⟨y145, hy145⟩ : ∃ y_ : List Int, y_ = (x3_1 ++ [Int.tmod (ji6) 65536]) := ⟨_, rfl⟩
      replace H : (pochoirref01_Digits.l0 k1 y145 (wrap64 (x4_1 + 1)) a0_0 a0_1) = some r := by first | (rw [hy145]; with_reducible exact H) | (have H2_ := (Option.bind_some _ _).symm.trans H; rw [hy145]; with_reducible exact H2_) | (have H2_ := (Option.bind_some _ _).symm.trans H; with_reducible exact H2_) | with_reducible exact H | (rw [hy145]; exact H) | exact H
      have Ny145 := Aside0.mk hy145
      clear hy145
      have H' := Aside0.mk H
      clear H
      have hcz8_0 : wr.cell? ⟨gb144, 0, none⟩ = some (.int .u64 a0_0) := (blk_cell BK144.out 0).trans rfl
      have hcz8_1 : wr.cell? ⟨gb144, 1, none⟩ = some (.int .u64 a0_1) := (blk_cell BK144.out 1).trans rfl
      have hfz8_0 := blk_frozen BK144.out 0
      have hfz8_1 := blk_frozen BK144.out 1
      go_wp2_with (first | ((with_reducible refine gate_builtin (b := .append) (xs := #[.tmp 10, .tmp 17]) rfl ?_); at_builtin; refine Kd.R_append (Kd.int .u64) (w0 := w) w.heap.size rfl (.tmp 10) (.tmp 17) 48 22 (.int .u64 0) 8 rfl Try.underlying48 info22 rfl (by decide) (by omega) u3 x3_1 (Int.tmod (ji6) 65536) [.int .u64 (Int.tmod (ji6) 65536)] (fun _ => True) (fun _ => False) rfl rfl ?aP (fun _ hk => hk.elim) ?aF ?aO ?aB ?aS ?aL ?_; (case aP => exact rfl); (case aB => exact (bl1 HB.out GE144.out)); (case aF => exact (fun _ _ => trivial)); (case aO => exact (by (with_reducible repeat (first | apply Kd.R_alloc | apply Kd.R_drewN | apply Kd.R_drew)); exact HO_3.out)); (case aS => exact (below_size (bl1 HB.out GE144.out))); (case aL => have := LMc7.out; omega); intro v146 w9 ho hb hg hat; rw [← Ny145.out] at ho; have HO147 := Aside0.mk (ho); replace BK144 := Aside0.mk (blk_grown (g := gb144) (o := .cells #[.int .u64 a0_0, .int .u64 a0_1] 24 (0, 0)) (bk BK144.out) hg (Kd.R_ne HO_3.out BK144.out (by decide))); replace HB := Aside0.mk (hb); clear HO_3 ho hb hg hat))
      go_roundg k1
      case measure => have := HK1.out; omega
      case rel => exact ⟨(y145), (wrap64 (x4_1 + 1)), fr, H', ⟨by have := HK1.out; omega⟩, ⟨by (with_reducible repeat (first | apply Kd.R_alloc | apply Kd.R_drewN | apply Kd.R_drew)); exact HO147.out⟩, ⟨bk BK144.out⟩, ⟨bl1 HB.out GE144.out⟩⟩
     ·rw [if_neg c7] at H
      exact absurd H (by simp)
    ·rw [if_neg c5] at H
     exact absurd H (by simp)
   ·rw [if_neg c3] at H
    have c3b0 : decide (x4_1 < 4) = false := decide_eq_false c3
    clear c3
    have H' := Aside0.mk H
    clear H
    go_wp2
    go_loopg [3, 5] k1 (fun kq v3 v5 w' => ∃ (x3_2 : List Int) (x5_2 : Int), v5 = .int .i64 x5_2 ∧ Aside0 (pochoirref01_Digits.l1 kq x3_2 x5_2 a0_0 a0_1 = some r) ∧ Aside0 (kq ≤ k1) ∧ Aside0 (Kd.R (Kd.int .u64) 22 w' w.heap.size (fun _ => True) v3 x3_2) ∧ Aside0 (w'.heap[gb144]? = some (.cells #[.int .u64 a0_0, .int .u64 a0_1] 24 (0, 0))) ∧ Aside0 (Below w.heap.size w w'))
    case atStart => exact ⟨(x3_1), (0), fr, H', ⟨Nat.le_refl _⟩, ⟨by (with_reducible repeat (first | apply Kd.R_alloc | apply Kd.R_drewN | apply Kd.R_drew)); exact HO_3.out⟩, ⟨bk BK144.out⟩, ⟨bl1 HB.out GE144.out⟩⟩
    case round =>
     clear H'
     try clear c2
     try clear p2
     try clear c3
     try clear c3b0
     try clear c5
     try clear c5b0
     try clear c5b1
     try clear p6
     try clear c7
     try clear hcz8_0
     try clear hcz8_1
     try clear hfz8_0
     try clear hfz8_1
     try clear p2
     obtain ⟨x3_2, x5_2, rfl, HA, HK2, HO_3, BK144, HB⟩ := hrel
     cases gk with
     | zero => exact absurd HA.out (by simp [pochoirref01_Digits.l1])
     | succ k2 =>
      have H := HA.out
      clear HA
      simp only [pochoirref01_Digits.l1] at H
      by_cases c10 : x5_2 < 4
      ·rw [if_pos c10] at H
       have c10b0 : decide (x5_2 < 4) = true := decide_eq_true c10
       clear c10
       obtain ⟨ji11, hji11⟩ : ∃ j_ : Int, (wrap64 (16 * x5_2)) = j_ := ⟨_, rfl⟩
       replace H : (if 0 ≤ (ji11) then (if x3_2.length < 17592186044416 then (pochoirref01_Digits.l1 k2 (x3_2 ++ [Int.tmod (shr .u64 a0_0 (ji11)) 65536]) (wrap64 (x5_2 + 1)) a0_0 a0_1) else (none)) else (none)) = some r := by first | (rw [hji11] at H; exact H) | (simp only [hji11] at H ⊢; exact H)
       have hji11w : (IntKind.i64.wrap (16 * x5_2)) = ji11 := (i64_w _).trans hji11
       by_cases c12 : 0 ≤ (ji11)
       ·rw [if_pos c12] at H
        have c12b0 := eq_true c12
        have c12b1 : decide (0 ≤ (ji11)) = true := decide_eq_true c12
        clear c12
        obtain ⟨ji13, hji13⟩ : ∃ j_ : Int, (shr .u64 a0_0 (ji11)) = j_ := ⟨_, rfl⟩
        replace H : (if x3_2.length < 17592186044416 then (pochoirref01_Digits.l1 k2 (x3_2 ++ [Int.tmod (ji13) 65536]) (wrap64 (x5_2 + 1)) a0_0 a0_1) else (none)) = some r := by first | (rw [hji13] at H; exact H) | (simp only [hji13] at H ⊢; exact H)
        have hji13_ : (a0_0 / 2 ^ min (ji11).toNat 64) = ji13 := hji13
        have hji13z : (ji11) ≤ 64 → (a0_0 / 2 ^ (ji11).toNat) = ji13 := shr_small hji13
        by_cases c14 : x3_2.length < 17592186044416
        ·rw [if_pos c14] at H
         have LMc14 := Aside0.mk c14
         clear c14
         obtain ⟨y148, hy148⟩ : ∃ y_ : List Int, y_ = (x3_2 ++ [Int.tmod (ji13) 65536]) := ⟨_, rfl⟩
         replace H : (pochoirref01_Digits.l1 k2 y148 (wrap64 (x5_2 + 1)) a0_0 a0_1) = some r := by first | (rw [hy148]; with_reducible exact H) | (have H2_ := (Option.bind_some _ _).symm.trans H; rw [hy148]; with_reducible exact H2_) | (have H2_ := (Option.bind_some _ _).symm.trans H; with_reducible exact H2_) | with_reducible exact H | (rw [hy148]; exact H) | exact H
         have Ny148 := Aside0.mk hy148
         clear hy148
         have H' := Aside0.mk H
         clear H
         have hcz15_0 : wr.cell? ⟨gb144, 0, none⟩ = some (.int .u64 a0_0) := (blk_cell BK144.out 0).trans rfl
         have hcz15_1 : wr.cell? ⟨gb144, 1, none⟩ = some (.int .u64 a0_1) := (blk_cell BK144.out 1).trans rfl
         have hfz15_0 := blk_frozen BK144.out 0
         have hfz15_1 := blk_frozen BK144.out 1
         go_wp2_with (first | ((with_reducible refine gate_builtin (b := .append) (xs := #[.tmp 23, .tmp 30]) rfl ?_); at_builtin; refine Kd.R_append (Kd.int .u64) (w0 := w) w.heap.size rfl (.tmp 23) (.tmp 30) 48 22 (.int .u64 0) 8 rfl Try.underlying48 info22 rfl (by decide) (by omega) u3 x3_2 (Int.tmod (ji13) 65536) [.int .u64 (Int.tmod (ji13) 65536)] (fun _ => True) (fun _ => False) rfl rfl ?aP (fun _ hk => hk.elim) ?aF ?aO ?aB ?aS ?aL ?_; (case aP => exact rfl); (case aB => exact (bl1 HB.out GE144.out)); (case aF => exact (fun _ _ => trivial)); (case aO => exact (by (with_reducible repeat (first | apply Kd.R_alloc | apply Kd.R_drewN | apply Kd.R_drew)); exact HO_3.out)); (case aS => exact (below_size (bl1 HB.out GE144.out))); (case aL => have := LMc14.out; omega); intro v149 w16 ho hb hg hat; rw [← Ny148.out] at ho; have HO150 := Aside0.mk (ho); replace BK144 := Aside0.mk (blk_grown (g := gb144) (o := .cells #[.int .u64 a0_0, .int .u64 a0_1] 24 (0, 0)) (bk BK144.out) hg (Kd.R_ne HO_3.out BK144.out (by decide))); replace HB := Aside0.mk (hb); clear HO_3 ho hb hg hat))
         go_roundg k2
         case measure => have := HK1.out; have := HK2.out; omega
         case rel => exact ⟨(y148), (wrap64 (x5_2 + 1)), fr, H', ⟨by have := HK1.out; have := HK2.out; omega⟩, ⟨by (with_reducible repeat (first | apply Kd.R_alloc | apply Kd.R_drewN | apply Kd.R_drew)); exact HO150.out⟩, ⟨bk BK144.out⟩, ⟨bl1 HB.out GE144.out⟩⟩
        ·rw [if_neg c14] at H
         exact absurd H (by simp)
       ·rw [if_neg c12] at H
        exact absurd H (by simp)
      ·rw [if_neg c10] at H
       have c10b0 : decide (x5_2 < 4) = false := decide_eq_false c10
       clear c10
       obtain rfl := Option.some.inj H
       go_wp2
       go_ret
       exact ⟨_, by first | rfl | (simp [errW_none, errW_some] <;> rfl) | (simp [*, errW_none, errW_some] <;> rfl), by (with_reducible repeat (first | apply Kd.R_alloc | apply Kd.R_drewN | apply Kd.R_drew)); exact HO_3.out, bl1 HB.out GE144.out⟩

/-! ### pochoirref01_at: function 43 -/
def pochoirref01_at.f (l0 : List Int) (a1 : Int) : Option (Int) := if a1 < (l0.length : Int) then (if 0 ≤ a1 then (some (rd l0 a1)) else (none)) else (some 0)
set_option maxHeartbeats 8000000 in
set_option maxRecDepth 100000 in
theorem pochoirref01_at.calls (A0 : Option Addr) (c0 : Nat) (l0 : List Int) (a1 : Int) (r : Int) (w : World) (hr0 : Kd.C (Kd.int .u64) w A0 l0.length l0) (hc0 : l0.length ≤ c0) (h : pochoirref01_at.f l0 a1 = some r) :
  Calls Try.prog 43 #[.slice A0 l0.length c0, .int .i64 a1] w fun e w' => e = .returned (.int .u64 r) ∧ Drawn0 w w' := by
 have HR0 := Aside0.mk hr0
 have HC0 := Aside0.mk hc0
 clear hr0 hc0
 have H : (if a1 < (l0.length : Int) then (if 0 ≤ a1 then (some (rd l0 a1)) else (none)) else (some 0)) = some r := h
 clear h
 by_cases c3 : a1 < (l0.length : Int)
 ·rw [if_pos c3] at H
  have c3b0 : decide (a1 < (l0.length : Int)) = true := decide_eq_true c3
  clear c3
  by_cases c4 : 0 ≤ a1
  ·rw [if_pos c4] at H
   have c4b0 : decide (0 ≤ a1) = true := decide_eq_true c4
   clear c4
   obtain rfl := Option.some.inj H
   have p151 : 0 ≤ (a1 : Int) := of_decide_eq_true (by first | (with_reducible assumption) | assumption)
   have q151 : a1 < (l0.length : Int) := of_decide_eq_true (by first | (with_reducible assumption) | assumption)
   obtain ⟨ad151, e151, hx151_0⟩ := Kd.at_int HR0.out a1 p151 q151
   cases e151
   replace p151 := eq_true p151
   replace q151 := eq_true q151
   go_enter Try.func43, Try.ntmps43
   go_wp2
   go_ret
   exact ⟨by first | rfl | (simp; done) | (simp [*]; done), by repeat (first | exact Drawn0.refl _ | apply Drawn0.step)⟩
  ·rw [if_neg c4] at H
   exact absurd H (by simp)
 ·rw [if_neg c3] at H
  have c3b0 : decide (a1 < (l0.length : Int)) = false := decide_eq_false c3
  clear c3
  obtain rfl := Option.some.inj H
  go_enter Try.func43, Try.ntmps43
  go_wp2
  go_ret
  exact ⟨by first | rfl | (simp; done) | (simp [*]; done), by repeat (first | exact Drawn0.refl _ | apply Drawn0.step)⟩

/-! ### pochoirref01_Less: function 25 -/
mutual
def pochoirref01_Less.j0 : Nat → List Int → List Int → Int → Option (Int)
 | 0, _, _, _ => none
 | k + 1, x0, x1, x5 => pochoirref01_Less.l0 k x0 x1 (wrap64 (x5 - 1))
def pochoirref01_Less.l0 : Nat → List Int → List Int → Int → Option (Int)
 | 0, _, _, _ => none
 | k + 1, x0, x1, x6 => if x6 ≥ 0 then ((pochoirref01_at.f x0 x6).bind fun t152 => ((pochoirref01_at.f x1 x6).bind fun t153 => (if t152 < t153 then (some (-1)) else ((pochoirref01_at.f x0 x6).bind fun t154 => ((pochoirref01_at.f x1 x6).bind fun t155 => (if t154 > t155 then (some 1) else (pochoirref01_Less.l0 k x0 x1 (wrap64 (x6 - 1))))))))) else (some 0)
end
def pochoirref01_Less.f (k : Nat) (l0 : List Int) (l1 : List Int) : Option (Int) := if (l1.length : Int) > (l0.length : Int) then (pochoirref01_Less.j0 k l0 l1 (l1.length : Int)) else (pochoirref01_Less.j0 k l0 l1 (l0.length : Int))
theorem pochoirref01_Less.mono_l : ∀ k, (∀ y0 y1 y2, LeO (pochoirref01_Less.j0 k y0 y1 y2) (pochoirref01_Less.j0 (k + 1) y0 y1 y2)) ∧ (∀ y0 y1 y2, LeO (pochoirref01_Less.l0 k y0 y1 y2) (pochoirref01_Less.l0 (k + 1) y0 y1 y2))
 | 0 => ⟨fun _ _ _ r h => by simp [pochoirref01_Less.j0] at h, fun _ _ _ r h => by simp [pochoirref01_Less.l0] at h⟩
 | k + 1 => by
  obtain ⟨ih0, ih1⟩ := pochoirref01_Less.mono_l k
  refine ⟨?_, ?_⟩
  ·intro y0 y1 y2
   unfold pochoirref01_Less.j0
   repeat' first
   | (with_reducible exact ih0 _ _ _)
   | (with_reducible exact ih1 _ _ _)
   | (with_reducible exact LeO.refl _)
   | (with_reducible exact LeO.none _)
   | (with_reducible refine LeO.ite ?_ ?_)
   | (with_reducible refine LeO.bind ?_ (fun _ => ?_))
   | exact ih0 _ _ _
   | exact ih1 _ _ _
   | exact LeO.none _
   | refine LeO.ite ?_ ?_
   | refine LeO.bind ?_ (fun _ => ?_)
  ·intro y0 y1 y2
   unfold pochoirref01_Less.l0
   repeat' first
   | (with_reducible exact ih0 _ _ _)
   | (with_reducible exact ih1 _ _ _)
   | (with_reducible exact LeO.refl _)
   | (with_reducible exact LeO.none _)
   | (with_reducible refine LeO.ite ?_ ?_)
   | (with_reducible refine LeO.bind ?_ (fun _ => ?_))
   | exact ih0 _ _ _
   | exact ih1 _ _ _
   | exact LeO.none _
   | refine LeO.ite ?_ ?_
   | refine LeO.bind ?_ (fun _ => ?_)
theorem pochoirref01_Less.mono : ∀ a0 a1 k, LeO (pochoirref01_Less.f k a0 a1) (pochoirref01_Less.f (k + 1) a0 a1) := by
 intro a0 a1 k
 obtain ⟨ih0, ih1⟩ := pochoirref01_Less.mono_l k
 unfold pochoirref01_Less.f
 repeat' first
   | (with_reducible exact ih0 _ _ _)
   | (with_reducible exact ih1 _ _ _)
   | (with_reducible exact LeO.refl _)
   | (with_reducible exact LeO.none _)
   | (with_reducible refine LeO.ite ?_ ?_)
   | (with_reducible refine LeO.bind ?_ (fun _ => ?_))
   | exact ih0 _ _ _
   | exact ih1 _ _ _
   | exact LeO.none _
   | refine LeO.ite ?_ ?_
   | refine LeO.bind ?_ (fun _ => ?_)
set_option maxHeartbeats 8000000 in
set_option maxRecDepth 100000 in
theorem pochoirref01_Less.calls (k : Nat) (A0 : Option Addr) (c0 : Nat) (l0 : List Int) (A1 : Option Addr) (c1 : Nat) (l1 : List Int) (r : Int) (w : World) (hr0 : Kd.C (Kd.int .u64) w A0 l0.length l0) (hc0 : l0.length ≤ c0) (hr1 : Kd.C (Kd.int .u64) w A1 l1.length l1) (hc1 : l1.length ≤ c1) (h : pochoirref01_Less.f k l0 l1 = some r) :
  Calls Try.prog 25 #[.slice A0 l0.length c0, .slice A1 l1.length c1] w fun e w' => e = .returned (.int .i64 r) ∧ Drawn0 w w' := by
 have HR0 := Aside0.mk hr0
 have HC0 := Aside0.mk hc0
 clear hr0 hc0
 have HR1 := Aside0.mk hr1
 have HC1 := Aside0.mk hc1
 clear hr1 hc1
 have H : (if (l1.length : Int) > (l0.length : Int) then (pochoirref01_Less.j0 k l0 l1 (l1.length : Int)) else (pochoirref01_Less.j0 k l0 l1 (l0.length : Int))) = some r := h
 clear h
 have HC3 := Aside0.mk H
 clear H
 go_enter Try.func25, Try.ntmps25
 go_upto_if 12 with (fail)
 go_cut [5] (fun v5 wc => ∃ (kq : Nat) (x5_2 : Int), v5 = .int .i64 x5_2 ∧ Aside0 (pochoirref01_Less.j0 kq l0 l1 x5_2 = some r) ∧ Aside0 (kq ≤ k) ∧ Drawn0 w wc)
 case first =>
  have H := HC3.out
  clear HC3
  by_cases c4 : (l1.length : Int) > (l0.length : Int)
  ·rw [if_pos c4] at H
   have c4b0 : decide ((l0.length : Int) < (l1.length : Int)) = true := decide_eq_true c4
   have c4b1 : decide (l0.length < l1.length) = true := decide_eq_true (Int.ofNat_lt.mp c4)
   clear c4
   (first | rw [c4b0] | (simp only [i64_w, i32_w]; rw [c4b0]) | rw [c4b1] | skip)
   have H' := Aside0.mk H
   clear H
   go_wp2
   go_meet
   case rel => exact ⟨_, ((l1.length : Int)), fr, H', ⟨by first | omega | exact Nat.le_refl _⟩, by repeat (first | exact Drawn0.refl _ | apply Drawn0.step)⟩
  ·rw [if_neg c4] at H
   have c4b0 : decide ((l0.length : Int) < (l1.length : Int)) = false := decide_eq_false c4
   have c4b1 : decide (l0.length < l1.length) = false := decide_eq_false (fun h => c4 (Int.ofNat_lt.mpr h))
   clear c4
   (first | rw [c4b0] | (simp only [i64_w, i32_w]; rw [c4b0]) | rw [c4b1] | skip)
   have H' := Aside0.mk H
   clear H
   go_wp2
   go_meet
   case rel => exact ⟨_, ((l0.length : Int)), fr, H', ⟨by first | omega | exact Nat.le_refl _⟩, by repeat (first | exact Drawn0.refl _ | apply Drawn0.step)⟩
 case rest =>
  clear HC3
  try clear c1
  try clear c2
  try clear p2
  try clear c4
  try clear c4b0
  try clear c4b1
  obtain ⟨kq, x5_2, rfl, HA, HJ2, ⟨mc2, rfl⟩⟩ := hcut
  cases kq with
  | zero => exact absurd HA.out (by simp [pochoirref01_Less.j0])
  | succ kj2 =>
   have H := HA.out
   clear HA
   simp only [pochoirref01_Less.j0] at H
   have H' := Aside0.mk H
   clear H
   go_wp2
   go_loopg [6] kj2 (fun kq v6 w' => ∃ (x6_2 : Int), v6 = .int .i64 x6_2 ∧ Aside0 (pochoirref01_Less.l0 kq l0 l1 x6_2 = some r) ∧ Aside0 (kq ≤ kj2) ∧ Drawn0 w w')
   case atStart => exact ⟨(wrap64 (x5_2 - 1)), fr, H', ⟨Nat.le_refl _⟩, by repeat (first | exact Drawn0.refl _ | apply Drawn0.step)⟩
   case round =>
    clear H'
    try clear c1
    try clear c2
    try clear p2
    try clear c4
    try clear c4b0
    try clear c4b1
    try clear p2
    obtain ⟨x6_2, rfl, HA, HK2, ⟨m2, rfl⟩⟩ := hrel
    cases gk with
    | zero => exact absurd HA.out (by simp [pochoirref01_Less.l0])
    | succ k2 =>
     have H := HA.out
     clear HA
     simp only [pochoirref01_Less.l0] at H
     by_cases c5 : x6_2 ≥ 0
     ·rw [if_pos c5] at H
      have c5b0 : decide (0 ≤ x6_2) = true := decide_eq_true c5
      clear c5
      replace H := Option.bind_eq_some_iff.mp H
      obtain ⟨t152, A60, H⟩ := H
      replace H : ((pochoirref01_at.f l1 x6_2).bind fun t153 => (if t152 < t153 then (some (-1)) else ((pochoirref01_at.f l0 x6_2).bind fun t154 => ((pochoirref01_at.f l1 x6_2).bind fun t155 => (if t154 > t155 then (some 1) else (pochoirref01_Less.l0 k2 l0 l1 (wrap64 (x6_2 - 1)))))))) = some r := H
      have A6 := Aside0.mk A60
      clear A60
      replace H := Option.bind_eq_some_iff.mp H
      obtain ⟨t153, A70, H⟩ := H
      replace H : (if t152 < t153 then (some (-1)) else ((pochoirref01_at.f l0 x6_2).bind fun t154 => ((pochoirref01_at.f l1 x6_2).bind fun t155 => (if t154 > t155 then (some 1) else (pochoirref01_Less.l0 k2 l0 l1 (wrap64 (x6_2 - 1))))))) = some r := H
      have A7 := Aside0.mk A70
      clear A70
      by_cases c8 : t152 < t153
      ·rw [if_pos c8] at H
       have c8b0 : decide (t152 < t153) = true := decide_eq_true c8
       clear c8
       obtain rfl := Option.some.inj H
       go_wp2_with (first | ((with_reducible refine gate_callee (f := 43) rfl ?_); refine goesL_ (some 23) rfl rfl Try.func43 (by kernel_rfl) rfl #[.slice A0 l0.length c0, .int .i64 x6_2] rfl am ?_; (with_reducible refine (pochoirref01_at.calls _ _ l0 x6_2 t152 _ ?side1 ?side2 A6.out).mono ?_); (case side1 => repeat (first | exact HR0.out | (with_reducible refine Kd.C_alloc ?_ _) | (with_reducible refine Kd.C_drewN ?_ _) | (with_reducible refine Kd.C_drew ?_))); (case side2 => exact HC0.out); rintro e w' ⟨rfl, ⟨nd, rfl⟩⟩; refine ⟨_, rfl, ?_⟩) | ((with_reducible refine gate_callee (f := 43) rfl ?_); refine goesL_ (some 26) rfl rfl Try.func43 (by kernel_rfl) rfl #[.slice A1 l1.length c1, .int .i64 x6_2] rfl am ?_; (with_reducible refine (pochoirref01_at.calls _ _ l1 x6_2 t153 _ ?side1 ?side2 A7.out).mono ?_); (case side1 => repeat (first | exact HR1.out | (with_reducible refine Kd.C_alloc ?_ _) | (with_reducible refine Kd.C_drewN ?_ _) | (with_reducible refine Kd.C_drew ?_))); (case side2 => exact HC1.out); rintro e w' ⟨rfl, ⟨nd, rfl⟩⟩; refine ⟨_, rfl, ?_⟩))
       go_ret
       exact ⟨by first | rfl | (simp; done) | (simp [*]; done), by repeat (first | exact Drawn0.refl _ | apply Drawn0.step)⟩
      ·rw [if_neg c8] at H
       have c8b0 : decide (t152 < t153) = false := decide_eq_false c8
       clear c8
       replace H := Option.bind_eq_some_iff.mp H
       obtain ⟨t154, A90, H⟩ := H
       replace H : ((pochoirref01_at.f l1 x6_2).bind fun t155 => (if t154 > t155 then (some 1) else (pochoirref01_Less.l0 k2 l0 l1 (wrap64 (x6_2 - 1))))) = some r := H
       have A9 := Aside0.mk A90
       clear A90
       replace H := Option.bind_eq_some_iff.mp H
       obtain ⟨t155, A100, H⟩ := H
       replace H : (if t154 > t155 then (some 1) else (pochoirref01_Less.l0 k2 l0 l1 (wrap64 (x6_2 - 1)))) = some r := H
       have A10 := Aside0.mk A100
       clear A100
       by_cases c11 : t154 > t155
       ·rw [if_pos c11] at H
        have c11b0 : decide (t155 < t154) = true := decide_eq_true c11
        clear c11
        obtain rfl := Option.some.inj H
        go_wp2_with (first | ((with_reducible refine gate_callee (f := 43) rfl ?_); refine goesL_ (some 23) rfl rfl Try.func43 (by kernel_rfl) rfl #[.slice A0 l0.length c0, .int .i64 x6_2] rfl am ?_; (with_reducible refine (pochoirref01_at.calls _ _ l0 x6_2 t152 _ ?side1 ?side2 A6.out).mono ?_); (case side1 => repeat (first | exact HR0.out | (with_reducible refine Kd.C_alloc ?_ _) | (with_reducible refine Kd.C_drewN ?_ _) | (with_reducible refine Kd.C_drew ?_))); (case side2 => exact HC0.out); rintro e w' ⟨rfl, ⟨nd, rfl⟩⟩; refine ⟨_, rfl, ?_⟩) | ((with_reducible refine gate_callee (f := 43) rfl ?_); refine goesL_ (some 26) rfl rfl Try.func43 (by kernel_rfl) rfl #[.slice A1 l1.length c1, .int .i64 x6_2] rfl am ?_; (with_reducible refine (pochoirref01_at.calls _ _ l1 x6_2 t153 _ ?side1 ?side2 A7.out).mono ?_); (case side1 => repeat (first | exact HR1.out | (with_reducible refine Kd.C_alloc ?_ _) | (with_reducible refine Kd.C_drewN ?_ _) | (with_reducible refine Kd.C_drew ?_))); (case side2 => exact HC1.out); rintro e w' ⟨rfl, ⟨nd, rfl⟩⟩; refine ⟨_, rfl, ?_⟩) | ((with_reducible refine gate_callee (f := 43) rfl ?_); refine goesL_ (some 30) rfl rfl Try.func43 (by kernel_rfl) rfl #[.slice A0 l0.length c0, .int .i64 x6_2] rfl am ?_; (with_reducible refine (pochoirref01_at.calls _ _ l0 x6_2 t154 _ ?side1 ?side2 A9.out).mono ?_); (case side1 => repeat (first | exact HR0.out | (with_reducible refine Kd.C_alloc ?_ _) | (with_reducible refine Kd.C_drewN ?_ _) | (with_reducible refine Kd.C_drew ?_))); (case side2 => exact HC0.out); rintro e w' ⟨rfl, ⟨nd, rfl⟩⟩; refine ⟨_, rfl, ?_⟩) | ((with_reducible refine gate_callee (f := 43) rfl ?_); refine goesL_ (some 33) rfl rfl Try.func43 (by kernel_rfl) rfl #[.slice A1 l1.length c1, .int .i64 x6_2] rfl am ?_; (with_reducible refine (pochoirref01_at.calls _ _ l1 x6_2 t155 _ ?side1 ?side2 A10.out).mono ?_); (case side1 => repeat (first | exact HR1.out | (with_reducible refine Kd.C_alloc ?_ _) | (with_reducible refine Kd.C_drewN ?_ _) | (with_reducible refine Kd.C_drew ?_))); (case side2 => exact HC1.out); rintro e w' ⟨rfl, ⟨nd, rfl⟩⟩; refine ⟨_, rfl, ?_⟩))
        go_ret
        exact ⟨by first | rfl | (simp; done) | (simp [*]; done), by repeat (first | exact Drawn0.refl _ | apply Drawn0.step)⟩
       ·rw [if_neg c11] at H
        have c11b0 : decide (t155 < t154) = false := decide_eq_false c11
        clear c11
        have H' := Aside0.mk H
        clear H
        go_wp2_with (first | ((with_reducible refine gate_callee (f := 43) rfl ?_); refine goesL_ (some 23) rfl rfl Try.func43 (by kernel_rfl) rfl #[.slice A0 l0.length c0, .int .i64 x6_2] rfl am ?_; (with_reducible refine (pochoirref01_at.calls _ _ l0 x6_2 t152 _ ?side1 ?side2 A6.out).mono ?_); (case side1 => repeat (first | exact HR0.out | (with_reducible refine Kd.C_alloc ?_ _) | (with_reducible refine Kd.C_drewN ?_ _) | (with_reducible refine Kd.C_drew ?_))); (case side2 => exact HC0.out); rintro e w' ⟨rfl, ⟨nd, rfl⟩⟩; refine ⟨_, rfl, ?_⟩) | ((with_reducible refine gate_callee (f := 43) rfl ?_); refine goesL_ (some 26) rfl rfl Try.func43 (by kernel_rfl) rfl #[.slice A1 l1.length c1, .int .i64 x6_2] rfl am ?_; (with_reducible refine (pochoirref01_at.calls _ _ l1 x6_2 t153 _ ?side1 ?side2 A7.out).mono ?_); (case side1 => repeat (first | exact HR1.out | (with_reducible refine Kd.C_alloc ?_ _) | (with_reducible refine Kd.C_drewN ?_ _) | (with_reducible refine Kd.C_drew ?_))); (case side2 => exact HC1.out); rintro e w' ⟨rfl, ⟨nd, rfl⟩⟩; refine ⟨_, rfl, ?_⟩) | ((with_reducible refine gate_callee (f := 43) rfl ?_); refine goesL_ (some 30) rfl rfl Try.func43 (by kernel_rfl) rfl #[.slice A0 l0.length c0, .int .i64 x6_2] rfl am ?_; (with_reducible refine (pochoirref01_at.calls _ _ l0 x6_2 t154 _ ?side1 ?side2 A9.out).mono ?_); (case side1 => repeat (first | exact HR0.out | (with_reducible refine Kd.C_alloc ?_ _) | (with_reducible refine Kd.C_drewN ?_ _) | (with_reducible refine Kd.C_drew ?_))); (case side2 => exact HC0.out); rintro e w' ⟨rfl, ⟨nd, rfl⟩⟩; refine ⟨_, rfl, ?_⟩) | ((with_reducible refine gate_callee (f := 43) rfl ?_); refine goesL_ (some 33) rfl rfl Try.func43 (by kernel_rfl) rfl #[.slice A1 l1.length c1, .int .i64 x6_2] rfl am ?_; (with_reducible refine (pochoirref01_at.calls _ _ l1 x6_2 t155 _ ?side1 ?side2 A10.out).mono ?_); (case side1 => repeat (first | exact HR1.out | (with_reducible refine Kd.C_alloc ?_ _) | (with_reducible refine Kd.C_drewN ?_ _) | (with_reducible refine Kd.C_drew ?_))); (case side2 => exact HC1.out); rintro e w' ⟨rfl, ⟨nd, rfl⟩⟩; refine ⟨_, rfl, ?_⟩))
        go_roundg k2
        case measure => have := HJ2.out; have := HK2.out; omega
        case rel => exact ⟨(wrap64 (x6_2 - 1)), fr, H', ⟨by have := HJ2.out; have := HK2.out; omega⟩, by repeat (first | exact Drawn0.refl _ | apply Drawn0.step)⟩
     ·rw [if_neg c5] at H
      have c5b0 : decide (0 ≤ x6_2) = false := decide_eq_false c5
      clear c5
      obtain rfl := Option.some.inj H
      go_wp2
      go_ret
      exact ⟨by first | rfl | (simp; done) | (simp [*]; done), by repeat (first | exact Drawn0.refl _ | apply Drawn0.step)⟩

/-! ### pochoirref01_Plus: function 32 -/
mutual
def pochoirref01_Plus.l0 : Nat → List Int → List Int → List Int → Int → Int → Option (List Int)
 | 0, _, _, _, _, _ => none
 | k + 1, x0, x1, x5, x6, x7 => if x7 < (x0.length : Int) then (pochoirref01_Plus.j1 k x0 x1 x5 x6 x7 true) else (if x7 < (x1.length : Int) then (pochoirref01_Plus.j1 k x0 x1 x5 x6 x7 true) else (pochoirref01_Plus.j1 k x0 x1 x5 x6 x7 (decide (x6 > 0))))
def pochoirref01_Plus.j1 : Nat → List Int → List Int → List Int → Int → Int → Bool → Option (List Int)
 | 0, _, _, _, _, _, _ => none
 | k + 1, x0, x1, x5, x6, x7, x22 => if x22 = true then ((pochoirref01_at.f x0 x7).bind fun t156 => ((pochoirref01_at.f x1 x7).bind fun t157 => (if x5.length < 17592186044416 then (pochoirref01_Plus.l0 k x0 x1 (x5 ++ [Int.tmod (IntKind.u64.wrap ((IntKind.u64.wrap (t156 + t157)) + x6)) 65536]) (IntKind.u64.wrap (Int.tdiv (IntKind.u64.wrap ((IntKind.u64.wrap (t156 + t157)) + x6)) 65536)) (wrap64 (x7 + 1))) else (none)))) else (some x5)
end
def pochoirref01_Plus.f (k : Nat) (l0 : List Int) (l1 : List Int) : Option (List Int) := pochoirref01_Plus.l0 k l0 l1 ([] : List Int) 0 0
theorem pochoirref01_Plus.mono_l : ∀ k, (∀ y0 y1 y2 y3 y4, LeO (pochoirref01_Plus.l0 k y0 y1 y2 y3 y4) (pochoirref01_Plus.l0 (k + 1) y0 y1 y2 y3 y4)) ∧ (∀ y0 y1 y2 y3 y4 y5, LeO (pochoirref01_Plus.j1 k y0 y1 y2 y3 y4 y5) (pochoirref01_Plus.j1 (k + 1) y0 y1 y2 y3 y4 y5))
 | 0 => ⟨fun _ _ _ _ _ r h => by simp [pochoirref01_Plus.l0] at h, fun _ _ _ _ _ _ r h => by simp [pochoirref01_Plus.j1] at h⟩
 | k + 1 => by
  obtain ⟨ih0, ih1⟩ := pochoirref01_Plus.mono_l k
  refine ⟨?_, ?_⟩
  ·intro y0 y1 y2 y3 y4
   unfold pochoirref01_Plus.l0
   repeat' first
   | (with_reducible exact ih0 _ _ _ _ _)
   | (with_reducible exact ih1 _ _ _ _ _ _)
   | (with_reducible exact LeO.refl _)
   | (with_reducible exact LeO.none _)
   | (with_reducible refine LeO.ite ?_ ?_)
   | (with_reducible refine LeO.bind ?_ (fun _ => ?_))
   | exact ih0 _ _ _ _ _
   | exact ih1 _ _ _ _ _ _
   | exact LeO.none _
   | refine LeO.ite ?_ ?_
   | refine LeO.bind ?_ (fun _ => ?_)
  ·intro y0 y1 y2 y3 y4 y5
   unfold pochoirref01_Plus.j1
   repeat' first
   | (with_reducible exact ih0 _ _ _ _ _)
   | (with_reducible exact ih1 _ _ _ _ _ _)
   | (with_reducible exact LeO.refl _)
   | (with_reducible exact LeO.none _)
   | (with_reducible refine LeO.ite ?_ ?_)
   | (with_reducible refine LeO.bind ?_ (fun _ => ?_))
   | exact ih0 _ _ _ _ _
   | exact ih1 _ _ _ _ _ _
   | exact LeO.none _
   | refine LeO.ite ?_ ?_
   | refine LeO.bind ?_ (fun _ => ?_)
theorem pochoirref01_Plus.mono : ∀ a0 a1 k, LeO (pochoirref01_Plus.f k a0 a1) (pochoirref01_Plus.f (k + 1) a0 a1) := by
 intro a0 a1 k
 obtain ⟨ih0, ih1⟩ := pochoirref01_Plus.mono_l k
 unfold pochoirref01_Plus.f
 repeat' first
   | (with_reducible exact ih0 _ _ _ _ _)
   | (with_reducible exact ih1 _ _ _ _ _ _)
   | (with_reducible exact LeO.refl _)
   | (with_reducible exact LeO.none _)
   | (with_reducible refine LeO.ite ?_ ?_)
   | (with_reducible refine LeO.bind ?_ (fun _ => ?_))
   | exact ih0 _ _ _ _ _
   | exact ih1 _ _ _ _ _ _
   | exact LeO.none _
   | refine LeO.ite ?_ ?_
   | refine LeO.bind ?_ (fun _ => ?_)
set_option maxHeartbeats 8000000 in
set_option maxRecDepth 100000 in
theorem pochoirref01_Plus.calls (k : Nat) (A0 : Option Addr) (c0 : Nat) (l0 : List Int) (A1 : Option Addr) (c1 : Nat) (l1 : List Int) (r : List Int) (w : World) (hr0 : Kd.C (Kd.int .u64) w A0 l0.length l0) (hc0 : l0.length ≤ c0) (hr1 : Kd.C (Kd.int .u64) w A1 l1.length l1) (hc1 : l1.length ≤ c1) (h : pochoirref01_Plus.f k l0 l1 = some r) :
  Calls Try.prog 32 #[.slice A0 l0.length c0, .slice A1 l1.length c1] w fun e w' => ∃ v0_ : Value, e = .returned (v0_) ∧ Kd.R (Kd.int .u64) 22 w' w.heap.size (fun _ => True) v0_ r ∧ Below w.heap.size w w' := by
 have HR0 := Aside0.mk hr0
 have HC0 := Aside0.mk hc0
 clear hr0 hc0
 have HR1 := Aside0.mk hr1
 have HC1 := Aside0.mk hc1
 clear hr1 hc1
 have HB := Aside0.mk (Below.refl w.heap.size w)
 have H : (pochoirref01_Plus.l0 k l0 l1 ([] : List Int) 0 0) = some r := h
 clear h
 have H' := Aside0.mk H
 clear H
 go_enter Try.func32, Try.ntmps32
 go_wp2
 go_loopg [5, 6, 7] k (fun kq v5 v6 v7 w' => ∃ (x5_1 : List Int) (x6_1 : Int) (x7_1 : Int), v6 = .int .u64 x6_1 ∧ v7 = .int .i64 x7_1 ∧ Aside0 (pochoirref01_Plus.l0 kq l0 l1 x5_1 x6_1 x7_1 = some r) ∧ Aside0 (kq ≤ k) ∧ Aside0 (Kd.R (Kd.int .u64) 22 w' w.heap.size (fun _ => True) v5 x5_1) ∧ Aside0 (Below w.heap.size w w'))
 case atStart => exact ⟨(([] : List Int)), (0), (0), fr, fr, H', ⟨Nat.le_refl _⟩, ⟨by first | exact Kd.R_nil _ _ _ _ _ | exact Kd.N_nil _ _ _ _ _ | exact Kd.V_nil _ _ _ _ _ | exact Kd.Q_nil _ _ _ _ _ | exact Kd.S_nil _ _ _ _ _⟩, ⟨bl0 HB.out⟩⟩
 case round =>
  clear H'
  try clear c1
  try clear p2
  obtain ⟨x5_1, x6_1, x7_1, rfl, rfl, HA, HK1, HO_5, HB⟩ := hrel
  cases gk with
  | zero => exact absurd HA.out (by simp [pochoirref01_Plus.l0])
  | succ k1 =>
   have H := HA.out
   clear HA
   simp only [pochoirref01_Plus.l0] at H
   have HC3 := Aside0.mk H
   clear H
   go_upto_region 4 with (fail)
   go_cut [22] (fun v22 wc => ∃ (kq : Nat) (x22_2 : Bool), v22 = .bool x22_2 ∧ Aside0 (pochoirref01_Plus.j1 kq l0 l1 x5_1 x6_1 x7_1 x22_2 = some r) ∧ Aside0 (kq ≤ k1) ∧ Aside0 (Kd.R (Kd.int .u64) 22 wc w.heap.size (fun _ => True) u5 x5_1) ∧ Aside0 (Below w.heap.size w wc))
   case first =>
    have H := HC3.out
    clear HC3
    by_cases c4 : x7_1 < (l0.length : Int)
    ·rw [if_pos c4] at H
     have c4b0 : decide (x7_1 < (l0.length : Int)) = true := decide_eq_true c4
     clear c4
     (first | rw [c4b0] | (simp only [i64_w, i32_w]; rw [c4b0]) | skip)
     have H' := Aside0.mk H
     clear H
     go_wp2
     go_meet
     case rel => exact ⟨_, (true), fr, H', ⟨by have := HK1.out; first | omega | exact Nat.le_refl _⟩, ⟨by (with_reducible repeat (first | apply Kd.R_alloc | apply Kd.R_drewN | apply Kd.R_drew)); exact HO_5.out⟩, ⟨bl0 HB.out⟩⟩
    ·rw [if_neg c4] at H
     have c4b0 : decide (x7_1 < (l0.length : Int)) = false := decide_eq_false c4
     clear c4
     (first | rw [c4b0] | (simp only [i64_w, i32_w]; rw [c4b0]) | skip)
     by_cases c5 : x7_1 < (l1.length : Int)
     ·rw [if_pos c5] at H
      have c5b0 : decide (x7_1 < (l1.length : Int)) = true := decide_eq_true c5
      clear c5
      have H' := Aside0.mk H
      clear H
      go_wp2
      go_meet
      case rel => exact ⟨_, (true), fr, H', ⟨by have := HK1.out; first | omega | exact Nat.le_refl _⟩, ⟨by (with_reducible repeat (first | apply Kd.R_alloc | apply Kd.R_drewN | apply Kd.R_drew)); exact HO_5.out⟩, ⟨bl0 HB.out⟩⟩
     ·rw [if_neg c5] at H
      have c5b0 : decide (x7_1 < (l1.length : Int)) = false := decide_eq_false c5
      clear c5
      have H' := Aside0.mk H
      clear H
      go_wp2
      go_meet
      case rel => exact ⟨_, (decide (x6_1 > 0)), fr, H', ⟨by have := HK1.out; first | omega | exact Nat.le_refl _⟩, ⟨by (with_reducible repeat (first | apply Kd.R_alloc | apply Kd.R_drewN | apply Kd.R_drew)); exact HO_5.out⟩, ⟨bl0 HB.out⟩⟩
   case rest =>
    clear HC3
    try clear c1
    try clear p2
    try clear c3
    try clear c4
    try clear c4b0
    try clear c5
    try clear c5b0
    try clear p2
    obtain ⟨kq, x22_2, rfl, HA, HJ2, HO_5, HB⟩ := hcut
    cases kq with
    | zero => exact absurd HA.out (by simp [pochoirref01_Plus.j1])
    | succ kj2 =>
     have H := HA.out
     clear HA
     simp only [pochoirref01_Plus.j1] at H
     by_cases c6 : x22_2 = true
     ·subst c6
      have H1 : ((pochoirref01_at.f l0 x7_1).bind fun t156 => ((pochoirref01_at.f l1 x7_1).bind fun t157 => (if x5_1.length < 17592186044416 then (pochoirref01_Plus.l0 kj2 l0 l1 (x5_1 ++ [Int.tmod (IntKind.u64.wrap ((IntKind.u64.wrap (t156 + t157)) + x6_1)) 65536]) (IntKind.u64.wrap (Int.tdiv (IntKind.u64.wrap ((IntKind.u64.wrap (t156 + t157)) + x6_1)) 65536)) (wrap64 (x7_1 + 1))) else (none)))) = some r := by rw [if_pos rfl] at H; exact H
      clear H
      have H := H1
      clear H1
      replace H := Option.bind_eq_some_iff.mp H
      obtain ⟨t156, A70, H⟩ := H
      replace H : ((pochoirref01_at.f l1 x7_1).bind fun t157 => (if x5_1.length < 17592186044416 then (pochoirref01_Plus.l0 kj2 l0 l1 (x5_1 ++ [Int.tmod (IntKind.u64.wrap ((IntKind.u64.wrap (t156 + t157)) + x6_1)) 65536]) (IntKind.u64.wrap (Int.tdiv (IntKind.u64.wrap ((IntKind.u64.wrap (t156 + t157)) + x6_1)) 65536)) (wrap64 (x7_1 + 1))) else (none))) = some r := H
      have A7 := Aside0.mk A70
      clear A70
      replace H := Option.bind_eq_some_iff.mp H
      obtain ⟨t157, A80, H⟩ := H
      replace H : (if x5_1.length < 17592186044416 then (pochoirref01_Plus.l0 kj2 l0 l1 (x5_1 ++ [Int.tmod (IntKind.u64.wrap ((IntKind.u64.wrap (t156 + t157)) + x6_1)) 65536]) (IntKind.u64.wrap (Int.tdiv (IntKind.u64.wrap ((IntKind.u64.wrap (t156 + t157)) + x6_1)) 65536)) (wrap64 (x7_1 + 1))) else (none)) = some r := H
      have A8 := Aside0.mk A80
      clear A80
      by_cases c9 : x5_1.length < 17592186044416
      ·rw [if_pos c9] at H
       have LMc9 := Aside0.mk c9
       clear c9
       obtain ⟨y158, hy158⟩ : ∃ y_ : List Int, y_ = (x5_1 ++ [Int.tmod (IntKind.u64.wrap ((IntKind.u64.wrap (t156 + t157)) + x6_1)) 65536]) := ⟨_, rfl⟩
       replace H : (pochoirref01_Plus.l0 kj2 l0 l1 y158 (IntKind.u64.wrap (Int.tdiv (IntKind.u64.wrap ((IntKind.u64.wrap (t156 + t157)) + x6_1)) 65536)) (wrap64 (x7_1 + 1))) = some r := by first | (rw [hy158]; with_reducible exact H) | (have H2_ := (Option.bind_some _ _).symm.trans H; rw [hy158]; with_reducible exact H2_) | (have H2_ := (Option.bind_some _ _).symm.trans H; with_reducible exact H2_) | with_reducible exact H | (rw [hy158]; exact H) | exact H
       have Ny158 := Aside0.mk hy158
       clear hy158
       have H' := Aside0.mk H
       clear H
       go_wp2_with (first | ((with_reducible refine gate_callee (f := 43) rfl ?_); refine goesL_ (some 27) rfl rfl Try.func43 (by kernel_rfl) rfl #[.slice A0 l0.length c0, .int .i64 x7_1] rfl am ?_; (with_reducible refine (pochoirref01_at.calls _ _ l0 x7_1 t156 _ ?side1 ?side2 A7.out).mono ?_); (case side1 => repeat (first | exact (Kd.C_below HR0.out HB.out) | (with_reducible refine Kd.C_alloc ?_ _) | (with_reducible refine Kd.C_drewN ?_ _) | (with_reducible refine Kd.C_drew ?_))); (case side2 => exact HC0.out); rintro e w' ⟨rfl, ⟨nd, rfl⟩⟩; refine ⟨_, rfl, ?_⟩) | ((with_reducible refine gate_callee (f := 43) rfl ?_); refine goesL_ (some 30) rfl rfl Try.func43 (by kernel_rfl) rfl #[.slice A1 l1.length c1, .int .i64 x7_1] rfl am ?_; (with_reducible refine (pochoirref01_at.calls _ _ l1 x7_1 t157 _ ?side1 ?side2 A8.out).mono ?_); (case side1 => repeat (first | exact (Kd.C_below HR1.out (bl0 HB.out)) | (with_reducible refine Kd.C_alloc ?_ _) | (with_reducible refine Kd.C_drewN ?_ _) | (with_reducible refine Kd.C_drew ?_))); (case side2 => exact HC1.out); rintro e w' ⟨rfl, ⟨nd, rfl⟩⟩; refine ⟨_, rfl, ?_⟩) | ((with_reducible refine gate_builtin (b := .append) (xs := #[.tmp 34, .tmp 37]) rfl ?_); (try (refine gate_guard (by rfl) ?_; dsimp only)); at_builtin; refine Kd.R_append (Kd.int .u64) (w0 := w) w.heap.size rfl (.tmp 34) (.tmp 37) 48 22 (.int .u64 0) 8 rfl Try.underlying48 info22 rfl (by decide) (by omega) u5 x5_1 (Int.tmod (IntKind.u64.wrap ((IntKind.u64.wrap (t156 + t157)) + x6_1)) 65536) [.int .u64 (Int.tmod (IntKind.u64.wrap ((IntKind.u64.wrap (t156 + t157)) + x6_1)) 65536)] (fun _ => True) (fun _ => False) rfl rfl ?aP (fun _ hk => hk.elim) ?aF ?aO ?aB ?aS ?aL ?_; (case aP => exact rfl); (case aB => exact (bl0 HB.out)); (case aF => exact (fun _ _ => trivial)); (case aO => exact (by (with_reducible repeat (first | apply Kd.R_alloc | apply Kd.R_drewN | apply Kd.R_drew)); exact HO_5.out)); (case aS => exact (below_size (bl0 HB.out))); (case aL => have := LMc9.out; omega); intro v159 w10 ho hb hg hat; rw [← Ny158.out] at ho; have HO160 := Aside0.mk (ho); replace HB := Aside0.mk (hb); clear HO_5 ho hb hg hat))
       go_roundg kj2
       case measure => have := HK1.out; have := HJ2.out; omega
       case rel => exact ⟨(y158), (IntKind.u64.wrap (Int.tdiv (IntKind.u64.wrap ((IntKind.u64.wrap (t156 + t157)) + x6_1)) 65536)), (wrap64 (x7_1 + 1)), fr, fr, H', ⟨by have := HK1.out; have := HJ2.out; omega⟩, ⟨by (with_reducible repeat (first | apply Kd.R_alloc | apply Kd.R_drewN | apply Kd.R_drew)); exact HO160.out⟩, ⟨bl0 HB.out⟩⟩
      ·rw [if_neg c9] at H
       exact absurd H (by simp)
     ·replace c6 := Bool.eq_false_iff.mpr c6
      subst c6
      have H1 : (some x5_1) = some r := by rw [if_neg (show ¬ (false = true) by decide)] at H; exact H
      clear H
      have H := H1
      clear H1
      obtain rfl := Option.some.inj H
      go_wp2
      go_ret
      exact ⟨_, by first | rfl | (simp [errW_none, errW_some] <;> rfl) | (simp [*, errW_none, errW_some] <;> rfl), by (with_reducible repeat (first | apply Kd.R_alloc | apply Kd.R_drewN | apply Kd.R_drew)); exact HO_5.out, bl0 HB.out⟩

/-! ### pochoirref01_Minus: function 34 -/
def pochoirref01_Minus.l0 : Nat → List Int → List Int → List Int → Int → Int → Option (List Int)
 | 0, _, _, _, _, _ => none
 | k + 1, x0, x1, x5, x6, x7 => if x7 < (x0.length : Int) then (if 0 ≤ x7 then ((pochoirref01_at.f x1 x7).bind fun t162 => (if x5.length < 17592186044416 then (pochoirref01_Minus.l0 k x0 x1 (x5 ++ [Int.tmod (IntKind.u64.wrap ((IntKind.u64.wrap ((IntKind.u64.wrap (65536 + (rd x0 x7))) - t162)) - x6)) 65536]) (IntKind.u64.wrap (1 - (IntKind.u64.wrap (Int.tdiv (IntKind.u64.wrap ((IntKind.u64.wrap ((IntKind.u64.wrap (65536 + (rd x0 x7))) - t162)) - x6)) 65536)))) (wrap64 (x7 + 1))) else (none))) else (none)) else (some x5)
def pochoirref01_Minus.f (k : Nat) (l0 : List Int) (l1 : List Int) : Option (List Int) := pochoirref01_Minus.l0 k l0 l1 ([] : List Int) 0 0
theorem pochoirref01_Minus.mono_l : ∀ k, (∀ y0 y1 y2 y3 y4, LeO (pochoirref01_Minus.l0 k y0 y1 y2 y3 y4) (pochoirref01_Minus.l0 (k + 1) y0 y1 y2 y3 y4))
 | 0 => fun _ _ _ _ _ r h => by simp [pochoirref01_Minus.l0] at h
 | k + 1 => by
  have ih0 := pochoirref01_Minus.mono_l k
  ·intro y0 y1 y2 y3 y4
   unfold pochoirref01_Minus.l0
   repeat' first
   | (with_reducible exact ih0 _ _ _ _ _)
   | (with_reducible exact LeO.refl _)
   | (with_reducible exact LeO.none _)
   | (with_reducible refine LeO.ite ?_ ?_)
   | (with_reducible refine LeO.bind ?_ (fun _ => ?_))
   | exact ih0 _ _ _ _ _
   | exact LeO.none _
   | refine LeO.ite ?_ ?_
   | refine LeO.bind ?_ (fun _ => ?_)
theorem pochoirref01_Minus.mono : ∀ a0 a1 k, LeO (pochoirref01_Minus.f k a0 a1) (pochoirref01_Minus.f (k + 1) a0 a1) := by
 intro a0 a1 k
 have ih0 := pochoirref01_Minus.mono_l k
 unfold pochoirref01_Minus.f
 repeat' first
   | (with_reducible exact ih0 _ _ _ _ _)
   | (with_reducible exact LeO.refl _)
   | (with_reducible exact LeO.none _)
   | (with_reducible refine LeO.ite ?_ ?_)
   | (with_reducible refine LeO.bind ?_ (fun _ => ?_))
   | exact ih0 _ _ _ _ _
   | exact LeO.none _
   | refine LeO.ite ?_ ?_
   | refine LeO.bind ?_ (fun _ => ?_)
set_option maxHeartbeats 8000000 in
set_option maxRecDepth 100000 in
theorem pochoirref01_Minus.calls (k : Nat) (A0 : Option Addr) (c0 : Nat) (l0 : List Int) (A1 : Option Addr) (c1 : Nat) (l1 : List Int) (r : List Int) (w : World) (hr0 : Kd.C (Kd.int .u64) w A0 l0.length l0) (hc0 : l0.length ≤ c0) (hr1 : Kd.C (Kd.int .u64) w A1 l1.length l1) (hc1 : l1.length ≤ c1) (h : pochoirref01_Minus.f k l0 l1 = some r) :
  Calls Try.prog 34 #[.slice A0 l0.length c0, .slice A1 l1.length c1] w fun e w' => ∃ v0_ : Value, e = .returned (v0_) ∧ Kd.R (Kd.int .u64) 22 w' w.heap.size (fun _ => True) v0_ r ∧ Below w.heap.size w w' := by
 have HR0 := Aside0.mk hr0
 have HC0 := Aside0.mk hc0
 clear hr0 hc0
 have HR1 := Aside0.mk hr1
 have HC1 := Aside0.mk hc1
 clear hr1 hc1
 have HB := Aside0.mk (Below.refl w.heap.size w)
 have H : (pochoirref01_Minus.l0 k l0 l1 ([] : List Int) 0 0) = some r := h
 clear h
 have H' := Aside0.mk H
 clear H
 go_enter Try.func34, Try.ntmps34
 go_wp2
 repeat (go_quiet (fail); try go_wp2)
 go_loopg [5, 6, 7] k (fun kq v5 v6 v7 w' => ∃ (x5_1 : List Int) (x6_1 : Int) (x7_1 : Int), v6 = .int .u64 x6_1 ∧ v7 = .int .i64 x7_1 ∧ Aside0 (pochoirref01_Minus.l0 kq l0 l1 x5_1 x6_1 x7_1 = some r) ∧ Aside0 (kq ≤ k) ∧ Aside0 (Kd.R (Kd.int .u64) 22 w' w.heap.size (fun _ => True) v5 x5_1) ∧ Aside0 (Below w.heap.size w w'))
 case atStart => exact ⟨(([] : List Int)), (0), (0), fr, fr, H', ⟨Nat.le_refl _⟩, ⟨by first | exact Kd.R_nil _ _ _ _ _ | exact Kd.N_nil _ _ _ _ _ | exact Kd.V_nil _ _ _ _ _ | exact Kd.Q_nil _ _ _ _ _ | exact Kd.S_nil _ _ _ _ _⟩, ⟨bl0 HB.out⟩⟩
 case round =>
  clear H'
  try clear c1
  try clear p2
  obtain ⟨x5_1, x6_1, x7_1, rfl, rfl, HA, HK1, HO_5, HB⟩ := hrel
  cases gk with
  | zero => exact absurd HA.out (by simp [pochoirref01_Minus.l0])
  | succ k1 =>
   have H := HA.out
   clear HA
   simp only [pochoirref01_Minus.l0] at H
   by_cases c3 : x7_1 < (l0.length : Int)
   ·rw [if_pos c3] at H
    have c3b0 : decide (x7_1 < (l0.length : Int)) = true := decide_eq_true c3
    clear c3
    by_cases c4 : 0 ≤ x7_1
    ·rw [if_pos c4] at H
     have c4b0 : decide (0 ≤ x7_1) = true := decide_eq_true c4
     clear c4
     replace H := Option.bind_eq_some_iff.mp H
     obtain ⟨t162, A50, H⟩ := H
     replace H : (if x5_1.length < 17592186044416 then (pochoirref01_Minus.l0 k1 l0 l1 (x5_1 ++ [Int.tmod (IntKind.u64.wrap ((IntKind.u64.wrap ((IntKind.u64.wrap (65536 + (rd l0 x7_1))) - t162)) - x6_1)) 65536]) (IntKind.u64.wrap (1 - (IntKind.u64.wrap (Int.tdiv (IntKind.u64.wrap ((IntKind.u64.wrap ((IntKind.u64.wrap (65536 + (rd l0 x7_1))) - t162)) - x6_1)) 65536)))) (wrap64 (x7_1 + 1))) else (none)) = some r := H
     have A5 := Aside0.mk A50
     clear A50
     by_cases c6 : x5_1.length < 17592186044416
     ·rw [if_pos c6] at H
      have LMc6 := Aside0.mk c6
      clear c6
      obtain ⟨y163, hy163⟩ : ∃ y_ : List Int, y_ = (x5_1 ++ [Int.tmod (IntKind.u64.wrap ((IntKind.u64.wrap ((IntKind.u64.wrap (65536 + (rd l0 x7_1))) - t162)) - x6_1)) 65536]) := ⟨_, rfl⟩
      replace H : (pochoirref01_Minus.l0 k1 l0 l1 y163 (IntKind.u64.wrap (1 - (IntKind.u64.wrap (Int.tdiv (IntKind.u64.wrap ((IntKind.u64.wrap ((IntKind.u64.wrap (65536 + (rd l0 x7_1))) - t162)) - x6_1)) 65536)))) (wrap64 (x7_1 + 1))) = some r := by first | (rw [hy163]; with_reducible exact H) | (have H2_ := (Option.bind_some _ _).symm.trans H; rw [hy163]; with_reducible exact H2_) | (have H2_ := (Option.bind_some _ _).symm.trans H; with_reducible exact H2_) | with_reducible exact H | (rw [hy163]; exact H) | exact H
      have Ny163 := Aside0.mk hy163
      clear hy163
      have H' := Aside0.mk H
      clear H
      have p161 : 0 ≤ (x7_1 : Int) := of_decide_eq_true (by first | (with_reducible assumption) | assumption)
      have q161 : x7_1 < (l0.length : Int) := of_decide_eq_true (by first | (with_reducible assumption) | assumption)
      obtain ⟨ad161, e161, hx161_0⟩ := Kd.at_int HR0.out x7_1 p161 q161
      cases e161
      replace hx161_0 := (HB.out.cell (World.block_lt_of_cell? w _ hx161_0)).trans hx161_0
      replace p161 := eq_true p161
      replace q161 := eq_true q161
      go_wp2_with (first | (go_at_call 43; (with_reducible refine (pochoirref01_at.calls _ _ l1 x7_1 t162 _ ?side1 ?side2 A5.out).mono ?_); (case side1 => repeat (first | exact (Kd.C_below HR1.out HB.out) | (with_reducible refine Kd.C_alloc ?_ _) | (with_reducible refine Kd.C_drewN ?_ _) | (with_reducible refine Kd.C_drew ?_))); (case side2 => exact HC1.out); rintro e w' ⟨rfl, ⟨nd, rfl⟩⟩; (try first | exact ⟨rfl, _, World.drewN_drewN _ _ _⟩ | exact ⟨rfl, _, Eq.trans (World.drewN_drewN _ _ _) (congrArg (World.drewN _) (Nat.add_assoc _ _ _))⟩)) | ((with_reducible refine gate_builtin (b := .append) (xs := #[.tmp 26, .tmp 29]) rfl ?_); at_builtin; refine Kd.R_append (Kd.int .u64) (w0 := w) w.heap.size rfl (.tmp 26) (.tmp 29) 48 22 (.int .u64 0) 8 rfl Try.underlying48 info22 rfl (by decide) (by omega) u5 x5_1 (Int.tmod (IntKind.u64.wrap ((IntKind.u64.wrap ((IntKind.u64.wrap (65536 + (rd l0 x7_1))) - t162)) - x6_1)) 65536) [.int .u64 (Int.tmod (IntKind.u64.wrap ((IntKind.u64.wrap ((IntKind.u64.wrap (65536 + (rd l0 x7_1))) - t162)) - x6_1)) 65536)] (fun _ => True) (fun _ => False) rfl rfl ?aP (fun _ hk => hk.elim) ?aF ?aO ?aB ?aS ?aL ?_; (case aP => exact rfl); (case aB => exact (bl0 HB.out)); (case aF => exact (fun _ _ => trivial)); (case aO => exact (by (with_reducible repeat (first | apply Kd.R_alloc | apply Kd.R_drewN | apply Kd.R_drew)); exact HO_5.out)); (case aS => exact (below_size (bl0 HB.out))); (case aL => have := LMc6.out; omega); intro v164 w7 ho hb hg hat; rw [← Ny163.out] at ho; have HO165 := Aside0.mk (ho); replace HB := Aside0.mk (hb); clear HO_5 ho hb hg hat))
      repeat (go_quiet (first | (go_at_call 43; (with_reducible refine (pochoirref01_at.calls _ _ l1 x7_1 t162 _ ?side1 ?side2 A5.out).mono ?_); (case side1 => repeat (first | exact (Kd.C_below HR1.out HB.out) | (with_reducible refine Kd.C_alloc ?_ _) | (with_reducible refine Kd.C_drewN ?_ _) | (with_reducible refine Kd.C_drew ?_))); (case side2 => exact HC1.out); rintro e w' ⟨rfl, ⟨nd, rfl⟩⟩; (try first | exact ⟨rfl, _, World.drewN_drewN _ _ _⟩ | exact ⟨rfl, _, Eq.trans (World.drewN_drewN _ _ _) (congrArg (World.drewN _) (Nat.add_assoc _ _ _))⟩)) | ((with_reducible refine gate_builtin (b := .append) (xs := #[.tmp 26, .tmp 29]) rfl ?_); at_builtin; refine Kd.R_append (Kd.int .u64) (w0 := w) w.heap.size rfl (.tmp 26) (.tmp 29) 48 22 (.int .u64 0) 8 rfl Try.underlying48 info22 rfl (by decide) (by omega) u5 x5_1 (Int.tmod (IntKind.u64.wrap ((IntKind.u64.wrap ((IntKind.u64.wrap (65536 + (rd l0 x7_1))) - t162)) - x6_1)) 65536) [.int .u64 (Int.tmod (IntKind.u64.wrap ((IntKind.u64.wrap ((IntKind.u64.wrap (65536 + (rd l0 x7_1))) - t162)) - x6_1)) 65536)] (fun _ => True) (fun _ => False) rfl rfl ?aP (fun _ hk => hk.elim) ?aF ?aO ?aB ?aS ?aL ?_; (case aP => exact rfl); (case aB => exact (bl0 HB.out)); (case aF => exact (fun _ _ => trivial)); (case aO => exact (by (with_reducible repeat (first | apply Kd.R_alloc | apply Kd.R_drewN | apply Kd.R_drew)); exact HO_5.out)); (case aS => exact (below_size (bl0 HB.out))); (case aL => have := LMc6.out; omega); intro v164 w7 ho hb hg hat; rw [← Ny163.out] at ho; have HO165 := Aside0.mk (ho); replace HB := Aside0.mk (hb); clear HO_5 ho hb hg hat)); try go_wp2_with (first | (go_at_call 43; (with_reducible refine (pochoirref01_at.calls _ _ l1 x7_1 t162 _ ?side1 ?side2 A5.out).mono ?_); (case side1 => repeat (first | exact (Kd.C_below HR1.out HB.out) | (with_reducible refine Kd.C_alloc ?_ _) | (with_reducible refine Kd.C_drewN ?_ _) | (with_reducible refine Kd.C_drew ?_))); (case side2 => exact HC1.out); rintro e w' ⟨rfl, ⟨nd, rfl⟩⟩; (try first | exact ⟨rfl, _, World.drewN_drewN _ _ _⟩ | exact ⟨rfl, _, Eq.trans (World.drewN_drewN _ _ _) (congrArg (World.drewN _) (Nat.add_assoc _ _ _))⟩)) | ((with_reducible refine gate_builtin (b := .append) (xs := #[.tmp 26, .tmp 29]) rfl ?_); at_builtin; refine Kd.R_append (Kd.int .u64) (w0 := w) w.heap.size rfl (.tmp 26) (.tmp 29) 48 22 (.int .u64 0) 8 rfl Try.underlying48 info22 rfl (by decide) (by omega) u5 x5_1 (Int.tmod (IntKind.u64.wrap ((IntKind.u64.wrap ((IntKind.u64.wrap (65536 + (rd l0 x7_1))) - t162)) - x6_1)) 65536) [.int .u64 (Int.tmod (IntKind.u64.wrap ((IntKind.u64.wrap ((IntKind.u64.wrap (65536 + (rd l0 x7_1))) - t162)) - x6_1)) 65536)] (fun _ => True) (fun _ => False) rfl rfl ?aP (fun _ hk => hk.elim) ?aF ?aO ?aB ?aS ?aL ?_; (case aP => exact rfl); (case aB => exact (bl0 HB.out)); (case aF => exact (fun _ _ => trivial)); (case aO => exact (by (with_reducible repeat (first | apply Kd.R_alloc | apply Kd.R_drewN | apply Kd.R_drew)); exact HO_5.out)); (case aS => exact (below_size (bl0 HB.out))); (case aL => have := LMc6.out; omega); intro v164 w7 ho hb hg hat; rw [← Ny163.out] at ho; have HO165 := Aside0.mk (ho); replace HB := Aside0.mk (hb); clear HO_5 ho hb hg hat)))
      go_roundg k1
      case measure => have := HK1.out; omega
      case rel => exact ⟨(y163), (IntKind.u64.wrap (1 - (IntKind.u64.wrap (Int.tdiv (IntKind.u64.wrap ((IntKind.u64.wrap ((IntKind.u64.wrap (65536 + (rd l0 x7_1))) - t162)) - x6_1)) 65536)))), (wrap64 (x7_1 + 1)), fr, fr, H', ⟨by have := HK1.out; omega⟩, ⟨by (with_reducible repeat (first | apply Kd.R_alloc | apply Kd.R_drewN | apply Kd.R_drew)); exact HO165.out⟩, ⟨bl0 HB.out⟩⟩
     ·rw [if_neg c6] at H
      exact absurd H (by simp)
    ·rw [if_neg c4] at H
     exact absurd H (by simp)
   ·rw [if_neg c3] at H
    have c3b0 : decide (x7_1 < (l0.length : Int)) = false := decide_eq_false c3
    clear c3
    obtain rfl := Option.some.inj H
    go_wp2
    repeat (go_quiet (fail); try go_wp2)
    go_ret
    exact ⟨_, by first | rfl | (simp [errW_none, errW_some] <;> rfl) | (simp [*, errW_none, errW_some] <;> rfl), by (with_reducible repeat (first | apply Kd.R_alloc | apply Kd.R_drewN | apply Kd.R_drew)); exact HO_5.out, bl0 HB.out⟩

/-! ### pochoirref01_bit: function 40 -/
def pochoirref01_bit.f (l0 : List Int) (a1 : Int) : Option (Int) := (pochoirref01_at.f l0 (wrap64 (Int.tdiv a1 16))).bind fun t166 => (if 0 ≤ (Int.tmod a1 16) then (some (Int.tmod (shr .u64 t166 (Int.tmod a1 16)) 2)) else (none))
set_option maxHeartbeats 8000000 in
set_option maxRecDepth 100000 in
theorem pochoirref01_bit.calls (A0 : Option Addr) (c0 : Nat) (l0 : List Int) (a1 : Int) (r : Int) (w : World) (hr0 : Kd.C (Kd.int .u64) w A0 l0.length l0) (hc0 : l0.length ≤ c0) (h : pochoirref01_bit.f l0 a1 = some r) :
  Calls Try.prog 40 #[.slice A0 l0.length c0, .int .i64 a1] w fun e w' => e = .returned (.int .u64 r) ∧ Drawn0 w w' := by
 have HR0 := Aside0.mk hr0
 have HC0 := Aside0.mk hc0
 clear hr0 hc0
 have H : ((pochoirref01_at.f l0 (wrap64 (Int.tdiv a1 16))).bind fun t166 => (if 0 ≤ (Int.tmod a1 16) then (some (Int.tmod (shr .u64 t166 (Int.tmod a1 16)) 2)) else (none))) = some r := h
 clear h
 replace H := Option.bind_eq_some_iff.mp H
 obtain ⟨t166, A30, H⟩ := H
 replace H : (if 0 ≤ (Int.tmod a1 16) then (some (Int.tmod (shr .u64 t166 (Int.tmod a1 16)) 2)) else (none)) = some r := H
 have A3 := Aside0.mk A30
 clear A30
 obtain ⟨ji4, hji4⟩ : ∃ j_ : Int, (Int.tmod a1 16) = j_ := ⟨_, rfl⟩
 replace H : (if 0 ≤ (ji4) then (some (Int.tmod (shr .u64 t166 (ji4)) 2)) else (none)) = some r := by first | (rw [hji4] at H; exact H) | (simp only [hji4] at H ⊢; exact H)
 (try rw [hji4] at A3)
 by_cases c5 : 0 ≤ (ji4)
 ·rw [if_pos c5] at H
  have c5b0 := eq_true c5
  have c5b1 : decide (0 ≤ (ji4)) = true := decide_eq_true c5
  clear c5
  obtain ⟨ji6, hji6⟩ : ∃ j_ : Int, (shr .u64 t166 (ji4)) = j_ := ⟨_, rfl⟩
  replace H : (some (Int.tmod (ji6) 2)) = some r := by first | (rw [hji6] at H; exact H) | (simp only [hji6] at H ⊢; exact H)
  (try rw [hji6] at A3)
  have hji6_ : (t166 / 2 ^ min (ji4).toNat 64) = ji6 := hji6
  have hji6z : (ji4) ≤ 64 → (t166 / 2 ^ (ji4).toNat) = ji6 := shr_small hji6
  obtain rfl := Option.some.inj H
  go_enter Try.func40, Try.ntmps40
  go_wp2_with (first | ((with_reducible refine gate_callee (f := 43) rfl ?_); refine goesL_ (some 8) rfl rfl Try.func43 (by kernel_rfl) rfl #[.slice A0 l0.length c0, .int .i64 (wrap64 (Int.tdiv a1 16))] rfl am ?_; (with_reducible refine (pochoirref01_at.calls _ _ l0 (wrap64 (Int.tdiv a1 16)) t166 _ ?side1 ?side2 A3.out).mono ?_); (case side1 => repeat (first | exact HR0.out | (with_reducible refine Kd.C_alloc ?_ _) | (with_reducible refine Kd.C_drewN ?_ _) | (with_reducible refine Kd.C_drew ?_))); (case side2 => exact HC0.out); rintro e w' ⟨rfl, ⟨nd, rfl⟩⟩; refine ⟨_, rfl, ?_⟩))
  go_ret
  exact ⟨by first | rfl | (simp; done) | (simp only [← hji4, ← hji6] <;> (first | rfl | simp)) | (simp [*]; done), by repeat (first | exact Drawn0.refl _ | apply Drawn0.step)⟩
 ·rw [if_neg c5] at H
  exact absurd H (by simp)

end Go.Proofs.Ytjjnkadfoepflaa.XWide
