-- Printed by a program of this claim. Not trusted: Lean checks it.
import Derived.Test.YtalgppclaolonaaXColrx0
import Derived.Test.YtalgppclaolonaaXColrx1
import Derived.Test.YtalgppclaolonaaXColrx2
namespace Go.Proofs.Ytalgppclaolonaa.XColr
open Go.RowKit Go.Proofs.YtalgppclaolonaaW.PrintWords Go.Proofs.YtalgppclaolonaaW.PrintLast Go.Proofs.YtalgppclaolonaaW.PrintMore
attribute [local go_sem] max2_int min2_int max_two min_two max_three min_three max_four min_four   -- for this text's walks alone
set_option linter.unusedVariables false
set_option linter.unusedSimpArgs false
open XOpen

attribute [local go_sem high] eqA36
/-! ### edge_May: function 52 -/
mutual
def edge_May.j0 : Nat → List (S38) → Bool → Option (Bool)
 | 0, _, _ => none
 | k + 1, x0, x12 => if x12 = true then (some false) else (edge_May.l0 k x0 (x0.length : Int) 0)
def edge_May.l0 : Nat → List (S38) → Int → Int → Option (Bool)
 | 0, _, _, _ => none
 | k + 1, x13, x14, x15 => if x15 < x14 then (if 0 ≤ x15 then (if x15 < (x13.length : Int) then ((edge_fine.f k (([(⟨(rd_T38 x13 x15).f2.f0, (rd_T38 x13 x15).f2.f1⟩ : S36), (⟨(rd_T38 x13 x15).f3.f0, (rd_T38 x13 x15).f3.f1⟩ : S36), (⟨(rd_T38 x13 x15).f4.f0, (rd_T38 x13 x15).f4.f1⟩ : S36)] : List (S36)))).bind fun t121 => (if t121 = true then ((edge_none.f ((rd_T38 x13 x15).f0) ((rd_T38 x13 x15).f1) ((rd_T38 x13 x15).f2.f0) ((rd_T38 x13 x15).f2.f1) ((rd_T38 x13 x15).f3.f0) ((rd_T38 x13 x15).f3.f1) ((rd_T38 x13 x15).f4.f0) ((rd_T38 x13 x15).f4.f1)).bind fun t122 => (if t122 = true then (some false) else (if ((rd_T38 x13 x15).f1 = true) then (edge_May.l0 k x13 x14 (wrap64 (x15 + 1))) else (if (!(((rd_T38 x13 x15).f3.f0) == 0) || (!(((rd_T38 x13 x15).f3.f1) == 0))) = true then (some false) else (edge_May.l0 k x13 x14 (wrap64 (x15 + 1))))))) else (some false))) else (none)) else (none)) else (some true)
end
def edge_May.f (k : Nat) (l0 : List (S38)) : Option (Bool) := if (l0.length : Int) > 8192 then (edge_May.j0 k l0 true) else ((edge_Closed.f k l0).bind fun t115 => (edge_May.j0 k l0 (!t115)))
theorem edge_May.mono_l : ∀ k, (∀ y0 y1, LeO (edge_May.j0 k y0 y1) (edge_May.j0 (k + 1) y0 y1)) ∧ (∀ y0 y1 y2, LeO (edge_May.l0 k y0 y1 y2) (edge_May.l0 (k + 1) y0 y1 y2))
 | 0 => ⟨fun _ _ r h => by simp [edge_May.j0] at h, fun _ _ _ r h => by simp [edge_May.l0] at h⟩
 | k + 1 => by
  obtain ⟨ih0, ih1⟩ := edge_May.mono_l k
  refine ⟨?_, ?_⟩
  ·intro y0 y1
   unfold edge_May.j0
   repeat' first | (with_reducible first | exact ih0 _ _ | exact ih1 _ _ _ | exact edge_Closed.mono _ _ | exact edge_fine.mono _ _ | exact LeO.refl _ | exact LeO.none _ | refine LeO.ite ?_ ?_ | refine LeO.bind ?_ (fun _ => ?_)) | exact ih0 _ _ | exact ih1 _ _ _ | exact edge_Closed.mono _ _ | exact edge_fine.mono _ _ | exact LeO.none _ | refine LeO.ite ?_ ?_ | refine LeO.bind ?_ (fun _ => ?_)
  ·intro y0 y1 y2
   unfold edge_May.l0
   repeat' first | (with_reducible first | exact ih0 _ _ | exact ih1 _ _ _ | exact edge_Closed.mono _ _ | exact edge_fine.mono _ _ | exact LeO.refl _ | exact LeO.none _ | refine LeO.ite ?_ ?_ | refine LeO.bind ?_ (fun _ => ?_)) | exact ih0 _ _ | exact ih1 _ _ _ | exact edge_Closed.mono _ _ | exact edge_fine.mono _ _ | exact LeO.none _ | refine LeO.ite ?_ ?_ | refine LeO.bind ?_ (fun _ => ?_)
theorem edge_May.mono : ∀ a0 k, LeO (edge_May.f k a0) (edge_May.f (k + 1) a0) := by
 intro a0 k
 obtain ⟨ih0, ih1⟩ := edge_May.mono_l k
 unfold edge_May.f
 repeat' first | (with_reducible first | exact ih0 _ _ | exact ih1 _ _ _ | exact edge_Closed.mono _ _ | exact edge_fine.mono _ _ | exact LeO.refl _ | exact LeO.none _ | refine LeO.ite ?_ ?_ | refine LeO.bind ?_ (fun _ => ?_)) | exact ih0 _ _ | exact ih1 _ _ _ | exact edge_Closed.mono _ _ | exact edge_fine.mono _ _ | exact LeO.none _ | refine LeO.ite ?_ ?_ | refine LeO.bind ?_ (fun _ => ?_)
set_option maxHeartbeats 8000000 in
set_option maxRecDepth 100000 in
theorem edge_May.calls (k : Nat) (A0 : Option Addr) (c0 : Nat) (l0 : List (S38)) (r : Bool) (w : World) (hr0 : Kd.C k38 w A0 l0.length l0) (hc0 : l0.length ≤ c0) (h : edge_May.f k l0 = some r) :
  Calls Try.prog 52 #[.slice A0 l0.length c0] w fun e w' => e = .returned (.bool r) ∧ Below w.heap.size w w' := by
 have hu38 := Try.underlying38
 have hu36 := Try.underlying36
 have HR0 := Aside0.mk hr0
 have HC0 := Aside0.mk hc0
 clear hr0 hc0
 have HB := Aside0.mk (Below.refl w.heap.size w)
 have H := h
 clear h; unfold edge_May.f at H
 have HC2 := Aside0.mk H
 clear H
 go_enter Try.func52, Try.ntmps52
 go_upto_region 1 with (fail)
 go_cut [12] (fun v12 wc => ∃ (kq : Nat) (x12_1 : Bool), v12 = .bool x12_1 ∧ Aside0 (edge_May.j0 kq l0 x12_1 = some r) ∧ Aside0 (kq ≤ k) ∧ Aside0 (Below w.heap.size w wc))
 case first =>
  have H := HC2.out
  clear HC2
  by_cases c3 : (l0.length : Int) > 8192
  ·rw [if_pos c3] at H
   have c3b0 : decide (8192 < (l0.length : Int)) = true := decide_eq_true c3
   have c3b1 : decide (8192 < l0.length) = true := decide_eq_true (by omega)
   clear c3
   (first | rw [c3b0] | (simp only [i64_w, i32_w]; rw [c3b0]) | rw [c3b1] | skip)
   have H' := Aside0.mk H
   clear H
   go_wp2
   go_meet
   case rel => exact ⟨_, (true), fr, H', ⟨by first | omega | exact Nat.le_refl _⟩, ⟨bl0 HB.out⟩⟩
  rw [if_neg c3] at H
  have c3b0 : decide (8192 < (l0.length : Int)) = false := decide_eq_false c3
  have c3b1 : decide (8192 < l0.length) = false := decide_eq_false (by omega)
  clear c3
  (first | rw [c3b0] | (simp only [i64_w, i32_w]; rw [c3b0]) | rw [c3b1] | skip)
  replace H := Option.bind_eq_some_iff.mp H
  obtain ⟨t115, A40, H⟩ := H
  replace H : (edge_May.j0 k l0 (!t115)) = some r := H
  have A4 := Aside0.mk A40
  clear A40
  have H' := Aside0.mk H
  clear H
  go_wp2_with (first | (go_at_call 86; (with_reducible refine (edge_Closed.calls k (fun k_ => k_ < w.heap.size) _ _ l0 t115 _ ?side1 A4.out).mono ?_); (case side1 => exact Kd.V_mk HC0.out (Kd.F_below (Kd.C_F k38_heap HR0.out) (bl0 HB.out))); rintro e w5 ⟨rfl, hb⟩; replace HB := Aside0.mk (below_step (bl0 HB.out) hb); (try clear hb)))
  go_meet
  case rel => exact ⟨_, (!t115), fr, H', ⟨by first | omega | exact Nat.le_refl _⟩, ⟨bl0 HB.out⟩⟩
 case rest =>
  clear HC2
  try clear p2
  try clear c3b0
  try clear c3b1
  try clear c5
  obtain ⟨kq, x12_1, rfl, HA, HJ1, HB⟩ := hcut
  cases kq with
  | zero => exact absurd HA.out (by simp [edge_May.j0])
  | succ kj1 =>
   have H := HA.out
   clear HA
   simp only [edge_May.j0] at H
   by_cases c6 : x12_1 = true
   ·subst c6
    rw [if_pos rfl] at H
    obtain rfl := Option.some.inj H
    go_wp2
    go_ret
    exact ⟨by first | rfl | (simp [errW_none, errW_some] <;> rfl) | (simp [*, errW_none, errW_some] <;> rfl), bl0 HB.out⟩
   replace c6 := Bool.eq_false_iff.mpr c6
   subst c6
   rw [if_neg (show ¬ (false = true) by decide)] at H
   have H' := Aside0.mk H
   clear H
   go_wp2
   go_loopg [15] kj1 (fun kq v15 w' => ∃ (x15_2 : Int), v15 = .int .i64 x15_2 ∧ Aside0 (edge_May.l0 kq l0 (l0.length : Int) x15_2 = some r) ∧ Aside0 (kq ≤ kj1) ∧ Aside0 (Below w.heap.size w w'))
   case atStart => exact ⟨(0), fr, H', ⟨Nat.le_refl _⟩, ⟨bl0 HB.out⟩⟩
   case round =>
    clear H'
    try clear p2
    try clear c3b0
    try clear c3b1
    try clear c5
    try clear c6
    try clear p2
    obtain ⟨x15_2, rfl, HA, HK2, HB⟩ := hrel
    cases gk with
    | zero => exact absurd HA.out (by simp [edge_May.l0])
    | succ k2 =>
     have H := HA.out
     clear HA
     simp only [edge_May.l0] at H
     by_cases c7 : x15_2 < (l0.length : Int)
     ·rw [if_pos c7] at H
      have c7b0 := decide_eq_true c7
      clear c7
      refine ifk H ?_; clear H; intro c8 H
      have c8b0 := decide_eq_true c8
      clear c8
      refine ifk H ?_; clear H; intro c9 H
      have c9b0 := decide_eq_true c9
      clear c9
      obtain ⟨y118, hy118⟩ : ∃ y_ : List (S36), y_ = (([(⟨(rd_T38 l0 x15_2).f2.f0, (rd_T38 l0 x15_2).f2.f1⟩ : S36), (⟨(rd_T38 l0 x15_2).f3.f0, (rd_T38 l0 x15_2).f3.f1⟩ : S36), (⟨(rd_T38 l0 x15_2).f4.f0, (rd_T38 l0 x15_2).f4.f1⟩ : S36)] : List (S36))) := ⟨_, rfl⟩
      replace H : ((edge_fine.f k2 y118).bind fun t121 => (if t121 = true then ((edge_none.f ((rd_T38 l0 x15_2).f0) ((rd_T38 l0 x15_2).f1) ((rd_T38 l0 x15_2).f2.f0) ((rd_T38 l0 x15_2).f2.f1) ((rd_T38 l0 x15_2).f3.f0) ((rd_T38 l0 x15_2).f3.f1) ((rd_T38 l0 x15_2).f4.f0) ((rd_T38 l0 x15_2).f4.f1)).bind fun t122 => (if t122 = true then (some false) else (if ((rd_T38 l0 x15_2).f1 = true) then (edge_May.l0 k2 l0 (l0.length : Int) (wrap64 (x15_2 + 1))) else (if (!(((rd_T38 l0 x15_2).f3.f0) == 0) || (!(((rd_T38 l0 x15_2).f3.f1) == 0))) = true then (some false) else (edge_May.l0 k2 l0 (l0.length : Int) (wrap64 (x15_2 + 1))))))) else (some false))) = some r := by (try rw [hy118]); first | with_reducible exact H | (have H2_ := (Option.bind_some _ _).symm.trans H; with_reducible exact H2_) | exact H
      have Ny118 := Aside0.mk hy118
      clear hy118
      replace H := Option.bind_eq_some_iff.mp H
      obtain ⟨t121, A100, H⟩ := H
      replace H : (if t121 = true then ((edge_none.f ((rd_T38 l0 x15_2).f0) ((rd_T38 l0 x15_2).f1) ((rd_T38 l0 x15_2).f2.f0) ((rd_T38 l0 x15_2).f2.f1) ((rd_T38 l0 x15_2).f3.f0) ((rd_T38 l0 x15_2).f3.f1) ((rd_T38 l0 x15_2).f4.f0) ((rd_T38 l0 x15_2).f4.f1)).bind fun t122 => (if t122 = true then (some false) else (if ((rd_T38 l0 x15_2).f1 = true) then (edge_May.l0 k2 l0 (l0.length : Int) (wrap64 (x15_2 + 1))) else (if (!(((rd_T38 l0 x15_2).f3.f0) == 0) || (!(((rd_T38 l0 x15_2).f3.f1) == 0))) = true then (some false) else (edge_May.l0 k2 l0 (l0.length : Int) (wrap64 (x15_2 + 1))))))) else (some false)) = some r := H
      have A10 := Aside0.mk A100
      clear A100
      by_cases c11 : t121 = true
      ·subst c11
       rw [if_pos rfl] at H
       replace H := Option.bind_eq_some_iff.mp H
       obtain ⟨t122, A120, H⟩ := H
       replace H : (if t122 = true then (some false) else (if ((rd_T38 l0 x15_2).f1 = true) then (edge_May.l0 k2 l0 (l0.length : Int) (wrap64 (x15_2 + 1))) else (if (!(((rd_T38 l0 x15_2).f3.f0) == 0) || (!(((rd_T38 l0 x15_2).f3.f1) == 0))) = true then (some false) else (edge_May.l0 k2 l0 (l0.length : Int) (wrap64 (x15_2 + 1)))))) = some r := H
       have A12 := Aside0.mk A120
       clear A120
       by_cases c13 : t122 = true
       ·subst c13
        rw [if_pos rfl] at H
        obtain rfl := Option.some.inj H
        have p116 : 0 ≤ (x15_2 : Int) := od
        have q116 : x15_2 < (l0.length : Int) := od
        obtain ⟨ad116, e116, hx116_0, hx116_1, hx116_2, hx116_3, hx116_4, hx116_5, hx116_6, hx116_7⟩ := at_T38 HR0.out x15_2 p116 q116
        cases e116
        replace hx116_0 := hc HB hx116_0
        replace hx116_1 := hc HB hx116_1
        replace hx116_2 := hc HB hx116_2
        replace hx116_3 := hc HB hx116_3
        replace hx116_4 := hc HB hx116_4
        replace hx116_5 := hc HB hx116_5
        replace hx116_6 := hc HB hx116_6
        replace hx116_7 := hc HB hx116_7
        replace p116 := eq_true p116
        replace q116 := eq_true q116
        go_wp2_with (first | ((with_reducible refine gate_dst (N := 4) rfl ?_); refine be 4 (#[.int .i64 0, .bool false, .int .i64 0, .int .i64 0, .int .i64 0, .int .i64 0, .int .i64 0, .int .i64 0]) 38 ?_; intro gb117 hg w14 hbox hb; have BK117 := Aside0.mk (hbox); have GW117 := Aside0.mk (gz (w := w) hg (bl0 HB.out)); have GE117 := GW117; replace HB := Aside0.mk (below_step (bl0 HB.out) hb); clear hb hbox hg; have hcz15_0 : w14.cell? ⟨gb117, 0, none⟩ = some (.int .i64 0) := (blk_cell BK117.out 0).trans rfl; have hcz15_1 : w14.cell? ⟨gb117, 1, none⟩ = some (.bool false) := (blk_cell BK117.out 1).trans rfl; have hcz15_2 : w14.cell? ⟨gb117, 2, none⟩ = some (.int .i64 0) := (blk_cell BK117.out 2).trans rfl; have hcz15_3 : w14.cell? ⟨gb117, 3, none⟩ = some (.int .i64 0) := (blk_cell BK117.out 3).trans rfl; have hcz15_4 : w14.cell? ⟨gb117, 4, none⟩ = some (.int .i64 0) := (blk_cell BK117.out 4).trans rfl; have hcz15_5 : w14.cell? ⟨gb117, 5, none⟩ = some (.int .i64 0) := (blk_cell BK117.out 5).trans rfl; have hcz15_6 : w14.cell? ⟨gb117, 6, none⟩ = some (.int .i64 0) := (blk_cell BK117.out 6).trans rfl; have hcz15_7 : w14.cell? ⟨gb117, 7, none⟩ = some (.int .i64 0) := (blk_cell BK117.out 7).trans rfl; have hfz15_0 := blk_frozen BK117.out 0; have hfz15_1 := blk_frozen BK117.out 1; have hfz15_2 := blk_frozen BK117.out 2; have hfz15_3 := blk_frozen BK117.out 3; have hfz15_4 := blk_frozen BK117.out 4; have hfz15_5 := blk_frozen BK117.out 5; have hfz15_6 := blk_frozen BK117.out 6; have hfz15_7 := blk_frozen BK117.out 7) | ((with_reducible refine gate_dst (N := 25) rfl ?_); refine Kd.R_lit k36 _ 36 ?hg (N := 25) ?hd (xs := ([(⟨(rd_T38 l0 x15_2).f2.f0, (rd_T38 l0 x15_2).f2.f1⟩ : S36), (⟨(rd_T38 l0 x15_2).f3.f0, (rd_T38 l0 x15_2).f3.f1⟩ : S36), (⟨(rd_T38 l0 x15_2).f4.f0, (rd_T38 l0 x15_2).f4.f1⟩ : S36)] : List (S36))) (inner := [.int .i64 ((rd_T38 l0 x15_2).f2.f0), .int .i64 ((rd_T38 l0 x15_2).f2.f1), .int .i64 ((rd_T38 l0 x15_2).f3.f0), .int .i64 ((rd_T38 l0 x15_2).f3.f1), .int .i64 ((rd_T38 l0 x15_2).f4.f0), .int .i64 ((rd_T38 l0 x15_2).f4.f1)]) (ok := fun _ => True) (okp := fun _ => True) ?hr ?hp (fun _ hk => hk) trivial (Below.refl _ _) (Nat.le_refl _) (by simp) ?_; (case hd => rfl); (case hg => rfl); (case hr => first | (go_simp; done) | (go_simp; rfl)); (case hp => exact (Reps.c2 (show Kd.M k36 _ _ _ (⟨(rd_T38 l0 x15_2).f2.f0, (rd_T38 l0 x15_2).f2.f1⟩ : S36) [.int .i64 ((rd_T38 l0 x15_2).f2.f0), .int .i64 ((rd_T38 l0 x15_2).f2.f1)] from (k36_mkM _ _ _ (⟨(rd_T38 l0 x15_2).f2.f0, (rd_T38 l0 x15_2).f2.f1⟩ : S36) )) (Reps.c2 (show Kd.M k36 _ _ _ (⟨(rd_T38 l0 x15_2).f3.f0, (rd_T38 l0 x15_2).f3.f1⟩ : S36) [.int .i64 ((rd_T38 l0 x15_2).f3.f0), .int .i64 ((rd_T38 l0 x15_2).f3.f1)] from (k36_mkM _ _ _ (⟨(rd_T38 l0 x15_2).f3.f0, (rd_T38 l0 x15_2).f3.f1⟩ : S36) )) (Reps.c2 (show Kd.M k36 _ _ _ (⟨(rd_T38 l0 x15_2).f4.f0, (rd_T38 l0 x15_2).f4.f1⟩ : S36) [.int .i64 ((rd_T38 l0 x15_2).f4.f0), .int .i64 ((rd_T38 l0 x15_2).f4.f1)] from (k36_mkM _ _ _ (⟨(rd_T38 l0 x15_2).f4.f0, (rd_T38 l0 x15_2).f4.f1⟩ : S36) )) (Reps.none _ _))))); intro v119 w16 ho17 hb hg_ hnew_; clear hg_ hnew_; (first | rw [← Ny118.out] at ho17 | (simp only [Int.reduceToNat] at ho17; rw [← Ny118.out] at ho17)); have HO120 := Aside0.mk (Kd.R_lower ho17 (below_size (bl1 HB.out GE117.out))); replace BK117 := Aside0.mk (blk_below (g := gb117) (o := .cells #[.int .i64 ((rd_T38 l0 x15_2).f0), .bool ((rd_T38 l0 x15_2).f1), .int .i64 ((rd_T38 l0 x15_2).f2.f0), .int .i64 ((rd_T38 l0 x15_2).f2.f1), .int .i64 ((rd_T38 l0 x15_2).f3.f0), .int .i64 ((rd_T38 l0 x15_2).f3.f1), .int .i64 ((rd_T38 l0 x15_2).f4.f0), .int .i64 ((rd_T38 l0 x15_2).f4.f1)] 38 (0, 0)) (by (with_reducible repeat (first | refine blk_drewN ?_ _ | refine blk_drew ?_ | refine blk_alloc ?_ _)); refine blk_put (cs := #[.int .i64 ((rd_T38 l0 x15_2).f0), .bool ((rd_T38 l0 x15_2).f1), .int .i64 ((rd_T38 l0 x15_2).f2.f0), .int .i64 ((rd_T38 l0 x15_2).f2.f1), .int .i64 ((rd_T38 l0 x15_2).f3.f0), .int .i64 ((rd_T38 l0 x15_2).f3.f1), .int .i64 ((rd_T38 l0 x15_2).f4.f0), .int .i64 0]) ?_ 7 _ rfl; (with_reducible repeat (first | refine blk_drewN ?_ _ | refine blk_drew ?_ | refine blk_alloc ?_ _)); refine blk_put (cs := #[.int .i64 ((rd_T38 l0 x15_2).f0), .bool ((rd_T38 l0 x15_2).f1), .int .i64 ((rd_T38 l0 x15_2).f2.f0), .int .i64 ((rd_T38 l0 x15_2).f2.f1), .int .i64 ((rd_T38 l0 x15_2).f3.f0), .int .i64 ((rd_T38 l0 x15_2).f3.f1), .int .i64 0, .int .i64 0]) ?_ 6 _ rfl; (with_reducible repeat (first | refine blk_drewN ?_ _ | refine blk_drew ?_ | refine blk_alloc ?_ _)); refine blk_put (cs := #[.int .i64 ((rd_T38 l0 x15_2).f0), .bool ((rd_T38 l0 x15_2).f1), .int .i64 ((rd_T38 l0 x15_2).f2.f0), .int .i64 ((rd_T38 l0 x15_2).f2.f1), .int .i64 ((rd_T38 l0 x15_2).f3.f0), .int .i64 0, .int .i64 0, .int .i64 0]) ?_ 5 _ rfl; (with_reducible repeat (first | refine blk_drewN ?_ _ | refine blk_drew ?_ | refine blk_alloc ?_ _)); refine blk_put (cs := #[.int .i64 ((rd_T38 l0 x15_2).f0), .bool ((rd_T38 l0 x15_2).f1), .int .i64 ((rd_T38 l0 x15_2).f2.f0), .int .i64 ((rd_T38 l0 x15_2).f2.f1), .int .i64 0, .int .i64 0, .int .i64 0, .int .i64 0]) ?_ 4 _ rfl; (with_reducible repeat (first | refine blk_drewN ?_ _ | refine blk_drew ?_ | refine blk_alloc ?_ _)); refine blk_put (cs := #[.int .i64 ((rd_T38 l0 x15_2).f0), .bool ((rd_T38 l0 x15_2).f1), .int .i64 ((rd_T38 l0 x15_2).f2.f0), .int .i64 0, .int .i64 0, .int .i64 0, .int .i64 0, .int .i64 0]) ?_ 3 _ rfl; (with_reducible repeat (first | refine blk_drewN ?_ _ | refine blk_drew ?_ | refine blk_alloc ?_ _)); refine blk_put (cs := #[.int .i64 ((rd_T38 l0 x15_2).f0), .bool ((rd_T38 l0 x15_2).f1), .int .i64 0, .int .i64 0, .int .i64 0, .int .i64 0, .int .i64 0, .int .i64 0]) ?_ 2 _ rfl; (with_reducible repeat (first | refine blk_drewN ?_ _ | refine blk_drew ?_ | refine blk_alloc ?_ _)); refine blk_put (cs := #[.int .i64 ((rd_T38 l0 x15_2).f0), .bool false, .int .i64 0, .int .i64 0, .int .i64 0, .int .i64 0, .int .i64 0, .int .i64 0]) ?_ 1 _ rfl; (with_reducible repeat (first | refine blk_drewN ?_ _ | refine blk_drew ?_ | refine blk_alloc ?_ _)); refine blk_put (cs := #[.int .i64 0, .bool false, .int .i64 0, .int .i64 0, .int .i64 0, .int .i64 0, .int .i64 0, .int .i64 0]) ?_ 0 _ rfl; (with_reducible repeat (first | refine blk_drewN ?_ _ | refine blk_drew ?_ | refine blk_alloc ?_ _)); exact BK117.out) hb); replace HB := Aside0.mk (below_step (bl1 HB.out GE117.out) hb); clear hb ho17; obtain ⟨Ao18, co18, eo18⟩ := Kd.R_slice HO120.out; subst eo18) | ((with_reducible refine gate_callee (f := 87) rfl ?_); refine goesL_ (some 26) rfl rfl Try.func87 (by kernel_rfl) rfl #[.slice Ao18 y118.length co18] rfl am ?_; (with_reducible refine (edge_fine.calls k2 _ _ y118 true _ ?side1 ?side2 A10.out).mono ?_); (case side1 => exact kc (Kd.R_reads' HO120.out).2.2); (case side2 => exact (Kd.R_reads' HO120.out).2.1); rintro e w19 ⟨rfl, hb⟩; refine ⟨_, rfl, ?_⟩; replace HO120 := Aside0.mk (Kd.R_below (kr HO120.out) hb); replace BK117 := Aside0.mk (bb BK117.out hb); replace HB := Aside0.mk (below_step (bl1 HB.out GE117.out) hb); (try clear hb); (try clear hk); have hcz20_0 : w19.cell? ⟨gb117, 0, none⟩ = some (.int .i64 ((rd_T38 l0 x15_2).f0)) := (blk_cell BK117.out 0).trans rfl; have hcz20_1 : w19.cell? ⟨gb117, 1, none⟩ = some (.bool ((rd_T38 l0 x15_2).f1)) := (blk_cell BK117.out 1).trans rfl; have hcz20_2 : w19.cell? ⟨gb117, 2, none⟩ = some (.int .i64 ((rd_T38 l0 x15_2).f2.f0)) := (blk_cell BK117.out 2).trans rfl; have hcz20_3 : w19.cell? ⟨gb117, 3, none⟩ = some (.int .i64 ((rd_T38 l0 x15_2).f2.f1)) := (blk_cell BK117.out 3).trans rfl; have hcz20_4 : w19.cell? ⟨gb117, 4, none⟩ = some (.int .i64 ((rd_T38 l0 x15_2).f3.f0)) := (blk_cell BK117.out 4).trans rfl; have hcz20_5 : w19.cell? ⟨gb117, 5, none⟩ = some (.int .i64 ((rd_T38 l0 x15_2).f3.f1)) := (blk_cell BK117.out 5).trans rfl; have hcz20_6 : w19.cell? ⟨gb117, 6, none⟩ = some (.int .i64 ((rd_T38 l0 x15_2).f4.f0)) := (blk_cell BK117.out 6).trans rfl; have hcz20_7 : w19.cell? ⟨gb117, 7, none⟩ = some (.int .i64 ((rd_T38 l0 x15_2).f4.f1)) := (blk_cell BK117.out 7).trans rfl; have hfz20_0 := blk_frozen BK117.out 0; have hfz20_1 := blk_frozen BK117.out 1; have hfz20_2 := blk_frozen BK117.out 2; have hfz20_3 := blk_frozen BK117.out 3; have hfz20_4 := blk_frozen BK117.out 4; have hfz20_5 := blk_frozen BK117.out 5; have hfz20_6 := blk_frozen BK117.out 6; have hfz20_7 := blk_frozen BK117.out 7) | (go_at_call 88; (with_reducible refine (edge_none.calls ((rd_T38 l0 x15_2).f0) ((rd_T38 l0 x15_2).f1) ((rd_T38 l0 x15_2).f2.f0) ((rd_T38 l0 x15_2).f2.f1) ((rd_T38 l0 x15_2).f3.f0) ((rd_T38 l0 x15_2).f3.f1) ((rd_T38 l0 x15_2).f4.f0) ((rd_T38 l0 x15_2).f4.f1) true _ A12.out).mono ?_); rintro e w21 ⟨rfl, hb⟩; replace HO120 := Aside0.mk (Kd.R_below (kr HO120.out) hb); replace BK117 := Aside0.mk (bb BK117.out hb); replace HB := Aside0.mk (below_step (bl1 HB.out GE117.out) hb); (try clear hb); (try clear hk)))
        go_ret
        exact ⟨by first | rfl | (simp [errW_none, errW_some] <;> rfl) | (simp [*, errW_none, errW_some] <;> rfl), bl1 HB.out GE117.out⟩
       replace c13 := Bool.eq_false_iff.mpr c13
       subst c13
       rw [if_neg (show ¬ (false = true) by decide)] at H
       obtain ⟨bq22, hbq22⟩ : ∃ b_ : Bool, b_ = ((rd_T38 l0 x15_2).f1) := ⟨_, rfl⟩
       replace H : (if (bq22 = true) then (edge_May.l0 k2 l0 (l0.length : Int) (wrap64 (x15_2 + 1))) else (if (!(((rd_T38 l0 x15_2).f3.f0) == 0) || (!(((rd_T38 l0 x15_2).f3.f1) == 0))) = true then (some false) else (edge_May.l0 k2 l0 (l0.length : Int) (wrap64 (x15_2 + 1))))) = some r := by rw [← hbq22] at H; exact H
       have Nbq22 := Aside0.mk hbq22
       clear hbq22
       by_cases c23 : (bq22 = true)
       ·subst c23
        rw [if_pos rfl] at H
        have H' := Aside0.mk H
        clear H
        have p116 : 0 ≤ (x15_2 : Int) := od
        have q116 : x15_2 < (l0.length : Int) := od
        obtain ⟨ad116, e116, hx116_0, hx116_1, hx116_2, hx116_3, hx116_4, hx116_5, hx116_6, hx116_7⟩ := at_T38 HR0.out x15_2 p116 q116
        (try rw [← Nbq22.out] at A4)
        (try rw [← Nbq22.out] at A10)
        (try rw [← Nbq22.out] at A12)
        (try rw [← Nbq22.out] at hx116_1)
        cases e116
        replace hx116_0 := hc HB hx116_0
        replace hx116_1 := hc HB hx116_1
        replace hx116_2 := hc HB hx116_2
        replace hx116_3 := hc HB hx116_3
        replace hx116_4 := hc HB hx116_4
        replace hx116_5 := hc HB hx116_5
        replace hx116_6 := hc HB hx116_6
        replace hx116_7 := hc HB hx116_7
        replace p116 := eq_true p116
        replace q116 := eq_true q116
        go_wp2_with (first | ((with_reducible refine gate_dst (N := 4) rfl ?_); refine be 4 (#[.int .i64 0, .bool false, .int .i64 0, .int .i64 0, .int .i64 0, .int .i64 0, .int .i64 0, .int .i64 0]) 38 ?_; intro gb117 hg w24 hbox hb; have BK117 := Aside0.mk (hbox); have GW117 := Aside0.mk (gz (w := w) hg (bl0 HB.out)); have GE117 := GW117; replace HB := Aside0.mk (below_step (bl0 HB.out) hb); clear hb hbox hg; have hcz25_0 : w24.cell? ⟨gb117, 0, none⟩ = some (.int .i64 0) := (blk_cell BK117.out 0).trans rfl; have hcz25_1 : w24.cell? ⟨gb117, 1, none⟩ = some (.bool false) := (blk_cell BK117.out 1).trans rfl; have hcz25_2 : w24.cell? ⟨gb117, 2, none⟩ = some (.int .i64 0) := (blk_cell BK117.out 2).trans rfl; have hcz25_3 : w24.cell? ⟨gb117, 3, none⟩ = some (.int .i64 0) := (blk_cell BK117.out 3).trans rfl; have hcz25_4 : w24.cell? ⟨gb117, 4, none⟩ = some (.int .i64 0) := (blk_cell BK117.out 4).trans rfl; have hcz25_5 : w24.cell? ⟨gb117, 5, none⟩ = some (.int .i64 0) := (blk_cell BK117.out 5).trans rfl; have hcz25_6 : w24.cell? ⟨gb117, 6, none⟩ = some (.int .i64 0) := (blk_cell BK117.out 6).trans rfl; have hcz25_7 : w24.cell? ⟨gb117, 7, none⟩ = some (.int .i64 0) := (blk_cell BK117.out 7).trans rfl; have hfz25_0 := blk_frozen BK117.out 0; have hfz25_1 := blk_frozen BK117.out 1; have hfz25_2 := blk_frozen BK117.out 2; have hfz25_3 := blk_frozen BK117.out 3; have hfz25_4 := blk_frozen BK117.out 4; have hfz25_5 := blk_frozen BK117.out 5; have hfz25_6 := blk_frozen BK117.out 6; have hfz25_7 := blk_frozen BK117.out 7) | ((with_reducible refine gate_dst (N := 25) rfl ?_); refine Kd.R_lit k36 _ 36 ?hg (N := 25) ?hd (xs := ([(⟨(rd_T38 l0 x15_2).f2.f0, (rd_T38 l0 x15_2).f2.f1⟩ : S36), (⟨(rd_T38 l0 x15_2).f3.f0, (rd_T38 l0 x15_2).f3.f1⟩ : S36), (⟨(rd_T38 l0 x15_2).f4.f0, (rd_T38 l0 x15_2).f4.f1⟩ : S36)] : List (S36))) (inner := [.int .i64 ((rd_T38 l0 x15_2).f2.f0), .int .i64 ((rd_T38 l0 x15_2).f2.f1), .int .i64 ((rd_T38 l0 x15_2).f3.f0), .int .i64 ((rd_T38 l0 x15_2).f3.f1), .int .i64 ((rd_T38 l0 x15_2).f4.f0), .int .i64 ((rd_T38 l0 x15_2).f4.f1)]) (ok := fun _ => True) (okp := fun _ => True) ?hr ?hp (fun _ hk => hk) trivial (Below.refl _ _) (Nat.le_refl _) (by simp) ?_; (case hd => rfl); (case hg => rfl); (case hr => first | (go_simp; done) | (go_simp; rfl)); (case hp => exact (Reps.c2 (show Kd.M k36 _ _ _ (⟨(rd_T38 l0 x15_2).f2.f0, (rd_T38 l0 x15_2).f2.f1⟩ : S36) [.int .i64 ((rd_T38 l0 x15_2).f2.f0), .int .i64 ((rd_T38 l0 x15_2).f2.f1)] from (k36_mkM _ _ _ (⟨(rd_T38 l0 x15_2).f2.f0, (rd_T38 l0 x15_2).f2.f1⟩ : S36) )) (Reps.c2 (show Kd.M k36 _ _ _ (⟨(rd_T38 l0 x15_2).f3.f0, (rd_T38 l0 x15_2).f3.f1⟩ : S36) [.int .i64 ((rd_T38 l0 x15_2).f3.f0), .int .i64 ((rd_T38 l0 x15_2).f3.f1)] from (k36_mkM _ _ _ (⟨(rd_T38 l0 x15_2).f3.f0, (rd_T38 l0 x15_2).f3.f1⟩ : S36) )) (Reps.c2 (show Kd.M k36 _ _ _ (⟨(rd_T38 l0 x15_2).f4.f0, (rd_T38 l0 x15_2).f4.f1⟩ : S36) [.int .i64 ((rd_T38 l0 x15_2).f4.f0), .int .i64 ((rd_T38 l0 x15_2).f4.f1)] from (k36_mkM _ _ _ (⟨(rd_T38 l0 x15_2).f4.f0, (rd_T38 l0 x15_2).f4.f1⟩ : S36) )) (Reps.none _ _))))); intro v119 w26 ho27 hb hg_ hnew_; clear hg_ hnew_; (first | rw [← Ny118.out] at ho27 | (simp only [Int.reduceToNat] at ho27; rw [← Ny118.out] at ho27)); have HO120 := Aside0.mk (Kd.R_lower ho27 (below_size (bl1 HB.out GE117.out))); replace BK117 := Aside0.mk (blk_below (g := gb117) (o := .cells #[.int .i64 ((rd_T38 l0 x15_2).f0), .bool true, .int .i64 ((rd_T38 l0 x15_2).f2.f0), .int .i64 ((rd_T38 l0 x15_2).f2.f1), .int .i64 ((rd_T38 l0 x15_2).f3.f0), .int .i64 ((rd_T38 l0 x15_2).f3.f1), .int .i64 ((rd_T38 l0 x15_2).f4.f0), .int .i64 ((rd_T38 l0 x15_2).f4.f1)] 38 (0, 0)) (by (with_reducible repeat (first | refine blk_drewN ?_ _ | refine blk_drew ?_ | refine blk_alloc ?_ _)); refine blk_put (cs := #[.int .i64 ((rd_T38 l0 x15_2).f0), .bool true, .int .i64 ((rd_T38 l0 x15_2).f2.f0), .int .i64 ((rd_T38 l0 x15_2).f2.f1), .int .i64 ((rd_T38 l0 x15_2).f3.f0), .int .i64 ((rd_T38 l0 x15_2).f3.f1), .int .i64 ((rd_T38 l0 x15_2).f4.f0), .int .i64 0]) ?_ 7 _ rfl; (with_reducible repeat (first | refine blk_drewN ?_ _ | refine blk_drew ?_ | refine blk_alloc ?_ _)); refine blk_put (cs := #[.int .i64 ((rd_T38 l0 x15_2).f0), .bool true, .int .i64 ((rd_T38 l0 x15_2).f2.f0), .int .i64 ((rd_T38 l0 x15_2).f2.f1), .int .i64 ((rd_T38 l0 x15_2).f3.f0), .int .i64 ((rd_T38 l0 x15_2).f3.f1), .int .i64 0, .int .i64 0]) ?_ 6 _ rfl; (with_reducible repeat (first | refine blk_drewN ?_ _ | refine blk_drew ?_ | refine blk_alloc ?_ _)); refine blk_put (cs := #[.int .i64 ((rd_T38 l0 x15_2).f0), .bool true, .int .i64 ((rd_T38 l0 x15_2).f2.f0), .int .i64 ((rd_T38 l0 x15_2).f2.f1), .int .i64 ((rd_T38 l0 x15_2).f3.f0), .int .i64 0, .int .i64 0, .int .i64 0]) ?_ 5 _ rfl; (with_reducible repeat (first | refine blk_drewN ?_ _ | refine blk_drew ?_ | refine blk_alloc ?_ _)); refine blk_put (cs := #[.int .i64 ((rd_T38 l0 x15_2).f0), .bool true, .int .i64 ((rd_T38 l0 x15_2).f2.f0), .int .i64 ((rd_T38 l0 x15_2).f2.f1), .int .i64 0, .int .i64 0, .int .i64 0, .int .i64 0]) ?_ 4 _ rfl; (with_reducible repeat (first | refine blk_drewN ?_ _ | refine blk_drew ?_ | refine blk_alloc ?_ _)); refine blk_put (cs := #[.int .i64 ((rd_T38 l0 x15_2).f0), .bool true, .int .i64 ((rd_T38 l0 x15_2).f2.f0), .int .i64 0, .int .i64 0, .int .i64 0, .int .i64 0, .int .i64 0]) ?_ 3 _ rfl; (with_reducible repeat (first | refine blk_drewN ?_ _ | refine blk_drew ?_ | refine blk_alloc ?_ _)); refine blk_put (cs := #[.int .i64 ((rd_T38 l0 x15_2).f0), .bool true, .int .i64 0, .int .i64 0, .int .i64 0, .int .i64 0, .int .i64 0, .int .i64 0]) ?_ 2 _ rfl; (with_reducible repeat (first | refine blk_drewN ?_ _ | refine blk_drew ?_ | refine blk_alloc ?_ _)); refine blk_put (cs := #[.int .i64 ((rd_T38 l0 x15_2).f0), .bool false, .int .i64 0, .int .i64 0, .int .i64 0, .int .i64 0, .int .i64 0, .int .i64 0]) ?_ 1 _ rfl; (with_reducible repeat (first | refine blk_drewN ?_ _ | refine blk_drew ?_ | refine blk_alloc ?_ _)); refine blk_put (cs := #[.int .i64 0, .bool false, .int .i64 0, .int .i64 0, .int .i64 0, .int .i64 0, .int .i64 0, .int .i64 0]) ?_ 0 _ rfl; (with_reducible repeat (first | refine blk_drewN ?_ _ | refine blk_drew ?_ | refine blk_alloc ?_ _)); exact BK117.out) hb); replace HB := Aside0.mk (below_step (bl1 HB.out GE117.out) hb); clear hb ho27; obtain ⟨Ao28, co28, eo28⟩ := Kd.R_slice HO120.out; subst eo28) | ((with_reducible refine gate_callee (f := 87) rfl ?_); refine goesL_ (some 26) rfl rfl Try.func87 (by kernel_rfl) rfl #[.slice Ao28 y118.length co28] rfl am ?_; (with_reducible refine (edge_fine.calls k2 _ _ y118 true _ ?side1 ?side2 A10.out).mono ?_); (case side1 => exact kc (Kd.R_reads' HO120.out).2.2); (case side2 => exact (Kd.R_reads' HO120.out).2.1); rintro e w29 ⟨rfl, hb⟩; refine ⟨_, rfl, ?_⟩; replace HO120 := Aside0.mk (Kd.R_below (kr HO120.out) hb); replace BK117 := Aside0.mk (bb BK117.out hb); replace HB := Aside0.mk (below_step (bl1 HB.out GE117.out) hb); (try clear hb); (try clear hk); have hcz30_0 : w29.cell? ⟨gb117, 0, none⟩ = some (.int .i64 ((rd_T38 l0 x15_2).f0)) := (blk_cell BK117.out 0).trans rfl; have hcz30_1 : w29.cell? ⟨gb117, 1, none⟩ = some (.bool true) := (blk_cell BK117.out 1).trans rfl; have hcz30_2 : w29.cell? ⟨gb117, 2, none⟩ = some (.int .i64 ((rd_T38 l0 x15_2).f2.f0)) := (blk_cell BK117.out 2).trans rfl; have hcz30_3 : w29.cell? ⟨gb117, 3, none⟩ = some (.int .i64 ((rd_T38 l0 x15_2).f2.f1)) := (blk_cell BK117.out 3).trans rfl; have hcz30_4 : w29.cell? ⟨gb117, 4, none⟩ = some (.int .i64 ((rd_T38 l0 x15_2).f3.f0)) := (blk_cell BK117.out 4).trans rfl; have hcz30_5 : w29.cell? ⟨gb117, 5, none⟩ = some (.int .i64 ((rd_T38 l0 x15_2).f3.f1)) := (blk_cell BK117.out 5).trans rfl; have hcz30_6 : w29.cell? ⟨gb117, 6, none⟩ = some (.int .i64 ((rd_T38 l0 x15_2).f4.f0)) := (blk_cell BK117.out 6).trans rfl; have hcz30_7 : w29.cell? ⟨gb117, 7, none⟩ = some (.int .i64 ((rd_T38 l0 x15_2).f4.f1)) := (blk_cell BK117.out 7).trans rfl; have hfz30_0 := blk_frozen BK117.out 0; have hfz30_1 := blk_frozen BK117.out 1; have hfz30_2 := blk_frozen BK117.out 2; have hfz30_3 := blk_frozen BK117.out 3; have hfz30_4 := blk_frozen BK117.out 4; have hfz30_5 := blk_frozen BK117.out 5; have hfz30_6 := blk_frozen BK117.out 6; have hfz30_7 := blk_frozen BK117.out 7) | (go_at_call 88; (with_reducible refine (edge_none.calls ((rd_T38 l0 x15_2).f0) true ((rd_T38 l0 x15_2).f2.f0) ((rd_T38 l0 x15_2).f2.f1) ((rd_T38 l0 x15_2).f3.f0) ((rd_T38 l0 x15_2).f3.f1) ((rd_T38 l0 x15_2).f4.f0) ((rd_T38 l0 x15_2).f4.f1) false _ A12.out).mono ?_); rintro e w31 ⟨rfl, hb⟩; replace HO120 := Aside0.mk (Kd.R_below (kr HO120.out) hb); replace BK117 := Aside0.mk (bb BK117.out hb); replace HB := Aside0.mk (below_step (bl1 HB.out GE117.out) hb); (try clear hb); (try clear hk); have hcz32_0 : w31.cell? ⟨gb117, 0, none⟩ = some (.int .i64 ((rd_T38 l0 x15_2).f0)) := (blk_cell BK117.out 0).trans rfl; have hcz32_1 : w31.cell? ⟨gb117, 1, none⟩ = some (.bool true) := (blk_cell BK117.out 1).trans rfl; have hcz32_2 : w31.cell? ⟨gb117, 2, none⟩ = some (.int .i64 ((rd_T38 l0 x15_2).f2.f0)) := (blk_cell BK117.out 2).trans rfl; have hcz32_3 : w31.cell? ⟨gb117, 3, none⟩ = some (.int .i64 ((rd_T38 l0 x15_2).f2.f1)) := (blk_cell BK117.out 3).trans rfl; have hcz32_4 : w31.cell? ⟨gb117, 4, none⟩ = some (.int .i64 ((rd_T38 l0 x15_2).f3.f0)) := (blk_cell BK117.out 4).trans rfl; have hcz32_5 : w31.cell? ⟨gb117, 5, none⟩ = some (.int .i64 ((rd_T38 l0 x15_2).f3.f1)) := (blk_cell BK117.out 5).trans rfl; have hcz32_6 : w31.cell? ⟨gb117, 6, none⟩ = some (.int .i64 ((rd_T38 l0 x15_2).f4.f0)) := (blk_cell BK117.out 6).trans rfl; have hcz32_7 : w31.cell? ⟨gb117, 7, none⟩ = some (.int .i64 ((rd_T38 l0 x15_2).f4.f1)) := (blk_cell BK117.out 7).trans rfl; have hfz32_0 := blk_frozen BK117.out 0; have hfz32_1 := blk_frozen BK117.out 1; have hfz32_2 := blk_frozen BK117.out 2; have hfz32_3 := blk_frozen BK117.out 3; have hfz32_4 := blk_frozen BK117.out 4; have hfz32_5 := blk_frozen BK117.out 5; have hfz32_6 := blk_frozen BK117.out 6; have hfz32_7 := blk_frozen BK117.out 7))
        go_roundg k2
        case measure => have := HJ1.out; have := HK2.out; omega
        case rel => exact ⟨(wrap64 (x15_2 + 1)), fr, H', ⟨by have := HJ1.out; have := HK2.out; omega⟩, ⟨bl1 HB.out GE117.out⟩⟩
       replace c23 := Bool.eq_false_iff.mpr c23
       subst c23
       rw [if_neg (show ¬ (false = true) by decide)] at H
       by_cases c33 : (!(((rd_T38 l0 x15_2).f3.f0) == 0) || (!(((rd_T38 l0 x15_2).f3.f1) == 0))) = true
       ·rw [if_pos c33] at H
        have c33b0 : (!(((rd_T38 l0 x15_2).f3.f0) == 0) || (!(((rd_T38 l0 x15_2).f3.f1) == 0))) = true := c33
        clear c33
        obtain rfl := Option.some.inj H
        have p116 : 0 ≤ (x15_2 : Int) := od
        have q116 : x15_2 < (l0.length : Int) := od
        obtain ⟨ad116, e116, hx116_0, hx116_1, hx116_2, hx116_3, hx116_4, hx116_5, hx116_6, hx116_7⟩ := at_T38 HR0.out x15_2 p116 q116
        (try rw [← Nbq22.out] at A4)
        (try rw [← Nbq22.out] at A10)
        (try rw [← Nbq22.out] at A12)
        (try rw [← Nbq22.out] at hx116_1)
        cases e116
        replace hx116_0 := hc HB hx116_0
        replace hx116_1 := hc HB hx116_1
        replace hx116_2 := hc HB hx116_2
        replace hx116_3 := hc HB hx116_3
        replace hx116_4 := hc HB hx116_4
        replace hx116_5 := hc HB hx116_5
        replace hx116_6 := hc HB hx116_6
        replace hx116_7 := hc HB hx116_7
        replace p116 := eq_true p116
        replace q116 := eq_true q116
        go_wp2_with (first | ((with_reducible refine gate_dst (N := 4) rfl ?_); refine be 4 (#[.int .i64 0, .bool false, .int .i64 0, .int .i64 0, .int .i64 0, .int .i64 0, .int .i64 0, .int .i64 0]) 38 ?_; intro gb117 hg w34 hbox hb; have BK117 := Aside0.mk (hbox); have GW117 := Aside0.mk (gz (w := w) hg (bl0 HB.out)); have GE117 := GW117; replace HB := Aside0.mk (below_step (bl0 HB.out) hb); clear hb hbox hg; have hcz35_0 : w34.cell? ⟨gb117, 0, none⟩ = some (.int .i64 0) := (blk_cell BK117.out 0).trans rfl; have hcz35_1 : w34.cell? ⟨gb117, 1, none⟩ = some (.bool false) := (blk_cell BK117.out 1).trans rfl; have hcz35_2 : w34.cell? ⟨gb117, 2, none⟩ = some (.int .i64 0) := (blk_cell BK117.out 2).trans rfl; have hcz35_3 : w34.cell? ⟨gb117, 3, none⟩ = some (.int .i64 0) := (blk_cell BK117.out 3).trans rfl; have hcz35_4 : w34.cell? ⟨gb117, 4, none⟩ = some (.int .i64 0) := (blk_cell BK117.out 4).trans rfl; have hcz35_5 : w34.cell? ⟨gb117, 5, none⟩ = some (.int .i64 0) := (blk_cell BK117.out 5).trans rfl; have hcz35_6 : w34.cell? ⟨gb117, 6, none⟩ = some (.int .i64 0) := (blk_cell BK117.out 6).trans rfl; have hcz35_7 : w34.cell? ⟨gb117, 7, none⟩ = some (.int .i64 0) := (blk_cell BK117.out 7).trans rfl; have hfz35_0 := blk_frozen BK117.out 0; have hfz35_1 := blk_frozen BK117.out 1; have hfz35_2 := blk_frozen BK117.out 2; have hfz35_3 := blk_frozen BK117.out 3; have hfz35_4 := blk_frozen BK117.out 4; have hfz35_5 := blk_frozen BK117.out 5; have hfz35_6 := blk_frozen BK117.out 6; have hfz35_7 := blk_frozen BK117.out 7) | ((with_reducible refine gate_dst (N := 25) rfl ?_); refine Kd.R_lit k36 _ 36 ?hg (N := 25) ?hd (xs := ([(⟨(rd_T38 l0 x15_2).f2.f0, (rd_T38 l0 x15_2).f2.f1⟩ : S36), (⟨(rd_T38 l0 x15_2).f3.f0, (rd_T38 l0 x15_2).f3.f1⟩ : S36), (⟨(rd_T38 l0 x15_2).f4.f0, (rd_T38 l0 x15_2).f4.f1⟩ : S36)] : List (S36))) (inner := [.int .i64 ((rd_T38 l0 x15_2).f2.f0), .int .i64 ((rd_T38 l0 x15_2).f2.f1), .int .i64 ((rd_T38 l0 x15_2).f3.f0), .int .i64 ((rd_T38 l0 x15_2).f3.f1), .int .i64 ((rd_T38 l0 x15_2).f4.f0), .int .i64 ((rd_T38 l0 x15_2).f4.f1)]) (ok := fun _ => True) (okp := fun _ => True) ?hr ?hp (fun _ hk => hk) trivial (Below.refl _ _) (Nat.le_refl _) (by simp) ?_; (case hd => rfl); (case hg => rfl); (case hr => first | (go_simp; done) | (go_simp; rfl)); (case hp => exact (Reps.c2 (show Kd.M k36 _ _ _ (⟨(rd_T38 l0 x15_2).f2.f0, (rd_T38 l0 x15_2).f2.f1⟩ : S36) [.int .i64 ((rd_T38 l0 x15_2).f2.f0), .int .i64 ((rd_T38 l0 x15_2).f2.f1)] from (k36_mkM _ _ _ (⟨(rd_T38 l0 x15_2).f2.f0, (rd_T38 l0 x15_2).f2.f1⟩ : S36) )) (Reps.c2 (show Kd.M k36 _ _ _ (⟨(rd_T38 l0 x15_2).f3.f0, (rd_T38 l0 x15_2).f3.f1⟩ : S36) [.int .i64 ((rd_T38 l0 x15_2).f3.f0), .int .i64 ((rd_T38 l0 x15_2).f3.f1)] from (k36_mkM _ _ _ (⟨(rd_T38 l0 x15_2).f3.f0, (rd_T38 l0 x15_2).f3.f1⟩ : S36) )) (Reps.c2 (show Kd.M k36 _ _ _ (⟨(rd_T38 l0 x15_2).f4.f0, (rd_T38 l0 x15_2).f4.f1⟩ : S36) [.int .i64 ((rd_T38 l0 x15_2).f4.f0), .int .i64 ((rd_T38 l0 x15_2).f4.f1)] from (k36_mkM _ _ _ (⟨(rd_T38 l0 x15_2).f4.f0, (rd_T38 l0 x15_2).f4.f1⟩ : S36) )) (Reps.none _ _))))); intro v119 w36 ho37 hb hg_ hnew_; clear hg_ hnew_; (first | rw [← Ny118.out] at ho37 | (simp only [Int.reduceToNat] at ho37; rw [← Ny118.out] at ho37)); have HO120 := Aside0.mk (Kd.R_lower ho37 (below_size (bl1 HB.out GE117.out))); replace BK117 := Aside0.mk (blk_below (g := gb117) (o := .cells #[.int .i64 ((rd_T38 l0 x15_2).f0), .bool false, .int .i64 ((rd_T38 l0 x15_2).f2.f0), .int .i64 ((rd_T38 l0 x15_2).f2.f1), .int .i64 ((rd_T38 l0 x15_2).f3.f0), .int .i64 ((rd_T38 l0 x15_2).f3.f1), .int .i64 ((rd_T38 l0 x15_2).f4.f0), .int .i64 ((rd_T38 l0 x15_2).f4.f1)] 38 (0, 0)) (by (with_reducible repeat (first | refine blk_drewN ?_ _ | refine blk_drew ?_ | refine blk_alloc ?_ _)); refine blk_put (cs := #[.int .i64 ((rd_T38 l0 x15_2).f0), .bool false, .int .i64 ((rd_T38 l0 x15_2).f2.f0), .int .i64 ((rd_T38 l0 x15_2).f2.f1), .int .i64 ((rd_T38 l0 x15_2).f3.f0), .int .i64 ((rd_T38 l0 x15_2).f3.f1), .int .i64 ((rd_T38 l0 x15_2).f4.f0), .int .i64 0]) ?_ 7 _ rfl; (with_reducible repeat (first | refine blk_drewN ?_ _ | refine blk_drew ?_ | refine blk_alloc ?_ _)); refine blk_put (cs := #[.int .i64 ((rd_T38 l0 x15_2).f0), .bool false, .int .i64 ((rd_T38 l0 x15_2).f2.f0), .int .i64 ((rd_T38 l0 x15_2).f2.f1), .int .i64 ((rd_T38 l0 x15_2).f3.f0), .int .i64 ((rd_T38 l0 x15_2).f3.f1), .int .i64 0, .int .i64 0]) ?_ 6 _ rfl; (with_reducible repeat (first | refine blk_drewN ?_ _ | refine blk_drew ?_ | refine blk_alloc ?_ _)); refine blk_put (cs := #[.int .i64 ((rd_T38 l0 x15_2).f0), .bool false, .int .i64 ((rd_T38 l0 x15_2).f2.f0), .int .i64 ((rd_T38 l0 x15_2).f2.f1), .int .i64 ((rd_T38 l0 x15_2).f3.f0), .int .i64 0, .int .i64 0, .int .i64 0]) ?_ 5 _ rfl; (with_reducible repeat (first | refine blk_drewN ?_ _ | refine blk_drew ?_ | refine blk_alloc ?_ _)); refine blk_put (cs := #[.int .i64 ((rd_T38 l0 x15_2).f0), .bool false, .int .i64 ((rd_T38 l0 x15_2).f2.f0), .int .i64 ((rd_T38 l0 x15_2).f2.f1), .int .i64 0, .int .i64 0, .int .i64 0, .int .i64 0]) ?_ 4 _ rfl; (with_reducible repeat (first | refine blk_drewN ?_ _ | refine blk_drew ?_ | refine blk_alloc ?_ _)); refine blk_put (cs := #[.int .i64 ((rd_T38 l0 x15_2).f0), .bool false, .int .i64 ((rd_T38 l0 x15_2).f2.f0), .int .i64 0, .int .i64 0, .int .i64 0, .int .i64 0, .int .i64 0]) ?_ 3 _ rfl; (with_reducible repeat (first | refine blk_drewN ?_ _ | refine blk_drew ?_ | refine blk_alloc ?_ _)); refine blk_put (cs := #[.int .i64 ((rd_T38 l0 x15_2).f0), .bool false, .int .i64 0, .int .i64 0, .int .i64 0, .int .i64 0, .int .i64 0, .int .i64 0]) ?_ 2 _ rfl; (with_reducible repeat (first | refine blk_drewN ?_ _ | refine blk_drew ?_ | refine blk_alloc ?_ _)); refine blk_put (cs := #[.int .i64 ((rd_T38 l0 x15_2).f0), .bool false, .int .i64 0, .int .i64 0, .int .i64 0, .int .i64 0, .int .i64 0, .int .i64 0]) ?_ 1 _ rfl; (with_reducible repeat (first | refine blk_drewN ?_ _ | refine blk_drew ?_ | refine blk_alloc ?_ _)); refine blk_put (cs := #[.int .i64 0, .bool false, .int .i64 0, .int .i64 0, .int .i64 0, .int .i64 0, .int .i64 0, .int .i64 0]) ?_ 0 _ rfl; (with_reducible repeat (first | refine blk_drewN ?_ _ | refine blk_drew ?_ | refine blk_alloc ?_ _)); exact BK117.out) hb); replace HB := Aside0.mk (below_step (bl1 HB.out GE117.out) hb); clear hb ho37; obtain ⟨Ao38, co38, eo38⟩ := Kd.R_slice HO120.out; subst eo38) | ((with_reducible refine gate_callee (f := 87) rfl ?_); refine goesL_ (some 26) rfl rfl Try.func87 (by kernel_rfl) rfl #[.slice Ao38 y118.length co38] rfl am ?_; (with_reducible refine (edge_fine.calls k2 _ _ y118 true _ ?side1 ?side2 A10.out).mono ?_); (case side1 => exact kc (Kd.R_reads' HO120.out).2.2); (case side2 => exact (Kd.R_reads' HO120.out).2.1); rintro e w39 ⟨rfl, hb⟩; refine ⟨_, rfl, ?_⟩; replace HO120 := Aside0.mk (Kd.R_below (kr HO120.out) hb); replace BK117 := Aside0.mk (bb BK117.out hb); replace HB := Aside0.mk (below_step (bl1 HB.out GE117.out) hb); (try clear hb); (try clear hk); have hcz40_0 : w39.cell? ⟨gb117, 0, none⟩ = some (.int .i64 ((rd_T38 l0 x15_2).f0)) := (blk_cell BK117.out 0).trans rfl; have hcz40_1 : w39.cell? ⟨gb117, 1, none⟩ = some (.bool false) := (blk_cell BK117.out 1).trans rfl; have hcz40_2 : w39.cell? ⟨gb117, 2, none⟩ = some (.int .i64 ((rd_T38 l0 x15_2).f2.f0)) := (blk_cell BK117.out 2).trans rfl; have hcz40_3 : w39.cell? ⟨gb117, 3, none⟩ = some (.int .i64 ((rd_T38 l0 x15_2).f2.f1)) := (blk_cell BK117.out 3).trans rfl; have hcz40_4 : w39.cell? ⟨gb117, 4, none⟩ = some (.int .i64 ((rd_T38 l0 x15_2).f3.f0)) := (blk_cell BK117.out 4).trans rfl; have hcz40_5 : w39.cell? ⟨gb117, 5, none⟩ = some (.int .i64 ((rd_T38 l0 x15_2).f3.f1)) := (blk_cell BK117.out 5).trans rfl; have hcz40_6 : w39.cell? ⟨gb117, 6, none⟩ = some (.int .i64 ((rd_T38 l0 x15_2).f4.f0)) := (blk_cell BK117.out 6).trans rfl; have hcz40_7 : w39.cell? ⟨gb117, 7, none⟩ = some (.int .i64 ((rd_T38 l0 x15_2).f4.f1)) := (blk_cell BK117.out 7).trans rfl; have hfz40_0 := blk_frozen BK117.out 0; have hfz40_1 := blk_frozen BK117.out 1; have hfz40_2 := blk_frozen BK117.out 2; have hfz40_3 := blk_frozen BK117.out 3; have hfz40_4 := blk_frozen BK117.out 4; have hfz40_5 := blk_frozen BK117.out 5; have hfz40_6 := blk_frozen BK117.out 6; have hfz40_7 := blk_frozen BK117.out 7) | (go_at_call 88; (with_reducible refine (edge_none.calls ((rd_T38 l0 x15_2).f0) false ((rd_T38 l0 x15_2).f2.f0) ((rd_T38 l0 x15_2).f2.f1) ((rd_T38 l0 x15_2).f3.f0) ((rd_T38 l0 x15_2).f3.f1) ((rd_T38 l0 x15_2).f4.f0) ((rd_T38 l0 x15_2).f4.f1) false _ A12.out).mono ?_); rintro e w41 ⟨rfl, hb⟩; replace HO120 := Aside0.mk (Kd.R_below (kr HO120.out) hb); replace BK117 := Aside0.mk (bb BK117.out hb); replace HB := Aside0.mk (below_step (bl1 HB.out GE117.out) hb); (try clear hb); (try clear hk); have hcz42_0 : w41.cell? ⟨gb117, 0, none⟩ = some (.int .i64 ((rd_T38 l0 x15_2).f0)) := (blk_cell BK117.out 0).trans rfl; have hcz42_1 : w41.cell? ⟨gb117, 1, none⟩ = some (.bool false) := (blk_cell BK117.out 1).trans rfl; have hcz42_2 : w41.cell? ⟨gb117, 2, none⟩ = some (.int .i64 ((rd_T38 l0 x15_2).f2.f0)) := (blk_cell BK117.out 2).trans rfl; have hcz42_3 : w41.cell? ⟨gb117, 3, none⟩ = some (.int .i64 ((rd_T38 l0 x15_2).f2.f1)) := (blk_cell BK117.out 3).trans rfl; have hcz42_4 : w41.cell? ⟨gb117, 4, none⟩ = some (.int .i64 ((rd_T38 l0 x15_2).f3.f0)) := (blk_cell BK117.out 4).trans rfl; have hcz42_5 : w41.cell? ⟨gb117, 5, none⟩ = some (.int .i64 ((rd_T38 l0 x15_2).f3.f1)) := (blk_cell BK117.out 5).trans rfl; have hcz42_6 : w41.cell? ⟨gb117, 6, none⟩ = some (.int .i64 ((rd_T38 l0 x15_2).f4.f0)) := (blk_cell BK117.out 6).trans rfl; have hcz42_7 : w41.cell? ⟨gb117, 7, none⟩ = some (.int .i64 ((rd_T38 l0 x15_2).f4.f1)) := (blk_cell BK117.out 7).trans rfl; have hfz42_0 := blk_frozen BK117.out 0; have hfz42_1 := blk_frozen BK117.out 1; have hfz42_2 := blk_frozen BK117.out 2; have hfz42_3 := blk_frozen BK117.out 3; have hfz42_4 := blk_frozen BK117.out 4; have hfz42_5 := blk_frozen BK117.out 5; have hfz42_6 := blk_frozen BK117.out 6; have hfz42_7 := blk_frozen BK117.out 7))
        go_ret
        exact ⟨by first | rfl | (simp [errW_none, errW_some] <;> rfl) | (simp [*, errW_none, errW_some] <;> rfl), bl1 HB.out GE117.out⟩
       rw [if_neg c33] at H
       have c33b0 : (!(((rd_T38 l0 x15_2).f3.f0) == 0) || (!(((rd_T38 l0 x15_2).f3.f1) == 0))) = false := by simpa using c33
       clear c33
       have H' := Aside0.mk H
       clear H
       have p116 : 0 ≤ (x15_2 : Int) := od
       have q116 : x15_2 < (l0.length : Int) := od
       obtain ⟨ad116, e116, hx116_0, hx116_1, hx116_2, hx116_3, hx116_4, hx116_5, hx116_6, hx116_7⟩ := at_T38 HR0.out x15_2 p116 q116
       (try rw [← Nbq22.out] at A4)
       (try rw [← Nbq22.out] at A10)
       (try rw [← Nbq22.out] at A12)
       (try rw [← Nbq22.out] at hx116_1)
       cases e116
       replace hx116_0 := hc HB hx116_0
       replace hx116_1 := hc HB hx116_1
       replace hx116_2 := hc HB hx116_2
       replace hx116_3 := hc HB hx116_3
       replace hx116_4 := hc HB hx116_4
       replace hx116_5 := hc HB hx116_5
       replace hx116_6 := hc HB hx116_6
       replace hx116_7 := hc HB hx116_7
       replace p116 := eq_true p116
       replace q116 := eq_true q116
       go_wp2_with (first | ((with_reducible refine gate_dst (N := 4) rfl ?_); refine be 4 (#[.int .i64 0, .bool false, .int .i64 0, .int .i64 0, .int .i64 0, .int .i64 0, .int .i64 0, .int .i64 0]) 38 ?_; intro gb117 hg w43 hbox hb; have BK117 := Aside0.mk (hbox); have GW117 := Aside0.mk (gz (w := w) hg (bl0 HB.out)); have GE117 := GW117; replace HB := Aside0.mk (below_step (bl0 HB.out) hb); clear hb hbox hg; have hcz44_0 : w43.cell? ⟨gb117, 0, none⟩ = some (.int .i64 0) := (blk_cell BK117.out 0).trans rfl; have hcz44_1 : w43.cell? ⟨gb117, 1, none⟩ = some (.bool false) := (blk_cell BK117.out 1).trans rfl; have hcz44_2 : w43.cell? ⟨gb117, 2, none⟩ = some (.int .i64 0) := (blk_cell BK117.out 2).trans rfl; have hcz44_3 : w43.cell? ⟨gb117, 3, none⟩ = some (.int .i64 0) := (blk_cell BK117.out 3).trans rfl; have hcz44_4 : w43.cell? ⟨gb117, 4, none⟩ = some (.int .i64 0) := (blk_cell BK117.out 4).trans rfl; have hcz44_5 : w43.cell? ⟨gb117, 5, none⟩ = some (.int .i64 0) := (blk_cell BK117.out 5).trans rfl; have hcz44_6 : w43.cell? ⟨gb117, 6, none⟩ = some (.int .i64 0) := (blk_cell BK117.out 6).trans rfl; have hcz44_7 : w43.cell? ⟨gb117, 7, none⟩ = some (.int .i64 0) := (blk_cell BK117.out 7).trans rfl; have hfz44_0 := blk_frozen BK117.out 0; have hfz44_1 := blk_frozen BK117.out 1; have hfz44_2 := blk_frozen BK117.out 2; have hfz44_3 := blk_frozen BK117.out 3; have hfz44_4 := blk_frozen BK117.out 4; have hfz44_5 := blk_frozen BK117.out 5; have hfz44_6 := blk_frozen BK117.out 6; have hfz44_7 := blk_frozen BK117.out 7) | ((with_reducible refine gate_dst (N := 25) rfl ?_); refine Kd.R_lit k36 _ 36 ?hg (N := 25) ?hd (xs := ([(⟨(rd_T38 l0 x15_2).f2.f0, (rd_T38 l0 x15_2).f2.f1⟩ : S36), (⟨(rd_T38 l0 x15_2).f3.f0, (rd_T38 l0 x15_2).f3.f1⟩ : S36), (⟨(rd_T38 l0 x15_2).f4.f0, (rd_T38 l0 x15_2).f4.f1⟩ : S36)] : List (S36))) (inner := [.int .i64 ((rd_T38 l0 x15_2).f2.f0), .int .i64 ((rd_T38 l0 x15_2).f2.f1), .int .i64 ((rd_T38 l0 x15_2).f3.f0), .int .i64 ((rd_T38 l0 x15_2).f3.f1), .int .i64 ((rd_T38 l0 x15_2).f4.f0), .int .i64 ((rd_T38 l0 x15_2).f4.f1)]) (ok := fun _ => True) (okp := fun _ => True) ?hr ?hp (fun _ hk => hk) trivial (Below.refl _ _) (Nat.le_refl _) (by simp) ?_; (case hd => rfl); (case hg => rfl); (case hr => first | (go_simp; done) | (go_simp; rfl)); (case hp => exact (Reps.c2 (show Kd.M k36 _ _ _ (⟨(rd_T38 l0 x15_2).f2.f0, (rd_T38 l0 x15_2).f2.f1⟩ : S36) [.int .i64 ((rd_T38 l0 x15_2).f2.f0), .int .i64 ((rd_T38 l0 x15_2).f2.f1)] from (k36_mkM _ _ _ (⟨(rd_T38 l0 x15_2).f2.f0, (rd_T38 l0 x15_2).f2.f1⟩ : S36) )) (Reps.c2 (show Kd.M k36 _ _ _ (⟨(rd_T38 l0 x15_2).f3.f0, (rd_T38 l0 x15_2).f3.f1⟩ : S36) [.int .i64 ((rd_T38 l0 x15_2).f3.f0), .int .i64 ((rd_T38 l0 x15_2).f3.f1)] from (k36_mkM _ _ _ (⟨(rd_T38 l0 x15_2).f3.f0, (rd_T38 l0 x15_2).f3.f1⟩ : S36) )) (Reps.c2 (show Kd.M k36 _ _ _ (⟨(rd_T38 l0 x15_2).f4.f0, (rd_T38 l0 x15_2).f4.f1⟩ : S36) [.int .i64 ((rd_T38 l0 x15_2).f4.f0), .int .i64 ((rd_T38 l0 x15_2).f4.f1)] from (k36_mkM _ _ _ (⟨(rd_T38 l0 x15_2).f4.f0, (rd_T38 l0 x15_2).f4.f1⟩ : S36) )) (Reps.none _ _))))); intro v119 w45 ho46 hb hg_ hnew_; clear hg_ hnew_; (first | rw [← Ny118.out] at ho46 | (simp only [Int.reduceToNat] at ho46; rw [← Ny118.out] at ho46)); have HO120 := Aside0.mk (Kd.R_lower ho46 (below_size (bl1 HB.out GE117.out))); replace BK117 := Aside0.mk (blk_below (g := gb117) (o := .cells #[.int .i64 ((rd_T38 l0 x15_2).f0), .bool false, .int .i64 ((rd_T38 l0 x15_2).f2.f0), .int .i64 ((rd_T38 l0 x15_2).f2.f1), .int .i64 ((rd_T38 l0 x15_2).f3.f0), .int .i64 ((rd_T38 l0 x15_2).f3.f1), .int .i64 ((rd_T38 l0 x15_2).f4.f0), .int .i64 ((rd_T38 l0 x15_2).f4.f1)] 38 (0, 0)) (by (with_reducible repeat (first | refine blk_drewN ?_ _ | refine blk_drew ?_ | refine blk_alloc ?_ _)); refine blk_put (cs := #[.int .i64 ((rd_T38 l0 x15_2).f0), .bool false, .int .i64 ((rd_T38 l0 x15_2).f2.f0), .int .i64 ((rd_T38 l0 x15_2).f2.f1), .int .i64 ((rd_T38 l0 x15_2).f3.f0), .int .i64 ((rd_T38 l0 x15_2).f3.f1), .int .i64 ((rd_T38 l0 x15_2).f4.f0), .int .i64 0]) ?_ 7 _ rfl; (with_reducible repeat (first | refine blk_drewN ?_ _ | refine blk_drew ?_ | refine blk_alloc ?_ _)); refine blk_put (cs := #[.int .i64 ((rd_T38 l0 x15_2).f0), .bool false, .int .i64 ((rd_T38 l0 x15_2).f2.f0), .int .i64 ((rd_T38 l0 x15_2).f2.f1), .int .i64 ((rd_T38 l0 x15_2).f3.f0), .int .i64 ((rd_T38 l0 x15_2).f3.f1), .int .i64 0, .int .i64 0]) ?_ 6 _ rfl; (with_reducible repeat (first | refine blk_drewN ?_ _ | refine blk_drew ?_ | refine blk_alloc ?_ _)); refine blk_put (cs := #[.int .i64 ((rd_T38 l0 x15_2).f0), .bool false, .int .i64 ((rd_T38 l0 x15_2).f2.f0), .int .i64 ((rd_T38 l0 x15_2).f2.f1), .int .i64 ((rd_T38 l0 x15_2).f3.f0), .int .i64 0, .int .i64 0, .int .i64 0]) ?_ 5 _ rfl; (with_reducible repeat (first | refine blk_drewN ?_ _ | refine blk_drew ?_ | refine blk_alloc ?_ _)); refine blk_put (cs := #[.int .i64 ((rd_T38 l0 x15_2).f0), .bool false, .int .i64 ((rd_T38 l0 x15_2).f2.f0), .int .i64 ((rd_T38 l0 x15_2).f2.f1), .int .i64 0, .int .i64 0, .int .i64 0, .int .i64 0]) ?_ 4 _ rfl; (with_reducible repeat (first | refine blk_drewN ?_ _ | refine blk_drew ?_ | refine blk_alloc ?_ _)); refine blk_put (cs := #[.int .i64 ((rd_T38 l0 x15_2).f0), .bool false, .int .i64 ((rd_T38 l0 x15_2).f2.f0), .int .i64 0, .int .i64 0, .int .i64 0, .int .i64 0, .int .i64 0]) ?_ 3 _ rfl; (with_reducible repeat (first | refine blk_drewN ?_ _ | refine blk_drew ?_ | refine blk_alloc ?_ _)); refine blk_put (cs := #[.int .i64 ((rd_T38 l0 x15_2).f0), .bool false, .int .i64 0, .int .i64 0, .int .i64 0, .int .i64 0, .int .i64 0, .int .i64 0]) ?_ 2 _ rfl; (with_reducible repeat (first | refine blk_drewN ?_ _ | refine blk_drew ?_ | refine blk_alloc ?_ _)); refine blk_put (cs := #[.int .i64 ((rd_T38 l0 x15_2).f0), .bool false, .int .i64 0, .int .i64 0, .int .i64 0, .int .i64 0, .int .i64 0, .int .i64 0]) ?_ 1 _ rfl; (with_reducible repeat (first | refine blk_drewN ?_ _ | refine blk_drew ?_ | refine blk_alloc ?_ _)); refine blk_put (cs := #[.int .i64 0, .bool false, .int .i64 0, .int .i64 0, .int .i64 0, .int .i64 0, .int .i64 0, .int .i64 0]) ?_ 0 _ rfl; (with_reducible repeat (first | refine blk_drewN ?_ _ | refine blk_drew ?_ | refine blk_alloc ?_ _)); exact BK117.out) hb); replace HB := Aside0.mk (below_step (bl1 HB.out GE117.out) hb); clear hb ho46; obtain ⟨Ao47, co47, eo47⟩ := Kd.R_slice HO120.out; subst eo47) | ((with_reducible refine gate_callee (f := 87) rfl ?_); refine goesL_ (some 26) rfl rfl Try.func87 (by kernel_rfl) rfl #[.slice Ao47 y118.length co47] rfl am ?_; (with_reducible refine (edge_fine.calls k2 _ _ y118 true _ ?side1 ?side2 A10.out).mono ?_); (case side1 => exact kc (Kd.R_reads' HO120.out).2.2); (case side2 => exact (Kd.R_reads' HO120.out).2.1); rintro e w48 ⟨rfl, hb⟩; refine ⟨_, rfl, ?_⟩; replace HO120 := Aside0.mk (Kd.R_below (kr HO120.out) hb); replace BK117 := Aside0.mk (bb BK117.out hb); replace HB := Aside0.mk (below_step (bl1 HB.out GE117.out) hb); (try clear hb); (try clear hk); have hcz49_0 : w48.cell? ⟨gb117, 0, none⟩ = some (.int .i64 ((rd_T38 l0 x15_2).f0)) := (blk_cell BK117.out 0).trans rfl; have hcz49_1 : w48.cell? ⟨gb117, 1, none⟩ = some (.bool false) := (blk_cell BK117.out 1).trans rfl; have hcz49_2 : w48.cell? ⟨gb117, 2, none⟩ = some (.int .i64 ((rd_T38 l0 x15_2).f2.f0)) := (blk_cell BK117.out 2).trans rfl; have hcz49_3 : w48.cell? ⟨gb117, 3, none⟩ = some (.int .i64 ((rd_T38 l0 x15_2).f2.f1)) := (blk_cell BK117.out 3).trans rfl; have hcz49_4 : w48.cell? ⟨gb117, 4, none⟩ = some (.int .i64 ((rd_T38 l0 x15_2).f3.f0)) := (blk_cell BK117.out 4).trans rfl; have hcz49_5 : w48.cell? ⟨gb117, 5, none⟩ = some (.int .i64 ((rd_T38 l0 x15_2).f3.f1)) := (blk_cell BK117.out 5).trans rfl; have hcz49_6 : w48.cell? ⟨gb117, 6, none⟩ = some (.int .i64 ((rd_T38 l0 x15_2).f4.f0)) := (blk_cell BK117.out 6).trans rfl; have hcz49_7 : w48.cell? ⟨gb117, 7, none⟩ = some (.int .i64 ((rd_T38 l0 x15_2).f4.f1)) := (blk_cell BK117.out 7).trans rfl; have hfz49_0 := blk_frozen BK117.out 0; have hfz49_1 := blk_frozen BK117.out 1; have hfz49_2 := blk_frozen BK117.out 2; have hfz49_3 := blk_frozen BK117.out 3; have hfz49_4 := blk_frozen BK117.out 4; have hfz49_5 := blk_frozen BK117.out 5; have hfz49_6 := blk_frozen BK117.out 6; have hfz49_7 := blk_frozen BK117.out 7) | (go_at_call 88; (with_reducible refine (edge_none.calls ((rd_T38 l0 x15_2).f0) false ((rd_T38 l0 x15_2).f2.f0) ((rd_T38 l0 x15_2).f2.f1) ((rd_T38 l0 x15_2).f3.f0) ((rd_T38 l0 x15_2).f3.f1) ((rd_T38 l0 x15_2).f4.f0) ((rd_T38 l0 x15_2).f4.f1) false _ A12.out).mono ?_); rintro e w50 ⟨rfl, hb⟩; replace HO120 := Aside0.mk (Kd.R_below (kr HO120.out) hb); replace BK117 := Aside0.mk (bb BK117.out hb); replace HB := Aside0.mk (below_step (bl1 HB.out GE117.out) hb); (try clear hb); (try clear hk); have hcz51_0 : w50.cell? ⟨gb117, 0, none⟩ = some (.int .i64 ((rd_T38 l0 x15_2).f0)) := (blk_cell BK117.out 0).trans rfl; have hcz51_1 : w50.cell? ⟨gb117, 1, none⟩ = some (.bool false) := (blk_cell BK117.out 1).trans rfl; have hcz51_2 : w50.cell? ⟨gb117, 2, none⟩ = some (.int .i64 ((rd_T38 l0 x15_2).f2.f0)) := (blk_cell BK117.out 2).trans rfl; have hcz51_3 : w50.cell? ⟨gb117, 3, none⟩ = some (.int .i64 ((rd_T38 l0 x15_2).f2.f1)) := (blk_cell BK117.out 3).trans rfl; have hcz51_4 : w50.cell? ⟨gb117, 4, none⟩ = some (.int .i64 ((rd_T38 l0 x15_2).f3.f0)) := (blk_cell BK117.out 4).trans rfl; have hcz51_5 : w50.cell? ⟨gb117, 5, none⟩ = some (.int .i64 ((rd_T38 l0 x15_2).f3.f1)) := (blk_cell BK117.out 5).trans rfl; have hcz51_6 : w50.cell? ⟨gb117, 6, none⟩ = some (.int .i64 ((rd_T38 l0 x15_2).f4.f0)) := (blk_cell BK117.out 6).trans rfl; have hcz51_7 : w50.cell? ⟨gb117, 7, none⟩ = some (.int .i64 ((rd_T38 l0 x15_2).f4.f1)) := (blk_cell BK117.out 7).trans rfl; have hfz51_0 := blk_frozen BK117.out 0; have hfz51_1 := blk_frozen BK117.out 1; have hfz51_2 := blk_frozen BK117.out 2; have hfz51_3 := blk_frozen BK117.out 3; have hfz51_4 := blk_frozen BK117.out 4; have hfz51_5 := blk_frozen BK117.out 5; have hfz51_6 := blk_frozen BK117.out 6; have hfz51_7 := blk_frozen BK117.out 7))
       go_roundg k2
       case measure => have := HJ1.out; have := HK2.out; omega
       case rel => exact ⟨(wrap64 (x15_2 + 1)), fr, H', ⟨by have := HJ1.out; have := HK2.out; omega⟩, ⟨bl1 HB.out GE117.out⟩⟩
      replace c11 := Bool.eq_false_iff.mpr c11
      subst c11
      rw [if_neg (show ¬ (false = true) by decide)] at H
      obtain rfl := Option.some.inj H
      have p116 : 0 ≤ (x15_2 : Int) := od
      have q116 : x15_2 < (l0.length : Int) := od
      obtain ⟨ad116, e116, hx116_0, hx116_1, hx116_2, hx116_3, hx116_4, hx116_5, hx116_6, hx116_7⟩ := at_T38 HR0.out x15_2 p116 q116
      cases e116
      replace hx116_0 := hc HB hx116_0
      replace hx116_1 := hc HB hx116_1
      replace hx116_2 := hc HB hx116_2
      replace hx116_3 := hc HB hx116_3
      replace hx116_4 := hc HB hx116_4
      replace hx116_5 := hc HB hx116_5
      replace hx116_6 := hc HB hx116_6
      replace hx116_7 := hc HB hx116_7
      replace p116 := eq_true p116
      replace q116 := eq_true q116
      go_wp2_with (first | ((with_reducible refine gate_dst (N := 4) rfl ?_); refine be 4 (#[.int .i64 0, .bool false, .int .i64 0, .int .i64 0, .int .i64 0, .int .i64 0, .int .i64 0, .int .i64 0]) 38 ?_; intro gb117 hg w52 hbox hb; have BK117 := Aside0.mk (hbox); have GW117 := Aside0.mk (gz (w := w) hg (bl0 HB.out)); have GE117 := GW117; replace HB := Aside0.mk (below_step (bl0 HB.out) hb); clear hb hbox hg; have hcz53_0 : w52.cell? ⟨gb117, 0, none⟩ = some (.int .i64 0) := (blk_cell BK117.out 0).trans rfl; have hcz53_1 : w52.cell? ⟨gb117, 1, none⟩ = some (.bool false) := (blk_cell BK117.out 1).trans rfl; have hcz53_2 : w52.cell? ⟨gb117, 2, none⟩ = some (.int .i64 0) := (blk_cell BK117.out 2).trans rfl; have hcz53_3 : w52.cell? ⟨gb117, 3, none⟩ = some (.int .i64 0) := (blk_cell BK117.out 3).trans rfl; have hcz53_4 : w52.cell? ⟨gb117, 4, none⟩ = some (.int .i64 0) := (blk_cell BK117.out 4).trans rfl; have hcz53_5 : w52.cell? ⟨gb117, 5, none⟩ = some (.int .i64 0) := (blk_cell BK117.out 5).trans rfl; have hcz53_6 : w52.cell? ⟨gb117, 6, none⟩ = some (.int .i64 0) := (blk_cell BK117.out 6).trans rfl; have hcz53_7 : w52.cell? ⟨gb117, 7, none⟩ = some (.int .i64 0) := (blk_cell BK117.out 7).trans rfl; have hfz53_0 := blk_frozen BK117.out 0; have hfz53_1 := blk_frozen BK117.out 1; have hfz53_2 := blk_frozen BK117.out 2; have hfz53_3 := blk_frozen BK117.out 3; have hfz53_4 := blk_frozen BK117.out 4; have hfz53_5 := blk_frozen BK117.out 5; have hfz53_6 := blk_frozen BK117.out 6; have hfz53_7 := blk_frozen BK117.out 7) | ((with_reducible refine gate_dst (N := 25) rfl ?_); refine Kd.R_lit k36 _ 36 ?hg (N := 25) ?hd (xs := ([(⟨(rd_T38 l0 x15_2).f2.f0, (rd_T38 l0 x15_2).f2.f1⟩ : S36), (⟨(rd_T38 l0 x15_2).f3.f0, (rd_T38 l0 x15_2).f3.f1⟩ : S36), (⟨(rd_T38 l0 x15_2).f4.f0, (rd_T38 l0 x15_2).f4.f1⟩ : S36)] : List (S36))) (inner := [.int .i64 ((rd_T38 l0 x15_2).f2.f0), .int .i64 ((rd_T38 l0 x15_2).f2.f1), .int .i64 ((rd_T38 l0 x15_2).f3.f0), .int .i64 ((rd_T38 l0 x15_2).f3.f1), .int .i64 ((rd_T38 l0 x15_2).f4.f0), .int .i64 ((rd_T38 l0 x15_2).f4.f1)]) (ok := fun _ => True) (okp := fun _ => True) ?hr ?hp (fun _ hk => hk) trivial (Below.refl _ _) (Nat.le_refl _) (by simp) ?_; (case hd => rfl); (case hg => rfl); (case hr => first | (go_simp; done) | (go_simp; rfl)); (case hp => exact (Reps.c2 (show Kd.M k36 _ _ _ (⟨(rd_T38 l0 x15_2).f2.f0, (rd_T38 l0 x15_2).f2.f1⟩ : S36) [.int .i64 ((rd_T38 l0 x15_2).f2.f0), .int .i64 ((rd_T38 l0 x15_2).f2.f1)] from (k36_mkM _ _ _ (⟨(rd_T38 l0 x15_2).f2.f0, (rd_T38 l0 x15_2).f2.f1⟩ : S36) )) (Reps.c2 (show Kd.M k36 _ _ _ (⟨(rd_T38 l0 x15_2).f3.f0, (rd_T38 l0 x15_2).f3.f1⟩ : S36) [.int .i64 ((rd_T38 l0 x15_2).f3.f0), .int .i64 ((rd_T38 l0 x15_2).f3.f1)] from (k36_mkM _ _ _ (⟨(rd_T38 l0 x15_2).f3.f0, (rd_T38 l0 x15_2).f3.f1⟩ : S36) )) (Reps.c2 (show Kd.M k36 _ _ _ (⟨(rd_T38 l0 x15_2).f4.f0, (rd_T38 l0 x15_2).f4.f1⟩ : S36) [.int .i64 ((rd_T38 l0 x15_2).f4.f0), .int .i64 ((rd_T38 l0 x15_2).f4.f1)] from (k36_mkM _ _ _ (⟨(rd_T38 l0 x15_2).f4.f0, (rd_T38 l0 x15_2).f4.f1⟩ : S36) )) (Reps.none _ _))))); intro v119 w54 ho55 hb hg_ hnew_; clear hg_ hnew_; (first | rw [← Ny118.out] at ho55 | (simp only [Int.reduceToNat] at ho55; rw [← Ny118.out] at ho55)); have HO120 := Aside0.mk (Kd.R_lower ho55 (below_size (bl1 HB.out GE117.out))); replace BK117 := Aside0.mk (blk_below (g := gb117) (o := .cells #[.int .i64 ((rd_T38 l0 x15_2).f0), .bool ((rd_T38 l0 x15_2).f1), .int .i64 ((rd_T38 l0 x15_2).f2.f0), .int .i64 ((rd_T38 l0 x15_2).f2.f1), .int .i64 ((rd_T38 l0 x15_2).f3.f0), .int .i64 ((rd_T38 l0 x15_2).f3.f1), .int .i64 ((rd_T38 l0 x15_2).f4.f0), .int .i64 ((rd_T38 l0 x15_2).f4.f1)] 38 (0, 0)) (by (with_reducible repeat (first | refine blk_drewN ?_ _ | refine blk_drew ?_ | refine blk_alloc ?_ _)); refine blk_put (cs := #[.int .i64 ((rd_T38 l0 x15_2).f0), .bool ((rd_T38 l0 x15_2).f1), .int .i64 ((rd_T38 l0 x15_2).f2.f0), .int .i64 ((rd_T38 l0 x15_2).f2.f1), .int .i64 ((rd_T38 l0 x15_2).f3.f0), .int .i64 ((rd_T38 l0 x15_2).f3.f1), .int .i64 ((rd_T38 l0 x15_2).f4.f0), .int .i64 0]) ?_ 7 _ rfl; (with_reducible repeat (first | refine blk_drewN ?_ _ | refine blk_drew ?_ | refine blk_alloc ?_ _)); refine blk_put (cs := #[.int .i64 ((rd_T38 l0 x15_2).f0), .bool ((rd_T38 l0 x15_2).f1), .int .i64 ((rd_T38 l0 x15_2).f2.f0), .int .i64 ((rd_T38 l0 x15_2).f2.f1), .int .i64 ((rd_T38 l0 x15_2).f3.f0), .int .i64 ((rd_T38 l0 x15_2).f3.f1), .int .i64 0, .int .i64 0]) ?_ 6 _ rfl; (with_reducible repeat (first | refine blk_drewN ?_ _ | refine blk_drew ?_ | refine blk_alloc ?_ _)); refine blk_put (cs := #[.int .i64 ((rd_T38 l0 x15_2).f0), .bool ((rd_T38 l0 x15_2).f1), .int .i64 ((rd_T38 l0 x15_2).f2.f0), .int .i64 ((rd_T38 l0 x15_2).f2.f1), .int .i64 ((rd_T38 l0 x15_2).f3.f0), .int .i64 0, .int .i64 0, .int .i64 0]) ?_ 5 _ rfl; (with_reducible repeat (first | refine blk_drewN ?_ _ | refine blk_drew ?_ | refine blk_alloc ?_ _)); refine blk_put (cs := #[.int .i64 ((rd_T38 l0 x15_2).f0), .bool ((rd_T38 l0 x15_2).f1), .int .i64 ((rd_T38 l0 x15_2).f2.f0), .int .i64 ((rd_T38 l0 x15_2).f2.f1), .int .i64 0, .int .i64 0, .int .i64 0, .int .i64 0]) ?_ 4 _ rfl; (with_reducible repeat (first | refine blk_drewN ?_ _ | refine blk_drew ?_ | refine blk_alloc ?_ _)); refine blk_put (cs := #[.int .i64 ((rd_T38 l0 x15_2).f0), .bool ((rd_T38 l0 x15_2).f1), .int .i64 ((rd_T38 l0 x15_2).f2.f0), .int .i64 0, .int .i64 0, .int .i64 0, .int .i64 0, .int .i64 0]) ?_ 3 _ rfl; (with_reducible repeat (first | refine blk_drewN ?_ _ | refine blk_drew ?_ | refine blk_alloc ?_ _)); refine blk_put (cs := #[.int .i64 ((rd_T38 l0 x15_2).f0), .bool ((rd_T38 l0 x15_2).f1), .int .i64 0, .int .i64 0, .int .i64 0, .int .i64 0, .int .i64 0, .int .i64 0]) ?_ 2 _ rfl; (with_reducible repeat (first | refine blk_drewN ?_ _ | refine blk_drew ?_ | refine blk_alloc ?_ _)); refine blk_put (cs := #[.int .i64 ((rd_T38 l0 x15_2).f0), .bool false, .int .i64 0, .int .i64 0, .int .i64 0, .int .i64 0, .int .i64 0, .int .i64 0]) ?_ 1 _ rfl; (with_reducible repeat (first | refine blk_drewN ?_ _ | refine blk_drew ?_ | refine blk_alloc ?_ _)); refine blk_put (cs := #[.int .i64 0, .bool false, .int .i64 0, .int .i64 0, .int .i64 0, .int .i64 0, .int .i64 0, .int .i64 0]) ?_ 0 _ rfl; (with_reducible repeat (first | refine blk_drewN ?_ _ | refine blk_drew ?_ | refine blk_alloc ?_ _)); exact BK117.out) hb); replace HB := Aside0.mk (below_step (bl1 HB.out GE117.out) hb); clear hb ho55; obtain ⟨Ao56, co56, eo56⟩ := Kd.R_slice HO120.out; subst eo56) | ((with_reducible refine gate_callee (f := 87) rfl ?_); refine goesL_ (some 26) rfl rfl Try.func87 (by kernel_rfl) rfl #[.slice Ao56 y118.length co56] rfl am ?_; (with_reducible refine (edge_fine.calls k2 _ _ y118 false _ ?side1 ?side2 A10.out).mono ?_); (case side1 => exact kc (Kd.R_reads' HO120.out).2.2); (case side2 => exact (Kd.R_reads' HO120.out).2.1); rintro e w57 ⟨rfl, hb⟩; refine ⟨_, rfl, ?_⟩; replace HO120 := Aside0.mk (Kd.R_below (kr HO120.out) hb); replace BK117 := Aside0.mk (bb BK117.out hb); replace HB := Aside0.mk (below_step (bl1 HB.out GE117.out) hb); (try clear hb); (try clear hk)))
      go_ret
      exact ⟨by first | rfl | (simp [errW_none, errW_some] <;> rfl) | (simp [*, errW_none, errW_some] <;> rfl), bl1 HB.out GE117.out⟩
     rw [if_neg c7] at H
     have c7b0 := decide_eq_false c7
     clear c7
     obtain rfl := Option.some.inj H
     go_wp2
     go_ret
     exact ⟨by first | rfl | (simp [errW_none, errW_some] <;> rfl) | (simp [*, errW_none, errW_some] <;> rfl), bl0 HB.out⟩

/-! ### corner_way: function 102 -/
def corner_way.f (a0_0 : Int) (a0_1 : Int) (a1_0 : Int) (a1_1 : Int) : Option (Int × Int) := some (wrap64 (a1_0 - a0_0), wrap64 (a1_1 - a0_1))
set_option maxHeartbeats 8000000 in
set_option maxRecDepth 100000 in
theorem corner_way.calls (a0_0 : Int) (a0_1 : Int) (a1_0 : Int) (a1_1 : Int) (r1 : Int) (r2 : Int) (w : World) (h : corner_way.f a0_0 a0_1 a1_0 a1_1 = some (r1, r2)) :
  Calls Try.prog 102 #[.agg #[.int .i64 a0_0, .int .i64 a0_1], .agg #[.int .i64 a1_0, .int .i64 a1_1]] w fun e w' => e = .returned (.agg #[.int .i64 r1, .int .i64 r2]) ∧ Below w.heap.size w w' := by
 have hu36 := Try.underlying36
 have HB := Aside0.mk (Below.refl w.heap.size w)
 have H := h
 clear h; unfold corner_way.f at H
 simp only [Option.some.injEq, Prod.mk.injEq] at H
 obtain ⟨rfl, rfl⟩ := H
 go_enter Try.func102, Try.ntmps102
 go_wp2_with (first | ((with_reducible refine gate_dst (N := 2) rfl ?_); refine be 2 (#[.int .i64 a0_0, .int .i64 a0_1]) 36 ?_; intro gb123 hg w3 hbox hb; have BK123 := Aside0.mk (hbox); have GW123 := Aside0.mk (gz (w := w) hg (bl0 HB.out)); have GE123 := GW123; replace HB := Aside0.mk (below_step (bl0 HB.out) hb); clear hb hbox hg) | ((with_reducible refine gate_dst (N := 3) rfl ?_); refine be 3 (#[.int .i64 a1_0, .int .i64 a1_1]) 36 ?_; intro gb124 hg w4 hbox hb; have BK124 := Aside0.mk (hbox); have GW124 := Aside0.mk (gz (w := w) hg (bl1 HB.out GE123.out)); have GE124 := GW124; have NB123_124 := Aside0.mk (nl hg BK123.out); have NB124_123 := Aside0.mk (nr hg BK123.out); replace BK123 := Aside0.mk (bb BK123.out hb); replace HB := Aside0.mk (below_step (bl1 HB.out GE123.out) hb); clear hb hbox hg) | ((with_reducible refine gate_dst (N := 4) rfl ?_); refine be 4 (#[.int .i64 0, .int .i64 0]) 36 ?_; intro gb125 hg w5 hbox hb; have BK125 := Aside0.mk (hbox); have GW125 := Aside0.mk (gz (w := w) hg (bl2 HB.out GE123.out GE124.out)); have GE125 := GW125; have NB123_125 := Aside0.mk (nl hg BK123.out); have NB125_123 := Aside0.mk (nr hg BK123.out); have NB124_125 := Aside0.mk (nl hg BK124.out); have NB125_124 := Aside0.mk (nr hg BK124.out); replace BK123 := Aside0.mk (bb BK123.out hb); replace BK124 := Aside0.mk (bb BK124.out hb); replace HB := Aside0.mk (below_step (bl2 HB.out GE123.out GE124.out) hb); clear hb hbox hg; have hnb6 := NB124_123.out; have hnc6 := NB123_124.out; have hnb7 := NB124_125.out; have hnc7 := NB125_124.out; have hcz8_0 : w5.cell? ⟨gb124, 0, none⟩ = some (.int .i64 a1_0) := (blk_cell BK124.out 0).trans rfl; have hcz8_1 : w5.cell? ⟨gb124, 1, none⟩ = some (.int .i64 a1_1) := (blk_cell BK124.out 1).trans rfl; have hfz8_0 := blk_frozen BK124.out 0; have hfz8_1 := blk_frozen BK124.out 1; have hnb9 := NB123_125.out; have hnc9 := NB125_123.out; have hcz10_0 : w5.cell? ⟨gb123, 0, none⟩ = some (.int .i64 a0_0) := (blk_cell BK123.out 0).trans rfl; have hcz10_1 : w5.cell? ⟨gb123, 1, none⟩ = some (.int .i64 a0_1) := (blk_cell BK123.out 1).trans rfl; have hfz10_0 := blk_frozen BK123.out 0; have hfz10_1 := blk_frozen BK123.out 1; have hcz11_0 : w5.cell? ⟨gb125, 0, none⟩ = some (.int .i64 0) := (blk_cell BK125.out 0).trans rfl; have hcz11_1 : w5.cell? ⟨gb125, 1, none⟩ = some (.int .i64 0) := (blk_cell BK125.out 1).trans rfl; have hfz11_0 := blk_frozen BK125.out 0; have hfz11_1 := blk_frozen BK125.out 1))
 refine bodyPost_ret (results_cell_row rfl _ _ gb125 36 #[.int .i64 (wrap64 (a1_0 - a0_0)), .int .i64 (wrap64 (a1_1 - a0_1))] (0, 0) _ rfl (by (with_reducible repeat (first | refine blk_drewN ?_ _ | refine blk_drew ?_ | refine blk_alloc ?_ _)); refine blk_put (cs := #[.int .i64 (wrap64 (a1_0 - a0_0)), .int .i64 0]) ?_ 1 _ rfl; (with_reducible repeat (first | refine blk_drewN ?_ _ | refine blk_drew ?_ | refine blk_alloc ?_ _)); refine blk_put (cs := #[.int .i64 0, .int .i64 0]) ?_ 0 _ rfl; (with_reducible repeat (first | refine blk_drewN ?_ _ | refine blk_drew ?_ | refine blk_alloc ?_ _)); exact BK125.out) Try.underlying36 rfl (by kernel_rfl)) rfl ?_
 exact ⟨by first | rfl | (simp [errW_none, errW_some] <;> rfl) | (simp [*, errW_none, errW_some] <;> rfl), bl3 HB.out GE123.out GE124.out GE125.out⟩

/-! ### corner_first: function 66 -/
def corner_first.j0 : Nat → Bool → Int → Bool → Int → Int → Int → Int → Int → Int → Option (Int × Int)
 | 0, _, _, _, _, _, _, _, _, _ => none
 | k + 1, x11, x127000, x127001, x127002, x127003, x127004, x127005, x127006, x127007 => if x11 = true then ((corner_way.f x127002 x127003 x127004 x127005).bind fun bt128 => (some (bt128.1, bt128.2))) else ((corner_way.f x127002 x127003 x127006 x127007).bind fun bt130 => (some (bt130.1, bt130.2)))
def corner_first.f (k : Nat) (a0_0 : Int) (a0_1 : Bool) (a0_2 : Int) (a0_3 : Int) (a0_4 : Int) (a0_5 : Int) (a0_6 : Int) (a0_7 : Int) : Option (Int × Int) := if a0_1 = true then (corner_first.j0 k (!(a0_4 == a0_2) || (!(a0_5 == a0_3))) a0_0 a0_1 a0_2 a0_3 a0_4 a0_5 a0_6 a0_7) else (corner_first.j0 k false a0_0 a0_1 a0_2 a0_3 a0_4 a0_5 a0_6 a0_7)
theorem corner_first.mono_l : ∀ k, (∀ y0 y1 y2 y3 y4 y5 y6 y7 y8, LeO (corner_first.j0 k y0 y1 y2 y3 y4 y5 y6 y7 y8) (corner_first.j0 (k + 1) y0 y1 y2 y3 y4 y5 y6 y7 y8))
 | 0 => fun _ _ _ _ _ _ _ _ _ r h => by simp [corner_first.j0] at h
 | k + 1 => by
  have ih0 := corner_first.mono_l k
  ·intro y0 y1 y2 y3 y4 y5 y6 y7 y8
   unfold corner_first.j0
   repeat' first | (with_reducible first | exact ih0 _ _ _ _ _ _ _ _ _ | exact LeO.refl _ | exact LeO.none _ | refine LeO.ite ?_ ?_ | refine LeO.bind ?_ (fun _ => ?_)) | exact ih0 _ _ _ _ _ _ _ _ _ | exact LeO.none _ | refine LeO.ite ?_ ?_ | refine LeO.bind ?_ (fun _ => ?_)
theorem corner_first.mono : ∀ a0 a1 a2 a3 a4 a5 a6 a7 k, LeO (corner_first.f k a0 a1 a2 a3 a4 a5 a6 a7) (corner_first.f (k + 1) a0 a1 a2 a3 a4 a5 a6 a7) := by
 intro a0 a1 a2 a3 a4 a5 a6 a7 k
 have ih0 := corner_first.mono_l k
 unfold corner_first.f
 repeat' first | (with_reducible first | exact ih0 _ _ _ _ _ _ _ _ _ | exact LeO.refl _ | exact LeO.none _ | refine LeO.ite ?_ ?_ | refine LeO.bind ?_ (fun _ => ?_)) | exact ih0 _ _ _ _ _ _ _ _ _ | exact LeO.none _ | refine LeO.ite ?_ ?_ | refine LeO.bind ?_ (fun _ => ?_)
set_option maxHeartbeats 8000000 in
set_option maxRecDepth 100000 in
theorem corner_first.calls (k : Nat) (a0_0 : Int) (a0_1 : Bool) (a0_2 : Int) (a0_3 : Int) (a0_4 : Int) (a0_5 : Int) (a0_6 : Int) (a0_7 : Int) (r1 : Int) (r2 : Int) (w : World) (h : corner_first.f k a0_0 a0_1 a0_2 a0_3 a0_4 a0_5 a0_6 a0_7 = some (r1, r2)) :
  Calls Try.prog 66 #[.agg #[.int .i64 a0_0, .bool a0_1, .int .i64 a0_2, .int .i64 a0_3, .int .i64 a0_4, .int .i64 a0_5, .int .i64 a0_6, .int .i64 a0_7]] w fun e w' => e = .returned (.agg #[.int .i64 r1, .int .i64 r2]) ∧ Below w.heap.size w w' := by
 have hu38 := Try.underlying38
 have hu36 := Try.underlying36
 have HB := Aside0.mk (Below.refl w.heap.size w)
 have H := h
 clear h; unfold corner_first.f at H
 have HC2 := Aside0.mk H
 clear H
 go_enter Try.func66, Try.ntmps66
 go_upto_region 1 with (first | ((with_reducible refine gate_dst (N := 1) rfl ?_); refine be 1 (#[.int .i64 a0_0, .bool a0_1, .int .i64 a0_2, .int .i64 a0_3, .int .i64 a0_4, .int .i64 a0_5, .int .i64 a0_6, .int .i64 a0_7]) 38 ?_; intro gb126 hg w3 hbox hb; have BK126 := Aside0.mk (hbox); have GW126 := Aside0.mk (gz (w := w) hg (bl0 HB.out)); have GE126 := GW126; replace HB := Aside0.mk (below_step (bl0 HB.out) hb); clear hb hbox hg) | ((with_reducible refine gate_dst (N := 2) rfl ?_); refine be 2 (#[.int .i64 0, .int .i64 0]) 36 ?_; intro gb127 hg w4 hbox hb; have BK127 := Aside0.mk (hbox); have GW127 := Aside0.mk (gz (w := w) hg (bl1 HB.out GE126.out)); have GE127 := GW127; have NB126_127 := Aside0.mk (nl hg BK126.out); have NB127_126 := Aside0.mk (nr hg BK126.out); replace BK126 := Aside0.mk (bb BK126.out hb); replace HB := Aside0.mk (below_step (bl1 HB.out GE126.out) hb); clear hb hbox hg))
 (try simp only [Act.put, List.setIfInBounds_toArray, List.set_cons_zero, List.set_cons_succ])
 go_cut [11] (fun v11 wc => ∃ (kq : Nat) (x11_1 : Bool), v11 = .bool x11_1 ∧ Aside0 (corner_first.j0 kq x11_1 a0_0 a0_1 a0_2 a0_3 a0_4 a0_5 a0_6 a0_7 = some (r1, r2)) ∧ Aside0 (kq ≤ k) ∧ Aside0 (wc.heap[gb126]? = some (.cells #[.int .i64 a0_0, .bool a0_1, .int .i64 a0_2, .int .i64 a0_3, .int .i64 a0_4, .int .i64 a0_5, .int .i64 a0_6, .int .i64 a0_7] 38 (0, 0))) ∧ Aside0 (wc.heap[gb127]? = some (.cells #[.int .i64 0, .int .i64 0] 36 (0, 0))) ∧ Aside0 (Below w.heap.size w wc))
 case first =>
  have H := HC2.out
  clear HC2
  by_cases c5 : a0_1 = true
  ·subst c5
   rw [if_pos rfl] at H
   have H' := Aside0.mk H
   clear H
   have hnb6 := NB126_127.out
   have hnc6 := NB127_126.out
   have hcz7_0 : w4.cell? ⟨gb126, 0, none⟩ = some (.int .i64 a0_0) := (blk_cell BK126.out 0).trans rfl
   have hcz7_1 : w4.cell? ⟨gb126, 1, none⟩ = some (.bool true) := (blk_cell BK126.out 1).trans rfl
   have hcz7_2 : w4.cell? ⟨gb126, 2, none⟩ = some (.int .i64 a0_2) := (blk_cell BK126.out 2).trans rfl
   have hcz7_3 : w4.cell? ⟨gb126, 3, none⟩ = some (.int .i64 a0_3) := (blk_cell BK126.out 3).trans rfl
   have hcz7_4 : w4.cell? ⟨gb126, 4, none⟩ = some (.int .i64 a0_4) := (blk_cell BK126.out 4).trans rfl
   have hcz7_5 : w4.cell? ⟨gb126, 5, none⟩ = some (.int .i64 a0_5) := (blk_cell BK126.out 5).trans rfl
   have hcz7_6 : w4.cell? ⟨gb126, 6, none⟩ = some (.int .i64 a0_6) := (blk_cell BK126.out 6).trans rfl
   have hcz7_7 : w4.cell? ⟨gb126, 7, none⟩ = some (.int .i64 a0_7) := (blk_cell BK126.out 7).trans rfl
   have hfz7_0 := blk_frozen BK126.out 0
   have hfz7_1 := blk_frozen BK126.out 1
   have hfz7_2 := blk_frozen BK126.out 2
   have hfz7_3 := blk_frozen BK126.out 3
   have hfz7_4 := blk_frozen BK126.out 4
   have hfz7_5 := blk_frozen BK126.out 5
   have hfz7_6 := blk_frozen BK126.out 6
   have hfz7_7 := blk_frozen BK126.out 7
   go_wp2
   go_meet
   case rel => exact ⟨_, ((!(a0_4 == a0_2) || (!(a0_5 == a0_3)))), fr, H', ⟨by first | omega | exact Nat.le_refl _⟩, ⟨bk BK126.out⟩, ⟨bk BK127.out⟩, ⟨bl2 HB.out GE126.out GE127.out⟩⟩
  replace c5 := Bool.eq_false_iff.mpr c5
  subst c5
  rw [if_neg (show ¬ (false = true) by decide)] at H
  have H' := Aside0.mk H
  clear H
  have hnb8 := NB126_127.out
  have hnc8 := NB127_126.out
  have hcz9_0 : w4.cell? ⟨gb126, 0, none⟩ = some (.int .i64 a0_0) := (blk_cell BK126.out 0).trans rfl
  have hcz9_1 : w4.cell? ⟨gb126, 1, none⟩ = some (.bool false) := (blk_cell BK126.out 1).trans rfl
  have hcz9_2 : w4.cell? ⟨gb126, 2, none⟩ = some (.int .i64 a0_2) := (blk_cell BK126.out 2).trans rfl
  have hcz9_3 : w4.cell? ⟨gb126, 3, none⟩ = some (.int .i64 a0_3) := (blk_cell BK126.out 3).trans rfl
  have hcz9_4 : w4.cell? ⟨gb126, 4, none⟩ = some (.int .i64 a0_4) := (blk_cell BK126.out 4).trans rfl
  have hcz9_5 : w4.cell? ⟨gb126, 5, none⟩ = some (.int .i64 a0_5) := (blk_cell BK126.out 5).trans rfl
  have hcz9_6 : w4.cell? ⟨gb126, 6, none⟩ = some (.int .i64 a0_6) := (blk_cell BK126.out 6).trans rfl
  have hcz9_7 : w4.cell? ⟨gb126, 7, none⟩ = some (.int .i64 a0_7) := (blk_cell BK126.out 7).trans rfl
  have hfz9_0 := blk_frozen BK126.out 0
  have hfz9_1 := blk_frozen BK126.out 1
  have hfz9_2 := blk_frozen BK126.out 2
  have hfz9_3 := blk_frozen BK126.out 3
  have hfz9_4 := blk_frozen BK126.out 4
  have hfz9_5 := blk_frozen BK126.out 5
  have hfz9_6 := blk_frozen BK126.out 6
  have hfz9_7 := blk_frozen BK126.out 7
  go_wp2
  go_meet
  case rel => exact ⟨_, (false), fr, H', ⟨by first | omega | exact Nat.le_refl _⟩, ⟨bk BK126.out⟩, ⟨bk BK127.out⟩, ⟨bl2 HB.out GE126.out GE127.out⟩⟩
 case rest =>
  clear HC2
  try clear p2
  try clear c5
  try clear c6
  try clear c8
  try clear hcz7_0
  try clear hcz7_1
  try clear hcz7_2
  try clear hcz7_3
  try clear hcz7_4
  try clear hcz7_5
  try clear hcz7_6
  try clear hcz7_7
  try clear hcz9_0
  try clear hcz9_1
  try clear hcz9_2
  try clear hcz9_3
  try clear hcz9_4
  try clear hcz9_5
  try clear hcz9_6
  try clear hcz9_7
  try clear hfz7_0
  try clear hfz7_1
  try clear hfz7_2
  try clear hfz7_3
  try clear hfz7_4
  try clear hfz7_5
  try clear hfz7_6
  try clear hfz7_7
  try clear hfz9_0
  try clear hfz9_1
  try clear hfz9_2
  try clear hfz9_3
  try clear hfz9_4
  try clear hfz9_5
  try clear hfz9_6
  try clear hfz9_7
  obtain ⟨kq, x11_1, rfl, HA, HJ1, BK126, BK127, HB⟩ := hcut
  cases kq with
  | zero => exact absurd HA.out (by simp [corner_first.j0])
  | succ kj1 =>
   have H := HA.out
   clear HA
   simp only [corner_first.j0] at H
   by_cases c10 : x11_1 = true
   ·subst c10
    rw [if_pos rfl] at H
    replace H := Option.bind_eq_some_iff.mp H
    obtain ⟨⟨t128, t129⟩, A110, H⟩ := H
    replace H : (some (t128, t129)) = some (r1, r2) := H
    have A11 := Aside0.mk A110
    clear A110
    simp only [Option.some.injEq, Prod.mk.injEq] at H
    obtain ⟨rfl, rfl⟩ := H
    have hnb12 := NB126_127.out
    have hnc12 := NB127_126.out
    have hcz13_0 : wc.cell? ⟨gb126, 0, none⟩ = some (.int .i64 a0_0) := (blk_cell BK126.out 0).trans rfl
    have hcz13_1 : wc.cell? ⟨gb126, 1, none⟩ = some (.bool a0_1) := (blk_cell BK126.out 1).trans rfl
    have hcz13_2 : wc.cell? ⟨gb126, 2, none⟩ = some (.int .i64 a0_2) := (blk_cell BK126.out 2).trans rfl
    have hcz13_3 : wc.cell? ⟨gb126, 3, none⟩ = some (.int .i64 a0_3) := (blk_cell BK126.out 3).trans rfl
    have hcz13_4 : wc.cell? ⟨gb126, 4, none⟩ = some (.int .i64 a0_4) := (blk_cell BK126.out 4).trans rfl
    have hcz13_5 : wc.cell? ⟨gb126, 5, none⟩ = some (.int .i64 a0_5) := (blk_cell BK126.out 5).trans rfl
    have hcz13_6 : wc.cell? ⟨gb126, 6, none⟩ = some (.int .i64 a0_6) := (blk_cell BK126.out 6).trans rfl
    have hcz13_7 : wc.cell? ⟨gb126, 7, none⟩ = some (.int .i64 a0_7) := (blk_cell BK126.out 7).trans rfl
    have hfz13_0 := blk_frozen BK126.out 0
    have hfz13_1 := blk_frozen BK126.out 1
    have hfz13_2 := blk_frozen BK126.out 2
    have hfz13_3 := blk_frozen BK126.out 3
    have hfz13_4 := blk_frozen BK126.out 4
    have hfz13_5 := blk_frozen BK126.out 5
    have hfz13_6 := blk_frozen BK126.out 6
    have hfz13_7 := blk_frozen BK126.out 7
    go_wp2_with (first | ((with_reducible refine gate_callee (f := 102) rfl ?_); refine goesL_ (some 16) rfl rfl Try.func102 (by kernel_rfl) rfl #[.agg #[.int .i64 a0_2, .int .i64 a0_3], .agg #[.int .i64 a0_4, .int .i64 a0_5]] rfl am ?_; (with_reducible refine (corner_way.calls a0_2 a0_3 a0_4 a0_5 t128 t129 _ A11.out).mono ?_); rintro e w14 ⟨rfl, hb⟩; refine ⟨_, rfl, ?_⟩; replace BK126 := Aside0.mk (bb BK126.out hb); replace BK127 := Aside0.mk (bb BK127.out hb); replace HB := Aside0.mk (below_step (bl2 HB.out GE126.out GE127.out) hb); (try clear hb); have hcz15_0 : w14.cell? ⟨gb127, 0, none⟩ = some (.int .i64 0) := (blk_cell BK127.out 0).trans rfl; have hcz15_1 : w14.cell? ⟨gb127, 1, none⟩ = some (.int .i64 0) := (blk_cell BK127.out 1).trans rfl; have hfz15_0 := blk_frozen BK127.out 0; have hfz15_1 := blk_frozen BK127.out 1))
    refine bodyPost_ret (results_cell_row rfl _ _ gb127 36 #[.int .i64 t128, .int .i64 t129] (0, 0) _ rfl (by (with_reducible repeat (first | refine blk_drewN ?_ _ | refine blk_drew ?_ | refine blk_alloc ?_ _)); refine blk_put (cs := #[.int .i64 t128, .int .i64 0]) ?_ 1 _ rfl; (with_reducible repeat (first | refine blk_drewN ?_ _ | refine blk_drew ?_ | refine blk_alloc ?_ _)); refine blk_put (cs := #[.int .i64 0, .int .i64 0]) ?_ 0 _ rfl; (with_reducible repeat (first | refine blk_drewN ?_ _ | refine blk_drew ?_ | refine blk_alloc ?_ _)); exact BK127.out) Try.underlying36 rfl (by kernel_rfl)) rfl ?_
    exact ⟨by first | rfl | (simp [errW_none, errW_some] <;> rfl) | (simp [*, errW_none, errW_some] <;> rfl), bl2 HB.out GE126.out GE127.out⟩
   replace c10 := Bool.eq_false_iff.mpr c10
   subst c10
   rw [if_neg (show ¬ (false = true) by decide)] at H
   replace H := Option.bind_eq_some_iff.mp H
   obtain ⟨⟨t130, t131⟩, A160, H⟩ := H
   replace H : (some (t130, t131)) = some (r1, r2) := H
   have A16 := Aside0.mk A160
   clear A160
   simp only [Option.some.injEq, Prod.mk.injEq] at H
   obtain ⟨rfl, rfl⟩ := H
   have hnb17 := NB126_127.out
   have hnc17 := NB127_126.out
   have hcz18_0 : wc.cell? ⟨gb126, 0, none⟩ = some (.int .i64 a0_0) := (blk_cell BK126.out 0).trans rfl
   have hcz18_1 : wc.cell? ⟨gb126, 1, none⟩ = some (.bool a0_1) := (blk_cell BK126.out 1).trans rfl
   have hcz18_2 : wc.cell? ⟨gb126, 2, none⟩ = some (.int .i64 a0_2) := (blk_cell BK126.out 2).trans rfl
   have hcz18_3 : wc.cell? ⟨gb126, 3, none⟩ = some (.int .i64 a0_3) := (blk_cell BK126.out 3).trans rfl
   have hcz18_4 : wc.cell? ⟨gb126, 4, none⟩ = some (.int .i64 a0_4) := (blk_cell BK126.out 4).trans rfl
   have hcz18_5 : wc.cell? ⟨gb126, 5, none⟩ = some (.int .i64 a0_5) := (blk_cell BK126.out 5).trans rfl
   have hcz18_6 : wc.cell? ⟨gb126, 6, none⟩ = some (.int .i64 a0_6) := (blk_cell BK126.out 6).trans rfl
   have hcz18_7 : wc.cell? ⟨gb126, 7, none⟩ = some (.int .i64 a0_7) := (blk_cell BK126.out 7).trans rfl
   have hfz18_0 := blk_frozen BK126.out 0
   have hfz18_1 := blk_frozen BK126.out 1
   have hfz18_2 := blk_frozen BK126.out 2
   have hfz18_3 := blk_frozen BK126.out 3
   have hfz18_4 := blk_frozen BK126.out 4
   have hfz18_5 := blk_frozen BK126.out 5
   have hfz18_6 := blk_frozen BK126.out 6
   have hfz18_7 := blk_frozen BK126.out 7
   go_wp2_with (first | ((with_reducible refine gate_callee (f := 102) rfl ?_); refine goesL_ (some 21) rfl rfl Try.func102 (by kernel_rfl) rfl #[.agg #[.int .i64 a0_2, .int .i64 a0_3], .agg #[.int .i64 a0_6, .int .i64 a0_7]] rfl am ?_; (with_reducible refine (corner_way.calls a0_2 a0_3 a0_6 a0_7 t130 t131 _ A16.out).mono ?_); rintro e w19 ⟨rfl, hb⟩; refine ⟨_, rfl, ?_⟩; replace BK126 := Aside0.mk (bb BK126.out hb); replace BK127 := Aside0.mk (bb BK127.out hb); replace HB := Aside0.mk (below_step (bl2 HB.out GE126.out GE127.out) hb); (try clear hb); have hcz20_0 : w19.cell? ⟨gb127, 0, none⟩ = some (.int .i64 0) := (blk_cell BK127.out 0).trans rfl; have hcz20_1 : w19.cell? ⟨gb127, 1, none⟩ = some (.int .i64 0) := (blk_cell BK127.out 1).trans rfl; have hfz20_0 := blk_frozen BK127.out 0; have hfz20_1 := blk_frozen BK127.out 1))
   refine bodyPost_ret (results_cell_row rfl _ _ gb127 36 #[.int .i64 t130, .int .i64 t131] (0, 0) _ rfl (by (with_reducible repeat (first | refine blk_drewN ?_ _ | refine blk_drew ?_ | refine blk_alloc ?_ _)); refine blk_put (cs := #[.int .i64 t130, .int .i64 0]) ?_ 1 _ rfl; (with_reducible repeat (first | refine blk_drewN ?_ _ | refine blk_drew ?_ | refine blk_alloc ?_ _)); refine blk_put (cs := #[.int .i64 0, .int .i64 0]) ?_ 0 _ rfl; (with_reducible repeat (first | refine blk_drewN ?_ _ | refine blk_drew ?_ | refine blk_alloc ?_ _)); exact BK127.out) Try.underlying36 rfl (by kernel_rfl)) rfl ?_
   exact ⟨by first | rfl | (simp [errW_none, errW_some] <;> rfl) | (simp [*, errW_none, errW_some] <;> rfl), bl2 HB.out GE126.out GE127.out⟩

/-! ### corner_last: function 67 -/
def corner_last.j0 : Nat → Bool → Int → Bool → Int → Int → Int → Int → Int → Int → Option (Int × Int)
 | 0, _, _, _, _, _, _, _, _, _ => none
 | k + 1, x11, x133000, x133001, x133002, x133003, x133004, x133005, x133006, x133007 => if x11 = true then ((corner_way.f x133004 x133005 x133006 x133007).bind fun bt134 => (some (bt134.1, bt134.2))) else ((corner_way.f x133002 x133003 x133006 x133007).bind fun bt136 => (some (bt136.1, bt136.2)))
def corner_last.f (k : Nat) (a0_0 : Int) (a0_1 : Bool) (a0_2 : Int) (a0_3 : Int) (a0_4 : Int) (a0_5 : Int) (a0_6 : Int) (a0_7 : Int) : Option (Int × Int) := if a0_1 = true then (corner_last.j0 k (!(a0_4 == a0_6) || (!(a0_5 == a0_7))) a0_0 a0_1 a0_2 a0_3 a0_4 a0_5 a0_6 a0_7) else (corner_last.j0 k false a0_0 a0_1 a0_2 a0_3 a0_4 a0_5 a0_6 a0_7)
theorem corner_last.mono_l : ∀ k, (∀ y0 y1 y2 y3 y4 y5 y6 y7 y8, LeO (corner_last.j0 k y0 y1 y2 y3 y4 y5 y6 y7 y8) (corner_last.j0 (k + 1) y0 y1 y2 y3 y4 y5 y6 y7 y8))
 | 0 => fun _ _ _ _ _ _ _ _ _ r h => by simp [corner_last.j0] at h
 | k + 1 => by
  have ih0 := corner_last.mono_l k
  ·intro y0 y1 y2 y3 y4 y5 y6 y7 y8
   unfold corner_last.j0
   repeat' first | (with_reducible first | exact ih0 _ _ _ _ _ _ _ _ _ | exact LeO.refl _ | exact LeO.none _ | refine LeO.ite ?_ ?_ | refine LeO.bind ?_ (fun _ => ?_)) | exact ih0 _ _ _ _ _ _ _ _ _ | exact LeO.none _ | refine LeO.ite ?_ ?_ | refine LeO.bind ?_ (fun _ => ?_)
theorem corner_last.mono : ∀ a0 a1 a2 a3 a4 a5 a6 a7 k, LeO (corner_last.f k a0 a1 a2 a3 a4 a5 a6 a7) (corner_last.f (k + 1) a0 a1 a2 a3 a4 a5 a6 a7) := by
 intro a0 a1 a2 a3 a4 a5 a6 a7 k
 have ih0 := corner_last.mono_l k
 unfold corner_last.f
 repeat' first | (with_reducible first | exact ih0 _ _ _ _ _ _ _ _ _ | exact LeO.refl _ | exact LeO.none _ | refine LeO.ite ?_ ?_ | refine LeO.bind ?_ (fun _ => ?_)) | exact ih0 _ _ _ _ _ _ _ _ _ | exact LeO.none _ | refine LeO.ite ?_ ?_ | refine LeO.bind ?_ (fun _ => ?_)
set_option maxHeartbeats 8000000 in
set_option maxRecDepth 100000 in
theorem corner_last.calls (k : Nat) (a0_0 : Int) (a0_1 : Bool) (a0_2 : Int) (a0_3 : Int) (a0_4 : Int) (a0_5 : Int) (a0_6 : Int) (a0_7 : Int) (r1 : Int) (r2 : Int) (w : World) (h : corner_last.f k a0_0 a0_1 a0_2 a0_3 a0_4 a0_5 a0_6 a0_7 = some (r1, r2)) :
  Calls Try.prog 67 #[.agg #[.int .i64 a0_0, .bool a0_1, .int .i64 a0_2, .int .i64 a0_3, .int .i64 a0_4, .int .i64 a0_5, .int .i64 a0_6, .int .i64 a0_7]] w fun e w' => e = .returned (.agg #[.int .i64 r1, .int .i64 r2]) ∧ Below w.heap.size w w' := by
 have hu38 := Try.underlying38
 have hu36 := Try.underlying36
 have HB := Aside0.mk (Below.refl w.heap.size w)
 have H := h
 clear h; unfold corner_last.f at H
 have HC2 := Aside0.mk H
 clear H
 go_enter Try.func67, Try.ntmps67
 go_upto_region 1 with (first | ((with_reducible refine gate_dst (N := 1) rfl ?_); refine be 1 (#[.int .i64 a0_0, .bool a0_1, .int .i64 a0_2, .int .i64 a0_3, .int .i64 a0_4, .int .i64 a0_5, .int .i64 a0_6, .int .i64 a0_7]) 38 ?_; intro gb132 hg w3 hbox hb; have BK132 := Aside0.mk (hbox); have GW132 := Aside0.mk (gz (w := w) hg (bl0 HB.out)); have GE132 := GW132; replace HB := Aside0.mk (below_step (bl0 HB.out) hb); clear hb hbox hg) | ((with_reducible refine gate_dst (N := 2) rfl ?_); refine be 2 (#[.int .i64 0, .int .i64 0]) 36 ?_; intro gb133 hg w4 hbox hb; have BK133 := Aside0.mk (hbox); have GW133 := Aside0.mk (gz (w := w) hg (bl1 HB.out GE132.out)); have GE133 := GW133; have NB132_133 := Aside0.mk (nl hg BK132.out); have NB133_132 := Aside0.mk (nr hg BK132.out); replace BK132 := Aside0.mk (bb BK132.out hb); replace HB := Aside0.mk (below_step (bl1 HB.out GE132.out) hb); clear hb hbox hg))
 (try simp only [Act.put, List.setIfInBounds_toArray, List.set_cons_zero, List.set_cons_succ])
 go_cut [11] (fun v11 wc => ∃ (kq : Nat) (x11_1 : Bool), v11 = .bool x11_1 ∧ Aside0 (corner_last.j0 kq x11_1 a0_0 a0_1 a0_2 a0_3 a0_4 a0_5 a0_6 a0_7 = some (r1, r2)) ∧ Aside0 (kq ≤ k) ∧ Aside0 (wc.heap[gb132]? = some (.cells #[.int .i64 a0_0, .bool a0_1, .int .i64 a0_2, .int .i64 a0_3, .int .i64 a0_4, .int .i64 a0_5, .int .i64 a0_6, .int .i64 a0_7] 38 (0, 0))) ∧ Aside0 (wc.heap[gb133]? = some (.cells #[.int .i64 0, .int .i64 0] 36 (0, 0))) ∧ Aside0 (Below w.heap.size w wc))
 case first =>
  have H := HC2.out
  clear HC2
  by_cases c5 : a0_1 = true
  ·subst c5
   rw [if_pos rfl] at H
   have H' := Aside0.mk H
   clear H
   have hnb6 := NB132_133.out
   have hnc6 := NB133_132.out
   have hcz7_0 : w4.cell? ⟨gb132, 0, none⟩ = some (.int .i64 a0_0) := (blk_cell BK132.out 0).trans rfl
   have hcz7_1 : w4.cell? ⟨gb132, 1, none⟩ = some (.bool true) := (blk_cell BK132.out 1).trans rfl
   have hcz7_2 : w4.cell? ⟨gb132, 2, none⟩ = some (.int .i64 a0_2) := (blk_cell BK132.out 2).trans rfl
   have hcz7_3 : w4.cell? ⟨gb132, 3, none⟩ = some (.int .i64 a0_3) := (blk_cell BK132.out 3).trans rfl
   have hcz7_4 : w4.cell? ⟨gb132, 4, none⟩ = some (.int .i64 a0_4) := (blk_cell BK132.out 4).trans rfl
   have hcz7_5 : w4.cell? ⟨gb132, 5, none⟩ = some (.int .i64 a0_5) := (blk_cell BK132.out 5).trans rfl
   have hcz7_6 : w4.cell? ⟨gb132, 6, none⟩ = some (.int .i64 a0_6) := (blk_cell BK132.out 6).trans rfl
   have hcz7_7 : w4.cell? ⟨gb132, 7, none⟩ = some (.int .i64 a0_7) := (blk_cell BK132.out 7).trans rfl
   have hfz7_0 := blk_frozen BK132.out 0
   have hfz7_1 := blk_frozen BK132.out 1
   have hfz7_2 := blk_frozen BK132.out 2
   have hfz7_3 := blk_frozen BK132.out 3
   have hfz7_4 := blk_frozen BK132.out 4
   have hfz7_5 := blk_frozen BK132.out 5
   have hfz7_6 := blk_frozen BK132.out 6
   have hfz7_7 := blk_frozen BK132.out 7
   go_wp2
   go_meet
   case rel => exact ⟨_, ((!(a0_4 == a0_6) || (!(a0_5 == a0_7)))), fr, H', ⟨by first | omega | exact Nat.le_refl _⟩, ⟨bk BK132.out⟩, ⟨bk BK133.out⟩, ⟨bl2 HB.out GE132.out GE133.out⟩⟩
  replace c5 := Bool.eq_false_iff.mpr c5
  subst c5
  rw [if_neg (show ¬ (false = true) by decide)] at H
  have H' := Aside0.mk H
  clear H
  have hnb8 := NB132_133.out
  have hnc8 := NB133_132.out
  have hcz9_0 : w4.cell? ⟨gb132, 0, none⟩ = some (.int .i64 a0_0) := (blk_cell BK132.out 0).trans rfl
  have hcz9_1 : w4.cell? ⟨gb132, 1, none⟩ = some (.bool false) := (blk_cell BK132.out 1).trans rfl
  have hcz9_2 : w4.cell? ⟨gb132, 2, none⟩ = some (.int .i64 a0_2) := (blk_cell BK132.out 2).trans rfl
  have hcz9_3 : w4.cell? ⟨gb132, 3, none⟩ = some (.int .i64 a0_3) := (blk_cell BK132.out 3).trans rfl
  have hcz9_4 : w4.cell? ⟨gb132, 4, none⟩ = some (.int .i64 a0_4) := (blk_cell BK132.out 4).trans rfl
  have hcz9_5 : w4.cell? ⟨gb132, 5, none⟩ = some (.int .i64 a0_5) := (blk_cell BK132.out 5).trans rfl
  have hcz9_6 : w4.cell? ⟨gb132, 6, none⟩ = some (.int .i64 a0_6) := (blk_cell BK132.out 6).trans rfl
  have hcz9_7 : w4.cell? ⟨gb132, 7, none⟩ = some (.int .i64 a0_7) := (blk_cell BK132.out 7).trans rfl
  have hfz9_0 := blk_frozen BK132.out 0
  have hfz9_1 := blk_frozen BK132.out 1
  have hfz9_2 := blk_frozen BK132.out 2
  have hfz9_3 := blk_frozen BK132.out 3
  have hfz9_4 := blk_frozen BK132.out 4
  have hfz9_5 := blk_frozen BK132.out 5
  have hfz9_6 := blk_frozen BK132.out 6
  have hfz9_7 := blk_frozen BK132.out 7
  go_wp2
  go_meet
  case rel => exact ⟨_, (false), fr, H', ⟨by first | omega | exact Nat.le_refl _⟩, ⟨bk BK132.out⟩, ⟨bk BK133.out⟩, ⟨bl2 HB.out GE132.out GE133.out⟩⟩
 case rest =>
  clear HC2
  try clear p2
  try clear c5
  try clear c6
  try clear c8
  try clear hcz7_0
  try clear hcz7_1
  try clear hcz7_2
  try clear hcz7_3
  try clear hcz7_4
  try clear hcz7_5
  try clear hcz7_6
  try clear hcz7_7
  try clear hcz9_0
  try clear hcz9_1
  try clear hcz9_2
  try clear hcz9_3
  try clear hcz9_4
  try clear hcz9_5
  try clear hcz9_6
  try clear hcz9_7
  try clear hfz7_0
  try clear hfz7_1
  try clear hfz7_2
  try clear hfz7_3
  try clear hfz7_4
  try clear hfz7_5
  try clear hfz7_6
  try clear hfz7_7
  try clear hfz9_0
  try clear hfz9_1
  try clear hfz9_2
  try clear hfz9_3
  try clear hfz9_4
  try clear hfz9_5
  try clear hfz9_6
  try clear hfz9_7
  obtain ⟨kq, x11_1, rfl, HA, HJ1, BK132, BK133, HB⟩ := hcut
  cases kq with
  | zero => exact absurd HA.out (by simp [corner_last.j0])
  | succ kj1 =>
   have H := HA.out
   clear HA
   simp only [corner_last.j0] at H
   by_cases c10 : x11_1 = true
   ·subst c10
    rw [if_pos rfl] at H
    replace H := Option.bind_eq_some_iff.mp H
    obtain ⟨⟨t134, t135⟩, A110, H⟩ := H
    replace H : (some (t134, t135)) = some (r1, r2) := H
    have A11 := Aside0.mk A110
    clear A110
    simp only [Option.some.injEq, Prod.mk.injEq] at H
    obtain ⟨rfl, rfl⟩ := H
    have hnb12 := NB132_133.out
    have hnc12 := NB133_132.out
    have hcz13_0 : wc.cell? ⟨gb132, 0, none⟩ = some (.int .i64 a0_0) := (blk_cell BK132.out 0).trans rfl
    have hcz13_1 : wc.cell? ⟨gb132, 1, none⟩ = some (.bool a0_1) := (blk_cell BK132.out 1).trans rfl
    have hcz13_2 : wc.cell? ⟨gb132, 2, none⟩ = some (.int .i64 a0_2) := (blk_cell BK132.out 2).trans rfl
    have hcz13_3 : wc.cell? ⟨gb132, 3, none⟩ = some (.int .i64 a0_3) := (blk_cell BK132.out 3).trans rfl
    have hcz13_4 : wc.cell? ⟨gb132, 4, none⟩ = some (.int .i64 a0_4) := (blk_cell BK132.out 4).trans rfl
    have hcz13_5 : wc.cell? ⟨gb132, 5, none⟩ = some (.int .i64 a0_5) := (blk_cell BK132.out 5).trans rfl
    have hcz13_6 : wc.cell? ⟨gb132, 6, none⟩ = some (.int .i64 a0_6) := (blk_cell BK132.out 6).trans rfl
    have hcz13_7 : wc.cell? ⟨gb132, 7, none⟩ = some (.int .i64 a0_7) := (blk_cell BK132.out 7).trans rfl
    have hfz13_0 := blk_frozen BK132.out 0
    have hfz13_1 := blk_frozen BK132.out 1
    have hfz13_2 := blk_frozen BK132.out 2
    have hfz13_3 := blk_frozen BK132.out 3
    have hfz13_4 := blk_frozen BK132.out 4
    have hfz13_5 := blk_frozen BK132.out 5
    have hfz13_6 := blk_frozen BK132.out 6
    have hfz13_7 := blk_frozen BK132.out 7
    go_wp2_with (first | ((with_reducible refine gate_callee (f := 102) rfl ?_); refine goesL_ (some 16) rfl rfl Try.func102 (by kernel_rfl) rfl #[.agg #[.int .i64 a0_4, .int .i64 a0_5], .agg #[.int .i64 a0_6, .int .i64 a0_7]] rfl am ?_; (with_reducible refine (corner_way.calls a0_4 a0_5 a0_6 a0_7 t134 t135 _ A11.out).mono ?_); rintro e w14 ⟨rfl, hb⟩; refine ⟨_, rfl, ?_⟩; replace BK132 := Aside0.mk (bb BK132.out hb); replace BK133 := Aside0.mk (bb BK133.out hb); replace HB := Aside0.mk (below_step (bl2 HB.out GE132.out GE133.out) hb); (try clear hb); have hcz15_0 : w14.cell? ⟨gb133, 0, none⟩ = some (.int .i64 0) := (blk_cell BK133.out 0).trans rfl; have hcz15_1 : w14.cell? ⟨gb133, 1, none⟩ = some (.int .i64 0) := (blk_cell BK133.out 1).trans rfl; have hfz15_0 := blk_frozen BK133.out 0; have hfz15_1 := blk_frozen BK133.out 1))
    refine bodyPost_ret (results_cell_row rfl _ _ gb133 36 #[.int .i64 t134, .int .i64 t135] (0, 0) _ rfl (by (with_reducible repeat (first | refine blk_drewN ?_ _ | refine blk_drew ?_ | refine blk_alloc ?_ _)); refine blk_put (cs := #[.int .i64 t134, .int .i64 0]) ?_ 1 _ rfl; (with_reducible repeat (first | refine blk_drewN ?_ _ | refine blk_drew ?_ | refine blk_alloc ?_ _)); refine blk_put (cs := #[.int .i64 0, .int .i64 0]) ?_ 0 _ rfl; (with_reducible repeat (first | refine blk_drewN ?_ _ | refine blk_drew ?_ | refine blk_alloc ?_ _)); exact BK133.out) Try.underlying36 rfl (by kernel_rfl)) rfl ?_
    exact ⟨by first | rfl | (simp [errW_none, errW_some] <;> rfl) | (simp [*, errW_none, errW_some] <;> rfl), bl2 HB.out GE132.out GE133.out⟩
   replace c10 := Bool.eq_false_iff.mpr c10
   subst c10
   rw [if_neg (show ¬ (false = true) by decide)] at H
   replace H := Option.bind_eq_some_iff.mp H
   obtain ⟨⟨t136, t137⟩, A160, H⟩ := H
   replace H : (some (t136, t137)) = some (r1, r2) := H
   have A16 := Aside0.mk A160
   clear A160
   simp only [Option.some.injEq, Prod.mk.injEq] at H
   obtain ⟨rfl, rfl⟩ := H
   have hnb17 := NB132_133.out
   have hnc17 := NB133_132.out
   have hcz18_0 : wc.cell? ⟨gb132, 0, none⟩ = some (.int .i64 a0_0) := (blk_cell BK132.out 0).trans rfl
   have hcz18_1 : wc.cell? ⟨gb132, 1, none⟩ = some (.bool a0_1) := (blk_cell BK132.out 1).trans rfl
   have hcz18_2 : wc.cell? ⟨gb132, 2, none⟩ = some (.int .i64 a0_2) := (blk_cell BK132.out 2).trans rfl
   have hcz18_3 : wc.cell? ⟨gb132, 3, none⟩ = some (.int .i64 a0_3) := (blk_cell BK132.out 3).trans rfl
   have hcz18_4 : wc.cell? ⟨gb132, 4, none⟩ = some (.int .i64 a0_4) := (blk_cell BK132.out 4).trans rfl
   have hcz18_5 : wc.cell? ⟨gb132, 5, none⟩ = some (.int .i64 a0_5) := (blk_cell BK132.out 5).trans rfl
   have hcz18_6 : wc.cell? ⟨gb132, 6, none⟩ = some (.int .i64 a0_6) := (blk_cell BK132.out 6).trans rfl
   have hcz18_7 : wc.cell? ⟨gb132, 7, none⟩ = some (.int .i64 a0_7) := (blk_cell BK132.out 7).trans rfl
   have hfz18_0 := blk_frozen BK132.out 0
   have hfz18_1 := blk_frozen BK132.out 1
   have hfz18_2 := blk_frozen BK132.out 2
   have hfz18_3 := blk_frozen BK132.out 3
   have hfz18_4 := blk_frozen BK132.out 4
   have hfz18_5 := blk_frozen BK132.out 5
   have hfz18_6 := blk_frozen BK132.out 6
   have hfz18_7 := blk_frozen BK132.out 7
   go_wp2_with (first | ((with_reducible refine gate_callee (f := 102) rfl ?_); refine goesL_ (some 21) rfl rfl Try.func102 (by kernel_rfl) rfl #[.agg #[.int .i64 a0_2, .int .i64 a0_3], .agg #[.int .i64 a0_6, .int .i64 a0_7]] rfl am ?_; (with_reducible refine (corner_way.calls a0_2 a0_3 a0_6 a0_7 t136 t137 _ A16.out).mono ?_); rintro e w19 ⟨rfl, hb⟩; refine ⟨_, rfl, ?_⟩; replace BK132 := Aside0.mk (bb BK132.out hb); replace BK133 := Aside0.mk (bb BK133.out hb); replace HB := Aside0.mk (below_step (bl2 HB.out GE132.out GE133.out) hb); (try clear hb); have hcz20_0 : w19.cell? ⟨gb133, 0, none⟩ = some (.int .i64 0) := (blk_cell BK133.out 0).trans rfl; have hcz20_1 : w19.cell? ⟨gb133, 1, none⟩ = some (.int .i64 0) := (blk_cell BK133.out 1).trans rfl; have hfz20_0 := blk_frozen BK133.out 0; have hfz20_1 := blk_frozen BK133.out 1))
   refine bodyPost_ret (results_cell_row rfl _ _ gb133 36 #[.int .i64 t136, .int .i64 t137] (0, 0) _ rfl (by (with_reducible repeat (first | refine blk_drewN ?_ _ | refine blk_drew ?_ | refine blk_alloc ?_ _)); refine blk_put (cs := #[.int .i64 t136, .int .i64 0]) ?_ 1 _ rfl; (with_reducible repeat (first | refine blk_drewN ?_ _ | refine blk_drew ?_ | refine blk_alloc ?_ _)); refine blk_put (cs := #[.int .i64 0, .int .i64 0]) ?_ 0 _ rfl; (with_reducible repeat (first | refine blk_drewN ?_ _ | refine blk_drew ?_ | refine blk_alloc ?_ _)); exact BK133.out) Try.underlying36 rfl (by kernel_rfl)) rfl ?_
   exact ⟨by first | rfl | (simp [errW_none, errW_some] <;> rfl) | (simp [*, errW_none, errW_some] <;> rfl), bl2 HB.out GE132.out GE133.out⟩

/-! ### corner_times: function 89 -/
def corner_times.f (a0_0 : Int) (a0_1 : Int) (a1_0 : Int) (a1_1 : Int) : Option (Int) := some (wrap64 ((wrap64 (a0_0 * a1_0)) + (wrap64 (a0_1 * a1_1))))
set_option maxHeartbeats 8000000 in
set_option maxRecDepth 100000 in
theorem corner_times.calls (a0_0 : Int) (a0_1 : Int) (a1_0 : Int) (a1_1 : Int) (r : Int) (w : World) (h : corner_times.f a0_0 a0_1 a1_0 a1_1 = some r) :
  Calls Try.prog 89 #[.agg #[.int .i64 a0_0, .int .i64 a0_1], .agg #[.int .i64 a1_0, .int .i64 a1_1]] w fun e w' => e = .returned (.int .i64 r) ∧ Below w.heap.size w w' := by
 have hu36 := Try.underlying36
 have HB := Aside0.mk (Below.refl w.heap.size w)
 have H := h
 clear h; unfold corner_times.f at H
 obtain rfl := Option.some.inj H
 go_enter Try.func89, Try.ntmps89
 go_wp2_with (first | ((with_reducible refine gate_dst (N := 2) rfl ?_); refine be 2 (#[.int .i64 a0_0, .int .i64 a0_1]) 36 ?_; intro gb138 hg w3 hbox hb; have BK138 := Aside0.mk (hbox); have GW138 := Aside0.mk (gz (w := w) hg (bl0 HB.out)); have GE138 := GW138; replace HB := Aside0.mk (below_step (bl0 HB.out) hb); clear hb hbox hg) | ((with_reducible refine gate_dst (N := 3) rfl ?_); refine be 3 (#[.int .i64 a1_0, .int .i64 a1_1]) 36 ?_; intro gb139 hg w4 hbox hb; have BK139 := Aside0.mk (hbox); have GW139 := Aside0.mk (gz (w := w) hg (bl1 HB.out GE138.out)); have GE139 := GW139; have NB138_139 := Aside0.mk (nl hg BK138.out); have NB139_138 := Aside0.mk (nr hg BK138.out); replace BK138 := Aside0.mk (bb BK138.out hb); replace HB := Aside0.mk (below_step (bl1 HB.out GE138.out) hb); clear hb hbox hg; have hnb5 := NB138_139.out; have hnc5 := NB139_138.out; have hcz6_0 : w4.cell? ⟨gb138, 0, none⟩ = some (.int .i64 a0_0) := (blk_cell BK138.out 0).trans rfl; have hcz6_1 : w4.cell? ⟨gb138, 1, none⟩ = some (.int .i64 a0_1) := (blk_cell BK138.out 1).trans rfl; have hfz6_0 := blk_frozen BK138.out 0; have hfz6_1 := blk_frozen BK138.out 1; have hcz7_0 : w4.cell? ⟨gb139, 0, none⟩ = some (.int .i64 a1_0) := (blk_cell BK139.out 0).trans rfl; have hcz7_1 : w4.cell? ⟨gb139, 1, none⟩ = some (.int .i64 a1_1) := (blk_cell BK139.out 1).trans rfl; have hfz7_0 := blk_frozen BK139.out 0; have hfz7_1 := blk_frozen BK139.out 1))
 go_ret
 exact ⟨by first | rfl | (simp [errW_none, errW_some] <;> rfl) | (simp [*, errW_none, errW_some] <;> rfl), bl2 HB.out GE138.out GE139.out⟩

/-! ### bits_Mul64: function 121 -/
def bits_Mul64.f (a0 : Int) (a1 : Int) : Option (Int × Int) := some (IntKind.u64.wrap ((IntKind.u64.wrap ((IntKind.u64.wrap ((a0 / 4294967296) * (a1 / 4294967296))) + ((IntKind.u64.wrap ((IntKind.u64.wrap ((a0 / 4294967296) * (Go.bits .and .u64 a1 4294967295))) + ((IntKind.u64.wrap ((Go.bits .and .u64 a0 4294967295) * (Go.bits .and .u64 a1 4294967295))) / 4294967296))) / 4294967296))) + ((IntKind.u64.wrap ((Go.bits .and .u64 (IntKind.u64.wrap ((IntKind.u64.wrap ((a0 / 4294967296) * (Go.bits .and .u64 a1 4294967295))) + ((IntKind.u64.wrap ((Go.bits .and .u64 a0 4294967295) * (Go.bits .and .u64 a1 4294967295))) / 4294967296))) 4294967295) + (IntKind.u64.wrap ((Go.bits .and .u64 a0 4294967295) * (a1 / 4294967296))))) / 4294967296)), IntKind.u64.wrap (a0 * a1))
set_option maxHeartbeats 8000000 in
set_option maxRecDepth 100000 in
theorem bits_Mul64.calls (a0 : Int) (a1 : Int) (r1 : Int) (r2 : Int) (w : World) (h : bits_Mul64.f a0 a1 = some (r1, r2)) :
  Calls Try.prog 121 #[.int .u64 a0, .int .u64 a1] w fun e w' => e = .returned (.tuple #[.int .u64 r1, .int .u64 r2]) ∧ Drawn0 w w' := by
 have H := h
 clear h; unfold bits_Mul64.f at H
 simp only [Option.some.injEq, Prod.mk.injEq] at H
 obtain ⟨rfl, rfl⟩ := H
 go_enter Try.func121, Try.ntmps121
 go_wp2
 go_ret2
 exact ⟨fr, dr⟩

/-! ### wide_Mul: function 91 -/
def wide_Mul.f (a0 : Int) (a1 : Int) : Option (Int × Int) := (bits_Mul64.f a0 a1).bind fun bt141 => (some (bt141.1, bt141.2))
set_option maxHeartbeats 8000000 in
set_option maxRecDepth 100000 in
theorem wide_Mul.calls (a0 : Int) (a1 : Int) (r1 : Int) (r2 : Int) (w : World) (h : wide_Mul.f a0 a1 = some (r1, r2)) :
  Calls Try.prog 91 #[.int .u64 a0, .int .u64 a1] w fun e w' => e = .returned (.agg #[.int .u64 r1, .int .u64 r2]) ∧ Below w.heap.size w w' := by
 have hu112 := Try.underlying112
 have HB := Aside0.mk (Below.refl w.heap.size w)
 have H := h
 clear h; unfold wide_Mul.f at H
 replace H := Option.bind_eq_some_iff.mp H
 obtain ⟨⟨t141, t142⟩, A30, H⟩ := H
 replace H : (some (t141, t142)) = some (r1, r2) := H
 have A3 := Aside0.mk A30
 clear A30
 simp only [Option.some.injEq, Prod.mk.injEq] at H
 obtain ⟨rfl, rfl⟩ := H
 go_enter Try.func91, Try.ntmps91
 go_wp2_with (first | ((with_reducible refine gate_dst (N := 4) rfl ?_); refine be 4 (#[.int .u64 0, .int .u64 0]) 112 ?_; intro gb140 hg w4 hbox hb; have BK140 := Aside0.mk (hbox); have GW140 := Aside0.mk (gz (w := w) hg (bl0 HB.out)); have GE140 := GW140; replace HB := Aside0.mk (below_step (bl0 HB.out) hb); clear hb hbox hg) | ((with_reducible refine gate_callee (f := 121) rfl ?_); refine goesL_ (some 10) rfl rfl Try.func121 (by kernel_rfl) rfl #[.int .u64 a0, .int .u64 a1] rfl am ?_; (with_reducible refine (bits_Mul64.calls a0 a1 t141 t142 _ A3.out).mono ?_); rintro e w' ⟨rfl, ⟨nd, rfl⟩⟩; refine ⟨_, rfl, ?_⟩; (try (rw [drewN_self w4]; generalize hq_ : World.drewN w4 _ = w4; replace BK140 : Aside0 (w4.heap[gb140]? = some (.cells #[.int .u64 0, .int .u64 0] 112 (0, 0))) := ⟨by rw [← hq_]; exact (bk BK140.out)⟩; replace HB : Aside0 (Below w.heap.size w w4) := ⟨by rw [← hq_]; exact (bl1 HB.out GE140.out)⟩; clear hq_)); have hcz5_0 : w4.cell? ⟨gb140, 0, none⟩ = some (.int .u64 0) := (blk_cell BK140.out 0).trans rfl; have hcz5_1 : w4.cell? ⟨gb140, 1, none⟩ = some (.int .u64 0) := (blk_cell BK140.out 1).trans rfl; have hfz5_0 := blk_frozen BK140.out 0; have hfz5_1 := blk_frozen BK140.out 1))
 refine bodyPost_ret (results_cell_row rfl _ _ gb140 112 #[.int .u64 t141, .int .u64 t142] (0, 0) _ rfl (by (with_reducible repeat (first | refine blk_drewN ?_ _ | refine blk_drew ?_ | refine blk_alloc ?_ _)); refine blk_put (cs := #[.int .u64 t141, .int .u64 0]) ?_ 1 _ rfl; (with_reducible repeat (first | refine blk_drewN ?_ _ | refine blk_drew ?_ | refine blk_alloc ?_ _)); refine blk_put (cs := #[.int .u64 0, .int .u64 0]) ?_ 0 _ rfl; (with_reducible repeat (first | refine blk_drewN ?_ _ | refine blk_drew ?_ | refine blk_alloc ?_ _)); exact BK140.out) Try.underlying112 rfl (by kernel_rfl)) rfl ?_
 exact ⟨by first | rfl | (simp [errW_none, errW_some] <;> rfl) | (simp [*, errW_none, errW_some] <;> rfl), bl1 HB.out GE140.out⟩

/-! ### bits_Add64: function 142 (no body: the model's own entry) -/
def bits_Add64.f (a0 : Int) (a1 : Int) (a2 : Int) : Option (Int × Int) := if 0 ≤ a0 then (if 0 ≤ a1 then (if a1 < 18446744073709551616 then (if 0 ≤ a2 then (if a2 ≤ 1 then (some ((a0 + a1 + a2) % 18446744073709551616, (a0 + a1 + a2) / 18446744073709551616)) else none) else none) else none) else none) else none
theorem bits_Add64.runs (a0 a1 a2 r0 r1 : Int) (w : World) (h : bits_Add64.f a0 a1 a2 = some (r0, r1)) : (callFunc 142 #[.int .u64 a0, .int .u64 a1, .int .u64 a2]).run Try.prog w = .ok (.value (.tuple #[.int .u64 r0, .int .u64 r1])) w := by
 unfold bits_Add64.f at h
 by_cases h0 : 0 ≤ a0
 case neg => rw [if_neg h0] at h; simp at h
 rw [if_pos h0] at h
 by_cases h1 : 0 ≤ a1
 case neg => rw [if_neg h1] at h; simp at h
 rw [if_pos h1] at h
 by_cases h1' : a1 < 18446744073709551616
 case neg => rw [if_neg h1'] at h; simp at h
 rw [if_pos h1'] at h
 by_cases h2 : 0 ≤ a2
 case neg => rw [if_neg h2] at h; simp at h
 rw [if_pos h2] at h
 by_cases h2' : a2 ≤ 1
 case neg => rw [if_neg h2'] at h; simp at h
 rw [if_pos h2'] at h
 simp only [Option.some.injEq, Prod.mk.injEq] at h
 obtain ⟨rfl, rfl⟩ := h
 obtain ⟨x, rfl⟩ := Int.eq_ofNat_of_zero_le h0
 obtain ⟨y, rfl⟩ := Int.eq_ofNat_of_zero_le h1
 obtain ⟨c, rfl⟩ := Int.eq_ofNat_of_zero_le h2
 rw [run_callFunc_extern Try.func142 (by kernel_rfl) (by kernel_rfl) (by kernel_rfl) (e := add64Entry) (by kernel_rfl), run_add64 x y c (by omega) (by omega) (by omega) (by omega)]
 all_goals (simp only [Result.andThen]; try (congr 5 <;> omega))

end Go.Proofs.Ytalgppclaolonaa.XColr
