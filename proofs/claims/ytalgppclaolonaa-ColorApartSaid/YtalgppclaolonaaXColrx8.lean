-- Printed by a program of this claim. Not trusted: Lean checks it.
import Derived.Test.YtalgppclaolonaaXColrx0
import Derived.Test.YtalgppclaolonaaXColrx3
import Derived.Test.YtalgppclaolonaaXColrx6
import Derived.Test.YtalgppclaolonaaXColrx7
namespace Go.Proofs.Ytalgppclaolonaa.XColr
open Go.RowKit Go.Proofs.YtalgppclaolonaaW.PrintWords Go.Proofs.YtalgppclaolonaaW.PrintLast Go.Proofs.YtalgppclaolonaaW.PrintMore
attribute [local go_sem] max2_int min2_int max_two min_two max_three min_three max_four min_four   -- for this text's walks alone
set_option linter.unusedVariables false
set_option linter.unusedSimpArgs false
open XOpen

/-! ### corner_All: function 13 -/
mutual
def corner_All.l0 : Nat → List (S38) → List Int → Int → Option (List Int × Int)
 | 0, _, _, _ => none
 | k + 1, x0, x4, x5 => if x5 < (x0.length : Int) then (corner_All.l1 k x0 x4 x5 (wrap64 (x5 + 1))) else (some (x4, 0))
def corner_All.j2 : Nat → List (S38) → List Int → Int → Int → Option (List Int × Int)
 | 0, _, _, _, _ => none
 | k + 1, x0, x4, x5, x6 => if 0 ≤ (wrap64 (x6 - 1)) then (if (wrap64 (x6 - 1)) < (x0.length : Int) then (corner_All.l2 k x0 x4 x6 x5 ((rd_T38 x0 (wrap64 (x6 - 1))).f0) ((rd_T38 x0 (wrap64 (x6 - 1))).f1) ((rd_T38 x0 (wrap64 (x6 - 1))).f2.f0) ((rd_T38 x0 (wrap64 (x6 - 1))).f2.f1) ((rd_T38 x0 (wrap64 (x6 - 1))).f3.f0) ((rd_T38 x0 (wrap64 (x6 - 1))).f3.f1) ((rd_T38 x0 (wrap64 (x6 - 1))).f4.f0) ((rd_T38 x0 (wrap64 (x6 - 1))).f4.f1)) else (none)) else (none)
def corner_All.l2 : Nat → List (S38) → List Int → Int → Int → Int → Bool → Int → Int → Int → Int → Int → Int → Option (List Int × Int)
 | 0, _, _, _, _, _, _, _, _, _, _, _, _ => none
 | k + 1, x0, x4, x6, x8, x198000, x198001, x198002, x198003, x198004, x198005, x198006, x198007 => if x8 < x6 then (if 0 ≤ x8 then (if x8 < (x0.length : Int) then ((corner_is.f k x198000 x198001 x198002 x198003 x198004 x198005 x198006 x198007 ((rd_T38 x0 x8).f0) ((rd_T38 x0 x8).f1) ((rd_T38 x0 x8).f2.f0) ((rd_T38 x0 x8).f2.f1) ((rd_T38 x0 x8).f3.f0) ((rd_T38 x0 x8).f3.f1) ((rd_T38 x0 x8).f4.f0) ((rd_T38 x0 x8).f4.f1)).bind fun t199 => (if t199 = true then (if x4.length < 17592186044416 then (corner_All.l2 k x0 (x4 ++ [x8]) x6 (wrap64 (x8 + 1)) ((rd_T38 x0 x8).f0) ((rd_T38 x0 x8).f1) ((rd_T38 x0 x8).f2.f0) ((rd_T38 x0 x8).f2.f1) ((rd_T38 x0 x8).f3.f0) ((rd_T38 x0 x8).f3.f1) ((rd_T38 x0 x8).f4.f0) ((rd_T38 x0 x8).f4.f1)) else (none)) else (corner_All.l2 k x0 x4 x6 (wrap64 (x8 + 1)) ((rd_T38 x0 x8).f0) ((rd_T38 x0 x8).f1) ((rd_T38 x0 x8).f2.f0) ((rd_T38 x0 x8).f2.f1) ((rd_T38 x0 x8).f3.f0) ((rd_T38 x0 x8).f3.f1) ((rd_T38 x0 x8).f4.f0) ((rd_T38 x0 x8).f4.f1)))) else (none)) else (none)) else (corner_All.l0 k x0 x4 x6)
def corner_All.l1 : Nat → List (S38) → List Int → Int → Int → Option (List Int × Int)
 | 0, _, _, _, _ => none
 | k + 1, x0, x4, x5, x6 => if x6 < (x0.length : Int) then (if 0 ≤ x6 then (if 0 ≤ x5 then (if x5 < (x0.length : Int) then (if ((rd_T38 x0 x6).f0) = ((rd_T38 x0 x5).f0) then (corner_All.l1 k x0 x4 x5 (wrap64 (x6 + 1))) else (corner_All.j2 k x0 x4 x5 x6)) else (none)) else (none)) else (none)) else (corner_All.j2 k x0 x4 x5 x6)
end
def corner_All.f (k : Nat) (l0 : List (S38)) : Option (List Int × Int) := (edge_May.f k l0).bind fun t193 => (if t193 = true then (corner_All.l0 k l0 ([] : List Int) 0) else (some (([] : List Int), 1)))
theorem corner_All.mono_l : ∀ k, (∀ y0 y1 y2, LeO (corner_All.l0 k y0 y1 y2) (corner_All.l0 (k + 1) y0 y1 y2)) ∧ (∀ y0 y1 y2 y3, LeO (corner_All.j2 k y0 y1 y2 y3) (corner_All.j2 (k + 1) y0 y1 y2 y3)) ∧ (∀ y0 y1 y2 y3 y4 y5 y6 y7 y8 y9 y10 y11, LeO (corner_All.l2 k y0 y1 y2 y3 y4 y5 y6 y7 y8 y9 y10 y11) (corner_All.l2 (k + 1) y0 y1 y2 y3 y4 y5 y6 y7 y8 y9 y10 y11)) ∧ (∀ y0 y1 y2 y3, LeO (corner_All.l1 k y0 y1 y2 y3) (corner_All.l1 (k + 1) y0 y1 y2 y3))
 | 0 => ⟨fun _ _ _ r h => by simp [corner_All.l0] at h, fun _ _ _ _ r h => by simp [corner_All.j2] at h, fun _ _ _ _ _ _ _ _ _ _ _ _ r h => by simp [corner_All.l2] at h, fun _ _ _ _ r h => by simp [corner_All.l1] at h⟩
 | k + 1 => by
  obtain ⟨ih0, ih1, ih2, ih3⟩ := corner_All.mono_l k
  refine ⟨?_, ?_, ?_, ?_⟩
  ·intro y0 y1 y2
   unfold corner_All.l0
   repeat' first | (with_reducible first | exact ih0 _ _ _ | exact ih1 _ _ _ _ | exact ih2 _ _ _ _ _ _ _ _ _ _ _ _ | exact ih3 _ _ _ _ | exact corner_is.mono _ _ _ _ _ _ _ _ _ _ _ _ _ _ _ _ _ | exact edge_May.mono _ _ | exact LeO.refl _ | exact LeO.none _ | refine LeO.ite ?_ ?_ | refine LeO.bind ?_ (fun _ => ?_)) | exact ih0 _ _ _ | exact ih1 _ _ _ _ | exact ih2 _ _ _ _ _ _ _ _ _ _ _ _ | exact ih3 _ _ _ _ | exact corner_is.mono _ _ _ _ _ _ _ _ _ _ _ _ _ _ _ _ _ | exact edge_May.mono _ _ | exact LeO.none _ | refine LeO.ite ?_ ?_ | refine LeO.bind ?_ (fun _ => ?_)
  ·intro y0 y1 y2 y3
   unfold corner_All.j2
   repeat' first | (with_reducible first | exact ih0 _ _ _ | exact ih1 _ _ _ _ | exact ih2 _ _ _ _ _ _ _ _ _ _ _ _ | exact ih3 _ _ _ _ | exact corner_is.mono _ _ _ _ _ _ _ _ _ _ _ _ _ _ _ _ _ | exact edge_May.mono _ _ | exact LeO.refl _ | exact LeO.none _ | refine LeO.ite ?_ ?_ | refine LeO.bind ?_ (fun _ => ?_)) | exact ih0 _ _ _ | exact ih1 _ _ _ _ | exact ih2 _ _ _ _ _ _ _ _ _ _ _ _ | exact ih3 _ _ _ _ | exact corner_is.mono _ _ _ _ _ _ _ _ _ _ _ _ _ _ _ _ _ | exact edge_May.mono _ _ | exact LeO.none _ | refine LeO.ite ?_ ?_ | refine LeO.bind ?_ (fun _ => ?_)
  ·intro y0 y1 y2 y3 y4 y5 y6 y7 y8 y9 y10 y11
   unfold corner_All.l2
   repeat' first | (with_reducible first | exact ih0 _ _ _ | exact ih1 _ _ _ _ | exact ih2 _ _ _ _ _ _ _ _ _ _ _ _ | exact ih3 _ _ _ _ | exact corner_is.mono _ _ _ _ _ _ _ _ _ _ _ _ _ _ _ _ _ | exact edge_May.mono _ _ | exact LeO.refl _ | exact LeO.none _ | refine LeO.ite ?_ ?_ | refine LeO.bind ?_ (fun _ => ?_)) | exact ih0 _ _ _ | exact ih1 _ _ _ _ | exact ih2 _ _ _ _ _ _ _ _ _ _ _ _ | exact ih3 _ _ _ _ | exact corner_is.mono _ _ _ _ _ _ _ _ _ _ _ _ _ _ _ _ _ | exact edge_May.mono _ _ | exact LeO.none _ | refine LeO.ite ?_ ?_ | refine LeO.bind ?_ (fun _ => ?_)
  ·intro y0 y1 y2 y3
   unfold corner_All.l1
   repeat' first | (with_reducible first | exact ih0 _ _ _ | exact ih1 _ _ _ _ | exact ih2 _ _ _ _ _ _ _ _ _ _ _ _ | exact ih3 _ _ _ _ | exact corner_is.mono _ _ _ _ _ _ _ _ _ _ _ _ _ _ _ _ _ | exact edge_May.mono _ _ | exact LeO.refl _ | exact LeO.none _ | refine LeO.ite ?_ ?_ | refine LeO.bind ?_ (fun _ => ?_)) | exact ih0 _ _ _ | exact ih1 _ _ _ _ | exact ih2 _ _ _ _ _ _ _ _ _ _ _ _ | exact ih3 _ _ _ _ | exact corner_is.mono _ _ _ _ _ _ _ _ _ _ _ _ _ _ _ _ _ | exact edge_May.mono _ _ | exact LeO.none _ | refine LeO.ite ?_ ?_ | refine LeO.bind ?_ (fun _ => ?_)
theorem corner_All.mono : ∀ a0 k, LeO (corner_All.f k a0) (corner_All.f (k + 1) a0) := by
 intro a0 k
 obtain ⟨ih0, ih1, ih2, ih3⟩ := corner_All.mono_l k
 unfold corner_All.f
 repeat' first | (with_reducible first | exact ih0 _ _ _ | exact ih1 _ _ _ _ | exact ih2 _ _ _ _ _ _ _ _ _ _ _ _ | exact ih3 _ _ _ _ | exact corner_is.mono _ _ _ _ _ _ _ _ _ _ _ _ _ _ _ _ _ | exact edge_May.mono _ _ | exact LeO.refl _ | exact LeO.none _ | refine LeO.ite ?_ ?_ | refine LeO.bind ?_ (fun _ => ?_)) | exact ih0 _ _ _ | exact ih1 _ _ _ _ | exact ih2 _ _ _ _ _ _ _ _ _ _ _ _ | exact ih3 _ _ _ _ | exact corner_is.mono _ _ _ _ _ _ _ _ _ _ _ _ _ _ _ _ _ | exact edge_May.mono _ _ | exact LeO.none _ | refine LeO.ite ?_ ?_ | refine LeO.bind ?_ (fun _ => ?_)
def corner_All.T7 : Bool × List (List Nat × List Nat) := (true, [([], []), ([], []), ([1], [1]), ([0, 2], [0, 2]), ([3], [3]), ([4], [4]), ([4], [4]), ([5, 6, 4], [4, 5, 6]), ([7, 4], [4, 7]), ([8, 4], [4, 8]), ([4], [4]), ([4], [4]), ([10, 11, 4], [4, 10, 11]), ([12, 4], [4, 12]), ([13, 4], [4, 13]), ([9, 14, 4], [4, 9, 14]), ([4, 15], [4, 15])])
def corner_All.B7 : List Nat := [0, 0, 2, 7, 15, 31, 31, 127, 255, 511, 31, 31, 3103, 7199, 15391, 32767, 65535]
theorem corner_All.tab7 : rtab .any (opsOf Try.f13 7) = corner_All.T7 := by kernel_rfl
theorem corner_All.bits7 : waitsOk corner_All.T7.2 corner_All.B7 = true := by kernel_rfl
set_option maxHeartbeats 8000000 in
set_option maxRecDepth 100000 in
theorem corner_All.calls (k : Nat) (A0 : Option Addr) (c0 : Nat) (l0 : List (S38)) (r1 : List Int) (r2 : Int) (w : World) (hr0 : Kd.C k38 w A0 l0.length l0) (hc0 : l0.length ≤ c0) (h : corner_All.f k l0 = some (r1, r2)) :
  Calls Try.prog 13 #[.slice A0 l0.length c0] w fun e w' => ∃ v0_ : Value, e = .returned (.tuple #[v0_, .int .i64 r2]) ∧ Kd.R (Kd.int .i64) 3 w' w.heap.size (fun _ => True) v0_ r1 ∧ Below w.heap.size w w' := by
 have hu38 := Try.underlying38
 have HR0 := Aside0.mk hr0
 have HC0 := Aside0.mk hc0
 clear hr0 hc0
 have HB := Aside0.mk (Below.refl w.heap.size w)
 have H := h
 clear h; unfold corner_All.f at H
 replace H := Option.bind_eq_some_iff.mp H
 obtain ⟨t193, A20, H⟩ := H
 replace H : (if t193 = true then (corner_All.l0 k l0 ([] : List Int) 0) else (some (([] : List Int), 1))) = some (r1, r2) := H
 have A2 := Aside0.mk A20
 clear A20
 by_cases c3 : t193 = true
 ·subst c3
  rw [if_pos rfl] at H
  have H' := Aside0.mk H
  clear H
  go_enter Try.func13, Try.ntmps13
  go_wp2_with (first | ((with_reducible refine gate_callee (f := 52) rfl ?_); refine goesL_ (some 10) rfl rfl Try.func52 (by kernel_rfl) rfl #[.slice A0 l0.length c0] rfl am ?_; (with_reducible refine (edge_May.calls k _ _ l0 true _ ?side1 ?side2 A2.out).mono ?_); (case side1 => exact kc HR0.out); (case side2 => exact HC0.out); rintro e w4 ⟨rfl, hb⟩; refine ⟨_, rfl, ?_⟩; replace HB := Aside0.mk (below_step (bl0 HB.out) hb); (try clear hb)))
  go_loopg [4, 5] k (fun kq v4 v5 w' => ∃ (x4_1 : List Int) (x5_1 : Int), v5 = .int .i64 x5_1 ∧ Aside0 (corner_All.l0 kq l0 x4_1 x5_1 = some (r1, r2)) ∧ Aside0 (kq ≤ k) ∧ Aside0 (Kd.R (Kd.int .i64) 3 w' w.heap.size (fun _ => True) v4 x4_1) ∧ Aside0 (Below w.heap.size w w'))
  case atStart => exact ⟨(([] : List Int)), (0), fr, H', ⟨Nat.le_refl _⟩, ⟨by first | exact Kd.R_nil _ _ _ _ _ | exact Kd.N_nil _ _ _ _ _ | exact Kd.V_nil _ _ _ _ _ | exact Kd.Q_nil _ _ _ _ _ | exact Kd.S_nil _ _ _ _ _⟩, ⟨bl0 HB.out⟩⟩
  case round =>
   clear H'
   try clear c1
   try clear p2
   try clear c3
   obtain ⟨x4_1, x5_1, rfl, HA, HK1, HO_4, HB⟩ := hrel
   cases gk with
   | zero => exact absurd HA.out (by simp [corner_All.l0])
   | succ k1 =>
    have H := HA.out
    clear HA
    simp only [corner_All.l0] at H
    by_cases c5 : x5_1 < (l0.length : Int)
    ·rw [if_pos c5] at H
     have c5b0 := decide_eq_true c5
     clear c5
     have HC6 := Aside0.mk H
     clear H
     go_upto_block 2 with (fail)
     go_cut [6] (fun v6 wc => ∃ (kq : Nat) (x6_5 : Int), v6 = .int .i64 x6_5 ∧ Aside0 (corner_All.j2 kq l0 x4_1 x5_1 x6_5 = some (r1, r2)) ∧ Aside0 (kq ≤ k1) ∧ Aside0 (Kd.R (Kd.int .i64) 3 wc w.heap.size (fun _ => True) u4 x4_1) ∧ Aside0 (Below w.heap.size w wc))
     case first =>
      have H := HC6.out
      clear HC6
      have H' := Aside0.mk H
      clear H
      go_wp2
      go_loopg [6] k1 (fun kq v6 w' => ∃ (x6_2 : Int), v6 = .int .i64 x6_2 ∧ Aside0 (corner_All.l1 kq l0 x4_1 x5_1 x6_2 = some (r1, r2)) ∧ Aside0 (kq ≤ k1) ∧ Aside0 (Kd.R (Kd.int .i64) 3 w' w.heap.size (fun _ => True) u4 x4_1) ∧ Aside0 (Below w.heap.size w w'))
      case atStart => exact ⟨(wrap64 (x5_1 + 1)), fr, H', ⟨Nat.le_refl _⟩, ⟨kr HO_4.out⟩, ⟨bl0 HB.out⟩⟩
      case round =>
       clear H'
       try clear c1
       try clear p2
       try clear c3
       try clear c5b0
       try clear p6
       try clear p2
       obtain ⟨x6_2, rfl, HA, HK2, HO_4, HB⟩ := hrel
       cases gk with
       | zero => exact absurd HA.out (by simp [corner_All.l1])
       | succ k2 =>
        have H := HA.out
        clear HA
        simp only [corner_All.l1] at H
        by_cases c7 : x6_2 < (l0.length : Int)
        ·rw [if_pos c7] at H
         have c7b0 := decide_eq_true c7
         clear c7
         (first | rw [c7b0] | (simp only [i64_w, i32_w]; rw [c7b0]) | skip)
         refine ifk H ?_; clear H; intro c8 H
         have c8b0 := decide_eq_true c8
         clear c8
         refine ifk H ?_; clear H; intro c9 H
         have c9b0 := decide_eq_true c9
         clear c9
         refine ifk H ?_; clear H; intro c10 H
         have c10b0 := decide_eq_true c10
         clear c10
         by_cases c11 : ((rd_T38 l0 x6_2).f0) = ((rd_T38 l0 x5_1).f0)
         ·rw [if_pos c11] at H
          have c11b0 : (((rd_T38 l0 x6_2).f0) == ((rd_T38 l0 x5_1).f0)) = true := beq_iff_eq.mpr c11
          have c11b1 : (((rd_T38 l0 x6_2).f0) != ((rd_T38 l0 x5_1).f0)) = false := bne_eq_false_iff_eq.mpr c11
          clear c11
          have H' := Aside0.mk H
          clear H
          try go_wp2
          replace HO_4 := Aside0.mk (Kd.R_drew HO_4.out)
          replace HB := Aside0.mk (below_drew1 HB.out)
          have p194 : 0 ≤ (x6_2 : Int) := od
          have q194 : x6_2 < (l0.length : Int) := od
          obtain ⟨ad194, e194, hx194_0, hx194_1, hx194_2, hx194_3, hx194_4, hx194_5, hx194_6, hx194_7⟩ := at_T38 HR0.out x6_2 p194 q194
          have hw194_7 := hx194_7
          have hw194_6 := hx194_6
          have hw194_5 := hx194_5
          have hw194_4 := hx194_4
          have hw194_3 := hx194_3
          have hw194_2 := hx194_2
          have hw194_1 := hx194_1
          have hw194_0 := hx194_0
          cases e194
          replace hx194_0 := hc HB hx194_0
          replace hx194_1 := hc HB hx194_1
          replace hx194_2 := hc HB hx194_2
          replace hx194_3 := hc HB hx194_3
          replace hx194_4 := hc HB hx194_4
          replace hx194_5 := hc HB hx194_5
          replace hx194_6 := hc HB hx194_6
          replace hx194_7 := hc HB hx194_7
          replace p194 := eq_true p194
          replace q194 := eq_true q194
          have p195 : 0 ≤ (x5_1 : Int) := od
          have q195 : x5_1 < (l0.length : Int) := od
          obtain ⟨ad195, e195, hx195_0, hx195_1, hx195_2, hx195_3, hx195_4, hx195_5, hx195_6, hx195_7⟩ := at_T38 HR0.out x5_1 p195 q195
          have hw195_7 := hx195_7
          have hw195_6 := hx195_6
          have hw195_5 := hx195_5
          have hw195_4 := hx195_4
          have hw195_3 := hx195_3
          have hw195_2 := hx195_2
          have hw195_1 := hx195_1
          have hw195_0 := hx195_0
          obtain rfl : ad194 = ad195 := (by injection e195)
          replace hx195_0 := hc HB hx195_0
          replace hx195_1 := hc HB hx195_1
          replace hx195_2 := hc HB hx195_2
          replace hx195_3 := hc HB hx195_3
          replace hx195_4 := hc HB hx195_4
          replace hx195_5 := hc HB hx195_5
          replace hx195_6 := hc HB hx195_6
          replace hx195_7 := hc HB hx195_7
          replace p195 := eq_true p195
          replace q195 := eq_true q195
          refine start_ (n := 17) (S := fun w' => w'.cell? (ad194.add ((x6_2).toNat * 8)) = some (.int .i64 ((rd_T38 l0 x6_2).f0)) ∧ w'.cell? ⟨(ad194.add ((x6_2).toNat * 8)).block, (ad194.add ((x6_2).toNat * 8)).off + 1, none⟩ = some (.bool ((rd_T38 l0 x6_2).f1)) ∧ w'.cell? ⟨(ad194.add ((x6_2).toNat * 8)).block, (ad194.add ((x6_2).toNat * 8)).off + 2, none⟩ = some (.int .i64 ((rd_T38 l0 x6_2).f2.f0)) ∧ w'.cell? ⟨(ad194.add ((x6_2).toNat * 8)).block, (ad194.add ((x6_2).toNat * 8)).off + 3, none⟩ = some (.int .i64 ((rd_T38 l0 x6_2).f2.f1)) ∧ w'.cell? ⟨(ad194.add ((x6_2).toNat * 8)).block, (ad194.add ((x6_2).toNat * 8)).off + 4, none⟩ = some (.int .i64 ((rd_T38 l0 x6_2).f3.f0)) ∧ w'.cell? ⟨(ad194.add ((x6_2).toNat * 8)).block, (ad194.add ((x6_2).toNat * 8)).off + 5, none⟩ = some (.int .i64 ((rd_T38 l0 x6_2).f3.f1)) ∧ w'.cell? ⟨(ad194.add ((x6_2).toNat * 8)).block, (ad194.add ((x6_2).toNat * 8)).off + 6, none⟩ = some (.int .i64 ((rd_T38 l0 x6_2).f4.f0)) ∧ w'.cell? ⟨(ad194.add ((x6_2).toNat * 8)).block, (ad194.add ((x6_2).toNat * 8)).off + 7, none⟩ = some (.int .i64 ((rd_T38 l0 x6_2).f4.f1)) ∧ w'.cell? (ad194.add ((x5_1).toNat * 8)) = some (.int .i64 ((rd_T38 l0 x5_1).f0)) ∧ w'.cell? ⟨(ad194.add ((x5_1).toNat * 8)).block, (ad194.add ((x5_1).toNat * 8)).off + 1, none⟩ = some (.bool ((rd_T38 l0 x5_1).f1)) ∧ w'.cell? ⟨(ad194.add ((x5_1).toNat * 8)).block, (ad194.add ((x5_1).toNat * 8)).off + 2, none⟩ = some (.int .i64 ((rd_T38 l0 x5_1).f2.f0)) ∧ w'.cell? ⟨(ad194.add ((x5_1).toNat * 8)).block, (ad194.add ((x5_1).toNat * 8)).off + 3, none⟩ = some (.int .i64 ((rd_T38 l0 x5_1).f2.f1)) ∧ w'.cell? ⟨(ad194.add ((x5_1).toNat * 8)).block, (ad194.add ((x5_1).toNat * 8)).off + 4, none⟩ = some (.int .i64 ((rd_T38 l0 x5_1).f3.f0)) ∧ w'.cell? ⟨(ad194.add ((x5_1).toNat * 8)).block, (ad194.add ((x5_1).toNat * 8)).off + 5, none⟩ = some (.int .i64 ((rd_T38 l0 x5_1).f3.f1)) ∧ w'.cell? ⟨(ad194.add ((x5_1).toNat * 8)).block, (ad194.add ((x5_1).toNat * 8)).off + 6, none⟩ = some (.int .i64 ((rd_T38 l0 x5_1).f4.f0)) ∧ w'.cell? ⟨(ad194.add ((x5_1).toNat * 8)).block, (ad194.add ((x5_1).toNat * 8)).off + 7, none⟩ = some (.int .i64 ((rd_T38 l0 x5_1).f4.f1))) (ds := []) (ba 17 0) (by kernel_rfl) rfl rfl ⟨(hc HB hw194_0), (hc HB hw194_1), (hc HB hw194_2), (hc HB hw194_3), (hc HB hw194_4), (hc HB hw194_5), (hc HB hw194_6), (hc HB hw194_7), (hc HB hw195_0), (hc HB hw195_1), (hc HB hw195_2), (hc HB hw195_3), (hc HB hw195_4), (hc HB hw195_5), (hc HB hw195_6), (hc HB hw195_7)⟩ (fun hHeld => ?_); refine with_tabW corner_All.tab7 corner_All.bits7 (fun HT_ HW_ => ?_)
          generalize wr.drew = w12 at HO_4 HB hx194_0 hx194_1 hx194_2 hx194_3 hx194_4 hx194_5 hx194_6 hx194_7 hx195_0 hx195_1 hx195_2 hx195_3 hx195_4 hx195_5 hx195_6 hx195_7 hHeld ⊢
          refine pI 0 18 (ba 17 1) HT_.out ?_
          refine pI 1 19 (ba 17 3) HT_.out ?_
          refine pI 2 20 (ba 17 7) HT_.out ?_
          refine pI 3 21 (ba 17 15) HT_.out ?_
          refine pI 4 22 (ba 17 31) HT_.out ?_
          refine pI 5 23 (ba 17 63) HT_.out ?_
          refine pI 6 24 (ba 17 127) HT_.out ?_
          refine pI 7 25 (ba 17 255) HT_.out ?_
          refine pI 8 26 (ba 17 511) HT_.out ?_
          refine pI 10 28 (ba 17 1535) HT_.out ?_
          refine pI 11 29 (ba 17 3583) HT_.out ?_
          refine pI 12 30 (ba 17 7679) HT_.out ?_
          refine pI 13 31 (ba 17 15871) HT_.out ?_
          refine take_ (i := 9) (N := some 27) (v := ?_) (a' := ?_) (ba 17 16383) rfl rfl (take_ofW HT_.out HW_.out (by kernel_rfl)) (fun _ _ _ h => h) (Or.inl ⟨by rfl, ?_⟩) hHeld ?_ ?_
          rotate_left
          ·rintro w' ⟨s0, s1, s2, s3, s4, s5, s6, s7, s8, s9, s10, s11, s12, s13, s14, s15⟩
           go_simp
           with_reducible rfl
          rotate_left
          ·exact pa
          refine take_ (i := 14) (N := some 32) (v := ?_) (a' := ?_) (ba 17 32767) rfl rfl (take_ofW HT_.out HW_.out (by kernel_rfl)) (fun _ _ _ h => h) (Or.inl ⟨by rfl, ?_⟩) hHeld ?_ ?_
          rotate_left
          ·rintro w' ⟨s0, s1, s2, s3, s4, s5, s6, s7, s8, s9, s10, s11, s12, s13, s14, s15⟩
           go_simp
           with_reducible rfl
          rotate_left
          ·exact pa
          refine pI 15 33 (ba 17 65535) HT_.out ?_
          refine pI 16 34 (ba 17 131071) HT_.out ?_
          refine done_ (done_of HT_.out (by kernel_rfl)) ?_
          try go_wp2
          go_roundg k2
          case measure => have := HK1.out; have := HK2.out; omega
          case rel => exact ⟨(wrap64 (x6_2 + 1)), fr, H', ⟨by have := HK1.out; have := HK2.out; omega⟩, ⟨kr HO_4.out⟩, ⟨bl0 HB.out⟩⟩
         rw [if_neg c11] at H
         have c11b0 : (((rd_T38 l0 x6_2).f0) == ((rd_T38 l0 x5_1).f0)) = false := beq_eq_false_iff_ne.mpr c11
         have c11b1 : (((rd_T38 l0 x6_2).f0) != ((rd_T38 l0 x5_1).f0)) = true := bne_iff_ne.mpr c11
         have H' := Aside0.mk H
         clear H
         try go_wp2
         replace HO_4 := Aside0.mk (Kd.R_drew HO_4.out)
         replace HB := Aside0.mk (below_drew1 HB.out)
         have p194 : 0 ≤ (x6_2 : Int) := od
         have q194 : x6_2 < (l0.length : Int) := od
         obtain ⟨ad194, e194, hx194_0, hx194_1, hx194_2, hx194_3, hx194_4, hx194_5, hx194_6, hx194_7⟩ := at_T38 HR0.out x6_2 p194 q194
         have hw194_7 := hx194_7
         have hw194_6 := hx194_6
         have hw194_5 := hx194_5
         have hw194_4 := hx194_4
         have hw194_3 := hx194_3
         have hw194_2 := hx194_2
         have hw194_1 := hx194_1
         have hw194_0 := hx194_0
         cases e194
         replace hx194_0 := hc HB hx194_0
         replace hx194_1 := hc HB hx194_1
         replace hx194_2 := hc HB hx194_2
         replace hx194_3 := hc HB hx194_3
         replace hx194_4 := hc HB hx194_4
         replace hx194_5 := hc HB hx194_5
         replace hx194_6 := hc HB hx194_6
         replace hx194_7 := hc HB hx194_7
         replace p194 := eq_true p194
         replace q194 := eq_true q194
         have p195 : 0 ≤ (x5_1 : Int) := od
         have q195 : x5_1 < (l0.length : Int) := od
         obtain ⟨ad195, e195, hx195_0, hx195_1, hx195_2, hx195_3, hx195_4, hx195_5, hx195_6, hx195_7⟩ := at_T38 HR0.out x5_1 p195 q195
         have hw195_7 := hx195_7
         have hw195_6 := hx195_6
         have hw195_5 := hx195_5
         have hw195_4 := hx195_4
         have hw195_3 := hx195_3
         have hw195_2 := hx195_2
         have hw195_1 := hx195_1
         have hw195_0 := hx195_0
         obtain rfl : ad194 = ad195 := (by injection e195)
         replace hx195_0 := hc HB hx195_0
         replace hx195_1 := hc HB hx195_1
         replace hx195_2 := hc HB hx195_2
         replace hx195_3 := hc HB hx195_3
         replace hx195_4 := hc HB hx195_4
         replace hx195_5 := hc HB hx195_5
         replace hx195_6 := hc HB hx195_6
         replace hx195_7 := hc HB hx195_7
         replace p195 := eq_true p195
         replace q195 := eq_true q195
         refine start_ (n := 17) (S := fun w' => w'.cell? (ad194.add ((x6_2).toNat * 8)) = some (.int .i64 ((rd_T38 l0 x6_2).f0)) ∧ w'.cell? ⟨(ad194.add ((x6_2).toNat * 8)).block, (ad194.add ((x6_2).toNat * 8)).off + 1, none⟩ = some (.bool ((rd_T38 l0 x6_2).f1)) ∧ w'.cell? ⟨(ad194.add ((x6_2).toNat * 8)).block, (ad194.add ((x6_2).toNat * 8)).off + 2, none⟩ = some (.int .i64 ((rd_T38 l0 x6_2).f2.f0)) ∧ w'.cell? ⟨(ad194.add ((x6_2).toNat * 8)).block, (ad194.add ((x6_2).toNat * 8)).off + 3, none⟩ = some (.int .i64 ((rd_T38 l0 x6_2).f2.f1)) ∧ w'.cell? ⟨(ad194.add ((x6_2).toNat * 8)).block, (ad194.add ((x6_2).toNat * 8)).off + 4, none⟩ = some (.int .i64 ((rd_T38 l0 x6_2).f3.f0)) ∧ w'.cell? ⟨(ad194.add ((x6_2).toNat * 8)).block, (ad194.add ((x6_2).toNat * 8)).off + 5, none⟩ = some (.int .i64 ((rd_T38 l0 x6_2).f3.f1)) ∧ w'.cell? ⟨(ad194.add ((x6_2).toNat * 8)).block, (ad194.add ((x6_2).toNat * 8)).off + 6, none⟩ = some (.int .i64 ((rd_T38 l0 x6_2).f4.f0)) ∧ w'.cell? ⟨(ad194.add ((x6_2).toNat * 8)).block, (ad194.add ((x6_2).toNat * 8)).off + 7, none⟩ = some (.int .i64 ((rd_T38 l0 x6_2).f4.f1)) ∧ w'.cell? (ad194.add ((x5_1).toNat * 8)) = some (.int .i64 ((rd_T38 l0 x5_1).f0)) ∧ w'.cell? ⟨(ad194.add ((x5_1).toNat * 8)).block, (ad194.add ((x5_1).toNat * 8)).off + 1, none⟩ = some (.bool ((rd_T38 l0 x5_1).f1)) ∧ w'.cell? ⟨(ad194.add ((x5_1).toNat * 8)).block, (ad194.add ((x5_1).toNat * 8)).off + 2, none⟩ = some (.int .i64 ((rd_T38 l0 x5_1).f2.f0)) ∧ w'.cell? ⟨(ad194.add ((x5_1).toNat * 8)).block, (ad194.add ((x5_1).toNat * 8)).off + 3, none⟩ = some (.int .i64 ((rd_T38 l0 x5_1).f2.f1)) ∧ w'.cell? ⟨(ad194.add ((x5_1).toNat * 8)).block, (ad194.add ((x5_1).toNat * 8)).off + 4, none⟩ = some (.int .i64 ((rd_T38 l0 x5_1).f3.f0)) ∧ w'.cell? ⟨(ad194.add ((x5_1).toNat * 8)).block, (ad194.add ((x5_1).toNat * 8)).off + 5, none⟩ = some (.int .i64 ((rd_T38 l0 x5_1).f3.f1)) ∧ w'.cell? ⟨(ad194.add ((x5_1).toNat * 8)).block, (ad194.add ((x5_1).toNat * 8)).off + 6, none⟩ = some (.int .i64 ((rd_T38 l0 x5_1).f4.f0)) ∧ w'.cell? ⟨(ad194.add ((x5_1).toNat * 8)).block, (ad194.add ((x5_1).toNat * 8)).off + 7, none⟩ = some (.int .i64 ((rd_T38 l0 x5_1).f4.f1))) (ds := []) (ba 17 0) (by kernel_rfl) rfl rfl ⟨(hc HB hw194_0), (hc HB hw194_1), (hc HB hw194_2), (hc HB hw194_3), (hc HB hw194_4), (hc HB hw194_5), (hc HB hw194_6), (hc HB hw194_7), (hc HB hw195_0), (hc HB hw195_1), (hc HB hw195_2), (hc HB hw195_3), (hc HB hw195_4), (hc HB hw195_5), (hc HB hw195_6), (hc HB hw195_7)⟩ (fun hHeld => ?_); refine with_tabW corner_All.tab7 corner_All.bits7 (fun HT_ HW_ => ?_)
         generalize wr.drew = w13 at HO_4 HB hx194_0 hx194_1 hx194_2 hx194_3 hx194_4 hx194_5 hx194_6 hx194_7 hx195_0 hx195_1 hx195_2 hx195_3 hx195_4 hx195_5 hx195_6 hx195_7 hHeld ⊢
         refine pI 0 18 (ba 17 1) HT_.out ?_
         refine pI 1 19 (ba 17 3) HT_.out ?_
         refine pI 2 20 (ba 17 7) HT_.out ?_
         refine pI 3 21 (ba 17 15) HT_.out ?_
         refine pI 4 22 (ba 17 31) HT_.out ?_
         refine pI 5 23 (ba 17 63) HT_.out ?_
         refine pI 6 24 (ba 17 127) HT_.out ?_
         refine pI 7 25 (ba 17 255) HT_.out ?_
         refine pI 8 26 (ba 17 511) HT_.out ?_
         refine pI 10 28 (ba 17 1535) HT_.out ?_
         refine pI 11 29 (ba 17 3583) HT_.out ?_
         refine pI 12 30 (ba 17 7679) HT_.out ?_
         refine pI 13 31 (ba 17 15871) HT_.out ?_
         refine take_ (i := 9) (N := some 27) (v := ?_) (a' := ?_) (ba 17 16383) rfl rfl (take_ofW HT_.out HW_.out (by kernel_rfl)) (fun _ _ _ h => h) (Or.inl ⟨by rfl, ?_⟩) hHeld ?_ ?_
         rotate_left
         ·rintro w' ⟨s0, s1, s2, s3, s4, s5, s6, s7, s8, s9, s10, s11, s12, s13, s14, s15⟩
          go_simp
          with_reducible rfl
         rotate_left
         ·exact pa
         refine take_ (i := 14) (N := some 32) (v := ?_) (a' := ?_) (ba 17 32767) rfl rfl (take_ofW HT_.out HW_.out (by kernel_rfl)) (fun _ _ _ h => h) (Or.inl ⟨by rfl, ?_⟩) hHeld ?_ ?_
         rotate_left
         ·rintro w' ⟨s0, s1, s2, s3, s4, s5, s6, s7, s8, s9, s10, s11, s12, s13, s14, s15⟩
          go_simp
          with_reducible rfl
         rotate_left
         ·exact pa
         refine pI 15 33 (ba 17 65535) HT_.out ?_
         refine pI 16 34 (ba 17 131071) HT_.out ?_
         refine done_ (done_of HT_.out (by kernel_rfl)) ?_
         try go_wp2
         go_meet
         case rel => exact ⟨_, (x6_2), fr, H', ⟨by have := HK1.out; have := HK2.out; first | omega | exact Nat.le_refl _⟩, ⟨kr HO_4.out⟩, ⟨bl0 HB.out⟩⟩
        rw [if_neg c7] at H
        have c7b0 := decide_eq_false c7
        clear c7
        (first | rw [c7b0] | (simp only [i64_w, i32_w]; rw [c7b0]) | skip)
        have H' := Aside0.mk H
        clear H
        try go_wp2
        replace HO_4 := Aside0.mk (Kd.R_drew HO_4.out)
        replace HB := Aside0.mk (below_drew1 HB.out)
        refine start_ (n := 17) (S := fun w' => True) (ds := []) (ba 17 0) (by kernel_rfl) rfl rfl trivial (fun hHeld => ?_); refine with_tabW corner_All.tab7 corner_All.bits7 (fun HT_ HW_ => ?_)
        generalize wr.drew = w14 at HO_4 HB hHeld ⊢
        refine pI 0 18 (ba 17 1) HT_.out ?_
        refine pI 1 19 (ba 17 3) HT_.out ?_
        refine pI 2 20 (ba 17 7) HT_.out ?_
        refine pI 3 21 (ba 17 15) HT_.out ?_
        refine pI 4 22 (ba 17 31) HT_.out ?_
        refine pO 5 23 (ba 17 63) HT_.out ?_
        refine pO 6 24 (ba 17 127) HT_.out ?_
        refine pO 7 25 (ba 17 255) HT_.out ?_
        refine pO 8 26 (ba 17 511) HT_.out ?_
        refine pO 9 27 (ba 17 1023) HT_.out ?_
        refine pO 10 28 (ba 17 2047) HT_.out ?_
        refine pO 11 29 (ba 17 4095) HT_.out ?_
        refine pO 12 30 (ba 17 8191) HT_.out ?_
        refine pO 13 31 (ba 17 16383) HT_.out ?_
        refine pO 14 32 (ba 17 32767) HT_.out ?_
        refine pO 15 33 (ba 17 65535) HT_.out ?_
        refine pI 16 34 (ba 17 131071) HT_.out ?_
        refine done_ (done_of HT_.out (by kernel_rfl)) ?_
        try go_wp2
        go_meet
        case rel => exact ⟨_, (x6_2), fr, H', ⟨by have := HK1.out; have := HK2.out; first | omega | exact Nat.le_refl _⟩, ⟨kr HO_4.out⟩, ⟨bl0 HB.out⟩⟩
     case rest =>
      clear HC6
      try clear c1
      try clear p1
      try clear q1
      try clear hx1
      try clear p2
      try clear c3
      try clear c5b0
      try clear p6
      try clear c7b0
      try clear c8b0
      try clear c9b0
      try clear c10b0
      try clear c11b0
      try clear c11b1
      try clear c13
      try clear hx194_0
      try clear hx194_1
      try clear hx194_2
      try clear hx194_3
      try clear hx194_4
      try clear hx194_5
      try clear hx194_6
      try clear hx194_7
      try clear hx195_0
      try clear hx195_1
      try clear hx195_2
      try clear hx195_3
      try clear hx195_4
      try clear hx195_5
      try clear hx195_6
      try clear hx195_7
      try clear p194
      try clear p195
      try clear p2
      try clear p6
      try clear q194
      try clear q195
      obtain ⟨kq, x6_5, rfl, HA, HJ5, HO_4, HB⟩ := hcut
      cases kq with
      | zero => exact absurd HA.out (by simp [corner_All.j2])
      | succ kj5 =>
       have H := HA.out
       clear HA
       simp only [corner_All.j2] at H
       obtain ⟨ji15, hji15⟩ : ∃ j_ : Int, (wrap64 (x6_5 - 1)) = j_ := ⟨_, rfl⟩
       replace H : (if 0 ≤ (ji15) then (if (ji15) < (l0.length : Int) then (corner_All.l2 kj5 l0 x4_1 x6_5 x5_1 ((rd_T38 l0 (ji15)).f0) ((rd_T38 l0 (ji15)).f1) ((rd_T38 l0 (ji15)).f2.f0) ((rd_T38 l0 (ji15)).f2.f1) ((rd_T38 l0 (ji15)).f3.f0) ((rd_T38 l0 (ji15)).f3.f1) ((rd_T38 l0 (ji15)).f4.f0) ((rd_T38 l0 (ji15)).f4.f1)) else (none)) else (none)) = some (r1, r2) := by first | (rw [hji15] at H; exact H) | (simp only [hji15] at H ⊢; exact H)
       have hji15w : (IntKind.i64.wrap (x6_5 - 1)) = ji15 := (i64_w _).trans hji15
       refine ifk H ?_; clear H; intro c16 H
       have c16b0 := decide_eq_true c16
       clear c16
       refine ifk H ?_; clear H; intro c17 H
       have c17b0 := decide_eq_true c17
       clear c17
       have H' := Aside0.mk H
       clear H
       have p196 : 0 ≤ ((ji15) : Int) := od
       have q196 : (ji15) < (l0.length : Int) := od
       obtain ⟨ad196, e196, hx196_0, hx196_1, hx196_2, hx196_3, hx196_4, hx196_5, hx196_6, hx196_7⟩ := at_T38 HR0.out (ji15) p196 q196
       cases e196
       replace hx196_0 := hc HB hx196_0
       replace hx196_1 := hc HB hx196_1
       replace hx196_2 := hc HB hx196_2
       replace hx196_3 := hc HB hx196_3
       replace hx196_4 := hc HB hx196_4
       replace hx196_5 := hc HB hx196_5
       replace hx196_6 := hc HB hx196_6
       replace hx196_7 := hc HB hx196_7
       replace p196 := eq_true p196
       replace q196 := eq_true q196
       go_wp2_with (first | ((with_reducible refine gate_dst (N := 7) rfl ?_); refine be 7 (#[.int .i64 0, .bool false, .int .i64 0, .int .i64 0, .int .i64 0, .int .i64 0, .int .i64 0, .int .i64 0]) 38 ?_; intro gb197 hg w18 hbox hb; have BK197 := Aside0.mk (hbox); have GW197 := Aside0.mk (gz (w := w) hg (bl0 HB.out)); have GE197 := GW197; replace HO_4 := Aside0.mk (Kd.R_below (kr HO_4.out) hb); replace HB := Aside0.mk (below_step (bl0 HB.out) hb); clear hb hbox hg; have hcz19_0 : w18.cell? ⟨gb197, 0, none⟩ = some (.int .i64 0) := (blk_cell BK197.out 0).trans rfl; have hcz19_1 : w18.cell? ⟨gb197, 1, none⟩ = some (.bool false) := (blk_cell BK197.out 1).trans rfl; have hcz19_2 : w18.cell? ⟨gb197, 2, none⟩ = some (.int .i64 0) := (blk_cell BK197.out 2).trans rfl; have hcz19_3 : w18.cell? ⟨gb197, 3, none⟩ = some (.int .i64 0) := (blk_cell BK197.out 3).trans rfl; have hcz19_4 : w18.cell? ⟨gb197, 4, none⟩ = some (.int .i64 0) := (blk_cell BK197.out 4).trans rfl; have hcz19_5 : w18.cell? ⟨gb197, 5, none⟩ = some (.int .i64 0) := (blk_cell BK197.out 5).trans rfl; have hcz19_6 : w18.cell? ⟨gb197, 6, none⟩ = some (.int .i64 0) := (blk_cell BK197.out 6).trans rfl; have hcz19_7 : w18.cell? ⟨gb197, 7, none⟩ = some (.int .i64 0) := (blk_cell BK197.out 7).trans rfl; have hfz19_0 := blk_frozen BK197.out 0; have hfz19_1 := blk_frozen BK197.out 1; have hfz19_2 := blk_frozen BK197.out 2; have hfz19_3 := blk_frozen BK197.out 3; have hfz19_4 := blk_frozen BK197.out 4; have hfz19_5 := blk_frozen BK197.out 5; have hfz19_6 := blk_frozen BK197.out 6; have hfz19_7 := blk_frozen BK197.out 7))
       go_loopg [4, 8] kj5 (fun kq v4 v8 w' => ∃ (x4_3 : List Int) (x8_3 : Int) (x198000_3 : Int) (x198001_3 : Bool) (x198002_3 : Int) (x198003_3 : Int) (x198004_3 : Int) (x198005_3 : Int) (x198006_3 : Int) (x198007_3 : Int), v8 = .int .i64 x8_3 ∧ Aside0 (corner_All.l2 kq l0 x4_3 x6_5 x8_3 x198000_3 x198001_3 x198002_3 x198003_3 x198004_3 x198005_3 x198006_3 x198007_3 = some (r1, r2)) ∧ Aside0 (kq ≤ kj5) ∧ Aside0 (Kd.R (Kd.int .i64) 3 w' w.heap.size (fun _ => True) v4 x4_3) ∧ Aside0 (w'.heap[gb197]? = some (.cells #[.int .i64 x198000_3, .bool x198001_3, .int .i64 x198002_3, .int .i64 x198003_3, .int .i64 x198004_3, .int .i64 x198005_3, .int .i64 x198006_3, .int .i64 x198007_3] 38 (0, 0))) ∧ Aside0 (Below w.heap.size w w'))
       case atStart => exact ⟨(x4_1), (x5_1), ((rd_T38 l0 (ji15)).f0), ((rd_T38 l0 (ji15)).f1), ((rd_T38 l0 (ji15)).f2.f0), ((rd_T38 l0 (ji15)).f2.f1), ((rd_T38 l0 (ji15)).f3.f0), ((rd_T38 l0 (ji15)).f3.f1), ((rd_T38 l0 (ji15)).f4.f0), ((rd_T38 l0 (ji15)).f4.f1), fr, H', ⟨Nat.le_refl _⟩, ⟨by (with_reducible repeat (first | apply Kd.R_alloc | apply Kd.R_drewN | apply Kd.R_drew)); exact Kd.R_mono (Kd.R_far (p := ⟨gb197, 7, none⟩) (Kd.R_far (p := ⟨gb197, 6, none⟩) (Kd.R_far (p := ⟨gb197, 5, none⟩) (Kd.R_far (p := ⟨gb197, 4, none⟩) (Kd.R_far (p := ⟨gb197, 3, none⟩) (Kd.R_far (p := ⟨gb197, 2, none⟩) (Kd.R_far (p := ⟨gb197, 1, none⟩) (Kd.R_far (p := ⟨gb197, 0, none⟩) (Kd.R_types HO_4.out BK197.out (by decide)) (fun _ hk => hk.2) (.int .i64 ((rd_T38 l0 (ji15)).f0))) (fun _ hk => hk.2) (.bool ((rd_T38 l0 (ji15)).f1))) (fun _ hk => hk.2) (.int .i64 ((rd_T38 l0 (ji15)).f2.f0))) (fun _ hk => hk.2) (.int .i64 ((rd_T38 l0 (ji15)).f2.f1))) (fun _ hk => hk.2) (.int .i64 ((rd_T38 l0 (ji15)).f3.f0))) (fun _ hk => hk.2) (.int .i64 ((rd_T38 l0 (ji15)).f3.f1))) (fun _ hk => hk.2) (.int .i64 ((rd_T38 l0 (ji15)).f4.f0))) (fun _ hk => hk.2) (.int .i64 ((rd_T38 l0 (ji15)).f4.f1))) (fun _ hk => trivial)⟩, ⟨by (with_reducible repeat (first | refine blk_drewN ?_ _ | refine blk_drew ?_ | refine blk_alloc ?_ _)); refine blk_put (cs := #[.int .i64 ((rd_T38 l0 (ji15)).f0), .bool ((rd_T38 l0 (ji15)).f1), .int .i64 ((rd_T38 l0 (ji15)).f2.f0), .int .i64 ((rd_T38 l0 (ji15)).f2.f1), .int .i64 ((rd_T38 l0 (ji15)).f3.f0), .int .i64 ((rd_T38 l0 (ji15)).f3.f1), .int .i64 ((rd_T38 l0 (ji15)).f4.f0), .int .i64 0]) ?_ 7 _ rfl; (with_reducible repeat (first | refine blk_drewN ?_ _ | refine blk_drew ?_ | refine blk_alloc ?_ _)); refine blk_put (cs := #[.int .i64 ((rd_T38 l0 (ji15)).f0), .bool ((rd_T38 l0 (ji15)).f1), .int .i64 ((rd_T38 l0 (ji15)).f2.f0), .int .i64 ((rd_T38 l0 (ji15)).f2.f1), .int .i64 ((rd_T38 l0 (ji15)).f3.f0), .int .i64 ((rd_T38 l0 (ji15)).f3.f1), .int .i64 0, .int .i64 0]) ?_ 6 _ rfl; (with_reducible repeat (first | refine blk_drewN ?_ _ | refine blk_drew ?_ | refine blk_alloc ?_ _)); refine blk_put (cs := #[.int .i64 ((rd_T38 l0 (ji15)).f0), .bool ((rd_T38 l0 (ji15)).f1), .int .i64 ((rd_T38 l0 (ji15)).f2.f0), .int .i64 ((rd_T38 l0 (ji15)).f2.f1), .int .i64 ((rd_T38 l0 (ji15)).f3.f0), .int .i64 0, .int .i64 0, .int .i64 0]) ?_ 5 _ rfl; (with_reducible repeat (first | refine blk_drewN ?_ _ | refine blk_drew ?_ | refine blk_alloc ?_ _)); refine blk_put (cs := #[.int .i64 ((rd_T38 l0 (ji15)).f0), .bool ((rd_T38 l0 (ji15)).f1), .int .i64 ((rd_T38 l0 (ji15)).f2.f0), .int .i64 ((rd_T38 l0 (ji15)).f2.f1), .int .i64 0, .int .i64 0, .int .i64 0, .int .i64 0]) ?_ 4 _ rfl; (with_reducible repeat (first | refine blk_drewN ?_ _ | refine blk_drew ?_ | refine blk_alloc ?_ _)); refine blk_put (cs := #[.int .i64 ((rd_T38 l0 (ji15)).f0), .bool ((rd_T38 l0 (ji15)).f1), .int .i64 ((rd_T38 l0 (ji15)).f2.f0), .int .i64 0, .int .i64 0, .int .i64 0, .int .i64 0, .int .i64 0]) ?_ 3 _ rfl; (with_reducible repeat (first | refine blk_drewN ?_ _ | refine blk_drew ?_ | refine blk_alloc ?_ _)); refine blk_put (cs := #[.int .i64 ((rd_T38 l0 (ji15)).f0), .bool ((rd_T38 l0 (ji15)).f1), .int .i64 0, .int .i64 0, .int .i64 0, .int .i64 0, .int .i64 0, .int .i64 0]) ?_ 2 _ rfl; (with_reducible repeat (first | refine blk_drewN ?_ _ | refine blk_drew ?_ | refine blk_alloc ?_ _)); refine blk_put (cs := #[.int .i64 ((rd_T38 l0 (ji15)).f0), .bool false, .int .i64 0, .int .i64 0, .int .i64 0, .int .i64 0, .int .i64 0, .int .i64 0]) ?_ 1 _ rfl; (with_reducible repeat (first | refine blk_drewN ?_ _ | refine blk_drew ?_ | refine blk_alloc ?_ _)); refine blk_put (cs := #[.int .i64 0, .bool false, .int .i64 0, .int .i64 0, .int .i64 0, .int .i64 0, .int .i64 0, .int .i64 0]) ?_ 0 _ rfl; (with_reducible repeat (first | refine blk_drewN ?_ _ | refine blk_drew ?_ | refine blk_alloc ?_ _)); exact BK197.out⟩, ⟨bl1 HB.out GE197.out⟩⟩
       case round =>
        clear H'
        try clear c1
        try clear p1
        try clear q1
        try clear hx1
        try clear p2
        try clear c3
        try clear c5b0
        try clear p6
        try clear c7b0
        try clear c8b0
        try clear c9b0
        try clear c10b0
        try clear c11b0
        try clear c11b1
        try clear c13
        try clear c16b0
        try clear c17b0
        try clear p19
        try clear q19
        try clear hx19
        try clear hcz19_0
        try clear hcz19_1
        try clear hcz19_2
        try clear hcz19_3
        try clear hcz19_4
        try clear hcz19_5
        try clear hcz19_6
        try clear hcz19_7
        try clear hfz19_0
        try clear hfz19_1
        try clear hfz19_2
        try clear hfz19_3
        try clear hfz19_4
        try clear hfz19_5
        try clear hfz19_6
        try clear hfz19_7
        try clear hx194_0
        try clear hx194_1
        try clear hx194_2
        try clear hx194_3
        try clear hx194_4
        try clear hx194_5
        try clear hx194_6
        try clear hx194_7
        try clear hx195_0
        try clear hx195_1
        try clear hx195_2
        try clear hx195_3
        try clear hx195_4
        try clear hx195_5
        try clear hx195_6
        try clear hx195_7
        try clear hx196_0
        try clear hx196_1
        try clear hx196_2
        try clear hx196_3
        try clear hx196_4
        try clear hx196_5
        try clear hx196_6
        try clear hx196_7
        try clear p1
        try clear p194
        try clear p195
        try clear p196
        try clear p2
        try clear p6
        try clear q1
        try clear q194
        try clear q195
        try clear q196
        obtain ⟨x4_3, x8_3, x198000_3, x198001_3, x198002_3, x198003_3, x198004_3, x198005_3, x198006_3, x198007_3, rfl, HA, HK3, HO_4, BK197, HB⟩ := hrel
        cases gk with
        | zero => exact absurd HA.out (by simp [corner_All.l2])
        | succ k3 =>
         have H := HA.out
         clear HA
         simp only [corner_All.l2] at H
         by_cases c20 : x8_3 < x6_5
         ·rw [if_pos c20] at H
          have c20b0 := decide_eq_true c20
          clear c20
          refine ifk H ?_; clear H; intro c21 H
          have c21b0 := decide_eq_true c21
          clear c21
          refine ifk H ?_; clear H; intro c22 H
          have c22b0 := decide_eq_true c22
          clear c22
          replace H := Option.bind_eq_some_iff.mp H
          obtain ⟨t199, A230, H⟩ := H
          replace H : (if t199 = true then (if x4_3.length < 17592186044416 then (corner_All.l2 k3 l0 (x4_3 ++ [x8_3]) x6_5 (wrap64 (x8_3 + 1)) ((rd_T38 l0 x8_3).f0) ((rd_T38 l0 x8_3).f1) ((rd_T38 l0 x8_3).f2.f0) ((rd_T38 l0 x8_3).f2.f1) ((rd_T38 l0 x8_3).f3.f0) ((rd_T38 l0 x8_3).f3.f1) ((rd_T38 l0 x8_3).f4.f0) ((rd_T38 l0 x8_3).f4.f1)) else (none)) else (corner_All.l2 k3 l0 x4_3 x6_5 (wrap64 (x8_3 + 1)) ((rd_T38 l0 x8_3).f0) ((rd_T38 l0 x8_3).f1) ((rd_T38 l0 x8_3).f2.f0) ((rd_T38 l0 x8_3).f2.f1) ((rd_T38 l0 x8_3).f3.f0) ((rd_T38 l0 x8_3).f3.f1) ((rd_T38 l0 x8_3).f4.f0) ((rd_T38 l0 x8_3).f4.f1))) = some (r1, r2) := H
          have A23 := Aside0.mk A230
          clear A230
          by_cases c24 : t199 = true
          ·subst c24
           rw [if_pos rfl] at H
           refine ifk H ?_; clear H; intro c25 H
           have LMc25 := Aside0.mk c25
           clear c25
           obtain ⟨y200, hy200⟩ : ∃ y_ : List Int, y_ = (x4_3 ++ [x8_3]) := ⟨_, rfl⟩
           replace H : (corner_All.l2 k3 l0 y200 x6_5 (wrap64 (x8_3 + 1)) ((rd_T38 l0 x8_3).f0) ((rd_T38 l0 x8_3).f1) ((rd_T38 l0 x8_3).f2.f0) ((rd_T38 l0 x8_3).f2.f1) ((rd_T38 l0 x8_3).f3.f0) ((rd_T38 l0 x8_3).f3.f1) ((rd_T38 l0 x8_3).f4.f0) ((rd_T38 l0 x8_3).f4.f1)) = some (r1, r2) := by (try rw [hy200]); first | with_reducible exact H | (have H2_ := (Option.bind_some _ _).symm.trans H; with_reducible exact H2_) | exact H
           have Ny200 := Aside0.mk hy200
           clear hy200
           have H' := Aside0.mk H
           clear H
           try go_wp2
           replace HO_4 := Aside0.mk (Kd.R_drew HO_4.out)
           replace BK197 := Aside0.mk (blk_drew BK197.out)
           replace HB := Aside0.mk (below_drew1 HB.out)
           have p198 : 0 ≤ (x8_3 : Int) := od
           have q198 : x8_3 < (l0.length : Int) := od
           obtain ⟨ad198, e198, hx198_0, hx198_1, hx198_2, hx198_3, hx198_4, hx198_5, hx198_6, hx198_7⟩ := at_T38 HR0.out x8_3 p198 q198
           have hw198_7 := hx198_7
           have hw198_6 := hx198_6
           have hw198_5 := hx198_5
           have hw198_4 := hx198_4
           have hw198_3 := hx198_3
           have hw198_2 := hx198_2
           have hw198_1 := hx198_1
           have hw198_0 := hx198_0
           obtain rfl : ad196 = ad198 := (by injection e198)
           replace hx198_0 := hc HB hx198_0
           replace hx198_1 := hc HB hx198_1
           replace hx198_2 := hc HB hx198_2
           replace hx198_3 := hc HB hx198_3
           replace hx198_4 := hc HB hx198_4
           replace hx198_5 := hc HB hx198_5
           replace hx198_6 := hc HB hx198_6
           replace hx198_7 := hc HB hx198_7
           replace p198 := eq_true p198
           replace q198 := eq_true q198
           refine start_ (n := 6) (S := fun w' => w'.cell? ⟨gb197, 0, none⟩ = some (.int .i64 x198000_3) ∧ w'.cell? ⟨gb197, 1, none⟩ = some (.bool x198001_3) ∧ w'.cell? ⟨gb197, 2, none⟩ = some (.int .i64 x198002_3) ∧ w'.cell? ⟨gb197, 3, none⟩ = some (.int .i64 x198003_3) ∧ w'.cell? ⟨gb197, 4, none⟩ = some (.int .i64 x198004_3) ∧ w'.cell? ⟨gb197, 5, none⟩ = some (.int .i64 x198005_3) ∧ w'.cell? ⟨gb197, 6, none⟩ = some (.int .i64 x198006_3) ∧ w'.cell? ⟨gb197, 7, none⟩ = some (.int .i64 x198007_3) ∧ w'.cell? (ad196.add ((x8_3).toNat * 8)) = some (.int .i64 ((rd_T38 l0 x8_3).f0)) ∧ w'.cell? ⟨(ad196.add ((x8_3).toNat * 8)).block, (ad196.add ((x8_3).toNat * 8)).off + 1, none⟩ = some (.bool ((rd_T38 l0 x8_3).f1)) ∧ w'.cell? ⟨(ad196.add ((x8_3).toNat * 8)).block, (ad196.add ((x8_3).toNat * 8)).off + 2, none⟩ = some (.int .i64 ((rd_T38 l0 x8_3).f2.f0)) ∧ w'.cell? ⟨(ad196.add ((x8_3).toNat * 8)).block, (ad196.add ((x8_3).toNat * 8)).off + 3, none⟩ = some (.int .i64 ((rd_T38 l0 x8_3).f2.f1)) ∧ w'.cell? ⟨(ad196.add ((x8_3).toNat * 8)).block, (ad196.add ((x8_3).toNat * 8)).off + 4, none⟩ = some (.int .i64 ((rd_T38 l0 x8_3).f3.f0)) ∧ w'.cell? ⟨(ad196.add ((x8_3).toNat * 8)).block, (ad196.add ((x8_3).toNat * 8)).off + 5, none⟩ = some (.int .i64 ((rd_T38 l0 x8_3).f3.f1)) ∧ w'.cell? ⟨(ad196.add ((x8_3).toNat * 8)).block, (ad196.add ((x8_3).toNat * 8)).off + 6, none⟩ = some (.int .i64 ((rd_T38 l0 x8_3).f4.f0)) ∧ w'.cell? ⟨(ad196.add ((x8_3).toNat * 8)).block, (ad196.add ((x8_3).toNat * 8)).off + 7, none⟩ = some (.int .i64 ((rd_T38 l0 x8_3).f4.f1))) (ds := []) (ba 6 0) (by kernel_rfl) rfl rfl ⟨(blk_cell BK197.out 0).trans rfl, (blk_cell BK197.out 1).trans rfl, (blk_cell BK197.out 2).trans rfl, (blk_cell BK197.out 3).trans rfl, (blk_cell BK197.out 4).trans rfl, (blk_cell BK197.out 5).trans rfl, (blk_cell BK197.out 6).trans rfl, (blk_cell BK197.out 7).trans rfl, (hc HB hw198_0), (hc HB hw198_1), (hc HB hw198_2), (hc HB hw198_3), (hc HB hw198_4), (hc HB hw198_5), (hc HB hw198_6), (hc HB hw198_7)⟩ (fun hHeld => ?_)
           generalize wr.drew = w26 at HO_4 BK197 HB hx198_0 hx198_1 hx198_2 hx198_3 hx198_4 hx198_5 hx198_6 hx198_7 hHeld ⊢
           refine pure_ (i := 1) (N := some 49) (v := ?_) (a' := ?_) (ba 6 2) rfl rfl (by kernel_rfl) (fun _ _ _ h => h) (Or.inl ⟨by rfl, ?_⟩) ?_ ?_
           rotate_left
           ·intro w'
            go_simp
            with_reducible rfl
           rotate_left
           ·exact pa
           refine pure_ (i := 2) (N := some 50) (v := ?_) (a' := ?_) (ba 6 6) rfl rfl (by kernel_rfl) (fun _ _ _ h => h) (Or.inl ⟨by rfl, ?_⟩) ?_ ?_
           rotate_left
           ·intro w'
            go_simp
            with_reducible rfl
           rotate_left
           ·exact pa
           refine pure_ (i := 3) (N := some 51) (v := ?_) (a' := ?_) (ba 6 14) rfl rfl (by kernel_rfl) (fun _ _ _ h => h) (Or.inl ⟨by rfl, ?_⟩) ?_ ?_
           rotate_left
           ·intro w'
            go_simp
            with_reducible rfl
           rotate_left
           ·exact pa
           refine take_ (i := 0) (N := some 48) (v := ?_) (a' := ?_) (ba 6 15) rfl rfl (by kernel_rfl) (fun _ _ _ h => h) (Or.inl ⟨by rfl, ?_⟩) hHeld ?_ ?_
           rotate_left
           ·rintro w' ⟨s0, s1, s2, s3, s4, s5, s6, s7, s8, s9, s10, s11, s12, s13, s14, s15⟩
            go_simp
            with_reducible rfl
           rotate_left
           ·exact pa
           refine take_ (i := 4) (N := some 52) (v := ?_) (a' := ?_) (ba 6 31) rfl rfl (by kernel_rfl) (fun _ _ _ h => h) (Or.inl ⟨by rfl, ?_⟩) hHeld ?_ ?_
           rotate_left
           ·rintro w' ⟨s0, s1, s2, s3, s4, s5, s6, s7, s8, s9, s10, s11, s12, s13, s14, s15⟩
            go_simp
            with_reducible rfl
           rotate_left
           ·exact pa
           refine one_ (i := 5) (N := some 53) (ba 6 63) rfl rfl (by kernel_rfl) (by decide) (fun K hK => ?_)
           refine goes_ Try.func53 (by kernel_rfl) rfl #[.agg #[.int .i64 x198000_3, .bool x198001_3, .int .i64 x198002_3, .int .i64 x198003_3, .int .i64 x198004_3, .int .i64 x198005_3, .int .i64 x198006_3, .int .i64 x198007_3], .agg #[.int .i64 ((rd_T38 l0 x8_3).f0), .bool ((rd_T38 l0 x8_3).f1), .int .i64 ((rd_T38 l0 x8_3).f2.f0), .int .i64 ((rd_T38 l0 x8_3).f2.f1), .int .i64 ((rd_T38 l0 x8_3).f3.f0), .int .i64 ((rd_T38 l0 x8_3).f3.f1), .int .i64 ((rd_T38 l0 x8_3).f4.f0), .int .i64 ((rd_T38 l0 x8_3).f4.f1)]] (by rfl) rfl rfl am ?_
           with_reducible refine (corner_is.calls k3 x198000_3 x198001_3 x198002_3 x198003_3 x198004_3 x198005_3 x198006_3 x198007_3 ((rd_T38 l0 x8_3).f0) ((rd_T38 l0 x8_3).f1) ((rd_T38 l0 x8_3).f2.f0) ((rd_T38 l0 x8_3).f2.f1) ((rd_T38 l0 x8_3).f3.f0) ((rd_T38 l0 x8_3).f3.f1) ((rd_T38 l0 x8_3).f4.f0) ((rd_T38 l0 x8_3).f4.f1) true _ A23.out).mono ?_
           rintro e w27 ⟨rfl, hb⟩
           refine ⟨_, rfl, ?_⟩
           replace HO_4 := Aside0.mk (Kd.R_below (kr HO_4.out) hb)
           replace BK197 := Aside0.mk (bb BK197.out hb)
           replace HB := Aside0.mk (below_step (bl1 HB.out GE197.out) hb)
           (try clear hb)
           (try clear hb2)
           (try clear hk)
           (try clear hi)
           refine hK.out _ _ ⟨(blk_cell BK197.out 0).trans rfl, (blk_cell BK197.out 1).trans rfl, (blk_cell BK197.out 2).trans rfl, (blk_cell BK197.out 3).trans rfl, (blk_cell BK197.out 4).trans rfl, (blk_cell BK197.out 5).trans rfl, (blk_cell BK197.out 6).trans rfl, (blk_cell BK197.out 7).trans rfl, (hc HB hw198_0), (hc HB hw198_1), (hc HB hw198_2), (hc HB hw198_3), (hc HB hw198_4), (hc HB hw198_5), (hc HB hw198_6), (hc HB hw198_7)⟩ (fun hHeld => ?_)
           clear hK K
           refine np 53 ?_
           refine done_ (by kernel_rfl) ?_
           try go_wp2_with (first | ((with_reducible refine gate_builtin (b := .append) (xs := #[.tmp 54, .tmp 56]) rfl ?_); at_builtin; refine Kd.R_append (Kd.int .i64) (w0 := w) w.heap.size rfl (.tmp 54) (.tmp 56) 24 3 (.int .i64 0) 8 rfl Try.underlying24 info3 rfl (by decide) (by omega) u4 x4_3 x8_3 [.int .i64 x8_3] (fun _ => True) (fun _ => False) rfl rfl ?aP (fun _ hk => hk.elim) ?aF ?aO ?aB ?aS ?aL ?_; (case aP => exact rfl); (case aB => exact (bl1 HB.out GE197.out)); (case aF => exact (fun _ _ => trivial)); (case aO => exact (kr HO_4.out)); (case aS => exact (below_size (bl1 HB.out GE197.out))); (case aL => have := LMc25.out; omega); intro v201 w28 ho hb hg hat; rw [← Ny200.out] at ho; have HO202 := Aside0.mk (ho); replace BK197 := Aside0.mk (blk_grown (g := gb197) (o := .cells #[.int .i64 x198000_3, .bool x198001_3, .int .i64 x198002_3, .int .i64 x198003_3, .int .i64 x198004_3, .int .i64 x198005_3, .int .i64 x198006_3, .int .i64 x198007_3] 38 (0, 0)) (bk BK197.out) hg (Kd.R_ne HO_4.out BK197.out (by decide))); replace HB := Aside0.mk (hb); clear HO_4 ho hb hg hat; have p203 : 0 ≤ (x8_3 : Int) := od; have q203 : x8_3 < (l0.length : Int) := od; obtain ⟨ad203, e203, hx203_0, hx203_1, hx203_2, hx203_3, hx203_4, hx203_5, hx203_6, hx203_7⟩ := at_T38 HR0.out x8_3 p203 q203; obtain rfl : ad196 = ad203 := (by injection e203); replace hx203_0 := hc HB hx203_0; replace hx203_1 := hc HB hx203_1; replace hx203_2 := hc HB hx203_2; replace hx203_3 := hc HB hx203_3; replace hx203_4 := hc HB hx203_4; replace hx203_5 := hc HB hx203_5; replace hx203_6 := hc HB hx203_6; replace hx203_7 := hc HB hx203_7; replace p203 := eq_true p203; replace q203 := eq_true q203; have hcz29_0 : w28.cell? ⟨gb197, 0, none⟩ = some (.int .i64 x198000_3) := (blk_cell BK197.out 0).trans rfl; have hcz29_1 : w28.cell? ⟨gb197, 1, none⟩ = some (.bool x198001_3) := (blk_cell BK197.out 1).trans rfl; have hcz29_2 : w28.cell? ⟨gb197, 2, none⟩ = some (.int .i64 x198002_3) := (blk_cell BK197.out 2).trans rfl; have hcz29_3 : w28.cell? ⟨gb197, 3, none⟩ = some (.int .i64 x198003_3) := (blk_cell BK197.out 3).trans rfl; have hcz29_4 : w28.cell? ⟨gb197, 4, none⟩ = some (.int .i64 x198004_3) := (blk_cell BK197.out 4).trans rfl; have hcz29_5 : w28.cell? ⟨gb197, 5, none⟩ = some (.int .i64 x198005_3) := (blk_cell BK197.out 5).trans rfl; have hcz29_6 : w28.cell? ⟨gb197, 6, none⟩ = some (.int .i64 x198006_3) := (blk_cell BK197.out 6).trans rfl; have hcz29_7 : w28.cell? ⟨gb197, 7, none⟩ = some (.int .i64 x198007_3) := (blk_cell BK197.out 7).trans rfl; have hfz29_0 := blk_frozen BK197.out 0; have hfz29_1 := blk_frozen BK197.out 1; have hfz29_2 := blk_frozen BK197.out 2; have hfz29_3 := blk_frozen BK197.out 3; have hfz29_4 := blk_frozen BK197.out 4; have hfz29_5 := blk_frozen BK197.out 5; have hfz29_6 := blk_frozen BK197.out 6; have hfz29_7 := blk_frozen BK197.out 7))
           go_roundg k3
           case measure => have := HK1.out; have := HJ5.out; have := HK3.out; omega
           case rel => exact ⟨(y200), (wrap64 (x8_3 + 1)), ((rd_T38 l0 x8_3).f0), ((rd_T38 l0 x8_3).f1), ((rd_T38 l0 x8_3).f2.f0), ((rd_T38 l0 x8_3).f2.f1), ((rd_T38 l0 x8_3).f3.f0), ((rd_T38 l0 x8_3).f3.f1), ((rd_T38 l0 x8_3).f4.f0), ((rd_T38 l0 x8_3).f4.f1), fr, H', ⟨by have := HK1.out; have := HJ5.out; have := HK3.out; omega⟩, ⟨by (with_reducible repeat (first | apply Kd.R_alloc | apply Kd.R_drewN | apply Kd.R_drew)); exact Kd.R_mono (Kd.R_far (p := ⟨gb197, 7, none⟩) (Kd.R_far (p := ⟨gb197, 6, none⟩) (Kd.R_far (p := ⟨gb197, 5, none⟩) (Kd.R_far (p := ⟨gb197, 4, none⟩) (Kd.R_far (p := ⟨gb197, 3, none⟩) (Kd.R_far (p := ⟨gb197, 2, none⟩) (Kd.R_far (p := ⟨gb197, 1, none⟩) (Kd.R_far (p := ⟨gb197, 0, none⟩) (Kd.R_types HO202.out BK197.out (by decide)) (fun _ hk => hk.2) (.int .i64 ((rd_T38 l0 x8_3).f0))) (fun _ hk => hk.2) (.bool ((rd_T38 l0 x8_3).f1))) (fun _ hk => hk.2) (.int .i64 ((rd_T38 l0 x8_3).f2.f0))) (fun _ hk => hk.2) (.int .i64 ((rd_T38 l0 x8_3).f2.f1))) (fun _ hk => hk.2) (.int .i64 ((rd_T38 l0 x8_3).f3.f0))) (fun _ hk => hk.2) (.int .i64 ((rd_T38 l0 x8_3).f3.f1))) (fun _ hk => hk.2) (.int .i64 ((rd_T38 l0 x8_3).f4.f0))) (fun _ hk => hk.2) (.int .i64 ((rd_T38 l0 x8_3).f4.f1))) (fun _ hk => trivial)⟩, ⟨by (with_reducible repeat (first | refine blk_drewN ?_ _ | refine blk_drew ?_ | refine blk_alloc ?_ _)); refine blk_put (cs := #[.int .i64 ((rd_T38 l0 x8_3).f0), .bool ((rd_T38 l0 x8_3).f1), .int .i64 ((rd_T38 l0 x8_3).f2.f0), .int .i64 ((rd_T38 l0 x8_3).f2.f1), .int .i64 ((rd_T38 l0 x8_3).f3.f0), .int .i64 ((rd_T38 l0 x8_3).f3.f1), .int .i64 ((rd_T38 l0 x8_3).f4.f0), .int .i64 x198007_3]) ?_ 7 _ rfl; (with_reducible repeat (first | refine blk_drewN ?_ _ | refine blk_drew ?_ | refine blk_alloc ?_ _)); refine blk_put (cs := #[.int .i64 ((rd_T38 l0 x8_3).f0), .bool ((rd_T38 l0 x8_3).f1), .int .i64 ((rd_T38 l0 x8_3).f2.f0), .int .i64 ((rd_T38 l0 x8_3).f2.f1), .int .i64 ((rd_T38 l0 x8_3).f3.f0), .int .i64 ((rd_T38 l0 x8_3).f3.f1), .int .i64 x198006_3, .int .i64 x198007_3]) ?_ 6 _ rfl; (with_reducible repeat (first | refine blk_drewN ?_ _ | refine blk_drew ?_ | refine blk_alloc ?_ _)); refine blk_put (cs := #[.int .i64 ((rd_T38 l0 x8_3).f0), .bool ((rd_T38 l0 x8_3).f1), .int .i64 ((rd_T38 l0 x8_3).f2.f0), .int .i64 ((rd_T38 l0 x8_3).f2.f1), .int .i64 ((rd_T38 l0 x8_3).f3.f0), .int .i64 x198005_3, .int .i64 x198006_3, .int .i64 x198007_3]) ?_ 5 _ rfl; (with_reducible repeat (first | refine blk_drewN ?_ _ | refine blk_drew ?_ | refine blk_alloc ?_ _)); refine blk_put (cs := #[.int .i64 ((rd_T38 l0 x8_3).f0), .bool ((rd_T38 l0 x8_3).f1), .int .i64 ((rd_T38 l0 x8_3).f2.f0), .int .i64 ((rd_T38 l0 x8_3).f2.f1), .int .i64 x198004_3, .int .i64 x198005_3, .int .i64 x198006_3, .int .i64 x198007_3]) ?_ 4 _ rfl; (with_reducible repeat (first | refine blk_drewN ?_ _ | refine blk_drew ?_ | refine blk_alloc ?_ _)); refine blk_put (cs := #[.int .i64 ((rd_T38 l0 x8_3).f0), .bool ((rd_T38 l0 x8_3).f1), .int .i64 ((rd_T38 l0 x8_3).f2.f0), .int .i64 x198003_3, .int .i64 x198004_3, .int .i64 x198005_3, .int .i64 x198006_3, .int .i64 x198007_3]) ?_ 3 _ rfl; (with_reducible repeat (first | refine blk_drewN ?_ _ | refine blk_drew ?_ | refine blk_alloc ?_ _)); refine blk_put (cs := #[.int .i64 ((rd_T38 l0 x8_3).f0), .bool ((rd_T38 l0 x8_3).f1), .int .i64 x198002_3, .int .i64 x198003_3, .int .i64 x198004_3, .int .i64 x198005_3, .int .i64 x198006_3, .int .i64 x198007_3]) ?_ 2 _ rfl; (with_reducible repeat (first | refine blk_drewN ?_ _ | refine blk_drew ?_ | refine blk_alloc ?_ _)); refine blk_put (cs := #[.int .i64 ((rd_T38 l0 x8_3).f0), .bool x198001_3, .int .i64 x198002_3, .int .i64 x198003_3, .int .i64 x198004_3, .int .i64 x198005_3, .int .i64 x198006_3, .int .i64 x198007_3]) ?_ 1 _ rfl; (with_reducible repeat (first | refine blk_drewN ?_ _ | refine blk_drew ?_ | refine blk_alloc ?_ _)); refine blk_put (cs := #[.int .i64 x198000_3, .bool x198001_3, .int .i64 x198002_3, .int .i64 x198003_3, .int .i64 x198004_3, .int .i64 x198005_3, .int .i64 x198006_3, .int .i64 x198007_3]) ?_ 0 _ rfl; (with_reducible repeat (first | refine blk_drewN ?_ _ | refine blk_drew ?_ | refine blk_alloc ?_ _)); exact BK197.out⟩, ⟨bl1 HB.out GE197.out⟩⟩
          replace c24 := Bool.eq_false_iff.mpr c24
          subst c24
          rw [if_neg (show ¬ (false = true) by decide)] at H
          have H' := Aside0.mk H
          clear H
          try go_wp2
          replace HO_4 := Aside0.mk (Kd.R_drew HO_4.out)
          replace BK197 := Aside0.mk (blk_drew BK197.out)
          replace HB := Aside0.mk (below_drew1 HB.out)
          have p198 : 0 ≤ (x8_3 : Int) := od
          have q198 : x8_3 < (l0.length : Int) := od
          obtain ⟨ad198, e198, hx198_0, hx198_1, hx198_2, hx198_3, hx198_4, hx198_5, hx198_6, hx198_7⟩ := at_T38 HR0.out x8_3 p198 q198
          have hw198_7 := hx198_7
          have hw198_6 := hx198_6
          have hw198_5 := hx198_5
          have hw198_4 := hx198_4
          have hw198_3 := hx198_3
          have hw198_2 := hx198_2
          have hw198_1 := hx198_1
          have hw198_0 := hx198_0
          obtain rfl : ad196 = ad198 := (by injection e198)
          replace hx198_0 := hc HB hx198_0
          replace hx198_1 := hc HB hx198_1
          replace hx198_2 := hc HB hx198_2
          replace hx198_3 := hc HB hx198_3
          replace hx198_4 := hc HB hx198_4
          replace hx198_5 := hc HB hx198_5
          replace hx198_6 := hc HB hx198_6
          replace hx198_7 := hc HB hx198_7
          replace p198 := eq_true p198
          replace q198 := eq_true q198
          refine start_ (n := 6) (S := fun w' => w'.cell? ⟨gb197, 0, none⟩ = some (.int .i64 x198000_3) ∧ w'.cell? ⟨gb197, 1, none⟩ = some (.bool x198001_3) ∧ w'.cell? ⟨gb197, 2, none⟩ = some (.int .i64 x198002_3) ∧ w'.cell? ⟨gb197, 3, none⟩ = some (.int .i64 x198003_3) ∧ w'.cell? ⟨gb197, 4, none⟩ = some (.int .i64 x198004_3) ∧ w'.cell? ⟨gb197, 5, none⟩ = some (.int .i64 x198005_3) ∧ w'.cell? ⟨gb197, 6, none⟩ = some (.int .i64 x198006_3) ∧ w'.cell? ⟨gb197, 7, none⟩ = some (.int .i64 x198007_3) ∧ w'.cell? (ad196.add ((x8_3).toNat * 8)) = some (.int .i64 ((rd_T38 l0 x8_3).f0)) ∧ w'.cell? ⟨(ad196.add ((x8_3).toNat * 8)).block, (ad196.add ((x8_3).toNat * 8)).off + 1, none⟩ = some (.bool ((rd_T38 l0 x8_3).f1)) ∧ w'.cell? ⟨(ad196.add ((x8_3).toNat * 8)).block, (ad196.add ((x8_3).toNat * 8)).off + 2, none⟩ = some (.int .i64 ((rd_T38 l0 x8_3).f2.f0)) ∧ w'.cell? ⟨(ad196.add ((x8_3).toNat * 8)).block, (ad196.add ((x8_3).toNat * 8)).off + 3, none⟩ = some (.int .i64 ((rd_T38 l0 x8_3).f2.f1)) ∧ w'.cell? ⟨(ad196.add ((x8_3).toNat * 8)).block, (ad196.add ((x8_3).toNat * 8)).off + 4, none⟩ = some (.int .i64 ((rd_T38 l0 x8_3).f3.f0)) ∧ w'.cell? ⟨(ad196.add ((x8_3).toNat * 8)).block, (ad196.add ((x8_3).toNat * 8)).off + 5, none⟩ = some (.int .i64 ((rd_T38 l0 x8_3).f3.f1)) ∧ w'.cell? ⟨(ad196.add ((x8_3).toNat * 8)).block, (ad196.add ((x8_3).toNat * 8)).off + 6, none⟩ = some (.int .i64 ((rd_T38 l0 x8_3).f4.f0)) ∧ w'.cell? ⟨(ad196.add ((x8_3).toNat * 8)).block, (ad196.add ((x8_3).toNat * 8)).off + 7, none⟩ = some (.int .i64 ((rd_T38 l0 x8_3).f4.f1))) (ds := []) (ba 6 0) (by kernel_rfl) rfl rfl ⟨(blk_cell BK197.out 0).trans rfl, (blk_cell BK197.out 1).trans rfl, (blk_cell BK197.out 2).trans rfl, (blk_cell BK197.out 3).trans rfl, (blk_cell BK197.out 4).trans rfl, (blk_cell BK197.out 5).trans rfl, (blk_cell BK197.out 6).trans rfl, (blk_cell BK197.out 7).trans rfl, (hc HB hw198_0), (hc HB hw198_1), (hc HB hw198_2), (hc HB hw198_3), (hc HB hw198_4), (hc HB hw198_5), (hc HB hw198_6), (hc HB hw198_7)⟩ (fun hHeld => ?_)
          generalize wr.drew = w30 at HO_4 BK197 HB hx198_0 hx198_1 hx198_2 hx198_3 hx198_4 hx198_5 hx198_6 hx198_7 hHeld ⊢
          refine pure_ (i := 1) (N := some 49) (v := ?_) (a' := ?_) (ba 6 2) rfl rfl (by kernel_rfl) (fun _ _ _ h => h) (Or.inl ⟨by rfl, ?_⟩) ?_ ?_
          rotate_left
          ·intro w'
           go_simp
           with_reducible rfl
          rotate_left
          ·exact pa
          refine pure_ (i := 2) (N := some 50) (v := ?_) (a' := ?_) (ba 6 6) rfl rfl (by kernel_rfl) (fun _ _ _ h => h) (Or.inl ⟨by rfl, ?_⟩) ?_ ?_
          rotate_left
          ·intro w'
           go_simp
           with_reducible rfl
          rotate_left
          ·exact pa
          refine pure_ (i := 3) (N := some 51) (v := ?_) (a' := ?_) (ba 6 14) rfl rfl (by kernel_rfl) (fun _ _ _ h => h) (Or.inl ⟨by rfl, ?_⟩) ?_ ?_
          rotate_left
          ·intro w'
           go_simp
           with_reducible rfl
          rotate_left
          ·exact pa
          refine take_ (i := 0) (N := some 48) (v := ?_) (a' := ?_) (ba 6 15) rfl rfl (by kernel_rfl) (fun _ _ _ h => h) (Or.inl ⟨by rfl, ?_⟩) hHeld ?_ ?_
          rotate_left
          ·rintro w' ⟨s0, s1, s2, s3, s4, s5, s6, s7, s8, s9, s10, s11, s12, s13, s14, s15⟩
           go_simp
           with_reducible rfl
          rotate_left
          ·exact pa
          refine take_ (i := 4) (N := some 52) (v := ?_) (a' := ?_) (ba 6 31) rfl rfl (by kernel_rfl) (fun _ _ _ h => h) (Or.inl ⟨by rfl, ?_⟩) hHeld ?_ ?_
          rotate_left
          ·rintro w' ⟨s0, s1, s2, s3, s4, s5, s6, s7, s8, s9, s10, s11, s12, s13, s14, s15⟩
           go_simp
           with_reducible rfl
          rotate_left
          ·exact pa
          refine one_ (i := 5) (N := some 53) (ba 6 63) rfl rfl (by kernel_rfl) (by decide) (fun K hK => ?_)
          refine goes_ Try.func53 (by kernel_rfl) rfl #[.agg #[.int .i64 x198000_3, .bool x198001_3, .int .i64 x198002_3, .int .i64 x198003_3, .int .i64 x198004_3, .int .i64 x198005_3, .int .i64 x198006_3, .int .i64 x198007_3], .agg #[.int .i64 ((rd_T38 l0 x8_3).f0), .bool ((rd_T38 l0 x8_3).f1), .int .i64 ((rd_T38 l0 x8_3).f2.f0), .int .i64 ((rd_T38 l0 x8_3).f2.f1), .int .i64 ((rd_T38 l0 x8_3).f3.f0), .int .i64 ((rd_T38 l0 x8_3).f3.f1), .int .i64 ((rd_T38 l0 x8_3).f4.f0), .int .i64 ((rd_T38 l0 x8_3).f4.f1)]] (by rfl) rfl rfl am ?_
          with_reducible refine (corner_is.calls k3 x198000_3 x198001_3 x198002_3 x198003_3 x198004_3 x198005_3 x198006_3 x198007_3 ((rd_T38 l0 x8_3).f0) ((rd_T38 l0 x8_3).f1) ((rd_T38 l0 x8_3).f2.f0) ((rd_T38 l0 x8_3).f2.f1) ((rd_T38 l0 x8_3).f3.f0) ((rd_T38 l0 x8_3).f3.f1) ((rd_T38 l0 x8_3).f4.f0) ((rd_T38 l0 x8_3).f4.f1) false _ A23.out).mono ?_
          rintro e w31 ⟨rfl, hb⟩
          refine ⟨_, rfl, ?_⟩
          replace HO_4 := Aside0.mk (Kd.R_below (kr HO_4.out) hb)
          replace BK197 := Aside0.mk (bb BK197.out hb)
          replace HB := Aside0.mk (below_step (bl1 HB.out GE197.out) hb)
          (try clear hb)
          (try clear hb2)
          (try clear hk)
          (try clear hi)
          refine hK.out _ _ ⟨(blk_cell BK197.out 0).trans rfl, (blk_cell BK197.out 1).trans rfl, (blk_cell BK197.out 2).trans rfl, (blk_cell BK197.out 3).trans rfl, (blk_cell BK197.out 4).trans rfl, (blk_cell BK197.out 5).trans rfl, (blk_cell BK197.out 6).trans rfl, (blk_cell BK197.out 7).trans rfl, (hc HB hw198_0), (hc HB hw198_1), (hc HB hw198_2), (hc HB hw198_3), (hc HB hw198_4), (hc HB hw198_5), (hc HB hw198_6), (hc HB hw198_7)⟩ (fun hHeld => ?_)
          clear hK K
          refine np 53 ?_
          refine done_ (by kernel_rfl) ?_
          have p204 : 0 ≤ (x8_3 : Int) := od
          have q204 : x8_3 < (l0.length : Int) := od
          obtain ⟨ad204, e204, hx204_0, hx204_1, hx204_2, hx204_3, hx204_4, hx204_5, hx204_6, hx204_7⟩ := at_T38 HR0.out x8_3 p204 q204
          obtain rfl : ad196 = ad204 := (by injection e204)
          replace hx204_0 := hc HB hx204_0
          replace hx204_1 := hc HB hx204_1
          replace hx204_2 := hc HB hx204_2
          replace hx204_3 := hc HB hx204_3
          replace hx204_4 := hc HB hx204_4
          replace hx204_5 := hc HB hx204_5
          replace hx204_6 := hc HB hx204_6
          replace hx204_7 := hc HB hx204_7
          replace p204 := eq_true p204
          replace q204 := eq_true q204
          have hcz32_0 : w31.cell? ⟨gb197, 0, none⟩ = some (.int .i64 x198000_3) := (blk_cell BK197.out 0).trans rfl
          have hcz32_1 : w31.cell? ⟨gb197, 1, none⟩ = some (.bool x198001_3) := (blk_cell BK197.out 1).trans rfl
          have hcz32_2 : w31.cell? ⟨gb197, 2, none⟩ = some (.int .i64 x198002_3) := (blk_cell BK197.out 2).trans rfl
          have hcz32_3 : w31.cell? ⟨gb197, 3, none⟩ = some (.int .i64 x198003_3) := (blk_cell BK197.out 3).trans rfl
          have hcz32_4 : w31.cell? ⟨gb197, 4, none⟩ = some (.int .i64 x198004_3) := (blk_cell BK197.out 4).trans rfl
          have hcz32_5 : w31.cell? ⟨gb197, 5, none⟩ = some (.int .i64 x198005_3) := (blk_cell BK197.out 5).trans rfl
          have hcz32_6 : w31.cell? ⟨gb197, 6, none⟩ = some (.int .i64 x198006_3) := (blk_cell BK197.out 6).trans rfl
          have hcz32_7 : w31.cell? ⟨gb197, 7, none⟩ = some (.int .i64 x198007_3) := (blk_cell BK197.out 7).trans rfl
          have hfz32_0 := blk_frozen BK197.out 0
          have hfz32_1 := blk_frozen BK197.out 1
          have hfz32_2 := blk_frozen BK197.out 2
          have hfz32_3 := blk_frozen BK197.out 3
          have hfz32_4 := blk_frozen BK197.out 4
          have hfz32_5 := blk_frozen BK197.out 5
          have hfz32_6 := blk_frozen BK197.out 6
          have hfz32_7 := blk_frozen BK197.out 7
          try go_wp2
          go_roundg k3
          case measure => have := HK1.out; have := HJ5.out; have := HK3.out; omega
          case rel => exact ⟨(x4_3), (wrap64 (x8_3 + 1)), ((rd_T38 l0 x8_3).f0), ((rd_T38 l0 x8_3).f1), ((rd_T38 l0 x8_3).f2.f0), ((rd_T38 l0 x8_3).f2.f1), ((rd_T38 l0 x8_3).f3.f0), ((rd_T38 l0 x8_3).f3.f1), ((rd_T38 l0 x8_3).f4.f0), ((rd_T38 l0 x8_3).f4.f1), fr, H', ⟨by have := HK1.out; have := HJ5.out; have := HK3.out; omega⟩, ⟨by (with_reducible repeat (first | apply Kd.R_alloc | apply Kd.R_drewN | apply Kd.R_drew)); exact Kd.R_mono (Kd.R_far (p := ⟨gb197, 7, none⟩) (Kd.R_far (p := ⟨gb197, 6, none⟩) (Kd.R_far (p := ⟨gb197, 5, none⟩) (Kd.R_far (p := ⟨gb197, 4, none⟩) (Kd.R_far (p := ⟨gb197, 3, none⟩) (Kd.R_far (p := ⟨gb197, 2, none⟩) (Kd.R_far (p := ⟨gb197, 1, none⟩) (Kd.R_far (p := ⟨gb197, 0, none⟩) (Kd.R_types HO_4.out BK197.out (by decide)) (fun _ hk => hk.2) (.int .i64 ((rd_T38 l0 x8_3).f0))) (fun _ hk => hk.2) (.bool ((rd_T38 l0 x8_3).f1))) (fun _ hk => hk.2) (.int .i64 ((rd_T38 l0 x8_3).f2.f0))) (fun _ hk => hk.2) (.int .i64 ((rd_T38 l0 x8_3).f2.f1))) (fun _ hk => hk.2) (.int .i64 ((rd_T38 l0 x8_3).f3.f0))) (fun _ hk => hk.2) (.int .i64 ((rd_T38 l0 x8_3).f3.f1))) (fun _ hk => hk.2) (.int .i64 ((rd_T38 l0 x8_3).f4.f0))) (fun _ hk => hk.2) (.int .i64 ((rd_T38 l0 x8_3).f4.f1))) (fun _ hk => trivial)⟩, ⟨by (with_reducible repeat (first | refine blk_drewN ?_ _ | refine blk_drew ?_ | refine blk_alloc ?_ _)); refine blk_put (cs := #[.int .i64 ((rd_T38 l0 x8_3).f0), .bool ((rd_T38 l0 x8_3).f1), .int .i64 ((rd_T38 l0 x8_3).f2.f0), .int .i64 ((rd_T38 l0 x8_3).f2.f1), .int .i64 ((rd_T38 l0 x8_3).f3.f0), .int .i64 ((rd_T38 l0 x8_3).f3.f1), .int .i64 ((rd_T38 l0 x8_3).f4.f0), .int .i64 x198007_3]) ?_ 7 _ rfl; (with_reducible repeat (first | refine blk_drewN ?_ _ | refine blk_drew ?_ | refine blk_alloc ?_ _)); refine blk_put (cs := #[.int .i64 ((rd_T38 l0 x8_3).f0), .bool ((rd_T38 l0 x8_3).f1), .int .i64 ((rd_T38 l0 x8_3).f2.f0), .int .i64 ((rd_T38 l0 x8_3).f2.f1), .int .i64 ((rd_T38 l0 x8_3).f3.f0), .int .i64 ((rd_T38 l0 x8_3).f3.f1), .int .i64 x198006_3, .int .i64 x198007_3]) ?_ 6 _ rfl; (with_reducible repeat (first | refine blk_drewN ?_ _ | refine blk_drew ?_ | refine blk_alloc ?_ _)); refine blk_put (cs := #[.int .i64 ((rd_T38 l0 x8_3).f0), .bool ((rd_T38 l0 x8_3).f1), .int .i64 ((rd_T38 l0 x8_3).f2.f0), .int .i64 ((rd_T38 l0 x8_3).f2.f1), .int .i64 ((rd_T38 l0 x8_3).f3.f0), .int .i64 x198005_3, .int .i64 x198006_3, .int .i64 x198007_3]) ?_ 5 _ rfl; (with_reducible repeat (first | refine blk_drewN ?_ _ | refine blk_drew ?_ | refine blk_alloc ?_ _)); refine blk_put (cs := #[.int .i64 ((rd_T38 l0 x8_3).f0), .bool ((rd_T38 l0 x8_3).f1), .int .i64 ((rd_T38 l0 x8_3).f2.f0), .int .i64 ((rd_T38 l0 x8_3).f2.f1), .int .i64 x198004_3, .int .i64 x198005_3, .int .i64 x198006_3, .int .i64 x198007_3]) ?_ 4 _ rfl; (with_reducible repeat (first | refine blk_drewN ?_ _ | refine blk_drew ?_ | refine blk_alloc ?_ _)); refine blk_put (cs := #[.int .i64 ((rd_T38 l0 x8_3).f0), .bool ((rd_T38 l0 x8_3).f1), .int .i64 ((rd_T38 l0 x8_3).f2.f0), .int .i64 x198003_3, .int .i64 x198004_3, .int .i64 x198005_3, .int .i64 x198006_3, .int .i64 x198007_3]) ?_ 3 _ rfl; (with_reducible repeat (first | refine blk_drewN ?_ _ | refine blk_drew ?_ | refine blk_alloc ?_ _)); refine blk_put (cs := #[.int .i64 ((rd_T38 l0 x8_3).f0), .bool ((rd_T38 l0 x8_3).f1), .int .i64 x198002_3, .int .i64 x198003_3, .int .i64 x198004_3, .int .i64 x198005_3, .int .i64 x198006_3, .int .i64 x198007_3]) ?_ 2 _ rfl; (with_reducible repeat (first | refine blk_drewN ?_ _ | refine blk_drew ?_ | refine blk_alloc ?_ _)); refine blk_put (cs := #[.int .i64 ((rd_T38 l0 x8_3).f0), .bool x198001_3, .int .i64 x198002_3, .int .i64 x198003_3, .int .i64 x198004_3, .int .i64 x198005_3, .int .i64 x198006_3, .int .i64 x198007_3]) ?_ 1 _ rfl; (with_reducible repeat (first | refine blk_drewN ?_ _ | refine blk_drew ?_ | refine blk_alloc ?_ _)); refine blk_put (cs := #[.int .i64 x198000_3, .bool x198001_3, .int .i64 x198002_3, .int .i64 x198003_3, .int .i64 x198004_3, .int .i64 x198005_3, .int .i64 x198006_3, .int .i64 x198007_3]) ?_ 0 _ rfl; (with_reducible repeat (first | refine blk_drewN ?_ _ | refine blk_drew ?_ | refine blk_alloc ?_ _)); exact BK197.out⟩, ⟨bl1 HB.out GE197.out⟩⟩
         rw [if_neg c20] at H
         have c20b0 := decide_eq_false c20
         clear c20
         have H' := Aside0.mk H
         clear H
         go_wp2
         go_roundg k3
         case measure => have := HK1.out; have := HJ5.out; have := HK3.out; omega
         case rel => exact ⟨(x4_3), (x6_5), fr, H', ⟨by have := HK1.out; have := HJ5.out; have := HK3.out; omega⟩, ⟨kr HO_4.out⟩, ⟨bl1 HB.out GE197.out⟩⟩
    rw [if_neg c5] at H
    have c5b0 := decide_eq_false c5
    clear c5
    simp only [Option.some.injEq, Prod.mk.injEq] at H
    obtain ⟨rfl, rfl⟩ := H
    go_wp2
    go_ret2
    exact ⟨_, by first | rfl | (simp [errW_none, errW_some] <;> rfl) | (simp [*, errW_none, errW_some] <;> rfl), kr HO_4.out, bl0 HB.out⟩
 replace c3 := Bool.eq_false_iff.mpr c3
 subst c3
 rw [if_neg (show ¬ (false = true) by decide)] at H
 simp only [Option.some.injEq, Prod.mk.injEq] at H
 obtain ⟨rfl, rfl⟩ := H
 go_enter Try.func13, Try.ntmps13
 go_wp2_with (first | ((with_reducible refine gate_callee (f := 52) rfl ?_); refine goesL_ (some 10) rfl rfl Try.func52 (by kernel_rfl) rfl #[.slice A0 l0.length c0] rfl am ?_; (with_reducible refine (edge_May.calls k _ _ l0 false _ ?side1 ?side2 A2.out).mono ?_); (case side1 => exact kc HR0.out); (case side2 => exact HC0.out); rintro e w33 ⟨rfl, hb⟩; refine ⟨_, rfl, ?_⟩; replace HB := Aside0.mk (below_step (bl0 HB.out) hb); (try clear hb)))
 go_ret2
 exact ⟨_, by first | rfl | (simp [errW_none, errW_some] <;> rfl) | (simp [*, errW_none, errW_some] <;> rfl), by first | exact Kd.R_nil _ _ _ _ _ | exact Kd.N_nil _ _ _ _ _ | exact Kd.V_nil _ _ _ _ _ | exact Kd.Q_nil _ _ _ _ _ | exact Kd.S_nil _ _ _ _ _, bl0 HB.out⟩

end Go.Proofs.Ytalgppclaolonaa.XColr
