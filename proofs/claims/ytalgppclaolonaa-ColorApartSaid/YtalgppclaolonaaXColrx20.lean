-- Printed by a program of this claim. Not trusted: Lean checks it.
import Derived.Test.YtalgppclaolonaaXColrx0
import Derived.Test.YtalgppclaolonaaXColrx11
import Derived.Test.YtalgppclaolonaaXColrx22
import Derived.Test.YtalgppclaolonaaXColrx15
import Derived.Test.YtalgppclaolonaaXColrx16
import Derived.Test.YtalgppclaolonaaXColrx17
import Derived.Test.YtalgppclaolonaaXColrx19
namespace Go.Proofs.Ytalgppclaolonaa.XColr
open Go.RowKit Go.Proofs.YtalgppclaolonaaW.PrintWords Go.Proofs.YtalgppclaolonaaW.PrintLast Go.Proofs.YtalgppclaolonaaW.PrintMore
attribute [local go_sem] max2_int min2_int max_two min_two max_three min_three max_four min_four   -- for this text's walks alone
set_option linter.unusedVariables false
set_option linter.unusedSimpArgs false
open XOpen

/-! ### pochoirlaw23_ColorApart: function 11 -/
set_option maxHeartbeats 8000000 in
set_option maxRecDepth 100000 in
theorem pochoirlaw23_ColorApart.calls (k : Nat) (A0 : Option Addr) (c0 : Nat) (l0 : List (S38)) (r : Bool) (w : World) (hr0 : Kd.C k38 w A0 l0.length l0) (hc0 : l0.length ≤ c0) (hq_ : r = true) (h : pochoirlaw23_ColorApart.f k l0 = some r) :
  Calls Try.prog 11 #[.slice A0 l0.length c0] w fun e w' => e = .returned (.bool r) ∧ Below w.heap.size w w' := by
 have hu38 := Try.underlying38
 have HR0 := Aside0.mk hr0
 have HC0 := Aside0.mk hc0
 clear hr0 hc0
 have HB := Aside0.mk (Below.refl w.heap.size w)
 have HQ := Aside0.mk hq_
 clear hq_
 have H := h
 clear h; unfold pochoirlaw23_ColorApart.f at H
 replace H := Option.bind_eq_some_iff.mp H
 obtain ⟨t470, A20, H⟩ := H
 replace H : (if t470 = true then (if (l0.length : Int) > 60 then (pochoirlaw23_ColorApart.j0 k l0 true) else ((pochoirref16_May.f k l0).bind fun t471 => (pochoirlaw23_ColorApart.j0 k l0 (!t471)))) else (some false)) = some r := H
 have A2 := Aside0.mk A20
 clear A20
 by_cases c3 : t470 = true
 ·subst c3
  rw [if_pos rfl] at H
  have HC4 := Aside0.mk H
  clear H
  go_enter Try.func11, Try.ntmps11
  go_upto_region 3 with (first | ((with_reducible refine gate_callee (f := 45) rfl ?_); refine goesL_ (some 11) rfl rfl Try.func45 (by kernel_rfl) rfl #[] rfl am ?_; (with_reducible refine (pochoirlaw23_awake.calls k  true _ rfl A2.out).mono ?_); rintro e w5 ⟨rfl, hb⟩; refine ⟨_, rfl, ?_⟩; replace HB := Aside0.mk (below_step (bl0 HB.out) hb); (try clear hb)))
  (try simp only [Act.put, List.setIfInBounds_toArray, List.set_cons_zero, List.set_cons_succ])
  go_cut [20] (fun v20 wc => ∃ (kq : Nat) (x20_3 : Bool), v20 = .bool x20_3 ∧ Aside0 (pochoirlaw23_ColorApart.j0 kq l0 x20_3 = some r) ∧ Aside0 (kq ≤ k) ∧ Aside0 (Below w.heap.size w wc))
  case first =>
   have H := HC4.out
   clear HC4
   by_cases c6 : (l0.length : Int) > 60
   ·rw [if_pos c6] at H
    have c6b0 : decide (60 < (l0.length : Int)) = true := decide_eq_true c6
    have c6b1 : decide (60 < l0.length) = true := decide_eq_true (by omega)
    clear c6
    (first | rw [c6b0] | (simp only [i64_w, i32_w]; rw [c6b0]) | rw [c6b1] | skip)
    have H' := Aside0.mk H
    clear H
    go_wp2
    go_meet
    case rel => exact ⟨_, (true), fr, H', ⟨by first | omega | exact Nat.le_refl _⟩, ⟨bl0 HB.out⟩⟩
   rw [if_neg c6] at H
   have c6b0 : decide (60 < (l0.length : Int)) = false := decide_eq_false c6
   have c6b1 : decide (60 < l0.length) = false := decide_eq_false (by omega)
   clear c6
   (first | rw [c6b0] | (simp only [i64_w, i32_w]; rw [c6b0]) | rw [c6b1] | skip)
   replace H := Option.bind_eq_some_iff.mp H
   obtain ⟨t471, A70, H⟩ := H
   replace H : (pochoirlaw23_ColorApart.j0 k l0 (!t471)) = some r := H
   have A7 := Aside0.mk A70
   clear A70
   have H' := Aside0.mk H
   clear H
   go_wp2_with (first | (go_at_call 40; (with_reducible refine (pochoirref16_May.calls k _ _ l0 t471 _ ?side1 ?side2 A7.out).mono ?_); (case side1 => exact kc (Kd.C_below HR0.out HB.out)); (case side2 => exact HC0.out); rintro e w8 ⟨rfl, hb⟩; replace HB := Aside0.mk (below_step (bl0 HB.out) hb); (try clear hb)))
   go_meet
   case rel => exact ⟨_, (!t471), fr, H', ⟨by first | omega | exact Nat.le_refl _⟩, ⟨bl0 HB.out⟩⟩
  case rest =>
   clear HC4
   try clear c1
   try clear p2
   try clear c3
   try clear c4
   try clear c6b0
   try clear c6b1
   obtain ⟨kq, x20_3, rfl, HA, HJ3, HB⟩ := hcut
   cases kq with
   | zero => exact absurd HA.out (by simp [pochoirlaw23_ColorApart.j0])
   | succ kj3 =>
    have H := HA.out
    clear HA
    simp only [pochoirlaw23_ColorApart.j0] at H
    by_cases c9 : x20_3 = true
    ·subst c9
     rw [if_pos rfl] at H
     obtain rfl := Option.some.inj H
     go_wp2
     go_ret
     exact ⟨by first | rfl | (simp [errW_none, errW_some] <;> rfl) | (simp [*, errW_none, errW_some] <;> rfl), bl0 HB.out⟩
    replace c9 := Bool.eq_false_iff.mpr c9
    subst c9
    rw [if_neg (show ¬ (false = true) by decide)] at H
    replace H := Option.bind_eq_some_iff.mp H
    obtain ⟨⟨t472, t473⟩, A100, H⟩ := H
    replace H : (if t473 = 0 then (pochoirlaw23_ColorApart.j1 kj3 l0 t472 ((t472.length : Int) != (l0.length : Int))) else (pochoirlaw23_ColorApart.j1 kj3 l0 t472 true)) = some r := H
    have A10 := Aside0.mk A100
    clear A100
    have HC11 := Aside0.mk H
    clear H
    go_upto_region 6 with (first | ((with_reducible refine gate_callee (f := 46) rfl ?_); refine goesL_ (some 23) rfl rfl Try.func46 (by kernel_rfl) rfl #[.slice A0 l0.length c0] rfl am ?_; (with_reducible refine (color_All.calls kj3 _ _ l0 t472 t473 _ ?side1 ?side2 A10.out).mono ?_); (case side1 => exact kc (Kd.C_below HR0.out HB.out)); (case side2 => exact HC0.out); rintro e w12 ⟨v474, rfl, ho0, hb⟩; refine ⟨_, rfl, ?_⟩; have HO475 := Aside0.mk (Kd.R_lower ho0 (below_size (bl0 HB.out))); replace HB := Aside0.mk (below_step (bl0 HB.out) hb); (try clear hb); (try clear ho0)))
    (try simp only [Act.put, List.setIfInBounds_toArray, List.set_cons_zero, List.set_cons_succ])
    go_cut [34] (fun v34 wc => ∃ (kq : Nat) (x34_10 : Bool), v34 = .bool x34_10 ∧ Aside0 (pochoirlaw23_ColorApart.j1 kq l0 t472 x34_10 = some r) ∧ Aside0 (kq ≤ kj3) ∧ Aside0 (Kd.R (Kd.int .i64) 3 wc w.heap.size (fun _ => True) v474 t472) ∧ Aside0 (Below w.heap.size w wc))
    case first =>
     have H := HC11.out
     clear HC11
     by_cases c13 : t473 = 0
     ·rw [if_pos c13] at H
      have c13b0 : (t473 == 0) = true := beq_iff_eq.mpr c13
      have c13b1 : (t473 != 0) = false := bne_eq_false_iff_eq.mpr c13
      clear c13
      (first | rw [c13b0] | (simp only [i64_w, i32_w]; rw [c13b0]) | rw [c13b1] | skip)
      have H' := Aside0.mk H
      clear H
      obtain ⟨Ao14, co14, eo14⟩ := Kd.R_slice HO475.out
      subst eo14
      go_wp2
      go_meet
      case rel => exact ⟨_, (((t472.length : Int) != (l0.length : Int))), fr, H', ⟨by have := HJ3.out; first | omega | exact Nat.le_refl _⟩, ⟨kr HO475.out⟩, ⟨bl0 HB.out⟩⟩
     rw [if_neg c13] at H
     have c13b0 : (t473 == 0) = false := beq_eq_false_iff_ne.mpr c13
     have c13b1 : (t473 != 0) = true := bne_iff_ne.mpr c13
     (first | rw [c13b0] | (simp only [i64_w, i32_w]; rw [c13b0]) | rw [c13b1] | skip)
     exact absurd (HQ.out ▸ H) (by cases kj3 <;> (rw [pochoirlaw23_ColorApart.j1]; simp))
    case rest =>
     clear HC11
     try clear c1
     try clear p2
     try clear c3
     try clear c4
     try clear c6b0
     try clear c6b1
     try clear c9
     try clear c11
     try clear c13b0
     try clear c13b1
     try clear p2
     obtain ⟨kq, x34_10, rfl, HA, HJ10, HO_3, HB⟩ := hcut
     cases kq with
     | zero => exact absurd HA.out (by simp [pochoirlaw23_ColorApart.j1])
     | succ kj10 =>
      have H := HA.out
      clear HA
      simp only [pochoirlaw23_ColorApart.j1] at H
      by_cases c15 : x34_10 = true
      ·subst c15
       rw [if_pos rfl] at H
       exact absurd (HQ.out ▸ H) (by simp)
      replace c15 := Bool.eq_false_iff.mpr c15
      subst c15
      rw [if_neg (show ¬ (false = true) by decide)] at H
      have H' := Aside0.mk H
      clear H
      go_wp2
      go_loopg [37] kj10 (fun kq v37 w' => ∃ (x37_3 : Int), v37 = .int .i64 x37_3 ∧ Aside0 (pochoirlaw23_ColorApart.l0 kq l0 t472 (l0.length : Int) x37_3 = some r) ∧ Aside0 (kq ≤ kj10) ∧ Aside0 (Kd.R (Kd.int .i64) 3 w' w.heap.size (fun _ => True) v474 t472) ∧ Aside0 (Below w.heap.size w w'))
      case atStart => exact ⟨(0), fr, H', ⟨Nat.le_refl _⟩, ⟨kr HO_3.out⟩, ⟨bl0 HB.out⟩⟩
      case round =>
       clear H'
       try clear c1
       try clear p2
       try clear c3
       try clear c4
       try clear c6b0
       try clear c6b1
       try clear c9
       try clear c11
       try clear c13b0
       try clear c13b1
       try clear c15
       try clear p2
       obtain ⟨x37_3, rfl, HA, HK3, HO_3, HB⟩ := hrel
       cases gk with
       | zero => exact absurd HA.out (by simp [pochoirlaw23_ColorApart.l0])
       | succ k3 =>
        have H := HA.out
        clear HA
        simp only [pochoirlaw23_ColorApart.l0] at H
        by_cases c16 : x37_3 < (l0.length : Int)
        ·rw [if_pos c16] at H
         have c16b0 := decide_eq_true c16
         clear c16
         replace H := Option.bind_eq_some_iff.mp H
         obtain ⟨t476, A170, H⟩ := H
         replace H : (pochoirlaw23_ColorApart.l1 k3 l0 t472 x37_3 t476 x37_3 0 0 (l0.length : Int) x37_3) = some r := H
         have A17 := Aside0.mk A170
         clear A170
         have HC18 := Aside0.mk H
         clear H
         go_upto_block 2 with (first | ((with_reducible refine gate_callee (f := 51) rfl ?_); refine goesL_ (some 42) rfl rfl Try.func51 (by kernel_rfl) rfl #[.slice A0 l0.length c0, .int .i64 x37_3] rfl am ?_; (with_reducible refine (pochoirref22_Ahead.calls k3 _ _ l0 x37_3 t476 _ ?side1 ?side2 A17.out).mono ?_); (case side1 => exact kc (Kd.C_below HR0.out HB.out)); (case side2 => exact HC0.out); rintro e w' ⟨rfl, ⟨nd, rfl⟩⟩; refine ⟨_, rfl, ?_⟩))
         (try simp only [Act.put, List.setIfInBounds_toArray, List.set_cons_zero, List.set_cons_succ])
         go_cut [7] (fun v7 wc => ∃ (kq : Nat) (x7_17 : Int), v7 = .int .i64 x7_17 ∧ Aside0 (pochoirlaw23_ColorApart.j4 kq l0 t472 x37_3 t476 x7_17 0 0 (l0.length : Int) x37_3 = some r) ∧ Aside0 (kq ≤ k3) ∧ Aside0 (Kd.R (Kd.int .i64) 3 wc w.heap.size (fun _ => True) v474 t472) ∧ Aside0 (Below w.heap.size w wc))
         case first =>
          have H := HC18.out
          clear HC18
          have H' := Aside0.mk H
          clear H
          go_wp2
          go_loopg [7] k3 (fun kq v7 w' => ∃ (x7_4 : Int), v7 = .int .i64 x7_4 ∧ Aside0 (pochoirlaw23_ColorApart.l1 kq l0 t472 x37_3 t476 x7_4 0 0 (l0.length : Int) x37_3 = some r) ∧ Aside0 (kq ≤ k3) ∧ Aside0 (Kd.R (Kd.int .i64) 3 w' w.heap.size (fun _ => True) v474 t472) ∧ Aside0 (Below w.heap.size w w'))
          case atStart => exact ⟨(x37_3), fr, H', ⟨Nat.le_refl _⟩, ⟨kr HO_3.out⟩, ⟨bl0 HB.out⟩⟩
          case round =>
           clear H'
           try clear c1
           try clear p2
           try clear c3
           try clear c4
           try clear c5
           try clear c6b0
           try clear c6b1
           try clear c9
           try clear c11
           try clear c13b0
           try clear c13b1
           try clear c15
           try clear c16b0
           try clear p2
           obtain ⟨x7_4, rfl, HA, HK4, HO_3, HB⟩ := hrel
           cases gk with
           | zero => exact absurd HA.out (by simp [pochoirlaw23_ColorApart.l1])
           | succ k4 =>
            have H := HA.out
            clear HA
            simp only [pochoirlaw23_ColorApart.l1] at H
            by_cases c19 : x7_4 > 0
            ·rw [if_pos c19] at H
             have c19b0 : decide (0 < x7_4) = true := decide_eq_true c19
             clear c19
             (first | rw [c19b0] | (simp only [i64_w, i32_w]; rw [c19b0]) | skip)
             obtain ⟨ji20, hji20⟩ : ∃ j_ : Int, (wrap64 (x7_4 - 1)) = j_ := ⟨_, rfl⟩
             replace H : (if 0 ≤ (ji20) then (if (ji20) < (l0.length : Int) then (if 0 ≤ x37_3 then (if x37_3 < (l0.length : Int) then (if ((rd_T38 l0 (ji20)).f0) = ((rd_T38 l0 x37_3).f0) then (pochoirlaw23_ColorApart.l1 k4 l0 t472 x37_3 t476 ji20 0 0 (l0.length : Int) x37_3) else (pochoirlaw23_ColorApart.j4 k4 l0 t472 x37_3 t476 x7_4 0 0 (l0.length : Int) x37_3)) else (none)) else (none)) else (none)) else (none)) = some r := by first | (rw [hji20] at H; exact H) | (simp only [hji20] at H ⊢; exact H)
             have hji20w : (IntKind.i64.wrap (x7_4 - 1)) = ji20 := (i64_w _).trans hji20
             refine ifk H ?_; clear H; intro c21 H
             have c21b0 := decide_eq_true c21
             clear c21
             refine ifk H ?_; clear H; intro c22 H
             have c22b0 := decide_eq_true c22
             clear c22
             refine ifk H ?_; clear H; intro c23 H
             have c23b0 := decide_eq_true c23
             clear c23
             refine ifk H ?_; clear H; intro c24 H
             have c24b0 := decide_eq_true c24
             clear c24
             by_cases c25 : ((rd_T38 l0 (ji20)).f0) = ((rd_T38 l0 x37_3).f0)
             ·rw [if_pos c25] at H
              have c25b0 : (((rd_T38 l0 (ji20)).f0) == ((rd_T38 l0 x37_3).f0)) = true := beq_iff_eq.mpr c25
              have c25b1 : (((rd_T38 l0 (ji20)).f0) != ((rd_T38 l0 x37_3).f0)) = false := bne_eq_false_iff_eq.mpr c25
              clear c25
              have H' := Aside0.mk H
              clear H
              try go_wp2
              replace HO_3 := Aside0.mk (Kd.R_drew HO_3.out)
              replace HB := Aside0.mk (below_drew1 HB.out)
              have p477 : 0 ≤ ((ji20) : Int) := od
              have q477 : (ji20) < (l0.length : Int) := od
              obtain ⟨ad477, e477, hx477_0, hx477_1, hx477_2, hx477_3, hx477_4, hx477_5, hx477_6, hx477_7⟩ := at_T38 HR0.out (ji20) p477 q477
              have hw477_7 := hx477_7
              have hw477_6 := hx477_6
              have hw477_5 := hx477_5
              have hw477_4 := hx477_4
              have hw477_3 := hx477_3
              have hw477_2 := hx477_2
              have hw477_1 := hx477_1
              have hw477_0 := hx477_0
              cases e477
              replace hx477_0 := hc HB hx477_0
              replace hx477_1 := hc HB hx477_1
              replace hx477_2 := hc HB hx477_2
              replace hx477_3 := hc HB hx477_3
              replace hx477_4 := hc HB hx477_4
              replace hx477_5 := hc HB hx477_5
              replace hx477_6 := hc HB hx477_6
              replace hx477_7 := hc HB hx477_7
              replace p477 := eq_true p477
              replace q477 := eq_true q477
              have p478 : 0 ≤ (x37_3 : Int) := od
              have q478 : x37_3 < (l0.length : Int) := od
              obtain ⟨ad478, e478, hx478_0, hx478_1, hx478_2, hx478_3, hx478_4, hx478_5, hx478_6, hx478_7⟩ := at_T38 HR0.out x37_3 p478 q478
              have hw478_7 := hx478_7
              have hw478_6 := hx478_6
              have hw478_5 := hx478_5
              have hw478_4 := hx478_4
              have hw478_3 := hx478_3
              have hw478_2 := hx478_2
              have hw478_1 := hx478_1
              have hw478_0 := hx478_0
              obtain rfl : ad477 = ad478 := (by injection e478)
              replace hx478_0 := hc HB hx478_0
              replace hx478_1 := hc HB hx478_1
              replace hx478_2 := hc HB hx478_2
              replace hx478_3 := hc HB hx478_3
              replace hx478_4 := hc HB hx478_4
              replace hx478_5 := hc HB hx478_5
              replace hx478_6 := hc HB hx478_6
              replace hx478_7 := hc HB hx478_7
              replace p478 := eq_true p478
              replace q478 := eq_true q478
              refine start_ (n := 16) (S := fun w' => w'.cell? (ad477.add (((ji20)).toNat * 8)) = some (.int .i64 ((rd_T38 l0 (ji20)).f0)) ∧ w'.cell? ⟨(ad477.add (((ji20)).toNat * 8)).block, (ad477.add (((ji20)).toNat * 8)).off + 1, none⟩ = some (.bool ((rd_T38 l0 (ji20)).f1)) ∧ w'.cell? ⟨(ad477.add (((ji20)).toNat * 8)).block, (ad477.add (((ji20)).toNat * 8)).off + 2, none⟩ = some (.int .i64 ((rd_T38 l0 (ji20)).f2.f0)) ∧ w'.cell? ⟨(ad477.add (((ji20)).toNat * 8)).block, (ad477.add (((ji20)).toNat * 8)).off + 3, none⟩ = some (.int .i64 ((rd_T38 l0 (ji20)).f2.f1)) ∧ w'.cell? ⟨(ad477.add (((ji20)).toNat * 8)).block, (ad477.add (((ji20)).toNat * 8)).off + 4, none⟩ = some (.int .i64 ((rd_T38 l0 (ji20)).f3.f0)) ∧ w'.cell? ⟨(ad477.add (((ji20)).toNat * 8)).block, (ad477.add (((ji20)).toNat * 8)).off + 5, none⟩ = some (.int .i64 ((rd_T38 l0 (ji20)).f3.f1)) ∧ w'.cell? ⟨(ad477.add (((ji20)).toNat * 8)).block, (ad477.add (((ji20)).toNat * 8)).off + 6, none⟩ = some (.int .i64 ((rd_T38 l0 (ji20)).f4.f0)) ∧ w'.cell? ⟨(ad477.add (((ji20)).toNat * 8)).block, (ad477.add (((ji20)).toNat * 8)).off + 7, none⟩ = some (.int .i64 ((rd_T38 l0 (ji20)).f4.f1)) ∧ w'.cell? (ad477.add ((x37_3).toNat * 8)) = some (.int .i64 ((rd_T38 l0 x37_3).f0)) ∧ w'.cell? ⟨(ad477.add ((x37_3).toNat * 8)).block, (ad477.add ((x37_3).toNat * 8)).off + 1, none⟩ = some (.bool ((rd_T38 l0 x37_3).f1)) ∧ w'.cell? ⟨(ad477.add ((x37_3).toNat * 8)).block, (ad477.add ((x37_3).toNat * 8)).off + 2, none⟩ = some (.int .i64 ((rd_T38 l0 x37_3).f2.f0)) ∧ w'.cell? ⟨(ad477.add ((x37_3).toNat * 8)).block, (ad477.add ((x37_3).toNat * 8)).off + 3, none⟩ = some (.int .i64 ((rd_T38 l0 x37_3).f2.f1)) ∧ w'.cell? ⟨(ad477.add ((x37_3).toNat * 8)).block, (ad477.add ((x37_3).toNat * 8)).off + 4, none⟩ = some (.int .i64 ((rd_T38 l0 x37_3).f3.f0)) ∧ w'.cell? ⟨(ad477.add ((x37_3).toNat * 8)).block, (ad477.add ((x37_3).toNat * 8)).off + 5, none⟩ = some (.int .i64 ((rd_T38 l0 x37_3).f3.f1)) ∧ w'.cell? ⟨(ad477.add ((x37_3).toNat * 8)).block, (ad477.add ((x37_3).toNat * 8)).off + 6, none⟩ = some (.int .i64 ((rd_T38 l0 x37_3).f4.f0)) ∧ w'.cell? ⟨(ad477.add ((x37_3).toNat * 8)).block, (ad477.add ((x37_3).toNat * 8)).off + 7, none⟩ = some (.int .i64 ((rd_T38 l0 x37_3).f4.f1))) (ds := []) (ba 16 0) (by kernel_rfl) rfl rfl ⟨(hc HB hw477_0 :), (hc HB hw477_1 :), (hc HB hw477_2 :), (hc HB hw477_3 :), (hc HB hw477_4 :), (hc HB hw477_5 :), (hc HB hw477_6 :), (hc HB hw477_7 :), (hc HB hw478_0 :), (hc HB hw478_1 :), (hc HB hw478_2 :), (hc HB hw478_3 :), (hc HB hw478_4 :), (hc HB hw478_5 :), (hc HB hw478_6 :), (hc HB hw478_7 :)⟩ (fun hHeld => ?_); refine with_tabW pochoirlaw23_ColorApart.tab13 pochoirlaw23_ColorApart.bits13 (fun HT_ HW_ => ?_)
              generalize wr.drew = w26 at HO_3 HB hx477_0 hx477_1 hx477_2 hx477_3 hx477_4 hx477_5 hx477_6 hx477_7 hx478_0 hx478_1 hx478_2 hx478_3 hx478_4 hx478_5 hx478_6 hx478_7 hHeld ⊢
              refine pI 0 44 (ba 16 1) HT_.out ?_
              refine pI 1 45 (ba 16 3) HT_.out ?_
              refine pI 2 46 (ba 16 7) HT_.out ?_
              refine pI 3 47 (ba 16 15) HT_.out ?_
              refine pI 4 48 (ba 16 31) HT_.out ?_
              refine pI 5 49 (ba 16 63) HT_.out ?_
              refine pI 6 50 (ba 16 127) HT_.out ?_
              refine pI 7 51 (ba 16 255) HT_.out ?_
              refine pI 9 53 (ba 16 767) HT_.out ?_
              refine pI 10 54 (ba 16 1791) HT_.out ?_
              refine pI 11 55 (ba 16 3839) HT_.out ?_
              refine pI 12 56 (ba 16 7935) HT_.out ?_
              refine take_ (i := 8) (N := some 52) (v := ?_) (a' := ?_) (ba 16 8191) rfl rfl (take_ofW HT_.out HW_.out (by kernel_rfl)) (fun _ _ _ h => h) (Or.inl ⟨by rfl, ?_⟩) hHeld ?_ ?_
              rotate_left
              ·rintro w' ⟨s0, s1, s2, s3, s4, s5, s6, s7, s8, s9, s10, s11, s12, s13, s14, s15⟩
               go_simp
               with_reducible rfl
              rotate_left
              ·exact pa
              refine take_ (i := 13) (N := some 57) (v := ?_) (a' := ?_) (ba 16 16383) rfl rfl (take_ofW HT_.out HW_.out (by kernel_rfl)) (fun _ _ _ h => h) (Or.inl ⟨by rfl, ?_⟩) hHeld ?_ ?_
              rotate_left
              ·rintro w' ⟨s0, s1, s2, s3, s4, s5, s6, s7, s8, s9, s10, s11, s12, s13, s14, s15⟩
               go_simp
               with_reducible rfl
              rotate_left
              ·exact pa
              refine pI 14 58 (ba 16 32767) HT_.out ?_
              refine pI 15 59 (ba 16 65535) HT_.out ?_
              refine done_ (done_of HT_.out (by kernel_rfl)) ?_
              try go_wp2
              go_roundg k4
              case measure => have := HJ3.out; have := HJ10.out; have := HK3.out; have := HK4.out; omega
              case rel => exact ⟨(ji20), (by first | rfl | (simp; done) | (simp only [← hji20] <;> (first | rfl | simp)) | (simp [*]; done)), H', ⟨by have := HJ3.out; have := HJ10.out; have := HK3.out; have := HK4.out; omega⟩, ⟨kr HO_3.out⟩, ⟨bl0 HB.out⟩⟩
             rw [if_neg c25] at H
             have c25b0 : (((rd_T38 l0 (ji20)).f0) == ((rd_T38 l0 x37_3).f0)) = false := beq_eq_false_iff_ne.mpr c25
             have c25b1 : (((rd_T38 l0 (ji20)).f0) != ((rd_T38 l0 x37_3).f0)) = true := bne_iff_ne.mpr c25
             have H' := Aside0.mk H
             clear H
             try go_wp2
             replace HO_3 := Aside0.mk (Kd.R_drew HO_3.out)
             replace HB := Aside0.mk (below_drew1 HB.out)
             have p477 : 0 ≤ ((ji20) : Int) := od
             have q477 : (ji20) < (l0.length : Int) := od
             obtain ⟨ad477, e477, hx477_0, hx477_1, hx477_2, hx477_3, hx477_4, hx477_5, hx477_6, hx477_7⟩ := at_T38 HR0.out (ji20) p477 q477
             have hw477_7 := hx477_7
             have hw477_6 := hx477_6
             have hw477_5 := hx477_5
             have hw477_4 := hx477_4
             have hw477_3 := hx477_3
             have hw477_2 := hx477_2
             have hw477_1 := hx477_1
             have hw477_0 := hx477_0
             cases e477
             replace hx477_0 := hc HB hx477_0
             replace hx477_1 := hc HB hx477_1
             replace hx477_2 := hc HB hx477_2
             replace hx477_3 := hc HB hx477_3
             replace hx477_4 := hc HB hx477_4
             replace hx477_5 := hc HB hx477_5
             replace hx477_6 := hc HB hx477_6
             replace hx477_7 := hc HB hx477_7
             replace p477 := eq_true p477
             replace q477 := eq_true q477
             have p478 : 0 ≤ (x37_3 : Int) := od
             have q478 : x37_3 < (l0.length : Int) := od
             obtain ⟨ad478, e478, hx478_0, hx478_1, hx478_2, hx478_3, hx478_4, hx478_5, hx478_6, hx478_7⟩ := at_T38 HR0.out x37_3 p478 q478
             have hw478_7 := hx478_7
             have hw478_6 := hx478_6
             have hw478_5 := hx478_5
             have hw478_4 := hx478_4
             have hw478_3 := hx478_3
             have hw478_2 := hx478_2
             have hw478_1 := hx478_1
             have hw478_0 := hx478_0
             obtain rfl : ad477 = ad478 := (by injection e478)
             replace hx478_0 := hc HB hx478_0
             replace hx478_1 := hc HB hx478_1
             replace hx478_2 := hc HB hx478_2
             replace hx478_3 := hc HB hx478_3
             replace hx478_4 := hc HB hx478_4
             replace hx478_5 := hc HB hx478_5
             replace hx478_6 := hc HB hx478_6
             replace hx478_7 := hc HB hx478_7
             replace p478 := eq_true p478
             replace q478 := eq_true q478
             refine start_ (n := 16) (S := fun w' => w'.cell? (ad477.add (((ji20)).toNat * 8)) = some (.int .i64 ((rd_T38 l0 (ji20)).f0)) ∧ w'.cell? ⟨(ad477.add (((ji20)).toNat * 8)).block, (ad477.add (((ji20)).toNat * 8)).off + 1, none⟩ = some (.bool ((rd_T38 l0 (ji20)).f1)) ∧ w'.cell? ⟨(ad477.add (((ji20)).toNat * 8)).block, (ad477.add (((ji20)).toNat * 8)).off + 2, none⟩ = some (.int .i64 ((rd_T38 l0 (ji20)).f2.f0)) ∧ w'.cell? ⟨(ad477.add (((ji20)).toNat * 8)).block, (ad477.add (((ji20)).toNat * 8)).off + 3, none⟩ = some (.int .i64 ((rd_T38 l0 (ji20)).f2.f1)) ∧ w'.cell? ⟨(ad477.add (((ji20)).toNat * 8)).block, (ad477.add (((ji20)).toNat * 8)).off + 4, none⟩ = some (.int .i64 ((rd_T38 l0 (ji20)).f3.f0)) ∧ w'.cell? ⟨(ad477.add (((ji20)).toNat * 8)).block, (ad477.add (((ji20)).toNat * 8)).off + 5, none⟩ = some (.int .i64 ((rd_T38 l0 (ji20)).f3.f1)) ∧ w'.cell? ⟨(ad477.add (((ji20)).toNat * 8)).block, (ad477.add (((ji20)).toNat * 8)).off + 6, none⟩ = some (.int .i64 ((rd_T38 l0 (ji20)).f4.f0)) ∧ w'.cell? ⟨(ad477.add (((ji20)).toNat * 8)).block, (ad477.add (((ji20)).toNat * 8)).off + 7, none⟩ = some (.int .i64 ((rd_T38 l0 (ji20)).f4.f1)) ∧ w'.cell? (ad477.add ((x37_3).toNat * 8)) = some (.int .i64 ((rd_T38 l0 x37_3).f0)) ∧ w'.cell? ⟨(ad477.add ((x37_3).toNat * 8)).block, (ad477.add ((x37_3).toNat * 8)).off + 1, none⟩ = some (.bool ((rd_T38 l0 x37_3).f1)) ∧ w'.cell? ⟨(ad477.add ((x37_3).toNat * 8)).block, (ad477.add ((x37_3).toNat * 8)).off + 2, none⟩ = some (.int .i64 ((rd_T38 l0 x37_3).f2.f0)) ∧ w'.cell? ⟨(ad477.add ((x37_3).toNat * 8)).block, (ad477.add ((x37_3).toNat * 8)).off + 3, none⟩ = some (.int .i64 ((rd_T38 l0 x37_3).f2.f1)) ∧ w'.cell? ⟨(ad477.add ((x37_3).toNat * 8)).block, (ad477.add ((x37_3).toNat * 8)).off + 4, none⟩ = some (.int .i64 ((rd_T38 l0 x37_3).f3.f0)) ∧ w'.cell? ⟨(ad477.add ((x37_3).toNat * 8)).block, (ad477.add ((x37_3).toNat * 8)).off + 5, none⟩ = some (.int .i64 ((rd_T38 l0 x37_3).f3.f1)) ∧ w'.cell? ⟨(ad477.add ((x37_3).toNat * 8)).block, (ad477.add ((x37_3).toNat * 8)).off + 6, none⟩ = some (.int .i64 ((rd_T38 l0 x37_3).f4.f0)) ∧ w'.cell? ⟨(ad477.add ((x37_3).toNat * 8)).block, (ad477.add ((x37_3).toNat * 8)).off + 7, none⟩ = some (.int .i64 ((rd_T38 l0 x37_3).f4.f1))) (ds := []) (ba 16 0) (by kernel_rfl) rfl rfl ⟨(hc HB hw477_0 :), (hc HB hw477_1 :), (hc HB hw477_2 :), (hc HB hw477_3 :), (hc HB hw477_4 :), (hc HB hw477_5 :), (hc HB hw477_6 :), (hc HB hw477_7 :), (hc HB hw478_0 :), (hc HB hw478_1 :), (hc HB hw478_2 :), (hc HB hw478_3 :), (hc HB hw478_4 :), (hc HB hw478_5 :), (hc HB hw478_6 :), (hc HB hw478_7 :)⟩ (fun hHeld => ?_); refine with_tabW pochoirlaw23_ColorApart.tab13 pochoirlaw23_ColorApart.bits13 (fun HT_ HW_ => ?_)
             generalize wr.drew = w27 at HO_3 HB hx477_0 hx477_1 hx477_2 hx477_3 hx477_4 hx477_5 hx477_6 hx477_7 hx478_0 hx478_1 hx478_2 hx478_3 hx478_4 hx478_5 hx478_6 hx478_7 hHeld ⊢
             refine pI 0 44 (ba 16 1) HT_.out ?_
             refine pI 1 45 (ba 16 3) HT_.out ?_
             refine pI 2 46 (ba 16 7) HT_.out ?_
             refine pI 3 47 (ba 16 15) HT_.out ?_
             refine pI 4 48 (ba 16 31) HT_.out ?_
             refine pI 5 49 (ba 16 63) HT_.out ?_
             refine pI 6 50 (ba 16 127) HT_.out ?_
             refine pI 7 51 (ba 16 255) HT_.out ?_
             refine pI 9 53 (ba 16 767) HT_.out ?_
             refine pI 10 54 (ba 16 1791) HT_.out ?_
             refine pI 11 55 (ba 16 3839) HT_.out ?_
             refine pI 12 56 (ba 16 7935) HT_.out ?_
             refine take_ (i := 8) (N := some 52) (v := ?_) (a' := ?_) (ba 16 8191) rfl rfl (take_ofW HT_.out HW_.out (by kernel_rfl)) (fun _ _ _ h => h) (Or.inl ⟨by rfl, ?_⟩) hHeld ?_ ?_
             rotate_left
             ·rintro w' ⟨s0, s1, s2, s3, s4, s5, s6, s7, s8, s9, s10, s11, s12, s13, s14, s15⟩
              go_simp
              with_reducible rfl
             rotate_left
             ·exact pa
             refine take_ (i := 13) (N := some 57) (v := ?_) (a' := ?_) (ba 16 16383) rfl rfl (take_ofW HT_.out HW_.out (by kernel_rfl)) (fun _ _ _ h => h) (Or.inl ⟨by rfl, ?_⟩) hHeld ?_ ?_
             rotate_left
             ·rintro w' ⟨s0, s1, s2, s3, s4, s5, s6, s7, s8, s9, s10, s11, s12, s13, s14, s15⟩
              go_simp
              with_reducible rfl
             rotate_left
             ·exact pa
             refine pI 14 58 (ba 16 32767) HT_.out ?_
             refine pI 15 59 (ba 16 65535) HT_.out ?_
             refine done_ (done_of HT_.out (by kernel_rfl)) ?_
             try go_wp2
             go_meet
             case rel => exact ⟨_, (x7_4), fr, H', ⟨by have := HJ3.out; have := HJ10.out; have := HK3.out; have := HK4.out; first | omega | exact Nat.le_refl _⟩, ⟨kr HO_3.out⟩, ⟨bl0 HB.out⟩⟩
            rw [if_neg c19] at H
            have c19b0 : decide (0 < x7_4) = false := decide_eq_false c19
            clear c19
            (first | rw [c19b0] | (simp only [i64_w, i32_w]; rw [c19b0]) | skip)
            have H' := Aside0.mk H
            clear H
            try go_wp2
            replace HO_3 := Aside0.mk (Kd.R_drew HO_3.out)
            replace HB := Aside0.mk (below_drew1 HB.out)
            refine start_ (n := 16) (S := fun w' => True) (ds := []) (ba 16 0) (by kernel_rfl) rfl rfl trivial (fun hHeld => ?_); refine with_tabW pochoirlaw23_ColorApart.tab13 pochoirlaw23_ColorApart.bits13 (fun HT_ HW_ => ?_)
            generalize wr.drew = w28 at HO_3 HB hHeld ⊢
            refine pI 0 44 (ba 16 1) HT_.out ?_
            refine pI 1 45 (ba 16 3) HT_.out ?_
            refine pI 2 46 (ba 16 7) HT_.out ?_
            refine pO 3 47 (ba 16 15) HT_.out ?_
            refine pO 4 48 (ba 16 31) HT_.out ?_
            refine pO 5 49 (ba 16 63) HT_.out ?_
            refine pO 6 50 (ba 16 127) HT_.out ?_
            refine pO 7 51 (ba 16 255) HT_.out ?_
            refine pO 8 52 (ba 16 511) HT_.out ?_
            refine pO 9 53 (ba 16 1023) HT_.out ?_
            refine pO 10 54 (ba 16 2047) HT_.out ?_
            refine pO 11 55 (ba 16 4095) HT_.out ?_
            refine pO 12 56 (ba 16 8191) HT_.out ?_
            refine pO 13 57 (ba 16 16383) HT_.out ?_
            refine pO 14 58 (ba 16 32767) HT_.out ?_
            refine pI 15 59 (ba 16 65535) HT_.out ?_
            refine done_ (done_of HT_.out (by kernel_rfl)) ?_
            try go_wp2
            go_meet
            case rel => exact ⟨_, (x7_4), fr, H', ⟨by have := HJ3.out; have := HJ10.out; have := HK3.out; have := HK4.out; first | omega | exact Nat.le_refl _⟩, ⟨kr HO_3.out⟩, ⟨bl0 HB.out⟩⟩
         case rest =>
          clear HC18
          try clear c1
          try clear c2
          try clear p2
          try clear c3
          try clear c4
          try clear p4
          try clear q4
          try clear hx4
          try clear c5
          try clear c6b0
          try clear c6b1
          try clear p6
          try clear c9
          try clear c11
          try clear c13b0
          try clear c13b1
          try clear c15
          try clear c16b0
          try clear c19b0
          try clear c21b0
          try clear c22b0
          try clear c23b0
          try clear c24b0
          try clear c25b0
          try clear c25b1
          try clear hx477_0
          try clear hx477_1
          try clear hx477_2
          try clear hx477_3
          try clear hx477_4
          try clear hx477_5
          try clear hx477_6
          try clear hx477_7
          try clear hx478_0
          try clear hx478_1
          try clear hx478_2
          try clear hx478_3
          try clear hx478_4
          try clear hx478_5
          try clear hx478_6
          try clear hx478_7
          try clear p2
          try clear p477
          try clear p478
          try clear q477
          try clear q478
          obtain ⟨kq, x7_17, rfl, HA, HJ17, HO_3, HB⟩ := hcut
          cases kq with
          | zero => exact absurd HA.out (by simp [pochoirlaw23_ColorApart.j4])
          | succ kj17 =>
           have H := HA.out
           clear HA
           simp only [pochoirlaw23_ColorApart.j4] at H
           have H' := Aside0.mk H
           clear H
           go_wp2
           go_loopg [8, 9, 10] kj17 (fun kq v8 v9 v10 w' => ∃ (x8_5 : Int) (x9_5 : Int) (x10_5 : Int), v8 = .int .i64 x8_5 ∧ v9 = .int .i64 x9_5 ∧ v10 = .int .i64 x10_5 ∧ Aside0 (pochoirlaw23_ColorApart.l2 kq l0 t472 x37_3 t476 x8_5 x9_5 x10_5 (l0.length : Int) x37_3 = some r) ∧ Aside0 (kq ≤ kj17) ∧ Aside0 (Kd.R (Kd.int .i64) 3 w' w.heap.size (fun _ => True) v474 t472) ∧ Aside0 (Below w.heap.size w w'))
           case atStart => exact ⟨(0), (0), (x7_17), fr, fr, fr, H', ⟨Nat.le_refl _⟩, ⟨kr HO_3.out⟩, ⟨bl0 HB.out⟩⟩
           case round =>
            clear H'
            try clear c1
            try clear c2
            try clear p2
            try clear c3
            try clear c4
            try clear p4
            try clear q4
            try clear hx4
            try clear c5
            try clear c6b0
            try clear c6b1
            try clear p6
            try clear c9
            try clear c11
            try clear c13b0
            try clear c13b1
            try clear c15
            try clear c16b0
            try clear c19b0
            try clear c21b0
            try clear c22b0
            try clear c23b0
            try clear c24b0
            try clear c25b0
            try clear c25b1
            try clear hx477_0
            try clear hx477_1
            try clear hx477_2
            try clear hx477_3
            try clear hx477_4
            try clear hx477_5
            try clear hx477_6
            try clear hx477_7
            try clear hx478_0
            try clear hx478_1
            try clear hx478_2
            try clear hx478_3
            try clear hx478_4
            try clear hx478_5
            try clear hx478_6
            try clear hx478_7
            try clear p2
            try clear p4
            try clear p477
            try clear p478
            try clear p6
            try clear q4
            try clear q477
            try clear q478
            obtain ⟨x8_5, x9_5, x10_5, rfl, rfl, rfl, HA, HK5, HO_3, HB⟩ := hrel
            cases gk with
            | zero => exact absurd HA.out (by simp [pochoirlaw23_ColorApart.l2])
            | succ k5 =>
             have H := HA.out
             clear HA
             simp only [pochoirlaw23_ColorApart.l2] at H
             have HC29 := Aside0.mk H
             clear H
             go_upto_region 16 with (fail)
             go_cut [79] (fun v79 wc => ∃ (kq : Nat) (x79_28 : Bool), v79 = .bool x79_28 ∧ Aside0 (pochoirlaw23_ColorApart.j6 kq l0 t472 x37_3 t476 x8_5 x9_5 x10_5 (l0.length : Int) x37_3 x79_28 = some r) ∧ Aside0 (kq ≤ k5) ∧ Aside0 (Kd.R (Kd.int .i64) 3 wc w.heap.size (fun _ => True) v474 t472) ∧ Aside0 (Below w.heap.size w wc))
             case first =>
              have H := HC29.out
              clear HC29
              by_cases c30 : x10_5 < (l0.length : Int)
              ·rw [if_pos c30] at H
               have c30b0 := decide_eq_true c30
               clear c30
               (first | rw [c30b0] | (simp only [i64_w, i32_w]; rw [c30b0]) | skip)
               refine ifk H ?_; clear H; intro c31 H
               have c31b0 := decide_eq_true c31
               clear c31
               refine ifk H ?_; clear H; intro c32 H
               have c32b0 := decide_eq_true c32
               clear c32
               refine ifk H ?_; clear H; intro c33 H
               have c33b0 := decide_eq_true c33
               clear c33
               have H' := Aside0.mk H
               clear H
               try go_wp2
               replace HO_3 := Aside0.mk (Kd.R_drew HO_3.out)
               replace HB := Aside0.mk (below_drew1 HB.out)
               have p479 : 0 ≤ (x10_5 : Int) := od
               have q479 : x10_5 < (l0.length : Int) := od
               obtain ⟨ad479, e479, hx479_0, hx479_1, hx479_2, hx479_3, hx479_4, hx479_5, hx479_6, hx479_7⟩ := at_T38 HR0.out x10_5 p479 q479
               have hw479_7 := hx479_7
               have hw479_6 := hx479_6
               have hw479_5 := hx479_5
               have hw479_4 := hx479_4
               have hw479_3 := hx479_3
               have hw479_2 := hx479_2
               have hw479_1 := hx479_1
               have hw479_0 := hx479_0
               cases e479
               replace hx479_0 := hc HB hx479_0
               replace hx479_1 := hc HB hx479_1
               replace hx479_2 := hc HB hx479_2
               replace hx479_3 := hc HB hx479_3
               replace hx479_4 := hc HB hx479_4
               replace hx479_5 := hc HB hx479_5
               replace hx479_6 := hc HB hx479_6
               replace hx479_7 := hc HB hx479_7
               replace p479 := eq_true p479
               replace q479 := eq_true q479
               have p480 : 0 ≤ (x37_3 : Int) := od
               have q480 : x37_3 < (l0.length : Int) := od
               obtain ⟨ad480, e480, hx480_0, hx480_1, hx480_2, hx480_3, hx480_4, hx480_5, hx480_6, hx480_7⟩ := at_T38 HR0.out x37_3 p480 q480
               have hw480_7 := hx480_7
               have hw480_6 := hx480_6
               have hw480_5 := hx480_5
               have hw480_4 := hx480_4
               have hw480_3 := hx480_3
               have hw480_2 := hx480_2
               have hw480_1 := hx480_1
               have hw480_0 := hx480_0
               obtain rfl : ad479 = ad480 := (by injection e480)
               replace hx480_0 := hc HB hx480_0
               replace hx480_1 := hc HB hx480_1
               replace hx480_2 := hc HB hx480_2
               replace hx480_3 := hc HB hx480_3
               replace hx480_4 := hc HB hx480_4
               replace hx480_5 := hc HB hx480_5
               replace hx480_6 := hc HB hx480_6
               replace hx480_7 := hc HB hx480_7
               replace p480 := eq_true p480
               replace q480 := eq_true q480
               refine start_ (n := 17) (S := fun w' => w'.cell? (ad479.add ((x10_5).toNat * 8)) = some (.int .i64 ((rd_T38 l0 x10_5).f0)) ∧ w'.cell? ⟨(ad479.add ((x10_5).toNat * 8)).block, (ad479.add ((x10_5).toNat * 8)).off + 1, none⟩ = some (.bool ((rd_T38 l0 x10_5).f1)) ∧ w'.cell? ⟨(ad479.add ((x10_5).toNat * 8)).block, (ad479.add ((x10_5).toNat * 8)).off + 2, none⟩ = some (.int .i64 ((rd_T38 l0 x10_5).f2.f0)) ∧ w'.cell? ⟨(ad479.add ((x10_5).toNat * 8)).block, (ad479.add ((x10_5).toNat * 8)).off + 3, none⟩ = some (.int .i64 ((rd_T38 l0 x10_5).f2.f1)) ∧ w'.cell? ⟨(ad479.add ((x10_5).toNat * 8)).block, (ad479.add ((x10_5).toNat * 8)).off + 4, none⟩ = some (.int .i64 ((rd_T38 l0 x10_5).f3.f0)) ∧ w'.cell? ⟨(ad479.add ((x10_5).toNat * 8)).block, (ad479.add ((x10_5).toNat * 8)).off + 5, none⟩ = some (.int .i64 ((rd_T38 l0 x10_5).f3.f1)) ∧ w'.cell? ⟨(ad479.add ((x10_5).toNat * 8)).block, (ad479.add ((x10_5).toNat * 8)).off + 6, none⟩ = some (.int .i64 ((rd_T38 l0 x10_5).f4.f0)) ∧ w'.cell? ⟨(ad479.add ((x10_5).toNat * 8)).block, (ad479.add ((x10_5).toNat * 8)).off + 7, none⟩ = some (.int .i64 ((rd_T38 l0 x10_5).f4.f1)) ∧ w'.cell? (ad479.add ((x37_3).toNat * 8)) = some (.int .i64 ((rd_T38 l0 x37_3).f0)) ∧ w'.cell? ⟨(ad479.add ((x37_3).toNat * 8)).block, (ad479.add ((x37_3).toNat * 8)).off + 1, none⟩ = some (.bool ((rd_T38 l0 x37_3).f1)) ∧ w'.cell? ⟨(ad479.add ((x37_3).toNat * 8)).block, (ad479.add ((x37_3).toNat * 8)).off + 2, none⟩ = some (.int .i64 ((rd_T38 l0 x37_3).f2.f0)) ∧ w'.cell? ⟨(ad479.add ((x37_3).toNat * 8)).block, (ad479.add ((x37_3).toNat * 8)).off + 3, none⟩ = some (.int .i64 ((rd_T38 l0 x37_3).f2.f1)) ∧ w'.cell? ⟨(ad479.add ((x37_3).toNat * 8)).block, (ad479.add ((x37_3).toNat * 8)).off + 4, none⟩ = some (.int .i64 ((rd_T38 l0 x37_3).f3.f0)) ∧ w'.cell? ⟨(ad479.add ((x37_3).toNat * 8)).block, (ad479.add ((x37_3).toNat * 8)).off + 5, none⟩ = some (.int .i64 ((rd_T38 l0 x37_3).f3.f1)) ∧ w'.cell? ⟨(ad479.add ((x37_3).toNat * 8)).block, (ad479.add ((x37_3).toNat * 8)).off + 6, none⟩ = some (.int .i64 ((rd_T38 l0 x37_3).f4.f0)) ∧ w'.cell? ⟨(ad479.add ((x37_3).toNat * 8)).block, (ad479.add ((x37_3).toNat * 8)).off + 7, none⟩ = some (.int .i64 ((rd_T38 l0 x37_3).f4.f1))) (ds := []) (ba 17 0) (by kernel_rfl) rfl rfl ⟨(hc HB hw479_0 :), (hc HB hw479_1 :), (hc HB hw479_2 :), (hc HB hw479_3 :), (hc HB hw479_4 :), (hc HB hw479_5 :), (hc HB hw479_6 :), (hc HB hw479_7 :), (hc HB hw480_0 :), (hc HB hw480_1 :), (hc HB hw480_2 :), (hc HB hw480_3 :), (hc HB hw480_4 :), (hc HB hw480_5 :), (hc HB hw480_6 :), (hc HB hw480_7 :)⟩ (fun hHeld => ?_); refine with_tabW pochoirlaw23_ColorApart.tab16 pochoirlaw23_ColorApart.bits16 (fun HT_ HW_ => ?_)
               generalize wr.drew = w34 at HO_3 HB hx479_0 hx479_1 hx479_2 hx479_3 hx479_4 hx479_5 hx479_6 hx479_7 hx480_0 hx480_1 hx480_2 hx480_3 hx480_4 hx480_5 hx480_6 hx480_7 hHeld ⊢
               refine pI 0 63 (ba 17 1) HT_.out ?_
               refine pI 1 64 (ba 17 3) HT_.out ?_
               refine pI 2 65 (ba 17 7) HT_.out ?_
               refine pI 3 66 (ba 17 15) HT_.out ?_
               refine pI 4 67 (ba 17 31) HT_.out ?_
               refine pI 5 68 (ba 17 63) HT_.out ?_
               refine pI 6 69 (ba 17 127) HT_.out ?_
               refine pI 7 70 (ba 17 255) HT_.out ?_
               refine pI 8 71 (ba 17 511) HT_.out ?_
               refine pI 10 73 (ba 17 1535) HT_.out ?_
               refine pI 11 74 (ba 17 3583) HT_.out ?_
               refine pI 12 75 (ba 17 7679) HT_.out ?_
               refine pI 13 76 (ba 17 15871) HT_.out ?_
               refine take_ (i := 9) (N := some 72) (v := ?_) (a' := ?_) (ba 17 16383) rfl rfl (take_ofW HT_.out HW_.out (by kernel_rfl)) (fun _ _ _ h => h) (Or.inl ⟨by rfl, ?_⟩) hHeld ?_ ?_
               rotate_left
               ·rintro w' ⟨s0, s1, s2, s3, s4, s5, s6, s7, s8, s9, s10, s11, s12, s13, s14, s15⟩
                go_simp
                with_reducible rfl
               rotate_left
               ·exact pa
               refine take_ (i := 14) (N := some 77) (v := ?_) (a' := ?_) (ba 17 32767) rfl rfl (take_ofW HT_.out HW_.out (by kernel_rfl)) (fun _ _ _ h => h) (Or.inl ⟨by rfl, ?_⟩) hHeld ?_ ?_
               rotate_left
               ·rintro w' ⟨s0, s1, s2, s3, s4, s5, s6, s7, s8, s9, s10, s11, s12, s13, s14, s15⟩
                go_simp
                with_reducible rfl
               rotate_left
               ·exact pa
               refine pI 15 78 (ba 17 65535) HT_.out ?_
               refine pI 16 79 (ba 17 131071) HT_.out ?_
               refine done_ (done_of HT_.out (by kernel_rfl)) ?_
               try go_wp2
               go_meet
               case rel => exact ⟨_, ((((rd_T38 l0 x10_5).f0) == ((rd_T38 l0 x37_3).f0))), fr, H', ⟨by have := HJ3.out; have := HJ10.out; have := HK3.out; have := HJ17.out; have := HK5.out; first | omega | exact Nat.le_refl _⟩, ⟨kr HO_3.out⟩, ⟨bl0 HB.out⟩⟩
              rw [if_neg c30] at H
              have c30b0 := decide_eq_false c30
              clear c30
              (first | rw [c30b0] | (simp only [i64_w, i32_w]; rw [c30b0]) | skip)
              have H' := Aside0.mk H
              clear H
              try go_wp2
              replace HO_3 := Aside0.mk (Kd.R_drew HO_3.out)
              replace HB := Aside0.mk (below_drew1 HB.out)
              refine start_ (n := 17) (S := fun w' => True) (ds := []) (ba 17 0) (by kernel_rfl) rfl rfl trivial (fun hHeld => ?_); refine with_tabW pochoirlaw23_ColorApart.tab16 pochoirlaw23_ColorApart.bits16 (fun HT_ HW_ => ?_)
              generalize wr.drew = w35 at HO_3 HB hHeld ⊢
              refine pI 0 63 (ba 17 1) HT_.out ?_
              refine pI 1 64 (ba 17 3) HT_.out ?_
              refine pI 2 65 (ba 17 7) HT_.out ?_
              refine pI 3 66 (ba 17 15) HT_.out ?_
              refine pI 4 67 (ba 17 31) HT_.out ?_
              refine pO 5 68 (ba 17 63) HT_.out ?_
              refine pO 6 69 (ba 17 127) HT_.out ?_
              refine pO 7 70 (ba 17 255) HT_.out ?_
              refine pO 8 71 (ba 17 511) HT_.out ?_
              refine pO 9 72 (ba 17 1023) HT_.out ?_
              refine pO 10 73 (ba 17 2047) HT_.out ?_
              refine pO 11 74 (ba 17 4095) HT_.out ?_
              refine pO 12 75 (ba 17 8191) HT_.out ?_
              refine pO 13 76 (ba 17 16383) HT_.out ?_
              refine pO 14 77 (ba 17 32767) HT_.out ?_
              refine pO 15 78 (ba 17 65535) HT_.out ?_
              refine pI 16 79 (ba 17 131071) HT_.out ?_
              refine done_ (done_of HT_.out (by kernel_rfl)) ?_
              try go_wp2
              go_meet
              case rel => exact ⟨_, (false), fr, H', ⟨by have := HJ3.out; have := HJ10.out; have := HK3.out; have := HJ17.out; have := HK5.out; first | omega | exact Nat.le_refl _⟩, ⟨kr HO_3.out⟩, ⟨bl0 HB.out⟩⟩
             case rest =>
              clear HC29
              try clear c1
              try clear c2
              try clear p2
              try clear c3
              try clear c4
              try clear p4
              try clear q4
              try clear hx4
              try clear c5
              try clear c6b0
              try clear c6b1
              try clear p6
              try clear c9
              try clear c11
              try clear c13b0
              try clear c13b1
              try clear c15
              try clear c16b0
              try clear c19b0
              try clear c21b0
              try clear c22b0
              try clear c23b0
              try clear c24b0
              try clear c25b0
              try clear c25b1
              try clear c30b0
              try clear c31b0
              try clear c32b0
              try clear c33b0
              try clear hx477_0
              try clear hx477_1
              try clear hx477_2
              try clear hx477_3
              try clear hx477_4
              try clear hx477_5
              try clear hx477_6
              try clear hx477_7
              try clear hx478_0
              try clear hx478_1
              try clear hx478_2
              try clear hx478_3
              try clear hx478_4
              try clear hx478_5
              try clear hx478_6
              try clear hx478_7
              try clear hx479_0
              try clear hx479_1
              try clear hx479_2
              try clear hx479_3
              try clear hx479_4
              try clear hx479_5
              try clear hx479_6
              try clear hx479_7
              try clear hx480_0
              try clear hx480_1
              try clear hx480_2
              try clear hx480_3
              try clear hx480_4
              try clear hx480_5
              try clear hx480_6
              try clear hx480_7
              try clear p2
              try clear p4
              try clear p477
              try clear p478
              try clear p479
              try clear p480
              try clear p6
              try clear q4
              try clear q477
              try clear q478
              try clear q479
              try clear q480
              obtain ⟨kq, x79_28, rfl, HA, HJ28, HO_3, HB⟩ := hcut
              cases kq with
              | zero => exact absurd HA.out (by simp [pochoirlaw23_ColorApart.j6])
              | succ kj28 =>
               have H := HA.out
               clear HA
               simp only [pochoirlaw23_ColorApart.j6] at H
               by_cases c36 : x79_28 = true
               ·subst c36
                rw [if_pos rfl] at H
                refine ifk H ?_; clear H; intro c37 H
                have c37b0 := decide_eq_true c37
                clear c37
                refine ifk H ?_; clear H; intro c38 H
                have c38b0 := decide_eq_true c38
                clear c38
                replace H := Option.bind_eq_some_iff.mp H
                obtain ⟨t482, A390, H⟩ := H
                replace H : (if 0 ≤ t482 then (if t482 < (l0.length : Int) then (if x10_5 < (l0.length : Int) then ((pochoirref22_Is.f kj28 ((rd_T38 l0 t482).f0) ((rd_T38 l0 t482).f1) ((rd_T38 l0 t482).f2.f0) ((rd_T38 l0 t482).f2.f1) ((rd_T38 l0 t482).f3.f0) ((rd_T38 l0 t482).f3.f1) ((rd_T38 l0 t482).f4.f0) ((rd_T38 l0 t482).f4.f1) ((rd_T38 l0 x10_5).f0) ((rd_T38 l0 x10_5).f1) ((rd_T38 l0 x10_5).f2.f0) ((rd_T38 l0 x10_5).f2.f1) ((rd_T38 l0 x10_5).f3.f0) ((rd_T38 l0 x10_5).f3.f1) ((rd_T38 l0 x10_5).f4.f0) ((rd_T38 l0 x10_5).f4.f1)).bind fun t485 => (if t485 = true then (pochoirlaw23_ColorApart.l2 kj28 l0 t472 x37_3 t476 (wrap64 (x8_5 + 1)) (Go.bits .or .i64 x9_5 (rd t472 x10_5)) (wrap64 (x10_5 + 1)) (l0.length : Int) x37_3) else (pochoirlaw23_ColorApart.l2 kj28 l0 t472 x37_3 t476 x8_5 (Go.bits .or .i64 x9_5 (rd t472 x10_5)) (wrap64 (x10_5 + 1)) (l0.length : Int) x37_3))) else (none)) else (none)) else (none)) = some r := H
                have A39 := Aside0.mk A390
                clear A390
                refine ifk H ?_; clear H; intro c40 H
                have c40b0 := decide_eq_true c40
                clear c40
                refine ifk H ?_; clear H; intro c41 H
                have c41b0 := decide_eq_true c41
                clear c41
                refine ifk H ?_; clear H; intro c42 H
                have c42b0 := decide_eq_true c42
                clear c42
                replace H := Option.bind_eq_some_iff.mp H
                obtain ⟨t485, A430, H⟩ := H
                replace H : (if t485 = true then (pochoirlaw23_ColorApart.l2 kj28 l0 t472 x37_3 t476 (wrap64 (x8_5 + 1)) (Go.bits .or .i64 x9_5 (rd t472 x10_5)) (wrap64 (x10_5 + 1)) (l0.length : Int) x37_3) else (pochoirlaw23_ColorApart.l2 kj28 l0 t472 x37_3 t476 x8_5 (Go.bits .or .i64 x9_5 (rd t472 x10_5)) (wrap64 (x10_5 + 1)) (l0.length : Int) x37_3)) = some r := H
                have A43 := Aside0.mk A430
                clear A430
                by_cases c44 : t485 = true
                ·subst c44
                 rw [if_pos rfl] at H
                 have H' := Aside0.mk H
                 clear H
                 obtain ⟨Ao45, co45, eo45⟩ := Kd.R_slice HO_3.out
                 subst eo45
                 have p481 : 0 ≤ (x10_5 : Int) := od
                 have q481 : x10_5 < (t472.length : Int) := od
                 obtain ⟨ad481, e481, hx481_0⟩ := Kd.at_int (Kd.R_reads' HO_3.out).2.2 x10_5 p481 q481
                 cases e481
                 replace p481 := eq_true p481
                 replace q481 := eq_true q481
                 try go_wp2
                 replace HO_3 := Aside0.mk (Kd.R_drew HO_3.out)
                 replace HB := Aside0.mk (below_drew1 HB.out)
                 have p484 : 0 ≤ (x10_5 : Int) := od
                 have q484 : x10_5 < (l0.length : Int) := od
                 obtain ⟨ad484, e484, hx484_0, hx484_1, hx484_2, hx484_3, hx484_4, hx484_5, hx484_6, hx484_7⟩ := at_T38 HR0.out x10_5 p484 q484
                 have hw484_7 := hx484_7
                 have hw484_6 := hx484_6
                 have hw484_5 := hx484_5
                 have hw484_4 := hx484_4
                 have hw484_3 := hx484_3
                 have hw484_2 := hx484_2
                 have hw484_1 := hx484_1
                 have hw484_0 := hx484_0
                 cases e484
                 replace hx484_0 := hc HB hx484_0
                 replace hx484_1 := hc HB hx484_1
                 replace hx484_2 := hc HB hx484_2
                 replace hx484_3 := hc HB hx484_3
                 replace hx484_4 := hc HB hx484_4
                 replace hx484_5 := hc HB hx484_5
                 replace hx484_6 := hc HB hx484_6
                 replace hx484_7 := hc HB hx484_7
                 replace p484 := eq_true p484
                 replace q484 := eq_true q484
                 have p483 : 0 ≤ (t482 : Int) := od
                 have q483 : t482 < (l0.length : Int) := od
                 obtain ⟨ad483, e483, hx483_0, hx483_1, hx483_2, hx483_3, hx483_4, hx483_5, hx483_6, hx483_7⟩ := at_T38 HR0.out t482 p483 q483
                 have hw483_7 := hx483_7
                 have hw483_6 := hx483_6
                 have hw483_5 := hx483_5
                 have hw483_4 := hx483_4
                 have hw483_3 := hx483_3
                 have hw483_2 := hx483_2
                 have hw483_1 := hx483_1
                 have hw483_0 := hx483_0
                 obtain rfl : ad484 = ad483 := (by injection e483)
                 replace hx483_0 := hc HB hx483_0
                 replace hx483_1 := hc HB hx483_1
                 replace hx483_2 := hc HB hx483_2
                 replace hx483_3 := hc HB hx483_3
                 replace hx483_4 := hc HB hx483_4
                 replace hx483_5 := hc HB hx483_5
                 replace hx483_6 := hc HB hx483_6
                 replace hx483_7 := hc HB hx483_7
                 replace p483 := eq_true p483
                 replace q483 := eq_true q483
                 refine start_ (n := 11) (S := fun w' => w'.cell? (ad484.add ((x10_5).toNat * 8)) = some (.int .i64 ((rd_T38 l0 x10_5).f0)) ∧ w'.cell? ⟨(ad484.add ((x10_5).toNat * 8)).block, (ad484.add ((x10_5).toNat * 8)).off + 1, none⟩ = some (.bool ((rd_T38 l0 x10_5).f1)) ∧ w'.cell? ⟨(ad484.add ((x10_5).toNat * 8)).block, (ad484.add ((x10_5).toNat * 8)).off + 2, none⟩ = some (.int .i64 ((rd_T38 l0 x10_5).f2.f0)) ∧ w'.cell? ⟨(ad484.add ((x10_5).toNat * 8)).block, (ad484.add ((x10_5).toNat * 8)).off + 3, none⟩ = some (.int .i64 ((rd_T38 l0 x10_5).f2.f1)) ∧ w'.cell? ⟨(ad484.add ((x10_5).toNat * 8)).block, (ad484.add ((x10_5).toNat * 8)).off + 4, none⟩ = some (.int .i64 ((rd_T38 l0 x10_5).f3.f0)) ∧ w'.cell? ⟨(ad484.add ((x10_5).toNat * 8)).block, (ad484.add ((x10_5).toNat * 8)).off + 5, none⟩ = some (.int .i64 ((rd_T38 l0 x10_5).f3.f1)) ∧ w'.cell? ⟨(ad484.add ((x10_5).toNat * 8)).block, (ad484.add ((x10_5).toNat * 8)).off + 6, none⟩ = some (.int .i64 ((rd_T38 l0 x10_5).f4.f0)) ∧ w'.cell? ⟨(ad484.add ((x10_5).toNat * 8)).block, (ad484.add ((x10_5).toNat * 8)).off + 7, none⟩ = some (.int .i64 ((rd_T38 l0 x10_5).f4.f1)) ∧ w'.cell? (ad484.add ((t482).toNat * 8)) = some (.int .i64 ((rd_T38 l0 t482).f0)) ∧ w'.cell? ⟨(ad484.add ((t482).toNat * 8)).block, (ad484.add ((t482).toNat * 8)).off + 1, none⟩ = some (.bool ((rd_T38 l0 t482).f1)) ∧ w'.cell? ⟨(ad484.add ((t482).toNat * 8)).block, (ad484.add ((t482).toNat * 8)).off + 2, none⟩ = some (.int .i64 ((rd_T38 l0 t482).f2.f0)) ∧ w'.cell? ⟨(ad484.add ((t482).toNat * 8)).block, (ad484.add ((t482).toNat * 8)).off + 3, none⟩ = some (.int .i64 ((rd_T38 l0 t482).f2.f1)) ∧ w'.cell? ⟨(ad484.add ((t482).toNat * 8)).block, (ad484.add ((t482).toNat * 8)).off + 4, none⟩ = some (.int .i64 ((rd_T38 l0 t482).f3.f0)) ∧ w'.cell? ⟨(ad484.add ((t482).toNat * 8)).block, (ad484.add ((t482).toNat * 8)).off + 5, none⟩ = some (.int .i64 ((rd_T38 l0 t482).f3.f1)) ∧ w'.cell? ⟨(ad484.add ((t482).toNat * 8)).block, (ad484.add ((t482).toNat * 8)).off + 6, none⟩ = some (.int .i64 ((rd_T38 l0 t482).f4.f0)) ∧ w'.cell? ⟨(ad484.add ((t482).toNat * 8)).block, (ad484.add ((t482).toNat * 8)).off + 7, none⟩ = some (.int .i64 ((rd_T38 l0 t482).f4.f1))) (ds := []) (ba 11 0) (by kernel_rfl) rfl rfl ⟨(hc HB hw484_0 :), (hc HB hw484_1 :), (hc HB hw484_2 :), (hc HB hw484_3 :), (hc HB hw484_4 :), (hc HB hw484_5 :), (hc HB hw484_6 :), (hc HB hw484_7 :), (hc HB hw483_0 :), (hc HB hw483_1 :), (hc HB hw483_2 :), (hc HB hw483_3 :), (hc HB hw483_4 :), (hc HB hw483_5 :), (hc HB hw483_6 :), (hc HB hw483_7 :)⟩ (fun hHeld => ?_); refine with_tabW pochoirlaw23_ColorApart.tab19 pochoirlaw23_ColorApart.bits19 (fun HT_ HW_ => ?_)
                 generalize wc.drew = w46 at HO_3 HB hx483_0 hx483_1 hx483_2 hx483_3 hx483_4 hx483_5 hx483_6 hx483_7 hx484_0 hx484_1 hx484_2 hx484_3 hx484_4 hx484_5 hx484_6 hx484_7 hHeld ⊢
                 refine pI 0 88 (ba 11 1) HT_.out ?_
                 refine pI 1 89 (ba 11 3) HT_.out ?_
                 refine pI 2 90 (ba 11 7) HT_.out ?_
                 refine pI 6 94 (ba 11 71) HT_.out ?_
                 refine pI 7 95 (ba 11 199) HT_.out ?_
                 refine pI 8 96 (ba 11 455) HT_.out ?_
                 refine take_ (i := 9) (N := some 97) (v := ?_) (a' := ?_) (ba 11 967) rfl rfl (take_ofW HT_.out HW_.out (by kernel_rfl)) (fun _ _ _ h => h) (Or.inl ⟨by rfl, ?_⟩) hHeld ?_ ?_
                 rotate_left
                 ·rintro w' ⟨s0, s1, s2, s3, s4, s5, s6, s7, s8, s9, s10, s11, s12, s13, s14, s15⟩
                  go_simp
                  with_reducible rfl
                 rotate_left
                 ·exact pa
                 refine one_ (i := 3) (N := some 91) (ba 11 975) rfl rfl (one_of HT_.out (by kernel_rfl)) (by decide) (fun K hK => ?_)
                 refine goes_ Try.func51 (by kernel_rfl) rfl #[.slice (some ad484) l0.length c0, .int .i64 x10_5] (by rfl) rfl rfl am ?_
                 with_reducible refine (pochoirref22_Ahead.calls kj28 _ _ l0 x10_5 t482 _ ?side1 ?side2 A39.out).mono ?_
                 (case side1 => exact kc (Kd.C_below HR0.out HB.out))
                 (case side2 => exact HC0.out)
                 rintro e w' ⟨rfl, ⟨nd, rfl⟩⟩
                 refine ⟨_, rfl, ?_⟩
                 refine hK.out _ _ ⟨(hc HB hw484_0 :), (hc HB hw484_1 :), (hc HB hw484_2 :), (hc HB hw484_3 :), (hc HB hw484_4 :), (hc HB hw484_5 :), (hc HB hw484_6 :), (hc HB hw484_7 :), (hc HB hw483_0 :), (hc HB hw483_1 :), (hc HB hw483_2 :), (hc HB hw483_3 :), (hc HB hw483_4 :), (hc HB hw483_5 :), (hc HB hw483_6 :), (hc HB hw483_7 :)⟩ (fun hHeld => ?_)
                 clear hK K
                 refine np 91 ?_
                 refine pI 4 92 (ba 11 991) HT_.out ?_
                 refine take_ (i := 5) (N := some 93) (v := ?_) (a' := ?_) (ba 11 1023) rfl rfl (take_ofW HT_.out HW_.out (by kernel_rfl)) (fun _ _ _ h => h) (Or.inl ⟨by rfl, ?_⟩) hHeld ?_ ?_
                 rotate_left
                 ·rintro w' ⟨s0, s1, s2, s3, s4, s5, s6, s7, s8, s9, s10, s11, s12, s13, s14, s15⟩
                  go_simp
                  with_reducible rfl
                 rotate_left
                 ·exact pa
                 refine one_ (i := 10) (N := some 98) (ba 11 2047) rfl rfl (one_of HT_.out (by kernel_rfl)) (by decide) (fun K hK => ?_)
                 refine goes_ Try.func30 (by kernel_rfl) rfl #[.agg #[.int .i64 ((rd_T38 l0 t482).f0), .bool ((rd_T38 l0 t482).f1), .int .i64 ((rd_T38 l0 t482).f2.f0), .int .i64 ((rd_T38 l0 t482).f2.f1), .int .i64 ((rd_T38 l0 t482).f3.f0), .int .i64 ((rd_T38 l0 t482).f3.f1), .int .i64 ((rd_T38 l0 t482).f4.f0), .int .i64 ((rd_T38 l0 t482).f4.f1)], .agg #[.int .i64 ((rd_T38 l0 x10_5).f0), .bool ((rd_T38 l0 x10_5).f1), .int .i64 ((rd_T38 l0 x10_5).f2.f0), .int .i64 ((rd_T38 l0 x10_5).f2.f1), .int .i64 ((rd_T38 l0 x10_5).f3.f0), .int .i64 ((rd_T38 l0 x10_5).f3.f1), .int .i64 ((rd_T38 l0 x10_5).f4.f0), .int .i64 ((rd_T38 l0 x10_5).f4.f1)]] (by rfl) rfl rfl am ?_
                 with_reducible refine (pochoirref22_Is.calls kj28 ((rd_T38 l0 t482).f0) ((rd_T38 l0 t482).f1) ((rd_T38 l0 t482).f2.f0) ((rd_T38 l0 t482).f2.f1) ((rd_T38 l0 t482).f3.f0) ((rd_T38 l0 t482).f3.f1) ((rd_T38 l0 t482).f4.f0) ((rd_T38 l0 t482).f4.f1) ((rd_T38 l0 x10_5).f0) ((rd_T38 l0 x10_5).f1) ((rd_T38 l0 x10_5).f2.f0) ((rd_T38 l0 x10_5).f2.f1) ((rd_T38 l0 x10_5).f3.f0) ((rd_T38 l0 x10_5).f3.f1) ((rd_T38 l0 x10_5).f4.f0) ((rd_T38 l0 x10_5).f4.f1) true _ A43.out).mono ?_
                 rintro e w47 ⟨rfl, hb⟩
                 refine ⟨_, rfl, ?_⟩
                 replace HO_3 := Aside0.mk (Kd.R_below (kr HO_3.out) hb)
                 replace HB := Aside0.mk (below_step (bl0 HB.out) hb)
                 (try clear hb)
                 (try clear hb2)
                 (try clear hk)
                 (try clear hi)
                 refine hK.out _ _ ⟨(hc HB hw484_0 :), (hc HB hw484_1 :), (hc HB hw484_2 :), (hc HB hw484_3 :), (hc HB hw484_4 :), (hc HB hw484_5 :), (hc HB hw484_6 :), (hc HB hw484_7 :), (hc HB hw483_0 :), (hc HB hw483_1 :), (hc HB hw483_2 :), (hc HB hw483_3 :), (hc HB hw483_4 :), (hc HB hw483_5 :), (hc HB hw483_6 :), (hc HB hw483_7 :)⟩ (fun hHeld => ?_)
                 clear hK K
                 refine np 98 ?_
                 refine done_ (done_of HT_.out (by kernel_rfl)) ?_
                 try go_wp2
                 go_roundg kj28
                 case measure => have := HJ3.out; have := HJ10.out; have := HK3.out; have := HJ17.out; have := HK5.out; have := HJ28.out; omega
                 case rel => exact ⟨(wrap64 (x8_5 + 1)), (Go.bits .or .i64 x9_5 (rd t472 x10_5)), (wrap64 (x10_5 + 1)), fr, fr, fr, H', ⟨by have := HJ3.out; have := HJ10.out; have := HK3.out; have := HJ17.out; have := HK5.out; have := HJ28.out; omega⟩, ⟨kr HO_3.out⟩, ⟨bl0 HB.out⟩⟩
                replace c44 := Bool.eq_false_iff.mpr c44
                subst c44
                rw [if_neg (show ¬ (false = true) by decide)] at H
                have H' := Aside0.mk H
                clear H
                obtain ⟨Ao48, co48, eo48⟩ := Kd.R_slice HO_3.out
                subst eo48
                have p481 : 0 ≤ (x10_5 : Int) := od
                have q481 : x10_5 < (t472.length : Int) := od
                obtain ⟨ad481, e481, hx481_0⟩ := Kd.at_int (Kd.R_reads' HO_3.out).2.2 x10_5 p481 q481
                cases e481
                replace p481 := eq_true p481
                replace q481 := eq_true q481
                try go_wp2
                replace HO_3 := Aside0.mk (Kd.R_drew HO_3.out)
                replace HB := Aside0.mk (below_drew1 HB.out)
                have p484 : 0 ≤ (x10_5 : Int) := od
                have q484 : x10_5 < (l0.length : Int) := od
                obtain ⟨ad484, e484, hx484_0, hx484_1, hx484_2, hx484_3, hx484_4, hx484_5, hx484_6, hx484_7⟩ := at_T38 HR0.out x10_5 p484 q484
                have hw484_7 := hx484_7
                have hw484_6 := hx484_6
                have hw484_5 := hx484_5
                have hw484_4 := hx484_4
                have hw484_3 := hx484_3
                have hw484_2 := hx484_2
                have hw484_1 := hx484_1
                have hw484_0 := hx484_0
                cases e484
                replace hx484_0 := hc HB hx484_0
                replace hx484_1 := hc HB hx484_1
                replace hx484_2 := hc HB hx484_2
                replace hx484_3 := hc HB hx484_3
                replace hx484_4 := hc HB hx484_4
                replace hx484_5 := hc HB hx484_5
                replace hx484_6 := hc HB hx484_6
                replace hx484_7 := hc HB hx484_7
                replace p484 := eq_true p484
                replace q484 := eq_true q484
                have p483 : 0 ≤ (t482 : Int) := od
                have q483 : t482 < (l0.length : Int) := od
                obtain ⟨ad483, e483, hx483_0, hx483_1, hx483_2, hx483_3, hx483_4, hx483_5, hx483_6, hx483_7⟩ := at_T38 HR0.out t482 p483 q483
                have hw483_7 := hx483_7
                have hw483_6 := hx483_6
                have hw483_5 := hx483_5
                have hw483_4 := hx483_4
                have hw483_3 := hx483_3
                have hw483_2 := hx483_2
                have hw483_1 := hx483_1
                have hw483_0 := hx483_0
                obtain rfl : ad484 = ad483 := (by injection e483)
                replace hx483_0 := hc HB hx483_0
                replace hx483_1 := hc HB hx483_1
                replace hx483_2 := hc HB hx483_2
                replace hx483_3 := hc HB hx483_3
                replace hx483_4 := hc HB hx483_4
                replace hx483_5 := hc HB hx483_5
                replace hx483_6 := hc HB hx483_6
                replace hx483_7 := hc HB hx483_7
                replace p483 := eq_true p483
                replace q483 := eq_true q483
                refine start_ (n := 11) (S := fun w' => w'.cell? (ad484.add ((x10_5).toNat * 8)) = some (.int .i64 ((rd_T38 l0 x10_5).f0)) ∧ w'.cell? ⟨(ad484.add ((x10_5).toNat * 8)).block, (ad484.add ((x10_5).toNat * 8)).off + 1, none⟩ = some (.bool ((rd_T38 l0 x10_5).f1)) ∧ w'.cell? ⟨(ad484.add ((x10_5).toNat * 8)).block, (ad484.add ((x10_5).toNat * 8)).off + 2, none⟩ = some (.int .i64 ((rd_T38 l0 x10_5).f2.f0)) ∧ w'.cell? ⟨(ad484.add ((x10_5).toNat * 8)).block, (ad484.add ((x10_5).toNat * 8)).off + 3, none⟩ = some (.int .i64 ((rd_T38 l0 x10_5).f2.f1)) ∧ w'.cell? ⟨(ad484.add ((x10_5).toNat * 8)).block, (ad484.add ((x10_5).toNat * 8)).off + 4, none⟩ = some (.int .i64 ((rd_T38 l0 x10_5).f3.f0)) ∧ w'.cell? ⟨(ad484.add ((x10_5).toNat * 8)).block, (ad484.add ((x10_5).toNat * 8)).off + 5, none⟩ = some (.int .i64 ((rd_T38 l0 x10_5).f3.f1)) ∧ w'.cell? ⟨(ad484.add ((x10_5).toNat * 8)).block, (ad484.add ((x10_5).toNat * 8)).off + 6, none⟩ = some (.int .i64 ((rd_T38 l0 x10_5).f4.f0)) ∧ w'.cell? ⟨(ad484.add ((x10_5).toNat * 8)).block, (ad484.add ((x10_5).toNat * 8)).off + 7, none⟩ = some (.int .i64 ((rd_T38 l0 x10_5).f4.f1)) ∧ w'.cell? (ad484.add ((t482).toNat * 8)) = some (.int .i64 ((rd_T38 l0 t482).f0)) ∧ w'.cell? ⟨(ad484.add ((t482).toNat * 8)).block, (ad484.add ((t482).toNat * 8)).off + 1, none⟩ = some (.bool ((rd_T38 l0 t482).f1)) ∧ w'.cell? ⟨(ad484.add ((t482).toNat * 8)).block, (ad484.add ((t482).toNat * 8)).off + 2, none⟩ = some (.int .i64 ((rd_T38 l0 t482).f2.f0)) ∧ w'.cell? ⟨(ad484.add ((t482).toNat * 8)).block, (ad484.add ((t482).toNat * 8)).off + 3, none⟩ = some (.int .i64 ((rd_T38 l0 t482).f2.f1)) ∧ w'.cell? ⟨(ad484.add ((t482).toNat * 8)).block, (ad484.add ((t482).toNat * 8)).off + 4, none⟩ = some (.int .i64 ((rd_T38 l0 t482).f3.f0)) ∧ w'.cell? ⟨(ad484.add ((t482).toNat * 8)).block, (ad484.add ((t482).toNat * 8)).off + 5, none⟩ = some (.int .i64 ((rd_T38 l0 t482).f3.f1)) ∧ w'.cell? ⟨(ad484.add ((t482).toNat * 8)).block, (ad484.add ((t482).toNat * 8)).off + 6, none⟩ = some (.int .i64 ((rd_T38 l0 t482).f4.f0)) ∧ w'.cell? ⟨(ad484.add ((t482).toNat * 8)).block, (ad484.add ((t482).toNat * 8)).off + 7, none⟩ = some (.int .i64 ((rd_T38 l0 t482).f4.f1))) (ds := []) (ba 11 0) (by kernel_rfl) rfl rfl ⟨(hc HB hw484_0 :), (hc HB hw484_1 :), (hc HB hw484_2 :), (hc HB hw484_3 :), (hc HB hw484_4 :), (hc HB hw484_5 :), (hc HB hw484_6 :), (hc HB hw484_7 :), (hc HB hw483_0 :), (hc HB hw483_1 :), (hc HB hw483_2 :), (hc HB hw483_3 :), (hc HB hw483_4 :), (hc HB hw483_5 :), (hc HB hw483_6 :), (hc HB hw483_7 :)⟩ (fun hHeld => ?_); refine with_tabW pochoirlaw23_ColorApart.tab19 pochoirlaw23_ColorApart.bits19 (fun HT_ HW_ => ?_)
                generalize wc.drew = w49 at HO_3 HB hx483_0 hx483_1 hx483_2 hx483_3 hx483_4 hx483_5 hx483_6 hx483_7 hx484_0 hx484_1 hx484_2 hx484_3 hx484_4 hx484_5 hx484_6 hx484_7 hHeld ⊢
                refine pI 0 88 (ba 11 1) HT_.out ?_
                refine pI 1 89 (ba 11 3) HT_.out ?_
                refine pI 2 90 (ba 11 7) HT_.out ?_
                refine pI 6 94 (ba 11 71) HT_.out ?_
                refine pI 7 95 (ba 11 199) HT_.out ?_
                refine pI 8 96 (ba 11 455) HT_.out ?_
                refine take_ (i := 9) (N := some 97) (v := ?_) (a' := ?_) (ba 11 967) rfl rfl (take_ofW HT_.out HW_.out (by kernel_rfl)) (fun _ _ _ h => h) (Or.inl ⟨by rfl, ?_⟩) hHeld ?_ ?_
                rotate_left
                ·rintro w' ⟨s0, s1, s2, s3, s4, s5, s6, s7, s8, s9, s10, s11, s12, s13, s14, s15⟩
                 go_simp
                 with_reducible rfl
                rotate_left
                ·exact pa
                refine one_ (i := 3) (N := some 91) (ba 11 975) rfl rfl (one_of HT_.out (by kernel_rfl)) (by decide) (fun K hK => ?_)
                refine goes_ Try.func51 (by kernel_rfl) rfl #[.slice (some ad484) l0.length c0, .int .i64 x10_5] (by rfl) rfl rfl am ?_
                with_reducible refine (pochoirref22_Ahead.calls kj28 _ _ l0 x10_5 t482 _ ?side1 ?side2 A39.out).mono ?_
                (case side1 => exact kc (Kd.C_below HR0.out HB.out))
                (case side2 => exact HC0.out)
                rintro e w' ⟨rfl, ⟨nd, rfl⟩⟩
                refine ⟨_, rfl, ?_⟩
                refine hK.out _ _ ⟨(hc HB hw484_0 :), (hc HB hw484_1 :), (hc HB hw484_2 :), (hc HB hw484_3 :), (hc HB hw484_4 :), (hc HB hw484_5 :), (hc HB hw484_6 :), (hc HB hw484_7 :), (hc HB hw483_0 :), (hc HB hw483_1 :), (hc HB hw483_2 :), (hc HB hw483_3 :), (hc HB hw483_4 :), (hc HB hw483_5 :), (hc HB hw483_6 :), (hc HB hw483_7 :)⟩ (fun hHeld => ?_)
                clear hK K
                refine np 91 ?_
                refine pI 4 92 (ba 11 991) HT_.out ?_
                refine take_ (i := 5) (N := some 93) (v := ?_) (a' := ?_) (ba 11 1023) rfl rfl (take_ofW HT_.out HW_.out (by kernel_rfl)) (fun _ _ _ h => h) (Or.inl ⟨by rfl, ?_⟩) hHeld ?_ ?_
                rotate_left
                ·rintro w' ⟨s0, s1, s2, s3, s4, s5, s6, s7, s8, s9, s10, s11, s12, s13, s14, s15⟩
                 go_simp
                 with_reducible rfl
                rotate_left
                ·exact pa
                refine one_ (i := 10) (N := some 98) (ba 11 2047) rfl rfl (one_of HT_.out (by kernel_rfl)) (by decide) (fun K hK => ?_)
                refine goes_ Try.func30 (by kernel_rfl) rfl #[.agg #[.int .i64 ((rd_T38 l0 t482).f0), .bool ((rd_T38 l0 t482).f1), .int .i64 ((rd_T38 l0 t482).f2.f0), .int .i64 ((rd_T38 l0 t482).f2.f1), .int .i64 ((rd_T38 l0 t482).f3.f0), .int .i64 ((rd_T38 l0 t482).f3.f1), .int .i64 ((rd_T38 l0 t482).f4.f0), .int .i64 ((rd_T38 l0 t482).f4.f1)], .agg #[.int .i64 ((rd_T38 l0 x10_5).f0), .bool ((rd_T38 l0 x10_5).f1), .int .i64 ((rd_T38 l0 x10_5).f2.f0), .int .i64 ((rd_T38 l0 x10_5).f2.f1), .int .i64 ((rd_T38 l0 x10_5).f3.f0), .int .i64 ((rd_T38 l0 x10_5).f3.f1), .int .i64 ((rd_T38 l0 x10_5).f4.f0), .int .i64 ((rd_T38 l0 x10_5).f4.f1)]] (by rfl) rfl rfl am ?_
                with_reducible refine (pochoirref22_Is.calls kj28 ((rd_T38 l0 t482).f0) ((rd_T38 l0 t482).f1) ((rd_T38 l0 t482).f2.f0) ((rd_T38 l0 t482).f2.f1) ((rd_T38 l0 t482).f3.f0) ((rd_T38 l0 t482).f3.f1) ((rd_T38 l0 t482).f4.f0) ((rd_T38 l0 t482).f4.f1) ((rd_T38 l0 x10_5).f0) ((rd_T38 l0 x10_5).f1) ((rd_T38 l0 x10_5).f2.f0) ((rd_T38 l0 x10_5).f2.f1) ((rd_T38 l0 x10_5).f3.f0) ((rd_T38 l0 x10_5).f3.f1) ((rd_T38 l0 x10_5).f4.f0) ((rd_T38 l0 x10_5).f4.f1) false _ A43.out).mono ?_
                rintro e w50 ⟨rfl, hb⟩
                refine ⟨_, rfl, ?_⟩
                replace HO_3 := Aside0.mk (Kd.R_below (kr HO_3.out) hb)
                replace HB := Aside0.mk (below_step (bl0 HB.out) hb)
                (try clear hb)
                (try clear hb2)
                (try clear hk)
                (try clear hi)
                refine hK.out _ _ ⟨(hc HB hw484_0 :), (hc HB hw484_1 :), (hc HB hw484_2 :), (hc HB hw484_3 :), (hc HB hw484_4 :), (hc HB hw484_5 :), (hc HB hw484_6 :), (hc HB hw484_7 :), (hc HB hw483_0 :), (hc HB hw483_1 :), (hc HB hw483_2 :), (hc HB hw483_3 :), (hc HB hw483_4 :), (hc HB hw483_5 :), (hc HB hw483_6 :), (hc HB hw483_7 :)⟩ (fun hHeld => ?_)
                clear hK K
                refine np 98 ?_
                refine done_ (done_of HT_.out (by kernel_rfl)) ?_
                try go_wp2
                go_roundg kj28
                case measure => have := HJ3.out; have := HJ10.out; have := HK3.out; have := HJ17.out; have := HK5.out; have := HJ28.out; omega
                case rel => exact ⟨(x8_5), (Go.bits .or .i64 x9_5 (rd t472 x10_5)), (wrap64 (x10_5 + 1)), fr, fr, fr, H', ⟨by have := HJ3.out; have := HJ10.out; have := HK3.out; have := HJ17.out; have := HK5.out; have := HJ28.out; omega⟩, ⟨kr HO_3.out⟩, ⟨bl0 HB.out⟩⟩
               replace c36 := Bool.eq_false_iff.mpr c36
               subst c36
               rw [if_neg (show ¬ (false = true) by decide)] at H
               by_cases c51 : x9_5 = 7
               ·rw [if_pos c51] at H
                have c51b0 : (x9_5 == 7) = true := beq_iff_eq.mpr c51
                have c51b1 : (x9_5 != 7) = false := bne_eq_false_iff_eq.mpr c51
                clear c51
                by_cases c52 : x8_5 ≥ 2
                ·rw [if_pos c52] at H
                 have c52b0 : decide (2 ≤ x8_5) = true := decide_eq_true c52
                 clear c52
                 refine ifk H ?_; clear H; intro c53 H
                 have c53b0 := decide_eq_true c53
                 clear c53
                 refine ifk H ?_; clear H; intro c54 H
                 have c54b0 := decide_eq_true c54
                 clear c54
                 by_cases c55 : (rd t472 x37_3) = 3
                 ·rw [if_pos c55] at H
                  have c55b0 : ((rd t472 x37_3) == 3) = true := beq_iff_eq.mpr c55
                  have c55b1 : ((rd t472 x37_3) != 3) = false := bne_eq_false_iff_eq.mpr c55
                  clear c55
                  refine ifk H ?_; clear H; intro c56 H
                  have c56b0 := decide_eq_true c56
                  clear c56
                  refine ifk H ?_; clear H; intro c57 H
                  have c57b0 := decide_eq_true c57
                  clear c57
                  refine ifk H ?_; clear H; intro c58 H
                  have c58b0 := decide_eq_true c58
                  clear c58
                  refine ifk H ?_; clear H; intro c59 H
                  have c59b0 := decide_eq_true c59
                  clear c59
                  replace H := Option.bind_eq_some_iff.mp H
                  obtain ⟨t491, A600, H⟩ := H
                  replace H : (if (((rd t472 x37_3) != (rd t472 t476)) != t491) = true then (some false) else (pochoirlaw23_ColorApart.l0 kj28 l0 t472 (l0.length : Int) (wrap64 (x37_3 + 1)))) = some r := H
                  have A60 := Aside0.mk A600
                  clear A600
                  by_cases c61 : (((rd t472 x37_3) != (rd t472 t476)) != t491) = true
                  ·rw [if_pos c61] at H
                   have c61b0 : (((rd t472 x37_3) != (rd t472 t476)) != t491) = true := c61
                   (try (have c61b1 : decide (((rd t472 x37_3) != (rd t472 t476)) = t491) = false := by simpa using c61))
                   (try (have c61b2 : (((rd t472 x37_3) != (rd t472 t476)) == t491) = false := by simpa using c61))
                   (try (have c61b3 : ¬ (((rd t472 x37_3) != (rd t472 t476)) = t491) := by simpa using c61))
                   clear c61
                   exact absurd (HQ.out ▸ H) (by simp)
                  rw [if_neg c61] at H
                  have c61b0 : (((rd t472 x37_3) != (rd t472 t476)) != t491) = false := by simpa using c61
                  (try (have c61b1 : decide (((rd t472 x37_3) != (rd t472 t476)) = t491) = true := by simpa using c61))
                  (try (have c61b2 : (((rd t472 x37_3) != (rd t472 t476)) == t491) = true := by simpa using c61))
                  clear c61
                  have H' := Aside0.mk H
                  clear H
                  try go_wp2
                  replace HO_3 := Aside0.mk (Kd.R_drew HO_3.out)
                  replace HB := Aside0.mk (below_drew1 HB.out)
                  obtain ⟨Ao63, co63, eo63⟩ := Kd.R_slice HO_3.out
                  (first | subst eo63 | (injection eo63 with f1_ f2_ f3_; have f4_ := f1_.symm; have f5_ := f3_.symm; clear f1_ f2_ f3_; subst f4_; subst f5_))
                  have p486 : 0 ≤ (x37_3 : Int) := od
                  have q486 : x37_3 < (t472.length : Int) := od
                  obtain ⟨ad486, e486, hx486_0⟩ := Kd.at_int (Kd.R_reads' HO_3.out).2.2 x37_3 p486 q486
                  cases e486
                  replace p486 := eq_true p486
                  replace q486 := eq_true q486
                  have p487 : 0 ≤ (x37_3 : Int) := od
                  have q487 : x37_3 < (t472.length : Int) := od
                  obtain ⟨ad487, e487, hx487_0⟩ := Kd.at_int (Kd.R_reads' HO_3.out).2.2 x37_3 p487 q487
                  obtain rfl : ad486 = ad487 := (by injection e487)
                  replace p487 := eq_true p487
                  replace q487 := eq_true q487
                  have p488 : 0 ≤ (t476 : Int) := od
                  have q488 : t476 < (t472.length : Int) := od
                  obtain ⟨ad488, e488, hx488_0⟩ := Kd.at_int (Kd.R_reads' HO_3.out).2.2 t476 p488 q488
                  obtain rfl : ad486 = ad488 := (by injection e488)
                  replace p488 := eq_true p488
                  replace q488 := eq_true q488
                  have p489 : 0 ≤ (t476 : Int) := od
                  have q489 : t476 < (l0.length : Int) := od
                  obtain ⟨ad489, e489, hx489_0, hx489_1, hx489_2, hx489_3, hx489_4, hx489_5, hx489_6, hx489_7⟩ := at_T38 HR0.out t476 p489 q489
                  have hw489_7 := hx489_7
                  have hw489_6 := hx489_6
                  have hw489_5 := hx489_5
                  have hw489_4 := hx489_4
                  have hw489_3 := hx489_3
                  have hw489_2 := hx489_2
                  have hw489_1 := hx489_1
                  have hw489_0 := hx489_0
                  cases e489
                  replace hx489_0 := hc HB hx489_0
                  replace hx489_1 := hc HB hx489_1
                  replace hx489_2 := hc HB hx489_2
                  replace hx489_3 := hc HB hx489_3
                  replace hx489_4 := hc HB hx489_4
                  replace hx489_5 := hc HB hx489_5
                  replace hx489_6 := hc HB hx489_6
                  replace hx489_7 := hc HB hx489_7
                  replace p489 := eq_true p489
                  replace q489 := eq_true q489
                  have p490 : 0 ≤ (x37_3 : Int) := od
                  have q490 : x37_3 < (l0.length : Int) := od
                  obtain ⟨ad490, e490, hx490_0, hx490_1, hx490_2, hx490_3, hx490_4, hx490_5, hx490_6, hx490_7⟩ := at_T38 HR0.out x37_3 p490 q490
                  have hw490_7 := hx490_7
                  have hw490_6 := hx490_6
                  have hw490_5 := hx490_5
                  have hw490_4 := hx490_4
                  have hw490_3 := hx490_3
                  have hw490_2 := hx490_2
                  have hw490_1 := hx490_1
                  have hw490_0 := hx490_0
                  obtain rfl : ad489 = ad490 := (by injection e490)
                  replace hx490_0 := hc HB hx490_0
                  replace hx490_1 := hc HB hx490_1
                  replace hx490_2 := hc HB hx490_2
                  replace hx490_3 := hc HB hx490_3
                  replace hx490_4 := hc HB hx490_4
                  replace hx490_5 := hc HB hx490_5
                  replace hx490_6 := hc HB hx490_6
                  replace hx490_7 := hc HB hx490_7
                  replace p490 := eq_true p490
                  replace q490 := eq_true q490
                  refine start_ (n := 44) (S := fun w' => w'.cell? (ad486.add (x37_3).toNat) = some (.int .i64 (rd t472 x37_3)) ∧ w'.cell? (ad486.add (x37_3).toNat) = some (.int .i64 (rd t472 x37_3)) ∧ w'.cell? (ad486.add (t476).toNat) = some (.int .i64 (rd t472 t476)) ∧ w'.cell? (ad489.add ((t476).toNat * 8)) = some (.int .i64 ((rd_T38 l0 t476).f0)) ∧ w'.cell? ⟨(ad489.add ((t476).toNat * 8)).block, (ad489.add ((t476).toNat * 8)).off + 1, none⟩ = some (.bool ((rd_T38 l0 t476).f1)) ∧ w'.cell? ⟨(ad489.add ((t476).toNat * 8)).block, (ad489.add ((t476).toNat * 8)).off + 2, none⟩ = some (.int .i64 ((rd_T38 l0 t476).f2.f0)) ∧ w'.cell? ⟨(ad489.add ((t476).toNat * 8)).block, (ad489.add ((t476).toNat * 8)).off + 3, none⟩ = some (.int .i64 ((rd_T38 l0 t476).f2.f1)) ∧ w'.cell? ⟨(ad489.add ((t476).toNat * 8)).block, (ad489.add ((t476).toNat * 8)).off + 4, none⟩ = some (.int .i64 ((rd_T38 l0 t476).f3.f0)) ∧ w'.cell? ⟨(ad489.add ((t476).toNat * 8)).block, (ad489.add ((t476).toNat * 8)).off + 5, none⟩ = some (.int .i64 ((rd_T38 l0 t476).f3.f1)) ∧ w'.cell? ⟨(ad489.add ((t476).toNat * 8)).block, (ad489.add ((t476).toNat * 8)).off + 6, none⟩ = some (.int .i64 ((rd_T38 l0 t476).f4.f0)) ∧ w'.cell? ⟨(ad489.add ((t476).toNat * 8)).block, (ad489.add ((t476).toNat * 8)).off + 7, none⟩ = some (.int .i64 ((rd_T38 l0 t476).f4.f1)) ∧ w'.cell? (ad489.add ((x37_3).toNat * 8)) = some (.int .i64 ((rd_T38 l0 x37_3).f0)) ∧ w'.cell? ⟨(ad489.add ((x37_3).toNat * 8)).block, (ad489.add ((x37_3).toNat * 8)).off + 1, none⟩ = some (.bool ((rd_T38 l0 x37_3).f1)) ∧ w'.cell? ⟨(ad489.add ((x37_3).toNat * 8)).block, (ad489.add ((x37_3).toNat * 8)).off + 2, none⟩ = some (.int .i64 ((rd_T38 l0 x37_3).f2.f0)) ∧ w'.cell? ⟨(ad489.add ((x37_3).toNat * 8)).block, (ad489.add ((x37_3).toNat * 8)).off + 3, none⟩ = some (.int .i64 ((rd_T38 l0 x37_3).f2.f1)) ∧ w'.cell? ⟨(ad489.add ((x37_3).toNat * 8)).block, (ad489.add ((x37_3).toNat * 8)).off + 4, none⟩ = some (.int .i64 ((rd_T38 l0 x37_3).f3.f0)) ∧ w'.cell? ⟨(ad489.add ((x37_3).toNat * 8)).block, (ad489.add ((x37_3).toNat * 8)).off + 5, none⟩ = some (.int .i64 ((rd_T38 l0 x37_3).f3.f1)) ∧ w'.cell? ⟨(ad489.add ((x37_3).toNat * 8)).block, (ad489.add ((x37_3).toNat * 8)).off + 6, none⟩ = some (.int .i64 ((rd_T38 l0 x37_3).f4.f0)) ∧ w'.cell? ⟨(ad489.add ((x37_3).toNat * 8)).block, (ad489.add ((x37_3).toNat * 8)).off + 7, none⟩ = some (.int .i64 ((rd_T38 l0 x37_3).f4.f1))) (ds := []) (ba 44 0) (by kernel_rfl) rfl rfl ⟨hx486_0, hx487_0, hx488_0, (hc HB hw489_0 :), (hc HB hw489_1 :), (hc HB hw489_2 :), (hc HB hw489_3 :), (hc HB hw489_4 :), (hc HB hw489_5 :), (hc HB hw489_6 :), (hc HB hw489_7 :), (hc HB hw490_0 :), (hc HB hw490_1 :), (hc HB hw490_2 :), (hc HB hw490_3 :), (hc HB hw490_4 :), (hc HB hw490_5 :), (hc HB hw490_6 :), (hc HB hw490_7 :)⟩ (fun hHeld => ?_); refine with_tabW pochoirlaw23_ColorApart.tab23 pochoirlaw23_ColorApart.bits23 (fun HT_ HW_ => ?_)
                  generalize wc.drew = w62 at HO_3 HB hx486_0 hx487_0 hx488_0 hx489_0 hx489_1 hx489_2 hx489_3 hx489_4 hx489_5 hx489_6 hx489_7 hx490_0 hx490_1 hx490_2 hx490_3 hx490_4 hx490_5 hx490_6 hx490_7 hHeld ⊢
                  refine pI 0 103 (ba 44 1) HT_.out ?_
                  refine pI 1 104 (ba 44 3) HT_.out ?_
                  refine pI 2 105 (ba 44 7) HT_.out ?_
                  refine pI 3 106 (ba 44 15) HT_.out ?_
                  refine pI 4 107 (ba 44 31) HT_.out ?_
                  refine pI 5 108 (ba 44 63) HT_.out ?_
                  refine take_ (i := 6) (N := some 109) (v := ?_) (a' := ?_) (ba 44 127) rfl rfl (take_ofW HT_.out HW_.out (by kernel_rfl)) (fun _ _ _ h => h) (Or.inl ⟨by rfl, ?_⟩) hHeld ?_ ?_
                  rotate_left
                  ·rintro w' ⟨s0, s1, s2, s3, s4, s5, s6, s7, s8, s9, s10, s11, s12, s13, s14, s15, s16, s17, s18⟩
                   go_simp
                   with_reducible rfl
                  rotate_left
                  ·exact pa
                  refine pI 7 110 (ba 44 255) HT_.out ?_
                  refine pI 8 111 (ba 44 511) HT_.out ?_
                  refine pO 9 112 (ba 44 1023) HT_.out ?_
                  refine pO 10 113 (ba 44 2047) HT_.out ?_
                  refine pO 11 114 (ba 44 4095) HT_.out ?_
                  refine pO 12 115 (ba 44 8191) HT_.out ?_
                  refine pO 13 116 (ba 44 16383) HT_.out ?_
                  refine pI 14 117 (ba 44 32767) HT_.out ?_
                  refine pI 15 118 (ba 44 65535) HT_.out ?_
                  refine pO 16 119 (ba 44 131071) HT_.out ?_
                  refine pO 17 120 (ba 44 262143) HT_.out ?_
                  refine pO 18 121 (ba 44 524287) HT_.out ?_
                  refine pO 19 122 (ba 44 1048575) HT_.out ?_
                  refine pO 20 123 (ba 44 2097151) HT_.out ?_
                  refine pI 21 124 (ba 44 4194303) HT_.out ?_
                  refine pI 22 125 (ba 44 8388607) HT_.out ?_
                  refine pI 23 126 (ba 44 16777215) HT_.out ?_
                  refine pI 24 127 (ba 44 33554431) HT_.out ?_
                  refine pI 25 128 (ba 44 67108863) HT_.out ?_
                  refine pI 27 130 (ba 44 201326591) HT_.out ?_
                  refine pI 28 131 (ba 44 469762047) HT_.out ?_
                  refine pI 29 132 (ba 44 1006632959) HT_.out ?_
                  refine pI 32 135 (ba 44 5301600255) HT_.out ?_
                  refine pI 33 136 (ba 44 13891534847) HT_.out ?_
                  refine pI 34 137 (ba 44 31071404031) HT_.out ?_
                  refine pI 36 139 (ba 44 99790880767) HT_.out ?_
                  refine pI 37 140 (ba 44 237229834239) HT_.out ?_
                  refine pI 38 141 (ba 44 512107741183) HT_.out ?_
                  refine take_ (i := 26) (N := some 129) (v := ?_) (a' := ?_) (ba 44 512174850047) rfl rfl (take_ofW HT_.out HW_.out (by kernel_rfl)) (fun _ _ _ h => h) (Or.inl ⟨by rfl, ?_⟩) hHeld ?_ ?_
                  rotate_left
                  ·rintro w' ⟨s0, s1, s2, s3, s4, s5, s6, s7, s8, s9, s10, s11, s12, s13, s14, s15, s16, s17, s18⟩
                   go_simp
                   with_reducible rfl
                  rotate_left
                  ·exact pa
                  refine take_ (i := 30) (N := some 133) (v := ?_) (a' := ?_) (ba 44 513248591871) rfl rfl (take_ofW HT_.out HW_.out (by kernel_rfl)) (fun _ _ _ h => h) (Or.inl ⟨by rfl, ?_⟩) hHeld ?_ ?_
                  rotate_left
                  ·rintro w' ⟨s0, s1, s2, s3, s4, s5, s6, s7, s8, s9, s10, s11, s12, s13, s14, s15, s16, s17, s18⟩
                   go_simp
                   with_reducible rfl
                  rotate_left
                  ·exact pa
                  refine pI 31 134 (ba 44 515396075519) HT_.out ?_
                  refine take_ (i := 35) (N := some 138) (v := ?_) (a' := ?_) (ba 44 549755813887) rfl rfl (take_ofW HT_.out HW_.out (by kernel_rfl)) (fun _ _ _ h => h) (Or.inl ⟨by rfl, ?_⟩) hHeld ?_ ?_
                  rotate_left
                  ·rintro w' ⟨s0, s1, s2, s3, s4, s5, s6, s7, s8, s9, s10, s11, s12, s13, s14, s15, s16, s17, s18⟩
                   go_simp
                   with_reducible rfl
                  rotate_left
                  ·exact pa
                  refine take_ (i := 39) (N := some 142) (v := ?_) (a' := ?_) (ba 44 1099511627775) rfl rfl (take_ofW HT_.out HW_.out (by kernel_rfl)) (fun _ _ _ h => h) (Or.inl ⟨by rfl, ?_⟩) hHeld ?_ ?_
                  rotate_left
                  ·rintro w' ⟨s0, s1, s2, s3, s4, s5, s6, s7, s8, s9, s10, s11, s12, s13, s14, s15, s16, s17, s18⟩
                   go_simp
                   with_reducible rfl
                  rotate_left
                  ·exact pa
                  refine one_ (i := 40) (N := some 143) (ba 44 2199023255551) rfl rfl (one_of HT_.out (by kernel_rfl)) (by decide) (fun K hK => ?_)
                  refine goes_ Try.func30 (by kernel_rfl) rfl #[.agg #[.int .i64 ((rd_T38 l0 t476).f0), .bool ((rd_T38 l0 t476).f1), .int .i64 ((rd_T38 l0 t476).f2.f0), .int .i64 ((rd_T38 l0 t476).f2.f1), .int .i64 ((rd_T38 l0 t476).f3.f0), .int .i64 ((rd_T38 l0 t476).f3.f1), .int .i64 ((rd_T38 l0 t476).f4.f0), .int .i64 ((rd_T38 l0 t476).f4.f1)], .agg #[.int .i64 ((rd_T38 l0 x37_3).f0), .bool ((rd_T38 l0 x37_3).f1), .int .i64 ((rd_T38 l0 x37_3).f2.f0), .int .i64 ((rd_T38 l0 x37_3).f2.f1), .int .i64 ((rd_T38 l0 x37_3).f3.f0), .int .i64 ((rd_T38 l0 x37_3).f3.f1), .int .i64 ((rd_T38 l0 x37_3).f4.f0), .int .i64 ((rd_T38 l0 x37_3).f4.f1)]] (by rfl) rfl rfl am ?_
                  with_reducible refine (pochoirref22_Is.calls kj28 ((rd_T38 l0 t476).f0) ((rd_T38 l0 t476).f1) ((rd_T38 l0 t476).f2.f0) ((rd_T38 l0 t476).f2.f1) ((rd_T38 l0 t476).f3.f0) ((rd_T38 l0 t476).f3.f1) ((rd_T38 l0 t476).f4.f0) ((rd_T38 l0 t476).f4.f1) ((rd_T38 l0 x37_3).f0) ((rd_T38 l0 x37_3).f1) ((rd_T38 l0 x37_3).f2.f0) ((rd_T38 l0 x37_3).f2.f1) ((rd_T38 l0 x37_3).f3.f0) ((rd_T38 l0 x37_3).f3.f1) ((rd_T38 l0 x37_3).f4.f0) ((rd_T38 l0 x37_3).f4.f1) t491 _ A60.out).mono ?_
                  rintro e w64 ⟨rfl, hb⟩
                  have HS0_ := (hb.cell (World.block_lt_of_cell? _ _ (hHeld.1))).trans (hHeld.1)
                  have HS1_ := (hb.cell (World.block_lt_of_cell? _ _ (hHeld.2.1))).trans (hHeld.2.1)
                  have HS2_ := (hb.cell (World.block_lt_of_cell? _ _ (hHeld.2.2.1))).trans (hHeld.2.2.1)
                  refine ⟨_, rfl, ?_⟩
                  replace HO_3 := Aside0.mk (Kd.R_below (kr HO_3.out) hb)
                  replace HB := Aside0.mk (below_step (bl0 HB.out) hb)
                  (try clear hb)
                  (try clear hb2)
                  (try clear hk)
                  (try clear hi)
                  refine hK.out _ _ ⟨HS0_, HS1_, HS2_, (hc HB hw489_0 :), (hc HB hw489_1 :), (hc HB hw489_2 :), (hc HB hw489_3 :), (hc HB hw489_4 :), (hc HB hw489_5 :), (hc HB hw489_6 :), (hc HB hw489_7 :), (hc HB hw490_0 :), (hc HB hw490_1 :), (hc HB hw490_2 :), (hc HB hw490_3 :), (hc HB hw490_4 :), (hc HB hw490_5 :), (hc HB hw490_6 :), (hc HB hw490_7 :)⟩ (fun hHeld => ?_)
                  clear hK K
                  refine np 143 ?_
                  refine pI 41 144 (ba 44 4398046511103) HT_.out ?_
                  refine pI 42 145 (ba 44 8796093022207) HT_.out ?_
                  refine pI 43 146 (ba 44 17592186044415) HT_.out ?_
                  refine done_ (done_of HT_.out (by kernel_rfl)) ?_
                  try go_wp2
                  go_roundg kj28
                  case measure => have := HJ3.out; have := HJ10.out; have := HK3.out; have := HJ17.out; have := HK5.out; have := HJ28.out; omega
                  case rel => exact ⟨(wrap64 (x37_3 + 1)), fr, H', ⟨by have := HJ3.out; have := HJ10.out; have := HK3.out; have := HJ17.out; have := HK5.out; have := HJ28.out; omega⟩, ⟨kr HO_3.out⟩, ⟨bl0 HB.out⟩⟩
                 rw [if_neg c55] at H
                 have c55b0 : ((rd t472 x37_3) == 3) = false := beq_eq_false_iff_ne.mpr c55
                 have c55b1 : ((rd t472 x37_3) != 3) = true := bne_iff_ne.mpr c55
                 by_cases c65 : (rd t472 x37_3) = 5
                 ·rw [if_pos c65] at H
                  have c65b0 : ((rd t472 x37_3) == 5) = true := beq_iff_eq.mpr c65
                  have c65b1 : ((rd t472 x37_3) != 5) = false := bne_eq_false_iff_eq.mpr c65
                  clear c65
                  refine ifk H ?_; clear H; intro c66 H
                  have c66b0 := decide_eq_true c66
                  clear c66
                  refine ifk H ?_; clear H; intro c67 H
                  have c67b0 := decide_eq_true c67
                  clear c67
                  refine ifk H ?_; clear H; intro c68 H
                  have c68b0 := decide_eq_true c68
                  clear c68
                  refine ifk H ?_; clear H; intro c69 H
                  have c69b0 := decide_eq_true c69
                  clear c69
                  replace H := Option.bind_eq_some_iff.mp H
                  obtain ⟨t497, A700, H⟩ := H
                  replace H : (if (((rd t472 x37_3) != (rd t472 t476)) != t497) = true then (some false) else (pochoirlaw23_ColorApart.l0 kj28 l0 t472 (l0.length : Int) (wrap64 (x37_3 + 1)))) = some r := H
                  have A70 := Aside0.mk A700
                  clear A700
                  by_cases c71 : (((rd t472 x37_3) != (rd t472 t476)) != t497) = true
                  ·rw [if_pos c71] at H
                   have c71b0 : (((rd t472 x37_3) != (rd t472 t476)) != t497) = true := c71
                   (try (have c71b1 : decide (((rd t472 x37_3) != (rd t472 t476)) = t497) = false := by simpa using c71))
                   (try (have c71b2 : (((rd t472 x37_3) != (rd t472 t476)) == t497) = false := by simpa using c71))
                   (try (have c71b3 : ¬ (((rd t472 x37_3) != (rd t472 t476)) = t497) := by simpa using c71))
                   clear c71
                   exact absurd (HQ.out ▸ H) (by simp)
                  rw [if_neg c71] at H
                  have c71b0 : (((rd t472 x37_3) != (rd t472 t476)) != t497) = false := by simpa using c71
                  (try (have c71b1 : decide (((rd t472 x37_3) != (rd t472 t476)) = t497) = true := by simpa using c71))
                  (try (have c71b2 : (((rd t472 x37_3) != (rd t472 t476)) == t497) = true := by simpa using c71))
                  clear c71
                  have H' := Aside0.mk H
                  clear H
                  try go_wp2
                  replace HO_3 := Aside0.mk (Kd.R_drew HO_3.out)
                  replace HB := Aside0.mk (below_drew1 HB.out)
                  obtain ⟨Ao73, co73, eo73⟩ := Kd.R_slice HO_3.out
                  (first | subst eo73 | (injection eo73 with f1_ f2_ f3_; have f4_ := f1_.symm; have f5_ := f3_.symm; clear f1_ f2_ f3_; subst f4_; subst f5_))
                  have p486 : 0 ≤ (x37_3 : Int) := od
                  have q486 : x37_3 < (t472.length : Int) := od
                  obtain ⟨ad486, e486, hx486_0⟩ := Kd.at_int (Kd.R_reads' HO_3.out).2.2 x37_3 p486 q486
                  cases e486
                  replace p486 := eq_true p486
                  replace q486 := eq_true q486
                  have p492 : 0 ≤ (x37_3 : Int) := od
                  have q492 : x37_3 < (t472.length : Int) := od
                  obtain ⟨ad492, e492, hx492_0⟩ := Kd.at_int (Kd.R_reads' HO_3.out).2.2 x37_3 p492 q492
                  obtain rfl : ad486 = ad492 := (by injection e492)
                  replace p492 := eq_true p492
                  replace q492 := eq_true q492
                  have p493 : 0 ≤ (x37_3 : Int) := od
                  have q493 : x37_3 < (t472.length : Int) := od
                  obtain ⟨ad493, e493, hx493_0⟩ := Kd.at_int (Kd.R_reads' HO_3.out).2.2 x37_3 p493 q493
                  obtain rfl : ad486 = ad493 := (by injection e493)
                  replace p493 := eq_true p493
                  replace q493 := eq_true q493
                  have p494 : 0 ≤ (t476 : Int) := od
                  have q494 : t476 < (t472.length : Int) := od
                  obtain ⟨ad494, e494, hx494_0⟩ := Kd.at_int (Kd.R_reads' HO_3.out).2.2 t476 p494 q494
                  obtain rfl : ad486 = ad494 := (by injection e494)
                  replace p494 := eq_true p494
                  replace q494 := eq_true q494
                  have p495 : 0 ≤ (t476 : Int) := od
                  have q495 : t476 < (l0.length : Int) := od
                  obtain ⟨ad495, e495, hx495_0, hx495_1, hx495_2, hx495_3, hx495_4, hx495_5, hx495_6, hx495_7⟩ := at_T38 HR0.out t476 p495 q495
                  have hw495_7 := hx495_7
                  have hw495_6 := hx495_6
                  have hw495_5 := hx495_5
                  have hw495_4 := hx495_4
                  have hw495_3 := hx495_3
                  have hw495_2 := hx495_2
                  have hw495_1 := hx495_1
                  have hw495_0 := hx495_0
                  cases e495
                  replace hx495_0 := hc HB hx495_0
                  replace hx495_1 := hc HB hx495_1
                  replace hx495_2 := hc HB hx495_2
                  replace hx495_3 := hc HB hx495_3
                  replace hx495_4 := hc HB hx495_4
                  replace hx495_5 := hc HB hx495_5
                  replace hx495_6 := hc HB hx495_6
                  replace hx495_7 := hc HB hx495_7
                  replace p495 := eq_true p495
                  replace q495 := eq_true q495
                  have p496 : 0 ≤ (x37_3 : Int) := od
                  have q496 : x37_3 < (l0.length : Int) := od
                  obtain ⟨ad496, e496, hx496_0, hx496_1, hx496_2, hx496_3, hx496_4, hx496_5, hx496_6, hx496_7⟩ := at_T38 HR0.out x37_3 p496 q496
                  have hw496_7 := hx496_7
                  have hw496_6 := hx496_6
                  have hw496_5 := hx496_5
                  have hw496_4 := hx496_4
                  have hw496_3 := hx496_3
                  have hw496_2 := hx496_2
                  have hw496_1 := hx496_1
                  have hw496_0 := hx496_0
                  obtain rfl : ad495 = ad496 := (by injection e496)
                  replace hx496_0 := hc HB hx496_0
                  replace hx496_1 := hc HB hx496_1
                  replace hx496_2 := hc HB hx496_2
                  replace hx496_3 := hc HB hx496_3
                  replace hx496_4 := hc HB hx496_4
                  replace hx496_5 := hc HB hx496_5
                  replace hx496_6 := hc HB hx496_6
                  replace hx496_7 := hc HB hx496_7
                  replace p496 := eq_true p496
                  replace q496 := eq_true q496
                  refine start_ (n := 44) (S := fun w' => w'.cell? (ad486.add (x37_3).toNat) = some (.int .i64 (rd t472 x37_3)) ∧ w'.cell? (ad486.add (x37_3).toNat) = some (.int .i64 (rd t472 x37_3)) ∧ w'.cell? (ad486.add (x37_3).toNat) = some (.int .i64 (rd t472 x37_3)) ∧ w'.cell? (ad486.add (t476).toNat) = some (.int .i64 (rd t472 t476)) ∧ w'.cell? (ad495.add ((t476).toNat * 8)) = some (.int .i64 ((rd_T38 l0 t476).f0)) ∧ w'.cell? ⟨(ad495.add ((t476).toNat * 8)).block, (ad495.add ((t476).toNat * 8)).off + 1, none⟩ = some (.bool ((rd_T38 l0 t476).f1)) ∧ w'.cell? ⟨(ad495.add ((t476).toNat * 8)).block, (ad495.add ((t476).toNat * 8)).off + 2, none⟩ = some (.int .i64 ((rd_T38 l0 t476).f2.f0)) ∧ w'.cell? ⟨(ad495.add ((t476).toNat * 8)).block, (ad495.add ((t476).toNat * 8)).off + 3, none⟩ = some (.int .i64 ((rd_T38 l0 t476).f2.f1)) ∧ w'.cell? ⟨(ad495.add ((t476).toNat * 8)).block, (ad495.add ((t476).toNat * 8)).off + 4, none⟩ = some (.int .i64 ((rd_T38 l0 t476).f3.f0)) ∧ w'.cell? ⟨(ad495.add ((t476).toNat * 8)).block, (ad495.add ((t476).toNat * 8)).off + 5, none⟩ = some (.int .i64 ((rd_T38 l0 t476).f3.f1)) ∧ w'.cell? ⟨(ad495.add ((t476).toNat * 8)).block, (ad495.add ((t476).toNat * 8)).off + 6, none⟩ = some (.int .i64 ((rd_T38 l0 t476).f4.f0)) ∧ w'.cell? ⟨(ad495.add ((t476).toNat * 8)).block, (ad495.add ((t476).toNat * 8)).off + 7, none⟩ = some (.int .i64 ((rd_T38 l0 t476).f4.f1)) ∧ w'.cell? (ad495.add ((x37_3).toNat * 8)) = some (.int .i64 ((rd_T38 l0 x37_3).f0)) ∧ w'.cell? ⟨(ad495.add ((x37_3).toNat * 8)).block, (ad495.add ((x37_3).toNat * 8)).off + 1, none⟩ = some (.bool ((rd_T38 l0 x37_3).f1)) ∧ w'.cell? ⟨(ad495.add ((x37_3).toNat * 8)).block, (ad495.add ((x37_3).toNat * 8)).off + 2, none⟩ = some (.int .i64 ((rd_T38 l0 x37_3).f2.f0)) ∧ w'.cell? ⟨(ad495.add ((x37_3).toNat * 8)).block, (ad495.add ((x37_3).toNat * 8)).off + 3, none⟩ = some (.int .i64 ((rd_T38 l0 x37_3).f2.f1)) ∧ w'.cell? ⟨(ad495.add ((x37_3).toNat * 8)).block, (ad495.add ((x37_3).toNat * 8)).off + 4, none⟩ = some (.int .i64 ((rd_T38 l0 x37_3).f3.f0)) ∧ w'.cell? ⟨(ad495.add ((x37_3).toNat * 8)).block, (ad495.add ((x37_3).toNat * 8)).off + 5, none⟩ = some (.int .i64 ((rd_T38 l0 x37_3).f3.f1)) ∧ w'.cell? ⟨(ad495.add ((x37_3).toNat * 8)).block, (ad495.add ((x37_3).toNat * 8)).off + 6, none⟩ = some (.int .i64 ((rd_T38 l0 x37_3).f4.f0)) ∧ w'.cell? ⟨(ad495.add ((x37_3).toNat * 8)).block, (ad495.add ((x37_3).toNat * 8)).off + 7, none⟩ = some (.int .i64 ((rd_T38 l0 x37_3).f4.f1))) (ds := []) (ba 44 0) (by kernel_rfl) rfl rfl ⟨hx486_0, hx492_0, hx493_0, hx494_0, (hc HB hw495_0 :), (hc HB hw495_1 :), (hc HB hw495_2 :), (hc HB hw495_3 :), (hc HB hw495_4 :), (hc HB hw495_5 :), (hc HB hw495_6 :), (hc HB hw495_7 :), (hc HB hw496_0 :), (hc HB hw496_1 :), (hc HB hw496_2 :), (hc HB hw496_3 :), (hc HB hw496_4 :), (hc HB hw496_5 :), (hc HB hw496_6 :), (hc HB hw496_7 :)⟩ (fun hHeld => ?_); refine with_tabW pochoirlaw23_ColorApart.tab23 pochoirlaw23_ColorApart.bits23 (fun HT_ HW_ => ?_)
                  generalize wc.drew = w72 at HO_3 HB hx486_0 hx492_0 hx493_0 hx494_0 hx495_0 hx495_1 hx495_2 hx495_3 hx495_4 hx495_5 hx495_6 hx495_7 hx496_0 hx496_1 hx496_2 hx496_3 hx496_4 hx496_5 hx496_6 hx496_7 hHeld ⊢
                  refine pI 0 103 (ba 44 1) HT_.out ?_
                  refine pI 1 104 (ba 44 3) HT_.out ?_
                  refine pI 2 105 (ba 44 7) HT_.out ?_
                  refine pI 3 106 (ba 44 15) HT_.out ?_
                  refine pI 4 107 (ba 44 31) HT_.out ?_
                  refine pI 5 108 (ba 44 63) HT_.out ?_
                  refine take_ (i := 6) (N := some 109) (v := ?_) (a' := ?_) (ba 44 127) rfl rfl (take_ofW HT_.out HW_.out (by kernel_rfl)) (fun _ _ _ h => h) (Or.inl ⟨by rfl, ?_⟩) hHeld ?_ ?_
                  rotate_left
                  ·rintro w' ⟨s0, s1, s2, s3, s4, s5, s6, s7, s8, s9, s10, s11, s12, s13, s14, s15, s16, s17, s18, s19⟩
                   go_simp
                   with_reducible rfl
                  rotate_left
                  ·exact pa
                  refine pI 7 110 (ba 44 255) HT_.out ?_
                  refine pI 8 111 (ba 44 511) HT_.out ?_
                  refine pI 9 112 (ba 44 1023) HT_.out ?_
                  refine pI 10 113 (ba 44 2047) HT_.out ?_
                  refine pI 11 114 (ba 44 4095) HT_.out ?_
                  refine take_ (i := 12) (N := some 115) (v := ?_) (a' := ?_) (ba 44 8191) rfl rfl (take_ofW HT_.out HW_.out (by kernel_rfl)) (fun _ _ _ h => h) (Or.inl ⟨by rfl, ?_⟩) hHeld ?_ ?_
                  rotate_left
                  ·rintro w' ⟨s0, s1, s2, s3, s4, s5, s6, s7, s8, s9, s10, s11, s12, s13, s14, s15, s16, s17, s18, s19⟩
                   go_simp
                   with_reducible rfl
                  rotate_left
                  ·exact pa
                  refine pI 13 116 (ba 44 16383) HT_.out ?_
                  refine pI 14 117 (ba 44 32767) HT_.out ?_
                  refine pI 15 118 (ba 44 65535) HT_.out ?_
                  refine pO 16 119 (ba 44 131071) HT_.out ?_
                  refine pO 17 120 (ba 44 262143) HT_.out ?_
                  refine pO 18 121 (ba 44 524287) HT_.out ?_
                  refine pO 19 122 (ba 44 1048575) HT_.out ?_
                  refine pO 20 123 (ba 44 2097151) HT_.out ?_
                  refine pI 21 124 (ba 44 4194303) HT_.out ?_
                  refine pI 22 125 (ba 44 8388607) HT_.out ?_
                  refine pI 23 126 (ba 44 16777215) HT_.out ?_
                  refine pI 24 127 (ba 44 33554431) HT_.out ?_
                  refine pI 25 128 (ba 44 67108863) HT_.out ?_
                  refine pI 27 130 (ba 44 201326591) HT_.out ?_
                  refine pI 28 131 (ba 44 469762047) HT_.out ?_
                  refine pI 29 132 (ba 44 1006632959) HT_.out ?_
                  refine pI 32 135 (ba 44 5301600255) HT_.out ?_
                  refine pI 33 136 (ba 44 13891534847) HT_.out ?_
                  refine pI 34 137 (ba 44 31071404031) HT_.out ?_
                  refine pI 36 139 (ba 44 99790880767) HT_.out ?_
                  refine pI 37 140 (ba 44 237229834239) HT_.out ?_
                  refine pI 38 141 (ba 44 512107741183) HT_.out ?_
                  refine take_ (i := 26) (N := some 129) (v := ?_) (a' := ?_) (ba 44 512174850047) rfl rfl (take_ofW HT_.out HW_.out (by kernel_rfl)) (fun _ _ _ h => h) (Or.inl ⟨by rfl, ?_⟩) hHeld ?_ ?_
                  rotate_left
                  ·rintro w' ⟨s0, s1, s2, s3, s4, s5, s6, s7, s8, s9, s10, s11, s12, s13, s14, s15, s16, s17, s18, s19⟩
                   go_simp
                   with_reducible rfl
                  rotate_left
                  ·exact pa
                  refine take_ (i := 30) (N := some 133) (v := ?_) (a' := ?_) (ba 44 513248591871) rfl rfl (take_ofW HT_.out HW_.out (by kernel_rfl)) (fun _ _ _ h => h) (Or.inl ⟨by rfl, ?_⟩) hHeld ?_ ?_
                  rotate_left
                  ·rintro w' ⟨s0, s1, s2, s3, s4, s5, s6, s7, s8, s9, s10, s11, s12, s13, s14, s15, s16, s17, s18, s19⟩
                   go_simp
                   with_reducible rfl
                  rotate_left
                  ·exact pa
                  refine pI 31 134 (ba 44 515396075519) HT_.out ?_
                  refine take_ (i := 35) (N := some 138) (v := ?_) (a' := ?_) (ba 44 549755813887) rfl rfl (take_ofW HT_.out HW_.out (by kernel_rfl)) (fun _ _ _ h => h) (Or.inl ⟨by rfl, ?_⟩) hHeld ?_ ?_
                  rotate_left
                  ·rintro w' ⟨s0, s1, s2, s3, s4, s5, s6, s7, s8, s9, s10, s11, s12, s13, s14, s15, s16, s17, s18, s19⟩
                   go_simp
                   with_reducible rfl
                  rotate_left
                  ·exact pa
                  refine take_ (i := 39) (N := some 142) (v := ?_) (a' := ?_) (ba 44 1099511627775) rfl rfl (take_ofW HT_.out HW_.out (by kernel_rfl)) (fun _ _ _ h => h) (Or.inl ⟨by rfl, ?_⟩) hHeld ?_ ?_
                  rotate_left
                  ·rintro w' ⟨s0, s1, s2, s3, s4, s5, s6, s7, s8, s9, s10, s11, s12, s13, s14, s15, s16, s17, s18, s19⟩
                   go_simp
                   with_reducible rfl
                  rotate_left
                  ·exact pa
                  refine one_ (i := 40) (N := some 143) (ba 44 2199023255551) rfl rfl (one_of HT_.out (by kernel_rfl)) (by decide) (fun K hK => ?_)
                  refine goes_ Try.func30 (by kernel_rfl) rfl #[.agg #[.int .i64 ((rd_T38 l0 t476).f0), .bool ((rd_T38 l0 t476).f1), .int .i64 ((rd_T38 l0 t476).f2.f0), .int .i64 ((rd_T38 l0 t476).f2.f1), .int .i64 ((rd_T38 l0 t476).f3.f0), .int .i64 ((rd_T38 l0 t476).f3.f1), .int .i64 ((rd_T38 l0 t476).f4.f0), .int .i64 ((rd_T38 l0 t476).f4.f1)], .agg #[.int .i64 ((rd_T38 l0 x37_3).f0), .bool ((rd_T38 l0 x37_3).f1), .int .i64 ((rd_T38 l0 x37_3).f2.f0), .int .i64 ((rd_T38 l0 x37_3).f2.f1), .int .i64 ((rd_T38 l0 x37_3).f3.f0), .int .i64 ((rd_T38 l0 x37_3).f3.f1), .int .i64 ((rd_T38 l0 x37_3).f4.f0), .int .i64 ((rd_T38 l0 x37_3).f4.f1)]] (by rfl) rfl rfl am ?_
                  with_reducible refine (pochoirref22_Is.calls kj28 ((rd_T38 l0 t476).f0) ((rd_T38 l0 t476).f1) ((rd_T38 l0 t476).f2.f0) ((rd_T38 l0 t476).f2.f1) ((rd_T38 l0 t476).f3.f0) ((rd_T38 l0 t476).f3.f1) ((rd_T38 l0 t476).f4.f0) ((rd_T38 l0 t476).f4.f1) ((rd_T38 l0 x37_3).f0) ((rd_T38 l0 x37_3).f1) ((rd_T38 l0 x37_3).f2.f0) ((rd_T38 l0 x37_3).f2.f1) ((rd_T38 l0 x37_3).f3.f0) ((rd_T38 l0 x37_3).f3.f1) ((rd_T38 l0 x37_3).f4.f0) ((rd_T38 l0 x37_3).f4.f1) t497 _ A70.out).mono ?_
                  rintro e w74 ⟨rfl, hb⟩
                  have HS0_ := (hb.cell (World.block_lt_of_cell? _ _ (hHeld.1))).trans (hHeld.1)
                  have HS1_ := (hb.cell (World.block_lt_of_cell? _ _ (hHeld.2.1))).trans (hHeld.2.1)
                  have HS2_ := (hb.cell (World.block_lt_of_cell? _ _ (hHeld.2.2.1))).trans (hHeld.2.2.1)
                  have HS3_ := (hb.cell (World.block_lt_of_cell? _ _ (hHeld.2.2.2.1))).trans (hHeld.2.2.2.1)
                  refine ⟨_, rfl, ?_⟩
                  replace HO_3 := Aside0.mk (Kd.R_below (kr HO_3.out) hb)
                  replace HB := Aside0.mk (below_step (bl0 HB.out) hb)
                  (try clear hb)
                  (try clear hb2)
                  (try clear hk)
                  (try clear hi)
                  refine hK.out _ _ ⟨HS0_, HS1_, HS2_, HS3_, (hc HB hw495_0 :), (hc HB hw495_1 :), (hc HB hw495_2 :), (hc HB hw495_3 :), (hc HB hw495_4 :), (hc HB hw495_5 :), (hc HB hw495_6 :), (hc HB hw495_7 :), (hc HB hw496_0 :), (hc HB hw496_1 :), (hc HB hw496_2 :), (hc HB hw496_3 :), (hc HB hw496_4 :), (hc HB hw496_5 :), (hc HB hw496_6 :), (hc HB hw496_7 :)⟩ (fun hHeld => ?_)
                  clear hK K
                  refine np 143 ?_
                  refine pI 41 144 (ba 44 4398046511103) HT_.out ?_
                  refine pI 42 145 (ba 44 8796093022207) HT_.out ?_
                  refine pI 43 146 (ba 44 17592186044415) HT_.out ?_
                  refine done_ (done_of HT_.out (by kernel_rfl)) ?_
                  try go_wp2
                  go_roundg kj28
                  case measure => have := HJ3.out; have := HJ10.out; have := HK3.out; have := HJ17.out; have := HK5.out; have := HJ28.out; omega
                  case rel => exact ⟨(wrap64 (x37_3 + 1)), fr, H', ⟨by have := HJ3.out; have := HJ10.out; have := HK3.out; have := HJ17.out; have := HK5.out; have := HJ28.out; omega⟩, ⟨kr HO_3.out⟩, ⟨bl0 HB.out⟩⟩
                 rw [if_neg c65] at H
                 have c65b0 : ((rd t472 x37_3) == 5) = false := beq_eq_false_iff_ne.mpr c65
                 have c65b1 : ((rd t472 x37_3) != 5) = true := bne_iff_ne.mpr c65
                 by_cases c75 : (rd t472 x37_3) = 6
                 ·rw [if_pos c75] at H
                  have c75b0 : ((rd t472 x37_3) == 6) = true := beq_iff_eq.mpr c75
                  have c75b1 : ((rd t472 x37_3) != 6) = false := bne_eq_false_iff_eq.mpr c75
                  clear c75
                  refine ifk H ?_; clear H; intro c76 H
                  have c76b0 := decide_eq_true c76
                  clear c76
                  refine ifk H ?_; clear H; intro c77 H
                  have c77b0 := decide_eq_true c77
                  clear c77
                  refine ifk H ?_; clear H; intro c78 H
                  have c78b0 := decide_eq_true c78
                  clear c78
                  refine ifk H ?_; clear H; intro c79 H
                  have c79b0 := decide_eq_true c79
                  clear c79
                  replace H := Option.bind_eq_some_iff.mp H
                  obtain ⟨t503, A800, H⟩ := H
                  replace H : (if (((rd t472 x37_3) != (rd t472 t476)) != t503) = true then (some false) else (pochoirlaw23_ColorApart.l0 kj28 l0 t472 (l0.length : Int) (wrap64 (x37_3 + 1)))) = some r := H
                  have A80 := Aside0.mk A800
                  clear A800
                  by_cases c81 : (((rd t472 x37_3) != (rd t472 t476)) != t503) = true
                  ·rw [if_pos c81] at H
                   have c81b0 : (((rd t472 x37_3) != (rd t472 t476)) != t503) = true := c81
                   (try (have c81b1 : decide (((rd t472 x37_3) != (rd t472 t476)) = t503) = false := by simpa using c81))
                   (try (have c81b2 : (((rd t472 x37_3) != (rd t472 t476)) == t503) = false := by simpa using c81))
                   (try (have c81b3 : ¬ (((rd t472 x37_3) != (rd t472 t476)) = t503) := by simpa using c81))
                   clear c81
                   exact absurd (HQ.out ▸ H) (by simp)
                  rw [if_neg c81] at H
                  have c81b0 : (((rd t472 x37_3) != (rd t472 t476)) != t503) = false := by simpa using c81
                  (try (have c81b1 : decide (((rd t472 x37_3) != (rd t472 t476)) = t503) = true := by simpa using c81))
                  (try (have c81b2 : (((rd t472 x37_3) != (rd t472 t476)) == t503) = true := by simpa using c81))
                  clear c81
                  have H' := Aside0.mk H
                  clear H
                  try go_wp2
                  replace HO_3 := Aside0.mk (Kd.R_drew HO_3.out)
                  replace HB := Aside0.mk (below_drew1 HB.out)
                  obtain ⟨Ao83, co83, eo83⟩ := Kd.R_slice HO_3.out
                  (first | subst eo83 | (injection eo83 with f1_ f2_ f3_; have f4_ := f1_.symm; have f5_ := f3_.symm; clear f1_ f2_ f3_; subst f4_; subst f5_))
                  have p486 : 0 ≤ (x37_3 : Int) := od
                  have q486 : x37_3 < (t472.length : Int) := od
                  obtain ⟨ad486, e486, hx486_0⟩ := Kd.at_int (Kd.R_reads' HO_3.out).2.2 x37_3 p486 q486
                  cases e486
                  replace p486 := eq_true p486
                  replace q486 := eq_true q486
                  have p492 : 0 ≤ (x37_3 : Int) := od
                  have q492 : x37_3 < (t472.length : Int) := od
                  obtain ⟨ad492, e492, hx492_0⟩ := Kd.at_int (Kd.R_reads' HO_3.out).2.2 x37_3 p492 q492
                  obtain rfl : ad486 = ad492 := (by injection e492)
                  replace p492 := eq_true p492
                  replace q492 := eq_true q492
                  have p498 : 0 ≤ (x37_3 : Int) := od
                  have q498 : x37_3 < (t472.length : Int) := od
                  obtain ⟨ad498, e498, hx498_0⟩ := Kd.at_int (Kd.R_reads' HO_3.out).2.2 x37_3 p498 q498
                  obtain rfl : ad486 = ad498 := (by injection e498)
                  replace p498 := eq_true p498
                  replace q498 := eq_true q498
                  have p499 : 0 ≤ (x37_3 : Int) := od
                  have q499 : x37_3 < (t472.length : Int) := od
                  obtain ⟨ad499, e499, hx499_0⟩ := Kd.at_int (Kd.R_reads' HO_3.out).2.2 x37_3 p499 q499
                  obtain rfl : ad486 = ad499 := (by injection e499)
                  replace p499 := eq_true p499
                  replace q499 := eq_true q499
                  have p500 : 0 ≤ (t476 : Int) := od
                  have q500 : t476 < (t472.length : Int) := od
                  obtain ⟨ad500, e500, hx500_0⟩ := Kd.at_int (Kd.R_reads' HO_3.out).2.2 t476 p500 q500
                  obtain rfl : ad486 = ad500 := (by injection e500)
                  replace p500 := eq_true p500
                  replace q500 := eq_true q500
                  have p501 : 0 ≤ (t476 : Int) := od
                  have q501 : t476 < (l0.length : Int) := od
                  obtain ⟨ad501, e501, hx501_0, hx501_1, hx501_2, hx501_3, hx501_4, hx501_5, hx501_6, hx501_7⟩ := at_T38 HR0.out t476 p501 q501
                  have hw501_7 := hx501_7
                  have hw501_6 := hx501_6
                  have hw501_5 := hx501_5
                  have hw501_4 := hx501_4
                  have hw501_3 := hx501_3
                  have hw501_2 := hx501_2
                  have hw501_1 := hx501_1
                  have hw501_0 := hx501_0
                  cases e501
                  replace hx501_0 := hc HB hx501_0
                  replace hx501_1 := hc HB hx501_1
                  replace hx501_2 := hc HB hx501_2
                  replace hx501_3 := hc HB hx501_3
                  replace hx501_4 := hc HB hx501_4
                  replace hx501_5 := hc HB hx501_5
                  replace hx501_6 := hc HB hx501_6
                  replace hx501_7 := hc HB hx501_7
                  replace p501 := eq_true p501
                  replace q501 := eq_true q501
                  have p502 : 0 ≤ (x37_3 : Int) := od
                  have q502 : x37_3 < (l0.length : Int) := od
                  obtain ⟨ad502, e502, hx502_0, hx502_1, hx502_2, hx502_3, hx502_4, hx502_5, hx502_6, hx502_7⟩ := at_T38 HR0.out x37_3 p502 q502
                  have hw502_7 := hx502_7
                  have hw502_6 := hx502_6
                  have hw502_5 := hx502_5
                  have hw502_4 := hx502_4
                  have hw502_3 := hx502_3
                  have hw502_2 := hx502_2
                  have hw502_1 := hx502_1
                  have hw502_0 := hx502_0
                  obtain rfl : ad501 = ad502 := (by injection e502)
                  replace hx502_0 := hc HB hx502_0
                  replace hx502_1 := hc HB hx502_1
                  replace hx502_2 := hc HB hx502_2
                  replace hx502_3 := hc HB hx502_3
                  replace hx502_4 := hc HB hx502_4
                  replace hx502_5 := hc HB hx502_5
                  replace hx502_6 := hc HB hx502_6
                  replace hx502_7 := hc HB hx502_7
                  replace p502 := eq_true p502
                  replace q502 := eq_true q502
                  refine start_ (n := 44) (S := fun w' => w'.cell? (ad486.add (x37_3).toNat) = some (.int .i64 (rd t472 x37_3)) ∧ w'.cell? (ad486.add (x37_3).toNat) = some (.int .i64 (rd t472 x37_3)) ∧ w'.cell? (ad486.add (x37_3).toNat) = some (.int .i64 (rd t472 x37_3)) ∧ w'.cell? (ad486.add (x37_3).toNat) = some (.int .i64 (rd t472 x37_3)) ∧ w'.cell? (ad486.add (t476).toNat) = some (.int .i64 (rd t472 t476)) ∧ w'.cell? (ad501.add ((t476).toNat * 8)) = some (.int .i64 ((rd_T38 l0 t476).f0)) ∧ w'.cell? ⟨(ad501.add ((t476).toNat * 8)).block, (ad501.add ((t476).toNat * 8)).off + 1, none⟩ = some (.bool ((rd_T38 l0 t476).f1)) ∧ w'.cell? ⟨(ad501.add ((t476).toNat * 8)).block, (ad501.add ((t476).toNat * 8)).off + 2, none⟩ = some (.int .i64 ((rd_T38 l0 t476).f2.f0)) ∧ w'.cell? ⟨(ad501.add ((t476).toNat * 8)).block, (ad501.add ((t476).toNat * 8)).off + 3, none⟩ = some (.int .i64 ((rd_T38 l0 t476).f2.f1)) ∧ w'.cell? ⟨(ad501.add ((t476).toNat * 8)).block, (ad501.add ((t476).toNat * 8)).off + 4, none⟩ = some (.int .i64 ((rd_T38 l0 t476).f3.f0)) ∧ w'.cell? ⟨(ad501.add ((t476).toNat * 8)).block, (ad501.add ((t476).toNat * 8)).off + 5, none⟩ = some (.int .i64 ((rd_T38 l0 t476).f3.f1)) ∧ w'.cell? ⟨(ad501.add ((t476).toNat * 8)).block, (ad501.add ((t476).toNat * 8)).off + 6, none⟩ = some (.int .i64 ((rd_T38 l0 t476).f4.f0)) ∧ w'.cell? ⟨(ad501.add ((t476).toNat * 8)).block, (ad501.add ((t476).toNat * 8)).off + 7, none⟩ = some (.int .i64 ((rd_T38 l0 t476).f4.f1)) ∧ w'.cell? (ad501.add ((x37_3).toNat * 8)) = some (.int .i64 ((rd_T38 l0 x37_3).f0)) ∧ w'.cell? ⟨(ad501.add ((x37_3).toNat * 8)).block, (ad501.add ((x37_3).toNat * 8)).off + 1, none⟩ = some (.bool ((rd_T38 l0 x37_3).f1)) ∧ w'.cell? ⟨(ad501.add ((x37_3).toNat * 8)).block, (ad501.add ((x37_3).toNat * 8)).off + 2, none⟩ = some (.int .i64 ((rd_T38 l0 x37_3).f2.f0)) ∧ w'.cell? ⟨(ad501.add ((x37_3).toNat * 8)).block, (ad501.add ((x37_3).toNat * 8)).off + 3, none⟩ = some (.int .i64 ((rd_T38 l0 x37_3).f2.f1)) ∧ w'.cell? ⟨(ad501.add ((x37_3).toNat * 8)).block, (ad501.add ((x37_3).toNat * 8)).off + 4, none⟩ = some (.int .i64 ((rd_T38 l0 x37_3).f3.f0)) ∧ w'.cell? ⟨(ad501.add ((x37_3).toNat * 8)).block, (ad501.add ((x37_3).toNat * 8)).off + 5, none⟩ = some (.int .i64 ((rd_T38 l0 x37_3).f3.f1)) ∧ w'.cell? ⟨(ad501.add ((x37_3).toNat * 8)).block, (ad501.add ((x37_3).toNat * 8)).off + 6, none⟩ = some (.int .i64 ((rd_T38 l0 x37_3).f4.f0)) ∧ w'.cell? ⟨(ad501.add ((x37_3).toNat * 8)).block, (ad501.add ((x37_3).toNat * 8)).off + 7, none⟩ = some (.int .i64 ((rd_T38 l0 x37_3).f4.f1))) (ds := []) (ba 44 0) (by kernel_rfl) rfl rfl ⟨hx486_0, hx492_0, hx498_0, hx499_0, hx500_0, (hc HB hw501_0 :), (hc HB hw501_1 :), (hc HB hw501_2 :), (hc HB hw501_3 :), (hc HB hw501_4 :), (hc HB hw501_5 :), (hc HB hw501_6 :), (hc HB hw501_7 :), (hc HB hw502_0 :), (hc HB hw502_1 :), (hc HB hw502_2 :), (hc HB hw502_3 :), (hc HB hw502_4 :), (hc HB hw502_5 :), (hc HB hw502_6 :), (hc HB hw502_7 :)⟩ (fun hHeld => ?_); refine with_tabW pochoirlaw23_ColorApart.tab23 pochoirlaw23_ColorApart.bits23 (fun HT_ HW_ => ?_)
                  generalize wc.drew = w82 at HO_3 HB hx486_0 hx492_0 hx498_0 hx499_0 hx500_0 hx501_0 hx501_1 hx501_2 hx501_3 hx501_4 hx501_5 hx501_6 hx501_7 hx502_0 hx502_1 hx502_2 hx502_3 hx502_4 hx502_5 hx502_6 hx502_7 hHeld ⊢
                  refine pI 0 103 (ba 44 1) HT_.out ?_
                  refine pI 1 104 (ba 44 3) HT_.out ?_
                  refine pI 2 105 (ba 44 7) HT_.out ?_
                  refine pI 3 106 (ba 44 15) HT_.out ?_
                  refine pI 4 107 (ba 44 31) HT_.out ?_
                  refine pI 5 108 (ba 44 63) HT_.out ?_
                  refine take_ (i := 6) (N := some 109) (v := ?_) (a' := ?_) (ba 44 127) rfl rfl (take_ofW HT_.out HW_.out (by kernel_rfl)) (fun _ _ _ h => h) (Or.inl ⟨by rfl, ?_⟩) hHeld ?_ ?_
                  rotate_left
                  ·rintro w' ⟨s0, s1, s2, s3, s4, s5, s6, s7, s8, s9, s10, s11, s12, s13, s14, s15, s16, s17, s18, s19, s20⟩
                   go_simp
                   with_reducible rfl
                  rotate_left
                  ·exact pa
                  refine pI 7 110 (ba 44 255) HT_.out ?_
                  refine pI 8 111 (ba 44 511) HT_.out ?_
                  refine pI 9 112 (ba 44 1023) HT_.out ?_
                  refine pI 10 113 (ba 44 2047) HT_.out ?_
                  refine pI 11 114 (ba 44 4095) HT_.out ?_
                  refine take_ (i := 12) (N := some 115) (v := ?_) (a' := ?_) (ba 44 8191) rfl rfl (take_ofW HT_.out HW_.out (by kernel_rfl)) (fun _ _ _ h => h) (Or.inl ⟨by rfl, ?_⟩) hHeld ?_ ?_
                  rotate_left
                  ·rintro w' ⟨s0, s1, s2, s3, s4, s5, s6, s7, s8, s9, s10, s11, s12, s13, s14, s15, s16, s17, s18, s19, s20⟩
                   go_simp
                   with_reducible rfl
                  rotate_left
                  ·exact pa
                  refine pI 13 116 (ba 44 16383) HT_.out ?_
                  refine pI 14 117 (ba 44 32767) HT_.out ?_
                  refine pI 15 118 (ba 44 65535) HT_.out ?_
                  refine pI 16 119 (ba 44 131071) HT_.out ?_
                  refine pI 17 120 (ba 44 262143) HT_.out ?_
                  refine pI 18 121 (ba 44 524287) HT_.out ?_
                  refine take_ (i := 19) (N := some 122) (v := ?_) (a' := ?_) (ba 44 1048575) rfl rfl (take_ofW HT_.out HW_.out (by kernel_rfl)) (fun _ _ _ h => h) (Or.inl ⟨by rfl, ?_⟩) hHeld ?_ ?_
                  rotate_left
                  ·rintro w' ⟨s0, s1, s2, s3, s4, s5, s6, s7, s8, s9, s10, s11, s12, s13, s14, s15, s16, s17, s18, s19, s20⟩
                   go_simp
                   with_reducible rfl
                  rotate_left
                  ·exact pa
                  refine pI 20 123 (ba 44 2097151) HT_.out ?_
                  refine pI 21 124 (ba 44 4194303) HT_.out ?_
                  refine pI 22 125 (ba 44 8388607) HT_.out ?_
                  refine pI 23 126 (ba 44 16777215) HT_.out ?_
                  refine pI 24 127 (ba 44 33554431) HT_.out ?_
                  refine pI 25 128 (ba 44 67108863) HT_.out ?_
                  refine pI 27 130 (ba 44 201326591) HT_.out ?_
                  refine pI 28 131 (ba 44 469762047) HT_.out ?_
                  refine pI 29 132 (ba 44 1006632959) HT_.out ?_
                  refine pI 32 135 (ba 44 5301600255) HT_.out ?_
                  refine pI 33 136 (ba 44 13891534847) HT_.out ?_
                  refine pI 34 137 (ba 44 31071404031) HT_.out ?_
                  refine pI 36 139 (ba 44 99790880767) HT_.out ?_
                  refine pI 37 140 (ba 44 237229834239) HT_.out ?_
                  refine pI 38 141 (ba 44 512107741183) HT_.out ?_
                  refine take_ (i := 26) (N := some 129) (v := ?_) (a' := ?_) (ba 44 512174850047) rfl rfl (take_ofW HT_.out HW_.out (by kernel_rfl)) (fun _ _ _ h => h) (Or.inl ⟨by rfl, ?_⟩) hHeld ?_ ?_
                  rotate_left
                  ·rintro w' ⟨s0, s1, s2, s3, s4, s5, s6, s7, s8, s9, s10, s11, s12, s13, s14, s15, s16, s17, s18, s19, s20⟩
                   go_simp
                   with_reducible rfl
                  rotate_left
                  ·exact pa
                  refine take_ (i := 30) (N := some 133) (v := ?_) (a' := ?_) (ba 44 513248591871) rfl rfl (take_ofW HT_.out HW_.out (by kernel_rfl)) (fun _ _ _ h => h) (Or.inl ⟨by rfl, ?_⟩) hHeld ?_ ?_
                  rotate_left
                  ·rintro w' ⟨s0, s1, s2, s3, s4, s5, s6, s7, s8, s9, s10, s11, s12, s13, s14, s15, s16, s17, s18, s19, s20⟩
                   go_simp
                   with_reducible rfl
                  rotate_left
                  ·exact pa
                  refine pI 31 134 (ba 44 515396075519) HT_.out ?_
                  refine take_ (i := 35) (N := some 138) (v := ?_) (a' := ?_) (ba 44 549755813887) rfl rfl (take_ofW HT_.out HW_.out (by kernel_rfl)) (fun _ _ _ h => h) (Or.inl ⟨by rfl, ?_⟩) hHeld ?_ ?_
                  rotate_left
                  ·rintro w' ⟨s0, s1, s2, s3, s4, s5, s6, s7, s8, s9, s10, s11, s12, s13, s14, s15, s16, s17, s18, s19, s20⟩
                   go_simp
                   with_reducible rfl
                  rotate_left
                  ·exact pa
                  refine take_ (i := 39) (N := some 142) (v := ?_) (a' := ?_) (ba 44 1099511627775) rfl rfl (take_ofW HT_.out HW_.out (by kernel_rfl)) (fun _ _ _ h => h) (Or.inl ⟨by rfl, ?_⟩) hHeld ?_ ?_
                  rotate_left
                  ·rintro w' ⟨s0, s1, s2, s3, s4, s5, s6, s7, s8, s9, s10, s11, s12, s13, s14, s15, s16, s17, s18, s19, s20⟩
                   go_simp
                   with_reducible rfl
                  rotate_left
                  ·exact pa
                  refine one_ (i := 40) (N := some 143) (ba 44 2199023255551) rfl rfl (one_of HT_.out (by kernel_rfl)) (by decide) (fun K hK => ?_)
                  refine goes_ Try.func30 (by kernel_rfl) rfl #[.agg #[.int .i64 ((rd_T38 l0 t476).f0), .bool ((rd_T38 l0 t476).f1), .int .i64 ((rd_T38 l0 t476).f2.f0), .int .i64 ((rd_T38 l0 t476).f2.f1), .int .i64 ((rd_T38 l0 t476).f3.f0), .int .i64 ((rd_T38 l0 t476).f3.f1), .int .i64 ((rd_T38 l0 t476).f4.f0), .int .i64 ((rd_T38 l0 t476).f4.f1)], .agg #[.int .i64 ((rd_T38 l0 x37_3).f0), .bool ((rd_T38 l0 x37_3).f1), .int .i64 ((rd_T38 l0 x37_3).f2.f0), .int .i64 ((rd_T38 l0 x37_3).f2.f1), .int .i64 ((rd_T38 l0 x37_3).f3.f0), .int .i64 ((rd_T38 l0 x37_3).f3.f1), .int .i64 ((rd_T38 l0 x37_3).f4.f0), .int .i64 ((rd_T38 l0 x37_3).f4.f1)]] (by rfl) rfl rfl am ?_
                  with_reducible refine (pochoirref22_Is.calls kj28 ((rd_T38 l0 t476).f0) ((rd_T38 l0 t476).f1) ((rd_T38 l0 t476).f2.f0) ((rd_T38 l0 t476).f2.f1) ((rd_T38 l0 t476).f3.f0) ((rd_T38 l0 t476).f3.f1) ((rd_T38 l0 t476).f4.f0) ((rd_T38 l0 t476).f4.f1) ((rd_T38 l0 x37_3).f0) ((rd_T38 l0 x37_3).f1) ((rd_T38 l0 x37_3).f2.f0) ((rd_T38 l0 x37_3).f2.f1) ((rd_T38 l0 x37_3).f3.f0) ((rd_T38 l0 x37_3).f3.f1) ((rd_T38 l0 x37_3).f4.f0) ((rd_T38 l0 x37_3).f4.f1) t503 _ A80.out).mono ?_
                  rintro e w84 ⟨rfl, hb⟩
                  have HS0_ := (hb.cell (World.block_lt_of_cell? _ _ (hHeld.1))).trans (hHeld.1)
                  have HS1_ := (hb.cell (World.block_lt_of_cell? _ _ (hHeld.2.1))).trans (hHeld.2.1)
                  have HS2_ := (hb.cell (World.block_lt_of_cell? _ _ (hHeld.2.2.1))).trans (hHeld.2.2.1)
                  have HS3_ := (hb.cell (World.block_lt_of_cell? _ _ (hHeld.2.2.2.1))).trans (hHeld.2.2.2.1)
                  have HS4_ := (hb.cell (World.block_lt_of_cell? _ _ (hHeld.2.2.2.2.1))).trans (hHeld.2.2.2.2.1)
                  refine ⟨_, rfl, ?_⟩
                  replace HO_3 := Aside0.mk (Kd.R_below (kr HO_3.out) hb)
                  replace HB := Aside0.mk (below_step (bl0 HB.out) hb)
                  (try clear hb)
                  (try clear hb2)
                  (try clear hk)
                  (try clear hi)
                  refine hK.out _ _ ⟨HS0_, HS1_, HS2_, HS3_, HS4_, (hc HB hw501_0 :), (hc HB hw501_1 :), (hc HB hw501_2 :), (hc HB hw501_3 :), (hc HB hw501_4 :), (hc HB hw501_5 :), (hc HB hw501_6 :), (hc HB hw501_7 :), (hc HB hw502_0 :), (hc HB hw502_1 :), (hc HB hw502_2 :), (hc HB hw502_3 :), (hc HB hw502_4 :), (hc HB hw502_5 :), (hc HB hw502_6 :), (hc HB hw502_7 :)⟩ (fun hHeld => ?_)
                  clear hK K
                  refine np 143 ?_
                  refine pI 41 144 (ba 44 4398046511103) HT_.out ?_
                  refine pI 42 145 (ba 44 8796093022207) HT_.out ?_
                  refine pI 43 146 (ba 44 17592186044415) HT_.out ?_
                  refine done_ (done_of HT_.out (by kernel_rfl)) ?_
                  try go_wp2
                  go_roundg kj28
                  case measure => have := HJ3.out; have := HJ10.out; have := HK3.out; have := HJ17.out; have := HK5.out; have := HJ28.out; omega
                  case rel => exact ⟨(wrap64 (x37_3 + 1)), fr, H', ⟨by have := HJ3.out; have := HJ10.out; have := HK3.out; have := HJ17.out; have := HK5.out; have := HJ28.out; omega⟩, ⟨kr HO_3.out⟩, ⟨bl0 HB.out⟩⟩
                 rw [if_neg c75] at H
                 have c75b0 : ((rd t472 x37_3) == 6) = false := beq_eq_false_iff_ne.mpr c75
                 have c75b1 : ((rd t472 x37_3) != 6) = true := bne_iff_ne.mpr c75
                 exact absurd (HQ.out ▸ H) (by simp)
                rw [if_neg c52] at H
                have c52b0 : decide (2 ≤ x8_5) = false := decide_eq_false c52
                clear c52
                have H' := Aside0.mk H
                clear H
                try go_wp2
                replace HO_3 := Aside0.mk (Kd.R_drew HO_3.out)
                replace HB := Aside0.mk (below_drew1 HB.out)
                refine start_ (n := 44) (S := fun w' => True) (ds := []) (ba 44 0) (by kernel_rfl) rfl rfl trivial (fun hHeld => ?_); refine with_tabW pochoirlaw23_ColorApart.tab23 pochoirlaw23_ColorApart.bits23 (fun HT_ HW_ => ?_)
                generalize wc.drew = w85 at HO_3 HB hHeld ⊢
                refine pI 0 103 (ba 44 1) HT_.out ?_
                refine pI 1 104 (ba 44 3) HT_.out ?_
                refine pI 2 105 (ba 44 7) HT_.out ?_
                refine pO 3 106 (ba 44 15) HT_.out ?_
                refine pO 4 107 (ba 44 31) HT_.out ?_
                refine pO 5 108 (ba 44 63) HT_.out ?_
                refine pO 6 109 (ba 44 127) HT_.out ?_
                refine pO 7 110 (ba 44 255) HT_.out ?_
                refine pO 8 111 (ba 44 511) HT_.out ?_
                refine pO 9 112 (ba 44 1023) HT_.out ?_
                refine pO 10 113 (ba 44 2047) HT_.out ?_
                refine pO 11 114 (ba 44 4095) HT_.out ?_
                refine pO 12 115 (ba 44 8191) HT_.out ?_
                refine pO 13 116 (ba 44 16383) HT_.out ?_
                refine pO 14 117 (ba 44 32767) HT_.out ?_
                refine pO 15 118 (ba 44 65535) HT_.out ?_
                refine pO 16 119 (ba 44 131071) HT_.out ?_
                refine pO 17 120 (ba 44 262143) HT_.out ?_
                refine pO 18 121 (ba 44 524287) HT_.out ?_
                refine pO 19 122 (ba 44 1048575) HT_.out ?_
                refine pO 20 123 (ba 44 2097151) HT_.out ?_
                refine pO 21 124 (ba 44 4194303) HT_.out ?_
                refine pO 22 125 (ba 44 8388607) HT_.out ?_
                refine pO 23 126 (ba 44 16777215) HT_.out ?_
                refine pO 24 127 (ba 44 33554431) HT_.out ?_
                refine pO 25 128 (ba 44 67108863) HT_.out ?_
                refine pO 26 129 (ba 44 134217727) HT_.out ?_
                refine pO 27 130 (ba 44 268435455) HT_.out ?_
                refine pO 28 131 (ba 44 536870911) HT_.out ?_
                refine pO 29 132 (ba 44 1073741823) HT_.out ?_
                refine pO 30 133 (ba 44 2147483647) HT_.out ?_
                refine pO 31 134 (ba 44 4294967295) HT_.out ?_
                refine pO 32 135 (ba 44 8589934591) HT_.out ?_
                refine pO 33 136 (ba 44 17179869183) HT_.out ?_
                refine pO 34 137 (ba 44 34359738367) HT_.out ?_
                refine pO 35 138 (ba 44 68719476735) HT_.out ?_
                refine pO 36 139 (ba 44 137438953471) HT_.out ?_
                refine pO 37 140 (ba 44 274877906943) HT_.out ?_
                refine pO 38 141 (ba 44 549755813887) HT_.out ?_
                refine pO 39 142 (ba 44 1099511627775) HT_.out ?_
                refine pO 40 143 (ba 44 2199023255551) HT_.out ?_
                refine pO 41 144 (ba 44 4398046511103) HT_.out ?_
                refine pO 42 145 (ba 44 8796093022207) HT_.out ?_
                refine pI 43 146 (ba 44 17592186044415) HT_.out ?_
                refine done_ (done_of HT_.out (by kernel_rfl)) ?_
                try go_wp2
                go_roundg kj28
                case measure => have := HJ3.out; have := HJ10.out; have := HK3.out; have := HJ17.out; have := HK5.out; have := HJ28.out; omega
                case rel => exact ⟨(wrap64 (x37_3 + 1)), fr, H', ⟨by have := HJ3.out; have := HJ10.out; have := HK3.out; have := HJ17.out; have := HK5.out; have := HJ28.out; omega⟩, ⟨kr HO_3.out⟩, ⟨bl0 HB.out⟩⟩
               rw [if_neg c51] at H
               have c51b0 : (x9_5 == 7) = false := beq_eq_false_iff_ne.mpr c51
               have c51b1 : (x9_5 != 7) = true := bne_iff_ne.mpr c51
               exact absurd (HQ.out ▸ H) (by simp)
        rw [if_neg c16] at H
        have c16b0 := decide_eq_false c16
        clear c16
        obtain rfl := Option.some.inj H
        go_wp2
        go_ret
        exact ⟨by first | rfl | (simp [errW_none, errW_some] <;> rfl) | (simp [*, errW_none, errW_some] <;> rfl), bl0 HB.out⟩
 replace c3 := Bool.eq_false_iff.mpr c3
 subst c3
 rw [if_neg (show ¬ (false = true) by decide)] at H
 exact absurd (HQ.out ▸ H) (by simp)

/-- THE ONE PURE STATEMENT of pochoirlaw23_ColorApart. -/
def pochoirlaw23_ColorApart.Pure : Prop := ∀ (x0 : List (S38)), (x0.length * 64 ≤ 140737488351232 ∧ x0.length ≤ 9223372036854775807 ∧ ∀ x ∈ x0, wf38 x) → ∃ k, pochoirlaw23_ColorApart.f k x0 = some true

end Go.Proofs.Ytalgppclaolonaa.XColr
