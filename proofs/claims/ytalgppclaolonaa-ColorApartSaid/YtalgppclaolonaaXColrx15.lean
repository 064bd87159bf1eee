-- Printed by a program of this claim. Not trusted: Lean checks it.
import Derived.Test.YtalgppclaolonaaXColrx0
import Derived.Test.YtalgppclaolonaaXColrx1
import Derived.Test.YtalgppclaolonaaXColrx14
namespace Go.Proofs.Ytalgppclaolonaa.XColr
open Go.RowKit Go.Proofs.YtalgppclaolonaaW.PrintWords Go.Proofs.YtalgppclaolonaaW.PrintLast Go.Proofs.YtalgppclaolonaaW.PrintMore
attribute [local go_sem] max2_int min2_int max_two min_two max_three min_three max_four min_four   -- for this text's walks alone
set_option linter.unusedVariables false
set_option linter.unusedSimpArgs false
open XOpen

attribute [local go_sem high] eqA36
/-! ### pochoirref01_Times: function 72 -/
mutual
def pochoirref01_Times.l0 : Nat → List Int → List Int → List Int → Int → Option (List Int)
 | 0, _, _, _, _ => none
 | k + 1, x0, x1, x5, x6 => if x6 < (x0.length : Int) then (pochoirref01_Times.l1 k x0 x1 x5 x6 0 0) else (some x5)
def pochoirref01_Times.l1 : Nat → List Int → List Int → List Int → Int → Int → Int → Option (List Int)
 | 0, _, _, _, _, _, _ => none
 | k + 1, x0, x1, x5, x6, x7, x8 => if x8 < (x1.length : Int) then (if 0 ≤ (wrap64 (x6 + x8)) then (if (wrap64 (x6 + x8)) < (x5.length : Int) then (if 0 ≤ x6 then (if x6 < (x0.length : Int) then ((pochoirref01_at.f x1 x8).bind fun t361 => (pochoirref01_Times.l1 k x0 x1 (x5.set ((wrap64 (x6 + x8)) : Int).toNat (Int.tmod (IntKind.u64.wrap ((IntKind.u64.wrap ((rd x5 (wrap64 (x6 + x8))) + (IntKind.u64.wrap ((rd x0 x6) * t361)))) + x7)) 65536)) x6 (IntKind.u64.wrap (Int.tdiv (IntKind.u64.wrap ((IntKind.u64.wrap ((rd x5 (wrap64 (x6 + x8))) + (IntKind.u64.wrap ((rd x0 x6) * t361)))) + x7)) 65536)) (wrap64 (x8 + 1)))) else (none)) else (none)) else (none)) else (none)) else (if x7 > 0 then (if 0 ≤ (wrap64 (x6 + x8)) then (if (wrap64 (x6 + x8)) < (x5.length : Int) then (if 0 ≤ x6 then (if x6 < (x0.length : Int) then ((pochoirref01_at.f x1 x8).bind fun t365 => (pochoirref01_Times.l1 k x0 x1 (x5.set ((wrap64 (x6 + x8)) : Int).toNat (Int.tmod (IntKind.u64.wrap ((IntKind.u64.wrap ((rd x5 (wrap64 (x6 + x8))) + (IntKind.u64.wrap ((rd x0 x6) * t365)))) + x7)) 65536)) x6 (IntKind.u64.wrap (Int.tdiv (IntKind.u64.wrap ((IntKind.u64.wrap ((rd x5 (wrap64 (x6 + x8))) + (IntKind.u64.wrap ((rd x0 x6) * t365)))) + x7)) 65536)) (wrap64 (x8 + 1)))) else (none)) else (none)) else (none)) else (none)) else (pochoirref01_Times.l0 k x0 x1 x5 (wrap64 (x6 + 1))))
end
def pochoirref01_Times.f (k : Nat) (l0 : List Int) (l1 : List Int) : Option (List Int) := if 0 ≤ (wrap64 ((wrap64 ((l0.length : Int) + (l1.length : Int))) + 1)) then (if (wrap64 ((wrap64 ((l0.length : Int) + (l1.length : Int))) + 1) : Int).toNat ≤ 35184372088832 then (pochoirref01_Times.l0 k l0 l1 (List.replicate (wrap64 ((wrap64 ((l0.length : Int) + (l1.length : Int))) + 1) : Int).toNat 0) 0) else (none)) else (none)
theorem pochoirref01_Times.mono_l : ∀ k, (∀ y0 y1 y2 y3, LeO (pochoirref01_Times.l0 k y0 y1 y2 y3) (pochoirref01_Times.l0 (k + 1) y0 y1 y2 y3)) ∧ (∀ y0 y1 y2 y3 y4 y5, LeO (pochoirref01_Times.l1 k y0 y1 y2 y3 y4 y5) (pochoirref01_Times.l1 (k + 1) y0 y1 y2 y3 y4 y5))
 | 0 => ⟨fun _ _ _ _ r h => by simp [pochoirref01_Times.l0] at h, fun _ _ _ _ _ _ r h => by simp [pochoirref01_Times.l1] at h⟩
 | k + 1 => by
  obtain ⟨ih0, ih1⟩ := pochoirref01_Times.mono_l k
  refine ⟨?_, ?_⟩
  ·intro y0 y1 y2 y3
   unfold pochoirref01_Times.l0
   repeat' first | (with_reducible first | exact ih0 _ _ _ _ | exact ih1 _ _ _ _ _ _ | exact LeO.refl _ | exact LeO.none _ | refine LeO.ite ?_ ?_ | refine LeO.bind ?_ (fun _ => ?_)) | exact ih0 _ _ _ _ | exact ih1 _ _ _ _ _ _ | exact LeO.none _ | refine LeO.ite ?_ ?_ | refine LeO.bind ?_ (fun _ => ?_)
  ·intro y0 y1 y2 y3 y4 y5
   unfold pochoirref01_Times.l1
   repeat' first | (with_reducible first | exact ih0 _ _ _ _ | exact ih1 _ _ _ _ _ _ | exact LeO.refl _ | exact LeO.none _ | refine LeO.ite ?_ ?_ | refine LeO.bind ?_ (fun _ => ?_)) | exact ih0 _ _ _ _ | exact ih1 _ _ _ _ _ _ | exact LeO.none _ | refine LeO.ite ?_ ?_ | refine LeO.bind ?_ (fun _ => ?_)
theorem pochoirref01_Times.mono : ∀ a0 a1 k, LeO (pochoirref01_Times.f k a0 a1) (pochoirref01_Times.f (k + 1) a0 a1) := by
 intro a0 a1 k
 obtain ⟨ih0, ih1⟩ := pochoirref01_Times.mono_l k
 unfold pochoirref01_Times.f
 repeat' first | (with_reducible first | exact ih0 _ _ _ _ | exact ih1 _ _ _ _ _ _ | exact LeO.refl _ | exact LeO.none _ | refine LeO.ite ?_ ?_ | refine LeO.bind ?_ (fun _ => ?_)) | exact ih0 _ _ _ _ | exact ih1 _ _ _ _ _ _ | exact LeO.none _ | refine LeO.ite ?_ ?_ | refine LeO.bind ?_ (fun _ => ?_)
set_option maxHeartbeats 8000000 in
set_option maxRecDepth 100000 in
theorem pochoirref01_Times.calls (k : Nat) (A0 : Option Addr) (c0 : Nat) (l0 : List Int) (A1 : Option Addr) (c1 : Nat) (l1 : List Int) (r : List Int) (w : World) (hr0 : Kd.C (Kd.int .u64) w A0 l0.length l0) (hc0 : l0.length ≤ c0) (hr1 : Kd.C (Kd.int .u64) w A1 l1.length l1) (hc1 : l1.length ≤ c1) (h : pochoirref01_Times.f k l0 l1 = some r) :
  Calls Try.prog 72 #[.slice A0 l0.length c0, .slice A1 l1.length c1] w fun e w' => ∃ v0_ : Value, e = .returned (v0_) ∧ Kd.R (Kd.int .u64) 104 w' w.heap.size (fun _ => True) v0_ r ∧ Below w.heap.size w w' := by
 have HR0 := Aside0.mk hr0
 have HC0 := Aside0.mk hc0
 clear hr0 hc0
 have HR1 := Aside0.mk hr1
 have HC1 := Aside0.mk hc1
 clear hr1 hc1
 have HB := Aside0.mk (Below.refl w.heap.size w)
 have H := h
 clear h; unfold pochoirref01_Times.f at H
 obtain ⟨ji3, hji3⟩ : ∃ j_ : Int, (wrap64 ((wrap64 ((l0.length : Int) + (l1.length : Int))) + 1)) = j_ := ⟨_, rfl⟩
 replace H : (if 0 ≤ (ji3) then (if (ji3 : Int).toNat ≤ 35184372088832 then (pochoirref01_Times.l0 k l0 l1 (List.replicate (ji3 : Int).toNat 0) 0) else (none)) else (none)) = some r := by first | (rw [hji3] at H; exact H) | (simp only [hji3] at H ⊢; exact H)
 have hji3w : (IntKind.i64.wrap ((wrap64 ((l0.length : Int) + (l1.length : Int))) + 1)) = ji3 := (i64_w _).trans hji3
 by_cases c4 : 0 ≤ (ji3)
 ·rw [if_pos c4] at H
  have c4b0 := eq_true c4
  have c4b1 : decide (0 ≤ (ji3)) = true := decide_eq_true c4
  clear c4
  refine ifk H ?_; clear H; intro c5 H
  have c5b0 := eq_true c5
  have c5b1 : decide ((ji3 : Int).toNat ≤ 35184372088832) = true := decide_eq_true c5
  clear c5
  obtain ⟨y356, hy356⟩ : ∃ y_ : List Int, y_ = (List.replicate (ji3 : Int).toNat 0) := ⟨_, rfl⟩
  replace H : (pochoirref01_Times.l0 k l0 l1 y356 0) = some r := by (try rw [hy356]); first | with_reducible exact H | (have H2_ := (Option.bind_some _ _).symm.trans H; with_reducible exact H2_) | exact H
  have Ny356 := Aside0.mk hy356
  clear hy356
  have H' := Aside0.mk H
  clear H
  go_enter Try.func72, Try.ntmps72
  go_wp2_with (first | ((with_reducible refine gate_dst (N := 16) rfl ?_); refine Kd.R_make (Kd.int .u64) _ 104 rfl (N := 16) rfl 69 _ _ rfl ji3 rfl rfl Try.underlying69 (.int .u64 0) 8 info104 rfl (by decide) (by omega) 0 (ok := fun _ => True) (okp := fun _ => True) rfl (fun _ hk => hk) trivial (od) (Nat.le_trans (Nat.mul_le_mul_right _ (od : ji3.toNat ≤ 35184372088832)) (by omega)) (Below.refl _ _) (Nat.le_refl _) ?_; intro v357 w6 ho7 hb hg_ hnew_; clear hg_ hnew_; (first | rw [← Ny356.out] at ho7 | (simp only [Int.reduceToNat] at ho7; rw [← Ny356.out] at ho7)); have HO358 := Aside0.mk (Kd.R_lower ho7 (below_size (bl0 HB.out))); replace HB := Aside0.mk (below_step (bl0 HB.out) hb); clear hb ho7))
  repeat (go_quiet (first | ((with_reducible refine gate_dst (N := 16) rfl ?_); refine Kd.R_make (Kd.int .u64) _ 104 rfl (N := 16) rfl 69 _ _ rfl ji3 rfl rfl Try.underlying69 (.int .u64 0) 8 info104 rfl (by decide) (by omega) 0 (ok := fun _ => True) (okp := fun _ => True) rfl (fun _ hk => hk) trivial (od) (Nat.le_trans (Nat.mul_le_mul_right _ (od : ji3.toNat ≤ 35184372088832)) (by omega)) (Below.refl _ _) (Nat.le_refl _) ?_; intro v357 w6 ho7 hb hg_ hnew_; clear hg_ hnew_; (first | rw [← Ny356.out] at ho7 | (simp only [Int.reduceToNat] at ho7; rw [← Ny356.out] at ho7)); have HO358 := Aside0.mk (Kd.R_lower ho7 (below_size (bl0 HB.out))); replace HB := Aside0.mk (below_step (bl0 HB.out) hb); clear hb ho7)); try go_wp2_with (first | ((with_reducible refine gate_dst (N := 16) rfl ?_); refine Kd.R_make (Kd.int .u64) _ 104 rfl (N := 16) rfl 69 _ _ rfl ji3 rfl rfl Try.underlying69 (.int .u64 0) 8 info104 rfl (by decide) (by omega) 0 (ok := fun _ => True) (okp := fun _ => True) rfl (fun _ hk => hk) trivial (od) (Nat.le_trans (Nat.mul_le_mul_right _ (od : ji3.toNat ≤ 35184372088832)) (by omega)) (Below.refl _ _) (Nat.le_refl _) ?_; intro v357 w6 ho7 hb hg_ hnew_; clear hg_ hnew_; (first | rw [← Ny356.out] at ho7 | (simp only [Int.reduceToNat] at ho7; rw [← Ny356.out] at ho7)); have HO358 := Aside0.mk (Kd.R_lower ho7 (below_size (bl0 HB.out))); replace HB := Aside0.mk (below_step (bl0 HB.out) hb); clear hb ho7)))
  go_loopg [6] k (fun kq v6 w' => ∃ (x5_1 : List Int) (x6_1 : Int), v6 = .int .i64 x6_1 ∧ Aside0 (pochoirref01_Times.l0 kq l0 l1 x5_1 x6_1 = some r) ∧ Aside0 (kq ≤ k) ∧ Aside0 (Kd.R (Kd.int .u64) 104 w' w.heap.size (fun _ => True) v357 x5_1) ∧ Aside0 (Below w.heap.size w w'))
  case atStart => exact ⟨(y356), (0), fr, H', ⟨Nat.le_refl _⟩, ⟨kr HO358.out⟩, ⟨bl0 HB.out⟩⟩
  case round =>
   clear H'
   try clear c1
   try clear p2
   try clear c4b0
   try clear c4b1
   try clear c5b0
   try clear c5b1
   try clear p6
   try clear c7
   obtain ⟨x5_1, x6_1, rfl, HA, HK1, HO_5, HB⟩ := hrel
   cases gk with
   | zero => exact absurd HA.out (by simp [pochoirref01_Times.l0])
   | succ k1 =>
    have H := HA.out
    clear HA
    simp only [pochoirref01_Times.l0] at H
    by_cases c8 : x6_1 < (l0.length : Int)
    ·rw [if_pos c8] at H
     have c8b0 := decide_eq_true c8
     clear c8
     have H' := Aside0.mk H
     clear H
     go_wp2
     repeat (go_quiet (fail); try go_wp2)
     go_loopg [7, 8] k1 (fun kq v7 v8 w' => ∃ (x5_2 : List Int) (x7_2 : Int) (x8_2 : Int), v7 = .int .u64 x7_2 ∧ v8 = .int .i64 x8_2 ∧ Aside0 (pochoirref01_Times.l1 kq l0 l1 x5_2 x6_1 x7_2 x8_2 = some r) ∧ Aside0 (kq ≤ k1) ∧ Aside0 (Kd.R (Kd.int .u64) 104 w' w.heap.size (fun _ => True) v357 x5_2) ∧ Aside0 (Below w.heap.size w w'))
     case atStart => exact ⟨(x5_1), (0), (0), fr, fr, H', ⟨Nat.le_refl _⟩, ⟨kr HO_5.out⟩, ⟨bl0 HB.out⟩⟩
     case round =>
      clear H'
      try clear c1
      try clear p2
      try clear c4b0
      try clear c4b1
      try clear c5b0
      try clear c5b1
      try clear p6
      try clear c7
      try clear c8b0
      try clear p2
      try clear p6
      obtain ⟨x5_2, x7_2, x8_2, rfl, rfl, HA, HK2, HO_5, HB⟩ := hrel
      cases gk with
      | zero => exact absurd HA.out (by simp [pochoirref01_Times.l1])
      | succ k2 =>
       have H := HA.out
       clear HA
       simp only [pochoirref01_Times.l1] at H
       by_cases c9 : x8_2 < (l1.length : Int)
       ·rw [if_pos c9] at H
        have c9b0 := decide_eq_true c9
        clear c9
        obtain ⟨ji10, hji10⟩ : ∃ j_ : Int, (wrap64 (x6_1 + x8_2)) = j_ := ⟨_, rfl⟩
        replace H : (if 0 ≤ (ji10) then (if (ji10) < (x5_2.length : Int) then (if 0 ≤ x6_1 then (if x6_1 < (l0.length : Int) then ((pochoirref01_at.f l1 x8_2).bind fun t361 => (pochoirref01_Times.l1 k2 l0 l1 (x5_2.set ((ji10) : Int).toNat (Int.tmod (IntKind.u64.wrap ((IntKind.u64.wrap ((rd x5_2 (ji10)) + (IntKind.u64.wrap ((rd l0 x6_1) * t361)))) + x7_2)) 65536)) x6_1 (IntKind.u64.wrap (Int.tdiv (IntKind.u64.wrap ((IntKind.u64.wrap ((rd x5_2 (ji10)) + (IntKind.u64.wrap ((rd l0 x6_1) * t361)))) + x7_2)) 65536)) (wrap64 (x8_2 + 1)))) else (none)) else (none)) else (none)) else (none)) = some r := by first | (rw [hji10] at H; exact H) | (simp only [hji10] at H ⊢; exact H)
        have hji10w : (IntKind.i64.wrap (x6_1 + x8_2)) = ji10 := (i64_w _).trans hji10
        refine ifk H ?_; clear H; intro c11 H
        have c11b0 := decide_eq_true c11
        clear c11
        refine ifk H ?_; clear H; intro c12 H
        have c12b0 := decide_eq_true c12
        clear c12
        refine ifk H ?_; clear H; intro c13 H
        have c13b0 := decide_eq_true c13
        clear c13
        refine ifk H ?_; clear H; intro c14 H
        have c14b0 := decide_eq_true c14
        clear c14
        replace H := Option.bind_eq_some_iff.mp H
        obtain ⟨t361, A150, H⟩ := H
        replace H : (pochoirref01_Times.l1 k2 l0 l1 (x5_2.set ((ji10) : Int).toNat (Int.tmod (IntKind.u64.wrap ((IntKind.u64.wrap ((rd x5_2 (ji10)) + (IntKind.u64.wrap ((rd l0 x6_1) * t361)))) + x7_2)) 65536)) x6_1 (IntKind.u64.wrap (Int.tdiv (IntKind.u64.wrap ((IntKind.u64.wrap ((rd x5_2 (ji10)) + (IntKind.u64.wrap ((rd l0 x6_1) * t361)))) + x7_2)) 65536)) (wrap64 (x8_2 + 1))) = some r := H
        have A15 := Aside0.mk A150
        clear A150
        obtain ⟨y362, hy362⟩ : ∃ y_ : List Int, y_ = (x5_2.set ((ji10) : Int).toNat (Int.tmod (IntKind.u64.wrap ((IntKind.u64.wrap ((rd x5_2 (ji10)) + (IntKind.u64.wrap ((rd l0 x6_1) * t361)))) + x7_2)) 65536)) := ⟨_, rfl⟩
        replace H : (pochoirref01_Times.l1 k2 l0 l1 y362 x6_1 (IntKind.u64.wrap (Int.tdiv (IntKind.u64.wrap ((IntKind.u64.wrap ((rd x5_2 (ji10)) + (IntKind.u64.wrap ((rd l0 x6_1) * t361)))) + x7_2)) 65536)) (wrap64 (x8_2 + 1))) = some r := by (try rw [hy362]); first | with_reducible exact H | (have H2_ := (Option.bind_some _ _).symm.trans H; with_reducible exact H2_) | exact H
        have Ny362 := Aside0.mk hy362
        clear hy362
        have H' := Aside0.mk H
        clear H
        obtain ⟨Ao17, co17, eo17⟩ := Kd.R_slice HO_5.out
        subst eo17
        have p359 : 0 ≤ ((ji10) : Int) := od
        have q359 : (ji10) < (x5_2.length : Int) := od
        obtain ⟨ad359, e359, hx359_0⟩ := Kd.at_int (Kd.R_reads' HO_5.out).2.2 (ji10) p359 q359
        cases e359
        replace p359 := eq_true p359
        replace q359 := eq_true q359
        have p360 : 0 ≤ (x6_1 : Int) := od
        have q360 : x6_1 < (l0.length : Int) := od
        obtain ⟨ad360, e360, hx360_0⟩ := Kd.at_int HR0.out x6_1 p360 q360
        cases e360
        replace hx360_0 := hc HB hx360_0
        replace p360 := eq_true p360
        replace q360 := eq_true q360
        go_wp2_with (first | (go_at_call 104; (with_reducible refine (pochoirref01_at.calls _ _ l1 x8_2 t361 _ ?side1 ?side2 A15.out).mono ?_); (case side1 => exact kc (Kd.C_below HR1.out HB.out)); (case side2 => exact HC1.out); rintro e w' ⟨rfl, ⟨nd, rfl⟩⟩; (try first | exact ⟨rfl, _, World.drewN_drewN _ _ _⟩ | exact ⟨rfl, _, Eq.trans (World.drewN_drewN _ _ _) (congrArg (World.drewN _) (Nat.add_assoc _ _ _))⟩); have p16 : 0 ≤ ((ji10) : Int) := od; have q16 : ((ji10) : Int) < ((x5_2.length : Int) : Int) := od; obtain ⟨go16, co16, eo16, gb16, gl16, cl16, HG16⟩ := Kd.R_form HO_5.out (by omega); (first | cases eo16 | (injection eo16 with ea_ en_ ec_; (first | subst ea_ | (injection ea_ with ea_; subst ea_)); subst ec_; clear en_)); have GB16 := Aside0.mk gb16; have GG16 := Aside0.mk HG16; clear gb16 gl16 HG16; (first | simp only [add_plain] at hx359_0 | skip); obtain ⟨hx16_0, hf16_0⟩ := Kd.R_celln 0 HO_5.out ((ji10) : Int) p16 q16; replace p16 := eq_true p16; replace q16 := eq_true q16; obtain ⟨hy18_, hz18_⟩ := Kd.R_celln 0 HO_5.out ((ji10) : Int) (od) (od); have HP18 := Kd.R_putg HO_5.out ((ji10) : Int) (Int.tmod (IntKind.u64.wrap ((IntKind.u64.wrap ((rd x5_2 (ji10)) + (IntKind.u64.wrap ((rd l0 x6_1) * t361)))) + x7_2)) 65536)) | ((with_reducible refine gate_store (t := 104) (p := 56) rfl ?_); (try (rw [drewN_self wr]; generalize hq_ : World.drewN wr _ = wr; replace HO_5 := Aside0.mk (Kd.R_at hq_ HO_5.out); replace HB := Aside0.mk (below_at hq_ HB.out); clear hq_; (try (obtain ⟨hy18_, hz18_⟩ := Kd.R_celln 0 HO_5.out ((ji10) : Int) (od) (od))); (try (have HP18 := Kd.R_putg HO_5.out ((ji10) : Int) (Int.tmod (IntKind.u64.wrap ((IntKind.u64.wrap ((rd x5_2 (ji10)) + (IntKind.u64.wrap ((rd l0 x6_1) * t361)))) + x7_2)) 65536))))); refine store_event (t := 104) (p := 56) (v := ?vo_w19) (w1 := (wr.setCell ⟨go16, ((ji10) : Int).toNat, none⟩ (.int .u64 (Int.tmod (IntKind.u64.wrap ((IntKind.u64.wrap ((rd x5_2 (ji10)) + (IntKind.u64.wrap ((rd l0 x6_1) * t361)))) + x7_2)) 65536)))) ?hg ?ho ?hn ?hr ?_; (case ho => rfl); (case hg => rfl); (case hn => rfl); (case hr => first | (go_simp; done) | (go_simp; rfl)); intro w19 hw; have hg : wr.grownBy w19 (some go16) := (by rw [hw]; exact HP18.2); have hp_ : Kd.R (Kd.int .u64) 104 w19 w.heap.size (fun _ => True) (.slice (some ⟨go16, 0, none⟩) x5_2.length co17) y362 := (by rw [hw, Ny362.out]; exact HP18.1); clear HP18; replace HO_5 := Aside0.mk (hp_); replace HB := Aside0.mk ((by rw [hw]; exact below_set (HB.out) GB16.out : Below w.heap.size w w19)); clear hg hw hp_))
        repeat (go_quiet (first | (go_at_call 104; (with_reducible refine (pochoirref01_at.calls _ _ l1 x8_2 t361 _ ?side1 ?side2 A15.out).mono ?_); (case side1 => exact kc (Kd.C_below HR1.out HB.out)); (case side2 => exact HC1.out); rintro e w' ⟨rfl, ⟨nd, rfl⟩⟩; (try first | exact ⟨rfl, _, World.drewN_drewN _ _ _⟩ | exact ⟨rfl, _, Eq.trans (World.drewN_drewN _ _ _) (congrArg (World.drewN _) (Nat.add_assoc _ _ _))⟩); have p16 : 0 ≤ ((ji10) : Int) := od; have q16 : ((ji10) : Int) < ((x5_2.length : Int) : Int) := od; obtain ⟨go16, co16, eo16, gb16, gl16, cl16, HG16⟩ := Kd.R_form HO_5.out (by omega); (first | cases eo16 | (injection eo16 with ea_ en_ ec_; (first | subst ea_ | (injection ea_ with ea_; subst ea_)); subst ec_; clear en_)); have GB16 := Aside0.mk gb16; have GG16 := Aside0.mk HG16; clear gb16 gl16 HG16; (first | simp only [add_plain] at hx359_0 | skip); obtain ⟨hx16_0, hf16_0⟩ := Kd.R_celln 0 HO_5.out ((ji10) : Int) p16 q16; replace p16 := eq_true p16; replace q16 := eq_true q16; obtain ⟨hy18_, hz18_⟩ := Kd.R_celln 0 HO_5.out ((ji10) : Int) (od) (od); have HP18 := Kd.R_putg HO_5.out ((ji10) : Int) (Int.tmod (IntKind.u64.wrap ((IntKind.u64.wrap ((rd x5_2 (ji10)) + (IntKind.u64.wrap ((rd l0 x6_1) * t361)))) + x7_2)) 65536)) | ((with_reducible refine gate_store (t := 104) (p := 56) rfl ?_); (try (rw [drewN_self wr]; generalize hq_ : World.drewN wr _ = wr; replace HO_5 := Aside0.mk (Kd.R_at hq_ HO_5.out); replace HB := Aside0.mk (below_at hq_ HB.out); clear hq_; (try (obtain ⟨hy18_, hz18_⟩ := Kd.R_celln 0 HO_5.out ((ji10) : Int) (od) (od))); (try (have HP18 := Kd.R_putg HO_5.out ((ji10) : Int) (Int.tmod (IntKind.u64.wrap ((IntKind.u64.wrap ((rd x5_2 (ji10)) + (IntKind.u64.wrap ((rd l0 x6_1) * t361)))) + x7_2)) 65536))))); refine store_event (t := 104) (p := 56) (v := ?vo_w19) (w1 := (wr.setCell ⟨go16, ((ji10) : Int).toNat, none⟩ (.int .u64 (Int.tmod (IntKind.u64.wrap ((IntKind.u64.wrap ((rd x5_2 (ji10)) + (IntKind.u64.wrap ((rd l0 x6_1) * t361)))) + x7_2)) 65536)))) ?hg ?ho ?hn ?hr ?_; (case ho => rfl); (case hg => rfl); (case hn => rfl); (case hr => first | (go_simp; done) | (go_simp; rfl)); intro w19 hw; have hg : wr.grownBy w19 (some go16) := (by rw [hw]; exact HP18.2); have hp_ : Kd.R (Kd.int .u64) 104 w19 w.heap.size (fun _ => True) (.slice (some ⟨go16, 0, none⟩) x5_2.length co17) y362 := (by rw [hw, Ny362.out]; exact HP18.1); clear HP18; replace HO_5 := Aside0.mk (hp_); replace HB := Aside0.mk ((by rw [hw]; exact below_set (HB.out) GB16.out : Below w.heap.size w w19)); clear hg hw hp_)); try go_wp2_with (first | (go_at_call 104; (with_reducible refine (pochoirref01_at.calls _ _ l1 x8_2 t361 _ ?side1 ?side2 A15.out).mono ?_); (case side1 => exact kc (Kd.C_below HR1.out HB.out)); (case side2 => exact HC1.out); rintro e w' ⟨rfl, ⟨nd, rfl⟩⟩; (try first | exact ⟨rfl, _, World.drewN_drewN _ _ _⟩ | exact ⟨rfl, _, Eq.trans (World.drewN_drewN _ _ _) (congrArg (World.drewN _) (Nat.add_assoc _ _ _))⟩); have p16 : 0 ≤ ((ji10) : Int) := od; have q16 : ((ji10) : Int) < ((x5_2.length : Int) : Int) := od; obtain ⟨go16, co16, eo16, gb16, gl16, cl16, HG16⟩ := Kd.R_form HO_5.out (by omega); (first | cases eo16 | (injection eo16 with ea_ en_ ec_; (first | subst ea_ | (injection ea_ with ea_; subst ea_)); subst ec_; clear en_)); have GB16 := Aside0.mk gb16; have GG16 := Aside0.mk HG16; clear gb16 gl16 HG16; (first | simp only [add_plain] at hx359_0 | skip); obtain ⟨hx16_0, hf16_0⟩ := Kd.R_celln 0 HO_5.out ((ji10) : Int) p16 q16; replace p16 := eq_true p16; replace q16 := eq_true q16; obtain ⟨hy18_, hz18_⟩ := Kd.R_celln 0 HO_5.out ((ji10) : Int) (od) (od); have HP18 := Kd.R_putg HO_5.out ((ji10) : Int) (Int.tmod (IntKind.u64.wrap ((IntKind.u64.wrap ((rd x5_2 (ji10)) + (IntKind.u64.wrap ((rd l0 x6_1) * t361)))) + x7_2)) 65536)) | ((with_reducible refine gate_store (t := 104) (p := 56) rfl ?_); (try (rw [drewN_self wr]; generalize hq_ : World.drewN wr _ = wr; replace HO_5 := Aside0.mk (Kd.R_at hq_ HO_5.out); replace HB := Aside0.mk (below_at hq_ HB.out); clear hq_; (try (obtain ⟨hy18_, hz18_⟩ := Kd.R_celln 0 HO_5.out ((ji10) : Int) (od) (od))); (try (have HP18 := Kd.R_putg HO_5.out ((ji10) : Int) (Int.tmod (IntKind.u64.wrap ((IntKind.u64.wrap ((rd x5_2 (ji10)) + (IntKind.u64.wrap ((rd l0 x6_1) * t361)))) + x7_2)) 65536))))); refine store_event (t := 104) (p := 56) (v := ?vo_w19) (w1 := (wr.setCell ⟨go16, ((ji10) : Int).toNat, none⟩ (.int .u64 (Int.tmod (IntKind.u64.wrap ((IntKind.u64.wrap ((rd x5_2 (ji10)) + (IntKind.u64.wrap ((rd l0 x6_1) * t361)))) + x7_2)) 65536)))) ?hg ?ho ?hn ?hr ?_; (case ho => rfl); (case hg => rfl); (case hn => rfl); (case hr => first | (go_simp; done) | (go_simp; rfl)); intro w19 hw; have hg : wr.grownBy w19 (some go16) := (by rw [hw]; exact HP18.2); have hp_ : Kd.R (Kd.int .u64) 104 w19 w.heap.size (fun _ => True) (.slice (some ⟨go16, 0, none⟩) x5_2.length co17) y362 := (by rw [hw, Ny362.out]; exact HP18.1); clear HP18; replace HO_5 := Aside0.mk (hp_); replace HB := Aside0.mk ((by rw [hw]; exact below_set (HB.out) GB16.out : Below w.heap.size w w19)); clear hg hw hp_)))
        go_roundg k2
        case measure => have := HK1.out; have := HK2.out; omega
        case rel => exact ⟨(y362), (IntKind.u64.wrap (Int.tdiv (IntKind.u64.wrap ((IntKind.u64.wrap ((rd x5_2 (ji10)) + (IntKind.u64.wrap ((rd l0 x6_1) * t361)))) + x7_2)) 65536)), (wrap64 (x8_2 + 1)), (by first | rfl | (simp; done) | (simp only [← hji10] <;> (first | rfl | simp)) | (simp [*]; done)), fr, H', ⟨by have := HK1.out; have := HK2.out; omega⟩, ⟨kr HO_5.out⟩, ⟨bl0 HB.out⟩⟩
       rw [if_neg c9] at H
       have c9b0 := decide_eq_false c9
       clear c9
       by_cases c20 : x7_2 > 0
       ·rw [if_pos c20] at H
        have c20b0 : decide (0 < x7_2) = true := decide_eq_true c20
        clear c20
        obtain ⟨ji21, hji21⟩ : ∃ j_ : Int, (wrap64 (x6_1 + x8_2)) = j_ := ⟨_, rfl⟩
        replace H : (if 0 ≤ (ji21) then (if (ji21) < (x5_2.length : Int) then (if 0 ≤ x6_1 then (if x6_1 < (l0.length : Int) then ((pochoirref01_at.f l1 x8_2).bind fun t365 => (pochoirref01_Times.l1 k2 l0 l1 (x5_2.set ((ji21) : Int).toNat (Int.tmod (IntKind.u64.wrap ((IntKind.u64.wrap ((rd x5_2 (ji21)) + (IntKind.u64.wrap ((rd l0 x6_1) * t365)))) + x7_2)) 65536)) x6_1 (IntKind.u64.wrap (Int.tdiv (IntKind.u64.wrap ((IntKind.u64.wrap ((rd x5_2 (ji21)) + (IntKind.u64.wrap ((rd l0 x6_1) * t365)))) + x7_2)) 65536)) (wrap64 (x8_2 + 1)))) else (none)) else (none)) else (none)) else (none)) = some r := by first | (rw [hji21] at H; exact H) | (simp only [hji21] at H ⊢; exact H)
        have hji21w : (IntKind.i64.wrap (x6_1 + x8_2)) = ji21 := (i64_w _).trans hji21
        refine ifk H ?_; clear H; intro c22 H
        have c22b0 := decide_eq_true c22
        clear c22
        refine ifk H ?_; clear H; intro c23 H
        have c23b0 := decide_eq_true c23
        clear c23
        refine ifk H ?_; clear H; intro c24 H
        have c24b0 := decide_eq_true c24
        clear c24
        refine ifk H ?_; clear H; intro c25 H
        have c25b0 := decide_eq_true c25
        clear c25
        replace H := Option.bind_eq_some_iff.mp H
        obtain ⟨t365, A260, H⟩ := H
        replace H : (pochoirref01_Times.l1 k2 l0 l1 (x5_2.set ((ji21) : Int).toNat (Int.tmod (IntKind.u64.wrap ((IntKind.u64.wrap ((rd x5_2 (ji21)) + (IntKind.u64.wrap ((rd l0 x6_1) * t365)))) + x7_2)) 65536)) x6_1 (IntKind.u64.wrap (Int.tdiv (IntKind.u64.wrap ((IntKind.u64.wrap ((rd x5_2 (ji21)) + (IntKind.u64.wrap ((rd l0 x6_1) * t365)))) + x7_2)) 65536)) (wrap64 (x8_2 + 1))) = some r := H
        have A26 := Aside0.mk A260
        clear A260
        obtain ⟨y366, hy366⟩ : ∃ y_ : List Int, y_ = (x5_2.set ((ji21) : Int).toNat (Int.tmod (IntKind.u64.wrap ((IntKind.u64.wrap ((rd x5_2 (ji21)) + (IntKind.u64.wrap ((rd l0 x6_1) * t365)))) + x7_2)) 65536)) := ⟨_, rfl⟩
        replace H : (pochoirref01_Times.l1 k2 l0 l1 y366 x6_1 (IntKind.u64.wrap (Int.tdiv (IntKind.u64.wrap ((IntKind.u64.wrap ((rd x5_2 (ji21)) + (IntKind.u64.wrap ((rd l0 x6_1) * t365)))) + x7_2)) 65536)) (wrap64 (x8_2 + 1))) = some r := by (try rw [hy366]); first | with_reducible exact H | (have H2_ := (Option.bind_some _ _).symm.trans H; with_reducible exact H2_) | exact H
        have Ny366 := Aside0.mk hy366
        clear hy366
        have H' := Aside0.mk H
        clear H
        obtain ⟨Ao28, co28, eo28⟩ := Kd.R_slice HO_5.out
        subst eo28
        have p363 : 0 ≤ ((ji21) : Int) := od
        have q363 : (ji21) < (x5_2.length : Int) := od
        obtain ⟨ad363, e363, hx363_0⟩ := Kd.at_int (Kd.R_reads' HO_5.out).2.2 (ji21) p363 q363
        cases e363
        replace p363 := eq_true p363
        replace q363 := eq_true q363
        have p364 : 0 ≤ (x6_1 : Int) := od
        have q364 : x6_1 < (l0.length : Int) := od
        obtain ⟨ad364, e364, hx364_0⟩ := Kd.at_int HR0.out x6_1 p364 q364
        cases e364
        replace hx364_0 := hc HB hx364_0
        replace p364 := eq_true p364
        replace q364 := eq_true q364
        go_wp2_with (first | (go_at_call 104; (with_reducible refine (pochoirref01_at.calls _ _ l1 x8_2 t365 _ ?side1 ?side2 A26.out).mono ?_); (case side1 => exact kc (Kd.C_below HR1.out HB.out)); (case side2 => exact HC1.out); rintro e w' ⟨rfl, ⟨nd, rfl⟩⟩; (try first | exact ⟨rfl, _, World.drewN_drewN _ _ _⟩ | exact ⟨rfl, _, Eq.trans (World.drewN_drewN _ _ _) (congrArg (World.drewN _) (Nat.add_assoc _ _ _))⟩); have p27 : 0 ≤ ((ji21) : Int) := od; have q27 : ((ji21) : Int) < ((x5_2.length : Int) : Int) := od; obtain ⟨go27, co27, eo27, gb27, gl27, cl27, HG27⟩ := Kd.R_form HO_5.out (by omega); (first | cases eo27 | (injection eo27 with ea_ en_ ec_; (first | subst ea_ | (injection ea_ with ea_; subst ea_)); subst ec_; clear en_)); have GB27 := Aside0.mk gb27; have GG27 := Aside0.mk HG27; clear gb27 gl27 HG27; (first | simp only [add_plain] at hx363_0 | skip); obtain ⟨hx27_0, hf27_0⟩ := Kd.R_celln 0 HO_5.out ((ji21) : Int) p27 q27; replace p27 := eq_true p27; replace q27 := eq_true q27; obtain ⟨hy29_, hz29_⟩ := Kd.R_celln 0 HO_5.out ((ji21) : Int) (od) (od); have HP29 := Kd.R_putg HO_5.out ((ji21) : Int) (Int.tmod (IntKind.u64.wrap ((IntKind.u64.wrap ((rd x5_2 (ji21)) + (IntKind.u64.wrap ((rd l0 x6_1) * t365)))) + x7_2)) 65536)) | ((with_reducible refine gate_store (t := 104) (p := 56) rfl ?_); (try (rw [drewN_self wr]; generalize hq_ : World.drewN wr _ = wr; replace HO_5 := Aside0.mk (Kd.R_at hq_ HO_5.out); replace HB := Aside0.mk (below_at hq_ HB.out); clear hq_; (try (obtain ⟨hy29_, hz29_⟩ := Kd.R_celln 0 HO_5.out ((ji21) : Int) (od) (od))); (try (have HP29 := Kd.R_putg HO_5.out ((ji21) : Int) (Int.tmod (IntKind.u64.wrap ((IntKind.u64.wrap ((rd x5_2 (ji21)) + (IntKind.u64.wrap ((rd l0 x6_1) * t365)))) + x7_2)) 65536))))); refine store_event (t := 104) (p := 56) (v := ?vo_w30) (w1 := (wr.setCell ⟨go27, ((ji21) : Int).toNat, none⟩ (.int .u64 (Int.tmod (IntKind.u64.wrap ((IntKind.u64.wrap ((rd x5_2 (ji21)) + (IntKind.u64.wrap ((rd l0 x6_1) * t365)))) + x7_2)) 65536)))) ?hg ?ho ?hn ?hr ?_; (case ho => rfl); (case hg => rfl); (case hn => rfl); (case hr => first | (go_simp; done) | (go_simp; rfl)); intro w30 hw; have hg : wr.grownBy w30 (some go27) := (by rw [hw]; exact HP29.2); have hp_ : Kd.R (Kd.int .u64) 104 w30 w.heap.size (fun _ => True) (.slice (some ⟨go27, 0, none⟩) x5_2.length co28) y366 := (by rw [hw, Ny366.out]; exact HP29.1); clear HP29; replace HO_5 := Aside0.mk (hp_); replace HB := Aside0.mk ((by rw [hw]; exact below_set (HB.out) GB27.out : Below w.heap.size w w30)); clear hg hw hp_))
        repeat (go_quiet (first | (go_at_call 104; (with_reducible refine (pochoirref01_at.calls _ _ l1 x8_2 t365 _ ?side1 ?side2 A26.out).mono ?_); (case side1 => exact kc (Kd.C_below HR1.out HB.out)); (case side2 => exact HC1.out); rintro e w' ⟨rfl, ⟨nd, rfl⟩⟩; (try first | exact ⟨rfl, _, World.drewN_drewN _ _ _⟩ | exact ⟨rfl, _, Eq.trans (World.drewN_drewN _ _ _) (congrArg (World.drewN _) (Nat.add_assoc _ _ _))⟩); have p27 : 0 ≤ ((ji21) : Int) := od; have q27 : ((ji21) : Int) < ((x5_2.length : Int) : Int) := od; obtain ⟨go27, co27, eo27, gb27, gl27, cl27, HG27⟩ := Kd.R_form HO_5.out (by omega); (first | cases eo27 | (injection eo27 with ea_ en_ ec_; (first | subst ea_ | (injection ea_ with ea_; subst ea_)); subst ec_; clear en_)); have GB27 := Aside0.mk gb27; have GG27 := Aside0.mk HG27; clear gb27 gl27 HG27; (first | simp only [add_plain] at hx363_0 | skip); obtain ⟨hx27_0, hf27_0⟩ := Kd.R_celln 0 HO_5.out ((ji21) : Int) p27 q27; replace p27 := eq_true p27; replace q27 := eq_true q27; obtain ⟨hy29_, hz29_⟩ := Kd.R_celln 0 HO_5.out ((ji21) : Int) (od) (od); have HP29 := Kd.R_putg HO_5.out ((ji21) : Int) (Int.tmod (IntKind.u64.wrap ((IntKind.u64.wrap ((rd x5_2 (ji21)) + (IntKind.u64.wrap ((rd l0 x6_1) * t365)))) + x7_2)) 65536)) | ((with_reducible refine gate_store (t := 104) (p := 56) rfl ?_); (try (rw [drewN_self wr]; generalize hq_ : World.drewN wr _ = wr; replace HO_5 := Aside0.mk (Kd.R_at hq_ HO_5.out); replace HB := Aside0.mk (below_at hq_ HB.out); clear hq_; (try (obtain ⟨hy29_, hz29_⟩ := Kd.R_celln 0 HO_5.out ((ji21) : Int) (od) (od))); (try (have HP29 := Kd.R_putg HO_5.out ((ji21) : Int) (Int.tmod (IntKind.u64.wrap ((IntKind.u64.wrap ((rd x5_2 (ji21)) + (IntKind.u64.wrap ((rd l0 x6_1) * t365)))) + x7_2)) 65536))))); refine store_event (t := 104) (p := 56) (v := ?vo_w30) (w1 := (wr.setCell ⟨go27, ((ji21) : Int).toNat, none⟩ (.int .u64 (Int.tmod (IntKind.u64.wrap ((IntKind.u64.wrap ((rd x5_2 (ji21)) + (IntKind.u64.wrap ((rd l0 x6_1) * t365)))) + x7_2)) 65536)))) ?hg ?ho ?hn ?hr ?_; (case ho => rfl); (case hg => rfl); (case hn => rfl); (case hr => first | (go_simp; done) | (go_simp; rfl)); intro w30 hw; have hg : wr.grownBy w30 (some go27) := (by rw [hw]; exact HP29.2); have hp_ : Kd.R (Kd.int .u64) 104 w30 w.heap.size (fun _ => True) (.slice (some ⟨go27, 0, none⟩) x5_2.length co28) y366 := (by rw [hw, Ny366.out]; exact HP29.1); clear HP29; replace HO_5 := Aside0.mk (hp_); replace HB := Aside0.mk ((by rw [hw]; exact below_set (HB.out) GB27.out : Below w.heap.size w w30)); clear hg hw hp_)); try go_wp2_with (first | (go_at_call 104; (with_reducible refine (pochoirref01_at.calls _ _ l1 x8_2 t365 _ ?side1 ?side2 A26.out).mono ?_); (case side1 => exact kc (Kd.C_below HR1.out HB.out)); (case side2 => exact HC1.out); rintro e w' ⟨rfl, ⟨nd, rfl⟩⟩; (try first | exact ⟨rfl, _, World.drewN_drewN _ _ _⟩ | exact ⟨rfl, _, Eq.trans (World.drewN_drewN _ _ _) (congrArg (World.drewN _) (Nat.add_assoc _ _ _))⟩); have p27 : 0 ≤ ((ji21) : Int) := od; have q27 : ((ji21) : Int) < ((x5_2.length : Int) : Int) := od; obtain ⟨go27, co27, eo27, gb27, gl27, cl27, HG27⟩ := Kd.R_form HO_5.out (by omega); (first | cases eo27 | (injection eo27 with ea_ en_ ec_; (first | subst ea_ | (injection ea_ with ea_; subst ea_)); subst ec_; clear en_)); have GB27 := Aside0.mk gb27; have GG27 := Aside0.mk HG27; clear gb27 gl27 HG27; (first | simp only [add_plain] at hx363_0 | skip); obtain ⟨hx27_0, hf27_0⟩ := Kd.R_celln 0 HO_5.out ((ji21) : Int) p27 q27; replace p27 := eq_true p27; replace q27 := eq_true q27; obtain ⟨hy29_, hz29_⟩ := Kd.R_celln 0 HO_5.out ((ji21) : Int) (od) (od); have HP29 := Kd.R_putg HO_5.out ((ji21) : Int) (Int.tmod (IntKind.u64.wrap ((IntKind.u64.wrap ((rd x5_2 (ji21)) + (IntKind.u64.wrap ((rd l0 x6_1) * t365)))) + x7_2)) 65536)) | ((with_reducible refine gate_store (t := 104) (p := 56) rfl ?_); (try (rw [drewN_self wr]; generalize hq_ : World.drewN wr _ = wr; replace HO_5 := Aside0.mk (Kd.R_at hq_ HO_5.out); replace HB := Aside0.mk (below_at hq_ HB.out); clear hq_; (try (obtain ⟨hy29_, hz29_⟩ := Kd.R_celln 0 HO_5.out ((ji21) : Int) (od) (od))); (try (have HP29 := Kd.R_putg HO_5.out ((ji21) : Int) (Int.tmod (IntKind.u64.wrap ((IntKind.u64.wrap ((rd x5_2 (ji21)) + (IntKind.u64.wrap ((rd l0 x6_1) * t365)))) + x7_2)) 65536))))); refine store_event (t := 104) (p := 56) (v := ?vo_w30) (w1 := (wr.setCell ⟨go27, ((ji21) : Int).toNat, none⟩ (.int .u64 (Int.tmod (IntKind.u64.wrap ((IntKind.u64.wrap ((rd x5_2 (ji21)) + (IntKind.u64.wrap ((rd l0 x6_1) * t365)))) + x7_2)) 65536)))) ?hg ?ho ?hn ?hr ?_; (case ho => rfl); (case hg => rfl); (case hn => rfl); (case hr => first | (go_simp; done) | (go_simp; rfl)); intro w30 hw; have hg : wr.grownBy w30 (some go27) := (by rw [hw]; exact HP29.2); have hp_ : Kd.R (Kd.int .u64) 104 w30 w.heap.size (fun _ => True) (.slice (some ⟨go27, 0, none⟩) x5_2.length co28) y366 := (by rw [hw, Ny366.out]; exact HP29.1); clear HP29; replace HO_5 := Aside0.mk (hp_); replace HB := Aside0.mk ((by rw [hw]; exact below_set (HB.out) GB27.out : Below w.heap.size w w30)); clear hg hw hp_)))
        go_roundg k2
        case measure => have := HK1.out; have := HK2.out; omega
        case rel => exact ⟨(y366), (IntKind.u64.wrap (Int.tdiv (IntKind.u64.wrap ((IntKind.u64.wrap ((rd x5_2 (ji21)) + (IntKind.u64.wrap ((rd l0 x6_1) * t365)))) + x7_2)) 65536)), (wrap64 (x8_2 + 1)), (by first | rfl | (simp; done) | (simp only [← hji21] <;> (first | rfl | simp)) | (simp [*]; done)), fr, H', ⟨by have := HK1.out; have := HK2.out; omega⟩, ⟨kr HO_5.out⟩, ⟨bl0 HB.out⟩⟩
       rw [if_neg c20] at H
       have c20b0 : decide (0 < x7_2) = false := decide_eq_false c20
       clear c20
       have H' := Aside0.mk H
       clear H
       go_wp2
       repeat (go_quiet (fail); try go_wp2)
       go_roundg k2
       case measure => have := HK1.out; have := HK2.out; omega
       case rel => exact ⟨(x5_2), (wrap64 (x6_1 + 1)), fr, H', ⟨by have := HK1.out; have := HK2.out; omega⟩, ⟨kr HO_5.out⟩, ⟨bl0 HB.out⟩⟩
    rw [if_neg c8] at H
    have c8b0 := decide_eq_false c8
    clear c8
    obtain rfl := Option.some.inj H
    go_wp2
    repeat (go_quiet (fail); try go_wp2)
    go_ret
    exact ⟨_, by first | rfl | (simp [errW_none, errW_some] <;> rfl) | (simp only [← hji3]; first | rfl | (simp [errW_none, errW_some] <;> rfl)) | (simp [*, errW_none, errW_some] <;> rfl), kr HO_5.out, bl0 HB.out⟩
 rw [if_neg c4] at H
 exact absurd H (by simp)

/-! ### pochoirref01_Less: function 73 -/
mutual
def pochoirref01_Less.j0 : Nat → List Int → List Int → Int → Option (Int)
 | 0, _, _, _ => none
 | k + 1, x0, x1, x5 => pochoirref01_Less.l0 k x0 x1 (wrap64 (x5 - 1))
def pochoirref01_Less.l0 : Nat → List Int → List Int → Int → Option (Int)
 | 0, _, _, _ => none
 | k + 1, x0, x1, x6 => if x6 ≥ 0 then ((pochoirref01_at.f x0 x6).bind fun t367 => ((pochoirref01_at.f x1 x6).bind fun t368 => (if t367 < t368 then (some (-1)) else ((pochoirref01_at.f x0 x6).bind fun t369 => ((pochoirref01_at.f x1 x6).bind fun t370 => (if t369 > t370 then (some 1) else (pochoirref01_Less.l0 k x0 x1 (wrap64 (x6 - 1))))))))) else (some 0)
end
def pochoirref01_Less.f (k : Nat) (l0 : List Int) (l1 : List Int) : Option (Int) := if (l1.length : Int) > (l0.length : Int) then (pochoirref01_Less.j0 k l0 l1 (l1.length : Int)) else (pochoirref01_Less.j0 k l0 l1 (l0.length : Int))
theorem pochoirref01_Less.mono_l : ∀ k, (∀ y0 y1 y2, LeO (pochoirref01_Less.j0 k y0 y1 y2) (pochoirref01_Less.j0 (k + 1) y0 y1 y2)) ∧ (∀ y0 y1 y2, LeO (pochoirref01_Less.l0 k y0 y1 y2) (pochoirref01_Less.l0 (k + 1) y0 y1 y2))
 | 0 => ⟨fun _ _ _ r h => by simp [pochoirref01_Less.j0] at h, fun _ _ _ r h => by simp [pochoirref01_Less.l0] at h⟩
 | k + 1 => by
  obtain ⟨ih0, ih1⟩ := pochoirref01_Less.mono_l k
  refine ⟨?_, ?_⟩
  ·intro y0 y1 y2
   unfold pochoirref01_Less.j0
   repeat' first | (with_reducible first | exact ih0 _ _ _ | exact ih1 _ _ _ | exact LeO.refl _ | exact LeO.none _ | refine LeO.ite ?_ ?_ | refine LeO.bind ?_ (fun _ => ?_)) | exact ih0 _ _ _ | exact ih1 _ _ _ | exact LeO.none _ | refine LeO.ite ?_ ?_ | refine LeO.bind ?_ (fun _ => ?_)
  ·intro y0 y1 y2
   unfold pochoirref01_Less.l0
   repeat' first | (with_reducible first | exact ih0 _ _ _ | exact ih1 _ _ _ | exact LeO.refl _ | exact LeO.none _ | refine LeO.ite ?_ ?_ | refine LeO.bind ?_ (fun _ => ?_)) | exact ih0 _ _ _ | exact ih1 _ _ _ | exact LeO.none _ | refine LeO.ite ?_ ?_ | refine LeO.bind ?_ (fun _ => ?_)
theorem pochoirref01_Less.mono : ∀ a0 a1 k, LeO (pochoirref01_Less.f k a0 a1) (pochoirref01_Less.f (k + 1) a0 a1) := by
 intro a0 a1 k
 obtain ⟨ih0, ih1⟩ := pochoirref01_Less.mono_l k
 unfold pochoirref01_Less.f
 repeat' first | (with_reducible first | exact ih0 _ _ _ | exact ih1 _ _ _ | exact LeO.refl _ | exact LeO.none _ | refine LeO.ite ?_ ?_ | refine LeO.bind ?_ (fun _ => ?_)) | exact ih0 _ _ _ | exact ih1 _ _ _ | exact LeO.none _ | refine LeO.ite ?_ ?_ | refine LeO.bind ?_ (fun _ => ?_)
set_option maxHeartbeats 8000000 in
set_option maxRecDepth 100000 in
theorem pochoirref01_Less.calls (k : Nat) (A0 : Option Addr) (c0 : Nat) (l0 : List Int) (A1 : Option Addr) (c1 : Nat) (l1 : List Int) (r : Int) (w : World) (hr0 : Kd.C (Kd.int .u64) w A0 l0.length l0) (hc0 : l0.length ≤ c0) (hr1 : Kd.C (Kd.int .u64) w A1 l1.length l1) (hc1 : l1.length ≤ c1) (h : pochoirref01_Less.f k l0 l1 = some r) :
  Calls Try.prog 73 #[.slice A0 l0.length c0, .slice A1 l1.length c1] w fun e w' => e = .returned (.int .i64 r) ∧ Drawn0 w w' := by
 have HR0 := Aside0.mk hr0
 have HC0 := Aside0.mk hc0
 clear hr0 hc0
 have HR1 := Aside0.mk hr1
 have HC1 := Aside0.mk hc1
 clear hr1 hc1
 have H := h
 clear h; unfold pochoirref01_Less.f at H
 have HC3 := Aside0.mk H
 clear H
 go_enter Try.func73, Try.ntmps73
 go_upto_if 12 with (fail)
 go_cut [5] (fun v5 wc => ∃ (kq : Nat) (x5_2 : Int), v5 = .int .i64 x5_2 ∧ Aside0 (pochoirref01_Less.j0 kq l0 l1 x5_2 = some r) ∧ Aside0 (kq ≤ k) ∧ Drawn0 w wc)
 case first =>
  have H := HC3.out
  clear HC3
  by_cases c4 : (l1.length : Int) > (l0.length : Int)
  ·rw [if_pos c4] at H
   have c4b0 : decide ((l0.length : Int) < (l1.length : Int)) = true := decide_eq_true c4
   have c4b1 : decide (l0.length < l1.length) = true := decide_eq_true (Int.ofNat_lt.mp c4)
   clear c4
   (first | rw [c4b0] | (simp only [i64_w, i32_w]; rw [c4b0]) | rw [c4b1] | skip)
   have H' := Aside0.mk H
   clear H
   go_wp2
   go_meet
   case rel => exact ⟨_, ((l1.length : Int)), fr, H', ⟨by first | omega | exact Nat.le_refl _⟩, by repeat (first | exact Drawn0.refl _ | apply Drawn0.step)⟩
  rw [if_neg c4] at H
  have c4b0 : decide ((l0.length : Int) < (l1.length : Int)) = false := decide_eq_false c4
  have c4b1 : decide (l0.length < l1.length) = false := decide_eq_false (fun h => c4 (Int.ofNat_lt.mpr h))
  clear c4
  (first | rw [c4b0] | (simp only [i64_w, i32_w]; rw [c4b0]) | rw [c4b1] | skip)
  have H' := Aside0.mk H
  clear H
  go_wp2
  go_meet
  case rel => exact ⟨_, ((l0.length : Int)), fr, H', ⟨by first | omega | exact Nat.le_refl _⟩, by repeat (first | exact Drawn0.refl _ | apply Drawn0.step)⟩
 case rest =>
  clear HC3
  try clear c1
  try clear p2
  try clear c4b0
  try clear c4b1
  obtain ⟨kq, x5_2, rfl, HA, HJ2, ⟨mc2, rfl⟩⟩ := hcut
  cases kq with
  | zero => exact absurd HA.out (by simp [pochoirref01_Less.j0])
  | succ kj2 =>
   have H := HA.out
   clear HA
   simp only [pochoirref01_Less.j0] at H
   have H' := Aside0.mk H
   clear H
   go_wp2
   go_loopg [6] kj2 (fun kq v6 w' => ∃ (x6_2 : Int), v6 = .int .i64 x6_2 ∧ Aside0 (pochoirref01_Less.l0 kq l0 l1 x6_2 = some r) ∧ Aside0 (kq ≤ kj2) ∧ Drawn0 w w')
   case atStart => exact ⟨(wrap64 (x5_2 - 1)), fr, H', ⟨Nat.le_refl _⟩, by repeat (first | exact Drawn0.refl _ | apply Drawn0.step)⟩
   case round =>
    clear H'
    try clear c1
    try clear c2
    try clear p2
    try clear c4b0
    try clear c4b1
    try clear p2
    obtain ⟨x6_2, rfl, HA, HK2, ⟨m2, rfl⟩⟩ := hrel
    cases gk with
    | zero => exact absurd HA.out (by simp [pochoirref01_Less.l0])
    | succ k2 =>
     have H := HA.out
     clear HA
     simp only [pochoirref01_Less.l0] at H
     by_cases c5 : x6_2 ≥ 0
     ·rw [if_pos c5] at H
      have c5b0 : decide (0 ≤ x6_2) = true := decide_eq_true c5
      clear c5
      replace H := Option.bind_eq_some_iff.mp H
      obtain ⟨t367, A60, H⟩ := H
      replace H : ((pochoirref01_at.f l1 x6_2).bind fun t368 => (if t367 < t368 then (some (-1)) else ((pochoirref01_at.f l0 x6_2).bind fun t369 => ((pochoirref01_at.f l1 x6_2).bind fun t370 => (if t369 > t370 then (some 1) else (pochoirref01_Less.l0 k2 l0 l1 (wrap64 (x6_2 - 1)))))))) = some r := H
      have A6 := Aside0.mk A60
      clear A60
      replace H := Option.bind_eq_some_iff.mp H
      obtain ⟨t368, A70, H⟩ := H
      replace H : (if t367 < t368 then (some (-1)) else ((pochoirref01_at.f l0 x6_2).bind fun t369 => ((pochoirref01_at.f l1 x6_2).bind fun t370 => (if t369 > t370 then (some 1) else (pochoirref01_Less.l0 k2 l0 l1 (wrap64 (x6_2 - 1))))))) = some r := H
      have A7 := Aside0.mk A70
      clear A70
      by_cases c8 : t367 < t368
      ·rw [if_pos c8] at H
       have c8b0 := decide_eq_true c8
       clear c8
       obtain rfl := Option.some.inj H
       go_wp2_with (first | ((with_reducible refine gate_callee (f := 104) rfl ?_); refine goesL_ (some 23) rfl rfl Try.func104 (by kernel_rfl) rfl #[.slice A0 l0.length c0, .int .i64 x6_2] rfl am ?_; (with_reducible refine (pochoirref01_at.calls _ _ l0 x6_2 t367 _ ?side1 ?side2 A6.out).mono ?_); (case side1 => exact kc HR0.out); (case side2 => exact HC0.out); rintro e w' ⟨rfl, ⟨nd, rfl⟩⟩; refine ⟨_, rfl, ?_⟩) | ((with_reducible refine gate_callee (f := 104) rfl ?_); refine goesL_ (some 26) rfl rfl Try.func104 (by kernel_rfl) rfl #[.slice A1 l1.length c1, .int .i64 x6_2] rfl am ?_; (with_reducible refine (pochoirref01_at.calls _ _ l1 x6_2 t368 _ ?side1 ?side2 A7.out).mono ?_); (case side1 => exact kc HR1.out); (case side2 => exact HC1.out); rintro e w' ⟨rfl, ⟨nd, rfl⟩⟩; refine ⟨_, rfl, ?_⟩))
       go_ret
       exact ⟨fr, dr⟩
      rw [if_neg c8] at H
      have c8b0 := decide_eq_false c8
      clear c8
      replace H := Option.bind_eq_some_iff.mp H
      obtain ⟨t369, A90, H⟩ := H
      replace H : ((pochoirref01_at.f l1 x6_2).bind fun t370 => (if t369 > t370 then (some 1) else (pochoirref01_Less.l0 k2 l0 l1 (wrap64 (x6_2 - 1))))) = some r := H
      have A9 := Aside0.mk A90
      clear A90
      replace H := Option.bind_eq_some_iff.mp H
      obtain ⟨t370, A100, H⟩ := H
      replace H : (if t369 > t370 then (some 1) else (pochoirref01_Less.l0 k2 l0 l1 (wrap64 (x6_2 - 1)))) = some r := H
      have A10 := Aside0.mk A100
      clear A100
      by_cases c11 : t369 > t370
      ·rw [if_pos c11] at H
       have c11b0 : decide (t370 < t369) = true := decide_eq_true c11
       clear c11
       obtain rfl := Option.some.inj H
       go_wp2_with (first | ((with_reducible refine gate_callee (f := 104) rfl ?_); refine goesL_ (some 23) rfl rfl Try.func104 (by kernel_rfl) rfl #[.slice A0 l0.length c0, .int .i64 x6_2] rfl am ?_; (with_reducible refine (pochoirref01_at.calls _ _ l0 x6_2 t367 _ ?side1 ?side2 A6.out).mono ?_); (case side1 => exact kc HR0.out); (case side2 => exact HC0.out); rintro e w' ⟨rfl, ⟨nd, rfl⟩⟩; refine ⟨_, rfl, ?_⟩) | ((with_reducible refine gate_callee (f := 104) rfl ?_); refine goesL_ (some 26) rfl rfl Try.func104 (by kernel_rfl) rfl #[.slice A1 l1.length c1, .int .i64 x6_2] rfl am ?_; (with_reducible refine (pochoirref01_at.calls _ _ l1 x6_2 t368 _ ?side1 ?side2 A7.out).mono ?_); (case side1 => exact kc HR1.out); (case side2 => exact HC1.out); rintro e w' ⟨rfl, ⟨nd, rfl⟩⟩; refine ⟨_, rfl, ?_⟩) | ((with_reducible refine gate_callee (f := 104) rfl ?_); refine goesL_ (some 30) rfl rfl Try.func104 (by kernel_rfl) rfl #[.slice A0 l0.length c0, .int .i64 x6_2] rfl am ?_; (with_reducible refine (pochoirref01_at.calls _ _ l0 x6_2 t369 _ ?side1 ?side2 A9.out).mono ?_); (case side1 => exact kc HR0.out); (case side2 => exact HC0.out); rintro e w' ⟨rfl, ⟨nd, rfl⟩⟩; refine ⟨_, rfl, ?_⟩) | ((with_reducible refine gate_callee (f := 104) rfl ?_); refine goesL_ (some 33) rfl rfl Try.func104 (by kernel_rfl) rfl #[.slice A1 l1.length c1, .int .i64 x6_2] rfl am ?_; (with_reducible refine (pochoirref01_at.calls _ _ l1 x6_2 t370 _ ?side1 ?side2 A10.out).mono ?_); (case side1 => exact kc HR1.out); (case side2 => exact HC1.out); rintro e w' ⟨rfl, ⟨nd, rfl⟩⟩; refine ⟨_, rfl, ?_⟩))
       go_ret
       exact ⟨fr, dr⟩
      rw [if_neg c11] at H
      have c11b0 : decide (t370 < t369) = false := decide_eq_false c11
      clear c11
      have H' := Aside0.mk H
      clear H
      go_wp2_with (first | ((with_reducible refine gate_callee (f := 104) rfl ?_); refine goesL_ (some 23) rfl rfl Try.func104 (by kernel_rfl) rfl #[.slice A0 l0.length c0, .int .i64 x6_2] rfl am ?_; (with_reducible refine (pochoirref01_at.calls _ _ l0 x6_2 t367 _ ?side1 ?side2 A6.out).mono ?_); (case side1 => exact kc HR0.out); (case side2 => exact HC0.out); rintro e w' ⟨rfl, ⟨nd, rfl⟩⟩; refine ⟨_, rfl, ?_⟩) | ((with_reducible refine gate_callee (f := 104) rfl ?_); refine goesL_ (some 26) rfl rfl Try.func104 (by kernel_rfl) rfl #[.slice A1 l1.length c1, .int .i64 x6_2] rfl am ?_; (with_reducible refine (pochoirref01_at.calls _ _ l1 x6_2 t368 _ ?side1 ?side2 A7.out).mono ?_); (case side1 => exact kc HR1.out); (case side2 => exact HC1.out); rintro e w' ⟨rfl, ⟨nd, rfl⟩⟩; refine ⟨_, rfl, ?_⟩) | ((with_reducible refine gate_callee (f := 104) rfl ?_); refine goesL_ (some 30) rfl rfl Try.func104 (by kernel_rfl) rfl #[.slice A0 l0.length c0, .int .i64 x6_2] rfl am ?_; (with_reducible refine (pochoirref01_at.calls _ _ l0 x6_2 t369 _ ?side1 ?side2 A9.out).mono ?_); (case side1 => exact kc HR0.out); (case side2 => exact HC0.out); rintro e w' ⟨rfl, ⟨nd, rfl⟩⟩; refine ⟨_, rfl, ?_⟩) | ((with_reducible refine gate_callee (f := 104) rfl ?_); refine goesL_ (some 33) rfl rfl Try.func104 (by kernel_rfl) rfl #[.slice A1 l1.length c1, .int .i64 x6_2] rfl am ?_; (with_reducible refine (pochoirref01_at.calls _ _ l1 x6_2 t370 _ ?side1 ?side2 A10.out).mono ?_); (case side1 => exact kc HR1.out); (case side2 => exact HC1.out); rintro e w' ⟨rfl, ⟨nd, rfl⟩⟩; refine ⟨_, rfl, ?_⟩))
      go_roundg k2
      case measure => have := HJ2.out; have := HK2.out; omega
      case rel => exact ⟨(wrap64 (x6_2 - 1)), fr, H', ⟨by have := HJ2.out; have := HK2.out; omega⟩, by repeat (first | exact Drawn0.refl _ | apply Drawn0.step)⟩
     rw [if_neg c5] at H
     have c5b0 : decide (0 ≤ x6_2) = false := decide_eq_false c5
     clear c5
     obtain rfl := Option.some.inj H
     go_wp2
     go_ret
     exact ⟨fr, dr⟩

/-! ### pochoirref22_Is: function 30 -/
def pochoirref22_Is.f (k : Nat) (a0_0 : Int) (a0_1 : Bool) (a0_2 : Int) (a0_3 : Int) (a0_4 : Int) (a0_5 : Int) (a0_6 : Int) (a0_7 : Int) (a1_0 : Int) (a1_1 : Bool) (a1_2 : Int) (a1_3 : Int) (a1_4 : Int) (a1_5 : Int) (a1_6 : Int) (a1_7 : Int) : Option (Bool) := (pochoirref22_Last.f a0_0 a0_1 a0_2 a0_3 a0_4 a0_5 a0_6 a0_7).bind fun bt373 => ((pochoirref22_First.f a1_0 a1_1 a1_2 a1_3 a1_4 a1_5 a1_6 a1_7).bind fun bt376 => (if (wrap64 ((wrap64 (bt373.1 * bt376.1)) + (wrap64 (bt373.2 * bt376.2)))) ≤ 0 then (some true) else ((pochoirref22_digits.f k (wrap64 ((wrap64 (bt373.1 * bt376.2)) - (wrap64 (bt373.2 * bt376.1))))).bind fun t379 => ((pochoirref01_Times.f k t379 t379).bind fun t382 => ((pochoirref22_digits.f k 50).bind fun t385 => ((pochoirref01_Times.f k t382 t385).bind fun t388 => ((pochoirref22_digits.f k (wrap64 ((wrap64 (bt373.1 * bt373.1)) + (wrap64 (bt373.2 * bt373.2))))).bind fun t391 => ((pochoirref22_digits.f k (wrap64 ((wrap64 (bt376.1 * bt376.1)) + (wrap64 (bt376.2 * bt376.2))))).bind fun t394 => ((pochoirref01_Times.f k t391 t394).bind fun t397 => ((pochoirref01_Less.f k t388 t397).bind fun t400 => (some (decide (t400 > 0)))))))))))))
theorem pochoirref22_Is.mono : ∀ a0 a1 a2 a3 a4 a5 a6 a7 a8 a9 a10 a11 a12 a13 a14 a15 k, LeO (pochoirref22_Is.f k a0 a1 a2 a3 a4 a5 a6 a7 a8 a9 a10 a11 a12 a13 a14 a15) (pochoirref22_Is.f (k + 1) a0 a1 a2 a3 a4 a5 a6 a7 a8 a9 a10 a11 a12 a13 a14 a15) := by
 intro a0 a1 a2 a3 a4 a5 a6 a7 a8 a9 a10 a11 a12 a13 a14 a15 k
 unfold pochoirref22_Is.f
 repeat' first | (with_reducible first | exact pochoirref01_Less.mono _ _ _ | exact pochoirref01_Times.mono _ _ _ | exact pochoirref22_digits.mono _ _ | exact LeO.refl _ | exact LeO.none _ | refine LeO.ite ?_ ?_ | refine LeO.bind ?_ (fun _ => ?_)) | exact pochoirref01_Less.mono _ _ _ | exact pochoirref01_Times.mono _ _ _ | exact pochoirref22_digits.mono _ _ | exact LeO.none _ | refine LeO.ite ?_ ?_ | refine LeO.bind ?_ (fun _ => ?_)
set_option maxHeartbeats 8000000 in
set_option maxRecDepth 100000 in
theorem pochoirref22_Is.calls (k : Nat) (a0_0 : Int) (a0_1 : Bool) (a0_2 : Int) (a0_3 : Int) (a0_4 : Int) (a0_5 : Int) (a0_6 : Int) (a0_7 : Int) (a1_0 : Int) (a1_1 : Bool) (a1_2 : Int) (a1_3 : Int) (a1_4 : Int) (a1_5 : Int) (a1_6 : Int) (a1_7 : Int) (r : Bool) (w : World) (h : pochoirref22_Is.f k a0_0 a0_1 a0_2 a0_3 a0_4 a0_5 a0_6 a0_7 a1_0 a1_1 a1_2 a1_3 a1_4 a1_5 a1_6 a1_7 = some r) :
  Calls Try.prog 30 #[.agg #[.int .i64 a0_0, .bool a0_1, .int .i64 a0_2, .int .i64 a0_3, .int .i64 a0_4, .int .i64 a0_5, .int .i64 a0_6, .int .i64 a0_7], .agg #[.int .i64 a1_0, .bool a1_1, .int .i64 a1_2, .int .i64 a1_3, .int .i64 a1_4, .int .i64 a1_5, .int .i64 a1_6, .int .i64 a1_7]] w fun e w' => e = .returned (.bool r) ∧ Below w.heap.size w w' := by
 have hu38 := Try.underlying38
 have hu36 := Try.underlying36
 have HB := Aside0.mk (Below.refl w.heap.size w)
 have H := h
 clear h; unfold pochoirref22_Is.f at H
 replace H := Option.bind_eq_some_iff.mp H
 obtain ⟨⟨t373, t374⟩, A30, H⟩ := H
 replace H : ((pochoirref22_First.f a1_0 a1_1 a1_2 a1_3 a1_4 a1_5 a1_6 a1_7).bind fun bt376 => (if (wrap64 ((wrap64 (t373 * bt376.1)) + (wrap64 (t374 * bt376.2)))) ≤ 0 then (some true) else ((pochoirref22_digits.f k (wrap64 ((wrap64 (t373 * bt376.2)) - (wrap64 (t374 * bt376.1))))).bind fun t379 => ((pochoirref01_Times.f k t379 t379).bind fun t382 => ((pochoirref22_digits.f k 50).bind fun t385 => ((pochoirref01_Times.f k t382 t385).bind fun t388 => ((pochoirref22_digits.f k (wrap64 ((wrap64 (t373 * t373)) + (wrap64 (t374 * t374))))).bind fun t391 => ((pochoirref22_digits.f k (wrap64 ((wrap64 (bt376.1 * bt376.1)) + (wrap64 (bt376.2 * bt376.2))))).bind fun t394 => ((pochoirref01_Times.f k t391 t394).bind fun t397 => ((pochoirref01_Less.f k t388 t397).bind fun t400 => (some (decide (t400 > 0))))))))))))) = some r := H
 have A3 := Aside0.mk A30
 clear A30
 replace H := Option.bind_eq_some_iff.mp H
 obtain ⟨⟨t376, t377⟩, A40, H⟩ := H
 replace H : (if (wrap64 ((wrap64 (t373 * t376)) + (wrap64 (t374 * t377)))) ≤ 0 then (some true) else ((pochoirref22_digits.f k (wrap64 ((wrap64 (t373 * t377)) - (wrap64 (t374 * t376))))).bind fun t379 => ((pochoirref01_Times.f k t379 t379).bind fun t382 => ((pochoirref22_digits.f k 50).bind fun t385 => ((pochoirref01_Times.f k t382 t385).bind fun t388 => ((pochoirref22_digits.f k (wrap64 ((wrap64 (t373 * t373)) + (wrap64 (t374 * t374))))).bind fun t391 => ((pochoirref22_digits.f k (wrap64 ((wrap64 (t376 * t376)) + (wrap64 (t377 * t377))))).bind fun t394 => ((pochoirref01_Times.f k t391 t394).bind fun t397 => ((pochoirref01_Less.f k t388 t397).bind fun t400 => (some (decide (t400 > 0)))))))))))) = some r := H
 have A4 := Aside0.mk A40
 clear A40
 by_cases c5 : (wrap64 ((wrap64 (t373 * t376)) + (wrap64 (t374 * t377)))) ≤ 0
 ·rw [if_pos c5] at H
  have c5b0 := decide_eq_true c5
  clear c5
  obtain rfl := Option.some.inj H
  go_enter Try.func30, Try.ntmps30
  go_wp2_with (first | ((with_reducible refine gate_dst (N := 2) rfl ?_); refine be 2 (#[.int .i64 a0_0, .bool a0_1, .int .i64 a0_2, .int .i64 a0_3, .int .i64 a0_4, .int .i64 a0_5, .int .i64 a0_6, .int .i64 a0_7]) 38 ?_; intro gb371 hg w6 hbox hb; have BK371 := Aside0.mk (hbox); have GW371 := Aside0.mk (gz (w := w) hg (bl0 HB.out)); have GE371 := GW371; replace HB := Aside0.mk (below_step (bl0 HB.out) hb); clear hb hbox hg) | ((with_reducible refine gate_dst (N := 3) rfl ?_); refine be 3 (#[.int .i64 a1_0, .bool a1_1, .int .i64 a1_2, .int .i64 a1_3, .int .i64 a1_4, .int .i64 a1_5, .int .i64 a1_6, .int .i64 a1_7]) 38 ?_; intro gb372 hg w7 hbox hb; have BK372 := Aside0.mk (hbox); have GW372 := Aside0.mk (gz (w := w) hg (bl1 HB.out GE371.out)); have GE372 := GW372; have NB371_372 := Aside0.mk (nl hg BK371.out); have NB372_371 := Aside0.mk (nr hg BK371.out); replace BK371 := Aside0.mk (bb BK371.out hb); replace HB := Aside0.mk (below_step (bl1 HB.out GE371.out) hb); clear hb hbox hg; have hnb8 := NB371_372.out; have hnc8 := NB372_371.out; have hcz9_0 : w7.cell? ⟨gb371, 0, none⟩ = some (.int .i64 a0_0) := (blk_cell BK371.out 0).trans rfl; have hcz9_1 : w7.cell? ⟨gb371, 1, none⟩ = some (.bool a0_1) := (blk_cell BK371.out 1).trans rfl; have hcz9_2 : w7.cell? ⟨gb371, 2, none⟩ = some (.int .i64 a0_2) := (blk_cell BK371.out 2).trans rfl; have hcz9_3 : w7.cell? ⟨gb371, 3, none⟩ = some (.int .i64 a0_3) := (blk_cell BK371.out 3).trans rfl; have hcz9_4 : w7.cell? ⟨gb371, 4, none⟩ = some (.int .i64 a0_4) := (blk_cell BK371.out 4).trans rfl; have hcz9_5 : w7.cell? ⟨gb371, 5, none⟩ = some (.int .i64 a0_5) := (blk_cell BK371.out 5).trans rfl; have hcz9_6 : w7.cell? ⟨gb371, 6, none⟩ = some (.int .i64 a0_6) := (blk_cell BK371.out 6).trans rfl; have hcz9_7 : w7.cell? ⟨gb371, 7, none⟩ = some (.int .i64 a0_7) := (blk_cell BK371.out 7).trans rfl; have hfz9_0 := blk_frozen BK371.out 0; have hfz9_1 := blk_frozen BK371.out 1; have hfz9_2 := blk_frozen BK371.out 2; have hfz9_3 := blk_frozen BK371.out 3; have hfz9_4 := blk_frozen BK371.out 4; have hfz9_5 := blk_frozen BK371.out 5; have hfz9_6 := blk_frozen BK371.out 6; have hfz9_7 := blk_frozen BK371.out 7) | ((with_reducible refine gate_callee (f := 29) rfl ?_); refine goesL_ (some 14) rfl rfl Try.func29 (by kernel_rfl) rfl #[.agg #[.int .i64 a0_0, .bool a0_1, .int .i64 a0_2, .int .i64 a0_3, .int .i64 a0_4, .int .i64 a0_5, .int .i64 a0_6, .int .i64 a0_7]] rfl am ?_; (with_reducible refine (pochoirref22_Last.calls a0_0 a0_1 a0_2 a0_3 a0_4 a0_5 a0_6 a0_7 t373 t374 _ A3.out).mono ?_); rintro e w10 ⟨rfl, hb⟩; refine ⟨_, rfl, ?_⟩; replace BK371 := Aside0.mk (bb BK371.out hb); replace BK372 := Aside0.mk (bb BK372.out hb); replace HB := Aside0.mk (below_step (bl2 HB.out GE371.out GE372.out) hb); (try clear hb)) | ((with_reducible refine gate_dst (N := 5) rfl ?_); refine be 5 (#[.int .i64 0, .int .i64 0]) 36 ?_; intro gb375 hg w11 hbox hb; have BK375 := Aside0.mk (hbox); have GW375 := Aside0.mk (gz (w := w) hg (bl2 HB.out GE371.out GE372.out)); have GE375 := GW375; have NB371_375 := Aside0.mk (nl hg BK371.out); have NB375_371 := Aside0.mk (nr hg BK371.out); have NB372_375 := Aside0.mk (nl hg BK372.out); have NB375_372 := Aside0.mk (nr hg BK372.out); replace BK371 := Aside0.mk (bb BK371.out hb); replace BK372 := Aside0.mk (bb BK372.out hb); replace HB := Aside0.mk (below_step (bl2 HB.out GE371.out GE372.out) hb); clear hb hbox hg; have hnb12 := NB375_371.out; have hnc12 := NB371_375.out; have hnb13 := NB375_372.out; have hnc13 := NB372_375.out; have hcz14_0 : w11.cell? ⟨gb375, 0, none⟩ = some (.int .i64 0) := (blk_cell BK375.out 0).trans rfl; have hcz14_1 : w11.cell? ⟨gb375, 1, none⟩ = some (.int .i64 0) := (blk_cell BK375.out 1).trans rfl; have hfz14_0 := blk_frozen BK375.out 0; have hfz14_1 := blk_frozen BK375.out 1; have hcz15_0 : w11.cell? ⟨gb372, 0, none⟩ = some (.int .i64 a1_0) := (blk_cell BK372.out 0).trans rfl; have hcz15_1 : w11.cell? ⟨gb372, 1, none⟩ = some (.bool a1_1) := (blk_cell BK372.out 1).trans rfl; have hcz15_2 : w11.cell? ⟨gb372, 2, none⟩ = some (.int .i64 a1_2) := (blk_cell BK372.out 2).trans rfl; have hcz15_3 : w11.cell? ⟨gb372, 3, none⟩ = some (.int .i64 a1_3) := (blk_cell BK372.out 3).trans rfl; have hcz15_4 : w11.cell? ⟨gb372, 4, none⟩ = some (.int .i64 a1_4) := (blk_cell BK372.out 4).trans rfl; have hcz15_5 : w11.cell? ⟨gb372, 5, none⟩ = some (.int .i64 a1_5) := (blk_cell BK372.out 5).trans rfl; have hcz15_6 : w11.cell? ⟨gb372, 6, none⟩ = some (.int .i64 a1_6) := (blk_cell BK372.out 6).trans rfl; have hcz15_7 : w11.cell? ⟨gb372, 7, none⟩ = some (.int .i64 a1_7) := (blk_cell BK372.out 7).trans rfl; have hfz15_0 := blk_frozen BK372.out 0; have hfz15_1 := blk_frozen BK372.out 1; have hfz15_2 := blk_frozen BK372.out 2; have hfz15_3 := blk_frozen BK372.out 3; have hfz15_4 := blk_frozen BK372.out 4; have hfz15_5 := blk_frozen BK372.out 5; have hfz15_6 := blk_frozen BK372.out 6; have hfz15_7 := blk_frozen BK372.out 7) | ((with_reducible refine gate_callee (f := 28) rfl ?_); refine goesL_ (some 16) rfl rfl Try.func28 (by kernel_rfl) rfl #[.agg #[.int .i64 a1_0, .bool a1_1, .int .i64 a1_2, .int .i64 a1_3, .int .i64 a1_4, .int .i64 a1_5, .int .i64 a1_6, .int .i64 a1_7]] rfl am ?_; (with_reducible refine (pochoirref22_First.calls a1_0 a1_1 a1_2 a1_3 a1_4 a1_5 a1_6 a1_7 t376 t377 _ A4.out).mono ?_); rintro e w16 ⟨rfl, hb⟩; refine ⟨_, rfl, ?_⟩; replace BK371 := Aside0.mk (blk_below (g := gb371) (o := .cells #[.int .i64 a0_0, .bool a0_1, .int .i64 a0_2, .int .i64 a0_3, .int .i64 a0_4, .int .i64 a0_5, .int .i64 a0_6, .int .i64 a0_7] 38 (0, 0)) (by (with_reducible repeat (first | refine blk_drewN ?_ _ | refine blk_drew ?_ | refine blk_alloc ?_ _)); refine blk_far ?_ NB371_375.out _; (with_reducible repeat (first | refine blk_drewN ?_ _ | refine blk_drew ?_ | refine blk_alloc ?_ _)); refine blk_far ?_ NB371_375.out _; (with_reducible repeat (first | refine blk_drewN ?_ _ | refine blk_drew ?_ | refine blk_alloc ?_ _)); exact BK371.out) hb); replace BK372 := Aside0.mk (blk_below (g := gb372) (o := .cells #[.int .i64 a1_0, .bool a1_1, .int .i64 a1_2, .int .i64 a1_3, .int .i64 a1_4, .int .i64 a1_5, .int .i64 a1_6, .int .i64 a1_7] 38 (0, 0)) (by (with_reducible repeat (first | refine blk_drewN ?_ _ | refine blk_drew ?_ | refine blk_alloc ?_ _)); refine blk_far ?_ NB372_375.out _; (with_reducible repeat (first | refine blk_drewN ?_ _ | refine blk_drew ?_ | refine blk_alloc ?_ _)); refine blk_far ?_ NB372_375.out _; (with_reducible repeat (first | refine blk_drewN ?_ _ | refine blk_drew ?_ | refine blk_alloc ?_ _)); exact BK372.out) hb); replace BK375 := Aside0.mk (blk_below (g := gb375) (o := .cells #[.int .i64 t373, .int .i64 t374] 36 (0, 0)) (by (with_reducible repeat (first | refine blk_drewN ?_ _ | refine blk_drew ?_ | refine blk_alloc ?_ _)); refine blk_put (cs := #[.int .i64 t373, .int .i64 0]) ?_ 1 _ rfl; (with_reducible repeat (first | refine blk_drewN ?_ _ | refine blk_drew ?_ | refine blk_alloc ?_ _)); refine blk_put (cs := #[.int .i64 0, .int .i64 0]) ?_ 0 _ rfl; (with_reducible repeat (first | refine blk_drewN ?_ _ | refine blk_drew ?_ | refine blk_alloc ?_ _)); exact BK375.out) hb); replace HB := Aside0.mk (below_step (bl3 HB.out GE371.out GE372.out GE375.out) hb); (try clear hb)) | ((with_reducible refine gate_dst (N := 6) rfl ?_); refine be 6 (#[.int .i64 0, .int .i64 0]) 36 ?_; intro gb378 hg w17 hbox hb; have BK378 := Aside0.mk (hbox); have GW378 := Aside0.mk (gz (w := w) hg (bl3 HB.out GE371.out GE372.out GE375.out)); have GE378 := GW378; have NB371_378 := Aside0.mk (nl hg BK371.out); have NB378_371 := Aside0.mk (nr hg BK371.out); have NB372_378 := Aside0.mk (nl hg BK372.out); have NB378_372 := Aside0.mk (nr hg BK372.out); have NB375_378 := Aside0.mk (nl hg BK375.out); have NB378_375 := Aside0.mk (nr hg BK375.out); replace BK371 := Aside0.mk (bb BK371.out hb); replace BK372 := Aside0.mk (bb BK372.out hb); replace BK375 := Aside0.mk (bb BK375.out hb); replace HB := Aside0.mk (below_step (bl3 HB.out GE371.out GE372.out GE375.out) hb); clear hb hbox hg; have hnb18 := NB378_371.out; have hnc18 := NB371_378.out; have hnb19 := NB378_372.out; have hnc19 := NB372_378.out; have hnb20 := NB378_375.out; have hnc20 := NB375_378.out; have hcz21_0 : w17.cell? ⟨gb378, 0, none⟩ = some (.int .i64 0) := (blk_cell BK378.out 0).trans rfl; have hcz21_1 : w17.cell? ⟨gb378, 1, none⟩ = some (.int .i64 0) := (blk_cell BK378.out 1).trans rfl; have hfz21_0 := blk_frozen BK378.out 0; have hfz21_1 := blk_frozen BK378.out 1; have hcz22_0 : w17.cell? ⟨gb375, 0, none⟩ = some (.int .i64 t373) := (blk_cell BK375.out 0).trans rfl; have hcz22_1 : w17.cell? ⟨gb375, 1, none⟩ = some (.int .i64 t374) := (blk_cell BK375.out 1).trans rfl; have hfz22_0 := blk_frozen BK375.out 0; have hfz22_1 := blk_frozen BK375.out 1))
  go_ret
  exact ⟨by first | rfl | (simp [errW_none, errW_some] <;> rfl) | (simp [*, errW_none, errW_some] <;> rfl), bl4 HB.out GE371.out GE372.out GE375.out GE378.out⟩
 rw [if_neg c5] at H
 have c5b0 := decide_eq_false c5
 clear c5
 replace H := Option.bind_eq_some_iff.mp H
 obtain ⟨t379, A230, H⟩ := H
 replace H : ((pochoirref01_Times.f k t379 t379).bind fun t382 => ((pochoirref22_digits.f k 50).bind fun t385 => ((pochoirref01_Times.f k t382 t385).bind fun t388 => ((pochoirref22_digits.f k (wrap64 ((wrap64 (t373 * t373)) + (wrap64 (t374 * t374))))).bind fun t391 => ((pochoirref22_digits.f k (wrap64 ((wrap64 (t376 * t376)) + (wrap64 (t377 * t377))))).bind fun t394 => ((pochoirref01_Times.f k t391 t394).bind fun t397 => ((pochoirref01_Less.f k t388 t397).bind fun t400 => (some (decide (t400 > 0)))))))))) = some r := H
 have A23 := Aside0.mk A230
 clear A230
 replace H := Option.bind_eq_some_iff.mp H
 obtain ⟨t382, A240, H⟩ := H
 replace H : ((pochoirref22_digits.f k 50).bind fun t385 => ((pochoirref01_Times.f k t382 t385).bind fun t388 => ((pochoirref22_digits.f k (wrap64 ((wrap64 (t373 * t373)) + (wrap64 (t374 * t374))))).bind fun t391 => ((pochoirref22_digits.f k (wrap64 ((wrap64 (t376 * t376)) + (wrap64 (t377 * t377))))).bind fun t394 => ((pochoirref01_Times.f k t391 t394).bind fun t397 => ((pochoirref01_Less.f k t388 t397).bind fun t400 => (some (decide (t400 > 0))))))))) = some r := H
 have A24 := Aside0.mk A240
 clear A240
 replace H := Option.bind_eq_some_iff.mp H
 obtain ⟨t385, A250, H⟩ := H
 replace H : ((pochoirref01_Times.f k t382 t385).bind fun t388 => ((pochoirref22_digits.f k (wrap64 ((wrap64 (t373 * t373)) + (wrap64 (t374 * t374))))).bind fun t391 => ((pochoirref22_digits.f k (wrap64 ((wrap64 (t376 * t376)) + (wrap64 (t377 * t377))))).bind fun t394 => ((pochoirref01_Times.f k t391 t394).bind fun t397 => ((pochoirref01_Less.f k t388 t397).bind fun t400 => (some (decide (t400 > 0)))))))) = some r := H
 have A25 := Aside0.mk A250
 clear A250
 replace H := Option.bind_eq_some_iff.mp H
 obtain ⟨t388, A260, H⟩ := H
 replace H : ((pochoirref22_digits.f k (wrap64 ((wrap64 (t373 * t373)) + (wrap64 (t374 * t374))))).bind fun t391 => ((pochoirref22_digits.f k (wrap64 ((wrap64 (t376 * t376)) + (wrap64 (t377 * t377))))).bind fun t394 => ((pochoirref01_Times.f k t391 t394).bind fun t397 => ((pochoirref01_Less.f k t388 t397).bind fun t400 => (some (decide (t400 > 0))))))) = some r := H
 have A26 := Aside0.mk A260
 clear A260
 replace H := Option.bind_eq_some_iff.mp H
 obtain ⟨t391, A270, H⟩ := H
 replace H : ((pochoirref22_digits.f k (wrap64 ((wrap64 (t376 * t376)) + (wrap64 (t377 * t377))))).bind fun t394 => ((pochoirref01_Times.f k t391 t394).bind fun t397 => ((pochoirref01_Less.f k t388 t397).bind fun t400 => (some (decide (t400 > 0)))))) = some r := H
 have A27 := Aside0.mk A270
 clear A270
 replace H := Option.bind_eq_some_iff.mp H
 obtain ⟨t394, A280, H⟩ := H
 replace H : ((pochoirref01_Times.f k t391 t394).bind fun t397 => ((pochoirref01_Less.f k t388 t397).bind fun t400 => (some (decide (t400 > 0))))) = some r := H
 have A28 := Aside0.mk A280
 clear A280
 replace H := Option.bind_eq_some_iff.mp H
 obtain ⟨t397, A290, H⟩ := H
 replace H : ((pochoirref01_Less.f k t388 t397).bind fun t400 => (some (decide (t400 > 0)))) = some r := H
 have A29 := Aside0.mk A290
 clear A290
 replace H := Option.bind_eq_some_iff.mp H
 obtain ⟨t400, A300, H⟩ := H
 replace H : (some (decide (t400 > 0))) = some r := H
 have A30 := Aside0.mk A300
 clear A300
 obtain rfl := Option.some.inj H
 go_enter Try.func30, Try.ntmps30
 go_wp2_with (first | ((with_reducible refine gate_dst (N := 2) rfl ?_); refine be 2 (#[.int .i64 a0_0, .bool a0_1, .int .i64 a0_2, .int .i64 a0_3, .int .i64 a0_4, .int .i64 a0_5, .int .i64 a0_6, .int .i64 a0_7]) 38 ?_; intro gb371 hg w31 hbox hb; have BK371 := Aside0.mk (hbox); have GW371 := Aside0.mk (gz (w := w) hg (bl0 HB.out)); have GE371 := GW371; replace HB := Aside0.mk (below_step (bl0 HB.out) hb); clear hb hbox hg) | ((with_reducible refine gate_dst (N := 3) rfl ?_); refine be 3 (#[.int .i64 a1_0, .bool a1_1, .int .i64 a1_2, .int .i64 a1_3, .int .i64 a1_4, .int .i64 a1_5, .int .i64 a1_6, .int .i64 a1_7]) 38 ?_; intro gb372 hg w32 hbox hb; have BK372 := Aside0.mk (hbox); have GW372 := Aside0.mk (gz (w := w) hg (bl1 HB.out GE371.out)); have GE372 := GW372; have NB371_372 := Aside0.mk (nl hg BK371.out); have NB372_371 := Aside0.mk (nr hg BK371.out); replace BK371 := Aside0.mk (bb BK371.out hb); replace HB := Aside0.mk (below_step (bl1 HB.out GE371.out) hb); clear hb hbox hg; have hnb33 := NB371_372.out; have hnc33 := NB372_371.out; have hcz34_0 : w32.cell? ⟨gb371, 0, none⟩ = some (.int .i64 a0_0) := (blk_cell BK371.out 0).trans rfl; have hcz34_1 : w32.cell? ⟨gb371, 1, none⟩ = some (.bool a0_1) := (blk_cell BK371.out 1).trans rfl; have hcz34_2 : w32.cell? ⟨gb371, 2, none⟩ = some (.int .i64 a0_2) := (blk_cell BK371.out 2).trans rfl; have hcz34_3 : w32.cell? ⟨gb371, 3, none⟩ = some (.int .i64 a0_3) := (blk_cell BK371.out 3).trans rfl; have hcz34_4 : w32.cell? ⟨gb371, 4, none⟩ = some (.int .i64 a0_4) := (blk_cell BK371.out 4).trans rfl; have hcz34_5 : w32.cell? ⟨gb371, 5, none⟩ = some (.int .i64 a0_5) := (blk_cell BK371.out 5).trans rfl; have hcz34_6 : w32.cell? ⟨gb371, 6, none⟩ = some (.int .i64 a0_6) := (blk_cell BK371.out 6).trans rfl; have hcz34_7 : w32.cell? ⟨gb371, 7, none⟩ = some (.int .i64 a0_7) := (blk_cell BK371.out 7).trans rfl; have hfz34_0 := blk_frozen BK371.out 0; have hfz34_1 := blk_frozen BK371.out 1; have hfz34_2 := blk_frozen BK371.out 2; have hfz34_3 := blk_frozen BK371.out 3; have hfz34_4 := blk_frozen BK371.out 4; have hfz34_5 := blk_frozen BK371.out 5; have hfz34_6 := blk_frozen BK371.out 6; have hfz34_7 := blk_frozen BK371.out 7) | ((with_reducible refine gate_callee (f := 29) rfl ?_); refine goesL_ (some 14) rfl rfl Try.func29 (by kernel_rfl) rfl #[.agg #[.int .i64 a0_0, .bool a0_1, .int .i64 a0_2, .int .i64 a0_3, .int .i64 a0_4, .int .i64 a0_5, .int .i64 a0_6, .int .i64 a0_7]] rfl am ?_; (with_reducible refine (pochoirref22_Last.calls a0_0 a0_1 a0_2 a0_3 a0_4 a0_5 a0_6 a0_7 t373 t374 _ A3.out).mono ?_); rintro e w35 ⟨rfl, hb⟩; refine ⟨_, rfl, ?_⟩; replace BK371 := Aside0.mk (bb BK371.out hb); replace BK372 := Aside0.mk (bb BK372.out hb); replace HB := Aside0.mk (below_step (bl2 HB.out GE371.out GE372.out) hb); (try clear hb)) | ((with_reducible refine gate_dst (N := 5) rfl ?_); refine be 5 (#[.int .i64 0, .int .i64 0]) 36 ?_; intro gb375 hg w36 hbox hb; have BK375 := Aside0.mk (hbox); have GW375 := Aside0.mk (gz (w := w) hg (bl2 HB.out GE371.out GE372.out)); have GE375 := GW375; have NB371_375 := Aside0.mk (nl hg BK371.out); have NB375_371 := Aside0.mk (nr hg BK371.out); have NB372_375 := Aside0.mk (nl hg BK372.out); have NB375_372 := Aside0.mk (nr hg BK372.out); replace BK371 := Aside0.mk (bb BK371.out hb); replace BK372 := Aside0.mk (bb BK372.out hb); replace HB := Aside0.mk (below_step (bl2 HB.out GE371.out GE372.out) hb); clear hb hbox hg; have hnb37 := NB375_371.out; have hnc37 := NB371_375.out; have hnb38 := NB375_372.out; have hnc38 := NB372_375.out; have hcz39_0 : w36.cell? ⟨gb375, 0, none⟩ = some (.int .i64 0) := (blk_cell BK375.out 0).trans rfl; have hcz39_1 : w36.cell? ⟨gb375, 1, none⟩ = some (.int .i64 0) := (blk_cell BK375.out 1).trans rfl; have hfz39_0 := blk_frozen BK375.out 0; have hfz39_1 := blk_frozen BK375.out 1; have hcz40_0 : w36.cell? ⟨gb372, 0, none⟩ = some (.int .i64 a1_0) := (blk_cell BK372.out 0).trans rfl; have hcz40_1 : w36.cell? ⟨gb372, 1, none⟩ = some (.bool a1_1) := (blk_cell BK372.out 1).trans rfl; have hcz40_2 : w36.cell? ⟨gb372, 2, none⟩ = some (.int .i64 a1_2) := (blk_cell BK372.out 2).trans rfl; have hcz40_3 : w36.cell? ⟨gb372, 3, none⟩ = some (.int .i64 a1_3) := (blk_cell BK372.out 3).trans rfl; have hcz40_4 : w36.cell? ⟨gb372, 4, none⟩ = some (.int .i64 a1_4) := (blk_cell BK372.out 4).trans rfl; have hcz40_5 : w36.cell? ⟨gb372, 5, none⟩ = some (.int .i64 a1_5) := (blk_cell BK372.out 5).trans rfl; have hcz40_6 : w36.cell? ⟨gb372, 6, none⟩ = some (.int .i64 a1_6) := (blk_cell BK372.out 6).trans rfl; have hcz40_7 : w36.cell? ⟨gb372, 7, none⟩ = some (.int .i64 a1_7) := (blk_cell BK372.out 7).trans rfl; have hfz40_0 := blk_frozen BK372.out 0; have hfz40_1 := blk_frozen BK372.out 1; have hfz40_2 := blk_frozen BK372.out 2; have hfz40_3 := blk_frozen BK372.out 3; have hfz40_4 := blk_frozen BK372.out 4; have hfz40_5 := blk_frozen BK372.out 5; have hfz40_6 := blk_frozen BK372.out 6; have hfz40_7 := blk_frozen BK372.out 7) | ((with_reducible refine gate_callee (f := 28) rfl ?_); refine goesL_ (some 16) rfl rfl Try.func28 (by kernel_rfl) rfl #[.agg #[.int .i64 a1_0, .bool a1_1, .int .i64 a1_2, .int .i64 a1_3, .int .i64 a1_4, .int .i64 a1_5, .int .i64 a1_6, .int .i64 a1_7]] rfl am ?_; (with_reducible refine (pochoirref22_First.calls a1_0 a1_1 a1_2 a1_3 a1_4 a1_5 a1_6 a1_7 t376 t377 _ A4.out).mono ?_); rintro e w41 ⟨rfl, hb⟩; refine ⟨_, rfl, ?_⟩; replace BK371 := Aside0.mk (blk_below (g := gb371) (o := .cells #[.int .i64 a0_0, .bool a0_1, .int .i64 a0_2, .int .i64 a0_3, .int .i64 a0_4, .int .i64 a0_5, .int .i64 a0_6, .int .i64 a0_7] 38 (0, 0)) (by (with_reducible repeat (first | refine blk_drewN ?_ _ | refine blk_drew ?_ | refine blk_alloc ?_ _)); refine blk_far ?_ NB371_375.out _; (with_reducible repeat (first | refine blk_drewN ?_ _ | refine blk_drew ?_ | refine blk_alloc ?_ _)); refine blk_far ?_ NB371_375.out _; (with_reducible repeat (first | refine blk_drewN ?_ _ | refine blk_drew ?_ | refine blk_alloc ?_ _)); exact BK371.out) hb); replace BK372 := Aside0.mk (blk_below (g := gb372) (o := .cells #[.int .i64 a1_0, .bool a1_1, .int .i64 a1_2, .int .i64 a1_3, .int .i64 a1_4, .int .i64 a1_5, .int .i64 a1_6, .int .i64 a1_7] 38 (0, 0)) (by (with_reducible repeat (first | refine blk_drewN ?_ _ | refine blk_drew ?_ | refine blk_alloc ?_ _)); refine blk_far ?_ NB372_375.out _; (with_reducible repeat (first | refine blk_drewN ?_ _ | refine blk_drew ?_ | refine blk_alloc ?_ _)); refine blk_far ?_ NB372_375.out _; (with_reducible repeat (first | refine blk_drewN ?_ _ | refine blk_drew ?_ | refine blk_alloc ?_ _)); exact BK372.out) hb); replace BK375 := Aside0.mk (blk_below (g := gb375) (o := .cells #[.int .i64 t373, .int .i64 t374] 36 (0, 0)) (by (with_reducible repeat (first | refine blk_drewN ?_ _ | refine blk_drew ?_ | refine blk_alloc ?_ _)); refine blk_put (cs := #[.int .i64 t373, .int .i64 0]) ?_ 1 _ rfl; (with_reducible repeat (first | refine blk_drewN ?_ _ | refine blk_drew ?_ | refine blk_alloc ?_ _)); refine blk_put (cs := #[.int .i64 0, .int .i64 0]) ?_ 0 _ rfl; (with_reducible repeat (first | refine blk_drewN ?_ _ | refine blk_drew ?_ | refine blk_alloc ?_ _)); exact BK375.out) hb); replace HB := Aside0.mk (below_step (bl3 HB.out GE371.out GE372.out GE375.out) hb); (try clear hb)) | ((with_reducible refine gate_dst (N := 6) rfl ?_); refine be 6 (#[.int .i64 0, .int .i64 0]) 36 ?_; intro gb378 hg w42 hbox hb; have BK378 := Aside0.mk (hbox); have GW378 := Aside0.mk (gz (w := w) hg (bl3 HB.out GE371.out GE372.out GE375.out)); have GE378 := GW378; have NB371_378 := Aside0.mk (nl hg BK371.out); have NB378_371 := Aside0.mk (nr hg BK371.out); have NB372_378 := Aside0.mk (nl hg BK372.out); have NB378_372 := Aside0.mk (nr hg BK372.out); have NB375_378 := Aside0.mk (nl hg BK375.out); have NB378_375 := Aside0.mk (nr hg BK375.out); replace BK371 := Aside0.mk (bb BK371.out hb); replace BK372 := Aside0.mk (bb BK372.out hb); replace BK375 := Aside0.mk (bb BK375.out hb); replace HB := Aside0.mk (below_step (bl3 HB.out GE371.out GE372.out GE375.out) hb); clear hb hbox hg; have hnb43 := NB378_371.out; have hnc43 := NB371_378.out; have hnb44 := NB378_372.out; have hnc44 := NB372_378.out; have hnb45 := NB378_375.out; have hnc45 := NB375_378.out; have hcz46_0 : w42.cell? ⟨gb378, 0, none⟩ = some (.int .i64 0) := (blk_cell BK378.out 0).trans rfl; have hcz46_1 : w42.cell? ⟨gb378, 1, none⟩ = some (.int .i64 0) := (blk_cell BK378.out 1).trans rfl; have hfz46_0 := blk_frozen BK378.out 0; have hfz46_1 := blk_frozen BK378.out 1; have hcz47_0 : w42.cell? ⟨gb375, 0, none⟩ = some (.int .i64 t373) := (blk_cell BK375.out 0).trans rfl; have hcz47_1 : w42.cell? ⟨gb375, 1, none⟩ = some (.int .i64 t374) := (blk_cell BK375.out 1).trans rfl; have hfz47_0 := blk_frozen BK375.out 0; have hfz47_1 := blk_frozen BK375.out 1) | ((with_reducible refine gate_callee (f := 71) rfl ?_); refine goesL_ (some 64) rfl rfl Try.func71 (by kernel_rfl) rfl #[.int .i64 (wrap64 ((wrap64 (t373 * t377)) - (wrap64 (t374 * t376))))] rfl am ?_; (with_reducible refine (pochoirref22_digits.calls k (wrap64 ((wrap64 (t373 * t377)) - (wrap64 (t374 * t376)))) t379 _ A23.out).mono ?_); rintro e w48 ⟨v380, rfl, ho0, hb⟩; refine ⟨_, rfl, ?_⟩; have HO381 := Aside0.mk (Kd.R_lower ho0 (below_size (bl4 HB.out GE371.out GE372.out GE375.out GE378.out))); replace BK371 := Aside0.mk (blk_below (g := gb371) (o := .cells #[.int .i64 a0_0, .bool a0_1, .int .i64 a0_2, .int .i64 a0_3, .int .i64 a0_4, .int .i64 a0_5, .int .i64 a0_6, .int .i64 a0_7] 38 (0, 0)) (by (with_reducible repeat (first | refine blk_drewN ?_ _ | refine blk_drew ?_ | refine blk_alloc ?_ _)); refine blk_far ?_ NB371_378.out _; (with_reducible repeat (first | refine blk_drewN ?_ _ | refine blk_drew ?_ | refine blk_alloc ?_ _)); refine blk_far ?_ NB371_378.out _; (with_reducible repeat (first | refine blk_drewN ?_ _ | refine blk_drew ?_ | refine blk_alloc ?_ _)); exact BK371.out) hb); replace BK372 := Aside0.mk (blk_below (g := gb372) (o := .cells #[.int .i64 a1_0, .bool a1_1, .int .i64 a1_2, .int .i64 a1_3, .int .i64 a1_4, .int .i64 a1_5, .int .i64 a1_6, .int .i64 a1_7] 38 (0, 0)) (by (with_reducible repeat (first | refine blk_drewN ?_ _ | refine blk_drew ?_ | refine blk_alloc ?_ _)); refine blk_far ?_ NB372_378.out _; (with_reducible repeat (first | refine blk_drewN ?_ _ | refine blk_drew ?_ | refine blk_alloc ?_ _)); refine blk_far ?_ NB372_378.out _; (with_reducible repeat (first | refine blk_drewN ?_ _ | refine blk_drew ?_ | refine blk_alloc ?_ _)); exact BK372.out) hb); replace BK375 := Aside0.mk (blk_below (g := gb375) (o := .cells #[.int .i64 t373, .int .i64 t374] 36 (0, 0)) (by (with_reducible repeat (first | refine blk_drewN ?_ _ | refine blk_drew ?_ | refine blk_alloc ?_ _)); refine blk_far ?_ NB375_378.out _; (with_reducible repeat (first | refine blk_drewN ?_ _ | refine blk_drew ?_ | refine blk_alloc ?_ _)); refine blk_far ?_ NB375_378.out _; (with_reducible repeat (first | refine blk_drewN ?_ _ | refine blk_drew ?_ | refine blk_alloc ?_ _)); exact BK375.out) hb); replace BK378 := Aside0.mk (blk_below (g := gb378) (o := .cells #[.int .i64 t376, .int .i64 t377] 36 (0, 0)) (by (with_reducible repeat (first | refine blk_drewN ?_ _ | refine blk_drew ?_ | refine blk_alloc ?_ _)); refine blk_put (cs := #[.int .i64 t376, .int .i64 0]) ?_ 1 _ rfl; (with_reducible repeat (first | refine blk_drewN ?_ _ | refine blk_drew ?_ | refine blk_alloc ?_ _)); refine blk_put (cs := #[.int .i64 0, .int .i64 0]) ?_ 0 _ rfl; (with_reducible repeat (first | refine blk_drewN ?_ _ | refine blk_drew ?_ | refine blk_alloc ?_ _)); exact BK378.out) hb); replace HB := Aside0.mk (below_step (bl4 HB.out GE371.out GE372.out GE375.out GE378.out) hb); (try clear hb); (try clear ho0); obtain ⟨Ao49, co49, eo49⟩ := Kd.R_slice HO381.out; subst eo49) | ((with_reducible refine gate_callee (f := 72) rfl ?_); refine goesL_ (some 67) rfl rfl Try.func72 (by kernel_rfl) rfl #[.slice Ao49 t379.length co49, .slice Ao49 t379.length co49] rfl am ?_; (with_reducible refine (pochoirref01_Times.calls k _ _ t379 _ _ t379 t382 _ ?side1 ?side2 ?side3 ?side4 A24.out).mono ?_); (case side1 => exact kc (Kd.R_reads' HO381.out).2.2); (case side2 => exact (Kd.R_reads' HO381.out).2.1); (case side3 => exact kc (Kd.R_reads' HO381.out).2.2); (case side4 => exact (Kd.R_reads' HO381.out).2.1); rintro e w50 ⟨v383, rfl, ho0, hb⟩; refine ⟨_, rfl, ?_⟩; have HO384 := Aside0.mk (Kd.R_lower (Kd.R_new' ho0 (Kd.R_lt (kr HO381.out))) (below_size (bl4 HB.out GE371.out GE372.out GE375.out GE378.out))); replace HO381 := Aside0.mk (Kd.R_elder' (kr HO381.out) (Kd.R_base ho0) hb); replace BK371 := Aside0.mk (bb BK371.out hb); replace BK372 := Aside0.mk (bb BK372.out hb); replace BK375 := Aside0.mk (bb BK375.out hb); replace BK378 := Aside0.mk (bb BK378.out hb); replace HB := Aside0.mk (below_step (bl4 HB.out GE371.out GE372.out GE375.out GE378.out) hb); (try clear hb); (try clear ho0)) | ((with_reducible refine gate_callee (f := 71) rfl ?_); refine goesL_ (some 68) rfl rfl Try.func71 (by kernel_rfl) rfl #[.int .i64 50] rfl am ?_; (with_reducible refine (pochoirref22_digits.calls k 50 t385 _ A25.out).mono ?_); rintro e w51 ⟨v386, rfl, ho0, hb⟩; refine ⟨_, rfl, ?_⟩; have HO387 := Aside0.mk (Kd.R_lower (Kd.R_new' (Kd.R_new' ho0 (Kd.R_lt (kr HO381.out))) (Kd.R_lt (kr HO384.out))) (below_size (bl4 HB.out GE371.out GE372.out GE375.out GE378.out))); replace HO381 := Aside0.mk (Kd.R_elder' (kr HO381.out) (Kd.R_base ho0) hb); replace HO384 := Aside0.mk (Kd.R_elder' (kr HO384.out) (Kd.R_base ho0) hb); replace BK371 := Aside0.mk (bb BK371.out hb); replace BK372 := Aside0.mk (bb BK372.out hb); replace BK375 := Aside0.mk (bb BK375.out hb); replace BK378 := Aside0.mk (bb BK378.out hb); replace HB := Aside0.mk (below_step (bl4 HB.out GE371.out GE372.out GE375.out GE378.out) hb); (try clear hb); (try clear ho0); obtain ⟨Ao52, co52, eo52⟩ := Kd.R_slice HO384.out; subst eo52; obtain ⟨Ao53, co53, eo53⟩ := Kd.R_slice HO387.out; subst eo53) | ((with_reducible refine gate_callee (f := 72) rfl ?_); refine goesL_ (some 69) rfl rfl Try.func72 (by kernel_rfl) rfl #[.slice Ao52 t382.length co52, .slice Ao53 t385.length co53] rfl am ?_; (with_reducible refine (pochoirref01_Times.calls k _ _ t382 _ _ t385 t388 _ ?side1 ?side2 ?side3 ?side4 A26.out).mono ?_); (case side1 => exact kc (Kd.R_reads' HO384.out).2.2); (case side2 => exact (Kd.R_reads' HO384.out).2.1); (case side3 => exact kc (Kd.R_reads' HO387.out).2.2); (case side4 => exact (Kd.R_reads' HO387.out).2.1); rintro e w54 ⟨v389, rfl, ho0, hb⟩; refine ⟨_, rfl, ?_⟩; have HO390 := Aside0.mk (Kd.R_lower (Kd.R_new' (Kd.R_new' (Kd.R_new' ho0 (Kd.R_lt (kr HO381.out))) (Kd.R_lt (kr HO384.out))) (Kd.R_lt (kr HO387.out))) (below_size (bl4 HB.out GE371.out GE372.out GE375.out GE378.out))); replace HO381 := Aside0.mk (Kd.R_elder' (kr HO381.out) (Kd.R_base ho0) hb); replace HO384 := Aside0.mk (Kd.R_elder' (kr HO384.out) (Kd.R_base ho0) hb); replace HO387 := Aside0.mk (Kd.R_elder' (kr HO387.out) (Kd.R_base ho0) hb); replace BK371 := Aside0.mk (bb BK371.out hb); replace BK372 := Aside0.mk (bb BK372.out hb); replace BK375 := Aside0.mk (bb BK375.out hb); replace BK378 := Aside0.mk (bb BK378.out hb); replace HB := Aside0.mk (below_step (bl4 HB.out GE371.out GE372.out GE375.out GE378.out) hb); (try clear hb); (try clear ho0)) | ((with_reducible refine gate_callee (f := 71) rfl ?_); refine goesL_ (some 72) rfl rfl Try.func71 (by kernel_rfl) rfl #[.int .i64 (wrap64 ((wrap64 (t373 * t373)) + (wrap64 (t374 * t374))))] rfl am ?_; (with_reducible refine (pochoirref22_digits.calls k (wrap64 ((wrap64 (t373 * t373)) + (wrap64 (t374 * t374)))) t391 _ A27.out).mono ?_); rintro e w55 ⟨v392, rfl, ho0, hb⟩; refine ⟨_, rfl, ?_⟩; have HO393 := Aside0.mk (Kd.R_lower (Kd.R_new' (Kd.R_new' (Kd.R_new' (Kd.R_new' ho0 (Kd.R_lt (kr HO381.out))) (Kd.R_lt (kr HO384.out))) (Kd.R_lt (kr HO387.out))) (Kd.R_lt (kr HO390.out))) (below_size (bl4 HB.out GE371.out GE372.out GE375.out GE378.out))); replace HO381 := Aside0.mk (Kd.R_elder' (kr HO381.out) (Kd.R_base ho0) hb); replace HO384 := Aside0.mk (Kd.R_elder' (kr HO384.out) (Kd.R_base ho0) hb); replace HO387 := Aside0.mk (Kd.R_elder' (kr HO387.out) (Kd.R_base ho0) hb); replace HO390 := Aside0.mk (Kd.R_elder' (kr HO390.out) (Kd.R_base ho0) hb); replace BK371 := Aside0.mk (bb BK371.out hb); replace BK372 := Aside0.mk (bb BK372.out hb); replace BK375 := Aside0.mk (bb BK375.out hb); replace BK378 := Aside0.mk (bb BK378.out hb); replace HB := Aside0.mk (below_step (bl4 HB.out GE371.out GE372.out GE375.out GE378.out) hb); (try clear hb); (try clear ho0)) | ((with_reducible refine gate_callee (f := 71) rfl ?_); refine goesL_ (some 74) rfl rfl Try.func71 (by kernel_rfl) rfl #[.int .i64 (wrap64 ((wrap64 (t376 * t376)) + (wrap64 (t377 * t377))))] rfl am ?_; (with_reducible refine (pochoirref22_digits.calls k (wrap64 ((wrap64 (t376 * t376)) + (wrap64 (t377 * t377)))) t394 _ A28.out).mono ?_); rintro e w56 ⟨v395, rfl, ho0, hb⟩; refine ⟨_, rfl, ?_⟩; have HO396 := Aside0.mk (Kd.R_lower (Kd.R_new' (Kd.R_new' (Kd.R_new' (Kd.R_new' (Kd.R_new' ho0 (Kd.R_lt (kr HO381.out))) (Kd.R_lt (kr HO384.out))) (Kd.R_lt (kr HO387.out))) (Kd.R_lt (kr HO390.out))) (Kd.R_lt (kr HO393.out))) (below_size (bl4 HB.out GE371.out GE372.out GE375.out GE378.out))); replace HO381 := Aside0.mk (Kd.R_elder' (kr HO381.out) (Kd.R_base ho0) hb); replace HO384 := Aside0.mk (Kd.R_elder' (kr HO384.out) (Kd.R_base ho0) hb); replace HO387 := Aside0.mk (Kd.R_elder' (kr HO387.out) (Kd.R_base ho0) hb); replace HO390 := Aside0.mk (Kd.R_elder' (kr HO390.out) (Kd.R_base ho0) hb); replace HO393 := Aside0.mk (Kd.R_elder' (kr HO393.out) (Kd.R_base ho0) hb); replace BK371 := Aside0.mk (bb BK371.out hb); replace BK372 := Aside0.mk (bb BK372.out hb); replace BK375 := Aside0.mk (bb BK375.out hb); replace BK378 := Aside0.mk (bb BK378.out hb); replace HB := Aside0.mk (below_step (bl4 HB.out GE371.out GE372.out GE375.out GE378.out) hb); (try clear hb); (try clear ho0); obtain ⟨Ao57, co57, eo57⟩ := Kd.R_slice HO393.out; subst eo57; obtain ⟨Ao58, co58, eo58⟩ := Kd.R_slice HO396.out; subst eo58) | ((with_reducible refine gate_callee (f := 72) rfl ?_); refine goesL_ (some 75) rfl rfl Try.func72 (by kernel_rfl) rfl #[.slice Ao57 t391.length co57, .slice Ao58 t394.length co58] rfl am ?_; (with_reducible refine (pochoirref01_Times.calls k _ _ t391 _ _ t394 t397 _ ?side1 ?side2 ?side3 ?side4 A29.out).mono ?_); (case side1 => exact kc (Kd.R_reads' HO393.out).2.2); (case side2 => exact (Kd.R_reads' HO393.out).2.1); (case side3 => exact kc (Kd.R_reads' HO396.out).2.2); (case side4 => exact (Kd.R_reads' HO396.out).2.1); rintro e w59 ⟨v398, rfl, ho0, hb⟩; refine ⟨_, rfl, ?_⟩; have HO399 := Aside0.mk (Kd.R_lower (Kd.R_new' (Kd.R_new' (Kd.R_new' (Kd.R_new' (Kd.R_new' (Kd.R_new' ho0 (Kd.R_lt (kr HO381.out))) (Kd.R_lt (kr HO384.out))) (Kd.R_lt (kr HO387.out))) (Kd.R_lt (kr HO390.out))) (Kd.R_lt (kr HO393.out))) (Kd.R_lt (kr HO396.out))) (below_size (bl4 HB.out GE371.out GE372.out GE375.out GE378.out))); replace HO381 := Aside0.mk (Kd.R_elder' (kr HO381.out) (Kd.R_base ho0) hb); replace HO384 := Aside0.mk (Kd.R_elder' (kr HO384.out) (Kd.R_base ho0) hb); replace HO387 := Aside0.mk (Kd.R_elder' (kr HO387.out) (Kd.R_base ho0) hb); replace HO390 := Aside0.mk (Kd.R_elder' (kr HO390.out) (Kd.R_base ho0) hb); replace HO393 := Aside0.mk (Kd.R_elder' (kr HO393.out) (Kd.R_base ho0) hb); replace HO396 := Aside0.mk (Kd.R_elder' (kr HO396.out) (Kd.R_base ho0) hb); replace BK371 := Aside0.mk (bb BK371.out hb); replace BK372 := Aside0.mk (bb BK372.out hb); replace BK375 := Aside0.mk (bb BK375.out hb); replace BK378 := Aside0.mk (bb BK378.out hb); replace HB := Aside0.mk (below_step (bl4 HB.out GE371.out GE372.out GE375.out GE378.out) hb); (try clear hb); (try clear ho0); obtain ⟨Ao60, co60, eo60⟩ := Kd.R_slice HO390.out; subst eo60; obtain ⟨Ao61, co61, eo61⟩ := Kd.R_slice HO399.out; subst eo61) | ((with_reducible refine gate_callee (f := 73) rfl ?_); refine goesL_ (some 76) rfl rfl Try.func73 (by kernel_rfl) rfl #[.slice Ao60 t388.length co60, .slice Ao61 t397.length co61] rfl am ?_; (with_reducible refine (pochoirref01_Less.calls k _ _ t388 _ _ t397 t400 _ ?side1 ?side2 ?side3 ?side4 A30.out).mono ?_); (case side1 => exact kc (Kd.R_reads' HO390.out).2.2); (case side2 => exact (Kd.R_reads' HO390.out).2.1); (case side3 => exact kc (Kd.R_reads' HO399.out).2.2); (case side4 => exact (Kd.R_reads' HO399.out).2.1); rintro e w' ⟨rfl, ⟨nd, rfl⟩⟩; refine ⟨_, rfl, ?_⟩))
 go_ret
 exact ⟨by first | rfl | (simp [errW_none, errW_some] <;> rfl) | (simp [*, errW_none, errW_some] <;> rfl), bl4 HB.out GE371.out GE372.out GE375.out GE378.out⟩

/-! ### pochoirref16_fine: function 54 -/
def pochoirref16_fine.f (a0_0 : Int) (a0_1 : Int) : Option (Bool) := if a0_0 ≥ (-33554432) then (if a0_0 ≤ 33554432 then (if a0_1 ≥ (-33554432) then (some (decide (a0_1 ≤ 33554432))) else (some false)) else (some false)) else (some false)
set_option maxHeartbeats 8000000 in
set_option maxRecDepth 100000 in
theorem pochoirref16_fine.calls (a0_0 : Int) (a0_1 : Int) (r : Bool) (w : World) (h : pochoirref16_fine.f a0_0 a0_1 = some r) :
  Calls Try.prog 54 #[.agg #[.int .i64 a0_0, .int .i64 a0_1]] w fun e w' => e = .returned (.bool r) ∧ Below w.heap.size w w' := by
 have hu36 := Try.underlying36
 have HB := Aside0.mk (Below.refl w.heap.size w)
 have H := h
 clear h; unfold pochoirref16_fine.f at H
 by_cases c2 : a0_0 ≥ (-33554432)
 ·rw [if_pos c2] at H
  have c2b0 : decide ((-33554432) ≤ a0_0) = true := decide_eq_true c2
  clear c2
  by_cases c3 : a0_0 ≤ 33554432
  ·rw [if_pos c3] at H
   have c3b0 := decide_eq_true c3
   clear c3
   by_cases c4 : a0_1 ≥ (-33554432)
   ·rw [if_pos c4] at H
    have c4b0 : decide ((-33554432) ≤ a0_1) = true := decide_eq_true c4
    clear c4
    obtain rfl := Option.some.inj H
    go_enter Try.func54, Try.ntmps54
    go_wp2_with (first | ((with_reducible refine gate_dst (N := 1) rfl ?_); refine be 1 (#[.int .i64 a0_0, .int .i64 a0_1]) 36 ?_; intro gb401 hg w5 hbox hb; have BK401 := Aside0.mk (hbox); have GW401 := Aside0.mk (gz (w := w) hg (bl0 HB.out)); have GE401 := GW401; replace HB := Aside0.mk (below_step (bl0 HB.out) hb); clear hb hbox hg; have hcz6_0 : w5.cell? ⟨gb401, 0, none⟩ = some (.int .i64 a0_0) := (blk_cell BK401.out 0).trans rfl; have hcz6_1 : w5.cell? ⟨gb401, 1, none⟩ = some (.int .i64 a0_1) := (blk_cell BK401.out 1).trans rfl; have hfz6_0 := blk_frozen BK401.out 0; have hfz6_1 := blk_frozen BK401.out 1))
    go_ret
    exact ⟨by first | rfl | (simp [errW_none, errW_some] <;> rfl) | (simp [*, errW_none, errW_some] <;> rfl), bl1 HB.out GE401.out⟩
   rw [if_neg c4] at H
   have c4b0 : decide ((-33554432) ≤ a0_1) = false := decide_eq_false c4
   clear c4
   obtain rfl := Option.some.inj H
   go_enter Try.func54, Try.ntmps54
   go_wp2_with (first | ((with_reducible refine gate_dst (N := 1) rfl ?_); refine be 1 (#[.int .i64 a0_0, .int .i64 a0_1]) 36 ?_; intro gb401 hg w7 hbox hb; have BK401 := Aside0.mk (hbox); have GW401 := Aside0.mk (gz (w := w) hg (bl0 HB.out)); have GE401 := GW401; replace HB := Aside0.mk (below_step (bl0 HB.out) hb); clear hb hbox hg; have hcz8_0 : w7.cell? ⟨gb401, 0, none⟩ = some (.int .i64 a0_0) := (blk_cell BK401.out 0).trans rfl; have hcz8_1 : w7.cell? ⟨gb401, 1, none⟩ = some (.int .i64 a0_1) := (blk_cell BK401.out 1).trans rfl; have hfz8_0 := blk_frozen BK401.out 0; have hfz8_1 := blk_frozen BK401.out 1))
   go_ret
   exact ⟨by first | rfl | (simp [errW_none, errW_some] <;> rfl) | (simp [*, errW_none, errW_some] <;> rfl), bl1 HB.out GE401.out⟩
  rw [if_neg c3] at H
  have c3b0 := decide_eq_false c3
  clear c3
  obtain rfl := Option.some.inj H
  go_enter Try.func54, Try.ntmps54
  go_wp2_with (first | ((with_reducible refine gate_dst (N := 1) rfl ?_); refine be 1 (#[.int .i64 a0_0, .int .i64 a0_1]) 36 ?_; intro gb401 hg w9 hbox hb; have BK401 := Aside0.mk (hbox); have GW401 := Aside0.mk (gz (w := w) hg (bl0 HB.out)); have GE401 := GW401; replace HB := Aside0.mk (below_step (bl0 HB.out) hb); clear hb hbox hg; have hcz10_0 : w9.cell? ⟨gb401, 0, none⟩ = some (.int .i64 a0_0) := (blk_cell BK401.out 0).trans rfl; have hcz10_1 : w9.cell? ⟨gb401, 1, none⟩ = some (.int .i64 a0_1) := (blk_cell BK401.out 1).trans rfl; have hfz10_0 := blk_frozen BK401.out 0; have hfz10_1 := blk_frozen BK401.out 1))
  go_ret
  exact ⟨by first | rfl | (simp [errW_none, errW_some] <;> rfl) | (simp [*, errW_none, errW_some] <;> rfl), bl1 HB.out GE401.out⟩
 rw [if_neg c2] at H
 have c2b0 : decide ((-33554432) ≤ a0_0) = false := decide_eq_false c2
 clear c2
 obtain rfl := Option.some.inj H
 go_enter Try.func54, Try.ntmps54
 go_wp2_with (first | ((with_reducible refine gate_dst (N := 1) rfl ?_); refine be 1 (#[.int .i64 a0_0, .int .i64 a0_1]) 36 ?_; intro gb401 hg w11 hbox hb; have BK401 := Aside0.mk (hbox); have GW401 := Aside0.mk (gz (w := w) hg (bl0 HB.out)); have GE401 := GW401; replace HB := Aside0.mk (below_step (bl0 HB.out) hb); clear hb hbox hg; have hcz12_0 : w11.cell? ⟨gb401, 0, none⟩ = some (.int .i64 a0_0) := (blk_cell BK401.out 0).trans rfl; have hcz12_1 : w11.cell? ⟨gb401, 1, none⟩ = some (.int .i64 a0_1) := (blk_cell BK401.out 1).trans rfl; have hfz12_0 := blk_frozen BK401.out 0; have hfz12_1 := blk_frozen BK401.out 1))
 go_ret
 exact ⟨by first | rfl | (simp [errW_none, errW_some] <;> rfl) | (simp [*, errW_none, errW_some] <;> rfl), bl1 HB.out GE401.out⟩

/-! ### pochoirref16_same: function 55 -/
def pochoirref16_same.f (a0_0 : Int) (a0_1 : Bool) (a0_2 : Int) (a0_3 : Int) (a0_4 : Int) (a0_5 : Int) (a0_6 : Int) (a0_7 : Int) : Option (Bool) := if (a0_2 == a0_6 && (a0_3 == a0_7)) = true then (if a0_1 = true then (some (a0_2 == a0_4 && (a0_3 == a0_5))) else (some true)) else (some false)
set_option maxHeartbeats 8000000 in
set_option maxRecDepth 100000 in
theorem pochoirref16_same.calls (a0_0 : Int) (a0_1 : Bool) (a0_2 : Int) (a0_3 : Int) (a0_4 : Int) (a0_5 : Int) (a0_6 : Int) (a0_7 : Int) (r : Bool) (w : World) (h : pochoirref16_same.f a0_0 a0_1 a0_2 a0_3 a0_4 a0_5 a0_6 a0_7 = some r) :
  Calls Try.prog 55 #[.agg #[.int .i64 a0_0, .bool a0_1, .int .i64 a0_2, .int .i64 a0_3, .int .i64 a0_4, .int .i64 a0_5, .int .i64 a0_6, .int .i64 a0_7]] w fun e w' => e = .returned (.bool r) ∧ Below w.heap.size w w' := by
 have hu38 := Try.underlying38
 have hu36 := Try.underlying36
 have HB := Aside0.mk (Below.refl w.heap.size w)
 have H := h
 clear h; unfold pochoirref16_same.f at H
 by_cases c2 : (a0_2 == a0_6 && (a0_3 == a0_7)) = true
 ·rw [if_pos c2] at H
  have c2b0 : (a0_2 == a0_6 && (a0_3 == a0_7)) = true := c2
  (try (have c2b1 : decide (a0_2 = a0_6 && (a0_3 == a0_7)) = true := by simpa using c2))
  (try (have c2b2 : (a0_2 == a0_6 && (a0_3 == a0_7)) = true := by simpa using c2))
  clear c2
  by_cases c3 : a0_1 = true
  ·subst c3
   rw [if_pos rfl] at H
   obtain rfl := Option.some.inj H
   go_enter Try.func55, Try.ntmps55
   go_wp2_with (first | ((with_reducible refine gate_dst (N := 1) rfl ?_); refine be 1 (#[.int .i64 a0_0, .bool true, .int .i64 a0_2, .int .i64 a0_3, .int .i64 a0_4, .int .i64 a0_5, .int .i64 a0_6, .int .i64 a0_7]) 38 ?_; intro gb402 hg w4 hbox hb; have BK402 := Aside0.mk (hbox); have GW402 := Aside0.mk (gz (w := w) hg (bl0 HB.out)); have GE402 := GW402; replace HB := Aside0.mk (below_step (bl0 HB.out) hb); clear hb hbox hg; have hcz5_0 : w4.cell? ⟨gb402, 0, none⟩ = some (.int .i64 a0_0) := (blk_cell BK402.out 0).trans rfl; have hcz5_1 : w4.cell? ⟨gb402, 1, none⟩ = some (.bool true) := (blk_cell BK402.out 1).trans rfl; have hcz5_2 : w4.cell? ⟨gb402, 2, none⟩ = some (.int .i64 a0_2) := (blk_cell BK402.out 2).trans rfl; have hcz5_3 : w4.cell? ⟨gb402, 3, none⟩ = some (.int .i64 a0_3) := (blk_cell BK402.out 3).trans rfl; have hcz5_4 : w4.cell? ⟨gb402, 4, none⟩ = some (.int .i64 a0_4) := (blk_cell BK402.out 4).trans rfl; have hcz5_5 : w4.cell? ⟨gb402, 5, none⟩ = some (.int .i64 a0_5) := (blk_cell BK402.out 5).trans rfl; have hcz5_6 : w4.cell? ⟨gb402, 6, none⟩ = some (.int .i64 a0_6) := (blk_cell BK402.out 6).trans rfl; have hcz5_7 : w4.cell? ⟨gb402, 7, none⟩ = some (.int .i64 a0_7) := (blk_cell BK402.out 7).trans rfl; have hfz5_0 := blk_frozen BK402.out 0; have hfz5_1 := blk_frozen BK402.out 1; have hfz5_2 := blk_frozen BK402.out 2; have hfz5_3 := blk_frozen BK402.out 3; have hfz5_4 := blk_frozen BK402.out 4; have hfz5_5 := blk_frozen BK402.out 5; have hfz5_6 := blk_frozen BK402.out 6; have hfz5_7 := blk_frozen BK402.out 7))
   go_ret
   exact ⟨by first | rfl | (simp [errW_none, errW_some] <;> rfl) | (simp [*, errW_none, errW_some] <;> rfl), bl1 HB.out GE402.out⟩
  replace c3 := Bool.eq_false_iff.mpr c3
  subst c3
  rw [if_neg (show ¬ (false = true) by decide)] at H
  obtain rfl := Option.some.inj H
  go_enter Try.func55, Try.ntmps55
  go_wp2_with (first | ((with_reducible refine gate_dst (N := 1) rfl ?_); refine be 1 (#[.int .i64 a0_0, .bool false, .int .i64 a0_2, .int .i64 a0_3, .int .i64 a0_4, .int .i64 a0_5, .int .i64 a0_6, .int .i64 a0_7]) 38 ?_; intro gb402 hg w6 hbox hb; have BK402 := Aside0.mk (hbox); have GW402 := Aside0.mk (gz (w := w) hg (bl0 HB.out)); have GE402 := GW402; replace HB := Aside0.mk (below_step (bl0 HB.out) hb); clear hb hbox hg; have hcz7_0 : w6.cell? ⟨gb402, 0, none⟩ = some (.int .i64 a0_0) := (blk_cell BK402.out 0).trans rfl; have hcz7_1 : w6.cell? ⟨gb402, 1, none⟩ = some (.bool false) := (blk_cell BK402.out 1).trans rfl; have hcz7_2 : w6.cell? ⟨gb402, 2, none⟩ = some (.int .i64 a0_2) := (blk_cell BK402.out 2).trans rfl; have hcz7_3 : w6.cell? ⟨gb402, 3, none⟩ = some (.int .i64 a0_3) := (blk_cell BK402.out 3).trans rfl; have hcz7_4 : w6.cell? ⟨gb402, 4, none⟩ = some (.int .i64 a0_4) := (blk_cell BK402.out 4).trans rfl; have hcz7_5 : w6.cell? ⟨gb402, 5, none⟩ = some (.int .i64 a0_5) := (blk_cell BK402.out 5).trans rfl; have hcz7_6 : w6.cell? ⟨gb402, 6, none⟩ = some (.int .i64 a0_6) := (blk_cell BK402.out 6).trans rfl; have hcz7_7 : w6.cell? ⟨gb402, 7, none⟩ = some (.int .i64 a0_7) := (blk_cell BK402.out 7).trans rfl; have hfz7_0 := blk_frozen BK402.out 0; have hfz7_1 := blk_frozen BK402.out 1; have hfz7_2 := blk_frozen BK402.out 2; have hfz7_3 := blk_frozen BK402.out 3; have hfz7_4 := blk_frozen BK402.out 4; have hfz7_5 := blk_frozen BK402.out 5; have hfz7_6 := blk_frozen BK402.out 6; have hfz7_7 := blk_frozen BK402.out 7))
  go_ret
  exact ⟨by first | rfl | (simp [errW_none, errW_some] <;> rfl) | (simp [*, errW_none, errW_some] <;> rfl), bl1 HB.out GE402.out⟩
 rw [if_neg c2] at H
 have c2b0 : (a0_2 == a0_6 && (a0_3 == a0_7)) = false := by simpa using c2
 (try (have c2b1 : decide (a0_2 = a0_6 && (a0_3 == a0_7)) = false := by simpa using c2))
 (try (have c2b2 : (a0_2 == a0_6 && (a0_3 == a0_7)) = false := by simpa using c2))
 (try (have c2b3 : ¬ (a0_2 = a0_6 && (a0_3 == a0_7)) := by simpa using c2))
 clear c2
 obtain rfl := Option.some.inj H
 go_enter Try.func55, Try.ntmps55
 go_wp2_with (first | ((with_reducible refine gate_dst (N := 1) rfl ?_); refine be 1 (#[.int .i64 a0_0, .bool a0_1, .int .i64 a0_2, .int .i64 a0_3, .int .i64 a0_4, .int .i64 a0_5, .int .i64 a0_6, .int .i64 a0_7]) 38 ?_; intro gb402 hg w8 hbox hb; have BK402 := Aside0.mk (hbox); have GW402 := Aside0.mk (gz (w := w) hg (bl0 HB.out)); have GE402 := GW402; replace HB := Aside0.mk (below_step (bl0 HB.out) hb); clear hb hbox hg; have hcz9_0 : w8.cell? ⟨gb402, 0, none⟩ = some (.int .i64 a0_0) := (blk_cell BK402.out 0).trans rfl; have hcz9_1 : w8.cell? ⟨gb402, 1, none⟩ = some (.bool a0_1) := (blk_cell BK402.out 1).trans rfl; have hcz9_2 : w8.cell? ⟨gb402, 2, none⟩ = some (.int .i64 a0_2) := (blk_cell BK402.out 2).trans rfl; have hcz9_3 : w8.cell? ⟨gb402, 3, none⟩ = some (.int .i64 a0_3) := (blk_cell BK402.out 3).trans rfl; have hcz9_4 : w8.cell? ⟨gb402, 4, none⟩ = some (.int .i64 a0_4) := (blk_cell BK402.out 4).trans rfl; have hcz9_5 : w8.cell? ⟨gb402, 5, none⟩ = some (.int .i64 a0_5) := (blk_cell BK402.out 5).trans rfl; have hcz9_6 : w8.cell? ⟨gb402, 6, none⟩ = some (.int .i64 a0_6) := (blk_cell BK402.out 6).trans rfl; have hcz9_7 : w8.cell? ⟨gb402, 7, none⟩ = some (.int .i64 a0_7) := (blk_cell BK402.out 7).trans rfl; have hfz9_0 := blk_frozen BK402.out 0; have hfz9_1 := blk_frozen BK402.out 1; have hfz9_2 := blk_frozen BK402.out 2; have hfz9_3 := blk_frozen BK402.out 3; have hfz9_4 := blk_frozen BK402.out 4; have hfz9_5 := blk_frozen BK402.out 5; have hfz9_6 := blk_frozen BK402.out 6; have hfz9_7 := blk_frozen BK402.out 7))
 go_ret
 exact ⟨by first | rfl | (simp [errW_none, errW_some] <;> rfl) | (simp [*, errW_none, errW_some] <;> rfl), bl1 HB.out GE402.out⟩

/-! ### pochoirref16_One: function 17 -/
def pochoirref16_One.f (a0_0 : Int) (a0_1 : Bool) (a0_2 : Int) (a0_3 : Int) (a0_4 : Int) (a0_5 : Int) (a0_6 : Int) (a0_7 : Int) : Option (Bool) := (pochoirref16_fine.f a0_2 a0_3).bind fun t404 => (if t404 = true then ((pochoirref16_fine.f a0_4 a0_5).bind fun t405 => (if t405 = true then ((pochoirref16_fine.f a0_6 a0_7).bind fun t406 => (if t406 = true then ((pochoirref16_same.f a0_0 a0_1 a0_2 a0_3 a0_4 a0_5 a0_6 a0_7).bind fun t407 => (if t407 = true then (some false) else (if a0_1 = true then (some true) else (some (a0_4 == 0 && (a0_5 == 0)))))) else (some false))) else (some false))) else (some false))
set_option maxHeartbeats 8000000 in
set_option maxRecDepth 100000 in
theorem pochoirref16_One.calls (a0_0 : Int) (a0_1 : Bool) (a0_2 : Int) (a0_3 : Int) (a0_4 : Int) (a0_5 : Int) (a0_6 : Int) (a0_7 : Int) (r : Bool) (w : World) (h : pochoirref16_One.f a0_0 a0_1 a0_2 a0_3 a0_4 a0_5 a0_6 a0_7 = some r) :
  Calls Try.prog 17 #[.agg #[.int .i64 a0_0, .bool a0_1, .int .i64 a0_2, .int .i64 a0_3, .int .i64 a0_4, .int .i64 a0_5, .int .i64 a0_6, .int .i64 a0_7]] w fun e w' => e = .returned (.bool r) ∧ Below w.heap.size w w' := by
 have hu38 := Try.underlying38
 have hu36 := Try.underlying36
 have HB := Aside0.mk (Below.refl w.heap.size w)
 have H := h
 clear h; unfold pochoirref16_One.f at H
 replace H := Option.bind_eq_some_iff.mp H
 obtain ⟨t404, A20, H⟩ := H
 replace H : (if t404 = true then ((pochoirref16_fine.f a0_4 a0_5).bind fun t405 => (if t405 = true then ((pochoirref16_fine.f a0_6 a0_7).bind fun t406 => (if t406 = true then ((pochoirref16_same.f a0_0 a0_1 a0_2 a0_3 a0_4 a0_5 a0_6 a0_7).bind fun t407 => (if t407 = true then (some false) else (if a0_1 = true then (some true) else (some (a0_4 == 0 && (a0_5 == 0)))))) else (some false))) else (some false))) else (some false)) = some r := H
 have A2 := Aside0.mk A20
 clear A20
 by_cases c3 : t404 = true
 ·subst c3
  rw [if_pos rfl] at H
  replace H := Option.bind_eq_some_iff.mp H
  obtain ⟨t405, A40, H⟩ := H
  replace H : (if t405 = true then ((pochoirref16_fine.f a0_6 a0_7).bind fun t406 => (if t406 = true then ((pochoirref16_same.f a0_0 a0_1 a0_2 a0_3 a0_4 a0_5 a0_6 a0_7).bind fun t407 => (if t407 = true then (some false) else (if a0_1 = true then (some true) else (some (a0_4 == 0 && (a0_5 == 0)))))) else (some false))) else (some false)) = some r := H
  have A4 := Aside0.mk A40
  clear A40
  by_cases c5 : t405 = true
  ·subst c5
   rw [if_pos rfl] at H
   replace H := Option.bind_eq_some_iff.mp H
   obtain ⟨t406, A60, H⟩ := H
   replace H : (if t406 = true then ((pochoirref16_same.f a0_0 a0_1 a0_2 a0_3 a0_4 a0_5 a0_6 a0_7).bind fun t407 => (if t407 = true then (some false) else (if a0_1 = true then (some true) else (some (a0_4 == 0 && (a0_5 == 0)))))) else (some false)) = some r := H
   have A6 := Aside0.mk A60
   clear A60
   by_cases c7 : t406 = true
   ·subst c7
    rw [if_pos rfl] at H
    replace H := Option.bind_eq_some_iff.mp H
    obtain ⟨t407, A80, H⟩ := H
    replace H : (if t407 = true then (some false) else (if a0_1 = true then (some true) else (some (a0_4 == 0 && (a0_5 == 0))))) = some r := H
    have A8 := Aside0.mk A80
    clear A80
    by_cases c9 : t407 = true
    ·subst c9
     rw [if_pos rfl] at H
     obtain rfl := Option.some.inj H
     go_enter Try.func17, Try.ntmps17
     go_wp2_with (first | ((with_reducible refine gate_dst (N := 1) rfl ?_); refine be 1 (#[.int .i64 a0_0, .bool a0_1, .int .i64 a0_2, .int .i64 a0_3, .int .i64 a0_4, .int .i64 a0_5, .int .i64 a0_6, .int .i64 a0_7]) 38 ?_; intro gb403 hg w10 hbox hb; have BK403 := Aside0.mk (hbox); have GW403 := Aside0.mk (gz (w := w) hg (bl0 HB.out)); have GE403 := GW403; replace HB := Aside0.mk (below_step (bl0 HB.out) hb); clear hb hbox hg; have hcz11_0 : w10.cell? ⟨gb403, 0, none⟩ = some (.int .i64 a0_0) := (blk_cell BK403.out 0).trans rfl; have hcz11_1 : w10.cell? ⟨gb403, 1, none⟩ = some (.bool a0_1) := (blk_cell BK403.out 1).trans rfl; have hcz11_2 : w10.cell? ⟨gb403, 2, none⟩ = some (.int .i64 a0_2) := (blk_cell BK403.out 2).trans rfl; have hcz11_3 : w10.cell? ⟨gb403, 3, none⟩ = some (.int .i64 a0_3) := (blk_cell BK403.out 3).trans rfl; have hcz11_4 : w10.cell? ⟨gb403, 4, none⟩ = some (.int .i64 a0_4) := (blk_cell BK403.out 4).trans rfl; have hcz11_5 : w10.cell? ⟨gb403, 5, none⟩ = some (.int .i64 a0_5) := (blk_cell BK403.out 5).trans rfl; have hcz11_6 : w10.cell? ⟨gb403, 6, none⟩ = some (.int .i64 a0_6) := (blk_cell BK403.out 6).trans rfl; have hcz11_7 : w10.cell? ⟨gb403, 7, none⟩ = some (.int .i64 a0_7) := (blk_cell BK403.out 7).trans rfl; have hfz11_0 := blk_frozen BK403.out 0; have hfz11_1 := blk_frozen BK403.out 1; have hfz11_2 := blk_frozen BK403.out 2; have hfz11_3 := blk_frozen BK403.out 3; have hfz11_4 := blk_frozen BK403.out 4; have hfz11_5 := blk_frozen BK403.out 5; have hfz11_6 := blk_frozen BK403.out 6; have hfz11_7 := blk_frozen BK403.out 7) | ((with_reducible refine gate_callee (f := 54) rfl ?_); refine goesL_ (some 5) rfl rfl Try.func54 (by kernel_rfl) rfl #[.agg #[.int .i64 a0_2, .int .i64 a0_3]] rfl am ?_; (with_reducible refine (pochoirref16_fine.calls a0_2 a0_3 true _ A2.out).mono ?_); rintro e w12 ⟨rfl, hb⟩; refine ⟨_, rfl, ?_⟩; replace BK403 := Aside0.mk (bb BK403.out hb); replace HB := Aside0.mk (below_step (bl1 HB.out GE403.out) hb); (try clear hb); have hcz13_0 : w12.cell? ⟨gb403, 0, none⟩ = some (.int .i64 a0_0) := (blk_cell BK403.out 0).trans rfl; have hcz13_1 : w12.cell? ⟨gb403, 1, none⟩ = some (.bool a0_1) := (blk_cell BK403.out 1).trans rfl; have hcz13_2 : w12.cell? ⟨gb403, 2, none⟩ = some (.int .i64 a0_2) := (blk_cell BK403.out 2).trans rfl; have hcz13_3 : w12.cell? ⟨gb403, 3, none⟩ = some (.int .i64 a0_3) := (blk_cell BK403.out 3).trans rfl; have hcz13_4 : w12.cell? ⟨gb403, 4, none⟩ = some (.int .i64 a0_4) := (blk_cell BK403.out 4).trans rfl; have hcz13_5 : w12.cell? ⟨gb403, 5, none⟩ = some (.int .i64 a0_5) := (blk_cell BK403.out 5).trans rfl; have hcz13_6 : w12.cell? ⟨gb403, 6, none⟩ = some (.int .i64 a0_6) := (blk_cell BK403.out 6).trans rfl; have hcz13_7 : w12.cell? ⟨gb403, 7, none⟩ = some (.int .i64 a0_7) := (blk_cell BK403.out 7).trans rfl; have hfz13_0 := blk_frozen BK403.out 0; have hfz13_1 := blk_frozen BK403.out 1; have hfz13_2 := blk_frozen BK403.out 2; have hfz13_3 := blk_frozen BK403.out 3; have hfz13_4 := blk_frozen BK403.out 4; have hfz13_5 := blk_frozen BK403.out 5; have hfz13_6 := blk_frozen BK403.out 6; have hfz13_7 := blk_frozen BK403.out 7) | (go_at_call 54; (with_reducible refine (pochoirref16_fine.calls a0_4 a0_5 true _ A4.out).mono ?_); rintro e w14 ⟨rfl, hb⟩; replace BK403 := Aside0.mk (bb BK403.out hb); replace HB := Aside0.mk (below_step (bl1 HB.out GE403.out) hb); (try clear hb); have hcz15_0 : w14.cell? ⟨gb403, 0, none⟩ = some (.int .i64 a0_0) := (blk_cell BK403.out 0).trans rfl; have hcz15_1 : w14.cell? ⟨gb403, 1, none⟩ = some (.bool a0_1) := (blk_cell BK403.out 1).trans rfl; have hcz15_2 : w14.cell? ⟨gb403, 2, none⟩ = some (.int .i64 a0_2) := (blk_cell BK403.out 2).trans rfl; have hcz15_3 : w14.cell? ⟨gb403, 3, none⟩ = some (.int .i64 a0_3) := (blk_cell BK403.out 3).trans rfl; have hcz15_4 : w14.cell? ⟨gb403, 4, none⟩ = some (.int .i64 a0_4) := (blk_cell BK403.out 4).trans rfl; have hcz15_5 : w14.cell? ⟨gb403, 5, none⟩ = some (.int .i64 a0_5) := (blk_cell BK403.out 5).trans rfl; have hcz15_6 : w14.cell? ⟨gb403, 6, none⟩ = some (.int .i64 a0_6) := (blk_cell BK403.out 6).trans rfl; have hcz15_7 : w14.cell? ⟨gb403, 7, none⟩ = some (.int .i64 a0_7) := (blk_cell BK403.out 7).trans rfl; have hfz15_0 := blk_frozen BK403.out 0; have hfz15_1 := blk_frozen BK403.out 1; have hfz15_2 := blk_frozen BK403.out 2; have hfz15_3 := blk_frozen BK403.out 3; have hfz15_4 := blk_frozen BK403.out 4; have hfz15_5 := blk_frozen BK403.out 5; have hfz15_6 := blk_frozen BK403.out 6; have hfz15_7 := blk_frozen BK403.out 7) | (go_at_call 54; (with_reducible refine (pochoirref16_fine.calls a0_6 a0_7 true _ A6.out).mono ?_); rintro e w16 ⟨rfl, hb⟩; replace BK403 := Aside0.mk (bb BK403.out hb); replace HB := Aside0.mk (below_step (bl1 HB.out GE403.out) hb); (try clear hb); have hcz17_0 : w16.cell? ⟨gb403, 0, none⟩ = some (.int .i64 a0_0) := (blk_cell BK403.out 0).trans rfl; have hcz17_1 : w16.cell? ⟨gb403, 1, none⟩ = some (.bool a0_1) := (blk_cell BK403.out 1).trans rfl; have hcz17_2 : w16.cell? ⟨gb403, 2, none⟩ = some (.int .i64 a0_2) := (blk_cell BK403.out 2).trans rfl; have hcz17_3 : w16.cell? ⟨gb403, 3, none⟩ = some (.int .i64 a0_3) := (blk_cell BK403.out 3).trans rfl; have hcz17_4 : w16.cell? ⟨gb403, 4, none⟩ = some (.int .i64 a0_4) := (blk_cell BK403.out 4).trans rfl; have hcz17_5 : w16.cell? ⟨gb403, 5, none⟩ = some (.int .i64 a0_5) := (blk_cell BK403.out 5).trans rfl; have hcz17_6 : w16.cell? ⟨gb403, 6, none⟩ = some (.int .i64 a0_6) := (blk_cell BK403.out 6).trans rfl; have hcz17_7 : w16.cell? ⟨gb403, 7, none⟩ = some (.int .i64 a0_7) := (blk_cell BK403.out 7).trans rfl; have hfz17_0 := blk_frozen BK403.out 0; have hfz17_1 := blk_frozen BK403.out 1; have hfz17_2 := blk_frozen BK403.out 2; have hfz17_3 := blk_frozen BK403.out 3; have hfz17_4 := blk_frozen BK403.out 4; have hfz17_5 := blk_frozen BK403.out 5; have hfz17_6 := blk_frozen BK403.out 6; have hfz17_7 := blk_frozen BK403.out 7) | (go_at_call 55; (with_reducible refine (pochoirref16_same.calls a0_0 a0_1 a0_2 a0_3 a0_4 a0_5 a0_6 a0_7 true _ A8.out).mono ?_); rintro e w18 ⟨rfl, hb⟩; replace BK403 := Aside0.mk (bb BK403.out hb); replace HB := Aside0.mk (below_step (bl1 HB.out GE403.out) hb); (try clear hb)))
     go_ret
     exact ⟨by first | rfl | (simp [errW_none, errW_some] <;> rfl) | (simp [*, errW_none, errW_some] <;> rfl), bl1 HB.out GE403.out⟩
    replace c9 := Bool.eq_false_iff.mpr c9
    subst c9
    rw [if_neg (show ¬ (false = true) by decide)] at H
    by_cases c19 : a0_1 = true
    ·subst c19
     rw [if_pos rfl] at H
     obtain rfl := Option.some.inj H
     go_enter Try.func17, Try.ntmps17
     go_wp2_with (first | ((with_reducible refine gate_dst (N := 1) rfl ?_); refine be 1 (#[.int .i64 a0_0, .bool true, .int .i64 a0_2, .int .i64 a0_3, .int .i64 a0_4, .int .i64 a0_5, .int .i64 a0_6, .int .i64 a0_7]) 38 ?_; intro gb403 hg w20 hbox hb; have BK403 := Aside0.mk (hbox); have GW403 := Aside0.mk (gz (w := w) hg (bl0 HB.out)); have GE403 := GW403; replace HB := Aside0.mk (below_step (bl0 HB.out) hb); clear hb hbox hg; have hcz21_0 : w20.cell? ⟨gb403, 0, none⟩ = some (.int .i64 a0_0) := (blk_cell BK403.out 0).trans rfl; have hcz21_1 : w20.cell? ⟨gb403, 1, none⟩ = some (.bool true) := (blk_cell BK403.out 1).trans rfl; have hcz21_2 : w20.cell? ⟨gb403, 2, none⟩ = some (.int .i64 a0_2) := (blk_cell BK403.out 2).trans rfl; have hcz21_3 : w20.cell? ⟨gb403, 3, none⟩ = some (.int .i64 a0_3) := (blk_cell BK403.out 3).trans rfl; have hcz21_4 : w20.cell? ⟨gb403, 4, none⟩ = some (.int .i64 a0_4) := (blk_cell BK403.out 4).trans rfl; have hcz21_5 : w20.cell? ⟨gb403, 5, none⟩ = some (.int .i64 a0_5) := (blk_cell BK403.out 5).trans rfl; have hcz21_6 : w20.cell? ⟨gb403, 6, none⟩ = some (.int .i64 a0_6) := (blk_cell BK403.out 6).trans rfl; have hcz21_7 : w20.cell? ⟨gb403, 7, none⟩ = some (.int .i64 a0_7) := (blk_cell BK403.out 7).trans rfl; have hfz21_0 := blk_frozen BK403.out 0; have hfz21_1 := blk_frozen BK403.out 1; have hfz21_2 := blk_frozen BK403.out 2; have hfz21_3 := blk_frozen BK403.out 3; have hfz21_4 := blk_frozen BK403.out 4; have hfz21_5 := blk_frozen BK403.out 5; have hfz21_6 := blk_frozen BK403.out 6; have hfz21_7 := blk_frozen BK403.out 7) | ((with_reducible refine gate_callee (f := 54) rfl ?_); refine goesL_ (some 5) rfl rfl Try.func54 (by kernel_rfl) rfl #[.agg #[.int .i64 a0_2, .int .i64 a0_3]] rfl am ?_; (with_reducible refine (pochoirref16_fine.calls a0_2 a0_3 true _ A2.out).mono ?_); rintro e w22 ⟨rfl, hb⟩; refine ⟨_, rfl, ?_⟩; replace BK403 := Aside0.mk (bb BK403.out hb); replace HB := Aside0.mk (below_step (bl1 HB.out GE403.out) hb); (try clear hb); have hcz23_0 : w22.cell? ⟨gb403, 0, none⟩ = some (.int .i64 a0_0) := (blk_cell BK403.out 0).trans rfl; have hcz23_1 : w22.cell? ⟨gb403, 1, none⟩ = some (.bool true) := (blk_cell BK403.out 1).trans rfl; have hcz23_2 : w22.cell? ⟨gb403, 2, none⟩ = some (.int .i64 a0_2) := (blk_cell BK403.out 2).trans rfl; have hcz23_3 : w22.cell? ⟨gb403, 3, none⟩ = some (.int .i64 a0_3) := (blk_cell BK403.out 3).trans rfl; have hcz23_4 : w22.cell? ⟨gb403, 4, none⟩ = some (.int .i64 a0_4) := (blk_cell BK403.out 4).trans rfl; have hcz23_5 : w22.cell? ⟨gb403, 5, none⟩ = some (.int .i64 a0_5) := (blk_cell BK403.out 5).trans rfl; have hcz23_6 : w22.cell? ⟨gb403, 6, none⟩ = some (.int .i64 a0_6) := (blk_cell BK403.out 6).trans rfl; have hcz23_7 : w22.cell? ⟨gb403, 7, none⟩ = some (.int .i64 a0_7) := (blk_cell BK403.out 7).trans rfl; have hfz23_0 := blk_frozen BK403.out 0; have hfz23_1 := blk_frozen BK403.out 1; have hfz23_2 := blk_frozen BK403.out 2; have hfz23_3 := blk_frozen BK403.out 3; have hfz23_4 := blk_frozen BK403.out 4; have hfz23_5 := blk_frozen BK403.out 5; have hfz23_6 := blk_frozen BK403.out 6; have hfz23_7 := blk_frozen BK403.out 7) | (go_at_call 54; (with_reducible refine (pochoirref16_fine.calls a0_4 a0_5 true _ A4.out).mono ?_); rintro e w24 ⟨rfl, hb⟩; replace BK403 := Aside0.mk (bb BK403.out hb); replace HB := Aside0.mk (below_step (bl1 HB.out GE403.out) hb); (try clear hb); have hcz25_0 : w24.cell? ⟨gb403, 0, none⟩ = some (.int .i64 a0_0) := (blk_cell BK403.out 0).trans rfl; have hcz25_1 : w24.cell? ⟨gb403, 1, none⟩ = some (.bool true) := (blk_cell BK403.out 1).trans rfl; have hcz25_2 : w24.cell? ⟨gb403, 2, none⟩ = some (.int .i64 a0_2) := (blk_cell BK403.out 2).trans rfl; have hcz25_3 : w24.cell? ⟨gb403, 3, none⟩ = some (.int .i64 a0_3) := (blk_cell BK403.out 3).trans rfl; have hcz25_4 : w24.cell? ⟨gb403, 4, none⟩ = some (.int .i64 a0_4) := (blk_cell BK403.out 4).trans rfl; have hcz25_5 : w24.cell? ⟨gb403, 5, none⟩ = some (.int .i64 a0_5) := (blk_cell BK403.out 5).trans rfl; have hcz25_6 : w24.cell? ⟨gb403, 6, none⟩ = some (.int .i64 a0_6) := (blk_cell BK403.out 6).trans rfl; have hcz25_7 : w24.cell? ⟨gb403, 7, none⟩ = some (.int .i64 a0_7) := (blk_cell BK403.out 7).trans rfl; have hfz25_0 := blk_frozen BK403.out 0; have hfz25_1 := blk_frozen BK403.out 1; have hfz25_2 := blk_frozen BK403.out 2; have hfz25_3 := blk_frozen BK403.out 3; have hfz25_4 := blk_frozen BK403.out 4; have hfz25_5 := blk_frozen BK403.out 5; have hfz25_6 := blk_frozen BK403.out 6; have hfz25_7 := blk_frozen BK403.out 7) | (go_at_call 54; (with_reducible refine (pochoirref16_fine.calls a0_6 a0_7 true _ A6.out).mono ?_); rintro e w26 ⟨rfl, hb⟩; replace BK403 := Aside0.mk (bb BK403.out hb); replace HB := Aside0.mk (below_step (bl1 HB.out GE403.out) hb); (try clear hb); have hcz27_0 : w26.cell? ⟨gb403, 0, none⟩ = some (.int .i64 a0_0) := (blk_cell BK403.out 0).trans rfl; have hcz27_1 : w26.cell? ⟨gb403, 1, none⟩ = some (.bool true) := (blk_cell BK403.out 1).trans rfl; have hcz27_2 : w26.cell? ⟨gb403, 2, none⟩ = some (.int .i64 a0_2) := (blk_cell BK403.out 2).trans rfl; have hcz27_3 : w26.cell? ⟨gb403, 3, none⟩ = some (.int .i64 a0_3) := (blk_cell BK403.out 3).trans rfl; have hcz27_4 : w26.cell? ⟨gb403, 4, none⟩ = some (.int .i64 a0_4) := (blk_cell BK403.out 4).trans rfl; have hcz27_5 : w26.cell? ⟨gb403, 5, none⟩ = some (.int .i64 a0_5) := (blk_cell BK403.out 5).trans rfl; have hcz27_6 : w26.cell? ⟨gb403, 6, none⟩ = some (.int .i64 a0_6) := (blk_cell BK403.out 6).trans rfl; have hcz27_7 : w26.cell? ⟨gb403, 7, none⟩ = some (.int .i64 a0_7) := (blk_cell BK403.out 7).trans rfl; have hfz27_0 := blk_frozen BK403.out 0; have hfz27_1 := blk_frozen BK403.out 1; have hfz27_2 := blk_frozen BK403.out 2; have hfz27_3 := blk_frozen BK403.out 3; have hfz27_4 := blk_frozen BK403.out 4; have hfz27_5 := blk_frozen BK403.out 5; have hfz27_6 := blk_frozen BK403.out 6; have hfz27_7 := blk_frozen BK403.out 7) | (go_at_call 55; (with_reducible refine (pochoirref16_same.calls a0_0 true a0_2 a0_3 a0_4 a0_5 a0_6 a0_7 false _ A8.out).mono ?_); rintro e w28 ⟨rfl, hb⟩; replace BK403 := Aside0.mk (bb BK403.out hb); replace HB := Aside0.mk (below_step (bl1 HB.out GE403.out) hb); (try clear hb); have hcz29_0 : w28.cell? ⟨gb403, 0, none⟩ = some (.int .i64 a0_0) := (blk_cell BK403.out 0).trans rfl; have hcz29_1 : w28.cell? ⟨gb403, 1, none⟩ = some (.bool true) := (blk_cell BK403.out 1).trans rfl; have hcz29_2 : w28.cell? ⟨gb403, 2, none⟩ = some (.int .i64 a0_2) := (blk_cell BK403.out 2).trans rfl; have hcz29_3 : w28.cell? ⟨gb403, 3, none⟩ = some (.int .i64 a0_3) := (blk_cell BK403.out 3).trans rfl; have hcz29_4 : w28.cell? ⟨gb403, 4, none⟩ = some (.int .i64 a0_4) := (blk_cell BK403.out 4).trans rfl; have hcz29_5 : w28.cell? ⟨gb403, 5, none⟩ = some (.int .i64 a0_5) := (blk_cell BK403.out 5).trans rfl; have hcz29_6 : w28.cell? ⟨gb403, 6, none⟩ = some (.int .i64 a0_6) := (blk_cell BK403.out 6).trans rfl; have hcz29_7 : w28.cell? ⟨gb403, 7, none⟩ = some (.int .i64 a0_7) := (blk_cell BK403.out 7).trans rfl; have hfz29_0 := blk_frozen BK403.out 0; have hfz29_1 := blk_frozen BK403.out 1; have hfz29_2 := blk_frozen BK403.out 2; have hfz29_3 := blk_frozen BK403.out 3; have hfz29_4 := blk_frozen BK403.out 4; have hfz29_5 := blk_frozen BK403.out 5; have hfz29_6 := blk_frozen BK403.out 6; have hfz29_7 := blk_frozen BK403.out 7))
     go_ret
     exact ⟨by first | rfl | (simp [errW_none, errW_some] <;> rfl) | (simp [*, errW_none, errW_some] <;> rfl), bl1 HB.out GE403.out⟩
    replace c19 := Bool.eq_false_iff.mpr c19
    subst c19
    rw [if_neg (show ¬ (false = true) by decide)] at H
    obtain rfl := Option.some.inj H
    go_enter Try.func17, Try.ntmps17
    go_wp2_with (first | ((with_reducible refine gate_dst (N := 1) rfl ?_); refine be 1 (#[.int .i64 a0_0, .bool false, .int .i64 a0_2, .int .i64 a0_3, .int .i64 a0_4, .int .i64 a0_5, .int .i64 a0_6, .int .i64 a0_7]) 38 ?_; intro gb403 hg w30 hbox hb; have BK403 := Aside0.mk (hbox); have GW403 := Aside0.mk (gz (w := w) hg (bl0 HB.out)); have GE403 := GW403; replace HB := Aside0.mk (below_step (bl0 HB.out) hb); clear hb hbox hg; have hcz31_0 : w30.cell? ⟨gb403, 0, none⟩ = some (.int .i64 a0_0) := (blk_cell BK403.out 0).trans rfl; have hcz31_1 : w30.cell? ⟨gb403, 1, none⟩ = some (.bool false) := (blk_cell BK403.out 1).trans rfl; have hcz31_2 : w30.cell? ⟨gb403, 2, none⟩ = some (.int .i64 a0_2) := (blk_cell BK403.out 2).trans rfl; have hcz31_3 : w30.cell? ⟨gb403, 3, none⟩ = some (.int .i64 a0_3) := (blk_cell BK403.out 3).trans rfl; have hcz31_4 : w30.cell? ⟨gb403, 4, none⟩ = some (.int .i64 a0_4) := (blk_cell BK403.out 4).trans rfl; have hcz31_5 : w30.cell? ⟨gb403, 5, none⟩ = some (.int .i64 a0_5) := (blk_cell BK403.out 5).trans rfl; have hcz31_6 : w30.cell? ⟨gb403, 6, none⟩ = some (.int .i64 a0_6) := (blk_cell BK403.out 6).trans rfl; have hcz31_7 : w30.cell? ⟨gb403, 7, none⟩ = some (.int .i64 a0_7) := (blk_cell BK403.out 7).trans rfl; have hfz31_0 := blk_frozen BK403.out 0; have hfz31_1 := blk_frozen BK403.out 1; have hfz31_2 := blk_frozen BK403.out 2; have hfz31_3 := blk_frozen BK403.out 3; have hfz31_4 := blk_frozen BK403.out 4; have hfz31_5 := blk_frozen BK403.out 5; have hfz31_6 := blk_frozen BK403.out 6; have hfz31_7 := blk_frozen BK403.out 7) | ((with_reducible refine gate_callee (f := 54) rfl ?_); refine goesL_ (some 5) rfl rfl Try.func54 (by kernel_rfl) rfl #[.agg #[.int .i64 a0_2, .int .i64 a0_3]] rfl am ?_; (with_reducible refine (pochoirref16_fine.calls a0_2 a0_3 true _ A2.out).mono ?_); rintro e w32 ⟨rfl, hb⟩; refine ⟨_, rfl, ?_⟩; replace BK403 := Aside0.mk (bb BK403.out hb); replace HB := Aside0.mk (below_step (bl1 HB.out GE403.out) hb); (try clear hb); have hcz33_0 : w32.cell? ⟨gb403, 0, none⟩ = some (.int .i64 a0_0) := (blk_cell BK403.out 0).trans rfl; have hcz33_1 : w32.cell? ⟨gb403, 1, none⟩ = some (.bool false) := (blk_cell BK403.out 1).trans rfl; have hcz33_2 : w32.cell? ⟨gb403, 2, none⟩ = some (.int .i64 a0_2) := (blk_cell BK403.out 2).trans rfl; have hcz33_3 : w32.cell? ⟨gb403, 3, none⟩ = some (.int .i64 a0_3) := (blk_cell BK403.out 3).trans rfl; have hcz33_4 : w32.cell? ⟨gb403, 4, none⟩ = some (.int .i64 a0_4) := (blk_cell BK403.out 4).trans rfl; have hcz33_5 : w32.cell? ⟨gb403, 5, none⟩ = some (.int .i64 a0_5) := (blk_cell BK403.out 5).trans rfl; have hcz33_6 : w32.cell? ⟨gb403, 6, none⟩ = some (.int .i64 a0_6) := (blk_cell BK403.out 6).trans rfl; have hcz33_7 : w32.cell? ⟨gb403, 7, none⟩ = some (.int .i64 a0_7) := (blk_cell BK403.out 7).trans rfl; have hfz33_0 := blk_frozen BK403.out 0; have hfz33_1 := blk_frozen BK403.out 1; have hfz33_2 := blk_frozen BK403.out 2; have hfz33_3 := blk_frozen BK403.out 3; have hfz33_4 := blk_frozen BK403.out 4; have hfz33_5 := blk_frozen BK403.out 5; have hfz33_6 := blk_frozen BK403.out 6; have hfz33_7 := blk_frozen BK403.out 7) | (go_at_call 54; (with_reducible refine (pochoirref16_fine.calls a0_4 a0_5 true _ A4.out).mono ?_); rintro e w34 ⟨rfl, hb⟩; replace BK403 := Aside0.mk (bb BK403.out hb); replace HB := Aside0.mk (below_step (bl1 HB.out GE403.out) hb); (try clear hb); have hcz35_0 : w34.cell? ⟨gb403, 0, none⟩ = some (.int .i64 a0_0) := (blk_cell BK403.out 0).trans rfl; have hcz35_1 : w34.cell? ⟨gb403, 1, none⟩ = some (.bool false) := (blk_cell BK403.out 1).trans rfl; have hcz35_2 : w34.cell? ⟨gb403, 2, none⟩ = some (.int .i64 a0_2) := (blk_cell BK403.out 2).trans rfl; have hcz35_3 : w34.cell? ⟨gb403, 3, none⟩ = some (.int .i64 a0_3) := (blk_cell BK403.out 3).trans rfl; have hcz35_4 : w34.cell? ⟨gb403, 4, none⟩ = some (.int .i64 a0_4) := (blk_cell BK403.out 4).trans rfl; have hcz35_5 : w34.cell? ⟨gb403, 5, none⟩ = some (.int .i64 a0_5) := (blk_cell BK403.out 5).trans rfl; have hcz35_6 : w34.cell? ⟨gb403, 6, none⟩ = some (.int .i64 a0_6) := (blk_cell BK403.out 6).trans rfl; have hcz35_7 : w34.cell? ⟨gb403, 7, none⟩ = some (.int .i64 a0_7) := (blk_cell BK403.out 7).trans rfl; have hfz35_0 := blk_frozen BK403.out 0; have hfz35_1 := blk_frozen BK403.out 1; have hfz35_2 := blk_frozen BK403.out 2; have hfz35_3 := blk_frozen BK403.out 3; have hfz35_4 := blk_frozen BK403.out 4; have hfz35_5 := blk_frozen BK403.out 5; have hfz35_6 := blk_frozen BK403.out 6; have hfz35_7 := blk_frozen BK403.out 7) | (go_at_call 54; (with_reducible refine (pochoirref16_fine.calls a0_6 a0_7 true _ A6.out).mono ?_); rintro e w36 ⟨rfl, hb⟩; replace BK403 := Aside0.mk (bb BK403.out hb); replace HB := Aside0.mk (below_step (bl1 HB.out GE403.out) hb); (try clear hb); have hcz37_0 : w36.cell? ⟨gb403, 0, none⟩ = some (.int .i64 a0_0) := (blk_cell BK403.out 0).trans rfl; have hcz37_1 : w36.cell? ⟨gb403, 1, none⟩ = some (.bool false) := (blk_cell BK403.out 1).trans rfl; have hcz37_2 : w36.cell? ⟨gb403, 2, none⟩ = some (.int .i64 a0_2) := (blk_cell BK403.out 2).trans rfl; have hcz37_3 : w36.cell? ⟨gb403, 3, none⟩ = some (.int .i64 a0_3) := (blk_cell BK403.out 3).trans rfl; have hcz37_4 : w36.cell? ⟨gb403, 4, none⟩ = some (.int .i64 a0_4) := (blk_cell BK403.out 4).trans rfl; have hcz37_5 : w36.cell? ⟨gb403, 5, none⟩ = some (.int .i64 a0_5) := (blk_cell BK403.out 5).trans rfl; have hcz37_6 : w36.cell? ⟨gb403, 6, none⟩ = some (.int .i64 a0_6) := (blk_cell BK403.out 6).trans rfl; have hcz37_7 : w36.cell? ⟨gb403, 7, none⟩ = some (.int .i64 a0_7) := (blk_cell BK403.out 7).trans rfl; have hfz37_0 := blk_frozen BK403.out 0; have hfz37_1 := blk_frozen BK403.out 1; have hfz37_2 := blk_frozen BK403.out 2; have hfz37_3 := blk_frozen BK403.out 3; have hfz37_4 := blk_frozen BK403.out 4; have hfz37_5 := blk_frozen BK403.out 5; have hfz37_6 := blk_frozen BK403.out 6; have hfz37_7 := blk_frozen BK403.out 7) | (go_at_call 55; (with_reducible refine (pochoirref16_same.calls a0_0 false a0_2 a0_3 a0_4 a0_5 a0_6 a0_7 false _ A8.out).mono ?_); rintro e w38 ⟨rfl, hb⟩; replace BK403 := Aside0.mk (bb BK403.out hb); replace HB := Aside0.mk (below_step (bl1 HB.out GE403.out) hb); (try clear hb); have hcz39_0 : w38.cell? ⟨gb403, 0, none⟩ = some (.int .i64 a0_0) := (blk_cell BK403.out 0).trans rfl; have hcz39_1 : w38.cell? ⟨gb403, 1, none⟩ = some (.bool false) := (blk_cell BK403.out 1).trans rfl; have hcz39_2 : w38.cell? ⟨gb403, 2, none⟩ = some (.int .i64 a0_2) := (blk_cell BK403.out 2).trans rfl; have hcz39_3 : w38.cell? ⟨gb403, 3, none⟩ = some (.int .i64 a0_3) := (blk_cell BK403.out 3).trans rfl; have hcz39_4 : w38.cell? ⟨gb403, 4, none⟩ = some (.int .i64 a0_4) := (blk_cell BK403.out 4).trans rfl; have hcz39_5 : w38.cell? ⟨gb403, 5, none⟩ = some (.int .i64 a0_5) := (blk_cell BK403.out 5).trans rfl; have hcz39_6 : w38.cell? ⟨gb403, 6, none⟩ = some (.int .i64 a0_6) := (blk_cell BK403.out 6).trans rfl; have hcz39_7 : w38.cell? ⟨gb403, 7, none⟩ = some (.int .i64 a0_7) := (blk_cell BK403.out 7).trans rfl; have hfz39_0 := blk_frozen BK403.out 0; have hfz39_1 := blk_frozen BK403.out 1; have hfz39_2 := blk_frozen BK403.out 2; have hfz39_3 := blk_frozen BK403.out 3; have hfz39_4 := blk_frozen BK403.out 4; have hfz39_5 := blk_frozen BK403.out 5; have hfz39_6 := blk_frozen BK403.out 6; have hfz39_7 := blk_frozen BK403.out 7))
    go_ret
    exact ⟨by first | rfl | (simp [errW_none, errW_some] <;> rfl) | (simp [*, errW_none, errW_some] <;> rfl), bl1 HB.out GE403.out⟩
   replace c7 := Bool.eq_false_iff.mpr c7
   subst c7
   rw [if_neg (show ¬ (false = true) by decide)] at H
   obtain rfl := Option.some.inj H
   go_enter Try.func17, Try.ntmps17
   go_wp2_with (first | ((with_reducible refine gate_dst (N := 1) rfl ?_); refine be 1 (#[.int .i64 a0_0, .bool a0_1, .int .i64 a0_2, .int .i64 a0_3, .int .i64 a0_4, .int .i64 a0_5, .int .i64 a0_6, .int .i64 a0_7]) 38 ?_; intro gb403 hg w40 hbox hb; have BK403 := Aside0.mk (hbox); have GW403 := Aside0.mk (gz (w := w) hg (bl0 HB.out)); have GE403 := GW403; replace HB := Aside0.mk (below_step (bl0 HB.out) hb); clear hb hbox hg; have hcz41_0 : w40.cell? ⟨gb403, 0, none⟩ = some (.int .i64 a0_0) := (blk_cell BK403.out 0).trans rfl; have hcz41_1 : w40.cell? ⟨gb403, 1, none⟩ = some (.bool a0_1) := (blk_cell BK403.out 1).trans rfl; have hcz41_2 : w40.cell? ⟨gb403, 2, none⟩ = some (.int .i64 a0_2) := (blk_cell BK403.out 2).trans rfl; have hcz41_3 : w40.cell? ⟨gb403, 3, none⟩ = some (.int .i64 a0_3) := (blk_cell BK403.out 3).trans rfl; have hcz41_4 : w40.cell? ⟨gb403, 4, none⟩ = some (.int .i64 a0_4) := (blk_cell BK403.out 4).trans rfl; have hcz41_5 : w40.cell? ⟨gb403, 5, none⟩ = some (.int .i64 a0_5) := (blk_cell BK403.out 5).trans rfl; have hcz41_6 : w40.cell? ⟨gb403, 6, none⟩ = some (.int .i64 a0_6) := (blk_cell BK403.out 6).trans rfl; have hcz41_7 : w40.cell? ⟨gb403, 7, none⟩ = some (.int .i64 a0_7) := (blk_cell BK403.out 7).trans rfl; have hfz41_0 := blk_frozen BK403.out 0; have hfz41_1 := blk_frozen BK403.out 1; have hfz41_2 := blk_frozen BK403.out 2; have hfz41_3 := blk_frozen BK403.out 3; have hfz41_4 := blk_frozen BK403.out 4; have hfz41_5 := blk_frozen BK403.out 5; have hfz41_6 := blk_frozen BK403.out 6; have hfz41_7 := blk_frozen BK403.out 7) | ((with_reducible refine gate_callee (f := 54) rfl ?_); refine goesL_ (some 5) rfl rfl Try.func54 (by kernel_rfl) rfl #[.agg #[.int .i64 a0_2, .int .i64 a0_3]] rfl am ?_; (with_reducible refine (pochoirref16_fine.calls a0_2 a0_3 true _ A2.out).mono ?_); rintro e w42 ⟨rfl, hb⟩; refine ⟨_, rfl, ?_⟩; replace BK403 := Aside0.mk (bb BK403.out hb); replace HB := Aside0.mk (below_step (bl1 HB.out GE403.out) hb); (try clear hb); have hcz43_0 : w42.cell? ⟨gb403, 0, none⟩ = some (.int .i64 a0_0) := (blk_cell BK403.out 0).trans rfl; have hcz43_1 : w42.cell? ⟨gb403, 1, none⟩ = some (.bool a0_1) := (blk_cell BK403.out 1).trans rfl; have hcz43_2 : w42.cell? ⟨gb403, 2, none⟩ = some (.int .i64 a0_2) := (blk_cell BK403.out 2).trans rfl; have hcz43_3 : w42.cell? ⟨gb403, 3, none⟩ = some (.int .i64 a0_3) := (blk_cell BK403.out 3).trans rfl; have hcz43_4 : w42.cell? ⟨gb403, 4, none⟩ = some (.int .i64 a0_4) := (blk_cell BK403.out 4).trans rfl; have hcz43_5 : w42.cell? ⟨gb403, 5, none⟩ = some (.int .i64 a0_5) := (blk_cell BK403.out 5).trans rfl; have hcz43_6 : w42.cell? ⟨gb403, 6, none⟩ = some (.int .i64 a0_6) := (blk_cell BK403.out 6).trans rfl; have hcz43_7 : w42.cell? ⟨gb403, 7, none⟩ = some (.int .i64 a0_7) := (blk_cell BK403.out 7).trans rfl; have hfz43_0 := blk_frozen BK403.out 0; have hfz43_1 := blk_frozen BK403.out 1; have hfz43_2 := blk_frozen BK403.out 2; have hfz43_3 := blk_frozen BK403.out 3; have hfz43_4 := blk_frozen BK403.out 4; have hfz43_5 := blk_frozen BK403.out 5; have hfz43_6 := blk_frozen BK403.out 6; have hfz43_7 := blk_frozen BK403.out 7) | (go_at_call 54; (with_reducible refine (pochoirref16_fine.calls a0_4 a0_5 true _ A4.out).mono ?_); rintro e w44 ⟨rfl, hb⟩; replace BK403 := Aside0.mk (bb BK403.out hb); replace HB := Aside0.mk (below_step (bl1 HB.out GE403.out) hb); (try clear hb); have hcz45_0 : w44.cell? ⟨gb403, 0, none⟩ = some (.int .i64 a0_0) := (blk_cell BK403.out 0).trans rfl; have hcz45_1 : w44.cell? ⟨gb403, 1, none⟩ = some (.bool a0_1) := (blk_cell BK403.out 1).trans rfl; have hcz45_2 : w44.cell? ⟨gb403, 2, none⟩ = some (.int .i64 a0_2) := (blk_cell BK403.out 2).trans rfl; have hcz45_3 : w44.cell? ⟨gb403, 3, none⟩ = some (.int .i64 a0_3) := (blk_cell BK403.out 3).trans rfl; have hcz45_4 : w44.cell? ⟨gb403, 4, none⟩ = some (.int .i64 a0_4) := (blk_cell BK403.out 4).trans rfl; have hcz45_5 : w44.cell? ⟨gb403, 5, none⟩ = some (.int .i64 a0_5) := (blk_cell BK403.out 5).trans rfl; have hcz45_6 : w44.cell? ⟨gb403, 6, none⟩ = some (.int .i64 a0_6) := (blk_cell BK403.out 6).trans rfl; have hcz45_7 : w44.cell? ⟨gb403, 7, none⟩ = some (.int .i64 a0_7) := (blk_cell BK403.out 7).trans rfl; have hfz45_0 := blk_frozen BK403.out 0; have hfz45_1 := blk_frozen BK403.out 1; have hfz45_2 := blk_frozen BK403.out 2; have hfz45_3 := blk_frozen BK403.out 3; have hfz45_4 := blk_frozen BK403.out 4; have hfz45_5 := blk_frozen BK403.out 5; have hfz45_6 := blk_frozen BK403.out 6; have hfz45_7 := blk_frozen BK403.out 7) | (go_at_call 54; (with_reducible refine (pochoirref16_fine.calls a0_6 a0_7 false _ A6.out).mono ?_); rintro e w46 ⟨rfl, hb⟩; replace BK403 := Aside0.mk (bb BK403.out hb); replace HB := Aside0.mk (below_step (bl1 HB.out GE403.out) hb); (try clear hb)))
   go_ret
   exact ⟨by first | rfl | (simp [errW_none, errW_some] <;> rfl) | (simp [*, errW_none, errW_some] <;> rfl), bl1 HB.out GE403.out⟩
  replace c5 := Bool.eq_false_iff.mpr c5
  subst c5
  rw [if_neg (show ¬ (false = true) by decide)] at H
  obtain rfl := Option.some.inj H
  go_enter Try.func17, Try.ntmps17
  go_wp2_with (first | ((with_reducible refine gate_dst (N := 1) rfl ?_); refine be 1 (#[.int .i64 a0_0, .bool a0_1, .int .i64 a0_2, .int .i64 a0_3, .int .i64 a0_4, .int .i64 a0_5, .int .i64 a0_6, .int .i64 a0_7]) 38 ?_; intro gb403 hg w47 hbox hb; have BK403 := Aside0.mk (hbox); have GW403 := Aside0.mk (gz (w := w) hg (bl0 HB.out)); have GE403 := GW403; replace HB := Aside0.mk (below_step (bl0 HB.out) hb); clear hb hbox hg; have hcz48_0 : w47.cell? ⟨gb403, 0, none⟩ = some (.int .i64 a0_0) := (blk_cell BK403.out 0).trans rfl; have hcz48_1 : w47.cell? ⟨gb403, 1, none⟩ = some (.bool a0_1) := (blk_cell BK403.out 1).trans rfl; have hcz48_2 : w47.cell? ⟨gb403, 2, none⟩ = some (.int .i64 a0_2) := (blk_cell BK403.out 2).trans rfl; have hcz48_3 : w47.cell? ⟨gb403, 3, none⟩ = some (.int .i64 a0_3) := (blk_cell BK403.out 3).trans rfl; have hcz48_4 : w47.cell? ⟨gb403, 4, none⟩ = some (.int .i64 a0_4) := (blk_cell BK403.out 4).trans rfl; have hcz48_5 : w47.cell? ⟨gb403, 5, none⟩ = some (.int .i64 a0_5) := (blk_cell BK403.out 5).trans rfl; have hcz48_6 : w47.cell? ⟨gb403, 6, none⟩ = some (.int .i64 a0_6) := (blk_cell BK403.out 6).trans rfl; have hcz48_7 : w47.cell? ⟨gb403, 7, none⟩ = some (.int .i64 a0_7) := (blk_cell BK403.out 7).trans rfl; have hfz48_0 := blk_frozen BK403.out 0; have hfz48_1 := blk_frozen BK403.out 1; have hfz48_2 := blk_frozen BK403.out 2; have hfz48_3 := blk_frozen BK403.out 3; have hfz48_4 := blk_frozen BK403.out 4; have hfz48_5 := blk_frozen BK403.out 5; have hfz48_6 := blk_frozen BK403.out 6; have hfz48_7 := blk_frozen BK403.out 7) | ((with_reducible refine gate_callee (f := 54) rfl ?_); refine goesL_ (some 5) rfl rfl Try.func54 (by kernel_rfl) rfl #[.agg #[.int .i64 a0_2, .int .i64 a0_3]] rfl am ?_; (with_reducible refine (pochoirref16_fine.calls a0_2 a0_3 true _ A2.out).mono ?_); rintro e w49 ⟨rfl, hb⟩; refine ⟨_, rfl, ?_⟩; replace BK403 := Aside0.mk (bb BK403.out hb); replace HB := Aside0.mk (below_step (bl1 HB.out GE403.out) hb); (try clear hb); have hcz50_0 : w49.cell? ⟨gb403, 0, none⟩ = some (.int .i64 a0_0) := (blk_cell BK403.out 0).trans rfl; have hcz50_1 : w49.cell? ⟨gb403, 1, none⟩ = some (.bool a0_1) := (blk_cell BK403.out 1).trans rfl; have hcz50_2 : w49.cell? ⟨gb403, 2, none⟩ = some (.int .i64 a0_2) := (blk_cell BK403.out 2).trans rfl; have hcz50_3 : w49.cell? ⟨gb403, 3, none⟩ = some (.int .i64 a0_3) := (blk_cell BK403.out 3).trans rfl; have hcz50_4 : w49.cell? ⟨gb403, 4, none⟩ = some (.int .i64 a0_4) := (blk_cell BK403.out 4).trans rfl; have hcz50_5 : w49.cell? ⟨gb403, 5, none⟩ = some (.int .i64 a0_5) := (blk_cell BK403.out 5).trans rfl; have hcz50_6 : w49.cell? ⟨gb403, 6, none⟩ = some (.int .i64 a0_6) := (blk_cell BK403.out 6).trans rfl; have hcz50_7 : w49.cell? ⟨gb403, 7, none⟩ = some (.int .i64 a0_7) := (blk_cell BK403.out 7).trans rfl; have hfz50_0 := blk_frozen BK403.out 0; have hfz50_1 := blk_frozen BK403.out 1; have hfz50_2 := blk_frozen BK403.out 2; have hfz50_3 := blk_frozen BK403.out 3; have hfz50_4 := blk_frozen BK403.out 4; have hfz50_5 := blk_frozen BK403.out 5; have hfz50_6 := blk_frozen BK403.out 6; have hfz50_7 := blk_frozen BK403.out 7) | (go_at_call 54; (with_reducible refine (pochoirref16_fine.calls a0_4 a0_5 false _ A4.out).mono ?_); rintro e w51 ⟨rfl, hb⟩; replace BK403 := Aside0.mk (bb BK403.out hb); replace HB := Aside0.mk (below_step (bl1 HB.out GE403.out) hb); (try clear hb)))
  go_ret
  exact ⟨by first | rfl | (simp [errW_none, errW_some] <;> rfl) | (simp [*, errW_none, errW_some] <;> rfl), bl1 HB.out GE403.out⟩
 replace c3 := Bool.eq_false_iff.mpr c3
 subst c3
 rw [if_neg (show ¬ (false = true) by decide)] at H
 obtain rfl := Option.some.inj H
 go_enter Try.func17, Try.ntmps17
 go_wp2_with (first | ((with_reducible refine gate_dst (N := 1) rfl ?_); refine be 1 (#[.int .i64 a0_0, .bool a0_1, .int .i64 a0_2, .int .i64 a0_3, .int .i64 a0_4, .int .i64 a0_5, .int .i64 a0_6, .int .i64 a0_7]) 38 ?_; intro gb403 hg w52 hbox hb; have BK403 := Aside0.mk (hbox); have GW403 := Aside0.mk (gz (w := w) hg (bl0 HB.out)); have GE403 := GW403; replace HB := Aside0.mk (below_step (bl0 HB.out) hb); clear hb hbox hg; have hcz53_0 : w52.cell? ⟨gb403, 0, none⟩ = some (.int .i64 a0_0) := (blk_cell BK403.out 0).trans rfl; have hcz53_1 : w52.cell? ⟨gb403, 1, none⟩ = some (.bool a0_1) := (blk_cell BK403.out 1).trans rfl; have hcz53_2 : w52.cell? ⟨gb403, 2, none⟩ = some (.int .i64 a0_2) := (blk_cell BK403.out 2).trans rfl; have hcz53_3 : w52.cell? ⟨gb403, 3, none⟩ = some (.int .i64 a0_3) := (blk_cell BK403.out 3).trans rfl; have hcz53_4 : w52.cell? ⟨gb403, 4, none⟩ = some (.int .i64 a0_4) := (blk_cell BK403.out 4).trans rfl; have hcz53_5 : w52.cell? ⟨gb403, 5, none⟩ = some (.int .i64 a0_5) := (blk_cell BK403.out 5).trans rfl; have hcz53_6 : w52.cell? ⟨gb403, 6, none⟩ = some (.int .i64 a0_6) := (blk_cell BK403.out 6).trans rfl; have hcz53_7 : w52.cell? ⟨gb403, 7, none⟩ = some (.int .i64 a0_7) := (blk_cell BK403.out 7).trans rfl; have hfz53_0 := blk_frozen BK403.out 0; have hfz53_1 := blk_frozen BK403.out 1; have hfz53_2 := blk_frozen BK403.out 2; have hfz53_3 := blk_frozen BK403.out 3; have hfz53_4 := blk_frozen BK403.out 4; have hfz53_5 := blk_frozen BK403.out 5; have hfz53_6 := blk_frozen BK403.out 6; have hfz53_7 := blk_frozen BK403.out 7) | ((with_reducible refine gate_callee (f := 54) rfl ?_); refine goesL_ (some 5) rfl rfl Try.func54 (by kernel_rfl) rfl #[.agg #[.int .i64 a0_2, .int .i64 a0_3]] rfl am ?_; (with_reducible refine (pochoirref16_fine.calls a0_2 a0_3 false _ A2.out).mono ?_); rintro e w54 ⟨rfl, hb⟩; refine ⟨_, rfl, ?_⟩; replace BK403 := Aside0.mk (bb BK403.out hb); replace HB := Aside0.mk (below_step (bl1 HB.out GE403.out) hb); (try clear hb)))
 go_ret
 exact ⟨by first | rfl | (simp [errW_none, errW_some] <;> rfl) | (simp [*, errW_none, errW_some] <;> rfl), bl1 HB.out GE403.out⟩

end Go.Proofs.Ytalgppclaolonaa.XColr
