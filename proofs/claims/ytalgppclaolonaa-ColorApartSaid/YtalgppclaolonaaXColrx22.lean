-- Printed by a program of this claim. Not trusted: Lean checks it.
import Derived.Test.YtalgppclaolonaaXColrx0
import Derived.Test.YtalgppclaolonaaXColrx10
import Derived.Test.YtalgppclaolonaaXColrx11
namespace Go.Proofs.Ytalgppclaolonaa.XColr
open Go.RowKit Go.Proofs.YtalgppclaolonaaW.PrintWords Go.Proofs.YtalgppclaolonaaW.PrintLast Go.Proofs.YtalgppclaolonaaW.PrintMore
attribute [local go_sem] max2_int min2_int max_two min_two max_three min_three max_four min_four   -- for this text's walks alone
set_option linter.unusedVariables false
set_option linter.unusedSimpArgs false
open XOpen

/-! ### color_Row: function 49 -/
def color_Row.l0 : Nat → Int → List Int → Int → Int → Option (List Int)
 | 0, _, _, _, _ => none
 | k + 1, x5, x6, x17, x18 => if x18 < x17 then (if 0 ≤ x18 then (if x18 < (x6.length : Int) then (color_Row.l0 k x5 (x6.set (x18 : Int).toNat x18) x17 (wrap64 (x18 + 1))) else (none)) else (none)) else ((color_contour.f k x5 x6).bind fun t262 => (some t262))
def color_Row.f (k : Nat) (a0 : Int) (a1 : Int) : Option (List Int) := if 0 ≤ (mn (mx a0 0) (mn (mx a1 0) 8192)) then (if (mn (mx a0 0) (mn (mx a1 0) 8192) : Int).toNat ≤ 35184372088832 then ((some (List.replicate (mn (mx a0 0) (mn (mx a1 0) 8192) : Int).toNat 0 : List Int)).bind fun y258 => (color_Row.l0 k (mn (mx a1 0) 8192) y258 (y258.length : Int) 0)) else (none)) else (none)
theorem color_Row.mono_l : ∀ k, (∀ y0 y1 y2 y3, LeO (color_Row.l0 k y0 y1 y2 y3) (color_Row.l0 (k + 1) y0 y1 y2 y3))
 | 0 => fun _ _ _ _ r h => by simp [color_Row.l0] at h
 | k + 1 => by
  have ih0 := color_Row.mono_l k
  ·intro y0 y1 y2 y3
   unfold color_Row.l0
   repeat' first | (with_reducible first | exact ih0 _ _ _ _ | exact color_contour.mono _ _ _ | exact LeO.refl _ | exact LeO.none _ | refine LeO.ite ?_ ?_ | refine LeO.bind ?_ (fun _ => ?_)) | exact ih0 _ _ _ _ | exact color_contour.mono _ _ _ | exact LeO.none _ | refine LeO.ite ?_ ?_ | refine LeO.bind ?_ (fun _ => ?_)
theorem color_Row.mono : ∀ a0 a1 k, LeO (color_Row.f k a0 a1) (color_Row.f (k + 1) a0 a1) := by
 intro a0 a1 k
 have ih0 := color_Row.mono_l k
 unfold color_Row.f
 repeat' first | (with_reducible first | exact ih0 _ _ _ _ | exact color_contour.mono _ _ _ | exact LeO.refl _ | exact LeO.none _ | refine LeO.ite ?_ ?_ | refine LeO.bind ?_ (fun _ => ?_)) | exact ih0 _ _ _ _ | exact color_contour.mono _ _ _ | exact LeO.none _ | refine LeO.ite ?_ ?_ | refine LeO.bind ?_ (fun _ => ?_)
set_option maxHeartbeats 8000000 in
set_option maxRecDepth 100000 in
theorem color_Row.calls (k : Nat) (a0 : Int) (a1 : Int) (r : List Int) (w : World) (h : color_Row.f k a0 a1 = some r) :
  Calls Try.prog 49 #[.int .i64 a0, .int .i64 a1] w fun e w' => ∃ v0_ : Value, e = .returned (v0_) ∧ Kd.R (Kd.int .i64) 3 w' w.heap.size (fun _ => True) v0_ r ∧ Below w.heap.size w w' := by
 have HB := Aside0.mk (Below.refl w.heap.size w)
 have H := h
 clear h; unfold color_Row.f at H
 obtain ⟨ji3, hji3⟩ : ∃ j_ : Int, (mx a1 0) = j_ := ⟨_, rfl⟩
 replace H : (if 0 ≤ (mn (mx a0 0) (mn (ji3) 8192)) then (if (mn (mx a0 0) (mn (ji3) 8192) : Int).toNat ≤ 35184372088832 then ((some (List.replicate (mn (mx a0 0) (mn (ji3) 8192) : Int).toNat 0 : List Int)).bind fun y258 => (color_Row.l0 k (mn (ji3) 8192) y258 (y258.length : Int) 0)) else (none)) else (none)) = some r := by first | (rw [hji3] at H; exact H) | (simp only [hji3] at H ⊢; exact H)
 (try (have hji3l : 0 ≤ ji3 := by (rw [← hji3]; unfold mx; (repeat' split) <;> omega)))
 (try (have hji3m : 0 ≤ ji3 := by omega))
 have hji3_ : (if a1 < 0 then 0 else a1) = ji3 := hji3
 obtain ⟨ji4, hji4⟩ : ∃ j_ : Int, (mn (ji3) 8192) = j_ := ⟨_, rfl⟩
 replace H : (if 0 ≤ (mn (mx a0 0) (ji4)) then (if (mn (mx a0 0) (ji4) : Int).toNat ≤ 35184372088832 then ((some (List.replicate (mn (mx a0 0) (ji4) : Int).toNat 0 : List Int)).bind fun y258 => (color_Row.l0 k ji4 y258 (y258.length : Int) 0)) else (none)) else (none)) = some r := by first | (rw [hji4] at H; exact H) | (simp only [hji4] at H ⊢; exact H)
 have hji4_ : (if 8192 < (ji3) then 8192 else (ji3)) = ji4 := hji4
 obtain ⟨ji5, hji5⟩ : ∃ j_ : Int, (mx a0 0) = j_ := ⟨_, rfl⟩
 replace H : (if 0 ≤ (mn (ji5) (ji4)) then (if (mn (ji5) (ji4) : Int).toNat ≤ 35184372088832 then ((some (List.replicate (mn (ji5) (ji4) : Int).toNat 0 : List Int)).bind fun y258 => (color_Row.l0 k ji4 y258 (y258.length : Int) 0)) else (none)) else (none)) = some r := by first | (rw [hji5] at H; exact H) | (simp only [hji5] at H ⊢; exact H)
 (try (have hji5l : 0 ≤ ji5 := by (rw [← hji5]; unfold mx; (repeat' split) <;> omega)))
 (try (have hji5m : 0 ≤ ji5 := by omega))
 have hji5_ : (if a0 < 0 then 0 else a0) = ji5 := hji5
 obtain ⟨ji6, hji6⟩ : ∃ j_ : Int, (mn (ji5) (ji4)) = j_ := ⟨_, rfl⟩
 replace H : (if 0 ≤ (ji6) then (if (ji6 : Int).toNat ≤ 35184372088832 then ((some (List.replicate (ji6 : Int).toNat 0 : List Int)).bind fun y258 => (color_Row.l0 k ji4 y258 (y258.length : Int) 0)) else (none)) else (none)) = some r := by first | (rw [hji6] at H; exact H) | (simp only [hji6] at H ⊢; exact H)
 have hji6_ : (if (ji4) < (ji5) then (ji4) else (ji5)) = ji6 := hji6
 by_cases c7 : 0 ≤ (ji6)
 ·rw [if_pos c7] at H
  have c7b0 := eq_true c7
  have c7b1 : decide (0 ≤ (ji6)) = true := decide_eq_true c7
  clear c7
  refine ifk H ?_; clear H; intro c8 H
  have c8b0 := eq_true c8
  have c8b1 : decide ((ji6 : Int).toNat ≤ 35184372088832) = true := decide_eq_true c8
  clear c8
  obtain ⟨y258, hy258⟩ : ∃ y_ : List Int, y_ = (List.replicate (ji6 : Int).toNat 0) := ⟨_, rfl⟩
  replace H : (color_Row.l0 k ji4 y258 (y258.length : Int) 0) = some r := by (try rw [hy258]); first | with_reducible exact H | (have H2_ := (Option.bind_some _ _).symm.trans H; with_reducible exact H2_) | exact H
  have Ny258 := Aside0.mk hy258
  clear hy258
  have H' := Aside0.mk H
  clear H
  go_enter Try.func49, Try.ntmps49
  go_wp2_with (first | ((with_reducible refine gate_dst (N := 15) rfl ?_); refine Kd.R_make (Kd.int .i64) _ 3 rfl (N := 15) rfl 24 _ _ rfl ji6 rfl rfl Try.underlying24 (.int .i64 0) 8 info3 rfl (by decide) (by omega) 0 (ok := fun _ => True) (okp := fun _ => True) rfl (fun _ hk => hk) trivial (od) (Nat.le_trans (Nat.mul_le_mul_right _ (od : ji6.toNat ≤ 35184372088832)) (by omega)) (Below.refl _ _) (Nat.le_refl _) ?_; intro v259 w9 ho10 hb hg_ hnew_; clear hg_ hnew_; (first | rw [← Ny258.out] at ho10 | (simp only [Int.reduceToNat] at ho10; rw [← Ny258.out] at ho10)); have HO260 := Aside0.mk (Kd.R_lower ho10 (below_size (bl0 HB.out))); replace HB := Aside0.mk (below_step (bl0 HB.out) hb); clear hb ho10; obtain ⟨Ao11, co11, eo11⟩ := Kd.R_slice HO260.out; subst eo11))
  go_loopg [18] k (fun kq v18 w' => ∃ (x6_1 : List Int) (x18_1 : Int), v18 = .int .i64 x18_1 ∧ Aside0 (color_Row.l0 kq ji4 x6_1 (y258.length : Int) x18_1 = some r) ∧ Aside0 (kq ≤ k) ∧ Aside0 (Kd.R (Kd.int .i64) 3 w' w.heap.size (fun _ => True) (.slice Ao11 y258.length co11) x6_1) ∧ Aside0 (Below w.heap.size w w'))
  case atStart => exact ⟨(y258), (0), fr, H', ⟨Nat.le_refl _⟩, ⟨kr HO260.out⟩, ⟨bl0 HB.out⟩⟩
  case round =>
   clear H'
   try clear p2
   try clear c4
   try clear c7b0
   try clear c7b1
   try clear c8b0
   try clear c8b1
   obtain ⟨x6_1, x18_1, rfl, HA, HK1, HO_6, HB⟩ := hrel
   have hl6_1 := (Kd.R_reads' HO_6.out).1
   rw [hl6_1] at HO_6
   (try simp only [hl6_1])
   cases gk with
   | zero => exact absurd HA.out (by simp [color_Row.l0])
   | succ k1 =>
    have H := HA.out
    clear HA
    simp only [color_Row.l0] at H
    by_cases c12 : x18_1 < (y258.length : Int)
    ·rw [if_pos c12] at H
     have c12b0 := decide_eq_true c12
     (try (have c12b9 := c12b0; rw [hl6_1] at c12b9))
     clear c12
     refine ifk H ?_; clear H; intro c13 H
     have c13b0 := decide_eq_true c13
     clear c13
     refine ifk H ?_; clear H; intro c14 H
     have c14b0 := decide_eq_true c14
     clear c14
     obtain ⟨y261, hy261⟩ : ∃ y_ : List Int, y_ = (x6_1.set (x18_1 : Int).toNat x18_1) := ⟨_, rfl⟩
     replace H : (color_Row.l0 k1 ji4 y261 (y258.length : Int) (wrap64 (x18_1 + 1))) = some r := by (try rw [hy261]); first | with_reducible exact H | (have H2_ := (Option.bind_some _ _).symm.trans H; with_reducible exact H2_) | exact H
     have Ny261 := Aside0.mk hy261
     clear hy261
     have H' := Aside0.mk H
     clear H
     have p15 : 0 ≤ (x18_1 : Int) := od
     have q15 : (x18_1 : Int) < ((x6_1.length : Int) : Int) := od
     obtain ⟨go15, co15, eo15, gb15, gl15, cl15, HG15⟩ := Kd.R_form HO_6.out (by omega)
     (first | cases eo15 | (injection eo15 with ea_ en_ ec_; (first | subst ea_ | (injection ea_ with ea_; subst ea_)); subst ec_; clear en_))
     have GB15 := Aside0.mk gb15
     have GG15 := Aside0.mk HG15
     clear gb15 gl15 HG15
     obtain ⟨hx15_0, hf15_0⟩ := Kd.R_celln 0 HO_6.out (x18_1 : Int) p15 q15
     replace p15 := eq_true p15
     replace q15 := eq_true q15
     have HP16 := Kd.R_putg HO_6.out (x18_1 : Int) x18_1
     go_wp2_with (first | ((with_reducible refine gate_store (t := 3) (p := 24) rfl ?_); refine store_event (t := 3) (p := 24) (v := ?vo_w17) (w1 := (wr.setCell ⟨go15, (x18_1 : Int).toNat, none⟩ (.int .i64 x18_1))) ?hg ?ho ?hn ?hr ?_; (case ho => rfl); (case hg => rfl); (case hn => rfl); (case hr => first | (go_simp; done) | (go_simp; rfl)); intro w17 hw; have hg : wr.grownBy w17 (some go15) := (by rw [hw]; exact HP16.2); have hp_ : Kd.R (Kd.int .i64) 3 w17 w.heap.size (fun _ => True) (.slice (some ⟨go15, 0, none⟩) x6_1.length co11) y261 := (by rw [hw, Ny261.out]; exact HP16.1); clear HP16; replace HO_6 := Aside0.mk (hp_); replace HB := Aside0.mk ((by rw [hw]; exact below_set (HB.out) GB15.out : Below w.heap.size w w17)); clear hg hw hp_))
     (try simp only [← hl6_1])
     go_roundg k1
     case measure => have := HK1.out; omega
     case rel => exact ⟨(y261), (wrap64 (x18_1 + 1)), fr, H', ⟨by have := HK1.out; omega⟩, ⟨by (try simp only [hl6_1]); (with_reducible repeat (first | apply Kd.R_alloc | apply Kd.R_drewN | apply Kd.R_drew)); exact HO_6.out⟩, ⟨bl0 HB.out⟩⟩
    rw [if_neg c12] at H
    have c12b0 := decide_eq_false c12
    (try (have c12b9 := c12b0; rw [hl6_1] at c12b9))
    clear c12
    replace H := Option.bind_eq_some_iff.mp H
    obtain ⟨t262, A180, H⟩ := H
    replace H : (some t262) = some r := H
    have A18 := Aside0.mk A180
    clear A180
    obtain rfl := Option.some.inj H
    go_wp2_with (first | ((with_reducible refine gate_callee (f := 84) rfl ?_); refine goesL_ (some 28) rfl rfl Try.func84 (by kernel_rfl) rfl #[.int .i64 ji4, .slice Ao11 x6_1.length co11] rfl (by (try simp only [List.map_toArray, List.map_cons, List.map_nil]); first | done | (simp only [hji4]; rfl) | rfl | (simp only [List.length_drop, List.length_take]; rfl)) ?_; (with_reducible refine (color_contour.calls k1 ji4 _ _ x6_1 t262 _ ?side1 ?side2 A18.out).mono ?_); (case side1 => exact kc (Kd.R_reads' HO_6.out).2.2); (case side2 => exact (Kd.R_reads' HO_6.out).2.1); rintro e w19 ⟨v263, rfl, ho0, hb⟩; refine ⟨_, rfl, ?_⟩; have HO264 := Aside0.mk (Kd.R_lower (Kd.R_new' ho0 (Kd.R_lt (kr HO_6.out))) (below_size (bl0 HB.out))); replace HO_6 := Aside0.mk (Kd.R_elder' (kr HO_6.out) (Kd.R_base ho0) hb); replace HB := Aside0.mk (below_step (bl0 HB.out) hb); (try clear hb); (try clear ho0)))
    go_ret
    exact ⟨_, by first | rfl | (simp [errW_none, errW_some] <;> rfl) | (simp only [← hji3, ← hji4, ← hji5, ← hji6]; first | rfl | (simp [errW_none, errW_some] <;> rfl)) | (simp [*, errW_none, errW_some] <;> rfl), by (with_reducible repeat (first | apply Kd.R_alloc | apply Kd.R_drewN | apply Kd.R_drew)); exact Kd.R_mono HO264.out (fun _ hk => trivial), bl0 HB.out⟩
 rw [if_neg c7] at H
 exact absurd H (by simp)

/-! ### pochoirlaw23_awake: function 45 -/
def pochoirlaw23_awake.f (k : Nat)  : Option (Bool) := (color_All.f k (([(⟨0, false, (⟨0, 0⟩ : S36), (⟨0, 0⟩ : S36), (⟨4, 0⟩ : S36)⟩ : S38), (⟨0, false, (⟨4, 0⟩ : S36), (⟨0, 0⟩ : S36), (⟨4, 4⟩ : S36)⟩ : S38), (⟨0, false, (⟨4, 4⟩ : S36), (⟨0, 0⟩ : S36), (⟨0, 4⟩ : S36)⟩ : S38), (⟨0, false, (⟨0, 4⟩ : S36), (⟨0, 0⟩ : S36), (⟨0, 0⟩ : S36)⟩ : S38)] : List (S38)))).bind fun bt268 => ((color_Row.f k 1 3).bind fun t272 => (if bt268.2 = 0 then (if (bt268.1.length : Int) = 4 then (if 0 < (bt268.1.length : Int) then (if (rd bt268.1 0) = 3 then (if 1 < (bt268.1.length : Int) then (if (rd bt268.1 1) = 6 then (if 2 < (bt268.1.length : Int) then (if (rd bt268.1 2) = 5 then (if 3 < (bt268.1.length : Int) then (if (rd bt268.1 3) = 6 then (if (t272.length : Int) = 3 then (if 0 < (t272.length : Int) then (if (rd t272 0) = 5 then (if 1 < (t272.length : Int) then (if (rd t272 1) = 7 then (if 2 < (t272.length : Int) then (some ((rd t272 2) == 6)) else (none)) else (some false)) else (none)) else (some false)) else (none)) else (some false)) else (some false)) else (none)) else (some false)) else (none)) else (some false)) else (none)) else (some false)) else (none)) else (some false)) else (some false)))
theorem pochoirlaw23_awake.mono : ∀ k, LeO (pochoirlaw23_awake.f k ) (pochoirlaw23_awake.f (k + 1) ) := by
 intro  k
 unfold pochoirlaw23_awake.f
 repeat' first | (with_reducible first | exact color_All.mono _ _ | exact color_Row.mono _ _ _ | exact LeO.refl _ | exact LeO.none _ | refine LeO.ite ?_ ?_ | refine LeO.bind ?_ (fun _ => ?_)) | exact color_All.mono _ _ | exact color_Row.mono _ _ _ | exact LeO.none _ | refine LeO.ite ?_ ?_ | refine LeO.bind ?_ (fun _ => ?_)
set_option maxHeartbeats 8000000 in
set_option maxRecDepth 100000 in
theorem pochoirlaw23_awake.calls (k : Nat)  (r : Bool) (w : World) (hq_ : r = true) (h : pochoirlaw23_awake.f k  = some r) :
  Calls Try.prog 45 #[] w fun e w' => e = .returned (.bool r) ∧ Below w.heap.size w w' := by
 have hu36 := Try.underlying36
 have hu38 := Try.underlying38
 have HB := Aside0.mk (Below.refl w.heap.size w)
 have HQ := Aside0.mk hq_
 clear hq_
 have H := h
 clear h; unfold pochoirlaw23_awake.f at H
 obtain ⟨y265, hy265⟩ : ∃ y_ : List (S38), y_ = (([(⟨0, false, (⟨0, 0⟩ : S36), (⟨0, 0⟩ : S36), (⟨4, 0⟩ : S36)⟩ : S38), (⟨0, false, (⟨4, 0⟩ : S36), (⟨0, 0⟩ : S36), (⟨4, 4⟩ : S36)⟩ : S38), (⟨0, false, (⟨4, 4⟩ : S36), (⟨0, 0⟩ : S36), (⟨0, 4⟩ : S36)⟩ : S38), (⟨0, false, (⟨0, 4⟩ : S36), (⟨0, 0⟩ : S36), (⟨0, 0⟩ : S36)⟩ : S38)] : List (S38))) := ⟨_, rfl⟩
 replace H : ((color_All.f k y265).bind fun bt268 => ((color_Row.f k 1 3).bind fun t272 => (if bt268.2 = 0 then (if (bt268.1.length : Int) = 4 then (if 0 < (bt268.1.length : Int) then (if (rd bt268.1 0) = 3 then (if 1 < (bt268.1.length : Int) then (if (rd bt268.1 1) = 6 then (if 2 < (bt268.1.length : Int) then (if (rd bt268.1 2) = 5 then (if 3 < (bt268.1.length : Int) then (if (rd bt268.1 3) = 6 then (if (t272.length : Int) = 3 then (if 0 < (t272.length : Int) then (if (rd t272 0) = 5 then (if 1 < (t272.length : Int) then (if (rd t272 1) = 7 then (if 2 < (t272.length : Int) then (some ((rd t272 2) == 6)) else (none)) else (some false)) else (none)) else (some false)) else (none)) else (some false)) else (some false)) else (none)) else (some false)) else (none)) else (some false)) else (none)) else (some false)) else (none)) else (some false)) else (some false)))) = some r := by (try rw [hy265]); first | with_reducible exact H | (have H2_ := (Option.bind_some _ _).symm.trans H; with_reducible exact H2_) | exact H
 have Ny265 := Aside0.mk hy265
 clear hy265
 replace H := Option.bind_eq_some_iff.mp H
 obtain ⟨⟨t268, t269⟩, A10, H⟩ := H
 replace H : ((color_Row.f k 1 3).bind fun t272 => (if t269 = 0 then (if (t268.length : Int) = 4 then (if 0 < (t268.length : Int) then (if (rd t268 0) = 3 then (if 1 < (t268.length : Int) then (if (rd t268 1) = 6 then (if 2 < (t268.length : Int) then (if (rd t268 2) = 5 then (if 3 < (t268.length : Int) then (if (rd t268 3) = 6 then (if (t272.length : Int) = 3 then (if 0 < (t272.length : Int) then (if (rd t272 0) = 5 then (if 1 < (t272.length : Int) then (if (rd t272 1) = 7 then (if 2 < (t272.length : Int) then (some ((rd t272 2) == 6)) else (none)) else (some false)) else (none)) else (some false)) else (none)) else (some false)) else (some false)) else (none)) else (some false)) else (none)) else (some false)) else (none)) else (some false)) else (none)) else (some false)) else (some false))) = some r := H
 have A1 := Aside0.mk A10
 clear A10
 replace H := Option.bind_eq_some_iff.mp H
 obtain ⟨t272, A20, H⟩ := H
 replace H : (if t269 = 0 then (if (t268.length : Int) = 4 then (if 0 < (t268.length : Int) then (if (rd t268 0) = 3 then (if 1 < (t268.length : Int) then (if (rd t268 1) = 6 then (if 2 < (t268.length : Int) then (if (rd t268 2) = 5 then (if 3 < (t268.length : Int) then (if (rd t268 3) = 6 then (if (t272.length : Int) = 3 then (if 0 < (t272.length : Int) then (if (rd t272 0) = 5 then (if 1 < (t272.length : Int) then (if (rd t272 1) = 7 then (if 2 < (t272.length : Int) then (some ((rd t272 2) == 6)) else (none)) else (some false)) else (none)) else (some false)) else (none)) else (some false)) else (some false)) else (none)) else (some false)) else (none)) else (some false)) else (none)) else (some false)) else (none)) else (some false)) else (some false)) = some r := H
 have A2 := Aside0.mk A20
 clear A20
 by_cases c3 : t269 = 0
 ·rw [if_pos c3] at H
  have c3b0 : (t269 == 0) = true := beq_iff_eq.mpr c3
  have c3b1 : (t269 != 0) = false := bne_eq_false_iff_eq.mpr c3
  clear c3
  by_cases c4 : (t268.length : Int) = 4
  ·rw [if_pos c4] at H
   have c4b0 : ((t268.length : Int) == 4) = true := beq_iff_eq.mpr c4
   have c4b1 : ((t268.length : Int) != 4) = false := bne_eq_false_iff_eq.mpr c4
   clear c4
   refine ifk H ?_; clear H; intro c5 H
   have c5b0 := decide_eq_true c5
   have c5b1 : decide (0 < t268.length) = true := decide_eq_true (by omega)
   clear c5
   by_cases c6 : (rd t268 0) = 3
   ·rw [if_pos c6] at H
    have c6b0 : ((rd t268 0) == 3) = true := beq_iff_eq.mpr c6
    have c6b1 : ((rd t268 0) != 3) = false := bne_eq_false_iff_eq.mpr c6
    clear c6
    refine ifk H ?_; clear H; intro c7 H
    have c7b0 := decide_eq_true c7
    have c7b1 : decide (1 < t268.length) = true := decide_eq_true (by omega)
    clear c7
    by_cases c8 : (rd t268 1) = 6
    ·rw [if_pos c8] at H
     have c8b0 : ((rd t268 1) == 6) = true := beq_iff_eq.mpr c8
     have c8b1 : ((rd t268 1) != 6) = false := bne_eq_false_iff_eq.mpr c8
     clear c8
     refine ifk H ?_; clear H; intro c9 H
     have c9b0 := decide_eq_true c9
     have c9b1 : decide (2 < t268.length) = true := decide_eq_true (by omega)
     clear c9
     by_cases c10 : (rd t268 2) = 5
     ·rw [if_pos c10] at H
      have c10b0 : ((rd t268 2) == 5) = true := beq_iff_eq.mpr c10
      have c10b1 : ((rd t268 2) != 5) = false := bne_eq_false_iff_eq.mpr c10
      clear c10
      refine ifk H ?_; clear H; intro c11 H
      have c11b0 := decide_eq_true c11
      have c11b1 : decide (3 < t268.length) = true := decide_eq_true (by omega)
      clear c11
      by_cases c12 : (rd t268 3) = 6
      ·rw [if_pos c12] at H
       have c12b0 : ((rd t268 3) == 6) = true := beq_iff_eq.mpr c12
       have c12b1 : ((rd t268 3) != 6) = false := bne_eq_false_iff_eq.mpr c12
       clear c12
       by_cases c13 : (t272.length : Int) = 3
       ·rw [if_pos c13] at H
        have c13b0 : ((t272.length : Int) == 3) = true := beq_iff_eq.mpr c13
        have c13b1 : ((t272.length : Int) != 3) = false := bne_eq_false_iff_eq.mpr c13
        clear c13
        refine ifk H ?_; clear H; intro c14 H
        have c14b0 := decide_eq_true c14
        have c14b1 : decide (0 < t272.length) = true := decide_eq_true (by omega)
        clear c14
        by_cases c15 : (rd t272 0) = 5
        ·rw [if_pos c15] at H
         have c15b0 : ((rd t272 0) == 5) = true := beq_iff_eq.mpr c15
         have c15b1 : ((rd t272 0) != 5) = false := bne_eq_false_iff_eq.mpr c15
         clear c15
         refine ifk H ?_; clear H; intro c16 H
         have c16b0 := decide_eq_true c16
         have c16b1 : decide (1 < t272.length) = true := decide_eq_true (by omega)
         clear c16
         by_cases c17 : (rd t272 1) = 7
         ·rw [if_pos c17] at H
          have c17b0 : ((rd t272 1) == 7) = true := beq_iff_eq.mpr c17
          have c17b1 : ((rd t272 1) != 7) = false := bne_eq_false_iff_eq.mpr c17
          clear c17
          refine ifk H ?_; clear H; intro c18 H
          have c18b0 := decide_eq_true c18
          have c18b1 : decide (2 < t272.length) = true := decide_eq_true (by omega)
          clear c18
          obtain rfl := Option.some.inj H
          go_enter Try.func45, Try.ntmps45
          go_wp2_with (first | ((with_reducible refine gate_dst (N := 15) rfl ?_); (try (refine gate_guard (by rfl) ?_; dsimp only)); refine Kd.R_lit k38 _ 38 ?hg (N := 15) ?hd (xs := ([(⟨0, false, (⟨0, 0⟩ : S36), (⟨0, 0⟩ : S36), (⟨4, 0⟩ : S36)⟩ : S38), (⟨0, false, (⟨4, 0⟩ : S36), (⟨0, 0⟩ : S36), (⟨4, 4⟩ : S36)⟩ : S38), (⟨0, false, (⟨4, 4⟩ : S36), (⟨0, 0⟩ : S36), (⟨0, 4⟩ : S36)⟩ : S38), (⟨0, false, (⟨0, 4⟩ : S36), (⟨0, 0⟩ : S36), (⟨0, 0⟩ : S36)⟩ : S38)] : List (S38))) (inner := [.int .i64 0, .bool false, .int .i64 0, .int .i64 0, .int .i64 0, .int .i64 0, .int .i64 4, .int .i64 0, .int .i64 0, .bool false, .int .i64 4, .int .i64 0, .int .i64 0, .int .i64 0, .int .i64 4, .int .i64 4, .int .i64 0, .bool false, .int .i64 4, .int .i64 4, .int .i64 0, .int .i64 0, .int .i64 0, .int .i64 4, .int .i64 0, .bool false, .int .i64 0, .int .i64 4, .int .i64 0, .int .i64 0, .int .i64 0, .int .i64 0]) (ok := fun _ => True) (okp := fun _ => True) ?hr ?hp (fun _ hk => hk) trivial (Below.refl _ _) (Nat.le_refl _) (by simp) ?_; (case hd => rfl); (case hg => rfl); (case hr => first | (go_simp; done) | (go_simp; rfl)); (case hp => exact (Reps.c8 (show Kd.M k38 _ _ _ (⟨0, false, (⟨0, 0⟩ : S36), (⟨0, 0⟩ : S36), (⟨4, 0⟩ : S36)⟩ : S38) [.int .i64 0, .bool false, .int .i64 0, .int .i64 0, .int .i64 0, .int .i64 0, .int .i64 4, .int .i64 0] from (k38_mkM _ _ _ (⟨0, false, (⟨0, 0⟩ : S36), (⟨0, 0⟩ : S36), (⟨4, 0⟩ : S36)⟩ : S38) )) (Reps.c8 (show Kd.M k38 _ _ _ (⟨0, false, (⟨4, 0⟩ : S36), (⟨0, 0⟩ : S36), (⟨4, 4⟩ : S36)⟩ : S38) [.int .i64 0, .bool false, .int .i64 4, .int .i64 0, .int .i64 0, .int .i64 0, .int .i64 4, .int .i64 4] from (k38_mkM _ _ _ (⟨0, false, (⟨4, 0⟩ : S36), (⟨0, 0⟩ : S36), (⟨4, 4⟩ : S36)⟩ : S38) )) (Reps.c8 (show Kd.M k38 _ _ _ (⟨0, false, (⟨4, 4⟩ : S36), (⟨0, 0⟩ : S36), (⟨0, 4⟩ : S36)⟩ : S38) [.int .i64 0, .bool false, .int .i64 4, .int .i64 4, .int .i64 0, .int .i64 0, .int .i64 0, .int .i64 4] from (k38_mkM _ _ _ (⟨0, false, (⟨4, 4⟩ : S36), (⟨0, 0⟩ : S36), (⟨0, 4⟩ : S36)⟩ : S38) )) (Reps.c8 (show Kd.M k38 _ _ _ (⟨0, false, (⟨0, 4⟩ : S36), (⟨0, 0⟩ : S36), (⟨0, 0⟩ : S36)⟩ : S38) [.int .i64 0, .bool false, .int .i64 0, .int .i64 4, .int .i64 0, .int .i64 0, .int .i64 0, .int .i64 0] from (k38_mkM _ _ _ (⟨0, false, (⟨0, 4⟩ : S36), (⟨0, 0⟩ : S36), (⟨0, 0⟩ : S36)⟩ : S38) )) (Reps.none _ _)))))); intro v266 w19 ho20 hb hg_ hnew_; clear hg_ hnew_; (first | rw [← Ny265.out] at ho20 | (simp only [Int.reduceToNat] at ho20; rw [← Ny265.out] at ho20)); have HO267 := Aside0.mk (Kd.R_lower ho20 (below_size (bl0 HB.out))); replace HB := Aside0.mk (below_step (bl0 HB.out) hb); clear hb ho20; obtain ⟨Ao21, co21, eo21⟩ := Kd.R_slice HO267.out; subst eo21) | ((with_reducible refine gate_callee (f := 46) rfl ?_); refine goesL_ (some 18) rfl rfl Try.func46 (by kernel_rfl) rfl #[.slice Ao21 y265.length co21] rfl am ?_; (with_reducible refine (color_All.calls k _ _ y265 t268 t269 _ ?side1 ?side2 A1.out).mono ?_); (case side1 => exact kc (Kd.R_reads' HO267.out).2.2); (case side2 => exact (Kd.R_reads' HO267.out).2.1); rintro e w22 ⟨v270, rfl, ho0, hb⟩; refine ⟨_, rfl, ?_⟩; have HO271 := Aside0.mk (Kd.R_lower ho0 (below_size (bl0 HB.out))); replace HO267 := Aside0.mk (Kd.R_below (kr HO267.out) hb); replace HB := Aside0.mk (below_step (bl0 HB.out) hb); (try clear hb); (try clear hk); (try clear ho0)) | ((with_reducible refine gate_callee (f := 49) rfl ?_); refine goesL_ (some 21) rfl rfl Try.func49 (by kernel_rfl) rfl #[.int .i64 1, .int .i64 3] rfl am ?_; (with_reducible refine (color_Row.calls k 1 3 t272 _ A2.out).mono ?_); rintro e w23 ⟨v273, rfl, ho0, hb⟩; refine ⟨_, rfl, ?_⟩; have HO274 := Aside0.mk (Kd.R_lower (Kd.R_new' ho0 (Kd.R_lt (kr HO271.out))) (below_size (bl0 HB.out))); replace HO267 := Aside0.mk (Kd.R_below (kr HO267.out) hb); replace HO271 := Aside0.mk (Kd.R_elder' (kr HO271.out) (Kd.R_base ho0) hb); replace HB := Aside0.mk (below_step (bl0 HB.out) hb); (try clear hb); (try clear hk); (try clear ho0); obtain ⟨Ao24, co24, eo24⟩ := Kd.R_slice HO271.out; subst eo24; have p275 : 0 ≤ (0 : Int) := (by omega); have q275 : 0 < (t268.length : Int) := od; obtain ⟨ad275, e275, hx275_0⟩ := Kd.at_int (Kd.R_reads' HO271.out).2.2 0 p275 q275; cases e275; have qi275 : (0 < t268.length) = True := eq_true (by omega); (try rw [show ((0 : Int)).toNat = 0 from rfl] at hx275_0); (try rw [Addr.add_zero'] at hx275_0); replace p275 := eq_true p275; replace q275 := eq_true q275; have p276 : 0 ≤ (1 : Int) := (by omega); have q276 : 1 < (t268.length : Int) := od; obtain ⟨ad276, e276, hx276_0⟩ := Kd.at_int (Kd.R_reads' HO271.out).2.2 1 p276 q276; obtain rfl : ad275 = ad276 := (by injection e276); (try simp only [show (1 : Int).toNat = 1 from rfl, Nat.reduceMul, Nat.reduceEqDiff, Go.Addr.add, ↓reduceIte] at hx276_0); have qi276 : (1 < t268.length) = True := eq_true (by omega); (try rw [show ((1 : Int)).toNat = 1 from rfl] at hx276_0); replace p276 := eq_true p276; replace q276 := eq_true q276; have p277 : 0 ≤ (2 : Int) := (by omega); have q277 : 2 < (t268.length : Int) := od; obtain ⟨ad277, e277, hx277_0⟩ := Kd.at_int (Kd.R_reads' HO271.out).2.2 2 p277 q277; obtain rfl : ad275 = ad277 := (by injection e277); (try simp only [show (2 : Int).toNat = 2 from rfl, Nat.reduceMul, Nat.reduceEqDiff, Go.Addr.add, ↓reduceIte] at hx277_0); have qi277 : (2 < t268.length) = True := eq_true (by omega); (try rw [show ((2 : Int)).toNat = 2 from rfl] at hx277_0); replace p277 := eq_true p277; replace q277 := eq_true q277; have p278 : 0 ≤ (3 : Int) := (by omega); have q278 : 3 < (t268.length : Int) := od; obtain ⟨ad278, e278, hx278_0⟩ := Kd.at_int (Kd.R_reads' HO271.out).2.2 3 p278 q278; obtain rfl : ad275 = ad278 := (by injection e278); (try simp only [show (3 : Int).toNat = 3 from rfl, Nat.reduceMul, Nat.reduceEqDiff, Go.Addr.add, ↓reduceIte] at hx278_0); have qi278 : (3 < t268.length) = True := eq_true (by omega); (try rw [show ((3 : Int)).toNat = 3 from rfl] at hx278_0); replace p278 := eq_true p278; replace q278 := eq_true q278; obtain ⟨Ao25, co25, eo25⟩ := Kd.R_slice HO274.out; subst eo25; have p279 : 0 ≤ (0 : Int) := (by omega); have q279 : 0 < (t272.length : Int) := od; obtain ⟨ad279, e279, hx279_0⟩ := Kd.at_int (Kd.R_reads' HO274.out).2.2 0 p279 q279; cases e279; have qi279 : (0 < t272.length) = True := eq_true (by omega); (try rw [show ((0 : Int)).toNat = 0 from rfl] at hx279_0); (try rw [Addr.add_zero'] at hx279_0); replace p279 := eq_true p279; replace q279 := eq_true q279; have p280 : 0 ≤ (1 : Int) := (by omega); have q280 : 1 < (t272.length : Int) := od; obtain ⟨ad280, e280, hx280_0⟩ := Kd.at_int (Kd.R_reads' HO274.out).2.2 1 p280 q280; obtain rfl : ad279 = ad280 := (by injection e280); (try simp only [show (1 : Int).toNat = 1 from rfl, Nat.reduceMul, Nat.reduceEqDiff, Go.Addr.add, ↓reduceIte] at hx280_0); have qi280 : (1 < t272.length) = True := eq_true (by omega); (try rw [show ((1 : Int)).toNat = 1 from rfl] at hx280_0); replace p280 := eq_true p280; replace q280 := eq_true q280; have p281 : 0 ≤ (2 : Int) := (by omega); have q281 : 2 < (t272.length : Int) := od; obtain ⟨ad281, e281, hx281_0⟩ := Kd.at_int (Kd.R_reads' HO274.out).2.2 2 p281 q281; obtain rfl : ad279 = ad281 := (by injection e281); (try simp only [show (2 : Int).toNat = 2 from rfl, Nat.reduceMul, Nat.reduceEqDiff, Go.Addr.add, ↓reduceIte] at hx281_0); have qi281 : (2 < t272.length) = True := eq_true (by omega); (try rw [show ((2 : Int)).toNat = 2 from rfl] at hx281_0); replace p281 := eq_true p281; replace q281 := eq_true q281))
          go_ret
          exact ⟨by first | rfl | (simp [errW_none, errW_some] <;> rfl) | (simp [*, errW_none, errW_some] <;> rfl), bl0 HB.out⟩
         rw [if_neg c17] at H
         have c17b0 : ((rd t272 1) == 7) = false := beq_eq_false_iff_ne.mpr c17
         have c17b1 : ((rd t272 1) != 7) = true := bne_iff_ne.mpr c17
         exact absurd (HQ.out ▸ H) (by simp)
        rw [if_neg c15] at H
        have c15b0 : ((rd t272 0) == 5) = false := beq_eq_false_iff_ne.mpr c15
        have c15b1 : ((rd t272 0) != 5) = true := bne_iff_ne.mpr c15
        exact absurd (HQ.out ▸ H) (by simp)
       rw [if_neg c13] at H
       have c13b0 : ((t272.length : Int) == 3) = false := beq_eq_false_iff_ne.mpr c13
       have c13b1 : ((t272.length : Int) != 3) = true := bne_iff_ne.mpr c13
       exact absurd (HQ.out ▸ H) (by simp)
      rw [if_neg c12] at H
      have c12b0 : ((rd t268 3) == 6) = false := beq_eq_false_iff_ne.mpr c12
      have c12b1 : ((rd t268 3) != 6) = true := bne_iff_ne.mpr c12
      exact absurd (HQ.out ▸ H) (by simp)
     rw [if_neg c10] at H
     have c10b0 : ((rd t268 2) == 5) = false := beq_eq_false_iff_ne.mpr c10
     have c10b1 : ((rd t268 2) != 5) = true := bne_iff_ne.mpr c10
     exact absurd (HQ.out ▸ H) (by simp)
    rw [if_neg c8] at H
    have c8b0 : ((rd t268 1) == 6) = false := beq_eq_false_iff_ne.mpr c8
    have c8b1 : ((rd t268 1) != 6) = true := bne_iff_ne.mpr c8
    exact absurd (HQ.out ▸ H) (by simp)
   rw [if_neg c6] at H
   have c6b0 : ((rd t268 0) == 3) = false := beq_eq_false_iff_ne.mpr c6
   have c6b1 : ((rd t268 0) != 3) = true := bne_iff_ne.mpr c6
   exact absurd (HQ.out ▸ H) (by simp)
  rw [if_neg c4] at H
  have c4b0 : ((t268.length : Int) == 4) = false := beq_eq_false_iff_ne.mpr c4
  have c4b1 : ((t268.length : Int) != 4) = true := bne_iff_ne.mpr c4
  exact absurd (HQ.out ▸ H) (by simp)
 rw [if_neg c3] at H
 have c3b0 : (t269 == 0) = false := beq_eq_false_iff_ne.mpr c3
 have c3b1 : (t269 != 0) = true := bne_iff_ne.mpr c3
 exact absurd (HQ.out ▸ H) (by simp)

end Go.Proofs.Ytalgppclaolonaa.XColr
