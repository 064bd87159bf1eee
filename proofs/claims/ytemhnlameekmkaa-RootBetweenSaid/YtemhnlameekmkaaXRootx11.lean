-- Printed by a program of this claim. Not trusted: Lean checks it.
import Derived.Test.YtemhnlameekmkaaXRootx0
import Derived.Test.YtemhnlameekmkaaXRootx3
import Derived.Test.YtemhnlameekmkaaXRootx5
namespace Go.Proofs.Ytemhnlameekmkaa.XRoot
open Go.RowKit Go.Proofs.YtemhnlameekmkaaW.PrintWords Go.Proofs.YtemhnlameekmkaaW.PrintLast Go.Proofs.YtemhnlameekmkaaW.PrintMore
attribute [local go_sem] max2_int min2_int max_two min_two max_three min_three max_four min_four   -- for this text's walks alone
set_option linter.unusedVariables false
set_option linter.unusedSimpArgs false

/-! ### pochoirlaw04_RootBetween: function 8 -/
def pochoirlaw04_RootBetween.j0 : Nat → Int → Bool → Option (Bool)
 | 0, _, _ => none
 | k + 1, x0, x5 => if x5 = true then (some false) else ((root_Floor.f k x0).bind fun t256 => (if t256 < 4294967296 then (if (IntKind.u64.wrap (t256 * t256)) ≤ x0 then (if t256 = 4294967295 then ((root_Whole.f k 0 x0).bind fun t257 => (if (t257 == ((IntKind.u64.wrap (t256 * t256)) == x0)) = true then ((root_Below.f k t256 0 x0 0 1).bind fun t258 => (if t258 = true then ((root_Below.f k (IntKind.u64.wrap (t256 + 1)) 0 x0 0 1).bind fun t259 => (some (!t259))) else (some false))) else (some false))) else (if (IntKind.u64.wrap ((IntKind.u64.wrap (t256 + 1)) * (IntKind.u64.wrap (t256 + 1)))) > x0 then ((root_Whole.f k 0 x0).bind fun t260 => (if (t260 == ((IntKind.u64.wrap (t256 * t256)) == x0)) = true then ((root_Below.f k t256 0 x0 0 1).bind fun t261 => (if t261 = true then ((root_Below.f k (IntKind.u64.wrap (t256 + 1)) 0 x0 0 1).bind fun t262 => (some (!t262))) else (some false))) else (some false))) else (some false))) else (some false)) else (some false)))
def pochoirlaw04_RootBetween.f (k : Nat) (a0 : Int) : Option (Bool) := (pochoirlaw04_awake.f k).bind fun t255 => (pochoirlaw04_RootBetween.j0 k a0 (!t255))
theorem pochoirlaw04_RootBetween.mono_l : ∀ k, (∀ y0 y1, LeO (pochoirlaw04_RootBetween.j0 k y0 y1) (pochoirlaw04_RootBetween.j0 (k + 1) y0 y1))
 | 0 => fun _ _ r h => by simp [pochoirlaw04_RootBetween.j0] at h
 | k + 1 => by
  have ih0 := pochoirlaw04_RootBetween.mono_l k
  ·intro y0 y1
   unfold pochoirlaw04_RootBetween.j0
   repeat' first
   | (with_reducible exact ih0 _ _)
   | (with_reducible exact pochoirlaw04_awake.mono _)
   | (with_reducible exact root_Below.mono _ _ _ _ _ _)
   | (with_reducible exact root_Floor.mono _ _)
   | (with_reducible exact root_Whole.mono _ _ _)
   | (with_reducible exact LeO.refl _)
   | (with_reducible exact LeO.none _)
   | (with_reducible refine LeO.ite ?_ ?_)
   | (with_reducible refine LeO.bind ?_ (fun _ => ?_))
   | exact ih0 _ _
   | exact pochoirlaw04_awake.mono _
   | exact root_Below.mono _ _ _ _ _ _
   | exact root_Floor.mono _ _
   | exact root_Whole.mono _ _ _
   | exact LeO.none _
   | refine LeO.ite ?_ ?_
   | refine LeO.bind ?_ (fun _ => ?_)
theorem pochoirlaw04_RootBetween.mono : ∀ a0 k, LeO (pochoirlaw04_RootBetween.f k a0) (pochoirlaw04_RootBetween.f (k + 1) a0) := by
 intro a0 k
 have ih0 := pochoirlaw04_RootBetween.mono_l k
 unfold pochoirlaw04_RootBetween.f
 repeat' first
   | (with_reducible exact ih0 _ _)
   | (with_reducible exact pochoirlaw04_awake.mono _)
   | (with_reducible exact root_Below.mono _ _ _ _ _ _)
   | (with_reducible exact root_Floor.mono _ _)
   | (with_reducible exact root_Whole.mono _ _ _)
   | (with_reducible exact LeO.refl _)
   | (with_reducible exact LeO.none _)
   | (with_reducible refine LeO.ite ?_ ?_)
   | (with_reducible refine LeO.bind ?_ (fun _ => ?_))
   | exact ih0 _ _
   | exact pochoirlaw04_awake.mono _
   | exact root_Below.mono _ _ _ _ _ _
   | exact root_Floor.mono _ _
   | exact root_Whole.mono _ _ _
   | exact LeO.none _
   | refine LeO.ite ?_ ?_
   | refine LeO.bind ?_ (fun _ => ?_)
set_option maxHeartbeats 8000000 in
set_option maxRecDepth 100000 in
theorem pochoirlaw04_RootBetween.calls (k : Nat) (a0 : Int) (r : Bool) (w : World) (h : pochoirlaw04_RootBetween.f k a0 = some r) :
  Calls Try.prog 8 #[.int .u64 a0] w fun e w' => e = .returned (.bool r) ∧ Below w.heap.size w w' := by
 have hu49 := Try.underlying49
 have HB := Aside0.mk (Below.refl w.heap.size w)
 have H : ((pochoirlaw04_awake.f k).bind fun t255 => (pochoirlaw04_RootBetween.j0 k a0 (!t255))) = some r := h
 clear h
 have HC2 := Aside0.mk H
 clear H
 go_enter Try.func8, Try.ntmps8
 go_upto_region 1 with (fail)
 go_cut [5] (fun v5 wc => ∃ (kq : Nat) (x5_1 : Bool), v5 = .bool x5_1 ∧ Aside0 (pochoirlaw04_RootBetween.j0 kq a0 x5_1 = some r) ∧ Aside0 (kq ≤ k) ∧ Aside0 (Below w.heap.size w wc))
 case first =>
  have H := HC2.out
  clear HC2
  replace H := Option.bind_eq_some_iff.mp H
  obtain ⟨t255, A30, H⟩ := H
  replace H : (pochoirlaw04_RootBetween.j0 k a0 (!t255)) = some r := H
  have A3 := Aside0.mk A30
  clear A30
  have H' := Aside0.mk H
  clear H
  go_wp2_with (first | ((with_reducible refine gate_callee (f := 27) rfl ?_); refine goesL_ (some 4) rfl rfl Try.func27 (by kernel_rfl) rfl #[] rfl (by (try simp only [List.map_toArray, List.map_cons, List.map_nil]); first | done | rfl | (simp only [List.length_drop, List.length_take]; rfl)) ?_; (with_reducible refine (pochoirlaw04_awake.calls k  t255 _ A3.out).mono ?_); rintro e w4 ⟨rfl, hb⟩; refine ⟨_, rfl, ?_⟩; have n0_ := Aside0.mk (below_step (XOpen.bl0 HB.out) hb); clear HB; have HB := n0_; clear n0_; (try clear hb); (try clear hb2); (try clear hk); (try clear hi)))
  go_meet
  case rel => exact ⟨_, (!t255), (by first | rfl | (simp; done) | (simp [*]; done)), H', ⟨by first | omega | exact Nat.le_refl _⟩, ⟨XOpen.bl0 HB.out⟩⟩
 case rest =>
  clear HC2
  try clear c2
  try clear p2
  obtain ⟨kq, x5_1, rfl, HA, HJ1, HB⟩ := hcut
  cases kq with
  | zero => exact absurd HA.out (by simp [pochoirlaw04_RootBetween.j0])
  | succ kj1 =>
   have H := HA.out
   clear HA
   simp only [pochoirlaw04_RootBetween.j0] at H
   by_cases c5 : x5_1 = true
   ·subst c5
    have H1 : (some false) = some r := by rw [if_pos rfl] at H; exact H
    clear H
    have H := H1
    clear H1
    obtain rfl := Option.some.inj H
    go_wp2
    go_ret
    exact ⟨by first | rfl | (simp [errW_none, errW_some] <;> rfl) | (simp [*, errW_none, errW_some] <;> rfl), XOpen.bl0 HB.out⟩
   ·replace c5 := Bool.eq_false_iff.mpr c5
    subst c5
    have H1 : ((root_Floor.f kj1 a0).bind fun t256 => (if t256 < 4294967296 then (if (IntKind.u64.wrap (t256 * t256)) ≤ a0 then (if t256 = 4294967295 then ((root_Whole.f kj1 0 a0).bind fun t257 => (if (t257 == ((IntKind.u64.wrap (t256 * t256)) == a0)) = true then ((root_Below.f kj1 t256 0 a0 0 1).bind fun t258 => (if t258 = true then ((root_Below.f kj1 (IntKind.u64.wrap (t256 + 1)) 0 a0 0 1).bind fun t259 => (some (!t259))) else (some false))) else (some false))) else (if (IntKind.u64.wrap ((IntKind.u64.wrap (t256 + 1)) * (IntKind.u64.wrap (t256 + 1)))) > a0 then ((root_Whole.f kj1 0 a0).bind fun t260 => (if (t260 == ((IntKind.u64.wrap (t256 * t256)) == a0)) = true then ((root_Below.f kj1 t256 0 a0 0 1).bind fun t261 => (if t261 = true then ((root_Below.f kj1 (IntKind.u64.wrap (t256 + 1)) 0 a0 0 1).bind fun t262 => (some (!t262))) else (some false))) else (some false))) else (some false))) else (some false)) else (some false))) = some r := by rw [if_neg (show ¬ (false = true) by decide)] at H; exact H
    clear H
    have H := H1
    clear H1
    replace H := Option.bind_eq_some_iff.mp H
    obtain ⟨t256, A60, H⟩ := H
    replace H : (if t256 < 4294967296 then (if (IntKind.u64.wrap (t256 * t256)) ≤ a0 then (if t256 = 4294967295 then ((root_Whole.f kj1 0 a0).bind fun t257 => (if (t257 == ((IntKind.u64.wrap (t256 * t256)) == a0)) = true then ((root_Below.f kj1 t256 0 a0 0 1).bind fun t258 => (if t258 = true then ((root_Below.f kj1 (IntKind.u64.wrap (t256 + 1)) 0 a0 0 1).bind fun t259 => (some (!t259))) else (some false))) else (some false))) else (if (IntKind.u64.wrap ((IntKind.u64.wrap (t256 + 1)) * (IntKind.u64.wrap (t256 + 1)))) > a0 then ((root_Whole.f kj1 0 a0).bind fun t260 => (if (t260 == ((IntKind.u64.wrap (t256 * t256)) == a0)) = true then ((root_Below.f kj1 t256 0 a0 0 1).bind fun t261 => (if t261 = true then ((root_Below.f kj1 (IntKind.u64.wrap (t256 + 1)) 0 a0 0 1).bind fun t262 => (some (!t262))) else (some false))) else (some false))) else (some false))) else (some false)) else (some false)) = some r := H
    have A6 := Aside0.mk A60
    clear A60
    by_cases c7 : t256 < 4294967296
    ·rw [if_pos c7] at H
     have c7b0 : decide (t256 < 4294967296) = true := decide_eq_true c7
     clear c7
     by_cases c8 : (IntKind.u64.wrap (t256 * t256)) ≤ a0
     ·rw [if_pos c8] at H
      have c8b0 : decide ((IntKind.u64.wrap (t256 * t256)) ≤ a0) = true := decide_eq_true c8
      clear c8
      by_cases c9 : t256 = 4294967295
      ·rw [if_pos c9] at H
       have c9b0 : (t256 == 4294967295) = true := beq_iff_eq.mpr c9
       have c9b1 : (t256 != 4294967295) = false := bne_eq_false_iff_eq.mpr c9
       clear c9
       replace H := Option.bind_eq_some_iff.mp H
       obtain ⟨t257, A100, H⟩ := H
       replace H : (if (t257 == ((IntKind.u64.wrap (t256 * t256)) == a0)) = true then ((root_Below.f kj1 t256 0 a0 0 1).bind fun t258 => (if t258 = true then ((root_Below.f kj1 (IntKind.u64.wrap (t256 + 1)) 0 a0 0 1).bind fun t259 => (some (!t259))) else (some false))) else (some false)) = some r := H
       have A10 := Aside0.mk A100
       clear A100
       by_cases c11 : (t257 == ((IntKind.u64.wrap (t256 * t256)) == a0)) = true
       ·rw [if_pos c11] at H
        have c11b0 : (t257 == ((IntKind.u64.wrap (t256 * t256)) == a0)) = true := c11
        (try (have c11b1 : decide (t257 = ((IntKind.u64.wrap (t256 * t256)) == a0)) = true := by simpa using c11))
        (try (have c11b2 : (t257 == ((IntKind.u64.wrap (t256 * t256)) == a0)) = true := by simpa using c11))
        clear c11
        replace H := Option.bind_eq_some_iff.mp H
        obtain ⟨t258, A120, H⟩ := H
        replace H : (if t258 = true then ((root_Below.f kj1 (IntKind.u64.wrap (t256 + 1)) 0 a0 0 1).bind fun t259 => (some (!t259))) else (some false)) = some r := H
        have A12 := Aside0.mk A120
        clear A120
        by_cases c13 : t258 = true
        ·subst c13
         have H1 : ((root_Below.f kj1 (IntKind.u64.wrap (t256 + 1)) 0 a0 0 1).bind fun t259 => (some (!t259))) = some r := by rw [if_pos rfl] at H; exact H
         clear H
         have H := H1
         clear H1
         replace H := Option.bind_eq_some_iff.mp H
         obtain ⟨t259, A140, H⟩ := H
         replace H : (some (!t259)) = some r := H
         have A14 := Aside0.mk A140
         clear A140
         obtain rfl := Option.some.inj H
         go_wp2_with (first | ((with_reducible refine gate_callee (f := 30) rfl ?_); refine goesL_ (some 7) rfl rfl Try.func30 (by kernel_rfl) rfl #[.int .u64 a0] rfl (by (try simp only [List.map_toArray, List.map_cons, List.map_nil]); first | done | rfl | (simp only [List.length_drop, List.length_take]; rfl)) ?_; (with_reducible refine (root_Floor.calls kj1 a0 t256 _ A6.out).mono ?_); rintro e w15 ⟨rfl, hb⟩; refine ⟨_, rfl, ?_⟩; have n0_ := Aside0.mk (below_step (XOpen.bl0 HB.out) hb); clear HB; have HB := n0_; clear n0_; (try clear hb); (try clear hb2); (try clear hk); (try clear hi)) | (go_at_call 31; (with_reducible refine (root_Whole.calls kj1 0 a0 t257 _ A10.out).mono ?_); rintro e w16 ⟨rfl, hb⟩; have n0_ := Aside0.mk (below_step (XOpen.bl0 HB.out) hb); clear HB; have HB := n0_; clear n0_; (try clear hb); (try clear hb2); (try clear hk); (try clear hi)) | (go_at_call 35; (with_reducible refine (root_Below.calls kj1 t256 0 a0 0 1 true _ A12.out).mono ?_); rintro e w17 ⟨rfl, hb⟩; have n0_ := Aside0.mk (below_step (XOpen.bl0 HB.out) hb); clear HB; have HB := n0_; clear n0_; (try clear hb); (try clear hb2); (try clear hk); (try clear hi)) | (go_at_call 35; (with_reducible refine (root_Below.calls kj1 (IntKind.u64.wrap (t256 + 1)) 0 a0 0 1 t259 _ A14.out).mono ?_); rintro e w18 ⟨rfl, hb⟩; have n0_ := Aside0.mk (below_step (XOpen.bl0 HB.out) hb); clear HB; have HB := n0_; clear n0_; (try clear hb); (try clear hb2); (try clear hk); (try clear hi)))
         go_ret
         exact ⟨by first | rfl | (simp [errW_none, errW_some] <;> rfl) | (simp [*, errW_none, errW_some] <;> rfl), XOpen.bl0 HB.out⟩
        ·replace c13 := Bool.eq_false_iff.mpr c13
         subst c13
         have H1 : (some false) = some r := by rw [if_neg (show ¬ (false = true) by decide)] at H; exact H
         clear H
         have H := H1
         clear H1
         obtain rfl := Option.some.inj H
         go_wp2_with (first | ((with_reducible refine gate_callee (f := 30) rfl ?_); refine goesL_ (some 7) rfl rfl Try.func30 (by kernel_rfl) rfl #[.int .u64 a0] rfl (by (try simp only [List.map_toArray, List.map_cons, List.map_nil]); first | done | rfl | (simp only [List.length_drop, List.length_take]; rfl)) ?_; (with_reducible refine (root_Floor.calls kj1 a0 t256 _ A6.out).mono ?_); rintro e w19 ⟨rfl, hb⟩; refine ⟨_, rfl, ?_⟩; have n0_ := Aside0.mk (below_step (XOpen.bl0 HB.out) hb); clear HB; have HB := n0_; clear n0_; (try clear hb); (try clear hb2); (try clear hk); (try clear hi)) | (go_at_call 31; (with_reducible refine (root_Whole.calls kj1 0 a0 t257 _ A10.out).mono ?_); rintro e w20 ⟨rfl, hb⟩; have n0_ := Aside0.mk (below_step (XOpen.bl0 HB.out) hb); clear HB; have HB := n0_; clear n0_; (try clear hb); (try clear hb2); (try clear hk); (try clear hi)) | (go_at_call 35; (with_reducible refine (root_Below.calls kj1 t256 0 a0 0 1 false _ A12.out).mono ?_); rintro e w21 ⟨rfl, hb⟩; have n0_ := Aside0.mk (below_step (XOpen.bl0 HB.out) hb); clear HB; have HB := n0_; clear n0_; (try clear hb); (try clear hb2); (try clear hk); (try clear hi)))
         go_ret
         exact ⟨by first | rfl | (simp [errW_none, errW_some] <;> rfl) | (simp [*, errW_none, errW_some] <;> rfl), XOpen.bl0 HB.out⟩
       ·rw [if_neg c11] at H
        have c11b0 : (t257 == ((IntKind.u64.wrap (t256 * t256)) == a0)) = false := by simpa using c11
        (try (have c11b1 : decide (t257 = ((IntKind.u64.wrap (t256 * t256)) == a0)) = false := by simpa using c11))
        (try (have c11b2 : (t257 == ((IntKind.u64.wrap (t256 * t256)) == a0)) = false := by simpa using c11))
        (try (have c11b3 : ¬ (t257 = ((IntKind.u64.wrap (t256 * t256)) == a0)) := by simpa using c11))
        clear c11
        obtain rfl := Option.some.inj H
        go_wp2_with (first | ((with_reducible refine gate_callee (f := 30) rfl ?_); refine goesL_ (some 7) rfl rfl Try.func30 (by kernel_rfl) rfl #[.int .u64 a0] rfl (by (try simp only [List.map_toArray, List.map_cons, List.map_nil]); first | done | rfl | (simp only [List.length_drop, List.length_take]; rfl)) ?_; (with_reducible refine (root_Floor.calls kj1 a0 t256 _ A6.out).mono ?_); rintro e w22 ⟨rfl, hb⟩; refine ⟨_, rfl, ?_⟩; have n0_ := Aside0.mk (below_step (XOpen.bl0 HB.out) hb); clear HB; have HB := n0_; clear n0_; (try clear hb); (try clear hb2); (try clear hk); (try clear hi)) | (go_at_call 31; (with_reducible refine (root_Whole.calls kj1 0 a0 t257 _ A10.out).mono ?_); rintro e w23 ⟨rfl, hb⟩; have n0_ := Aside0.mk (below_step (XOpen.bl0 HB.out) hb); clear HB; have HB := n0_; clear n0_; (try clear hb); (try clear hb2); (try clear hk); (try clear hi)))
        go_ret
        exact ⟨by first | rfl | (simp [errW_none, errW_some] <;> rfl) | (simp [*, errW_none, errW_some] <;> rfl), XOpen.bl0 HB.out⟩
      ·rw [if_neg c9] at H
       have c9b0 : (t256 == 4294967295) = false := beq_eq_false_iff_ne.mpr c9
       have c9b1 : (t256 != 4294967295) = true := bne_iff_ne.mpr c9
       by_cases c24 : (IntKind.u64.wrap ((IntKind.u64.wrap (t256 + 1)) * (IntKind.u64.wrap (t256 + 1)))) > a0
       ·rw [if_pos c24] at H
        have c24b0 : decide (a0 < (IntKind.u64.wrap ((IntKind.u64.wrap (t256 + 1)) * (IntKind.u64.wrap (t256 + 1))))) = true := decide_eq_true c24
        clear c24
        replace H := Option.bind_eq_some_iff.mp H
        obtain ⟨t260, A250, H⟩ := H
        replace H : (if (t260 == ((IntKind.u64.wrap (t256 * t256)) == a0)) = true then ((root_Below.f kj1 t256 0 a0 0 1).bind fun t261 => (if t261 = true then ((root_Below.f kj1 (IntKind.u64.wrap (t256 + 1)) 0 a0 0 1).bind fun t262 => (some (!t262))) else (some false))) else (some false)) = some r := H
        have A25 := Aside0.mk A250
        clear A250
        by_cases c26 : (t260 == ((IntKind.u64.wrap (t256 * t256)) == a0)) = true
        ·rw [if_pos c26] at H
         have c26b0 : (t260 == ((IntKind.u64.wrap (t256 * t256)) == a0)) = true := c26
         (try (have c26b1 : decide (t260 = ((IntKind.u64.wrap (t256 * t256)) == a0)) = true := by simpa using c26))
         (try (have c26b2 : (t260 == ((IntKind.u64.wrap (t256 * t256)) == a0)) = true := by simpa using c26))
         clear c26
         replace H := Option.bind_eq_some_iff.mp H
         obtain ⟨t261, A270, H⟩ := H
         replace H : (if t261 = true then ((root_Below.f kj1 (IntKind.u64.wrap (t256 + 1)) 0 a0 0 1).bind fun t262 => (some (!t262))) else (some false)) = some r := H
         have A27 := Aside0.mk A270
         clear A270
         by_cases c28 : t261 = true
         ·subst c28
          have H1 : ((root_Below.f kj1 (IntKind.u64.wrap (t256 + 1)) 0 a0 0 1).bind fun t262 => (some (!t262))) = some r := by rw [if_pos rfl] at H; exact H
          clear H
          have H := H1
          clear H1
          replace H := Option.bind_eq_some_iff.mp H
          obtain ⟨t262, A290, H⟩ := H
          replace H : (some (!t262)) = some r := H
          have A29 := Aside0.mk A290
          clear A290
          obtain rfl := Option.some.inj H
          go_wp2_with (first | ((with_reducible refine gate_callee (f := 30) rfl ?_); refine goesL_ (some 7) rfl rfl Try.func30 (by kernel_rfl) rfl #[.int .u64 a0] rfl (by (try simp only [List.map_toArray, List.map_cons, List.map_nil]); first | done | rfl | (simp only [List.length_drop, List.length_take]; rfl)) ?_; (with_reducible refine (root_Floor.calls kj1 a0 t256 _ A6.out).mono ?_); rintro e w30 ⟨rfl, hb⟩; refine ⟨_, rfl, ?_⟩; have n0_ := Aside0.mk (below_step (XOpen.bl0 HB.out) hb); clear HB; have HB := n0_; clear n0_; (try clear hb); (try clear hb2); (try clear hk); (try clear hi)) | (go_at_call 31; (with_reducible refine (root_Whole.calls kj1 0 a0 t260 _ A25.out).mono ?_); rintro e w31 ⟨rfl, hb⟩; have n0_ := Aside0.mk (below_step (XOpen.bl0 HB.out) hb); clear HB; have HB := n0_; clear n0_; (try clear hb); (try clear hb2); (try clear hk); (try clear hi)) | (go_at_call 35; (with_reducible refine (root_Below.calls kj1 t256 0 a0 0 1 true _ A27.out).mono ?_); rintro e w32 ⟨rfl, hb⟩; have n0_ := Aside0.mk (below_step (XOpen.bl0 HB.out) hb); clear HB; have HB := n0_; clear n0_; (try clear hb); (try clear hb2); (try clear hk); (try clear hi)) | (go_at_call 35; (with_reducible refine (root_Below.calls kj1 (IntKind.u64.wrap (t256 + 1)) 0 a0 0 1 t262 _ A29.out).mono ?_); rintro e w33 ⟨rfl, hb⟩; have n0_ := Aside0.mk (below_step (XOpen.bl0 HB.out) hb); clear HB; have HB := n0_; clear n0_; (try clear hb); (try clear hb2); (try clear hk); (try clear hi)))
          go_ret
          exact ⟨by first | rfl | (simp [errW_none, errW_some] <;> rfl) | (simp [*, errW_none, errW_some] <;> rfl), XOpen.bl0 HB.out⟩
         ·replace c28 := Bool.eq_false_iff.mpr c28
          subst c28
          have H1 : (some false) = some r := by rw [if_neg (show ¬ (false = true) by decide)] at H; exact H
          clear H
          have H := H1
          clear H1
          obtain rfl := Option.some.inj H
          go_wp2_with (first | ((with_reducible refine gate_callee (f := 30) rfl ?_); refine goesL_ (some 7) rfl rfl Try.func30 (by kernel_rfl) rfl #[.int .u64 a0] rfl (by (try simp only [List.map_toArray, List.map_cons, List.map_nil]); first | done | rfl | (simp only [List.length_drop, List.length_take]; rfl)) ?_; (with_reducible refine (root_Floor.calls kj1 a0 t256 _ A6.out).mono ?_); rintro e w34 ⟨rfl, hb⟩; refine ⟨_, rfl, ?_⟩; have n0_ := Aside0.mk (below_step (XOpen.bl0 HB.out) hb); clear HB; have HB := n0_; clear n0_; (try clear hb); (try clear hb2); (try clear hk); (try clear hi)) | (go_at_call 31; (with_reducible refine (root_Whole.calls kj1 0 a0 t260 _ A25.out).mono ?_); rintro e w35 ⟨rfl, hb⟩; have n0_ := Aside0.mk (below_step (XOpen.bl0 HB.out) hb); clear HB; have HB := n0_; clear n0_; (try clear hb); (try clear hb2); (try clear hk); (try clear hi)) | (go_at_call 35; (with_reducible refine (root_Below.calls kj1 t256 0 a0 0 1 false _ A27.out).mono ?_); rintro e w36 ⟨rfl, hb⟩; have n0_ := Aside0.mk (below_step (XOpen.bl0 HB.out) hb); clear HB; have HB := n0_; clear n0_; (try clear hb); (try clear hb2); (try clear hk); (try clear hi)))
          go_ret
          exact ⟨by first | rfl | (simp [errW_none, errW_some] <;> rfl) | (simp [*, errW_none, errW_some] <;> rfl), XOpen.bl0 HB.out⟩
        ·rw [if_neg c26] at H
         have c26b0 : (t260 == ((IntKind.u64.wrap (t256 * t256)) == a0)) = false := by simpa using c26
         (try (have c26b1 : decide (t260 = ((IntKind.u64.wrap (t256 * t256)) == a0)) = false := by simpa using c26))
         (try (have c26b2 : (t260 == ((IntKind.u64.wrap (t256 * t256)) == a0)) = false := by simpa using c26))
         (try (have c26b3 : ¬ (t260 = ((IntKind.u64.wrap (t256 * t256)) == a0)) := by simpa using c26))
         clear c26
         obtain rfl := Option.some.inj H
         go_wp2_with (first | ((with_reducible refine gate_callee (f := 30) rfl ?_); refine goesL_ (some 7) rfl rfl Try.func30 (by kernel_rfl) rfl #[.int .u64 a0] rfl (by (try simp only [List.map_toArray, List.map_cons, List.map_nil]); first | done | rfl | (simp only [List.length_drop, List.length_take]; rfl)) ?_; (with_reducible refine (root_Floor.calls kj1 a0 t256 _ A6.out).mono ?_); rintro e w37 ⟨rfl, hb⟩; refine ⟨_, rfl, ?_⟩; have n0_ := Aside0.mk (below_step (XOpen.bl0 HB.out) hb); clear HB; have HB := n0_; clear n0_; (try clear hb); (try clear hb2); (try clear hk); (try clear hi)) | (go_at_call 31; (with_reducible refine (root_Whole.calls kj1 0 a0 t260 _ A25.out).mono ?_); rintro e w38 ⟨rfl, hb⟩; have n0_ := Aside0.mk (below_step (XOpen.bl0 HB.out) hb); clear HB; have HB := n0_; clear n0_; (try clear hb); (try clear hb2); (try clear hk); (try clear hi)))
         go_ret
         exact ⟨by first | rfl | (simp [errW_none, errW_some] <;> rfl) | (simp [*, errW_none, errW_some] <;> rfl), XOpen.bl0 HB.out⟩
       ·rw [if_neg c24] at H
        have c24b0 : decide (a0 < (IntKind.u64.wrap ((IntKind.u64.wrap (t256 + 1)) * (IntKind.u64.wrap (t256 + 1))))) = false := decide_eq_false c24
        clear c24
        obtain rfl := Option.some.inj H
        go_wp2_with (first | ((with_reducible refine gate_callee (f := 30) rfl ?_); refine goesL_ (some 7) rfl rfl Try.func30 (by kernel_rfl) rfl #[.int .u64 a0] rfl (by (try simp only [List.map_toArray, List.map_cons, List.map_nil]); first | done | rfl | (simp only [List.length_drop, List.length_take]; rfl)) ?_; (with_reducible refine (root_Floor.calls kj1 a0 t256 _ A6.out).mono ?_); rintro e w39 ⟨rfl, hb⟩; refine ⟨_, rfl, ?_⟩; have n0_ := Aside0.mk (below_step (XOpen.bl0 HB.out) hb); clear HB; have HB := n0_; clear n0_; (try clear hb); (try clear hb2); (try clear hk); (try clear hi)))
        go_ret
        exact ⟨by first | rfl | (simp [errW_none, errW_some] <;> rfl) | (simp [*, errW_none, errW_some] <;> rfl), XOpen.bl0 HB.out⟩
     ·rw [if_neg c8] at H
      have c8b0 : decide ((IntKind.u64.wrap (t256 * t256)) ≤ a0) = false := decide_eq_false c8
      clear c8
      obtain rfl := Option.some.inj H
      go_wp2_with (first | ((with_reducible refine gate_callee (f := 30) rfl ?_); refine goesL_ (some 7) rfl rfl Try.func30 (by kernel_rfl) rfl #[.int .u64 a0] rfl (by (try simp only [List.map_toArray, List.map_cons, List.map_nil]); first | done | rfl | (simp only [List.length_drop, List.length_take]; rfl)) ?_; (with_reducible refine (root_Floor.calls kj1 a0 t256 _ A6.out).mono ?_); rintro e w40 ⟨rfl, hb⟩; refine ⟨_, rfl, ?_⟩; have n0_ := Aside0.mk (below_step (XOpen.bl0 HB.out) hb); clear HB; have HB := n0_; clear n0_; (try clear hb); (try clear hb2); (try clear hk); (try clear hi)))
      go_ret
      exact ⟨by first | rfl | (simp [errW_none, errW_some] <;> rfl) | (simp [*, errW_none, errW_some] <;> rfl), XOpen.bl0 HB.out⟩
    ·rw [if_neg c7] at H
     have c7b0 : decide (t256 < 4294967296) = false := decide_eq_false c7
     clear c7
     obtain rfl := Option.some.inj H
     go_wp2_with (first | ((with_reducible refine gate_callee (f := 30) rfl ?_); refine goesL_ (some 7) rfl rfl Try.func30 (by kernel_rfl) rfl #[.int .u64 a0] rfl (by (try simp only [List.map_toArray, List.map_cons, List.map_nil]); first | done | rfl | (simp only [List.length_drop, List.length_take]; rfl)) ?_; (with_reducible refine (root_Floor.calls kj1 a0 t256 _ A6.out).mono ?_); rintro e w41 ⟨rfl, hb⟩; refine ⟨_, rfl, ?_⟩; have n0_ := Aside0.mk (below_step (XOpen.bl0 HB.out) hb); clear HB; have HB := n0_; clear n0_; (try clear hb); (try clear hb2); (try clear hk); (try clear hi)))
     go_ret
     exact ⟨by first | rfl | (simp [errW_none, errW_some] <;> rfl) | (simp [*, errW_none, errW_some] <;> rfl), XOpen.bl0 HB.out⟩

/-- THE ONE PURE STATEMENT of pochoirlaw04_RootBetween: yours. -/
def pochoirlaw04_RootBetween.Pure : Prop := ∀ (a0 : Int), (Lit.int .u64 a0).wf = true → ∃ k, pochoirlaw04_RootBetween.f k a0 = some true
theorem pochoirlaw04_RootBetween.walk (P : pochoirlaw04_RootBetween.Pure) (a0 : Int) (w : World) (w0 : (Lit.int .u64 a0).wf = true) :
  Calls Try.prog 8 #[.int .u64 a0] w fun e w' => e = .returned (.bool true) ∧ Below w.heap.size w w' := by
 obtain ⟨k, h⟩ := P a0 w0
 refine (pochoirlaw04_RootBetween.calls k a0 true w h).mono ?_
 rintro e w' ⟨rfl, hd⟩
 exact ⟨rfl, hd⟩

end Go.Proofs.Ytemhnlameekmkaa.XRoot
