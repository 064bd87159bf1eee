-- Printed by a program of this claim. Not trusted: Lean checks it.
import Derived.Test.YtjjnkadfoepflaaXWidex0
import Derived.Test.YtjjnkadfoepflaaXWidex1
import Derived.Test.YtjjnkadfoepflaaXWidex3
namespace Go.Proofs.Ytjjnkadfoepflaa.XWide
open Go.RowKit Go.Proofs.YtjjnkadfoepflaaW.PrintWords Go.Proofs.YtjjnkadfoepflaaW.PrintLast Go.Proofs.YtjjnkadfoepflaaW.PrintMore
attribute [local go_sem] max2_int min2_int max_two min_two max_three min_three max_four min_four   -- for this text's walks alone
set_option linter.unusedVariables false
set_option linter.unusedSimpArgs false
open XOpen

attribute [local go_sem high] eqA24
/-! ### pochoirlaw01_awake: function 7 -/
def pochoirlaw01_awake.f (k : Nat)  : Option (Bool) := (wide_Mul.f 9223372036854775808 4).bind fun bt132 => ((wide_Of.f 5).bind fun bt135 => ((wide_Add.f bt132.1 bt132.2 bt135.1 bt135.2).bind fun bt137 => (if (bt132.1 == 2 && (bt132.2 == 0)) = true then (if bt137.2.2 = 0 then (if (bt137.1 == 2 && (bt137.2.1 == 5)) = true then ((wide_Text.f k bt132.1 bt132.2).bind fun t141 => (if t141.toList = ([51, 54, 56, 57, 51, 52, 56, 56, 49, 52, 55, 52, 49, 57, 49, 48, 51, 50, 51, 50] : List UInt8) then ((wide_Bits.f k bt132.1 bt132.2).bind fun t142 => (if t142 = 66 then ((wide_Cmp.f k bt132.1 bt132.2 bt137.1 bt137.2.1).bind fun t143 => (some (t143 == (-1)))) else (some false))) else (some false))) else (some false)) else (some false)) else (some false))))
theorem pochoirlaw01_awake.mono : ∀ k, LeO (pochoirlaw01_awake.f k ) (pochoirlaw01_awake.f (k + 1) ) := by
 intro  k
 unfold pochoirlaw01_awake.f
 repeat' first
   | (with_reducible exact wide_Bits.mono _ _ _)
   | (with_reducible exact wide_Cmp.mono _ _ _ _ _)
   | (with_reducible exact wide_Text.mono _ _ _)
   | (with_reducible exact LeO.refl _)
   | (with_reducible exact LeO.none _)
   | (with_reducible refine LeO.ite ?_ ?_)
   | (with_reducible refine LeO.bind ?_ (fun _ => ?_))
   | exact wide_Bits.mono _ _ _
   | exact wide_Cmp.mono _ _ _ _ _
   | exact wide_Text.mono _ _ _
   | exact LeO.none _
   | refine LeO.ite ?_ ?_
   | refine LeO.bind ?_ (fun _ => ?_)
def pochoirlaw01_awake.T2 : Bool × List (List Nat × List Nat) := (true, [([], []), ([], []), ([0, 1, 1], [0, 1]), ([2], [2]), ([3], [3]), ([3], [3]), ([], []), ([6, 4, 2, 0, 1, 2, 3, 4, 6], [4, 6]), ([5, 7, 0, 1, 2, 3, 4, 5, 6, 7], [5])])
def pochoirlaw01_awake.B2 : List Nat := [0, 0, 3, 7, 15, 15, 0, 95, 255]
theorem pochoirlaw01_awake.tab2 : rtab .any (opsOf Try.f7 2) = pochoirlaw01_awake.T2 := by kernel_rfl
theorem pochoirlaw01_awake.bits2 : waitsOk pochoirlaw01_awake.T2.2 pochoirlaw01_awake.B2 = true := by kernel_rfl
set_option maxHeartbeats 8000000 in
set_option maxRecDepth 100000 in
theorem pochoirlaw01_awake.calls (k : Nat)  (r : Bool) (w : World) (h : pochoirlaw01_awake.f k  = some r) :
  Calls Try.prog 7 #[] w fun e w' => e = .returned (.bool r) ∧ Below w.heap.size w w' := by
 have hu24 := Try.underlying24
 have HB := Aside0.mk (Below.refl w.heap.size w)
 have H : ((wide_Mul.f 9223372036854775808 4).bind fun bt132 => ((wide_Of.f 5).bind fun bt135 => ((wide_Add.f bt132.1 bt132.2 bt135.1 bt135.2).bind fun bt137 => (if (bt132.1 == 2 && (bt132.2 == 0)) = true then (if bt137.2.2 = 0 then (if (bt137.1 == 2 && (bt137.2.1 == 5)) = true then ((wide_Text.f k bt132.1 bt132.2).bind fun t141 => (if t141.toList = ([51, 54, 56, 57, 51, 52, 56, 56, 49, 52, 55, 52, 49, 57, 49, 48, 51, 50, 51, 50] : List UInt8) then ((wide_Bits.f k bt132.1 bt132.2).bind fun t142 => (if t142 = 66 then ((wide_Cmp.f k bt132.1 bt132.2 bt137.1 bt137.2.1).bind fun t143 => (some (t143 == (-1)))) else (some false))) else (some false))) else (some false)) else (some false)) else (some false))))) = some r := h
 clear h
 replace H := Option.bind_eq_some_iff.mp H
 obtain ⟨⟨t132, t133⟩, A10, H⟩ := H
 replace H : ((wide_Of.f 5).bind fun bt135 => ((wide_Add.f t132 t133 bt135.1 bt135.2).bind fun bt137 => (if (t132 == 2 && (t133 == 0)) = true then (if bt137.2.2 = 0 then (if (bt137.1 == 2 && (bt137.2.1 == 5)) = true then ((wide_Text.f k t132 t133).bind fun t141 => (if t141.toList = ([51, 54, 56, 57, 51, 52, 56, 56, 49, 52, 55, 52, 49, 57, 49, 48, 51, 50, 51, 50] : List UInt8) then ((wide_Bits.f k t132 t133).bind fun t142 => (if t142 = 66 then ((wide_Cmp.f k t132 t133 bt137.1 bt137.2.1).bind fun t143 => (some (t143 == (-1)))) else (some false))) else (some false))) else (some false)) else (some false)) else (some false)))) = some r := H
 have A1 := Aside0.mk A10
 clear A10
 replace H := Option.bind_eq_some_iff.mp H
 obtain ⟨⟨t135, t136⟩, A20, H⟩ := H
 replace H : ((wide_Add.f t132 t133 t135 t136).bind fun bt137 => (if (t132 == 2 && (t133 == 0)) = true then (if bt137.2.2 = 0 then (if (bt137.1 == 2 && (bt137.2.1 == 5)) = true then ((wide_Text.f k t132 t133).bind fun t141 => (if t141.toList = ([51, 54, 56, 57, 51, 52, 56, 56, 49, 52, 55, 52, 49, 57, 49, 48, 51, 50, 51, 50] : List UInt8) then ((wide_Bits.f k t132 t133).bind fun t142 => (if t142 = 66 then ((wide_Cmp.f k t132 t133 bt137.1 bt137.2.1).bind fun t143 => (some (t143 == (-1)))) else (some false))) else (some false))) else (some false)) else (some false)) else (some false))) = some r := H
 have A2 := Aside0.mk A20
 clear A20
 replace H := Option.bind_eq_some_iff.mp H
 obtain ⟨⟨t137, t138, t139⟩, A30, H⟩ := H
 replace H : (if (t132 == 2 && (t133 == 0)) = true then (if t139 = 0 then (if (t137 == 2 && (t138 == 5)) = true then ((wide_Text.f k t132 t133).bind fun t141 => (if t141.toList = ([51, 54, 56, 57, 51, 52, 56, 56, 49, 52, 55, 52, 49, 57, 49, 48, 51, 50, 51, 50] : List UInt8) then ((wide_Bits.f k t132 t133).bind fun t142 => (if t142 = 66 then ((wide_Cmp.f k t132 t133 t137 t138).bind fun t143 => (some (t143 == (-1)))) else (some false))) else (some false))) else (some false)) else (some false)) else (some false)) = some r := H
 have A3 := Aside0.mk A30
 clear A30
 by_cases c4 : (t132 == 2 && (t133 == 0)) = true
 ·rw [if_pos c4] at H
  have c4b0 : (t132 == 2 && (t133 == 0)) = true := c4
  (try (have c4b1 : decide (t132 = 2 && (t133 == 0)) = true := by simpa using c4))
  (try (have c4b2 : (t132 == 2 && (t133 == 0)) = true := by simpa using c4))
  clear c4
  by_cases c5 : t139 = 0
  ·rw [if_pos c5] at H
   have c5b0 : (t139 == 0) = true := beq_iff_eq.mpr c5
   have c5b1 : (t139 != 0) = false := bne_eq_false_iff_eq.mpr c5
   clear c5
   by_cases c6 : (t137 == 2 && (t138 == 5)) = true
   ·rw [if_pos c6] at H
    have c6b0 : (t137 == 2 && (t138 == 5)) = true := c6
    (try (have c6b1 : decide (t137 = 2 && (t138 == 5)) = true := by simpa using c6))
    (try (have c6b2 : (t137 == 2 && (t138 == 5)) = true := by simpa using c6))
    clear c6
    replace H := Option.bind_eq_some_iff.mp H
    obtain ⟨t141, A70, H⟩ := H
    replace H : (if t141.toList = ([51, 54, 56, 57, 51, 52, 56, 56, 49, 52, 55, 52, 49, 57, 49, 48, 51, 50, 51, 50] : List UInt8) then ((wide_Bits.f k t132 t133).bind fun t142 => (if t142 = 66 then ((wide_Cmp.f k t132 t133 t137 t138).bind fun t143 => (some (t143 == (-1)))) else (some false))) else (some false)) = some r := H
    have A7 := Aside0.mk A70
    clear A70
    by_cases c8 : t141.toList = ([51, 54, 56, 57, 51, 52, 56, 56, 49, 52, 55, 52, 49, 57, 49, 48, 51, 50, 51, 50] : List UInt8)
    ·rw [if_pos c8] at H
     have c8b0 : (t141.toList == ([51, 54, 56, 57, 51, 52, 56, 56, 49, 52, 55, 52, 49, 57, 49, 48, 51, 50, 51, 50] : List UInt8)) = true := beq_iff_eq.mpr c8
     have c8b1 : (t141.toList != ([51, 54, 56, 57, 51, 52, 56, 56, 49, 52, 55, 52, 49, 57, 49, 48, 51, 50, 51, 50] : List UInt8)) = false := bne_eq_false_iff_eq.mpr c8
     clear c8
     replace H := Option.bind_eq_some_iff.mp H
     obtain ⟨t142, A90, H⟩ := H
     replace H : (if t142 = 66 then ((wide_Cmp.f k t132 t133 t137 t138).bind fun t143 => (some (t143 == (-1)))) else (some false)) = some r := H
     have A9 := Aside0.mk A90
     clear A90
     by_cases c10 : t142 = 66
     ·rw [if_pos c10] at H
      have c10b0 : (t142 == 66) = true := beq_iff_eq.mpr c10
      have c10b1 : (t142 != 66) = false := bne_eq_false_iff_eq.mpr c10
      clear c10
      replace H := Option.bind_eq_some_iff.mp H
      obtain ⟨t143, A110, H⟩ := H
      replace H : (some (t143 == (-1))) = some r := H
      have A11 := Aside0.mk A110
      clear A110
      obtain rfl := Option.some.inj H
      go_enter Try.func7, Try.ntmps7
      try go_wp2_with (first | ((with_reducible refine gate_callee (f := 19) rfl ?_); refine goesL_ (some 4) rfl rfl Try.func19 (by kernel_rfl) rfl #[.int .u64 9223372036854775808, .int .u64 4] rfl am ?_; (with_reducible refine (wide_Mul.calls 9223372036854775808 4 t132 t133 _ A1.out).mono ?_); rintro e w12 ⟨rfl, hb⟩; refine ⟨_, rfl, ?_⟩; replace HB := Aside0.mk (below_step (bl0 HB.out) hb); (try clear hb); (try clear hb2); (try clear hk); (try clear hi)) | ((with_reducible refine gate_dst (N := 1) rfl ?_); refine be 1 (#[.int .u64 0, .int .u64 0]) 24 ?_; intro gb134 hg w13 hbox hb; have BK134 := Aside0.mk (hbox); have GW134 := Aside0.mk ((by rw [hg]; exact (below_size (bl0 HB.out)) : w.heap.size ≤ gb134)); have GE134 := GW134; replace HB := Aside0.mk (below_step (bl0 HB.out) hb); clear hb hbox hg; have hcz14_0 : w13.cell? ⟨gb134, 0, none⟩ = some (.int .u64 0) := (blk_cell BK134.out 0).trans rfl; have hcz14_1 : w13.cell? ⟨gb134, 1, none⟩ = some (.int .u64 0) := (blk_cell BK134.out 1).trans rfl; have hfz14_0 := blk_frozen BK134.out 0; have hfz14_1 := blk_frozen BK134.out 1))
      have n0_ : Aside0 (((w13.setCell ⟨gb134, 0, none⟩ (.int .u64 t132)).setCell ⟨gb134, 1, none⟩ (.int .u64 t133)).heap[gb134]? = some (.cells #[.int .u64 t132, .int .u64 t133] 24 (0, 0))) := ⟨by (with_reducible repeat (first | refine blk_drewN ?_ _ | refine blk_drew ?_ | refine blk_alloc ?_ _)); refine blk_put (cs := #[.int .u64 t132, .int .u64 0]) ?_ 1 _ rfl; (with_reducible repeat (first | refine blk_drewN ?_ _ | refine blk_drew ?_ | refine blk_alloc ?_ _)); refine blk_put (cs := #[.int .u64 0, .int .u64 0]) ?_ 0 _ rfl; (with_reducible repeat (first | refine blk_drewN ?_ _ | refine blk_drew ?_ | refine blk_alloc ?_ _)); exact BK134.out⟩
      have n1_ : Aside0 (Below w.heap.size w ((w13.setCell ⟨gb134, 0, none⟩ (.int .u64 t132)).setCell ⟨gb134, 1, none⟩ (.int .u64 t133))) := ⟨bl1 HB.out GE134.out⟩
      (try clear BK134)
      (try clear HB)
      generalize ((w13.setCell ⟨gb134, 0, none⟩ (.int .u64 t132)).setCell ⟨gb134, 1, none⟩ (.int .u64 t133)) = w15 at n0_ n1_ ⊢
      have BK134 := n0_
      have HB := n1_
      clear n0_ n1_
      replace BK134 := Aside0.mk (blk_drew BK134.out)
      replace HB := Aside0.mk (below_drew1 HB.out)
      refine start_ (n := 9) (S := fun w' => w'.cell? ⟨gb134, 0, none⟩ = some (.int .u64 t132) ∧ w'.cell? ⟨gb134, 1, none⟩ = some (.int .u64 t133)) (ds := []) (ba 9 0) (by kernel_rfl) rfl rfl ⟨(blk_cell BK134.out 0).trans rfl, (blk_cell BK134.out 1).trans rfl⟩ (fun hHeld => ?_); refine with_tabW pochoirlaw01_awake.tab2 pochoirlaw01_awake.bits2 (fun HT_ HW_ => ?_)
      generalize w15.drew = w16 at BK134 HB hHeld ⊢
      refine take_ (i := 0) (N := some 6) (v := ?_) (a' := ?_) (ba 9 1) rfl rfl (take_ofW HT_.out HW_.out (by kernel_rfl)) (fun _ _ _ h => h) (Or.inl ⟨by rfl, ?_⟩) hHeld ?_ ?_
      rotate_left
      ·rintro w' ⟨s0, s1⟩
       go_simp
       with_reducible rfl
      rotate_left
      ·simp only [Act.put, List.setIfInBounds_toArray, List.set_cons_zero, List.set_cons_succ, i64_w, i32_w]
       rfl
      refine join_ (σ := Nat) 2 (ba 9 127) (fun s_ => [(7, .agg #[.int .u64 t135, .int .u64 t136]), (8, .tuple #[.agg #[.int .u64 t137, .int .u64 t138], .int .i64 t139]), (2, .pointer (some ⟨s_, 0, none⟩)), (5, .tuple #[.agg #[.int .u64 t137, .int .u64 t138], .int .i64 t139]), (9, .agg #[.int .u64 t137, .int .u64 t138]), (10, .int .i64 t139)]) (fun s_ w' => (w'.cell? ⟨gb134, 0, none⟩ = some (.int .u64 t132) ∧ w'.cell? ⟨gb134, 1, none⟩ = some (.int .u64 t133)) ∧ (w'.heap[gb134]? = some (.cells #[.int .u64 t132, .int .u64 t133] 24 (0, 0))) ∧ (w'.heap[s_]? = some (.cells #[.int .u64 0, .int .u64 0] 24 (0, 0))) ∧ (w.heap.size ≤ s_) ∧ (w.heap.size ≤ s_) ∧ (gb134 ≠ s_) ∧ (s_ ≠ gb134) ∧ (Below w.heap.size w w')) ?_ ?_
      rotate_left
      ·intro hCont
       refine two_ (i := 1) (j := 6) (Ni := some 7) (Nj := some 2) (ba 9 3) (ba 9 65) rfl rfl rfl rfl (two_of HT_.out (by kernel_rfl)) (by decide) (by decide) (fun K hK => ?_) (fun K hK => ?_)
       ·skip
        refine goes_ Try.func14 (by kernel_rfl) rfl #[.int .u64 5] (by rfl) rfl rfl am ?_
        with_reducible refine (wide_Of.calls 5 t135 t136 _ A2.out).mono ?_
        rintro e w17 ⟨rfl, hb⟩
        refine ⟨_, rfl, ?_⟩
        replace BK134 := Aside0.mk (bb BK134.out hb)
        replace HB := Aside0.mk (below_step (bl1 HB.out GE134.out) hb)
        (try clear hb)
        (try clear hb2)
        (try clear hk)
        (try clear hi)
        refine hK.out _ _ ⟨(blk_cell BK134.out 0).trans rfl, (blk_cell BK134.out 1).trans rfl⟩ (fun hHeld => ?_)
        clear hK K
        refine norm_ (a' := ?_) ?_ ?_
        rotate_left
        ·show Act.put _ (some 7) _ = _
         simp only [Act.put, List.setIfInBounds_toArray, List.set_cons_zero, List.set_cons_succ, i64_w, i32_w]
         rfl
        refine two_ (i := 2) (j := 6) (Ni := some 8) (Nj := some 2) (ba 9 7) (ba 9 67) rfl rfl rfl rfl (two_of HT_.out (by kernel_rfl)) (by decide) (by decide) (fun K hK => ?_) (fun K hK => ?_)
        ·skip
         refine goes_ Try.func13 (by kernel_rfl) rfl #[.agg #[.int .u64 t132, .int .u64 t133], .agg #[.int .u64 t135, .int .u64 t136]] (by rfl) rfl rfl am ?_
         with_reducible refine (wide_Add.calls t132 t133 t135 t136 t137 t138 t139 _ A3.out).mono ?_
         rintro e w18 ⟨rfl, hb⟩
         refine ⟨_, rfl, ?_⟩
         replace BK134 := Aside0.mk (bb BK134.out hb)
         replace HB := Aside0.mk (below_step (bl1 HB.out GE134.out) hb)
         (try clear hb)
         (try clear hb2)
         (try clear hk)
         (try clear hi)
         refine hK.out _ _ ⟨(blk_cell BK134.out 0).trans rfl, (blk_cell BK134.out 1).trans rfl⟩ (fun hHeld => ?_)
         clear hK K
         refine norm_ (a' := ?_) ?_ ?_
         rotate_left
         ·show Act.put _ (some 8) _ = _
          simp only [Act.put, List.setIfInBounds_toArray, List.set_cons_zero, List.set_cons_succ, i64_w, i32_w]
          rfl
         refine pI 3 5 (ba 9 15) HT_.out ?_
         refine pI 4 9 (ba 9 31) HT_.out ?_
         refine pI 5 10 (ba 9 63) HT_.out ?_
         refine one_ (i := 6) (N := some 2) (ba 9 127) rfl rfl (one_of HT_.out (by kernel_rfl)) (by decide) (fun K hK => ?_)
         refine box_step ?hg (N := 2) ?hd (cs := #[.int .u64 0, .int .u64 0]) (t := 24) ?hr ?_; (case hd => rfl); (case hg => rfl); (case hr => first | (go_simp; done) | (go_simp; rfl))
         intro gb140 hg w19 hbox hb
         have BK140 := Aside0.mk (hbox)
         have GW140 := Aside0.mk ((by rw [hg]; exact (below_size (bl1 HB.out GE134.out)) : w.heap.size ≤ gb140))
         have GE140 := Aside0.mk ((by rw [hg]; exact (below_size (bl1 HB.out GE134.out)) : w.heap.size ≤ gb140))
         have NB134_140 := Aside0.mk ((by rw [hg]; exact Nat.ne_of_lt (lt_ BK134.out) : gb134 ≠ gb140))
         have NB140_134 := Aside0.mk ((by rw [hg]; exact Nat.ne_of_gt (lt_ BK134.out) : gb140 ≠ gb134))
         replace BK134 := Aside0.mk (bb BK134.out hb)
         replace HB := Aside0.mk (below_step (bl1 HB.out GE134.out) hb)
         clear hb hbox hg
         refine hK.out _ _ ⟨(blk_cell BK134.out 0).trans rfl, (blk_cell BK134.out 1).trans rfl⟩ (fun hHeld => ?_)
         clear hK K
         refine norm_ (a' := ?_) ?_ ?_
         rotate_left
         ·show Act.put _ (some 2) _ = _
          simp only [Act.put, List.setIfInBounds_toArray, List.set_cons_zero, List.set_cons_succ, i64_w, i32_w]
          rfl
         exact norm_ (by simp only [putAll, Act.put, List.setIfInBounds_toArray, List.set_cons_zero, List.set_cons_succ]) (hCont (gb140) _ ⟨hHeld, (bk BK134.out), (bk BK140.out), GW140.out, GE140.out, NB134_140.out, NB140_134.out, (bl2 HB.out GE134.out GE140.out)⟩)
        ·skip
         refine box_step ?hg (N := 2) ?hd (cs := #[.int .u64 0, .int .u64 0]) (t := 24) ?hr ?_; (case hd => rfl); (case hg => rfl); (case hr => first | (go_simp; done) | (go_simp; rfl))
         intro gb140 hg w18 hbox hb
         have BK140 := Aside0.mk (hbox)
         have GW140 := Aside0.mk ((by rw [hg]; exact (below_size (bl1 HB.out GE134.out)) : w.heap.size ≤ gb140))
         have GE140 := Aside0.mk ((by rw [hg]; exact (below_size (bl1 HB.out GE134.out)) : w.heap.size ≤ gb140))
         have NB134_140 := Aside0.mk ((by rw [hg]; exact Nat.ne_of_lt (lt_ BK134.out) : gb134 ≠ gb140))
         have NB140_134 := Aside0.mk ((by rw [hg]; exact Nat.ne_of_gt (lt_ BK134.out) : gb140 ≠ gb134))
         replace BK134 := Aside0.mk (bb BK134.out hb)
         replace HB := Aside0.mk (below_step (bl1 HB.out GE134.out) hb)
         clear hb hbox hg
         refine hK.out _ _ ⟨(blk_cell BK134.out 0).trans rfl, (blk_cell BK134.out 1).trans rfl⟩ (fun hHeld => ?_)
         clear hK K
         refine norm_ (a' := ?_) ?_ ?_
         rotate_left
         ·show Act.put _ (some 2) _ = _
          simp only [Act.put, List.setIfInBounds_toArray, List.set_cons_zero, List.set_cons_succ, i64_w, i32_w]
          rfl
         refine one_ (i := 2) (N := some 8) (ba 9 71) rfl rfl (one_of HT_.out (by kernel_rfl)) (by decide) (fun K hK => ?_)
         refine goes_ Try.func13 (by kernel_rfl) rfl #[.agg #[.int .u64 t132, .int .u64 t133], .agg #[.int .u64 t135, .int .u64 t136]] (by rfl) rfl rfl am ?_
         with_reducible refine (wide_Add.calls t132 t133 t135 t136 t137 t138 t139 _ A3.out).mono ?_
         rintro e w19 ⟨rfl, hb⟩
         refine ⟨_, rfl, ?_⟩
         replace BK134 := Aside0.mk (bb BK134.out hb)
         replace BK140 := Aside0.mk (bb BK140.out hb)
         replace HB := Aside0.mk (below_step (bl2 HB.out GE134.out GE140.out) hb)
         (try clear hb)
         (try clear hb2)
         (try clear hk)
         (try clear hi)
         refine hK.out _ _ ⟨(blk_cell BK134.out 0).trans rfl, (blk_cell BK134.out 1).trans rfl⟩ (fun hHeld => ?_)
         clear hK K
         refine norm_ (a' := ?_) ?_ ?_
         rotate_left
         ·show Act.put _ (some 8) _ = _
          simp only [Act.put, List.setIfInBounds_toArray, List.set_cons_zero, List.set_cons_succ, i64_w, i32_w]
          rfl
         refine pI 3 5 (ba 9 79) HT_.out ?_
         refine pI 4 9 (ba 9 95) HT_.out ?_
         refine pI 5 10 (ba 9 127) HT_.out ?_
         exact norm_ (by simp only [putAll, Act.put, List.setIfInBounds_toArray, List.set_cons_zero, List.set_cons_succ]) (hCont (gb140) _ ⟨hHeld, (bk BK134.out), (bk BK140.out), GW140.out, GE140.out, NB134_140.out, NB140_134.out, (bl2 HB.out GE134.out GE140.out)⟩)
       ·skip
        refine box_step ?hg (N := 2) ?hd (cs := #[.int .u64 0, .int .u64 0]) (t := 24) ?hr ?_; (case hd => rfl); (case hg => rfl); (case hr => first | (go_simp; done) | (go_simp; rfl))
        intro gb140 hg w17 hbox hb
        have BK140 := Aside0.mk (hbox)
        have GW140 := Aside0.mk ((by rw [hg]; exact (below_size (bl1 HB.out GE134.out)) : w.heap.size ≤ gb140))
        have GE140 := Aside0.mk ((by rw [hg]; exact (below_size (bl1 HB.out GE134.out)) : w.heap.size ≤ gb140))
        have NB134_140 := Aside0.mk ((by rw [hg]; exact Nat.ne_of_lt (lt_ BK134.out) : gb134 ≠ gb140))
        have NB140_134 := Aside0.mk ((by rw [hg]; exact Nat.ne_of_gt (lt_ BK134.out) : gb140 ≠ gb134))
        replace BK134 := Aside0.mk (bb BK134.out hb)
        replace HB := Aside0.mk (below_step (bl1 HB.out GE134.out) hb)
        clear hb hbox hg
        refine hK.out _ _ ⟨(blk_cell BK134.out 0).trans rfl, (blk_cell BK134.out 1).trans rfl⟩ (fun hHeld => ?_)
        clear hK K
        refine norm_ (a' := ?_) ?_ ?_
        rotate_left
        ·show Act.put _ (some 2) _ = _
         simp only [Act.put, List.setIfInBounds_toArray, List.set_cons_zero, List.set_cons_succ, i64_w, i32_w]
         rfl
        refine one_ (i := 1) (N := some 7) (ba 9 67) rfl rfl (one_of HT_.out (by kernel_rfl)) (by decide) (fun K hK => ?_)
        refine goes_ Try.func14 (by kernel_rfl) rfl #[.int .u64 5] (by rfl) rfl rfl am ?_
        with_reducible refine (wide_Of.calls 5 t135 t136 _ A2.out).mono ?_
        rintro e w18 ⟨rfl, hb⟩
        refine ⟨_, rfl, ?_⟩
        replace BK134 := Aside0.mk (bb BK134.out hb)
        replace BK140 := Aside0.mk (bb BK140.out hb)
        replace HB := Aside0.mk (below_step (bl2 HB.out GE134.out GE140.out) hb)
        (try clear hb)
        (try clear hb2)
        (try clear hk)
        (try clear hi)
        refine hK.out _ _ ⟨(blk_cell BK134.out 0).trans rfl, (blk_cell BK134.out 1).trans rfl⟩ (fun hHeld => ?_)
        clear hK K
        refine norm_ (a' := ?_) ?_ ?_
        rotate_left
        ·show Act.put _ (some 7) _ = _
         simp only [Act.put, List.setIfInBounds_toArray, List.set_cons_zero, List.set_cons_succ, i64_w, i32_w]
         rfl
        refine one_ (i := 2) (N := some 8) (ba 9 71) rfl rfl (one_of HT_.out (by kernel_rfl)) (by decide) (fun K hK => ?_)
        refine goes_ Try.func13 (by kernel_rfl) rfl #[.agg #[.int .u64 t132, .int .u64 t133], .agg #[.int .u64 t135, .int .u64 t136]] (by rfl) rfl rfl am ?_
        with_reducible refine (wide_Add.calls t132 t133 t135 t136 t137 t138 t139 _ A3.out).mono ?_
        rintro e w19 ⟨rfl, hb⟩
        refine ⟨_, rfl, ?_⟩
        replace BK134 := Aside0.mk (bb BK134.out hb)
        replace BK140 := Aside0.mk (bb BK140.out hb)
        replace HB := Aside0.mk (below_step (bl2 HB.out GE134.out GE140.out) hb)
        (try clear hb)
        (try clear hb2)
        (try clear hk)
        (try clear hi)
        refine hK.out _ _ ⟨(blk_cell BK134.out 0).trans rfl, (blk_cell BK134.out 1).trans rfl⟩ (fun hHeld => ?_)
        clear hK K
        refine norm_ (a' := ?_) ?_ ?_
        rotate_left
        ·show Act.put _ (some 8) _ = _
         simp only [Act.put, List.setIfInBounds_toArray, List.set_cons_zero, List.set_cons_succ, i64_w, i32_w]
         rfl
        refine pI 3 5 (ba 9 79) HT_.out ?_
        refine pI 4 9 (ba 9 95) HT_.out ?_
        refine pI 5 10 (ba 9 127) HT_.out ?_
        exact norm_ (by simp only [putAll, Act.put, List.setIfInBounds_toArray, List.set_cons_zero, List.set_cons_succ]) (hCont (gb140) _ ⟨hHeld, (bk BK134.out), (bk BK140.out), GW140.out, GE140.out, NB134_140.out, NB140_134.out, (bl2 HB.out GE134.out GE140.out)⟩)
      rintro gb140 w20 ⟨hS_, h0_, h1_, h2_, h3_, h4_, h5_, h6_⟩
      have BK140 : Aside0 (w20.heap[gb140]? = some (.cells #[.int .u64 0, .int .u64 0] 24 (0, 0))) := ⟨h1_⟩
      have GW140 : Aside0 (w.heap.size ≤ gb140) := ⟨h2_⟩
      have GE140 : Aside0 (w.heap.size ≤ gb140) := ⟨h3_⟩
      have NB134_140 : Aside0 (gb134 ≠ gb140) := ⟨h4_⟩
      have NB140_134 : Aside0 (gb140 ≠ gb134) := ⟨h5_⟩
      replace BK134 : Aside0 (w20.heap[gb134]? = some (.cells #[.int .u64 t132, .int .u64 t133] 24 (0, 0))) := ⟨h0_⟩
      replace HB : Aside0 (Below w.heap.size w w20) := ⟨h6_⟩
      clear h0_ h1_ h2_ h3_ h4_ h5_ h6_
      have hHeld : w20.cell? ⟨gb134, 0, none⟩ = some (.int .u64 t132) ∧ w20.cell? ⟨gb134, 1, none⟩ = some (.int .u64 t133) := hS_
      refine norm_ (a' := ?_) ?_ ?_
      rotate_left
      ·simp only [putAll, Act.put, List.setIfInBounds_toArray, List.set_cons_zero, List.set_cons_succ]
       rfl
      refine one_ (i := 7) (N := none) (ba 9 255) rfl rfl (one_of HT_.out (by kernel_rfl)) (by decide) (fun K hK => ?_)
      have hs21 : w20.cell? ⟨gb140, 0, none⟩ = some (.int .u64 0) := (blk_cell BK140.out 0).trans rfl
      have hfs21 := blk_frozen BK140.out 0
      have hns21_0 := NB134_140.out
      have hms21_0 := NB140_134.out
      have hs22 : w20.cell? ⟨gb140, 1, none⟩ = some (.int .u64 0) := (blk_cell BK140.out 1).trans rfl
      have hfs22 := blk_frozen BK140.out 1
      have hns22_0 := NB134_140.out
      have hms22_0 := NB140_134.out
      refine skip_ (w1 := ?_) (by rfl) rfl ?_ ?_
      rotate_left
      ·go_simp
       rfl
      refine hK.out _ _ ⟨((cell_far (p := ⟨gb140, _, none⟩) NB134_140.out _).trans (((cell_far (p := ⟨gb140, _, none⟩) NB134_140.out _).trans (hHeld.1)))), ((cell_far (p := ⟨gb140, _, none⟩) NB134_140.out _).trans (((cell_far (p := ⟨gb140, _, none⟩) NB134_140.out _).trans (hHeld.2))))⟩ (fun hHeld => ?_)
      clear hK K
      refine pI 8 3 (ba 9 511) HT_.out ?_
      refine done_ (done_of HT_.out (by kernel_rfl)) ?_
      have hnb23 := NB134_140.out
      have hnc23 := NB140_134.out
      have hcz24_0 : w20.cell? ⟨gb134, 0, none⟩ = some (.int .u64 t132) := (blk_cell BK134.out 0).trans rfl
      have hcz24_1 : w20.cell? ⟨gb134, 1, none⟩ = some (.int .u64 t133) := (blk_cell BK134.out 1).trans rfl
      have hfz24_0 := blk_frozen BK134.out 0
      have hfz24_1 := blk_frozen BK134.out 1
      have hcz25_0 : w20.cell? ⟨gb140, 0, none⟩ = some (.int .u64 0) := (blk_cell BK140.out 0).trans rfl
      have hcz25_1 : w20.cell? ⟨gb140, 1, none⟩ = some (.int .u64 0) := (blk_cell BK140.out 1).trans rfl
      have hfz25_0 := blk_frozen BK140.out 0
      have hfz25_1 := blk_frozen BK140.out 1
      try go_wp2_with (first | (go_at_call 8; (with_reducible refine (wide_Text.calls k t132 t133 t141 _ A7.out).mono ?_); rintro e w26 ⟨rfl, hb⟩; replace BK134 := Aside0.mk (blk_below (g := gb134) (o := .cells #[.int .u64 t132, .int .u64 t133] 24 (0, 0)) (by (with_reducible repeat (first | refine blk_drewN ?_ _ | refine blk_drew ?_ | refine blk_alloc ?_ _)); refine blk_far ?_ NB134_140.out _; (with_reducible repeat (first | refine blk_drewN ?_ _ | refine blk_drew ?_ | refine blk_alloc ?_ _)); refine blk_far ?_ NB134_140.out _; (with_reducible repeat (first | refine blk_drewN ?_ _ | refine blk_drew ?_ | refine blk_alloc ?_ _)); exact BK134.out) hb); replace BK140 := Aside0.mk (blk_below (g := gb140) (o := .cells #[.int .u64 t137, .int .u64 t138] 24 (0, 0)) (bk (blk_put (cs := #[.int .u64 t137, .int .u64 0]) (bk (blk_put (cs := #[.int .u64 0, .int .u64 0]) (bk BK140.out) 0 _ rfl)) 1 _ rfl)) hb); replace HB := Aside0.mk (below_step (bl2 HB.out GE134.out GE140.out) hb); (try clear hb); (try clear hb2); (try clear hk); (try clear hi); have hcz27_0 : w26.cell? ⟨gb134, 0, none⟩ = some (.int .u64 t132) := (blk_cell BK134.out 0).trans rfl; have hcz27_1 : w26.cell? ⟨gb134, 1, none⟩ = some (.int .u64 t133) := (blk_cell BK134.out 1).trans rfl; have hfz27_0 := blk_frozen BK134.out 0; have hfz27_1 := blk_frozen BK134.out 1) | (go_at_call 22; (with_reducible refine (wide_Bits.calls k t132 t133 t142 _ A9.out).mono ?_); rintro e w28 ⟨rfl, hb⟩; replace BK134 := Aside0.mk (bb BK134.out hb); replace BK140 := Aside0.mk (bb BK140.out hb); replace HB := Aside0.mk (below_step (bl2 HB.out GE134.out GE140.out) hb); (try clear hb); (try clear hb2); (try clear hk); (try clear hi); have hcz29_0 : w28.cell? ⟨gb134, 0, none⟩ = some (.int .u64 t132) := (blk_cell BK134.out 0).trans rfl; have hcz29_1 : w28.cell? ⟨gb134, 1, none⟩ = some (.int .u64 t133) := (blk_cell BK134.out 1).trans rfl; have hfz29_0 := blk_frozen BK134.out 0; have hfz29_1 := blk_frozen BK134.out 1; have hcz30_0 : w28.cell? ⟨gb140, 0, none⟩ = some (.int .u64 t137) := (blk_cell BK140.out 0).trans rfl; have hcz30_1 : w28.cell? ⟨gb140, 1, none⟩ = some (.int .u64 t138) := (blk_cell BK140.out 1).trans rfl; have hfz30_0 := blk_frozen BK140.out 0; have hfz30_1 := blk_frozen BK140.out 1) | (go_at_call 24; (with_reducible refine (wide_Cmp.calls k t132 t133 t137 t138 t143 _ A11.out).mono ?_); rintro e w31 ⟨rfl, hb⟩; replace BK134 := Aside0.mk (bb BK134.out hb); replace BK140 := Aside0.mk (bb BK140.out hb); replace HB := Aside0.mk (below_step (bl2 HB.out GE134.out GE140.out) hb); (try clear hb); (try clear hb2); (try clear hk); (try clear hi)))
      go_ret
      exact ⟨by first | rfl | (simp [errW_none, errW_some] <;> rfl) | (simp [*, errW_none, errW_some] <;> rfl), bl2 HB.out GE134.out GE140.out⟩
     ·rw [if_neg c10] at H
      have c10b0 : (t142 == 66) = false := beq_eq_false_iff_ne.mpr c10
      have c10b1 : (t142 != 66) = true := bne_iff_ne.mpr c10
      obtain rfl := Option.some.inj H
      go_enter Try.func7, Try.ntmps7
      try go_wp2_with (first | ((with_reducible refine gate_callee (f := 19) rfl ?_); refine goesL_ (some 4) rfl rfl Try.func19 (by kernel_rfl) rfl #[.int .u64 9223372036854775808, .int .u64 4] rfl am ?_; (with_reducible refine (wide_Mul.calls 9223372036854775808 4 t132 t133 _ A1.out).mono ?_); rintro e w32 ⟨rfl, hb⟩; refine ⟨_, rfl, ?_⟩; replace HB := Aside0.mk (below_step (bl0 HB.out) hb); (try clear hb); (try clear hb2); (try clear hk); (try clear hi)) | ((with_reducible refine gate_dst (N := 1) rfl ?_); refine be 1 (#[.int .u64 0, .int .u64 0]) 24 ?_; intro gb134 hg w33 hbox hb; have BK134 := Aside0.mk (hbox); have GW134 := Aside0.mk ((by rw [hg]; exact (below_size (bl0 HB.out)) : w.heap.size ≤ gb134)); have GE134 := GW134; replace HB := Aside0.mk (below_step (bl0 HB.out) hb); clear hb hbox hg; have hcz34_0 : w33.cell? ⟨gb134, 0, none⟩ = some (.int .u64 0) := (blk_cell BK134.out 0).trans rfl; have hcz34_1 : w33.cell? ⟨gb134, 1, none⟩ = some (.int .u64 0) := (blk_cell BK134.out 1).trans rfl; have hfz34_0 := blk_frozen BK134.out 0; have hfz34_1 := blk_frozen BK134.out 1))
      have n0_ : Aside0 (((w33.setCell ⟨gb134, 0, none⟩ (.int .u64 t132)).setCell ⟨gb134, 1, none⟩ (.int .u64 t133)).heap[gb134]? = some (.cells #[.int .u64 t132, .int .u64 t133] 24 (0, 0))) := ⟨by (with_reducible repeat (first | refine blk_drewN ?_ _ | refine blk_drew ?_ | refine blk_alloc ?_ _)); refine blk_put (cs := #[.int .u64 t132, .int .u64 0]) ?_ 1 _ rfl; (with_reducible repeat (first | refine blk_drewN ?_ _ | refine blk_drew ?_ | refine blk_alloc ?_ _)); refine blk_put (cs := #[.int .u64 0, .int .u64 0]) ?_ 0 _ rfl; (with_reducible repeat (first | refine blk_drewN ?_ _ | refine blk_drew ?_ | refine blk_alloc ?_ _)); exact BK134.out⟩
      have n1_ : Aside0 (Below w.heap.size w ((w33.setCell ⟨gb134, 0, none⟩ (.int .u64 t132)).setCell ⟨gb134, 1, none⟩ (.int .u64 t133))) := ⟨bl1 HB.out GE134.out⟩
      (try clear BK134)
      (try clear HB)
      generalize ((w33.setCell ⟨gb134, 0, none⟩ (.int .u64 t132)).setCell ⟨gb134, 1, none⟩ (.int .u64 t133)) = w35 at n0_ n1_ ⊢
      have BK134 := n0_
      have HB := n1_
      clear n0_ n1_
      replace BK134 := Aside0.mk (blk_drew BK134.out)
      replace HB := Aside0.mk (below_drew1 HB.out)
      refine start_ (n := 9) (S := fun w' => w'.cell? ⟨gb134, 0, none⟩ = some (.int .u64 t132) ∧ w'.cell? ⟨gb134, 1, none⟩ = some (.int .u64 t133)) (ds := []) (ba 9 0) (by kernel_rfl) rfl rfl ⟨(blk_cell BK134.out 0).trans rfl, (blk_cell BK134.out 1).trans rfl⟩ (fun hHeld => ?_); refine with_tabW pochoirlaw01_awake.tab2 pochoirlaw01_awake.bits2 (fun HT_ HW_ => ?_)
      generalize w35.drew = w36 at BK134 HB hHeld ⊢
      refine take_ (i := 0) (N := some 6) (v := ?_) (a' := ?_) (ba 9 1) rfl rfl (take_ofW HT_.out HW_.out (by kernel_rfl)) (fun _ _ _ h => h) (Or.inl ⟨by rfl, ?_⟩) hHeld ?_ ?_
      rotate_left
      ·rintro w' ⟨s0, s1⟩
       go_simp
       with_reducible rfl
      rotate_left
      ·simp only [Act.put, List.setIfInBounds_toArray, List.set_cons_zero, List.set_cons_succ, i64_w, i32_w]
       rfl
      refine join_ (σ := Nat) 2 (ba 9 127) (fun s_ => [(7, .agg #[.int .u64 t135, .int .u64 t136]), (8, .tuple #[.agg #[.int .u64 t137, .int .u64 t138], .int .i64 t139]), (2, .pointer (some ⟨s_, 0, none⟩)), (5, .tuple #[.agg #[.int .u64 t137, .int .u64 t138], .int .i64 t139]), (9, .agg #[.int .u64 t137, .int .u64 t138]), (10, .int .i64 t139)]) (fun s_ w' => (w'.cell? ⟨gb134, 0, none⟩ = some (.int .u64 t132) ∧ w'.cell? ⟨gb134, 1, none⟩ = some (.int .u64 t133)) ∧ (w'.heap[gb134]? = some (.cells #[.int .u64 t132, .int .u64 t133] 24 (0, 0))) ∧ (w'.heap[s_]? = some (.cells #[.int .u64 0, .int .u64 0] 24 (0, 0))) ∧ (w.heap.size ≤ s_) ∧ (w.heap.size ≤ s_) ∧ (gb134 ≠ s_) ∧ (s_ ≠ gb134) ∧ (Below w.heap.size w w')) ?_ ?_
      rotate_left
      ·intro hCont
       refine two_ (i := 1) (j := 6) (Ni := some 7) (Nj := some 2) (ba 9 3) (ba 9 65) rfl rfl rfl rfl (two_of HT_.out (by kernel_rfl)) (by decide) (by decide) (fun K hK => ?_) (fun K hK => ?_)
       ·skip
        refine goes_ Try.func14 (by kernel_rfl) rfl #[.int .u64 5] (by rfl) rfl rfl am ?_
        with_reducible refine (wide_Of.calls 5 t135 t136 _ A2.out).mono ?_
        rintro e w37 ⟨rfl, hb⟩
        refine ⟨_, rfl, ?_⟩
        replace BK134 := Aside0.mk (bb BK134.out hb)
        replace HB := Aside0.mk (below_step (bl1 HB.out GE134.out) hb)
        (try clear hb)
        (try clear hb2)
        (try clear hk)
        (try clear hi)
        refine hK.out _ _ ⟨(blk_cell BK134.out 0).trans rfl, (blk_cell BK134.out 1).trans rfl⟩ (fun hHeld => ?_)
        clear hK K
        refine norm_ (a' := ?_) ?_ ?_
        rotate_left
        ·show Act.put _ (some 7) _ = _
         simp only [Act.put, List.setIfInBounds_toArray, List.set_cons_zero, List.set_cons_succ, i64_w, i32_w]
         rfl
        refine two_ (i := 2) (j := 6) (Ni := some 8) (Nj := some 2) (ba 9 7) (ba 9 67) rfl rfl rfl rfl (two_of HT_.out (by kernel_rfl)) (by decide) (by decide) (fun K hK => ?_) (fun K hK => ?_)
        ·skip
         refine goes_ Try.func13 (by kernel_rfl) rfl #[.agg #[.int .u64 t132, .int .u64 t133], .agg #[.int .u64 t135, .int .u64 t136]] (by rfl) rfl rfl am ?_
         with_reducible refine (wide_Add.calls t132 t133 t135 t136 t137 t138 t139 _ A3.out).mono ?_
         rintro e w38 ⟨rfl, hb⟩
         refine ⟨_, rfl, ?_⟩
         replace BK134 := Aside0.mk (bb BK134.out hb)
         replace HB := Aside0.mk (below_step (bl1 HB.out GE134.out) hb)
         (try clear hb)
         (try clear hb2)
         (try clear hk)
         (try clear hi)
         refine hK.out _ _ ⟨(blk_cell BK134.out 0).trans rfl, (blk_cell BK134.out 1).trans rfl⟩ (fun hHeld => ?_)
         clear hK K
         refine norm_ (a' := ?_) ?_ ?_
         rotate_left
         ·show Act.put _ (some 8) _ = _
          simp only [Act.put, List.setIfInBounds_toArray, List.set_cons_zero, List.set_cons_succ, i64_w, i32_w]
          rfl
         refine pI 3 5 (ba 9 15) HT_.out ?_
         refine pI 4 9 (ba 9 31) HT_.out ?_
         refine pI 5 10 (ba 9 63) HT_.out ?_
         refine one_ (i := 6) (N := some 2) (ba 9 127) rfl rfl (one_of HT_.out (by kernel_rfl)) (by decide) (fun K hK => ?_)
         refine box_step ?hg (N := 2) ?hd (cs := #[.int .u64 0, .int .u64 0]) (t := 24) ?hr ?_; (case hd => rfl); (case hg => rfl); (case hr => first | (go_simp; done) | (go_simp; rfl))
         intro gb140 hg w39 hbox hb
         have BK140 := Aside0.mk (hbox)
         have GW140 := Aside0.mk ((by rw [hg]; exact (below_size (bl1 HB.out GE134.out)) : w.heap.size ≤ gb140))
         have GE140 := Aside0.mk ((by rw [hg]; exact (below_size (bl1 HB.out GE134.out)) : w.heap.size ≤ gb140))
         have NB134_140 := Aside0.mk ((by rw [hg]; exact Nat.ne_of_lt (lt_ BK134.out) : gb134 ≠ gb140))
         have NB140_134 := Aside0.mk ((by rw [hg]; exact Nat.ne_of_gt (lt_ BK134.out) : gb140 ≠ gb134))
         replace BK134 := Aside0.mk (bb BK134.out hb)
         replace HB := Aside0.mk (below_step (bl1 HB.out GE134.out) hb)
         clear hb hbox hg
         refine hK.out _ _ ⟨(blk_cell BK134.out 0).trans rfl, (blk_cell BK134.out 1).trans rfl⟩ (fun hHeld => ?_)
         clear hK K
         refine norm_ (a' := ?_) ?_ ?_
         rotate_left
         ·show Act.put _ (some 2) _ = _
          simp only [Act.put, List.setIfInBounds_toArray, List.set_cons_zero, List.set_cons_succ, i64_w, i32_w]
          rfl
         exact norm_ (by simp only [putAll, Act.put, List.setIfInBounds_toArray, List.set_cons_zero, List.set_cons_succ]) (hCont (gb140) _ ⟨hHeld, (bk BK134.out), (bk BK140.out), GW140.out, GE140.out, NB134_140.out, NB140_134.out, (bl2 HB.out GE134.out GE140.out)⟩)
        ·skip
         refine box_step ?hg (N := 2) ?hd (cs := #[.int .u64 0, .int .u64 0]) (t := 24) ?hr ?_; (case hd => rfl); (case hg => rfl); (case hr => first | (go_simp; done) | (go_simp; rfl))
         intro gb140 hg w38 hbox hb
         have BK140 := Aside0.mk (hbox)
         have GW140 := Aside0.mk ((by rw [hg]; exact (below_size (bl1 HB.out GE134.out)) : w.heap.size ≤ gb140))
         have GE140 := Aside0.mk ((by rw [hg]; exact (below_size (bl1 HB.out GE134.out)) : w.heap.size ≤ gb140))
         have NB134_140 := Aside0.mk ((by rw [hg]; exact Nat.ne_of_lt (lt_ BK134.out) : gb134 ≠ gb140))
         have NB140_134 := Aside0.mk ((by rw [hg]; exact Nat.ne_of_gt (lt_ BK134.out) : gb140 ≠ gb134))
         replace BK134 := Aside0.mk (bb BK134.out hb)
         replace HB := Aside0.mk (below_step (bl1 HB.out GE134.out) hb)
         clear hb hbox hg
         refine hK.out _ _ ⟨(blk_cell BK134.out 0).trans rfl, (blk_cell BK134.out 1).trans rfl⟩ (fun hHeld => ?_)
         clear hK K
         refine norm_ (a' := ?_) ?_ ?_
         rotate_left
         ·show Act.put _ (some 2) _ = _
          simp only [Act.put, List.setIfInBounds_toArray, List.set_cons_zero, List.set_cons_succ, i64_w, i32_w]
          rfl
         refine one_ (i := 2) (N := some 8) (ba 9 71) rfl rfl (one_of HT_.out (by kernel_rfl)) (by decide) (fun K hK => ?_)
         refine goes_ Try.func13 (by kernel_rfl) rfl #[.agg #[.int .u64 t132, .int .u64 t133], .agg #[.int .u64 t135, .int .u64 t136]] (by rfl) rfl rfl am ?_
         with_reducible refine (wide_Add.calls t132 t133 t135 t136 t137 t138 t139 _ A3.out).mono ?_
         rintro e w39 ⟨rfl, hb⟩
         refine ⟨_, rfl, ?_⟩
         replace BK134 := Aside0.mk (bb BK134.out hb)
         replace BK140 := Aside0.mk (bb BK140.out hb)
         replace HB := Aside0.mk (below_step (bl2 HB.out GE134.out GE140.out) hb)
         (try clear hb)
         (try clear hb2)
         (try clear hk)
         (try clear hi)
         refine hK.out _ _ ⟨(blk_cell BK134.out 0).trans rfl, (blk_cell BK134.out 1).trans rfl⟩ (fun hHeld => ?_)
         clear hK K
         refine norm_ (a' := ?_) ?_ ?_
         rotate_left
         ·show Act.put _ (some 8) _ = _
          simp only [Act.put, List.setIfInBounds_toArray, List.set_cons_zero, List.set_cons_succ, i64_w, i32_w]
          rfl
         refine pI 3 5 (ba 9 79) HT_.out ?_
         refine pI 4 9 (ba 9 95) HT_.out ?_
         refine pI 5 10 (ba 9 127) HT_.out ?_
         exact norm_ (by simp only [putAll, Act.put, List.setIfInBounds_toArray, List.set_cons_zero, List.set_cons_succ]) (hCont (gb140) _ ⟨hHeld, (bk BK134.out), (bk BK140.out), GW140.out, GE140.out, NB134_140.out, NB140_134.out, (bl2 HB.out GE134.out GE140.out)⟩)
       ·skip
        refine box_step ?hg (N := 2) ?hd (cs := #[.int .u64 0, .int .u64 0]) (t := 24) ?hr ?_; (case hd => rfl); (case hg => rfl); (case hr => first | (go_simp; done) | (go_simp; rfl))
        intro gb140 hg w37 hbox hb
        have BK140 := Aside0.mk (hbox)
        have GW140 := Aside0.mk ((by rw [hg]; exact (below_size (bl1 HB.out GE134.out)) : w.heap.size ≤ gb140))
        have GE140 := Aside0.mk ((by rw [hg]; exact (below_size (bl1 HB.out GE134.out)) : w.heap.size ≤ gb140))
        have NB134_140 := Aside0.mk ((by rw [hg]; exact Nat.ne_of_lt (lt_ BK134.out) : gb134 ≠ gb140))
        have NB140_134 := Aside0.mk ((by rw [hg]; exact Nat.ne_of_gt (lt_ BK134.out) : gb140 ≠ gb134))
        replace BK134 := Aside0.mk (bb BK134.out hb)
        replace HB := Aside0.mk (below_step (bl1 HB.out GE134.out) hb)
        clear hb hbox hg
        refine hK.out _ _ ⟨(blk_cell BK134.out 0).trans rfl, (blk_cell BK134.out 1).trans rfl⟩ (fun hHeld => ?_)
        clear hK K
        refine norm_ (a' := ?_) ?_ ?_
        rotate_left
        ·show Act.put _ (some 2) _ = _
         simp only [Act.put, List.setIfInBounds_toArray, List.set_cons_zero, List.set_cons_succ, i64_w, i32_w]
         rfl
        refine one_ (i := 1) (N := some 7) (ba 9 67) rfl rfl (one_of HT_.out (by kernel_rfl)) (by decide) (fun K hK => ?_)
        refine goes_ Try.func14 (by kernel_rfl) rfl #[.int .u64 5] (by rfl) rfl rfl am ?_
        with_reducible refine (wide_Of.calls 5 t135 t136 _ A2.out).mono ?_
        rintro e w38 ⟨rfl, hb⟩
        refine ⟨_, rfl, ?_⟩
        replace BK134 := Aside0.mk (bb BK134.out hb)
        replace BK140 := Aside0.mk (bb BK140.out hb)
        replace HB := Aside0.mk (below_step (bl2 HB.out GE134.out GE140.out) hb)
        (try clear hb)
        (try clear hb2)
        (try clear hk)
        (try clear hi)
        refine hK.out _ _ ⟨(blk_cell BK134.out 0).trans rfl, (blk_cell BK134.out 1).trans rfl⟩ (fun hHeld => ?_)
        clear hK K
        refine norm_ (a' := ?_) ?_ ?_
        rotate_left
        ·show Act.put _ (some 7) _ = _
         simp only [Act.put, List.setIfInBounds_toArray, List.set_cons_zero, List.set_cons_succ, i64_w, i32_w]
         rfl
        refine one_ (i := 2) (N := some 8) (ba 9 71) rfl rfl (one_of HT_.out (by kernel_rfl)) (by decide) (fun K hK => ?_)
        refine goes_ Try.func13 (by kernel_rfl) rfl #[.agg #[.int .u64 t132, .int .u64 t133], .agg #[.int .u64 t135, .int .u64 t136]] (by rfl) rfl rfl am ?_
        with_reducible refine (wide_Add.calls t132 t133 t135 t136 t137 t138 t139 _ A3.out).mono ?_
        rintro e w39 ⟨rfl, hb⟩
        refine ⟨_, rfl, ?_⟩
        replace BK134 := Aside0.mk (bb BK134.out hb)
        replace BK140 := Aside0.mk (bb BK140.out hb)
        replace HB := Aside0.mk (below_step (bl2 HB.out GE134.out GE140.out) hb)
        (try clear hb)
        (try clear hb2)
        (try clear hk)
        (try clear hi)
        refine hK.out _ _ ⟨(blk_cell BK134.out 0).trans rfl, (blk_cell BK134.out 1).trans rfl⟩ (fun hHeld => ?_)
        clear hK K
        refine norm_ (a' := ?_) ?_ ?_
        rotate_left
        ·show Act.put _ (some 8) _ = _
         simp only [Act.put, List.setIfInBounds_toArray, List.set_cons_zero, List.set_cons_succ, i64_w, i32_w]
         rfl
        refine pI 3 5 (ba 9 79) HT_.out ?_
        refine pI 4 9 (ba 9 95) HT_.out ?_
        refine pI 5 10 (ba 9 127) HT_.out ?_
        exact norm_ (by simp only [putAll, Act.put, List.setIfInBounds_toArray, List.set_cons_zero, List.set_cons_succ]) (hCont (gb140) _ ⟨hHeld, (bk BK134.out), (bk BK140.out), GW140.out, GE140.out, NB134_140.out, NB140_134.out, (bl2 HB.out GE134.out GE140.out)⟩)
      rintro gb140 w40 ⟨hS_, h0_, h1_, h2_, h3_, h4_, h5_, h6_⟩
      have BK140 : Aside0 (w40.heap[gb140]? = some (.cells #[.int .u64 0, .int .u64 0] 24 (0, 0))) := ⟨h1_⟩
      have GW140 : Aside0 (w.heap.size ≤ gb140) := ⟨h2_⟩
      have GE140 : Aside0 (w.heap.size ≤ gb140) := ⟨h3_⟩
      have NB134_140 : Aside0 (gb134 ≠ gb140) := ⟨h4_⟩
      have NB140_134 : Aside0 (gb140 ≠ gb134) := ⟨h5_⟩
      replace BK134 : Aside0 (w40.heap[gb134]? = some (.cells #[.int .u64 t132, .int .u64 t133] 24 (0, 0))) := ⟨h0_⟩
      replace HB : Aside0 (Below w.heap.size w w40) := ⟨h6_⟩
      clear h0_ h1_ h2_ h3_ h4_ h5_ h6_
      have hHeld : w40.cell? ⟨gb134, 0, none⟩ = some (.int .u64 t132) ∧ w40.cell? ⟨gb134, 1, none⟩ = some (.int .u64 t133) := hS_
      refine norm_ (a' := ?_) ?_ ?_
      rotate_left
      ·simp only [putAll, Act.put, List.setIfInBounds_toArray, List.set_cons_zero, List.set_cons_succ]
       rfl
      refine one_ (i := 7) (N := none) (ba 9 255) rfl rfl (one_of HT_.out (by kernel_rfl)) (by decide) (fun K hK => ?_)
      have hs41 : w40.cell? ⟨gb140, 0, none⟩ = some (.int .u64 0) := (blk_cell BK140.out 0).trans rfl
      have hfs41 := blk_frozen BK140.out 0
      have hns41_0 := NB134_140.out
      have hms41_0 := NB140_134.out
      have hs42 : w40.cell? ⟨gb140, 1, none⟩ = some (.int .u64 0) := (blk_cell BK140.out 1).trans rfl
      have hfs42 := blk_frozen BK140.out 1
      have hns42_0 := NB134_140.out
      have hms42_0 := NB140_134.out
      refine skip_ (w1 := ?_) (by rfl) rfl ?_ ?_
      rotate_left
      ·go_simp
       rfl
      refine hK.out _ _ ⟨((cell_far (p := ⟨gb140, _, none⟩) NB134_140.out _).trans (((cell_far (p := ⟨gb140, _, none⟩) NB134_140.out _).trans (hHeld.1)))), ((cell_far (p := ⟨gb140, _, none⟩) NB134_140.out _).trans (((cell_far (p := ⟨gb140, _, none⟩) NB134_140.out _).trans (hHeld.2))))⟩ (fun hHeld => ?_)
      clear hK K
      refine pI 8 3 (ba 9 511) HT_.out ?_
      refine done_ (done_of HT_.out (by kernel_rfl)) ?_
      have hnb43 := NB134_140.out
      have hnc43 := NB140_134.out
      have hcz44_0 : w40.cell? ⟨gb134, 0, none⟩ = some (.int .u64 t132) := (blk_cell BK134.out 0).trans rfl
      have hcz44_1 : w40.cell? ⟨gb134, 1, none⟩ = some (.int .u64 t133) := (blk_cell BK134.out 1).trans rfl
      have hfz44_0 := blk_frozen BK134.out 0
      have hfz44_1 := blk_frozen BK134.out 1
      have hcz45_0 : w40.cell? ⟨gb140, 0, none⟩ = some (.int .u64 0) := (blk_cell BK140.out 0).trans rfl
      have hcz45_1 : w40.cell? ⟨gb140, 1, none⟩ = some (.int .u64 0) := (blk_cell BK140.out 1).trans rfl
      have hfz45_0 := blk_frozen BK140.out 0
      have hfz45_1 := blk_frozen BK140.out 1
      try go_wp2_with (first | (go_at_call 8; (with_reducible refine (wide_Text.calls k t132 t133 t141 _ A7.out).mono ?_); rintro e w46 ⟨rfl, hb⟩; replace BK134 := Aside0.mk (blk_below (g := gb134) (o := .cells #[.int .u64 t132, .int .u64 t133] 24 (0, 0)) (by (with_reducible repeat (first | refine blk_drewN ?_ _ | refine blk_drew ?_ | refine blk_alloc ?_ _)); refine blk_far ?_ NB134_140.out _; (with_reducible repeat (first | refine blk_drewN ?_ _ | refine blk_drew ?_ | refine blk_alloc ?_ _)); refine blk_far ?_ NB134_140.out _; (with_reducible repeat (first | refine blk_drewN ?_ _ | refine blk_drew ?_ | refine blk_alloc ?_ _)); exact BK134.out) hb); replace BK140 := Aside0.mk (blk_below (g := gb140) (o := .cells #[.int .u64 t137, .int .u64 t138] 24 (0, 0)) (bk (blk_put (cs := #[.int .u64 t137, .int .u64 0]) (bk (blk_put (cs := #[.int .u64 0, .int .u64 0]) (bk BK140.out) 0 _ rfl)) 1 _ rfl)) hb); replace HB := Aside0.mk (below_step (bl2 HB.out GE134.out GE140.out) hb); (try clear hb); (try clear hb2); (try clear hk); (try clear hi); have hcz47_0 : w46.cell? ⟨gb134, 0, none⟩ = some (.int .u64 t132) := (blk_cell BK134.out 0).trans rfl; have hcz47_1 : w46.cell? ⟨gb134, 1, none⟩ = some (.int .u64 t133) := (blk_cell BK134.out 1).trans rfl; have hfz47_0 := blk_frozen BK134.out 0; have hfz47_1 := blk_frozen BK134.out 1) | (go_at_call 22; (with_reducible refine (wide_Bits.calls k t132 t133 t142 _ A9.out).mono ?_); rintro e w48 ⟨rfl, hb⟩; replace BK134 := Aside0.mk (bb BK134.out hb); replace BK140 := Aside0.mk (bb BK140.out hb); replace HB := Aside0.mk (below_step (bl2 HB.out GE134.out GE140.out) hb); (try clear hb); (try clear hb2); (try clear hk); (try clear hi)))
      go_ret
      exact ⟨by first | rfl | (simp [errW_none, errW_some] <;> rfl) | (simp [*, errW_none, errW_some] <;> rfl), bl2 HB.out GE134.out GE140.out⟩
    ·rw [if_neg c8] at H
     have c8b0 : (t141.toList == ([51, 54, 56, 57, 51, 52, 56, 56, 49, 52, 55, 52, 49, 57, 49, 48, 51, 50, 51, 50] : List UInt8)) = false := beq_eq_false_iff_ne.mpr c8
     have c8b1 : (t141.toList != ([51, 54, 56, 57, 51, 52, 56, 56, 49, 52, 55, 52, 49, 57, 49, 48, 51, 50, 51, 50] : List UInt8)) = true := bne_iff_ne.mpr c8
     obtain rfl := Option.some.inj H
     go_enter Try.func7, Try.ntmps7
     try go_wp2_with (first | ((with_reducible refine gate_callee (f := 19) rfl ?_); refine goesL_ (some 4) rfl rfl Try.func19 (by kernel_rfl) rfl #[.int .u64 9223372036854775808, .int .u64 4] rfl am ?_; (with_reducible refine (wide_Mul.calls 9223372036854775808 4 t132 t133 _ A1.out).mono ?_); rintro e w49 ⟨rfl, hb⟩; refine ⟨_, rfl, ?_⟩; replace HB := Aside0.mk (below_step (bl0 HB.out) hb); (try clear hb); (try clear hb2); (try clear hk); (try clear hi)) | ((with_reducible refine gate_dst (N := 1) rfl ?_); refine be 1 (#[.int .u64 0, .int .u64 0]) 24 ?_; intro gb134 hg w50 hbox hb; have BK134 := Aside0.mk (hbox); have GW134 := Aside0.mk ((by rw [hg]; exact (below_size (bl0 HB.out)) : w.heap.size ≤ gb134)); have GE134 := GW134; replace HB := Aside0.mk (below_step (bl0 HB.out) hb); clear hb hbox hg; have hcz51_0 : w50.cell? ⟨gb134, 0, none⟩ = some (.int .u64 0) := (blk_cell BK134.out 0).trans rfl; have hcz51_1 : w50.cell? ⟨gb134, 1, none⟩ = some (.int .u64 0) := (blk_cell BK134.out 1).trans rfl; have hfz51_0 := blk_frozen BK134.out 0; have hfz51_1 := blk_frozen BK134.out 1))
     have n0_ : Aside0 (((w50.setCell ⟨gb134, 0, none⟩ (.int .u64 t132)).setCell ⟨gb134, 1, none⟩ (.int .u64 t133)).heap[gb134]? = some (.cells #[.int .u64 t132, .int .u64 t133] 24 (0, 0))) := ⟨by (with_reducible repeat (first | refine blk_drewN ?_ _ | refine blk_drew ?_ | refine blk_alloc ?_ _)); refine blk_put (cs := #[.int .u64 t132, .int .u64 0]) ?_ 1 _ rfl; (with_reducible repeat (first | refine blk_drewN ?_ _ | refine blk_drew ?_ | refine blk_alloc ?_ _)); refine blk_put (cs := #[.int .u64 0, .int .u64 0]) ?_ 0 _ rfl; (with_reducible repeat (first | refine blk_drewN ?_ _ | refine blk_drew ?_ | refine blk_alloc ?_ _)); exact BK134.out⟩
     have n1_ : Aside0 (Below w.heap.size w ((w50.setCell ⟨gb134, 0, none⟩ (.int .u64 t132)).setCell ⟨gb134, 1, none⟩ (.int .u64 t133))) := ⟨bl1 HB.out GE134.out⟩
     (try clear BK134)
     (try clear HB)
     generalize ((w50.setCell ⟨gb134, 0, none⟩ (.int .u64 t132)).setCell ⟨gb134, 1, none⟩ (.int .u64 t133)) = w52 at n0_ n1_ ⊢
     have BK134 := n0_
     have HB := n1_
     clear n0_ n1_
     replace BK134 := Aside0.mk (blk_drew BK134.out)
     replace HB := Aside0.mk (below_drew1 HB.out)
     refine start_ (n := 9) (S := fun w' => w'.cell? ⟨gb134, 0, none⟩ = some (.int .u64 t132) ∧ w'.cell? ⟨gb134, 1, none⟩ = some (.int .u64 t133)) (ds := []) (ba 9 0) (by kernel_rfl) rfl rfl ⟨(blk_cell BK134.out 0).trans rfl, (blk_cell BK134.out 1).trans rfl⟩ (fun hHeld => ?_); refine with_tabW pochoirlaw01_awake.tab2 pochoirlaw01_awake.bits2 (fun HT_ HW_ => ?_)
     generalize w52.drew = w53 at BK134 HB hHeld ⊢
     refine take_ (i := 0) (N := some 6) (v := ?_) (a' := ?_) (ba 9 1) rfl rfl (take_ofW HT_.out HW_.out (by kernel_rfl)) (fun _ _ _ h => h) (Or.inl ⟨by rfl, ?_⟩) hHeld ?_ ?_
     rotate_left
     ·rintro w' ⟨s0, s1⟩
      go_simp
      with_reducible rfl
     rotate_left
     ·simp only [Act.put, List.setIfInBounds_toArray, List.set_cons_zero, List.set_cons_succ, i64_w, i32_w]
      rfl
     refine join_ (σ := Nat) 2 (ba 9 127) (fun s_ => [(7, .agg #[.int .u64 t135, .int .u64 t136]), (8, .tuple #[.agg #[.int .u64 t137, .int .u64 t138], .int .i64 t139]), (2, .pointer (some ⟨s_, 0, none⟩)), (5, .tuple #[.agg #[.int .u64 t137, .int .u64 t138], .int .i64 t139]), (9, .agg #[.int .u64 t137, .int .u64 t138]), (10, .int .i64 t139)]) (fun s_ w' => (w'.cell? ⟨gb134, 0, none⟩ = some (.int .u64 t132) ∧ w'.cell? ⟨gb134, 1, none⟩ = some (.int .u64 t133)) ∧ (w'.heap[gb134]? = some (.cells #[.int .u64 t132, .int .u64 t133] 24 (0, 0))) ∧ (w'.heap[s_]? = some (.cells #[.int .u64 0, .int .u64 0] 24 (0, 0))) ∧ (w.heap.size ≤ s_) ∧ (w.heap.size ≤ s_) ∧ (gb134 ≠ s_) ∧ (s_ ≠ gb134) ∧ (Below w.heap.size w w')) ?_ ?_
     rotate_left
     ·intro hCont
      refine two_ (i := 1) (j := 6) (Ni := some 7) (Nj := some 2) (ba 9 3) (ba 9 65) rfl rfl rfl rfl (two_of HT_.out (by kernel_rfl)) (by decide) (by decide) (fun K hK => ?_) (fun K hK => ?_)
      ·skip
       refine goes_ Try.func14 (by kernel_rfl) rfl #[.int .u64 5] (by rfl) rfl rfl am ?_
       with_reducible refine (wide_Of.calls 5 t135 t136 _ A2.out).mono ?_
       rintro e w54 ⟨rfl, hb⟩
       refine ⟨_, rfl, ?_⟩
       replace BK134 := Aside0.mk (bb BK134.out hb)
       replace HB := Aside0.mk (below_step (bl1 HB.out GE134.out) hb)
       (try clear hb)
       (try clear hb2)
       (try clear hk)
       (try clear hi)
       refine hK.out _ _ ⟨(blk_cell BK134.out 0).trans rfl, (blk_cell BK134.out 1).trans rfl⟩ (fun hHeld => ?_)
       clear hK K
       refine norm_ (a' := ?_) ?_ ?_
       rotate_left
       ·show Act.put _ (some 7) _ = _
        simp only [Act.put, List.setIfInBounds_toArray, List.set_cons_zero, List.set_cons_succ, i64_w, i32_w]
        rfl
       refine two_ (i := 2) (j := 6) (Ni := some 8) (Nj := some 2) (ba 9 7) (ba 9 67) rfl rfl rfl rfl (two_of HT_.out (by kernel_rfl)) (by decide) (by decide) (fun K hK => ?_) (fun K hK => ?_)
       ·skip
        refine goes_ Try.func13 (by kernel_rfl) rfl #[.agg #[.int .u64 t132, .int .u64 t133], .agg #[.int .u64 t135, .int .u64 t136]] (by rfl) rfl rfl am ?_
        with_reducible refine (wide_Add.calls t132 t133 t135 t136 t137 t138 t139 _ A3.out).mono ?_
        rintro e w55 ⟨rfl, hb⟩
        refine ⟨_, rfl, ?_⟩
        replace BK134 := Aside0.mk (bb BK134.out hb)
        replace HB := Aside0.mk (below_step (bl1 HB.out GE134.out) hb)
        (try clear hb)
        (try clear hb2)
        (try clear hk)
        (try clear hi)
        refine hK.out _ _ ⟨(blk_cell BK134.out 0).trans rfl, (blk_cell BK134.out 1).trans rfl⟩ (fun hHeld => ?_)
        clear hK K
        refine norm_ (a' := ?_) ?_ ?_
        rotate_left
        ·show Act.put _ (some 8) _ = _
         simp only [Act.put, List.setIfInBounds_toArray, List.set_cons_zero, List.set_cons_succ, i64_w, i32_w]
         rfl
        refine pI 3 5 (ba 9 15) HT_.out ?_
        refine pI 4 9 (ba 9 31) HT_.out ?_
        refine pI 5 10 (ba 9 63) HT_.out ?_
        refine one_ (i := 6) (N := some 2) (ba 9 127) rfl rfl (one_of HT_.out (by kernel_rfl)) (by decide) (fun K hK => ?_)
        refine box_step ?hg (N := 2) ?hd (cs := #[.int .u64 0, .int .u64 0]) (t := 24) ?hr ?_; (case hd => rfl); (case hg => rfl); (case hr => first | (go_simp; done) | (go_simp; rfl))
        intro gb140 hg w56 hbox hb
        have BK140 := Aside0.mk (hbox)
        have GW140 := Aside0.mk ((by rw [hg]; exact (below_size (bl1 HB.out GE134.out)) : w.heap.size ≤ gb140))
        have GE140 := Aside0.mk ((by rw [hg]; exact (below_size (bl1 HB.out GE134.out)) : w.heap.size ≤ gb140))
        have NB134_140 := Aside0.mk ((by rw [hg]; exact Nat.ne_of_lt (lt_ BK134.out) : gb134 ≠ gb140))
        have NB140_134 := Aside0.mk ((by rw [hg]; exact Nat.ne_of_gt (lt_ BK134.out) : gb140 ≠ gb134))
        replace BK134 := Aside0.mk (bb BK134.out hb)
        replace HB := Aside0.mk (below_step (bl1 HB.out GE134.out) hb)
        clear hb hbox hg
        refine hK.out _ _ ⟨(blk_cell BK134.out 0).trans rfl, (blk_cell BK134.out 1).trans rfl⟩ (fun hHeld => ?_)
        clear hK K
        refine norm_ (a' := ?_) ?_ ?_
        rotate_left
        ·show Act.put _ (some 2) _ = _
         simp only [Act.put, List.setIfInBounds_toArray, List.set_cons_zero, List.set_cons_succ, i64_w, i32_w]
         rfl
        exact norm_ (by simp only [putAll, Act.put, List.setIfInBounds_toArray, List.set_cons_zero, List.set_cons_succ]) (hCont (gb140) _ ⟨hHeld, (bk BK134.out), (bk BK140.out), GW140.out, GE140.out, NB134_140.out, NB140_134.out, (bl2 HB.out GE134.out GE140.out)⟩)
       ·skip
        refine box_step ?hg (N := 2) ?hd (cs := #[.int .u64 0, .int .u64 0]) (t := 24) ?hr ?_; (case hd => rfl); (case hg => rfl); (case hr => first | (go_simp; done) | (go_simp; rfl))
        intro gb140 hg w55 hbox hb
        have BK140 := Aside0.mk (hbox)
        have GW140 := Aside0.mk ((by rw [hg]; exact (below_size (bl1 HB.out GE134.out)) : w.heap.size ≤ gb140))
        have GE140 := Aside0.mk ((by rw [hg]; exact (below_size (bl1 HB.out GE134.out)) : w.heap.size ≤ gb140))
        have NB134_140 := Aside0.mk ((by rw [hg]; exact Nat.ne_of_lt (lt_ BK134.out) : gb134 ≠ gb140))
        have NB140_134 := Aside0.mk ((by rw [hg]; exact Nat.ne_of_gt (lt_ BK134.out) : gb140 ≠ gb134))
        replace BK134 := Aside0.mk (bb BK134.out hb)
        replace HB := Aside0.mk (below_step (bl1 HB.out GE134.out) hb)
        clear hb hbox hg
        refine hK.out _ _ ⟨(blk_cell BK134.out 0).trans rfl, (blk_cell BK134.out 1).trans rfl⟩ (fun hHeld => ?_)
        clear hK K
        refine norm_ (a' := ?_) ?_ ?_
        rotate_left
        ·show Act.put _ (some 2) _ = _
         simp only [Act.put, List.setIfInBounds_toArray, List.set_cons_zero, List.set_cons_succ, i64_w, i32_w]
         rfl
        refine one_ (i := 2) (N := some 8) (ba 9 71) rfl rfl (one_of HT_.out (by kernel_rfl)) (by decide) (fun K hK => ?_)
        refine goes_ Try.func13 (by kernel_rfl) rfl #[.agg #[.int .u64 t132, .int .u64 t133], .agg #[.int .u64 t135, .int .u64 t136]] (by rfl) rfl rfl am ?_
        with_reducible refine (wide_Add.calls t132 t133 t135 t136 t137 t138 t139 _ A3.out).mono ?_
        rintro e w56 ⟨rfl, hb⟩
        refine ⟨_, rfl, ?_⟩
        replace BK134 := Aside0.mk (bb BK134.out hb)
        replace BK140 := Aside0.mk (bb BK140.out hb)
        replace HB := Aside0.mk (below_step (bl2 HB.out GE134.out GE140.out) hb)
        (try clear hb)
        (try clear hb2)
        (try clear hk)
        (try clear hi)
        refine hK.out _ _ ⟨(blk_cell BK134.out 0).trans rfl, (blk_cell BK134.out 1).trans rfl⟩ (fun hHeld => ?_)
        clear hK K
        refine norm_ (a' := ?_) ?_ ?_
        rotate_left
        ·show Act.put _ (some 8) _ = _
         simp only [Act.put, List.setIfInBounds_toArray, List.set_cons_zero, List.set_cons_succ, i64_w, i32_w]
         rfl
        refine pI 3 5 (ba 9 79) HT_.out ?_
        refine pI 4 9 (ba 9 95) HT_.out ?_
        refine pI 5 10 (ba 9 127) HT_.out ?_
        exact norm_ (by simp only [putAll, Act.put, List.setIfInBounds_toArray, List.set_cons_zero, List.set_cons_succ]) (hCont (gb140) _ ⟨hHeld, (bk BK134.out), (bk BK140.out), GW140.out, GE140.out, NB134_140.out, NB140_134.out, (bl2 HB.out GE134.out GE140.out)⟩)
      ·skip
       refine box_step ?hg (N := 2) ?hd (cs := #[.int .u64 0, .int .u64 0]) (t := 24) ?hr ?_; (case hd => rfl); (case hg => rfl); (case hr => first | (go_simp; done) | (go_simp; rfl))
       intro gb140 hg w54 hbox hb
       have BK140 := Aside0.mk (hbox)
       have GW140 := Aside0.mk ((by rw [hg]; exact (below_size (bl1 HB.out GE134.out)) : w.heap.size ≤ gb140))
       have GE140 := Aside0.mk ((by rw [hg]; exact (below_size (bl1 HB.out GE134.out)) : w.heap.size ≤ gb140))
       have NB134_140 := Aside0.mk ((by rw [hg]; exact Nat.ne_of_lt (lt_ BK134.out) : gb134 ≠ gb140))
       have NB140_134 := Aside0.mk ((by rw [hg]; exact Nat.ne_of_gt (lt_ BK134.out) : gb140 ≠ gb134))
       replace BK134 := Aside0.mk (bb BK134.out hb)
       replace HB := Aside0.mk (below_step (bl1 HB.out GE134.out) hb)
       clear hb hbox hg
       refine hK.out _ _ ⟨(blk_cell BK134.out 0).trans rfl, (blk_cell BK134.out 1).trans rfl⟩ (fun hHeld => ?_)
       clear hK K
       refine norm_ (a' := ?_) ?_ ?_
       rotate_left
       ·show Act.put _ (some 2) _ = _
        simp only [Act.put, List.setIfInBounds_toArray, List.set_cons_zero, List.set_cons_succ, i64_w, i32_w]
        rfl
       refine one_ (i := 1) (N := some 7) (ba 9 67) rfl rfl (one_of HT_.out (by kernel_rfl)) (by decide) (fun K hK => ?_)
       refine goes_ Try.func14 (by kernel_rfl) rfl #[.int .u64 5] (by rfl) rfl rfl am ?_
       with_reducible refine (wide_Of.calls 5 t135 t136 _ A2.out).mono ?_
       rintro e w55 ⟨rfl, hb⟩
       refine ⟨_, rfl, ?_⟩
       replace BK134 := Aside0.mk (bb BK134.out hb)
       replace BK140 := Aside0.mk (bb BK140.out hb)
       replace HB := Aside0.mk (below_step (bl2 HB.out GE134.out GE140.out) hb)
       (try clear hb)
       (try clear hb2)
       (try clear hk)
       (try clear hi)
       refine hK.out _ _ ⟨(blk_cell BK134.out 0).trans rfl, (blk_cell BK134.out 1).trans rfl⟩ (fun hHeld => ?_)
       clear hK K
       refine norm_ (a' := ?_) ?_ ?_
       rotate_left
       ·show Act.put _ (some 7) _ = _
        simp only [Act.put, List.setIfInBounds_toArray, List.set_cons_zero, List.set_cons_succ, i64_w, i32_w]
        rfl
       refine one_ (i := 2) (N := some 8) (ba 9 71) rfl rfl (one_of HT_.out (by kernel_rfl)) (by decide) (fun K hK => ?_)
       refine goes_ Try.func13 (by kernel_rfl) rfl #[.agg #[.int .u64 t132, .int .u64 t133], .agg #[.int .u64 t135, .int .u64 t136]] (by rfl) rfl rfl am ?_
       with_reducible refine (wide_Add.calls t132 t133 t135 t136 t137 t138 t139 _ A3.out).mono ?_
       rintro e w56 ⟨rfl, hb⟩
       refine ⟨_, rfl, ?_⟩
       replace BK134 := Aside0.mk (bb BK134.out hb)
       replace BK140 := Aside0.mk (bb BK140.out hb)
       replace HB := Aside0.mk (below_step (bl2 HB.out GE134.out GE140.out) hb)
       (try clear hb)
       (try clear hb2)
       (try clear hk)
       (try clear hi)
       refine hK.out _ _ ⟨(blk_cell BK134.out 0).trans rfl, (blk_cell BK134.out 1).trans rfl⟩ (fun hHeld => ?_)
       clear hK K
       refine norm_ (a' := ?_) ?_ ?_
       rotate_left
       ·show Act.put _ (some 8) _ = _
        simp only [Act.put, List.setIfInBounds_toArray, List.set_cons_zero, List.set_cons_succ, i64_w, i32_w]
        rfl
       refine pI 3 5 (ba 9 79) HT_.out ?_
       refine pI 4 9 (ba 9 95) HT_.out ?_
       refine pI 5 10 (ba 9 127) HT_.out ?_
       exact norm_ (by simp only [putAll, Act.put, List.setIfInBounds_toArray, List.set_cons_zero, List.set_cons_succ]) (hCont (gb140) _ ⟨hHeld, (bk BK134.out), (bk BK140.out), GW140.out, GE140.out, NB134_140.out, NB140_134.out, (bl2 HB.out GE134.out GE140.out)⟩)
     rintro gb140 w57 ⟨hS_, h0_, h1_, h2_, h3_, h4_, h5_, h6_⟩
     have BK140 : Aside0 (w57.heap[gb140]? = some (.cells #[.int .u64 0, .int .u64 0] 24 (0, 0))) := ⟨h1_⟩
     have GW140 : Aside0 (w.heap.size ≤ gb140) := ⟨h2_⟩
     have GE140 : Aside0 (w.heap.size ≤ gb140) := ⟨h3_⟩
     have NB134_140 : Aside0 (gb134 ≠ gb140) := ⟨h4_⟩
     have NB140_134 : Aside0 (gb140 ≠ gb134) := ⟨h5_⟩
     replace BK134 : Aside0 (w57.heap[gb134]? = some (.cells #[.int .u64 t132, .int .u64 t133] 24 (0, 0))) := ⟨h0_⟩
     replace HB : Aside0 (Below w.heap.size w w57) := ⟨h6_⟩
     clear h0_ h1_ h2_ h3_ h4_ h5_ h6_
     have hHeld : w57.cell? ⟨gb134, 0, none⟩ = some (.int .u64 t132) ∧ w57.cell? ⟨gb134, 1, none⟩ = some (.int .u64 t133) := hS_
     refine norm_ (a' := ?_) ?_ ?_
     rotate_left
     ·simp only [putAll, Act.put, List.setIfInBounds_toArray, List.set_cons_zero, List.set_cons_succ]
      rfl
     refine one_ (i := 7) (N := none) (ba 9 255) rfl rfl (one_of HT_.out (by kernel_rfl)) (by decide) (fun K hK => ?_)
     have hs58 : w57.cell? ⟨gb140, 0, none⟩ = some (.int .u64 0) := (blk_cell BK140.out 0).trans rfl
     have hfs58 := blk_frozen BK140.out 0
     have hns58_0 := NB134_140.out
     have hms58_0 := NB140_134.out
     have hs59 : w57.cell? ⟨gb140, 1, none⟩ = some (.int .u64 0) := (blk_cell BK140.out 1).trans rfl
     have hfs59 := blk_frozen BK140.out 1
     have hns59_0 := NB134_140.out
     have hms59_0 := NB140_134.out
     refine skip_ (w1 := ?_) (by rfl) rfl ?_ ?_
     rotate_left
     ·go_simp
      rfl
     refine hK.out _ _ ⟨((cell_far (p := ⟨gb140, _, none⟩) NB134_140.out _).trans (((cell_far (p := ⟨gb140, _, none⟩) NB134_140.out _).trans (hHeld.1)))), ((cell_far (p := ⟨gb140, _, none⟩) NB134_140.out _).trans (((cell_far (p := ⟨gb140, _, none⟩) NB134_140.out _).trans (hHeld.2))))⟩ (fun hHeld => ?_)
     clear hK K
     refine pI 8 3 (ba 9 511) HT_.out ?_
     refine done_ (done_of HT_.out (by kernel_rfl)) ?_
     have hnb60 := NB134_140.out
     have hnc60 := NB140_134.out
     have hcz61_0 : w57.cell? ⟨gb134, 0, none⟩ = some (.int .u64 t132) := (blk_cell BK134.out 0).trans rfl
     have hcz61_1 : w57.cell? ⟨gb134, 1, none⟩ = some (.int .u64 t133) := (blk_cell BK134.out 1).trans rfl
     have hfz61_0 := blk_frozen BK134.out 0
     have hfz61_1 := blk_frozen BK134.out 1
     have hcz62_0 : w57.cell? ⟨gb140, 0, none⟩ = some (.int .u64 0) := (blk_cell BK140.out 0).trans rfl
     have hcz62_1 : w57.cell? ⟨gb140, 1, none⟩ = some (.int .u64 0) := (blk_cell BK140.out 1).trans rfl
     have hfz62_0 := blk_frozen BK140.out 0
     have hfz62_1 := blk_frozen BK140.out 1
     try go_wp2_with (first | (go_at_call 8; (with_reducible refine (wide_Text.calls k t132 t133 t141 _ A7.out).mono ?_); rintro e w63 ⟨rfl, hb⟩; replace BK134 := Aside0.mk (blk_below (g := gb134) (o := .cells #[.int .u64 t132, .int .u64 t133] 24 (0, 0)) (by (with_reducible repeat (first | refine blk_drewN ?_ _ | refine blk_drew ?_ | refine blk_alloc ?_ _)); refine blk_far ?_ NB134_140.out _; (with_reducible repeat (first | refine blk_drewN ?_ _ | refine blk_drew ?_ | refine blk_alloc ?_ _)); refine blk_far ?_ NB134_140.out _; (with_reducible repeat (first | refine blk_drewN ?_ _ | refine blk_drew ?_ | refine blk_alloc ?_ _)); exact BK134.out) hb); replace BK140 := Aside0.mk (blk_below (g := gb140) (o := .cells #[.int .u64 t137, .int .u64 t138] 24 (0, 0)) (bk (blk_put (cs := #[.int .u64 t137, .int .u64 0]) (bk (blk_put (cs := #[.int .u64 0, .int .u64 0]) (bk BK140.out) 0 _ rfl)) 1 _ rfl)) hb); replace HB := Aside0.mk (below_step (bl2 HB.out GE134.out GE140.out) hb); (try clear hb); (try clear hb2); (try clear hk); (try clear hi)))
     go_ret
     exact ⟨by first | rfl | (simp [errW_none, errW_some] <;> rfl) | (simp [*, errW_none, errW_some] <;> rfl), bl2 HB.out GE134.out GE140.out⟩
   ·rw [if_neg c6] at H
    have c6b0 : (t137 == 2 && (t138 == 5)) = false := by simpa using c6
    (try (have c6b1 : decide (t137 = 2 && (t138 == 5)) = false := by simpa using c6))
    (try (have c6b2 : (t137 == 2 && (t138 == 5)) = false := by simpa using c6))
    (try (have c6b3 : ¬ (t137 = 2 && (t138 == 5)) := by simpa using c6))
    clear c6
    obtain rfl := Option.some.inj H
    go_enter Try.func7, Try.ntmps7
    try go_wp2_with (first | ((with_reducible refine gate_callee (f := 19) rfl ?_); refine goesL_ (some 4) rfl rfl Try.func19 (by kernel_rfl) rfl #[.int .u64 9223372036854775808, .int .u64 4] rfl am ?_; (with_reducible refine (wide_Mul.calls 9223372036854775808 4 t132 t133 _ A1.out).mono ?_); rintro e w64 ⟨rfl, hb⟩; refine ⟨_, rfl, ?_⟩; replace HB := Aside0.mk (below_step (bl0 HB.out) hb); (try clear hb); (try clear hb2); (try clear hk); (try clear hi)) | ((with_reducible refine gate_dst (N := 1) rfl ?_); refine be 1 (#[.int .u64 0, .int .u64 0]) 24 ?_; intro gb134 hg w65 hbox hb; have BK134 := Aside0.mk (hbox); have GW134 := Aside0.mk ((by rw [hg]; exact (below_size (bl0 HB.out)) : w.heap.size ≤ gb134)); have GE134 := GW134; replace HB := Aside0.mk (below_step (bl0 HB.out) hb); clear hb hbox hg; have hcz66_0 : w65.cell? ⟨gb134, 0, none⟩ = some (.int .u64 0) := (blk_cell BK134.out 0).trans rfl; have hcz66_1 : w65.cell? ⟨gb134, 1, none⟩ = some (.int .u64 0) := (blk_cell BK134.out 1).trans rfl; have hfz66_0 := blk_frozen BK134.out 0; have hfz66_1 := blk_frozen BK134.out 1))
    have n0_ : Aside0 (((w65.setCell ⟨gb134, 0, none⟩ (.int .u64 t132)).setCell ⟨gb134, 1, none⟩ (.int .u64 t133)).heap[gb134]? = some (.cells #[.int .u64 t132, .int .u64 t133] 24 (0, 0))) := ⟨by (with_reducible repeat (first | refine blk_drewN ?_ _ | refine blk_drew ?_ | refine blk_alloc ?_ _)); refine blk_put (cs := #[.int .u64 t132, .int .u64 0]) ?_ 1 _ rfl; (with_reducible repeat (first | refine blk_drewN ?_ _ | refine blk_drew ?_ | refine blk_alloc ?_ _)); refine blk_put (cs := #[.int .u64 0, .int .u64 0]) ?_ 0 _ rfl; (with_reducible repeat (first | refine blk_drewN ?_ _ | refine blk_drew ?_ | refine blk_alloc ?_ _)); exact BK134.out⟩
    have n1_ : Aside0 (Below w.heap.size w ((w65.setCell ⟨gb134, 0, none⟩ (.int .u64 t132)).setCell ⟨gb134, 1, none⟩ (.int .u64 t133))) := ⟨bl1 HB.out GE134.out⟩
    (try clear BK134)
    (try clear HB)
    generalize ((w65.setCell ⟨gb134, 0, none⟩ (.int .u64 t132)).setCell ⟨gb134, 1, none⟩ (.int .u64 t133)) = w67 at n0_ n1_ ⊢
    have BK134 := n0_
    have HB := n1_
    clear n0_ n1_
    replace BK134 := Aside0.mk (blk_drew BK134.out)
    replace HB := Aside0.mk (below_drew1 HB.out)
    refine start_ (n := 9) (S := fun w' => w'.cell? ⟨gb134, 0, none⟩ = some (.int .u64 t132) ∧ w'.cell? ⟨gb134, 1, none⟩ = some (.int .u64 t133)) (ds := []) (ba 9 0) (by kernel_rfl) rfl rfl ⟨(blk_cell BK134.out 0).trans rfl, (blk_cell BK134.out 1).trans rfl⟩ (fun hHeld => ?_); refine with_tabW pochoirlaw01_awake.tab2 pochoirlaw01_awake.bits2 (fun HT_ HW_ => ?_)
    generalize w67.drew = w68 at BK134 HB hHeld ⊢
    refine take_ (i := 0) (N := some 6) (v := ?_) (a' := ?_) (ba 9 1) rfl rfl (take_ofW HT_.out HW_.out (by kernel_rfl)) (fun _ _ _ h => h) (Or.inl ⟨by rfl, ?_⟩) hHeld ?_ ?_
    rotate_left
    ·rintro w' ⟨s0, s1⟩
     go_simp
     with_reducible rfl
    rotate_left
    ·simp only [Act.put, List.setIfInBounds_toArray, List.set_cons_zero, List.set_cons_succ, i64_w, i32_w]
     rfl
    refine join_ (σ := Nat) 2 (ba 9 127) (fun s_ => [(7, .agg #[.int .u64 t135, .int .u64 t136]), (8, .tuple #[.agg #[.int .u64 t137, .int .u64 t138], .int .i64 t139]), (2, .pointer (some ⟨s_, 0, none⟩)), (5, .tuple #[.agg #[.int .u64 t137, .int .u64 t138], .int .i64 t139]), (9, .agg #[.int .u64 t137, .int .u64 t138]), (10, .int .i64 t139)]) (fun s_ w' => (w'.cell? ⟨gb134, 0, none⟩ = some (.int .u64 t132) ∧ w'.cell? ⟨gb134, 1, none⟩ = some (.int .u64 t133)) ∧ (w'.heap[gb134]? = some (.cells #[.int .u64 t132, .int .u64 t133] 24 (0, 0))) ∧ (w'.heap[s_]? = some (.cells #[.int .u64 0, .int .u64 0] 24 (0, 0))) ∧ (w.heap.size ≤ s_) ∧ (w.heap.size ≤ s_) ∧ (gb134 ≠ s_) ∧ (s_ ≠ gb134) ∧ (Below w.heap.size w w')) ?_ ?_
    rotate_left
    ·intro hCont
     refine two_ (i := 1) (j := 6) (Ni := some 7) (Nj := some 2) (ba 9 3) (ba 9 65) rfl rfl rfl rfl (two_of HT_.out (by kernel_rfl)) (by decide) (by decide) (fun K hK => ?_) (fun K hK => ?_)
     ·skip
      refine goes_ Try.func14 (by kernel_rfl) rfl #[.int .u64 5] (by rfl) rfl rfl am ?_
      with_reducible refine (wide_Of.calls 5 t135 t136 _ A2.out).mono ?_
      rintro e w69 ⟨rfl, hb⟩
      refine ⟨_, rfl, ?_⟩
      replace BK134 := Aside0.mk (bb BK134.out hb)
      replace HB := Aside0.mk (below_step (bl1 HB.out GE134.out) hb)
      (try clear hb)
      (try clear hb2)
      (try clear hk)
      (try clear hi)
      refine hK.out _ _ ⟨(blk_cell BK134.out 0).trans rfl, (blk_cell BK134.out 1).trans rfl⟩ (fun hHeld => ?_)
      clear hK K
      refine norm_ (a' := ?_) ?_ ?_
      rotate_left
      ·show Act.put _ (some 7) _ = _
       simp only [Act.put, List.setIfInBounds_toArray, List.set_cons_zero, List.set_cons_succ, i64_w, i32_w]
       rfl
      refine two_ (i := 2) (j := 6) (Ni := some 8) (Nj := some 2) (ba 9 7) (ba 9 67) rfl rfl rfl rfl (two_of HT_.out (by kernel_rfl)) (by decide) (by decide) (fun K hK => ?_) (fun K hK => ?_)
      ·skip
       refine goes_ Try.func13 (by kernel_rfl) rfl #[.agg #[.int .u64 t132, .int .u64 t133], .agg #[.int .u64 t135, .int .u64 t136]] (by rfl) rfl rfl am ?_
       with_reducible refine (wide_Add.calls t132 t133 t135 t136 t137 t138 t139 _ A3.out).mono ?_
       rintro e w70 ⟨rfl, hb⟩
       refine ⟨_, rfl, ?_⟩
       replace BK134 := Aside0.mk (bb BK134.out hb)
       replace HB := Aside0.mk (below_step (bl1 HB.out GE134.out) hb)
       (try clear hb)
       (try clear hb2)
       (try clear hk)
       (try clear hi)
       refine hK.out _ _ ⟨(blk_cell BK134.out 0).trans rfl, (blk_cell BK134.out 1).trans rfl⟩ (fun hHeld => ?_)
       clear hK K
       refine norm_ (a' := ?_) ?_ ?_
       rotate_left
       ·show Act.put _ (some 8) _ = _
        simp only [Act.put, List.setIfInBounds_toArray, List.set_cons_zero, List.set_cons_succ, i64_w, i32_w]
        rfl
       refine pI 3 5 (ba 9 15) HT_.out ?_
       refine pI 4 9 (ba 9 31) HT_.out ?_
       refine pI 5 10 (ba 9 63) HT_.out ?_
       refine one_ (i := 6) (N := some 2) (ba 9 127) rfl rfl (one_of HT_.out (by kernel_rfl)) (by decide) (fun K hK => ?_)
       refine box_step ?hg (N := 2) ?hd (cs := #[.int .u64 0, .int .u64 0]) (t := 24) ?hr ?_; (case hd => rfl); (case hg => rfl); (case hr => first | (go_simp; done) | (go_simp; rfl))
       intro gb140 hg w71 hbox hb
       have BK140 := Aside0.mk (hbox)
       have GW140 := Aside0.mk ((by rw [hg]; exact (below_size (bl1 HB.out GE134.out)) : w.heap.size ≤ gb140))
       have GE140 := Aside0.mk ((by rw [hg]; exact (below_size (bl1 HB.out GE134.out)) : w.heap.size ≤ gb140))
       have NB134_140 := Aside0.mk ((by rw [hg]; exact Nat.ne_of_lt (lt_ BK134.out) : gb134 ≠ gb140))
       have NB140_134 := Aside0.mk ((by rw [hg]; exact Nat.ne_of_gt (lt_ BK134.out) : gb140 ≠ gb134))
       replace BK134 := Aside0.mk (bb BK134.out hb)
       replace HB := Aside0.mk (below_step (bl1 HB.out GE134.out) hb)
       clear hb hbox hg
       refine hK.out _ _ ⟨(blk_cell BK134.out 0).trans rfl, (blk_cell BK134.out 1).trans rfl⟩ (fun hHeld => ?_)
       clear hK K
       refine norm_ (a' := ?_) ?_ ?_
       rotate_left
       ·show Act.put _ (some 2) _ = _
        simp only [Act.put, List.setIfInBounds_toArray, List.set_cons_zero, List.set_cons_succ, i64_w, i32_w]
        rfl
       exact norm_ (by simp only [putAll, Act.put, List.setIfInBounds_toArray, List.set_cons_zero, List.set_cons_succ]) (hCont (gb140) _ ⟨hHeld, (bk BK134.out), (bk BK140.out), GW140.out, GE140.out, NB134_140.out, NB140_134.out, (bl2 HB.out GE134.out GE140.out)⟩)
      ·skip
       refine box_step ?hg (N := 2) ?hd (cs := #[.int .u64 0, .int .u64 0]) (t := 24) ?hr ?_; (case hd => rfl); (case hg => rfl); (case hr => first | (go_simp; done) | (go_simp; rfl))
       intro gb140 hg w70 hbox hb
       have BK140 := Aside0.mk (hbox)
       have GW140 := Aside0.mk ((by rw [hg]; exact (below_size (bl1 HB.out GE134.out)) : w.heap.size ≤ gb140))
       have GE140 := Aside0.mk ((by rw [hg]; exact (below_size (bl1 HB.out GE134.out)) : w.heap.size ≤ gb140))
       have NB134_140 := Aside0.mk ((by rw [hg]; exact Nat.ne_of_lt (lt_ BK134.out) : gb134 ≠ gb140))
       have NB140_134 := Aside0.mk ((by rw [hg]; exact Nat.ne_of_gt (lt_ BK134.out) : gb140 ≠ gb134))
       replace BK134 := Aside0.mk (bb BK134.out hb)
       replace HB := Aside0.mk (below_step (bl1 HB.out GE134.out) hb)
       clear hb hbox hg
       refine hK.out _ _ ⟨(blk_cell BK134.out 0).trans rfl, (blk_cell BK134.out 1).trans rfl⟩ (fun hHeld => ?_)
       clear hK K
       refine norm_ (a' := ?_) ?_ ?_
       rotate_left
       ·show Act.put _ (some 2) _ = _
        simp only [Act.put, List.setIfInBounds_toArray, List.set_cons_zero, List.set_cons_succ, i64_w, i32_w]
        rfl
       refine one_ (i := 2) (N := some 8) (ba 9 71) rfl rfl (one_of HT_.out (by kernel_rfl)) (by decide) (fun K hK => ?_)
       refine goes_ Try.func13 (by kernel_rfl) rfl #[.agg #[.int .u64 t132, .int .u64 t133], .agg #[.int .u64 t135, .int .u64 t136]] (by rfl) rfl rfl am ?_
       with_reducible refine (wide_Add.calls t132 t133 t135 t136 t137 t138 t139 _ A3.out).mono ?_
       rintro e w71 ⟨rfl, hb⟩
       refine ⟨_, rfl, ?_⟩
       replace BK134 := Aside0.mk (bb BK134.out hb)
       replace BK140 := Aside0.mk (bb BK140.out hb)
       replace HB := Aside0.mk (below_step (bl2 HB.out GE134.out GE140.out) hb)
       (try clear hb)
       (try clear hb2)
       (try clear hk)
       (try clear hi)
       refine hK.out _ _ ⟨(blk_cell BK134.out 0).trans rfl, (blk_cell BK134.out 1).trans rfl⟩ (fun hHeld => ?_)
       clear hK K
       refine norm_ (a' := ?_) ?_ ?_
       rotate_left
       ·show Act.put _ (some 8) _ = _
        simp only [Act.put, List.setIfInBounds_toArray, List.set_cons_zero, List.set_cons_succ, i64_w, i32_w]
        rfl
       refine pI 3 5 (ba 9 79) HT_.out ?_
       refine pI 4 9 (ba 9 95) HT_.out ?_
       refine pI 5 10 (ba 9 127) HT_.out ?_
       exact norm_ (by simp only [putAll, Act.put, List.setIfInBounds_toArray, List.set_cons_zero, List.set_cons_succ]) (hCont (gb140) _ ⟨hHeld, (bk BK134.out), (bk BK140.out), GW140.out, GE140.out, NB134_140.out, NB140_134.out, (bl2 HB.out GE134.out GE140.out)⟩)
     ·skip
      refine box_step ?hg (N := 2) ?hd (cs := #[.int .u64 0, .int .u64 0]) (t := 24) ?hr ?_; (case hd => rfl); (case hg => rfl); (case hr => first | (go_simp; done) | (go_simp; rfl))
      intro gb140 hg w69 hbox hb
      have BK140 := Aside0.mk (hbox)
      have GW140 := Aside0.mk ((by rw [hg]; exact (below_size (bl1 HB.out GE134.out)) : w.heap.size ≤ gb140))
      have GE140 := Aside0.mk ((by rw [hg]; exact (below_size (bl1 HB.out GE134.out)) : w.heap.size ≤ gb140))
      have NB134_140 := Aside0.mk ((by rw [hg]; exact Nat.ne_of_lt (lt_ BK134.out) : gb134 ≠ gb140))
      have NB140_134 := Aside0.mk ((by rw [hg]; exact Nat.ne_of_gt (lt_ BK134.out) : gb140 ≠ gb134))
      replace BK134 := Aside0.mk (bb BK134.out hb)
      replace HB := Aside0.mk (below_step (bl1 HB.out GE134.out) hb)
      clear hb hbox hg
      refine hK.out _ _ ⟨(blk_cell BK134.out 0).trans rfl, (blk_cell BK134.out 1).trans rfl⟩ (fun hHeld => ?_)
      clear hK K
      refine norm_ (a' := ?_) ?_ ?_
      rotate_left
      ·show Act.put _ (some 2) _ = _
       simp only [Act.put, List.setIfInBounds_toArray, List.set_cons_zero, List.set_cons_succ, i64_w, i32_w]
       rfl
      refine one_ (i := 1) (N := some 7) (ba 9 67) rfl rfl (one_of HT_.out (by kernel_rfl)) (by decide) (fun K hK => ?_)
      refine goes_ Try.func14 (by kernel_rfl) rfl #[.int .u64 5] (by rfl) rfl rfl am ?_
      with_reducible refine (wide_Of.calls 5 t135 t136 _ A2.out).mono ?_
      rintro e w70 ⟨rfl, hb⟩
      refine ⟨_, rfl, ?_⟩
      replace BK134 := Aside0.mk (bb BK134.out hb)
      replace BK140 := Aside0.mk (bb BK140.out hb)
      replace HB := Aside0.mk (below_step (bl2 HB.out GE134.out GE140.out) hb)
      (try clear hb)
      (try clear hb2)
      (try clear hk)
      (try clear hi)
      refine hK.out _ _ ⟨(blk_cell BK134.out 0).trans rfl, (blk_cell BK134.out 1).trans rfl⟩ (fun hHeld => ?_)
      clear hK K
      refine norm_ (a' := ?_) ?_ ?_
      rotate_left
      ·show Act.put _ (some 7) _ = _
       simp only [Act.put, List.setIfInBounds_toArray, List.set_cons_zero, List.set_cons_succ, i64_w, i32_w]
       rfl
      refine one_ (i := 2) (N := some 8) (ba 9 71) rfl rfl (one_of HT_.out (by kernel_rfl)) (by decide) (fun K hK => ?_)
      refine goes_ Try.func13 (by kernel_rfl) rfl #[.agg #[.int .u64 t132, .int .u64 t133], .agg #[.int .u64 t135, .int .u64 t136]] (by rfl) rfl rfl am ?_
      with_reducible refine (wide_Add.calls t132 t133 t135 t136 t137 t138 t139 _ A3.out).mono ?_
      rintro e w71 ⟨rfl, hb⟩
      refine ⟨_, rfl, ?_⟩
      replace BK134 := Aside0.mk (bb BK134.out hb)
      replace BK140 := Aside0.mk (bb BK140.out hb)
      replace HB := Aside0.mk (below_step (bl2 HB.out GE134.out GE140.out) hb)
      (try clear hb)
      (try clear hb2)
      (try clear hk)
      (try clear hi)
      refine hK.out _ _ ⟨(blk_cell BK134.out 0).trans rfl, (blk_cell BK134.out 1).trans rfl⟩ (fun hHeld => ?_)
      clear hK K
      refine norm_ (a' := ?_) ?_ ?_
      rotate_left
      ·show Act.put _ (some 8) _ = _
       simp only [Act.put, List.setIfInBounds_toArray, List.set_cons_zero, List.set_cons_succ, i64_w, i32_w]
       rfl
      refine pI 3 5 (ba 9 79) HT_.out ?_
      refine pI 4 9 (ba 9 95) HT_.out ?_
      refine pI 5 10 (ba 9 127) HT_.out ?_
      exact norm_ (by simp only [putAll, Act.put, List.setIfInBounds_toArray, List.set_cons_zero, List.set_cons_succ]) (hCont (gb140) _ ⟨hHeld, (bk BK134.out), (bk BK140.out), GW140.out, GE140.out, NB134_140.out, NB140_134.out, (bl2 HB.out GE134.out GE140.out)⟩)
    rintro gb140 w72 ⟨hS_, h0_, h1_, h2_, h3_, h4_, h5_, h6_⟩
    have BK140 : Aside0 (w72.heap[gb140]? = some (.cells #[.int .u64 0, .int .u64 0] 24 (0, 0))) := ⟨h1_⟩
    have GW140 : Aside0 (w.heap.size ≤ gb140) := ⟨h2_⟩
    have GE140 : Aside0 (w.heap.size ≤ gb140) := ⟨h3_⟩
    have NB134_140 : Aside0 (gb134 ≠ gb140) := ⟨h4_⟩
    have NB140_134 : Aside0 (gb140 ≠ gb134) := ⟨h5_⟩
    replace BK134 : Aside0 (w72.heap[gb134]? = some (.cells #[.int .u64 t132, .int .u64 t133] 24 (0, 0))) := ⟨h0_⟩
    replace HB : Aside0 (Below w.heap.size w w72) := ⟨h6_⟩
    clear h0_ h1_ h2_ h3_ h4_ h5_ h6_
    have hHeld : w72.cell? ⟨gb134, 0, none⟩ = some (.int .u64 t132) ∧ w72.cell? ⟨gb134, 1, none⟩ = some (.int .u64 t133) := hS_
    refine norm_ (a' := ?_) ?_ ?_
    rotate_left
    ·simp only [putAll, Act.put, List.setIfInBounds_toArray, List.set_cons_zero, List.set_cons_succ]
     rfl
    refine one_ (i := 7) (N := none) (ba 9 255) rfl rfl (one_of HT_.out (by kernel_rfl)) (by decide) (fun K hK => ?_)
    have hs73 : w72.cell? ⟨gb140, 0, none⟩ = some (.int .u64 0) := (blk_cell BK140.out 0).trans rfl
    have hfs73 := blk_frozen BK140.out 0
    have hns73_0 := NB134_140.out
    have hms73_0 := NB140_134.out
    have hs74 : w72.cell? ⟨gb140, 1, none⟩ = some (.int .u64 0) := (blk_cell BK140.out 1).trans rfl
    have hfs74 := blk_frozen BK140.out 1
    have hns74_0 := NB134_140.out
    have hms74_0 := NB140_134.out
    refine skip_ (w1 := ?_) (by rfl) rfl ?_ ?_
    rotate_left
    ·go_simp
     rfl
    refine hK.out _ _ ⟨((cell_far (p := ⟨gb140, _, none⟩) NB134_140.out _).trans (((cell_far (p := ⟨gb140, _, none⟩) NB134_140.out _).trans (hHeld.1)))), ((cell_far (p := ⟨gb140, _, none⟩) NB134_140.out _).trans (((cell_far (p := ⟨gb140, _, none⟩) NB134_140.out _).trans (hHeld.2))))⟩ (fun hHeld => ?_)
    clear hK K
    refine pI 8 3 (ba 9 511) HT_.out ?_
    refine done_ (done_of HT_.out (by kernel_rfl)) ?_
    have hnb75 := NB134_140.out
    have hnc75 := NB140_134.out
    have hcz76_0 : w72.cell? ⟨gb134, 0, none⟩ = some (.int .u64 t132) := (blk_cell BK134.out 0).trans rfl
    have hcz76_1 : w72.cell? ⟨gb134, 1, none⟩ = some (.int .u64 t133) := (blk_cell BK134.out 1).trans rfl
    have hfz76_0 := blk_frozen BK134.out 0
    have hfz76_1 := blk_frozen BK134.out 1
    have hcz77_0 : w72.cell? ⟨gb140, 0, none⟩ = some (.int .u64 0) := (blk_cell BK140.out 0).trans rfl
    have hcz77_1 : w72.cell? ⟨gb140, 1, none⟩ = some (.int .u64 0) := (blk_cell BK140.out 1).trans rfl
    have hfz77_0 := blk_frozen BK140.out 0
    have hfz77_1 := blk_frozen BK140.out 1
    try go_wp2
    go_ret
    exact ⟨by first | rfl | (simp [errW_none, errW_some] <;> rfl) | (simp [*, errW_none, errW_some] <;> rfl), bl2 HB.out GE134.out GE140.out⟩
  ·rw [if_neg c5] at H
   have c5b0 : (t139 == 0) = false := beq_eq_false_iff_ne.mpr c5
   have c5b1 : (t139 != 0) = true := bne_iff_ne.mpr c5
   obtain rfl := Option.some.inj H
   go_enter Try.func7, Try.ntmps7
   try go_wp2_with (first | ((with_reducible refine gate_callee (f := 19) rfl ?_); refine goesL_ (some 4) rfl rfl Try.func19 (by kernel_rfl) rfl #[.int .u64 9223372036854775808, .int .u64 4] rfl am ?_; (with_reducible refine (wide_Mul.calls 9223372036854775808 4 t132 t133 _ A1.out).mono ?_); rintro e w78 ⟨rfl, hb⟩; refine ⟨_, rfl, ?_⟩; replace HB := Aside0.mk (below_step (bl0 HB.out) hb); (try clear hb); (try clear hb2); (try clear hk); (try clear hi)) | ((with_reducible refine gate_dst (N := 1) rfl ?_); refine be 1 (#[.int .u64 0, .int .u64 0]) 24 ?_; intro gb134 hg w79 hbox hb; have BK134 := Aside0.mk (hbox); have GW134 := Aside0.mk ((by rw [hg]; exact (below_size (bl0 HB.out)) : w.heap.size ≤ gb134)); have GE134 := GW134; replace HB := Aside0.mk (below_step (bl0 HB.out) hb); clear hb hbox hg; have hcz80_0 : w79.cell? ⟨gb134, 0, none⟩ = some (.int .u64 0) := (blk_cell BK134.out 0).trans rfl; have hcz80_1 : w79.cell? ⟨gb134, 1, none⟩ = some (.int .u64 0) := (blk_cell BK134.out 1).trans rfl; have hfz80_0 := blk_frozen BK134.out 0; have hfz80_1 := blk_frozen BK134.out 1))
   have n0_ : Aside0 (((w79.setCell ⟨gb134, 0, none⟩ (.int .u64 t132)).setCell ⟨gb134, 1, none⟩ (.int .u64 t133)).heap[gb134]? = some (.cells #[.int .u64 t132, .int .u64 t133] 24 (0, 0))) := ⟨by (with_reducible repeat (first | refine blk_drewN ?_ _ | refine blk_drew ?_ | refine blk_alloc ?_ _)); refine blk_put (cs := #[.int .u64 t132, .int .u64 0]) ?_ 1 _ rfl; (with_reducible repeat (first | refine blk_drewN ?_ _ | refine blk_drew ?_ | refine blk_alloc ?_ _)); refine blk_put (cs := #[.int .u64 0, .int .u64 0]) ?_ 0 _ rfl; (with_reducible repeat (first | refine blk_drewN ?_ _ | refine blk_drew ?_ | refine blk_alloc ?_ _)); exact BK134.out⟩
   have n1_ : Aside0 (Below w.heap.size w ((w79.setCell ⟨gb134, 0, none⟩ (.int .u64 t132)).setCell ⟨gb134, 1, none⟩ (.int .u64 t133))) := ⟨bl1 HB.out GE134.out⟩
   (try clear BK134)
   (try clear HB)
   generalize ((w79.setCell ⟨gb134, 0, none⟩ (.int .u64 t132)).setCell ⟨gb134, 1, none⟩ (.int .u64 t133)) = w81 at n0_ n1_ ⊢
   have BK134 := n0_
   have HB := n1_
   clear n0_ n1_
   replace BK134 := Aside0.mk (blk_drew BK134.out)
   replace HB := Aside0.mk (below_drew1 HB.out)
   refine start_ (n := 9) (S := fun w' => w'.cell? ⟨gb134, 0, none⟩ = some (.int .u64 t132) ∧ w'.cell? ⟨gb134, 1, none⟩ = some (.int .u64 t133)) (ds := []) (ba 9 0) (by kernel_rfl) rfl rfl ⟨(blk_cell BK134.out 0).trans rfl, (blk_cell BK134.out 1).trans rfl⟩ (fun hHeld => ?_); refine with_tabW pochoirlaw01_awake.tab2 pochoirlaw01_awake.bits2 (fun HT_ HW_ => ?_)
   generalize w81.drew = w82 at BK134 HB hHeld ⊢
   refine take_ (i := 0) (N := some 6) (v := ?_) (a' := ?_) (ba 9 1) rfl rfl (take_ofW HT_.out HW_.out (by kernel_rfl)) (fun _ _ _ h => h) (Or.inl ⟨by rfl, ?_⟩) hHeld ?_ ?_
   rotate_left
   ·rintro w' ⟨s0, s1⟩
    go_simp
    with_reducible rfl
   rotate_left
   ·simp only [Act.put, List.setIfInBounds_toArray, List.set_cons_zero, List.set_cons_succ, i64_w, i32_w]
    rfl
   refine join_ (σ := Nat) 2 (ba 9 127) (fun s_ => [(7, .agg #[.int .u64 t135, .int .u64 t136]), (8, .tuple #[.agg #[.int .u64 t137, .int .u64 t138], .int .i64 t139]), (2, .pointer (some ⟨s_, 0, none⟩)), (5, .tuple #[.agg #[.int .u64 t137, .int .u64 t138], .int .i64 t139]), (9, .agg #[.int .u64 t137, .int .u64 t138]), (10, .int .i64 t139)]) (fun s_ w' => (w'.cell? ⟨gb134, 0, none⟩ = some (.int .u64 t132) ∧ w'.cell? ⟨gb134, 1, none⟩ = some (.int .u64 t133)) ∧ (w'.heap[gb134]? = some (.cells #[.int .u64 t132, .int .u64 t133] 24 (0, 0))) ∧ (w'.heap[s_]? = some (.cells #[.int .u64 0, .int .u64 0] 24 (0, 0))) ∧ (w.heap.size ≤ s_) ∧ (w.heap.size ≤ s_) ∧ (gb134 ≠ s_) ∧ (s_ ≠ gb134) ∧ (Below w.heap.size w w')) ?_ ?_
   rotate_left
   ·intro hCont
    refine two_ (i := 1) (j := 6) (Ni := some 7) (Nj := some 2) (ba 9 3) (ba 9 65) rfl rfl rfl rfl (two_of HT_.out (by kernel_rfl)) (by decide) (by decide) (fun K hK => ?_) (fun K hK => ?_)
    ·skip
     refine goes_ Try.func14 (by kernel_rfl) rfl #[.int .u64 5] (by rfl) rfl rfl am ?_
     with_reducible refine (wide_Of.calls 5 t135 t136 _ A2.out).mono ?_
     rintro e w83 ⟨rfl, hb⟩
     refine ⟨_, rfl, ?_⟩
     replace BK134 := Aside0.mk (bb BK134.out hb)
     replace HB := Aside0.mk (below_step (bl1 HB.out GE134.out) hb)
     (try clear hb)
     (try clear hb2)
     (try clear hk)
     (try clear hi)
     refine hK.out _ _ ⟨(blk_cell BK134.out 0).trans rfl, (blk_cell BK134.out 1).trans rfl⟩ (fun hHeld => ?_)
     clear hK K
     refine norm_ (a' := ?_) ?_ ?_
     rotate_left
     ·show Act.put _ (some 7) _ = _
      simp only [Act.put, List.setIfInBounds_toArray, List.set_cons_zero, List.set_cons_succ, i64_w, i32_w]
      rfl
     refine two_ (i := 2) (j := 6) (Ni := some 8) (Nj := some 2) (ba 9 7) (ba 9 67) rfl rfl rfl rfl (two_of HT_.out (by kernel_rfl)) (by decide) (by decide) (fun K hK => ?_) (fun K hK => ?_)
     ·skip
      refine goes_ Try.func13 (by kernel_rfl) rfl #[.agg #[.int .u64 t132, .int .u64 t133], .agg #[.int .u64 t135, .int .u64 t136]] (by rfl) rfl rfl am ?_
      with_reducible refine (wide_Add.calls t132 t133 t135 t136 t137 t138 t139 _ A3.out).mono ?_
      rintro e w84 ⟨rfl, hb⟩
      refine ⟨_, rfl, ?_⟩
      replace BK134 := Aside0.mk (bb BK134.out hb)
      replace HB := Aside0.mk (below_step (bl1 HB.out GE134.out) hb)
      (try clear hb)
      (try clear hb2)
      (try clear hk)
      (try clear hi)
      refine hK.out _ _ ⟨(blk_cell BK134.out 0).trans rfl, (blk_cell BK134.out 1).trans rfl⟩ (fun hHeld => ?_)
      clear hK K
      refine norm_ (a' := ?_) ?_ ?_
      rotate_left
      ·show Act.put _ (some 8) _ = _
       simp only [Act.put, List.setIfInBounds_toArray, List.set_cons_zero, List.set_cons_succ, i64_w, i32_w]
       rfl
      refine pI 3 5 (ba 9 15) HT_.out ?_
      refine pI 4 9 (ba 9 31) HT_.out ?_
      refine pI 5 10 (ba 9 63) HT_.out ?_
      refine one_ (i := 6) (N := some 2) (ba 9 127) rfl rfl (one_of HT_.out (by kernel_rfl)) (by decide) (fun K hK => ?_)
      refine box_step ?hg (N := 2) ?hd (cs := #[.int .u64 0, .int .u64 0]) (t := 24) ?hr ?_; (case hd => rfl); (case hg => rfl); (case hr => first | (go_simp; done) | (go_simp; rfl))
      intro gb140 hg w85 hbox hb
      have BK140 := Aside0.mk (hbox)
      have GW140 := Aside0.mk ((by rw [hg]; exact (below_size (bl1 HB.out GE134.out)) : w.heap.size ≤ gb140))
      have GE140 := Aside0.mk ((by rw [hg]; exact (below_size (bl1 HB.out GE134.out)) : w.heap.size ≤ gb140))
      have NB134_140 := Aside0.mk ((by rw [hg]; exact Nat.ne_of_lt (lt_ BK134.out) : gb134 ≠ gb140))
      have NB140_134 := Aside0.mk ((by rw [hg]; exact Nat.ne_of_gt (lt_ BK134.out) : gb140 ≠ gb134))
      replace BK134 := Aside0.mk (bb BK134.out hb)
      replace HB := Aside0.mk (below_step (bl1 HB.out GE134.out) hb)
      clear hb hbox hg
      refine hK.out _ _ ⟨(blk_cell BK134.out 0).trans rfl, (blk_cell BK134.out 1).trans rfl⟩ (fun hHeld => ?_)
      clear hK K
      refine norm_ (a' := ?_) ?_ ?_
      rotate_left
      ·show Act.put _ (some 2) _ = _
       simp only [Act.put, List.setIfInBounds_toArray, List.set_cons_zero, List.set_cons_succ, i64_w, i32_w]
       rfl
      exact norm_ (by simp only [putAll, Act.put, List.setIfInBounds_toArray, List.set_cons_zero, List.set_cons_succ]) (hCont (gb140) _ ⟨hHeld, (bk BK134.out), (bk BK140.out), GW140.out, GE140.out, NB134_140.out, NB140_134.out, (bl2 HB.out GE134.out GE140.out)⟩)
     ·skip
      refine box_step ?hg (N := 2) ?hd (cs := #[.int .u64 0, .int .u64 0]) (t := 24) ?hr ?_; (case hd => rfl); (case hg => rfl); (case hr => first | (go_simp; done) | (go_simp; rfl))
      intro gb140 hg w84 hbox hb
      have BK140 := Aside0.mk (hbox)
      have GW140 := Aside0.mk ((by rw [hg]; exact (below_size (bl1 HB.out GE134.out)) : w.heap.size ≤ gb140))
      have GE140 := Aside0.mk ((by rw [hg]; exact (below_size (bl1 HB.out GE134.out)) : w.heap.size ≤ gb140))
      have NB134_140 := Aside0.mk ((by rw [hg]; exact Nat.ne_of_lt (lt_ BK134.out) : gb134 ≠ gb140))
      have NB140_134 := Aside0.mk ((by rw [hg]; exact Nat.ne_of_gt (lt_ BK134.out) : gb140 ≠ gb134))
      replace BK134 := Aside0.mk (bb BK134.out hb)
      replace HB := Aside0.mk (below_step (bl1 HB.out GE134.out) hb)
      clear hb hbox hg
      refine hK.out _ _ ⟨(blk_cell BK134.out 0).trans rfl, (blk_cell BK134.out 1).trans rfl⟩ (fun hHeld => ?_)
      clear hK K
      refine norm_ (a' := ?_) ?_ ?_
      rotate_left
      ·show Act.put _ (some 2) _ = _
       simp only [Act.put, List.setIfInBounds_toArray, List.set_cons_zero, List.set_cons_succ, i64_w, i32_w]
       rfl
      refine one_ (i := 2) (N := some 8) (ba 9 71) rfl rfl (one_of HT_.out (by kernel_rfl)) (by decide) (fun K hK => ?_)
      refine goes_ Try.func13 (by kernel_rfl) rfl #[.agg #[.int .u64 t132, .int .u64 t133], .agg #[.int .u64 t135, .int .u64 t136]] (by rfl) rfl rfl am ?_
      with_reducible refine (wide_Add.calls t132 t133 t135 t136 t137 t138 t139 _ A3.out).mono ?_
      rintro e w85 ⟨rfl, hb⟩
      refine ⟨_, rfl, ?_⟩
      replace BK134 := Aside0.mk (bb BK134.out hb)
      replace BK140 := Aside0.mk (bb BK140.out hb)
      replace HB := Aside0.mk (below_step (bl2 HB.out GE134.out GE140.out) hb)
      (try clear hb)
      (try clear hb2)
      (try clear hk)
      (try clear hi)
      refine hK.out _ _ ⟨(blk_cell BK134.out 0).trans rfl, (blk_cell BK134.out 1).trans rfl⟩ (fun hHeld => ?_)
      clear hK K
      refine norm_ (a' := ?_) ?_ ?_
      rotate_left
      ·show Act.put _ (some 8) _ = _
       simp only [Act.put, List.setIfInBounds_toArray, List.set_cons_zero, List.set_cons_succ, i64_w, i32_w]
       rfl
      refine pI 3 5 (ba 9 79) HT_.out ?_
      refine pI 4 9 (ba 9 95) HT_.out ?_
      refine pI 5 10 (ba 9 127) HT_.out ?_
      exact norm_ (by simp only [putAll, Act.put, List.setIfInBounds_toArray, List.set_cons_zero, List.set_cons_succ]) (hCont (gb140) _ ⟨hHeld, (bk BK134.out), (bk BK140.out), GW140.out, GE140.out, NB134_140.out, NB140_134.out, (bl2 HB.out GE134.out GE140.out)⟩)
    ·skip
     refine box_step ?hg (N := 2) ?hd (cs := #[.int .u64 0, .int .u64 0]) (t := 24) ?hr ?_; (case hd => rfl); (case hg => rfl); (case hr => first | (go_simp; done) | (go_simp; rfl))
     intro gb140 hg w83 hbox hb
     have BK140 := Aside0.mk (hbox)
     have GW140 := Aside0.mk ((by rw [hg]; exact (below_size (bl1 HB.out GE134.out)) : w.heap.size ≤ gb140))
     have GE140 := Aside0.mk ((by rw [hg]; exact (below_size (bl1 HB.out GE134.out)) : w.heap.size ≤ gb140))
     have NB134_140 := Aside0.mk ((by rw [hg]; exact Nat.ne_of_lt (lt_ BK134.out) : gb134 ≠ gb140))
     have NB140_134 := Aside0.mk ((by rw [hg]; exact Nat.ne_of_gt (lt_ BK134.out) : gb140 ≠ gb134))
     replace BK134 := Aside0.mk (bb BK134.out hb)
     replace HB := Aside0.mk (below_step (bl1 HB.out GE134.out) hb)
     clear hb hbox hg
     refine hK.out _ _ ⟨(blk_cell BK134.out 0).trans rfl, (blk_cell BK134.out 1).trans rfl⟩ (fun hHeld => ?_)
     clear hK K
     refine norm_ (a' := ?_) ?_ ?_
     rotate_left
     ·show Act.put _ (some 2) _ = _
      simp only [Act.put, List.setIfInBounds_toArray, List.set_cons_zero, List.set_cons_succ, i64_w, i32_w]
      rfl
     refine one_ (i := 1) (N := some 7) (ba 9 67) rfl rfl (one_of HT_.out (by kernel_rfl)) (by decide) (fun K hK => ?_)
     refine goes_ Try.func14 (by kernel_rfl) rfl #[.int .u64 5] (by rfl) rfl rfl am ?_
     with_reducible refine (wide_Of.calls 5 t135 t136 _ A2.out).mono ?_
     rintro e w84 ⟨rfl, hb⟩
     refine ⟨_, rfl, ?_⟩
     replace BK134 := Aside0.mk (bb BK134.out hb)
     replace BK140 := Aside0.mk (bb BK140.out hb)
     replace HB := Aside0.mk (below_step (bl2 HB.out GE134.out GE140.out) hb)
     (try clear hb)
     (try clear hb2)
     (try clear hk)
     (try clear hi)
     refine hK.out _ _ ⟨(blk_cell BK134.out 0).trans rfl, (blk_cell BK134.out 1).trans rfl⟩ (fun hHeld => ?_)
     clear hK K
     refine norm_ (a' := ?_) ?_ ?_
     rotate_left
     ·show Act.put _ (some 7) _ = _
      simp only [Act.put, List.setIfInBounds_toArray, List.set_cons_zero, List.set_cons_succ, i64_w, i32_w]
      rfl
     refine one_ (i := 2) (N := some 8) (ba 9 71) rfl rfl (one_of HT_.out (by kernel_rfl)) (by decide) (fun K hK => ?_)
     refine goes_ Try.func13 (by kernel_rfl) rfl #[.agg #[.int .u64 t132, .int .u64 t133], .agg #[.int .u64 t135, .int .u64 t136]] (by rfl) rfl rfl am ?_
     with_reducible refine (wide_Add.calls t132 t133 t135 t136 t137 t138 t139 _ A3.out).mono ?_
     rintro e w85 ⟨rfl, hb⟩
     refine ⟨_, rfl, ?_⟩
     replace BK134 := Aside0.mk (bb BK134.out hb)
     replace BK140 := Aside0.mk (bb BK140.out hb)
     replace HB := Aside0.mk (below_step (bl2 HB.out GE134.out GE140.out) hb)
     (try clear hb)
     (try clear hb2)
     (try clear hk)
     (try clear hi)
     refine hK.out _ _ ⟨(blk_cell BK134.out 0).trans rfl, (blk_cell BK134.out 1).trans rfl⟩ (fun hHeld => ?_)
     clear hK K
     refine norm_ (a' := ?_) ?_ ?_
     rotate_left
     ·show Act.put _ (some 8) _ = _
      simp only [Act.put, List.setIfInBounds_toArray, List.set_cons_zero, List.set_cons_succ, i64_w, i32_w]
      rfl
     refine pI 3 5 (ba 9 79) HT_.out ?_
     refine pI 4 9 (ba 9 95) HT_.out ?_
     refine pI 5 10 (ba 9 127) HT_.out ?_
     exact norm_ (by simp only [putAll, Act.put, List.setIfInBounds_toArray, List.set_cons_zero, List.set_cons_succ]) (hCont (gb140) _ ⟨hHeld, (bk BK134.out), (bk BK140.out), GW140.out, GE140.out, NB134_140.out, NB140_134.out, (bl2 HB.out GE134.out GE140.out)⟩)
   rintro gb140 w86 ⟨hS_, h0_, h1_, h2_, h3_, h4_, h5_, h6_⟩
   have BK140 : Aside0 (w86.heap[gb140]? = some (.cells #[.int .u64 0, .int .u64 0] 24 (0, 0))) := ⟨h1_⟩
   have GW140 : Aside0 (w.heap.size ≤ gb140) := ⟨h2_⟩
   have GE140 : Aside0 (w.heap.size ≤ gb140) := ⟨h3_⟩
   have NB134_140 : Aside0 (gb134 ≠ gb140) := ⟨h4_⟩
   have NB140_134 : Aside0 (gb140 ≠ gb134) := ⟨h5_⟩
   replace BK134 : Aside0 (w86.heap[gb134]? = some (.cells #[.int .u64 t132, .int .u64 t133] 24 (0, 0))) := ⟨h0_⟩
   replace HB : Aside0 (Below w.heap.size w w86) := ⟨h6_⟩
   clear h0_ h1_ h2_ h3_ h4_ h5_ h6_
   have hHeld : w86.cell? ⟨gb134, 0, none⟩ = some (.int .u64 t132) ∧ w86.cell? ⟨gb134, 1, none⟩ = some (.int .u64 t133) := hS_
   refine norm_ (a' := ?_) ?_ ?_
   rotate_left
   ·simp only [putAll, Act.put, List.setIfInBounds_toArray, List.set_cons_zero, List.set_cons_succ]
    rfl
   refine one_ (i := 7) (N := none) (ba 9 255) rfl rfl (one_of HT_.out (by kernel_rfl)) (by decide) (fun K hK => ?_)
   have hs87 : w86.cell? ⟨gb140, 0, none⟩ = some (.int .u64 0) := (blk_cell BK140.out 0).trans rfl
   have hfs87 := blk_frozen BK140.out 0
   have hns87_0 := NB134_140.out
   have hms87_0 := NB140_134.out
   have hs88 : w86.cell? ⟨gb140, 1, none⟩ = some (.int .u64 0) := (blk_cell BK140.out 1).trans rfl
   have hfs88 := blk_frozen BK140.out 1
   have hns88_0 := NB134_140.out
   have hms88_0 := NB140_134.out
   refine skip_ (w1 := ?_) (by rfl) rfl ?_ ?_
   rotate_left
   ·go_simp
    rfl
   refine hK.out _ _ ⟨((cell_far (p := ⟨gb140, _, none⟩) NB134_140.out _).trans (((cell_far (p := ⟨gb140, _, none⟩) NB134_140.out _).trans (hHeld.1)))), ((cell_far (p := ⟨gb140, _, none⟩) NB134_140.out _).trans (((cell_far (p := ⟨gb140, _, none⟩) NB134_140.out _).trans (hHeld.2))))⟩ (fun hHeld => ?_)
   clear hK K
   refine pI 8 3 (ba 9 511) HT_.out ?_
   refine done_ (done_of HT_.out (by kernel_rfl)) ?_
   have hnb89 := NB134_140.out
   have hnc89 := NB140_134.out
   have hcz90_0 : w86.cell? ⟨gb134, 0, none⟩ = some (.int .u64 t132) := (blk_cell BK134.out 0).trans rfl
   have hcz90_1 : w86.cell? ⟨gb134, 1, none⟩ = some (.int .u64 t133) := (blk_cell BK134.out 1).trans rfl
   have hfz90_0 := blk_frozen BK134.out 0
   have hfz90_1 := blk_frozen BK134.out 1
   try go_wp2
   go_ret
   exact ⟨by first | rfl | (simp [errW_none, errW_some] <;> rfl) | (simp [*, errW_none, errW_some] <;> rfl), bl2 HB.out GE134.out GE140.out⟩
 ·rw [if_neg c4] at H
  have c4b0 : (t132 == 2 && (t133 == 0)) = false := by simpa using c4
  (try (have c4b1 : decide (t132 = 2 && (t133 == 0)) = false := by simpa using c4))
  (try (have c4b2 : (t132 == 2 && (t133 == 0)) = false := by simpa using c4))
  (try (have c4b3 : ¬ (t132 = 2 && (t133 == 0)) := by simpa using c4))
  clear c4
  obtain rfl := Option.some.inj H
  go_enter Try.func7, Try.ntmps7
  try go_wp2_with (first | ((with_reducible refine gate_callee (f := 19) rfl ?_); refine goesL_ (some 4) rfl rfl Try.func19 (by kernel_rfl) rfl #[.int .u64 9223372036854775808, .int .u64 4] rfl am ?_; (with_reducible refine (wide_Mul.calls 9223372036854775808 4 t132 t133 _ A1.out).mono ?_); rintro e w91 ⟨rfl, hb⟩; refine ⟨_, rfl, ?_⟩; replace HB := Aside0.mk (below_step (bl0 HB.out) hb); (try clear hb); (try clear hb2); (try clear hk); (try clear hi)) | ((with_reducible refine gate_dst (N := 1) rfl ?_); refine be 1 (#[.int .u64 0, .int .u64 0]) 24 ?_; intro gb134 hg w92 hbox hb; have BK134 := Aside0.mk (hbox); have GW134 := Aside0.mk ((by rw [hg]; exact (below_size (bl0 HB.out)) : w.heap.size ≤ gb134)); have GE134 := GW134; replace HB := Aside0.mk (below_step (bl0 HB.out) hb); clear hb hbox hg; have hcz93_0 : w92.cell? ⟨gb134, 0, none⟩ = some (.int .u64 0) := (blk_cell BK134.out 0).trans rfl; have hcz93_1 : w92.cell? ⟨gb134, 1, none⟩ = some (.int .u64 0) := (blk_cell BK134.out 1).trans rfl; have hfz93_0 := blk_frozen BK134.out 0; have hfz93_1 := blk_frozen BK134.out 1))
  have n0_ : Aside0 (((w92.setCell ⟨gb134, 0, none⟩ (.int .u64 t132)).setCell ⟨gb134, 1, none⟩ (.int .u64 t133)).heap[gb134]? = some (.cells #[.int .u64 t132, .int .u64 t133] 24 (0, 0))) := ⟨by (with_reducible repeat (first | refine blk_drewN ?_ _ | refine blk_drew ?_ | refine blk_alloc ?_ _)); refine blk_put (cs := #[.int .u64 t132, .int .u64 0]) ?_ 1 _ rfl; (with_reducible repeat (first | refine blk_drewN ?_ _ | refine blk_drew ?_ | refine blk_alloc ?_ _)); refine blk_put (cs := #[.int .u64 0, .int .u64 0]) ?_ 0 _ rfl; (with_reducible repeat (first | refine blk_drewN ?_ _ | refine blk_drew ?_ | refine blk_alloc ?_ _)); exact BK134.out⟩
  have n1_ : Aside0 (Below w.heap.size w ((w92.setCell ⟨gb134, 0, none⟩ (.int .u64 t132)).setCell ⟨gb134, 1, none⟩ (.int .u64 t133))) := ⟨bl1 HB.out GE134.out⟩
  (try clear BK134)
  (try clear HB)
  generalize ((w92.setCell ⟨gb134, 0, none⟩ (.int .u64 t132)).setCell ⟨gb134, 1, none⟩ (.int .u64 t133)) = w94 at n0_ n1_ ⊢
  have BK134 := n0_
  have HB := n1_
  clear n0_ n1_
  replace BK134 := Aside0.mk (blk_drew BK134.out)
  replace HB := Aside0.mk (below_drew1 HB.out)
  refine start_ (n := 9) (S := fun w' => w'.cell? ⟨gb134, 0, none⟩ = some (.int .u64 t132) ∧ w'.cell? ⟨gb134, 1, none⟩ = some (.int .u64 t133)) (ds := []) (ba 9 0) (by kernel_rfl) rfl rfl ⟨(blk_cell BK134.out 0).trans rfl, (blk_cell BK134.out 1).trans rfl⟩ (fun hHeld => ?_); refine with_tabW pochoirlaw01_awake.tab2 pochoirlaw01_awake.bits2 (fun HT_ HW_ => ?_)
  generalize w94.drew = w95 at BK134 HB hHeld ⊢
  refine take_ (i := 0) (N := some 6) (v := ?_) (a' := ?_) (ba 9 1) rfl rfl (take_ofW HT_.out HW_.out (by kernel_rfl)) (fun _ _ _ h => h) (Or.inl ⟨by rfl, ?_⟩) hHeld ?_ ?_
  rotate_left
  ·rintro w' ⟨s0, s1⟩
   go_simp
   with_reducible rfl
  rotate_left
  ·simp only [Act.put, List.setIfInBounds_toArray, List.set_cons_zero, List.set_cons_succ, i64_w, i32_w]
   rfl
  refine join_ (σ := Nat) 2 (ba 9 127) (fun s_ => [(7, .agg #[.int .u64 t135, .int .u64 t136]), (8, .tuple #[.agg #[.int .u64 t137, .int .u64 t138], .int .i64 t139]), (2, .pointer (some ⟨s_, 0, none⟩)), (5, .tuple #[.agg #[.int .u64 t137, .int .u64 t138], .int .i64 t139]), (9, .agg #[.int .u64 t137, .int .u64 t138]), (10, .int .i64 t139)]) (fun s_ w' => (w'.cell? ⟨gb134, 0, none⟩ = some (.int .u64 t132) ∧ w'.cell? ⟨gb134, 1, none⟩ = some (.int .u64 t133)) ∧ (w'.heap[gb134]? = some (.cells #[.int .u64 t132, .int .u64 t133] 24 (0, 0))) ∧ (w'.heap[s_]? = some (.cells #[.int .u64 0, .int .u64 0] 24 (0, 0))) ∧ (w.heap.size ≤ s_) ∧ (w.heap.size ≤ s_) ∧ (gb134 ≠ s_) ∧ (s_ ≠ gb134) ∧ (Below w.heap.size w w')) ?_ ?_
  rotate_left
  ·intro hCont
   refine two_ (i := 1) (j := 6) (Ni := some 7) (Nj := some 2) (ba 9 3) (ba 9 65) rfl rfl rfl rfl (two_of HT_.out (by kernel_rfl)) (by decide) (by decide) (fun K hK => ?_) (fun K hK => ?_)
   ·skip
    refine goes_ Try.func14 (by kernel_rfl) rfl #[.int .u64 5] (by rfl) rfl rfl am ?_
    with_reducible refine (wide_Of.calls 5 t135 t136 _ A2.out).mono ?_
    rintro e w96 ⟨rfl, hb⟩
    refine ⟨_, rfl, ?_⟩
    replace BK134 := Aside0.mk (bb BK134.out hb)
    replace HB := Aside0.mk (below_step (bl1 HB.out GE134.out) hb)
    (try clear hb)
    (try clear hb2)
    (try clear hk)
    (try clear hi)
    refine hK.out _ _ ⟨(blk_cell BK134.out 0).trans rfl, (blk_cell BK134.out 1).trans rfl⟩ (fun hHeld => ?_)
    clear hK K
    refine norm_ (a' := ?_) ?_ ?_
    rotate_left
    ·show Act.put _ (some 7) _ = _
     simp only [Act.put, List.setIfInBounds_toArray, List.set_cons_zero, List.set_cons_succ, i64_w, i32_w]
     rfl
    refine two_ (i := 2) (j := 6) (Ni := some 8) (Nj := some 2) (ba 9 7) (ba 9 67) rfl rfl rfl rfl (two_of HT_.out (by kernel_rfl)) (by decide) (by decide) (fun K hK => ?_) (fun K hK => ?_)
    ·skip
     refine goes_ Try.func13 (by kernel_rfl) rfl #[.agg #[.int .u64 t132, .int .u64 t133], .agg #[.int .u64 t135, .int .u64 t136]] (by rfl) rfl rfl am ?_
     with_reducible refine (wide_Add.calls t132 t133 t135 t136 t137 t138 t139 _ A3.out).mono ?_
     rintro e w97 ⟨rfl, hb⟩
     refine ⟨_, rfl, ?_⟩
     replace BK134 := Aside0.mk (bb BK134.out hb)
     replace HB := Aside0.mk (below_step (bl1 HB.out GE134.out) hb)
     (try clear hb)
     (try clear hb2)
     (try clear hk)
     (try clear hi)
     refine hK.out _ _ ⟨(blk_cell BK134.out 0).trans rfl, (blk_cell BK134.out 1).trans rfl⟩ (fun hHeld => ?_)
     clear hK K
     refine norm_ (a' := ?_) ?_ ?_
     rotate_left
     ·show Act.put _ (some 8) _ = _
      simp only [Act.put, List.setIfInBounds_toArray, List.set_cons_zero, List.set_cons_succ, i64_w, i32_w]
      rfl
     refine pI 3 5 (ba 9 15) HT_.out ?_
     refine pI 4 9 (ba 9 31) HT_.out ?_
     refine pI 5 10 (ba 9 63) HT_.out ?_
     refine one_ (i := 6) (N := some 2) (ba 9 127) rfl rfl (one_of HT_.out (by kernel_rfl)) (by decide) (fun K hK => ?_)
     refine box_step ?hg (N := 2) ?hd (cs := #[.int .u64 0, .int .u64 0]) (t := 24) ?hr ?_; (case hd => rfl); (case hg => rfl); (case hr => first | (go_simp; done) | (go_simp; rfl))
     intro gb140 hg w98 hbox hb
     have BK140 := Aside0.mk (hbox)
     have GW140 := Aside0.mk ((by rw [hg]; exact (below_size (bl1 HB.out GE134.out)) : w.heap.size ≤ gb140))
     have GE140 := Aside0.mk ((by rw [hg]; exact (below_size (bl1 HB.out GE134.out)) : w.heap.size ≤ gb140))
     have NB134_140 := Aside0.mk ((by rw [hg]; exact Nat.ne_of_lt (lt_ BK134.out) : gb134 ≠ gb140))
     have NB140_134 := Aside0.mk ((by rw [hg]; exact Nat.ne_of_gt (lt_ BK134.out) : gb140 ≠ gb134))
     replace BK134 := Aside0.mk (bb BK134.out hb)
     replace HB := Aside0.mk (below_step (bl1 HB.out GE134.out) hb)
     clear hb hbox hg
     refine hK.out _ _ ⟨(blk_cell BK134.out 0).trans rfl, (blk_cell BK134.out 1).trans rfl⟩ (fun hHeld => ?_)
     clear hK K
     refine norm_ (a' := ?_) ?_ ?_
     rotate_left
     ·show Act.put _ (some 2) _ = _
      simp only [Act.put, List.setIfInBounds_toArray, List.set_cons_zero, List.set_cons_succ, i64_w, i32_w]
      rfl
     exact norm_ (by simp only [putAll, Act.put, List.setIfInBounds_toArray, List.set_cons_zero, List.set_cons_succ]) (hCont (gb140) _ ⟨hHeld, (bk BK134.out), (bk BK140.out), GW140.out, GE140.out, NB134_140.out, NB140_134.out, (bl2 HB.out GE134.out GE140.out)⟩)
    ·skip
     refine box_step ?hg (N := 2) ?hd (cs := #[.int .u64 0, .int .u64 0]) (t := 24) ?hr ?_; (case hd => rfl); (case hg => rfl); (case hr => first | (go_simp; done) | (go_simp; rfl))
     intro gb140 hg w97 hbox hb
     have BK140 := Aside0.mk (hbox)
     have GW140 := Aside0.mk ((by rw [hg]; exact (below_size (bl1 HB.out GE134.out)) : w.heap.size ≤ gb140))
     have GE140 := Aside0.mk ((by rw [hg]; exact (below_size (bl1 HB.out GE134.out)) : w.heap.size ≤ gb140))
     have NB134_140 := Aside0.mk ((by rw [hg]; exact Nat.ne_of_lt (lt_ BK134.out) : gb134 ≠ gb140))
     have NB140_134 := Aside0.mk ((by rw [hg]; exact Nat.ne_of_gt (lt_ BK134.out) : gb140 ≠ gb134))
     replace BK134 := Aside0.mk (bb BK134.out hb)
     replace HB := Aside0.mk (below_step (bl1 HB.out GE134.out) hb)
     clear hb hbox hg
     refine hK.out _ _ ⟨(blk_cell BK134.out 0).trans rfl, (blk_cell BK134.out 1).trans rfl⟩ (fun hHeld => ?_)
     clear hK K
     refine norm_ (a' := ?_) ?_ ?_
     rotate_left
     ·show Act.put _ (some 2) _ = _
      simp only [Act.put, List.setIfInBounds_toArray, List.set_cons_zero, List.set_cons_succ, i64_w, i32_w]
      rfl
     refine one_ (i := 2) (N := some 8) (ba 9 71) rfl rfl (one_of HT_.out (by kernel_rfl)) (by decide) (fun K hK => ?_)
     refine goes_ Try.func13 (by kernel_rfl) rfl #[.agg #[.int .u64 t132, .int .u64 t133], .agg #[.int .u64 t135, .int .u64 t136]] (by rfl) rfl rfl am ?_
     with_reducible refine (wide_Add.calls t132 t133 t135 t136 t137 t138 t139 _ A3.out).mono ?_
     rintro e w98 ⟨rfl, hb⟩
     refine ⟨_, rfl, ?_⟩
     replace BK134 := Aside0.mk (bb BK134.out hb)
     replace BK140 := Aside0.mk (bb BK140.out hb)
     replace HB := Aside0.mk (below_step (bl2 HB.out GE134.out GE140.out) hb)
     (try clear hb)
     (try clear hb2)
     (try clear hk)
     (try clear hi)
     refine hK.out _ _ ⟨(blk_cell BK134.out 0).trans rfl, (blk_cell BK134.out 1).trans rfl⟩ (fun hHeld => ?_)
     clear hK K
     refine norm_ (a' := ?_) ?_ ?_
     rotate_left
     ·show Act.put _ (some 8) _ = _
      simp only [Act.put, List.setIfInBounds_toArray, List.set_cons_zero, List.set_cons_succ, i64_w, i32_w]
      rfl
     refine pI 3 5 (ba 9 79) HT_.out ?_
     refine pI 4 9 (ba 9 95) HT_.out ?_
     refine pI 5 10 (ba 9 127) HT_.out ?_
     exact norm_ (by simp only [putAll, Act.put, List.setIfInBounds_toArray, List.set_cons_zero, List.set_cons_succ]) (hCont (gb140) _ ⟨hHeld, (bk BK134.out), (bk BK140.out), GW140.out, GE140.out, NB134_140.out, NB140_134.out, (bl2 HB.out GE134.out GE140.out)⟩)
   ·skip
    refine box_step ?hg (N := 2) ?hd (cs := #[.int .u64 0, .int .u64 0]) (t := 24) ?hr ?_; (case hd => rfl); (case hg => rfl); (case hr => first | (go_simp; done) | (go_simp; rfl))
    intro gb140 hg w96 hbox hb
    have BK140 := Aside0.mk (hbox)
    have GW140 := Aside0.mk ((by rw [hg]; exact (below_size (bl1 HB.out GE134.out)) : w.heap.size ≤ gb140))
    have GE140 := Aside0.mk ((by rw [hg]; exact (below_size (bl1 HB.out GE134.out)) : w.heap.size ≤ gb140))
    have NB134_140 := Aside0.mk ((by rw [hg]; exact Nat.ne_of_lt (lt_ BK134.out) : gb134 ≠ gb140))
    have NB140_134 := Aside0.mk ((by rw [hg]; exact Nat.ne_of_gt (lt_ BK134.out) : gb140 ≠ gb134))
    replace BK134 := Aside0.mk (bb BK134.out hb)
    replace HB := Aside0.mk (below_step (bl1 HB.out GE134.out) hb)
    clear hb hbox hg
    refine hK.out _ _ ⟨(blk_cell BK134.out 0).trans rfl, (blk_cell BK134.out 1).trans rfl⟩ (fun hHeld => ?_)
    clear hK K
    refine norm_ (a' := ?_) ?_ ?_
    rotate_left
    ·show Act.put _ (some 2) _ = _
     simp only [Act.put, List.setIfInBounds_toArray, List.set_cons_zero, List.set_cons_succ, i64_w, i32_w]
     rfl
    refine one_ (i := 1) (N := some 7) (ba 9 67) rfl rfl (one_of HT_.out (by kernel_rfl)) (by decide) (fun K hK => ?_)
    refine goes_ Try.func14 (by kernel_rfl) rfl #[.int .u64 5] (by rfl) rfl rfl am ?_
    with_reducible refine (wide_Of.calls 5 t135 t136 _ A2.out).mono ?_
    rintro e w97 ⟨rfl, hb⟩
    refine ⟨_, rfl, ?_⟩
    replace BK134 := Aside0.mk (bb BK134.out hb)
    replace BK140 := Aside0.mk (bb BK140.out hb)
    replace HB := Aside0.mk (below_step (bl2 HB.out GE134.out GE140.out) hb)
    (try clear hb)
    (try clear hb2)
    (try clear hk)
    (try clear hi)
    refine hK.out _ _ ⟨(blk_cell BK134.out 0).trans rfl, (blk_cell BK134.out 1).trans rfl⟩ (fun hHeld => ?_)
    clear hK K
    refine norm_ (a' := ?_) ?_ ?_
    rotate_left
    ·show Act.put _ (some 7) _ = _
     simp only [Act.put, List.setIfInBounds_toArray, List.set_cons_zero, List.set_cons_succ, i64_w, i32_w]
     rfl
    refine one_ (i := 2) (N := some 8) (ba 9 71) rfl rfl (one_of HT_.out (by kernel_rfl)) (by decide) (fun K hK => ?_)
    refine goes_ Try.func13 (by kernel_rfl) rfl #[.agg #[.int .u64 t132, .int .u64 t133], .agg #[.int .u64 t135, .int .u64 t136]] (by rfl) rfl rfl am ?_
    with_reducible refine (wide_Add.calls t132 t133 t135 t136 t137 t138 t139 _ A3.out).mono ?_
    rintro e w98 ⟨rfl, hb⟩
    refine ⟨_, rfl, ?_⟩
    replace BK134 := Aside0.mk (bb BK134.out hb)
    replace BK140 := Aside0.mk (bb BK140.out hb)
    replace HB := Aside0.mk (below_step (bl2 HB.out GE134.out GE140.out) hb)
    (try clear hb)
    (try clear hb2)
    (try clear hk)
    (try clear hi)
    refine hK.out _ _ ⟨(blk_cell BK134.out 0).trans rfl, (blk_cell BK134.out 1).trans rfl⟩ (fun hHeld => ?_)
    clear hK K
    refine norm_ (a' := ?_) ?_ ?_
    rotate_left
    ·show Act.put _ (some 8) _ = _
     simp only [Act.put, List.setIfInBounds_toArray, List.set_cons_zero, List.set_cons_succ, i64_w, i32_w]
     rfl
    refine pI 3 5 (ba 9 79) HT_.out ?_
    refine pI 4 9 (ba 9 95) HT_.out ?_
    refine pI 5 10 (ba 9 127) HT_.out ?_
    exact norm_ (by simp only [putAll, Act.put, List.setIfInBounds_toArray, List.set_cons_zero, List.set_cons_succ]) (hCont (gb140) _ ⟨hHeld, (bk BK134.out), (bk BK140.out), GW140.out, GE140.out, NB134_140.out, NB140_134.out, (bl2 HB.out GE134.out GE140.out)⟩)
  rintro gb140 w99 ⟨hS_, h0_, h1_, h2_, h3_, h4_, h5_, h6_⟩
  have BK140 : Aside0 (w99.heap[gb140]? = some (.cells #[.int .u64 0, .int .u64 0] 24 (0, 0))) := ⟨h1_⟩
  have GW140 : Aside0 (w.heap.size ≤ gb140) := ⟨h2_⟩
  have GE140 : Aside0 (w.heap.size ≤ gb140) := ⟨h3_⟩
  have NB134_140 : Aside0 (gb134 ≠ gb140) := ⟨h4_⟩
  have NB140_134 : Aside0 (gb140 ≠ gb134) := ⟨h5_⟩
  replace BK134 : Aside0 (w99.heap[gb134]? = some (.cells #[.int .u64 t132, .int .u64 t133] 24 (0, 0))) := ⟨h0_⟩
  replace HB : Aside0 (Below w.heap.size w w99) := ⟨h6_⟩
  clear h0_ h1_ h2_ h3_ h4_ h5_ h6_
  have hHeld : w99.cell? ⟨gb134, 0, none⟩ = some (.int .u64 t132) ∧ w99.cell? ⟨gb134, 1, none⟩ = some (.int .u64 t133) := hS_
  refine norm_ (a' := ?_) ?_ ?_
  rotate_left
  ·simp only [putAll, Act.put, List.setIfInBounds_toArray, List.set_cons_zero, List.set_cons_succ]
   rfl
  refine one_ (i := 7) (N := none) (ba 9 255) rfl rfl (one_of HT_.out (by kernel_rfl)) (by decide) (fun K hK => ?_)
  have hs100 : w99.cell? ⟨gb140, 0, none⟩ = some (.int .u64 0) := (blk_cell BK140.out 0).trans rfl
  have hfs100 := blk_frozen BK140.out 0
  have hns100_0 := NB134_140.out
  have hms100_0 := NB140_134.out
  have hs101 : w99.cell? ⟨gb140, 1, none⟩ = some (.int .u64 0) := (blk_cell BK140.out 1).trans rfl
  have hfs101 := blk_frozen BK140.out 1
  have hns101_0 := NB134_140.out
  have hms101_0 := NB140_134.out
  refine skip_ (w1 := ?_) (by rfl) rfl ?_ ?_
  rotate_left
  ·go_simp
   rfl
  refine hK.out _ _ ⟨((cell_far (p := ⟨gb140, _, none⟩) NB134_140.out _).trans (((cell_far (p := ⟨gb140, _, none⟩) NB134_140.out _).trans (hHeld.1)))), ((cell_far (p := ⟨gb140, _, none⟩) NB134_140.out _).trans (((cell_far (p := ⟨gb140, _, none⟩) NB134_140.out _).trans (hHeld.2))))⟩ (fun hHeld => ?_)
  clear hK K
  refine pI 8 3 (ba 9 511) HT_.out ?_
  refine done_ (done_of HT_.out (by kernel_rfl)) ?_
  have hnb102 := NB134_140.out
  have hnc102 := NB140_134.out
  have hcz103_0 : w99.cell? ⟨gb134, 0, none⟩ = some (.int .u64 t132) := (blk_cell BK134.out 0).trans rfl
  have hcz103_1 : w99.cell? ⟨gb134, 1, none⟩ = some (.int .u64 t133) := (blk_cell BK134.out 1).trans rfl
  have hfz103_0 := blk_frozen BK134.out 0
  have hfz103_1 := blk_frozen BK134.out 1
  try go_wp2
  go_ret
  exact ⟨by first | rfl | (simp [errW_none, errW_some] <;> rfl) | (simp [*, errW_none, errW_some] <;> rfl), bl2 HB.out GE134.out GE140.out⟩

end Go.Proofs.Ytjjnkadfoepflaa.XWide
