-- Printed by a program of this claim. Not trusted: Lean checks it.
import Derived.Test.YtjjnkadfoepflaaXWidex0
import Derived.Test.YtjjnkadfoepflaaXWidex1
import Derived.Test.YtjjnkadfoepflaaXWidex3
import Derived.Test.YtjjnkadfoepflaaXWidex4
import Derived.Test.YtjjnkadfoepflaaXWidex5
import Derived.Test.YtjjnkadfoepflaaXWidex6
namespace Go.Proofs.Ytjjnkadfoepflaa.XWide
open Go.RowKit Go.Proofs.YtjjnkadfoepflaaW.PrintWords Go.Proofs.YtjjnkadfoepflaaW.PrintLast Go.Proofs.YtjjnkadfoepflaaW.PrintMore
attribute [local go_sem] max2_int min2_int max_two min_two max_three min_three max_four min_four   -- for this text's walks alone
set_option linter.unusedVariables false
set_option linter.unusedSimpArgs false
open XOpen

attribute [local go_sem high] eqA24
/-! ### pochoirref01_Div: function 11 -/
def pochoirref01_Div.f (k : Nat) (a0_0 : Int) (a0_1 : Int) (a1 : Int) : Option (Int × Int × Int × Int) := if a1 = 0 then (some (0, 0, 0, 13)) else ((pochoirref01_Digits.f k a0_0 a0_1).bind fun t193 => ((pochoirref01_Digits.f k 0 a1).bind fun t196 => ((pochoirref01_Divide.f k t193 t196).bind fun bt199 => ((pochoirref01_Value.f k bt199.1).bind fun bt205 => ((pochoirref01_Value.f k bt199.2).bind fun bt209 => (some (bt205.1, bt205.2.1, bt209.2.1, 0)))))))
theorem pochoirref01_Div.mono : ∀ a0 a1 a2 k, LeO (pochoirref01_Div.f k a0 a1 a2) (pochoirref01_Div.f (k + 1) a0 a1 a2) := by
 intro a0 a1 a2 k
 unfold pochoirref01_Div.f
 repeat' first
   | (with_reducible exact pochoirref01_Digits.mono _ _ _)
   | (with_reducible exact pochoirref01_Divide.mono _ _ _)
   | (with_reducible exact pochoirref01_Value.mono _ _)
   | (with_reducible exact LeO.refl _)
   | (with_reducible exact LeO.none _)
   | (with_reducible refine LeO.ite ?_ ?_)
   | (with_reducible refine LeO.bind ?_ (fun _ => ?_))
   | exact pochoirref01_Digits.mono _ _ _
   | exact pochoirref01_Divide.mono _ _ _
   | exact pochoirref01_Value.mono _ _
   | exact LeO.none _
   | refine LeO.ite ?_ ?_
   | refine LeO.bind ?_ (fun _ => ?_)
set_option maxHeartbeats 8000000 in
set_option maxRecDepth 100000 in
theorem pochoirref01_Div.calls (k : Nat) (a0_0 : Int) (a0_1 : Int) (a1 : Int) (r1 : Int) (r2 : Int) (r3 : Int) (r4 : Int) (w : World) (h : pochoirref01_Div.f k a0_0 a0_1 a1 = some (r1, r2, r3, r4)) :
  Calls Try.prog 11 #[.agg #[.int .u64 a0_0, .int .u64 a0_1], .int .u64 a1] w fun e w' => e = .returned (.tuple #[.agg #[.int .u64 r1, .int .u64 r2], .int .u64 r3, .int .i64 r4]) ∧ Below w.heap.size w w' := by
 have hu24 := Try.underlying24
 have HB := Aside0.mk (Below.refl w.heap.size w)
 have H : (if a1 = 0 then (some (0, 0, 0, 13)) else ((pochoirref01_Digits.f k a0_0 a0_1).bind fun t193 => ((pochoirref01_Digits.f k 0 a1).bind fun t196 => ((pochoirref01_Divide.f k t193 t196).bind fun bt199 => ((pochoirref01_Value.f k bt199.1).bind fun bt205 => ((pochoirref01_Value.f k bt199.2).bind fun bt209 => (some (bt205.1, bt205.2.1, bt209.2.1, 0)))))))) = some (r1, r2, r3, r4) := h
 clear h
 by_cases c3 : a1 = 0
 ·rw [if_pos c3] at H
  have c3b0 : (a1 == 0) = true := beq_iff_eq.mpr c3
  have c3b1 : (a1 != 0) = false := bne_eq_false_iff_eq.mpr c3
  clear c3
  simp only [Option.some.injEq, Prod.mk.injEq] at H
  obtain ⟨rfl, rfl, rfl, rfl⟩ := H
  go_enter Try.func11, Try.ntmps11
  go_wp2_with (first | ((with_reducible refine gate_dst (N := 2) rfl ?_); refine be 2 (#[.int .u64 a0_0, .int .u64 a0_1]) 24 ?_; intro gb191 hg w4 hbox hb; have BK191 := Aside0.mk (hbox); have GW191 := Aside0.mk ((by rw [hg]; exact (below_size (bl0 HB.out)) : w.heap.size ≤ gb191)); have GE191 := GW191; replace HB := Aside0.mk (below_step (bl0 HB.out) hb); clear hb hbox hg) | ((with_reducible refine gate_dst (N := 4) rfl ?_); refine be 4 (#[.int .u64 0, .int .u64 0]) 24 ?_; intro gb192 hg w5 hbox hb; have BK192 := Aside0.mk (hbox); have GW192 := Aside0.mk ((by rw [hg]; exact (below_size (bl1 HB.out GE191.out)) : w.heap.size ≤ gb192)); have GE192 := GW192; have NB191_192 := Aside0.mk ((by rw [hg]; exact Nat.ne_of_lt (lt_ BK191.out) : gb191 ≠ gb192)); have NB192_191 := Aside0.mk ((by rw [hg]; exact Nat.ne_of_gt (lt_ BK191.out) : gb192 ≠ gb191)); replace BK191 := Aside0.mk (bb BK191.out hb); replace HB := Aside0.mk (below_step (bl1 HB.out GE191.out) hb); clear hb hbox hg; have hnb6 := NB192_191.out; have hnc6 := NB191_192.out; have hcz7_0 : w5.cell? ⟨gb192, 0, none⟩ = some (.int .u64 0) := (blk_cell BK192.out 0).trans rfl; have hcz7_1 : w5.cell? ⟨gb192, 1, none⟩ = some (.int .u64 0) := (blk_cell BK192.out 1).trans rfl; have hfz7_0 := blk_frozen BK192.out 0; have hfz7_1 := blk_frozen BK192.out 1))
  refine bodyPost_ret (results_ctt rfl _ _ gb192 24 #[.int .u64 0, .int .u64 0] (0, 0) _ rfl (bk (blk_put (cs := #[.int .u64 0, .int .u64 0]) (bk (blk_put (cs := #[.int .u64 0, .int .u64 0]) (bk BK192.out) 0 _ rfl)) 1 _ rfl)) Try.underlying24 rfl (by kernel_rfl)) rfl ?_
  exact ⟨by first | rfl | (simp [errW_none, errW_some] <;> rfl) | (simp [*, errW_none, errW_some] <;> rfl), bl2 HB.out GE191.out GE192.out⟩
 ·rw [if_neg c3] at H
  have c3b0 : (a1 == 0) = false := beq_eq_false_iff_ne.mpr c3
  have c3b1 : (a1 != 0) = true := bne_iff_ne.mpr c3
  replace H := Option.bind_eq_some_iff.mp H
  obtain ⟨t193, A80, H⟩ := H
  replace H : ((pochoirref01_Digits.f k 0 a1).bind fun t196 => ((pochoirref01_Divide.f k t193 t196).bind fun bt199 => ((pochoirref01_Value.f k bt199.1).bind fun bt205 => ((pochoirref01_Value.f k bt199.2).bind fun bt209 => (some (bt205.1, bt205.2.1, bt209.2.1, 0)))))) = some (r1, r2, r3, r4) := H
  have A8 := Aside0.mk A80
  clear A80
  replace H := Option.bind_eq_some_iff.mp H
  obtain ⟨t196, A90, H⟩ := H
  replace H : ((pochoirref01_Divide.f k t193 t196).bind fun bt199 => ((pochoirref01_Value.f k bt199.1).bind fun bt205 => ((pochoirref01_Value.f k bt199.2).bind fun bt209 => (some (bt205.1, bt205.2.1, bt209.2.1, 0))))) = some (r1, r2, r3, r4) := H
  have A9 := Aside0.mk A90
  clear A90
  replace H := Option.bind_eq_some_iff.mp H
  obtain ⟨⟨t199, t200⟩, A100, H⟩ := H
  replace H : ((pochoirref01_Value.f k t199).bind fun bt205 => ((pochoirref01_Value.f k t200).bind fun bt209 => (some (bt205.1, bt205.2.1, bt209.2.1, 0)))) = some (r1, r2, r3, r4) := H
  have A10 := Aside0.mk A100
  clear A100
  replace H := Option.bind_eq_some_iff.mp H
  obtain ⟨⟨t205, t206, t207⟩, A110, H⟩ := H
  replace H : ((pochoirref01_Value.f k t200).bind fun bt209 => (some (t205, t206, bt209.2.1, 0))) = some (r1, r2, r3, r4) := H
  have A11 := Aside0.mk A110
  clear A110
  replace H := Option.bind_eq_some_iff.mp H
  obtain ⟨⟨t209, t210, t211⟩, A120, H⟩ := H
  replace H : (some (t205, t206, t210, 0)) = some (r1, r2, r3, r4) := H
  have A12 := Aside0.mk A120
  clear A120
  simp only [Option.some.injEq, Prod.mk.injEq] at H
  obtain ⟨rfl, rfl, rfl, rfl⟩ := H
  go_enter Try.func11, Try.ntmps11
  try go_wp2_with (first | ((with_reducible refine gate_dst (N := 2) rfl ?_); refine be 2 (#[.int .u64 a0_0, .int .u64 a0_1]) 24 ?_; intro gb191 hg w13 hbox hb; have BK191 := Aside0.mk (hbox); have GW191 := Aside0.mk ((by rw [hg]; exact (below_size (bl0 HB.out)) : w.heap.size ≤ gb191)); have GE191 := GW191; replace HB := Aside0.mk (below_step (bl0 HB.out) hb); clear hb hbox hg) | ((with_reducible refine gate_dst (N := 4) rfl ?_); refine be 4 (#[.int .u64 0, .int .u64 0]) 24 ?_; intro gb192 hg w14 hbox hb; have BK192 := Aside0.mk (hbox); have GW192 := Aside0.mk ((by rw [hg]; exact (below_size (bl1 HB.out GE191.out)) : w.heap.size ≤ gb192)); have GE192 := GW192; have NB191_192 := Aside0.mk ((by rw [hg]; exact Nat.ne_of_lt (lt_ BK191.out) : gb191 ≠ gb192)); have NB192_191 := Aside0.mk ((by rw [hg]; exact Nat.ne_of_gt (lt_ BK191.out) : gb192 ≠ gb191)); replace BK191 := Aside0.mk (bb BK191.out hb); replace HB := Aside0.mk (below_step (bl1 HB.out GE191.out) hb); clear hb hbox hg; have hnb15 := NB191_192.out; have hnc15 := NB192_191.out; have hcz16_0 : w14.cell? ⟨gb191, 0, none⟩ = some (.int .u64 a0_0) := (blk_cell BK191.out 0).trans rfl; have hcz16_1 : w14.cell? ⟨gb191, 1, none⟩ = some (.int .u64 a0_1) := (blk_cell BK191.out 1).trans rfl; have hfz16_0 := blk_frozen BK191.out 0; have hfz16_1 := blk_frozen BK191.out 1) | ((with_reducible refine gate_callee (f := 26) rfl ?_); refine goesL_ (some 18) rfl rfl Try.func26 (by kernel_rfl) rfl #[.agg #[.int .u64 a0_0, .int .u64 a0_1]] rfl am ?_; (with_reducible refine (pochoirref01_Digits.calls k a0_0 a0_1 t193 _ A8.out).mono ?_); rintro e w17 ⟨v194, rfl, ho0, hb⟩; refine ⟨_, rfl, ?_⟩; have HO195 := Aside0.mk (Kd.R_lower ho0 (below_size (bl2 HB.out GE191.out GE192.out))); replace BK191 := Aside0.mk (bb BK191.out hb); replace BK192 := Aside0.mk (bb BK192.out hb); replace HB := Aside0.mk (below_step (bl2 HB.out GE191.out GE192.out) hb); (try clear hb); (try clear hb2); (try clear hk); (try clear hi); (try clear ho0)) | ((with_reducible refine gate_callee (f := 26) rfl ?_); refine goesL_ (some 21) rfl rfl Try.func26 (by kernel_rfl) rfl #[.agg #[.int .u64 0, .int .u64 a1]] rfl am ?_; (with_reducible refine (pochoirref01_Digits.calls k 0 a1 t196 _ A9.out).mono ?_); rintro e w18 ⟨v197, rfl, ho0, hb⟩; refine ⟨_, rfl, ?_⟩; have HO198 := Aside0.mk (Kd.R_lower (Kd.R_new' ho0 (Kd.R_lt (by (with_reducible repeat (first | apply Kd.R_alloc | apply Kd.R_drewN | apply Kd.R_drew)); exact HO195.out))) (below_size (bl2 HB.out GE191.out GE192.out))); replace HO195 := Aside0.mk (Kd.R_elder' (by (with_reducible repeat (first | apply Kd.R_alloc | apply Kd.R_drewN | apply Kd.R_drew)); exact HO195.out) (Kd.R_base ho0) hb); replace BK191 := Aside0.mk (bb BK191.out hb); replace BK192 := Aside0.mk (bb BK192.out hb); replace HB := Aside0.mk (below_step (bl2 HB.out GE191.out GE192.out) hb); (try clear hb); (try clear hb2); (try clear hk); (try clear hi); (try clear ho0); obtain ⟨Ao19, co19, eo19⟩ := Kd.R_slice HO195.out; subst eo19; obtain ⟨Ao20, co20, eo20⟩ := Kd.R_slice HO198.out; subst eo20) | ((with_reducible refine gate_callee (f := 28) rfl ?_); refine goesL_ (some 22) rfl rfl Try.func28 (by kernel_rfl) rfl #[.slice Ao19 t193.length co19, .slice Ao20 t196.length co20] rfl am ?_; (with_reducible refine (pochoirref01_Divide.calls k _ _ t193 _ _ t196 t199 t200 _ ?side1 ?side2 ?side3 ?side4 A10.out).mono ?_); (case side1 => repeat (first | exact (Kd.R_reads' HO195.out).2.2 | (with_reducible refine Kd.C_alloc ?_ _) | (with_reducible refine Kd.C_drewN ?_ _) | (with_reducible refine Kd.C_drew ?_))); (case side2 => exact (Kd.R_reads' HO195.out).2.1); (case side3 => repeat (first | exact (Kd.R_reads' HO198.out).2.2 | (with_reducible refine Kd.C_alloc ?_ _) | (with_reducible refine Kd.C_drewN ?_ _) | (with_reducible refine Kd.C_drew ?_))); (case side4 => exact (Kd.R_reads' HO198.out).2.1); rintro e w21 ⟨v201, v203, rfl, ho0, ho1, hb⟩; refine ⟨_, rfl, ?_⟩; have HO202 := Aside0.mk (Kd.R_lower (Kd.R_new' (Kd.R_new' ho0 (Kd.R_lt (by (with_reducible repeat (first | apply Kd.R_alloc | apply Kd.R_drewN | apply Kd.R_drew)); exact HO195.out))) (Kd.R_lt (by (with_reducible repeat (first | apply Kd.R_alloc | apply Kd.R_drewN | apply Kd.R_drew)); exact HO198.out))) (below_size (bl2 HB.out GE191.out GE192.out))); have HO204 := Aside0.mk (Kd.R_lower (Kd.R_new' (Kd.R_new' ho1 (Kd.R_lt (by (with_reducible repeat (first | apply Kd.R_alloc | apply Kd.R_drewN | apply Kd.R_drew)); exact HO195.out))) (Kd.R_lt (by (with_reducible repeat (first | apply Kd.R_alloc | apply Kd.R_drewN | apply Kd.R_drew)); exact HO198.out))) (below_size (bl2 HB.out GE191.out GE192.out))); replace HO195 := Aside0.mk (Kd.R_mono (Kd.R_told (Kd.R_told (Kd.R_old (by (with_reducible repeat (first | apply Kd.R_alloc | apply Kd.R_drewN | apply Kd.R_drew)); exact HO195.out) hb) (Kd.R_base ho0)) (Kd.R_base ho1)) (fun _ h_ => h_.1)); replace HO198 := Aside0.mk (Kd.R_mono (Kd.R_told (Kd.R_told (Kd.R_old (by (with_reducible repeat (first | apply Kd.R_alloc | apply Kd.R_drewN | apply Kd.R_drew)); exact HO198.out) hb) (Kd.R_base ho0)) (Kd.R_base ho1)) (fun _ h_ => h_.1)); replace BK191 := Aside0.mk (bb BK191.out hb); replace BK192 := Aside0.mk (bb BK192.out hb); replace HB := Aside0.mk (below_step (bl2 HB.out GE191.out GE192.out) hb); (try clear hb); (try clear hb2); (try clear hk); (try clear hi); (try clear ho0); (try clear ho1); obtain ⟨Ao22, co22, eo22⟩ := Kd.R_slice HO202.out; subst eo22) | ((with_reducible refine gate_callee (f := 29) rfl ?_); refine goesL_ (some 27) rfl rfl Try.func29 (by kernel_rfl) rfl #[.slice Ao22 t199.length co22] rfl am ?_; (with_reducible refine (pochoirref01_Value.calls k _ _ t199 t205 t206 t207 _ ?side1 ?side2 A11.out).mono ?_); (case side1 => repeat (first | exact (Kd.R_reads' HO202.out).2.2 | (with_reducible refine Kd.C_alloc ?_ _) | (with_reducible refine Kd.C_drewN ?_ _) | (with_reducible refine Kd.C_drew ?_))); (case side2 => exact (Kd.R_reads' HO202.out).2.1); rintro e w23 ⟨rfl, hb⟩; refine ⟨_, rfl, ?_⟩; replace HO195 := Aside0.mk (Kd.R_below (by (with_reducible repeat (first | apply Kd.R_alloc | apply Kd.R_drewN | apply Kd.R_drew)); exact HO195.out) hb); replace HO198 := Aside0.mk (Kd.R_below (by (with_reducible repeat (first | apply Kd.R_alloc | apply Kd.R_drewN | apply Kd.R_drew)); exact HO198.out) hb); replace HO202 := Aside0.mk (Kd.R_below (by (with_reducible repeat (first | apply Kd.R_alloc | apply Kd.R_drewN | apply Kd.R_drew)); exact HO202.out) hb); replace HO204 := Aside0.mk (Kd.R_below (by (with_reducible repeat (first | apply Kd.R_alloc | apply Kd.R_drewN | apply Kd.R_drew)); exact HO204.out) hb); replace BK191 := Aside0.mk (bb BK191.out hb); replace BK192 := Aside0.mk (bb BK192.out hb); replace HB := Aside0.mk (below_step (bl2 HB.out GE191.out GE192.out) hb); (try clear hb); (try clear hb2); (try clear hk); (try clear hi)) | ((with_reducible refine gate_dst (N := 9) rfl ?_); refine be 9 (#[.int .u64 0, .int .u64 0]) 24 ?_; intro gb208 hg w24 hbox hb; have BK208 := Aside0.mk (hbox); have GW208 := Aside0.mk ((by rw [hg]; exact (below_size (bl2 HB.out GE191.out GE192.out)) : w.heap.size ≤ gb208)); have GE208 := GW208; have NB191_208 := Aside0.mk ((by rw [hg]; exact Nat.ne_of_lt (lt_ BK191.out) : gb191 ≠ gb208)); have NB208_191 := Aside0.mk ((by rw [hg]; exact Nat.ne_of_gt (lt_ BK191.out) : gb208 ≠ gb191)); have NB192_208 := Aside0.mk ((by rw [hg]; exact Nat.ne_of_lt (lt_ BK192.out) : gb192 ≠ gb208)); have NB208_192 := Aside0.mk ((by rw [hg]; exact Nat.ne_of_gt (lt_ BK192.out) : gb208 ≠ gb192)); replace HO195 := Aside0.mk (Kd.R_below (by (with_reducible repeat (first | apply Kd.R_alloc | apply Kd.R_drewN | apply Kd.R_drew)); exact HO195.out) hb); replace HO198 := Aside0.mk (Kd.R_below (by (with_reducible repeat (first | apply Kd.R_alloc | apply Kd.R_drewN | apply Kd.R_drew)); exact HO198.out) hb); replace HO202 := Aside0.mk (Kd.R_below (by (with_reducible repeat (first | apply Kd.R_alloc | apply Kd.R_drewN | apply Kd.R_drew)); exact HO202.out) hb); replace HO204 := Aside0.mk (Kd.R_below (by (with_reducible repeat (first | apply Kd.R_alloc | apply Kd.R_drewN | apply Kd.R_drew)); exact HO204.out) hb); replace BK191 := Aside0.mk (bb BK191.out hb); replace BK192 := Aside0.mk (bb BK192.out hb); replace HB := Aside0.mk (below_step (bl2 HB.out GE191.out GE192.out) hb); clear hb hbox hg; have hnb25 := NB208_191.out; have hnc25 := NB191_208.out; have hnb26 := NB208_192.out; have hnc26 := NB192_208.out; have hcz27_0 : w24.cell? ⟨gb208, 0, none⟩ = some (.int .u64 0) := (blk_cell BK208.out 0).trans rfl; have hcz27_1 : w24.cell? ⟨gb208, 1, none⟩ = some (.int .u64 0) := (blk_cell BK208.out 1).trans rfl; have hfz27_0 := blk_frozen BK208.out 0; have hfz27_1 := blk_frozen BK208.out 1; obtain ⟨Ao28, co28, eo28⟩ := Kd.R_slice HO204.out; subst eo28) | ((with_reducible refine gate_callee (f := 29) rfl ?_); refine goesL_ (some 32) rfl rfl Try.func29 (by kernel_rfl) rfl #[.slice Ao28 t200.length co28] rfl am ?_; (with_reducible refine (pochoirref01_Value.calls k _ _ t200 t209 t210 t211 _ ?side1 ?side2 A12.out).mono ?_); (case side1 => refine (Kd.R_reads' (e := 22) (base := w.heap.size) (ok := fun k_ => ((some k_ ≠ (.slice Ao22 t199.length co22 : Value).ownBlock ∧ some k_ ≠ (.slice Ao19 t193.length co19 : Value).ownBlock) ∧ some k_ ≠ (.slice Ao20 t196.length co20 : Value).ownBlock)) (n := t200.length) (c := co28) ?_).2.2; exact (by (with_reducible repeat (first | apply Kd.R_alloc | apply Kd.R_drewN | apply Kd.R_drew)); exact (Kd.R_mono (Kd.R_far (p := ⟨gb208, 1, none⟩) (Kd.R_far (p := ⟨gb208, 0, none⟩) (Kd.R_types HO204.out BK208.out (by decide)) (fun _ hk => hk.2) (.int .u64 t205)) (fun _ hk => hk.2) (.int .u64 t206)) (fun _ h_ => h_.1)))); (case side2 => exact (Kd.R_reads' HO204.out).2.1); rintro e w29 ⟨rfl, hb⟩; refine ⟨_, rfl, ?_⟩; replace HO195 := Aside0.mk (Kd.R_below (by (with_reducible repeat (first | apply Kd.R_alloc | apply Kd.R_drewN | apply Kd.R_drew)); exact (Kd.R_mono (Kd.R_far (p := ⟨gb208, 1, none⟩) (Kd.R_far (p := ⟨gb208, 0, none⟩) (Kd.R_types HO195.out BK208.out (by decide)) (fun _ hk => hk.2) (.int .u64 t205)) (fun _ hk => hk.2) (.int .u64 t206)) (fun _ h_ => h_.1))) hb); replace HO198 := Aside0.mk (Kd.R_below (by (with_reducible repeat (first | apply Kd.R_alloc | apply Kd.R_drewN | apply Kd.R_drew)); exact (Kd.R_mono (Kd.R_far (p := ⟨gb208, 1, none⟩) (Kd.R_far (p := ⟨gb208, 0, none⟩) (Kd.R_types HO198.out BK208.out (by decide)) (fun _ hk => hk.2) (.int .u64 t205)) (fun _ hk => hk.2) (.int .u64 t206)) (fun _ h_ => h_.1))) hb); replace HO202 := Aside0.mk (Kd.R_below (by (with_reducible repeat (first | apply Kd.R_alloc | apply Kd.R_drewN | apply Kd.R_drew)); exact (Kd.R_mono (Kd.R_far (p := ⟨gb208, 1, none⟩) (Kd.R_far (p := ⟨gb208, 0, none⟩) (Kd.R_types HO202.out BK208.out (by decide)) (fun _ hk => hk.2) (.int .u64 t205)) (fun _ hk => hk.2) (.int .u64 t206)) (fun _ h_ => h_.1))) hb); replace HO204 := Aside0.mk (Kd.R_below (by (with_reducible repeat (first | apply Kd.R_alloc | apply Kd.R_drewN | apply Kd.R_drew)); exact (Kd.R_mono (Kd.R_far (p := ⟨gb208, 1, none⟩) (Kd.R_far (p := ⟨gb208, 0, none⟩) (Kd.R_types HO204.out BK208.out (by decide)) (fun _ hk => hk.2) (.int .u64 t205)) (fun _ hk => hk.2) (.int .u64 t206)) (fun _ h_ => h_.1))) hb); replace BK191 := Aside0.mk (blk_below (g := gb191) (o := .cells #[.int .u64 a0_0, .int .u64 a0_1] 24 (0, 0)) (by (with_reducible repeat (first | refine blk_drewN ?_ _ | refine blk_drew ?_ | refine blk_alloc ?_ _)); refine blk_far ?_ NB191_208.out _; (with_reducible repeat (first | refine blk_drewN ?_ _ | refine blk_drew ?_ | refine blk_alloc ?_ _)); refine blk_far ?_ NB191_208.out _; (with_reducible repeat (first | refine blk_drewN ?_ _ | refine blk_drew ?_ | refine blk_alloc ?_ _)); exact BK191.out) hb); replace BK192 := Aside0.mk (blk_below (g := gb192) (o := .cells #[.int .u64 0, .int .u64 0] 24 (0, 0)) (by (with_reducible repeat (first | refine blk_drewN ?_ _ | refine blk_drew ?_ | refine blk_alloc ?_ _)); refine blk_far ?_ NB192_208.out _; (with_reducible repeat (first | refine blk_drewN ?_ _ | refine blk_drew ?_ | refine blk_alloc ?_ _)); refine blk_far ?_ NB192_208.out _; (with_reducible repeat (first | refine blk_drewN ?_ _ | refine blk_drew ?_ | refine blk_alloc ?_ _)); exact BK192.out) hb); replace BK208 := Aside0.mk (blk_below (g := gb208) (o := .cells #[.int .u64 t205, .int .u64 t206] 24 (0, 0)) (bk (blk_put (cs := #[.int .u64 t205, .int .u64 0]) (bk (blk_put (cs := #[.int .u64 0, .int .u64 0]) (bk BK208.out) 0 _ rfl)) 1 _ rfl)) hb); replace HB := Aside0.mk (below_step (bl3 HB.out GE191.out GE192.out GE208.out) hb); (try clear hb); (try clear hb2); (try clear hk); (try clear hi)) | ((with_reducible refine gate_dst (N := 11) rfl ?_); refine be 11 (#[.int .u64 0, .int .u64 0]) 24 ?_; intro gb212 hg w30 hbox hb; have BK212 := Aside0.mk (hbox); have GW212 := Aside0.mk ((by rw [hg]; exact (below_size (bl3 HB.out GE191.out GE192.out GE208.out)) : w.heap.size ≤ gb212)); have GE212 := GW212; have NB191_212 := Aside0.mk ((by rw [hg]; exact Nat.ne_of_lt (lt_ BK191.out) : gb191 ≠ gb212)); have NB212_191 := Aside0.mk ((by rw [hg]; exact Nat.ne_of_gt (lt_ BK191.out) : gb212 ≠ gb191)); have NB192_212 := Aside0.mk ((by rw [hg]; exact Nat.ne_of_lt (lt_ BK192.out) : gb192 ≠ gb212)); have NB212_192 := Aside0.mk ((by rw [hg]; exact Nat.ne_of_gt (lt_ BK192.out) : gb212 ≠ gb192)); have NB208_212 := Aside0.mk ((by rw [hg]; exact Nat.ne_of_lt (lt_ BK208.out) : gb208 ≠ gb212)); have NB212_208 := Aside0.mk ((by rw [hg]; exact Nat.ne_of_gt (lt_ BK208.out) : gb212 ≠ gb208)); replace HO195 := Aside0.mk (Kd.R_below (by (with_reducible repeat (first | apply Kd.R_alloc | apply Kd.R_drewN | apply Kd.R_drew)); exact HO195.out) hb); replace HO198 := Aside0.mk (Kd.R_below (by (with_reducible repeat (first | apply Kd.R_alloc | apply Kd.R_drewN | apply Kd.R_drew)); exact HO198.out) hb); replace HO202 := Aside0.mk (Kd.R_below (by (with_reducible repeat (first | apply Kd.R_alloc | apply Kd.R_drewN | apply Kd.R_drew)); exact HO202.out) hb); replace HO204 := Aside0.mk (Kd.R_below (by (with_reducible repeat (first | apply Kd.R_alloc | apply Kd.R_drewN | apply Kd.R_drew)); exact HO204.out) hb); replace BK191 := Aside0.mk (bb BK191.out hb); replace BK192 := Aside0.mk (bb BK192.out hb); replace BK208 := Aside0.mk (bb BK208.out hb); replace HB := Aside0.mk (below_step (bl3 HB.out GE191.out GE192.out GE208.out) hb); clear hb hbox hg; have hnb31 := NB212_191.out; have hnc31 := NB191_212.out; have hnb32 := NB212_192.out; have hnc32 := NB192_212.out; have hnb33 := NB212_208.out; have hnc33 := NB208_212.out; have hcz34_0 : w30.cell? ⟨gb212, 0, none⟩ = some (.int .u64 0) := (blk_cell BK212.out 0).trans rfl; have hcz34_1 : w30.cell? ⟨gb212, 1, none⟩ = some (.int .u64 0) := (blk_cell BK212.out 1).trans rfl; have hfz34_0 := blk_frozen BK212.out 0; have hfz34_1 := blk_frozen BK212.out 1))
  have n0_ : Aside0 (Kd.R (Kd.int .u64) 22 ((w30.setCell ⟨gb212, 0, none⟩ (.int .u64 t209)).setCell ⟨gb212, 1, none⟩ (.int .u64 t210)) w.heap.size (fun k_ => some k_ ≠ (.slice Ao20 t196.length co20 : Value).ownBlock ∧ some k_ ≠ (.slice Ao22 t199.length co22 : Value).ownBlock ∧ some k_ ≠ (.slice Ao28 t200.length co28 : Value).ownBlock) (.slice Ao19 t193.length co19) t193) := ⟨by (with_reducible repeat (first | apply Kd.R_alloc | apply Kd.R_drewN | apply Kd.R_drew)); exact Kd.R_mono (Kd.R_far (p := ⟨gb212, 1, none⟩) (Kd.R_far (p := ⟨gb212, 0, none⟩) (Kd.R_types HO195.out BK212.out (by decide)) (fun _ hk => hk.2) (.int .u64 t209)) (fun _ hk => hk.2) (.int .u64 t210)) (fun _ hk => ⟨hk.1.1.1.2, ⟨hk.1.1.2, hk.1.2⟩⟩)⟩
  have n1_ : Aside0 (Kd.R (Kd.int .u64) 22 ((w30.setCell ⟨gb212, 0, none⟩ (.int .u64 t209)).setCell ⟨gb212, 1, none⟩ (.int .u64 t210)) w.heap.size (fun k_ => some k_ ≠ (.slice Ao19 t193.length co19 : Value).ownBlock ∧ some k_ ≠ (.slice Ao22 t199.length co22 : Value).ownBlock ∧ some k_ ≠ (.slice Ao28 t200.length co28 : Value).ownBlock) (.slice Ao20 t196.length co20) t196) := ⟨by (with_reducible repeat (first | apply Kd.R_alloc | apply Kd.R_drewN | apply Kd.R_drew)); exact Kd.R_mono (Kd.R_far (p := ⟨gb212, 1, none⟩) (Kd.R_far (p := ⟨gb212, 0, none⟩) (Kd.R_types HO198.out BK212.out (by decide)) (fun _ hk => hk.2) (.int .u64 t209)) (fun _ hk => hk.2) (.int .u64 t210)) (fun _ hk => ⟨hk.1.1.1.2, ⟨hk.1.1.2, hk.1.2⟩⟩)⟩
  have n2_ : Aside0 (Kd.R (Kd.int .u64) 22 ((w30.setCell ⟨gb212, 0, none⟩ (.int .u64 t209)).setCell ⟨gb212, 1, none⟩ (.int .u64 t210)) w.heap.size (fun k_ => some k_ ≠ (.slice Ao19 t193.length co19 : Value).ownBlock ∧ some k_ ≠ (.slice Ao20 t196.length co20 : Value).ownBlock ∧ some k_ ≠ (.slice Ao28 t200.length co28 : Value).ownBlock) (.slice Ao22 t199.length co22) t199) := ⟨by (with_reducible repeat (first | apply Kd.R_alloc | apply Kd.R_drewN | apply Kd.R_drew)); exact Kd.R_mono (Kd.R_far (p := ⟨gb212, 1, none⟩) (Kd.R_far (p := ⟨gb212, 0, none⟩) (Kd.R_types HO202.out BK212.out (by decide)) (fun _ hk => hk.2) (.int .u64 t209)) (fun _ hk => hk.2) (.int .u64 t210)) (fun _ hk => ⟨hk.1.1.2, ⟨hk.1.2, hk.1.1.1⟩⟩)⟩
  have n3_ : Aside0 (Kd.R (Kd.int .u64) 22 ((w30.setCell ⟨gb212, 0, none⟩ (.int .u64 t209)).setCell ⟨gb212, 1, none⟩ (.int .u64 t210)) w.heap.size (fun k_ => some k_ ≠ (.slice Ao19 t193.length co19 : Value).ownBlock ∧ some k_ ≠ (.slice Ao20 t196.length co20 : Value).ownBlock ∧ some k_ ≠ (.slice Ao22 t199.length co22 : Value).ownBlock) (.slice Ao28 t200.length co28) t200) := ⟨by (with_reducible repeat (first | apply Kd.R_alloc | apply Kd.R_drewN | apply Kd.R_drew)); exact Kd.R_mono (Kd.R_far (p := ⟨gb212, 1, none⟩) (Kd.R_far (p := ⟨gb212, 0, none⟩) (Kd.R_types HO204.out BK212.out (by decide)) (fun _ hk => hk.2) (.int .u64 t209)) (fun _ hk => hk.2) (.int .u64 t210)) (fun _ hk => ⟨hk.1.1.2, ⟨hk.1.2, hk.1.1.1⟩⟩)⟩
  have n4_ : Aside0 (((w30.setCell ⟨gb212, 0, none⟩ (.int .u64 t209)).setCell ⟨gb212, 1, none⟩ (.int .u64 t210)).heap[gb191]? = some (.cells #[.int .u64 a0_0, .int .u64 a0_1] 24 (0, 0))) := ⟨by (with_reducible repeat (first | refine blk_drewN ?_ _ | refine blk_drew ?_ | refine blk_alloc ?_ _)); refine blk_far ?_ NB191_212.out _; (with_reducible repeat (first | refine blk_drewN ?_ _ | refine blk_drew ?_ | refine blk_alloc ?_ _)); refine blk_far ?_ NB191_212.out _; (with_reducible repeat (first | refine blk_drewN ?_ _ | refine blk_drew ?_ | refine blk_alloc ?_ _)); exact BK191.out⟩
  have n5_ : Aside0 (((w30.setCell ⟨gb212, 0, none⟩ (.int .u64 t209)).setCell ⟨gb212, 1, none⟩ (.int .u64 t210)).heap[gb192]? = some (.cells #[.int .u64 0, .int .u64 0] 24 (0, 0))) := ⟨by (with_reducible repeat (first | refine blk_drewN ?_ _ | refine blk_drew ?_ | refine blk_alloc ?_ _)); refine blk_far ?_ NB192_212.out _; (with_reducible repeat (first | refine blk_drewN ?_ _ | refine blk_drew ?_ | refine blk_alloc ?_ _)); refine blk_far ?_ NB192_212.out _; (with_reducible repeat (first | refine blk_drewN ?_ _ | refine blk_drew ?_ | refine blk_alloc ?_ _)); exact BK192.out⟩
  have n6_ : Aside0 (((w30.setCell ⟨gb212, 0, none⟩ (.int .u64 t209)).setCell ⟨gb212, 1, none⟩ (.int .u64 t210)).heap[gb208]? = some (.cells #[.int .u64 t205, .int .u64 t206] 24 (0, 0))) := ⟨by (with_reducible repeat (first | refine blk_drewN ?_ _ | refine blk_drew ?_ | refine blk_alloc ?_ _)); refine blk_far ?_ NB208_212.out _; (with_reducible repeat (first | refine blk_drewN ?_ _ | refine blk_drew ?_ | refine blk_alloc ?_ _)); refine blk_far ?_ NB208_212.out _; (with_reducible repeat (first | refine blk_drewN ?_ _ | refine blk_drew ?_ | refine blk_alloc ?_ _)); exact BK208.out⟩
  have n7_ : Aside0 (((w30.setCell ⟨gb212, 0, none⟩ (.int .u64 t209)).setCell ⟨gb212, 1, none⟩ (.int .u64 t210)).heap[gb212]? = some (.cells #[.int .u64 t209, .int .u64 t210] 24 (0, 0))) := ⟨by (with_reducible repeat (first | refine blk_drewN ?_ _ | refine blk_drew ?_ | refine blk_alloc ?_ _)); refine blk_put (cs := #[.int .u64 t209, .int .u64 0]) ?_ 1 _ rfl; (with_reducible repeat (first | refine blk_drewN ?_ _ | refine blk_drew ?_ | refine blk_alloc ?_ _)); refine blk_put (cs := #[.int .u64 0, .int .u64 0]) ?_ 0 _ rfl; (with_reducible repeat (first | refine blk_drewN ?_ _ | refine blk_drew ?_ | refine blk_alloc ?_ _)); exact BK212.out⟩
  have n8_ : Aside0 (Below w.heap.size w ((w30.setCell ⟨gb212, 0, none⟩ (.int .u64 t209)).setCell ⟨gb212, 1, none⟩ (.int .u64 t210))) := ⟨bl4 HB.out GE191.out GE192.out GE208.out GE212.out⟩
  (try clear HO195)
  (try clear HO198)
  (try clear HO202)
  (try clear HO204)
  (try clear BK191)
  (try clear BK192)
  (try clear BK208)
  (try clear BK212)
  (try clear HB)
  generalize ((w30.setCell ⟨gb212, 0, none⟩ (.int .u64 t209)).setCell ⟨gb212, 1, none⟩ (.int .u64 t210)) = w35 at n0_ n1_ n2_ n3_ n4_ n5_ n6_ n7_ n8_ ⊢
  have HO195 := n0_
  have HO198 := n1_
  have HO202 := n2_
  have HO204 := n3_
  have BK191 := n4_
  have BK192 := n5_
  have BK208 := n6_
  have BK212 := n7_
  have HB := n8_
  clear n0_ n1_ n2_ n3_ n4_ n5_ n6_ n7_ n8_
  replace HO195 := Aside0.mk (Kd.R_drew HO195.out)
  replace HO198 := Aside0.mk (Kd.R_drew HO198.out)
  replace HO202 := Aside0.mk (Kd.R_drew HO202.out)
  replace HO204 := Aside0.mk (Kd.R_drew HO204.out)
  replace BK191 := Aside0.mk (blk_drew BK191.out)
  replace BK192 := Aside0.mk (blk_drew BK192.out)
  replace BK208 := Aside0.mk (blk_drew BK208.out)
  replace BK212 := Aside0.mk (blk_drew BK212.out)
  replace HB := Aside0.mk (below_drew1 HB.out)
  refine start_ (n := 6) (S := fun w' => w'.cell? ⟨gb208, 0, none⟩ = some (.int .u64 t205) ∧ w'.cell? ⟨gb208, 1, none⟩ = some (.int .u64 t206) ∧ w'.cell? ⟨gb212, 0, none⟩ = some (.int .u64 t209) ∧ w'.cell? ⟨gb212, 1, none⟩ = some (.int .u64 t210)) (ds := []) (ba 6 0) (by kernel_rfl) rfl rfl ⟨(blk_cell BK208.out 0).trans rfl, (blk_cell BK208.out 1).trans rfl, (blk_cell BK212.out 0).trans rfl, (blk_cell BK212.out 1).trans rfl⟩ (fun hHeld => ?_)
  generalize w35.drew = w36 at HO195 HO198 HO202 HO204 BK191 BK192 BK208 BK212 HB hHeld ⊢
  refine pure_ (i := 1) (N := some 36) (v := ?_) (a' := ?_) (ba 6 2) rfl rfl (by kernel_rfl) (fun _ _ _ h => h) (Or.inl ⟨by rfl, ?_⟩) ?_ ?_
  rotate_left
  ·intro w'
   go_simp
   with_reducible rfl
  rotate_left
  ·simp only [Act.put, List.setIfInBounds_toArray, List.set_cons_zero, List.set_cons_succ, i64_w, i32_w]
   rfl
  refine take_ (i := 0) (N := some 35) (v := ?_) (a' := ?_) (ba 6 3) rfl rfl (by kernel_rfl) (fun _ _ _ h => h) (Or.inl ⟨by rfl, ?_⟩) hHeld ?_ ?_
  rotate_left
  ·rintro w' ⟨s0, s1, s2, s3⟩
   go_simp
   with_reducible rfl
  rotate_left
  ·simp only [Act.put, List.setIfInBounds_toArray, List.set_cons_zero, List.set_cons_succ, i64_w, i32_w]
   rfl
  refine take_ (i := 2) (N := some 37) (v := ?_) (a' := ?_) (ba 6 7) rfl rfl (by kernel_rfl) (fun _ _ _ h => h) (Or.inl ⟨by rfl, ?_⟩) hHeld ?_ ?_
  rotate_left
  ·rintro w' ⟨s0, s1, s2, s3⟩
   go_simp
   with_reducible rfl
  rotate_left
  ·simp only [Act.put, List.setIfInBounds_toArray, List.set_cons_zero, List.set_cons_succ, i64_w, i32_w]
   rfl
  refine one_ (i := 3) (N := none) (ba 6 15) rfl rfl (by kernel_rfl) (by decide) (fun K hK => ?_)
  have hs37 : w36.cell? ⟨gb192, 0, none⟩ = some (.int .u64 0) := (blk_cell BK192.out 0).trans rfl
  have hfs37 := blk_frozen BK192.out 0
  have hns37_0 := NB191_192.out
  have hns37_2 := NB208_192.out
  have hns37_3 := NB212_192.out
  have hms37_0 := NB192_191.out
  have hms37_2 := NB192_208.out
  have hms37_3 := NB192_212.out
  have hs38 : w36.cell? ⟨gb192, 1, none⟩ = some (.int .u64 0) := (blk_cell BK192.out 1).trans rfl
  have hfs38 := blk_frozen BK192.out 1
  have hns38_0 := NB191_192.out
  have hns38_2 := NB208_192.out
  have hns38_3 := NB212_192.out
  have hms38_0 := NB192_191.out
  have hms38_2 := NB192_208.out
  have hms38_3 := NB192_212.out
  refine skip_ (w1 := ?_) (by rfl) rfl ?_ ?_
  rotate_left
  ·go_simp
   rfl
  refine hK.out _ _ ⟨((cell_far (p := ⟨gb192, _, none⟩) NB208_192.out _).trans (((cell_far (p := ⟨gb192, _, none⟩) NB208_192.out _).trans (hHeld.1)))), ((cell_far (p := ⟨gb192, _, none⟩) NB208_192.out _).trans (((cell_far (p := ⟨gb192, _, none⟩) NB208_192.out _).trans (hHeld.2.1)))), ((cell_far (p := ⟨gb192, _, none⟩) NB212_192.out _).trans (((cell_far (p := ⟨gb192, _, none⟩) NB212_192.out _).trans (hHeld.2.2.1)))), ((cell_far (p := ⟨gb192, _, none⟩) NB212_192.out _).trans (((cell_far (p := ⟨gb192, _, none⟩) NB212_192.out _).trans (hHeld.2.2.2))))⟩ (fun hHeld => ?_)
  clear hK K
  refine pure_ (i := 4) (N := some 5) (v := ?_) (a' := ?_) (ba 6 31) rfl rfl (by kernel_rfl) (fun _ _ _ h => h) (Or.inl ⟨by rfl, ?_⟩) ?_ ?_
  rotate_left
  ·intro w'
   go_simp
   with_reducible rfl
  rotate_left
  ·simp only [Act.put, List.setIfInBounds_toArray, List.set_cons_zero, List.set_cons_succ, i64_w, i32_w]
   rfl
  refine pure_ (i := 5) (N := some 6) (v := ?_) (a' := ?_) (ba 6 63) rfl rfl (by kernel_rfl) (fun _ _ _ h => h) (Or.inl ⟨by rfl, ?_⟩) ?_ ?_
  rotate_left
  ·intro w'
   go_simp
   with_reducible rfl
  rotate_left
  ·simp only [Act.put, List.setIfInBounds_toArray, List.set_cons_zero, List.set_cons_succ, i64_w, i32_w]
   rfl
  refine done_ (by kernel_rfl) ?_
  try go_wp2
  refine bodyPost_ret (results_ctt rfl _ _ gb192 24 #[.int .u64 t205, .int .u64 t206] (0, 0) _ rfl (bk (blk_put (cs := #[.int .u64 t205, .int .u64 0]) (bk (blk_put (cs := #[.int .u64 0, .int .u64 0]) (bk BK192.out) 0 _ rfl)) 1 _ rfl)) Try.underlying24 rfl (by kernel_rfl)) rfl ?_
  exact ⟨by first | rfl | (simp [errW_none, errW_some] <;> rfl) | (simp [*, errW_none, errW_some] <;> rfl), bl4 HB.out GE191.out GE192.out GE208.out GE212.out⟩

/-! ### pochoirref01_Text: function 9 -/
def pochoirref01_Text.f : Nat → Int → Int → Option (ByteArray)
 | 0, _, _ => none
 | k + 1, a0_0, a0_1 => (pochoirref01_Div.f k a0_0 a0_1 10).bind fun bt214 => ((some (([(IntKind.u64.wrap (48 + bt214.2.2.1)) % 256] : List Int) : List Int)).bind fun y219 => (if (bt214.1 == 0 && (bt214.2.1 == 0)) = true then (some (strOfNums y219)) else ((pochoirref01_Text.f k bt214.1 bt214.2.1).bind fun t222 => (if t222.size + (strOfNums y219).size ≤ 9223372036854775807 then (some (t222 ++ (strOfNums y219))) else (none)))))
theorem pochoirref01_Text.mono_l : ∀ k, (∀ y0 y1, LeO (pochoirref01_Text.f k y0 y1) (pochoirref01_Text.f (k + 1) y0 y1))
 | 0 => fun _ _ r h => by simp [pochoirref01_Text.f] at h
 | k + 1 => by
  have ih0 := pochoirref01_Text.mono_l k
  ·intro y0 y1
   unfold pochoirref01_Text.f
   repeat' first
   | (with_reducible exact ih0 _ _)
   | (with_reducible exact pochoirref01_Div.mono _ _ _ _)
   | (with_reducible exact LeO.refl _)
   | (with_reducible exact LeO.none _)
   | (with_reducible refine LeO.ite ?_ ?_)
   | (with_reducible refine LeO.bind ?_ (fun _ => ?_))
   | exact ih0 _ _
   | exact pochoirref01_Div.mono _ _ _ _
   | exact LeO.none _
   | refine LeO.ite ?_ ?_
   | refine LeO.bind ?_ (fun _ => ?_)
theorem pochoirref01_Text.mono : ∀ a0 a1 k, LeO (pochoirref01_Text.f k a0 a1) (pochoirref01_Text.f (k + 1) a0 a1) := by
 intro a0 a1 k
 have ih0 := pochoirref01_Text.mono_l k
 exact ih0 a0 a1
set_option maxHeartbeats 8000000 in
set_option maxRecDepth 100000 in
theorem pochoirref01_Text.calls (k : Nat) : ∀ (a0_0 : Int) (a0_1 : Int) (r : ByteArray) (w : World) (h : pochoirref01_Text.f k a0_0 a0_1 = some r),
  Calls Try.prog 9 #[.agg #[.int .u64 a0_0, .int .u64 a0_1]] w fun e w' => e = .returned (.string r) ∧ Below w.heap.size w w' := by
 induction k using Nat.strongRecOn with
 | _ k ih =>
 intro a0_0 a0_1 r w h
 cases k with
 | zero => exact absurd h (by simp [pochoirref01_Text.f])
 | succ k =>
 simp only [pochoirref01_Text.f] at h
 have hu24 := Try.underlying24
 have HB := Aside0.mk (Below.refl w.heap.size w)
 have H : ((pochoirref01_Div.f k a0_0 a0_1 10).bind fun bt214 => ((some (([(IntKind.u64.wrap (48 + bt214.2.2.1)) % 256] : List Int) : List Int)).bind fun y219 => (if (bt214.1 == 0 && (bt214.2.1 == 0)) = true then (some (strOfNums y219)) else ((pochoirref01_Text.f k bt214.1 bt214.2.1).bind fun t222 => (if t222.size + (strOfNums y219).size ≤ 9223372036854775807 then (some (t222 ++ (strOfNums y219))) else (none)))))) = some r := h
 clear h
 replace H := Option.bind_eq_some_iff.mp H
 obtain ⟨⟨t214, t215, t216, t217⟩, A20, H⟩ := H
 replace H : ((some (([(IntKind.u64.wrap (48 + t216)) % 256] : List Int) : List Int)).bind fun y219 => (if (t214 == 0 && (t215 == 0)) = true then (some (strOfNums y219)) else ((pochoirref01_Text.f k t214 t215).bind fun t222 => (if t222.size + (strOfNums y219).size ≤ 9223372036854775807 then (some (t222 ++ (strOfNums y219))) else (none))))) = some r := H
 have A2 := Aside0.mk A20
 clear A20
 obtain ⟨y219, hy219⟩ : ∃ y_ : List Int, y_ = (([(IntKind.u64.wrap (48 + t216)) % 256] : List Int)) := ⟨_, rfl⟩
 replace H : (if (t214 == 0 && (t215 == 0)) = true then (some (strOfNums y219)) else ((pochoirref01_Text.f k t214 t215).bind fun t222 => (if t222.size + (strOfNums y219).size ≤ 9223372036854775807 then (some (t222 ++ (strOfNums y219))) else (none)))) = some r := by first | (rw [hy219]; with_reducible exact H) | (have H2_ := (Option.bind_some _ _).symm.trans H; rw [hy219]; with_reducible exact H2_) | (have H2_ := (Option.bind_some _ _).symm.trans H; with_reducible exact H2_) | with_reducible exact H | (rw [hy219]; exact H) | exact H
 have Ny219 := Aside0.mk hy219
 clear hy219
 by_cases c3 : (t214 == 0 && (t215 == 0)) = true
 ·rw [if_pos c3] at H
  have c3b0 : (t214 == 0 && (t215 == 0)) = true := c3
  (try (have c3b1 : decide (t214 = 0 && (t215 == 0)) = true := by simpa using c3))
  (try (have c3b2 : (t214 == 0 && (t215 == 0)) = true := by simpa using c3))
  clear c3
  obtain rfl := Option.some.inj H
  go_enter Try.func9, Try.ntmps9
  go_wp2_with (first | ((with_reducible refine gate_dst (N := 1) rfl ?_); refine be 1 (#[.int .u64 a0_0, .int .u64 a0_1]) 24 ?_; intro gb213 hg w4 hbox hb; have BK213 := Aside0.mk (hbox); have GW213 := Aside0.mk ((by rw [hg]; exact (below_size (bl0 HB.out)) : w.heap.size ≤ gb213)); have GE213 := GW213; replace HB := Aside0.mk (below_step (bl0 HB.out) hb); clear hb hbox hg; have hcz5_0 : w4.cell? ⟨gb213, 0, none⟩ = some (.int .u64 a0_0) := (blk_cell BK213.out 0).trans rfl; have hcz5_1 : w4.cell? ⟨gb213, 1, none⟩ = some (.int .u64 a0_1) := (blk_cell BK213.out 1).trans rfl; have hfz5_0 := blk_frozen BK213.out 0; have hfz5_1 := blk_frozen BK213.out 1) | ((with_reducible refine gate_callee (f := 11) rfl ?_); refine goesL_ (some 9) rfl rfl Try.func11 (by kernel_rfl) rfl #[.agg #[.int .u64 a0_0, .int .u64 a0_1], .int .u64 10] rfl am ?_; (with_reducible refine (pochoirref01_Div.calls k a0_0 a0_1 10 t214 t215 t216 t217 _ A2.out).mono ?_); rintro e w6 ⟨rfl, hb⟩; refine ⟨_, rfl, ?_⟩; replace BK213 := Aside0.mk (bb BK213.out hb); replace HB := Aside0.mk (below_step (bl1 HB.out GE213.out) hb); (try clear hb); (try clear hb2); (try clear hk); (try clear hi)) | ((with_reducible refine gate_dst (N := 3) rfl ?_); refine be 3 (#[.int .u64 0, .int .u64 0]) 24 ?_; intro gb218 hg w7 hbox hb; have BK218 := Aside0.mk (hbox); have GW218 := Aside0.mk ((by rw [hg]; exact (below_size (bl1 HB.out GE213.out)) : w.heap.size ≤ gb218)); have GE218 := GW218; have NB213_218 := Aside0.mk ((by rw [hg]; exact Nat.ne_of_lt (lt_ BK213.out) : gb213 ≠ gb218)); have NB218_213 := Aside0.mk ((by rw [hg]; exact Nat.ne_of_gt (lt_ BK213.out) : gb218 ≠ gb213)); replace BK213 := Aside0.mk (bb BK213.out hb); replace HB := Aside0.mk (below_step (bl1 HB.out GE213.out) hb); clear hb hbox hg; have hnb8 := NB218_213.out; have hnc8 := NB213_218.out; have hcz9_0 : w7.cell? ⟨gb218, 0, none⟩ = some (.int .u64 0) := (blk_cell BK218.out 0).trans rfl; have hcz9_1 : w7.cell? ⟨gb218, 1, none⟩ = some (.int .u64 0) := (blk_cell BK218.out 1).trans rfl; have hfz9_0 := blk_frozen BK218.out 0; have hfz9_1 := blk_frozen BK218.out 1) | ((with_reducible refine gate_dst (N := 16) rfl ?_); refine Kd.R_lit (Kd.int .u8) _ 5 ?hg (N := 16) ?hd (xs := ([(IntKind.u64.wrap (48 + t216)) % 256] : List Int)) (inner := [.int .u8 ((IntKind.u64.wrap (48 + t216)) % 256)]) (ok := fun _ => True) (okp := fun _ => True) ?hr ?hp (fun _ hk => hk) trivial (Below.refl _ _) (Nat.le_refl _) (by simp) ?_; (case hd => rfl); (case hg => rfl); (case hr => first | (go_simp; done) | (go_simp; rfl)); (case hp => exact (Reps.one (show Kd.M (Kd.int .u8) _ _ _ ((IntKind.u64.wrap (48 + t216)) % 256) [.int .u8 ((IntKind.u64.wrap (48 + t216)) % 256)] from rfl) (Reps.none _ _))); intro v220 w10 ho11 hb hg_ hnew_; clear hg_ hnew_; (first | rw [← Ny219.out] at ho11 | (simp only [Int.reduceToNat] at ho11; rw [← Ny219.out] at ho11)); have HO221 := Aside0.mk (Kd.R_lower ho11 (below_size (bl2 HB.out GE213.out GE218.out))); replace BK213 := Aside0.mk (blk_below (g := gb213) (o := .cells #[.int .u64 a0_0, .int .u64 a0_1] 24 (0, 0)) (by (with_reducible repeat (first | refine blk_drewN ?_ _ | refine blk_drew ?_ | refine blk_alloc ?_ _)); refine blk_far ?_ NB213_218.out _; (with_reducible repeat (first | refine blk_drewN ?_ _ | refine blk_drew ?_ | refine blk_alloc ?_ _)); refine blk_far ?_ NB213_218.out _; (with_reducible repeat (first | refine blk_drewN ?_ _ | refine blk_drew ?_ | refine blk_alloc ?_ _)); exact BK213.out) hb); replace BK218 := Aside0.mk (blk_below (g := gb218) (o := .cells #[.int .u64 t214, .int .u64 t215] 24 (0, 0)) (bk (blk_put (cs := #[.int .u64 t214, .int .u64 0]) (bk (blk_put (cs := #[.int .u64 0, .int .u64 0]) (bk BK218.out) 0 _ rfl)) 1 _ rfl)) hb); replace HB := Aside0.mk (below_step (bl2 HB.out GE213.out GE218.out) hb); clear hb ho11; have hcv12 := own_string (P := Try.prog) Try.underlying52 Try.underlying5 Try.underlying9 (Kd.own_of_R HO221.out); have hcz13_0 : w10.cell? ⟨gb218, 0, none⟩ = some (.int .u64 t214) := (blk_cell BK218.out 0).trans rfl; have hcz13_1 : w10.cell? ⟨gb218, 1, none⟩ = some (.int .u64 t215) := (blk_cell BK218.out 1).trans rfl; have hfz13_0 := blk_frozen BK218.out 0; have hfz13_1 := blk_frozen BK218.out 1))
  go_ret
  exact ⟨by first | rfl | (simp [errW_none, errW_some] <;> rfl) | (simp [*, errW_none, errW_some] <;> rfl), bl2 HB.out GE213.out GE218.out⟩
 ·rw [if_neg c3] at H
  have c3b0 : (t214 == 0 && (t215 == 0)) = false := by simpa using c3
  (try (have c3b1 : decide (t214 = 0 && (t215 == 0)) = false := by simpa using c3))
  (try (have c3b2 : (t214 == 0 && (t215 == 0)) = false := by simpa using c3))
  (try (have c3b3 : ¬ (t214 = 0 && (t215 == 0)) := by simpa using c3))
  clear c3
  replace H := Option.bind_eq_some_iff.mp H
  obtain ⟨t222, A140, H⟩ := H
  replace H : (if t222.size + (strOfNums y219).size ≤ 9223372036854775807 then (some (t222 ++ (strOfNums y219))) else (none)) = some r := H
  have A14 := Aside0.mk A140
  clear A140
  by_cases c15 : t222.size + (strOfNums y219).size ≤ 9223372036854775807
  ·rw [if_pos c15] at H
   have c15b0 := eq_true c15
   have c15b1 : decide (t222.size + (strOfNums y219).size ≤ 9223372036854775807) = true := decide_eq_true c15
   try have c15b2 : (9223372036854775807 < t222.size + (strOfNums y219).size) = False := eq_false (Nat.not_lt.2 c15)
   obtain rfl := Option.some.inj H
   go_enter Try.func9, Try.ntmps9
   go_wp2_with (first | ((with_reducible refine gate_dst (N := 1) rfl ?_); refine be 1 (#[.int .u64 a0_0, .int .u64 a0_1]) 24 ?_; intro gb213 hg w16 hbox hb; have BK213 := Aside0.mk (hbox); have GW213 := Aside0.mk ((by rw [hg]; exact (below_size (bl0 HB.out)) : w.heap.size ≤ gb213)); have GE213 := GW213; replace HB := Aside0.mk (below_step (bl0 HB.out) hb); clear hb hbox hg; have hcz17_0 : w16.cell? ⟨gb213, 0, none⟩ = some (.int .u64 a0_0) := (blk_cell BK213.out 0).trans rfl; have hcz17_1 : w16.cell? ⟨gb213, 1, none⟩ = some (.int .u64 a0_1) := (blk_cell BK213.out 1).trans rfl; have hfz17_0 := blk_frozen BK213.out 0; have hfz17_1 := blk_frozen BK213.out 1) | ((with_reducible refine gate_callee (f := 11) rfl ?_); refine goesL_ (some 9) rfl rfl Try.func11 (by kernel_rfl) rfl #[.agg #[.int .u64 a0_0, .int .u64 a0_1], .int .u64 10] rfl am ?_; (with_reducible refine (pochoirref01_Div.calls k a0_0 a0_1 10 t214 t215 t216 t217 _ A2.out).mono ?_); rintro e w18 ⟨rfl, hb⟩; refine ⟨_, rfl, ?_⟩; replace BK213 := Aside0.mk (bb BK213.out hb); replace HB := Aside0.mk (below_step (bl1 HB.out GE213.out) hb); (try clear hb); (try clear hb2); (try clear hk); (try clear hi)) | ((with_reducible refine gate_dst (N := 3) rfl ?_); refine be 3 (#[.int .u64 0, .int .u64 0]) 24 ?_; intro gb218 hg w19 hbox hb; have BK218 := Aside0.mk (hbox); have GW218 := Aside0.mk ((by rw [hg]; exact (below_size (bl1 HB.out GE213.out)) : w.heap.size ≤ gb218)); have GE218 := GW218; have NB213_218 := Aside0.mk ((by rw [hg]; exact Nat.ne_of_lt (lt_ BK213.out) : gb213 ≠ gb218)); have NB218_213 := Aside0.mk ((by rw [hg]; exact Nat.ne_of_gt (lt_ BK213.out) : gb218 ≠ gb213)); replace BK213 := Aside0.mk (bb BK213.out hb); replace HB := Aside0.mk (below_step (bl1 HB.out GE213.out) hb); clear hb hbox hg; have hnb20 := NB218_213.out; have hnc20 := NB213_218.out; have hcz21_0 : w19.cell? ⟨gb218, 0, none⟩ = some (.int .u64 0) := (blk_cell BK218.out 0).trans rfl; have hcz21_1 : w19.cell? ⟨gb218, 1, none⟩ = some (.int .u64 0) := (blk_cell BK218.out 1).trans rfl; have hfz21_0 := blk_frozen BK218.out 0; have hfz21_1 := blk_frozen BK218.out 1) | ((with_reducible refine gate_dst (N := 16) rfl ?_); refine Kd.R_lit (Kd.int .u8) _ 5 ?hg (N := 16) ?hd (xs := ([(IntKind.u64.wrap (48 + t216)) % 256] : List Int)) (inner := [.int .u8 ((IntKind.u64.wrap (48 + t216)) % 256)]) (ok := fun _ => True) (okp := fun _ => True) ?hr ?hp (fun _ hk => hk) trivial (Below.refl _ _) (Nat.le_refl _) (by simp) ?_; (case hd => rfl); (case hg => rfl); (case hr => first | (go_simp; done) | (go_simp; rfl)); (case hp => exact (Reps.one (show Kd.M (Kd.int .u8) _ _ _ ((IntKind.u64.wrap (48 + t216)) % 256) [.int .u8 ((IntKind.u64.wrap (48 + t216)) % 256)] from rfl) (Reps.none _ _))); intro v220 w22 ho23 hb hg_ hnew_; clear hg_ hnew_; (first | rw [← Ny219.out] at ho23 | (simp only [Int.reduceToNat] at ho23; rw [← Ny219.out] at ho23)); have HO221 := Aside0.mk (Kd.R_lower ho23 (below_size (bl2 HB.out GE213.out GE218.out))); replace BK213 := Aside0.mk (blk_below (g := gb213) (o := .cells #[.int .u64 a0_0, .int .u64 a0_1] 24 (0, 0)) (by (with_reducible repeat (first | refine blk_drewN ?_ _ | refine blk_drew ?_ | refine blk_alloc ?_ _)); refine blk_far ?_ NB213_218.out _; (with_reducible repeat (first | refine blk_drewN ?_ _ | refine blk_drew ?_ | refine blk_alloc ?_ _)); refine blk_far ?_ NB213_218.out _; (with_reducible repeat (first | refine blk_drewN ?_ _ | refine blk_drew ?_ | refine blk_alloc ?_ _)); exact BK213.out) hb); replace BK218 := Aside0.mk (blk_below (g := gb218) (o := .cells #[.int .u64 t214, .int .u64 t215] 24 (0, 0)) (bk (blk_put (cs := #[.int .u64 t214, .int .u64 0]) (bk (blk_put (cs := #[.int .u64 0, .int .u64 0]) (bk BK218.out) 0 _ rfl)) 1 _ rfl)) hb); replace HB := Aside0.mk (below_step (bl2 HB.out GE213.out GE218.out) hb); clear hb ho23; have hcv24 := own_string (P := Try.prog) Try.underlying52 Try.underlying5 Try.underlying9 (Kd.own_of_R HO221.out); have hcz25_0 : w22.cell? ⟨gb218, 0, none⟩ = some (.int .u64 t214) := (blk_cell BK218.out 0).trans rfl; have hcz25_1 : w22.cell? ⟨gb218, 1, none⟩ = some (.int .u64 t215) := (blk_cell BK218.out 1).trans rfl; have hfz25_0 := blk_frozen BK218.out 0; have hfz25_1 := blk_frozen BK218.out 1) | ((with_reducible refine gate_callee (f := 9) rfl ?_); refine goesL_ (some 23) rfl rfl Try.func9 (by kernel_rfl) rfl #[.agg #[.int .u64 t214, .int .u64 t215]] rfl am ?_; (with_reducible refine (ih k (by omega) t214 t215 t222 _ A14.out).mono ?_); rintro e w26 ⟨rfl, hb⟩; refine ⟨_, rfl, ?_⟩; replace HO221 := Aside0.mk (Kd.R_below (by (with_reducible repeat (first | apply Kd.R_alloc | apply Kd.R_drewN | apply Kd.R_drew)); exact HO221.out) hb); replace BK213 := Aside0.mk (bb BK213.out hb); replace BK218 := Aside0.mk (bb BK218.out hb); replace HB := Aside0.mk (below_step (bl2 HB.out GE213.out GE218.out) hb); (try clear hb); (try clear hb2); (try clear hk); (try clear hi)))
   go_ret
   exact ⟨by first | rfl | (simp [errW_none, errW_some] <;> rfl) | (simp [*, errW_none, errW_some] <;> rfl), bl2 HB.out GE213.out GE218.out⟩
  ·rw [if_neg c15] at H
   exact absurd H (by simp)

/-! ### pochoirlaw01_WideTexts: function 3 -/
def pochoirlaw01_WideTexts.f (k : Nat) (a0_0 : Int) (a0_1 : Int) : Option (Bool) := (pochoirlaw01_awake.f k).bind fun t224 => (if t224 = true then ((wide_Text.f k a0_0 a0_1).bind fun t225 => ((pochoirref01_Text.f k a0_0 a0_1).bind fun t226 => (some (t225.toList == t226.toList)))) else (some false))
theorem pochoirlaw01_WideTexts.mono : ∀ a0 a1 k, LeO (pochoirlaw01_WideTexts.f k a0 a1) (pochoirlaw01_WideTexts.f (k + 1) a0 a1) := by
 intro a0 a1 k
 unfold pochoirlaw01_WideTexts.f
 repeat' first
   | (with_reducible exact pochoirlaw01_awake.mono _)
   | (with_reducible exact pochoirref01_Text.mono _ _ _)
   | (with_reducible exact wide_Text.mono _ _ _)
   | (with_reducible exact LeO.refl _)
   | (with_reducible exact LeO.none _)
   | (with_reducible refine LeO.ite ?_ ?_)
   | (with_reducible refine LeO.bind ?_ (fun _ => ?_))
   | exact pochoirlaw01_awake.mono _
   | exact pochoirref01_Text.mono _ _ _
   | exact wide_Text.mono _ _ _
   | exact LeO.none _
   | refine LeO.ite ?_ ?_
   | refine LeO.bind ?_ (fun _ => ?_)
set_option maxHeartbeats 8000000 in
set_option maxRecDepth 100000 in
theorem pochoirlaw01_WideTexts.calls (k : Nat) (a0_0 : Int) (a0_1 : Int) (r : Bool) (w : World) (hq_ : r = true) (h : pochoirlaw01_WideTexts.f k a0_0 a0_1 = some r) :
  Calls Try.prog 3 #[.agg #[.int .u64 a0_0, .int .u64 a0_1]] w fun e w' => e = .returned (.bool r) ∧ Below w.heap.size w w' := by
 have hu24 := Try.underlying24
 have HB := Aside0.mk (Below.refl w.heap.size w)
 have HQ := Aside0.mk hq_
 clear hq_
 have H : ((pochoirlaw01_awake.f k).bind fun t224 => (if t224 = true then ((wide_Text.f k a0_0 a0_1).bind fun t225 => ((pochoirref01_Text.f k a0_0 a0_1).bind fun t226 => (some (t225.toList == t226.toList)))) else (some false))) = some r := h
 clear h
 replace H := Option.bind_eq_some_iff.mp H
 obtain ⟨t224, A20, H⟩ := H
 replace H : (if t224 = true then ((wide_Text.f k a0_0 a0_1).bind fun t225 => ((pochoirref01_Text.f k a0_0 a0_1).bind fun t226 => (some (t225.toList == t226.toList)))) else (some false)) = some r := H
 have A2 := Aside0.mk A20
 clear A20
 by_cases c3 : t224 = true
 ·subst c3
  have H1 : ((wide_Text.f k a0_0 a0_1).bind fun t225 => ((pochoirref01_Text.f k a0_0 a0_1).bind fun t226 => (some (t225.toList == t226.toList)))) = some r := by rw [if_pos rfl] at H; exact H
  clear H
  have H := H1
  clear H1
  replace H := Option.bind_eq_some_iff.mp H
  obtain ⟨t225, A40, H⟩ := H
  replace H : ((pochoirref01_Text.f k a0_0 a0_1).bind fun t226 => (some (t225.toList == t226.toList))) = some r := H
  have A4 := Aside0.mk A40
  clear A40
  replace H := Option.bind_eq_some_iff.mp H
  obtain ⟨t226, A50, H⟩ := H
  replace H : (some (t225.toList == t226.toList)) = some r := H
  have A5 := Aside0.mk A50
  clear A50
  obtain rfl := Option.some.inj H
  go_enter Try.func3, Try.ntmps3
  try go_wp2_with (first | ((with_reducible refine gate_dst (N := 1) rfl ?_); refine be 1 (#[.int .u64 a0_0, .int .u64 a0_1]) 24 ?_; intro gb223 hg w6 hbox hb; have BK223 := Aside0.mk (hbox); have GW223 := Aside0.mk ((by rw [hg]; exact (below_size (bl0 HB.out)) : w.heap.size ≤ gb223)); have GE223 := GW223; replace HB := Aside0.mk (below_step (bl0 HB.out) hb); clear hb hbox hg) | ((with_reducible refine gate_callee (f := 7) rfl ?_); refine goesL_ (some 3) rfl rfl Try.func7 (by kernel_rfl) rfl #[] rfl am ?_; (with_reducible refine (pochoirlaw01_awake.calls k  true _ A2.out).mono ?_); rintro e w7 ⟨rfl, hb⟩; refine ⟨_, rfl, ?_⟩; replace BK223 := Aside0.mk (bb BK223.out hb); replace HB := Aside0.mk (below_step (bl1 HB.out GE223.out) hb); (try clear hb); (try clear hb2); (try clear hk); (try clear hi)))
  replace BK223 := Aside0.mk (blk_drew BK223.out)
  replace HB := Aside0.mk (below_drew1 HB.out)
  refine start_ (n := 6) (S := fun w' => w'.cell? ⟨gb223, 0, none⟩ = some (.int .u64 a0_0) ∧ w'.cell? ⟨gb223, 1, none⟩ = some (.int .u64 a0_1)) (ds := []) (ba 6 0) (by kernel_rfl) rfl rfl ⟨(blk_cell BK223.out 0).trans rfl, (blk_cell BK223.out 1).trans rfl⟩ (fun hHeld => ?_)
  generalize w7.drew = w8 at BK223 HB hHeld ⊢
  refine take_ (i := 0) (N := some 5) (v := ?_) (a' := ?_) (ba 6 1) rfl rfl (by kernel_rfl) (fun _ _ _ h => h) (Or.inl ⟨by rfl, ?_⟩) hHeld ?_ ?_
  rotate_left
  ·rintro w' ⟨s0, s1⟩
   go_simp
   with_reducible rfl
  rotate_left
  ·simp only [Act.put, List.setIfInBounds_toArray, List.set_cons_zero, List.set_cons_succ, i64_w, i32_w]
   rfl
  refine take_ (i := 2) (N := some 7) (v := ?_) (a' := ?_) (ba 6 5) rfl rfl (by kernel_rfl) (fun _ _ _ h => h) (Or.inl ⟨by rfl, ?_⟩) hHeld ?_ ?_
  rotate_left
  ·rintro w' ⟨s0, s1⟩
   go_simp
   with_reducible rfl
  rotate_left
  ·simp only [Act.put, List.setIfInBounds_toArray, List.set_cons_zero, List.set_cons_succ, i64_w, i32_w]
   rfl
  refine one_ (i := 1) (N := some 6) (ba 6 7) rfl rfl (by kernel_rfl) (by decide) (fun K hK => ?_)
  refine goes_ Try.func8 (by kernel_rfl) rfl #[.agg #[.int .u64 a0_0, .int .u64 a0_1]] (by rfl) rfl rfl am ?_
  with_reducible refine (wide_Text.calls k a0_0 a0_1 t225 _ A4.out).mono ?_
  rintro e w9 ⟨rfl, hb⟩
  refine ⟨_, rfl, ?_⟩
  replace BK223 := Aside0.mk (bb BK223.out hb)
  replace HB := Aside0.mk (below_step (bl1 HB.out GE223.out) hb)
  (try clear hb)
  (try clear hb2)
  (try clear hk)
  (try clear hi)
  refine hK.out _ _ ⟨(blk_cell BK223.out 0).trans rfl, (blk_cell BK223.out 1).trans rfl⟩ (fun hHeld => ?_)
  clear hK K
  refine norm_ (a' := ?_) ?_ ?_
  rotate_left
  ·show Act.put _ (some 6) _ = _
   simp only [Act.put, List.setIfInBounds_toArray, List.set_cons_zero, List.set_cons_succ, i64_w, i32_w]
   rfl
  refine one_ (i := 3) (N := some 8) (ba 6 15) rfl rfl (by kernel_rfl) (by decide) (fun K hK => ?_)
  refine goes_ Try.func9 (by kernel_rfl) rfl #[.agg #[.int .u64 a0_0, .int .u64 a0_1]] (by rfl) rfl rfl am ?_
  with_reducible refine (pochoirref01_Text.calls k a0_0 a0_1 t226 _ A5.out).mono ?_
  rintro e w10 ⟨rfl, hb⟩
  refine ⟨_, rfl, ?_⟩
  replace BK223 := Aside0.mk (bb BK223.out hb)
  replace HB := Aside0.mk (below_step (bl1 HB.out GE223.out) hb)
  (try clear hb)
  (try clear hb2)
  (try clear hk)
  (try clear hi)
  refine hK.out _ _ ⟨(blk_cell BK223.out 0).trans rfl, (blk_cell BK223.out 1).trans rfl⟩ (fun hHeld => ?_)
  clear hK K
  refine norm_ (a' := ?_) ?_ ?_
  rotate_left
  ·show Act.put _ (some 8) _ = _
   simp only [Act.put, List.setIfInBounds_toArray, List.set_cons_zero, List.set_cons_succ, i64_w, i32_w]
   rfl
  refine pure_ (i := 4) (N := some 9) (v := ?_) (a' := ?_) (ba 6 31) rfl rfl (by kernel_rfl) (fun _ _ _ h => h) (Or.inl ⟨by rfl, ?_⟩) ?_ ?_
  rotate_left
  ·intro w'
   go_simp
   with_reducible rfl
  rotate_left
  ·simp only [Act.put, List.setIfInBounds_toArray, List.set_cons_zero, List.set_cons_succ, i64_w, i32_w]
   rfl
  refine pure_ (i := 5) (N := some 2) (v := ?_) (a' := ?_) (ba 6 63) rfl rfl (by kernel_rfl) (fun _ _ _ h => h) (Or.inl ⟨by rfl, ?_⟩) ?_ ?_
  rotate_left
  ·intro w'
   go_simp
   with_reducible rfl
  rotate_left
  ·simp only [Act.put, List.setIfInBounds_toArray, List.set_cons_zero, List.set_cons_succ, i64_w, i32_w]
   rfl
  refine done_ (by kernel_rfl) ?_
  try go_wp2
  go_ret
  exact ⟨by first | rfl | (simp [errW_none, errW_some] <;> rfl) | (simp [*, errW_none, errW_some] <;> rfl), bl1 HB.out GE223.out⟩
 ·replace c3 := Bool.eq_false_iff.mpr c3
  subst c3
  have H1 : (some false) = some r := by rw [if_neg (show ¬ (false = true) by decide)] at H; exact H
  clear H
  have H := H1
  clear H1
  exact absurd (HQ.out ▸ H) (by simp)

/-- THE ONE PURE STATEMENT of pochoirlaw01_WideTexts. -/
def pochoirlaw01_WideTexts.Pure : Prop := ∀ (x0 : S24), wf24 x0 → ∃ k, pochoirlaw01_WideTexts.f k x0.f0 x0.f1 = some true

/-! ### wide_Scale: function 12 -/
def wide_Scale.f (a0_0 : Int) (a0_1 : Int) (a1 : Int) : Option (Int × Int × Int) := (wide_Mul.f a0_1 a1).bind fun bt229 => ((wide_Mul.f a0_0 a1).bind fun bt231 => (if bt231.1 = 0 then ((wide_Add.f bt229.1 bt229.2 bt231.2 0).bind fun bt235 => (some (bt235.1, bt235.2.1, bt235.2.2))) else (some (0, 0, 2))))
def wide_Scale.T1 : Bool × List (List Nat × List Nat) := (true, [([], []), ([0], [0]), ([], []), ([1, 2], [1, 2]), ([], []), ([4], [4]), ([], []), ([5, 6, 3], [5, 6]), ([], []), ([], []), ([8, 3, 7, 0, 1, 2, 3, 8, 9], [3, 8]), ([9, 7, 10, 0, 1, 2, 3, 4, 5, 6, 7, 8, 9, 10], [7, 9])])
def wide_Scale.B1 : List Nat := [0, 1, 0, 7, 0, 16, 0, 127, 0, 0, 1023, 2047]
theorem wide_Scale.tab1 : rtab .any (opsOf Try.f12 1) = wide_Scale.T1 := by kernel_rfl
theorem wide_Scale.bits1 : waitsOk wide_Scale.T1.2 wide_Scale.B1 = true := by kernel_rfl

end Go.Proofs.Ytjjnkadfoepflaa.XWide
