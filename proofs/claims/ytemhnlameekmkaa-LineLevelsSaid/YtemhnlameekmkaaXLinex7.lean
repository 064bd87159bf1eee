-- Printed by a program of this claim. Not trusted: Lean checks it.
import Derived.Test.YtemhnlameekmkaaXLinex0
import Derived.Test.YtemhnlameekmkaaXLinex3
import Derived.Test.YtemhnlameekmkaaXLinex5
import Derived.Test.YtemhnlameekmkaaXLinex6
namespace Go.Proofs.Ytemhnlameekmkaa.XLine
open Go.RowKit Go.Proofs.YtemhnlameekmkaaW.PrintWords Go.Proofs.YtemhnlameekmkaaW.PrintLast Go.Proofs.YtemhnlameekmkaaW.PrintMore
attribute [local go_sem] max2_int min2_int max_two min_two max_three min_three max_four min_four   -- for this text's walks alone
set_option linter.unusedVariables false
set_option linter.unusedSimpArgs false
open XOpen

/-! ### line_scale_beside: function 70 -/
def line_scale_beside.f (k : Nat) (a0_0 : Int) (a0_1 : Int) (a1_0 : Int) (a1_1 : Int) (a2_0 : Int) (a2_1 : Int) (a3_0 : Int) (a3_1 : Int) : Option (Int) := (plane_Cross.f k a2_0 a2_1 a3_0 a3_1 a1_0 a1_1).bind fun bt207 => ((plane_Far.f k a2_0 a2_1 a3_0 a3_1).bind fun bt209 => ((line_size.f bt207.1).bind fun t211 => ((line_size.f bt207.1).bind fun t212 => ((wide_Mul.f t211 t212).bind fun bt213 => ((wide_Of.f (IntKind.u64.wrap (bt209.1))).bind fun bt215 => ((line_scale_level.f k a0_0 a0_1 bt213.1 bt213.2 bt215.1 bt215.2).bind fun t217 => (some t217)))))))
theorem line_scale_beside.mono : ∀ a0 a1 a2 a3 a4 a5 a6 a7 k, LeO (line_scale_beside.f k a0 a1 a2 a3 a4 a5 a6 a7) (line_scale_beside.f (k + 1) a0 a1 a2 a3 a4 a5 a6 a7) := by
 intro a0 a1 a2 a3 a4 a5 a6 a7 k
 unfold line_scale_beside.f
 repeat' first
   | (with_reducible exact line_scale_level.mono _ _ _ _ _ _ _)
   | (with_reducible exact plane_Cross.mono _ _ _ _ _ _ _)
   | (with_reducible exact plane_Far.mono _ _ _ _ _)
   | (with_reducible exact LeO.refl _)
   | (with_reducible exact LeO.none _)
   | (with_reducible refine LeO.ite ?_ ?_)
   | (with_reducible refine LeO.bind ?_ (fun _ => ?_))
   | exact line_scale_level.mono _ _ _ _ _ _ _
   | exact plane_Cross.mono _ _ _ _ _ _ _
   | exact plane_Far.mono _ _ _ _ _
   | exact LeO.none _
   | refine LeO.ite ?_ ?_
   | refine LeO.bind ?_ (fun _ => ?_)
def line_scale_beside.T3 : Bool × List (List Nat × List Nat) := (true, [([], []), ([], []), ([1], [1]), ([], []), ([3, 2], [3]), ([2, 4, 4], [2, 4]), ([], []), ([6], [6]), ([7, 5], [7]), ([0, 5, 8, 8], [0, 5, 8]), ([9, 9, 0, 1, 2, 3, 4, 5, 6, 7, 8, 9], [9])])
def line_scale_beside.B3 : List Nat := [0, 0, 2, 0, 14, 30, 0, 64, 254, 511, 1023]
theorem line_scale_beside.tab3 : rtab .any (opsOf Try.f70 3) = line_scale_beside.T3 := by kernel_rfl
theorem line_scale_beside.bits3 : waitsOk line_scale_beside.T3.2 line_scale_beside.B3 = true := by kernel_rfl
set_option maxHeartbeats 8000000 in
set_option maxRecDepth 100000 in
theorem line_scale_beside.calls (k : Nat) (a0_0 : Int) (a0_1 : Int) (a1_0 : Int) (a1_1 : Int) (a2_0 : Int) (a2_1 : Int) (a3_0 : Int) (a3_1 : Int) (r : Int) (w : World) (h : line_scale_beside.f k a0_0 a0_1 a1_0 a1_1 a2_0 a2_1 a3_0 a3_1 = some r) :
  Calls Try.prog 70 #[.agg #[.int .i64 a0_0, .int .i64 a0_1], .agg #[.int .i64 a1_0, .int .i64 a1_1], .agg #[.int .i64 a2_0, .int .i64 a2_1], .agg #[.int .i64 a3_0, .int .i64 a3_1]] w fun e w' => e = .returned (.int .i64 r) ∧ Below w.heap.size w w' := by
 have hu89 := Try.underlying89
 have hu26 := Try.underlying26
 have HB := Aside0.mk (Below.refl w.heap.size w)
 have H : ((plane_Cross.f k a2_0 a2_1 a3_0 a3_1 a1_0 a1_1).bind fun bt207 => ((plane_Far.f k a2_0 a2_1 a3_0 a3_1).bind fun bt209 => ((line_size.f bt207.1).bind fun t211 => ((line_size.f bt207.1).bind fun t212 => ((wide_Mul.f t211 t212).bind fun bt213 => ((wide_Of.f (IntKind.u64.wrap (bt209.1))).bind fun bt215 => ((line_scale_level.f k a0_0 a0_1 bt213.1 bt213.2 bt215.1 bt215.2).bind fun t217 => (some t217)))))))) = some r := h
 clear h
 replace H := Option.bind_eq_some_iff.mp H
 obtain ⟨⟨t207, t208⟩, A50, H⟩ := H
 replace H : ((plane_Far.f k a2_0 a2_1 a3_0 a3_1).bind fun bt209 => ((line_size.f t207).bind fun t211 => ((line_size.f t207).bind fun t212 => ((wide_Mul.f t211 t212).bind fun bt213 => ((wide_Of.f (IntKind.u64.wrap (bt209.1))).bind fun bt215 => ((line_scale_level.f k a0_0 a0_1 bt213.1 bt213.2 bt215.1 bt215.2).bind fun t217 => (some t217))))))) = some r := H
 have A5 := Aside0.mk A50
 clear A50
 replace H := Option.bind_eq_some_iff.mp H
 obtain ⟨⟨t209, t210⟩, A60, H⟩ := H
 replace H : ((line_size.f t207).bind fun t211 => ((line_size.f t207).bind fun t212 => ((wide_Mul.f t211 t212).bind fun bt213 => ((wide_Of.f (IntKind.u64.wrap (t209))).bind fun bt215 => ((line_scale_level.f k a0_0 a0_1 bt213.1 bt213.2 bt215.1 bt215.2).bind fun t217 => (some t217)))))) = some r := H
 have A6 := Aside0.mk A60
 clear A60
 replace H := Option.bind_eq_some_iff.mp H
 obtain ⟨t211, A70, H⟩ := H
 replace H : ((line_size.f t207).bind fun t212 => ((wide_Mul.f t211 t212).bind fun bt213 => ((wide_Of.f (IntKind.u64.wrap (t209))).bind fun bt215 => ((line_scale_level.f k a0_0 a0_1 bt213.1 bt213.2 bt215.1 bt215.2).bind fun t217 => (some t217))))) = some r := H
 have A7 := Aside0.mk A70
 clear A70
 replace H := Option.bind_eq_some_iff.mp H
 obtain ⟨t212, A80, H⟩ := H
 replace H : ((wide_Mul.f t211 t212).bind fun bt213 => ((wide_Of.f (IntKind.u64.wrap (t209))).bind fun bt215 => ((line_scale_level.f k a0_0 a0_1 bt213.1 bt213.2 bt215.1 bt215.2).bind fun t217 => (some t217)))) = some r := H
 have A8 := Aside0.mk A80
 clear A80
 replace H := Option.bind_eq_some_iff.mp H
 obtain ⟨⟨t213, t214⟩, A90, H⟩ := H
 replace H : ((wide_Of.f (IntKind.u64.wrap (t209))).bind fun bt215 => ((line_scale_level.f k a0_0 a0_1 t213 t214 bt215.1 bt215.2).bind fun t217 => (some t217))) = some r := H
 have A9 := Aside0.mk A90
 clear A90
 replace H := Option.bind_eq_some_iff.mp H
 obtain ⟨⟨t215, t216⟩, A100, H⟩ := H
 replace H : ((line_scale_level.f k a0_0 a0_1 t213 t214 t215 t216).bind fun t217 => (some t217)) = some r := H
 have A10 := Aside0.mk A100
 clear A100
 replace H := Option.bind_eq_some_iff.mp H
 obtain ⟨t217, A110, H⟩ := H
 replace H : (some t217) = some r := H
 have A11 := Aside0.mk A110
 clear A110
 obtain rfl := Option.some.inj H
 go_enter Try.func70, Try.ntmps70
 try go_wp2_with (first | ((with_reducible refine gate_dst (N := 4) rfl ?_); refine be 4 (#[.int .i64 a0_0, .int .i64 a0_1]) 89 ?_; intro gb203 hg w12 hbox hb; have BK203 := Aside0.mk (hbox); have GW203 := Aside0.mk ((by rw [hg]; exact (below_size (bl0 HB.out)) : w.heap.size ≤ gb203)); have GE203 := GW203; replace HB := Aside0.mk (below_step (bl0 HB.out) hb); clear hb hbox hg) | ((with_reducible refine gate_dst (N := 5) rfl ?_); refine be 5 (#[.int .i64 a1_0, .int .i64 a1_1]) 26 ?_; intro gb204 hg w13 hbox hb; have BK204 := Aside0.mk (hbox); have GW204 := Aside0.mk ((by rw [hg]; exact (below_size (bl1 HB.out GE203.out)) : w.heap.size ≤ gb204)); have GE204 := GW204; have NB203_204 := Aside0.mk ((by rw [hg]; exact Nat.ne_of_lt (lt_ BK203.out) : gb203 ≠ gb204)); have NB204_203 := Aside0.mk ((by rw [hg]; exact Nat.ne_of_gt (lt_ BK203.out) : gb204 ≠ gb203)); replace BK203 := Aside0.mk (bb BK203.out hb); replace HB := Aside0.mk (below_step (bl1 HB.out GE203.out) hb); clear hb hbox hg) | ((with_reducible refine gate_dst (N := 6) rfl ?_); refine be 6 (#[.int .i64 a2_0, .int .i64 a2_1]) 26 ?_; intro gb205 hg w14 hbox hb; have BK205 := Aside0.mk (hbox); have GW205 := Aside0.mk ((by rw [hg]; exact (below_size (bl2 HB.out GE203.out GE204.out)) : w.heap.size ≤ gb205)); have GE205 := GW205; have NB203_205 := Aside0.mk ((by rw [hg]; exact Nat.ne_of_lt (lt_ BK203.out) : gb203 ≠ gb205)); have NB205_203 := Aside0.mk ((by rw [hg]; exact Nat.ne_of_gt (lt_ BK203.out) : gb205 ≠ gb203)); have NB204_205 := Aside0.mk ((by rw [hg]; exact Nat.ne_of_lt (lt_ BK204.out) : gb204 ≠ gb205)); have NB205_204 := Aside0.mk ((by rw [hg]; exact Nat.ne_of_gt (lt_ BK204.out) : gb205 ≠ gb204)); replace BK203 := Aside0.mk (bb BK203.out hb); replace BK204 := Aside0.mk (bb BK204.out hb); replace HB := Aside0.mk (below_step (bl2 HB.out GE203.out GE204.out) hb); clear hb hbox hg) | ((with_reducible refine gate_dst (N := 7) rfl ?_); refine be 7 (#[.int .i64 a3_0, .int .i64 a3_1]) 26 ?_; intro gb206 hg w15 hbox hb; have BK206 := Aside0.mk (hbox); have GW206 := Aside0.mk ((by rw [hg]; exact (below_size (bl3 HB.out GE203.out GE204.out GE205.out)) : w.heap.size ≤ gb206)); have GE206 := GW206; have NB203_206 := Aside0.mk ((by rw [hg]; exact Nat.ne_of_lt (lt_ BK203.out) : gb203 ≠ gb206)); have NB206_203 := Aside0.mk ((by rw [hg]; exact Nat.ne_of_gt (lt_ BK203.out) : gb206 ≠ gb203)); have NB204_206 := Aside0.mk ((by rw [hg]; exact Nat.ne_of_lt (lt_ BK204.out) : gb204 ≠ gb206)); have NB206_204 := Aside0.mk ((by rw [hg]; exact Nat.ne_of_gt (lt_ BK204.out) : gb206 ≠ gb204)); have NB205_206 := Aside0.mk ((by rw [hg]; exact Nat.ne_of_lt (lt_ BK205.out) : gb205 ≠ gb206)); have NB206_205 := Aside0.mk ((by rw [hg]; exact Nat.ne_of_gt (lt_ BK205.out) : gb206 ≠ gb205)); replace BK203 := Aside0.mk (bb BK203.out hb); replace BK204 := Aside0.mk (bb BK204.out hb); replace BK205 := Aside0.mk (bb BK205.out hb); replace HB := Aside0.mk (below_step (bl3 HB.out GE203.out GE204.out GE205.out) hb); clear hb hbox hg; have hnb16 := NB205_203.out; have hnc16 := NB203_205.out; have hnb17 := NB205_204.out; have hnc17 := NB204_205.out; have hnb18 := NB205_206.out; have hnc18 := NB206_205.out; have hcz19_0 : w15.cell? ⟨gb205, 0, none⟩ = some (.int .i64 a2_0) := (blk_cell BK205.out 0).trans rfl; have hcz19_1 : w15.cell? ⟨gb205, 1, none⟩ = some (.int .i64 a2_1) := (blk_cell BK205.out 1).trans rfl; have hfz19_0 := blk_frozen BK205.out 0; have hfz19_1 := blk_frozen BK205.out 1; have hnb20 := NB206_203.out; have hnc20 := NB203_206.out; have hnb21 := NB206_204.out; have hnc21 := NB204_206.out; have hcz22_0 : w15.cell? ⟨gb206, 0, none⟩ = some (.int .i64 a3_0) := (blk_cell BK206.out 0).trans rfl; have hcz22_1 : w15.cell? ⟨gb206, 1, none⟩ = some (.int .i64 a3_1) := (blk_cell BK206.out 1).trans rfl; have hfz22_0 := blk_frozen BK206.out 0; have hfz22_1 := blk_frozen BK206.out 1; have hnb23 := NB204_203.out; have hnc23 := NB203_204.out; have hcz24_0 : w15.cell? ⟨gb204, 0, none⟩ = some (.int .i64 a1_0) := (blk_cell BK204.out 0).trans rfl; have hcz24_1 : w15.cell? ⟨gb204, 1, none⟩ = some (.int .i64 a1_1) := (blk_cell BK204.out 1).trans rfl; have hfz24_0 := blk_frozen BK204.out 0; have hfz24_1 := blk_frozen BK204.out 1) | ((with_reducible refine gate_callee (f := 13) rfl ?_); refine goesL_ (some 17) rfl rfl Try.func13 (by kernel_rfl) rfl #[.agg #[.int .i64 a2_0, .int .i64 a2_1], .agg #[.int .i64 a3_0, .int .i64 a3_1], .agg #[.int .i64 a1_0, .int .i64 a1_1]] rfl am ?_; (with_reducible refine (plane_Cross.calls k a2_0 a2_1 a3_0 a3_1 a1_0 a1_1 t207 t208 _ A5.out).mono ?_); rintro e w25 ⟨rfl, hb⟩; refine ⟨_, rfl, ?_⟩; replace BK203 := Aside0.mk (bb BK203.out hb); replace BK204 := Aside0.mk (bb BK204.out hb); replace BK205 := Aside0.mk (bb BK205.out hb); replace BK206 := Aside0.mk (bb BK206.out hb); replace HB := Aside0.mk (below_step (bl4 HB.out GE203.out GE204.out GE205.out GE206.out) hb); (try clear hb); (try clear hb2); (try clear hk); (try clear hi); have hcz26_0 : w25.cell? ⟨gb205, 0, none⟩ = some (.int .i64 a2_0) := (blk_cell BK205.out 0).trans rfl; have hcz26_1 : w25.cell? ⟨gb205, 1, none⟩ = some (.int .i64 a2_1) := (blk_cell BK205.out 1).trans rfl; have hfz26_0 := blk_frozen BK205.out 0; have hfz26_1 := blk_frozen BK205.out 1; have hcz27_0 : w25.cell? ⟨gb206, 0, none⟩ = some (.int .i64 a3_0) := (blk_cell BK206.out 0).trans rfl; have hcz27_1 : w25.cell? ⟨gb206, 1, none⟩ = some (.int .i64 a3_1) := (blk_cell BK206.out 1).trans rfl; have hfz27_0 := blk_frozen BK206.out 0; have hfz27_1 := blk_frozen BK206.out 1) | ((with_reducible refine gate_callee (f := 14) rfl ?_); refine goesL_ (some 23) rfl rfl Try.func14 (by kernel_rfl) rfl #[.agg #[.int .i64 a2_0, .int .i64 a2_1], .agg #[.int .i64 a3_0, .int .i64 a3_1]] rfl am ?_; (with_reducible refine (plane_Far.calls k a2_0 a2_1 a3_0 a3_1 t209 t210 _ A6.out).mono ?_); rintro e w28 ⟨rfl, hb⟩; refine ⟨_, rfl, ?_⟩; replace BK203 := Aside0.mk (bb BK203.out hb); replace BK204 := Aside0.mk (bb BK204.out hb); replace BK205 := Aside0.mk (bb BK205.out hb); replace BK206 := Aside0.mk (bb BK206.out hb); replace HB := Aside0.mk (below_step (bl4 HB.out GE203.out GE204.out GE205.out GE206.out) hb); (try clear hb); (try clear hb2); (try clear hk); (try clear hi)))
 replace BK203 := Aside0.mk (blk_drew BK203.out)
 replace BK204 := Aside0.mk (blk_drew BK204.out)
 replace BK205 := Aside0.mk (blk_drew BK205.out)
 replace BK206 := Aside0.mk (blk_drew BK206.out)
 replace HB := Aside0.mk (below_drew1 HB.out)
 refine start_ (n := 11) (S := fun w' => w'.cell? ⟨gb203, 0, none⟩ = some (.int .i64 a0_0) ∧ w'.cell? ⟨gb203, 1, none⟩ = some (.int .i64 a0_1)) (ds := []) (ba 11 0) (by kernel_rfl) rfl rfl ⟨(blk_cell BK203.out 0).trans rfl, (blk_cell BK203.out 1).trans rfl⟩ (fun hHeld => ?_); refine with_tabW line_scale_beside.tab3 line_scale_beside.bits3 (fun HT_ HW_ => ?_)
 generalize w28.drew = w29 at BK203 BK204 BK205 BK206 HB hHeld ⊢
 refine pI 1 27 (ba 11 2) HT_.out ?_
 refine pI 3 29 (ba 11 10) HT_.out ?_
 refine pI 6 32 (ba 11 74) HT_.out ?_
 refine pI 7 33 (ba 11 202) HT_.out ?_
 refine take_ (i := 0) (N := some 26) (v := ?_) (a' := ?_) (ba 11 203) rfl rfl (take_ofW HT_.out HW_.out (by kernel_rfl)) (fun _ _ _ h => h) (Or.inl ⟨by rfl, ?_⟩) hHeld ?_ ?_
 rotate_left
 ·rintro w' ⟨s0, s1⟩
  go_simp
  with_reducible rfl
 rotate_left
 ·simp only [Act.put, List.setIfInBounds_toArray, List.set_cons_zero, List.set_cons_succ, i64_w, i32_w]
  rfl
 refine one_ (i := 2) (N := some 28) (ba 11 207) rfl rfl (one_of HT_.out (by kernel_rfl)) (by decide) (fun K hK => ?_)
 refine goes_ Try.func83 (by kernel_rfl) rfl #[.int .i64 t207] (by rfl) rfl rfl am ?_
 with_reducible refine (line_size.calls t207 t211 _ A7.out).mono ?_
 rintro e w30 ⟨rfl, hb⟩
 refine ⟨_, rfl, ?_⟩
 replace BK203 := Aside0.mk (bb BK203.out hb)
 replace BK204 := Aside0.mk (bb BK204.out hb)
 replace BK205 := Aside0.mk (bb BK205.out hb)
 replace BK206 := Aside0.mk (bb BK206.out hb)
 replace HB := Aside0.mk (below_step (bl4 HB.out GE203.out GE204.out GE205.out GE206.out) hb)
 (try clear hb)
 (try clear hb2)
 (try clear hk)
 (try clear hi)
 refine hK.out _ _ ⟨(blk_cell BK203.out 0).trans rfl, (blk_cell BK203.out 1).trans rfl⟩ (fun hHeld => ?_)
 clear hK K
 refine norm_ (a' := ?_) ?_ ?_
 rotate_left
 ·show Act.put _ (some 28) _ = _
  simp only [Act.put, List.setIfInBounds_toArray, List.set_cons_zero, List.set_cons_succ, i64_w, i32_w]
  rfl
 refine one_ (i := 4) (N := some 30) (ba 11 223) rfl rfl (one_of HT_.out (by kernel_rfl)) (by decide) (fun K hK => ?_)
 refine goes_ Try.func83 (by kernel_rfl) rfl #[.int .i64 t207] (by rfl) rfl rfl am ?_
 with_reducible refine (line_size.calls t207 t212 _ A8.out).mono ?_
 rintro e w31 ⟨rfl, hb⟩
 refine ⟨_, rfl, ?_⟩
 replace BK203 := Aside0.mk (bb BK203.out hb)
 replace BK204 := Aside0.mk (bb BK204.out hb)
 replace BK205 := Aside0.mk (bb BK205.out hb)
 replace BK206 := Aside0.mk (bb BK206.out hb)
 replace HB := Aside0.mk (below_step (bl4 HB.out GE203.out GE204.out GE205.out GE206.out) hb)
 (try clear hb)
 (try clear hb2)
 (try clear hk)
 (try clear hi)
 refine hK.out _ _ ⟨(blk_cell BK203.out 0).trans rfl, (blk_cell BK203.out 1).trans rfl⟩ (fun hHeld => ?_)
 clear hK K
 refine norm_ (a' := ?_) ?_ ?_
 rotate_left
 ·show Act.put _ (some 30) _ = _
  simp only [Act.put, List.setIfInBounds_toArray, List.set_cons_zero, List.set_cons_succ, i64_w, i32_w]
  rfl
 refine one_ (i := 5) (N := some 31) (ba 11 255) rfl rfl (one_of HT_.out (by kernel_rfl)) (by decide) (fun K hK => ?_)
 refine goes_ Try.func59 (by kernel_rfl) rfl #[.int .u64 t211, .int .u64 t212] (by rfl) rfl rfl am ?_
 with_reducible refine (wide_Mul.calls t211 t212 t213 t214 _ A9.out).mono ?_
 rintro e w32 ⟨rfl, hb⟩
 refine ⟨_, rfl, ?_⟩
 replace BK203 := Aside0.mk (bb BK203.out hb)
 replace BK204 := Aside0.mk (bb BK204.out hb)
 replace BK205 := Aside0.mk (bb BK205.out hb)
 replace BK206 := Aside0.mk (bb BK206.out hb)
 replace HB := Aside0.mk (below_step (bl4 HB.out GE203.out GE204.out GE205.out GE206.out) hb)
 (try clear hb)
 (try clear hb2)
 (try clear hk)
 (try clear hi)
 refine hK.out _ _ ⟨(blk_cell BK203.out 0).trans rfl, (blk_cell BK203.out 1).trans rfl⟩ (fun hHeld => ?_)
 clear hK K
 refine norm_ (a' := ?_) ?_ ?_
 rotate_left
 ·show Act.put _ (some 31) _ = _
  simp only [Act.put, List.setIfInBounds_toArray, List.set_cons_zero, List.set_cons_succ, i64_w, i32_w]
  rfl
 refine one_ (i := 8) (N := some 34) (ba 11 511) rfl rfl (one_of HT_.out (by kernel_rfl)) (by decide) (fun K hK => ?_)
 refine goes_ Try.func58 (by kernel_rfl) rfl #[.int .u64 (IntKind.u64.wrap (t209))] (by rfl) rfl rfl am ?_
 with_reducible refine (wide_Of.calls (IntKind.u64.wrap (t209)) t215 t216 _ A10.out).mono ?_
 rintro e w33 ⟨rfl, hb⟩
 refine ⟨_, rfl, ?_⟩
 replace BK203 := Aside0.mk (bb BK203.out hb)
 replace BK204 := Aside0.mk (bb BK204.out hb)
 replace BK205 := Aside0.mk (bb BK205.out hb)
 replace BK206 := Aside0.mk (bb BK206.out hb)
 replace HB := Aside0.mk (below_step (bl4 HB.out GE203.out GE204.out GE205.out GE206.out) hb)
 (try clear hb)
 (try clear hb2)
 (try clear hk)
 (try clear hi)
 refine hK.out _ _ ⟨(blk_cell BK203.out 0).trans rfl, (blk_cell BK203.out 1).trans rfl⟩ (fun hHeld => ?_)
 clear hK K
 refine norm_ (a' := ?_) ?_ ?_
 rotate_left
 ·show Act.put _ (some 34) _ = _
  simp only [Act.put, List.setIfInBounds_toArray, List.set_cons_zero, List.set_cons_succ, i64_w, i32_w]
  rfl
 refine one_ (i := 9) (N := some 35) (ba 11 1023) rfl rfl (one_of HT_.out (by kernel_rfl)) (by decide) (fun K hK => ?_)
 refine goes_ Try.func64 (by kernel_rfl) rfl #[.agg #[.int .i64 a0_0, .int .i64 a0_1], .agg #[.int .u64 t213, .int .u64 t214], .agg #[.int .u64 t215, .int .u64 t216]] (by rfl) rfl rfl am ?_
 with_reducible refine (line_scale_level.calls k a0_0 a0_1 t213 t214 t215 t216 t217 _ A11.out).mono ?_
 rintro e w34 ⟨rfl, hb⟩
 refine ⟨_, rfl, ?_⟩
 replace BK203 := Aside0.mk (bb BK203.out hb)
 replace BK204 := Aside0.mk (bb BK204.out hb)
 replace BK205 := Aside0.mk (bb BK205.out hb)
 replace BK206 := Aside0.mk (bb BK206.out hb)
 replace HB := Aside0.mk (below_step (bl4 HB.out GE203.out GE204.out GE205.out GE206.out) hb)
 (try clear hb)
 (try clear hb2)
 (try clear hk)
 (try clear hi)
 refine hK.out _ _ ⟨(blk_cell BK203.out 0).trans rfl, (blk_cell BK203.out 1).trans rfl⟩ (fun hHeld => ?_)
 clear hK K
 refine norm_ (a' := ?_) ?_ ?_
 rotate_left
 ·show Act.put _ (some 35) _ = _
  simp only [Act.put, List.setIfInBounds_toArray, List.set_cons_zero, List.set_cons_succ, i64_w, i32_w]
  rfl
 refine pI 10 8 (ba 11 2047) HT_.out ?_
 refine done_ (done_of HT_.out (by kernel_rfl)) ?_
 try go_wp2
 go_ret
 exact ⟨by first | rfl | (simp [errW_none, errW_some] <;> rfl) | (simp [*, errW_none, errW_some] <;> rfl), bl4 HB.out GE203.out GE204.out GE205.out GE206.out⟩

/-! ### line_Segment: function 41 -/
def line_Segment.f (k : Nat) (a0_0 : Int) (a0_1 : Int) (a1_0 : Int) (a1_1 : Int) (a2_0 : Int) (a2_1 : Int) (a3 : Int) (a4 : Int) : Option (Int × Int) := (line_scale_asked.f k a3 a4 (([(⟨a0_0, a0_1⟩ : S26), (⟨a1_0, a1_1⟩ : S26), (⟨a2_0, a2_1⟩ : S26)] : List (S26)))).bind fun t225 => (if t225 = 0 then ((line_ahead.f k a1_0 a1_1 a2_0 a2_1 a0_0 a0_1).bind fun t226 => (if t226 = true then ((line_scale_point.f k a3 a4 a0_0 a0_1 a1_0 a1_1).bind fun t227 => (some (t227, 0))) else ((line_ahead.f k a2_0 a2_1 a1_0 a1_1 a0_0 a0_1).bind fun t228 => (if t228 = true then ((line_scale_point.f k a3 a4 a0_0 a0_1 a2_0 a2_1).bind fun t229 => (some (t229, 0))) else ((line_scale_beside.f k a3 a4 a0_0 a0_1 a1_0 a1_1 a2_0 a2_1).bind fun t230 => (some (t230, 0))))))) else (some (0, t225)))
theorem line_Segment.mono : ∀ a0 a1 a2 a3 a4 a5 a6 a7 k, LeO (line_Segment.f k a0 a1 a2 a3 a4 a5 a6 a7) (line_Segment.f (k + 1) a0 a1 a2 a3 a4 a5 a6 a7) := by
 intro a0 a1 a2 a3 a4 a5 a6 a7 k
 unfold line_Segment.f
 repeat' first
   | (with_reducible exact line_ahead.mono _ _ _ _ _ _ _)
   | (with_reducible exact line_scale_asked.mono _ _ _ _)
   | (with_reducible exact line_scale_beside.mono _ _ _ _ _ _ _ _ _)
   | (with_reducible exact line_scale_point.mono _ _ _ _ _ _ _)
   | (with_reducible exact LeO.refl _)
   | (with_reducible exact LeO.none _)
   | (with_reducible refine LeO.ite ?_ ?_)
   | (with_reducible refine LeO.bind ?_ (fun _ => ?_))
   | exact line_ahead.mono _ _ _ _ _ _ _
   | exact line_scale_asked.mono _ _ _ _
   | exact line_scale_beside.mono _ _ _ _ _ _ _ _ _
   | exact line_scale_point.mono _ _ _ _ _ _ _
   | exact LeO.none _
   | refine LeO.ite ?_ ?_
   | refine LeO.bind ?_ (fun _ => ?_)
set_option maxHeartbeats 8000000 in
set_option maxRecDepth 100000 in
theorem line_Segment.calls (k : Nat) (a0_0 : Int) (a0_1 : Int) (a1_0 : Int) (a1_1 : Int) (a2_0 : Int) (a2_1 : Int) (a3 : Int) (a4 : Int) (r1 : Int) (r2 : Int) (w : World) (h : line_Segment.f k a0_0 a0_1 a1_0 a1_1 a2_0 a2_1 a3 a4 = some (r1, r2)) :
  Calls Try.prog 41 #[.agg #[.int .i64 a0_0, .int .i64 a0_1], .agg #[.int .i64 a1_0, .int .i64 a1_1], .agg #[.int .i64 a2_0, .int .i64 a2_1], .int .i64 a3, .int .i64 a4] w fun e w' => e = .returned (.tuple #[.int .i64 r1, .int .i64 r2]) ∧ Below w.heap.size w w' := by
 have hu26 := Try.underlying26
 have hu89 := Try.underlying89
 have HB := Aside0.mk (Below.refl w.heap.size w)
 have H : ((line_scale_asked.f k a3 a4 (([(⟨a0_0, a0_1⟩ : S26), (⟨a1_0, a1_1⟩ : S26), (⟨a2_0, a2_1⟩ : S26)] : List (S26)))).bind fun t225 => (if t225 = 0 then ((line_ahead.f k a1_0 a1_1 a2_0 a2_1 a0_0 a0_1).bind fun t226 => (if t226 = true then ((line_scale_point.f k a3 a4 a0_0 a0_1 a1_0 a1_1).bind fun t227 => (some (t227, 0))) else ((line_ahead.f k a2_0 a2_1 a1_0 a1_1 a0_0 a0_1).bind fun t228 => (if t228 = true then ((line_scale_point.f k a3 a4 a0_0 a0_1 a2_0 a2_1).bind fun t229 => (some (t229, 0))) else ((line_scale_beside.f k a3 a4 a0_0 a0_1 a1_0 a1_1 a2_0 a2_1).bind fun t230 => (some (t230, 0))))))) else (some (0, t225)))) = some (r1, r2) := h
 clear h
 obtain ⟨y222, hy222⟩ : ∃ y_ : List (S26), y_ = (([(⟨a0_0, a0_1⟩ : S26), (⟨a1_0, a1_1⟩ : S26), (⟨a2_0, a2_1⟩ : S26)] : List (S26))) := ⟨_, rfl⟩
 replace H : ((line_scale_asked.f k a3 a4 y222).bind fun t225 => (if t225 = 0 then ((line_ahead.f k a1_0 a1_1 a2_0 a2_1 a0_0 a0_1).bind fun t226 => (if t226 = true then ((line_scale_point.f k a3 a4 a0_0 a0_1 a1_0 a1_1).bind fun t227 => (some (t227, 0))) else ((line_ahead.f k a2_0 a2_1 a1_0 a1_1 a0_0 a0_1).bind fun t228 => (if t228 = true then ((line_scale_point.f k a3 a4 a0_0 a0_1 a2_0 a2_1).bind fun t229 => (some (t229, 0))) else ((line_scale_beside.f k a3 a4 a0_0 a0_1 a1_0 a1_1 a2_0 a2_1).bind fun t230 => (some (t230, 0))))))) else (some (0, t225)))) = some (r1, r2) := by first | (rw [hy222]; with_reducible exact H) | (have H2_ := (Option.bind_some _ _).symm.trans H; rw [hy222]; with_reducible exact H2_) | (have H2_ := (Option.bind_some _ _).symm.trans H; with_reducible exact H2_) | with_reducible exact H | (rw [hy222]; exact H) | exact H
 have Ny222 := Aside0.mk hy222
 clear hy222
 replace H := Option.bind_eq_some_iff.mp H
 obtain ⟨t225, A60, H⟩ := H
 replace H : (if t225 = 0 then ((line_ahead.f k a1_0 a1_1 a2_0 a2_1 a0_0 a0_1).bind fun t226 => (if t226 = true then ((line_scale_point.f k a3 a4 a0_0 a0_1 a1_0 a1_1).bind fun t227 => (some (t227, 0))) else ((line_ahead.f k a2_0 a2_1 a1_0 a1_1 a0_0 a0_1).bind fun t228 => (if t228 = true then ((line_scale_point.f k a3 a4 a0_0 a0_1 a2_0 a2_1).bind fun t229 => (some (t229, 0))) else ((line_scale_beside.f k a3 a4 a0_0 a0_1 a1_0 a1_1 a2_0 a2_1).bind fun t230 => (some (t230, 0))))))) else (some (0, t225))) = some (r1, r2) := H
 have A6 := Aside0.mk A60
 clear A60
 by_cases c7 : t225 = 0
 ·rw [if_pos c7] at H
  have c7b0 : (t225 == 0) = true := beq_iff_eq.mpr c7
  have c7b1 : (t225 != 0) = false := bne_eq_false_iff_eq.mpr c7
  clear c7
  replace H := Option.bind_eq_some_iff.mp H
  obtain ⟨t226, A80, H⟩ := H
  replace H : (if t226 = true then ((line_scale_point.f k a3 a4 a0_0 a0_1 a1_0 a1_1).bind fun t227 => (some (t227, 0))) else ((line_ahead.f k a2_0 a2_1 a1_0 a1_1 a0_0 a0_1).bind fun t228 => (if t228 = true then ((line_scale_point.f k a3 a4 a0_0 a0_1 a2_0 a2_1).bind fun t229 => (some (t229, 0))) else ((line_scale_beside.f k a3 a4 a0_0 a0_1 a1_0 a1_1 a2_0 a2_1).bind fun t230 => (some (t230, 0)))))) = some (r1, r2) := H
  have A8 := Aside0.mk A80
  clear A80
  by_cases c9 : t226 = true
  ·subst c9
   have H1 : ((line_scale_point.f k a3 a4 a0_0 a0_1 a1_0 a1_1).bind fun t227 => (some (t227, 0))) = some (r1, r2) := by rw [if_pos rfl] at H; exact H
   clear H
   have H := H1
   clear H1
   replace H := Option.bind_eq_some_iff.mp H
   obtain ⟨t227, A100, H⟩ := H
   replace H : (some (t227, 0)) = some (r1, r2) := H
   have A10 := Aside0.mk A100
   clear A100
   simp only [Option.some.injEq, Prod.mk.injEq] at H
   obtain ⟨rfl, rfl⟩ := H
   go_enter Try.func41, Try.ntmps41
   go_wp2_with (first | ((with_reducible refine gate_dst (N := 5) rfl ?_); refine be 5 (#[.int .i64 a0_0, .int .i64 a0_1]) 26 ?_; intro gb218 hg w11 hbox hb; have BK218 := Aside0.mk (hbox); have GW218 := Aside0.mk ((by rw [hg]; exact (below_size (bl0 HB.out)) : w.heap.size ≤ gb218)); have GE218 := GW218; replace HB := Aside0.mk (below_step (bl0 HB.out) hb); clear hb hbox hg) | ((with_reducible refine gate_dst (N := 6) rfl ?_); refine be 6 (#[.int .i64 a1_0, .int .i64 a1_1]) 26 ?_; intro gb219 hg w12 hbox hb; have BK219 := Aside0.mk (hbox); have GW219 := Aside0.mk ((by rw [hg]; exact (below_size (bl1 HB.out GE218.out)) : w.heap.size ≤ gb219)); have GE219 := GW219; have NB218_219 := Aside0.mk ((by rw [hg]; exact Nat.ne_of_lt (lt_ BK218.out) : gb218 ≠ gb219)); have NB219_218 := Aside0.mk ((by rw [hg]; exact Nat.ne_of_gt (lt_ BK218.out) : gb219 ≠ gb218)); replace BK218 := Aside0.mk (bb BK218.out hb); replace HB := Aside0.mk (below_step (bl1 HB.out GE218.out) hb); clear hb hbox hg) | ((with_reducible refine gate_dst (N := 7) rfl ?_); refine be 7 (#[.int .i64 a2_0, .int .i64 a2_1]) 26 ?_; intro gb220 hg w13 hbox hb; have BK220 := Aside0.mk (hbox); have GW220 := Aside0.mk ((by rw [hg]; exact (below_size (bl2 HB.out GE218.out GE219.out)) : w.heap.size ≤ gb220)); have GE220 := GW220; have NB218_220 := Aside0.mk ((by rw [hg]; exact Nat.ne_of_lt (lt_ BK218.out) : gb218 ≠ gb220)); have NB220_218 := Aside0.mk ((by rw [hg]; exact Nat.ne_of_gt (lt_ BK218.out) : gb220 ≠ gb218)); have NB219_220 := Aside0.mk ((by rw [hg]; exact Nat.ne_of_lt (lt_ BK219.out) : gb219 ≠ gb220)); have NB220_219 := Aside0.mk ((by rw [hg]; exact Nat.ne_of_gt (lt_ BK219.out) : gb220 ≠ gb219)); replace BK218 := Aside0.mk (bb BK218.out hb); replace BK219 := Aside0.mk (bb BK219.out hb); replace HB := Aside0.mk (below_step (bl2 HB.out GE218.out GE219.out) hb); clear hb hbox hg) | ((with_reducible refine gate_dst (N := 12) rfl ?_); refine be 12 (#[.int .i64 0, .int .i64 0]) 89 ?_; intro gb221 hg w14 hbox hb; have BK221 := Aside0.mk (hbox); have GW221 := Aside0.mk ((by rw [hg]; exact (below_size (bl3 HB.out GE218.out GE219.out GE220.out)) : w.heap.size ≤ gb221)); have GE221 := GW221; have NB218_221 := Aside0.mk ((by rw [hg]; exact Nat.ne_of_lt (lt_ BK218.out) : gb218 ≠ gb221)); have NB221_218 := Aside0.mk ((by rw [hg]; exact Nat.ne_of_gt (lt_ BK218.out) : gb221 ≠ gb218)); have NB219_221 := Aside0.mk ((by rw [hg]; exact Nat.ne_of_lt (lt_ BK219.out) : gb219 ≠ gb221)); have NB221_219 := Aside0.mk ((by rw [hg]; exact Nat.ne_of_gt (lt_ BK219.out) : gb221 ≠ gb219)); have NB220_221 := Aside0.mk ((by rw [hg]; exact Nat.ne_of_lt (lt_ BK220.out) : gb220 ≠ gb221)); have NB221_220 := Aside0.mk ((by rw [hg]; exact Nat.ne_of_gt (lt_ BK220.out) : gb221 ≠ gb220)); replace BK218 := Aside0.mk (bb BK218.out hb); replace BK219 := Aside0.mk (bb BK219.out hb); replace BK220 := Aside0.mk (bb BK220.out hb); replace HB := Aside0.mk (below_step (bl3 HB.out GE218.out GE219.out GE220.out) hb); clear hb hbox hg; have hnb15 := NB221_218.out; have hnc15 := NB218_221.out; have hnb16 := NB221_219.out; have hnc16 := NB219_221.out; have hnb17 := NB221_220.out; have hnc17 := NB220_221.out; have hcz18_0 : w14.cell? ⟨gb221, 0, none⟩ = some (.int .i64 0) := (blk_cell BK221.out 0).trans rfl; have hcz18_1 : w14.cell? ⟨gb221, 1, none⟩ = some (.int .i64 0) := (blk_cell BK221.out 1).trans rfl; have hfz18_0 := blk_frozen BK221.out 0; have hfz18_1 := blk_frozen BK221.out 1; have hnb19 := NB218_219.out; have hnc19 := NB219_218.out; have hnb20 := NB218_220.out; have hnc20 := NB220_218.out; have hcz21_0 : w14.cell? ⟨gb218, 0, none⟩ = some (.int .i64 a0_0) := (blk_cell BK218.out 0).trans rfl; have hcz21_1 : w14.cell? ⟨gb218, 1, none⟩ = some (.int .i64 a0_1) := (blk_cell BK218.out 1).trans rfl; have hfz21_0 := blk_frozen BK218.out 0; have hfz21_1 := blk_frozen BK218.out 1; have hnb22 := NB219_220.out; have hnc22 := NB220_219.out; have hcz23_0 : w14.cell? ⟨gb219, 0, none⟩ = some (.int .i64 a1_0) := (blk_cell BK219.out 0).trans rfl; have hcz23_1 : w14.cell? ⟨gb219, 1, none⟩ = some (.int .i64 a1_1) := (blk_cell BK219.out 1).trans rfl; have hfz23_0 := blk_frozen BK219.out 0; have hfz23_1 := blk_frozen BK219.out 1; have hcz24_0 : w14.cell? ⟨gb220, 0, none⟩ = some (.int .i64 a2_0) := (blk_cell BK220.out 0).trans rfl; have hcz24_1 : w14.cell? ⟨gb220, 1, none⟩ = some (.int .i64 a2_1) := (blk_cell BK220.out 1).trans rfl; have hfz24_0 := blk_frozen BK220.out 0; have hfz24_1 := blk_frozen BK220.out 1) | ((with_reducible refine gate_dst (N := 21) rfl ?_); refine Kd.R_lit k26 _ 26 ?hg (N := 21) ?hd (xs := ([(⟨a0_0, a0_1⟩ : S26), (⟨a1_0, a1_1⟩ : S26), (⟨a2_0, a2_1⟩ : S26)] : List (S26))) (inner := [.int .i64 a0_0, .int .i64 a0_1, .int .i64 a1_0, .int .i64 a1_1, .int .i64 a2_0, .int .i64 a2_1]) (ok := fun _ => True) (okp := fun _ => True) ?hr ?hp (fun _ hk => hk) trivial (Below.refl _ _) (Nat.le_refl _) (by simp) ?_; (case hd => rfl); (case hg => rfl); (case hr => first | (go_simp; done) | (go_simp; rfl)); (case hp => exact (Reps.c2 (show Kd.M k26 _ _ _ (⟨a0_0, a0_1⟩ : S26) [.int .i64 a0_0, .int .i64 a0_1] from (k26_mkM _ _ _ (⟨a0_0, a0_1⟩ : S26) )) (Reps.c2 (show Kd.M k26 _ _ _ (⟨a1_0, a1_1⟩ : S26) [.int .i64 a1_0, .int .i64 a1_1] from (k26_mkM _ _ _ (⟨a1_0, a1_1⟩ : S26) )) (Reps.c2 (show Kd.M k26 _ _ _ (⟨a2_0, a2_1⟩ : S26) [.int .i64 a2_0, .int .i64 a2_1] from (k26_mkM _ _ _ (⟨a2_0, a2_1⟩ : S26) )) (Reps.none _ _))))); intro v223 w25 ho26 hb hg_ hnew_; clear hg_ hnew_; (first | rw [← Ny222.out] at ho26 | (simp only [Int.reduceToNat] at ho26; rw [← Ny222.out] at ho26)); have HO224 := Aside0.mk (Kd.R_lower (Kd.R_newB (Kd.R_newB (Kd.R_newB ho26 (g := gb218) (o := .cells #[.int .i64 a0_0, .int .i64 a0_1] 26 (0, 0)) (by (with_reducible repeat (first | refine blk_drewN ?_ _ | refine blk_drew ?_ | refine blk_alloc ?_ _)); refine blk_far ?_ NB218_221.out _; (with_reducible repeat (first | refine blk_drewN ?_ _ | refine blk_drew ?_ | refine blk_alloc ?_ _)); refine blk_far ?_ NB218_221.out _; (with_reducible repeat (first | refine blk_drewN ?_ _ | refine blk_drew ?_ | refine blk_alloc ?_ _)); exact BK218.out)) (g := gb219) (o := .cells #[.int .i64 a1_0, .int .i64 a1_1] 26 (0, 0)) (by (with_reducible repeat (first | refine blk_drewN ?_ _ | refine blk_drew ?_ | refine blk_alloc ?_ _)); refine blk_far ?_ NB219_221.out _; (with_reducible repeat (first | refine blk_drewN ?_ _ | refine blk_drew ?_ | refine blk_alloc ?_ _)); refine blk_far ?_ NB219_221.out _; (with_reducible repeat (first | refine blk_drewN ?_ _ | refine blk_drew ?_ | refine blk_alloc ?_ _)); exact BK219.out)) (g := gb220) (o := .cells #[.int .i64 a2_0, .int .i64 a2_1] 26 (0, 0)) (by (with_reducible repeat (first | refine blk_drewN ?_ _ | refine blk_drew ?_ | refine blk_alloc ?_ _)); refine blk_far ?_ NB220_221.out _; (with_reducible repeat (first | refine blk_drewN ?_ _ | refine blk_drew ?_ | refine blk_alloc ?_ _)); refine blk_far ?_ NB220_221.out _; (with_reducible repeat (first | refine blk_drewN ?_ _ | refine blk_drew ?_ | refine blk_alloc ?_ _)); exact BK220.out)) (below_size (bl4 HB.out GE218.out GE219.out GE220.out GE221.out))); replace BK218 := Aside0.mk (blk_below (g := gb218) (o := .cells #[.int .i64 a0_0, .int .i64 a0_1] 26 (0, 0)) (by (with_reducible repeat (first | refine blk_drewN ?_ _ | refine blk_drew ?_ | refine blk_alloc ?_ _)); refine blk_far ?_ NB218_221.out _; (with_reducible repeat (first | refine blk_drewN ?_ _ | refine blk_drew ?_ | refine blk_alloc ?_ _)); refine blk_far ?_ NB218_221.out _; (with_reducible repeat (first | refine blk_drewN ?_ _ | refine blk_drew ?_ | refine blk_alloc ?_ _)); exact BK218.out) hb); replace BK219 := Aside0.mk (blk_below (g := gb219) (o := .cells #[.int .i64 a1_0, .int .i64 a1_1] 26 (0, 0)) (by (with_reducible repeat (first | refine blk_drewN ?_ _ | refine blk_drew ?_ | refine blk_alloc ?_ _)); refine blk_far ?_ NB219_221.out _; (with_reducible repeat (first | refine blk_drewN ?_ _ | refine blk_drew ?_ | refine blk_alloc ?_ _)); refine blk_far ?_ NB219_221.out _; (with_reducible repeat (first | refine blk_drewN ?_ _ | refine blk_drew ?_ | refine blk_alloc ?_ _)); exact BK219.out) hb); replace BK220 := Aside0.mk (blk_below (g := gb220) (o := .cells #[.int .i64 a2_0, .int .i64 a2_1] 26 (0, 0)) (by (with_reducible repeat (first | refine blk_drewN ?_ _ | refine blk_drew ?_ | refine blk_alloc ?_ _)); refine blk_far ?_ NB220_221.out _; (with_reducible repeat (first | refine blk_drewN ?_ _ | refine blk_drew ?_ | refine blk_alloc ?_ _)); refine blk_far ?_ NB220_221.out _; (with_reducible repeat (first | refine blk_drewN ?_ _ | refine blk_drew ?_ | refine blk_alloc ?_ _)); exact BK220.out) hb); replace BK221 := Aside0.mk (blk_below (g := gb221) (o := .cells #[.int .i64 a3, .int .i64 a4] 89 (0, 0)) (bk (blk_put (cs := #[.int .i64 a3, .int .i64 0]) (bk (blk_put (cs := #[.int .i64 0, .int .i64 0]) (bk BK221.out) 0 _ rfl)) 1 _ rfl)) hb); replace HB := Aside0.mk (below_step (bl4 HB.out GE218.out GE219.out GE220.out GE221.out) hb); clear hb ho26; obtain ⟨Ao27, co27, eo27⟩ := Kd.R_slice HO224.out; subst eo27) | ((with_reducible refine gate_callee (f := 67) rfl ?_); refine goesL_ (some 22) rfl rfl Try.func67 (by kernel_rfl) rfl #[.agg #[.int .i64 a3, .int .i64 a4], .slice Ao27 y222.length co27] rfl am ?_; (with_reducible refine (line_scale_asked.calls k a3 a4 _ _ y222 t225 _ ?side1 ?side2 A6.out).mono ?_); (case side1 => repeat (first | exact (Kd.R_reads' HO224.out).2.2 | (with_reducible refine Kd.C_alloc ?_ _) | (with_reducible refine Kd.C_drewN ?_ _) | (with_reducible refine Kd.C_drew ?_))); (case side2 => exact (Kd.R_reads' HO224.out).2.1); rintro e w28 ⟨rfl, hb⟩; refine ⟨_, rfl, ?_⟩; replace HO224 := Aside0.mk (Kd.R_below (by (with_reducible repeat (first | apply Kd.R_alloc | apply Kd.R_drewN | apply Kd.R_drew)); exact HO224.out) hb); replace BK218 := Aside0.mk (bb BK218.out hb); replace BK219 := Aside0.mk (bb BK219.out hb); replace BK220 := Aside0.mk (bb BK220.out hb); replace BK221 := Aside0.mk (bb BK221.out hb); replace HB := Aside0.mk (below_step (bl4 HB.out GE218.out GE219.out GE220.out GE221.out) hb); (try clear hb); (try clear hb2); (try clear hk); (try clear hi); have hcz29_0 : w28.cell? ⟨gb219, 0, none⟩ = some (.int .i64 a1_0) := (blk_cell BK219.out 0).trans rfl; have hcz29_1 : w28.cell? ⟨gb219, 1, none⟩ = some (.int .i64 a1_1) := (blk_cell BK219.out 1).trans rfl; have hfz29_0 := blk_frozen BK219.out 0; have hfz29_1 := blk_frozen BK219.out 1; have hcz30_0 : w28.cell? ⟨gb220, 0, none⟩ = some (.int .i64 a2_0) := (blk_cell BK220.out 0).trans rfl; have hcz30_1 : w28.cell? ⟨gb220, 1, none⟩ = some (.int .i64 a2_1) := (blk_cell BK220.out 1).trans rfl; have hfz30_0 := blk_frozen BK220.out 0; have hfz30_1 := blk_frozen BK220.out 1; have hcz31_0 : w28.cell? ⟨gb218, 0, none⟩ = some (.int .i64 a0_0) := (blk_cell BK218.out 0).trans rfl; have hcz31_1 : w28.cell? ⟨gb218, 1, none⟩ = some (.int .i64 a0_1) := (blk_cell BK218.out 1).trans rfl; have hfz31_0 := blk_frozen BK218.out 0; have hfz31_1 := blk_frozen BK218.out 1) | ((with_reducible refine gate_callee (f := 69) rfl ?_); refine goesL_ (some 30) rfl rfl Try.func69 (by kernel_rfl) rfl #[.agg #[.int .i64 a1_0, .int .i64 a1_1], .agg #[.int .i64 a2_0, .int .i64 a2_1], .agg #[.int .i64 a0_0, .int .i64 a0_1]] rfl am ?_; (with_reducible refine (line_ahead.calls k a1_0 a1_1 a2_0 a2_1 a0_0 a0_1 true _ A8.out).mono ?_); rintro e w32 ⟨rfl, hb⟩; refine ⟨_, rfl, ?_⟩; replace HO224 := Aside0.mk (Kd.R_below (by (with_reducible repeat (first | apply Kd.R_alloc | apply Kd.R_drewN | apply Kd.R_drew)); exact HO224.out) hb); replace BK218 := Aside0.mk (bb BK218.out hb); replace BK219 := Aside0.mk (bb BK219.out hb); replace BK220 := Aside0.mk (bb BK220.out hb); replace BK221 := Aside0.mk (bb BK221.out hb); replace HB := Aside0.mk (below_step (bl4 HB.out GE218.out GE219.out GE220.out GE221.out) hb); (try clear hb); (try clear hb2); (try clear hk); (try clear hi); have hcz33_0 : w32.cell? ⟨gb221, 0, none⟩ = some (.int .i64 a3) := (blk_cell BK221.out 0).trans rfl; have hcz33_1 : w32.cell? ⟨gb221, 1, none⟩ = some (.int .i64 a4) := (blk_cell BK221.out 1).trans rfl; have hfz33_0 := blk_frozen BK221.out 0; have hfz33_1 := blk_frozen BK221.out 1; have hcz34_0 : w32.cell? ⟨gb218, 0, none⟩ = some (.int .i64 a0_0) := (blk_cell BK218.out 0).trans rfl; have hcz34_1 : w32.cell? ⟨gb218, 1, none⟩ = some (.int .i64 a0_1) := (blk_cell BK218.out 1).trans rfl; have hfz34_0 := blk_frozen BK218.out 0; have hfz34_1 := blk_frozen BK218.out 1; have hcz35_0 : w32.cell? ⟨gb219, 0, none⟩ = some (.int .i64 a1_0) := (blk_cell BK219.out 0).trans rfl; have hcz35_1 : w32.cell? ⟨gb219, 1, none⟩ = some (.int .i64 a1_1) := (blk_cell BK219.out 1).trans rfl; have hfz35_0 := blk_frozen BK219.out 0; have hfz35_1 := blk_frozen BK219.out 1) | ((with_reducible refine gate_callee (f := 68) rfl ?_); refine goesL_ (some 34) rfl rfl Try.func68 (by kernel_rfl) rfl #[.agg #[.int .i64 a3, .int .i64 a4], .agg #[.int .i64 a0_0, .int .i64 a0_1], .agg #[.int .i64 a1_0, .int .i64 a1_1]] rfl am ?_; (with_reducible refine (line_scale_point.calls k a3 a4 a0_0 a0_1 a1_0 a1_1 t227 _ A10.out).mono ?_); rintro e w36 ⟨rfl, hb⟩; refine ⟨_, rfl, ?_⟩; replace HO224 := Aside0.mk (Kd.R_below (by (with_reducible repeat (first | apply Kd.R_alloc | apply Kd.R_drewN | apply Kd.R_drew)); exact HO224.out) hb); replace BK218 := Aside0.mk (bb BK218.out hb); replace BK219 := Aside0.mk (bb BK219.out hb); replace BK220 := Aside0.mk (bb BK220.out hb); replace BK221 := Aside0.mk (bb BK221.out hb); replace HB := Aside0.mk (below_step (bl4 HB.out GE218.out GE219.out GE220.out GE221.out) hb); (try clear hb); (try clear hb2); (try clear hk); (try clear hi)))
   go_ret2
   exact ⟨by first | rfl | (simp [errW_none, errW_some] <;> rfl) | (simp [*, errW_none, errW_some] <;> rfl), bl4 HB.out GE218.out GE219.out GE220.out GE221.out⟩
  ·replace c9 := Bool.eq_false_iff.mpr c9
   subst c9
   have H1 : ((line_ahead.f k a2_0 a2_1 a1_0 a1_1 a0_0 a0_1).bind fun t228 => (if t228 = true then ((line_scale_point.f k a3 a4 a0_0 a0_1 a2_0 a2_1).bind fun t229 => (some (t229, 0))) else ((line_scale_beside.f k a3 a4 a0_0 a0_1 a1_0 a1_1 a2_0 a2_1).bind fun t230 => (some (t230, 0))))) = some (r1, r2) := by rw [if_neg (show ¬ (false = true) by decide)] at H; exact H
   clear H
   have H := H1
   clear H1
   replace H := Option.bind_eq_some_iff.mp H
   obtain ⟨t228, A370, H⟩ := H
   replace H : (if t228 = true then ((line_scale_point.f k a3 a4 a0_0 a0_1 a2_0 a2_1).bind fun t229 => (some (t229, 0))) else ((line_scale_beside.f k a3 a4 a0_0 a0_1 a1_0 a1_1 a2_0 a2_1).bind fun t230 => (some (t230, 0)))) = some (r1, r2) := H
   have A37 := Aside0.mk A370
   clear A370
   by_cases c38 : t228 = true
   ·subst c38
    have H1 : ((line_scale_point.f k a3 a4 a0_0 a0_1 a2_0 a2_1).bind fun t229 => (some (t229, 0))) = some (r1, r2) := by rw [if_pos rfl] at H; exact H
    clear H
    have H := H1
    clear H1
    replace H := Option.bind_eq_some_iff.mp H
    obtain ⟨t229, A390, H⟩ := H
    replace H : (some (t229, 0)) = some (r1, r2) := H
    have A39 := Aside0.mk A390
    clear A390
    simp only [Option.some.injEq, Prod.mk.injEq] at H
    obtain ⟨rfl, rfl⟩ := H
    go_enter Try.func41, Try.ntmps41
    go_wp2_with (first | ((with_reducible refine gate_dst (N := 5) rfl ?_); refine be 5 (#[.int .i64 a0_0, .int .i64 a0_1]) 26 ?_; intro gb218 hg w40 hbox hb; have BK218 := Aside0.mk (hbox); have GW218 := Aside0.mk ((by rw [hg]; exact (below_size (bl0 HB.out)) : w.heap.size ≤ gb218)); have GE218 := GW218; replace HB := Aside0.mk (below_step (bl0 HB.out) hb); clear hb hbox hg) | ((with_reducible refine gate_dst (N := 6) rfl ?_); refine be 6 (#[.int .i64 a1_0, .int .i64 a1_1]) 26 ?_; intro gb219 hg w41 hbox hb; have BK219 := Aside0.mk (hbox); have GW219 := Aside0.mk ((by rw [hg]; exact (below_size (bl1 HB.out GE218.out)) : w.heap.size ≤ gb219)); have GE219 := GW219; have NB218_219 := Aside0.mk ((by rw [hg]; exact Nat.ne_of_lt (lt_ BK218.out) : gb218 ≠ gb219)); have NB219_218 := Aside0.mk ((by rw [hg]; exact Nat.ne_of_gt (lt_ BK218.out) : gb219 ≠ gb218)); replace BK218 := Aside0.mk (bb BK218.out hb); replace HB := Aside0.mk (below_step (bl1 HB.out GE218.out) hb); clear hb hbox hg) | ((with_reducible refine gate_dst (N := 7) rfl ?_); refine be 7 (#[.int .i64 a2_0, .int .i64 a2_1]) 26 ?_; intro gb220 hg w42 hbox hb; have BK220 := Aside0.mk (hbox); have GW220 := Aside0.mk ((by rw [hg]; exact (below_size (bl2 HB.out GE218.out GE219.out)) : w.heap.size ≤ gb220)); have GE220 := GW220; have NB218_220 := Aside0.mk ((by rw [hg]; exact Nat.ne_of_lt (lt_ BK218.out) : gb218 ≠ gb220)); have NB220_218 := Aside0.mk ((by rw [hg]; exact Nat.ne_of_gt (lt_ BK218.out) : gb220 ≠ gb218)); have NB219_220 := Aside0.mk ((by rw [hg]; exact Nat.ne_of_lt (lt_ BK219.out) : gb219 ≠ gb220)); have NB220_219 := Aside0.mk ((by rw [hg]; exact Nat.ne_of_gt (lt_ BK219.out) : gb220 ≠ gb219)); replace BK218 := Aside0.mk (bb BK218.out hb); replace BK219 := Aside0.mk (bb BK219.out hb); replace HB := Aside0.mk (below_step (bl2 HB.out GE218.out GE219.out) hb); clear hb hbox hg) | ((with_reducible refine gate_dst (N := 12) rfl ?_); refine be 12 (#[.int .i64 0, .int .i64 0]) 89 ?_; intro gb221 hg w43 hbox hb; have BK221 := Aside0.mk (hbox); have GW221 := Aside0.mk ((by rw [hg]; exact (below_size (bl3 HB.out GE218.out GE219.out GE220.out)) : w.heap.size ≤ gb221)); have GE221 := GW221; have NB218_221 := Aside0.mk ((by rw [hg]; exact Nat.ne_of_lt (lt_ BK218.out) : gb218 ≠ gb221)); have NB221_218 := Aside0.mk ((by rw [hg]; exact Nat.ne_of_gt (lt_ BK218.out) : gb221 ≠ gb218)); have NB219_221 := Aside0.mk ((by rw [hg]; exact Nat.ne_of_lt (lt_ BK219.out) : gb219 ≠ gb221)); have NB221_219 := Aside0.mk ((by rw [hg]; exact Nat.ne_of_gt (lt_ BK219.out) : gb221 ≠ gb219)); have NB220_221 := Aside0.mk ((by rw [hg]; exact Nat.ne_of_lt (lt_ BK220.out) : gb220 ≠ gb221)); have NB221_220 := Aside0.mk ((by rw [hg]; exact Nat.ne_of_gt (lt_ BK220.out) : gb221 ≠ gb220)); replace BK218 := Aside0.mk (bb BK218.out hb); replace BK219 := Aside0.mk (bb BK219.out hb); replace BK220 := Aside0.mk (bb BK220.out hb); replace HB := Aside0.mk (below_step (bl3 HB.out GE218.out GE219.out GE220.out) hb); clear hb hbox hg; have hnb44 := NB221_218.out; have hnc44 := NB218_221.out; have hnb45 := NB221_219.out; have hnc45 := NB219_221.out; have hnb46 := NB221_220.out; have hnc46 := NB220_221.out; have hcz47_0 : w43.cell? ⟨gb221, 0, none⟩ = some (.int .i64 0) := (blk_cell BK221.out 0).trans rfl; have hcz47_1 : w43.cell? ⟨gb221, 1, none⟩ = some (.int .i64 0) := (blk_cell BK221.out 1).trans rfl; have hfz47_0 := blk_frozen BK221.out 0; have hfz47_1 := blk_frozen BK221.out 1; have hnb48 := NB218_219.out; have hnc48 := NB219_218.out; have hnb49 := NB218_220.out; have hnc49 := NB220_218.out; have hcz50_0 : w43.cell? ⟨gb218, 0, none⟩ = some (.int .i64 a0_0) := (blk_cell BK218.out 0).trans rfl; have hcz50_1 : w43.cell? ⟨gb218, 1, none⟩ = some (.int .i64 a0_1) := (blk_cell BK218.out 1).trans rfl; have hfz50_0 := blk_frozen BK218.out 0; have hfz50_1 := blk_frozen BK218.out 1; have hnb51 := NB219_220.out; have hnc51 := NB220_219.out; have hcz52_0 : w43.cell? ⟨gb219, 0, none⟩ = some (.int .i64 a1_0) := (blk_cell BK219.out 0).trans rfl; have hcz52_1 : w43.cell? ⟨gb219, 1, none⟩ = some (.int .i64 a1_1) := (blk_cell BK219.out 1).trans rfl; have hfz52_0 := blk_frozen BK219.out 0; have hfz52_1 := blk_frozen BK219.out 1; have hcz53_0 : w43.cell? ⟨gb220, 0, none⟩ = some (.int .i64 a2_0) := (blk_cell BK220.out 0).trans rfl; have hcz53_1 : w43.cell? ⟨gb220, 1, none⟩ = some (.int .i64 a2_1) := (blk_cell BK220.out 1).trans rfl; have hfz53_0 := blk_frozen BK220.out 0; have hfz53_1 := blk_frozen BK220.out 1) | ((with_reducible refine gate_dst (N := 21) rfl ?_); refine Kd.R_lit k26 _ 26 ?hg (N := 21) ?hd (xs := ([(⟨a0_0, a0_1⟩ : S26), (⟨a1_0, a1_1⟩ : S26), (⟨a2_0, a2_1⟩ : S26)] : List (S26))) (inner := [.int .i64 a0_0, .int .i64 a0_1, .int .i64 a1_0, .int .i64 a1_1, .int .i64 a2_0, .int .i64 a2_1]) (ok := fun _ => True) (okp := fun _ => True) ?hr ?hp (fun _ hk => hk) trivial (Below.refl _ _) (Nat.le_refl _) (by simp) ?_; (case hd => rfl); (case hg => rfl); (case hr => first | (go_simp; done) | (go_simp; rfl)); (case hp => exact (Reps.c2 (show Kd.M k26 _ _ _ (⟨a0_0, a0_1⟩ : S26) [.int .i64 a0_0, .int .i64 a0_1] from (k26_mkM _ _ _ (⟨a0_0, a0_1⟩ : S26) )) (Reps.c2 (show Kd.M k26 _ _ _ (⟨a1_0, a1_1⟩ : S26) [.int .i64 a1_0, .int .i64 a1_1] from (k26_mkM _ _ _ (⟨a1_0, a1_1⟩ : S26) )) (Reps.c2 (show Kd.M k26 _ _ _ (⟨a2_0, a2_1⟩ : S26) [.int .i64 a2_0, .int .i64 a2_1] from (k26_mkM _ _ _ (⟨a2_0, a2_1⟩ : S26) )) (Reps.none _ _))))); intro v223 w54 ho55 hb hg_ hnew_; clear hg_ hnew_; (first | rw [← Ny222.out] at ho55 | (simp only [Int.reduceToNat] at ho55; rw [← Ny222.out] at ho55)); have HO224 := Aside0.mk (Kd.R_lower (Kd.R_newB (Kd.R_newB (Kd.R_newB ho55 (g := gb218) (o := .cells #[.int .i64 a0_0, .int .i64 a0_1] 26 (0, 0)) (by (with_reducible repeat (first | refine blk_drewN ?_ _ | refine blk_drew ?_ | refine blk_alloc ?_ _)); refine blk_far ?_ NB218_221.out _; (with_reducible repeat (first | refine blk_drewN ?_ _ | refine blk_drew ?_ | refine blk_alloc ?_ _)); refine blk_far ?_ NB218_221.out _; (with_reducible repeat (first | refine blk_drewN ?_ _ | refine blk_drew ?_ | refine blk_alloc ?_ _)); exact BK218.out)) (g := gb219) (o := .cells #[.int .i64 a1_0, .int .i64 a1_1] 26 (0, 0)) (by (with_reducible repeat (first | refine blk_drewN ?_ _ | refine blk_drew ?_ | refine blk_alloc ?_ _)); refine blk_far ?_ NB219_221.out _; (with_reducible repeat (first | refine blk_drewN ?_ _ | refine blk_drew ?_ | refine blk_alloc ?_ _)); refine blk_far ?_ NB219_221.out _; (with_reducible repeat (first | refine blk_drewN ?_ _ | refine blk_drew ?_ | refine blk_alloc ?_ _)); exact BK219.out)) (g := gb220) (o := .cells #[.int .i64 a2_0, .int .i64 a2_1] 26 (0, 0)) (by (with_reducible repeat (first | refine blk_drewN ?_ _ | refine blk_drew ?_ | refine blk_alloc ?_ _)); refine blk_far ?_ NB220_221.out _; (with_reducible repeat (first | refine blk_drewN ?_ _ | refine blk_drew ?_ | refine blk_alloc ?_ _)); refine blk_far ?_ NB220_221.out _; (with_reducible repeat (first | refine blk_drewN ?_ _ | refine blk_drew ?_ | refine blk_alloc ?_ _)); exact BK220.out)) (below_size (bl4 HB.out GE218.out GE219.out GE220.out GE221.out))); replace BK218 := Aside0.mk (blk_below (g := gb218) (o := .cells #[.int .i64 a0_0, .int .i64 a0_1] 26 (0, 0)) (by (with_reducible repeat (first | refine blk_drewN ?_ _ | refine blk_drew ?_ | refine blk_alloc ?_ _)); refine blk_far ?_ NB218_221.out _; (with_reducible repeat (first | refine blk_drewN ?_ _ | refine blk_drew ?_ | refine blk_alloc ?_ _)); refine blk_far ?_ NB218_221.out _; (with_reducible repeat (first | refine blk_drewN ?_ _ | refine blk_drew ?_ | refine blk_alloc ?_ _)); exact BK218.out) hb); replace BK219 := Aside0.mk (blk_below (g := gb219) (o := .cells #[.int .i64 a1_0, .int .i64 a1_1] 26 (0, 0)) (by (with_reducible repeat (first | refine blk_drewN ?_ _ | refine blk_drew ?_ | refine blk_alloc ?_ _)); refine blk_far ?_ NB219_221.out _; (with_reducible repeat (first | refine blk_drewN ?_ _ | refine blk_drew ?_ | refine blk_alloc ?_ _)); refine blk_far ?_ NB219_221.out _; (with_reducible repeat (first | refine blk_drewN ?_ _ | refine blk_drew ?_ | refine blk_alloc ?_ _)); exact BK219.out) hb); replace BK220 := Aside0.mk (blk_below (g := gb220) (o := .cells #[.int .i64 a2_0, .int .i64 a2_1] 26 (0, 0)) (by (with_reducible repeat (first | refine blk_drewN ?_ _ | refine blk_drew ?_ | refine blk_alloc ?_ _)); refine blk_far ?_ NB220_221.out _; (with_reducible repeat (first | refine blk_drewN ?_ _ | refine blk_drew ?_ | refine blk_alloc ?_ _)); refine blk_far ?_ NB220_221.out _; (with_reducible repeat (first | refine blk_drewN ?_ _ | refine blk_drew ?_ | refine blk_alloc ?_ _)); exact BK220.out) hb); replace BK221 := Aside0.mk (blk_below (g := gb221) (o := .cells #[.int .i64 a3, .int .i64 a4] 89 (0, 0)) (bk (blk_put (cs := #[.int .i64 a3, .int .i64 0]) (bk (blk_put (cs := #[.int .i64 0, .int .i64 0]) (bk BK221.out) 0 _ rfl)) 1 _ rfl)) hb); replace HB := Aside0.mk (below_step (bl4 HB.out GE218.out GE219.out GE220.out GE221.out) hb); clear hb ho55; obtain ⟨Ao56, co56, eo56⟩ := Kd.R_slice HO224.out; subst eo56) | ((with_reducible refine gate_callee (f := 67) rfl ?_); refine goesL_ (some 22) rfl rfl Try.func67 (by kernel_rfl) rfl #[.agg #[.int .i64 a3, .int .i64 a4], .slice Ao56 y222.length co56] rfl am ?_; (with_reducible refine (line_scale_asked.calls k a3 a4 _ _ y222 t225 _ ?side1 ?side2 A6.out).mono ?_); (case side1 => repeat (first | exact (Kd.R_reads' HO224.out).2.2 | (with_reducible refine Kd.C_alloc ?_ _) | (with_reducible refine Kd.C_drewN ?_ _) | (with_reducible refine Kd.C_drew ?_))); (case side2 => exact (Kd.R_reads' HO224.out).2.1); rintro e w57 ⟨rfl, hb⟩; refine ⟨_, rfl, ?_⟩; replace HO224 := Aside0.mk (Kd.R_below (by (with_reducible repeat (first | apply Kd.R_alloc | apply Kd.R_drewN | apply Kd.R_drew)); exact HO224.out) hb); replace BK218 := Aside0.mk (bb BK218.out hb); replace BK219 := Aside0.mk (bb BK219.out hb); replace BK220 := Aside0.mk (bb BK220.out hb); replace BK221 := Aside0.mk (bb BK221.out hb); replace HB := Aside0.mk (below_step (bl4 HB.out GE218.out GE219.out GE220.out GE221.out) hb); (try clear hb); (try clear hb2); (try clear hk); (try clear hi); have hcz58_0 : w57.cell? ⟨gb219, 0, none⟩ = some (.int .i64 a1_0) := (blk_cell BK219.out 0).trans rfl; have hcz58_1 : w57.cell? ⟨gb219, 1, none⟩ = some (.int .i64 a1_1) := (blk_cell BK219.out 1).trans rfl; have hfz58_0 := blk_frozen BK219.out 0; have hfz58_1 := blk_frozen BK219.out 1; have hcz59_0 : w57.cell? ⟨gb220, 0, none⟩ = some (.int .i64 a2_0) := (blk_cell BK220.out 0).trans rfl; have hcz59_1 : w57.cell? ⟨gb220, 1, none⟩ = some (.int .i64 a2_1) := (blk_cell BK220.out 1).trans rfl; have hfz59_0 := blk_frozen BK220.out 0; have hfz59_1 := blk_frozen BK220.out 1; have hcz60_0 : w57.cell? ⟨gb218, 0, none⟩ = some (.int .i64 a0_0) := (blk_cell BK218.out 0).trans rfl; have hcz60_1 : w57.cell? ⟨gb218, 1, none⟩ = some (.int .i64 a0_1) := (blk_cell BK218.out 1).trans rfl; have hfz60_0 := blk_frozen BK218.out 0; have hfz60_1 := blk_frozen BK218.out 1) | ((with_reducible refine gate_callee (f := 69) rfl ?_); refine goesL_ (some 30) rfl rfl Try.func69 (by kernel_rfl) rfl #[.agg #[.int .i64 a1_0, .int .i64 a1_1], .agg #[.int .i64 a2_0, .int .i64 a2_1], .agg #[.int .i64 a0_0, .int .i64 a0_1]] rfl am ?_; (with_reducible refine (line_ahead.calls k a1_0 a1_1 a2_0 a2_1 a0_0 a0_1 false _ A8.out).mono ?_); rintro e w61 ⟨rfl, hb⟩; refine ⟨_, rfl, ?_⟩; replace HO224 := Aside0.mk (Kd.R_below (by (with_reducible repeat (first | apply Kd.R_alloc | apply Kd.R_drewN | apply Kd.R_drew)); exact HO224.out) hb); replace BK218 := Aside0.mk (bb BK218.out hb); replace BK219 := Aside0.mk (bb BK219.out hb); replace BK220 := Aside0.mk (bb BK220.out hb); replace BK221 := Aside0.mk (bb BK221.out hb); replace HB := Aside0.mk (below_step (bl4 HB.out GE218.out GE219.out GE220.out GE221.out) hb); (try clear hb); (try clear hb2); (try clear hk); (try clear hi); have hcz62_0 : w61.cell? ⟨gb220, 0, none⟩ = some (.int .i64 a2_0) := (blk_cell BK220.out 0).trans rfl; have hcz62_1 : w61.cell? ⟨gb220, 1, none⟩ = some (.int .i64 a2_1) := (blk_cell BK220.out 1).trans rfl; have hfz62_0 := blk_frozen BK220.out 0; have hfz62_1 := blk_frozen BK220.out 1; have hcz63_0 : w61.cell? ⟨gb219, 0, none⟩ = some (.int .i64 a1_0) := (blk_cell BK219.out 0).trans rfl; have hcz63_1 : w61.cell? ⟨gb219, 1, none⟩ = some (.int .i64 a1_1) := (blk_cell BK219.out 1).trans rfl; have hfz63_0 := blk_frozen BK219.out 0; have hfz63_1 := blk_frozen BK219.out 1; have hcz64_0 : w61.cell? ⟨gb218, 0, none⟩ = some (.int .i64 a0_0) := (blk_cell BK218.out 0).trans rfl; have hcz64_1 : w61.cell? ⟨gb218, 1, none⟩ = some (.int .i64 a0_1) := (blk_cell BK218.out 1).trans rfl; have hfz64_0 := blk_frozen BK218.out 0; have hfz64_1 := blk_frozen BK218.out 1) | ((with_reducible refine gate_callee (f := 69) rfl ?_); refine goesL_ (some 39) rfl rfl Try.func69 (by kernel_rfl) rfl #[.agg #[.int .i64 a2_0, .int .i64 a2_1], .agg #[.int .i64 a1_0, .int .i64 a1_1], .agg #[.int .i64 a0_0, .int .i64 a0_1]] rfl am ?_; (with_reducible refine (line_ahead.calls k a2_0 a2_1 a1_0 a1_1 a0_0 a0_1 true _ A37.out).mono ?_); rintro e w65 ⟨rfl, hb⟩; refine ⟨_, rfl, ?_⟩; replace HO224 := Aside0.mk (Kd.R_below (by (with_reducible repeat (first | apply Kd.R_alloc | apply Kd.R_drewN | apply Kd.R_drew)); exact HO224.out) hb); replace BK218 := Aside0.mk (bb BK218.out hb); replace BK219 := Aside0.mk (bb BK219.out hb); replace BK220 := Aside0.mk (bb BK220.out hb); replace BK221 := Aside0.mk (bb BK221.out hb); replace HB := Aside0.mk (below_step (bl4 HB.out GE218.out GE219.out GE220.out GE221.out) hb); (try clear hb); (try clear hb2); (try clear hk); (try clear hi); have hcz66_0 : w65.cell? ⟨gb221, 0, none⟩ = some (.int .i64 a3) := (blk_cell BK221.out 0).trans rfl; have hcz66_1 : w65.cell? ⟨gb221, 1, none⟩ = some (.int .i64 a4) := (blk_cell BK221.out 1).trans rfl; have hfz66_0 := blk_frozen BK221.out 0; have hfz66_1 := blk_frozen BK221.out 1; have hcz67_0 : w65.cell? ⟨gb218, 0, none⟩ = some (.int .i64 a0_0) := (blk_cell BK218.out 0).trans rfl; have hcz67_1 : w65.cell? ⟨gb218, 1, none⟩ = some (.int .i64 a0_1) := (blk_cell BK218.out 1).trans rfl; have hfz67_0 := blk_frozen BK218.out 0; have hfz67_1 := blk_frozen BK218.out 1; have hcz68_0 : w65.cell? ⟨gb220, 0, none⟩ = some (.int .i64 a2_0) := (blk_cell BK220.out 0).trans rfl; have hcz68_1 : w65.cell? ⟨gb220, 1, none⟩ = some (.int .i64 a2_1) := (blk_cell BK220.out 1).trans rfl; have hfz68_0 := blk_frozen BK220.out 0; have hfz68_1 := blk_frozen BK220.out 1) | ((with_reducible refine gate_callee (f := 68) rfl ?_); refine goesL_ (some 43) rfl rfl Try.func68 (by kernel_rfl) rfl #[.agg #[.int .i64 a3, .int .i64 a4], .agg #[.int .i64 a0_0, .int .i64 a0_1], .agg #[.int .i64 a2_0, .int .i64 a2_1]] rfl am ?_; (with_reducible refine (line_scale_point.calls k a3 a4 a0_0 a0_1 a2_0 a2_1 t229 _ A39.out).mono ?_); rintro e w69 ⟨rfl, hb⟩; refine ⟨_, rfl, ?_⟩; replace HO224 := Aside0.mk (Kd.R_below (by (with_reducible repeat (first | apply Kd.R_alloc | apply Kd.R_drewN | apply Kd.R_drew)); exact HO224.out) hb); replace BK218 := Aside0.mk (bb BK218.out hb); replace BK219 := Aside0.mk (bb BK219.out hb); replace BK220 := Aside0.mk (bb BK220.out hb); replace BK221 := Aside0.mk (bb BK221.out hb); replace HB := Aside0.mk (below_step (bl4 HB.out GE218.out GE219.out GE220.out GE221.out) hb); (try clear hb); (try clear hb2); (try clear hk); (try clear hi)))
    go_ret2
    exact ⟨by first | rfl | (simp [errW_none, errW_some] <;> rfl) | (simp [*, errW_none, errW_some] <;> rfl), bl4 HB.out GE218.out GE219.out GE220.out GE221.out⟩
   ·replace c38 := Bool.eq_false_iff.mpr c38
    subst c38
    have H1 : ((line_scale_beside.f k a3 a4 a0_0 a0_1 a1_0 a1_1 a2_0 a2_1).bind fun t230 => (some (t230, 0))) = some (r1, r2) := by rw [if_neg (show ¬ (false = true) by decide)] at H; exact H
    clear H
    have H := H1
    clear H1
    replace H := Option.bind_eq_some_iff.mp H
    obtain ⟨t230, A700, H⟩ := H
    replace H : (some (t230, 0)) = some (r1, r2) := H
    have A70 := Aside0.mk A700
    clear A700
    simp only [Option.some.injEq, Prod.mk.injEq] at H
    obtain ⟨rfl, rfl⟩ := H
    go_enter Try.func41, Try.ntmps41
    go_wp2_with (first | ((with_reducible refine gate_dst (N := 5) rfl ?_); refine be 5 (#[.int .i64 a0_0, .int .i64 a0_1]) 26 ?_; intro gb218 hg w71 hbox hb; have BK218 := Aside0.mk (hbox); have GW218 := Aside0.mk ((by rw [hg]; exact (below_size (bl0 HB.out)) : w.heap.size ≤ gb218)); have GE218 := GW218; replace HB := Aside0.mk (below_step (bl0 HB.out) hb); clear hb hbox hg) | ((with_reducible refine gate_dst (N := 6) rfl ?_); refine be 6 (#[.int .i64 a1_0, .int .i64 a1_1]) 26 ?_; intro gb219 hg w72 hbox hb; have BK219 := Aside0.mk (hbox); have GW219 := Aside0.mk ((by rw [hg]; exact (below_size (bl1 HB.out GE218.out)) : w.heap.size ≤ gb219)); have GE219 := GW219; have NB218_219 := Aside0.mk ((by rw [hg]; exact Nat.ne_of_lt (lt_ BK218.out) : gb218 ≠ gb219)); have NB219_218 := Aside0.mk ((by rw [hg]; exact Nat.ne_of_gt (lt_ BK218.out) : gb219 ≠ gb218)); replace BK218 := Aside0.mk (bb BK218.out hb); replace HB := Aside0.mk (below_step (bl1 HB.out GE218.out) hb); clear hb hbox hg) | ((with_reducible refine gate_dst (N := 7) rfl ?_); refine be 7 (#[.int .i64 a2_0, .int .i64 a2_1]) 26 ?_; intro gb220 hg w73 hbox hb; have BK220 := Aside0.mk (hbox); have GW220 := Aside0.mk ((by rw [hg]; exact (below_size (bl2 HB.out GE218.out GE219.out)) : w.heap.size ≤ gb220)); have GE220 := GW220; have NB218_220 := Aside0.mk ((by rw [hg]; exact Nat.ne_of_lt (lt_ BK218.out) : gb218 ≠ gb220)); have NB220_218 := Aside0.mk ((by rw [hg]; exact Nat.ne_of_gt (lt_ BK218.out) : gb220 ≠ gb218)); have NB219_220 := Aside0.mk ((by rw [hg]; exact Nat.ne_of_lt (lt_ BK219.out) : gb219 ≠ gb220)); have NB220_219 := Aside0.mk ((by rw [hg]; exact Nat.ne_of_gt (lt_ BK219.out) : gb220 ≠ gb219)); replace BK218 := Aside0.mk (bb BK218.out hb); replace BK219 := Aside0.mk (bb BK219.out hb); replace HB := Aside0.mk (below_step (bl2 HB.out GE218.out GE219.out) hb); clear hb hbox hg) | ((with_reducible refine gate_dst (N := 12) rfl ?_); refine be 12 (#[.int .i64 0, .int .i64 0]) 89 ?_; intro gb221 hg w74 hbox hb; have BK221 := Aside0.mk (hbox); have GW221 := Aside0.mk ((by rw [hg]; exact (below_size (bl3 HB.out GE218.out GE219.out GE220.out)) : w.heap.size ≤ gb221)); have GE221 := GW221; have NB218_221 := Aside0.mk ((by rw [hg]; exact Nat.ne_of_lt (lt_ BK218.out) : gb218 ≠ gb221)); have NB221_218 := Aside0.mk ((by rw [hg]; exact Nat.ne_of_gt (lt_ BK218.out) : gb221 ≠ gb218)); have NB219_221 := Aside0.mk ((by rw [hg]; exact Nat.ne_of_lt (lt_ BK219.out) : gb219 ≠ gb221)); have NB221_219 := Aside0.mk ((by rw [hg]; exact Nat.ne_of_gt (lt_ BK219.out) : gb221 ≠ gb219)); have NB220_221 := Aside0.mk ((by rw [hg]; exact Nat.ne_of_lt (lt_ BK220.out) : gb220 ≠ gb221)); have NB221_220 := Aside0.mk ((by rw [hg]; exact Nat.ne_of_gt (lt_ BK220.out) : gb221 ≠ gb220)); replace BK218 := Aside0.mk (bb BK218.out hb); replace BK219 := Aside0.mk (bb BK219.out hb); replace BK220 := Aside0.mk (bb BK220.out hb); replace HB := Aside0.mk (below_step (bl3 HB.out GE218.out GE219.out GE220.out) hb); clear hb hbox hg; have hnb75 := NB221_218.out; have hnc75 := NB218_221.out; have hnb76 := NB221_219.out; have hnc76 := NB219_221.out; have hnb77 := NB221_220.out; have hnc77 := NB220_221.out; have hcz78_0 : w74.cell? ⟨gb221, 0, none⟩ = some (.int .i64 0) := (blk_cell BK221.out 0).trans rfl; have hcz78_1 : w74.cell? ⟨gb221, 1, none⟩ = some (.int .i64 0) := (blk_cell BK221.out 1).trans rfl; have hfz78_0 := blk_frozen BK221.out 0; have hfz78_1 := blk_frozen BK221.out 1; have hnb79 := NB218_219.out; have hnc79 := NB219_218.out; have hnb80 := NB218_220.out; have hnc80 := NB220_218.out; have hcz81_0 : w74.cell? ⟨gb218, 0, none⟩ = some (.int .i64 a0_0) := (blk_cell BK218.out 0).trans rfl; have hcz81_1 : w74.cell? ⟨gb218, 1, none⟩ = some (.int .i64 a0_1) := (blk_cell BK218.out 1).trans rfl; have hfz81_0 := blk_frozen BK218.out 0; have hfz81_1 := blk_frozen BK218.out 1; have hnb82 := NB219_220.out; have hnc82 := NB220_219.out; have hcz83_0 : w74.cell? ⟨gb219, 0, none⟩ = some (.int .i64 a1_0) := (blk_cell BK219.out 0).trans rfl; have hcz83_1 : w74.cell? ⟨gb219, 1, none⟩ = some (.int .i64 a1_1) := (blk_cell BK219.out 1).trans rfl; have hfz83_0 := blk_frozen BK219.out 0; have hfz83_1 := blk_frozen BK219.out 1; have hcz84_0 : w74.cell? ⟨gb220, 0, none⟩ = some (.int .i64 a2_0) := (blk_cell BK220.out 0).trans rfl; have hcz84_1 : w74.cell? ⟨gb220, 1, none⟩ = some (.int .i64 a2_1) := (blk_cell BK220.out 1).trans rfl; have hfz84_0 := blk_frozen BK220.out 0; have hfz84_1 := blk_frozen BK220.out 1) | ((with_reducible refine gate_dst (N := 21) rfl ?_); refine Kd.R_lit k26 _ 26 ?hg (N := 21) ?hd (xs := ([(⟨a0_0, a0_1⟩ : S26), (⟨a1_0, a1_1⟩ : S26), (⟨a2_0, a2_1⟩ : S26)] : List (S26))) (inner := [.int .i64 a0_0, .int .i64 a0_1, .int .i64 a1_0, .int .i64 a1_1, .int .i64 a2_0, .int .i64 a2_1]) (ok := fun _ => True) (okp := fun _ => True) ?hr ?hp (fun _ hk => hk) trivial (Below.refl _ _) (Nat.le_refl _) (by simp) ?_; (case hd => rfl); (case hg => rfl); (case hr => first | (go_simp; done) | (go_simp; rfl)); (case hp => exact (Reps.c2 (show Kd.M k26 _ _ _ (⟨a0_0, a0_1⟩ : S26) [.int .i64 a0_0, .int .i64 a0_1] from (k26_mkM _ _ _ (⟨a0_0, a0_1⟩ : S26) )) (Reps.c2 (show Kd.M k26 _ _ _ (⟨a1_0, a1_1⟩ : S26) [.int .i64 a1_0, .int .i64 a1_1] from (k26_mkM _ _ _ (⟨a1_0, a1_1⟩ : S26) )) (Reps.c2 (show Kd.M k26 _ _ _ (⟨a2_0, a2_1⟩ : S26) [.int .i64 a2_0, .int .i64 a2_1] from (k26_mkM _ _ _ (⟨a2_0, a2_1⟩ : S26) )) (Reps.none _ _))))); intro v223 w85 ho86 hb hg_ hnew_; clear hg_ hnew_; (first | rw [← Ny222.out] at ho86 | (simp only [Int.reduceToNat] at ho86; rw [← Ny222.out] at ho86)); have HO224 := Aside0.mk (Kd.R_lower (Kd.R_newB (Kd.R_newB (Kd.R_newB ho86 (g := gb218) (o := .cells #[.int .i64 a0_0, .int .i64 a0_1] 26 (0, 0)) (by (with_reducible repeat (first | refine blk_drewN ?_ _ | refine blk_drew ?_ | refine blk_alloc ?_ _)); refine blk_far ?_ NB218_221.out _; (with_reducible repeat (first | refine blk_drewN ?_ _ | refine blk_drew ?_ | refine blk_alloc ?_ _)); refine blk_far ?_ NB218_221.out _; (with_reducible repeat (first | refine blk_drewN ?_ _ | refine blk_drew ?_ | refine blk_alloc ?_ _)); exact BK218.out)) (g := gb219) (o := .cells #[.int .i64 a1_0, .int .i64 a1_1] 26 (0, 0)) (by (with_reducible repeat (first | refine blk_drewN ?_ _ | refine blk_drew ?_ | refine blk_alloc ?_ _)); refine blk_far ?_ NB219_221.out _; (with_reducible repeat (first | refine blk_drewN ?_ _ | refine blk_drew ?_ | refine blk_alloc ?_ _)); refine blk_far ?_ NB219_221.out _; (with_reducible repeat (first | refine blk_drewN ?_ _ | refine blk_drew ?_ | refine blk_alloc ?_ _)); exact BK219.out)) (g := gb220) (o := .cells #[.int .i64 a2_0, .int .i64 a2_1] 26 (0, 0)) (by (with_reducible repeat (first | refine blk_drewN ?_ _ | refine blk_drew ?_ | refine blk_alloc ?_ _)); refine blk_far ?_ NB220_221.out _; (with_reducible repeat (first | refine blk_drewN ?_ _ | refine blk_drew ?_ | refine blk_alloc ?_ _)); refine blk_far ?_ NB220_221.out _; (with_reducible repeat (first | refine blk_drewN ?_ _ | refine blk_drew ?_ | refine blk_alloc ?_ _)); exact BK220.out)) (below_size (bl4 HB.out GE218.out GE219.out GE220.out GE221.out))); replace BK218 := Aside0.mk (blk_below (g := gb218) (o := .cells #[.int .i64 a0_0, .int .i64 a0_1] 26 (0, 0)) (by (with_reducible repeat (first | refine blk_drewN ?_ _ | refine blk_drew ?_ | refine blk_alloc ?_ _)); refine blk_far ?_ NB218_221.out _; (with_reducible repeat (first | refine blk_drewN ?_ _ | refine blk_drew ?_ | refine blk_alloc ?_ _)); refine blk_far ?_ NB218_221.out _; (with_reducible repeat (first | refine blk_drewN ?_ _ | refine blk_drew ?_ | refine blk_alloc ?_ _)); exact BK218.out) hb); replace BK219 := Aside0.mk (blk_below (g := gb219) (o := .cells #[.int .i64 a1_0, .int .i64 a1_1] 26 (0, 0)) (by (with_reducible repeat (first | refine blk_drewN ?_ _ | refine blk_drew ?_ | refine blk_alloc ?_ _)); refine blk_far ?_ NB219_221.out _; (with_reducible repeat (first | refine blk_drewN ?_ _ | refine blk_drew ?_ | refine blk_alloc ?_ _)); refine blk_far ?_ NB219_221.out _; (with_reducible repeat (first | refine blk_drewN ?_ _ | refine blk_drew ?_ | refine blk_alloc ?_ _)); exact BK219.out) hb); replace BK220 := Aside0.mk (blk_below (g := gb220) (o := .cells #[.int .i64 a2_0, .int .i64 a2_1] 26 (0, 0)) (by (with_reducible repeat (first | refine blk_drewN ?_ _ | refine blk_drew ?_ | refine blk_alloc ?_ _)); refine blk_far ?_ NB220_221.out _; (with_reducible repeat (first | refine blk_drewN ?_ _ | refine blk_drew ?_ | refine blk_alloc ?_ _)); refine blk_far ?_ NB220_221.out _; (with_reducible repeat (first | refine blk_drewN ?_ _ | refine blk_drew ?_ | refine blk_alloc ?_ _)); exact BK220.out) hb); replace BK221 := Aside0.mk (blk_below (g := gb221) (o := .cells #[.int .i64 a3, .int .i64 a4] 89 (0, 0)) (bk (blk_put (cs := #[.int .i64 a3, .int .i64 0]) (bk (blk_put (cs := #[.int .i64 0, .int .i64 0]) (bk BK221.out) 0 _ rfl)) 1 _ rfl)) hb); replace HB := Aside0.mk (below_step (bl4 HB.out GE218.out GE219.out GE220.out GE221.out) hb); clear hb ho86; obtain ⟨Ao87, co87, eo87⟩ := Kd.R_slice HO224.out; subst eo87) | ((with_reducible refine gate_callee (f := 67) rfl ?_); refine goesL_ (some 22) rfl rfl Try.func67 (by kernel_rfl) rfl #[.agg #[.int .i64 a3, .int .i64 a4], .slice Ao87 y222.length co87] rfl am ?_; (with_reducible refine (line_scale_asked.calls k a3 a4 _ _ y222 t225 _ ?side1 ?side2 A6.out).mono ?_); (case side1 => repeat (first | exact (Kd.R_reads' HO224.out).2.2 | (with_reducible refine Kd.C_alloc ?_ _) | (with_reducible refine Kd.C_drewN ?_ _) | (with_reducible refine Kd.C_drew ?_))); (case side2 => exact (Kd.R_reads' HO224.out).2.1); rintro e w88 ⟨rfl, hb⟩; refine ⟨_, rfl, ?_⟩; replace HO224 := Aside0.mk (Kd.R_below (by (with_reducible repeat (first | apply Kd.R_alloc | apply Kd.R_drewN | apply Kd.R_drew)); exact HO224.out) hb); replace BK218 := Aside0.mk (bb BK218.out hb); replace BK219 := Aside0.mk (bb BK219.out hb); replace BK220 := Aside0.mk (bb BK220.out hb); replace BK221 := Aside0.mk (bb BK221.out hb); replace HB := Aside0.mk (below_step (bl4 HB.out GE218.out GE219.out GE220.out GE221.out) hb); (try clear hb); (try clear hb2); (try clear hk); (try clear hi); have hcz89_0 : w88.cell? ⟨gb219, 0, none⟩ = some (.int .i64 a1_0) := (blk_cell BK219.out 0).trans rfl; have hcz89_1 : w88.cell? ⟨gb219, 1, none⟩ = some (.int .i64 a1_1) := (blk_cell BK219.out 1).trans rfl; have hfz89_0 := blk_frozen BK219.out 0; have hfz89_1 := blk_frozen BK219.out 1; have hcz90_0 : w88.cell? ⟨gb220, 0, none⟩ = some (.int .i64 a2_0) := (blk_cell BK220.out 0).trans rfl; have hcz90_1 : w88.cell? ⟨gb220, 1, none⟩ = some (.int .i64 a2_1) := (blk_cell BK220.out 1).trans rfl; have hfz90_0 := blk_frozen BK220.out 0; have hfz90_1 := blk_frozen BK220.out 1; have hcz91_0 : w88.cell? ⟨gb218, 0, none⟩ = some (.int .i64 a0_0) := (blk_cell BK218.out 0).trans rfl; have hcz91_1 : w88.cell? ⟨gb218, 1, none⟩ = some (.int .i64 a0_1) := (blk_cell BK218.out 1).trans rfl; have hfz91_0 := blk_frozen BK218.out 0; have hfz91_1 := blk_frozen BK218.out 1) | ((with_reducible refine gate_callee (f := 69) rfl ?_); refine goesL_ (some 30) rfl rfl Try.func69 (by kernel_rfl) rfl #[.agg #[.int .i64 a1_0, .int .i64 a1_1], .agg #[.int .i64 a2_0, .int .i64 a2_1], .agg #[.int .i64 a0_0, .int .i64 a0_1]] rfl am ?_; (with_reducible refine (line_ahead.calls k a1_0 a1_1 a2_0 a2_1 a0_0 a0_1 false _ A8.out).mono ?_); rintro e w92 ⟨rfl, hb⟩; refine ⟨_, rfl, ?_⟩; replace HO224 := Aside0.mk (Kd.R_below (by (with_reducible repeat (first | apply Kd.R_alloc | apply Kd.R_drewN | apply Kd.R_drew)); exact HO224.out) hb); replace BK218 := Aside0.mk (bb BK218.out hb); replace BK219 := Aside0.mk (bb BK219.out hb); replace BK220 := Aside0.mk (bb BK220.out hb); replace BK221 := Aside0.mk (bb BK221.out hb); replace HB := Aside0.mk (below_step (bl4 HB.out GE218.out GE219.out GE220.out GE221.out) hb); (try clear hb); (try clear hb2); (try clear hk); (try clear hi); have hcz93_0 : w92.cell? ⟨gb220, 0, none⟩ = some (.int .i64 a2_0) := (blk_cell BK220.out 0).trans rfl; have hcz93_1 : w92.cell? ⟨gb220, 1, none⟩ = some (.int .i64 a2_1) := (blk_cell BK220.out 1).trans rfl; have hfz93_0 := blk_frozen BK220.out 0; have hfz93_1 := blk_frozen BK220.out 1; have hcz94_0 : w92.cell? ⟨gb219, 0, none⟩ = some (.int .i64 a1_0) := (blk_cell BK219.out 0).trans rfl; have hcz94_1 : w92.cell? ⟨gb219, 1, none⟩ = some (.int .i64 a1_1) := (blk_cell BK219.out 1).trans rfl; have hfz94_0 := blk_frozen BK219.out 0; have hfz94_1 := blk_frozen BK219.out 1; have hcz95_0 : w92.cell? ⟨gb218, 0, none⟩ = some (.int .i64 a0_0) := (blk_cell BK218.out 0).trans rfl; have hcz95_1 : w92.cell? ⟨gb218, 1, none⟩ = some (.int .i64 a0_1) := (blk_cell BK218.out 1).trans rfl; have hfz95_0 := blk_frozen BK218.out 0; have hfz95_1 := blk_frozen BK218.out 1) | ((with_reducible refine gate_callee (f := 69) rfl ?_); refine goesL_ (some 39) rfl rfl Try.func69 (by kernel_rfl) rfl #[.agg #[.int .i64 a2_0, .int .i64 a2_1], .agg #[.int .i64 a1_0, .int .i64 a1_1], .agg #[.int .i64 a0_0, .int .i64 a0_1]] rfl am ?_; (with_reducible refine (line_ahead.calls k a2_0 a2_1 a1_0 a1_1 a0_0 a0_1 false _ A37.out).mono ?_); rintro e w96 ⟨rfl, hb⟩; refine ⟨_, rfl, ?_⟩; replace HO224 := Aside0.mk (Kd.R_below (by (with_reducible repeat (first | apply Kd.R_alloc | apply Kd.R_drewN | apply Kd.R_drew)); exact HO224.out) hb); replace BK218 := Aside0.mk (bb BK218.out hb); replace BK219 := Aside0.mk (bb BK219.out hb); replace BK220 := Aside0.mk (bb BK220.out hb); replace BK221 := Aside0.mk (bb BK221.out hb); replace HB := Aside0.mk (below_step (bl4 HB.out GE218.out GE219.out GE220.out GE221.out) hb); (try clear hb); (try clear hb2); (try clear hk); (try clear hi); have hcz97_0 : w96.cell? ⟨gb221, 0, none⟩ = some (.int .i64 a3) := (blk_cell BK221.out 0).trans rfl; have hcz97_1 : w96.cell? ⟨gb221, 1, none⟩ = some (.int .i64 a4) := (blk_cell BK221.out 1).trans rfl; have hfz97_0 := blk_frozen BK221.out 0; have hfz97_1 := blk_frozen BK221.out 1; have hcz98_0 : w96.cell? ⟨gb218, 0, none⟩ = some (.int .i64 a0_0) := (blk_cell BK218.out 0).trans rfl; have hcz98_1 : w96.cell? ⟨gb218, 1, none⟩ = some (.int .i64 a0_1) := (blk_cell BK218.out 1).trans rfl; have hfz98_0 := blk_frozen BK218.out 0; have hfz98_1 := blk_frozen BK218.out 1; have hcz99_0 : w96.cell? ⟨gb219, 0, none⟩ = some (.int .i64 a1_0) := (blk_cell BK219.out 0).trans rfl; have hcz99_1 : w96.cell? ⟨gb219, 1, none⟩ = some (.int .i64 a1_1) := (blk_cell BK219.out 1).trans rfl; have hfz99_0 := blk_frozen BK219.out 0; have hfz99_1 := blk_frozen BK219.out 1; have hcz100_0 : w96.cell? ⟨gb220, 0, none⟩ = some (.int .i64 a2_0) := (blk_cell BK220.out 0).trans rfl; have hcz100_1 : w96.cell? ⟨gb220, 1, none⟩ = some (.int .i64 a2_1) := (blk_cell BK220.out 1).trans rfl; have hfz100_0 := blk_frozen BK220.out 0; have hfz100_1 := blk_frozen BK220.out 1) | ((with_reducible refine gate_callee (f := 70) rfl ?_); refine goesL_ (some 48) rfl rfl Try.func70 (by kernel_rfl) rfl #[.agg #[.int .i64 a3, .int .i64 a4], .agg #[.int .i64 a0_0, .int .i64 a0_1], .agg #[.int .i64 a1_0, .int .i64 a1_1], .agg #[.int .i64 a2_0, .int .i64 a2_1]] rfl am ?_; (with_reducible refine (line_scale_beside.calls k a3 a4 a0_0 a0_1 a1_0 a1_1 a2_0 a2_1 t230 _ A70.out).mono ?_); rintro e w101 ⟨rfl, hb⟩; refine ⟨_, rfl, ?_⟩; replace HO224 := Aside0.mk (Kd.R_below (by (with_reducible repeat (first | apply Kd.R_alloc | apply Kd.R_drewN | apply Kd.R_drew)); exact HO224.out) hb); replace BK218 := Aside0.mk (bb BK218.out hb); replace BK219 := Aside0.mk (bb BK219.out hb); replace BK220 := Aside0.mk (bb BK220.out hb); replace BK221 := Aside0.mk (bb BK221.out hb); replace HB := Aside0.mk (below_step (bl4 HB.out GE218.out GE219.out GE220.out GE221.out) hb); (try clear hb); (try clear hb2); (try clear hk); (try clear hi)))
    go_ret2
    exact ⟨by first | rfl | (simp [errW_none, errW_some] <;> rfl) | (simp [*, errW_none, errW_some] <;> rfl), bl4 HB.out GE218.out GE219.out GE220.out GE221.out⟩
 ·rw [if_neg c7] at H
  have c7b0 : (t225 == 0) = false := beq_eq_false_iff_ne.mpr c7
  have c7b1 : (t225 != 0) = true := bne_iff_ne.mpr c7
  simp only [Option.some.injEq, Prod.mk.injEq] at H
  obtain ⟨rfl, rfl⟩ := H
  go_enter Try.func41, Try.ntmps41
  go_wp2_with (first | ((with_reducible refine gate_dst (N := 5) rfl ?_); refine be 5 (#[.int .i64 a0_0, .int .i64 a0_1]) 26 ?_; intro gb218 hg w102 hbox hb; have BK218 := Aside0.mk (hbox); have GW218 := Aside0.mk ((by rw [hg]; exact (below_size (bl0 HB.out)) : w.heap.size ≤ gb218)); have GE218 := GW218; replace HB := Aside0.mk (below_step (bl0 HB.out) hb); clear hb hbox hg) | ((with_reducible refine gate_dst (N := 6) rfl ?_); refine be 6 (#[.int .i64 a1_0, .int .i64 a1_1]) 26 ?_; intro gb219 hg w103 hbox hb; have BK219 := Aside0.mk (hbox); have GW219 := Aside0.mk ((by rw [hg]; exact (below_size (bl1 HB.out GE218.out)) : w.heap.size ≤ gb219)); have GE219 := GW219; have NB218_219 := Aside0.mk ((by rw [hg]; exact Nat.ne_of_lt (lt_ BK218.out) : gb218 ≠ gb219)); have NB219_218 := Aside0.mk ((by rw [hg]; exact Nat.ne_of_gt (lt_ BK218.out) : gb219 ≠ gb218)); replace BK218 := Aside0.mk (bb BK218.out hb); replace HB := Aside0.mk (below_step (bl1 HB.out GE218.out) hb); clear hb hbox hg) | ((with_reducible refine gate_dst (N := 7) rfl ?_); refine be 7 (#[.int .i64 a2_0, .int .i64 a2_1]) 26 ?_; intro gb220 hg w104 hbox hb; have BK220 := Aside0.mk (hbox); have GW220 := Aside0.mk ((by rw [hg]; exact (below_size (bl2 HB.out GE218.out GE219.out)) : w.heap.size ≤ gb220)); have GE220 := GW220; have NB218_220 := Aside0.mk ((by rw [hg]; exact Nat.ne_of_lt (lt_ BK218.out) : gb218 ≠ gb220)); have NB220_218 := Aside0.mk ((by rw [hg]; exact Nat.ne_of_gt (lt_ BK218.out) : gb220 ≠ gb218)); have NB219_220 := Aside0.mk ((by rw [hg]; exact Nat.ne_of_lt (lt_ BK219.out) : gb219 ≠ gb220)); have NB220_219 := Aside0.mk ((by rw [hg]; exact Nat.ne_of_gt (lt_ BK219.out) : gb220 ≠ gb219)); replace BK218 := Aside0.mk (bb BK218.out hb); replace BK219 := Aside0.mk (bb BK219.out hb); replace HB := Aside0.mk (below_step (bl2 HB.out GE218.out GE219.out) hb); clear hb hbox hg) | ((with_reducible refine gate_dst (N := 12) rfl ?_); refine be 12 (#[.int .i64 0, .int .i64 0]) 89 ?_; intro gb221 hg w105 hbox hb; have BK221 := Aside0.mk (hbox); have GW221 := Aside0.mk ((by rw [hg]; exact (below_size (bl3 HB.out GE218.out GE219.out GE220.out)) : w.heap.size ≤ gb221)); have GE221 := GW221; have NB218_221 := Aside0.mk ((by rw [hg]; exact Nat.ne_of_lt (lt_ BK218.out) : gb218 ≠ gb221)); have NB221_218 := Aside0.mk ((by rw [hg]; exact Nat.ne_of_gt (lt_ BK218.out) : gb221 ≠ gb218)); have NB219_221 := Aside0.mk ((by rw [hg]; exact Nat.ne_of_lt (lt_ BK219.out) : gb219 ≠ gb221)); have NB221_219 := Aside0.mk ((by rw [hg]; exact Nat.ne_of_gt (lt_ BK219.out) : gb221 ≠ gb219)); have NB220_221 := Aside0.mk ((by rw [hg]; exact Nat.ne_of_lt (lt_ BK220.out) : gb220 ≠ gb221)); have NB221_220 := Aside0.mk ((by rw [hg]; exact Nat.ne_of_gt (lt_ BK220.out) : gb221 ≠ gb220)); replace BK218 := Aside0.mk (bb BK218.out hb); replace BK219 := Aside0.mk (bb BK219.out hb); replace BK220 := Aside0.mk (bb BK220.out hb); replace HB := Aside0.mk (below_step (bl3 HB.out GE218.out GE219.out GE220.out) hb); clear hb hbox hg; have hnb106 := NB221_218.out; have hnc106 := NB218_221.out; have hnb107 := NB221_219.out; have hnc107 := NB219_221.out; have hnb108 := NB221_220.out; have hnc108 := NB220_221.out; have hcz109_0 : w105.cell? ⟨gb221, 0, none⟩ = some (.int .i64 0) := (blk_cell BK221.out 0).trans rfl; have hcz109_1 : w105.cell? ⟨gb221, 1, none⟩ = some (.int .i64 0) := (blk_cell BK221.out 1).trans rfl; have hfz109_0 := blk_frozen BK221.out 0; have hfz109_1 := blk_frozen BK221.out 1; have hnb110 := NB218_219.out; have hnc110 := NB219_218.out; have hnb111 := NB218_220.out; have hnc111 := NB220_218.out; have hcz112_0 : w105.cell? ⟨gb218, 0, none⟩ = some (.int .i64 a0_0) := (blk_cell BK218.out 0).trans rfl; have hcz112_1 : w105.cell? ⟨gb218, 1, none⟩ = some (.int .i64 a0_1) := (blk_cell BK218.out 1).trans rfl; have hfz112_0 := blk_frozen BK218.out 0; have hfz112_1 := blk_frozen BK218.out 1; have hnb113 := NB219_220.out; have hnc113 := NB220_219.out; have hcz114_0 : w105.cell? ⟨gb219, 0, none⟩ = some (.int .i64 a1_0) := (blk_cell BK219.out 0).trans rfl; have hcz114_1 : w105.cell? ⟨gb219, 1, none⟩ = some (.int .i64 a1_1) := (blk_cell BK219.out 1).trans rfl; have hfz114_0 := blk_frozen BK219.out 0; have hfz114_1 := blk_frozen BK219.out 1; have hcz115_0 : w105.cell? ⟨gb220, 0, none⟩ = some (.int .i64 a2_0) := (blk_cell BK220.out 0).trans rfl; have hcz115_1 : w105.cell? ⟨gb220, 1, none⟩ = some (.int .i64 a2_1) := (blk_cell BK220.out 1).trans rfl; have hfz115_0 := blk_frozen BK220.out 0; have hfz115_1 := blk_frozen BK220.out 1) | ((with_reducible refine gate_dst (N := 21) rfl ?_); refine Kd.R_lit k26 _ 26 ?hg (N := 21) ?hd (xs := ([(⟨a0_0, a0_1⟩ : S26), (⟨a1_0, a1_1⟩ : S26), (⟨a2_0, a2_1⟩ : S26)] : List (S26))) (inner := [.int .i64 a0_0, .int .i64 a0_1, .int .i64 a1_0, .int .i64 a1_1, .int .i64 a2_0, .int .i64 a2_1]) (ok := fun _ => True) (okp := fun _ => True) ?hr ?hp (fun _ hk => hk) trivial (Below.refl _ _) (Nat.le_refl _) (by simp) ?_; (case hd => rfl); (case hg => rfl); (case hr => first | (go_simp; done) | (go_simp; rfl)); (case hp => exact (Reps.c2 (show Kd.M k26 _ _ _ (⟨a0_0, a0_1⟩ : S26) [.int .i64 a0_0, .int .i64 a0_1] from (k26_mkM _ _ _ (⟨a0_0, a0_1⟩ : S26) )) (Reps.c2 (show Kd.M k26 _ _ _ (⟨a1_0, a1_1⟩ : S26) [.int .i64 a1_0, .int .i64 a1_1] from (k26_mkM _ _ _ (⟨a1_0, a1_1⟩ : S26) )) (Reps.c2 (show Kd.M k26 _ _ _ (⟨a2_0, a2_1⟩ : S26) [.int .i64 a2_0, .int .i64 a2_1] from (k26_mkM _ _ _ (⟨a2_0, a2_1⟩ : S26) )) (Reps.none _ _))))); intro v223 w116 ho117 hb hg_ hnew_; clear hg_ hnew_; (first | rw [← Ny222.out] at ho117 | (simp only [Int.reduceToNat] at ho117; rw [← Ny222.out] at ho117)); have HO224 := Aside0.mk (Kd.R_lower (Kd.R_newB (Kd.R_newB (Kd.R_newB ho117 (g := gb218) (o := .cells #[.int .i64 a0_0, .int .i64 a0_1] 26 (0, 0)) (by (with_reducible repeat (first | refine blk_drewN ?_ _ | refine blk_drew ?_ | refine blk_alloc ?_ _)); refine blk_far ?_ NB218_221.out _; (with_reducible repeat (first | refine blk_drewN ?_ _ | refine blk_drew ?_ | refine blk_alloc ?_ _)); refine blk_far ?_ NB218_221.out _; (with_reducible repeat (first | refine blk_drewN ?_ _ | refine blk_drew ?_ | refine blk_alloc ?_ _)); exact BK218.out)) (g := gb219) (o := .cells #[.int .i64 a1_0, .int .i64 a1_1] 26 (0, 0)) (by (with_reducible repeat (first | refine blk_drewN ?_ _ | refine blk_drew ?_ | refine blk_alloc ?_ _)); refine blk_far ?_ NB219_221.out _; (with_reducible repeat (first | refine blk_drewN ?_ _ | refine blk_drew ?_ | refine blk_alloc ?_ _)); refine blk_far ?_ NB219_221.out _; (with_reducible repeat (first | refine blk_drewN ?_ _ | refine blk_drew ?_ | refine blk_alloc ?_ _)); exact BK219.out)) (g := gb220) (o := .cells #[.int .i64 a2_0, .int .i64 a2_1] 26 (0, 0)) (by (with_reducible repeat (first | refine blk_drewN ?_ _ | refine blk_drew ?_ | refine blk_alloc ?_ _)); refine blk_far ?_ NB220_221.out _; (with_reducible repeat (first | refine blk_drewN ?_ _ | refine blk_drew ?_ | refine blk_alloc ?_ _)); refine blk_far ?_ NB220_221.out _; (with_reducible repeat (first | refine blk_drewN ?_ _ | refine blk_drew ?_ | refine blk_alloc ?_ _)); exact BK220.out)) (below_size (bl4 HB.out GE218.out GE219.out GE220.out GE221.out))); replace BK218 := Aside0.mk (blk_below (g := gb218) (o := .cells #[.int .i64 a0_0, .int .i64 a0_1] 26 (0, 0)) (by (with_reducible repeat (first | refine blk_drewN ?_ _ | refine blk_drew ?_ | refine blk_alloc ?_ _)); refine blk_far ?_ NB218_221.out _; (with_reducible repeat (first | refine blk_drewN ?_ _ | refine blk_drew ?_ | refine blk_alloc ?_ _)); refine blk_far ?_ NB218_221.out _; (with_reducible repeat (first | refine blk_drewN ?_ _ | refine blk_drew ?_ | refine blk_alloc ?_ _)); exact BK218.out) hb); replace BK219 := Aside0.mk (blk_below (g := gb219) (o := .cells #[.int .i64 a1_0, .int .i64 a1_1] 26 (0, 0)) (by (with_reducible repeat (first | refine blk_drewN ?_ _ | refine blk_drew ?_ | refine blk_alloc ?_ _)); refine blk_far ?_ NB219_221.out _; (with_reducible repeat (first | refine blk_drewN ?_ _ | refine blk_drew ?_ | refine blk_alloc ?_ _)); refine blk_far ?_ NB219_221.out _; (with_reducible repeat (first | refine blk_drewN ?_ _ | refine blk_drew ?_ | refine blk_alloc ?_ _)); exact BK219.out) hb); replace BK220 := Aside0.mk (blk_below (g := gb220) (o := .cells #[.int .i64 a2_0, .int .i64 a2_1] 26 (0, 0)) (by (with_reducible repeat (first | refine blk_drewN ?_ _ | refine blk_drew ?_ | refine blk_alloc ?_ _)); refine blk_far ?_ NB220_221.out _; (with_reducible repeat (first | refine blk_drewN ?_ _ | refine blk_drew ?_ | refine blk_alloc ?_ _)); refine blk_far ?_ NB220_221.out _; (with_reducible repeat (first | refine blk_drewN ?_ _ | refine blk_drew ?_ | refine blk_alloc ?_ _)); exact BK220.out) hb); replace BK221 := Aside0.mk (blk_below (g := gb221) (o := .cells #[.int .i64 a3, .int .i64 a4] 89 (0, 0)) (bk (blk_put (cs := #[.int .i64 a3, .int .i64 0]) (bk (blk_put (cs := #[.int .i64 0, .int .i64 0]) (bk BK221.out) 0 _ rfl)) 1 _ rfl)) hb); replace HB := Aside0.mk (below_step (bl4 HB.out GE218.out GE219.out GE220.out GE221.out) hb); clear hb ho117; obtain ⟨Ao118, co118, eo118⟩ := Kd.R_slice HO224.out; subst eo118) | ((with_reducible refine gate_callee (f := 67) rfl ?_); refine goesL_ (some 22) rfl rfl Try.func67 (by kernel_rfl) rfl #[.agg #[.int .i64 a3, .int .i64 a4], .slice Ao118 y222.length co118] rfl am ?_; (with_reducible refine (line_scale_asked.calls k a3 a4 _ _ y222 t225 _ ?side1 ?side2 A6.out).mono ?_); (case side1 => repeat (first | exact (Kd.R_reads' HO224.out).2.2 | (with_reducible refine Kd.C_alloc ?_ _) | (with_reducible refine Kd.C_drewN ?_ _) | (with_reducible refine Kd.C_drew ?_))); (case side2 => exact (Kd.R_reads' HO224.out).2.1); rintro e w119 ⟨rfl, hb⟩; refine ⟨_, rfl, ?_⟩; replace HO224 := Aside0.mk (Kd.R_below (by (with_reducible repeat (first | apply Kd.R_alloc | apply Kd.R_drewN | apply Kd.R_drew)); exact HO224.out) hb); replace BK218 := Aside0.mk (bb BK218.out hb); replace BK219 := Aside0.mk (bb BK219.out hb); replace BK220 := Aside0.mk (bb BK220.out hb); replace BK221 := Aside0.mk (bb BK221.out hb); replace HB := Aside0.mk (below_step (bl4 HB.out GE218.out GE219.out GE220.out GE221.out) hb); (try clear hb); (try clear hb2); (try clear hk); (try clear hi)))
  go_ret2
  exact ⟨by first | rfl | (simp [errW_none, errW_some] <;> rfl) | (simp [*, errW_none, errW_some] <;> rfl), bl4 HB.out GE218.out GE219.out GE220.out GE221.out⟩

/-! ### pochoirlaw19_awake: function 37 -/
def pochoirlaw19_awake.f (k : Nat)  : Option (Bool) := (line_Segment.f k 0 3 (-5) 0 5 0 4 4).bind fun bt231 => ((line_Point.f k 3 4 0 0 10 10).bind fun bt233 => ((line_Of.f k 0 18 0 2 4 4).bind fun bt235 => (if bt231.1 = 3 then (if bt231.2 = 0 then (if bt233.1 = 5 then (if bt233.2 = 0 then (if bt235.1 = 3 then (some (bt235.2 == 0)) else (some false)) else (some false)) else (some false)) else (some false)) else (some false))))
theorem pochoirlaw19_awake.mono : ∀ k, LeO (pochoirlaw19_awake.f k ) (pochoirlaw19_awake.f (k + 1) ) := by
 intro  k
 unfold pochoirlaw19_awake.f
 repeat' first
   | (with_reducible exact line_Of.mono _ _ _ _ _ _ _)
   | (with_reducible exact line_Point.mono _ _ _ _ _ _ _)
   | (with_reducible exact line_Segment.mono _ _ _ _ _ _ _ _ _)
   | (with_reducible exact LeO.refl _)
   | (with_reducible exact LeO.none _)
   | (with_reducible refine LeO.ite ?_ ?_)
   | (with_reducible refine LeO.bind ?_ (fun _ => ?_))
   | exact line_Of.mono _ _ _ _ _ _ _
   | exact line_Point.mono _ _ _ _ _ _ _
   | exact line_Segment.mono _ _ _ _ _ _ _ _ _
   | exact LeO.none _
   | refine LeO.ite ?_ ?_
   | refine LeO.bind ?_ (fun _ => ?_)
set_option maxHeartbeats 8000000 in
set_option maxRecDepth 100000 in
theorem pochoirlaw19_awake.calls (k : Nat)  (r : Bool) (w : World) (h : pochoirlaw19_awake.f k  = some r) :
  Calls Try.prog 37 #[] w fun e w' => e = .returned (.bool r) ∧ Below w.heap.size w w' := by
 have hu26 := Try.underlying26
 have hu49 := Try.underlying49
 have HB := Aside0.mk (Below.refl w.heap.size w)
 have H : ((line_Segment.f k 0 3 (-5) 0 5 0 4 4).bind fun bt231 => ((line_Point.f k 3 4 0 0 10 10).bind fun bt233 => ((line_Of.f k 0 18 0 2 4 4).bind fun bt235 => (if bt231.1 = 3 then (if bt231.2 = 0 then (if bt233.1 = 5 then (if bt233.2 = 0 then (if bt235.1 = 3 then (some (bt235.2 == 0)) else (some false)) else (some false)) else (some false)) else (some false)) else (some false))))) = some r := h
 clear h
 replace H := Option.bind_eq_some_iff.mp H
 obtain ⟨⟨t231, t232⟩, A10, H⟩ := H
 replace H : ((line_Point.f k 3 4 0 0 10 10).bind fun bt233 => ((line_Of.f k 0 18 0 2 4 4).bind fun bt235 => (if t231 = 3 then (if t232 = 0 then (if bt233.1 = 5 then (if bt233.2 = 0 then (if bt235.1 = 3 then (some (bt235.2 == 0)) else (some false)) else (some false)) else (some false)) else (some false)) else (some false)))) = some r := H
 have A1 := Aside0.mk A10
 clear A10
 replace H := Option.bind_eq_some_iff.mp H
 obtain ⟨⟨t233, t234⟩, A20, H⟩ := H
 replace H : ((line_Of.f k 0 18 0 2 4 4).bind fun bt235 => (if t231 = 3 then (if t232 = 0 then (if t233 = 5 then (if t234 = 0 then (if bt235.1 = 3 then (some (bt235.2 == 0)) else (some false)) else (some false)) else (some false)) else (some false)) else (some false))) = some r := H
 have A2 := Aside0.mk A20
 clear A20
 replace H := Option.bind_eq_some_iff.mp H
 obtain ⟨⟨t235, t236⟩, A30, H⟩ := H
 replace H : (if t231 = 3 then (if t232 = 0 then (if t233 = 5 then (if t234 = 0 then (if t235 = 3 then (some (t236 == 0)) else (some false)) else (some false)) else (some false)) else (some false)) else (some false)) = some r := H
 have A3 := Aside0.mk A30
 clear A30
 by_cases c4 : t231 = 3
 ·rw [if_pos c4] at H
  have c4b0 : (t231 == 3) = true := beq_iff_eq.mpr c4
  have c4b1 : (t231 != 3) = false := bne_eq_false_iff_eq.mpr c4
  clear c4
  by_cases c5 : t232 = 0
  ·rw [if_pos c5] at H
   have c5b0 : (t232 == 0) = true := beq_iff_eq.mpr c5
   have c5b1 : (t232 != 0) = false := bne_eq_false_iff_eq.mpr c5
   clear c5
   by_cases c6 : t233 = 5
   ·rw [if_pos c6] at H
    have c6b0 : (t233 == 5) = true := beq_iff_eq.mpr c6
    have c6b1 : (t233 != 5) = false := bne_eq_false_iff_eq.mpr c6
    clear c6
    by_cases c7 : t234 = 0
    ·rw [if_pos c7] at H
     have c7b0 : (t234 == 0) = true := beq_iff_eq.mpr c7
     have c7b1 : (t234 != 0) = false := bne_eq_false_iff_eq.mpr c7
     clear c7
     by_cases c8 : t235 = 3
     ·rw [if_pos c8] at H
      have c8b0 : (t235 == 3) = true := beq_iff_eq.mpr c8
      have c8b1 : (t235 != 3) = false := bne_eq_false_iff_eq.mpr c8
      clear c8
      obtain rfl := Option.some.inj H
      go_enter Try.func37, Try.ntmps37
      go_wp2_with (first | ((with_reducible refine gate_callee (f := 41) rfl ?_); refine goesL_ (some 11) rfl rfl Try.func41 (by kernel_rfl) rfl #[.agg #[.int .i64 0, .int .i64 3], .agg #[.int .i64 (-5), .int .i64 0], .agg #[.int .i64 5, .int .i64 0], .int .i64 4, .int .i64 4] rfl am ?_; (with_reducible refine (line_Segment.calls k 0 3 (-5) 0 5 0 4 4 t231 t232 _ A1.out).mono ?_); rintro e w9 ⟨rfl, hb⟩; refine ⟨_, rfl, ?_⟩; replace HB := Aside0.mk (below_step (bl0 HB.out) hb); (try clear hb); (try clear hb2); (try clear hk); (try clear hi)) | ((with_reducible refine gate_callee (f := 40) rfl ?_); refine goesL_ (some 17) rfl rfl Try.func40 (by kernel_rfl) rfl #[.agg #[.int .i64 3, .int .i64 4], .agg #[.int .i64 0, .int .i64 0], .int .i64 10, .int .i64 10] rfl am ?_; (with_reducible refine (line_Point.calls k 3 4 0 0 10 10 t233 t234 _ A2.out).mono ?_); rintro e w10 ⟨rfl, hb⟩; refine ⟨_, rfl, ?_⟩; replace HB := Aside0.mk (below_step (bl0 HB.out) hb); (try clear hb); (try clear hb2); (try clear hk); (try clear hi)) | ((with_reducible refine gate_callee (f := 38) rfl ?_); refine goesL_ (some 23) rfl rfl Try.func38 (by kernel_rfl) rfl #[.agg #[.int .u64 0, .int .u64 18], .agg #[.int .u64 0, .int .u64 2], .int .i64 4, .int .i64 4] rfl am ?_; (with_reducible refine (line_Of.calls k 0 18 0 2 4 4 t235 t236 _ A3.out).mono ?_); rintro e w11 ⟨rfl, hb⟩; refine ⟨_, rfl, ?_⟩; replace HB := Aside0.mk (below_step (bl0 HB.out) hb); (try clear hb); (try clear hb2); (try clear hk); (try clear hi)))
      go_ret
      exact ⟨by first | rfl | (simp [errW_none, errW_some] <;> rfl) | (simp [*, errW_none, errW_some] <;> rfl), bl0 HB.out⟩
     ·rw [if_neg c8] at H
      have c8b0 : (t235 == 3) = false := beq_eq_false_iff_ne.mpr c8
      have c8b1 : (t235 != 3) = true := bne_iff_ne.mpr c8
      obtain rfl := Option.some.inj H
      go_enter Try.func37, Try.ntmps37
      go_wp2_with (first | ((with_reducible refine gate_callee (f := 41) rfl ?_); refine goesL_ (some 11) rfl rfl Try.func41 (by kernel_rfl) rfl #[.agg #[.int .i64 0, .int .i64 3], .agg #[.int .i64 (-5), .int .i64 0], .agg #[.int .i64 5, .int .i64 0], .int .i64 4, .int .i64 4] rfl am ?_; (with_reducible refine (line_Segment.calls k 0 3 (-5) 0 5 0 4 4 t231 t232 _ A1.out).mono ?_); rintro e w12 ⟨rfl, hb⟩; refine ⟨_, rfl, ?_⟩; replace HB := Aside0.mk (below_step (bl0 HB.out) hb); (try clear hb); (try clear hb2); (try clear hk); (try clear hi)) | ((with_reducible refine gate_callee (f := 40) rfl ?_); refine goesL_ (some 17) rfl rfl Try.func40 (by kernel_rfl) rfl #[.agg #[.int .i64 3, .int .i64 4], .agg #[.int .i64 0, .int .i64 0], .int .i64 10, .int .i64 10] rfl am ?_; (with_reducible refine (line_Point.calls k 3 4 0 0 10 10 t233 t234 _ A2.out).mono ?_); rintro e w13 ⟨rfl, hb⟩; refine ⟨_, rfl, ?_⟩; replace HB := Aside0.mk (below_step (bl0 HB.out) hb); (try clear hb); (try clear hb2); (try clear hk); (try clear hi)) | ((with_reducible refine gate_callee (f := 38) rfl ?_); refine goesL_ (some 23) rfl rfl Try.func38 (by kernel_rfl) rfl #[.agg #[.int .u64 0, .int .u64 18], .agg #[.int .u64 0, .int .u64 2], .int .i64 4, .int .i64 4] rfl am ?_; (with_reducible refine (line_Of.calls k 0 18 0 2 4 4 t235 t236 _ A3.out).mono ?_); rintro e w14 ⟨rfl, hb⟩; refine ⟨_, rfl, ?_⟩; replace HB := Aside0.mk (below_step (bl0 HB.out) hb); (try clear hb); (try clear hb2); (try clear hk); (try clear hi)))
      go_ret
      exact ⟨by first | rfl | (simp [errW_none, errW_some] <;> rfl) | (simp [*, errW_none, errW_some] <;> rfl), bl0 HB.out⟩
    ·rw [if_neg c7] at H
     have c7b0 : (t234 == 0) = false := beq_eq_false_iff_ne.mpr c7
     have c7b1 : (t234 != 0) = true := bne_iff_ne.mpr c7
     obtain rfl := Option.some.inj H
     go_enter Try.func37, Try.ntmps37
     go_wp2_with (first | ((with_reducible refine gate_callee (f := 41) rfl ?_); refine goesL_ (some 11) rfl rfl Try.func41 (by kernel_rfl) rfl #[.agg #[.int .i64 0, .int .i64 3], .agg #[.int .i64 (-5), .int .i64 0], .agg #[.int .i64 5, .int .i64 0], .int .i64 4, .int .i64 4] rfl am ?_; (with_reducible refine (line_Segment.calls k 0 3 (-5) 0 5 0 4 4 t231 t232 _ A1.out).mono ?_); rintro e w15 ⟨rfl, hb⟩; refine ⟨_, rfl, ?_⟩; replace HB := Aside0.mk (below_step (bl0 HB.out) hb); (try clear hb); (try clear hb2); (try clear hk); (try clear hi)) | ((with_reducible refine gate_callee (f := 40) rfl ?_); refine goesL_ (some 17) rfl rfl Try.func40 (by kernel_rfl) rfl #[.agg #[.int .i64 3, .int .i64 4], .agg #[.int .i64 0, .int .i64 0], .int .i64 10, .int .i64 10] rfl am ?_; (with_reducible refine (line_Point.calls k 3 4 0 0 10 10 t233 t234 _ A2.out).mono ?_); rintro e w16 ⟨rfl, hb⟩; refine ⟨_, rfl, ?_⟩; replace HB := Aside0.mk (below_step (bl0 HB.out) hb); (try clear hb); (try clear hb2); (try clear hk); (try clear hi)) | ((with_reducible refine gate_callee (f := 38) rfl ?_); refine goesL_ (some 23) rfl rfl Try.func38 (by kernel_rfl) rfl #[.agg #[.int .u64 0, .int .u64 18], .agg #[.int .u64 0, .int .u64 2], .int .i64 4, .int .i64 4] rfl am ?_; (with_reducible refine (line_Of.calls k 0 18 0 2 4 4 t235 t236 _ A3.out).mono ?_); rintro e w17 ⟨rfl, hb⟩; refine ⟨_, rfl, ?_⟩; replace HB := Aside0.mk (below_step (bl0 HB.out) hb); (try clear hb); (try clear hb2); (try clear hk); (try clear hi)))
     go_ret
     exact ⟨by first | rfl | (simp [errW_none, errW_some] <;> rfl) | (simp [*, errW_none, errW_some] <;> rfl), bl0 HB.out⟩
   ·rw [if_neg c6] at H
    have c6b0 : (t233 == 5) = false := beq_eq_false_iff_ne.mpr c6
    have c6b1 : (t233 != 5) = true := bne_iff_ne.mpr c6
    obtain rfl := Option.some.inj H
    go_enter Try.func37, Try.ntmps37
    go_wp2_with (first | ((with_reducible refine gate_callee (f := 41) rfl ?_); refine goesL_ (some 11) rfl rfl Try.func41 (by kernel_rfl) rfl #[.agg #[.int .i64 0, .int .i64 3], .agg #[.int .i64 (-5), .int .i64 0], .agg #[.int .i64 5, .int .i64 0], .int .i64 4, .int .i64 4] rfl am ?_; (with_reducible refine (line_Segment.calls k 0 3 (-5) 0 5 0 4 4 t231 t232 _ A1.out).mono ?_); rintro e w18 ⟨rfl, hb⟩; refine ⟨_, rfl, ?_⟩; replace HB := Aside0.mk (below_step (bl0 HB.out) hb); (try clear hb); (try clear hb2); (try clear hk); (try clear hi)) | ((with_reducible refine gate_callee (f := 40) rfl ?_); refine goesL_ (some 17) rfl rfl Try.func40 (by kernel_rfl) rfl #[.agg #[.int .i64 3, .int .i64 4], .agg #[.int .i64 0, .int .i64 0], .int .i64 10, .int .i64 10] rfl am ?_; (with_reducible refine (line_Point.calls k 3 4 0 0 10 10 t233 t234 _ A2.out).mono ?_); rintro e w19 ⟨rfl, hb⟩; refine ⟨_, rfl, ?_⟩; replace HB := Aside0.mk (below_step (bl0 HB.out) hb); (try clear hb); (try clear hb2); (try clear hk); (try clear hi)) | ((with_reducible refine gate_callee (f := 38) rfl ?_); refine goesL_ (some 23) rfl rfl Try.func38 (by kernel_rfl) rfl #[.agg #[.int .u64 0, .int .u64 18], .agg #[.int .u64 0, .int .u64 2], .int .i64 4, .int .i64 4] rfl am ?_; (with_reducible refine (line_Of.calls k 0 18 0 2 4 4 t235 t236 _ A3.out).mono ?_); rintro e w20 ⟨rfl, hb⟩; refine ⟨_, rfl, ?_⟩; replace HB := Aside0.mk (below_step (bl0 HB.out) hb); (try clear hb); (try clear hb2); (try clear hk); (try clear hi)))
    go_ret
    exact ⟨by first | rfl | (simp [errW_none, errW_some] <;> rfl) | (simp [*, errW_none, errW_some] <;> rfl), bl0 HB.out⟩
  ·rw [if_neg c5] at H
   have c5b0 : (t232 == 0) = false := beq_eq_false_iff_ne.mpr c5
   have c5b1 : (t232 != 0) = true := bne_iff_ne.mpr c5
   obtain rfl := Option.some.inj H
   go_enter Try.func37, Try.ntmps37
   go_wp2_with (first | ((with_reducible refine gate_callee (f := 41) rfl ?_); refine goesL_ (some 11) rfl rfl Try.func41 (by kernel_rfl) rfl #[.agg #[.int .i64 0, .int .i64 3], .agg #[.int .i64 (-5), .int .i64 0], .agg #[.int .i64 5, .int .i64 0], .int .i64 4, .int .i64 4] rfl am ?_; (with_reducible refine (line_Segment.calls k 0 3 (-5) 0 5 0 4 4 t231 t232 _ A1.out).mono ?_); rintro e w21 ⟨rfl, hb⟩; refine ⟨_, rfl, ?_⟩; replace HB := Aside0.mk (below_step (bl0 HB.out) hb); (try clear hb); (try clear hb2); (try clear hk); (try clear hi)) | ((with_reducible refine gate_callee (f := 40) rfl ?_); refine goesL_ (some 17) rfl rfl Try.func40 (by kernel_rfl) rfl #[.agg #[.int .i64 3, .int .i64 4], .agg #[.int .i64 0, .int .i64 0], .int .i64 10, .int .i64 10] rfl am ?_; (with_reducible refine (line_Point.calls k 3 4 0 0 10 10 t233 t234 _ A2.out).mono ?_); rintro e w22 ⟨rfl, hb⟩; refine ⟨_, rfl, ?_⟩; replace HB := Aside0.mk (below_step (bl0 HB.out) hb); (try clear hb); (try clear hb2); (try clear hk); (try clear hi)) | ((with_reducible refine gate_callee (f := 38) rfl ?_); refine goesL_ (some 23) rfl rfl Try.func38 (by kernel_rfl) rfl #[.agg #[.int .u64 0, .int .u64 18], .agg #[.int .u64 0, .int .u64 2], .int .i64 4, .int .i64 4] rfl am ?_; (with_reducible refine (line_Of.calls k 0 18 0 2 4 4 t235 t236 _ A3.out).mono ?_); rintro e w23 ⟨rfl, hb⟩; refine ⟨_, rfl, ?_⟩; replace HB := Aside0.mk (below_step (bl0 HB.out) hb); (try clear hb); (try clear hb2); (try clear hk); (try clear hi)))
   go_ret
   exact ⟨by first | rfl | (simp [errW_none, errW_some] <;> rfl) | (simp [*, errW_none, errW_some] <;> rfl), bl0 HB.out⟩
 ·rw [if_neg c4] at H
  have c4b0 : (t231 == 3) = false := beq_eq_false_iff_ne.mpr c4
  have c4b1 : (t231 != 3) = true := bne_iff_ne.mpr c4
  obtain rfl := Option.some.inj H
  go_enter Try.func37, Try.ntmps37
  go_wp2_with (first | ((with_reducible refine gate_callee (f := 41) rfl ?_); refine goesL_ (some 11) rfl rfl Try.func41 (by kernel_rfl) rfl #[.agg #[.int .i64 0, .int .i64 3], .agg #[.int .i64 (-5), .int .i64 0], .agg #[.int .i64 5, .int .i64 0], .int .i64 4, .int .i64 4] rfl am ?_; (with_reducible refine (line_Segment.calls k 0 3 (-5) 0 5 0 4 4 t231 t232 _ A1.out).mono ?_); rintro e w24 ⟨rfl, hb⟩; refine ⟨_, rfl, ?_⟩; replace HB := Aside0.mk (below_step (bl0 HB.out) hb); (try clear hb); (try clear hb2); (try clear hk); (try clear hi)) | ((with_reducible refine gate_callee (f := 40) rfl ?_); refine goesL_ (some 17) rfl rfl Try.func40 (by kernel_rfl) rfl #[.agg #[.int .i64 3, .int .i64 4], .agg #[.int .i64 0, .int .i64 0], .int .i64 10, .int .i64 10] rfl am ?_; (with_reducible refine (line_Point.calls k 3 4 0 0 10 10 t233 t234 _ A2.out).mono ?_); rintro e w25 ⟨rfl, hb⟩; refine ⟨_, rfl, ?_⟩; replace HB := Aside0.mk (below_step (bl0 HB.out) hb); (try clear hb); (try clear hb2); (try clear hk); (try clear hi)) | ((with_reducible refine gate_callee (f := 38) rfl ?_); refine goesL_ (some 23) rfl rfl Try.func38 (by kernel_rfl) rfl #[.agg #[.int .u64 0, .int .u64 18], .agg #[.int .u64 0, .int .u64 2], .int .i64 4, .int .i64 4] rfl am ?_; (with_reducible refine (line_Of.calls k 0 18 0 2 4 4 t235 t236 _ A3.out).mono ?_); rintro e w26 ⟨rfl, hb⟩; refine ⟨_, rfl, ?_⟩; replace HB := Aside0.mk (below_step (bl0 HB.out) hb); (try clear hb); (try clear hb2); (try clear hk); (try clear hi)))
  go_ret
  exact ⟨by first | rfl | (simp [errW_none, errW_some] <;> rfl) | (simp [*, errW_none, errW_some] <;> rfl), bl0 HB.out⟩

/-! ### pochoirref01_Digits: function 57 -/
mutual
def pochoirref01_Digits.l0 : Nat → List Int → Int → Int → Int → Option (List Int)
 | 0, _, _, _, _ => none
 | k + 1, x3, x4, x238000, x238001 => if x4 < 4 then (if 0 ≤ (wrap64 (16 * x4)) then (if x3.length < 17592186044416 then (pochoirref01_Digits.l0 k (x3 ++ [Int.tmod (shr .u64 x238001 (wrap64 (16 * x4))) 65536]) (wrap64 (x4 + 1)) x238000 x238001) else (none)) else (none)) else (pochoirref01_Digits.l1 k x3 0 x238000 x238001)
def pochoirref01_Digits.l1 : Nat → List Int → Int → Int → Int → Option (List Int)
 | 0, _, _, _, _ => none
 | k + 1, x3, x5, x238000, x238001 => if x5 < 4 then (if 0 ≤ (wrap64 (16 * x5)) then (if x3.length < 17592186044416 then (pochoirref01_Digits.l1 k (x3 ++ [Int.tmod (shr .u64 x238000 (wrap64 (16 * x5))) 65536]) (wrap64 (x5 + 1)) x238000 x238001) else (none)) else (none)) else (some x3)
end
def pochoirref01_Digits.f (k : Nat) (a0_0 : Int) (a0_1 : Int) : Option (List Int) := pochoirref01_Digits.l0 k ([] : List Int) 0 a0_0 a0_1
theorem pochoirref01_Digits.mono_l : ∀ k, (∀ y0 y1 y2 y3, LeO (pochoirref01_Digits.l0 k y0 y1 y2 y3) (pochoirref01_Digits.l0 (k + 1) y0 y1 y2 y3)) ∧ (∀ y0 y1 y2 y3, LeO (pochoirref01_Digits.l1 k y0 y1 y2 y3) (pochoirref01_Digits.l1 (k + 1) y0 y1 y2 y3))
 | 0 => ⟨fun _ _ _ _ r h => by simp [pochoirref01_Digits.l0] at h, fun _ _ _ _ r h => by simp [pochoirref01_Digits.l1] at h⟩
 | k + 1 => by
  obtain ⟨ih0, ih1⟩ := pochoirref01_Digits.mono_l k
  refine ⟨?_, ?_⟩
  ·intro y0 y1 y2 y3
   unfold pochoirref01_Digits.l0
   repeat' first
   | (with_reducible exact ih0 _ _ _ _)
   | (with_reducible exact ih1 _ _ _ _)
   | (with_reducible exact LeO.refl _)
   | (with_reducible exact LeO.none _)
   | (with_reducible refine LeO.ite ?_ ?_)
   | (with_reducible refine LeO.bind ?_ (fun _ => ?_))
   | exact ih0 _ _ _ _
   | exact ih1 _ _ _ _
   | exact LeO.none _
   | refine LeO.ite ?_ ?_
   | refine LeO.bind ?_ (fun _ => ?_)
  ·intro y0 y1 y2 y3
   unfold pochoirref01_Digits.l1
   repeat' first
   | (with_reducible exact ih0 _ _ _ _)
   | (with_reducible exact ih1 _ _ _ _)
   | (with_reducible exact LeO.refl _)
   | (with_reducible exact LeO.none _)
   | (with_reducible refine LeO.ite ?_ ?_)
   | (with_reducible refine LeO.bind ?_ (fun _ => ?_))
   | exact ih0 _ _ _ _
   | exact ih1 _ _ _ _
   | exact LeO.none _
   | refine LeO.ite ?_ ?_
   | refine LeO.bind ?_ (fun _ => ?_)
theorem pochoirref01_Digits.mono : ∀ a0 a1 k, LeO (pochoirref01_Digits.f k a0 a1) (pochoirref01_Digits.f (k + 1) a0 a1) := by
 intro a0 a1 k
 obtain ⟨ih0, ih1⟩ := pochoirref01_Digits.mono_l k
 unfold pochoirref01_Digits.f
 repeat' first
   | (with_reducible exact ih0 _ _ _ _)
   | (with_reducible exact ih1 _ _ _ _)
   | (with_reducible exact LeO.refl _)
   | (with_reducible exact LeO.none _)
   | (with_reducible refine LeO.ite ?_ ?_)
   | (with_reducible refine LeO.bind ?_ (fun _ => ?_))
   | exact ih0 _ _ _ _
   | exact ih1 _ _ _ _
   | exact LeO.none _
   | refine LeO.ite ?_ ?_
   | refine LeO.bind ?_ (fun _ => ?_)
set_option maxHeartbeats 8000000 in
set_option maxRecDepth 100000 in
theorem pochoirref01_Digits.calls (k : Nat) (a0_0 : Int) (a0_1 : Int) (r : List Int) (w : World) (h : pochoirref01_Digits.f k a0_0 a0_1 = some r) :
  Calls Try.prog 57 #[.agg #[.int .u64 a0_0, .int .u64 a0_1]] w fun e w' => ∃ v0_ : Value, e = .returned (v0_) ∧ Kd.R (Kd.int .u64) 47 w' w.heap.size (fun _ => True) v0_ r ∧ Below w.heap.size w w' := by
 have hu49 := Try.underlying49
 have HB := Aside0.mk (Below.refl w.heap.size w)
 have H : (pochoirref01_Digits.l0 k ([] : List Int) 0 a0_0 a0_1) = some r := h
 clear h
 have H' := Aside0.mk H
 clear H
 go_enter Try.func57, Try.ntmps57
 go_wp2_with (first | ((with_reducible refine gate_dst (N := 1) rfl ?_); refine be 1 (#[.int .u64 a0_0, .int .u64 a0_1]) 49 ?_; intro gb237 hg w2 hbox hb; have BK237 := Aside0.mk (hbox); have GW237 := Aside0.mk ((by rw [hg]; exact (below_size (bl0 HB.out)) : w.heap.size ≤ gb237)); have GE237 := GW237; replace HB := Aside0.mk (below_step (bl0 HB.out) hb); clear hb hbox hg))
 go_loopg [3, 4] k (fun kq v3 v4 w' => ∃ (x3_1 : List Int) (x4_1 : Int), v4 = .int .i64 x4_1 ∧ Aside0 (pochoirref01_Digits.l0 kq x3_1 x4_1 a0_0 a0_1 = some r) ∧ Aside0 (kq ≤ k) ∧ Aside0 (Kd.R (Kd.int .u64) 47 w' w.heap.size (fun _ => True) v3 x3_1) ∧ Aside0 (w'.heap[gb237]? = some (.cells #[.int .u64 a0_0, .int .u64 a0_1] 49 (0, 0))) ∧ Aside0 (Below w.heap.size w w'))
 case atStart => exact ⟨(([] : List Int)), (0), fr, H', ⟨Nat.le_refl _⟩, ⟨by first | exact Kd.R_nil _ _ _ _ _ | exact Kd.N_nil _ _ _ _ _ | exact Kd.V_nil _ _ _ _ _ | exact Kd.Q_nil _ _ _ _ _ | exact Kd.S_nil _ _ _ _ _⟩, ⟨bk BK237.out⟩, ⟨bl1 HB.out GE237.out⟩⟩
 case round =>
  clear H'
  try clear p2
  obtain ⟨x3_1, x4_1, rfl, HA, HK1, HO_3, BK237, HB⟩ := hrel
  cases gk with
  | zero => exact absurd HA.out (by simp [pochoirref01_Digits.l0])
  | succ k1 =>
   have H := HA.out
   clear HA
   simp only [pochoirref01_Digits.l0] at H
   by_cases c3 : x4_1 < 4
   ·rw [if_pos c3] at H
    have c3b0 : decide (x4_1 < 4) = true := decide_eq_true c3
    clear c3
    obtain ⟨ji4, hji4⟩ : ∃ j_ : Int, (wrap64 (16 * x4_1)) = j_ := ⟨_, rfl⟩
    replace H : (if 0 ≤ (ji4) then (if x3_1.length < 17592186044416 then (pochoirref01_Digits.l0 k1 (x3_1 ++ [Int.tmod (shr .u64 a0_1 (ji4)) 65536]) (wrap64 (x4_1 + 1)) a0_0 a0_1) else (none)) else (none)) = some r := by first | (rw [hji4] at H; exact H) | (simp only [hji4] at H ⊢; exact H)
    have hji4w : (IntKind.i64.wrap (16 * x4_1)) = ji4 := (i64_w _).trans hji4
    by_cases c5 : 0 ≤ (ji4)
    ·rw [if_pos c5] at H
     have c5b0 := eq_true c5
     have c5b1 : decide (0 ≤ (ji4)) = true := decide_eq_true c5
     clear c5
     obtain ⟨ji6, hji6⟩ : ∃ j_ : Int, (shr .u64 a0_1 (ji4)) = j_ := ⟨_, rfl⟩
     replace H : (if x3_1.length < 17592186044416 then (pochoirref01_Digits.l0 k1 (x3_1 ++ [Int.tmod (ji6) 65536]) (wrap64 (x4_1 + 1)) a0_0 a0_1) else (none)) = some r := by first | (rw [hji6] at H; exact H) | (simp only [hji6] at H ⊢; exact H)
     have hji6_ : (a0_1 / 2 ^ min (ji4).toNat 64) = ji6 := hji6
     have hji6z : (ji4) ≤ 64 → (a0_1 / 2 ^ (ji4).toNat) = ji6 := shr_small hji6
     by_cases c7 : x3_1.length < 17592186044416
     ·rw [if_pos c7] at H
      have LMc7 := Aside0.mk c7
      clear c7
      obtain ⟨y238, hy238⟩ : ∃ y_ : List Int, y_ = (x3_1 ++ [Int.tmod (ji6) 65536]) := ⟨_, rfl⟩
      replace H : (pochoirref01_Digits.l0 k1 y238 (wrap64 (x4_1 + 1)) a0_0 a0_1) = some r := by first | (rw [hy238]; with_reducible exact H) | (have H2_ := (Option.bind_some _ _).symm.trans H; rw [hy238]; with_reducible exact H2_) | (have H2_ := (Option.bind_some _ _).symm.trans H; with_reducible exact H2_) | with_reducible exact H | (rw [hy238]; exact H) | exact H
      have Ny238 := Aside0.mk hy238
      clear hy238
      have H' := Aside0.mk H
      clear H
      have hcz8_0 : wr.cell? ⟨gb237, 0, none⟩ = some (.int .u64 a0_0) := (blk_cell BK237.out 0).trans rfl
      have hcz8_1 : wr.cell? ⟨gb237, 1, none⟩ = some (.int .u64 a0_1) := (blk_cell BK237.out 1).trans rfl
      have hfz8_0 := blk_frozen BK237.out 0
      have hfz8_1 := blk_frozen BK237.out 1
      go_wp2_with (first | ((with_reducible refine gate_builtin (b := .append) (xs := #[.tmp 10, .tmp 17]) rfl ?_); at_builtin; refine Kd.R_append (Kd.int .u64) (w0 := w) w.heap.size rfl (.tmp 10) (.tmp 17) 79 47 (.int .u64 0) 8 rfl Try.underlying79 info47 rfl (by decide) (by omega) u3 x3_1 (Int.tmod (ji6) 65536) [.int .u64 (Int.tmod (ji6) 65536)] (fun _ => True) (fun _ => False) rfl rfl ?aP (fun _ hk => hk.elim) ?aF ?aO ?aB ?aS ?aL ?_; (case aP => exact rfl); (case aB => exact (bl1 HB.out GE237.out)); (case aF => exact (fun _ _ => trivial)); (case aO => exact (by (with_reducible repeat (first | apply Kd.R_alloc | apply Kd.R_drewN | apply Kd.R_drew)); exact HO_3.out)); (case aS => exact (below_size (bl1 HB.out GE237.out))); (case aL => have := LMc7.out; omega); intro v239 w9 ho hb hg hat; rw [← Ny238.out] at ho; have HO240 := Aside0.mk (ho); replace BK237 := Aside0.mk (blk_grown (g := gb237) (o := .cells #[.int .u64 a0_0, .int .u64 a0_1] 49 (0, 0)) (bk BK237.out) hg (Kd.R_ne HO_3.out BK237.out (by decide))); replace HB := Aside0.mk (hb); clear HO_3 ho hb hg hat))
      go_roundg k1
      case measure => have := HK1.out; omega
      case rel => exact ⟨(y238), (wrap64 (x4_1 + 1)), fr, H', ⟨by have := HK1.out; omega⟩, ⟨by (with_reducible repeat (first | apply Kd.R_alloc | apply Kd.R_drewN | apply Kd.R_drew)); exact HO240.out⟩, ⟨bk BK237.out⟩, ⟨bl1 HB.out GE237.out⟩⟩
     ·rw [if_neg c7] at H
      exact absurd H (by simp)
    ·rw [if_neg c5] at H
     exact absurd H (by simp)
   ·rw [if_neg c3] at H
    have c3b0 : decide (x4_1 < 4) = false := decide_eq_false c3
    clear c3
    have H' := Aside0.mk H
    clear H
    go_wp2
    go_loopg [3, 5] k1 (fun kq v3 v5 w' => ∃ (x3_2 : List Int) (x5_2 : Int), v5 = .int .i64 x5_2 ∧ Aside0 (pochoirref01_Digits.l1 kq x3_2 x5_2 a0_0 a0_1 = some r) ∧ Aside0 (kq ≤ k1) ∧ Aside0 (Kd.R (Kd.int .u64) 47 w' w.heap.size (fun _ => True) v3 x3_2) ∧ Aside0 (w'.heap[gb237]? = some (.cells #[.int .u64 a0_0, .int .u64 a0_1] 49 (0, 0))) ∧ Aside0 (Below w.heap.size w w'))
    case atStart => exact ⟨(x3_1), (0), fr, H', ⟨Nat.le_refl _⟩, ⟨by (with_reducible repeat (first | apply Kd.R_alloc | apply Kd.R_drewN | apply Kd.R_drew)); exact HO_3.out⟩, ⟨bk BK237.out⟩, ⟨bl1 HB.out GE237.out⟩⟩
    case round =>
     clear H'
     try clear p2
     try clear c3
     try clear c3b0
     try clear c5
     try clear c5b0
     try clear c5b1
     try clear p6
     try clear c7
     try clear hcz8_0
     try clear hcz8_1
     try clear hfz8_0
     try clear hfz8_1
     try clear p2
     obtain ⟨x3_2, x5_2, rfl, HA, HK2, HO_3, BK237, HB⟩ := hrel
     cases gk with
     | zero => exact absurd HA.out (by simp [pochoirref01_Digits.l1])
     | succ k2 =>
      have H := HA.out
      clear HA
      simp only [pochoirref01_Digits.l1] at H
      by_cases c10 : x5_2 < 4
      ·rw [if_pos c10] at H
       have c10b0 : decide (x5_2 < 4) = true := decide_eq_true c10
       clear c10
       obtain ⟨ji11, hji11⟩ : ∃ j_ : Int, (wrap64 (16 * x5_2)) = j_ := ⟨_, rfl⟩
       replace H : (if 0 ≤ (ji11) then (if x3_2.length < 17592186044416 then (pochoirref01_Digits.l1 k2 (x3_2 ++ [Int.tmod (shr .u64 a0_0 (ji11)) 65536]) (wrap64 (x5_2 + 1)) a0_0 a0_1) else (none)) else (none)) = some r := by first | (rw [hji11] at H; exact H) | (simp only [hji11] at H ⊢; exact H)
       have hji11w : (IntKind.i64.wrap (16 * x5_2)) = ji11 := (i64_w _).trans hji11
       by_cases c12 : 0 ≤ (ji11)
       ·rw [if_pos c12] at H
        have c12b0 := eq_true c12
        have c12b1 : decide (0 ≤ (ji11)) = true := decide_eq_true c12
        clear c12
        obtain ⟨ji13, hji13⟩ : ∃ j_ : Int, (shr .u64 a0_0 (ji11)) = j_ := ⟨_, rfl⟩
        replace H : (if x3_2.length < 17592186044416 then (pochoirref01_Digits.l1 k2 (x3_2 ++ [Int.tmod (ji13) 65536]) (wrap64 (x5_2 + 1)) a0_0 a0_1) else (none)) = some r := by first | (rw [hji13] at H; exact H) | (simp only [hji13] at H ⊢; exact H)
        have hji13_ : (a0_0 / 2 ^ min (ji11).toNat 64) = ji13 := hji13
        have hji13z : (ji11) ≤ 64 → (a0_0 / 2 ^ (ji11).toNat) = ji13 := shr_small hji13
        by_cases c14 : x3_2.length < 17592186044416
        ·rw [if_pos c14] at H
         have LMc14 := Aside0.mk c14
         clear c14
         obtain ⟨y241, hy241⟩ : ∃ y_ : List Int, y_ = (x3_2 ++ [Int.tmod (ji13) 65536]) := ⟨_, rfl⟩
         replace H : (pochoirref01_Digits.l1 k2 y241 (wrap64 (x5_2 + 1)) a0_0 a0_1) = some r := by first | (rw [hy241]; with_reducible exact H) | (have H2_ := (Option.bind_some _ _).symm.trans H; rw [hy241]; with_reducible exact H2_) | (have H2_ := (Option.bind_some _ _).symm.trans H; with_reducible exact H2_) | with_reducible exact H | (rw [hy241]; exact H) | exact H
         have Ny241 := Aside0.mk hy241
         clear hy241
         have H' := Aside0.mk H
         clear H
         have hcz15_0 : wr.cell? ⟨gb237, 0, none⟩ = some (.int .u64 a0_0) := (blk_cell BK237.out 0).trans rfl
         have hcz15_1 : wr.cell? ⟨gb237, 1, none⟩ = some (.int .u64 a0_1) := (blk_cell BK237.out 1).trans rfl
         have hfz15_0 := blk_frozen BK237.out 0
         have hfz15_1 := blk_frozen BK237.out 1
         go_wp2_with (first | ((with_reducible refine gate_builtin (b := .append) (xs := #[.tmp 23, .tmp 30]) rfl ?_); at_builtin; refine Kd.R_append (Kd.int .u64) (w0 := w) w.heap.size rfl (.tmp 23) (.tmp 30) 79 47 (.int .u64 0) 8 rfl Try.underlying79 info47 rfl (by decide) (by omega) u3 x3_2 (Int.tmod (ji13) 65536) [.int .u64 (Int.tmod (ji13) 65536)] (fun _ => True) (fun _ => False) rfl rfl ?aP (fun _ hk => hk.elim) ?aF ?aO ?aB ?aS ?aL ?_; (case aP => exact rfl); (case aB => exact (bl1 HB.out GE237.out)); (case aF => exact (fun _ _ => trivial)); (case aO => exact (by (with_reducible repeat (first | apply Kd.R_alloc | apply Kd.R_drewN | apply Kd.R_drew)); exact HO_3.out)); (case aS => exact (below_size (bl1 HB.out GE237.out))); (case aL => have := LMc14.out; omega); intro v242 w16 ho hb hg hat; rw [← Ny241.out] at ho; have HO243 := Aside0.mk (ho); replace BK237 := Aside0.mk (blk_grown (g := gb237) (o := .cells #[.int .u64 a0_0, .int .u64 a0_1] 49 (0, 0)) (bk BK237.out) hg (Kd.R_ne HO_3.out BK237.out (by decide))); replace HB := Aside0.mk (hb); clear HO_3 ho hb hg hat))
         go_roundg k2
         case measure => have := HK1.out; have := HK2.out; omega
         case rel => exact ⟨(y241), (wrap64 (x5_2 + 1)), fr, H', ⟨by have := HK1.out; have := HK2.out; omega⟩, ⟨by (with_reducible repeat (first | apply Kd.R_alloc | apply Kd.R_drewN | apply Kd.R_drew)); exact HO243.out⟩, ⟨bk BK237.out⟩, ⟨bl1 HB.out GE237.out⟩⟩
        ·rw [if_neg c14] at H
         exact absurd H (by simp)
       ·rw [if_neg c12] at H
        exact absurd H (by simp)
      ·rw [if_neg c10] at H
       have c10b0 : decide (x5_2 < 4) = false := decide_eq_false c10
       clear c10
       obtain rfl := Option.some.inj H
       go_wp2
       go_ret
       exact ⟨_, by first | rfl | (simp [errW_none, errW_some] <;> rfl) | (simp [*, errW_none, errW_some] <;> rfl), by (with_reducible repeat (first | apply Kd.R_alloc | apply Kd.R_drewN | apply Kd.R_drew)); exact HO_3.out, bl1 HB.out GE237.out⟩

/-! ### pochoirref19_Right: function 65 -/
def pochoirref19_Right.f (a0 : Int) (a1 : Int) : Option (Bool) := if a0 ≥ 1 then (if a0 ≤ 1048576 then (if a1 ≥ 1 then (some (decide (a1 ≤ 255))) else (some false)) else (some false)) else (some false)
set_option maxHeartbeats 8000000 in
set_option maxRecDepth 100000 in
theorem pochoirref19_Right.calls (a0 : Int) (a1 : Int) (r : Bool) (w : World) (h : pochoirref19_Right.f a0 a1 = some r) :
  Calls Try.prog 65 #[.int .i64 a0, .int .i64 a1] w fun e w' => e = .returned (.bool r) ∧ Drawn0 w w' := by
 have H : (if a0 ≥ 1 then (if a0 ≤ 1048576 then (if a1 ≥ 1 then (some (decide (a1 ≤ 255))) else (some false)) else (some false)) else (some false)) = some r := h
 clear h
 by_cases c3 : a0 ≥ 1
 ·rw [if_pos c3] at H
  have c3b0 : decide (1 ≤ a0) = true := decide_eq_true c3
  clear c3
  by_cases c4 : a0 ≤ 1048576
  ·rw [if_pos c4] at H
   have c4b0 : decide (a0 ≤ 1048576) = true := decide_eq_true c4
   clear c4
   by_cases c5 : a1 ≥ 1
   ·rw [if_pos c5] at H
    have c5b0 : decide (1 ≤ a1) = true := decide_eq_true c5
    clear c5
    obtain rfl := Option.some.inj H
    go_enter Try.func65, Try.ntmps65
    go_wp2
    go_ret
    exact ⟨by first | rfl | (simp; done) | (simp [*]; done), by repeat (first | exact Drawn0.refl _ | apply Drawn0.step)⟩
   ·rw [if_neg c5] at H
    have c5b0 : decide (1 ≤ a1) = false := decide_eq_false c5
    clear c5
    obtain rfl := Option.some.inj H
    go_enter Try.func65, Try.ntmps65
    go_wp2
    go_ret
    exact ⟨by first | rfl | (simp; done) | (simp [*]; done), by repeat (first | exact Drawn0.refl _ | apply Drawn0.step)⟩
  ·rw [if_neg c4] at H
   have c4b0 : decide (a0 ≤ 1048576) = false := decide_eq_false c4
   clear c4
   obtain rfl := Option.some.inj H
   go_enter Try.func65, Try.ntmps65
   go_wp2
   go_ret
   exact ⟨by first | rfl | (simp; done) | (simp [*]; done), by repeat (first | exact Drawn0.refl _ | apply Drawn0.step)⟩
 ·rw [if_neg c3] at H
  have c3b0 : decide (1 ≤ a0) = false := decide_eq_false c3
  clear c3
  obtain rfl := Option.some.inj H
  go_enter Try.func65, Try.ntmps65
  go_wp2
  go_ret
  exact ⟨by first | rfl | (simp; done) | (simp [*]; done), by repeat (first | exact Drawn0.refl _ | apply Drawn0.step)⟩

/-! ### pochoirref01_at: function 75 -/
def pochoirref01_at.f (l0 : List Int) (a1 : Int) : Option (Int) := if a1 < (l0.length : Int) then (if 0 ≤ a1 then (some (rd l0 a1)) else (none)) else (some 0)
set_option maxHeartbeats 8000000 in
set_option maxRecDepth 100000 in
theorem pochoirref01_at.calls (A0 : Option Addr) (c0 : Nat) (l0 : List Int) (a1 : Int) (r : Int) (w : World) (hr0 : Kd.C (Kd.int .u64) w A0 l0.length l0) (hc0 : l0.length ≤ c0) (h : pochoirref01_at.f l0 a1 = some r) :
  Calls Try.prog 75 #[.slice A0 l0.length c0, .int .i64 a1] w fun e w' => e = .returned (.int .u64 r) ∧ Drawn0 w w' := by
 have HR0 := Aside0.mk hr0
 have HC0 := Aside0.mk hc0
 clear hr0 hc0
 have H : (if a1 < (l0.length : Int) then (if 0 ≤ a1 then (some (rd l0 a1)) else (none)) else (some 0)) = some r := h
 clear h
 by_cases c3 : a1 < (l0.length : Int)
 ·rw [if_pos c3] at H
  have c3b0 : decide (a1 < (l0.length : Int)) = true := decide_eq_true c3
  clear c3
  by_cases c4 : 0 ≤ a1
  ·rw [if_pos c4] at H
   have c4b0 : decide (0 ≤ a1) = true := decide_eq_true c4
   clear c4
   obtain rfl := Option.some.inj H
   have p244 : 0 ≤ (a1 : Int) := of_decide_eq_true (by first | (with_reducible assumption) | assumption)
   have q244 : a1 < (l0.length : Int) := of_decide_eq_true (by first | (with_reducible assumption) | assumption)
   obtain ⟨ad244, e244, hx244_0⟩ := Kd.at_int HR0.out a1 p244 q244
   cases e244
   replace p244 := eq_true p244
   replace q244 := eq_true q244
   go_enter Try.func75, Try.ntmps75
   go_wp2
   go_ret
   exact ⟨by first | rfl | (simp; done) | (simp [*]; done), by repeat (first | exact Drawn0.refl _ | apply Drawn0.step)⟩
  ·rw [if_neg c4] at H
   exact absurd H (by simp)
 ·rw [if_neg c3] at H
  have c3b0 : decide (a1 < (l0.length : Int)) = false := decide_eq_false c3
  clear c3
  obtain rfl := Option.some.inj H
  go_enter Try.func75, Try.ntmps75
  go_wp2
  go_ret
  exact ⟨by first | rfl | (simp; done) | (simp [*]; done), by repeat (first | exact Drawn0.refl _ | apply Drawn0.step)⟩

end Go.Proofs.Ytemhnlameekmkaa.XLine
