-- Printed by a program of this claim. Not trusted: Lean checks it.
import Derived.Test.YtalgppclaolonaaXColrx0
import Derived.Test.YtalgppclaolonaaXColrx3
import Derived.Test.YtalgppclaolonaaXColrx4
import Derived.Test.YtalgppclaolonaaXColrx5
import Derived.Test.YtalgppclaolonaaXColrx6
namespace Go.Proofs.Ytalgppclaolonaa.XColr
open Go.RowKit Go.Proofs.YtalgppclaolonaaW.PrintWords Go.Proofs.YtalgppclaolonaaW.PrintLast Go.Proofs.YtalgppclaolonaaW.PrintMore
attribute [local go_sem] max2_int min2_int max_two min_two max_three min_three max_four min_four   -- for this text's walks alone
set_option linter.unusedVariables false
set_option linter.unusedSimpArgs false
open XOpen

/-! ### corner_is: function 53 -/
set_option maxHeartbeats 8000000 in
set_option maxRecDepth 100000 in
theorem corner_is.calls (k : Nat) (a0_0 : Int) (a0_1 : Bool) (a0_2 : Int) (a0_3 : Int) (a0_4 : Int) (a0_5 : Int) (a0_6 : Int) (a0_7 : Int) (a1_0 : Int) (a1_1 : Bool) (a1_2 : Int) (a1_3 : Int) (a1_4 : Int) (a1_5 : Int) (a1_6 : Int) (a1_7 : Int) (r : Bool) (w : World) (h : corner_is.f k a0_0 a0_1 a0_2 a0_3 a0_4 a0_5 a0_6 a0_7 a1_0 a1_1 a1_2 a1_3 a1_4 a1_5 a1_6 a1_7 = some r) :
  Calls Try.prog 53 #[.agg #[.int .i64 a0_0, .bool a0_1, .int .i64 a0_2, .int .i64 a0_3, .int .i64 a0_4, .int .i64 a0_5, .int .i64 a0_6, .int .i64 a0_7], .agg #[.int .i64 a1_0, .bool a1_1, .int .i64 a1_2, .int .i64 a1_3, .int .i64 a1_4, .int .i64 a1_5, .int .i64 a1_6, .int .i64 a1_7]] w fun e w' => e = .returned (.bool r) ∧ Below w.heap.size w w' := by
 have hu38 := Try.underlying38
 have hu36 := Try.underlying36
 have hu112 := Try.underlying112
 have HB := Aside0.mk (Below.refl w.heap.size w)
 have H := h
 clear h; unfold corner_is.f at H
 replace H := Option.bind_eq_some_iff.mp H
 obtain ⟨⟨t174, t175⟩, A30, H⟩ := H
 replace H : ((corner_first.f k a1_0 a1_1 a1_2 a1_3 a1_4 a1_5 a1_6 a1_7).bind fun bt176 => ((corner_times.f t174 t175 bt176.1 bt176.2).bind fun t180 => (if t180 ≤ 0 then (some true) else ((corner_times.f t174 t175 bt176.2 (wrap64 (-bt176.1))).bind fun t181 => ((wide_Mul.f (IntKind.u64.wrap (mx t181 (wrap64 (-t181)))) (IntKind.u64.wrap (mx t181 (wrap64 (-t181))))).bind fun bt182 => ((wide_Scale.f bt182.1 bt182.2 50).bind fun bt184 => ((corner_times.f t174 t175 t174 t175).bind fun t188 => ((corner_times.f bt176.1 bt176.2 bt176.1 bt176.2).bind fun t189 => ((wide_Mul.f (IntKind.u64.wrap (t188)) (IntKind.u64.wrap (t189))).bind fun bt190 => ((wide_Cmp.f k bt184.1 bt184.2.1 bt190.1 bt190.2).bind fun t192 => (some (decide (t192 > 0))))))))))))) = some r := H
 have A3 := Aside0.mk A30
 clear A30
 replace H := Option.bind_eq_some_iff.mp H
 obtain ⟨⟨t176, t177⟩, A40, H⟩ := H
 replace H : ((corner_times.f t174 t175 t176 t177).bind fun t180 => (if t180 ≤ 0 then (some true) else ((corner_times.f t174 t175 t177 (wrap64 (-t176))).bind fun t181 => ((wide_Mul.f (IntKind.u64.wrap (mx t181 (wrap64 (-t181)))) (IntKind.u64.wrap (mx t181 (wrap64 (-t181))))).bind fun bt182 => ((wide_Scale.f bt182.1 bt182.2 50).bind fun bt184 => ((corner_times.f t174 t175 t174 t175).bind fun t188 => ((corner_times.f t176 t177 t176 t177).bind fun t189 => ((wide_Mul.f (IntKind.u64.wrap (t188)) (IntKind.u64.wrap (t189))).bind fun bt190 => ((wide_Cmp.f k bt184.1 bt184.2.1 bt190.1 bt190.2).bind fun t192 => (some (decide (t192 > 0)))))))))))) = some r := H
 have A4 := Aside0.mk A40
 clear A40
 replace H := Option.bind_eq_some_iff.mp H
 obtain ⟨t180, A50, H⟩ := H
 replace H : (if t180 ≤ 0 then (some true) else ((corner_times.f t174 t175 t177 (wrap64 (-t176))).bind fun t181 => ((wide_Mul.f (IntKind.u64.wrap (mx t181 (wrap64 (-t181)))) (IntKind.u64.wrap (mx t181 (wrap64 (-t181))))).bind fun bt182 => ((wide_Scale.f bt182.1 bt182.2 50).bind fun bt184 => ((corner_times.f t174 t175 t174 t175).bind fun t188 => ((corner_times.f t176 t177 t176 t177).bind fun t189 => ((wide_Mul.f (IntKind.u64.wrap (t188)) (IntKind.u64.wrap (t189))).bind fun bt190 => ((wide_Cmp.f k bt184.1 bt184.2.1 bt190.1 bt190.2).bind fun t192 => (some (decide (t192 > 0))))))))))) = some r := H
 have A5 := Aside0.mk A50
 clear A50
 by_cases c6 : t180 ≤ 0
 ·rw [if_pos c6] at H
  have c6b0 := decide_eq_true c6
  clear c6
  obtain rfl := Option.some.inj H
  go_enter Try.func53, Try.ntmps53
  try go_wp2_with (first | ((with_reducible refine gate_dst (N := 2) rfl ?_); refine be 2 (#[.int .i64 a0_0, .bool a0_1, .int .i64 a0_2, .int .i64 a0_3, .int .i64 a0_4, .int .i64 a0_5, .int .i64 a0_6, .int .i64 a0_7]) 38 ?_; intro gb172 hg w7 hbox hb; have BK172 := Aside0.mk (hbox); have GW172 := Aside0.mk (gz (w := w) hg (bl0 HB.out)); have GE172 := GW172; replace HB := Aside0.mk (below_step (bl0 HB.out) hb); clear hb hbox hg) | ((with_reducible refine gate_dst (N := 3) rfl ?_); refine be 3 (#[.int .i64 a1_0, .bool a1_1, .int .i64 a1_2, .int .i64 a1_3, .int .i64 a1_4, .int .i64 a1_5, .int .i64 a1_6, .int .i64 a1_7]) 38 ?_; intro gb173 hg w8 hbox hb; have BK173 := Aside0.mk (hbox); have GW173 := Aside0.mk (gz (w := w) hg (bl1 HB.out GE172.out)); have GE173 := GW173; have NB172_173 := Aside0.mk (nl hg BK172.out); have NB173_172 := Aside0.mk (nr hg BK172.out); replace BK172 := Aside0.mk (bb BK172.out hb); replace HB := Aside0.mk (below_step (bl1 HB.out GE172.out) hb); clear hb hbox hg))
  replace BK172 := Aside0.mk (blk_drew BK172.out)
  replace BK173 := Aside0.mk (blk_drew BK173.out)
  replace HB := Aside0.mk (below_drew1 HB.out)
  obtain ⟨SS, eS⟩ : ∃ SS : World → Prop, Aside0 (SS = fun w' => w'.cell? ⟨gb172, 0, none⟩ = some (.int .i64 a0_0) ∧ w'.cell? ⟨gb172, 1, none⟩ = some (.bool a0_1) ∧ w'.cell? ⟨gb172, 2, none⟩ = some (.int .i64 a0_2) ∧ w'.cell? ⟨gb172, 3, none⟩ = some (.int .i64 a0_3) ∧ w'.cell? ⟨gb172, 4, none⟩ = some (.int .i64 a0_4) ∧ w'.cell? ⟨gb172, 5, none⟩ = some (.int .i64 a0_5) ∧ w'.cell? ⟨gb172, 6, none⟩ = some (.int .i64 a0_6) ∧ w'.cell? ⟨gb172, 7, none⟩ = some (.int .i64 a0_7) ∧ w'.cell? ⟨gb173, 0, none⟩ = some (.int .i64 a1_0) ∧ w'.cell? ⟨gb173, 1, none⟩ = some (.bool a1_1) ∧ w'.cell? ⟨gb173, 2, none⟩ = some (.int .i64 a1_2) ∧ w'.cell? ⟨gb173, 3, none⟩ = some (.int .i64 a1_3) ∧ w'.cell? ⟨gb173, 4, none⟩ = some (.int .i64 a1_4) ∧ w'.cell? ⟨gb173, 5, none⟩ = some (.int .i64 a1_5) ∧ w'.cell? ⟨gb173, 6, none⟩ = some (.int .i64 a1_6) ∧ w'.cell? ⟨gb173, 7, none⟩ = some (.int .i64 a1_7)) := ⟨_, ⟨rfl⟩⟩
  have mS : ∀ w' : World, w'.heap[gb172]? = some (.cells #[.int .i64 a0_0, .bool a0_1, .int .i64 a0_2, .int .i64 a0_3, .int .i64 a0_4, .int .i64 a0_5, .int .i64 a0_6, .int .i64 a0_7] 38 (0, 0)) → w'.heap[gb173]? = some (.cells #[.int .i64 a1_0, .bool a1_1, .int .i64 a1_2, .int .i64 a1_3, .int .i64 a1_4, .int .i64 a1_5, .int .i64 a1_6, .int .i64 a1_7] 38 (0, 0)) → SS w' := by intro w' b0 b1; rw [eS.out]; exact ⟨(blk_cell b0 0).trans rfl, (blk_cell b0 1).trans rfl, (blk_cell b0 2).trans rfl, (blk_cell b0 3).trans rfl, (blk_cell b0 4).trans rfl, (blk_cell b0 5).trans rfl, (blk_cell b0 6).trans rfl, (blk_cell b0 7).trans rfl, (blk_cell b1 0).trans rfl, (blk_cell b1 1).trans rfl, (blk_cell b1 2).trans rfl, (blk_cell b1 3).trans rfl, (blk_cell b1 4).trans rfl, (blk_cell b1 5).trans rfl, (blk_cell b1 6).trans rfl, (blk_cell b1 7).trans rfl⟩
  refine start_ (n := 8) (S := SS) (ds := []) (ba 8 0) (by kernel_rfl) rfl rfl (mS _ BK172.out BK173.out) (fun hHeld => ?_); refine with_tabW corner_is.tab1 corner_is.bits1 (fun HT_ HW_ => ?_)
  generalize w8.drew = w9 at BK172 BK173 HB hHeld ⊢
  refine take_ (i := 0) (N := some 11) (v := ?_) (a' := ?_) (ba 8 1) rfl rfl (take_ofW HT_.out HW_.out (by kernel_rfl)) (fun _ _ _ h => h) (Or.inl ⟨by rfl, ?_⟩) hHeld ?_ ?_
  rotate_left
  ·rintro w' hs; rw [eS.out] at hs; obtain ⟨s0, s1, s2, s3, s4, s5, s6, s7, s8, s9, s10, s11, s12, s13, s14, s15⟩ := hs
   go_simp
   with_reducible rfl
  rotate_left
  ·exact pa
  refine take_ (i := 2) (N := some 13) (v := ?_) (a' := ?_) (ba 8 5) rfl rfl (take_ofW HT_.out HW_.out (by kernel_rfl)) (fun _ _ _ h => h) (Or.inl ⟨by rfl, ?_⟩) hHeld ?_ ?_
  rotate_left
  ·rintro w' hs; rw [eS.out] at hs; obtain ⟨s0, s1, s2, s3, s4, s5, s6, s7, s8, s9, s10, s11, s12, s13, s14, s15⟩ := hs
   go_simp
   with_reducible rfl
  rotate_left
  ·exact pa
  refine join_ (σ := Nat × Nat) 2 (ba 8 63) (fun s_ => [(12, .agg #[.int .i64 t174, .int .i64 t175]), (14, .agg #[.int .i64 t176, .int .i64 t177]), (5, .pointer (some ⟨s_.1, 0, none⟩)), (6, .pointer (some ⟨s_.2, 0, none⟩))]) (fun s_ w' => (SS w') ∧ (w'.heap[gb172]? = some (.cells #[.int .i64 a0_0, .bool a0_1, .int .i64 a0_2, .int .i64 a0_3, .int .i64 a0_4, .int .i64 a0_5, .int .i64 a0_6, .int .i64 a0_7] 38 (0, 0))) ∧ (w'.heap[gb173]? = some (.cells #[.int .i64 a1_0, .bool a1_1, .int .i64 a1_2, .int .i64 a1_3, .int .i64 a1_4, .int .i64 a1_5, .int .i64 a1_6, .int .i64 a1_7] 38 (0, 0))) ∧ (w'.heap[s_.1]? = some (.cells #[.int .i64 0, .int .i64 0] 36 (0, 0))) ∧ (w'.heap[s_.2]? = some (.cells #[.int .i64 0, .int .i64 0] 36 (0, 0))) ∧ (w.heap.size ≤ s_.1) ∧ (w.heap.size ≤ s_.1) ∧ (gb172 ≠ s_.1) ∧ (s_.1 ≠ gb172) ∧ (gb173 ≠ s_.1) ∧ (s_.1 ≠ gb173) ∧ (s_.2 ≠ s_.1) ∧ (s_.1 ≠ s_.2) ∧ (w.heap.size ≤ s_.2) ∧ (w.heap.size ≤ s_.2) ∧ (gb172 ≠ s_.2) ∧ (s_.2 ≠ gb172) ∧ (gb173 ≠ s_.2) ∧ (s_.2 ≠ gb173) ∧ (Below w.heap.size w w')) ?_ ?_
  rotate_left
  ·intro hJ1_3_4_5
   refine join_ (σ := Nat) 3 (ba 8 31) (fun s_ => [(12, .agg #[.int .i64 t174, .int .i64 t175]), (14, .agg #[.int .i64 t176, .int .i64 t177]), (5, .pointer (some ⟨s_, 0, none⟩))]) (fun s_ w' => (SS w') ∧ (w'.heap[gb172]? = some (.cells #[.int .i64 a0_0, .bool a0_1, .int .i64 a0_2, .int .i64 a0_3, .int .i64 a0_4, .int .i64 a0_5, .int .i64 a0_6, .int .i64 a0_7] 38 (0, 0))) ∧ (w'.heap[gb173]? = some (.cells #[.int .i64 a1_0, .bool a1_1, .int .i64 a1_2, .int .i64 a1_3, .int .i64 a1_4, .int .i64 a1_5, .int .i64 a1_6, .int .i64 a1_7] 38 (0, 0))) ∧ (w'.heap[s_]? = some (.cells #[.int .i64 0, .int .i64 0] 36 (0, 0))) ∧ (w.heap.size ≤ s_) ∧ (w.heap.size ≤ s_) ∧ (gb172 ≠ s_) ∧ (s_ ≠ gb172) ∧ (gb173 ≠ s_) ∧ (s_ ≠ gb173) ∧ (Below w.heap.size w w')) ?_ ?_
   rotate_left
   ·intro hJ1_3_4
    refine join_ (σ := Nat) 3 (ba 8 47) (fun s_ => [(12, .agg #[.int .i64 t174, .int .i64 t175]), (14, .agg #[.int .i64 t176, .int .i64 t177]), (6, .pointer (some ⟨s_, 0, none⟩))]) (fun s_ w' => (SS w') ∧ (w'.heap[gb172]? = some (.cells #[.int .i64 a0_0, .bool a0_1, .int .i64 a0_2, .int .i64 a0_3, .int .i64 a0_4, .int .i64 a0_5, .int .i64 a0_6, .int .i64 a0_7] 38 (0, 0))) ∧ (w'.heap[gb173]? = some (.cells #[.int .i64 a1_0, .bool a1_1, .int .i64 a1_2, .int .i64 a1_3, .int .i64 a1_4, .int .i64 a1_5, .int .i64 a1_6, .int .i64 a1_7] 38 (0, 0))) ∧ (w'.heap[s_]? = some (.cells #[.int .i64 0, .int .i64 0] 36 (0, 0))) ∧ (w.heap.size ≤ s_) ∧ (w.heap.size ≤ s_) ∧ (gb172 ≠ s_) ∧ (s_ ≠ gb172) ∧ (gb173 ≠ s_) ∧ (s_ ≠ gb173) ∧ (Below w.heap.size w w')) ?_ ?_
    rotate_left
    ·intro hJ1_3_5
     refine join_ (σ := Nat × Nat) 3 (ba 8 55) (fun s_ => [(12, .agg #[.int .i64 t174, .int .i64 t175]), (5, .pointer (some ⟨s_.1, 0, none⟩)), (6, .pointer (some ⟨s_.2, 0, none⟩))]) (fun s_ w' => (SS w') ∧ (w'.heap[gb172]? = some (.cells #[.int .i64 a0_0, .bool a0_1, .int .i64 a0_2, .int .i64 a0_3, .int .i64 a0_4, .int .i64 a0_5, .int .i64 a0_6, .int .i64 a0_7] 38 (0, 0))) ∧ (w'.heap[gb173]? = some (.cells #[.int .i64 a1_0, .bool a1_1, .int .i64 a1_2, .int .i64 a1_3, .int .i64 a1_4, .int .i64 a1_5, .int .i64 a1_6, .int .i64 a1_7] 38 (0, 0))) ∧ (w'.heap[s_.1]? = some (.cells #[.int .i64 0, .int .i64 0] 36 (0, 0))) ∧ (w'.heap[s_.2]? = some (.cells #[.int .i64 0, .int .i64 0] 36 (0, 0))) ∧ (w.heap.size ≤ s_.1) ∧ (w.heap.size ≤ s_.1) ∧ (gb172 ≠ s_.1) ∧ (s_.1 ≠ gb172) ∧ (gb173 ≠ s_.1) ∧ (s_.1 ≠ gb173) ∧ (s_.2 ≠ s_.1) ∧ (s_.1 ≠ s_.2) ∧ (w.heap.size ≤ s_.2) ∧ (w.heap.size ≤ s_.2) ∧ (gb172 ≠ s_.2) ∧ (s_.2 ≠ gb172) ∧ (gb173 ≠ s_.2) ∧ (s_.2 ≠ gb173) ∧ (Below w.heap.size w w')) ?_ ?_
     rotate_left
     ·intro hJ1_4_5
      refine join_ (σ := Unit) 4 (ba 8 15) (fun s_ => [(12, .agg #[.int .i64 t174, .int .i64 t175]), (14, .agg #[.int .i64 t176, .int .i64 t177])]) (fun s_ w' => (SS w') ∧ (w'.heap[gb172]? = some (.cells #[.int .i64 a0_0, .bool a0_1, .int .i64 a0_2, .int .i64 a0_3, .int .i64 a0_4, .int .i64 a0_5, .int .i64 a0_6, .int .i64 a0_7] 38 (0, 0))) ∧ (w'.heap[gb173]? = some (.cells #[.int .i64 a1_0, .bool a1_1, .int .i64 a1_2, .int .i64 a1_3, .int .i64 a1_4, .int .i64 a1_5, .int .i64 a1_6, .int .i64 a1_7] 38 (0, 0))) ∧ (Below w.heap.size w w')) ?_ ?_
      rotate_left
      ·intro hJ1_3
       refine join_ (σ := Nat) 4 (ba 8 23) (fun s_ => [(12, .agg #[.int .i64 t174, .int .i64 t175]), (5, .pointer (some ⟨s_, 0, none⟩))]) (fun s_ w' => (SS w') ∧ (w'.heap[gb172]? = some (.cells #[.int .i64 a0_0, .bool a0_1, .int .i64 a0_2, .int .i64 a0_3, .int .i64 a0_4, .int .i64 a0_5, .int .i64 a0_6, .int .i64 a0_7] 38 (0, 0))) ∧ (w'.heap[gb173]? = some (.cells #[.int .i64 a1_0, .bool a1_1, .int .i64 a1_2, .int .i64 a1_3, .int .i64 a1_4, .int .i64 a1_5, .int .i64 a1_6, .int .i64 a1_7] 38 (0, 0))) ∧ (w'.heap[s_]? = some (.cells #[.int .i64 0, .int .i64 0] 36 (0, 0))) ∧ (w.heap.size ≤ s_) ∧ (w.heap.size ≤ s_) ∧ (gb172 ≠ s_) ∧ (s_ ≠ gb172) ∧ (gb173 ≠ s_) ∧ (s_ ≠ gb173) ∧ (Below w.heap.size w w')) ?_ ?_
       rotate_left
       ·intro hJ1_4
        refine join_ (σ := Nat) 4 (ba 8 39) (fun s_ => [(12, .agg #[.int .i64 t174, .int .i64 t175]), (6, .pointer (some ⟨s_, 0, none⟩))]) (fun s_ w' => (SS w') ∧ (w'.heap[gb172]? = some (.cells #[.int .i64 a0_0, .bool a0_1, .int .i64 a0_2, .int .i64 a0_3, .int .i64 a0_4, .int .i64 a0_5, .int .i64 a0_6, .int .i64 a0_7] 38 (0, 0))) ∧ (w'.heap[gb173]? = some (.cells #[.int .i64 a1_0, .bool a1_1, .int .i64 a1_2, .int .i64 a1_3, .int .i64 a1_4, .int .i64 a1_5, .int .i64 a1_6, .int .i64 a1_7] 38 (0, 0))) ∧ (w'.heap[s_]? = some (.cells #[.int .i64 0, .int .i64 0] 36 (0, 0))) ∧ (w.heap.size ≤ s_) ∧ (w.heap.size ≤ s_) ∧ (gb172 ≠ s_) ∧ (s_ ≠ gb172) ∧ (gb173 ≠ s_) ∧ (s_ ≠ gb173) ∧ (Below w.heap.size w w')) ?_ ?_
        rotate_left
        ·intro hJ1_5
         refine join_ (σ := Nat × Nat) 4 (ba 8 53) (fun s_ => [(5, .pointer (some ⟨s_.1, 0, none⟩)), (6, .pointer (some ⟨s_.2, 0, none⟩))]) (fun s_ w' => (SS w') ∧ (w'.heap[gb172]? = some (.cells #[.int .i64 a0_0, .bool a0_1, .int .i64 a0_2, .int .i64 a0_3, .int .i64 a0_4, .int .i64 a0_5, .int .i64 a0_6, .int .i64 a0_7] 38 (0, 0))) ∧ (w'.heap[gb173]? = some (.cells #[.int .i64 a1_0, .bool a1_1, .int .i64 a1_2, .int .i64 a1_3, .int .i64 a1_4, .int .i64 a1_5, .int .i64 a1_6, .int .i64 a1_7] 38 (0, 0))) ∧ (w'.heap[s_.1]? = some (.cells #[.int .i64 0, .int .i64 0] 36 (0, 0))) ∧ (w'.heap[s_.2]? = some (.cells #[.int .i64 0, .int .i64 0] 36 (0, 0))) ∧ (w.heap.size ≤ s_.1) ∧ (w.heap.size ≤ s_.1) ∧ (gb172 ≠ s_.1) ∧ (s_.1 ≠ gb172) ∧ (gb173 ≠ s_.1) ∧ (s_.1 ≠ gb173) ∧ (s_.2 ≠ s_.1) ∧ (s_.1 ≠ s_.2) ∧ (w.heap.size ≤ s_.2) ∧ (w.heap.size ≤ s_.2) ∧ (gb172 ≠ s_.2) ∧ (s_.2 ≠ gb172) ∧ (gb173 ≠ s_.2) ∧ (s_.2 ≠ gb173) ∧ (Below w.heap.size w w')) ?_ ?_
         rotate_left
         ·intro hJ4_5
          refine join_ (σ := Unit) 5 (ba 8 7) (fun s_ => [(12, .agg #[.int .i64 t174, .int .i64 t175])]) (fun s_ w' => (SS w') ∧ (w'.heap[gb172]? = some (.cells #[.int .i64 a0_0, .bool a0_1, .int .i64 a0_2, .int .i64 a0_3, .int .i64 a0_4, .int .i64 a0_5, .int .i64 a0_6, .int .i64 a0_7] 38 (0, 0))) ∧ (w'.heap[gb173]? = some (.cells #[.int .i64 a1_0, .bool a1_1, .int .i64 a1_2, .int .i64 a1_3, .int .i64 a1_4, .int .i64 a1_5, .int .i64 a1_6, .int .i64 a1_7] 38 (0, 0))) ∧ (Below w.heap.size w w')) ?_ ?_
          rotate_left
          ·intro hJ1
           refine join_ (σ := Nat) 5 (ba 8 21) (fun s_ => [(5, .pointer (some ⟨s_, 0, none⟩))]) (fun s_ w' => (SS w') ∧ (w'.heap[gb172]? = some (.cells #[.int .i64 a0_0, .bool a0_1, .int .i64 a0_2, .int .i64 a0_3, .int .i64 a0_4, .int .i64 a0_5, .int .i64 a0_6, .int .i64 a0_7] 38 (0, 0))) ∧ (w'.heap[gb173]? = some (.cells #[.int .i64 a1_0, .bool a1_1, .int .i64 a1_2, .int .i64 a1_3, .int .i64 a1_4, .int .i64 a1_5, .int .i64 a1_6, .int .i64 a1_7] 38 (0, 0))) ∧ (w'.heap[s_]? = some (.cells #[.int .i64 0, .int .i64 0] 36 (0, 0))) ∧ (w.heap.size ≤ s_) ∧ (w.heap.size ≤ s_) ∧ (gb172 ≠ s_) ∧ (s_ ≠ gb172) ∧ (gb173 ≠ s_) ∧ (s_ ≠ gb173) ∧ (Below w.heap.size w w')) ?_ ?_
           rotate_left
           ·intro hJ4
            refine join_ (σ := Nat) 5 (ba 8 37) (fun s_ => [(6, .pointer (some ⟨s_, 0, none⟩))]) (fun s_ w' => (SS w') ∧ (w'.heap[gb172]? = some (.cells #[.int .i64 a0_0, .bool a0_1, .int .i64 a0_2, .int .i64 a0_3, .int .i64 a0_4, .int .i64 a0_5, .int .i64 a0_6, .int .i64 a0_7] 38 (0, 0))) ∧ (w'.heap[gb173]? = some (.cells #[.int .i64 a1_0, .bool a1_1, .int .i64 a1_2, .int .i64 a1_3, .int .i64 a1_4, .int .i64 a1_5, .int .i64 a1_6, .int .i64 a1_7] 38 (0, 0))) ∧ (w'.heap[s_]? = some (.cells #[.int .i64 0, .int .i64 0] 36 (0, 0))) ∧ (w.heap.size ≤ s_) ∧ (w.heap.size ≤ s_) ∧ (gb172 ≠ s_) ∧ (s_ ≠ gb172) ∧ (gb173 ≠ s_) ∧ (s_ ≠ gb173) ∧ (Below w.heap.size w w')) ?_ ?_
            rotate_left
            ·intro hJ5
             refine three_ (i := 1) (j := 4) (k := 5) (Ni := some 12) (Nj := some 5) (Nk := some 6) (ba 8 7) (ba 8 21) (ba 8 37) rfl rfl rfl rfl rfl rfl (three_of HT_.out (by kernel_rfl)) (by decide) (by decide) (by decide) (fun K hK => ?_) (fun K hK => ?_) (fun K hK => ?_)
             ·skip
              refine goes_ Try.func67 (by kernel_rfl) rfl #[.agg #[.int .i64 a0_0, .bool a0_1, .int .i64 a0_2, .int .i64 a0_3, .int .i64 a0_4, .int .i64 a0_5, .int .i64 a0_6, .int .i64 a0_7]] (by rfl) rfl rfl am ?_
              with_reducible refine (corner_last.calls k a0_0 a0_1 a0_2 a0_3 a0_4 a0_5 a0_6 a0_7 t174 t175 _ A3.out).mono ?_
              rintro e w10 ⟨rfl, hb⟩
              refine ⟨_, rfl, ?_⟩
              replace BK172 := Aside0.mk (bb BK172.out hb)
              replace BK173 := Aside0.mk (bb BK173.out hb)
              replace HB := Aside0.mk (below_step (bl2 HB.out GE172.out GE173.out) hb)
              (try clear hb)
              (try clear hb2)
              (try clear hk)
              (try clear hi)
              refine hK.out _ _ (mS _ BK172.out BK173.out) (fun hHeld => ?_)
              clear hK K
              refine np 12 ?_
              exact nj (hJ1 () _ ⟨hHeld, (bk BK172.out), (bk BK173.out), (bl2 HB.out GE172.out GE173.out)⟩)
             ·skip
              refine bs 5 (#[.int .i64 0, .int .i64 0]) 36 ?_
              intro gb178 hg w10 hbox hb
              have BK178 := Aside0.mk (hbox)
              have GW178 := Aside0.mk (gz (w := w) hg (bl2 HB.out GE172.out GE173.out))
              have GE178 := GW178
              have NB172_178 := Aside0.mk (nl hg BK172.out)
              have NB178_172 := Aside0.mk (nr hg BK172.out)
              have NB173_178 := Aside0.mk (nl hg BK173.out)
              have NB178_173 := Aside0.mk (nr hg BK173.out)
              replace BK172 := Aside0.mk (bb BK172.out hb)
              replace BK173 := Aside0.mk (bb BK173.out hb)
              replace HB := Aside0.mk (below_step (bl2 HB.out GE172.out GE173.out) hb)
              clear hb hbox hg
              refine hK.out _ _ (mS _ BK172.out BK173.out) (fun hHeld => ?_)
              clear hK K
              refine np 5 ?_
              exact nj (hJ4 (gb178) _ ⟨hHeld, (bk BK172.out), (bk BK173.out), (bk BK178.out), GW178.out, GE178.out, NB172_178.out, NB178_172.out, NB173_178.out, NB178_173.out, (bl3 HB.out GE172.out GE173.out GE178.out)⟩)
             ·skip
              refine bs 6 (#[.int .i64 0, .int .i64 0]) 36 ?_
              intro gb179 hg w10 hbox hb
              have BK179 := Aside0.mk (hbox)
              have GW179 := Aside0.mk (gz (w := w) hg (bl2 HB.out GE172.out GE173.out))
              have GE179 := GW179
              have NB172_179 := Aside0.mk (nl hg BK172.out)
              have NB179_172 := Aside0.mk (nr hg BK172.out)
              have NB173_179 := Aside0.mk (nl hg BK173.out)
              have NB179_173 := Aside0.mk (nr hg BK173.out)
              replace BK172 := Aside0.mk (bb BK172.out hb)
              replace BK173 := Aside0.mk (bb BK173.out hb)
              replace HB := Aside0.mk (below_step (bl2 HB.out GE172.out GE173.out) hb)
              clear hb hbox hg
              refine hK.out _ _ (mS _ BK172.out BK173.out) (fun hHeld => ?_)
              clear hK K
              refine np 6 ?_
              exact nj (hJ5 (gb179) _ ⟨hHeld, (bk BK172.out), (bk BK173.out), (bk BK179.out), GW179.out, GE179.out, NB172_179.out, NB179_172.out, NB173_179.out, NB179_173.out, (bl3 HB.out GE172.out GE173.out GE179.out)⟩)
            ·skip
             rintro gb179 w11 ⟨hS_, h0_, h1_, h2_, h3_, h4_, h5_, h6_, h7_, h8_, h9_⟩
             have BK179 : Aside0 (w11.heap[gb179]? = some (.cells #[.int .i64 0, .int .i64 0] 36 (0, 0))) := ⟨h2_⟩
             have GW179 : Aside0 (w.heap.size ≤ gb179) := ⟨h3_⟩
             have GE179 : Aside0 (w.heap.size ≤ gb179) := ⟨h4_⟩
             have NB172_179 : Aside0 (gb172 ≠ gb179) := ⟨h5_⟩
             have NB179_172 : Aside0 (gb179 ≠ gb172) := ⟨h6_⟩
             have NB173_179 : Aside0 (gb173 ≠ gb179) := ⟨h7_⟩
             have NB179_173 : Aside0 (gb179 ≠ gb173) := ⟨h8_⟩
             replace BK172 : Aside0 (w11.heap[gb172]? = some (.cells #[.int .i64 a0_0, .bool a0_1, .int .i64 a0_2, .int .i64 a0_3, .int .i64 a0_4, .int .i64 a0_5, .int .i64 a0_6, .int .i64 a0_7] 38 (0, 0))) := ⟨h0_⟩
             replace BK173 : Aside0 (w11.heap[gb173]? = some (.cells #[.int .i64 a1_0, .bool a1_1, .int .i64 a1_2, .int .i64 a1_3, .int .i64 a1_4, .int .i64 a1_5, .int .i64 a1_6, .int .i64 a1_7] 38 (0, 0))) := ⟨h1_⟩
             replace HB : Aside0 (Below w.heap.size w w11) := ⟨h9_⟩
             clear h0_ h1_ h2_ h3_ h4_ h5_ h6_ h7_ h8_ h9_
             have hHeld := hS_
             refine na ?_
             refine two_ (i := 1) (j := 4) (Ni := some 12) (Nj := some 5) (ba 8 39) (ba 8 53) rfl rfl rfl rfl (two_of HT_.out (by kernel_rfl)) (by decide) (by decide) (fun K hK => ?_) (fun K hK => ?_)
             ·skip
              refine goes_ Try.func67 (by kernel_rfl) rfl #[.agg #[.int .i64 a0_0, .bool a0_1, .int .i64 a0_2, .int .i64 a0_3, .int .i64 a0_4, .int .i64 a0_5, .int .i64 a0_6, .int .i64 a0_7]] (by rfl) rfl rfl am ?_
              with_reducible refine (corner_last.calls k a0_0 a0_1 a0_2 a0_3 a0_4 a0_5 a0_6 a0_7 t174 t175 _ A3.out).mono ?_
              rintro e w12 ⟨rfl, hb⟩
              refine ⟨_, rfl, ?_⟩
              replace BK172 := Aside0.mk (bb BK172.out hb)
              replace BK173 := Aside0.mk (bb BK173.out hb)
              replace BK179 := Aside0.mk (bb BK179.out hb)
              replace HB := Aside0.mk (below_step (bl3 HB.out GE172.out GE173.out GE179.out) hb)
              (try clear hb)
              (try clear hb2)
              (try clear hk)
              (try clear hi)
              refine hK.out _ _ (mS _ BK172.out BK173.out) (fun hHeld => ?_)
              clear hK K
              refine np 12 ?_
              exact nj (hJ1_5 (gb179) _ ⟨hHeld, (bk BK172.out), (bk BK173.out), (bk BK179.out), GW179.out, GE179.out, NB172_179.out, NB179_172.out, NB173_179.out, NB179_173.out, (bl3 HB.out GE172.out GE173.out GE179.out)⟩)
             ·skip
              refine bs 5 (#[.int .i64 0, .int .i64 0]) 36 ?_
              intro gb178 hg w12 hbox hb
              have BK178 := Aside0.mk (hbox)
              have GW178 := Aside0.mk (gz (w := w) hg (bl3 HB.out GE172.out GE173.out GE179.out))
              have GE178 := GW178
              have NB172_178 := Aside0.mk (nl hg BK172.out)
              have NB178_172 := Aside0.mk (nr hg BK172.out)
              have NB173_178 := Aside0.mk (nl hg BK173.out)
              have NB178_173 := Aside0.mk (nr hg BK173.out)
              have NB179_178 := Aside0.mk (nl hg BK179.out)
              have NB178_179 := Aside0.mk (nr hg BK179.out)
              replace BK172 := Aside0.mk (bb BK172.out hb)
              replace BK173 := Aside0.mk (bb BK173.out hb)
              replace BK179 := Aside0.mk (bb BK179.out hb)
              replace HB := Aside0.mk (below_step (bl3 HB.out GE172.out GE173.out GE179.out) hb)
              clear hb hbox hg
              refine hK.out _ _ (mS _ BK172.out BK173.out) (fun hHeld => ?_)
              clear hK K
              refine np 5 ?_
              exact nj (hJ4_5 (gb178, gb179) _ ⟨hHeld, (bk BK172.out), (bk BK173.out), (bk BK178.out), (bk BK179.out), GW178.out, GE178.out, NB172_178.out, NB178_172.out, NB173_178.out, NB178_173.out, NB179_178.out, NB178_179.out, GW179.out, GE179.out, NB172_179.out, NB179_172.out, NB173_179.out, NB179_173.out, (bl4 HB.out GE172.out GE173.out GE179.out GE178.out)⟩)
           ·skip
            rintro gb178 w11 ⟨hS_, h0_, h1_, h2_, h3_, h4_, h5_, h6_, h7_, h8_, h9_⟩
            have BK178 : Aside0 (w11.heap[gb178]? = some (.cells #[.int .i64 0, .int .i64 0] 36 (0, 0))) := ⟨h2_⟩
            have GW178 : Aside0 (w.heap.size ≤ gb178) := ⟨h3_⟩
            have GE178 : Aside0 (w.heap.size ≤ gb178) := ⟨h4_⟩
            have NB172_178 : Aside0 (gb172 ≠ gb178) := ⟨h5_⟩
            have NB178_172 : Aside0 (gb178 ≠ gb172) := ⟨h6_⟩
            have NB173_178 : Aside0 (gb173 ≠ gb178) := ⟨h7_⟩
            have NB178_173 : Aside0 (gb178 ≠ gb173) := ⟨h8_⟩
            replace BK172 : Aside0 (w11.heap[gb172]? = some (.cells #[.int .i64 a0_0, .bool a0_1, .int .i64 a0_2, .int .i64 a0_3, .int .i64 a0_4, .int .i64 a0_5, .int .i64 a0_6, .int .i64 a0_7] 38 (0, 0))) := ⟨h0_⟩
            replace BK173 : Aside0 (w11.heap[gb173]? = some (.cells #[.int .i64 a1_0, .bool a1_1, .int .i64 a1_2, .int .i64 a1_3, .int .i64 a1_4, .int .i64 a1_5, .int .i64 a1_6, .int .i64 a1_7] 38 (0, 0))) := ⟨h1_⟩
            replace HB : Aside0 (Below w.heap.size w w11) := ⟨h9_⟩
            clear h0_ h1_ h2_ h3_ h4_ h5_ h6_ h7_ h8_ h9_
            have hHeld := hS_
            refine na ?_
            refine two_ (i := 1) (j := 5) (Ni := some 12) (Nj := some 6) (ba 8 23) (ba 8 53) rfl rfl rfl rfl (two_of HT_.out (by kernel_rfl)) (by decide) (by decide) (fun K hK => ?_) (fun K hK => ?_)
            ·skip
             refine goes_ Try.func67 (by kernel_rfl) rfl #[.agg #[.int .i64 a0_0, .bool a0_1, .int .i64 a0_2, .int .i64 a0_3, .int .i64 a0_4, .int .i64 a0_5, .int .i64 a0_6, .int .i64 a0_7]] (by rfl) rfl rfl am ?_
             with_reducible refine (corner_last.calls k a0_0 a0_1 a0_2 a0_3 a0_4 a0_5 a0_6 a0_7 t174 t175 _ A3.out).mono ?_
             rintro e w12 ⟨rfl, hb⟩
             refine ⟨_, rfl, ?_⟩
             replace BK172 := Aside0.mk (bb BK172.out hb)
             replace BK173 := Aside0.mk (bb BK173.out hb)
             replace BK178 := Aside0.mk (bb BK178.out hb)
             replace HB := Aside0.mk (below_step (bl3 HB.out GE172.out GE173.out GE178.out) hb)
             (try clear hb)
             (try clear hb2)
             (try clear hk)
             (try clear hi)
             refine hK.out _ _ (mS _ BK172.out BK173.out) (fun hHeld => ?_)
             clear hK K
             refine np 12 ?_
             exact nj (hJ1_4 (gb178) _ ⟨hHeld, (bk BK172.out), (bk BK173.out), (bk BK178.out), GW178.out, GE178.out, NB172_178.out, NB178_172.out, NB173_178.out, NB178_173.out, (bl3 HB.out GE172.out GE173.out GE178.out)⟩)
            ·skip
             refine bs 6 (#[.int .i64 0, .int .i64 0]) 36 ?_
             intro gb179 hg w12 hbox hb
             have BK179 := Aside0.mk (hbox)
             have GW179 := Aside0.mk (gz (w := w) hg (bl3 HB.out GE172.out GE173.out GE178.out))
             have GE179 := GW179
             have NB172_179 := Aside0.mk (nl hg BK172.out)
             have NB179_172 := Aside0.mk (nr hg BK172.out)
             have NB173_179 := Aside0.mk (nl hg BK173.out)
             have NB179_173 := Aside0.mk (nr hg BK173.out)
             have NB178_179 := Aside0.mk (nl hg BK178.out)
             have NB179_178 := Aside0.mk (nr hg BK178.out)
             replace BK172 := Aside0.mk (bb BK172.out hb)
             replace BK173 := Aside0.mk (bb BK173.out hb)
             replace BK178 := Aside0.mk (bb BK178.out hb)
             replace HB := Aside0.mk (below_step (bl3 HB.out GE172.out GE173.out GE178.out) hb)
             clear hb hbox hg
             refine hK.out _ _ (mS _ BK172.out BK173.out) (fun hHeld => ?_)
             clear hK K
             refine np 6 ?_
             exact nj (hJ4_5 (gb178, gb179) _ ⟨hHeld, (bk BK172.out), (bk BK173.out), (bk BK178.out), (bk BK179.out), GW178.out, GE178.out, NB172_178.out, NB178_172.out, NB173_178.out, NB178_173.out, NB179_178.out, NB178_179.out, GW179.out, GE179.out, NB172_179.out, NB179_172.out, NB173_179.out, NB179_173.out, (bl4 HB.out GE172.out GE173.out GE178.out GE179.out)⟩)
          ·skip
           rintro _ w11 ⟨hS_, h0_, h1_, h2_⟩
           replace BK172 : Aside0 (w11.heap[gb172]? = some (.cells #[.int .i64 a0_0, .bool a0_1, .int .i64 a0_2, .int .i64 a0_3, .int .i64 a0_4, .int .i64 a0_5, .int .i64 a0_6, .int .i64 a0_7] 38 (0, 0))) := ⟨h0_⟩
           replace BK173 : Aside0 (w11.heap[gb173]? = some (.cells #[.int .i64 a1_0, .bool a1_1, .int .i64 a1_2, .int .i64 a1_3, .int .i64 a1_4, .int .i64 a1_5, .int .i64 a1_6, .int .i64 a1_7] 38 (0, 0))) := ⟨h1_⟩
           replace HB : Aside0 (Below w.heap.size w w11) := ⟨h2_⟩
           clear h0_ h1_ h2_
           have hHeld := hS_
           refine na ?_
           refine three_ (i := 3) (j := 4) (k := 5) (Ni := some 14) (Nj := some 5) (Nk := some 6) (ba 8 15) (ba 8 23) (ba 8 39) rfl rfl rfl rfl rfl rfl (three_of HT_.out (by kernel_rfl)) (by decide) (by decide) (by decide) (fun K hK => ?_) (fun K hK => ?_) (fun K hK => ?_)
           ·skip
            refine goes_ Try.func66 (by kernel_rfl) rfl #[.agg #[.int .i64 a1_0, .bool a1_1, .int .i64 a1_2, .int .i64 a1_3, .int .i64 a1_4, .int .i64 a1_5, .int .i64 a1_6, .int .i64 a1_7]] (by rfl) rfl rfl am ?_
            with_reducible refine (corner_first.calls k a1_0 a1_1 a1_2 a1_3 a1_4 a1_5 a1_6 a1_7 t176 t177 _ A4.out).mono ?_
            rintro e w12 ⟨rfl, hb⟩
            refine ⟨_, rfl, ?_⟩
            replace BK172 := Aside0.mk (bb BK172.out hb)
            replace BK173 := Aside0.mk (bb BK173.out hb)
            replace HB := Aside0.mk (below_step (bl2 HB.out GE172.out GE173.out) hb)
            (try clear hb)
            (try clear hb2)
            (try clear hk)
            (try clear hi)
            refine hK.out _ _ (mS _ BK172.out BK173.out) (fun hHeld => ?_)
            clear hK K
            refine np 14 ?_
            exact nj (hJ1_3 () _ ⟨hHeld, (bk BK172.out), (bk BK173.out), (bl2 HB.out GE172.out GE173.out)⟩)
           ·skip
            refine bs 5 (#[.int .i64 0, .int .i64 0]) 36 ?_
            intro gb178 hg w12 hbox hb
            have BK178 := Aside0.mk (hbox)
            have GW178 := Aside0.mk (gz (w := w) hg (bl2 HB.out GE172.out GE173.out))
            have GE178 := GW178
            have NB172_178 := Aside0.mk (nl hg BK172.out)
            have NB178_172 := Aside0.mk (nr hg BK172.out)
            have NB173_178 := Aside0.mk (nl hg BK173.out)
            have NB178_173 := Aside0.mk (nr hg BK173.out)
            replace BK172 := Aside0.mk (bb BK172.out hb)
            replace BK173 := Aside0.mk (bb BK173.out hb)
            replace HB := Aside0.mk (below_step (bl2 HB.out GE172.out GE173.out) hb)
            clear hb hbox hg
            refine hK.out _ _ (mS _ BK172.out BK173.out) (fun hHeld => ?_)
            clear hK K
            refine np 5 ?_
            exact nj (hJ1_4 (gb178) _ ⟨hHeld, (bk BK172.out), (bk BK173.out), (bk BK178.out), GW178.out, GE178.out, NB172_178.out, NB178_172.out, NB173_178.out, NB178_173.out, (bl3 HB.out GE172.out GE173.out GE178.out)⟩)
           ·skip
            refine bs 6 (#[.int .i64 0, .int .i64 0]) 36 ?_
            intro gb179 hg w12 hbox hb
            have BK179 := Aside0.mk (hbox)
            have GW179 := Aside0.mk (gz (w := w) hg (bl2 HB.out GE172.out GE173.out))
            have GE179 := GW179
            have NB172_179 := Aside0.mk (nl hg BK172.out)
            have NB179_172 := Aside0.mk (nr hg BK172.out)
            have NB173_179 := Aside0.mk (nl hg BK173.out)
            have NB179_173 := Aside0.mk (nr hg BK173.out)
            replace BK172 := Aside0.mk (bb BK172.out hb)
            replace BK173 := Aside0.mk (bb BK173.out hb)
            replace HB := Aside0.mk (below_step (bl2 HB.out GE172.out GE173.out) hb)
            clear hb hbox hg
            refine hK.out _ _ (mS _ BK172.out BK173.out) (fun hHeld => ?_)
            clear hK K
            refine np 6 ?_
            exact nj (hJ1_5 (gb179) _ ⟨hHeld, (bk BK172.out), (bk BK173.out), (bk BK179.out), GW179.out, GE179.out, NB172_179.out, NB179_172.out, NB173_179.out, NB179_173.out, (bl3 HB.out GE172.out GE173.out GE179.out)⟩)
         ·skip
          rintro ⟨gb178, gb179⟩ w12 ⟨hS_, h0_, h1_, h2_, h3_, h4_, h5_, h6_, h7_, h8_, h9_, h10_, h11_, h12_, h13_, h14_, h15_, h16_, h17_, h18_⟩
          have BK178 : Aside0 (w12.heap[gb178]? = some (.cells #[.int .i64 0, .int .i64 0] 36 (0, 0))) := ⟨h2_⟩
          have BK179 : Aside0 (w12.heap[gb179]? = some (.cells #[.int .i64 0, .int .i64 0] 36 (0, 0))) := ⟨h3_⟩
          have GW178 : Aside0 (w.heap.size ≤ gb178) := ⟨h4_⟩
          have GE178 : Aside0 (w.heap.size ≤ gb178) := ⟨h5_⟩
          have NB172_178 : Aside0 (gb172 ≠ gb178) := ⟨h6_⟩
          have NB178_172 : Aside0 (gb178 ≠ gb172) := ⟨h7_⟩
          have NB173_178 : Aside0 (gb173 ≠ gb178) := ⟨h8_⟩
          have NB178_173 : Aside0 (gb178 ≠ gb173) := ⟨h9_⟩
          have NB179_178 : Aside0 (gb179 ≠ gb178) := ⟨h10_⟩
          have NB178_179 : Aside0 (gb178 ≠ gb179) := ⟨h11_⟩
          have GW179 : Aside0 (w.heap.size ≤ gb179) := ⟨h12_⟩
          have GE179 : Aside0 (w.heap.size ≤ gb179) := ⟨h13_⟩
          have NB172_179 : Aside0 (gb172 ≠ gb179) := ⟨h14_⟩
          have NB179_172 : Aside0 (gb179 ≠ gb172) := ⟨h15_⟩
          have NB173_179 : Aside0 (gb173 ≠ gb179) := ⟨h16_⟩
          have NB179_173 : Aside0 (gb179 ≠ gb173) := ⟨h17_⟩
          replace BK172 : Aside0 (w12.heap[gb172]? = some (.cells #[.int .i64 a0_0, .bool a0_1, .int .i64 a0_2, .int .i64 a0_3, .int .i64 a0_4, .int .i64 a0_5, .int .i64 a0_6, .int .i64 a0_7] 38 (0, 0))) := ⟨h0_⟩
          replace BK173 : Aside0 (w12.heap[gb173]? = some (.cells #[.int .i64 a1_0, .bool a1_1, .int .i64 a1_2, .int .i64 a1_3, .int .i64 a1_4, .int .i64 a1_5, .int .i64 a1_6, .int .i64 a1_7] 38 (0, 0))) := ⟨h1_⟩
          replace HB : Aside0 (Below w.heap.size w w12) := ⟨h18_⟩
          clear h0_ h1_ h2_ h3_ h4_ h5_ h6_ h7_ h8_ h9_ h10_ h11_ h12_ h13_ h14_ h15_ h16_ h17_ h18_
          have hHeld := hS_
          refine na ?_
          refine one_ (i := 1) (N := some 12) (ba 8 55) rfl rfl (one_of HT_.out (by kernel_rfl)) (by decide) (fun K hK => ?_)
          refine goes_ Try.func67 (by kernel_rfl) rfl #[.agg #[.int .i64 a0_0, .bool a0_1, .int .i64 a0_2, .int .i64 a0_3, .int .i64 a0_4, .int .i64 a0_5, .int .i64 a0_6, .int .i64 a0_7]] (by rfl) rfl rfl am ?_
          with_reducible refine (corner_last.calls k a0_0 a0_1 a0_2 a0_3 a0_4 a0_5 a0_6 a0_7 t174 t175 _ A3.out).mono ?_
          rintro e w13 ⟨rfl, hb⟩
          refine ⟨_, rfl, ?_⟩
          replace BK172 := Aside0.mk (bb BK172.out hb)
          replace BK173 := Aside0.mk (bb BK173.out hb)
          replace BK178 := Aside0.mk (bb BK178.out hb)
          replace BK179 := Aside0.mk (bb BK179.out hb)
          replace HB := Aside0.mk (below_step (bl4 HB.out GE172.out GE173.out GE178.out GE179.out) hb)
          (try clear hb)
          (try clear hb2)
          (try clear hk)
          (try clear hi)
          refine hK.out _ _ (mS _ BK172.out BK173.out) (fun hHeld => ?_)
          clear hK K
          refine np 12 ?_
          exact nj (hJ1_4_5 (gb178, gb179) _ ⟨hHeld, (bk BK172.out), (bk BK173.out), (bk BK178.out), (bk BK179.out), GW178.out, GE178.out, NB172_178.out, NB178_172.out, NB173_178.out, NB178_173.out, NB179_178.out, NB178_179.out, GW179.out, GE179.out, NB172_179.out, NB179_172.out, NB173_179.out, NB179_173.out, (bl4 HB.out GE172.out GE173.out GE178.out GE179.out)⟩)
        ·skip
         rintro gb179 w12 ⟨hS_, h0_, h1_, h2_, h3_, h4_, h5_, h6_, h7_, h8_, h9_⟩
         have BK179 : Aside0 (w12.heap[gb179]? = some (.cells #[.int .i64 0, .int .i64 0] 36 (0, 0))) := ⟨h2_⟩
         have GW179 : Aside0 (w.heap.size ≤ gb179) := ⟨h3_⟩
         have GE179 : Aside0 (w.heap.size ≤ gb179) := ⟨h4_⟩
         have NB172_179 : Aside0 (gb172 ≠ gb179) := ⟨h5_⟩
         have NB179_172 : Aside0 (gb179 ≠ gb172) := ⟨h6_⟩
         have NB173_179 : Aside0 (gb173 ≠ gb179) := ⟨h7_⟩
         have NB179_173 : Aside0 (gb179 ≠ gb173) := ⟨h8_⟩
         replace BK172 : Aside0 (w12.heap[gb172]? = some (.cells #[.int .i64 a0_0, .bool a0_1, .int .i64 a0_2, .int .i64 a0_3, .int .i64 a0_4, .int .i64 a0_5, .int .i64 a0_6, .int .i64 a0_7] 38 (0, 0))) := ⟨h0_⟩
         replace BK173 : Aside0 (w12.heap[gb173]? = some (.cells #[.int .i64 a1_0, .bool a1_1, .int .i64 a1_2, .int .i64 a1_3, .int .i64 a1_4, .int .i64 a1_5, .int .i64 a1_6, .int .i64 a1_7] 38 (0, 0))) := ⟨h1_⟩
         replace HB : Aside0 (Below w.heap.size w w12) := ⟨h9_⟩
         clear h0_ h1_ h2_ h3_ h4_ h5_ h6_ h7_ h8_ h9_
         have hHeld := hS_
         refine na ?_
         refine two_ (i := 3) (j := 4) (Ni := some 14) (Nj := some 5) (ba 8 47) (ba 8 55) rfl rfl rfl rfl (two_of HT_.out (by kernel_rfl)) (by decide) (by decide) (fun K hK => ?_) (fun K hK => ?_)
         ·skip
          refine goes_ Try.func66 (by kernel_rfl) rfl #[.agg #[.int .i64 a1_0, .bool a1_1, .int .i64 a1_2, .int .i64 a1_3, .int .i64 a1_4, .int .i64 a1_5, .int .i64 a1_6, .int .i64 a1_7]] (by rfl) rfl rfl am ?_
          with_reducible refine (corner_first.calls k a1_0 a1_1 a1_2 a1_3 a1_4 a1_5 a1_6 a1_7 t176 t177 _ A4.out).mono ?_
          rintro e w13 ⟨rfl, hb⟩
          refine ⟨_, rfl, ?_⟩
          replace BK172 := Aside0.mk (bb BK172.out hb)
          replace BK173 := Aside0.mk (bb BK173.out hb)
          replace BK179 := Aside0.mk (bb BK179.out hb)
          replace HB := Aside0.mk (below_step (bl3 HB.out GE172.out GE173.out GE179.out) hb)
          (try clear hb)
          (try clear hb2)
          (try clear hk)
          (try clear hi)
          refine hK.out _ _ (mS _ BK172.out BK173.out) (fun hHeld => ?_)
          clear hK K
          refine np 14 ?_
          exact nj (hJ1_3_5 (gb179) _ ⟨hHeld, (bk BK172.out), (bk BK173.out), (bk BK179.out), GW179.out, GE179.out, NB172_179.out, NB179_172.out, NB173_179.out, NB179_173.out, (bl3 HB.out GE172.out GE173.out GE179.out)⟩)
         ·skip
          refine bs 5 (#[.int .i64 0, .int .i64 0]) 36 ?_
          intro gb178 hg w13 hbox hb
          have BK178 := Aside0.mk (hbox)
          have GW178 := Aside0.mk (gz (w := w) hg (bl3 HB.out GE172.out GE173.out GE179.out))
          have GE178 := GW178
          have NB172_178 := Aside0.mk (nl hg BK172.out)
          have NB178_172 := Aside0.mk (nr hg BK172.out)
          have NB173_178 := Aside0.mk (nl hg BK173.out)
          have NB178_173 := Aside0.mk (nr hg BK173.out)
          have NB179_178 := Aside0.mk (nl hg BK179.out)
          have NB178_179 := Aside0.mk (nr hg BK179.out)
          replace BK172 := Aside0.mk (bb BK172.out hb)
          replace BK173 := Aside0.mk (bb BK173.out hb)
          replace BK179 := Aside0.mk (bb BK179.out hb)
          replace HB := Aside0.mk (below_step (bl3 HB.out GE172.out GE173.out GE179.out) hb)
          clear hb hbox hg
          refine hK.out _ _ (mS _ BK172.out BK173.out) (fun hHeld => ?_)
          clear hK K
          refine np 5 ?_
          exact nj (hJ1_4_5 (gb178, gb179) _ ⟨hHeld, (bk BK172.out), (bk BK173.out), (bk BK178.out), (bk BK179.out), GW178.out, GE178.out, NB172_178.out, NB178_172.out, NB173_178.out, NB178_173.out, NB179_178.out, NB178_179.out, GW179.out, GE179.out, NB172_179.out, NB179_172.out, NB173_179.out, NB179_173.out, (bl4 HB.out GE172.out GE173.out GE179.out GE178.out)⟩)
       ·skip
        rintro gb178 w12 ⟨hS_, h0_, h1_, h2_, h3_, h4_, h5_, h6_, h7_, h8_, h9_⟩
        have BK178 : Aside0 (w12.heap[gb178]? = some (.cells #[.int .i64 0, .int .i64 0] 36 (0, 0))) := ⟨h2_⟩
        have GW178 : Aside0 (w.heap.size ≤ gb178) := ⟨h3_⟩
        have GE178 : Aside0 (w.heap.size ≤ gb178) := ⟨h4_⟩
        have NB172_178 : Aside0 (gb172 ≠ gb178) := ⟨h5_⟩
        have NB178_172 : Aside0 (gb178 ≠ gb172) := ⟨h6_⟩
        have NB173_178 : Aside0 (gb173 ≠ gb178) := ⟨h7_⟩
        have NB178_173 : Aside0 (gb178 ≠ gb173) := ⟨h8_⟩
        replace BK172 : Aside0 (w12.heap[gb172]? = some (.cells #[.int .i64 a0_0, .bool a0_1, .int .i64 a0_2, .int .i64 a0_3, .int .i64 a0_4, .int .i64 a0_5, .int .i64 a0_6, .int .i64 a0_7] 38 (0, 0))) := ⟨h0_⟩
        replace BK173 : Aside0 (w12.heap[gb173]? = some (.cells #[.int .i64 a1_0, .bool a1_1, .int .i64 a1_2, .int .i64 a1_3, .int .i64 a1_4, .int .i64 a1_5, .int .i64 a1_6, .int .i64 a1_7] 38 (0, 0))) := ⟨h1_⟩
        replace HB : Aside0 (Below w.heap.size w w12) := ⟨h9_⟩
        clear h0_ h1_ h2_ h3_ h4_ h5_ h6_ h7_ h8_ h9_
        have hHeld := hS_
        refine na ?_
        refine two_ (i := 3) (j := 5) (Ni := some 14) (Nj := some 6) (ba 8 31) (ba 8 55) rfl rfl rfl rfl (two_of HT_.out (by kernel_rfl)) (by decide) (by decide) (fun K hK => ?_) (fun K hK => ?_)
        ·skip
         refine goes_ Try.func66 (by kernel_rfl) rfl #[.agg #[.int .i64 a1_0, .bool a1_1, .int .i64 a1_2, .int .i64 a1_3, .int .i64 a1_4, .int .i64 a1_5, .int .i64 a1_6, .int .i64 a1_7]] (by rfl) rfl rfl am ?_
         with_reducible refine (corner_first.calls k a1_0 a1_1 a1_2 a1_3 a1_4 a1_5 a1_6 a1_7 t176 t177 _ A4.out).mono ?_
         rintro e w13 ⟨rfl, hb⟩
         refine ⟨_, rfl, ?_⟩
         replace BK172 := Aside0.mk (bb BK172.out hb)
         replace BK173 := Aside0.mk (bb BK173.out hb)
         replace BK178 := Aside0.mk (bb BK178.out hb)
         replace HB := Aside0.mk (below_step (bl3 HB.out GE172.out GE173.out GE178.out) hb)
         (try clear hb)
         (try clear hb2)
         (try clear hk)
         (try clear hi)
         refine hK.out _ _ (mS _ BK172.out BK173.out) (fun hHeld => ?_)
         clear hK K
         refine np 14 ?_
         exact nj (hJ1_3_4 (gb178) _ ⟨hHeld, (bk BK172.out), (bk BK173.out), (bk BK178.out), GW178.out, GE178.out, NB172_178.out, NB178_172.out, NB173_178.out, NB178_173.out, (bl3 HB.out GE172.out GE173.out GE178.out)⟩)
        ·skip
         refine bs 6 (#[.int .i64 0, .int .i64 0]) 36 ?_
         intro gb179 hg w13 hbox hb
         have BK179 := Aside0.mk (hbox)
         have GW179 := Aside0.mk (gz (w := w) hg (bl3 HB.out GE172.out GE173.out GE178.out))
         have GE179 := GW179
         have NB172_179 := Aside0.mk (nl hg BK172.out)
         have NB179_172 := Aside0.mk (nr hg BK172.out)
         have NB173_179 := Aside0.mk (nl hg BK173.out)
         have NB179_173 := Aside0.mk (nr hg BK173.out)
         have NB178_179 := Aside0.mk (nl hg BK178.out)
         have NB179_178 := Aside0.mk (nr hg BK178.out)
         replace BK172 := Aside0.mk (bb BK172.out hb)
         replace BK173 := Aside0.mk (bb BK173.out hb)
         replace BK178 := Aside0.mk (bb BK178.out hb)
         replace HB := Aside0.mk (below_step (bl3 HB.out GE172.out GE173.out GE178.out) hb)
         clear hb hbox hg
         refine hK.out _ _ (mS _ BK172.out BK173.out) (fun hHeld => ?_)
         clear hK K
         refine np 6 ?_
         exact nj (hJ1_4_5 (gb178, gb179) _ ⟨hHeld, (bk BK172.out), (bk BK173.out), (bk BK178.out), (bk BK179.out), GW178.out, GE178.out, NB172_178.out, NB178_172.out, NB173_178.out, NB178_173.out, NB179_178.out, NB178_179.out, GW179.out, GE179.out, NB172_179.out, NB179_172.out, NB173_179.out, NB179_173.out, (bl4 HB.out GE172.out GE173.out GE178.out GE179.out)⟩)
      ·skip
       rintro _ w12 ⟨hS_, h0_, h1_, h2_⟩
       replace BK172 : Aside0 (w12.heap[gb172]? = some (.cells #[.int .i64 a0_0, .bool a0_1, .int .i64 a0_2, .int .i64 a0_3, .int .i64 a0_4, .int .i64 a0_5, .int .i64 a0_6, .int .i64 a0_7] 38 (0, 0))) := ⟨h0_⟩
       replace BK173 : Aside0 (w12.heap[gb173]? = some (.cells #[.int .i64 a1_0, .bool a1_1, .int .i64 a1_2, .int .i64 a1_3, .int .i64 a1_4, .int .i64 a1_5, .int .i64 a1_6, .int .i64 a1_7] 38 (0, 0))) := ⟨h1_⟩
       replace HB : Aside0 (Below w.heap.size w w12) := ⟨h2_⟩
       clear h0_ h1_ h2_
       have hHeld := hS_
       refine na ?_
       refine two_ (i := 4) (j := 5) (Ni := some 5) (Nj := some 6) (ba 8 31) (ba 8 47) rfl rfl rfl rfl (two_of HT_.out (by kernel_rfl)) (by decide) (by decide) (fun K hK => ?_) (fun K hK => ?_)
       ·skip
        refine bs 5 (#[.int .i64 0, .int .i64 0]) 36 ?_
        intro gb178 hg w13 hbox hb
        have BK178 := Aside0.mk (hbox)
        have GW178 := Aside0.mk (gz (w := w) hg (bl2 HB.out GE172.out GE173.out))
        have GE178 := GW178
        have NB172_178 := Aside0.mk (nl hg BK172.out)
        have NB178_172 := Aside0.mk (nr hg BK172.out)
        have NB173_178 := Aside0.mk (nl hg BK173.out)
        have NB178_173 := Aside0.mk (nr hg BK173.out)
        replace BK172 := Aside0.mk (bb BK172.out hb)
        replace BK173 := Aside0.mk (bb BK173.out hb)
        replace HB := Aside0.mk (below_step (bl2 HB.out GE172.out GE173.out) hb)
        clear hb hbox hg
        refine hK.out _ _ (mS _ BK172.out BK173.out) (fun hHeld => ?_)
        clear hK K
        refine np 5 ?_
        exact nj (hJ1_3_4 (gb178) _ ⟨hHeld, (bk BK172.out), (bk BK173.out), (bk BK178.out), GW178.out, GE178.out, NB172_178.out, NB178_172.out, NB173_178.out, NB178_173.out, (bl3 HB.out GE172.out GE173.out GE178.out)⟩)
       ·skip
        refine bs 6 (#[.int .i64 0, .int .i64 0]) 36 ?_
        intro gb179 hg w13 hbox hb
        have BK179 := Aside0.mk (hbox)
        have GW179 := Aside0.mk (gz (w := w) hg (bl2 HB.out GE172.out GE173.out))
        have GE179 := GW179
        have NB172_179 := Aside0.mk (nl hg BK172.out)
        have NB179_172 := Aside0.mk (nr hg BK172.out)
        have NB173_179 := Aside0.mk (nl hg BK173.out)
        have NB179_173 := Aside0.mk (nr hg BK173.out)
        replace BK172 := Aside0.mk (bb BK172.out hb)
        replace BK173 := Aside0.mk (bb BK173.out hb)
        replace HB := Aside0.mk (below_step (bl2 HB.out GE172.out GE173.out) hb)
        clear hb hbox hg
        refine hK.out _ _ (mS _ BK172.out BK173.out) (fun hHeld => ?_)
        clear hK K
        refine np 6 ?_
        exact nj (hJ1_3_5 (gb179) _ ⟨hHeld, (bk BK172.out), (bk BK173.out), (bk BK179.out), GW179.out, GE179.out, NB172_179.out, NB179_172.out, NB173_179.out, NB179_173.out, (bl3 HB.out GE172.out GE173.out GE179.out)⟩)
     ·skip
      rintro ⟨gb178, gb179⟩ w13 ⟨hS_, h0_, h1_, h2_, h3_, h4_, h5_, h6_, h7_, h8_, h9_, h10_, h11_, h12_, h13_, h14_, h15_, h16_, h17_, h18_⟩
      have BK178 : Aside0 (w13.heap[gb178]? = some (.cells #[.int .i64 0, .int .i64 0] 36 (0, 0))) := ⟨h2_⟩
      have BK179 : Aside0 (w13.heap[gb179]? = some (.cells #[.int .i64 0, .int .i64 0] 36 (0, 0))) := ⟨h3_⟩
      have GW178 : Aside0 (w.heap.size ≤ gb178) := ⟨h4_⟩
      have GE178 : Aside0 (w.heap.size ≤ gb178) := ⟨h5_⟩
      have NB172_178 : Aside0 (gb172 ≠ gb178) := ⟨h6_⟩
      have NB178_172 : Aside0 (gb178 ≠ gb172) := ⟨h7_⟩
      have NB173_178 : Aside0 (gb173 ≠ gb178) := ⟨h8_⟩
      have NB178_173 : Aside0 (gb178 ≠ gb173) := ⟨h9_⟩
      have NB179_178 : Aside0 (gb179 ≠ gb178) := ⟨h10_⟩
      have NB178_179 : Aside0 (gb178 ≠ gb179) := ⟨h11_⟩
      have GW179 : Aside0 (w.heap.size ≤ gb179) := ⟨h12_⟩
      have GE179 : Aside0 (w.heap.size ≤ gb179) := ⟨h13_⟩
      have NB172_179 : Aside0 (gb172 ≠ gb179) := ⟨h14_⟩
      have NB179_172 : Aside0 (gb179 ≠ gb172) := ⟨h15_⟩
      have NB173_179 : Aside0 (gb173 ≠ gb179) := ⟨h16_⟩
      have NB179_173 : Aside0 (gb179 ≠ gb173) := ⟨h17_⟩
      replace BK172 : Aside0 (w13.heap[gb172]? = some (.cells #[.int .i64 a0_0, .bool a0_1, .int .i64 a0_2, .int .i64 a0_3, .int .i64 a0_4, .int .i64 a0_5, .int .i64 a0_6, .int .i64 a0_7] 38 (0, 0))) := ⟨h0_⟩
      replace BK173 : Aside0 (w13.heap[gb173]? = some (.cells #[.int .i64 a1_0, .bool a1_1, .int .i64 a1_2, .int .i64 a1_3, .int .i64 a1_4, .int .i64 a1_5, .int .i64 a1_6, .int .i64 a1_7] 38 (0, 0))) := ⟨h1_⟩
      replace HB : Aside0 (Below w.heap.size w w13) := ⟨h18_⟩
      clear h0_ h1_ h2_ h3_ h4_ h5_ h6_ h7_ h8_ h9_ h10_ h11_ h12_ h13_ h14_ h15_ h16_ h17_ h18_
      have hHeld := hS_
      refine na ?_
      refine one_ (i := 3) (N := some 14) (ba 8 63) rfl rfl (one_of HT_.out (by kernel_rfl)) (by decide) (fun K hK => ?_)
      refine goes_ Try.func66 (by kernel_rfl) rfl #[.agg #[.int .i64 a1_0, .bool a1_1, .int .i64 a1_2, .int .i64 a1_3, .int .i64 a1_4, .int .i64 a1_5, .int .i64 a1_6, .int .i64 a1_7]] (by rfl) rfl rfl am ?_
      with_reducible refine (corner_first.calls k a1_0 a1_1 a1_2 a1_3 a1_4 a1_5 a1_6 a1_7 t176 t177 _ A4.out).mono ?_
      rintro e w14 ⟨rfl, hb⟩
      refine ⟨_, rfl, ?_⟩
      replace BK172 := Aside0.mk (bb BK172.out hb)
      replace BK173 := Aside0.mk (bb BK173.out hb)
      replace BK178 := Aside0.mk (bb BK178.out hb)
      replace BK179 := Aside0.mk (bb BK179.out hb)
      replace HB := Aside0.mk (below_step (bl4 HB.out GE172.out GE173.out GE178.out GE179.out) hb)
      (try clear hb)
      (try clear hb2)
      (try clear hk)
      (try clear hi)
      refine hK.out _ _ (mS _ BK172.out BK173.out) (fun hHeld => ?_)
      clear hK K
      refine np 14 ?_
      exact nj (hJ1_3_4_5 (gb178, gb179) _ ⟨hHeld, (bk BK172.out), (bk BK173.out), (bk BK178.out), (bk BK179.out), GW178.out, GE178.out, NB172_178.out, NB178_172.out, NB173_178.out, NB178_173.out, NB179_178.out, NB178_179.out, GW179.out, GE179.out, NB172_179.out, NB179_172.out, NB173_179.out, NB179_173.out, (bl4 HB.out GE172.out GE173.out GE178.out GE179.out)⟩)
    ·skip
     rintro gb179 w13 ⟨hS_, h0_, h1_, h2_, h3_, h4_, h5_, h6_, h7_, h8_, h9_⟩
     have BK179 : Aside0 (w13.heap[gb179]? = some (.cells #[.int .i64 0, .int .i64 0] 36 (0, 0))) := ⟨h2_⟩
     have GW179 : Aside0 (w.heap.size ≤ gb179) := ⟨h3_⟩
     have GE179 : Aside0 (w.heap.size ≤ gb179) := ⟨h4_⟩
     have NB172_179 : Aside0 (gb172 ≠ gb179) := ⟨h5_⟩
     have NB179_172 : Aside0 (gb179 ≠ gb172) := ⟨h6_⟩
     have NB173_179 : Aside0 (gb173 ≠ gb179) := ⟨h7_⟩
     have NB179_173 : Aside0 (gb179 ≠ gb173) := ⟨h8_⟩
     replace BK172 : Aside0 (w13.heap[gb172]? = some (.cells #[.int .i64 a0_0, .bool a0_1, .int .i64 a0_2, .int .i64 a0_3, .int .i64 a0_4, .int .i64 a0_5, .int .i64 a0_6, .int .i64 a0_7] 38 (0, 0))) := ⟨h0_⟩
     replace BK173 : Aside0 (w13.heap[gb173]? = some (.cells #[.int .i64 a1_0, .bool a1_1, .int .i64 a1_2, .int .i64 a1_3, .int .i64 a1_4, .int .i64 a1_5, .int .i64 a1_6, .int .i64 a1_7] 38 (0, 0))) := ⟨h1_⟩
     replace HB : Aside0 (Below w.heap.size w w13) := ⟨h9_⟩
     clear h0_ h1_ h2_ h3_ h4_ h5_ h6_ h7_ h8_ h9_
     have hHeld := hS_
     refine na ?_
     refine one_ (i := 4) (N := some 5) (ba 8 63) rfl rfl (one_of HT_.out (by kernel_rfl)) (by decide) (fun K hK => ?_)
     refine bs 5 (#[.int .i64 0, .int .i64 0]) 36 ?_
     intro gb178 hg w14 hbox hb
     have BK178 := Aside0.mk (hbox)
     have GW178 := Aside0.mk (gz (w := w) hg (bl3 HB.out GE172.out GE173.out GE179.out))
     have GE178 := GW178
     have NB172_178 := Aside0.mk (nl hg BK172.out)
     have NB178_172 := Aside0.mk (nr hg BK172.out)
     have NB173_178 := Aside0.mk (nl hg BK173.out)
     have NB178_173 := Aside0.mk (nr hg BK173.out)
     have NB179_178 := Aside0.mk (nl hg BK179.out)
     have NB178_179 := Aside0.mk (nr hg BK179.out)
     replace BK172 := Aside0.mk (bb BK172.out hb)
     replace BK173 := Aside0.mk (bb BK173.out hb)
     replace BK179 := Aside0.mk (bb BK179.out hb)
     replace HB := Aside0.mk (below_step (bl3 HB.out GE172.out GE173.out GE179.out) hb)
     clear hb hbox hg
     refine hK.out _ _ (mS _ BK172.out BK173.out) (fun hHeld => ?_)
     clear hK K
     refine np 5 ?_
     exact nj (hJ1_3_4_5 (gb178, gb179) _ ⟨hHeld, (bk BK172.out), (bk BK173.out), (bk BK178.out), (bk BK179.out), GW178.out, GE178.out, NB172_178.out, NB178_172.out, NB173_178.out, NB178_173.out, NB179_178.out, NB178_179.out, GW179.out, GE179.out, NB172_179.out, NB179_172.out, NB173_179.out, NB179_173.out, (bl4 HB.out GE172.out GE173.out GE179.out GE178.out)⟩)
   ·skip
    rintro gb178 w13 ⟨hS_, h0_, h1_, h2_, h3_, h4_, h5_, h6_, h7_, h8_, h9_⟩
    have BK178 : Aside0 (w13.heap[gb178]? = some (.cells #[.int .i64 0, .int .i64 0] 36 (0, 0))) := ⟨h2_⟩
    have GW178 : Aside0 (w.heap.size ≤ gb178) := ⟨h3_⟩
    have GE178 : Aside0 (w.heap.size ≤ gb178) := ⟨h4_⟩
    have NB172_178 : Aside0 (gb172 ≠ gb178) := ⟨h5_⟩
    have NB178_172 : Aside0 (gb178 ≠ gb172) := ⟨h6_⟩
    have NB173_178 : Aside0 (gb173 ≠ gb178) := ⟨h7_⟩
    have NB178_173 : Aside0 (gb178 ≠ gb173) := ⟨h8_⟩
    replace BK172 : Aside0 (w13.heap[gb172]? = some (.cells #[.int .i64 a0_0, .bool a0_1, .int .i64 a0_2, .int .i64 a0_3, .int .i64 a0_4, .int .i64 a0_5, .int .i64 a0_6, .int .i64 a0_7] 38 (0, 0))) := ⟨h0_⟩
    replace BK173 : Aside0 (w13.heap[gb173]? = some (.cells #[.int .i64 a1_0, .bool a1_1, .int .i64 a1_2, .int .i64 a1_3, .int .i64 a1_4, .int .i64 a1_5, .int .i64 a1_6, .int .i64 a1_7] 38 (0, 0))) := ⟨h1_⟩
    replace HB : Aside0 (Below w.heap.size w w13) := ⟨h9_⟩
    clear h0_ h1_ h2_ h3_ h4_ h5_ h6_ h7_ h8_ h9_
    have hHeld := hS_
    refine na ?_
    refine one_ (i := 5) (N := some 6) (ba 8 63) rfl rfl (one_of HT_.out (by kernel_rfl)) (by decide) (fun K hK => ?_)
    refine bs 6 (#[.int .i64 0, .int .i64 0]) 36 ?_
    intro gb179 hg w14 hbox hb
    have BK179 := Aside0.mk (hbox)
    have GW179 := Aside0.mk (gz (w := w) hg (bl3 HB.out GE172.out GE173.out GE178.out))
    have GE179 := GW179
    have NB172_179 := Aside0.mk (nl hg BK172.out)
    have NB179_172 := Aside0.mk (nr hg BK172.out)
    have NB173_179 := Aside0.mk (nl hg BK173.out)
    have NB179_173 := Aside0.mk (nr hg BK173.out)
    have NB178_179 := Aside0.mk (nl hg BK178.out)
    have NB179_178 := Aside0.mk (nr hg BK178.out)
    replace BK172 := Aside0.mk (bb BK172.out hb)
    replace BK173 := Aside0.mk (bb BK173.out hb)
    replace BK178 := Aside0.mk (bb BK178.out hb)
    replace HB := Aside0.mk (below_step (bl3 HB.out GE172.out GE173.out GE178.out) hb)
    clear hb hbox hg
    refine hK.out _ _ (mS _ BK172.out BK173.out) (fun hHeld => ?_)
    clear hK K
    refine np 6 ?_
    exact nj (hJ1_3_4_5 (gb178, gb179) _ ⟨hHeld, (bk BK172.out), (bk BK173.out), (bk BK178.out), (bk BK179.out), GW178.out, GE178.out, NB172_178.out, NB178_172.out, NB173_178.out, NB178_173.out, NB179_178.out, NB178_179.out, GW179.out, GE179.out, NB172_179.out, NB179_172.out, NB173_179.out, NB179_173.out, (bl4 HB.out GE172.out GE173.out GE178.out GE179.out)⟩)
  rintro ⟨gb178, gb179⟩ w14 ⟨hS_, h0_, h1_, h2_, h3_, h4_, h5_, h6_, h7_, h8_, h9_, h10_, h11_, h12_, h13_, h14_, h15_, h16_, h17_, h18_⟩
  have BK178 : Aside0 (w14.heap[gb178]? = some (.cells #[.int .i64 0, .int .i64 0] 36 (0, 0))) := ⟨h2_⟩
  have BK179 : Aside0 (w14.heap[gb179]? = some (.cells #[.int .i64 0, .int .i64 0] 36 (0, 0))) := ⟨h3_⟩
  have GW178 : Aside0 (w.heap.size ≤ gb178) := ⟨h4_⟩
  have GE178 : Aside0 (w.heap.size ≤ gb178) := ⟨h5_⟩
  have NB172_178 : Aside0 (gb172 ≠ gb178) := ⟨h6_⟩
  have NB178_172 : Aside0 (gb178 ≠ gb172) := ⟨h7_⟩
  have NB173_178 : Aside0 (gb173 ≠ gb178) := ⟨h8_⟩
  have NB178_173 : Aside0 (gb178 ≠ gb173) := ⟨h9_⟩
  have NB179_178 : Aside0 (gb179 ≠ gb178) := ⟨h10_⟩
  have NB178_179 : Aside0 (gb178 ≠ gb179) := ⟨h11_⟩
  have GW179 : Aside0 (w.heap.size ≤ gb179) := ⟨h12_⟩
  have GE179 : Aside0 (w.heap.size ≤ gb179) := ⟨h13_⟩
  have NB172_179 : Aside0 (gb172 ≠ gb179) := ⟨h14_⟩
  have NB179_172 : Aside0 (gb179 ≠ gb172) := ⟨h15_⟩
  have NB173_179 : Aside0 (gb173 ≠ gb179) := ⟨h16_⟩
  have NB179_173 : Aside0 (gb179 ≠ gb173) := ⟨h17_⟩
  replace BK172 : Aside0 (w14.heap[gb172]? = some (.cells #[.int .i64 a0_0, .bool a0_1, .int .i64 a0_2, .int .i64 a0_3, .int .i64 a0_4, .int .i64 a0_5, .int .i64 a0_6, .int .i64 a0_7] 38 (0, 0))) := ⟨h0_⟩
  replace BK173 : Aside0 (w14.heap[gb173]? = some (.cells #[.int .i64 a1_0, .bool a1_1, .int .i64 a1_2, .int .i64 a1_3, .int .i64 a1_4, .int .i64 a1_5, .int .i64 a1_6, .int .i64 a1_7] 38 (0, 0))) := ⟨h1_⟩
  replace HB : Aside0 (Below w.heap.size w w14) := ⟨h18_⟩
  clear h0_ h1_ h2_ h3_ h4_ h5_ h6_ h7_ h8_ h9_ h10_ h11_ h12_ h13_ h14_ h15_ h16_ h17_ h18_
  have hHeld := hS_
  refine na ?_
  refine one_ (i := 6) (N := none) (ba 8 127) rfl rfl (one_of HT_.out (by kernel_rfl)) (by decide) (fun K hK => ?_)
  have hs15 : w14.cell? ⟨gb178, 0, none⟩ = some (.int .i64 0) := (blk_cell BK178.out 0).trans rfl
  have hfs15 := blk_frozen BK178.out 0
  have hns15_0 := NB172_178.out
  have hns15_1 := NB173_178.out
  have hns15_3 := NB179_178.out
  have hms15_0 := NB178_172.out
  have hms15_1 := NB178_173.out
  have hms15_3 := NB178_179.out
  have hs16 : w14.cell? ⟨gb178, 1, none⟩ = some (.int .i64 0) := (blk_cell BK178.out 1).trans rfl
  have hfs16 := blk_frozen BK178.out 1
  have hns16_0 := NB172_178.out
  have hns16_1 := NB173_178.out
  have hns16_3 := NB179_178.out
  have hms16_0 := NB178_172.out
  have hms16_1 := NB178_173.out
  have hms16_3 := NB178_179.out
  refine skip_ (w1 := ?_) (by rfl) rfl ?_ ?_
  rotate_left
  ·go_simp
   rfl
  refine hK.out _ _ (by rw [eS.out] at hHeld ⊢; exact ⟨((cell_far (p := ⟨gb178, _, none⟩) NB172_178.out _).trans (((cell_far (p := ⟨gb178, _, none⟩) NB172_178.out _).trans (hHeld.1)))), ((cell_far (p := ⟨gb178, _, none⟩) NB172_178.out _).trans (((cell_far (p := ⟨gb178, _, none⟩) NB172_178.out _).trans (hHeld.2.1)))), ((cell_far (p := ⟨gb178, _, none⟩) NB172_178.out _).trans (((cell_far (p := ⟨gb178, _, none⟩) NB172_178.out _).trans (hHeld.2.2.1)))), ((cell_far (p := ⟨gb178, _, none⟩) NB172_178.out _).trans (((cell_far (p := ⟨gb178, _, none⟩) NB172_178.out _).trans (hHeld.2.2.2.1)))), ((cell_far (p := ⟨gb178, _, none⟩) NB172_178.out _).trans (((cell_far (p := ⟨gb178, _, none⟩) NB172_178.out _).trans (hHeld.2.2.2.2.1)))), ((cell_far (p := ⟨gb178, _, none⟩) NB172_178.out _).trans (((cell_far (p := ⟨gb178, _, none⟩) NB172_178.out _).trans (hHeld.2.2.2.2.2.1)))), ((cell_far (p := ⟨gb178, _, none⟩) NB172_178.out _).trans (((cell_far (p := ⟨gb178, _, none⟩) NB172_178.out _).trans (hHeld.2.2.2.2.2.2.1)))), ((cell_far (p := ⟨gb178, _, none⟩) NB172_178.out _).trans (((cell_far (p := ⟨gb178, _, none⟩) NB172_178.out _).trans (hHeld.2.2.2.2.2.2.2.1)))), ((cell_far (p := ⟨gb178, _, none⟩) NB173_178.out _).trans (((cell_far (p := ⟨gb178, _, none⟩) NB173_178.out _).trans (hHeld.2.2.2.2.2.2.2.2.1)))), ((cell_far (p := ⟨gb178, _, none⟩) NB173_178.out _).trans (((cell_far (p := ⟨gb178, _, none⟩) NB173_178.out _).trans (hHeld.2.2.2.2.2.2.2.2.2.1)))), ((cell_far (p := ⟨gb178, _, none⟩) NB173_178.out _).trans (((cell_far (p := ⟨gb178, _, none⟩) NB173_178.out _).trans (hHeld.2.2.2.2.2.2.2.2.2.2.1)))), ((cell_far (p := ⟨gb178, _, none⟩) NB173_178.out _).trans (((cell_far (p := ⟨gb178, _, none⟩) NB173_178.out _).trans (hHeld.2.2.2.2.2.2.2.2.2.2.2.1)))), ((cell_far (p := ⟨gb178, _, none⟩) NB173_178.out _).trans (((cell_far (p := ⟨gb178, _, none⟩) NB173_178.out _).trans (hHeld.2.2.2.2.2.2.2.2.2.2.2.2.1)))), ((cell_far (p := ⟨gb178, _, none⟩) NB173_178.out _).trans (((cell_far (p := ⟨gb178, _, none⟩) NB173_178.out _).trans (hHeld.2.2.2.2.2.2.2.2.2.2.2.2.2.1)))), ((cell_far (p := ⟨gb178, _, none⟩) NB173_178.out _).trans (((cell_far (p := ⟨gb178, _, none⟩) NB173_178.out _).trans (hHeld.2.2.2.2.2.2.2.2.2.2.2.2.2.2.1)))), ((cell_far (p := ⟨gb178, _, none⟩) NB173_178.out _).trans (((cell_far (p := ⟨gb178, _, none⟩) NB173_178.out _).trans (hHeld.2.2.2.2.2.2.2.2.2.2.2.2.2.2.2))))⟩) (fun hHeld => ?_)
  clear hK K
  refine one_ (i := 7) (N := none) (ba 8 255) rfl rfl (one_of HT_.out (by kernel_rfl)) (by decide) (fun K hK => ?_)
  have hs17 : w14.cell? ⟨gb179, 0, none⟩ = some (.int .i64 0) := (blk_cell BK179.out 0).trans rfl
  have hfs17 := blk_frozen BK179.out 0
  have hns17_0 := NB172_179.out
  have hns17_1 := NB173_179.out
  have hns17_2 := NB178_179.out
  have hms17_0 := NB179_172.out
  have hms17_1 := NB179_173.out
  have hms17_2 := NB179_178.out
  have hs18 : w14.cell? ⟨gb179, 1, none⟩ = some (.int .i64 0) := (blk_cell BK179.out 1).trans rfl
  have hfs18 := blk_frozen BK179.out 1
  have hns18_0 := NB172_179.out
  have hns18_1 := NB173_179.out
  have hns18_2 := NB178_179.out
  have hms18_0 := NB179_172.out
  have hms18_1 := NB179_173.out
  have hms18_2 := NB179_178.out
  refine skip_ (w1 := ?_) (by rfl) rfl ?_ ?_
  rotate_left
  ·go_simp
   rfl
  refine hK.out _ _ (by rw [eS.out] at hHeld ⊢; exact ⟨((cell_far (p := ⟨gb179, _, none⟩) NB172_179.out _).trans (((cell_far (p := ⟨gb179, _, none⟩) NB172_179.out _).trans (hHeld.1)))), ((cell_far (p := ⟨gb179, _, none⟩) NB172_179.out _).trans (((cell_far (p := ⟨gb179, _, none⟩) NB172_179.out _).trans (hHeld.2.1)))), ((cell_far (p := ⟨gb179, _, none⟩) NB172_179.out _).trans (((cell_far (p := ⟨gb179, _, none⟩) NB172_179.out _).trans (hHeld.2.2.1)))), ((cell_far (p := ⟨gb179, _, none⟩) NB172_179.out _).trans (((cell_far (p := ⟨gb179, _, none⟩) NB172_179.out _).trans (hHeld.2.2.2.1)))), ((cell_far (p := ⟨gb179, _, none⟩) NB172_179.out _).trans (((cell_far (p := ⟨gb179, _, none⟩) NB172_179.out _).trans (hHeld.2.2.2.2.1)))), ((cell_far (p := ⟨gb179, _, none⟩) NB172_179.out _).trans (((cell_far (p := ⟨gb179, _, none⟩) NB172_179.out _).trans (hHeld.2.2.2.2.2.1)))), ((cell_far (p := ⟨gb179, _, none⟩) NB172_179.out _).trans (((cell_far (p := ⟨gb179, _, none⟩) NB172_179.out _).trans (hHeld.2.2.2.2.2.2.1)))), ((cell_far (p := ⟨gb179, _, none⟩) NB172_179.out _).trans (((cell_far (p := ⟨gb179, _, none⟩) NB172_179.out _).trans (hHeld.2.2.2.2.2.2.2.1)))), ((cell_far (p := ⟨gb179, _, none⟩) NB173_179.out _).trans (((cell_far (p := ⟨gb179, _, none⟩) NB173_179.out _).trans (hHeld.2.2.2.2.2.2.2.2.1)))), ((cell_far (p := ⟨gb179, _, none⟩) NB173_179.out _).trans (((cell_far (p := ⟨gb179, _, none⟩) NB173_179.out _).trans (hHeld.2.2.2.2.2.2.2.2.2.1)))), ((cell_far (p := ⟨gb179, _, none⟩) NB173_179.out _).trans (((cell_far (p := ⟨gb179, _, none⟩) NB173_179.out _).trans (hHeld.2.2.2.2.2.2.2.2.2.2.1)))), ((cell_far (p := ⟨gb179, _, none⟩) NB173_179.out _).trans (((cell_far (p := ⟨gb179, _, none⟩) NB173_179.out _).trans (hHeld.2.2.2.2.2.2.2.2.2.2.2.1)))), ((cell_far (p := ⟨gb179, _, none⟩) NB173_179.out _).trans (((cell_far (p := ⟨gb179, _, none⟩) NB173_179.out _).trans (hHeld.2.2.2.2.2.2.2.2.2.2.2.2.1)))), ((cell_far (p := ⟨gb179, _, none⟩) NB173_179.out _).trans (((cell_far (p := ⟨gb179, _, none⟩) NB173_179.out _).trans (hHeld.2.2.2.2.2.2.2.2.2.2.2.2.2.1)))), ((cell_far (p := ⟨gb179, _, none⟩) NB173_179.out _).trans (((cell_far (p := ⟨gb179, _, none⟩) NB173_179.out _).trans (hHeld.2.2.2.2.2.2.2.2.2.2.2.2.2.2.1)))), ((cell_far (p := ⟨gb179, _, none⟩) NB173_179.out _).trans (((cell_far (p := ⟨gb179, _, none⟩) NB173_179.out _).trans (hHeld.2.2.2.2.2.2.2.2.2.2.2.2.2.2.2))))⟩) (fun hHeld => ?_)
  clear hK K
  refine done_ (done_of HT_.out (by kernel_rfl)) ?_
  have hnb19 := NB178_172.out
  have hnc19 := NB172_178.out
  have hnb20 := NB178_173.out
  have hnc20 := NB173_178.out
  have hnb21 := NB178_179.out
  have hnc21 := NB179_178.out
  have hcz22_0 : w14.cell? ⟨gb178, 0, none⟩ = some (.int .i64 0) := (blk_cell BK178.out 0).trans rfl
  have hcz22_1 : w14.cell? ⟨gb178, 1, none⟩ = some (.int .i64 0) := (blk_cell BK178.out 1).trans rfl
  have hfz22_0 := blk_frozen BK178.out 0
  have hfz22_1 := blk_frozen BK178.out 1
  have hnb23 := NB179_172.out
  have hnc23 := NB172_179.out
  have hnb24 := NB179_173.out
  have hnc24 := NB173_179.out
  have hcz25_0 : w14.cell? ⟨gb179, 0, none⟩ = some (.int .i64 0) := (blk_cell BK179.out 0).trans rfl
  have hcz25_1 : w14.cell? ⟨gb179, 1, none⟩ = some (.int .i64 0) := (blk_cell BK179.out 1).trans rfl
  have hfz25_0 := blk_frozen BK179.out 0
  have hfz25_1 := blk_frozen BK179.out 1
  try go_wp2_with (first | ((with_reducible refine gate_callee (f := 89) rfl ?_); refine goesL_ (some 17) rfl rfl Try.func89 (by kernel_rfl) rfl #[.agg #[.int .i64 t174, .int .i64 t175], .agg #[.int .i64 t176, .int .i64 t177]] rfl am ?_; (with_reducible refine (corner_times.calls t174 t175 t176 t177 t180 _ A5.out).mono ?_); rintro e w26 ⟨rfl, hb⟩; refine ⟨_, rfl, ?_⟩; replace BK172 := Aside0.mk (blk_below (g := gb172) (o := .cells #[.int .i64 a0_0, .bool a0_1, .int .i64 a0_2, .int .i64 a0_3, .int .i64 a0_4, .int .i64 a0_5, .int .i64 a0_6, .int .i64 a0_7] 38 (0, 0)) (by (with_reducible repeat (first | refine blk_drewN ?_ _ | refine blk_drew ?_ | refine blk_alloc ?_ _)); refine blk_far ?_ NB172_179.out _; (with_reducible repeat (first | refine blk_drewN ?_ _ | refine blk_drew ?_ | refine blk_alloc ?_ _)); refine blk_far ?_ NB172_179.out _; (with_reducible repeat (first | refine blk_drewN ?_ _ | refine blk_drew ?_ | refine blk_alloc ?_ _)); refine blk_far ?_ NB172_178.out _; (with_reducible repeat (first | refine blk_drewN ?_ _ | refine blk_drew ?_ | refine blk_alloc ?_ _)); refine blk_far ?_ NB172_178.out _; (with_reducible repeat (first | refine blk_drewN ?_ _ | refine blk_drew ?_ | refine blk_alloc ?_ _)); exact BK172.out) hb); replace BK173 := Aside0.mk (blk_below (g := gb173) (o := .cells #[.int .i64 a1_0, .bool a1_1, .int .i64 a1_2, .int .i64 a1_3, .int .i64 a1_4, .int .i64 a1_5, .int .i64 a1_6, .int .i64 a1_7] 38 (0, 0)) (by (with_reducible repeat (first | refine blk_drewN ?_ _ | refine blk_drew ?_ | refine blk_alloc ?_ _)); refine blk_far ?_ NB173_179.out _; (with_reducible repeat (first | refine blk_drewN ?_ _ | refine blk_drew ?_ | refine blk_alloc ?_ _)); refine blk_far ?_ NB173_179.out _; (with_reducible repeat (first | refine blk_drewN ?_ _ | refine blk_drew ?_ | refine blk_alloc ?_ _)); refine blk_far ?_ NB173_178.out _; (with_reducible repeat (first | refine blk_drewN ?_ _ | refine blk_drew ?_ | refine blk_alloc ?_ _)); refine blk_far ?_ NB173_178.out _; (with_reducible repeat (first | refine blk_drewN ?_ _ | refine blk_drew ?_ | refine blk_alloc ?_ _)); exact BK173.out) hb); replace BK178 := Aside0.mk (blk_below (g := gb178) (o := .cells #[.int .i64 t174, .int .i64 t175] 36 (0, 0)) (by (with_reducible repeat (first | refine blk_drewN ?_ _ | refine blk_drew ?_ | refine blk_alloc ?_ _)); refine blk_far ?_ NB178_179.out _; (with_reducible repeat (first | refine blk_drewN ?_ _ | refine blk_drew ?_ | refine blk_alloc ?_ _)); refine blk_far ?_ NB178_179.out _; (with_reducible repeat (first | refine blk_drewN ?_ _ | refine blk_drew ?_ | refine blk_alloc ?_ _)); refine blk_put (cs := #[.int .i64 t174, .int .i64 0]) ?_ 1 _ rfl; (with_reducible repeat (first | refine blk_drewN ?_ _ | refine blk_drew ?_ | refine blk_alloc ?_ _)); refine blk_put (cs := #[.int .i64 0, .int .i64 0]) ?_ 0 _ rfl; (with_reducible repeat (first | refine blk_drewN ?_ _ | refine blk_drew ?_ | refine blk_alloc ?_ _)); exact BK178.out) hb); replace BK179 := Aside0.mk (blk_below (g := gb179) (o := .cells #[.int .i64 t176, .int .i64 t177] 36 (0, 0)) (by (with_reducible repeat (first | refine blk_drewN ?_ _ | refine blk_drew ?_ | refine blk_alloc ?_ _)); refine blk_put (cs := #[.int .i64 t176, .int .i64 0]) ?_ 1 _ rfl; (with_reducible repeat (first | refine blk_drewN ?_ _ | refine blk_drew ?_ | refine blk_alloc ?_ _)); refine blk_put (cs := #[.int .i64 0, .int .i64 0]) ?_ 0 _ rfl; (with_reducible repeat (first | refine blk_drewN ?_ _ | refine blk_drew ?_ | refine blk_alloc ?_ _)); refine blk_far ?_ NB179_178.out _; (with_reducible repeat (first | refine blk_drewN ?_ _ | refine blk_drew ?_ | refine blk_alloc ?_ _)); refine blk_far ?_ NB179_178.out _; (with_reducible repeat (first | refine blk_drewN ?_ _ | refine blk_drew ?_ | refine blk_alloc ?_ _)); exact BK179.out) hb); replace HB := Aside0.mk (below_step (bl4 HB.out GE172.out GE173.out GE178.out GE179.out) hb); (try clear hb)))
  go_ret
  exact ⟨by first | rfl | (simp [errW_none, errW_some] <;> rfl) | (simp [*, errW_none, errW_some] <;> rfl), bl4 HB.out GE172.out GE173.out GE178.out GE179.out⟩
 rw [if_neg c6] at H
 have c6b0 := decide_eq_false c6
 clear c6
 replace H := Option.bind_eq_some_iff.mp H
 obtain ⟨t181, A270, H⟩ := H
 replace H : ((wide_Mul.f (IntKind.u64.wrap (mx t181 (wrap64 (-t181)))) (IntKind.u64.wrap (mx t181 (wrap64 (-t181))))).bind fun bt182 => ((wide_Scale.f bt182.1 bt182.2 50).bind fun bt184 => ((corner_times.f t174 t175 t174 t175).bind fun t188 => ((corner_times.f t176 t177 t176 t177).bind fun t189 => ((wide_Mul.f (IntKind.u64.wrap (t188)) (IntKind.u64.wrap (t189))).bind fun bt190 => ((wide_Cmp.f k bt184.1 bt184.2.1 bt190.1 bt190.2).bind fun t192 => (some (decide (t192 > 0))))))))) = some r := H
 have A27 := Aside0.mk A270
 clear A270
 obtain ⟨ji28, hji28⟩ : ∃ j_ : Int, (mx t181 (wrap64 (-t181))) = j_ := ⟨_, rfl⟩
 replace H : ((wide_Mul.f (IntKind.u64.wrap (ji28)) (IntKind.u64.wrap (ji28))).bind fun bt182 => ((wide_Scale.f bt182.1 bt182.2 50).bind fun bt184 => ((corner_times.f t174 t175 t174 t175).bind fun t188 => ((corner_times.f t176 t177 t176 t177).bind fun t189 => ((wide_Mul.f (IntKind.u64.wrap (t188)) (IntKind.u64.wrap (t189))).bind fun bt190 => ((wide_Cmp.f k bt184.1 bt184.2.1 bt190.1 bt190.2).bind fun t192 => (some (decide (t192 > 0))))))))) = some r := by first | (rw [hji28] at H; exact H) | (simp only [hji28] at H ⊢; exact H)
 (try rw [hji28] at A3)
 (try rw [hji28] at A4)
 (try rw [hji28] at A5)
 (try rw [hji28] at A27)
 have hji28_ : (if t181 < (wrap64 (-t181)) then (wrap64 (-t181)) else t181) = ji28 := hji28
 replace H := Option.bind_eq_some_iff.mp H
 obtain ⟨⟨t182, t183⟩, A290, H⟩ := H
 replace H : ((wide_Scale.f t182 t183 50).bind fun bt184 => ((corner_times.f t174 t175 t174 t175).bind fun t188 => ((corner_times.f t176 t177 t176 t177).bind fun t189 => ((wide_Mul.f (IntKind.u64.wrap (t188)) (IntKind.u64.wrap (t189))).bind fun bt190 => ((wide_Cmp.f k bt184.1 bt184.2.1 bt190.1 bt190.2).bind fun t192 => (some (decide (t192 > 0)))))))) = some r := H
 have A29 := Aside0.mk A290
 clear A290
 replace H := Option.bind_eq_some_iff.mp H
 obtain ⟨⟨t184, t185, t186⟩, A300, H⟩ := H
 replace H : ((corner_times.f t174 t175 t174 t175).bind fun t188 => ((corner_times.f t176 t177 t176 t177).bind fun t189 => ((wide_Mul.f (IntKind.u64.wrap (t188)) (IntKind.u64.wrap (t189))).bind fun bt190 => ((wide_Cmp.f k t184 t185 bt190.1 bt190.2).bind fun t192 => (some (decide (t192 > 0))))))) = some r := H
 have A30 := Aside0.mk A300
 clear A300
 replace H := Option.bind_eq_some_iff.mp H
 obtain ⟨t188, A310, H⟩ := H
 replace H : ((corner_times.f t176 t177 t176 t177).bind fun t189 => ((wide_Mul.f (IntKind.u64.wrap (t188)) (IntKind.u64.wrap (t189))).bind fun bt190 => ((wide_Cmp.f k t184 t185 bt190.1 bt190.2).bind fun t192 => (some (decide (t192 > 0)))))) = some r := H
 have A31 := Aside0.mk A310
 clear A310
 replace H := Option.bind_eq_some_iff.mp H
 obtain ⟨t189, A320, H⟩ := H
 replace H : ((wide_Mul.f (IntKind.u64.wrap (t188)) (IntKind.u64.wrap (t189))).bind fun bt190 => ((wide_Cmp.f k t184 t185 bt190.1 bt190.2).bind fun t192 => (some (decide (t192 > 0))))) = some r := H
 have A32 := Aside0.mk A320
 clear A320
 replace H := Option.bind_eq_some_iff.mp H
 obtain ⟨⟨t190, t191⟩, A330, H⟩ := H
 replace H : ((wide_Cmp.f k t184 t185 t190 t191).bind fun t192 => (some (decide (t192 > 0)))) = some r := H
 have A33 := Aside0.mk A330
 clear A330
 replace H := Option.bind_eq_some_iff.mp H
 obtain ⟨t192, A340, H⟩ := H
 replace H : (some (decide (t192 > 0))) = some r := H
 have A34 := Aside0.mk A340
 clear A340
 obtain rfl := Option.some.inj H
 go_enter Try.func53, Try.ntmps53
 try go_wp2_with (first | ((with_reducible refine gate_dst (N := 2) rfl ?_); refine be 2 (#[.int .i64 a0_0, .bool a0_1, .int .i64 a0_2, .int .i64 a0_3, .int .i64 a0_4, .int .i64 a0_5, .int .i64 a0_6, .int .i64 a0_7]) 38 ?_; intro gb172 hg w35 hbox hb; have BK172 := Aside0.mk (hbox); have GW172 := Aside0.mk (gz (w := w) hg (bl0 HB.out)); have GE172 := GW172; replace HB := Aside0.mk (below_step (bl0 HB.out) hb); clear hb hbox hg) | ((with_reducible refine gate_dst (N := 3) rfl ?_); refine be 3 (#[.int .i64 a1_0, .bool a1_1, .int .i64 a1_2, .int .i64 a1_3, .int .i64 a1_4, .int .i64 a1_5, .int .i64 a1_6, .int .i64 a1_7]) 38 ?_; intro gb173 hg w36 hbox hb; have BK173 := Aside0.mk (hbox); have GW173 := Aside0.mk (gz (w := w) hg (bl1 HB.out GE172.out)); have GE173 := GW173; have NB172_173 := Aside0.mk (nl hg BK172.out); have NB173_172 := Aside0.mk (nr hg BK172.out); replace BK172 := Aside0.mk (bb BK172.out hb); replace HB := Aside0.mk (below_step (bl1 HB.out GE172.out) hb); clear hb hbox hg))
 replace BK172 := Aside0.mk (blk_drew BK172.out)
 replace BK173 := Aside0.mk (blk_drew BK173.out)
 replace HB := Aside0.mk (below_drew1 HB.out)
 obtain ⟨SS, eS⟩ : ∃ SS : World → Prop, Aside0 (SS = fun w' => w'.cell? ⟨gb172, 0, none⟩ = some (.int .i64 a0_0) ∧ w'.cell? ⟨gb172, 1, none⟩ = some (.bool a0_1) ∧ w'.cell? ⟨gb172, 2, none⟩ = some (.int .i64 a0_2) ∧ w'.cell? ⟨gb172, 3, none⟩ = some (.int .i64 a0_3) ∧ w'.cell? ⟨gb172, 4, none⟩ = some (.int .i64 a0_4) ∧ w'.cell? ⟨gb172, 5, none⟩ = some (.int .i64 a0_5) ∧ w'.cell? ⟨gb172, 6, none⟩ = some (.int .i64 a0_6) ∧ w'.cell? ⟨gb172, 7, none⟩ = some (.int .i64 a0_7) ∧ w'.cell? ⟨gb173, 0, none⟩ = some (.int .i64 a1_0) ∧ w'.cell? ⟨gb173, 1, none⟩ = some (.bool a1_1) ∧ w'.cell? ⟨gb173, 2, none⟩ = some (.int .i64 a1_2) ∧ w'.cell? ⟨gb173, 3, none⟩ = some (.int .i64 a1_3) ∧ w'.cell? ⟨gb173, 4, none⟩ = some (.int .i64 a1_4) ∧ w'.cell? ⟨gb173, 5, none⟩ = some (.int .i64 a1_5) ∧ w'.cell? ⟨gb173, 6, none⟩ = some (.int .i64 a1_6) ∧ w'.cell? ⟨gb173, 7, none⟩ = some (.int .i64 a1_7)) := ⟨_, ⟨rfl⟩⟩
 have mS : ∀ w' : World, w'.heap[gb172]? = some (.cells #[.int .i64 a0_0, .bool a0_1, .int .i64 a0_2, .int .i64 a0_3, .int .i64 a0_4, .int .i64 a0_5, .int .i64 a0_6, .int .i64 a0_7] 38 (0, 0)) → w'.heap[gb173]? = some (.cells #[.int .i64 a1_0, .bool a1_1, .int .i64 a1_2, .int .i64 a1_3, .int .i64 a1_4, .int .i64 a1_5, .int .i64 a1_6, .int .i64 a1_7] 38 (0, 0)) → SS w' := by intro w' b0 b1; rw [eS.out]; exact ⟨(blk_cell b0 0).trans rfl, (blk_cell b0 1).trans rfl, (blk_cell b0 2).trans rfl, (blk_cell b0 3).trans rfl, (blk_cell b0 4).trans rfl, (blk_cell b0 5).trans rfl, (blk_cell b0 6).trans rfl, (blk_cell b0 7).trans rfl, (blk_cell b1 0).trans rfl, (blk_cell b1 1).trans rfl, (blk_cell b1 2).trans rfl, (blk_cell b1 3).trans rfl, (blk_cell b1 4).trans rfl, (blk_cell b1 5).trans rfl, (blk_cell b1 6).trans rfl, (blk_cell b1 7).trans rfl⟩
 refine start_ (n := 8) (S := SS) (ds := []) (ba 8 0) (by kernel_rfl) rfl rfl (mS _ BK172.out BK173.out) (fun hHeld => ?_); refine with_tabW corner_is.tab1 corner_is.bits1 (fun HT_ HW_ => ?_)
 generalize w36.drew = w37 at BK172 BK173 HB hHeld ⊢
 refine take_ (i := 0) (N := some 11) (v := ?_) (a' := ?_) (ba 8 1) rfl rfl (take_ofW HT_.out HW_.out (by kernel_rfl)) (fun _ _ _ h => h) (Or.inl ⟨by rfl, ?_⟩) hHeld ?_ ?_
 rotate_left
 ·rintro w' hs; rw [eS.out] at hs; obtain ⟨s0, s1, s2, s3, s4, s5, s6, s7, s8, s9, s10, s11, s12, s13, s14, s15⟩ := hs
  go_simp
  with_reducible rfl
 rotate_left
 ·exact pa
 refine take_ (i := 2) (N := some 13) (v := ?_) (a' := ?_) (ba 8 5) rfl rfl (take_ofW HT_.out HW_.out (by kernel_rfl)) (fun _ _ _ h => h) (Or.inl ⟨by rfl, ?_⟩) hHeld ?_ ?_
 rotate_left
 ·rintro w' hs; rw [eS.out] at hs; obtain ⟨s0, s1, s2, s3, s4, s5, s6, s7, s8, s9, s10, s11, s12, s13, s14, s15⟩ := hs
  go_simp
  with_reducible rfl
 rotate_left
 ·exact pa
 refine join_ (σ := Nat × Nat) 2 (ba 8 63) (fun s_ => [(12, .agg #[.int .i64 t174, .int .i64 t175]), (14, .agg #[.int .i64 t176, .int .i64 t177]), (5, .pointer (some ⟨s_.1, 0, none⟩)), (6, .pointer (some ⟨s_.2, 0, none⟩))]) (fun s_ w' => (SS w') ∧ (w'.heap[gb172]? = some (.cells #[.int .i64 a0_0, .bool a0_1, .int .i64 a0_2, .int .i64 a0_3, .int .i64 a0_4, .int .i64 a0_5, .int .i64 a0_6, .int .i64 a0_7] 38 (0, 0))) ∧ (w'.heap[gb173]? = some (.cells #[.int .i64 a1_0, .bool a1_1, .int .i64 a1_2, .int .i64 a1_3, .int .i64 a1_4, .int .i64 a1_5, .int .i64 a1_6, .int .i64 a1_7] 38 (0, 0))) ∧ (w'.heap[s_.1]? = some (.cells #[.int .i64 0, .int .i64 0] 36 (0, 0))) ∧ (w'.heap[s_.2]? = some (.cells #[.int .i64 0, .int .i64 0] 36 (0, 0))) ∧ (w.heap.size ≤ s_.1) ∧ (w.heap.size ≤ s_.1) ∧ (gb172 ≠ s_.1) ∧ (s_.1 ≠ gb172) ∧ (gb173 ≠ s_.1) ∧ (s_.1 ≠ gb173) ∧ (s_.2 ≠ s_.1) ∧ (s_.1 ≠ s_.2) ∧ (w.heap.size ≤ s_.2) ∧ (w.heap.size ≤ s_.2) ∧ (gb172 ≠ s_.2) ∧ (s_.2 ≠ gb172) ∧ (gb173 ≠ s_.2) ∧ (s_.2 ≠ gb173) ∧ (Below w.heap.size w w')) ?_ ?_
 rotate_left
 ·intro hJ1_3_4_5
  refine join_ (σ := Nat) 3 (ba 8 31) (fun s_ => [(12, .agg #[.int .i64 t174, .int .i64 t175]), (14, .agg #[.int .i64 t176, .int .i64 t177]), (5, .pointer (some ⟨s_, 0, none⟩))]) (fun s_ w' => (SS w') ∧ (w'.heap[gb172]? = some (.cells #[.int .i64 a0_0, .bool a0_1, .int .i64 a0_2, .int .i64 a0_3, .int .i64 a0_4, .int .i64 a0_5, .int .i64 a0_6, .int .i64 a0_7] 38 (0, 0))) ∧ (w'.heap[gb173]? = some (.cells #[.int .i64 a1_0, .bool a1_1, .int .i64 a1_2, .int .i64 a1_3, .int .i64 a1_4, .int .i64 a1_5, .int .i64 a1_6, .int .i64 a1_7] 38 (0, 0))) ∧ (w'.heap[s_]? = some (.cells #[.int .i64 0, .int .i64 0] 36 (0, 0))) ∧ (w.heap.size ≤ s_) ∧ (w.heap.size ≤ s_) ∧ (gb172 ≠ s_) ∧ (s_ ≠ gb172) ∧ (gb173 ≠ s_) ∧ (s_ ≠ gb173) ∧ (Below w.heap.size w w')) ?_ ?_
  rotate_left
  ·intro hJ1_3_4
   refine join_ (σ := Nat) 3 (ba 8 47) (fun s_ => [(12, .agg #[.int .i64 t174, .int .i64 t175]), (14, .agg #[.int .i64 t176, .int .i64 t177]), (6, .pointer (some ⟨s_, 0, none⟩))]) (fun s_ w' => (SS w') ∧ (w'.heap[gb172]? = some (.cells #[.int .i64 a0_0, .bool a0_1, .int .i64 a0_2, .int .i64 a0_3, .int .i64 a0_4, .int .i64 a0_5, .int .i64 a0_6, .int .i64 a0_7] 38 (0, 0))) ∧ (w'.heap[gb173]? = some (.cells #[.int .i64 a1_0, .bool a1_1, .int .i64 a1_2, .int .i64 a1_3, .int .i64 a1_4, .int .i64 a1_5, .int .i64 a1_6, .int .i64 a1_7] 38 (0, 0))) ∧ (w'.heap[s_]? = some (.cells #[.int .i64 0, .int .i64 0] 36 (0, 0))) ∧ (w.heap.size ≤ s_) ∧ (w.heap.size ≤ s_) ∧ (gb172 ≠ s_) ∧ (s_ ≠ gb172) ∧ (gb173 ≠ s_) ∧ (s_ ≠ gb173) ∧ (Below w.heap.size w w')) ?_ ?_
   rotate_left
   ·intro hJ1_3_5
    refine join_ (σ := Nat × Nat) 3 (ba 8 55) (fun s_ => [(12, .agg #[.int .i64 t174, .int .i64 t175]), (5, .pointer (some ⟨s_.1, 0, none⟩)), (6, .pointer (some ⟨s_.2, 0, none⟩))]) (fun s_ w' => (SS w') ∧ (w'.heap[gb172]? = some (.cells #[.int .i64 a0_0, .bool a0_1, .int .i64 a0_2, .int .i64 a0_3, .int .i64 a0_4, .int .i64 a0_5, .int .i64 a0_6, .int .i64 a0_7] 38 (0, 0))) ∧ (w'.heap[gb173]? = some (.cells #[.int .i64 a1_0, .bool a1_1, .int .i64 a1_2, .int .i64 a1_3, .int .i64 a1_4, .int .i64 a1_5, .int .i64 a1_6, .int .i64 a1_7] 38 (0, 0))) ∧ (w'.heap[s_.1]? = some (.cells #[.int .i64 0, .int .i64 0] 36 (0, 0))) ∧ (w'.heap[s_.2]? = some (.cells #[.int .i64 0, .int .i64 0] 36 (0, 0))) ∧ (w.heap.size ≤ s_.1) ∧ (w.heap.size ≤ s_.1) ∧ (gb172 ≠ s_.1) ∧ (s_.1 ≠ gb172) ∧ (gb173 ≠ s_.1) ∧ (s_.1 ≠ gb173) ∧ (s_.2 ≠ s_.1) ∧ (s_.1 ≠ s_.2) ∧ (w.heap.size ≤ s_.2) ∧ (w.heap.size ≤ s_.2) ∧ (gb172 ≠ s_.2) ∧ (s_.2 ≠ gb172) ∧ (gb173 ≠ s_.2) ∧ (s_.2 ≠ gb173) ∧ (Below w.heap.size w w')) ?_ ?_
    rotate_left
    ·intro hJ1_4_5
     refine join_ (σ := Unit) 4 (ba 8 15) (fun s_ => [(12, .agg #[.int .i64 t174, .int .i64 t175]), (14, .agg #[.int .i64 t176, .int .i64 t177])]) (fun s_ w' => (SS w') ∧ (w'.heap[gb172]? = some (.cells #[.int .i64 a0_0, .bool a0_1, .int .i64 a0_2, .int .i64 a0_3, .int .i64 a0_4, .int .i64 a0_5, .int .i64 a0_6, .int .i64 a0_7] 38 (0, 0))) ∧ (w'.heap[gb173]? = some (.cells #[.int .i64 a1_0, .bool a1_1, .int .i64 a1_2, .int .i64 a1_3, .int .i64 a1_4, .int .i64 a1_5, .int .i64 a1_6, .int .i64 a1_7] 38 (0, 0))) ∧ (Below w.heap.size w w')) ?_ ?_
     rotate_left
     ·intro hJ1_3
      refine join_ (σ := Nat) 4 (ba 8 23) (fun s_ => [(12, .agg #[.int .i64 t174, .int .i64 t175]), (5, .pointer (some ⟨s_, 0, none⟩))]) (fun s_ w' => (SS w') ∧ (w'.heap[gb172]? = some (.cells #[.int .i64 a0_0, .bool a0_1, .int .i64 a0_2, .int .i64 a0_3, .int .i64 a0_4, .int .i64 a0_5, .int .i64 a0_6, .int .i64 a0_7] 38 (0, 0))) ∧ (w'.heap[gb173]? = some (.cells #[.int .i64 a1_0, .bool a1_1, .int .i64 a1_2, .int .i64 a1_3, .int .i64 a1_4, .int .i64 a1_5, .int .i64 a1_6, .int .i64 a1_7] 38 (0, 0))) ∧ (w'.heap[s_]? = some (.cells #[.int .i64 0, .int .i64 0] 36 (0, 0))) ∧ (w.heap.size ≤ s_) ∧ (w.heap.size ≤ s_) ∧ (gb172 ≠ s_) ∧ (s_ ≠ gb172) ∧ (gb173 ≠ s_) ∧ (s_ ≠ gb173) ∧ (Below w.heap.size w w')) ?_ ?_
      rotate_left
      ·intro hJ1_4
       refine join_ (σ := Nat) 4 (ba 8 39) (fun s_ => [(12, .agg #[.int .i64 t174, .int .i64 t175]), (6, .pointer (some ⟨s_, 0, none⟩))]) (fun s_ w' => (SS w') ∧ (w'.heap[gb172]? = some (.cells #[.int .i64 a0_0, .bool a0_1, .int .i64 a0_2, .int .i64 a0_3, .int .i64 a0_4, .int .i64 a0_5, .int .i64 a0_6, .int .i64 a0_7] 38 (0, 0))) ∧ (w'.heap[gb173]? = some (.cells #[.int .i64 a1_0, .bool a1_1, .int .i64 a1_2, .int .i64 a1_3, .int .i64 a1_4, .int .i64 a1_5, .int .i64 a1_6, .int .i64 a1_7] 38 (0, 0))) ∧ (w'.heap[s_]? = some (.cells #[.int .i64 0, .int .i64 0] 36 (0, 0))) ∧ (w.heap.size ≤ s_) ∧ (w.heap.size ≤ s_) ∧ (gb172 ≠ s_) ∧ (s_ ≠ gb172) ∧ (gb173 ≠ s_) ∧ (s_ ≠ gb173) ∧ (Below w.heap.size w w')) ?_ ?_
       rotate_left
       ·intro hJ1_5
        refine join_ (σ := Nat × Nat) 4 (ba 8 53) (fun s_ => [(5, .pointer (some ⟨s_.1, 0, none⟩)), (6, .pointer (some ⟨s_.2, 0, none⟩))]) (fun s_ w' => (SS w') ∧ (w'.heap[gb172]? = some (.cells #[.int .i64 a0_0, .bool a0_1, .int .i64 a0_2, .int .i64 a0_3, .int .i64 a0_4, .int .i64 a0_5, .int .i64 a0_6, .int .i64 a0_7] 38 (0, 0))) ∧ (w'.heap[gb173]? = some (.cells #[.int .i64 a1_0, .bool a1_1, .int .i64 a1_2, .int .i64 a1_3, .int .i64 a1_4, .int .i64 a1_5, .int .i64 a1_6, .int .i64 a1_7] 38 (0, 0))) ∧ (w'.heap[s_.1]? = some (.cells #[.int .i64 0, .int .i64 0] 36 (0, 0))) ∧ (w'.heap[s_.2]? = some (.cells #[.int .i64 0, .int .i64 0] 36 (0, 0))) ∧ (w.heap.size ≤ s_.1) ∧ (w.heap.size ≤ s_.1) ∧ (gb172 ≠ s_.1) ∧ (s_.1 ≠ gb172) ∧ (gb173 ≠ s_.1) ∧ (s_.1 ≠ gb173) ∧ (s_.2 ≠ s_.1) ∧ (s_.1 ≠ s_.2) ∧ (w.heap.size ≤ s_.2) ∧ (w.heap.size ≤ s_.2) ∧ (gb172 ≠ s_.2) ∧ (s_.2 ≠ gb172) ∧ (gb173 ≠ s_.2) ∧ (s_.2 ≠ gb173) ∧ (Below w.heap.size w w')) ?_ ?_
        rotate_left
        ·intro hJ4_5
         refine join_ (σ := Unit) 5 (ba 8 7) (fun s_ => [(12, .agg #[.int .i64 t174, .int .i64 t175])]) (fun s_ w' => (SS w') ∧ (w'.heap[gb172]? = some (.cells #[.int .i64 a0_0, .bool a0_1, .int .i64 a0_2, .int .i64 a0_3, .int .i64 a0_4, .int .i64 a0_5, .int .i64 a0_6, .int .i64 a0_7] 38 (0, 0))) ∧ (w'.heap[gb173]? = some (.cells #[.int .i64 a1_0, .bool a1_1, .int .i64 a1_2, .int .i64 a1_3, .int .i64 a1_4, .int .i64 a1_5, .int .i64 a1_6, .int .i64 a1_7] 38 (0, 0))) ∧ (Below w.heap.size w w')) ?_ ?_
         rotate_left
         ·intro hJ1
          refine join_ (σ := Nat) 5 (ba 8 21) (fun s_ => [(5, .pointer (some ⟨s_, 0, none⟩))]) (fun s_ w' => (SS w') ∧ (w'.heap[gb172]? = some (.cells #[.int .i64 a0_0, .bool a0_1, .int .i64 a0_2, .int .i64 a0_3, .int .i64 a0_4, .int .i64 a0_5, .int .i64 a0_6, .int .i64 a0_7] 38 (0, 0))) ∧ (w'.heap[gb173]? = some (.cells #[.int .i64 a1_0, .bool a1_1, .int .i64 a1_2, .int .i64 a1_3, .int .i64 a1_4, .int .i64 a1_5, .int .i64 a1_6, .int .i64 a1_7] 38 (0, 0))) ∧ (w'.heap[s_]? = some (.cells #[.int .i64 0, .int .i64 0] 36 (0, 0))) ∧ (w.heap.size ≤ s_) ∧ (w.heap.size ≤ s_) ∧ (gb172 ≠ s_) ∧ (s_ ≠ gb172) ∧ (gb173 ≠ s_) ∧ (s_ ≠ gb173) ∧ (Below w.heap.size w w')) ?_ ?_
          rotate_left
          ·intro hJ4
           refine join_ (σ := Nat) 5 (ba 8 37) (fun s_ => [(6, .pointer (some ⟨s_, 0, none⟩))]) (fun s_ w' => (SS w') ∧ (w'.heap[gb172]? = some (.cells #[.int .i64 a0_0, .bool a0_1, .int .i64 a0_2, .int .i64 a0_3, .int .i64 a0_4, .int .i64 a0_5, .int .i64 a0_6, .int .i64 a0_7] 38 (0, 0))) ∧ (w'.heap[gb173]? = some (.cells #[.int .i64 a1_0, .bool a1_1, .int .i64 a1_2, .int .i64 a1_3, .int .i64 a1_4, .int .i64 a1_5, .int .i64 a1_6, .int .i64 a1_7] 38 (0, 0))) ∧ (w'.heap[s_]? = some (.cells #[.int .i64 0, .int .i64 0] 36 (0, 0))) ∧ (w.heap.size ≤ s_) ∧ (w.heap.size ≤ s_) ∧ (gb172 ≠ s_) ∧ (s_ ≠ gb172) ∧ (gb173 ≠ s_) ∧ (s_ ≠ gb173) ∧ (Below w.heap.size w w')) ?_ ?_
           rotate_left
           ·intro hJ5
            refine three_ (i := 1) (j := 4) (k := 5) (Ni := some 12) (Nj := some 5) (Nk := some 6) (ba 8 7) (ba 8 21) (ba 8 37) rfl rfl rfl rfl rfl rfl (three_of HT_.out (by kernel_rfl)) (by decide) (by decide) (by decide) (fun K hK => ?_) (fun K hK => ?_) (fun K hK => ?_)
            ·skip
             refine goes_ Try.func67 (by kernel_rfl) rfl #[.agg #[.int .i64 a0_0, .bool a0_1, .int .i64 a0_2, .int .i64 a0_3, .int .i64 a0_4, .int .i64 a0_5, .int .i64 a0_6, .int .i64 a0_7]] (by rfl) rfl rfl am ?_
             with_reducible refine (corner_last.calls k a0_0 a0_1 a0_2 a0_3 a0_4 a0_5 a0_6 a0_7 t174 t175 _ A3.out).mono ?_
             rintro e w38 ⟨rfl, hb⟩
             refine ⟨_, rfl, ?_⟩
             replace BK172 := Aside0.mk (bb BK172.out hb)
             replace BK173 := Aside0.mk (bb BK173.out hb)
             replace HB := Aside0.mk (below_step (bl2 HB.out GE172.out GE173.out) hb)
             (try clear hb)
             (try clear hb2)
             (try clear hk)
             (try clear hi)
             refine hK.out _ _ (mS _ BK172.out BK173.out) (fun hHeld => ?_)
             clear hK K
             refine np 12 ?_
             exact nj (hJ1 () _ ⟨hHeld, (bk BK172.out), (bk BK173.out), (bl2 HB.out GE172.out GE173.out)⟩)
            ·skip
             refine bs 5 (#[.int .i64 0, .int .i64 0]) 36 ?_
             intro gb178 hg w38 hbox hb
             have BK178 := Aside0.mk (hbox)
             have GW178 := Aside0.mk (gz (w := w) hg (bl2 HB.out GE172.out GE173.out))
             have GE178 := GW178
             have NB172_178 := Aside0.mk (nl hg BK172.out)
             have NB178_172 := Aside0.mk (nr hg BK172.out)
             have NB173_178 := Aside0.mk (nl hg BK173.out)
             have NB178_173 := Aside0.mk (nr hg BK173.out)
             replace BK172 := Aside0.mk (bb BK172.out hb)
             replace BK173 := Aside0.mk (bb BK173.out hb)
             replace HB := Aside0.mk (below_step (bl2 HB.out GE172.out GE173.out) hb)
             clear hb hbox hg
             refine hK.out _ _ (mS _ BK172.out BK173.out) (fun hHeld => ?_)
             clear hK K
             refine np 5 ?_
             exact nj (hJ4 (gb178) _ ⟨hHeld, (bk BK172.out), (bk BK173.out), (bk BK178.out), GW178.out, GE178.out, NB172_178.out, NB178_172.out, NB173_178.out, NB178_173.out, (bl3 HB.out GE172.out GE173.out GE178.out)⟩)
            ·skip
             refine bs 6 (#[.int .i64 0, .int .i64 0]) 36 ?_
             intro gb179 hg w38 hbox hb
             have BK179 := Aside0.mk (hbox)
             have GW179 := Aside0.mk (gz (w := w) hg (bl2 HB.out GE172.out GE173.out))
             have GE179 := GW179
             have NB172_179 := Aside0.mk (nl hg BK172.out)
             have NB179_172 := Aside0.mk (nr hg BK172.out)
             have NB173_179 := Aside0.mk (nl hg BK173.out)
             have NB179_173 := Aside0.mk (nr hg BK173.out)
             replace BK172 := Aside0.mk (bb BK172.out hb)
             replace BK173 := Aside0.mk (bb BK173.out hb)
             replace HB := Aside0.mk (below_step (bl2 HB.out GE172.out GE173.out) hb)
             clear hb hbox hg
             refine hK.out _ _ (mS _ BK172.out BK173.out) (fun hHeld => ?_)
             clear hK K
             refine np 6 ?_
             exact nj (hJ5 (gb179) _ ⟨hHeld, (bk BK172.out), (bk BK173.out), (bk BK179.out), GW179.out, GE179.out, NB172_179.out, NB179_172.out, NB173_179.out, NB179_173.out, (bl3 HB.out GE172.out GE173.out GE179.out)⟩)
           ·skip
            rintro gb179 w39 ⟨hS_, h0_, h1_, h2_, h3_, h4_, h5_, h6_, h7_, h8_, h9_⟩
            have BK179 : Aside0 (w39.heap[gb179]? = some (.cells #[.int .i64 0, .int .i64 0] 36 (0, 0))) := ⟨h2_⟩
            have GW179 : Aside0 (w.heap.size ≤ gb179) := ⟨h3_⟩
            have GE179 : Aside0 (w.heap.size ≤ gb179) := ⟨h4_⟩
            have NB172_179 : Aside0 (gb172 ≠ gb179) := ⟨h5_⟩
            have NB179_172 : Aside0 (gb179 ≠ gb172) := ⟨h6_⟩
            have NB173_179 : Aside0 (gb173 ≠ gb179) := ⟨h7_⟩
            have NB179_173 : Aside0 (gb179 ≠ gb173) := ⟨h8_⟩
            replace BK172 : Aside0 (w39.heap[gb172]? = some (.cells #[.int .i64 a0_0, .bool a0_1, .int .i64 a0_2, .int .i64 a0_3, .int .i64 a0_4, .int .i64 a0_5, .int .i64 a0_6, .int .i64 a0_7] 38 (0, 0))) := ⟨h0_⟩
            replace BK173 : Aside0 (w39.heap[gb173]? = some (.cells #[.int .i64 a1_0, .bool a1_1, .int .i64 a1_2, .int .i64 a1_3, .int .i64 a1_4, .int .i64 a1_5, .int .i64 a1_6, .int .i64 a1_7] 38 (0, 0))) := ⟨h1_⟩
            replace HB : Aside0 (Below w.heap.size w w39) := ⟨h9_⟩
            clear h0_ h1_ h2_ h3_ h4_ h5_ h6_ h7_ h8_ h9_
            have hHeld := hS_
            refine na ?_
            refine two_ (i := 1) (j := 4) (Ni := some 12) (Nj := some 5) (ba 8 39) (ba 8 53) rfl rfl rfl rfl (two_of HT_.out (by kernel_rfl)) (by decide) (by decide) (fun K hK => ?_) (fun K hK => ?_)
            ·skip
             refine goes_ Try.func67 (by kernel_rfl) rfl #[.agg #[.int .i64 a0_0, .bool a0_1, .int .i64 a0_2, .int .i64 a0_3, .int .i64 a0_4, .int .i64 a0_5, .int .i64 a0_6, .int .i64 a0_7]] (by rfl) rfl rfl am ?_
             with_reducible refine (corner_last.calls k a0_0 a0_1 a0_2 a0_3 a0_4 a0_5 a0_6 a0_7 t174 t175 _ A3.out).mono ?_
             rintro e w40 ⟨rfl, hb⟩
             refine ⟨_, rfl, ?_⟩
             replace BK172 := Aside0.mk (bb BK172.out hb)
             replace BK173 := Aside0.mk (bb BK173.out hb)
             replace BK179 := Aside0.mk (bb BK179.out hb)
             replace HB := Aside0.mk (below_step (bl3 HB.out GE172.out GE173.out GE179.out) hb)
             (try clear hb)
             (try clear hb2)
             (try clear hk)
             (try clear hi)
             refine hK.out _ _ (mS _ BK172.out BK173.out) (fun hHeld => ?_)
             clear hK K
             refine np 12 ?_
             exact nj (hJ1_5 (gb179) _ ⟨hHeld, (bk BK172.out), (bk BK173.out), (bk BK179.out), GW179.out, GE179.out, NB172_179.out, NB179_172.out, NB173_179.out, NB179_173.out, (bl3 HB.out GE172.out GE173.out GE179.out)⟩)
            ·skip
             refine bs 5 (#[.int .i64 0, .int .i64 0]) 36 ?_
             intro gb178 hg w40 hbox hb
             have BK178 := Aside0.mk (hbox)
             have GW178 := Aside0.mk (gz (w := w) hg (bl3 HB.out GE172.out GE173.out GE179.out))
             have GE178 := GW178
             have NB172_178 := Aside0.mk (nl hg BK172.out)
             have NB178_172 := Aside0.mk (nr hg BK172.out)
             have NB173_178 := Aside0.mk (nl hg BK173.out)
             have NB178_173 := Aside0.mk (nr hg BK173.out)
             have NB179_178 := Aside0.mk (nl hg BK179.out)
             have NB178_179 := Aside0.mk (nr hg BK179.out)
             replace BK172 := Aside0.mk (bb BK172.out hb)
             replace BK173 := Aside0.mk (bb BK173.out hb)
             replace BK179 := Aside0.mk (bb BK179.out hb)
             replace HB := Aside0.mk (below_step (bl3 HB.out GE172.out GE173.out GE179.out) hb)
             clear hb hbox hg
             refine hK.out _ _ (mS _ BK172.out BK173.out) (fun hHeld => ?_)
             clear hK K
             refine np 5 ?_
             exact nj (hJ4_5 (gb178, gb179) _ ⟨hHeld, (bk BK172.out), (bk BK173.out), (bk BK178.out), (bk BK179.out), GW178.out, GE178.out, NB172_178.out, NB178_172.out, NB173_178.out, NB178_173.out, NB179_178.out, NB178_179.out, GW179.out, GE179.out, NB172_179.out, NB179_172.out, NB173_179.out, NB179_173.out, (bl4 HB.out GE172.out GE173.out GE179.out GE178.out)⟩)
          ·skip
           rintro gb178 w39 ⟨hS_, h0_, h1_, h2_, h3_, h4_, h5_, h6_, h7_, h8_, h9_⟩
           have BK178 : Aside0 (w39.heap[gb178]? = some (.cells #[.int .i64 0, .int .i64 0] 36 (0, 0))) := ⟨h2_⟩
           have GW178 : Aside0 (w.heap.size ≤ gb178) := ⟨h3_⟩
           have GE178 : Aside0 (w.heap.size ≤ gb178) := ⟨h4_⟩
           have NB172_178 : Aside0 (gb172 ≠ gb178) := ⟨h5_⟩
           have NB178_172 : Aside0 (gb178 ≠ gb172) := ⟨h6_⟩
           have NB173_178 : Aside0 (gb173 ≠ gb178) := ⟨h7_⟩
           have NB178_173 : Aside0 (gb178 ≠ gb173) := ⟨h8_⟩
           replace BK172 : Aside0 (w39.heap[gb172]? = some (.cells #[.int .i64 a0_0, .bool a0_1, .int .i64 a0_2, .int .i64 a0_3, .int .i64 a0_4, .int .i64 a0_5, .int .i64 a0_6, .int .i64 a0_7] 38 (0, 0))) := ⟨h0_⟩
           replace BK173 : Aside0 (w39.heap[gb173]? = some (.cells #[.int .i64 a1_0, .bool a1_1, .int .i64 a1_2, .int .i64 a1_3, .int .i64 a1_4, .int .i64 a1_5, .int .i64 a1_6, .int .i64 a1_7] 38 (0, 0))) := ⟨h1_⟩
           replace HB : Aside0 (Below w.heap.size w w39) := ⟨h9_⟩
           clear h0_ h1_ h2_ h3_ h4_ h5_ h6_ h7_ h8_ h9_
           have hHeld := hS_
           refine na ?_
           refine two_ (i := 1) (j := 5) (Ni := some 12) (Nj := some 6) (ba 8 23) (ba 8 53) rfl rfl rfl rfl (two_of HT_.out (by kernel_rfl)) (by decide) (by decide) (fun K hK => ?_) (fun K hK => ?_)
           ·skip
            refine goes_ Try.func67 (by kernel_rfl) rfl #[.agg #[.int .i64 a0_0, .bool a0_1, .int .i64 a0_2, .int .i64 a0_3, .int .i64 a0_4, .int .i64 a0_5, .int .i64 a0_6, .int .i64 a0_7]] (by rfl) rfl rfl am ?_
            with_reducible refine (corner_last.calls k a0_0 a0_1 a0_2 a0_3 a0_4 a0_5 a0_6 a0_7 t174 t175 _ A3.out).mono ?_
            rintro e w40 ⟨rfl, hb⟩
            refine ⟨_, rfl, ?_⟩
            replace BK172 := Aside0.mk (bb BK172.out hb)
            replace BK173 := Aside0.mk (bb BK173.out hb)
            replace BK178 := Aside0.mk (bb BK178.out hb)
            replace HB := Aside0.mk (below_step (bl3 HB.out GE172.out GE173.out GE178.out) hb)
            (try clear hb)
            (try clear hb2)
            (try clear hk)
            (try clear hi)
            refine hK.out _ _ (mS _ BK172.out BK173.out) (fun hHeld => ?_)
            clear hK K
            refine np 12 ?_
            exact nj (hJ1_4 (gb178) _ ⟨hHeld, (bk BK172.out), (bk BK173.out), (bk BK178.out), GW178.out, GE178.out, NB172_178.out, NB178_172.out, NB173_178.out, NB178_173.out, (bl3 HB.out GE172.out GE173.out GE178.out)⟩)
           ·skip
            refine bs 6 (#[.int .i64 0, .int .i64 0]) 36 ?_
            intro gb179 hg w40 hbox hb
            have BK179 := Aside0.mk (hbox)
            have GW179 := Aside0.mk (gz (w := w) hg (bl3 HB.out GE172.out GE173.out GE178.out))
            have GE179 := GW179
            have NB172_179 := Aside0.mk (nl hg BK172.out)
            have NB179_172 := Aside0.mk (nr hg BK172.out)
            have NB173_179 := Aside0.mk (nl hg BK173.out)
            have NB179_173 := Aside0.mk (nr hg BK173.out)
            have NB178_179 := Aside0.mk (nl hg BK178.out)
            have NB179_178 := Aside0.mk (nr hg BK178.out)
            replace BK172 := Aside0.mk (bb BK172.out hb)
            replace BK173 := Aside0.mk (bb BK173.out hb)
            replace BK178 := Aside0.mk (bb BK178.out hb)
            replace HB := Aside0.mk (below_step (bl3 HB.out GE172.out GE173.out GE178.out) hb)
            clear hb hbox hg
            refine hK.out _ _ (mS _ BK172.out BK173.out) (fun hHeld => ?_)
            clear hK K
            refine np 6 ?_
            exact nj (hJ4_5 (gb178, gb179) _ ⟨hHeld, (bk BK172.out), (bk BK173.out), (bk BK178.out), (bk BK179.out), GW178.out, GE178.out, NB172_178.out, NB178_172.out, NB173_178.out, NB178_173.out, NB179_178.out, NB178_179.out, GW179.out, GE179.out, NB172_179.out, NB179_172.out, NB173_179.out, NB179_173.out, (bl4 HB.out GE172.out GE173.out GE178.out GE179.out)⟩)
         ·skip
          rintro _ w39 ⟨hS_, h0_, h1_, h2_⟩
          replace BK172 : Aside0 (w39.heap[gb172]? = some (.cells #[.int .i64 a0_0, .bool a0_1, .int .i64 a0_2, .int .i64 a0_3, .int .i64 a0_4, .int .i64 a0_5, .int .i64 a0_6, .int .i64 a0_7] 38 (0, 0))) := ⟨h0_⟩
          replace BK173 : Aside0 (w39.heap[gb173]? = some (.cells #[.int .i64 a1_0, .bool a1_1, .int .i64 a1_2, .int .i64 a1_3, .int .i64 a1_4, .int .i64 a1_5, .int .i64 a1_6, .int .i64 a1_7] 38 (0, 0))) := ⟨h1_⟩
          replace HB : Aside0 (Below w.heap.size w w39) := ⟨h2_⟩
          clear h0_ h1_ h2_
          have hHeld := hS_
          refine na ?_
          refine three_ (i := 3) (j := 4) (k := 5) (Ni := some 14) (Nj := some 5) (Nk := some 6) (ba 8 15) (ba 8 23) (ba 8 39) rfl rfl rfl rfl rfl rfl (three_of HT_.out (by kernel_rfl)) (by decide) (by decide) (by decide) (fun K hK => ?_) (fun K hK => ?_) (fun K hK => ?_)
          ·skip
           refine goes_ Try.func66 (by kernel_rfl) rfl #[.agg #[.int .i64 a1_0, .bool a1_1, .int .i64 a1_2, .int .i64 a1_3, .int .i64 a1_4, .int .i64 a1_5, .int .i64 a1_6, .int .i64 a1_7]] (by rfl) rfl rfl am ?_
           with_reducible refine (corner_first.calls k a1_0 a1_1 a1_2 a1_3 a1_4 a1_5 a1_6 a1_7 t176 t177 _ A4.out).mono ?_
           rintro e w40 ⟨rfl, hb⟩
           refine ⟨_, rfl, ?_⟩
           replace BK172 := Aside0.mk (bb BK172.out hb)
           replace BK173 := Aside0.mk (bb BK173.out hb)
           replace HB := Aside0.mk (below_step (bl2 HB.out GE172.out GE173.out) hb)
           (try clear hb)
           (try clear hb2)
           (try clear hk)
           (try clear hi)
           refine hK.out _ _ (mS _ BK172.out BK173.out) (fun hHeld => ?_)
           clear hK K
           refine np 14 ?_
           exact nj (hJ1_3 () _ ⟨hHeld, (bk BK172.out), (bk BK173.out), (bl2 HB.out GE172.out GE173.out)⟩)
          ·skip
           refine bs 5 (#[.int .i64 0, .int .i64 0]) 36 ?_
           intro gb178 hg w40 hbox hb
           have BK178 := Aside0.mk (hbox)
           have GW178 := Aside0.mk (gz (w := w) hg (bl2 HB.out GE172.out GE173.out))
           have GE178 := GW178
           have NB172_178 := Aside0.mk (nl hg BK172.out)
           have NB178_172 := Aside0.mk (nr hg BK172.out)
           have NB173_178 := Aside0.mk (nl hg BK173.out)
           have NB178_173 := Aside0.mk (nr hg BK173.out)
           replace BK172 := Aside0.mk (bb BK172.out hb)
           replace BK173 := Aside0.mk (bb BK173.out hb)
           replace HB := Aside0.mk (below_step (bl2 HB.out GE172.out GE173.out) hb)
           clear hb hbox hg
           refine hK.out _ _ (mS _ BK172.out BK173.out) (fun hHeld => ?_)
           clear hK K
           refine np 5 ?_
           exact nj (hJ1_4 (gb178) _ ⟨hHeld, (bk BK172.out), (bk BK173.out), (bk BK178.out), GW178.out, GE178.out, NB172_178.out, NB178_172.out, NB173_178.out, NB178_173.out, (bl3 HB.out GE172.out GE173.out GE178.out)⟩)
          ·skip
           refine bs 6 (#[.int .i64 0, .int .i64 0]) 36 ?_
           intro gb179 hg w40 hbox hb
           have BK179 := Aside0.mk (hbox)
           have GW179 := Aside0.mk (gz (w := w) hg (bl2 HB.out GE172.out GE173.out))
           have GE179 := GW179
           have NB172_179 := Aside0.mk (nl hg BK172.out)
           have NB179_172 := Aside0.mk (nr hg BK172.out)
           have NB173_179 := Aside0.mk (nl hg BK173.out)
           have NB179_173 := Aside0.mk (nr hg BK173.out)
           replace BK172 := Aside0.mk (bb BK172.out hb)
           replace BK173 := Aside0.mk (bb BK173.out hb)
           replace HB := Aside0.mk (below_step (bl2 HB.out GE172.out GE173.out) hb)
           clear hb hbox hg
           refine hK.out _ _ (mS _ BK172.out BK173.out) (fun hHeld => ?_)
           clear hK K
           refine np 6 ?_
           exact nj (hJ1_5 (gb179) _ ⟨hHeld, (bk BK172.out), (bk BK173.out), (bk BK179.out), GW179.out, GE179.out, NB172_179.out, NB179_172.out, NB173_179.out, NB179_173.out, (bl3 HB.out GE172.out GE173.out GE179.out)⟩)
        ·skip
         rintro ⟨gb178, gb179⟩ w40 ⟨hS_, h0_, h1_, h2_, h3_, h4_, h5_, h6_, h7_, h8_, h9_, h10_, h11_, h12_, h13_, h14_, h15_, h16_, h17_, h18_⟩
         have BK178 : Aside0 (w40.heap[gb178]? = some (.cells #[.int .i64 0, .int .i64 0] 36 (0, 0))) := ⟨h2_⟩
         have BK179 : Aside0 (w40.heap[gb179]? = some (.cells #[.int .i64 0, .int .i64 0] 36 (0, 0))) := ⟨h3_⟩
         have GW178 : Aside0 (w.heap.size ≤ gb178) := ⟨h4_⟩
         have GE178 : Aside0 (w.heap.size ≤ gb178) := ⟨h5_⟩
         have NB172_178 : Aside0 (gb172 ≠ gb178) := ⟨h6_⟩
         have NB178_172 : Aside0 (gb178 ≠ gb172) := ⟨h7_⟩
         have NB173_178 : Aside0 (gb173 ≠ gb178) := ⟨h8_⟩
         have NB178_173 : Aside0 (gb178 ≠ gb173) := ⟨h9_⟩
         have NB179_178 : Aside0 (gb179 ≠ gb178) := ⟨h10_⟩
         have NB178_179 : Aside0 (gb178 ≠ gb179) := ⟨h11_⟩
         have GW179 : Aside0 (w.heap.size ≤ gb179) := ⟨h12_⟩
         have GE179 : Aside0 (w.heap.size ≤ gb179) := ⟨h13_⟩
         have NB172_179 : Aside0 (gb172 ≠ gb179) := ⟨h14_⟩
         have NB179_172 : Aside0 (gb179 ≠ gb172) := ⟨h15_⟩
         have NB173_179 : Aside0 (gb173 ≠ gb179) := ⟨h16_⟩
         have NB179_173 : Aside0 (gb179 ≠ gb173) := ⟨h17_⟩
         replace BK172 : Aside0 (w40.heap[gb172]? = some (.cells #[.int .i64 a0_0, .bool a0_1, .int .i64 a0_2, .int .i64 a0_3, .int .i64 a0_4, .int .i64 a0_5, .int .i64 a0_6, .int .i64 a0_7] 38 (0, 0))) := ⟨h0_⟩
         replace BK173 : Aside0 (w40.heap[gb173]? = some (.cells #[.int .i64 a1_0, .bool a1_1, .int .i64 a1_2, .int .i64 a1_3, .int .i64 a1_4, .int .i64 a1_5, .int .i64 a1_6, .int .i64 a1_7] 38 (0, 0))) := ⟨h1_⟩
         replace HB : Aside0 (Below w.heap.size w w40) := ⟨h18_⟩
         clear h0_ h1_ h2_ h3_ h4_ h5_ h6_ h7_ h8_ h9_ h10_ h11_ h12_ h13_ h14_ h15_ h16_ h17_ h18_
         have hHeld := hS_
         refine na ?_
         refine one_ (i := 1) (N := some 12) (ba 8 55) rfl rfl (one_of HT_.out (by kernel_rfl)) (by decide) (fun K hK => ?_)
         refine goes_ Try.func67 (by kernel_rfl) rfl #[.agg #[.int .i64 a0_0, .bool a0_1, .int .i64 a0_2, .int .i64 a0_3, .int .i64 a0_4, .int .i64 a0_5, .int .i64 a0_6, .int .i64 a0_7]] (by rfl) rfl rfl am ?_
         with_reducible refine (corner_last.calls k a0_0 a0_1 a0_2 a0_3 a0_4 a0_5 a0_6 a0_7 t174 t175 _ A3.out).mono ?_
         rintro e w41 ⟨rfl, hb⟩
         refine ⟨_, rfl, ?_⟩
         replace BK172 := Aside0.mk (bb BK172.out hb)
         replace BK173 := Aside0.mk (bb BK173.out hb)
         replace BK178 := Aside0.mk (bb BK178.out hb)
         replace BK179 := Aside0.mk (bb BK179.out hb)
         replace HB := Aside0.mk (below_step (bl4 HB.out GE172.out GE173.out GE178.out GE179.out) hb)
         (try clear hb)
         (try clear hb2)
         (try clear hk)
         (try clear hi)
         refine hK.out _ _ (mS _ BK172.out BK173.out) (fun hHeld => ?_)
         clear hK K
         refine np 12 ?_
         exact nj (hJ1_4_5 (gb178, gb179) _ ⟨hHeld, (bk BK172.out), (bk BK173.out), (bk BK178.out), (bk BK179.out), GW178.out, GE178.out, NB172_178.out, NB178_172.out, NB173_178.out, NB178_173.out, NB179_178.out, NB178_179.out, GW179.out, GE179.out, NB172_179.out, NB179_172.out, NB173_179.out, NB179_173.out, (bl4 HB.out GE172.out GE173.out GE178.out GE179.out)⟩)
       ·skip
        rintro gb179 w40 ⟨hS_, h0_, h1_, h2_, h3_, h4_, h5_, h6_, h7_, h8_, h9_⟩
        have BK179 : Aside0 (w40.heap[gb179]? = some (.cells #[.int .i64 0, .int .i64 0] 36 (0, 0))) := ⟨h2_⟩
        have GW179 : Aside0 (w.heap.size ≤ gb179) := ⟨h3_⟩
        have GE179 : Aside0 (w.heap.size ≤ gb179) := ⟨h4_⟩
        have NB172_179 : Aside0 (gb172 ≠ gb179) := ⟨h5_⟩
        have NB179_172 : Aside0 (gb179 ≠ gb172) := ⟨h6_⟩
        have NB173_179 : Aside0 (gb173 ≠ gb179) := ⟨h7_⟩
        have NB179_173 : Aside0 (gb179 ≠ gb173) := ⟨h8_⟩
        replace BK172 : Aside0 (w40.heap[gb172]? = some (.cells #[.int .i64 a0_0, .bool a0_1, .int .i64 a0_2, .int .i64 a0_3, .int .i64 a0_4, .int .i64 a0_5, .int .i64 a0_6, .int .i64 a0_7] 38 (0, 0))) := ⟨h0_⟩
        replace BK173 : Aside0 (w40.heap[gb173]? = some (.cells #[.int .i64 a1_0, .bool a1_1, .int .i64 a1_2, .int .i64 a1_3, .int .i64 a1_4, .int .i64 a1_5, .int .i64 a1_6, .int .i64 a1_7] 38 (0, 0))) := ⟨h1_⟩
        replace HB : Aside0 (Below w.heap.size w w40) := ⟨h9_⟩
        clear h0_ h1_ h2_ h3_ h4_ h5_ h6_ h7_ h8_ h9_
        have hHeld := hS_
        refine na ?_
        refine two_ (i := 3) (j := 4) (Ni := some 14) (Nj := some 5) (ba 8 47) (ba 8 55) rfl rfl rfl rfl (two_of HT_.out (by kernel_rfl)) (by decide) (by decide) (fun K hK => ?_) (fun K hK => ?_)
        ·skip
         refine goes_ Try.func66 (by kernel_rfl) rfl #[.agg #[.int .i64 a1_0, .bool a1_1, .int .i64 a1_2, .int .i64 a1_3, .int .i64 a1_4, .int .i64 a1_5, .int .i64 a1_6, .int .i64 a1_7]] (by rfl) rfl rfl am ?_
         with_reducible refine (corner_first.calls k a1_0 a1_1 a1_2 a1_3 a1_4 a1_5 a1_6 a1_7 t176 t177 _ A4.out).mono ?_
         rintro e w41 ⟨rfl, hb⟩
         refine ⟨_, rfl, ?_⟩
         replace BK172 := Aside0.mk (bb BK172.out hb)
         replace BK173 := Aside0.mk (bb BK173.out hb)
         replace BK179 := Aside0.mk (bb BK179.out hb)
         replace HB := Aside0.mk (below_step (bl3 HB.out GE172.out GE173.out GE179.out) hb)
         (try clear hb)
         (try clear hb2)
         (try clear hk)
         (try clear hi)
         refine hK.out _ _ (mS _ BK172.out BK173.out) (fun hHeld => ?_)
         clear hK K
         refine np 14 ?_
         exact nj (hJ1_3_5 (gb179) _ ⟨hHeld, (bk BK172.out), (bk BK173.out), (bk BK179.out), GW179.out, GE179.out, NB172_179.out, NB179_172.out, NB173_179.out, NB179_173.out, (bl3 HB.out GE172.out GE173.out GE179.out)⟩)
        ·skip
         refine bs 5 (#[.int .i64 0, .int .i64 0]) 36 ?_
         intro gb178 hg w41 hbox hb
         have BK178 := Aside0.mk (hbox)
         have GW178 := Aside0.mk (gz (w := w) hg (bl3 HB.out GE172.out GE173.out GE179.out))
         have GE178 := GW178
         have NB172_178 := Aside0.mk (nl hg BK172.out)
         have NB178_172 := Aside0.mk (nr hg BK172.out)
         have NB173_178 := Aside0.mk (nl hg BK173.out)
         have NB178_173 := Aside0.mk (nr hg BK173.out)
         have NB179_178 := Aside0.mk (nl hg BK179.out)
         have NB178_179 := Aside0.mk (nr hg BK179.out)
         replace BK172 := Aside0.mk (bb BK172.out hb)
         replace BK173 := Aside0.mk (bb BK173.out hb)
         replace BK179 := Aside0.mk (bb BK179.out hb)
         replace HB := Aside0.mk (below_step (bl3 HB.out GE172.out GE173.out GE179.out) hb)
         clear hb hbox hg
         refine hK.out _ _ (mS _ BK172.out BK173.out) (fun hHeld => ?_)
         clear hK K
         refine np 5 ?_
         exact nj (hJ1_4_5 (gb178, gb179) _ ⟨hHeld, (bk BK172.out), (bk BK173.out), (bk BK178.out), (bk BK179.out), GW178.out, GE178.out, NB172_178.out, NB178_172.out, NB173_178.out, NB178_173.out, NB179_178.out, NB178_179.out, GW179.out, GE179.out, NB172_179.out, NB179_172.out, NB173_179.out, NB179_173.out, (bl4 HB.out GE172.out GE173.out GE179.out GE178.out)⟩)
      ·skip
       rintro gb178 w40 ⟨hS_, h0_, h1_, h2_, h3_, h4_, h5_, h6_, h7_, h8_, h9_⟩
       have BK178 : Aside0 (w40.heap[gb178]? = some (.cells #[.int .i64 0, .int .i64 0] 36 (0, 0))) := ⟨h2_⟩
       have GW178 : Aside0 (w.heap.size ≤ gb178) := ⟨h3_⟩
       have GE178 : Aside0 (w.heap.size ≤ gb178) := ⟨h4_⟩
       have NB172_178 : Aside0 (gb172 ≠ gb178) := ⟨h5_⟩
       have NB178_172 : Aside0 (gb178 ≠ gb172) := ⟨h6_⟩
       have NB173_178 : Aside0 (gb173 ≠ gb178) := ⟨h7_⟩
       have NB178_173 : Aside0 (gb178 ≠ gb173) := ⟨h8_⟩
       replace BK172 : Aside0 (w40.heap[gb172]? = some (.cells #[.int .i64 a0_0, .bool a0_1, .int .i64 a0_2, .int .i64 a0_3, .int .i64 a0_4, .int .i64 a0_5, .int .i64 a0_6, .int .i64 a0_7] 38 (0, 0))) := ⟨h0_⟩
       replace BK173 : Aside0 (w40.heap[gb173]? = some (.cells #[.int .i64 a1_0, .bool a1_1, .int .i64 a1_2, .int .i64 a1_3, .int .i64 a1_4, .int .i64 a1_5, .int .i64 a1_6, .int .i64 a1_7] 38 (0, 0))) := ⟨h1_⟩
       replace HB : Aside0 (Below w.heap.size w w40) := ⟨h9_⟩
       clear h0_ h1_ h2_ h3_ h4_ h5_ h6_ h7_ h8_ h9_
       have hHeld := hS_
       refine na ?_
       refine two_ (i := 3) (j := 5) (Ni := some 14) (Nj := some 6) (ba 8 31) (ba 8 55) rfl rfl rfl rfl (two_of HT_.out (by kernel_rfl)) (by decide) (by decide) (fun K hK => ?_) (fun K hK => ?_)
       ·skip
        refine goes_ Try.func66 (by kernel_rfl) rfl #[.agg #[.int .i64 a1_0, .bool a1_1, .int .i64 a1_2, .int .i64 a1_3, .int .i64 a1_4, .int .i64 a1_5, .int .i64 a1_6, .int .i64 a1_7]] (by rfl) rfl rfl am ?_
        with_reducible refine (corner_first.calls k a1_0 a1_1 a1_2 a1_3 a1_4 a1_5 a1_6 a1_7 t176 t177 _ A4.out).mono ?_
        rintro e w41 ⟨rfl, hb⟩
        refine ⟨_, rfl, ?_⟩
        replace BK172 := Aside0.mk (bb BK172.out hb)
        replace BK173 := Aside0.mk (bb BK173.out hb)
        replace BK178 := Aside0.mk (bb BK178.out hb)
        replace HB := Aside0.mk (below_step (bl3 HB.out GE172.out GE173.out GE178.out) hb)
        (try clear hb)
        (try clear hb2)
        (try clear hk)
        (try clear hi)
        refine hK.out _ _ (mS _ BK172.out BK173.out) (fun hHeld => ?_)
        clear hK K
        refine np 14 ?_
        exact nj (hJ1_3_4 (gb178) _ ⟨hHeld, (bk BK172.out), (bk BK173.out), (bk BK178.out), GW178.out, GE178.out, NB172_178.out, NB178_172.out, NB173_178.out, NB178_173.out, (bl3 HB.out GE172.out GE173.out GE178.out)⟩)
       ·skip
        refine bs 6 (#[.int .i64 0, .int .i64 0]) 36 ?_
        intro gb179 hg w41 hbox hb
        have BK179 := Aside0.mk (hbox)
        have GW179 := Aside0.mk (gz (w := w) hg (bl3 HB.out GE172.out GE173.out GE178.out))
        have GE179 := GW179
        have NB172_179 := Aside0.mk (nl hg BK172.out)
        have NB179_172 := Aside0.mk (nr hg BK172.out)
        have NB173_179 := Aside0.mk (nl hg BK173.out)
        have NB179_173 := Aside0.mk (nr hg BK173.out)
        have NB178_179 := Aside0.mk (nl hg BK178.out)
        have NB179_178 := Aside0.mk (nr hg BK178.out)
        replace BK172 := Aside0.mk (bb BK172.out hb)
        replace BK173 := Aside0.mk (bb BK173.out hb)
        replace BK178 := Aside0.mk (bb BK178.out hb)
        replace HB := Aside0.mk (below_step (bl3 HB.out GE172.out GE173.out GE178.out) hb)
        clear hb hbox hg
        refine hK.out _ _ (mS _ BK172.out BK173.out) (fun hHeld => ?_)
        clear hK K
        refine np 6 ?_
        exact nj (hJ1_4_5 (gb178, gb179) _ ⟨hHeld, (bk BK172.out), (bk BK173.out), (bk BK178.out), (bk BK179.out), GW178.out, GE178.out, NB172_178.out, NB178_172.out, NB173_178.out, NB178_173.out, NB179_178.out, NB178_179.out, GW179.out, GE179.out, NB172_179.out, NB179_172.out, NB173_179.out, NB179_173.out, (bl4 HB.out GE172.out GE173.out GE178.out GE179.out)⟩)
     ·skip
      rintro _ w40 ⟨hS_, h0_, h1_, h2_⟩
      replace BK172 : Aside0 (w40.heap[gb172]? = some (.cells #[.int .i64 a0_0, .bool a0_1, .int .i64 a0_2, .int .i64 a0_3, .int .i64 a0_4, .int .i64 a0_5, .int .i64 a0_6, .int .i64 a0_7] 38 (0, 0))) := ⟨h0_⟩
      replace BK173 : Aside0 (w40.heap[gb173]? = some (.cells #[.int .i64 a1_0, .bool a1_1, .int .i64 a1_2, .int .i64 a1_3, .int .i64 a1_4, .int .i64 a1_5, .int .i64 a1_6, .int .i64 a1_7] 38 (0, 0))) := ⟨h1_⟩
      replace HB : Aside0 (Below w.heap.size w w40) := ⟨h2_⟩
      clear h0_ h1_ h2_
      have hHeld := hS_
      refine na ?_
      refine two_ (i := 4) (j := 5) (Ni := some 5) (Nj := some 6) (ba 8 31) (ba 8 47) rfl rfl rfl rfl (two_of HT_.out (by kernel_rfl)) (by decide) (by decide) (fun K hK => ?_) (fun K hK => ?_)
      ·skip
       refine bs 5 (#[.int .i64 0, .int .i64 0]) 36 ?_
       intro gb178 hg w41 hbox hb
       have BK178 := Aside0.mk (hbox)
       have GW178 := Aside0.mk (gz (w := w) hg (bl2 HB.out GE172.out GE173.out))
       have GE178 := GW178
       have NB172_178 := Aside0.mk (nl hg BK172.out)
       have NB178_172 := Aside0.mk (nr hg BK172.out)
       have NB173_178 := Aside0.mk (nl hg BK173.out)
       have NB178_173 := Aside0.mk (nr hg BK173.out)
       replace BK172 := Aside0.mk (bb BK172.out hb)
       replace BK173 := Aside0.mk (bb BK173.out hb)
       replace HB := Aside0.mk (below_step (bl2 HB.out GE172.out GE173.out) hb)
       clear hb hbox hg
       refine hK.out _ _ (mS _ BK172.out BK173.out) (fun hHeld => ?_)
       clear hK K
       refine np 5 ?_
       exact nj (hJ1_3_4 (gb178) _ ⟨hHeld, (bk BK172.out), (bk BK173.out), (bk BK178.out), GW178.out, GE178.out, NB172_178.out, NB178_172.out, NB173_178.out, NB178_173.out, (bl3 HB.out GE172.out GE173.out GE178.out)⟩)
      ·skip
       refine bs 6 (#[.int .i64 0, .int .i64 0]) 36 ?_
       intro gb179 hg w41 hbox hb
       have BK179 := Aside0.mk (hbox)
       have GW179 := Aside0.mk (gz (w := w) hg (bl2 HB.out GE172.out GE173.out))
       have GE179 := GW179
       have NB172_179 := Aside0.mk (nl hg BK172.out)
       have NB179_172 := Aside0.mk (nr hg BK172.out)
       have NB173_179 := Aside0.mk (nl hg BK173.out)
       have NB179_173 := Aside0.mk (nr hg BK173.out)
       replace BK172 := Aside0.mk (bb BK172.out hb)
       replace BK173 := Aside0.mk (bb BK173.out hb)
       replace HB := Aside0.mk (below_step (bl2 HB.out GE172.out GE173.out) hb)
       clear hb hbox hg
       refine hK.out _ _ (mS _ BK172.out BK173.out) (fun hHeld => ?_)
       clear hK K
       refine np 6 ?_
       exact nj (hJ1_3_5 (gb179) _ ⟨hHeld, (bk BK172.out), (bk BK173.out), (bk BK179.out), GW179.out, GE179.out, NB172_179.out, NB179_172.out, NB173_179.out, NB179_173.out, (bl3 HB.out GE172.out GE173.out GE179.out)⟩)
    ·skip
     rintro ⟨gb178, gb179⟩ w41 ⟨hS_, h0_, h1_, h2_, h3_, h4_, h5_, h6_, h7_, h8_, h9_, h10_, h11_, h12_, h13_, h14_, h15_, h16_, h17_, h18_⟩
     have BK178 : Aside0 (w41.heap[gb178]? = some (.cells #[.int .i64 0, .int .i64 0] 36 (0, 0))) := ⟨h2_⟩
     have BK179 : Aside0 (w41.heap[gb179]? = some (.cells #[.int .i64 0, .int .i64 0] 36 (0, 0))) := ⟨h3_⟩
     have GW178 : Aside0 (w.heap.size ≤ gb178) := ⟨h4_⟩
     have GE178 : Aside0 (w.heap.size ≤ gb178) := ⟨h5_⟩
     have NB172_178 : Aside0 (gb172 ≠ gb178) := ⟨h6_⟩
     have NB178_172 : Aside0 (gb178 ≠ gb172) := ⟨h7_⟩
     have NB173_178 : Aside0 (gb173 ≠ gb178) := ⟨h8_⟩
     have NB178_173 : Aside0 (gb178 ≠ gb173) := ⟨h9_⟩
     have NB179_178 : Aside0 (gb179 ≠ gb178) := ⟨h10_⟩
     have NB178_179 : Aside0 (gb178 ≠ gb179) := ⟨h11_⟩
     have GW179 : Aside0 (w.heap.size ≤ gb179) := ⟨h12_⟩
     have GE179 : Aside0 (w.heap.size ≤ gb179) := ⟨h13_⟩
     have NB172_179 : Aside0 (gb172 ≠ gb179) := ⟨h14_⟩
     have NB179_172 : Aside0 (gb179 ≠ gb172) := ⟨h15_⟩
     have NB173_179 : Aside0 (gb173 ≠ gb179) := ⟨h16_⟩
     have NB179_173 : Aside0 (gb179 ≠ gb173) := ⟨h17_⟩
     replace BK172 : Aside0 (w41.heap[gb172]? = some (.cells #[.int .i64 a0_0, .bool a0_1, .int .i64 a0_2, .int .i64 a0_3, .int .i64 a0_4, .int .i64 a0_5, .int .i64 a0_6, .int .i64 a0_7] 38 (0, 0))) := ⟨h0_⟩
     replace BK173 : Aside0 (w41.heap[gb173]? = some (.cells #[.int .i64 a1_0, .bool a1_1, .int .i64 a1_2, .int .i64 a1_3, .int .i64 a1_4, .int .i64 a1_5, .int .i64 a1_6, .int .i64 a1_7] 38 (0, 0))) := ⟨h1_⟩
     replace HB : Aside0 (Below w.heap.size w w41) := ⟨h18_⟩
     clear h0_ h1_ h2_ h3_ h4_ h5_ h6_ h7_ h8_ h9_ h10_ h11_ h12_ h13_ h14_ h15_ h16_ h17_ h18_
     have hHeld := hS_
     refine na ?_
     refine one_ (i := 3) (N := some 14) (ba 8 63) rfl rfl (one_of HT_.out (by kernel_rfl)) (by decide) (fun K hK => ?_)
     refine goes_ Try.func66 (by kernel_rfl) rfl #[.agg #[.int .i64 a1_0, .bool a1_1, .int .i64 a1_2, .int .i64 a1_3, .int .i64 a1_4, .int .i64 a1_5, .int .i64 a1_6, .int .i64 a1_7]] (by rfl) rfl rfl am ?_
     with_reducible refine (corner_first.calls k a1_0 a1_1 a1_2 a1_3 a1_4 a1_5 a1_6 a1_7 t176 t177 _ A4.out).mono ?_
     rintro e w42 ⟨rfl, hb⟩
     refine ⟨_, rfl, ?_⟩
     replace BK172 := Aside0.mk (bb BK172.out hb)
     replace BK173 := Aside0.mk (bb BK173.out hb)
     replace BK178 := Aside0.mk (bb BK178.out hb)
     replace BK179 := Aside0.mk (bb BK179.out hb)
     replace HB := Aside0.mk (below_step (bl4 HB.out GE172.out GE173.out GE178.out GE179.out) hb)
     (try clear hb)
     (try clear hb2)
     (try clear hk)
     (try clear hi)
     refine hK.out _ _ (mS _ BK172.out BK173.out) (fun hHeld => ?_)
     clear hK K
     refine np 14 ?_
     exact nj (hJ1_3_4_5 (gb178, gb179) _ ⟨hHeld, (bk BK172.out), (bk BK173.out), (bk BK178.out), (bk BK179.out), GW178.out, GE178.out, NB172_178.out, NB178_172.out, NB173_178.out, NB178_173.out, NB179_178.out, NB178_179.out, GW179.out, GE179.out, NB172_179.out, NB179_172.out, NB173_179.out, NB179_173.out, (bl4 HB.out GE172.out GE173.out GE178.out GE179.out)⟩)
   ·skip
    rintro gb179 w41 ⟨hS_, h0_, h1_, h2_, h3_, h4_, h5_, h6_, h7_, h8_, h9_⟩
    have BK179 : Aside0 (w41.heap[gb179]? = some (.cells #[.int .i64 0, .int .i64 0] 36 (0, 0))) := ⟨h2_⟩
    have GW179 : Aside0 (w.heap.size ≤ gb179) := ⟨h3_⟩
    have GE179 : Aside0 (w.heap.size ≤ gb179) := ⟨h4_⟩
    have NB172_179 : Aside0 (gb172 ≠ gb179) := ⟨h5_⟩
    have NB179_172 : Aside0 (gb179 ≠ gb172) := ⟨h6_⟩
    have NB173_179 : Aside0 (gb173 ≠ gb179) := ⟨h7_⟩
    have NB179_173 : Aside0 (gb179 ≠ gb173) := ⟨h8_⟩
    replace BK172 : Aside0 (w41.heap[gb172]? = some (.cells #[.int .i64 a0_0, .bool a0_1, .int .i64 a0_2, .int .i64 a0_3, .int .i64 a0_4, .int .i64 a0_5, .int .i64 a0_6, .int .i64 a0_7] 38 (0, 0))) := ⟨h0_⟩
    replace BK173 : Aside0 (w41.heap[gb173]? = some (.cells #[.int .i64 a1_0, .bool a1_1, .int .i64 a1_2, .int .i64 a1_3, .int .i64 a1_4, .int .i64 a1_5, .int .i64 a1_6, .int .i64 a1_7] 38 (0, 0))) := ⟨h1_⟩
    replace HB : Aside0 (Below w.heap.size w w41) := ⟨h9_⟩
    clear h0_ h1_ h2_ h3_ h4_ h5_ h6_ h7_ h8_ h9_
    have hHeld := hS_
    refine na ?_
    refine one_ (i := 4) (N := some 5) (ba 8 63) rfl rfl (one_of HT_.out (by kernel_rfl)) (by decide) (fun K hK => ?_)
    refine bs 5 (#[.int .i64 0, .int .i64 0]) 36 ?_
    intro gb178 hg w42 hbox hb
    have BK178 := Aside0.mk (hbox)
    have GW178 := Aside0.mk (gz (w := w) hg (bl3 HB.out GE172.out GE173.out GE179.out))
    have GE178 := GW178
    have NB172_178 := Aside0.mk (nl hg BK172.out)
    have NB178_172 := Aside0.mk (nr hg BK172.out)
    have NB173_178 := Aside0.mk (nl hg BK173.out)
    have NB178_173 := Aside0.mk (nr hg BK173.out)
    have NB179_178 := Aside0.mk (nl hg BK179.out)
    have NB178_179 := Aside0.mk (nr hg BK179.out)
    replace BK172 := Aside0.mk (bb BK172.out hb)
    replace BK173 := Aside0.mk (bb BK173.out hb)
    replace BK179 := Aside0.mk (bb BK179.out hb)
    replace HB := Aside0.mk (below_step (bl3 HB.out GE172.out GE173.out GE179.out) hb)
    clear hb hbox hg
    refine hK.out _ _ (mS _ BK172.out BK173.out) (fun hHeld => ?_)
    clear hK K
    refine np 5 ?_
    exact nj (hJ1_3_4_5 (gb178, gb179) _ ⟨hHeld, (bk BK172.out), (bk BK173.out), (bk BK178.out), (bk BK179.out), GW178.out, GE178.out, NB172_178.out, NB178_172.out, NB173_178.out, NB178_173.out, NB179_178.out, NB178_179.out, GW179.out, GE179.out, NB172_179.out, NB179_172.out, NB173_179.out, NB179_173.out, (bl4 HB.out GE172.out GE173.out GE179.out GE178.out)⟩)
  ·skip
   rintro gb178 w41 ⟨hS_, h0_, h1_, h2_, h3_, h4_, h5_, h6_, h7_, h8_, h9_⟩
   have BK178 : Aside0 (w41.heap[gb178]? = some (.cells #[.int .i64 0, .int .i64 0] 36 (0, 0))) := ⟨h2_⟩
   have GW178 : Aside0 (w.heap.size ≤ gb178) := ⟨h3_⟩
   have GE178 : Aside0 (w.heap.size ≤ gb178) := ⟨h4_⟩
   have NB172_178 : Aside0 (gb172 ≠ gb178) := ⟨h5_⟩
   have NB178_172 : Aside0 (gb178 ≠ gb172) := ⟨h6_⟩
   have NB173_178 : Aside0 (gb173 ≠ gb178) := ⟨h7_⟩
   have NB178_173 : Aside0 (gb178 ≠ gb173) := ⟨h8_⟩
   replace BK172 : Aside0 (w41.heap[gb172]? = some (.cells #[.int .i64 a0_0, .bool a0_1, .int .i64 a0_2, .int .i64 a0_3, .int .i64 a0_4, .int .i64 a0_5, .int .i64 a0_6, .int .i64 a0_7] 38 (0, 0))) := ⟨h0_⟩
   replace BK173 : Aside0 (w41.heap[gb173]? = some (.cells #[.int .i64 a1_0, .bool a1_1, .int .i64 a1_2, .int .i64 a1_3, .int .i64 a1_4, .int .i64 a1_5, .int .i64 a1_6, .int .i64 a1_7] 38 (0, 0))) := ⟨h1_⟩
   replace HB : Aside0 (Below w.heap.size w w41) := ⟨h9_⟩
   clear h0_ h1_ h2_ h3_ h4_ h5_ h6_ h7_ h8_ h9_
   have hHeld := hS_
   refine na ?_
   refine one_ (i := 5) (N := some 6) (ba 8 63) rfl rfl (one_of HT_.out (by kernel_rfl)) (by decide) (fun K hK => ?_)
   refine bs 6 (#[.int .i64 0, .int .i64 0]) 36 ?_
   intro gb179 hg w42 hbox hb
   have BK179 := Aside0.mk (hbox)
   have GW179 := Aside0.mk (gz (w := w) hg (bl3 HB.out GE172.out GE173.out GE178.out))
   have GE179 := GW179
   have NB172_179 := Aside0.mk (nl hg BK172.out)
   have NB179_172 := Aside0.mk (nr hg BK172.out)
   have NB173_179 := Aside0.mk (nl hg BK173.out)
   have NB179_173 := Aside0.mk (nr hg BK173.out)
   have NB178_179 := Aside0.mk (nl hg BK178.out)
   have NB179_178 := Aside0.mk (nr hg BK178.out)
   replace BK172 := Aside0.mk (bb BK172.out hb)
   replace BK173 := Aside0.mk (bb BK173.out hb)
   replace BK178 := Aside0.mk (bb BK178.out hb)
   replace HB := Aside0.mk (below_step (bl3 HB.out GE172.out GE173.out GE178.out) hb)
   clear hb hbox hg
   refine hK.out _ _ (mS _ BK172.out BK173.out) (fun hHeld => ?_)
   clear hK K
   refine np 6 ?_
   exact nj (hJ1_3_4_5 (gb178, gb179) _ ⟨hHeld, (bk BK172.out), (bk BK173.out), (bk BK178.out), (bk BK179.out), GW178.out, GE178.out, NB172_178.out, NB178_172.out, NB173_178.out, NB178_173.out, NB179_178.out, NB178_179.out, GW179.out, GE179.out, NB172_179.out, NB179_172.out, NB173_179.out, NB179_173.out, (bl4 HB.out GE172.out GE173.out GE178.out GE179.out)⟩)
 rintro ⟨gb178, gb179⟩ w42 ⟨hS_, h0_, h1_, h2_, h3_, h4_, h5_, h6_, h7_, h8_, h9_, h10_, h11_, h12_, h13_, h14_, h15_, h16_, h17_, h18_⟩
 have BK178 : Aside0 (w42.heap[gb178]? = some (.cells #[.int .i64 0, .int .i64 0] 36 (0, 0))) := ⟨h2_⟩
 have BK179 : Aside0 (w42.heap[gb179]? = some (.cells #[.int .i64 0, .int .i64 0] 36 (0, 0))) := ⟨h3_⟩
 have GW178 : Aside0 (w.heap.size ≤ gb178) := ⟨h4_⟩
 have GE178 : Aside0 (w.heap.size ≤ gb178) := ⟨h5_⟩
 have NB172_178 : Aside0 (gb172 ≠ gb178) := ⟨h6_⟩
 have NB178_172 : Aside0 (gb178 ≠ gb172) := ⟨h7_⟩
 have NB173_178 : Aside0 (gb173 ≠ gb178) := ⟨h8_⟩
 have NB178_173 : Aside0 (gb178 ≠ gb173) := ⟨h9_⟩
 have NB179_178 : Aside0 (gb179 ≠ gb178) := ⟨h10_⟩
 have NB178_179 : Aside0 (gb178 ≠ gb179) := ⟨h11_⟩
 have GW179 : Aside0 (w.heap.size ≤ gb179) := ⟨h12_⟩
 have GE179 : Aside0 (w.heap.size ≤ gb179) := ⟨h13_⟩
 have NB172_179 : Aside0 (gb172 ≠ gb179) := ⟨h14_⟩
 have NB179_172 : Aside0 (gb179 ≠ gb172) := ⟨h15_⟩
 have NB173_179 : Aside0 (gb173 ≠ gb179) := ⟨h16_⟩
 have NB179_173 : Aside0 (gb179 ≠ gb173) := ⟨h17_⟩
 replace BK172 : Aside0 (w42.heap[gb172]? = some (.cells #[.int .i64 a0_0, .bool a0_1, .int .i64 a0_2, .int .i64 a0_3, .int .i64 a0_4, .int .i64 a0_5, .int .i64 a0_6, .int .i64 a0_7] 38 (0, 0))) := ⟨h0_⟩
 replace BK173 : Aside0 (w42.heap[gb173]? = some (.cells #[.int .i64 a1_0, .bool a1_1, .int .i64 a1_2, .int .i64 a1_3, .int .i64 a1_4, .int .i64 a1_5, .int .i64 a1_6, .int .i64 a1_7] 38 (0, 0))) := ⟨h1_⟩
 replace HB : Aside0 (Below w.heap.size w w42) := ⟨h18_⟩
 clear h0_ h1_ h2_ h3_ h4_ h5_ h6_ h7_ h8_ h9_ h10_ h11_ h12_ h13_ h14_ h15_ h16_ h17_ h18_
 have hHeld := hS_
 refine na ?_
 refine one_ (i := 6) (N := none) (ba 8 127) rfl rfl (one_of HT_.out (by kernel_rfl)) (by decide) (fun K hK => ?_)
 have hs43 : w42.cell? ⟨gb178, 0, none⟩ = some (.int .i64 0) := (blk_cell BK178.out 0).trans rfl
 have hfs43 := blk_frozen BK178.out 0
 have hns43_0 := NB172_178.out
 have hns43_1 := NB173_178.out
 have hns43_3 := NB179_178.out
 have hms43_0 := NB178_172.out
 have hms43_1 := NB178_173.out
 have hms43_3 := NB178_179.out
 have hs44 : w42.cell? ⟨gb178, 1, none⟩ = some (.int .i64 0) := (blk_cell BK178.out 1).trans rfl
 have hfs44 := blk_frozen BK178.out 1
 have hns44_0 := NB172_178.out
 have hns44_1 := NB173_178.out
 have hns44_3 := NB179_178.out
 have hms44_0 := NB178_172.out
 have hms44_1 := NB178_173.out
 have hms44_3 := NB178_179.out
 refine skip_ (w1 := ?_) (by rfl) rfl ?_ ?_
 rotate_left
 ·go_simp
  rfl
 refine hK.out _ _ (by rw [eS.out] at hHeld ⊢; exact ⟨((cell_far (p := ⟨gb178, _, none⟩) NB172_178.out _).trans (((cell_far (p := ⟨gb178, _, none⟩) NB172_178.out _).trans (hHeld.1)))), ((cell_far (p := ⟨gb178, _, none⟩) NB172_178.out _).trans (((cell_far (p := ⟨gb178, _, none⟩) NB172_178.out _).trans (hHeld.2.1)))), ((cell_far (p := ⟨gb178, _, none⟩) NB172_178.out _).trans (((cell_far (p := ⟨gb178, _, none⟩) NB172_178.out _).trans (hHeld.2.2.1)))), ((cell_far (p := ⟨gb178, _, none⟩) NB172_178.out _).trans (((cell_far (p := ⟨gb178, _, none⟩) NB172_178.out _).trans (hHeld.2.2.2.1)))), ((cell_far (p := ⟨gb178, _, none⟩) NB172_178.out _).trans (((cell_far (p := ⟨gb178, _, none⟩) NB172_178.out _).trans (hHeld.2.2.2.2.1)))), ((cell_far (p := ⟨gb178, _, none⟩) NB172_178.out _).trans (((cell_far (p := ⟨gb178, _, none⟩) NB172_178.out _).trans (hHeld.2.2.2.2.2.1)))), ((cell_far (p := ⟨gb178, _, none⟩) NB172_178.out _).trans (((cell_far (p := ⟨gb178, _, none⟩) NB172_178.out _).trans (hHeld.2.2.2.2.2.2.1)))), ((cell_far (p := ⟨gb178, _, none⟩) NB172_178.out _).trans (((cell_far (p := ⟨gb178, _, none⟩) NB172_178.out _).trans (hHeld.2.2.2.2.2.2.2.1)))), ((cell_far (p := ⟨gb178, _, none⟩) NB173_178.out _).trans (((cell_far (p := ⟨gb178, _, none⟩) NB173_178.out _).trans (hHeld.2.2.2.2.2.2.2.2.1)))), ((cell_far (p := ⟨gb178, _, none⟩) NB173_178.out _).trans (((cell_far (p := ⟨gb178, _, none⟩) NB173_178.out _).trans (hHeld.2.2.2.2.2.2.2.2.2.1)))), ((cell_far (p := ⟨gb178, _, none⟩) NB173_178.out _).trans (((cell_far (p := ⟨gb178, _, none⟩) NB173_178.out _).trans (hHeld.2.2.2.2.2.2.2.2.2.2.1)))), ((cell_far (p := ⟨gb178, _, none⟩) NB173_178.out _).trans (((cell_far (p := ⟨gb178, _, none⟩) NB173_178.out _).trans (hHeld.2.2.2.2.2.2.2.2.2.2.2.1)))), ((cell_far (p := ⟨gb178, _, none⟩) NB173_178.out _).trans (((cell_far (p := ⟨gb178, _, none⟩) NB173_178.out _).trans (hHeld.2.2.2.2.2.2.2.2.2.2.2.2.1)))), ((cell_far (p := ⟨gb178, _, none⟩) NB173_178.out _).trans (((cell_far (p := ⟨gb178, _, none⟩) NB173_178.out _).trans (hHeld.2.2.2.2.2.2.2.2.2.2.2.2.2.1)))), ((cell_far (p := ⟨gb178, _, none⟩) NB173_178.out _).trans (((cell_far (p := ⟨gb178, _, none⟩) NB173_178.out _).trans (hHeld.2.2.2.2.2.2.2.2.2.2.2.2.2.2.1)))), ((cell_far (p := ⟨gb178, _, none⟩) NB173_178.out _).trans (((cell_far (p := ⟨gb178, _, none⟩) NB173_178.out _).trans (hHeld.2.2.2.2.2.2.2.2.2.2.2.2.2.2.2))))⟩) (fun hHeld => ?_)
 clear hK K
 refine one_ (i := 7) (N := none) (ba 8 255) rfl rfl (one_of HT_.out (by kernel_rfl)) (by decide) (fun K hK => ?_)
 have hs45 : w42.cell? ⟨gb179, 0, none⟩ = some (.int .i64 0) := (blk_cell BK179.out 0).trans rfl
 have hfs45 := blk_frozen BK179.out 0
 have hns45_0 := NB172_179.out
 have hns45_1 := NB173_179.out
 have hns45_2 := NB178_179.out
 have hms45_0 := NB179_172.out
 have hms45_1 := NB179_173.out
 have hms45_2 := NB179_178.out
 have hs46 : w42.cell? ⟨gb179, 1, none⟩ = some (.int .i64 0) := (blk_cell BK179.out 1).trans rfl
 have hfs46 := blk_frozen BK179.out 1
 have hns46_0 := NB172_179.out
 have hns46_1 := NB173_179.out
 have hns46_2 := NB178_179.out
 have hms46_0 := NB179_172.out
 have hms46_1 := NB179_173.out
 have hms46_2 := NB179_178.out
 refine skip_ (w1 := ?_) (by rfl) rfl ?_ ?_
 rotate_left
 ·go_simp
  rfl
 refine hK.out _ _ (by rw [eS.out] at hHeld ⊢; exact ⟨((cell_far (p := ⟨gb179, _, none⟩) NB172_179.out _).trans (((cell_far (p := ⟨gb179, _, none⟩) NB172_179.out _).trans (hHeld.1)))), ((cell_far (p := ⟨gb179, _, none⟩) NB172_179.out _).trans (((cell_far (p := ⟨gb179, _, none⟩) NB172_179.out _).trans (hHeld.2.1)))), ((cell_far (p := ⟨gb179, _, none⟩) NB172_179.out _).trans (((cell_far (p := ⟨gb179, _, none⟩) NB172_179.out _).trans (hHeld.2.2.1)))), ((cell_far (p := ⟨gb179, _, none⟩) NB172_179.out _).trans (((cell_far (p := ⟨gb179, _, none⟩) NB172_179.out _).trans (hHeld.2.2.2.1)))), ((cell_far (p := ⟨gb179, _, none⟩) NB172_179.out _).trans (((cell_far (p := ⟨gb179, _, none⟩) NB172_179.out _).trans (hHeld.2.2.2.2.1)))), ((cell_far (p := ⟨gb179, _, none⟩) NB172_179.out _).trans (((cell_far (p := ⟨gb179, _, none⟩) NB172_179.out _).trans (hHeld.2.2.2.2.2.1)))), ((cell_far (p := ⟨gb179, _, none⟩) NB172_179.out _).trans (((cell_far (p := ⟨gb179, _, none⟩) NB172_179.out _).trans (hHeld.2.2.2.2.2.2.1)))), ((cell_far (p := ⟨gb179, _, none⟩) NB172_179.out _).trans (((cell_far (p := ⟨gb179, _, none⟩) NB172_179.out _).trans (hHeld.2.2.2.2.2.2.2.1)))), ((cell_far (p := ⟨gb179, _, none⟩) NB173_179.out _).trans (((cell_far (p := ⟨gb179, _, none⟩) NB173_179.out _).trans (hHeld.2.2.2.2.2.2.2.2.1)))), ((cell_far (p := ⟨gb179, _, none⟩) NB173_179.out _).trans (((cell_far (p := ⟨gb179, _, none⟩) NB173_179.out _).trans (hHeld.2.2.2.2.2.2.2.2.2.1)))), ((cell_far (p := ⟨gb179, _, none⟩) NB173_179.out _).trans (((cell_far (p := ⟨gb179, _, none⟩) NB173_179.out _).trans (hHeld.2.2.2.2.2.2.2.2.2.2.1)))), ((cell_far (p := ⟨gb179, _, none⟩) NB173_179.out _).trans (((cell_far (p := ⟨gb179, _, none⟩) NB173_179.out _).trans (hHeld.2.2.2.2.2.2.2.2.2.2.2.1)))), ((cell_far (p := ⟨gb179, _, none⟩) NB173_179.out _).trans (((cell_far (p := ⟨gb179, _, none⟩) NB173_179.out _).trans (hHeld.2.2.2.2.2.2.2.2.2.2.2.2.1)))), ((cell_far (p := ⟨gb179, _, none⟩) NB173_179.out _).trans (((cell_far (p := ⟨gb179, _, none⟩) NB173_179.out _).trans (hHeld.2.2.2.2.2.2.2.2.2.2.2.2.2.1)))), ((cell_far (p := ⟨gb179, _, none⟩) NB173_179.out _).trans (((cell_far (p := ⟨gb179, _, none⟩) NB173_179.out _).trans (hHeld.2.2.2.2.2.2.2.2.2.2.2.2.2.2.1)))), ((cell_far (p := ⟨gb179, _, none⟩) NB173_179.out _).trans (((cell_far (p := ⟨gb179, _, none⟩) NB173_179.out _).trans (hHeld.2.2.2.2.2.2.2.2.2.2.2.2.2.2.2))))⟩) (fun hHeld => ?_)
 clear hK K
 refine done_ (done_of HT_.out (by kernel_rfl)) ?_
 have hnb47 := NB178_172.out
 have hnc47 := NB172_178.out
 have hnb48 := NB178_173.out
 have hnc48 := NB173_178.out
 have hnb49 := NB178_179.out
 have hnc49 := NB179_178.out
 have hcz50_0 : w42.cell? ⟨gb178, 0, none⟩ = some (.int .i64 0) := (blk_cell BK178.out 0).trans rfl
 have hcz50_1 : w42.cell? ⟨gb178, 1, none⟩ = some (.int .i64 0) := (blk_cell BK178.out 1).trans rfl
 have hfz50_0 := blk_frozen BK178.out 0
 have hfz50_1 := blk_frozen BK178.out 1
 have hnb51 := NB179_172.out
 have hnc51 := NB172_179.out
 have hnb52 := NB179_173.out
 have hnc52 := NB173_179.out
 have hcz53_0 : w42.cell? ⟨gb179, 0, none⟩ = some (.int .i64 0) := (blk_cell BK179.out 0).trans rfl
 have hcz53_1 : w42.cell? ⟨gb179, 1, none⟩ = some (.int .i64 0) := (blk_cell BK179.out 1).trans rfl
 have hfz53_0 := blk_frozen BK179.out 0
 have hfz53_1 := blk_frozen BK179.out 1
 try go_wp2_with (first | ((with_reducible refine gate_callee (f := 89) rfl ?_); refine goesL_ (some 17) rfl rfl Try.func89 (by kernel_rfl) rfl #[.agg #[.int .i64 t174, .int .i64 t175], .agg #[.int .i64 t176, .int .i64 t177]] rfl am ?_; (with_reducible refine (corner_times.calls t174 t175 t176 t177 t180 _ A5.out).mono ?_); rintro e w54 ⟨rfl, hb⟩; refine ⟨_, rfl, ?_⟩; replace BK172 := Aside0.mk (blk_below (g := gb172) (o := .cells #[.int .i64 a0_0, .bool a0_1, .int .i64 a0_2, .int .i64 a0_3, .int .i64 a0_4, .int .i64 a0_5, .int .i64 a0_6, .int .i64 a0_7] 38 (0, 0)) (by (with_reducible repeat (first | refine blk_drewN ?_ _ | refine blk_drew ?_ | refine blk_alloc ?_ _)); refine blk_far ?_ NB172_179.out _; (with_reducible repeat (first | refine blk_drewN ?_ _ | refine blk_drew ?_ | refine blk_alloc ?_ _)); refine blk_far ?_ NB172_179.out _; (with_reducible repeat (first | refine blk_drewN ?_ _ | refine blk_drew ?_ | refine blk_alloc ?_ _)); refine blk_far ?_ NB172_178.out _; (with_reducible repeat (first | refine blk_drewN ?_ _ | refine blk_drew ?_ | refine blk_alloc ?_ _)); refine blk_far ?_ NB172_178.out _; (with_reducible repeat (first | refine blk_drewN ?_ _ | refine blk_drew ?_ | refine blk_alloc ?_ _)); exact BK172.out) hb); replace BK173 := Aside0.mk (blk_below (g := gb173) (o := .cells #[.int .i64 a1_0, .bool a1_1, .int .i64 a1_2, .int .i64 a1_3, .int .i64 a1_4, .int .i64 a1_5, .int .i64 a1_6, .int .i64 a1_7] 38 (0, 0)) (by (with_reducible repeat (first | refine blk_drewN ?_ _ | refine blk_drew ?_ | refine blk_alloc ?_ _)); refine blk_far ?_ NB173_179.out _; (with_reducible repeat (first | refine blk_drewN ?_ _ | refine blk_drew ?_ | refine blk_alloc ?_ _)); refine blk_far ?_ NB173_179.out _; (with_reducible repeat (first | refine blk_drewN ?_ _ | refine blk_drew ?_ | refine blk_alloc ?_ _)); refine blk_far ?_ NB173_178.out _; (with_reducible repeat (first | refine blk_drewN ?_ _ | refine blk_drew ?_ | refine blk_alloc ?_ _)); refine blk_far ?_ NB173_178.out _; (with_reducible repeat (first | refine blk_drewN ?_ _ | refine blk_drew ?_ | refine blk_alloc ?_ _)); exact BK173.out) hb); replace BK178 := Aside0.mk (blk_below (g := gb178) (o := .cells #[.int .i64 t174, .int .i64 t175] 36 (0, 0)) (by (with_reducible repeat (first | refine blk_drewN ?_ _ | refine blk_drew ?_ | refine blk_alloc ?_ _)); refine blk_far ?_ NB178_179.out _; (with_reducible repeat (first | refine blk_drewN ?_ _ | refine blk_drew ?_ | refine blk_alloc ?_ _)); refine blk_far ?_ NB178_179.out _; (with_reducible repeat (first | refine blk_drewN ?_ _ | refine blk_drew ?_ | refine blk_alloc ?_ _)); refine blk_put (cs := #[.int .i64 t174, .int .i64 0]) ?_ 1 _ rfl; (with_reducible repeat (first | refine blk_drewN ?_ _ | refine blk_drew ?_ | refine blk_alloc ?_ _)); refine blk_put (cs := #[.int .i64 0, .int .i64 0]) ?_ 0 _ rfl; (with_reducible repeat (first | refine blk_drewN ?_ _ | refine blk_drew ?_ | refine blk_alloc ?_ _)); exact BK178.out) hb); replace BK179 := Aside0.mk (blk_below (g := gb179) (o := .cells #[.int .i64 t176, .int .i64 t177] 36 (0, 0)) (by (with_reducible repeat (first | refine blk_drewN ?_ _ | refine blk_drew ?_ | refine blk_alloc ?_ _)); refine blk_put (cs := #[.int .i64 t176, .int .i64 0]) ?_ 1 _ rfl; (with_reducible repeat (first | refine blk_drewN ?_ _ | refine blk_drew ?_ | refine blk_alloc ?_ _)); refine blk_put (cs := #[.int .i64 0, .int .i64 0]) ?_ 0 _ rfl; (with_reducible repeat (first | refine blk_drewN ?_ _ | refine blk_drew ?_ | refine blk_alloc ?_ _)); refine blk_far ?_ NB179_178.out _; (with_reducible repeat (first | refine blk_drewN ?_ _ | refine blk_drew ?_ | refine blk_alloc ?_ _)); refine blk_far ?_ NB179_178.out _; (with_reducible repeat (first | refine blk_drewN ?_ _ | refine blk_drew ?_ | refine blk_alloc ?_ _)); exact BK179.out) hb); replace HB := Aside0.mk (below_step (bl4 HB.out GE172.out GE173.out GE178.out GE179.out) hb); (try clear hb); have hcz55_0 : w54.cell? ⟨gb178, 0, none⟩ = some (.int .i64 t174) := (blk_cell BK178.out 0).trans rfl; have hcz55_1 : w54.cell? ⟨gb178, 1, none⟩ = some (.int .i64 t175) := (blk_cell BK178.out 1).trans rfl; have hfz55_0 := blk_frozen BK178.out 0; have hfz55_1 := blk_frozen BK178.out 1; have hcz56_0 : w54.cell? ⟨gb179, 0, none⟩ = some (.int .i64 t176) := (blk_cell BK179.out 0).trans rfl; have hcz56_1 : w54.cell? ⟨gb179, 1, none⟩ = some (.int .i64 t177) := (blk_cell BK179.out 1).trans rfl; have hfz56_0 := blk_frozen BK179.out 0; have hfz56_1 := blk_frozen BK179.out 1) | ((with_reducible refine gate_callee (f := 89) rfl ?_); refine goesL_ (some 26) rfl rfl Try.func89 (by kernel_rfl) rfl #[.agg #[.int .i64 t174, .int .i64 t175], .agg #[.int .i64 t177, .int .i64 (wrap64 (-t176))]] rfl am ?_; (with_reducible refine (corner_times.calls t174 t175 t177 (wrap64 (-t176)) t181 _ A27.out).mono ?_); rintro e w57 ⟨rfl, hb⟩; refine ⟨_, rfl, ?_⟩; replace BK172 := Aside0.mk (bb BK172.out hb); replace BK173 := Aside0.mk (bb BK173.out hb); replace BK178 := Aside0.mk (bb BK178.out hb); replace BK179 := Aside0.mk (bb BK179.out hb); replace HB := Aside0.mk (below_step (bl4 HB.out GE172.out GE173.out GE178.out GE179.out) hb); (try clear hb)) | ((with_reducible refine gate_callee (f := 91) rfl ?_); refine goesL_ (some 35) rfl rfl Try.func91 (by kernel_rfl) rfl #[.int .u64 (IntKind.u64.wrap (ji28)), .int .u64 (IntKind.u64.wrap (ji28))] rfl (by (try simp only [List.map_toArray, List.map_cons, List.map_nil]); first | done | (simp only [hji28]; rfl) | rfl | (simp only [List.length_drop, List.length_take]; rfl)) ?_; (with_reducible refine (wide_Mul.calls (IntKind.u64.wrap (ji28)) (IntKind.u64.wrap (ji28)) t182 t183 _ A29.out).mono ?_); rintro e w58 ⟨rfl, hb⟩; refine ⟨_, rfl, ?_⟩; replace BK172 := Aside0.mk (bb BK172.out hb); replace BK173 := Aside0.mk (bb BK173.out hb); replace BK178 := Aside0.mk (bb BK178.out hb); replace BK179 := Aside0.mk (bb BK179.out hb); replace HB := Aside0.mk (below_step (bl4 HB.out GE172.out GE173.out GE178.out GE179.out) hb); (try clear hb)) | ((with_reducible refine gate_callee (f := 90) rfl ?_); refine goesL_ (some 36) rfl rfl Try.func90 (by kernel_rfl) rfl #[.agg #[.int .u64 t182, .int .u64 t183], .int .u64 50] rfl am ?_; (with_reducible refine (wide_Scale.calls t182 t183 50 t184 t185 t186 _ A30.out).mono ?_); rintro e w59 ⟨rfl, hb⟩; refine ⟨_, rfl, ?_⟩; replace BK172 := Aside0.mk (bb BK172.out hb); replace BK173 := Aside0.mk (bb BK173.out hb); replace BK178 := Aside0.mk (bb BK178.out hb); replace BK179 := Aside0.mk (bb BK179.out hb); replace HB := Aside0.mk (below_step (bl4 HB.out GE172.out GE173.out GE178.out GE179.out) hb); (try clear hb)) | ((with_reducible refine gate_dst (N := 9) rfl ?_); refine be 9 (#[.int .u64 0, .int .u64 0]) 112 ?_; intro gb187 hg w60 hbox hb; have BK187 := Aside0.mk (hbox); have GW187 := Aside0.mk (gz (w := w) hg (bl4 HB.out GE172.out GE173.out GE178.out GE179.out)); have GE187 := GW187; have NB172_187 := Aside0.mk (nl hg BK172.out); have NB187_172 := Aside0.mk (nr hg BK172.out); have NB173_187 := Aside0.mk (nl hg BK173.out); have NB187_173 := Aside0.mk (nr hg BK173.out); have NB178_187 := Aside0.mk (nl hg BK178.out); have NB187_178 := Aside0.mk (nr hg BK178.out); have NB179_187 := Aside0.mk (nl hg BK179.out); have NB187_179 := Aside0.mk (nr hg BK179.out); replace BK172 := Aside0.mk (bb BK172.out hb); replace BK173 := Aside0.mk (bb BK173.out hb); replace BK178 := Aside0.mk (bb BK178.out hb); replace BK179 := Aside0.mk (bb BK179.out hb); replace HB := Aside0.mk (below_step (bl4 HB.out GE172.out GE173.out GE178.out GE179.out) hb); clear hb hbox hg; have hnb61 := NB187_172.out; have hnc61 := NB172_187.out; have hnb62 := NB187_173.out; have hnc62 := NB173_187.out; have hnb63 := NB187_178.out; have hnc63 := NB178_187.out; have hnb64 := NB187_179.out; have hnc64 := NB179_187.out; have hcz65_0 : w60.cell? ⟨gb187, 0, none⟩ = some (.int .u64 0) := (blk_cell BK187.out 0).trans rfl; have hcz65_1 : w60.cell? ⟨gb187, 1, none⟩ = some (.int .u64 0) := (blk_cell BK187.out 1).trans rfl; have hfz65_0 := blk_frozen BK187.out 0; have hfz65_1 := blk_frozen BK187.out 1))
 have n0_ : Aside0 (((w60.setCell ⟨gb187, 0, none⟩ (.int .u64 t184)).setCell ⟨gb187, 1, none⟩ (.int .u64 t185)).heap[gb172]? = some (.cells #[.int .i64 a0_0, .bool a0_1, .int .i64 a0_2, .int .i64 a0_3, .int .i64 a0_4, .int .i64 a0_5, .int .i64 a0_6, .int .i64 a0_7] 38 (0, 0))) := ⟨by (with_reducible repeat (first | refine blk_drewN ?_ _ | refine blk_drew ?_ | refine blk_alloc ?_ _)); refine blk_far ?_ NB172_187.out _; (with_reducible repeat (first | refine blk_drewN ?_ _ | refine blk_drew ?_ | refine blk_alloc ?_ _)); refine blk_far ?_ NB172_187.out _; (with_reducible repeat (first | refine blk_drewN ?_ _ | refine blk_drew ?_ | refine blk_alloc ?_ _)); exact BK172.out⟩
 have n1_ : Aside0 (((w60.setCell ⟨gb187, 0, none⟩ (.int .u64 t184)).setCell ⟨gb187, 1, none⟩ (.int .u64 t185)).heap[gb173]? = some (.cells #[.int .i64 a1_0, .bool a1_1, .int .i64 a1_2, .int .i64 a1_3, .int .i64 a1_4, .int .i64 a1_5, .int .i64 a1_6, .int .i64 a1_7] 38 (0, 0))) := ⟨by (with_reducible repeat (first | refine blk_drewN ?_ _ | refine blk_drew ?_ | refine blk_alloc ?_ _)); refine blk_far ?_ NB173_187.out _; (with_reducible repeat (first | refine blk_drewN ?_ _ | refine blk_drew ?_ | refine blk_alloc ?_ _)); refine blk_far ?_ NB173_187.out _; (with_reducible repeat (first | refine blk_drewN ?_ _ | refine blk_drew ?_ | refine blk_alloc ?_ _)); exact BK173.out⟩
 have n2_ : Aside0 (((w60.setCell ⟨gb187, 0, none⟩ (.int .u64 t184)).setCell ⟨gb187, 1, none⟩ (.int .u64 t185)).heap[gb178]? = some (.cells #[.int .i64 t174, .int .i64 t175] 36 (0, 0))) := ⟨by (with_reducible repeat (first | refine blk_drewN ?_ _ | refine blk_drew ?_ | refine blk_alloc ?_ _)); refine blk_far ?_ NB178_187.out _; (with_reducible repeat (first | refine blk_drewN ?_ _ | refine blk_drew ?_ | refine blk_alloc ?_ _)); refine blk_far ?_ NB178_187.out _; (with_reducible repeat (first | refine blk_drewN ?_ _ | refine blk_drew ?_ | refine blk_alloc ?_ _)); exact BK178.out⟩
 have n3_ : Aside0 (((w60.setCell ⟨gb187, 0, none⟩ (.int .u64 t184)).setCell ⟨gb187, 1, none⟩ (.int .u64 t185)).heap[gb179]? = some (.cells #[.int .i64 t176, .int .i64 t177] 36 (0, 0))) := ⟨by (with_reducible repeat (first | refine blk_drewN ?_ _ | refine blk_drew ?_ | refine blk_alloc ?_ _)); refine blk_far ?_ NB179_187.out _; (with_reducible repeat (first | refine blk_drewN ?_ _ | refine blk_drew ?_ | refine blk_alloc ?_ _)); refine blk_far ?_ NB179_187.out _; (with_reducible repeat (first | refine blk_drewN ?_ _ | refine blk_drew ?_ | refine blk_alloc ?_ _)); exact BK179.out⟩
 have n4_ : Aside0 (((w60.setCell ⟨gb187, 0, none⟩ (.int .u64 t184)).setCell ⟨gb187, 1, none⟩ (.int .u64 t185)).heap[gb187]? = some (.cells #[.int .u64 t184, .int .u64 t185] 112 (0, 0))) := ⟨by (with_reducible repeat (first | refine blk_drewN ?_ _ | refine blk_drew ?_ | refine blk_alloc ?_ _)); refine blk_put (cs := #[.int .u64 t184, .int .u64 0]) ?_ 1 _ rfl; (with_reducible repeat (first | refine blk_drewN ?_ _ | refine blk_drew ?_ | refine blk_alloc ?_ _)); refine blk_put (cs := #[.int .u64 0, .int .u64 0]) ?_ 0 _ rfl; (with_reducible repeat (first | refine blk_drewN ?_ _ | refine blk_drew ?_ | refine blk_alloc ?_ _)); exact BK187.out⟩
 have n5_ : Aside0 (Below w.heap.size w ((w60.setCell ⟨gb187, 0, none⟩ (.int .u64 t184)).setCell ⟨gb187, 1, none⟩ (.int .u64 t185))) := ⟨bl5 HB.out GE172.out GE173.out GE178.out GE179.out GE187.out⟩
 (try clear BK172)
 (try clear BK173)
 (try clear BK178)
 (try clear BK179)
 (try clear BK187)
 (try clear HB)
 generalize ((w60.setCell ⟨gb187, 0, none⟩ (.int .u64 t184)).setCell ⟨gb187, 1, none⟩ (.int .u64 t185)) = w66 at n0_ n1_ n2_ n3_ n4_ n5_ ⊢
 have BK172 := n0_
 have BK173 := n1_
 have BK178 := n2_
 have BK179 := n3_
 have BK187 := n4_
 have HB := n5_
 clear n0_ n1_ n2_ n3_ n4_ n5_
 replace BK172 := Aside0.mk (blk_drew BK172.out)
 replace BK173 := Aside0.mk (blk_drew BK173.out)
 replace BK178 := Aside0.mk (blk_drew BK178.out)
 replace BK179 := Aside0.mk (blk_drew BK179.out)
 replace BK187 := Aside0.mk (blk_drew BK187.out)
 replace HB := Aside0.mk (below_drew1 HB.out)
 refine start_ (n := 13) (S := fun w' => w'.cell? ⟨gb187, 0, none⟩ = some (.int .u64 t184) ∧ w'.cell? ⟨gb187, 1, none⟩ = some (.int .u64 t185) ∧ w'.cell? ⟨gb178, 0, none⟩ = some (.int .i64 t174) ∧ w'.cell? ⟨gb178, 1, none⟩ = some (.int .i64 t175) ∧ w'.cell? ⟨gb179, 0, none⟩ = some (.int .i64 t176) ∧ w'.cell? ⟨gb179, 1, none⟩ = some (.int .i64 t177)) (ds := []) (ba 13 0) (by kernel_rfl) rfl rfl ⟨(blk_cell BK187.out 0).trans rfl, (blk_cell BK187.out 1).trans rfl, (blk_cell BK178.out 0).trans rfl, (blk_cell BK178.out 1).trans rfl, (blk_cell BK179.out 0).trans rfl, (blk_cell BK179.out 1).trans rfl⟩ (fun hHeld => ?_); refine with_tabW corner_is.tab7 corner_is.bits7 (fun HT_ HW_ => ?_)
 generalize w66.drew = w67 at BK172 BK173 BK178 BK179 BK187 HB hHeld ⊢
 refine take_ (i := 0) (N := some 39) (v := ?_) (a' := ?_) (ba 13 1) rfl rfl (take_ofW HT_.out HW_.out (by kernel_rfl)) (fun _ _ _ h => h) (Or.inl ⟨by rfl, ?_⟩) hHeld ?_ ?_
 rotate_left
 ·rintro w' ⟨s0, s1, s2, s3, s4, s5⟩
  go_simp
  with_reducible rfl
 rotate_left
 ·exact pa
 refine take_ (i := 1) (N := some 40) (v := ?_) (a' := ?_) (ba 13 3) rfl rfl (take_ofW HT_.out HW_.out (by kernel_rfl)) (fun _ _ _ h => h) (Or.inl ⟨by rfl, ?_⟩) hHeld ?_ ?_
 rotate_left
 ·rintro w' ⟨s0, s1, s2, s3, s4, s5⟩
  go_simp
  with_reducible rfl
 rotate_left
 ·exact pa
 refine take_ (i := 2) (N := some 41) (v := ?_) (a' := ?_) (ba 13 7) rfl rfl (take_ofW HT_.out HW_.out (by kernel_rfl)) (fun _ _ _ h => h) (Or.inl ⟨by rfl, ?_⟩) hHeld ?_ ?_
 rotate_left
 ·rintro w' ⟨s0, s1, s2, s3, s4, s5⟩
  go_simp
  with_reducible rfl
 rotate_left
 ·exact pa
 refine take_ (i := 5) (N := some 44) (v := ?_) (a' := ?_) (ba 13 39) rfl rfl (take_ofW HT_.out HW_.out (by kernel_rfl)) (fun _ _ _ h => h) (Or.inl ⟨by rfl, ?_⟩) hHeld ?_ ?_
 rotate_left
 ·rintro w' ⟨s0, s1, s2, s3, s4, s5⟩
  go_simp
  with_reducible rfl
 rotate_left
 ·exact pa
 refine take_ (i := 6) (N := some 45) (v := ?_) (a' := ?_) (ba 13 103) rfl rfl (take_ofW HT_.out HW_.out (by kernel_rfl)) (fun _ _ _ h => h) (Or.inl ⟨by rfl, ?_⟩) hHeld ?_ ?_
 rotate_left
 ·rintro w' ⟨s0, s1, s2, s3, s4, s5⟩
  go_simp
  with_reducible rfl
 rotate_left
 ·exact pa
 refine one_ (i := 3) (N := some 42) (ba 13 111) rfl rfl (one_of HT_.out (by kernel_rfl)) (by decide) (fun K hK => ?_)
 refine goes_ Try.func89 (by kernel_rfl) rfl #[.agg #[.int .i64 t174, .int .i64 t175], .agg #[.int .i64 t174, .int .i64 t175]] (by rfl) rfl rfl am ?_
 with_reducible refine (corner_times.calls t174 t175 t174 t175 t188 _ A31.out).mono ?_
 rintro e w68 ⟨rfl, hb⟩
 refine ⟨_, rfl, ?_⟩
 replace BK172 := Aside0.mk (bb BK172.out hb)
 replace BK173 := Aside0.mk (bb BK173.out hb)
 replace BK178 := Aside0.mk (bb BK178.out hb)
 replace BK179 := Aside0.mk (bb BK179.out hb)
 replace BK187 := Aside0.mk (bb BK187.out hb)
 replace HB := Aside0.mk (below_step (bl5 HB.out GE172.out GE173.out GE178.out GE179.out GE187.out) hb)
 (try clear hb)
 (try clear hb2)
 (try clear hk)
 (try clear hi)
 refine hK.out _ _ ⟨(blk_cell BK187.out 0).trans rfl, (blk_cell BK187.out 1).trans rfl, (blk_cell BK178.out 0).trans rfl, (blk_cell BK178.out 1).trans rfl, (blk_cell BK179.out 0).trans rfl, (blk_cell BK179.out 1).trans rfl⟩ (fun hHeld => ?_)
 clear hK K
 refine np 42 ?_
 refine pI 4 43 (ba 13 127) HT_.out ?_
 refine one_ (i := 7) (N := some 46) (ba 13 255) rfl rfl (one_of HT_.out (by kernel_rfl)) (by decide) (fun K hK => ?_)
 refine goes_ Try.func89 (by kernel_rfl) rfl #[.agg #[.int .i64 t176, .int .i64 t177], .agg #[.int .i64 t176, .int .i64 t177]] (by rfl) rfl rfl am ?_
 with_reducible refine (corner_times.calls t176 t177 t176 t177 t189 _ A32.out).mono ?_
 rintro e w69 ⟨rfl, hb⟩
 refine ⟨_, rfl, ?_⟩
 replace BK172 := Aside0.mk (bb BK172.out hb)
 replace BK173 := Aside0.mk (bb BK173.out hb)
 replace BK178 := Aside0.mk (bb BK178.out hb)
 replace BK179 := Aside0.mk (bb BK179.out hb)
 replace BK187 := Aside0.mk (bb BK187.out hb)
 replace HB := Aside0.mk (below_step (bl5 HB.out GE172.out GE173.out GE178.out GE179.out GE187.out) hb)
 (try clear hb)
 (try clear hb2)
 (try clear hk)
 (try clear hi)
 refine hK.out _ _ ⟨(blk_cell BK187.out 0).trans rfl, (blk_cell BK187.out 1).trans rfl, (blk_cell BK178.out 0).trans rfl, (blk_cell BK178.out 1).trans rfl, (blk_cell BK179.out 0).trans rfl, (blk_cell BK179.out 1).trans rfl⟩ (fun hHeld => ?_)
 clear hK K
 refine np 46 ?_
 refine pI 8 47 (ba 13 511) HT_.out ?_
 refine one_ (i := 9) (N := some 48) (ba 13 1023) rfl rfl (one_of HT_.out (by kernel_rfl)) (by decide) (fun K hK => ?_)
 refine goes_ Try.func91 (by kernel_rfl) rfl #[.int .u64 (IntKind.u64.wrap (t188)), .int .u64 (IntKind.u64.wrap (t189))] (by rfl) rfl rfl am ?_
 with_reducible refine (wide_Mul.calls (IntKind.u64.wrap (t188)) (IntKind.u64.wrap (t189)) t190 t191 _ A33.out).mono ?_
 rintro e w70 ⟨rfl, hb⟩
 refine ⟨_, rfl, ?_⟩
 replace BK172 := Aside0.mk (bb BK172.out hb)
 replace BK173 := Aside0.mk (bb BK173.out hb)
 replace BK178 := Aside0.mk (bb BK178.out hb)
 replace BK179 := Aside0.mk (bb BK179.out hb)
 replace BK187 := Aside0.mk (bb BK187.out hb)
 replace HB := Aside0.mk (below_step (bl5 HB.out GE172.out GE173.out GE178.out GE179.out GE187.out) hb)
 (try clear hb)
 (try clear hb2)
 (try clear hk)
 (try clear hi)
 refine hK.out _ _ ⟨(blk_cell BK187.out 0).trans rfl, (blk_cell BK187.out 1).trans rfl, (blk_cell BK178.out 0).trans rfl, (blk_cell BK178.out 1).trans rfl, (blk_cell BK179.out 0).trans rfl, (blk_cell BK179.out 1).trans rfl⟩ (fun hHeld => ?_)
 clear hK K
 refine np 48 ?_
 refine one_ (i := 10) (N := some 49) (ba 13 2047) rfl rfl (one_of HT_.out (by kernel_rfl)) (by decide) (fun K hK => ?_)
 refine goes_ Try.func92 (by kernel_rfl) rfl #[.agg #[.int .u64 t184, .int .u64 t185], .agg #[.int .u64 t190, .int .u64 t191]] (by rfl) rfl rfl am ?_
 with_reducible refine (wide_Cmp.calls k t184 t185 t190 t191 t192 _ A34.out).mono ?_
 rintro e w71 ⟨rfl, hb⟩
 refine ⟨_, rfl, ?_⟩
 replace BK172 := Aside0.mk (bb BK172.out hb)
 replace BK173 := Aside0.mk (bb BK173.out hb)
 replace BK178 := Aside0.mk (bb BK178.out hb)
 replace BK179 := Aside0.mk (bb BK179.out hb)
 replace BK187 := Aside0.mk (bb BK187.out hb)
 replace HB := Aside0.mk (below_step (bl5 HB.out GE172.out GE173.out GE178.out GE179.out GE187.out) hb)
 (try clear hb)
 (try clear hb2)
 (try clear hk)
 (try clear hi)
 refine hK.out _ _ ⟨(blk_cell BK187.out 0).trans rfl, (blk_cell BK187.out 1).trans rfl, (blk_cell BK178.out 0).trans rfl, (blk_cell BK178.out 1).trans rfl, (blk_cell BK179.out 0).trans rfl, (blk_cell BK179.out 1).trans rfl⟩ (fun hHeld => ?_)
 clear hK K
 refine np 49 ?_
 refine pI 11 50 (ba 13 4095) HT_.out ?_
 refine pI 12 4 (ba 13 8191) HT_.out ?_
 refine done_ (done_of HT_.out (by kernel_rfl)) ?_
 try go_wp2
 go_ret
 exact ⟨by first | rfl | (simp [errW_none, errW_some] <;> rfl) | (simp only [← hji28]; first | rfl | (simp [errW_none, errW_some] <;> rfl)) | (simp [*, errW_none, errW_some] <;> rfl), bl5 HB.out GE172.out GE173.out GE178.out GE179.out GE187.out⟩

end Go.Proofs.Ytalgppclaolonaa.XColr
