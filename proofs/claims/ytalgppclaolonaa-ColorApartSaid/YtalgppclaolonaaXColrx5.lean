-- Printed by a program of this claim. Not trusted: Lean checks it.
import Derived.Test.YtalgppclaolonaaXColrx0
import Derived.Test.YtalgppclaolonaaXColrx3
import Derived.Test.YtalgppclaolonaaXColrx4
namespace Go.Proofs.Ytalgppclaolonaa.XColr
open Go.RowKit Go.Proofs.YtalgppclaolonaaW.PrintWords Go.Proofs.YtalgppclaolonaaW.PrintLast Go.Proofs.YtalgppclaolonaaW.PrintMore
attribute [local go_sem] max2_int min2_int max_two min_two max_three min_three max_four min_four   -- for this text's walks alone
set_option linter.unusedVariables false
set_option linter.unusedSimpArgs false
open XOpen

/-! ### wide_Scale: function 90 -/
set_option maxHeartbeats 8000000 in
set_option maxRecDepth 100000 in
theorem wide_Scale.calls (a0_0 : Int) (a0_1 : Int) (a1 : Int) (r1 : Int) (r2 : Int) (r3 : Int) (w : World) (h : wide_Scale.f a0_0 a0_1 a1 = some (r1, r2, r3)) :
  Calls Try.prog 90 #[.agg #[.int .u64 a0_0, .int .u64 a0_1], .int .u64 a1] w fun e w' => e = .returned (.tuple #[.agg #[.int .u64 r1, .int .u64 r2], .int .i64 r3]) ∧ Below w.heap.size w w' := by
 have hu112 := Try.underlying112
 have HB := Aside0.mk (Below.refl w.heap.size w)
 have H := h
 clear h; unfold wide_Scale.f at H
 replace H := Option.bind_eq_some_iff.mp H
 obtain ⟨⟨t152, t153⟩, A30, H⟩ := H
 replace H : ((wide_Mul.f a0_0 a1).bind fun bt154 => (if bt154.1 = 0 then ((wide_Add.f t152 t153 bt154.2 0).bind fun bt158 => (some (bt158.1, bt158.2.1, bt158.2.2))) else (some (0, 0, 2)))) = some (r1, r2, r3) := H
 have A3 := Aside0.mk A30
 clear A30
 replace H := Option.bind_eq_some_iff.mp H
 obtain ⟨⟨t154, t155⟩, A40, H⟩ := H
 replace H : (if t154 = 0 then ((wide_Add.f t152 t153 t155 0).bind fun bt158 => (some (bt158.1, bt158.2.1, bt158.2.2))) else (some (0, 0, 2))) = some (r1, r2, r3) := H
 have A4 := Aside0.mk A40
 clear A40
 by_cases c5 : t154 = 0
 ·rw [if_pos c5] at H
  have c5b0 : (t154 == 0) = true := beq_iff_eq.mpr c5
  have c5b1 : (t154 != 0) = false := bne_eq_false_iff_eq.mpr c5
  clear c5
  replace H := Option.bind_eq_some_iff.mp H
  obtain ⟨⟨t158, t159, t160⟩, A60, H⟩ := H
  replace H : (some (t158, t159, t160)) = some (r1, r2, r3) := H
  have A6 := Aside0.mk A60
  clear A60
  simp only [Option.some.injEq, Prod.mk.injEq] at H
  obtain ⟨rfl, rfl, rfl⟩ := H
  go_enter Try.func90, Try.ntmps90
  try go_wp2_with (first | ((with_reducible refine gate_dst (N := 2) rfl ?_); refine be 2 (#[.int .u64 a0_0, .int .u64 a0_1]) 112 ?_; intro gb150 hg w7 hbox hb; have BK150 := Aside0.mk (hbox); have GW150 := Aside0.mk (gz (w := w) hg (bl0 HB.out)); have GE150 := GW150; replace HB := Aside0.mk (below_step (bl0 HB.out) hb); clear hb hbox hg) | ((with_reducible refine gate_dst (N := 4) rfl ?_); refine be 4 (#[.int .u64 0, .int .u64 0]) 112 ?_; intro gb151 hg w8 hbox hb; have BK151 := Aside0.mk (hbox); have GW151 := Aside0.mk (gz (w := w) hg (bl1 HB.out GE150.out)); have GE151 := GW151; have NB150_151 := Aside0.mk (nl hg BK150.out); have NB151_150 := Aside0.mk (nr hg BK150.out); replace BK150 := Aside0.mk (bb BK150.out hb); replace HB := Aside0.mk (below_step (bl1 HB.out GE150.out) hb); clear hb hbox hg))
  replace BK150 := Aside0.mk (blk_drew BK150.out)
  replace BK151 := Aside0.mk (blk_drew BK151.out)
  replace HB := Aside0.mk (below_drew1 HB.out)
  obtain ⟨SS, eS⟩ : ∃ SS : World → Prop, Aside0 (SS = fun w' => w'.cell? ⟨gb150, 0, none⟩ = some (.int .u64 a0_0) ∧ w'.cell? ⟨gb150, 1, none⟩ = some (.int .u64 a0_1)) := ⟨_, ⟨rfl⟩⟩
  have mS : ∀ w' : World, w'.heap[gb150]? = some (.cells #[.int .u64 a0_0, .int .u64 a0_1] 112 (0, 0)) → SS w' := by intro w' b0; rw [eS.out]; exact ⟨(blk_cell b0 0).trans rfl, (blk_cell b0 1).trans rfl⟩
  refine start_ (n := 12) (S := SS) (ds := []) (ba 12 0) (by kernel_rfl) rfl rfl (mS _ BK150.out) (fun hHeld => ?_); refine with_tabW wide_Scale.tab1 wide_Scale.bits1 (fun HT_ HW_ => ?_)
  generalize w8.drew = w9 at BK150 BK151 HB hHeld ⊢
  refine pI 0 8 (ba 12 1) HT_.out ?_
  refine pI 2 10 (ba 12 5) HT_.out ?_
  refine pI 4 12 (ba 12 21) HT_.out ?_
  refine pI 6 14 (ba 12 85) HT_.out ?_
  refine take_ (i := 1) (N := some 9) (v := ?_) (a' := ?_) (ba 12 87) rfl rfl (take_ofW HT_.out HW_.out (by kernel_rfl)) (fun _ _ _ h => h) (Or.inl ⟨by rfl, ?_⟩) hHeld ?_ ?_
  rotate_left
  ·rintro w' hs; rw [eS.out] at hs; obtain ⟨s0, s1⟩ := hs
   go_simp
   with_reducible rfl
  rotate_left
  ·exact pa
  refine take_ (i := 5) (N := some 13) (v := ?_) (a' := ?_) (ba 12 119) rfl rfl (take_ofW HT_.out HW_.out (by kernel_rfl)) (fun _ _ _ h => h) (Or.inl ⟨by rfl, ?_⟩) hHeld ?_ ?_
  rotate_left
  ·rintro w' hs; rw [eS.out] at hs; obtain ⟨s0, s1⟩ := hs
   go_simp
   with_reducible rfl
  rotate_left
  ·exact pa
  refine join_ (σ := Nat × Nat) 2 (ba 12 1023) (fun s_ => [(11, .agg #[.int .u64 t152, .int .u64 t153]), (15, .agg #[.int .u64 t154, .int .u64 t155]), (6, .pointer (some ⟨s_.1, 0, none⟩)), (7, .pointer (some ⟨s_.2, 0, none⟩))]) (fun s_ w' => (SS w') ∧ (w'.heap[gb150]? = some (.cells #[.int .u64 a0_0, .int .u64 a0_1] 112 (0, 0))) ∧ (w'.heap[gb151]? = some (.cells #[.int .u64 0, .int .u64 0] 112 (0, 0))) ∧ (w'.heap[s_.1]? = some (.cells #[.int .u64 0, .int .u64 0] 112 (0, 0))) ∧ (w'.heap[s_.2]? = some (.cells #[.int .u64 0, .int .u64 0] 112 (0, 0))) ∧ (w.heap.size ≤ s_.1) ∧ (w.heap.size ≤ s_.1) ∧ (gb150 ≠ s_.1) ∧ (s_.1 ≠ gb150) ∧ (gb151 ≠ s_.1) ∧ (s_.1 ≠ gb151) ∧ (s_.2 ≠ s_.1) ∧ (s_.1 ≠ s_.2) ∧ (w.heap.size ≤ s_.2) ∧ (w.heap.size ≤ s_.2) ∧ (gb150 ≠ s_.2) ∧ (s_.2 ≠ gb150) ∧ (gb151 ≠ s_.2) ∧ (s_.2 ≠ gb151) ∧ (Below w.heap.size w w')) ?_ ?_
  rotate_left
  ·intro hJ3_7_8_9
   refine join_ (σ := Nat) 3 (ba 12 511) (fun s_ => [(11, .agg #[.int .u64 t152, .int .u64 t153]), (15, .agg #[.int .u64 t154, .int .u64 t155]), (6, .pointer (some ⟨s_, 0, none⟩))]) (fun s_ w' => (SS w') ∧ (w'.heap[gb150]? = some (.cells #[.int .u64 a0_0, .int .u64 a0_1] 112 (0, 0))) ∧ (w'.heap[gb151]? = some (.cells #[.int .u64 0, .int .u64 0] 112 (0, 0))) ∧ (w'.heap[s_]? = some (.cells #[.int .u64 0, .int .u64 0] 112 (0, 0))) ∧ (w.heap.size ≤ s_) ∧ (w.heap.size ≤ s_) ∧ (gb150 ≠ s_) ∧ (s_ ≠ gb150) ∧ (gb151 ≠ s_) ∧ (s_ ≠ gb151) ∧ (Below w.heap.size w w')) ?_ ?_
   rotate_left
   ·intro hJ3_7_8
    refine join_ (σ := Nat) 3 (ba 12 767) (fun s_ => [(11, .agg #[.int .u64 t152, .int .u64 t153]), (15, .agg #[.int .u64 t154, .int .u64 t155]), (7, .pointer (some ⟨s_, 0, none⟩))]) (fun s_ w' => (SS w') ∧ (w'.heap[gb150]? = some (.cells #[.int .u64 a0_0, .int .u64 a0_1] 112 (0, 0))) ∧ (w'.heap[gb151]? = some (.cells #[.int .u64 0, .int .u64 0] 112 (0, 0))) ∧ (w'.heap[s_]? = some (.cells #[.int .u64 0, .int .u64 0] 112 (0, 0))) ∧ (w.heap.size ≤ s_) ∧ (w.heap.size ≤ s_) ∧ (gb150 ≠ s_) ∧ (s_ ≠ gb150) ∧ (gb151 ≠ s_) ∧ (s_ ≠ gb151) ∧ (Below w.heap.size w w')) ?_ ?_
    rotate_left
    ·intro hJ3_7_9
     refine join_ (σ := Nat × Nat) 3 (ba 12 895) (fun s_ => [(11, .agg #[.int .u64 t152, .int .u64 t153]), (6, .pointer (some ⟨s_.1, 0, none⟩)), (7, .pointer (some ⟨s_.2, 0, none⟩))]) (fun s_ w' => (SS w') ∧ (w'.heap[gb150]? = some (.cells #[.int .u64 a0_0, .int .u64 a0_1] 112 (0, 0))) ∧ (w'.heap[gb151]? = some (.cells #[.int .u64 0, .int .u64 0] 112 (0, 0))) ∧ (w'.heap[s_.1]? = some (.cells #[.int .u64 0, .int .u64 0] 112 (0, 0))) ∧ (w'.heap[s_.2]? = some (.cells #[.int .u64 0, .int .u64 0] 112 (0, 0))) ∧ (w.heap.size ≤ s_.1) ∧ (w.heap.size ≤ s_.1) ∧ (gb150 ≠ s_.1) ∧ (s_.1 ≠ gb150) ∧ (gb151 ≠ s_.1) ∧ (s_.1 ≠ gb151) ∧ (s_.2 ≠ s_.1) ∧ (s_.1 ≠ s_.2) ∧ (w.heap.size ≤ s_.2) ∧ (w.heap.size ≤ s_.2) ∧ (gb150 ≠ s_.2) ∧ (s_.2 ≠ gb150) ∧ (gb151 ≠ s_.2) ∧ (s_.2 ≠ gb151) ∧ (Below w.heap.size w w')) ?_ ?_
     rotate_left
     ·intro hJ3_8_9
      refine join_ (σ := Unit) 4 (ba 12 255) (fun s_ => [(11, .agg #[.int .u64 t152, .int .u64 t153]), (15, .agg #[.int .u64 t154, .int .u64 t155])]) (fun s_ w' => (SS w') ∧ (w'.heap[gb150]? = some (.cells #[.int .u64 a0_0, .int .u64 a0_1] 112 (0, 0))) ∧ (w'.heap[gb151]? = some (.cells #[.int .u64 0, .int .u64 0] 112 (0, 0))) ∧ (Below w.heap.size w w')) ?_ ?_
      rotate_left
      ·intro hJ3_7
       refine join_ (σ := Nat) 4 (ba 12 383) (fun s_ => [(11, .agg #[.int .u64 t152, .int .u64 t153]), (6, .pointer (some ⟨s_, 0, none⟩))]) (fun s_ w' => (SS w') ∧ (w'.heap[gb150]? = some (.cells #[.int .u64 a0_0, .int .u64 a0_1] 112 (0, 0))) ∧ (w'.heap[gb151]? = some (.cells #[.int .u64 0, .int .u64 0] 112 (0, 0))) ∧ (w'.heap[s_]? = some (.cells #[.int .u64 0, .int .u64 0] 112 (0, 0))) ∧ (w.heap.size ≤ s_) ∧ (w.heap.size ≤ s_) ∧ (gb150 ≠ s_) ∧ (s_ ≠ gb150) ∧ (gb151 ≠ s_) ∧ (s_ ≠ gb151) ∧ (Below w.heap.size w w')) ?_ ?_
       rotate_left
       ·intro hJ3_8
        refine join_ (σ := Nat) 4 (ba 12 639) (fun s_ => [(11, .agg #[.int .u64 t152, .int .u64 t153]), (7, .pointer (some ⟨s_, 0, none⟩))]) (fun s_ w' => (SS w') ∧ (w'.heap[gb150]? = some (.cells #[.int .u64 a0_0, .int .u64 a0_1] 112 (0, 0))) ∧ (w'.heap[gb151]? = some (.cells #[.int .u64 0, .int .u64 0] 112 (0, 0))) ∧ (w'.heap[s_]? = some (.cells #[.int .u64 0, .int .u64 0] 112 (0, 0))) ∧ (w.heap.size ≤ s_) ∧ (w.heap.size ≤ s_) ∧ (gb150 ≠ s_) ∧ (s_ ≠ gb150) ∧ (gb151 ≠ s_) ∧ (s_ ≠ gb151) ∧ (Below w.heap.size w w')) ?_ ?_
        rotate_left
        ·intro hJ3_9
         refine join_ (σ := Nat × Nat) 4 (ba 12 887) (fun s_ => [(6, .pointer (some ⟨s_.1, 0, none⟩)), (7, .pointer (some ⟨s_.2, 0, none⟩))]) (fun s_ w' => (SS w') ∧ (w'.heap[gb150]? = some (.cells #[.int .u64 a0_0, .int .u64 a0_1] 112 (0, 0))) ∧ (w'.heap[gb151]? = some (.cells #[.int .u64 0, .int .u64 0] 112 (0, 0))) ∧ (w'.heap[s_.1]? = some (.cells #[.int .u64 0, .int .u64 0] 112 (0, 0))) ∧ (w'.heap[s_.2]? = some (.cells #[.int .u64 0, .int .u64 0] 112 (0, 0))) ∧ (w.heap.size ≤ s_.1) ∧ (w.heap.size ≤ s_.1) ∧ (gb150 ≠ s_.1) ∧ (s_.1 ≠ gb150) ∧ (gb151 ≠ s_.1) ∧ (s_.1 ≠ gb151) ∧ (s_.2 ≠ s_.1) ∧ (s_.1 ≠ s_.2) ∧ (w.heap.size ≤ s_.2) ∧ (w.heap.size ≤ s_.2) ∧ (gb150 ≠ s_.2) ∧ (s_.2 ≠ gb150) ∧ (gb151 ≠ s_.2) ∧ (s_.2 ≠ gb151) ∧ (Below w.heap.size w w')) ?_ ?_
         rotate_left
         ·intro hJ8_9
          refine join_ (σ := Unit) 5 (ba 12 127) (fun s_ => [(11, .agg #[.int .u64 t152, .int .u64 t153])]) (fun s_ w' => (SS w') ∧ (w'.heap[gb150]? = some (.cells #[.int .u64 a0_0, .int .u64 a0_1] 112 (0, 0))) ∧ (w'.heap[gb151]? = some (.cells #[.int .u64 0, .int .u64 0] 112 (0, 0))) ∧ (Below w.heap.size w w')) ?_ ?_
          rotate_left
          ·intro hJ3
           refine join_ (σ := Nat) 5 (ba 12 375) (fun s_ => [(6, .pointer (some ⟨s_, 0, none⟩))]) (fun s_ w' => (SS w') ∧ (w'.heap[gb150]? = some (.cells #[.int .u64 a0_0, .int .u64 a0_1] 112 (0, 0))) ∧ (w'.heap[gb151]? = some (.cells #[.int .u64 0, .int .u64 0] 112 (0, 0))) ∧ (w'.heap[s_]? = some (.cells #[.int .u64 0, .int .u64 0] 112 (0, 0))) ∧ (w.heap.size ≤ s_) ∧ (w.heap.size ≤ s_) ∧ (gb150 ≠ s_) ∧ (s_ ≠ gb150) ∧ (gb151 ≠ s_) ∧ (s_ ≠ gb151) ∧ (Below w.heap.size w w')) ?_ ?_
           rotate_left
           ·intro hJ8
            refine join_ (σ := Nat) 5 (ba 12 631) (fun s_ => [(7, .pointer (some ⟨s_, 0, none⟩))]) (fun s_ w' => (SS w') ∧ (w'.heap[gb150]? = some (.cells #[.int .u64 a0_0, .int .u64 a0_1] 112 (0, 0))) ∧ (w'.heap[gb151]? = some (.cells #[.int .u64 0, .int .u64 0] 112 (0, 0))) ∧ (w'.heap[s_]? = some (.cells #[.int .u64 0, .int .u64 0] 112 (0, 0))) ∧ (w.heap.size ≤ s_) ∧ (w.heap.size ≤ s_) ∧ (gb150 ≠ s_) ∧ (s_ ≠ gb150) ∧ (gb151 ≠ s_) ∧ (s_ ≠ gb151) ∧ (Below w.heap.size w w')) ?_ ?_
            rotate_left
            ·intro hJ9
             refine three_ (i := 3) (j := 8) (k := 9) (Ni := some 11) (Nj := some 6) (Nk := some 7) (ba 12 127) (ba 12 375) (ba 12 631) rfl rfl rfl rfl rfl rfl (three_of HT_.out (by kernel_rfl)) (by decide) (by decide) (by decide) (fun K hK => ?_) (fun K hK => ?_) (fun K hK => ?_)
             ·skip
              refine goes_ Try.func91 (by kernel_rfl) rfl #[.int .u64 a0_1, .int .u64 a1] (by rfl) rfl rfl am ?_
              with_reducible refine (wide_Mul.calls a0_1 a1 t152 t153 _ A3.out).mono ?_
              rintro e w10 ⟨rfl, hb⟩
              refine ⟨_, rfl, ?_⟩
              replace BK150 := Aside0.mk (bb BK150.out hb)
              replace BK151 := Aside0.mk (bb BK151.out hb)
              replace HB := Aside0.mk (below_step (bl2 HB.out GE150.out GE151.out) hb)
              (try clear hb)
              (try clear hb2)
              (try clear hk)
              (try clear hi)
              refine hK.out _ _ (mS _ BK150.out) (fun hHeld => ?_)
              clear hK K
              refine np 11 ?_
              exact nj (hJ3 () _ ⟨hHeld, (bk BK150.out), (bk BK151.out), (bl2 HB.out GE150.out GE151.out)⟩)
             ·skip
              refine bs 6 (#[.int .u64 0, .int .u64 0]) 112 ?_
              intro gb156 hg w10 hbox hb
              have BK156 := Aside0.mk (hbox)
              have GW156 := Aside0.mk (gz (w := w) hg (bl2 HB.out GE150.out GE151.out))
              have GE156 := GW156
              have NB150_156 := Aside0.mk (nl hg BK150.out)
              have NB156_150 := Aside0.mk (nr hg BK150.out)
              have NB151_156 := Aside0.mk (nl hg BK151.out)
              have NB156_151 := Aside0.mk (nr hg BK151.out)
              replace BK150 := Aside0.mk (bb BK150.out hb)
              replace BK151 := Aside0.mk (bb BK151.out hb)
              replace HB := Aside0.mk (below_step (bl2 HB.out GE150.out GE151.out) hb)
              clear hb hbox hg
              refine hK.out _ _ (mS _ BK150.out) (fun hHeld => ?_)
              clear hK K
              refine np 6 ?_
              exact nj (hJ8 (gb156) _ ⟨hHeld, (bk BK150.out), (bk BK151.out), (bk BK156.out), GW156.out, GE156.out, NB150_156.out, NB156_150.out, NB151_156.out, NB156_151.out, (bl3 HB.out GE150.out GE151.out GE156.out)⟩)
             ·skip
              refine bs 7 (#[.int .u64 0, .int .u64 0]) 112 ?_
              intro gb157 hg w10 hbox hb
              have BK157 := Aside0.mk (hbox)
              have GW157 := Aside0.mk (gz (w := w) hg (bl2 HB.out GE150.out GE151.out))
              have GE157 := GW157
              have NB150_157 := Aside0.mk (nl hg BK150.out)
              have NB157_150 := Aside0.mk (nr hg BK150.out)
              have NB151_157 := Aside0.mk (nl hg BK151.out)
              have NB157_151 := Aside0.mk (nr hg BK151.out)
              replace BK150 := Aside0.mk (bb BK150.out hb)
              replace BK151 := Aside0.mk (bb BK151.out hb)
              replace HB := Aside0.mk (below_step (bl2 HB.out GE150.out GE151.out) hb)
              clear hb hbox hg
              refine hK.out _ _ (mS _ BK150.out) (fun hHeld => ?_)
              clear hK K
              refine np 7 ?_
              exact nj (hJ9 (gb157) _ ⟨hHeld, (bk BK150.out), (bk BK151.out), (bk BK157.out), GW157.out, GE157.out, NB150_157.out, NB157_150.out, NB151_157.out, NB157_151.out, (bl3 HB.out GE150.out GE151.out GE157.out)⟩)
            ·skip
             rintro gb157 w11 ⟨hS_, h0_, h1_, h2_, h3_, h4_, h5_, h6_, h7_, h8_, h9_⟩
             have BK157 : Aside0 (w11.heap[gb157]? = some (.cells #[.int .u64 0, .int .u64 0] 112 (0, 0))) := ⟨h2_⟩
             have GW157 : Aside0 (w.heap.size ≤ gb157) := ⟨h3_⟩
             have GE157 : Aside0 (w.heap.size ≤ gb157) := ⟨h4_⟩
             have NB150_157 : Aside0 (gb150 ≠ gb157) := ⟨h5_⟩
             have NB157_150 : Aside0 (gb157 ≠ gb150) := ⟨h6_⟩
             have NB151_157 : Aside0 (gb151 ≠ gb157) := ⟨h7_⟩
             have NB157_151 : Aside0 (gb157 ≠ gb151) := ⟨h8_⟩
             replace BK150 : Aside0 (w11.heap[gb150]? = some (.cells #[.int .u64 a0_0, .int .u64 a0_1] 112 (0, 0))) := ⟨h0_⟩
             replace BK151 : Aside0 (w11.heap[gb151]? = some (.cells #[.int .u64 0, .int .u64 0] 112 (0, 0))) := ⟨h1_⟩
             replace HB : Aside0 (Below w.heap.size w w11) := ⟨h9_⟩
             clear h0_ h1_ h2_ h3_ h4_ h5_ h6_ h7_ h8_ h9_
             have hHeld := hS_
             refine na ?_
             refine two_ (i := 3) (j := 8) (Ni := some 11) (Nj := some 6) (ba 12 639) (ba 12 887) rfl rfl rfl rfl (two_of HT_.out (by kernel_rfl)) (by decide) (by decide) (fun K hK => ?_) (fun K hK => ?_)
             ·skip
              refine goes_ Try.func91 (by kernel_rfl) rfl #[.int .u64 a0_1, .int .u64 a1] (by rfl) rfl rfl am ?_
              with_reducible refine (wide_Mul.calls a0_1 a1 t152 t153 _ A3.out).mono ?_
              rintro e w12 ⟨rfl, hb⟩
              refine ⟨_, rfl, ?_⟩
              replace BK150 := Aside0.mk (bb BK150.out hb)
              replace BK151 := Aside0.mk (bb BK151.out hb)
              replace BK157 := Aside0.mk (bb BK157.out hb)
              replace HB := Aside0.mk (below_step (bl3 HB.out GE150.out GE151.out GE157.out) hb)
              (try clear hb)
              (try clear hb2)
              (try clear hk)
              (try clear hi)
              refine hK.out _ _ (mS _ BK150.out) (fun hHeld => ?_)
              clear hK K
              refine np 11 ?_
              exact nj (hJ3_9 (gb157) _ ⟨hHeld, (bk BK150.out), (bk BK151.out), (bk BK157.out), GW157.out, GE157.out, NB150_157.out, NB157_150.out, NB151_157.out, NB157_151.out, (bl3 HB.out GE150.out GE151.out GE157.out)⟩)
             ·skip
              refine bs 6 (#[.int .u64 0, .int .u64 0]) 112 ?_
              intro gb156 hg w12 hbox hb
              have BK156 := Aside0.mk (hbox)
              have GW156 := Aside0.mk (gz (w := w) hg (bl3 HB.out GE150.out GE151.out GE157.out))
              have GE156 := GW156
              have NB150_156 := Aside0.mk (nl hg BK150.out)
              have NB156_150 := Aside0.mk (nr hg BK150.out)
              have NB151_156 := Aside0.mk (nl hg BK151.out)
              have NB156_151 := Aside0.mk (nr hg BK151.out)
              have NB157_156 := Aside0.mk (nl hg BK157.out)
              have NB156_157 := Aside0.mk (nr hg BK157.out)
              replace BK150 := Aside0.mk (bb BK150.out hb)
              replace BK151 := Aside0.mk (bb BK151.out hb)
              replace BK157 := Aside0.mk (bb BK157.out hb)
              replace HB := Aside0.mk (below_step (bl3 HB.out GE150.out GE151.out GE157.out) hb)
              clear hb hbox hg
              refine hK.out _ _ (mS _ BK150.out) (fun hHeld => ?_)
              clear hK K
              refine np 6 ?_
              exact nj (hJ8_9 (gb156, gb157) _ ⟨hHeld, (bk BK150.out), (bk BK151.out), (bk BK156.out), (bk BK157.out), GW156.out, GE156.out, NB150_156.out, NB156_150.out, NB151_156.out, NB156_151.out, NB157_156.out, NB156_157.out, GW157.out, GE157.out, NB150_157.out, NB157_150.out, NB151_157.out, NB157_151.out, (bl4 HB.out GE150.out GE151.out GE157.out GE156.out)⟩)
           ·skip
            rintro gb156 w11 ⟨hS_, h0_, h1_, h2_, h3_, h4_, h5_, h6_, h7_, h8_, h9_⟩
            have BK156 : Aside0 (w11.heap[gb156]? = some (.cells #[.int .u64 0, .int .u64 0] 112 (0, 0))) := ⟨h2_⟩
            have GW156 : Aside0 (w.heap.size ≤ gb156) := ⟨h3_⟩
            have GE156 : Aside0 (w.heap.size ≤ gb156) := ⟨h4_⟩
            have NB150_156 : Aside0 (gb150 ≠ gb156) := ⟨h5_⟩
            have NB156_150 : Aside0 (gb156 ≠ gb150) := ⟨h6_⟩
            have NB151_156 : Aside0 (gb151 ≠ gb156) := ⟨h7_⟩
            have NB156_151 : Aside0 (gb156 ≠ gb151) := ⟨h8_⟩
            replace BK150 : Aside0 (w11.heap[gb150]? = some (.cells #[.int .u64 a0_0, .int .u64 a0_1] 112 (0, 0))) := ⟨h0_⟩
            replace BK151 : Aside0 (w11.heap[gb151]? = some (.cells #[.int .u64 0, .int .u64 0] 112 (0, 0))) := ⟨h1_⟩
            replace HB : Aside0 (Below w.heap.size w w11) := ⟨h9_⟩
            clear h0_ h1_ h2_ h3_ h4_ h5_ h6_ h7_ h8_ h9_
            have hHeld := hS_
            refine na ?_
            refine two_ (i := 3) (j := 9) (Ni := some 11) (Nj := some 7) (ba 12 383) (ba 12 887) rfl rfl rfl rfl (two_of HT_.out (by kernel_rfl)) (by decide) (by decide) (fun K hK => ?_) (fun K hK => ?_)
            ·skip
             refine goes_ Try.func91 (by kernel_rfl) rfl #[.int .u64 a0_1, .int .u64 a1] (by rfl) rfl rfl am ?_
             with_reducible refine (wide_Mul.calls a0_1 a1 t152 t153 _ A3.out).mono ?_
             rintro e w12 ⟨rfl, hb⟩
             refine ⟨_, rfl, ?_⟩
             replace BK150 := Aside0.mk (bb BK150.out hb)
             replace BK151 := Aside0.mk (bb BK151.out hb)
             replace BK156 := Aside0.mk (bb BK156.out hb)
             replace HB := Aside0.mk (below_step (bl3 HB.out GE150.out GE151.out GE156.out) hb)
             (try clear hb)
             (try clear hb2)
             (try clear hk)
             (try clear hi)
             refine hK.out _ _ (mS _ BK150.out) (fun hHeld => ?_)
             clear hK K
             refine np 11 ?_
             exact nj (hJ3_8 (gb156) _ ⟨hHeld, (bk BK150.out), (bk BK151.out), (bk BK156.out), GW156.out, GE156.out, NB150_156.out, NB156_150.out, NB151_156.out, NB156_151.out, (bl3 HB.out GE150.out GE151.out GE156.out)⟩)
            ·skip
             refine bs 7 (#[.int .u64 0, .int .u64 0]) 112 ?_
             intro gb157 hg w12 hbox hb
             have BK157 := Aside0.mk (hbox)
             have GW157 := Aside0.mk (gz (w := w) hg (bl3 HB.out GE150.out GE151.out GE156.out))
             have GE157 := GW157
             have NB150_157 := Aside0.mk (nl hg BK150.out)
             have NB157_150 := Aside0.mk (nr hg BK150.out)
             have NB151_157 := Aside0.mk (nl hg BK151.out)
             have NB157_151 := Aside0.mk (nr hg BK151.out)
             have NB156_157 := Aside0.mk (nl hg BK156.out)
             have NB157_156 := Aside0.mk (nr hg BK156.out)
             replace BK150 := Aside0.mk (bb BK150.out hb)
             replace BK151 := Aside0.mk (bb BK151.out hb)
             replace BK156 := Aside0.mk (bb BK156.out hb)
             replace HB := Aside0.mk (below_step (bl3 HB.out GE150.out GE151.out GE156.out) hb)
             clear hb hbox hg
             refine hK.out _ _ (mS _ BK150.out) (fun hHeld => ?_)
             clear hK K
             refine np 7 ?_
             exact nj (hJ8_9 (gb156, gb157) _ ⟨hHeld, (bk BK150.out), (bk BK151.out), (bk BK156.out), (bk BK157.out), GW156.out, GE156.out, NB150_156.out, NB156_150.out, NB151_156.out, NB156_151.out, NB157_156.out, NB156_157.out, GW157.out, GE157.out, NB150_157.out, NB157_150.out, NB151_157.out, NB157_151.out, (bl4 HB.out GE150.out GE151.out GE156.out GE157.out)⟩)
          ·skip
           rintro _ w11 ⟨hS_, h0_, h1_, h2_⟩
           replace BK150 : Aside0 (w11.heap[gb150]? = some (.cells #[.int .u64 a0_0, .int .u64 a0_1] 112 (0, 0))) := ⟨h0_⟩
           replace BK151 : Aside0 (w11.heap[gb151]? = some (.cells #[.int .u64 0, .int .u64 0] 112 (0, 0))) := ⟨h1_⟩
           replace HB : Aside0 (Below w.heap.size w w11) := ⟨h2_⟩
           clear h0_ h1_ h2_
           have hHeld := hS_
           refine na ?_
           refine three_ (i := 7) (j := 8) (k := 9) (Ni := some 15) (Nj := some 6) (Nk := some 7) (ba 12 255) (ba 12 383) (ba 12 639) rfl rfl rfl rfl rfl rfl (three_of HT_.out (by kernel_rfl)) (by decide) (by decide) (by decide) (fun K hK => ?_) (fun K hK => ?_) (fun K hK => ?_)
           ·skip
            refine goes_ Try.func91 (by kernel_rfl) rfl #[.int .u64 a0_0, .int .u64 a1] (by rfl) rfl rfl am ?_
            with_reducible refine (wide_Mul.calls a0_0 a1 t154 t155 _ A4.out).mono ?_
            rintro e w12 ⟨rfl, hb⟩
            refine ⟨_, rfl, ?_⟩
            replace BK150 := Aside0.mk (bb BK150.out hb)
            replace BK151 := Aside0.mk (bb BK151.out hb)
            replace HB := Aside0.mk (below_step (bl2 HB.out GE150.out GE151.out) hb)
            (try clear hb)
            (try clear hb2)
            (try clear hk)
            (try clear hi)
            refine hK.out _ _ (mS _ BK150.out) (fun hHeld => ?_)
            clear hK K
            refine np 15 ?_
            exact nj (hJ3_7 () _ ⟨hHeld, (bk BK150.out), (bk BK151.out), (bl2 HB.out GE150.out GE151.out)⟩)
           ·skip
            refine bs 6 (#[.int .u64 0, .int .u64 0]) 112 ?_
            intro gb156 hg w12 hbox hb
            have BK156 := Aside0.mk (hbox)
            have GW156 := Aside0.mk (gz (w := w) hg (bl2 HB.out GE150.out GE151.out))
            have GE156 := GW156
            have NB150_156 := Aside0.mk (nl hg BK150.out)
            have NB156_150 := Aside0.mk (nr hg BK150.out)
            have NB151_156 := Aside0.mk (nl hg BK151.out)
            have NB156_151 := Aside0.mk (nr hg BK151.out)
            replace BK150 := Aside0.mk (bb BK150.out hb)
            replace BK151 := Aside0.mk (bb BK151.out hb)
            replace HB := Aside0.mk (below_step (bl2 HB.out GE150.out GE151.out) hb)
            clear hb hbox hg
            refine hK.out _ _ (mS _ BK150.out) (fun hHeld => ?_)
            clear hK K
            refine np 6 ?_
            exact nj (hJ3_8 (gb156) _ ⟨hHeld, (bk BK150.out), (bk BK151.out), (bk BK156.out), GW156.out, GE156.out, NB150_156.out, NB156_150.out, NB151_156.out, NB156_151.out, (bl3 HB.out GE150.out GE151.out GE156.out)⟩)
           ·skip
            refine bs 7 (#[.int .u64 0, .int .u64 0]) 112 ?_
            intro gb157 hg w12 hbox hb
            have BK157 := Aside0.mk (hbox)
            have GW157 := Aside0.mk (gz (w := w) hg (bl2 HB.out GE150.out GE151.out))
            have GE157 := GW157
            have NB150_157 := Aside0.mk (nl hg BK150.out)
            have NB157_150 := Aside0.mk (nr hg BK150.out)
            have NB151_157 := Aside0.mk (nl hg BK151.out)
            have NB157_151 := Aside0.mk (nr hg BK151.out)
            replace BK150 := Aside0.mk (bb BK150.out hb)
            replace BK151 := Aside0.mk (bb BK151.out hb)
            replace HB := Aside0.mk (below_step (bl2 HB.out GE150.out GE151.out) hb)
            clear hb hbox hg
            refine hK.out _ _ (mS _ BK150.out) (fun hHeld => ?_)
            clear hK K
            refine np 7 ?_
            exact nj (hJ3_9 (gb157) _ ⟨hHeld, (bk BK150.out), (bk BK151.out), (bk BK157.out), GW157.out, GE157.out, NB150_157.out, NB157_150.out, NB151_157.out, NB157_151.out, (bl3 HB.out GE150.out GE151.out GE157.out)⟩)
         ·skip
          rintro ⟨gb156, gb157⟩ w12 ⟨hS_, h0_, h1_, h2_, h3_, h4_, h5_, h6_, h7_, h8_, h9_, h10_, h11_, h12_, h13_, h14_, h15_, h16_, h17_, h18_⟩
          have BK156 : Aside0 (w12.heap[gb156]? = some (.cells #[.int .u64 0, .int .u64 0] 112 (0, 0))) := ⟨h2_⟩
          have BK157 : Aside0 (w12.heap[gb157]? = some (.cells #[.int .u64 0, .int .u64 0] 112 (0, 0))) := ⟨h3_⟩
          have GW156 : Aside0 (w.heap.size ≤ gb156) := ⟨h4_⟩
          have GE156 : Aside0 (w.heap.size ≤ gb156) := ⟨h5_⟩
          have NB150_156 : Aside0 (gb150 ≠ gb156) := ⟨h6_⟩
          have NB156_150 : Aside0 (gb156 ≠ gb150) := ⟨h7_⟩
          have NB151_156 : Aside0 (gb151 ≠ gb156) := ⟨h8_⟩
          have NB156_151 : Aside0 (gb156 ≠ gb151) := ⟨h9_⟩
          have NB157_156 : Aside0 (gb157 ≠ gb156) := ⟨h10_⟩
          have NB156_157 : Aside0 (gb156 ≠ gb157) := ⟨h11_⟩
          have GW157 : Aside0 (w.heap.size ≤ gb157) := ⟨h12_⟩
          have GE157 : Aside0 (w.heap.size ≤ gb157) := ⟨h13_⟩
          have NB150_157 : Aside0 (gb150 ≠ gb157) := ⟨h14_⟩
          have NB157_150 : Aside0 (gb157 ≠ gb150) := ⟨h15_⟩
          have NB151_157 : Aside0 (gb151 ≠ gb157) := ⟨h16_⟩
          have NB157_151 : Aside0 (gb157 ≠ gb151) := ⟨h17_⟩
          replace BK150 : Aside0 (w12.heap[gb150]? = some (.cells #[.int .u64 a0_0, .int .u64 a0_1] 112 (0, 0))) := ⟨h0_⟩
          replace BK151 : Aside0 (w12.heap[gb151]? = some (.cells #[.int .u64 0, .int .u64 0] 112 (0, 0))) := ⟨h1_⟩
          replace HB : Aside0 (Below w.heap.size w w12) := ⟨h18_⟩
          clear h0_ h1_ h2_ h3_ h4_ h5_ h6_ h7_ h8_ h9_ h10_ h11_ h12_ h13_ h14_ h15_ h16_ h17_ h18_
          have hHeld := hS_
          refine na ?_
          refine one_ (i := 3) (N := some 11) (ba 12 895) rfl rfl (one_of HT_.out (by kernel_rfl)) (by decide) (fun K hK => ?_)
          refine goes_ Try.func91 (by kernel_rfl) rfl #[.int .u64 a0_1, .int .u64 a1] (by rfl) rfl rfl am ?_
          with_reducible refine (wide_Mul.calls a0_1 a1 t152 t153 _ A3.out).mono ?_
          rintro e w13 ⟨rfl, hb⟩
          refine ⟨_, rfl, ?_⟩
          replace BK150 := Aside0.mk (bb BK150.out hb)
          replace BK151 := Aside0.mk (bb BK151.out hb)
          replace BK156 := Aside0.mk (bb BK156.out hb)
          replace BK157 := Aside0.mk (bb BK157.out hb)
          replace HB := Aside0.mk (below_step (bl4 HB.out GE150.out GE151.out GE156.out GE157.out) hb)
          (try clear hb)
          (try clear hb2)
          (try clear hk)
          (try clear hi)
          refine hK.out _ _ (mS _ BK150.out) (fun hHeld => ?_)
          clear hK K
          refine np 11 ?_
          exact nj (hJ3_8_9 (gb156, gb157) _ ⟨hHeld, (bk BK150.out), (bk BK151.out), (bk BK156.out), (bk BK157.out), GW156.out, GE156.out, NB150_156.out, NB156_150.out, NB151_156.out, NB156_151.out, NB157_156.out, NB156_157.out, GW157.out, GE157.out, NB150_157.out, NB157_150.out, NB151_157.out, NB157_151.out, (bl4 HB.out GE150.out GE151.out GE156.out GE157.out)⟩)
        ·skip
         rintro gb157 w12 ⟨hS_, h0_, h1_, h2_, h3_, h4_, h5_, h6_, h7_, h8_, h9_⟩
         have BK157 : Aside0 (w12.heap[gb157]? = some (.cells #[.int .u64 0, .int .u64 0] 112 (0, 0))) := ⟨h2_⟩
         have GW157 : Aside0 (w.heap.size ≤ gb157) := ⟨h3_⟩
         have GE157 : Aside0 (w.heap.size ≤ gb157) := ⟨h4_⟩
         have NB150_157 : Aside0 (gb150 ≠ gb157) := ⟨h5_⟩
         have NB157_150 : Aside0 (gb157 ≠ gb150) := ⟨h6_⟩
         have NB151_157 : Aside0 (gb151 ≠ gb157) := ⟨h7_⟩
         have NB157_151 : Aside0 (gb157 ≠ gb151) := ⟨h8_⟩
         replace BK150 : Aside0 (w12.heap[gb150]? = some (.cells #[.int .u64 a0_0, .int .u64 a0_1] 112 (0, 0))) := ⟨h0_⟩
         replace BK151 : Aside0 (w12.heap[gb151]? = some (.cells #[.int .u64 0, .int .u64 0] 112 (0, 0))) := ⟨h1_⟩
         replace HB : Aside0 (Below w.heap.size w w12) := ⟨h9_⟩
         clear h0_ h1_ h2_ h3_ h4_ h5_ h6_ h7_ h8_ h9_
         have hHeld := hS_
         refine na ?_
         refine two_ (i := 7) (j := 8) (Ni := some 15) (Nj := some 6) (ba 12 767) (ba 12 895) rfl rfl rfl rfl (two_of HT_.out (by kernel_rfl)) (by decide) (by decide) (fun K hK => ?_) (fun K hK => ?_)
         ·skip
          refine goes_ Try.func91 (by kernel_rfl) rfl #[.int .u64 a0_0, .int .u64 a1] (by rfl) rfl rfl am ?_
          with_reducible refine (wide_Mul.calls a0_0 a1 t154 t155 _ A4.out).mono ?_
          rintro e w13 ⟨rfl, hb⟩
          refine ⟨_, rfl, ?_⟩
          replace BK150 := Aside0.mk (bb BK150.out hb)
          replace BK151 := Aside0.mk (bb BK151.out hb)
          replace BK157 := Aside0.mk (bb BK157.out hb)
          replace HB := Aside0.mk (below_step (bl3 HB.out GE150.out GE151.out GE157.out) hb)
          (try clear hb)
          (try clear hb2)
          (try clear hk)
          (try clear hi)
          refine hK.out _ _ (mS _ BK150.out) (fun hHeld => ?_)
          clear hK K
          refine np 15 ?_
          exact nj (hJ3_7_9 (gb157) _ ⟨hHeld, (bk BK150.out), (bk BK151.out), (bk BK157.out), GW157.out, GE157.out, NB150_157.out, NB157_150.out, NB151_157.out, NB157_151.out, (bl3 HB.out GE150.out GE151.out GE157.out)⟩)
         ·skip
          refine bs 6 (#[.int .u64 0, .int .u64 0]) 112 ?_
          intro gb156 hg w13 hbox hb
          have BK156 := Aside0.mk (hbox)
          have GW156 := Aside0.mk (gz (w := w) hg (bl3 HB.out GE150.out GE151.out GE157.out))
          have GE156 := GW156
          have NB150_156 := Aside0.mk (nl hg BK150.out)
          have NB156_150 := Aside0.mk (nr hg BK150.out)
          have NB151_156 := Aside0.mk (nl hg BK151.out)
          have NB156_151 := Aside0.mk (nr hg BK151.out)
          have NB157_156 := Aside0.mk (nl hg BK157.out)
          have NB156_157 := Aside0.mk (nr hg BK157.out)
          replace BK150 := Aside0.mk (bb BK150.out hb)
          replace BK151 := Aside0.mk (bb BK151.out hb)
          replace BK157 := Aside0.mk (bb BK157.out hb)
          replace HB := Aside0.mk (below_step (bl3 HB.out GE150.out GE151.out GE157.out) hb)
          clear hb hbox hg
          refine hK.out _ _ (mS _ BK150.out) (fun hHeld => ?_)
          clear hK K
          refine np 6 ?_
          exact nj (hJ3_8_9 (gb156, gb157) _ ⟨hHeld, (bk BK150.out), (bk BK151.out), (bk BK156.out), (bk BK157.out), GW156.out, GE156.out, NB150_156.out, NB156_150.out, NB151_156.out, NB156_151.out, NB157_156.out, NB156_157.out, GW157.out, GE157.out, NB150_157.out, NB157_150.out, NB151_157.out, NB157_151.out, (bl4 HB.out GE150.out GE151.out GE157.out GE156.out)⟩)
       ·skip
        rintro gb156 w12 ⟨hS_, h0_, h1_, h2_, h3_, h4_, h5_, h6_, h7_, h8_, h9_⟩
        have BK156 : Aside0 (w12.heap[gb156]? = some (.cells #[.int .u64 0, .int .u64 0] 112 (0, 0))) := ⟨h2_⟩
        have GW156 : Aside0 (w.heap.size ≤ gb156) := ⟨h3_⟩
        have GE156 : Aside0 (w.heap.size ≤ gb156) := ⟨h4_⟩
        have NB150_156 : Aside0 (gb150 ≠ gb156) := ⟨h5_⟩
        have NB156_150 : Aside0 (gb156 ≠ gb150) := ⟨h6_⟩
        have NB151_156 : Aside0 (gb151 ≠ gb156) := ⟨h7_⟩
        have NB156_151 : Aside0 (gb156 ≠ gb151) := ⟨h8_⟩
        replace BK150 : Aside0 (w12.heap[gb150]? = some (.cells #[.int .u64 a0_0, .int .u64 a0_1] 112 (0, 0))) := ⟨h0_⟩
        replace BK151 : Aside0 (w12.heap[gb151]? = some (.cells #[.int .u64 0, .int .u64 0] 112 (0, 0))) := ⟨h1_⟩
        replace HB : Aside0 (Below w.heap.size w w12) := ⟨h9_⟩
        clear h0_ h1_ h2_ h3_ h4_ h5_ h6_ h7_ h8_ h9_
        have hHeld := hS_
        refine na ?_
        refine two_ (i := 7) (j := 9) (Ni := some 15) (Nj := some 7) (ba 12 511) (ba 12 895) rfl rfl rfl rfl (two_of HT_.out (by kernel_rfl)) (by decide) (by decide) (fun K hK => ?_) (fun K hK => ?_)
        ·skip
         refine goes_ Try.func91 (by kernel_rfl) rfl #[.int .u64 a0_0, .int .u64 a1] (by rfl) rfl rfl am ?_
         with_reducible refine (wide_Mul.calls a0_0 a1 t154 t155 _ A4.out).mono ?_
         rintro e w13 ⟨rfl, hb⟩
         refine ⟨_, rfl, ?_⟩
         replace BK150 := Aside0.mk (bb BK150.out hb)
         replace BK151 := Aside0.mk (bb BK151.out hb)
         replace BK156 := Aside0.mk (bb BK156.out hb)
         replace HB := Aside0.mk (below_step (bl3 HB.out GE150.out GE151.out GE156.out) hb)
         (try clear hb)
         (try clear hb2)
         (try clear hk)
         (try clear hi)
         refine hK.out _ _ (mS _ BK150.out) (fun hHeld => ?_)
         clear hK K
         refine np 15 ?_
         exact nj (hJ3_7_8 (gb156) _ ⟨hHeld, (bk BK150.out), (bk BK151.out), (bk BK156.out), GW156.out, GE156.out, NB150_156.out, NB156_150.out, NB151_156.out, NB156_151.out, (bl3 HB.out GE150.out GE151.out GE156.out)⟩)
        ·skip
         refine bs 7 (#[.int .u64 0, .int .u64 0]) 112 ?_
         intro gb157 hg w13 hbox hb
         have BK157 := Aside0.mk (hbox)
         have GW157 := Aside0.mk (gz (w := w) hg (bl3 HB.out GE150.out GE151.out GE156.out))
         have GE157 := GW157
         have NB150_157 := Aside0.mk (nl hg BK150.out)
         have NB157_150 := Aside0.mk (nr hg BK150.out)
         have NB151_157 := Aside0.mk (nl hg BK151.out)
         have NB157_151 := Aside0.mk (nr hg BK151.out)
         have NB156_157 := Aside0.mk (nl hg BK156.out)
         have NB157_156 := Aside0.mk (nr hg BK156.out)
         replace BK150 := Aside0.mk (bb BK150.out hb)
         replace BK151 := Aside0.mk (bb BK151.out hb)
         replace BK156 := Aside0.mk (bb BK156.out hb)
         replace HB := Aside0.mk (below_step (bl3 HB.out GE150.out GE151.out GE156.out) hb)
         clear hb hbox hg
         refine hK.out _ _ (mS _ BK150.out) (fun hHeld => ?_)
         clear hK K
         refine np 7 ?_
         exact nj (hJ3_8_9 (gb156, gb157) _ ⟨hHeld, (bk BK150.out), (bk BK151.out), (bk BK156.out), (bk BK157.out), GW156.out, GE156.out, NB150_156.out, NB156_150.out, NB151_156.out, NB156_151.out, NB157_156.out, NB156_157.out, GW157.out, GE157.out, NB150_157.out, NB157_150.out, NB151_157.out, NB157_151.out, (bl4 HB.out GE150.out GE151.out GE156.out GE157.out)⟩)
      ·skip
       rintro _ w12 ⟨hS_, h0_, h1_, h2_⟩
       replace BK150 : Aside0 (w12.heap[gb150]? = some (.cells #[.int .u64 a0_0, .int .u64 a0_1] 112 (0, 0))) := ⟨h0_⟩
       replace BK151 : Aside0 (w12.heap[gb151]? = some (.cells #[.int .u64 0, .int .u64 0] 112 (0, 0))) := ⟨h1_⟩
       replace HB : Aside0 (Below w.heap.size w w12) := ⟨h2_⟩
       clear h0_ h1_ h2_
       have hHeld := hS_
       refine na ?_
       refine two_ (i := 8) (j := 9) (Ni := some 6) (Nj := some 7) (ba 12 511) (ba 12 767) rfl rfl rfl rfl (two_of HT_.out (by kernel_rfl)) (by decide) (by decide) (fun K hK => ?_) (fun K hK => ?_)
       ·skip
        refine bs 6 (#[.int .u64 0, .int .u64 0]) 112 ?_
        intro gb156 hg w13 hbox hb
        have BK156 := Aside0.mk (hbox)
        have GW156 := Aside0.mk (gz (w := w) hg (bl2 HB.out GE150.out GE151.out))
        have GE156 := GW156
        have NB150_156 := Aside0.mk (nl hg BK150.out)
        have NB156_150 := Aside0.mk (nr hg BK150.out)
        have NB151_156 := Aside0.mk (nl hg BK151.out)
        have NB156_151 := Aside0.mk (nr hg BK151.out)
        replace BK150 := Aside0.mk (bb BK150.out hb)
        replace BK151 := Aside0.mk (bb BK151.out hb)
        replace HB := Aside0.mk (below_step (bl2 HB.out GE150.out GE151.out) hb)
        clear hb hbox hg
        refine hK.out _ _ (mS _ BK150.out) (fun hHeld => ?_)
        clear hK K
        refine np 6 ?_
        exact nj (hJ3_7_8 (gb156) _ ⟨hHeld, (bk BK150.out), (bk BK151.out), (bk BK156.out), GW156.out, GE156.out, NB150_156.out, NB156_150.out, NB151_156.out, NB156_151.out, (bl3 HB.out GE150.out GE151.out GE156.out)⟩)
       ·skip
        refine bs 7 (#[.int .u64 0, .int .u64 0]) 112 ?_
        intro gb157 hg w13 hbox hb
        have BK157 := Aside0.mk (hbox)
        have GW157 := Aside0.mk (gz (w := w) hg (bl2 HB.out GE150.out GE151.out))
        have GE157 := GW157
        have NB150_157 := Aside0.mk (nl hg BK150.out)
        have NB157_150 := Aside0.mk (nr hg BK150.out)
        have NB151_157 := Aside0.mk (nl hg BK151.out)
        have NB157_151 := Aside0.mk (nr hg BK151.out)
        replace BK150 := Aside0.mk (bb BK150.out hb)
        replace BK151 := Aside0.mk (bb BK151.out hb)
        replace HB := Aside0.mk (below_step (bl2 HB.out GE150.out GE151.out) hb)
        clear hb hbox hg
        refine hK.out _ _ (mS _ BK150.out) (fun hHeld => ?_)
        clear hK K
        refine np 7 ?_
        exact nj (hJ3_7_9 (gb157) _ ⟨hHeld, (bk BK150.out), (bk BK151.out), (bk BK157.out), GW157.out, GE157.out, NB150_157.out, NB157_150.out, NB151_157.out, NB157_151.out, (bl3 HB.out GE150.out GE151.out GE157.out)⟩)
     ·skip
      rintro ⟨gb156, gb157⟩ w13 ⟨hS_, h0_, h1_, h2_, h3_, h4_, h5_, h6_, h7_, h8_, h9_, h10_, h11_, h12_, h13_, h14_, h15_, h16_, h17_, h18_⟩
      have BK156 : Aside0 (w13.heap[gb156]? = some (.cells #[.int .u64 0, .int .u64 0] 112 (0, 0))) := ⟨h2_⟩
      have BK157 : Aside0 (w13.heap[gb157]? = some (.cells #[.int .u64 0, .int .u64 0] 112 (0, 0))) := ⟨h3_⟩
      have GW156 : Aside0 (w.heap.size ≤ gb156) := ⟨h4_⟩
      have GE156 : Aside0 (w.heap.size ≤ gb156) := ⟨h5_⟩
      have NB150_156 : Aside0 (gb150 ≠ gb156) := ⟨h6_⟩
      have NB156_150 : Aside0 (gb156 ≠ gb150) := ⟨h7_⟩
      have NB151_156 : Aside0 (gb151 ≠ gb156) := ⟨h8_⟩
      have NB156_151 : Aside0 (gb156 ≠ gb151) := ⟨h9_⟩
      have NB157_156 : Aside0 (gb157 ≠ gb156) := ⟨h10_⟩
      have NB156_157 : Aside0 (gb156 ≠ gb157) := ⟨h11_⟩
      have GW157 : Aside0 (w.heap.size ≤ gb157) := ⟨h12_⟩
      have GE157 : Aside0 (w.heap.size ≤ gb157) := ⟨h13_⟩
      have NB150_157 : Aside0 (gb150 ≠ gb157) := ⟨h14_⟩
      have NB157_150 : Aside0 (gb157 ≠ gb150) := ⟨h15_⟩
      have NB151_157 : Aside0 (gb151 ≠ gb157) := ⟨h16_⟩
      have NB157_151 : Aside0 (gb157 ≠ gb151) := ⟨h17_⟩
      replace BK150 : Aside0 (w13.heap[gb150]? = some (.cells #[.int .u64 a0_0, .int .u64 a0_1] 112 (0, 0))) := ⟨h0_⟩
      replace BK151 : Aside0 (w13.heap[gb151]? = some (.cells #[.int .u64 0, .int .u64 0] 112 (0, 0))) := ⟨h1_⟩
      replace HB : Aside0 (Below w.heap.size w w13) := ⟨h18_⟩
      clear h0_ h1_ h2_ h3_ h4_ h5_ h6_ h7_ h8_ h9_ h10_ h11_ h12_ h13_ h14_ h15_ h16_ h17_ h18_
      have hHeld := hS_
      refine na ?_
      refine one_ (i := 7) (N := some 15) (ba 12 1023) rfl rfl (one_of HT_.out (by kernel_rfl)) (by decide) (fun K hK => ?_)
      refine goes_ Try.func91 (by kernel_rfl) rfl #[.int .u64 a0_0, .int .u64 a1] (by rfl) rfl rfl am ?_
      with_reducible refine (wide_Mul.calls a0_0 a1 t154 t155 _ A4.out).mono ?_
      rintro e w14 ⟨rfl, hb⟩
      refine ⟨_, rfl, ?_⟩
      replace BK150 := Aside0.mk (bb BK150.out hb)
      replace BK151 := Aside0.mk (bb BK151.out hb)
      replace BK156 := Aside0.mk (bb BK156.out hb)
      replace BK157 := Aside0.mk (bb BK157.out hb)
      replace HB := Aside0.mk (below_step (bl4 HB.out GE150.out GE151.out GE156.out GE157.out) hb)
      (try clear hb)
      (try clear hb2)
      (try clear hk)
      (try clear hi)
      refine hK.out _ _ (mS _ BK150.out) (fun hHeld => ?_)
      clear hK K
      refine np 15 ?_
      exact nj (hJ3_7_8_9 (gb156, gb157) _ ⟨hHeld, (bk BK150.out), (bk BK151.out), (bk BK156.out), (bk BK157.out), GW156.out, GE156.out, NB150_156.out, NB156_150.out, NB151_156.out, NB156_151.out, NB157_156.out, NB156_157.out, GW157.out, GE157.out, NB150_157.out, NB157_150.out, NB151_157.out, NB157_151.out, (bl4 HB.out GE150.out GE151.out GE156.out GE157.out)⟩)
    ·skip
     rintro gb157 w13 ⟨hS_, h0_, h1_, h2_, h3_, h4_, h5_, h6_, h7_, h8_, h9_⟩
     have BK157 : Aside0 (w13.heap[gb157]? = some (.cells #[.int .u64 0, .int .u64 0] 112 (0, 0))) := ⟨h2_⟩
     have GW157 : Aside0 (w.heap.size ≤ gb157) := ⟨h3_⟩
     have GE157 : Aside0 (w.heap.size ≤ gb157) := ⟨h4_⟩
     have NB150_157 : Aside0 (gb150 ≠ gb157) := ⟨h5_⟩
     have NB157_150 : Aside0 (gb157 ≠ gb150) := ⟨h6_⟩
     have NB151_157 : Aside0 (gb151 ≠ gb157) := ⟨h7_⟩
     have NB157_151 : Aside0 (gb157 ≠ gb151) := ⟨h8_⟩
     replace BK150 : Aside0 (w13.heap[gb150]? = some (.cells #[.int .u64 a0_0, .int .u64 a0_1] 112 (0, 0))) := ⟨h0_⟩
     replace BK151 : Aside0 (w13.heap[gb151]? = some (.cells #[.int .u64 0, .int .u64 0] 112 (0, 0))) := ⟨h1_⟩
     replace HB : Aside0 (Below w.heap.size w w13) := ⟨h9_⟩
     clear h0_ h1_ h2_ h3_ h4_ h5_ h6_ h7_ h8_ h9_
     have hHeld := hS_
     refine na ?_
     refine one_ (i := 8) (N := some 6) (ba 12 1023) rfl rfl (one_of HT_.out (by kernel_rfl)) (by decide) (fun K hK => ?_)
     refine bs 6 (#[.int .u64 0, .int .u64 0]) 112 ?_
     intro gb156 hg w14 hbox hb
     have BK156 := Aside0.mk (hbox)
     have GW156 := Aside0.mk (gz (w := w) hg (bl3 HB.out GE150.out GE151.out GE157.out))
     have GE156 := GW156
     have NB150_156 := Aside0.mk (nl hg BK150.out)
     have NB156_150 := Aside0.mk (nr hg BK150.out)
     have NB151_156 := Aside0.mk (nl hg BK151.out)
     have NB156_151 := Aside0.mk (nr hg BK151.out)
     have NB157_156 := Aside0.mk (nl hg BK157.out)
     have NB156_157 := Aside0.mk (nr hg BK157.out)
     replace BK150 := Aside0.mk (bb BK150.out hb)
     replace BK151 := Aside0.mk (bb BK151.out hb)
     replace BK157 := Aside0.mk (bb BK157.out hb)
     replace HB := Aside0.mk (below_step (bl3 HB.out GE150.out GE151.out GE157.out) hb)
     clear hb hbox hg
     refine hK.out _ _ (mS _ BK150.out) (fun hHeld => ?_)
     clear hK K
     refine np 6 ?_
     exact nj (hJ3_7_8_9 (gb156, gb157) _ ⟨hHeld, (bk BK150.out), (bk BK151.out), (bk BK156.out), (bk BK157.out), GW156.out, GE156.out, NB150_156.out, NB156_150.out, NB151_156.out, NB156_151.out, NB157_156.out, NB156_157.out, GW157.out, GE157.out, NB150_157.out, NB157_150.out, NB151_157.out, NB157_151.out, (bl4 HB.out GE150.out GE151.out GE157.out GE156.out)⟩)
   ·skip
    rintro gb156 w13 ⟨hS_, h0_, h1_, h2_, h3_, h4_, h5_, h6_, h7_, h8_, h9_⟩
    have BK156 : Aside0 (w13.heap[gb156]? = some (.cells #[.int .u64 0, .int .u64 0] 112 (0, 0))) := ⟨h2_⟩
    have GW156 : Aside0 (w.heap.size ≤ gb156) := ⟨h3_⟩
    have GE156 : Aside0 (w.heap.size ≤ gb156) := ⟨h4_⟩
    have NB150_156 : Aside0 (gb150 ≠ gb156) := ⟨h5_⟩
    have NB156_150 : Aside0 (gb156 ≠ gb150) := ⟨h6_⟩
    have NB151_156 : Aside0 (gb151 ≠ gb156) := ⟨h7_⟩
    have NB156_151 : Aside0 (gb156 ≠ gb151) := ⟨h8_⟩
    replace BK150 : Aside0 (w13.heap[gb150]? = some (.cells #[.int .u64 a0_0, .int .u64 a0_1] 112 (0, 0))) := ⟨h0_⟩
    replace BK151 : Aside0 (w13.heap[gb151]? = some (.cells #[.int .u64 0, .int .u64 0] 112 (0, 0))) := ⟨h1_⟩
    replace HB : Aside0 (Below w.heap.size w w13) := ⟨h9_⟩
    clear h0_ h1_ h2_ h3_ h4_ h5_ h6_ h7_ h8_ h9_
    have hHeld := hS_
    refine na ?_
    refine one_ (i := 9) (N := some 7) (ba 12 1023) rfl rfl (one_of HT_.out (by kernel_rfl)) (by decide) (fun K hK => ?_)
    refine bs 7 (#[.int .u64 0, .int .u64 0]) 112 ?_
    intro gb157 hg w14 hbox hb
    have BK157 := Aside0.mk (hbox)
    have GW157 := Aside0.mk (gz (w := w) hg (bl3 HB.out GE150.out GE151.out GE156.out))
    have GE157 := GW157
    have NB150_157 := Aside0.mk (nl hg BK150.out)
    have NB157_150 := Aside0.mk (nr hg BK150.out)
    have NB151_157 := Aside0.mk (nl hg BK151.out)
    have NB157_151 := Aside0.mk (nr hg BK151.out)
    have NB156_157 := Aside0.mk (nl hg BK156.out)
    have NB157_156 := Aside0.mk (nr hg BK156.out)
    replace BK150 := Aside0.mk (bb BK150.out hb)
    replace BK151 := Aside0.mk (bb BK151.out hb)
    replace BK156 := Aside0.mk (bb BK156.out hb)
    replace HB := Aside0.mk (below_step (bl3 HB.out GE150.out GE151.out GE156.out) hb)
    clear hb hbox hg
    refine hK.out _ _ (mS _ BK150.out) (fun hHeld => ?_)
    clear hK K
    refine np 7 ?_
    exact nj (hJ3_7_8_9 (gb156, gb157) _ ⟨hHeld, (bk BK150.out), (bk BK151.out), (bk BK156.out), (bk BK157.out), GW156.out, GE156.out, NB150_156.out, NB156_150.out, NB151_156.out, NB156_151.out, NB157_156.out, NB156_157.out, GW157.out, GE157.out, NB150_157.out, NB157_150.out, NB151_157.out, NB157_151.out, (bl4 HB.out GE150.out GE151.out GE156.out GE157.out)⟩)
  rintro ⟨gb156, gb157⟩ w14 ⟨hS_, h0_, h1_, h2_, h3_, h4_, h5_, h6_, h7_, h8_, h9_, h10_, h11_, h12_, h13_, h14_, h15_, h16_, h17_, h18_⟩
  have BK156 : Aside0 (w14.heap[gb156]? = some (.cells #[.int .u64 0, .int .u64 0] 112 (0, 0))) := ⟨h2_⟩
  have BK157 : Aside0 (w14.heap[gb157]? = some (.cells #[.int .u64 0, .int .u64 0] 112 (0, 0))) := ⟨h3_⟩
  have GW156 : Aside0 (w.heap.size ≤ gb156) := ⟨h4_⟩
  have GE156 : Aside0 (w.heap.size ≤ gb156) := ⟨h5_⟩
  have NB150_156 : Aside0 (gb150 ≠ gb156) := ⟨h6_⟩
  have NB156_150 : Aside0 (gb156 ≠ gb150) := ⟨h7_⟩
  have NB151_156 : Aside0 (gb151 ≠ gb156) := ⟨h8_⟩
  have NB156_151 : Aside0 (gb156 ≠ gb151) := ⟨h9_⟩
  have NB157_156 : Aside0 (gb157 ≠ gb156) := ⟨h10_⟩
  have NB156_157 : Aside0 (gb156 ≠ gb157) := ⟨h11_⟩
  have GW157 : Aside0 (w.heap.size ≤ gb157) := ⟨h12_⟩
  have GE157 : Aside0 (w.heap.size ≤ gb157) := ⟨h13_⟩
  have NB150_157 : Aside0 (gb150 ≠ gb157) := ⟨h14_⟩
  have NB157_150 : Aside0 (gb157 ≠ gb150) := ⟨h15_⟩
  have NB151_157 : Aside0 (gb151 ≠ gb157) := ⟨h16_⟩
  have NB157_151 : Aside0 (gb157 ≠ gb151) := ⟨h17_⟩
  replace BK150 : Aside0 (w14.heap[gb150]? = some (.cells #[.int .u64 a0_0, .int .u64 a0_1] 112 (0, 0))) := ⟨h0_⟩
  replace BK151 : Aside0 (w14.heap[gb151]? = some (.cells #[.int .u64 0, .int .u64 0] 112 (0, 0))) := ⟨h1_⟩
  replace HB : Aside0 (Below w.heap.size w w14) := ⟨h18_⟩
  clear h0_ h1_ h2_ h3_ h4_ h5_ h6_ h7_ h8_ h9_ h10_ h11_ h12_ h13_ h14_ h15_ h16_ h17_ h18_
  have hHeld := hS_
  refine na ?_
  refine one_ (i := 10) (N := none) (ba 12 2047) rfl rfl (one_of HT_.out (by kernel_rfl)) (by decide) (fun K hK => ?_)
  have hs15 : w14.cell? ⟨gb156, 0, none⟩ = some (.int .u64 0) := (blk_cell BK156.out 0).trans rfl
  have hfs15 := blk_frozen BK156.out 0
  have hns15_0 := NB150_156.out
  have hns15_1 := NB151_156.out
  have hns15_3 := NB157_156.out
  have hms15_0 := NB156_150.out
  have hms15_1 := NB156_151.out
  have hms15_3 := NB156_157.out
  have hs16 : w14.cell? ⟨gb156, 1, none⟩ = some (.int .u64 0) := (blk_cell BK156.out 1).trans rfl
  have hfs16 := blk_frozen BK156.out 1
  have hns16_0 := NB150_156.out
  have hns16_1 := NB151_156.out
  have hns16_3 := NB157_156.out
  have hms16_0 := NB156_150.out
  have hms16_1 := NB156_151.out
  have hms16_3 := NB156_157.out
  refine skip_ (w1 := ?_) (by rfl) rfl ?_ ?_
  rotate_left
  ·go_simp
   rfl
  refine hK.out _ _ (by rw [eS.out] at hHeld ⊢; exact ⟨((cell_far (p := ⟨gb156, _, none⟩) NB150_156.out _).trans (((cell_far (p := ⟨gb156, _, none⟩) NB150_156.out _).trans (hHeld.1)))), ((cell_far (p := ⟨gb156, _, none⟩) NB150_156.out _).trans (((cell_far (p := ⟨gb156, _, none⟩) NB150_156.out _).trans (hHeld.2))))⟩) (fun hHeld => ?_)
  clear hK K
  refine one_ (i := 11) (N := none) (ba 12 4095) rfl rfl (one_of HT_.out (by kernel_rfl)) (by decide) (fun K hK => ?_)
  have hs17 : w14.cell? ⟨gb157, 0, none⟩ = some (.int .u64 0) := (blk_cell BK157.out 0).trans rfl
  have hfs17 := blk_frozen BK157.out 0
  have hns17_0 := NB150_157.out
  have hns17_1 := NB151_157.out
  have hns17_2 := NB156_157.out
  have hms17_0 := NB157_150.out
  have hms17_1 := NB157_151.out
  have hms17_2 := NB157_156.out
  have hs18 : w14.cell? ⟨gb157, 1, none⟩ = some (.int .u64 0) := (blk_cell BK157.out 1).trans rfl
  have hfs18 := blk_frozen BK157.out 1
  have hns18_0 := NB150_157.out
  have hns18_1 := NB151_157.out
  have hns18_2 := NB156_157.out
  have hms18_0 := NB157_150.out
  have hms18_1 := NB157_151.out
  have hms18_2 := NB157_156.out
  refine skip_ (w1 := ?_) (by rfl) rfl ?_ ?_
  rotate_left
  ·go_simp
   rfl
  refine hK.out _ _ (by rw [eS.out] at hHeld ⊢; exact ⟨((cell_far (p := ⟨gb157, _, none⟩) NB150_157.out _).trans (((cell_far (p := ⟨gb157, _, none⟩) NB150_157.out _).trans (hHeld.1)))), ((cell_far (p := ⟨gb157, _, none⟩) NB150_157.out _).trans (((cell_far (p := ⟨gb157, _, none⟩) NB150_157.out _).trans (hHeld.2))))⟩) (fun hHeld => ?_)
  clear hK K
  refine done_ (done_of HT_.out (by kernel_rfl)) ?_
  have hnb19 := NB157_150.out
  have hnc19 := NB150_157.out
  have hnb20 := NB157_151.out
  have hnc20 := NB151_157.out
  have hnb21 := NB157_156.out
  have hnc21 := NB156_157.out
  have hcz22_0 : w14.cell? ⟨gb157, 0, none⟩ = some (.int .u64 0) := (blk_cell BK157.out 0).trans rfl
  have hcz22_1 : w14.cell? ⟨gb157, 1, none⟩ = some (.int .u64 0) := (blk_cell BK157.out 1).trans rfl
  have hfz22_0 := blk_frozen BK157.out 0
  have hfz22_1 := blk_frozen BK157.out 1
  have hnb23 := NB156_150.out
  have hnc23 := NB150_156.out
  have hnb24 := NB156_151.out
  have hnc24 := NB151_156.out
  have hcz25_0 : w14.cell? ⟨gb156, 0, none⟩ = some (.int .u64 0) := (blk_cell BK156.out 0).trans rfl
  have hcz25_1 : w14.cell? ⟨gb156, 1, none⟩ = some (.int .u64 0) := (blk_cell BK156.out 1).trans rfl
  have hfz25_0 := blk_frozen BK156.out 0
  have hfz25_1 := blk_frozen BK156.out 1
  try go_wp2_with (first | ((with_reducible refine gate_callee (f := 120) rfl ?_); refine goesL_ (some 24) rfl rfl Try.func120 (by kernel_rfl) rfl #[.agg #[.int .u64 t152, .int .u64 t153], .agg #[.int .u64 t155, .int .u64 0]] rfl am ?_; (with_reducible refine (wide_Add.calls t152 t153 t155 0 t158 t159 t160 _ A6.out).mono ?_); rintro e w26 ⟨rfl, hb⟩; refine ⟨_, rfl, ?_⟩; replace BK150 := Aside0.mk (blk_below (g := gb150) (o := .cells #[.int .u64 a0_0, .int .u64 a0_1] 112 (0, 0)) (by (with_reducible repeat (first | refine blk_drewN ?_ _ | refine blk_drew ?_ | refine blk_alloc ?_ _)); refine blk_far ?_ NB150_157.out _; (with_reducible repeat (first | refine blk_drewN ?_ _ | refine blk_drew ?_ | refine blk_alloc ?_ _)); refine blk_far ?_ NB150_157.out _; (with_reducible repeat (first | refine blk_drewN ?_ _ | refine blk_drew ?_ | refine blk_alloc ?_ _)); refine blk_far ?_ NB150_156.out _; (with_reducible repeat (first | refine blk_drewN ?_ _ | refine blk_drew ?_ | refine blk_alloc ?_ _)); refine blk_far ?_ NB150_156.out _; (with_reducible repeat (first | refine blk_drewN ?_ _ | refine blk_drew ?_ | refine blk_alloc ?_ _)); exact BK150.out) hb); replace BK151 := Aside0.mk (blk_below (g := gb151) (o := .cells #[.int .u64 0, .int .u64 0] 112 (0, 0)) (by (with_reducible repeat (first | refine blk_drewN ?_ _ | refine blk_drew ?_ | refine blk_alloc ?_ _)); refine blk_far ?_ NB151_157.out _; (with_reducible repeat (first | refine blk_drewN ?_ _ | refine blk_drew ?_ | refine blk_alloc ?_ _)); refine blk_far ?_ NB151_157.out _; (with_reducible repeat (first | refine blk_drewN ?_ _ | refine blk_drew ?_ | refine blk_alloc ?_ _)); refine blk_far ?_ NB151_156.out _; (with_reducible repeat (first | refine blk_drewN ?_ _ | refine blk_drew ?_ | refine blk_alloc ?_ _)); refine blk_far ?_ NB151_156.out _; (with_reducible repeat (first | refine blk_drewN ?_ _ | refine blk_drew ?_ | refine blk_alloc ?_ _)); exact BK151.out) hb); replace BK156 := Aside0.mk (blk_below (g := gb156) (o := .cells #[.int .u64 t152, .int .u64 t153] 112 (0, 0)) (by (with_reducible repeat (first | refine blk_drewN ?_ _ | refine blk_drew ?_ | refine blk_alloc ?_ _)); refine blk_far ?_ NB156_157.out _; (with_reducible repeat (first | refine blk_drewN ?_ _ | refine blk_drew ?_ | refine blk_alloc ?_ _)); refine blk_far ?_ NB156_157.out _; (with_reducible repeat (first | refine blk_drewN ?_ _ | refine blk_drew ?_ | refine blk_alloc ?_ _)); refine blk_put (cs := #[.int .u64 t152, .int .u64 0]) ?_ 1 _ rfl; (with_reducible repeat (first | refine blk_drewN ?_ _ | refine blk_drew ?_ | refine blk_alloc ?_ _)); refine blk_put (cs := #[.int .u64 0, .int .u64 0]) ?_ 0 _ rfl; (with_reducible repeat (first | refine blk_drewN ?_ _ | refine blk_drew ?_ | refine blk_alloc ?_ _)); exact BK156.out) hb); replace BK157 := Aside0.mk (blk_below (g := gb157) (o := .cells #[.int .u64 t154, .int .u64 t155] 112 (0, 0)) (by (with_reducible repeat (first | refine blk_drewN ?_ _ | refine blk_drew ?_ | refine blk_alloc ?_ _)); refine blk_put (cs := #[.int .u64 t154, .int .u64 0]) ?_ 1 _ rfl; (with_reducible repeat (first | refine blk_drewN ?_ _ | refine blk_drew ?_ | refine blk_alloc ?_ _)); refine blk_put (cs := #[.int .u64 0, .int .u64 0]) ?_ 0 _ rfl; (with_reducible repeat (first | refine blk_drewN ?_ _ | refine blk_drew ?_ | refine blk_alloc ?_ _)); refine blk_far ?_ NB157_156.out _; (with_reducible repeat (first | refine blk_drewN ?_ _ | refine blk_drew ?_ | refine blk_alloc ?_ _)); refine blk_far ?_ NB157_156.out _; (with_reducible repeat (first | refine blk_drewN ?_ _ | refine blk_drew ?_ | refine blk_alloc ?_ _)); exact BK157.out) hb); replace HB := Aside0.mk (below_step (bl4 HB.out GE150.out GE151.out GE156.out GE157.out) hb); (try clear hb); have hnb27 := NB151_150.out; have hnc27 := NB150_151.out; have hcz28_0 : w26.cell? ⟨gb151, 0, none⟩ = some (.int .u64 0) := (blk_cell BK151.out 0).trans rfl; have hcz28_1 : w26.cell? ⟨gb151, 1, none⟩ = some (.int .u64 0) := (blk_cell BK151.out 1).trans rfl; have hfz28_0 := blk_frozen BK151.out 0; have hfz28_1 := blk_frozen BK151.out 1))
  refine bodyPost_ret (results_ct rfl _ _ gb151 112 #[.int .u64 t158, .int .u64 t159] (0, 0) _ rfl (by (with_reducible repeat (first | refine blk_drewN ?_ _ | refine blk_drew ?_ | refine blk_alloc ?_ _)); refine blk_put (cs := #[.int .u64 t158, .int .u64 0]) ?_ 1 _ rfl; (with_reducible repeat (first | refine blk_drewN ?_ _ | refine blk_drew ?_ | refine blk_alloc ?_ _)); refine blk_put (cs := #[.int .u64 0, .int .u64 0]) ?_ 0 _ rfl; (with_reducible repeat (first | refine blk_drewN ?_ _ | refine blk_drew ?_ | refine blk_alloc ?_ _)); exact BK151.out) Try.underlying112 rfl (by kernel_rfl)) rfl ?_
  exact ⟨by first | rfl | (simp [errW_none, errW_some] <;> rfl) | (simp [*, errW_none, errW_some] <;> rfl), bl4 HB.out GE150.out GE151.out GE156.out GE157.out⟩
 rw [if_neg c5] at H
 have c5b0 : (t154 == 0) = false := beq_eq_false_iff_ne.mpr c5
 have c5b1 : (t154 != 0) = true := bne_iff_ne.mpr c5
 simp only [Option.some.injEq, Prod.mk.injEq] at H
 obtain ⟨rfl, rfl, rfl⟩ := H
 go_enter Try.func90, Try.ntmps90
 try go_wp2_with (first | ((with_reducible refine gate_dst (N := 2) rfl ?_); refine be 2 (#[.int .u64 a0_0, .int .u64 a0_1]) 112 ?_; intro gb150 hg w29 hbox hb; have BK150 := Aside0.mk (hbox); have GW150 := Aside0.mk (gz (w := w) hg (bl0 HB.out)); have GE150 := GW150; replace HB := Aside0.mk (below_step (bl0 HB.out) hb); clear hb hbox hg) | ((with_reducible refine gate_dst (N := 4) rfl ?_); refine be 4 (#[.int .u64 0, .int .u64 0]) 112 ?_; intro gb151 hg w30 hbox hb; have BK151 := Aside0.mk (hbox); have GW151 := Aside0.mk (gz (w := w) hg (bl1 HB.out GE150.out)); have GE151 := GW151; have NB150_151 := Aside0.mk (nl hg BK150.out); have NB151_150 := Aside0.mk (nr hg BK150.out); replace BK150 := Aside0.mk (bb BK150.out hb); replace HB := Aside0.mk (below_step (bl1 HB.out GE150.out) hb); clear hb hbox hg))
 replace BK150 := Aside0.mk (blk_drew BK150.out)
 replace BK151 := Aside0.mk (blk_drew BK151.out)
 replace HB := Aside0.mk (below_drew1 HB.out)
 obtain ⟨SS, eS⟩ : ∃ SS : World → Prop, Aside0 (SS = fun w' => w'.cell? ⟨gb150, 0, none⟩ = some (.int .u64 a0_0) ∧ w'.cell? ⟨gb150, 1, none⟩ = some (.int .u64 a0_1)) := ⟨_, ⟨rfl⟩⟩
 have mS : ∀ w' : World, w'.heap[gb150]? = some (.cells #[.int .u64 a0_0, .int .u64 a0_1] 112 (0, 0)) → SS w' := by intro w' b0; rw [eS.out]; exact ⟨(blk_cell b0 0).trans rfl, (blk_cell b0 1).trans rfl⟩
 refine start_ (n := 12) (S := SS) (ds := []) (ba 12 0) (by kernel_rfl) rfl rfl (mS _ BK150.out) (fun hHeld => ?_); refine with_tabW wide_Scale.tab1 wide_Scale.bits1 (fun HT_ HW_ => ?_)
 generalize w30.drew = w31 at BK150 BK151 HB hHeld ⊢
 refine pI 0 8 (ba 12 1) HT_.out ?_
 refine pI 2 10 (ba 12 5) HT_.out ?_
 refine pI 4 12 (ba 12 21) HT_.out ?_
 refine pI 6 14 (ba 12 85) HT_.out ?_
 refine take_ (i := 1) (N := some 9) (v := ?_) (a' := ?_) (ba 12 87) rfl rfl (take_ofW HT_.out HW_.out (by kernel_rfl)) (fun _ _ _ h => h) (Or.inl ⟨by rfl, ?_⟩) hHeld ?_ ?_
 rotate_left
 ·rintro w' hs; rw [eS.out] at hs; obtain ⟨s0, s1⟩ := hs
  go_simp
  with_reducible rfl
 rotate_left
 ·exact pa
 refine take_ (i := 5) (N := some 13) (v := ?_) (a' := ?_) (ba 12 119) rfl rfl (take_ofW HT_.out HW_.out (by kernel_rfl)) (fun _ _ _ h => h) (Or.inl ⟨by rfl, ?_⟩) hHeld ?_ ?_
 rotate_left
 ·rintro w' hs; rw [eS.out] at hs; obtain ⟨s0, s1⟩ := hs
  go_simp
  with_reducible rfl
 rotate_left
 ·exact pa
 refine join_ (σ := Nat × Nat) 2 (ba 12 1023) (fun s_ => [(11, .agg #[.int .u64 t152, .int .u64 t153]), (15, .agg #[.int .u64 t154, .int .u64 t155]), (6, .pointer (some ⟨s_.1, 0, none⟩)), (7, .pointer (some ⟨s_.2, 0, none⟩))]) (fun s_ w' => (SS w') ∧ (w'.heap[gb150]? = some (.cells #[.int .u64 a0_0, .int .u64 a0_1] 112 (0, 0))) ∧ (w'.heap[gb151]? = some (.cells #[.int .u64 0, .int .u64 0] 112 (0, 0))) ∧ (w'.heap[s_.1]? = some (.cells #[.int .u64 0, .int .u64 0] 112 (0, 0))) ∧ (w'.heap[s_.2]? = some (.cells #[.int .u64 0, .int .u64 0] 112 (0, 0))) ∧ (w.heap.size ≤ s_.1) ∧ (w.heap.size ≤ s_.1) ∧ (gb150 ≠ s_.1) ∧ (s_.1 ≠ gb150) ∧ (gb151 ≠ s_.1) ∧ (s_.1 ≠ gb151) ∧ (s_.2 ≠ s_.1) ∧ (s_.1 ≠ s_.2) ∧ (w.heap.size ≤ s_.2) ∧ (w.heap.size ≤ s_.2) ∧ (gb150 ≠ s_.2) ∧ (s_.2 ≠ gb150) ∧ (gb151 ≠ s_.2) ∧ (s_.2 ≠ gb151) ∧ (Below w.heap.size w w')) ?_ ?_
 rotate_left
 ·intro hJ3_7_8_9
  refine join_ (σ := Nat) 3 (ba 12 511) (fun s_ => [(11, .agg #[.int .u64 t152, .int .u64 t153]), (15, .agg #[.int .u64 t154, .int .u64 t155]), (6, .pointer (some ⟨s_, 0, none⟩))]) (fun s_ w' => (SS w') ∧ (w'.heap[gb150]? = some (.cells #[.int .u64 a0_0, .int .u64 a0_1] 112 (0, 0))) ∧ (w'.heap[gb151]? = some (.cells #[.int .u64 0, .int .u64 0] 112 (0, 0))) ∧ (w'.heap[s_]? = some (.cells #[.int .u64 0, .int .u64 0] 112 (0, 0))) ∧ (w.heap.size ≤ s_) ∧ (w.heap.size ≤ s_) ∧ (gb150 ≠ s_) ∧ (s_ ≠ gb150) ∧ (gb151 ≠ s_) ∧ (s_ ≠ gb151) ∧ (Below w.heap.size w w')) ?_ ?_
  rotate_left
  ·intro hJ3_7_8
   refine join_ (σ := Nat) 3 (ba 12 767) (fun s_ => [(11, .agg #[.int .u64 t152, .int .u64 t153]), (15, .agg #[.int .u64 t154, .int .u64 t155]), (7, .pointer (some ⟨s_, 0, none⟩))]) (fun s_ w' => (SS w') ∧ (w'.heap[gb150]? = some (.cells #[.int .u64 a0_0, .int .u64 a0_1] 112 (0, 0))) ∧ (w'.heap[gb151]? = some (.cells #[.int .u64 0, .int .u64 0] 112 (0, 0))) ∧ (w'.heap[s_]? = some (.cells #[.int .u64 0, .int .u64 0] 112 (0, 0))) ∧ (w.heap.size ≤ s_) ∧ (w.heap.size ≤ s_) ∧ (gb150 ≠ s_) ∧ (s_ ≠ gb150) ∧ (gb151 ≠ s_) ∧ (s_ ≠ gb151) ∧ (Below w.heap.size w w')) ?_ ?_
   rotate_left
   ·intro hJ3_7_9
    refine join_ (σ := Nat × Nat) 3 (ba 12 895) (fun s_ => [(11, .agg #[.int .u64 t152, .int .u64 t153]), (6, .pointer (some ⟨s_.1, 0, none⟩)), (7, .pointer (some ⟨s_.2, 0, none⟩))]) (fun s_ w' => (SS w') ∧ (w'.heap[gb150]? = some (.cells #[.int .u64 a0_0, .int .u64 a0_1] 112 (0, 0))) ∧ (w'.heap[gb151]? = some (.cells #[.int .u64 0, .int .u64 0] 112 (0, 0))) ∧ (w'.heap[s_.1]? = some (.cells #[.int .u64 0, .int .u64 0] 112 (0, 0))) ∧ (w'.heap[s_.2]? = some (.cells #[.int .u64 0, .int .u64 0] 112 (0, 0))) ∧ (w.heap.size ≤ s_.1) ∧ (w.heap.size ≤ s_.1) ∧ (gb150 ≠ s_.1) ∧ (s_.1 ≠ gb150) ∧ (gb151 ≠ s_.1) ∧ (s_.1 ≠ gb151) ∧ (s_.2 ≠ s_.1) ∧ (s_.1 ≠ s_.2) ∧ (w.heap.size ≤ s_.2) ∧ (w.heap.size ≤ s_.2) ∧ (gb150 ≠ s_.2) ∧ (s_.2 ≠ gb150) ∧ (gb151 ≠ s_.2) ∧ (s_.2 ≠ gb151) ∧ (Below w.heap.size w w')) ?_ ?_
    rotate_left
    ·intro hJ3_8_9
     refine join_ (σ := Unit) 4 (ba 12 255) (fun s_ => [(11, .agg #[.int .u64 t152, .int .u64 t153]), (15, .agg #[.int .u64 t154, .int .u64 t155])]) (fun s_ w' => (SS w') ∧ (w'.heap[gb150]? = some (.cells #[.int .u64 a0_0, .int .u64 a0_1] 112 (0, 0))) ∧ (w'.heap[gb151]? = some (.cells #[.int .u64 0, .int .u64 0] 112 (0, 0))) ∧ (Below w.heap.size w w')) ?_ ?_
     rotate_left
     ·intro hJ3_7
      refine join_ (σ := Nat) 4 (ba 12 383) (fun s_ => [(11, .agg #[.int .u64 t152, .int .u64 t153]), (6, .pointer (some ⟨s_, 0, none⟩))]) (fun s_ w' => (SS w') ∧ (w'.heap[gb150]? = some (.cells #[.int .u64 a0_0, .int .u64 a0_1] 112 (0, 0))) ∧ (w'.heap[gb151]? = some (.cells #[.int .u64 0, .int .u64 0] 112 (0, 0))) ∧ (w'.heap[s_]? = some (.cells #[.int .u64 0, .int .u64 0] 112 (0, 0))) ∧ (w.heap.size ≤ s_) ∧ (w.heap.size ≤ s_) ∧ (gb150 ≠ s_) ∧ (s_ ≠ gb150) ∧ (gb151 ≠ s_) ∧ (s_ ≠ gb151) ∧ (Below w.heap.size w w')) ?_ ?_
      rotate_left
      ·intro hJ3_8
       refine join_ (σ := Nat) 4 (ba 12 639) (fun s_ => [(11, .agg #[.int .u64 t152, .int .u64 t153]), (7, .pointer (some ⟨s_, 0, none⟩))]) (fun s_ w' => (SS w') ∧ (w'.heap[gb150]? = some (.cells #[.int .u64 a0_0, .int .u64 a0_1] 112 (0, 0))) ∧ (w'.heap[gb151]? = some (.cells #[.int .u64 0, .int .u64 0] 112 (0, 0))) ∧ (w'.heap[s_]? = some (.cells #[.int .u64 0, .int .u64 0] 112 (0, 0))) ∧ (w.heap.size ≤ s_) ∧ (w.heap.size ≤ s_) ∧ (gb150 ≠ s_) ∧ (s_ ≠ gb150) ∧ (gb151 ≠ s_) ∧ (s_ ≠ gb151) ∧ (Below w.heap.size w w')) ?_ ?_
       rotate_left
       ·intro hJ3_9
        refine join_ (σ := Nat × Nat) 4 (ba 12 887) (fun s_ => [(6, .pointer (some ⟨s_.1, 0, none⟩)), (7, .pointer (some ⟨s_.2, 0, none⟩))]) (fun s_ w' => (SS w') ∧ (w'.heap[gb150]? = some (.cells #[.int .u64 a0_0, .int .u64 a0_1] 112 (0, 0))) ∧ (w'.heap[gb151]? = some (.cells #[.int .u64 0, .int .u64 0] 112 (0, 0))) ∧ (w'.heap[s_.1]? = some (.cells #[.int .u64 0, .int .u64 0] 112 (0, 0))) ∧ (w'.heap[s_.2]? = some (.cells #[.int .u64 0, .int .u64 0] 112 (0, 0))) ∧ (w.heap.size ≤ s_.1) ∧ (w.heap.size ≤ s_.1) ∧ (gb150 ≠ s_.1) ∧ (s_.1 ≠ gb150) ∧ (gb151 ≠ s_.1) ∧ (s_.1 ≠ gb151) ∧ (s_.2 ≠ s_.1) ∧ (s_.1 ≠ s_.2) ∧ (w.heap.size ≤ s_.2) ∧ (w.heap.size ≤ s_.2) ∧ (gb150 ≠ s_.2) ∧ (s_.2 ≠ gb150) ∧ (gb151 ≠ s_.2) ∧ (s_.2 ≠ gb151) ∧ (Below w.heap.size w w')) ?_ ?_
        rotate_left
        ·intro hJ8_9
         refine join_ (σ := Unit) 5 (ba 12 127) (fun s_ => [(11, .agg #[.int .u64 t152, .int .u64 t153])]) (fun s_ w' => (SS w') ∧ (w'.heap[gb150]? = some (.cells #[.int .u64 a0_0, .int .u64 a0_1] 112 (0, 0))) ∧ (w'.heap[gb151]? = some (.cells #[.int .u64 0, .int .u64 0] 112 (0, 0))) ∧ (Below w.heap.size w w')) ?_ ?_
         rotate_left
         ·intro hJ3
          refine join_ (σ := Nat) 5 (ba 12 375) (fun s_ => [(6, .pointer (some ⟨s_, 0, none⟩))]) (fun s_ w' => (SS w') ∧ (w'.heap[gb150]? = some (.cells #[.int .u64 a0_0, .int .u64 a0_1] 112 (0, 0))) ∧ (w'.heap[gb151]? = some (.cells #[.int .u64 0, .int .u64 0] 112 (0, 0))) ∧ (w'.heap[s_]? = some (.cells #[.int .u64 0, .int .u64 0] 112 (0, 0))) ∧ (w.heap.size ≤ s_) ∧ (w.heap.size ≤ s_) ∧ (gb150 ≠ s_) ∧ (s_ ≠ gb150) ∧ (gb151 ≠ s_) ∧ (s_ ≠ gb151) ∧ (Below w.heap.size w w')) ?_ ?_
          rotate_left
          ·intro hJ8
           refine join_ (σ := Nat) 5 (ba 12 631) (fun s_ => [(7, .pointer (some ⟨s_, 0, none⟩))]) (fun s_ w' => (SS w') ∧ (w'.heap[gb150]? = some (.cells #[.int .u64 a0_0, .int .u64 a0_1] 112 (0, 0))) ∧ (w'.heap[gb151]? = some (.cells #[.int .u64 0, .int .u64 0] 112 (0, 0))) ∧ (w'.heap[s_]? = some (.cells #[.int .u64 0, .int .u64 0] 112 (0, 0))) ∧ (w.heap.size ≤ s_) ∧ (w.heap.size ≤ s_) ∧ (gb150 ≠ s_) ∧ (s_ ≠ gb150) ∧ (gb151 ≠ s_) ∧ (s_ ≠ gb151) ∧ (Below w.heap.size w w')) ?_ ?_
           rotate_left
           ·intro hJ9
            refine three_ (i := 3) (j := 8) (k := 9) (Ni := some 11) (Nj := some 6) (Nk := some 7) (ba 12 127) (ba 12 375) (ba 12 631) rfl rfl rfl rfl rfl rfl (three_of HT_.out (by kernel_rfl)) (by decide) (by decide) (by decide) (fun K hK => ?_) (fun K hK => ?_) (fun K hK => ?_)
            ·skip
             refine goes_ Try.func91 (by kernel_rfl) rfl #[.int .u64 a0_1, .int .u64 a1] (by rfl) rfl rfl am ?_
             with_reducible refine (wide_Mul.calls a0_1 a1 t152 t153 _ A3.out).mono ?_
             rintro e w32 ⟨rfl, hb⟩
             refine ⟨_, rfl, ?_⟩
             replace BK150 := Aside0.mk (bb BK150.out hb)
             replace BK151 := Aside0.mk (bb BK151.out hb)
             replace HB := Aside0.mk (below_step (bl2 HB.out GE150.out GE151.out) hb)
             (try clear hb)
             (try clear hb2)
             (try clear hk)
             (try clear hi)
             refine hK.out _ _ (mS _ BK150.out) (fun hHeld => ?_)
             clear hK K
             refine np 11 ?_
             exact nj (hJ3 () _ ⟨hHeld, (bk BK150.out), (bk BK151.out), (bl2 HB.out GE150.out GE151.out)⟩)
            ·skip
             refine bs 6 (#[.int .u64 0, .int .u64 0]) 112 ?_
             intro gb156 hg w32 hbox hb
             have BK156 := Aside0.mk (hbox)
             have GW156 := Aside0.mk (gz (w := w) hg (bl2 HB.out GE150.out GE151.out))
             have GE156 := GW156
             have NB150_156 := Aside0.mk (nl hg BK150.out)
             have NB156_150 := Aside0.mk (nr hg BK150.out)
             have NB151_156 := Aside0.mk (nl hg BK151.out)
             have NB156_151 := Aside0.mk (nr hg BK151.out)
             replace BK150 := Aside0.mk (bb BK150.out hb)
             replace BK151 := Aside0.mk (bb BK151.out hb)
             replace HB := Aside0.mk (below_step (bl2 HB.out GE150.out GE151.out) hb)
             clear hb hbox hg
             refine hK.out _ _ (mS _ BK150.out) (fun hHeld => ?_)
             clear hK K
             refine np 6 ?_
             exact nj (hJ8 (gb156) _ ⟨hHeld, (bk BK150.out), (bk BK151.out), (bk BK156.out), GW156.out, GE156.out, NB150_156.out, NB156_150.out, NB151_156.out, NB156_151.out, (bl3 HB.out GE150.out GE151.out GE156.out)⟩)
            ·skip
             refine bs 7 (#[.int .u64 0, .int .u64 0]) 112 ?_
             intro gb157 hg w32 hbox hb
             have BK157 := Aside0.mk (hbox)
             have GW157 := Aside0.mk (gz (w := w) hg (bl2 HB.out GE150.out GE151.out))
             have GE157 := GW157
             have NB150_157 := Aside0.mk (nl hg BK150.out)
             have NB157_150 := Aside0.mk (nr hg BK150.out)
             have NB151_157 := Aside0.mk (nl hg BK151.out)
             have NB157_151 := Aside0.mk (nr hg BK151.out)
             replace BK150 := Aside0.mk (bb BK150.out hb)
             replace BK151 := Aside0.mk (bb BK151.out hb)
             replace HB := Aside0.mk (below_step (bl2 HB.out GE150.out GE151.out) hb)
             clear hb hbox hg
             refine hK.out _ _ (mS _ BK150.out) (fun hHeld => ?_)
             clear hK K
             refine np 7 ?_
             exact nj (hJ9 (gb157) _ ⟨hHeld, (bk BK150.out), (bk BK151.out), (bk BK157.out), GW157.out, GE157.out, NB150_157.out, NB157_150.out, NB151_157.out, NB157_151.out, (bl3 HB.out GE150.out GE151.out GE157.out)⟩)
           ·skip
            rintro gb157 w33 ⟨hS_, h0_, h1_, h2_, h3_, h4_, h5_, h6_, h7_, h8_, h9_⟩
            have BK157 : Aside0 (w33.heap[gb157]? = some (.cells #[.int .u64 0, .int .u64 0] 112 (0, 0))) := ⟨h2_⟩
            have GW157 : Aside0 (w.heap.size ≤ gb157) := ⟨h3_⟩
            have GE157 : Aside0 (w.heap.size ≤ gb157) := ⟨h4_⟩
            have NB150_157 : Aside0 (gb150 ≠ gb157) := ⟨h5_⟩
            have NB157_150 : Aside0 (gb157 ≠ gb150) := ⟨h6_⟩
            have NB151_157 : Aside0 (gb151 ≠ gb157) := ⟨h7_⟩
            have NB157_151 : Aside0 (gb157 ≠ gb151) := ⟨h8_⟩
            replace BK150 : Aside0 (w33.heap[gb150]? = some (.cells #[.int .u64 a0_0, .int .u64 a0_1] 112 (0, 0))) := ⟨h0_⟩
            replace BK151 : Aside0 (w33.heap[gb151]? = some (.cells #[.int .u64 0, .int .u64 0] 112 (0, 0))) := ⟨h1_⟩
            replace HB : Aside0 (Below w.heap.size w w33) := ⟨h9_⟩
            clear h0_ h1_ h2_ h3_ h4_ h5_ h6_ h7_ h8_ h9_
            have hHeld := hS_
            refine na ?_
            refine two_ (i := 3) (j := 8) (Ni := some 11) (Nj := some 6) (ba 12 639) (ba 12 887) rfl rfl rfl rfl (two_of HT_.out (by kernel_rfl)) (by decide) (by decide) (fun K hK => ?_) (fun K hK => ?_)
            ·skip
             refine goes_ Try.func91 (by kernel_rfl) rfl #[.int .u64 a0_1, .int .u64 a1] (by rfl) rfl rfl am ?_
             with_reducible refine (wide_Mul.calls a0_1 a1 t152 t153 _ A3.out).mono ?_
             rintro e w34 ⟨rfl, hb⟩
             refine ⟨_, rfl, ?_⟩
             replace BK150 := Aside0.mk (bb BK150.out hb)
             replace BK151 := Aside0.mk (bb BK151.out hb)
             replace BK157 := Aside0.mk (bb BK157.out hb)
             replace HB := Aside0.mk (below_step (bl3 HB.out GE150.out GE151.out GE157.out) hb)
             (try clear hb)
             (try clear hb2)
             (try clear hk)
             (try clear hi)
             refine hK.out _ _ (mS _ BK150.out) (fun hHeld => ?_)
             clear hK K
             refine np 11 ?_
             exact nj (hJ3_9 (gb157) _ ⟨hHeld, (bk BK150.out), (bk BK151.out), (bk BK157.out), GW157.out, GE157.out, NB150_157.out, NB157_150.out, NB151_157.out, NB157_151.out, (bl3 HB.out GE150.out GE151.out GE157.out)⟩)
            ·skip
             refine bs 6 (#[.int .u64 0, .int .u64 0]) 112 ?_
             intro gb156 hg w34 hbox hb
             have BK156 := Aside0.mk (hbox)
             have GW156 := Aside0.mk (gz (w := w) hg (bl3 HB.out GE150.out GE151.out GE157.out))
             have GE156 := GW156
             have NB150_156 := Aside0.mk (nl hg BK150.out)
             have NB156_150 := Aside0.mk (nr hg BK150.out)
             have NB151_156 := Aside0.mk (nl hg BK151.out)
             have NB156_151 := Aside0.mk (nr hg BK151.out)
             have NB157_156 := Aside0.mk (nl hg BK157.out)
             have NB156_157 := Aside0.mk (nr hg BK157.out)
             replace BK150 := Aside0.mk (bb BK150.out hb)
             replace BK151 := Aside0.mk (bb BK151.out hb)
             replace BK157 := Aside0.mk (bb BK157.out hb)
             replace HB := Aside0.mk (below_step (bl3 HB.out GE150.out GE151.out GE157.out) hb)
             clear hb hbox hg
             refine hK.out _ _ (mS _ BK150.out) (fun hHeld => ?_)
             clear hK K
             refine np 6 ?_
             exact nj (hJ8_9 (gb156, gb157) _ ⟨hHeld, (bk BK150.out), (bk BK151.out), (bk BK156.out), (bk BK157.out), GW156.out, GE156.out, NB150_156.out, NB156_150.out, NB151_156.out, NB156_151.out, NB157_156.out, NB156_157.out, GW157.out, GE157.out, NB150_157.out, NB157_150.out, NB151_157.out, NB157_151.out, (bl4 HB.out GE150.out GE151.out GE157.out GE156.out)⟩)
          ·skip
           rintro gb156 w33 ⟨hS_, h0_, h1_, h2_, h3_, h4_, h5_, h6_, h7_, h8_, h9_⟩
           have BK156 : Aside0 (w33.heap[gb156]? = some (.cells #[.int .u64 0, .int .u64 0] 112 (0, 0))) := ⟨h2_⟩
           have GW156 : Aside0 (w.heap.size ≤ gb156) := ⟨h3_⟩
           have GE156 : Aside0 (w.heap.size ≤ gb156) := ⟨h4_⟩
           have NB150_156 : Aside0 (gb150 ≠ gb156) := ⟨h5_⟩
           have NB156_150 : Aside0 (gb156 ≠ gb150) := ⟨h6_⟩
           have NB151_156 : Aside0 (gb151 ≠ gb156) := ⟨h7_⟩
           have NB156_151 : Aside0 (gb156 ≠ gb151) := ⟨h8_⟩
           replace BK150 : Aside0 (w33.heap[gb150]? = some (.cells #[.int .u64 a0_0, .int .u64 a0_1] 112 (0, 0))) := ⟨h0_⟩
           replace BK151 : Aside0 (w33.heap[gb151]? = some (.cells #[.int .u64 0, .int .u64 0] 112 (0, 0))) := ⟨h1_⟩
           replace HB : Aside0 (Below w.heap.size w w33) := ⟨h9_⟩
           clear h0_ h1_ h2_ h3_ h4_ h5_ h6_ h7_ h8_ h9_
           have hHeld := hS_
           refine na ?_
           refine two_ (i := 3) (j := 9) (Ni := some 11) (Nj := some 7) (ba 12 383) (ba 12 887) rfl rfl rfl rfl (two_of HT_.out (by kernel_rfl)) (by decide) (by decide) (fun K hK => ?_) (fun K hK => ?_)
           ·skip
            refine goes_ Try.func91 (by kernel_rfl) rfl #[.int .u64 a0_1, .int .u64 a1] (by rfl) rfl rfl am ?_
            with_reducible refine (wide_Mul.calls a0_1 a1 t152 t153 _ A3.out).mono ?_
            rintro e w34 ⟨rfl, hb⟩
            refine ⟨_, rfl, ?_⟩
            replace BK150 := Aside0.mk (bb BK150.out hb)
            replace BK151 := Aside0.mk (bb BK151.out hb)
            replace BK156 := Aside0.mk (bb BK156.out hb)
            replace HB := Aside0.mk (below_step (bl3 HB.out GE150.out GE151.out GE156.out) hb)
            (try clear hb)
            (try clear hb2)
            (try clear hk)
            (try clear hi)
            refine hK.out _ _ (mS _ BK150.out) (fun hHeld => ?_)
            clear hK K
            refine np 11 ?_
            exact nj (hJ3_8 (gb156) _ ⟨hHeld, (bk BK150.out), (bk BK151.out), (bk BK156.out), GW156.out, GE156.out, NB150_156.out, NB156_150.out, NB151_156.out, NB156_151.out, (bl3 HB.out GE150.out GE151.out GE156.out)⟩)
           ·skip
            refine bs 7 (#[.int .u64 0, .int .u64 0]) 112 ?_
            intro gb157 hg w34 hbox hb
            have BK157 := Aside0.mk (hbox)
            have GW157 := Aside0.mk (gz (w := w) hg (bl3 HB.out GE150.out GE151.out GE156.out))
            have GE157 := GW157
            have NB150_157 := Aside0.mk (nl hg BK150.out)
            have NB157_150 := Aside0.mk (nr hg BK150.out)
            have NB151_157 := Aside0.mk (nl hg BK151.out)
            have NB157_151 := Aside0.mk (nr hg BK151.out)
            have NB156_157 := Aside0.mk (nl hg BK156.out)
            have NB157_156 := Aside0.mk (nr hg BK156.out)
            replace BK150 := Aside0.mk (bb BK150.out hb)
            replace BK151 := Aside0.mk (bb BK151.out hb)
            replace BK156 := Aside0.mk (bb BK156.out hb)
            replace HB := Aside0.mk (below_step (bl3 HB.out GE150.out GE151.out GE156.out) hb)
            clear hb hbox hg
            refine hK.out _ _ (mS _ BK150.out) (fun hHeld => ?_)
            clear hK K
            refine np 7 ?_
            exact nj (hJ8_9 (gb156, gb157) _ ⟨hHeld, (bk BK150.out), (bk BK151.out), (bk BK156.out), (bk BK157.out), GW156.out, GE156.out, NB150_156.out, NB156_150.out, NB151_156.out, NB156_151.out, NB157_156.out, NB156_157.out, GW157.out, GE157.out, NB150_157.out, NB157_150.out, NB151_157.out, NB157_151.out, (bl4 HB.out GE150.out GE151.out GE156.out GE157.out)⟩)
         ·skip
          rintro _ w33 ⟨hS_, h0_, h1_, h2_⟩
          replace BK150 : Aside0 (w33.heap[gb150]? = some (.cells #[.int .u64 a0_0, .int .u64 a0_1] 112 (0, 0))) := ⟨h0_⟩
          replace BK151 : Aside0 (w33.heap[gb151]? = some (.cells #[.int .u64 0, .int .u64 0] 112 (0, 0))) := ⟨h1_⟩
          replace HB : Aside0 (Below w.heap.size w w33) := ⟨h2_⟩
          clear h0_ h1_ h2_
          have hHeld := hS_
          refine na ?_
          refine three_ (i := 7) (j := 8) (k := 9) (Ni := some 15) (Nj := some 6) (Nk := some 7) (ba 12 255) (ba 12 383) (ba 12 639) rfl rfl rfl rfl rfl rfl (three_of HT_.out (by kernel_rfl)) (by decide) (by decide) (by decide) (fun K hK => ?_) (fun K hK => ?_) (fun K hK => ?_)
          ·skip
           refine goes_ Try.func91 (by kernel_rfl) rfl #[.int .u64 a0_0, .int .u64 a1] (by rfl) rfl rfl am ?_
           with_reducible refine (wide_Mul.calls a0_0 a1 t154 t155 _ A4.out).mono ?_
           rintro e w34 ⟨rfl, hb⟩
           refine ⟨_, rfl, ?_⟩
           replace BK150 := Aside0.mk (bb BK150.out hb)
           replace BK151 := Aside0.mk (bb BK151.out hb)
           replace HB := Aside0.mk (below_step (bl2 HB.out GE150.out GE151.out) hb)
           (try clear hb)
           (try clear hb2)
           (try clear hk)
           (try clear hi)
           refine hK.out _ _ (mS _ BK150.out) (fun hHeld => ?_)
           clear hK K
           refine np 15 ?_
           exact nj (hJ3_7 () _ ⟨hHeld, (bk BK150.out), (bk BK151.out), (bl2 HB.out GE150.out GE151.out)⟩)
          ·skip
           refine bs 6 (#[.int .u64 0, .int .u64 0]) 112 ?_
           intro gb156 hg w34 hbox hb
           have BK156 := Aside0.mk (hbox)
           have GW156 := Aside0.mk (gz (w := w) hg (bl2 HB.out GE150.out GE151.out))
           have GE156 := GW156
           have NB150_156 := Aside0.mk (nl hg BK150.out)
           have NB156_150 := Aside0.mk (nr hg BK150.out)
           have NB151_156 := Aside0.mk (nl hg BK151.out)
           have NB156_151 := Aside0.mk (nr hg BK151.out)
           replace BK150 := Aside0.mk (bb BK150.out hb)
           replace BK151 := Aside0.mk (bb BK151.out hb)
           replace HB := Aside0.mk (below_step (bl2 HB.out GE150.out GE151.out) hb)
           clear hb hbox hg
           refine hK.out _ _ (mS _ BK150.out) (fun hHeld => ?_)
           clear hK K
           refine np 6 ?_
           exact nj (hJ3_8 (gb156) _ ⟨hHeld, (bk BK150.out), (bk BK151.out), (bk BK156.out), GW156.out, GE156.out, NB150_156.out, NB156_150.out, NB151_156.out, NB156_151.out, (bl3 HB.out GE150.out GE151.out GE156.out)⟩)
          ·skip
           refine bs 7 (#[.int .u64 0, .int .u64 0]) 112 ?_
           intro gb157 hg w34 hbox hb
           have BK157 := Aside0.mk (hbox)
           have GW157 := Aside0.mk (gz (w := w) hg (bl2 HB.out GE150.out GE151.out))
           have GE157 := GW157
           have NB150_157 := Aside0.mk (nl hg BK150.out)
           have NB157_150 := Aside0.mk (nr hg BK150.out)
           have NB151_157 := Aside0.mk (nl hg BK151.out)
           have NB157_151 := Aside0.mk (nr hg BK151.out)
           replace BK150 := Aside0.mk (bb BK150.out hb)
           replace BK151 := Aside0.mk (bb BK151.out hb)
           replace HB := Aside0.mk (below_step (bl2 HB.out GE150.out GE151.out) hb)
           clear hb hbox hg
           refine hK.out _ _ (mS _ BK150.out) (fun hHeld => ?_)
           clear hK K
           refine np 7 ?_
           exact nj (hJ3_9 (gb157) _ ⟨hHeld, (bk BK150.out), (bk BK151.out), (bk BK157.out), GW157.out, GE157.out, NB150_157.out, NB157_150.out, NB151_157.out, NB157_151.out, (bl3 HB.out GE150.out GE151.out GE157.out)⟩)
        ·skip
         rintro ⟨gb156, gb157⟩ w34 ⟨hS_, h0_, h1_, h2_, h3_, h4_, h5_, h6_, h7_, h8_, h9_, h10_, h11_, h12_, h13_, h14_, h15_, h16_, h17_, h18_⟩
         have BK156 : Aside0 (w34.heap[gb156]? = some (.cells #[.int .u64 0, .int .u64 0] 112 (0, 0))) := ⟨h2_⟩
         have BK157 : Aside0 (w34.heap[gb157]? = some (.cells #[.int .u64 0, .int .u64 0] 112 (0, 0))) := ⟨h3_⟩
         have GW156 : Aside0 (w.heap.size ≤ gb156) := ⟨h4_⟩
         have GE156 : Aside0 (w.heap.size ≤ gb156) := ⟨h5_⟩
         have NB150_156 : Aside0 (gb150 ≠ gb156) := ⟨h6_⟩
         have NB156_150 : Aside0 (gb156 ≠ gb150) := ⟨h7_⟩
         have NB151_156 : Aside0 (gb151 ≠ gb156) := ⟨h8_⟩
         have NB156_151 : Aside0 (gb156 ≠ gb151) := ⟨h9_⟩
         have NB157_156 : Aside0 (gb157 ≠ gb156) := ⟨h10_⟩
         have NB156_157 : Aside0 (gb156 ≠ gb157) := ⟨h11_⟩
         have GW157 : Aside0 (w.heap.size ≤ gb157) := ⟨h12_⟩
         have GE157 : Aside0 (w.heap.size ≤ gb157) := ⟨h13_⟩
         have NB150_157 : Aside0 (gb150 ≠ gb157) := ⟨h14_⟩
         have NB157_150 : Aside0 (gb157 ≠ gb150) := ⟨h15_⟩
         have NB151_157 : Aside0 (gb151 ≠ gb157) := ⟨h16_⟩
         have NB157_151 : Aside0 (gb157 ≠ gb151) := ⟨h17_⟩
         replace BK150 : Aside0 (w34.heap[gb150]? = some (.cells #[.int .u64 a0_0, .int .u64 a0_1] 112 (0, 0))) := ⟨h0_⟩
         replace BK151 : Aside0 (w34.heap[gb151]? = some (.cells #[.int .u64 0, .int .u64 0] 112 (0, 0))) := ⟨h1_⟩
         replace HB : Aside0 (Below w.heap.size w w34) := ⟨h18_⟩
         clear h0_ h1_ h2_ h3_ h4_ h5_ h6_ h7_ h8_ h9_ h10_ h11_ h12_ h13_ h14_ h15_ h16_ h17_ h18_
         have hHeld := hS_
         refine na ?_
         refine one_ (i := 3) (N := some 11) (ba 12 895) rfl rfl (one_of HT_.out (by kernel_rfl)) (by decide) (fun K hK => ?_)
         refine goes_ Try.func91 (by kernel_rfl) rfl #[.int .u64 a0_1, .int .u64 a1] (by rfl) rfl rfl am ?_
         with_reducible refine (wide_Mul.calls a0_1 a1 t152 t153 _ A3.out).mono ?_
         rintro e w35 ⟨rfl, hb⟩
         refine ⟨_, rfl, ?_⟩
         replace BK150 := Aside0.mk (bb BK150.out hb)
         replace BK151 := Aside0.mk (bb BK151.out hb)
         replace BK156 := Aside0.mk (bb BK156.out hb)
         replace BK157 := Aside0.mk (bb BK157.out hb)
         replace HB := Aside0.mk (below_step (bl4 HB.out GE150.out GE151.out GE156.out GE157.out) hb)
         (try clear hb)
         (try clear hb2)
         (try clear hk)
         (try clear hi)
         refine hK.out _ _ (mS _ BK150.out) (fun hHeld => ?_)
         clear hK K
         refine np 11 ?_
         exact nj (hJ3_8_9 (gb156, gb157) _ ⟨hHeld, (bk BK150.out), (bk BK151.out), (bk BK156.out), (bk BK157.out), GW156.out, GE156.out, NB150_156.out, NB156_150.out, NB151_156.out, NB156_151.out, NB157_156.out, NB156_157.out, GW157.out, GE157.out, NB150_157.out, NB157_150.out, NB151_157.out, NB157_151.out, (bl4 HB.out GE150.out GE151.out GE156.out GE157.out)⟩)
       ·skip
        rintro gb157 w34 ⟨hS_, h0_, h1_, h2_, h3_, h4_, h5_, h6_, h7_, h8_, h9_⟩
        have BK157 : Aside0 (w34.heap[gb157]? = some (.cells #[.int .u64 0, .int .u64 0] 112 (0, 0))) := ⟨h2_⟩
        have GW157 : Aside0 (w.heap.size ≤ gb157) := ⟨h3_⟩
        have GE157 : Aside0 (w.heap.size ≤ gb157) := ⟨h4_⟩
        have NB150_157 : Aside0 (gb150 ≠ gb157) := ⟨h5_⟩
        have NB157_150 : Aside0 (gb157 ≠ gb150) := ⟨h6_⟩
        have NB151_157 : Aside0 (gb151 ≠ gb157) := ⟨h7_⟩
        have NB157_151 : Aside0 (gb157 ≠ gb151) := ⟨h8_⟩
        replace BK150 : Aside0 (w34.heap[gb150]? = some (.cells #[.int .u64 a0_0, .int .u64 a0_1] 112 (0, 0))) := ⟨h0_⟩
        replace BK151 : Aside0 (w34.heap[gb151]? = some (.cells #[.int .u64 0, .int .u64 0] 112 (0, 0))) := ⟨h1_⟩
        replace HB : Aside0 (Below w.heap.size w w34) := ⟨h9_⟩
        clear h0_ h1_ h2_ h3_ h4_ h5_ h6_ h7_ h8_ h9_
        have hHeld := hS_
        refine na ?_
        refine two_ (i := 7) (j := 8) (Ni := some 15) (Nj := some 6) (ba 12 767) (ba 12 895) rfl rfl rfl rfl (two_of HT_.out (by kernel_rfl)) (by decide) (by decide) (fun K hK => ?_) (fun K hK => ?_)
        ·skip
         refine goes_ Try.func91 (by kernel_rfl) rfl #[.int .u64 a0_0, .int .u64 a1] (by rfl) rfl rfl am ?_
         with_reducible refine (wide_Mul.calls a0_0 a1 t154 t155 _ A4.out).mono ?_
         rintro e w35 ⟨rfl, hb⟩
         refine ⟨_, rfl, ?_⟩
         replace BK150 := Aside0.mk (bb BK150.out hb)
         replace BK151 := Aside0.mk (bb BK151.out hb)
         replace BK157 := Aside0.mk (bb BK157.out hb)
         replace HB := Aside0.mk (below_step (bl3 HB.out GE150.out GE151.out GE157.out) hb)
         (try clear hb)
         (try clear hb2)
         (try clear hk)
         (try clear hi)
         refine hK.out _ _ (mS _ BK150.out) (fun hHeld => ?_)
         clear hK K
         refine np 15 ?_
         exact nj (hJ3_7_9 (gb157) _ ⟨hHeld, (bk BK150.out), (bk BK151.out), (bk BK157.out), GW157.out, GE157.out, NB150_157.out, NB157_150.out, NB151_157.out, NB157_151.out, (bl3 HB.out GE150.out GE151.out GE157.out)⟩)
        ·skip
         refine bs 6 (#[.int .u64 0, .int .u64 0]) 112 ?_
         intro gb156 hg w35 hbox hb
         have BK156 := Aside0.mk (hbox)
         have GW156 := Aside0.mk (gz (w := w) hg (bl3 HB.out GE150.out GE151.out GE157.out))
         have GE156 := GW156
         have NB150_156 := Aside0.mk (nl hg BK150.out)
         have NB156_150 := Aside0.mk (nr hg BK150.out)
         have NB151_156 := Aside0.mk (nl hg BK151.out)
         have NB156_151 := Aside0.mk (nr hg BK151.out)
         have NB157_156 := Aside0.mk (nl hg BK157.out)
         have NB156_157 := Aside0.mk (nr hg BK157.out)
         replace BK150 := Aside0.mk (bb BK150.out hb)
         replace BK151 := Aside0.mk (bb BK151.out hb)
         replace BK157 := Aside0.mk (bb BK157.out hb)
         replace HB := Aside0.mk (below_step (bl3 HB.out GE150.out GE151.out GE157.out) hb)
         clear hb hbox hg
         refine hK.out _ _ (mS _ BK150.out) (fun hHeld => ?_)
         clear hK K
         refine np 6 ?_
         exact nj (hJ3_8_9 (gb156, gb157) _ ⟨hHeld, (bk BK150.out), (bk BK151.out), (bk BK156.out), (bk BK157.out), GW156.out, GE156.out, NB150_156.out, NB156_150.out, NB151_156.out, NB156_151.out, NB157_156.out, NB156_157.out, GW157.out, GE157.out, NB150_157.out, NB157_150.out, NB151_157.out, NB157_151.out, (bl4 HB.out GE150.out GE151.out GE157.out GE156.out)⟩)
      ·skip
       rintro gb156 w34 ⟨hS_, h0_, h1_, h2_, h3_, h4_, h5_, h6_, h7_, h8_, h9_⟩
       have BK156 : Aside0 (w34.heap[gb156]? = some (.cells #[.int .u64 0, .int .u64 0] 112 (0, 0))) := ⟨h2_⟩
       have GW156 : Aside0 (w.heap.size ≤ gb156) := ⟨h3_⟩
       have GE156 : Aside0 (w.heap.size ≤ gb156) := ⟨h4_⟩
       have NB150_156 : Aside0 (gb150 ≠ gb156) := ⟨h5_⟩
       have NB156_150 : Aside0 (gb156 ≠ gb150) := ⟨h6_⟩
       have NB151_156 : Aside0 (gb151 ≠ gb156) := ⟨h7_⟩
       have NB156_151 : Aside0 (gb156 ≠ gb151) := ⟨h8_⟩
       replace BK150 : Aside0 (w34.heap[gb150]? = some (.cells #[.int .u64 a0_0, .int .u64 a0_1] 112 (0, 0))) := ⟨h0_⟩
       replace BK151 : Aside0 (w34.heap[gb151]? = some (.cells #[.int .u64 0, .int .u64 0] 112 (0, 0))) := ⟨h1_⟩
       replace HB : Aside0 (Below w.heap.size w w34) := ⟨h9_⟩
       clear h0_ h1_ h2_ h3_ h4_ h5_ h6_ h7_ h8_ h9_
       have hHeld := hS_
       refine na ?_
       refine two_ (i := 7) (j := 9) (Ni := some 15) (Nj := some 7) (ba 12 511) (ba 12 895) rfl rfl rfl rfl (two_of HT_.out (by kernel_rfl)) (by decide) (by decide) (fun K hK => ?_) (fun K hK => ?_)
       ·skip
        refine goes_ Try.func91 (by kernel_rfl) rfl #[.int .u64 a0_0, .int .u64 a1] (by rfl) rfl rfl am ?_
        with_reducible refine (wide_Mul.calls a0_0 a1 t154 t155 _ A4.out).mono ?_
        rintro e w35 ⟨rfl, hb⟩
        refine ⟨_, rfl, ?_⟩
        replace BK150 := Aside0.mk (bb BK150.out hb)
        replace BK151 := Aside0.mk (bb BK151.out hb)
        replace BK156 := Aside0.mk (bb BK156.out hb)
        replace HB := Aside0.mk (below_step (bl3 HB.out GE150.out GE151.out GE156.out) hb)
        (try clear hb)
        (try clear hb2)
        (try clear hk)
        (try clear hi)
        refine hK.out _ _ (mS _ BK150.out) (fun hHeld => ?_)
        clear hK K
        refine np 15 ?_
        exact nj (hJ3_7_8 (gb156) _ ⟨hHeld, (bk BK150.out), (bk BK151.out), (bk BK156.out), GW156.out, GE156.out, NB150_156.out, NB156_150.out, NB151_156.out, NB156_151.out, (bl3 HB.out GE150.out GE151.out GE156.out)⟩)
       ·skip
        refine bs 7 (#[.int .u64 0, .int .u64 0]) 112 ?_
        intro gb157 hg w35 hbox hb
        have BK157 := Aside0.mk (hbox)
        have GW157 := Aside0.mk (gz (w := w) hg (bl3 HB.out GE150.out GE151.out GE156.out))
        have GE157 := GW157
        have NB150_157 := Aside0.mk (nl hg BK150.out)
        have NB157_150 := Aside0.mk (nr hg BK150.out)
        have NB151_157 := Aside0.mk (nl hg BK151.out)
        have NB157_151 := Aside0.mk (nr hg BK151.out)
        have NB156_157 := Aside0.mk (nl hg BK156.out)
        have NB157_156 := Aside0.mk (nr hg BK156.out)
        replace BK150 := Aside0.mk (bb BK150.out hb)
        replace BK151 := Aside0.mk (bb BK151.out hb)
        replace BK156 := Aside0.mk (bb BK156.out hb)
        replace HB := Aside0.mk (below_step (bl3 HB.out GE150.out GE151.out GE156.out) hb)
        clear hb hbox hg
        refine hK.out _ _ (mS _ BK150.out) (fun hHeld => ?_)
        clear hK K
        refine np 7 ?_
        exact nj (hJ3_8_9 (gb156, gb157) _ ⟨hHeld, (bk BK150.out), (bk BK151.out), (bk BK156.out), (bk BK157.out), GW156.out, GE156.out, NB150_156.out, NB156_150.out, NB151_156.out, NB156_151.out, NB157_156.out, NB156_157.out, GW157.out, GE157.out, NB150_157.out, NB157_150.out, NB151_157.out, NB157_151.out, (bl4 HB.out GE150.out GE151.out GE156.out GE157.out)⟩)
     ·skip
      rintro _ w34 ⟨hS_, h0_, h1_, h2_⟩
      replace BK150 : Aside0 (w34.heap[gb150]? = some (.cells #[.int .u64 a0_0, .int .u64 a0_1] 112 (0, 0))) := ⟨h0_⟩
      replace BK151 : Aside0 (w34.heap[gb151]? = some (.cells #[.int .u64 0, .int .u64 0] 112 (0, 0))) := ⟨h1_⟩
      replace HB : Aside0 (Below w.heap.size w w34) := ⟨h2_⟩
      clear h0_ h1_ h2_
      have hHeld := hS_
      refine na ?_
      refine two_ (i := 8) (j := 9) (Ni := some 6) (Nj := some 7) (ba 12 511) (ba 12 767) rfl rfl rfl rfl (two_of HT_.out (by kernel_rfl)) (by decide) (by decide) (fun K hK => ?_) (fun K hK => ?_)
      ·skip
       refine bs 6 (#[.int .u64 0, .int .u64 0]) 112 ?_
       intro gb156 hg w35 hbox hb
       have BK156 := Aside0.mk (hbox)
       have GW156 := Aside0.mk (gz (w := w) hg (bl2 HB.out GE150.out GE151.out))
       have GE156 := GW156
       have NB150_156 := Aside0.mk (nl hg BK150.out)
       have NB156_150 := Aside0.mk (nr hg BK150.out)
       have NB151_156 := Aside0.mk (nl hg BK151.out)
       have NB156_151 := Aside0.mk (nr hg BK151.out)
       replace BK150 := Aside0.mk (bb BK150.out hb)
       replace BK151 := Aside0.mk (bb BK151.out hb)
       replace HB := Aside0.mk (below_step (bl2 HB.out GE150.out GE151.out) hb)
       clear hb hbox hg
       refine hK.out _ _ (mS _ BK150.out) (fun hHeld => ?_)
       clear hK K
       refine np 6 ?_
       exact nj (hJ3_7_8 (gb156) _ ⟨hHeld, (bk BK150.out), (bk BK151.out), (bk BK156.out), GW156.out, GE156.out, NB150_156.out, NB156_150.out, NB151_156.out, NB156_151.out, (bl3 HB.out GE150.out GE151.out GE156.out)⟩)
      ·skip
       refine bs 7 (#[.int .u64 0, .int .u64 0]) 112 ?_
       intro gb157 hg w35 hbox hb
       have BK157 := Aside0.mk (hbox)
       have GW157 := Aside0.mk (gz (w := w) hg (bl2 HB.out GE150.out GE151.out))
       have GE157 := GW157
       have NB150_157 := Aside0.mk (nl hg BK150.out)
       have NB157_150 := Aside0.mk (nr hg BK150.out)
       have NB151_157 := Aside0.mk (nl hg BK151.out)
       have NB157_151 := Aside0.mk (nr hg BK151.out)
       replace BK150 := Aside0.mk (bb BK150.out hb)
       replace BK151 := Aside0.mk (bb BK151.out hb)
       replace HB := Aside0.mk (below_step (bl2 HB.out GE150.out GE151.out) hb)
       clear hb hbox hg
       refine hK.out _ _ (mS _ BK150.out) (fun hHeld => ?_)
       clear hK K
       refine np 7 ?_
       exact nj (hJ3_7_9 (gb157) _ ⟨hHeld, (bk BK150.out), (bk BK151.out), (bk BK157.out), GW157.out, GE157.out, NB150_157.out, NB157_150.out, NB151_157.out, NB157_151.out, (bl3 HB.out GE150.out GE151.out GE157.out)⟩)
    ·skip
     rintro ⟨gb156, gb157⟩ w35 ⟨hS_, h0_, h1_, h2_, h3_, h4_, h5_, h6_, h7_, h8_, h9_, h10_, h11_, h12_, h13_, h14_, h15_, h16_, h17_, h18_⟩
     have BK156 : Aside0 (w35.heap[gb156]? = some (.cells #[.int .u64 0, .int .u64 0] 112 (0, 0))) := ⟨h2_⟩
     have BK157 : Aside0 (w35.heap[gb157]? = some (.cells #[.int .u64 0, .int .u64 0] 112 (0, 0))) := ⟨h3_⟩
     have GW156 : Aside0 (w.heap.size ≤ gb156) := ⟨h4_⟩
     have GE156 : Aside0 (w.heap.size ≤ gb156) := ⟨h5_⟩
     have NB150_156 : Aside0 (gb150 ≠ gb156) := ⟨h6_⟩
     have NB156_150 : Aside0 (gb156 ≠ gb150) := ⟨h7_⟩
     have NB151_156 : Aside0 (gb151 ≠ gb156) := ⟨h8_⟩
     have NB156_151 : Aside0 (gb156 ≠ gb151) := ⟨h9_⟩
     have NB157_156 : Aside0 (gb157 ≠ gb156) := ⟨h10_⟩
     have NB156_157 : Aside0 (gb156 ≠ gb157) := ⟨h11_⟩
     have GW157 : Aside0 (w.heap.size ≤ gb157) := ⟨h12_⟩
     have GE157 : Aside0 (w.heap.size ≤ gb157) := ⟨h13_⟩
     have NB150_157 : Aside0 (gb150 ≠ gb157) := ⟨h14_⟩
     have NB157_150 : Aside0 (gb157 ≠ gb150) := ⟨h15_⟩
     have NB151_157 : Aside0 (gb151 ≠ gb157) := ⟨h16_⟩
     have NB157_151 : Aside0 (gb157 ≠ gb151) := ⟨h17_⟩
     replace BK150 : Aside0 (w35.heap[gb150]? = some (.cells #[.int .u64 a0_0, .int .u64 a0_1] 112 (0, 0))) := ⟨h0_⟩
     replace BK151 : Aside0 (w35.heap[gb151]? = some (.cells #[.int .u64 0, .int .u64 0] 112 (0, 0))) := ⟨h1_⟩
     replace HB : Aside0 (Below w.heap.size w w35) := ⟨h18_⟩
     clear h0_ h1_ h2_ h3_ h4_ h5_ h6_ h7_ h8_ h9_ h10_ h11_ h12_ h13_ h14_ h15_ h16_ h17_ h18_
     have hHeld := hS_
     refine na ?_
     refine one_ (i := 7) (N := some 15) (ba 12 1023) rfl rfl (one_of HT_.out (by kernel_rfl)) (by decide) (fun K hK => ?_)
     refine goes_ Try.func91 (by kernel_rfl) rfl #[.int .u64 a0_0, .int .u64 a1] (by rfl) rfl rfl am ?_
     with_reducible refine (wide_Mul.calls a0_0 a1 t154 t155 _ A4.out).mono ?_
     rintro e w36 ⟨rfl, hb⟩
     refine ⟨_, rfl, ?_⟩
     replace BK150 := Aside0.mk (bb BK150.out hb)
     replace BK151 := Aside0.mk (bb BK151.out hb)
     replace BK156 := Aside0.mk (bb BK156.out hb)
     replace BK157 := Aside0.mk (bb BK157.out hb)
     replace HB := Aside0.mk (below_step (bl4 HB.out GE150.out GE151.out GE156.out GE157.out) hb)
     (try clear hb)
     (try clear hb2)
     (try clear hk)
     (try clear hi)
     refine hK.out _ _ (mS _ BK150.out) (fun hHeld => ?_)
     clear hK K
     refine np 15 ?_
     exact nj (hJ3_7_8_9 (gb156, gb157) _ ⟨hHeld, (bk BK150.out), (bk BK151.out), (bk BK156.out), (bk BK157.out), GW156.out, GE156.out, NB150_156.out, NB156_150.out, NB151_156.out, NB156_151.out, NB157_156.out, NB156_157.out, GW157.out, GE157.out, NB150_157.out, NB157_150.out, NB151_157.out, NB157_151.out, (bl4 HB.out GE150.out GE151.out GE156.out GE157.out)⟩)
   ·skip
    rintro gb157 w35 ⟨hS_, h0_, h1_, h2_, h3_, h4_, h5_, h6_, h7_, h8_, h9_⟩
    have BK157 : Aside0 (w35.heap[gb157]? = some (.cells #[.int .u64 0, .int .u64 0] 112 (0, 0))) := ⟨h2_⟩
    have GW157 : Aside0 (w.heap.size ≤ gb157) := ⟨h3_⟩
    have GE157 : Aside0 (w.heap.size ≤ gb157) := ⟨h4_⟩
    have NB150_157 : Aside0 (gb150 ≠ gb157) := ⟨h5_⟩
    have NB157_150 : Aside0 (gb157 ≠ gb150) := ⟨h6_⟩
    have NB151_157 : Aside0 (gb151 ≠ gb157) := ⟨h7_⟩
    have NB157_151 : Aside0 (gb157 ≠ gb151) := ⟨h8_⟩
    replace BK150 : Aside0 (w35.heap[gb150]? = some (.cells #[.int .u64 a0_0, .int .u64 a0_1] 112 (0, 0))) := ⟨h0_⟩
    replace BK151 : Aside0 (w35.heap[gb151]? = some (.cells #[.int .u64 0, .int .u64 0] 112 (0, 0))) := ⟨h1_⟩
    replace HB : Aside0 (Below w.heap.size w w35) := ⟨h9_⟩
    clear h0_ h1_ h2_ h3_ h4_ h5_ h6_ h7_ h8_ h9_
    have hHeld := hS_
    refine na ?_
    refine one_ (i := 8) (N := some 6) (ba 12 1023) rfl rfl (one_of HT_.out (by kernel_rfl)) (by decide) (fun K hK => ?_)
    refine bs 6 (#[.int .u64 0, .int .u64 0]) 112 ?_
    intro gb156 hg w36 hbox hb
    have BK156 := Aside0.mk (hbox)
    have GW156 := Aside0.mk (gz (w := w) hg (bl3 HB.out GE150.out GE151.out GE157.out))
    have GE156 := GW156
    have NB150_156 := Aside0.mk (nl hg BK150.out)
    have NB156_150 := Aside0.mk (nr hg BK150.out)
    have NB151_156 := Aside0.mk (nl hg BK151.out)
    have NB156_151 := Aside0.mk (nr hg BK151.out)
    have NB157_156 := Aside0.mk (nl hg BK157.out)
    have NB156_157 := Aside0.mk (nr hg BK157.out)
    replace BK150 := Aside0.mk (bb BK150.out hb)
    replace BK151 := Aside0.mk (bb BK151.out hb)
    replace BK157 := Aside0.mk (bb BK157.out hb)
    replace HB := Aside0.mk (below_step (bl3 HB.out GE150.out GE151.out GE157.out) hb)
    clear hb hbox hg
    refine hK.out _ _ (mS _ BK150.out) (fun hHeld => ?_)
    clear hK K
    refine np 6 ?_
    exact nj (hJ3_7_8_9 (gb156, gb157) _ ⟨hHeld, (bk BK150.out), (bk BK151.out), (bk BK156.out), (bk BK157.out), GW156.out, GE156.out, NB150_156.out, NB156_150.out, NB151_156.out, NB156_151.out, NB157_156.out, NB156_157.out, GW157.out, GE157.out, NB150_157.out, NB157_150.out, NB151_157.out, NB157_151.out, (bl4 HB.out GE150.out GE151.out GE157.out GE156.out)⟩)
  ·skip
   rintro gb156 w35 ⟨hS_, h0_, h1_, h2_, h3_, h4_, h5_, h6_, h7_, h8_, h9_⟩
   have BK156 : Aside0 (w35.heap[gb156]? = some (.cells #[.int .u64 0, .int .u64 0] 112 (0, 0))) := ⟨h2_⟩
   have GW156 : Aside0 (w.heap.size ≤ gb156) := ⟨h3_⟩
   have GE156 : Aside0 (w.heap.size ≤ gb156) := ⟨h4_⟩
   have NB150_156 : Aside0 (gb150 ≠ gb156) := ⟨h5_⟩
   have NB156_150 : Aside0 (gb156 ≠ gb150) := ⟨h6_⟩
   have NB151_156 : Aside0 (gb151 ≠ gb156) := ⟨h7_⟩
   have NB156_151 : Aside0 (gb156 ≠ gb151) := ⟨h8_⟩
   replace BK150 : Aside0 (w35.heap[gb150]? = some (.cells #[.int .u64 a0_0, .int .u64 a0_1] 112 (0, 0))) := ⟨h0_⟩
   replace BK151 : Aside0 (w35.heap[gb151]? = some (.cells #[.int .u64 0, .int .u64 0] 112 (0, 0))) := ⟨h1_⟩
   replace HB : Aside0 (Below w.heap.size w w35) := ⟨h9_⟩
   clear h0_ h1_ h2_ h3_ h4_ h5_ h6_ h7_ h8_ h9_
   have hHeld := hS_
   refine na ?_
   refine one_ (i := 9) (N := some 7) (ba 12 1023) rfl rfl (one_of HT_.out (by kernel_rfl)) (by decide) (fun K hK => ?_)
   refine bs 7 (#[.int .u64 0, .int .u64 0]) 112 ?_
   intro gb157 hg w36 hbox hb
   have BK157 := Aside0.mk (hbox)
   have GW157 := Aside0.mk (gz (w := w) hg (bl3 HB.out GE150.out GE151.out GE156.out))
   have GE157 := GW157
   have NB150_157 := Aside0.mk (nl hg BK150.out)
   have NB157_150 := Aside0.mk (nr hg BK150.out)
   have NB151_157 := Aside0.mk (nl hg BK151.out)
   have NB157_151 := Aside0.mk (nr hg BK151.out)
   have NB156_157 := Aside0.mk (nl hg BK156.out)
   have NB157_156 := Aside0.mk (nr hg BK156.out)
   replace BK150 := Aside0.mk (bb BK150.out hb)
   replace BK151 := Aside0.mk (bb BK151.out hb)
   replace BK156 := Aside0.mk (bb BK156.out hb)
   replace HB := Aside0.mk (below_step (bl3 HB.out GE150.out GE151.out GE156.out) hb)
   clear hb hbox hg
   refine hK.out _ _ (mS _ BK150.out) (fun hHeld => ?_)
   clear hK K
   refine np 7 ?_
   exact nj (hJ3_7_8_9 (gb156, gb157) _ ⟨hHeld, (bk BK150.out), (bk BK151.out), (bk BK156.out), (bk BK157.out), GW156.out, GE156.out, NB150_156.out, NB156_150.out, NB151_156.out, NB156_151.out, NB157_156.out, NB156_157.out, GW157.out, GE157.out, NB150_157.out, NB157_150.out, NB151_157.out, NB157_151.out, (bl4 HB.out GE150.out GE151.out GE156.out GE157.out)⟩)
 rintro ⟨gb156, gb157⟩ w36 ⟨hS_, h0_, h1_, h2_, h3_, h4_, h5_, h6_, h7_, h8_, h9_, h10_, h11_, h12_, h13_, h14_, h15_, h16_, h17_, h18_⟩
 have BK156 : Aside0 (w36.heap[gb156]? = some (.cells #[.int .u64 0, .int .u64 0] 112 (0, 0))) := ⟨h2_⟩
 have BK157 : Aside0 (w36.heap[gb157]? = some (.cells #[.int .u64 0, .int .u64 0] 112 (0, 0))) := ⟨h3_⟩
 have GW156 : Aside0 (w.heap.size ≤ gb156) := ⟨h4_⟩
 have GE156 : Aside0 (w.heap.size ≤ gb156) := ⟨h5_⟩
 have NB150_156 : Aside0 (gb150 ≠ gb156) := ⟨h6_⟩
 have NB156_150 : Aside0 (gb156 ≠ gb150) := ⟨h7_⟩
 have NB151_156 : Aside0 (gb151 ≠ gb156) := ⟨h8_⟩
 have NB156_151 : Aside0 (gb156 ≠ gb151) := ⟨h9_⟩
 have NB157_156 : Aside0 (gb157 ≠ gb156) := ⟨h10_⟩
 have NB156_157 : Aside0 (gb156 ≠ gb157) := ⟨h11_⟩
 have GW157 : Aside0 (w.heap.size ≤ gb157) := ⟨h12_⟩
 have GE157 : Aside0 (w.heap.size ≤ gb157) := ⟨h13_⟩
 have NB150_157 : Aside0 (gb150 ≠ gb157) := ⟨h14_⟩
 have NB157_150 : Aside0 (gb157 ≠ gb150) := ⟨h15_⟩
 have NB151_157 : Aside0 (gb151 ≠ gb157) := ⟨h16_⟩
 have NB157_151 : Aside0 (gb157 ≠ gb151) := ⟨h17_⟩
 replace BK150 : Aside0 (w36.heap[gb150]? = some (.cells #[.int .u64 a0_0, .int .u64 a0_1] 112 (0, 0))) := ⟨h0_⟩
 replace BK151 : Aside0 (w36.heap[gb151]? = some (.cells #[.int .u64 0, .int .u64 0] 112 (0, 0))) := ⟨h1_⟩
 replace HB : Aside0 (Below w.heap.size w w36) := ⟨h18_⟩
 clear h0_ h1_ h2_ h3_ h4_ h5_ h6_ h7_ h8_ h9_ h10_ h11_ h12_ h13_ h14_ h15_ h16_ h17_ h18_
 have hHeld := hS_
 refine na ?_
 refine one_ (i := 10) (N := none) (ba 12 2047) rfl rfl (one_of HT_.out (by kernel_rfl)) (by decide) (fun K hK => ?_)
 have hs37 : w36.cell? ⟨gb156, 0, none⟩ = some (.int .u64 0) := (blk_cell BK156.out 0).trans rfl
 have hfs37 := blk_frozen BK156.out 0
 have hns37_0 := NB150_156.out
 have hns37_1 := NB151_156.out
 have hns37_3 := NB157_156.out
 have hms37_0 := NB156_150.out
 have hms37_1 := NB156_151.out
 have hms37_3 := NB156_157.out
 have hs38 : w36.cell? ⟨gb156, 1, none⟩ = some (.int .u64 0) := (blk_cell BK156.out 1).trans rfl
 have hfs38 := blk_frozen BK156.out 1
 have hns38_0 := NB150_156.out
 have hns38_1 := NB151_156.out
 have hns38_3 := NB157_156.out
 have hms38_0 := NB156_150.out
 have hms38_1 := NB156_151.out
 have hms38_3 := NB156_157.out
 refine skip_ (w1 := ?_) (by rfl) rfl ?_ ?_
 rotate_left
 ·go_simp
  rfl
 refine hK.out _ _ (by rw [eS.out] at hHeld ⊢; exact ⟨((cell_far (p := ⟨gb156, _, none⟩) NB150_156.out _).trans (((cell_far (p := ⟨gb156, _, none⟩) NB150_156.out _).trans (hHeld.1)))), ((cell_far (p := ⟨gb156, _, none⟩) NB150_156.out _).trans (((cell_far (p := ⟨gb156, _, none⟩) NB150_156.out _).trans (hHeld.2))))⟩) (fun hHeld => ?_)
 clear hK K
 refine one_ (i := 11) (N := none) (ba 12 4095) rfl rfl (one_of HT_.out (by kernel_rfl)) (by decide) (fun K hK => ?_)
 have hs39 : w36.cell? ⟨gb157, 0, none⟩ = some (.int .u64 0) := (blk_cell BK157.out 0).trans rfl
 have hfs39 := blk_frozen BK157.out 0
 have hns39_0 := NB150_157.out
 have hns39_1 := NB151_157.out
 have hns39_2 := NB156_157.out
 have hms39_0 := NB157_150.out
 have hms39_1 := NB157_151.out
 have hms39_2 := NB157_156.out
 have hs40 : w36.cell? ⟨gb157, 1, none⟩ = some (.int .u64 0) := (blk_cell BK157.out 1).trans rfl
 have hfs40 := blk_frozen BK157.out 1
 have hns40_0 := NB150_157.out
 have hns40_1 := NB151_157.out
 have hns40_2 := NB156_157.out
 have hms40_0 := NB157_150.out
 have hms40_1 := NB157_151.out
 have hms40_2 := NB157_156.out
 refine skip_ (w1 := ?_) (by rfl) rfl ?_ ?_
 rotate_left
 ·go_simp
  rfl
 refine hK.out _ _ (by rw [eS.out] at hHeld ⊢; exact ⟨((cell_far (p := ⟨gb157, _, none⟩) NB150_157.out _).trans (((cell_far (p := ⟨gb157, _, none⟩) NB150_157.out _).trans (hHeld.1)))), ((cell_far (p := ⟨gb157, _, none⟩) NB150_157.out _).trans (((cell_far (p := ⟨gb157, _, none⟩) NB150_157.out _).trans (hHeld.2))))⟩) (fun hHeld => ?_)
 clear hK K
 refine done_ (done_of HT_.out (by kernel_rfl)) ?_
 have hnb41 := NB157_150.out
 have hnc41 := NB150_157.out
 have hnb42 := NB157_151.out
 have hnc42 := NB151_157.out
 have hnb43 := NB157_156.out
 have hnc43 := NB156_157.out
 have hcz44_0 : w36.cell? ⟨gb157, 0, none⟩ = some (.int .u64 0) := (blk_cell BK157.out 0).trans rfl
 have hcz44_1 : w36.cell? ⟨gb157, 1, none⟩ = some (.int .u64 0) := (blk_cell BK157.out 1).trans rfl
 have hfz44_0 := blk_frozen BK157.out 0
 have hfz44_1 := blk_frozen BK157.out 1
 have hnb45 := NB151_150.out
 have hnc45 := NB150_151.out
 have hnb46 := NB151_156.out
 have hnc46 := NB156_151.out
 have hcz47_0 : w36.cell? ⟨gb151, 0, none⟩ = some (.int .u64 0) := (blk_cell BK151.out 0).trans rfl
 have hcz47_1 : w36.cell? ⟨gb151, 1, none⟩ = some (.int .u64 0) := (blk_cell BK151.out 1).trans rfl
 have hfz47_0 := blk_frozen BK151.out 0
 have hfz47_1 := blk_frozen BK151.out 1
 try go_wp2
 refine bodyPost_ret (results_ct rfl _ _ gb151 112 #[.int .u64 0, .int .u64 0] (0, 0) _ rfl (by (with_reducible repeat (first | refine blk_drewN ?_ _ | refine blk_drew ?_ | refine blk_alloc ?_ _)); refine blk_put (cs := #[.int .u64 0, .int .u64 0]) ?_ 1 _ rfl; (with_reducible repeat (first | refine blk_drewN ?_ _ | refine blk_drew ?_ | refine blk_alloc ?_ _)); refine blk_put (cs := #[.int .u64 0, .int .u64 0]) ?_ 0 _ rfl; (with_reducible repeat (first | refine blk_drewN ?_ _ | refine blk_drew ?_ | refine blk_alloc ?_ _)); refine blk_far ?_ NB151_157.out _; (with_reducible repeat (first | refine blk_drewN ?_ _ | refine blk_drew ?_ | refine blk_alloc ?_ _)); refine blk_far ?_ NB151_157.out _; (with_reducible repeat (first | refine blk_drewN ?_ _ | refine blk_drew ?_ | refine blk_alloc ?_ _)); refine blk_far ?_ NB151_156.out _; (with_reducible repeat (first | refine blk_drewN ?_ _ | refine blk_drew ?_ | refine blk_alloc ?_ _)); refine blk_far ?_ NB151_156.out _; (with_reducible repeat (first | refine blk_drewN ?_ _ | refine blk_drew ?_ | refine blk_alloc ?_ _)); exact BK151.out) Try.underlying112 rfl (by kernel_rfl)) rfl ?_
 exact ⟨by first | rfl | (simp [errW_none, errW_some] <;> rfl) | (simp [*, errW_none, errW_some] <;> rfl), bl4 HB.out GE150.out GE151.out GE156.out GE157.out⟩

end Go.Proofs.Ytalgppclaolonaa.XColr
