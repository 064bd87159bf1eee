-- Printed by a program of this claim. Not trusted: Lean checks it.
import Derived.Test.YtjjnkadfoepflaaXWidex0
import Derived.Test.YtjjnkadfoepflaaXWidex1
import Derived.Test.YtjjnkadfoepflaaXWidex2
namespace Go.Proofs.Ytjjnkadfoepflaa.XWide
open Go.RowKit Go.Proofs.YtjjnkadfoepflaaW.PrintWords Go.Proofs.YtjjnkadfoepflaaW.PrintLast Go.Proofs.YtjjnkadfoepflaaW.PrintMore
attribute [local go_sem] max2_int min2_int max_two min_two max_three min_three max_four min_four   -- for this text's walks alone
set_option linter.unusedVariables false
set_option linter.unusedSimpArgs false
open XOpen

/-! ### wide_Text: function 8 -/
attribute [local go_sem high] eqA24
def wide_Text.l0 : Nat → Int → Int → Nat → List Int → Option (ByteArray)
 | 0, _, _, _, _ => none
 | k + 1, x0, x1, at_, ds => if 1 ≤ at_ then ((wide_Div.f k x0 x1 10).bind fun bt1 => (if (bt1.1 == 0 && (bt1.2.1 == 0)) = true then (some (strOfNums ((ds.set (at_ - 1) ((IntKind.u64.wrap (48 + bt1.2.2.1)) % 256)).drop (at_ - 1)))) else (wide_Text.l0 k bt1.1 bt1.2.1 (at_ - 1) (ds.set (at_ - 1) ((IntKind.u64.wrap (48 + bt1.2.2.1)) % 256))))) else none
def wide_Text.f (k : Nat) (a0_0 : Int) (a0_1 : Int) : Option (ByteArray) := wide_Text.l0 k a0_0 a0_1 40 (List.replicate 40 0)
theorem wide_Text.mono_l : ∀ k, ∀ y0 y1 y2 y3, LeO (wide_Text.l0 k y0 y1 y2 y3) (wide_Text.l0 (k + 1) y0 y1 y2 y3)
 | 0 => fun _ _ _ _ r h => by simp [wide_Text.l0] at h
 | k + 1 => by
  have ih0 := wide_Text.mono_l k
  intro y0 y1 y2 y3
  rw [wide_Text.l0, wide_Text.l0]
  refine LeO.ite (LeO.bind (wide_Div.mono _ _ _ _) (fun _ => LeO.ite (LeO.refl _) (ih0 _ _ _ _))) (LeO.none _)
theorem wide_Text.mono : ∀ a0 a1 k, LeO (wide_Text.f k a0 a1) (wide_Text.f (k + 1) a0 a1) := fun a0 a1 k => wide_Text.mono_l k _ _ _ _
theorem wide_Text.set (w : World) (g : Nat) (ds : List Int) (d : Nat) (u : Int) (h : w.heap[g]? = some (.cells ((ds.map (Value.int .u8)).toArray) 51 (0, 0))) :
  (w.setCell ⟨g, d, none⟩ (.int .u8 u)).heap[g]? = some (.cells (((ds.set d u).map (Value.int .u8)).toArray) 51 (0, 0)) :=
 blk_put h d _ (by simp [List.map_set])
theorem wide_Text.reads (w : World) (g : Nat) (ds : List Int) (d : Nat) (hl : ds.length = 40) (hd : d < 40) (h : w.heap[g]? = some (.cells ((ds.map (Value.int .u8)).toArray) 51 (0, 0))) :
  ReadsInt w .u8 (some ⟨g, d, none⟩) (40 - d) (ds.drop d) := by
 refine ⟨by simp [hl], by omega, fun _ => ⟨_, rfl, fun j hj => ?_⟩⟩
 have e : (Addr.mk g d none).add j = ⟨g, d + j, none⟩ := by simp [Addr.add]
 rw [e, blk_cell h (d + j)]
 simp [List.getD, show d + j < ds.length by omega]
theorem wide_Text.conv (w : World) (g : Nat) (ds : List Int) (d : Nat) (hl : ds.length = 40) (hd : d < 40) (h : w.heap[g]? = some (.cells ((ds.map (Value.int .u8)).toArray) 51 (0, 0))) :
  (convert 52 9 (.slice (some ⟨g, d, none⟩) (40 - d) (40 - d))).run Try.prog w = .ok (.string (strOfNums (ds.drop d))) w :=
 string_of_reads Try.underlying52 Try.underlying5 Try.underlying9 (wide_Text.reads w g ds d hl hd h)
theorem wide_Text.addr (w : World) (g d : Nat) (hd : d < 40) : (Instr.indexAt 51 (.pointer (some ⟨g, 0, none⟩)) (.int .i64 (d : Int))).run Try.prog w = .ok (.pointer (some ⟨g, d, none⟩)) w := by
 have h1 : (0 : Int) ≤ (d : Int) ∧ (d : Int) < (40 : Nat) := by omega
 simp only [Instr.indexAt]
 go_simp
theorem wide_Text.slice (w : World) (g d : Nat) (hd : d < 40) : (Instr.sliceAt 51 (.pointer (some ⟨g, 0, none⟩)) (some (.int .i64 (d : Int))) none none).run Try.prog w = .ok (.slice (some ⟨g, d, none⟩) (40 - d) (40 - d)) w := by
 have h1 : (0 : Int) ≤ (d : Int) ∧ (d : Int) ≤ (40 : Nat) := by omega
 have h2 : ¬ (40 = d) := by omega
 simp only [Instr.sliceAt]
 go_simp
 intro h; omega
set_option maxHeartbeats 8000000 in
set_option maxRecDepth 100000 in
theorem wide_Text.calls (k : Nat) (a0_0 : Int) (a0_1 : Int) (r : ByteArray) (w : World) (h : wide_Text.f k a0_0 a0_1 = some r) :
  Calls Try.prog 8 #[.agg #[.int .u64 a0_0, .int .u64 a0_1]] w fun e w' => e = .returned (.string r) ∧ Below w.heap.size w w' := by
 have hu24 := Try.underlying24
 have HB := Aside0.mk (Below.refl w.heap.size w)
 have H' : Aside0 (wide_Text.l0 k a0_0 a0_1 40 (List.replicate 40 0) = some r) := Aside0.mk h
 clear h
 go_enter Try.func8, Try.ntmps8
 go_wp2_with (first | ((with_reducible refine gate_dst (N := 1) rfl ?_); refine be 1 (#[.int .u64 a0_0, .int .u64 a0_1]) 24 ?_; intro gbA hg w1 hbox hb; have BKA := Aside0.mk (hbox); have GEA := Aside0.mk ((by rw [hg]; exact (below_size (bl0 HB.out)) : w.heap.size ≤ gbA)); replace HB := Aside0.mk (below_step (bl0 HB.out) hb); clear hb hbox hg) | ((with_reducible refine gate_dst (N := 3) rfl ?_); refine be 3 ((((List.replicate 40 (0 : Int)).map (Value.int .u8)).toArray)) 51 ?_; intro gbD hg w2 hbox hb; have n0_ := Aside0.mk (bb BKA.out hb); have n1_ := Aside0.mk (below_step (bl1 HB.out GEA.out) hb); have n2_ := Aside0.mk (hbox); have n3_ := Aside0.mk ((by rw [hg]; exact (below_size (bl1 HB.out GEA.out)) : w.heap.size ≤ gbD)); have n5_ := Aside0.mk ((by rw [hg]; exact Nat.ne_of_lt (lt_ BKA.out) : gbA ≠ gbD)); have n6_ := Aside0.mk ((by rw [hg]; exact Nat.ne_of_gt (lt_ BKA.out) : gbD ≠ gbA)); clear BKA HB; have BKA := n0_; have HB := n1_; have BKD := n2_; have GED := n3_; have NBAD := n5_; have NBDA := n6_; clear n0_ n1_ n2_ n3_ n5_ n6_ hb hbox hg))
 go_loopg [4] k (fun kq v4 w' => ∃ (at_ : Nat) (x0 : Int) (x1 : Int) (ds : List Int), v4 = .int .i64 (at_ : Int) ∧ Aside0 (wide_Text.l0 kq x0 x1 at_ ds = some r) ∧ Aside0 (kq ≤ k) ∧ Aside0 (at_ ≤ 40 ∧ ds.length = 40) ∧ Aside0 (w'.heap[gbA]? = some (.cells #[.int .u64 x0, .int .u64 x1] 24 (0, 0))) ∧ Aside0 (w'.heap[gbD]? = some (.cells ((ds.map (Value.int .u8)).toArray) 51 (0, 0))) ∧ Aside0 (Below w.heap.size w w'))
 case atStart => exact ⟨40, a0_0, a0_1, _, fr, H', ⟨Nat.le_refl _⟩, ⟨by simp⟩, ⟨bk BKA.out⟩, ⟨bk BKD.out⟩, ⟨bl2 HB.out GEA.out GED.out⟩⟩
 case round =>
  clear H'
  obtain ⟨at_, x0, x1, ds, rfl, HA, HK1, HD, BKA, BKD, HB⟩ := hrel
  cases gk with
  | zero => exact absurd HA.out (by simp [wide_Text.l0])
  | succ k1 =>
   have H := HA.out
   clear HA
   simp only [wide_Text.l0] at H
   by_cases c1 : 1 ≤ at_
   ·rw [if_pos c1] at H
    obtain ⟨d, rfl⟩ : ∃ d, at_ = d + 1 := ⟨at_ - 1, by omega⟩
    simp only [Nat.add_sub_cancel] at H
    clear c1
    have hd : d < 40 := by have := HD.out.1; omega
    have hl : ds.length = 40 := HD.out.2
    replace H := Option.bind_eq_some_iff.mp H
    obtain ⟨⟨t1, t2, t3, t4⟩, A30, H⟩ := H
    replace H : (if (t1 == 0 && (t2 == 0)) = true then (some (strOfNums ((ds.set d ((IntKind.u64.wrap (48 + t3)) % 256)).drop d))) else (wide_Text.l0 k1 t1 t2 d (ds.set d ((IntKind.u64.wrap (48 + t3)) % 256)))) = some r := H
    have A3 := Aside0.mk A30
    clear A30
    have ew : wrap64 (((d + 1 : Nat) : Int) - 1) = (d : Int) := by unfold wrap64; omega
    have hia : ∀ W : World, (Instr.indexAt 51 (.pointer (some ⟨gbD, 0, none⟩)) (.int .i64 (d : Int))).run Try.prog W = .ok (.pointer (some ⟨gbD, d, none⟩)) W := fun W => wide_Text.addr W gbD d hd
    have hsl : ∀ W : World, (Instr.sliceAt 51 (.pointer (some ⟨gbD, 0, none⟩)) (some (.int .i64 (d : Int))) none none).run Try.prog W = .ok (.slice (some ⟨gbD, d, none⟩) (40 - d) (40 - d)) W := fun W => wide_Text.slice W gbD d hd
    by_cases c3 : (t1 == 0 && (t2 == 0)) = true
    ·rw [if_pos c3] at H
     have c3b0 : (t1 == 0 && (t2 == 0)) = true := c3
     clear c3
     obtain rfl := Option.some.inj H
     have hnb := NBAD.out
     have hnc := NBDA.out
     have hcz_0 : wr.cell? ⟨gbA, 0, none⟩ = some (.int .u64 x0) := (blk_cell BKA.out 0).trans rfl
     have hcz_1 : wr.cell? ⟨gbA, 1, none⟩ = some (.int .u64 x1) := (blk_cell BKA.out 1).trans rfl
     have hfz_0 := blk_frozen BKA.out 0
     have hfz_1 := blk_frozen BKA.out 1
     go_wp2_with (first | ((with_reducible refine gate_callee (f := 10) rfl ?_); refine goesL_ (some 8) rfl rfl Try.func10 (by kernel_rfl) rfl #[.agg #[.int .u64 x0, .int .u64 x1], .int .u64 10] rfl am ?_; (with_reducible refine (wide_Div.calls k1 x0 x1 10 t1 t2 t3 t4 _ A3.out).mono ?_); rintro e w3 ⟨rfl, hb⟩; refine ⟨_, rfl, ?_⟩; replace BKA := Aside0.mk (bb BKA.out hb); replace BKD := Aside0.mk (bb BKD.out hb); replace HB := Aside0.mk (below_step (bl2 HB.out GEA.out GED.out) hb); (try clear hb); (try clear hb2); (try clear hk); (try clear hi); have hcy_0 : w3.cell? ⟨gbA, 0, none⟩ = some (.int .u64 x0) := (blk_cell BKA.out 0).trans rfl; have hcy_1 : w3.cell? ⟨gbA, 1, none⟩ = some (.int .u64 x1) := (blk_cell BKA.out 1).trans rfl; have hfy_0 := blk_frozen BKA.out 0; have hfy_1 := blk_frozen BKA.out 1; have hfd := blk_frozen BKD.out d; have hcd : w3.cell? ⟨gbD, d, none⟩ = some (.int .u8 (ds.getD d 0)) := (blk_cell BKD.out d).trans (by simp [List.getD, show d < ds.length by omega]); have hcv := wide_Text.conv _ gbD (ds.set d ((IntKind.u64.wrap (48 + t3)) % 256)) d (by simp [hl]) hd (wide_Text.set _ gbD ds d ((IntKind.u64.wrap (48 + t3)) % 256) (blk_far (blk_far BKD.out NBDA.out (p := ⟨gbA, 0, none⟩) (.int .u64 t1)) NBDA.out (p := ⟨gbA, 1, none⟩) (.int .u64 t2)))))
     go_ret
     exact ⟨by first | rfl | (simp [errW_none, errW_some] <;> rfl) | (simp [*, errW_none, errW_some] <;> rfl), bl2 HB.out GEA.out GED.out⟩
    ·rw [if_neg c3] at H
     have c3b0 : (t1 == 0 && (t2 == 0)) = false := by simpa using c3
     clear c3
     have H' := Aside0.mk H
     clear H
     have hnb := NBAD.out
     have hnc := NBDA.out
     have hcz_0 : wr.cell? ⟨gbA, 0, none⟩ = some (.int .u64 x0) := (blk_cell BKA.out 0).trans rfl
     have hcz_1 : wr.cell? ⟨gbA, 1, none⟩ = some (.int .u64 x1) := (blk_cell BKA.out 1).trans rfl
     have hfz_0 := blk_frozen BKA.out 0
     have hfz_1 := blk_frozen BKA.out 1
     go_wp2_with (first | ((with_reducible refine gate_callee (f := 10) rfl ?_); refine goesL_ (some 8) rfl rfl Try.func10 (by kernel_rfl) rfl #[.agg #[.int .u64 x0, .int .u64 x1], .int .u64 10] rfl am ?_; (with_reducible refine (wide_Div.calls k1 x0 x1 10 t1 t2 t3 t4 _ A3.out).mono ?_); rintro e w3 ⟨rfl, hb⟩; refine ⟨_, rfl, ?_⟩; replace BKA := Aside0.mk (bb BKA.out hb); replace BKD := Aside0.mk (bb BKD.out hb); replace HB := Aside0.mk (below_step (bl2 HB.out GEA.out GED.out) hb); (try clear hb); (try clear hb2); (try clear hk); (try clear hi); have hcy_0 : w3.cell? ⟨gbA, 0, none⟩ = some (.int .u64 x0) := (blk_cell BKA.out 0).trans rfl; have hcy_1 : w3.cell? ⟨gbA, 1, none⟩ = some (.int .u64 x1) := (blk_cell BKA.out 1).trans rfl; have hfy_0 := blk_frozen BKA.out 0; have hfy_1 := blk_frozen BKA.out 1; have hfd := blk_frozen BKD.out d; have hcd : w3.cell? ⟨gbD, d, none⟩ = some (.int .u8 (ds.getD d 0)) := (blk_cell BKD.out d).trans (by simp [List.getD, show d < ds.length by omega])))
     go_roundg k1
     case measure => have := HK1.out; omega
     case rel => exact ⟨d, t1, t2, _, fr, H', ⟨by have := HK1.out; omega⟩, ⟨by simp [hl]; omega⟩, ⟨by refine blk_far ?_ NBAD.out _; exact blk_put (cs := #[.int .u64 t1, .int .u64 x1]) (blk_put (cs := #[.int .u64 x0, .int .u64 x1]) BKA.out 0 _ rfl) 1 _ rfl⟩, ⟨by refine wide_Text.set _ _ _ _ _ ?_; refine blk_far ?_ NBDA.out _; refine blk_far ?_ NBDA.out _; exact BKD.out⟩, ⟨bl2 HB.out GEA.out GED.out⟩⟩
   ·rw [if_neg c1] at H
    exact absurd H (by simp)

/-! ### bits_Add64: function 30 (no body: the model's own entry) -/
def bits_Add64.f (a0 : Int) (a1 : Int) (a2 : Int) : Option (Int × Int) := if 0 ≤ a0 then (if 0 ≤ a1 then (if a1 < 18446744073709551616 then (if 0 ≤ a2 then (if a2 ≤ 1 then (some ((a0 + a1 + a2) % 18446744073709551616, (a0 + a1 + a2) / 18446744073709551616)) else none) else none) else none) else none) else none
theorem bits_Add64.runs (a0 a1 a2 r0 r1 : Int) (w : World) (h : bits_Add64.f a0 a1 a2 = some (r0, r1)) : (callFunc 30 #[.int .u64 a0, .int .u64 a1, .int .u64 a2]).run Try.prog w = .ok (.value (.tuple #[.int .u64 r0, .int .u64 r1])) w := by
  unfold bits_Add64.f at h
  by_cases h0 : 0 ≤ a0
  case neg => rw [if_neg h0] at h; simp at h
  rw [if_pos h0] at h
  by_cases h1 : 0 ≤ a1
  case neg => rw [if_neg h1] at h; simp at h
  rw [if_pos h1] at h
  by_cases h1' : a1 < 18446744073709551616
  case neg => rw [if_neg h1'] at h; simp at h
  rw [if_pos h1'] at h
  by_cases h2 : 0 ≤ a2
  case neg => rw [if_neg h2] at h; simp at h
  rw [if_pos h2] at h
  by_cases h2' : a2 ≤ 1
  case neg => rw [if_neg h2'] at h; simp at h
  rw [if_pos h2'] at h
  simp only [Option.some.injEq, Prod.mk.injEq] at h
  obtain ⟨rfl, rfl⟩ := h
  obtain ⟨x, rfl⟩ := Int.eq_ofNat_of_zero_le h0
  obtain ⟨y, rfl⟩ := Int.eq_ofNat_of_zero_le h1
  obtain ⟨c, rfl⟩ := Int.eq_ofNat_of_zero_le h2
  rw [run_callFunc_extern Try.func30 (by kernel_rfl) (by kernel_rfl) (by kernel_rfl) (e := add64Entry) (by kernel_rfl), run_add64 x y c (by omega) (by omega) (by omega) (by omega)]
  all_goals (simp only [Result.andThen]; try (congr 5 <;> omega))

/-! ### wide_Add: function 13 -/
def wide_Add.f (a0_0 : Int) (a0_1 : Int) (a1_0 : Int) (a1_1 : Int) : Option (Int × Int × Int) := (bits_Add64.f a0_1 a1_1 0).bind fun bt110 => ((bits_Add64.f a0_0 a1_0 bt110.2).bind fun bt112 => (if bt112.2 = 0 then (some (bt112.1, bt110.1, 0)) else (some (0, 0, 2))))
set_option maxHeartbeats 8000000 in
set_option maxRecDepth 100000 in
theorem wide_Add.calls (a0_0 : Int) (a0_1 : Int) (a1_0 : Int) (a1_1 : Int) (r1 : Int) (r2 : Int) (r3 : Int) (w : World) (h : wide_Add.f a0_0 a0_1 a1_0 a1_1 = some (r1, r2, r3)) :
    Calls Try.prog 13 #[.agg #[.int .u64 a0_0, .int .u64 a0_1], .agg #[.int .u64 a1_0, .int .u64 a1_1]] w fun e w' => e = .returned (.tuple #[.agg #[.int .u64 r1, .int .u64 r2], .int .i64 r3]) ∧ Below w.heap.size w w' := by
  have hu24 := Try.underlying24
  have HB := Aside0.mk (Below.refl w.heap.size w)
  have H : ((bits_Add64.f a0_1 a1_1 0).bind fun bt110 => ((bits_Add64.f a0_0 a1_0 bt110.2).bind fun bt112 => (if bt112.2 = 0 then (some (bt112.1, bt110.1, 0)) else (some (0, 0, 2))))) = some (r1, r2, r3) := h
  clear h
  replace H := Option.bind_eq_some_iff.mp H
  obtain ⟨⟨t110, t111⟩, A30, H⟩ := H
  replace H : ((bits_Add64.f a0_0 a1_0 t111).bind fun bt112 => (if bt112.2 = 0 then (some (bt112.1, t110, 0)) else (some (0, 0, 2)))) = some (r1, r2, r3) := H
  have A3 := Aside0.mk A30
  clear A30
  replace H := Option.bind_eq_some_iff.mp H
  obtain ⟨⟨t112, t113⟩, A40, H⟩ := H
  replace H : (if t113 = 0 then (some (t112, t110, 0)) else (some (0, 0, 2))) = some (r1, r2, r3) := H
  have A4 := Aside0.mk A40
  clear A40
  by_cases c5 : t113 = 0
  · rw [if_pos c5] at H
    have c5b0 : (t113 == 0) = true := beq_iff_eq.mpr c5
    have c5b1 : (t113 != 0) = false := bne_eq_false_iff_eq.mpr c5
    clear c5
    simp only [Option.some.injEq, Prod.mk.injEq] at H
    obtain ⟨rfl, rfl, rfl⟩ := H
    go_enter Try.func13, Try.ntmps13
    go_wp2_with (first | ((with_reducible refine gate_dst (N := 2) rfl ?_); refine be 2 (#[.int .u64 a0_0, .int .u64 a0_1]) 24 ?_; intro gb107 hg w6 hbox hb; have BK107 := Aside0.mk (hbox); have GW107 := Aside0.mk ((by rw [hg]; exact (below_size (bl0 HB.out)) : w.heap.size ≤ gb107)); have GE107 := GW107; replace HB := Aside0.mk (below_step (bl0 HB.out) hb); clear hb hbox hg) | ((with_reducible refine gate_dst (N := 3) rfl ?_); refine be 3 (#[.int .u64 a1_0, .int .u64 a1_1]) 24 ?_; intro gb108 hg w7 hbox hb; have BK108 := Aside0.mk (hbox); have GW108 := Aside0.mk ((by rw [hg]; exact (below_size (bl1 HB.out GE107.out)) : w.heap.size ≤ gb108)); have GE108 := GW108; have NB107_108 := Aside0.mk ((by rw [hg]; exact Nat.ne_of_lt (lt_ BK107.out) : gb107 ≠ gb108)); have NB108_107 := Aside0.mk ((by rw [hg]; exact Nat.ne_of_gt (lt_ BK107.out) : gb108 ≠ gb107)); replace BK107 := Aside0.mk (bb BK107.out hb); replace HB := Aside0.mk (below_step (bl1 HB.out GE107.out) hb); clear hb hbox hg) | ((with_reducible refine gate_dst (N := 4) rfl ?_); refine be 4 (#[.int .u64 0, .int .u64 0]) 24 ?_; intro gb109 hg w8 hbox hb; have BK109 := Aside0.mk (hbox); have GW109 := Aside0.mk ((by rw [hg]; exact (below_size (bl2 HB.out GE107.out GE108.out)) : w.heap.size ≤ gb109)); have GE109 := GW109; have NB107_109 := Aside0.mk ((by rw [hg]; exact Nat.ne_of_lt (lt_ BK107.out) : gb107 ≠ gb109)); have NB109_107 := Aside0.mk ((by rw [hg]; exact Nat.ne_of_gt (lt_ BK107.out) : gb109 ≠ gb107)); have NB108_109 := Aside0.mk ((by rw [hg]; exact Nat.ne_of_lt (lt_ BK108.out) : gb108 ≠ gb109)); have NB109_108 := Aside0.mk ((by rw [hg]; exact Nat.ne_of_gt (lt_ BK108.out) : gb109 ≠ gb108)); replace BK107 := Aside0.mk (bb BK107.out hb); replace BK108 := Aside0.mk (bb BK108.out hb); replace HB := Aside0.mk (below_step (bl2 HB.out GE107.out GE108.out) hb); clear hb hbox hg; have hnb9 := NB107_108.out; have hnc9 := NB108_107.out; have hnb10 := NB107_109.out; have hnc10 := NB109_107.out; have hcz11_0 : w8.cell? ⟨gb107, 0, none⟩ = some (.int .u64 a0_0) := (blk_cell BK107.out 0).trans rfl; have hcz11_1 : w8.cell? ⟨gb107, 1, none⟩ = some (.int .u64 a0_1) := (blk_cell BK107.out 1).trans rfl; have hfz11_0 := blk_frozen BK107.out 0; have hfz11_1 := blk_frozen BK107.out 1; have hnb12 := NB108_109.out; have hnc12 := NB109_108.out; have hcz13_0 : w8.cell? ⟨gb108, 0, none⟩ = some (.int .u64 a1_0) := (blk_cell BK108.out 0).trans rfl; have hcz13_1 : w8.cell? ⟨gb108, 1, none⟩ = some (.int .u64 a1_1) := (blk_cell BK108.out 1).trans rfl; have hfz13_0 := blk_frozen BK108.out 0; have hfz13_1 := blk_frozen BK108.out 1) | ((with_reducible refine gate_callee (f := 30) rfl ?_); refine goesX_ (some 14) rfl rfl rfl (args := #[.int .u64 a0_1, .int .u64 a1_1, .int .u64 0]) (by (try simp only [List.map_toArray, List.map_cons, List.map_nil]); first | done | rfl) (bits_Add64.runs a0_1 a1_1 0 t110 t111 _ A3.out) ?_; (try (rw [drewN_self w8]; generalize hq_ : World.drewN w8 _ = w8; replace BK107 : Aside0 (w8.heap[gb107]? = some (.cells #[.int .u64 a0_0, .int .u64 a0_1] 24 (0, 0))) := ⟨by rw [← hq_]; exact (bk BK107.out)⟩; replace BK108 : Aside0 (w8.heap[gb108]? = some (.cells #[.int .u64 a1_0, .int .u64 a1_1] 24 (0, 0))) := ⟨by rw [← hq_]; exact (bk BK108.out)⟩; replace BK109 : Aside0 (w8.heap[gb109]? = some (.cells #[.int .u64 0, .int .u64 0] 24 (0, 0))) := ⟨by rw [← hq_]; exact (bk BK109.out)⟩; replace HB : Aside0 (Below w.heap.size w w8) := ⟨by rw [← hq_]; exact (bl3 HB.out GE107.out GE108.out GE109.out)⟩; clear hq_))) | ((with_reducible refine gate_callee (f := 30) rfl ?_); refine goesX_ (some 23) rfl rfl rfl (args := #[.int .u64 a0_0, .int .u64 a1_0, .int .u64 t111]) (by (try simp only [List.map_toArray, List.map_cons, List.map_nil]); first | done | rfl) (bits_Add64.runs a0_0 a1_0 t111 t112 t113 _ A4.out) ?_; (try (rw [drewN_self w8]; generalize hq_ : World.drewN w8 _ = w8; replace BK107 : Aside0 (w8.heap[gb107]? = some (.cells #[.int .u64 a0_0, .int .u64 a0_1] 24 (0, 0))) := ⟨by rw [← hq_]; exact (bk BK107.out)⟩; replace BK108 : Aside0 (w8.heap[gb108]? = some (.cells #[.int .u64 a1_0, .int .u64 a1_1] 24 (0, 0))) := ⟨by rw [← hq_]; exact (bk BK108.out)⟩; replace BK109 : Aside0 (w8.heap[gb109]? = some (.cells #[.int .u64 0, .int .u64 0] 24 (0, 0))) := ⟨by rw [← hq_]; exact (bk BK109.out)⟩; replace HB : Aside0 (Below w.heap.size w w8) := ⟨by rw [← hq_]; exact (bl3 HB.out GE107.out GE108.out GE109.out)⟩; clear hq_)); have hcz14_0 : w8.cell? ⟨gb109, 0, none⟩ = some (.int .u64 0) := (blk_cell BK109.out 0).trans rfl; have hcz14_1 : w8.cell? ⟨gb109, 1, none⟩ = some (.int .u64 0) := (blk_cell BK109.out 1).trans rfl; have hfz14_0 := blk_frozen BK109.out 0; have hfz14_1 := blk_frozen BK109.out 1))
    refine bodyPost_ret (results_ct rfl _ _ gb109 24 #[.int .u64 t112, .int .u64 t110] (0, 0) _ rfl (bk (blk_put (cs := #[.int .u64 t112, .int .u64 0]) (bk (blk_put (cs := #[.int .u64 0, .int .u64 0]) (bk BK109.out) 0 _ rfl)) 1 _ rfl)) Try.underlying24 rfl (by kernel_rfl)) rfl ?_
    exact ⟨by first | rfl | (simp [errW_none, errW_some] <;> rfl) | (simp [*, errW_none, errW_some] <;> rfl), bl3 HB.out GE107.out GE108.out GE109.out⟩
  · rw [if_neg c5] at H
    have c5b0 : (t113 == 0) = false := beq_eq_false_iff_ne.mpr c5
    have c5b1 : (t113 != 0) = true := bne_iff_ne.mpr c5
    simp only [Option.some.injEq, Prod.mk.injEq] at H
    obtain ⟨rfl, rfl, rfl⟩ := H
    go_enter Try.func13, Try.ntmps13
    go_wp2_with (first | ((with_reducible refine gate_dst (N := 2) rfl ?_); refine be 2 (#[.int .u64 a0_0, .int .u64 a0_1]) 24 ?_; intro gb107 hg w15 hbox hb; have BK107 := Aside0.mk (hbox); have GW107 := Aside0.mk ((by rw [hg]; exact (below_size (bl0 HB.out)) : w.heap.size ≤ gb107)); have GE107 := GW107; replace HB := Aside0.mk (below_step (bl0 HB.out) hb); clear hb hbox hg) | ((with_reducible refine gate_dst (N := 3) rfl ?_); refine be 3 (#[.int .u64 a1_0, .int .u64 a1_1]) 24 ?_; intro gb108 hg w16 hbox hb; have BK108 := Aside0.mk (hbox); have GW108 := Aside0.mk ((by rw [hg]; exact (below_size (bl1 HB.out GE107.out)) : w.heap.size ≤ gb108)); have GE108 := GW108; have NB107_108 := Aside0.mk ((by rw [hg]; exact Nat.ne_of_lt (lt_ BK107.out) : gb107 ≠ gb108)); have NB108_107 := Aside0.mk ((by rw [hg]; exact Nat.ne_of_gt (lt_ BK107.out) : gb108 ≠ gb107)); replace BK107 := Aside0.mk (bb BK107.out hb); replace HB := Aside0.mk (below_step (bl1 HB.out GE107.out) hb); clear hb hbox hg) | ((with_reducible refine gate_dst (N := 4) rfl ?_); refine be 4 (#[.int .u64 0, .int .u64 0]) 24 ?_; intro gb109 hg w17 hbox hb; have BK109 := Aside0.mk (hbox); have GW109 := Aside0.mk ((by rw [hg]; exact (below_size (bl2 HB.out GE107.out GE108.out)) : w.heap.size ≤ gb109)); have GE109 := GW109; have NB107_109 := Aside0.mk ((by rw [hg]; exact Nat.ne_of_lt (lt_ BK107.out) : gb107 ≠ gb109)); have NB109_107 := Aside0.mk ((by rw [hg]; exact Nat.ne_of_gt (lt_ BK107.out) : gb109 ≠ gb107)); have NB108_109 := Aside0.mk ((by rw [hg]; exact Nat.ne_of_lt (lt_ BK108.out) : gb108 ≠ gb109)); have NB109_108 := Aside0.mk ((by rw [hg]; exact Nat.ne_of_gt (lt_ BK108.out) : gb109 ≠ gb108)); replace BK107 := Aside0.mk (bb BK107.out hb); replace BK108 := Aside0.mk (bb BK108.out hb); replace HB := Aside0.mk (below_step (bl2 HB.out GE107.out GE108.out) hb); clear hb hbox hg; have hnb18 := NB107_108.out; have hnc18 := NB108_107.out; have hnb19 := NB107_109.out; have hnc19 := NB109_107.out; have hcz20_0 : w17.cell? ⟨gb107, 0, none⟩ = some (.int .u64 a0_0) := (blk_cell BK107.out 0).trans rfl; have hcz20_1 : w17.cell? ⟨gb107, 1, none⟩ = some (.int .u64 a0_1) := (blk_cell BK107.out 1).trans rfl; have hfz20_0 := blk_frozen BK107.out 0; have hfz20_1 := blk_frozen BK107.out 1; have hnb21 := NB108_109.out; have hnc21 := NB109_108.out; have hcz22_0 : w17.cell? ⟨gb108, 0, none⟩ = some (.int .u64 a1_0) := (blk_cell BK108.out 0).trans rfl; have hcz22_1 : w17.cell? ⟨gb108, 1, none⟩ = some (.int .u64 a1_1) := (blk_cell BK108.out 1).trans rfl; have hfz22_0 := blk_frozen BK108.out 0; have hfz22_1 := blk_frozen BK108.out 1) | ((with_reducible refine gate_callee (f := 30) rfl ?_); refine goesX_ (some 14) rfl rfl rfl (args := #[.int .u64 a0_1, .int .u64 a1_1, .int .u64 0]) (by (try simp only [List.map_toArray, List.map_cons, List.map_nil]); first | done | rfl) (bits_Add64.runs a0_1 a1_1 0 t110 t111 _ A3.out) ?_; (try (rw [drewN_self w17]; generalize hq_ : World.drewN w17 _ = w17; replace BK107 : Aside0 (w17.heap[gb107]? = some (.cells #[.int .u64 a0_0, .int .u64 a0_1] 24 (0, 0))) := ⟨by rw [← hq_]; exact (bk BK107.out)⟩; replace BK108 : Aside0 (w17.heap[gb108]? = some (.cells #[.int .u64 a1_0, .int .u64 a1_1] 24 (0, 0))) := ⟨by rw [← hq_]; exact (bk BK108.out)⟩; replace BK109 : Aside0 (w17.heap[gb109]? = some (.cells #[.int .u64 0, .int .u64 0] 24 (0, 0))) := ⟨by rw [← hq_]; exact (bk BK109.out)⟩; replace HB : Aside0 (Below w.heap.size w w17) := ⟨by rw [← hq_]; exact (bl3 HB.out GE107.out GE108.out GE109.out)⟩; clear hq_))) | ((with_reducible refine gate_callee (f := 30) rfl ?_); refine goesX_ (some 23) rfl rfl rfl (args := #[.int .u64 a0_0, .int .u64 a1_0, .int .u64 t111]) (by (try simp only [List.map_toArray, List.map_cons, List.map_nil]); first | done | rfl) (bits_Add64.runs a0_0 a1_0 t111 t112 t113 _ A4.out) ?_; (try (rw [drewN_self w17]; generalize hq_ : World.drewN w17 _ = w17; replace BK107 : Aside0 (w17.heap[gb107]? = some (.cells #[.int .u64 a0_0, .int .u64 a0_1] 24 (0, 0))) := ⟨by rw [← hq_]; exact (bk BK107.out)⟩; replace BK108 : Aside0 (w17.heap[gb108]? = some (.cells #[.int .u64 a1_0, .int .u64 a1_1] 24 (0, 0))) := ⟨by rw [← hq_]; exact (bk BK108.out)⟩; replace BK109 : Aside0 (w17.heap[gb109]? = some (.cells #[.int .u64 0, .int .u64 0] 24 (0, 0))) := ⟨by rw [← hq_]; exact (bk BK109.out)⟩; replace HB : Aside0 (Below w.heap.size w w17) := ⟨by rw [← hq_]; exact (bl3 HB.out GE107.out GE108.out GE109.out)⟩; clear hq_)); have hcz23_0 : w17.cell? ⟨gb109, 0, none⟩ = some (.int .u64 0) := (blk_cell BK109.out 0).trans rfl; have hcz23_1 : w17.cell? ⟨gb109, 1, none⟩ = some (.int .u64 0) := (blk_cell BK109.out 1).trans rfl; have hfz23_0 := blk_frozen BK109.out 0; have hfz23_1 := blk_frozen BK109.out 1))
    refine bodyPost_ret (results_ct rfl _ _ gb109 24 #[.int .u64 0, .int .u64 0] (0, 0) _ rfl (bk (blk_put (cs := #[.int .u64 0, .int .u64 0]) (bk (blk_put (cs := #[.int .u64 0, .int .u64 0]) (bk BK109.out) 0 _ rfl)) 1 _ rfl)) Try.underlying24 rfl (by kernel_rfl)) rfl ?_
    exact ⟨by first | rfl | (simp [errW_none, errW_some] <;> rfl) | (simp [*, errW_none, errW_some] <;> rfl), bl3 HB.out GE107.out GE108.out GE109.out⟩

/-! ### wide_Of: function 14 -/
def wide_Of.f (a0 : Int) : Option (Int × Int) := some (0, a0)
set_option maxHeartbeats 8000000 in
set_option maxRecDepth 100000 in
theorem wide_Of.calls (a0 : Int) (r1 : Int) (r2 : Int) (w : World) (h : wide_Of.f a0 = some (r1, r2)) :
    Calls Try.prog 14 #[.int .u64 a0] w fun e w' => e = .returned (.agg #[.int .u64 r1, .int .u64 r2]) ∧ Below w.heap.size w w' := by
  have hu24 := Try.underlying24
  have HB := Aside0.mk (Below.refl w.heap.size w)
  have H : (some (0, a0)) = some (r1, r2) := h
  clear h
  simp only [Option.some.injEq, Prod.mk.injEq] at H
  obtain ⟨rfl, rfl⟩ := H
  go_enter Try.func14, Try.ntmps14
  go_wp2_with (first | ((with_reducible refine gate_dst (N := 2) rfl ?_); refine be 2 (#[.int .u64 0, .int .u64 0]) 24 ?_; intro gb114 hg w2 hbox hb; have BK114 := Aside0.mk (hbox); have GW114 := Aside0.mk ((by rw [hg]; exact (below_size (bl0 HB.out)) : w.heap.size ≤ gb114)); have GE114 := GW114; replace HB := Aside0.mk (below_step (bl0 HB.out) hb); clear hb hbox hg; have hcz3_0 : w2.cell? ⟨gb114, 0, none⟩ = some (.int .u64 0) := (blk_cell BK114.out 0).trans rfl; have hcz3_1 : w2.cell? ⟨gb114, 1, none⟩ = some (.int .u64 0) := (blk_cell BK114.out 1).trans rfl; have hfz3_0 := blk_frozen BK114.out 0; have hfz3_1 := blk_frozen BK114.out 1))
  refine bodyPost_ret (results_cell_row rfl _ _ gb114 24 #[.int .u64 0, .int .u64 a0] (0, 0) _ rfl (bk (blk_put (cs := #[.int .u64 0, .int .u64 0]) (bk (blk_put (cs := #[.int .u64 0, .int .u64 0]) (bk BK114.out) 0 _ rfl)) 1 _ rfl)) Try.underlying24 rfl (by kernel_rfl)) rfl ?_
  exact ⟨by first | rfl | (simp [errW_none, errW_some] <;> rfl) | (simp [*, errW_none, errW_some] <;> rfl), bl1 HB.out GE114.out⟩

/-! ### bits_Mul64: function 36 -/
def bits_Mul64.f (a0 : Int) (a1 : Int) : Option (Int × Int) := some (IntKind.u64.wrap ((IntKind.u64.wrap ((IntKind.u64.wrap ((a0 / 4294967296) * (a1 / 4294967296))) + ((IntKind.u64.wrap ((IntKind.u64.wrap ((a0 / 4294967296) * (Go.bits .and .u64 a1 4294967295))) + ((IntKind.u64.wrap ((Go.bits .and .u64 a0 4294967295) * (Go.bits .and .u64 a1 4294967295))) / 4294967296))) / 4294967296))) + ((IntKind.u64.wrap ((Go.bits .and .u64 (IntKind.u64.wrap ((IntKind.u64.wrap ((a0 / 4294967296) * (Go.bits .and .u64 a1 4294967295))) + ((IntKind.u64.wrap ((Go.bits .and .u64 a0 4294967295) * (Go.bits .and .u64 a1 4294967295))) / 4294967296))) 4294967295) + (IntKind.u64.wrap ((Go.bits .and .u64 a0 4294967295) * (a1 / 4294967296))))) / 4294967296)), IntKind.u64.wrap (a0 * a1))
set_option maxHeartbeats 8000000 in
set_option maxRecDepth 100000 in
theorem bits_Mul64.calls (a0 : Int) (a1 : Int) (r1 : Int) (r2 : Int) (w : World) (h : bits_Mul64.f a0 a1 = some (r1, r2)) :
    Calls Try.prog 36 #[.int .u64 a0, .int .u64 a1] w fun e w' => e = .returned (.tuple #[.int .u64 r1, .int .u64 r2]) ∧ Drawn0 w w' := by
  have H : (some (IntKind.u64.wrap ((IntKind.u64.wrap ((IntKind.u64.wrap ((a0 / 4294967296) * (a1 / 4294967296))) + ((IntKind.u64.wrap ((IntKind.u64.wrap ((a0 / 4294967296) * (Go.bits .and .u64 a1 4294967295))) + ((IntKind.u64.wrap ((Go.bits .and .u64 a0 4294967295) * (Go.bits .and .u64 a1 4294967295))) / 4294967296))) / 4294967296))) + ((IntKind.u64.wrap ((Go.bits .and .u64 (IntKind.u64.wrap ((IntKind.u64.wrap ((a0 / 4294967296) * (Go.bits .and .u64 a1 4294967295))) + ((IntKind.u64.wrap ((Go.bits .and .u64 a0 4294967295) * (Go.bits .and .u64 a1 4294967295))) / 4294967296))) 4294967295) + (IntKind.u64.wrap ((Go.bits .and .u64 a0 4294967295) * (a1 / 4294967296))))) / 4294967296)), IntKind.u64.wrap (a0 * a1))) = some (r1, r2) := h
  clear h
  simp only [Option.some.injEq, Prod.mk.injEq] at H
  obtain ⟨rfl, rfl⟩ := H
  go_enter Try.func36, Try.ntmps36
  go_wp2
  go_ret2
  exact ⟨by first | rfl | (simp; done) | (simp [*]; done), by repeat (first | exact Drawn0.refl _ | apply Drawn0.step)⟩

/-! ### wide_Mul: function 19 -/
def wide_Mul.f (a0 : Int) (a1 : Int) : Option (Int × Int) := (bits_Mul64.f a0 a1).bind fun bt116 => (some (bt116.1, bt116.2))
set_option maxHeartbeats 8000000 in
set_option maxRecDepth 100000 in
theorem wide_Mul.calls (a0 : Int) (a1 : Int) (r1 : Int) (r2 : Int) (w : World) (h : wide_Mul.f a0 a1 = some (r1, r2)) :
    Calls Try.prog 19 #[.int .u64 a0, .int .u64 a1] w fun e w' => e = .returned (.agg #[.int .u64 r1, .int .u64 r2]) ∧ Below w.heap.size w w' := by
  have hu24 := Try.underlying24
  have HB := Aside0.mk (Below.refl w.heap.size w)
  have H : ((bits_Mul64.f a0 a1).bind fun bt116 => (some (bt116.1, bt116.2))) = some (r1, r2) := h
  clear h
  replace H := Option.bind_eq_some_iff.mp H
  obtain ⟨⟨t116, t117⟩, A30, H⟩ := H
  replace H : (some (t116, t117)) = some (r1, r2) := H
  have A3 := Aside0.mk A30
  clear A30
  simp only [Option.some.injEq, Prod.mk.injEq] at H
  obtain ⟨rfl, rfl⟩ := H
  go_enter Try.func19, Try.ntmps19
  go_wp2_with (first | ((with_reducible refine gate_dst (N := 4) rfl ?_); refine be 4 (#[.int .u64 0, .int .u64 0]) 24 ?_; intro gb115 hg w4 hbox hb; have BK115 := Aside0.mk (hbox); have GW115 := Aside0.mk ((by rw [hg]; exact (below_size (bl0 HB.out)) : w.heap.size ≤ gb115)); have GE115 := GW115; replace HB := Aside0.mk (below_step (bl0 HB.out) hb); clear hb hbox hg) | ((with_reducible refine gate_callee (f := 36) rfl ?_); refine goesL_ (some 10) rfl rfl Try.func36 (by kernel_rfl) rfl #[.int .u64 a0, .int .u64 a1] rfl am ?_; (with_reducible refine (bits_Mul64.calls a0 a1 t116 t117 _ A3.out).mono ?_); rintro e w' ⟨rfl, ⟨nd, rfl⟩⟩; refine ⟨_, rfl, ?_⟩; (try (rw [drewN_self w4]; generalize hq_ : World.drewN w4 _ = w4; replace BK115 : Aside0 (w4.heap[gb115]? = some (.cells #[.int .u64 0, .int .u64 0] 24 (0, 0))) := ⟨by rw [← hq_]; exact (bk BK115.out)⟩; replace HB : Aside0 (Below w.heap.size w w4) := ⟨by rw [← hq_]; exact (bl1 HB.out GE115.out)⟩; clear hq_)); have hcz5_0 : w4.cell? ⟨gb115, 0, none⟩ = some (.int .u64 0) := (blk_cell BK115.out 0).trans rfl; have hcz5_1 : w4.cell? ⟨gb115, 1, none⟩ = some (.int .u64 0) := (blk_cell BK115.out 1).trans rfl; have hfz5_0 := blk_frozen BK115.out 0; have hfz5_1 := blk_frozen BK115.out 1))
  refine bodyPost_ret (results_cell_row rfl _ _ gb115 24 #[.int .u64 t116, .int .u64 t117] (0, 0) _ rfl (bk (blk_put (cs := #[.int .u64 t116, .int .u64 0]) (bk (blk_put (cs := #[.int .u64 0, .int .u64 0]) (bk BK115.out) 0 _ rfl)) 1 _ rfl)) Try.underlying24 rfl (by kernel_rfl)) rfl ?_
  exact ⟨by first | rfl | (simp [errW_none, errW_some] <;> rfl) | (simp [*, errW_none, errW_some] <;> rfl), bl1 HB.out GE115.out⟩

/-! ### wide_Bits: function 22 -/
def wide_Bits.f (k : Nat) (a0_0 : Int) (a0_1 : Int) : Option (Int) := if a0_0 = 0 then ((bits_Len64.f k a0_1).bind fun t119 => (some t119)) else ((bits_Len64.f k a0_0).bind fun t120 => (some (wrap64 (64 + t120))))
theorem wide_Bits.mono : ∀ a0 a1 k, LeO (wide_Bits.f k a0 a1) (wide_Bits.f (k + 1) a0 a1) := by
  intro a0 a1 k
  unfold wide_Bits.f
  repeat' first
      | (with_reducible exact bits_Len64.mono _ _)
      | (with_reducible exact LeO.refl _)
      | (with_reducible exact LeO.none _)
      | (with_reducible refine LeO.ite ?_ ?_)
      | (with_reducible refine LeO.bind ?_ (fun _ => ?_))
      | exact bits_Len64.mono _ _
      | exact LeO.none _
      | refine LeO.ite ?_ ?_
      | refine LeO.bind ?_ (fun _ => ?_)
set_option maxHeartbeats 8000000 in
set_option maxRecDepth 100000 in
theorem wide_Bits.calls (k : Nat) (a0_0 : Int) (a0_1 : Int) (r : Int) (w : World) (h : wide_Bits.f k a0_0 a0_1 = some r) :
    Calls Try.prog 22 #[.agg #[.int .u64 a0_0, .int .u64 a0_1]] w fun e w' => e = .returned (.int .i64 r) ∧ Below w.heap.size w w' := by
  have hu24 := Try.underlying24
  have HB := Aside0.mk (Below.refl w.heap.size w)
  have H : (if a0_0 = 0 then ((bits_Len64.f k a0_1).bind fun t119 => (some t119)) else ((bits_Len64.f k a0_0).bind fun t120 => (some (wrap64 (64 + t120))))) = some r := h
  clear h
  by_cases c2 : a0_0 = 0
  · rw [if_pos c2] at H
    have c2b0 : (a0_0 == 0) = true := beq_iff_eq.mpr c2
    have c2b1 : (a0_0 != 0) = false := bne_eq_false_iff_eq.mpr c2
    clear c2
    replace H := Option.bind_eq_some_iff.mp H
    obtain ⟨t119, A30, H⟩ := H
    replace H : (some t119) = some r := H
    have A3 := Aside0.mk A30
    clear A30
    obtain rfl := Option.some.inj H
    go_enter Try.func22, Try.ntmps22
    go_wp2_with (first | ((with_reducible refine gate_dst (N := 1) rfl ?_); refine be 1 (#[.int .u64 a0_0, .int .u64 a0_1]) 24 ?_; intro gb118 hg w4 hbox hb; have BK118 := Aside0.mk (hbox); have GW118 := Aside0.mk ((by rw [hg]; exact (below_size (bl0 HB.out)) : w.heap.size ≤ gb118)); have GE118 := GW118; replace HB := Aside0.mk (below_step (bl0 HB.out) hb); clear hb hbox hg; have hcz5_0 : w4.cell? ⟨gb118, 0, none⟩ = some (.int .u64 a0_0) := (blk_cell BK118.out 0).trans rfl; have hcz5_1 : w4.cell? ⟨gb118, 1, none⟩ = some (.int .u64 a0_1) := (blk_cell BK118.out 1).trans rfl; have hfz5_0 := blk_frozen BK118.out 0; have hfz5_1 := blk_frozen BK118.out 1) | ((with_reducible refine gate_callee (f := 39) rfl ?_); refine goesL_ (some 12) rfl rfl Try.func39 (by kernel_rfl) rfl #[.int .u64 a0_1] rfl am ?_; (with_reducible refine (bits_Len64.calls k a0_1 t119 _ A3.out).mono ?_); rintro e w' ⟨rfl, ⟨nd, rfl⟩⟩; refine ⟨_, rfl, ?_⟩))
    go_ret
    exact ⟨by first | rfl | (simp [errW_none, errW_some] <;> rfl) | (simp [*, errW_none, errW_some] <;> rfl), bl1 HB.out GE118.out⟩
  · rw [if_neg c2] at H
    have c2b0 : (a0_0 == 0) = false := beq_eq_false_iff_ne.mpr c2
    have c2b1 : (a0_0 != 0) = true := bne_iff_ne.mpr c2
    replace H := Option.bind_eq_some_iff.mp H
    obtain ⟨t120, A60, H⟩ := H
    replace H : (some (wrap64 (64 + t120))) = some r := H
    have A6 := Aside0.mk A60
    clear A60
    obtain rfl := Option.some.inj H
    go_enter Try.func22, Try.ntmps22
    go_wp2_with (first | ((with_reducible refine gate_dst (N := 1) rfl ?_); refine be 1 (#[.int .u64 a0_0, .int .u64 a0_1]) 24 ?_; intro gb118 hg w7 hbox hb; have BK118 := Aside0.mk (hbox); have GW118 := Aside0.mk ((by rw [hg]; exact (below_size (bl0 HB.out)) : w.heap.size ≤ gb118)); have GE118 := GW118; replace HB := Aside0.mk (below_step (bl0 HB.out) hb); clear hb hbox hg; have hcz8_0 : w7.cell? ⟨gb118, 0, none⟩ = some (.int .u64 a0_0) := (blk_cell BK118.out 0).trans rfl; have hcz8_1 : w7.cell? ⟨gb118, 1, none⟩ = some (.int .u64 a0_1) := (blk_cell BK118.out 1).trans rfl; have hfz8_0 := blk_frozen BK118.out 0; have hfz8_1 := blk_frozen BK118.out 1) | ((with_reducible refine gate_callee (f := 39) rfl ?_); refine goesL_ (some 8) rfl rfl Try.func39 (by kernel_rfl) rfl #[.int .u64 a0_0] rfl am ?_; (with_reducible refine (bits_Len64.calls k a0_0 t120 _ A6.out).mono ?_); rintro e w' ⟨rfl, ⟨nd, rfl⟩⟩; refine ⟨_, rfl, ?_⟩))
    go_ret
    exact ⟨by first | rfl | (simp [errW_none, errW_some] <;> rfl) | (simp [*, errW_none, errW_some] <;> rfl), bl1 HB.out GE118.out⟩

/-! ### cmp_Or_int: function 41 -/
def cmp_Or_int.l0 : Nat → Int → List Int → Int → Int → Option (Int)
  | 0, _, _, _, _ => none
  | k + 1, x3, x6, x7, x8 => if x8 < x7 then (if 0 ≤ x8 then (if x8 < (x6.length : Int) then (if (rd x6 x8) = x3 then (cmp_Or_int.l0 k x3 x6 x7 (wrap64 (x8 + 1))) else (some (rd x6 x8))) else (none)) else (none)) else (some x3)
def cmp_Or_int.f (k : Nat) (l0 : List Int) : Option (Int) := cmp_Or_int.l0 k 0 l0 (l0.length : Int) 0
theorem cmp_Or_int.mono_l : ∀ k, (∀ y0 y1 y2 y3, LeO (cmp_Or_int.l0 k y0 y1 y2 y3) (cmp_Or_int.l0 (k + 1) y0 y1 y2 y3))
  | 0 => fun _ _ _ _ r h => by simp [cmp_Or_int.l0] at h
  | k + 1 => by
    have ih0 := cmp_Or_int.mono_l k
    · intro y0 y1 y2 y3
      unfold cmp_Or_int.l0
      repeat' first
      | (with_reducible exact ih0 _ _ _ _)
      | (with_reducible exact LeO.refl _)
      | (with_reducible exact LeO.none _)
      | (with_reducible refine LeO.ite ?_ ?_)
      | (with_reducible refine LeO.bind ?_ (fun _ => ?_))
      | exact ih0 _ _ _ _
      | exact LeO.none _
      | refine LeO.ite ?_ ?_
      | refine LeO.bind ?_ (fun _ => ?_)
theorem cmp_Or_int.mono : ∀ a0 k, LeO (cmp_Or_int.f k a0) (cmp_Or_int.f (k + 1) a0) := by
  intro a0 k
  have ih0 := cmp_Or_int.mono_l k
  unfold cmp_Or_int.f
  repeat' first
      | (with_reducible exact ih0 _ _ _ _)
      | (with_reducible exact LeO.refl _)
      | (with_reducible exact LeO.none _)
      | (with_reducible refine LeO.ite ?_ ?_)
      | (with_reducible refine LeO.bind ?_ (fun _ => ?_))
      | exact ih0 _ _ _ _
      | exact LeO.none _
      | refine LeO.ite ?_ ?_
      | refine LeO.bind ?_ (fun _ => ?_)
set_option maxHeartbeats 8000000 in
set_option maxRecDepth 100000 in
theorem cmp_Or_int.calls (k : Nat) (A0 : Option Addr) (c0 : Nat) (l0 : List Int) (r : Int) (w : World) (hr0 : Kd.C (Kd.int .i64) w A0 l0.length l0) (hc0 : l0.length ≤ c0) (h : cmp_Or_int.f k l0 = some r) :
    Calls Try.prog 41 #[.slice A0 l0.length c0] w fun e w' => e = .returned (.int .i64 r) ∧ Drawn0 w w' := by
  have HR0 := Aside0.mk hr0
  have HC0 := Aside0.mk hc0
  clear hr0 hc0
  have H : (cmp_Or_int.l0 k 0 l0 (l0.length : Int) 0) = some r := h
  clear h
  have H' := Aside0.mk H
  clear H
  go_enter Try.func41, Try.ntmps41
  go_wp2
  go_loopg [8] k (fun kq v8 w' => ∃ (x8_1 : Int), v8 = .int .i64 x8_1 ∧ Aside0 (cmp_Or_int.l0 kq 0 l0 (l0.length : Int) x8_1 = some r) ∧ Aside0 (kq ≤ k) ∧ Drawn0 w w')
  case atStart => exact ⟨(0), fr, H', ⟨Nat.le_refl _⟩, by repeat (first | exact Drawn0.refl _ | apply Drawn0.step)⟩
  case round =>
    clear H'
    obtain ⟨x8_1, rfl, HA, HK1, ⟨m1, rfl⟩⟩ := hrel
    cases gk with
    | zero => exact absurd HA.out (by simp [cmp_Or_int.l0])
    | succ k1 =>
      have H := HA.out
      clear HA
      simp only [cmp_Or_int.l0] at H
      by_cases c2 : x8_1 < (l0.length : Int)
      · rw [if_pos c2] at H
        have c2b0 : decide (x8_1 < (l0.length : Int)) = true := decide_eq_true c2
        clear c2
        by_cases c3 : 0 ≤ x8_1
        · rw [if_pos c3] at H
          have c3b0 : decide (0 ≤ x8_1) = true := decide_eq_true c3
          clear c3
          by_cases c4 : x8_1 < (l0.length : Int)
          · rw [if_pos c4] at H
            have c4b0 : decide (x8_1 < (l0.length : Int)) = true := decide_eq_true c4
            clear c4
            by_cases c5 : (rd l0 x8_1) = 0
            · rw [if_pos c5] at H
              have c5b0 : ((rd l0 x8_1) == 0) = true := beq_iff_eq.mpr c5
              have c5b1 : ((rd l0 x8_1) != 0) = false := bne_eq_false_iff_eq.mpr c5
              clear c5
              have H' := Aside0.mk H
              clear H
              have p121 : 0 ≤ (x8_1 : Int) := of_decide_eq_true (by first | (with_reducible assumption) | assumption)
              have q121 : x8_1 < (l0.length : Int) := of_decide_eq_true (by first | (with_reducible assumption) | assumption)
              obtain ⟨ad121, e121, hx121_0⟩ := Kd.at_int HR0.out x8_1 p121 q121
              cases e121
              replace p121 := eq_true p121
              replace q121 := eq_true q121
              go_wp2
              go_roundg k1
              case measure => have := HK1.out; omega
              case rel => exact ⟨(wrap64 (x8_1 + 1)), fr, H', ⟨by have := HK1.out; omega⟩, by repeat (first | exact Drawn0.refl _ | apply Drawn0.step)⟩
            · rw [if_neg c5] at H
              have c5b0 : ((rd l0 x8_1) == 0) = false := beq_eq_false_iff_ne.mpr c5
              have c5b1 : ((rd l0 x8_1) != 0) = true := bne_iff_ne.mpr c5
              obtain rfl := Option.some.inj H
              have p121 : 0 ≤ (x8_1 : Int) := of_decide_eq_true (by first | (with_reducible assumption) | assumption)
              have q121 : x8_1 < (l0.length : Int) := of_decide_eq_true (by first | (with_reducible assumption) | assumption)
              obtain ⟨ad121, e121, hx121_0⟩ := Kd.at_int HR0.out x8_1 p121 q121
              cases e121
              replace p121 := eq_true p121
              replace q121 := eq_true q121
              go_wp2
              go_ret
              exact ⟨by first | rfl | (simp; done) | (simp [*]; done), by repeat (first | exact Drawn0.refl _ | apply Drawn0.step)⟩
          · rw [if_neg c4] at H
            exact absurd H (by simp)
        · rw [if_neg c3] at H
          exact absurd H (by simp)
      · rw [if_neg c2] at H
        have c2b0 : decide (x8_1 < (l0.length : Int)) = false := decide_eq_false c2
        clear c2
        obtain rfl := Option.some.inj H
        go_wp2
        go_ret
        exact ⟨by first | rfl | (simp; done) | (simp [*]; done), by repeat (first | exact Drawn0.refl _ | apply Drawn0.step)⟩

/-! ### cmp_isNaN_uint64: function 45 -/
def cmp_isNaN_uint64.f (a0 : Int) : Option (Bool) := some (a0 != a0)
set_option maxHeartbeats 8000000 in
set_option maxRecDepth 100000 in
theorem cmp_isNaN_uint64.calls (a0 : Int) (r : Bool) (w : World) (h : cmp_isNaN_uint64.f a0 = some r) :
    Calls Try.prog 45 #[.int .u64 a0] w fun e w' => e = .returned (.bool r) ∧ Drawn0 w w' := by
  have H : (some (a0 != a0)) = some r := h
  clear h
  obtain rfl := Option.some.inj H
  go_enter Try.func45, Try.ntmps45
  go_wp2
  go_ret
  exact ⟨by first | rfl | (simp; done) | (simp [*]; done), by repeat (first | exact Drawn0.refl _ | apply Drawn0.step)⟩

/-! ### cmp_Compare_uint64: function 42 -/
def cmp_Compare_uint64.f (a0 : Int) (a1 : Int) : Option (Int) := (cmp_isNaN_uint64.f a0).bind fun t122 => ((cmp_isNaN_uint64.f a1).bind fun t123 => (if t122 = true then (if t123 = true then (some 0) else (some (-1))) else (if t123 = true then (some 1) else (if a0 < a1 then (some (-1)) else (if a0 > a1 then (some 1) else (some 0))))))
set_option maxHeartbeats 8000000 in
set_option maxRecDepth 100000 in
theorem cmp_Compare_uint64.calls (a0 : Int) (a1 : Int) (r : Int) (w : World) (h : cmp_Compare_uint64.f a0 a1 = some r) :
    Calls Try.prog 42 #[.int .u64 a0, .int .u64 a1] w fun e w' => e = .returned (.int .i64 r) ∧ Drawn0 w w' := by
  have H : ((cmp_isNaN_uint64.f a0).bind fun t122 => ((cmp_isNaN_uint64.f a1).bind fun t123 => (if t122 = true then (if t123 = true then (some 0) else (some (-1))) else (if t123 = true then (some 1) else (if a0 < a1 then (some (-1)) else (if a0 > a1 then (some 1) else (some 0))))))) = some r := h
  clear h
  replace H := Option.bind_eq_some_iff.mp H
  obtain ⟨t122, A30, H⟩ := H
  replace H : ((cmp_isNaN_uint64.f a1).bind fun t123 => (if t122 = true then (if t123 = true then (some 0) else (some (-1))) else (if t123 = true then (some 1) else (if a0 < a1 then (some (-1)) else (if a0 > a1 then (some 1) else (some 0)))))) = some r := H
  have A3 := Aside0.mk A30
  clear A30
  replace H := Option.bind_eq_some_iff.mp H
  obtain ⟨t123, A40, H⟩ := H
  replace H : (if t122 = true then (if t123 = true then (some 0) else (some (-1))) else (if t123 = true then (some 1) else (if a0 < a1 then (some (-1)) else (if a0 > a1 then (some 1) else (some 0))))) = some r := H
  have A4 := Aside0.mk A40
  clear A40
  by_cases c5 : t122 = true
  · subst c5
    have H1 : (if t123 = true then (some 0) else (some (-1))) = some r := by rw [if_pos rfl] at H; exact H
    clear H
    have H := H1
    clear H1
    by_cases c6 : t123 = true
    · subst c6
      have H1 : (some 0) = some r := by rw [if_pos rfl] at H; exact H
      clear H
      have H := H1
      clear H1
      obtain rfl := Option.some.inj H
      go_enter Try.func42, Try.ntmps42
      go_wp2_with (first | ((with_reducible refine gate_callee (f := 45) rfl ?_); refine goesL_ (some 8) rfl rfl Try.func45 (by kernel_rfl) rfl #[.int .u64 a0] rfl am ?_; (with_reducible refine (cmp_isNaN_uint64.calls a0 true _ A3.out).mono ?_); rintro e w' ⟨rfl, ⟨nd, rfl⟩⟩; refine ⟨_, rfl, ?_⟩) | ((with_reducible refine gate_callee (f := 45) rfl ?_); refine goesL_ (some 10) rfl rfl Try.func45 (by kernel_rfl) rfl #[.int .u64 a1] rfl am ?_; (with_reducible refine (cmp_isNaN_uint64.calls a1 true _ A4.out).mono ?_); rintro e w' ⟨rfl, ⟨nd, rfl⟩⟩; refine ⟨_, rfl, ?_⟩))
      go_ret
      exact ⟨by first | rfl | (simp; done) | (simp [*]; done), by repeat (first | exact Drawn0.refl _ | apply Drawn0.step)⟩
    · replace c6 := Bool.eq_false_iff.mpr c6
      subst c6
      have H1 : (some (-1)) = some r := by rw [if_neg (show ¬ (false = true) by decide)] at H; exact H
      clear H
      have H := H1
      clear H1
      obtain rfl := Option.some.inj H
      go_enter Try.func42, Try.ntmps42
      go_wp2_with (first | ((with_reducible refine gate_callee (f := 45) rfl ?_); refine goesL_ (some 8) rfl rfl Try.func45 (by kernel_rfl) rfl #[.int .u64 a0] rfl am ?_; (with_reducible refine (cmp_isNaN_uint64.calls a0 true _ A3.out).mono ?_); rintro e w' ⟨rfl, ⟨nd, rfl⟩⟩; refine ⟨_, rfl, ?_⟩) | ((with_reducible refine gate_callee (f := 45) rfl ?_); refine goesL_ (some 10) rfl rfl Try.func45 (by kernel_rfl) rfl #[.int .u64 a1] rfl am ?_; (with_reducible refine (cmp_isNaN_uint64.calls a1 false _ A4.out).mono ?_); rintro e w' ⟨rfl, ⟨nd, rfl⟩⟩; refine ⟨_, rfl, ?_⟩))
      go_ret
      exact ⟨by first | rfl | (simp; done) | (simp [*]; done), by repeat (first | exact Drawn0.refl _ | apply Drawn0.step)⟩
  · replace c5 := Bool.eq_false_iff.mpr c5
    subst c5
    have H1 : (if t123 = true then (some 1) else (if a0 < a1 then (some (-1)) else (if a0 > a1 then (some 1) else (some 0)))) = some r := by rw [if_neg (show ¬ (false = true) by decide)] at H; exact H
    clear H
    have H := H1
    clear H1
    by_cases c7 : t123 = true
    · subst c7
      have H1 : (some 1) = some r := by rw [if_pos rfl] at H; exact H
      clear H
      have H := H1
      clear H1
      obtain rfl := Option.some.inj H
      go_enter Try.func42, Try.ntmps42
      go_wp2_with (first | ((with_reducible refine gate_callee (f := 45) rfl ?_); refine goesL_ (some 8) rfl rfl Try.func45 (by kernel_rfl) rfl #[.int .u64 a0] rfl am ?_; (with_reducible refine (cmp_isNaN_uint64.calls a0 false _ A3.out).mono ?_); rintro e w' ⟨rfl, ⟨nd, rfl⟩⟩; refine ⟨_, rfl, ?_⟩) | ((with_reducible refine gate_callee (f := 45) rfl ?_); refine goesL_ (some 10) rfl rfl Try.func45 (by kernel_rfl) rfl #[.int .u64 a1] rfl am ?_; (with_reducible refine (cmp_isNaN_uint64.calls a1 true _ A4.out).mono ?_); rintro e w' ⟨rfl, ⟨nd, rfl⟩⟩; refine ⟨_, rfl, ?_⟩))
      go_ret
      exact ⟨by first | rfl | (simp; done) | (simp [*]; done), by repeat (first | exact Drawn0.refl _ | apply Drawn0.step)⟩
    · replace c7 := Bool.eq_false_iff.mpr c7
      subst c7
      have H1 : (if a0 < a1 then (some (-1)) else (if a0 > a1 then (some 1) else (some 0))) = some r := by rw [if_neg (show ¬ (false = true) by decide)] at H; exact H
      clear H
      have H := H1
      clear H1
      by_cases c8 : a0 < a1
      · rw [if_pos c8] at H
        have c8b0 : decide (a0 < a1) = true := decide_eq_true c8
        clear c8
        obtain rfl := Option.some.inj H
        go_enter Try.func42, Try.ntmps42
        go_wp2_with (first | ((with_reducible refine gate_callee (f := 45) rfl ?_); refine goesL_ (some 8) rfl rfl Try.func45 (by kernel_rfl) rfl #[.int .u64 a0] rfl am ?_; (with_reducible refine (cmp_isNaN_uint64.calls a0 false _ A3.out).mono ?_); rintro e w' ⟨rfl, ⟨nd, rfl⟩⟩; refine ⟨_, rfl, ?_⟩) | ((with_reducible refine gate_callee (f := 45) rfl ?_); refine goesL_ (some 10) rfl rfl Try.func45 (by kernel_rfl) rfl #[.int .u64 a1] rfl am ?_; (with_reducible refine (cmp_isNaN_uint64.calls a1 false _ A4.out).mono ?_); rintro e w' ⟨rfl, ⟨nd, rfl⟩⟩; refine ⟨_, rfl, ?_⟩))
        go_ret
        exact ⟨by first | rfl | (simp; done) | (simp [*]; done), by repeat (first | exact Drawn0.refl _ | apply Drawn0.step)⟩
      · rw [if_neg c8] at H
        have c8b0 : decide (a0 < a1) = false := decide_eq_false c8
        clear c8
        by_cases c9 : a0 > a1
        · rw [if_pos c9] at H
          have c9b0 : decide (a1 < a0) = true := decide_eq_true c9
          clear c9
          obtain rfl := Option.some.inj H
          go_enter Try.func42, Try.ntmps42
          go_wp2_with (first | ((with_reducible refine gate_callee (f := 45) rfl ?_); refine goesL_ (some 8) rfl rfl Try.func45 (by kernel_rfl) rfl #[.int .u64 a0] rfl am ?_; (with_reducible refine (cmp_isNaN_uint64.calls a0 false _ A3.out).mono ?_); rintro e w' ⟨rfl, ⟨nd, rfl⟩⟩; refine ⟨_, rfl, ?_⟩) | ((with_reducible refine gate_callee (f := 45) rfl ?_); refine goesL_ (some 10) rfl rfl Try.func45 (by kernel_rfl) rfl #[.int .u64 a1] rfl am ?_; (with_reducible refine (cmp_isNaN_uint64.calls a1 false _ A4.out).mono ?_); rintro e w' ⟨rfl, ⟨nd, rfl⟩⟩; refine ⟨_, rfl, ?_⟩))
          go_ret
          exact ⟨by first | rfl | (simp; done) | (simp [*]; done), by repeat (first | exact Drawn0.refl _ | apply Drawn0.step)⟩
        · rw [if_neg c9] at H
          have c9b0 : decide (a1 < a0) = false := decide_eq_false c9
          clear c9
          obtain rfl := Option.some.inj H
          go_enter Try.func42, Try.ntmps42
          go_wp2_with (first | ((with_reducible refine gate_callee (f := 45) rfl ?_); refine goesL_ (some 8) rfl rfl Try.func45 (by kernel_rfl) rfl #[.int .u64 a0] rfl am ?_; (with_reducible refine (cmp_isNaN_uint64.calls a0 false _ A3.out).mono ?_); rintro e w' ⟨rfl, ⟨nd, rfl⟩⟩; refine ⟨_, rfl, ?_⟩) | ((with_reducible refine gate_callee (f := 45) rfl ?_); refine goesL_ (some 10) rfl rfl Try.func45 (by kernel_rfl) rfl #[.int .u64 a1] rfl am ?_; (with_reducible refine (cmp_isNaN_uint64.calls a1 false _ A4.out).mono ?_); rintro e w' ⟨rfl, ⟨nd, rfl⟩⟩; refine ⟨_, rfl, ?_⟩))
          go_ret
          exact ⟨by first | rfl | (simp; done) | (simp [*]; done), by repeat (first | exact Drawn0.refl _ | apply Drawn0.step)⟩

/-! ### wide_Cmp: function 24 -/
def wide_Cmp.f (k : Nat) (a0_0 : Int) (a0_1 : Int) (a1_0 : Int) (a1_1 : Int) : Option (Int) := (cmp_Compare_uint64.f a0_0 a1_0).bind fun t126 => ((cmp_Compare_uint64.f a0_1 a1_1).bind fun t127 => ((cmp_Or_int.f k (([t126, t127] : List Int))).bind fun t131 => (some t131)))
theorem wide_Cmp.mono : ∀ a0 a1 a2 a3 k, LeO (wide_Cmp.f k a0 a1 a2 a3) (wide_Cmp.f (k + 1) a0 a1 a2 a3) := by
  intro a0 a1 a2 a3 k
  unfold wide_Cmp.f
  repeat' first
      | (with_reducible exact cmp_Or_int.mono _ _)
      | (with_reducible exact LeO.refl _)
      | (with_reducible exact LeO.none _)
      | (with_reducible refine LeO.ite ?_ ?_)
      | (with_reducible refine LeO.bind ?_ (fun _ => ?_))
      | exact cmp_Or_int.mono _ _
      | exact LeO.none _
      | refine LeO.ite ?_ ?_
      | refine LeO.bind ?_ (fun _ => ?_)
def wide_Cmp.T1 : Bool × List (List Nat × List Nat) := (true, [([], []), ([0], [0]), ([], []), ([2], [2]), ([1, 3], [1, 3]), ([], []), ([5], [5]), ([], []), ([7], [7]), ([6, 8, 4], [6, 8]), ([4, 9], [4, 9]), ([10, 9], [10]), ([11, 11, 0, 1, 2, 3, 4, 5, 6, 7, 8, 9, 10, 11], [11])])
def wide_Cmp.B1 : List Nat := [0, 1, 0, 4, 15, 0, 32, 0, 128, 511, 1023, 2047, 4095]
theorem wide_Cmp.tab1 : rtab .any (opsOf Try.f24 1) = wide_Cmp.T1 := by kernel_rfl
theorem wide_Cmp.bits1 : waitsOk wide_Cmp.T1.2 wide_Cmp.B1 = true := by kernel_rfl
set_option maxHeartbeats 8000000 in
set_option maxRecDepth 100000 in
theorem wide_Cmp.calls (k : Nat) (a0_0 : Int) (a0_1 : Int) (a1_0 : Int) (a1_1 : Int) (r : Int) (w : World) (h : wide_Cmp.f k a0_0 a0_1 a1_0 a1_1 = some r) :
    Calls Try.prog 24 #[.agg #[.int .u64 a0_0, .int .u64 a0_1], .agg #[.int .u64 a1_0, .int .u64 a1_1]] w fun e w' => e = .returned (.int .i64 r) ∧ Below w.heap.size w w' := by
  have hu24 := Try.underlying24
  have HB := Aside0.mk (Below.refl w.heap.size w)
  have H : ((cmp_Compare_uint64.f a0_0 a1_0).bind fun t126 => ((cmp_Compare_uint64.f a0_1 a1_1).bind fun t127 => ((cmp_Or_int.f k (([t126, t127] : List Int))).bind fun t131 => (some t131)))) = some r := h
  clear h
  replace H := Option.bind_eq_some_iff.mp H
  obtain ⟨t126, A30, H⟩ := H
  replace H : ((cmp_Compare_uint64.f a0_1 a1_1).bind fun t127 => ((cmp_Or_int.f k (([t126, t127] : List Int))).bind fun t131 => (some t131))) = some r := H
  have A3 := Aside0.mk A30
  clear A30
  replace H := Option.bind_eq_some_iff.mp H
  obtain ⟨t127, A40, H⟩ := H
  replace H : ((cmp_Or_int.f k (([t126, t127] : List Int))).bind fun t131 => (some t131)) = some r := H
  have A4 := Aside0.mk A40
  clear A40
  obtain ⟨y128, hy128⟩ : ∃ y_ : List Int, y_ = (([t126, t127] : List Int)) := ⟨_, rfl⟩
  replace H : ((cmp_Or_int.f k y128).bind fun t131 => (some t131)) = some r := by first | (rw [hy128]; with_reducible exact H) | (have H2_ := (Option.bind_some _ _).symm.trans H; rw [hy128]; with_reducible exact H2_) | (have H2_ := (Option.bind_some _ _).symm.trans H; with_reducible exact H2_) | with_reducible exact H | (rw [hy128]; exact H) | exact H
  have Ny128 := Aside0.mk hy128
  clear hy128
  replace H := Option.bind_eq_some_iff.mp H
  obtain ⟨t131, A50, H⟩ := H
  replace H : (some t131) = some r := H
  have A5 := Aside0.mk A50
  clear A50
  obtain rfl := Option.some.inj H
  go_enter Try.func24, Try.ntmps24
  try go_wp2_with (first | ((with_reducible refine gate_dst (N := 2) rfl ?_); refine be 2 (#[.int .u64 a0_0, .int .u64 a0_1]) 24 ?_; intro gb124 hg w6 hbox hb; have BK124 := Aside0.mk (hbox); have GW124 := Aside0.mk ((by rw [hg]; exact (below_size (bl0 HB.out)) : w.heap.size ≤ gb124)); have GE124 := GW124; replace HB := Aside0.mk (below_step (bl0 HB.out) hb); clear hb hbox hg) | ((with_reducible refine gate_dst (N := 3) rfl ?_); refine be 3 (#[.int .u64 a1_0, .int .u64 a1_1]) 24 ?_; intro gb125 hg w7 hbox hb; have BK125 := Aside0.mk (hbox); have GW125 := Aside0.mk ((by rw [hg]; exact (below_size (bl1 HB.out GE124.out)) : w.heap.size ≤ gb125)); have GE125 := GW125; have NB124_125 := Aside0.mk ((by rw [hg]; exact Nat.ne_of_lt (lt_ BK124.out) : gb124 ≠ gb125)); have NB125_124 := Aside0.mk ((by rw [hg]; exact Nat.ne_of_gt (lt_ BK124.out) : gb125 ≠ gb124)); replace BK124 := Aside0.mk (bb BK124.out hb); replace HB := Aside0.mk (below_step (bl1 HB.out GE124.out) hb); clear hb hbox hg))
  replace BK124 := Aside0.mk (blk_drew BK124.out)
  replace BK125 := Aside0.mk (blk_drew BK125.out)
  replace HB := Aside0.mk (below_drew1 HB.out)
  refine start_ (n := 13) (S := fun w' => w'.cell? ⟨gb124, 0, none⟩ = some (.int .u64 a0_0) ∧ w'.cell? ⟨gb124, 1, none⟩ = some (.int .u64 a0_1) ∧ w'.cell? ⟨gb125, 0, none⟩ = some (.int .u64 a1_0) ∧ w'.cell? ⟨gb125, 1, none⟩ = some (.int .u64 a1_1)) (ds := []) (ba 13 0) (by kernel_rfl) rfl rfl ⟨(blk_cell BK124.out 0).trans rfl, (blk_cell BK124.out 1).trans rfl, (blk_cell BK125.out 0).trans rfl, (blk_cell BK125.out 1).trans rfl⟩ (fun hHeld => ?_); refine with_tabW wide_Cmp.tab1 wide_Cmp.bits1 (fun HT_ HW_ => ?_)
  generalize w7.drew = w8 at BK124 BK125 HB hHeld ⊢
  refine pure_ (i := 0) (N := some 5) (v := ?_) (a' := ?_) (ba 13 1) rfl rfl (any_of HT_.out (by kernel_rfl)) (fun _ _ _ h => h) (Or.inl ⟨by rfl, ?_⟩) ?_ ?_
  rotate_left
  · intro w'
    go_simp
    with_reducible rfl
  rotate_left
  · simp only [Act.put, List.setIfInBounds_toArray, List.set_cons_zero, List.set_cons_succ, i64_w, i32_w]
    rfl
  refine pure_ (i := 2) (N := some 7) (v := ?_) (a' := ?_) (ba 13 5) rfl rfl (any_of HT_.out (by kernel_rfl)) (fun _ _ _ h => h) (Or.inl ⟨by rfl, ?_⟩) ?_ ?_
  rotate_left
  · intro w'
    go_simp
    with_reducible rfl
  rotate_left
  · simp only [Act.put, List.setIfInBounds_toArray, List.set_cons_zero, List.set_cons_succ, i64_w, i32_w]
    rfl
  refine pure_ (i := 5) (N := some 10) (v := ?_) (a' := ?_) (ba 13 37) rfl rfl (any_of HT_.out (by kernel_rfl)) (fun _ _ _ h => h) (Or.inl ⟨by rfl, ?_⟩) ?_ ?_
  rotate_left
  · intro w'
    go_simp
    with_reducible rfl
  rotate_left
  · simp only [Act.put, List.setIfInBounds_toArray, List.set_cons_zero, List.set_cons_succ, i64_w, i32_w]
    rfl
  refine pure_ (i := 7) (N := some 12) (v := ?_) (a' := ?_) (ba 13 165) rfl rfl (any_of HT_.out (by kernel_rfl)) (fun _ _ _ h => h) (Or.inl ⟨by rfl, ?_⟩) ?_ ?_
  rotate_left
  · intro w'
    go_simp
    with_reducible rfl
  rotate_left
  · simp only [Act.put, List.setIfInBounds_toArray, List.set_cons_zero, List.set_cons_succ, i64_w, i32_w]
    rfl
  refine take_ (i := 1) (N := some 6) (v := ?_) (a' := ?_) (ba 13 167) rfl rfl (take_ofW HT_.out HW_.out (by kernel_rfl)) (fun _ _ _ h => h) (Or.inl ⟨by rfl, ?_⟩) hHeld ?_ ?_
  rotate_left
  · rintro w' ⟨s0, s1, s2, s3⟩
    go_simp
    with_reducible rfl
  rotate_left
  · simp only [Act.put, List.setIfInBounds_toArray, List.set_cons_zero, List.set_cons_succ, i64_w, i32_w]
    rfl
  refine take_ (i := 3) (N := some 8) (v := ?_) (a' := ?_) (ba 13 175) rfl rfl (take_ofW HT_.out HW_.out (by kernel_rfl)) (fun _ _ _ h => h) (Or.inl ⟨by rfl, ?_⟩) hHeld ?_ ?_
  rotate_left
  · rintro w' ⟨s0, s1, s2, s3⟩
    go_simp
    with_reducible rfl
  rotate_left
  · simp only [Act.put, List.setIfInBounds_toArray, List.set_cons_zero, List.set_cons_succ, i64_w, i32_w]
    rfl
  refine take_ (i := 6) (N := some 11) (v := ?_) (a' := ?_) (ba 13 239) rfl rfl (take_ofW HT_.out HW_.out (by kernel_rfl)) (fun _ _ _ h => h) (Or.inl ⟨by rfl, ?_⟩) hHeld ?_ ?_
  rotate_left
  · rintro w' ⟨s0, s1, s2, s3⟩
    go_simp
    with_reducible rfl
  rotate_left
  · simp only [Act.put, List.setIfInBounds_toArray, List.set_cons_zero, List.set_cons_succ, i64_w, i32_w]
    rfl
  refine take_ (i := 8) (N := some 13) (v := ?_) (a' := ?_) (ba 13 495) rfl rfl (take_ofW HT_.out HW_.out (by kernel_rfl)) (fun _ _ _ h => h) (Or.inl ⟨by rfl, ?_⟩) hHeld ?_ ?_
  rotate_left
  · rintro w' ⟨s0, s1, s2, s3⟩
    go_simp
    with_reducible rfl
  rotate_left
  · simp only [Act.put, List.setIfInBounds_toArray, List.set_cons_zero, List.set_cons_succ, i64_w, i32_w]
    rfl
  refine one_ (i := 4) (N := some 9) (ba 13 511) rfl rfl (one_of HT_.out (by kernel_rfl)) (by decide) (fun K hK => ?_)
  refine goes_ Try.func42 (by kernel_rfl) rfl #[.int .u64 a0_0, .int .u64 a1_0] (by rfl) rfl rfl am ?_
  with_reducible refine (cmp_Compare_uint64.calls a0_0 a1_0 t126 _ A3.out).mono ?_
  rintro e w' ⟨rfl, ⟨nd, rfl⟩⟩
  refine ⟨_, rfl, ?_⟩
  refine hK.out _ _ ⟨(blk_cell BK124.out 0).trans rfl, (blk_cell BK124.out 1).trans rfl, (blk_cell BK125.out 0).trans rfl, (blk_cell BK125.out 1).trans rfl⟩ (fun hHeld => ?_)
  clear hK K
  refine norm_ (a' := ?_) ?_ ?_
  rotate_left
  · show Act.put _ (some 9) _ = _
    simp only [Act.put, List.setIfInBounds_toArray, List.set_cons_zero, List.set_cons_succ, i64_w, i32_w]
    rfl
  refine one_ (i := 9) (N := some 14) (ba 13 1023) rfl rfl (one_of HT_.out (by kernel_rfl)) (by decide) (fun K hK => ?_)
  refine goes_ Try.func42 (by kernel_rfl) rfl #[.int .u64 a0_1, .int .u64 a1_1] (by rfl) rfl rfl am ?_
  with_reducible refine (cmp_Compare_uint64.calls a0_1 a1_1 t127 _ A4.out).mono ?_
  rintro e w' ⟨rfl, ⟨nd, rfl⟩⟩
  refine ⟨_, rfl, ?_⟩
  refine hK.out _ _ ⟨(blk_cell BK124.out 0).trans rfl, (blk_cell BK124.out 1).trans rfl, (blk_cell BK125.out 0).trans rfl, (blk_cell BK125.out 1).trans rfl⟩ (fun hHeld => ?_)
  clear hK K
  refine norm_ (a' := ?_) ?_ ?_
  rotate_left
  · show Act.put _ (some 14) _ = _
    simp only [Act.put, List.setIfInBounds_toArray, List.set_cons_zero, List.set_cons_succ, i64_w, i32_w]
    rfl
  refine one_ (i := 10) (N := some 15) (ba 13 2047) rfl rfl (one_of HT_.out (by kernel_rfl)) (by decide) (fun K hK => ?_)
  refine Kd.R_lit_step (Kd.int .i64) _ 3 ?hg (N := 15) ?hd (xs := ([t126, t127] : List Int)) (inner := [.int .i64 t126, .int .i64 t127]) (ok := fun _ => True) (okp := fun _ => True) ?hr ?hp (fun _ hk => hk) trivial (Below.refl _ _) (Nat.le_refl _) (by simp) ?_; (case hd => rfl); (case hg => rfl); (case hr => first | (go_simp; done) | (go_simp; rfl)); (case hp => exact (Reps.one (show Kd.M (Kd.int .i64) _ _ _ t126 [.int .i64 t126] from rfl) (Reps.one (show Kd.M (Kd.int .i64) _ _ _ t127 [.int .i64 t127] from rfl) (Reps.none _ _))))
  intro v129 w9 ho10 hb hg_ hnew_
  clear hg_ hnew_
  (first | rw [← Ny128.out] at ho10 | (simp only [Int.reduceToNat] at ho10; rw [← Ny128.out] at ho10))
  have HO130 := Aside0.mk (Kd.R_lower ho10 (below_size (bl2 HB.out GE124.out GE125.out)))
  replace BK124 := Aside0.mk (bb BK124.out hb)
  replace BK125 := Aside0.mk (bb BK125.out hb)
  replace HB := Aside0.mk (below_step (bl2 HB.out GE124.out GE125.out) hb)
  clear hb ho10
  obtain ⟨Ao11, co11, eo11⟩ := Kd.R_slice HO130.out
  (first | subst eo11 | (injection eo11 with f1_ f2_ f3_; have f4_ := f1_.symm; have f5_ := f3_.symm; clear f1_ f2_ f3_; subst f4_; subst f5_))
  refine hK.out _ _ ⟨(blk_cell BK124.out 0).trans rfl, (blk_cell BK124.out 1).trans rfl, (blk_cell BK125.out 0).trans rfl, (blk_cell BK125.out 1).trans rfl⟩ (fun hHeld => ?_)
  clear hK K
  refine norm_ (a' := ?_) ?_ ?_
  rotate_left
  · show Act.put _ (some 15) _ = _
    simp only [Act.put, List.setIfInBounds_toArray, List.set_cons_zero, List.set_cons_succ, i64_w, i32_w]
    rfl
  refine one_ (i := 11) (N := some 16) (ba 13 4095) rfl rfl (one_of HT_.out (by kernel_rfl)) (by decide) (fun K hK => ?_)
  refine goes_ Try.func41 (by kernel_rfl) rfl #[.slice Ao11 y128.length co11] (by rfl) rfl rfl am ?_
  with_reducible refine (cmp_Or_int.calls k _ _ y128 t131 _ ?side1 ?side2 A5.out).mono ?_
  (case side1 => repeat (first | exact (Kd.R_reads' HO130.out).2.2 | (with_reducible refine Kd.C_alloc ?_ _) | (with_reducible refine Kd.C_drewN ?_ _) | (with_reducible refine Kd.C_drew ?_)))
  (case side2 => exact (Kd.R_reads' HO130.out).2.1)
  rintro e w' ⟨rfl, ⟨nd, rfl⟩⟩
  refine ⟨_, rfl, ?_⟩
  refine hK.out _ _ ⟨(blk_cell BK124.out 0).trans rfl, (blk_cell BK124.out 1).trans rfl, (blk_cell BK125.out 0).trans rfl, (blk_cell BK125.out 1).trans rfl⟩ (fun hHeld => ?_)
  clear hK K
  refine norm_ (a' := ?_) ?_ ?_
  rotate_left
  · show Act.put _ (some 16) _ = _
    simp only [Act.put, List.setIfInBounds_toArray, List.set_cons_zero, List.set_cons_succ, i64_w, i32_w]
    rfl
  refine pure_ (i := 12) (N := some 4) (v := ?_) (a' := ?_) (ba 13 8191) rfl rfl (any_of HT_.out (by kernel_rfl)) (fun _ _ _ h => h) (Or.inl ⟨by rfl, ?_⟩) ?_ ?_
  rotate_left
  · intro w'
    go_simp
    with_reducible rfl
  rotate_left
  · simp only [Act.put, List.setIfInBounds_toArray, List.set_cons_zero, List.set_cons_succ, i64_w, i32_w]
    rfl
  refine done_ (done_of HT_.out (by kernel_rfl)) ?_
  try go_wp2
  go_ret
  exact ⟨by first | rfl | (simp [errW_none, errW_some] <;> rfl) | (simp [*, errW_none, errW_some] <;> rfl), bl2 HB.out GE124.out GE125.out⟩

end Go.Proofs.Ytjjnkadfoepflaa.XWide
