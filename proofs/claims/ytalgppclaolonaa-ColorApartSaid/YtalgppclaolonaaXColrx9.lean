-- Printed by a program of this claim. Not trusted: Lean checks it.
import Derived.Test.YtalgppclaolonaaXColrx0
import Derived.Test.YtalgppclaolonaaXColrx3
namespace Go.Proofs.Ytalgppclaolonaa.XColr
open Go.RowKit Go.Proofs.YtalgppclaolonaaW.PrintWords Go.Proofs.YtalgppclaolonaaW.PrintLast Go.Proofs.YtalgppclaolonaaW.PrintMore
attribute [local go_sem] max2_int min2_int max_two min_two max_three min_three max_four min_four   -- for this text's walks alone
set_option linter.unusedVariables false
set_option linter.unusedSimpArgs false
open XOpen

/-! ### bits_Mul32: function 157 -/
def bits_Mul32.f (a0 : Int) (a1 : Int) : Option (Int × Int) := some (((IntKind.u64.wrap ((IntKind.u64.wrap (a0)) * (IntKind.u64.wrap (a1)))) / 4294967296) % 4294967296, (IntKind.u64.wrap ((IntKind.u64.wrap (a0)) * (IntKind.u64.wrap (a1)))) % 4294967296)
set_option maxHeartbeats 8000000 in
set_option maxRecDepth 100000 in
theorem bits_Mul32.calls (a0 : Int) (a1 : Int) (r1 : Int) (r2 : Int) (w : World) (h : bits_Mul32.f a0 a1 = some (r1, r2)) :
    Calls Try.prog 157 #[.int .u32 a0, .int .u32 a1] w fun e w' => e = .returned (.tuple #[.int .u32 r1, .int .u32 r2]) ∧ Drawn0 w w' := by
  have H : (some (((IntKind.u64.wrap ((IntKind.u64.wrap (a0)) * (IntKind.u64.wrap (a1)))) / 4294967296) % 4294967296, (IntKind.u64.wrap ((IntKind.u64.wrap (a0)) * (IntKind.u64.wrap (a1)))) % 4294967296)) = some (r1, r2) := h
  clear h
  simp only [Option.some.injEq, Prod.mk.injEq] at H
  obtain ⟨rfl, rfl⟩ := H
  go_enter Try.func157, Try.ntmps157
  go_wp2
  go_ret2
  exact ⟨fr, dr⟩

/-! ### bits_Mul: function 141 -/
def bits_Mul.f (a0 : Int) (a1 : Int) : Option (Int × Int) := (bits_Mul64.f a0 a1).bind fun bt205 => (some (bt205.1, bt205.2))
set_option maxHeartbeats 8000000 in
set_option maxRecDepth 100000 in
theorem bits_Mul.calls (a0 : Int) (a1 : Int) (r1 : Int) (r2 : Int) (w : World) (h : bits_Mul.f a0 a1 = some (r1, r2)) :
    Calls Try.prog 141 #[.int .u64 a0, .int .u64 a1] w fun e w' => e = .returned (.tuple #[.int .u64 r1, .int .u64 r2]) ∧ Drawn0 w w' := by
  have H : ((bits_Mul64.f a0 a1).bind fun bt205 => (some (bt205.1, bt205.2))) = some (r1, r2) := h
  clear h
  replace H := Option.bind_eq_some_iff.mp H
  obtain ⟨⟨t205, t206⟩, A30, H⟩ := H
  replace H : (some (t205, t206)) = some (r1, r2) := H
  have A3 := Aside0.mk A30
  clear A30
  simp only [Option.some.injEq, Prod.mk.injEq] at H
  obtain ⟨rfl, rfl⟩ := H
  go_enter Try.func141, Try.ntmps141
  go_wp2_with (first | ((with_reducible refine gate_callee (f := 121) rfl ?_); refine goesL_ (some 25) rfl rfl Try.func121 (by kernel_rfl) rfl #[.int .u64 a0, .int .u64 a1] rfl am ?_; (with_reducible refine (bits_Mul64.calls a0 a1 t205 t206 _ A3.out).mono ?_); rintro e w' ⟨rfl, ⟨nd, rfl⟩⟩; refine ⟨_, rfl, ?_⟩))
  go_ret2
  exact ⟨fr, dr⟩

/-! ### slices_Repeat_int_int: function 116 -/
def slices_Repeat_int_int.f (l0 : List Int) (a1 : Int) : Option (List Int) := if l0.length = 1 then (if 0 ≤ a1 then (if a1 ≤ 1048576 then ((bits_Mul.f 1 a1).bind fun t => if t.1 = 0 then (if t.2 = a1 then some (List.replicate a1.toNat (rd l0 0)) else none) else none) else none) else none) else none
/-- What stands in a block behind the stores of a copy. -/
def slices_Repeat_int_int.laid (cs : Array Value) (o : Nat) : List Value → Array Value
  | [] => cs
  | v :: vs => slices_Repeat_int_int.laid (cs.setIfInBounds o v) (o + 1) vs
theorem slices_Repeat_int_int.heap {g : Nat} {t : TypeId} : ∀ (vs : List Value) (o : Nat) (w : World) (cs : Array Value), w.heap[g]? = some (.cells cs t (0, 0)) → (w.setCells g o vs).heap[g]? = some (.cells (slices_Repeat_int_int.laid cs o vs) t (0, 0))
  | [], o, w, cs, h => h
  | v :: vs, o, w, cs, h => slices_Repeat_int_int.heap vs (o + 1) (w.setCell ⟨g, o, none⟩ v) (cs.setIfInBounds o v) (blk_put h o v rfl)
theorem slices_Repeat_int_int.laid_get : ∀ (vs : List Value) (cs : Array Value) (o j : Nat), (slices_Repeat_int_int.laid cs o vs)[j]? = if o ≤ j ∧ j < o + vs.length ∧ j < cs.size then vs[j - o]? else cs[j]?
  | [], cs, o, j => by simp [slices_Repeat_int_int.laid]; omega
  | v :: vs, cs, o, j => by
    rw [slices_Repeat_int_int.laid, slices_Repeat_int_int.laid_get vs]
    simp only [Array.size_setIfInBounds, List.length_cons]
    by_cases c : o = j
    · subst c
      by_cases d : o < cs.size
      · rw [if_neg (by omega), if_pos ⟨by omega, by omega, d⟩]; simp [d]
      · rw [if_neg (by omega), if_neg (by omega)]; simp [d]
    · by_cases d : o + 1 ≤ j ∧ j < o + 1 + vs.length ∧ j < cs.size
      · rw [if_pos d, if_pos (by omega), show j - o = (j - (o + 1)) + 1 by omega]; simp
      · rw [if_neg d, if_neg (by omega)]; simp [c]
theorem slices_Repeat_int_int.laid_size : ∀ (vs : List Value) (cs : Array Value) (o : Nat), (slices_Repeat_int_int.laid cs o vs).size = cs.size
  | [], cs, o => rfl
  | v :: vs, cs, o => by rw [slices_Repeat_int_int.laid, slices_Repeat_int_int.laid_size vs]; simp
theorem slices_Repeat_int_int.below {g : Nat} {w : World} (hg : w.heap.size ≤ g) : ∀ (vs : List Value) (o : Nat) (W : World), Below w.heap.size w W → Below w.heap.size w (W.setCells g o vs)
  | [], o, W, h => h
  | v :: vs, o, W, h => slices_Repeat_int_int.below hg vs (o + 1) _ (below_set h hg)
/-- A copy of n cells of an own row that hold v, from its beginning to the place o. -/
theorem slices_Repeat_int_int.copy {W : World} {g : Nat} {cs : Array Value} {v : Int} {o n m cap c2 : Nat} (hg : W.heap[g]? = some (.cells cs 3 (0, 0))) (hm : cs.size = cap) (hcap : m ≤ cap) (ho : o ≤ m) (hn : n ≤ o) (hv : ∀ j, j < n → cs[j]? = some (.int .i64 v)) (ty : TypeId) :
    (Builtin.copy_ #[24, 24] ty #[.slice (some ⟨g, o, none⟩) (m - o) c2, .slice (some ⟨g, 0, none⟩) n cap]).run Try.prog W = .ok (goInt (Nat.min n (m - o))) (W.setCells g o (List.replicate (Nat.min n (m - o)) (.int .i64 v))) := by
  have hk : Nat.min n (m - o) ≤ n := Nat.min_le_left _ _
  have hk2 : Nat.min n (m - o) ≤ m - o := Nat.min_le_right _ _
  have := run_copy_cells (P := Try.prog) W 24 24 ty 3 g o (m - o) c2 ⟨g, 0, none⟩ n cap (List.replicate (Nat.min n (m - o)) (.int .i64 v)) Try.underlying24 (by kernel_rfl) (by simp)
    (fun j x hx => by
      have hj : j < Nat.min n (m - o) := by
        have := (List.getElem?_eq_some_iff.1 hx).1; simpa using this
      have e : x = .int .i64 v := by rw [List.getElem?_replicate, if_pos hj] at hx; exact (Option.some.inj hx).symm
      rw [e, show (Addr.mk g 0 none).add j = ⟨g, j, none⟩ by simp [Addr.add]; omega]
      exact (blk_cell hg j).trans (hv j (by omega)))
    (fun j hj => by simp at hj; rw [blk_cell hg (o + j)]; simp; omega)
    (fun j hj => blk_frozen hg _)
    (fun x hx => by rw [List.eq_of_mem_replicate hx]; rfl)
  simpa using this

def slices_Repeat_int_int.T9 : Bool × List (List Nat × List Nat) := (true, [([], []), ([], []), ([], []), ([1, 2], [1, 2]), ([], []), ([], []), ([4, 5], [4, 5]), ([3, 6], [3, 6]), ([0, 7], [0, 7]), ([8, 7, 0, 1, 2, 3, 4, 5, 6, 7, 8], [0, 2, 5, 8])])
theorem slices_Repeat_int_int.tab9 : rtab .any (opsOf Try.f116 9) = slices_Repeat_int_int.T9 := by kernel_rfl
theorem slices_Repeat_int_int.reads {l : List Int} {A0 : Option Addr} {w : World} (h : Kd.C (Kd.int .i64) w A0 l.length l) (hl : l.length = 1) : ∃ ad, A0 = some ad ∧ w.cell? ad = some (.int .i64 (rd l 0)) := by
 obtain ⟨ad, e, hx⟩ := Kd.at_int h 0 (by omega) (by omega)
 refine ⟨ad, e, ?_⟩
 have : (ad.add (0 : Int).toNat) = ad := by simp [Addr.add]
 rwa [this] at hx

theorem slices_Repeat_int_int.formed {w : World} {base e n : Nat} {v : Value} {xs : List Value} (h : (v = .slice none 0 0 ∧ n = 0) ∨ ∃ g cap cur, v = .slice (some ⟨g, 0, none⟩) n cap ∧ base ≤ g ∧ w.heap[g]? = some (.cells cur e (0, 0)) ∧ n ≤ cap ∧ cap ≤ maxLen ∧ cur.size = cap * 1 ∧ cur.toList.take (n * 1) = xs) (hn : 0 < n) :
  ∃ g cap cur, v = .slice (some ⟨g, 0, none⟩) n cap ∧ base ≤ g ∧ w.heap[g]? = some (.cells cur e (0, 0)) ∧ n ≤ cap ∧ cap ≤ maxLen ∧ cur.size = cap * 1 ∧ cur.toList.take (n * 1) = xs := by
 rcases h with ⟨_, h0⟩ | h
 · omega
 · exact h
theorem slices_Repeat_int_int.first {W : World} {g m cap c0 : Nat} {cur : Array Value} {ad : Addr} {v : Int} (hh : W.heap[g]? = some (.cells cur 3 (0, 0))) (hcs : cur.size = cap) (hnc : m ≤ cap) (hm : 1 ≤ m) (hx : W.cell? ad = some (.int .i64 v)) :
  (Builtin.copy_ #[24, 24] 3 #[.slice (some ⟨g, 0, none⟩) m cap, .slice (some ad) 1 c0]).run Try.prog W = .ok (.int .i64 1) (W.setCells g 0 [.int .i64 v]) := by
 have := run_copy_cells (P := Try.prog) W 24 24 3 3 g 0 m cap ad 1 c0 [.int .i64 v] Try.underlying24 (by kernel_rfl) (Nat.min_eq_left hm).symm
  (fun j x h => by
    match j with
    | 0 => simp at h; subst h; rw [show ad.add 0 = ad by simp [Addr.add]]; exact hx
    | j + 1 => simp at h)
  (fun j hj => by simp at hj; subst hj; rw [blk_cell hh (0 + 0)]; simp; omega)
  (fun j hj => blk_frozen hh _)
  (fun x h => by simp at h; subst h; rfl)
 exact this
theorem slices_Repeat_int_int.own {W : World} {g m cap base : Nat} {cs : Array Value} {v : Int} (hh : W.heap[g]? = some (.cells cs 3 (0, 0))) (hcs : cs.size = cap) (hgb : base ≤ g) (hnc : m ≤ cap) (hcm : cap ≤ maxLen) (hv : ∀ j, j < m → cs[j]? = some (.int .i64 v)) :
  W.ownsRow base 3 1 (.slice (some ⟨g, 0, none⟩) m cap) (List.replicate m v).length (encs (Value.int .i64) (List.replicate m v)) := by
 refine ⟨by simp [encs], .inr ⟨g, cap, cs, by simp, hgb, hh, by simpa using hnc, hcm, by omega, ?_⟩⟩
 apply List.ext_getElem?
 intro j
 by_cases hj : j < m
 · rw [List.getElem?_take_of_lt (by simpa using hj)]
   have := hv j hj
   simp [encs, hj] at this ⊢
   exact this
 · simp [encs, hj]
   omega
theorem slices_Repeat_int_int.cutF {g m n cap : Nat} (hn : n ≤ m) (hc : n < cap) : ∀ W : World, (Instr.slice 24 (.slice (some ⟨g, 0, none⟩) m cap) (some (.int .i64 (n : Int))) none none).run Try.prog W = .ok (.slice (some ⟨g, n, none⟩) (m - n) (cap - n)) W := by
 obtain ⟨i, hi, _, hsz, _⟩ := info_parts info3
 intro W
 have := cut_from (P := Try.prog) 24 3 .i64 Try.underlying24 hi 1 hsz (some ⟨g, 0, none⟩) m cap (n : Int) (by omega) (by omega) W
 rw [this]
 simp [show ¬ cap = n by omega, Addr.add]
 intro h; omega
theorem slices_Repeat_int_int.cutT {g m n cap : Nat} (hn : n ≤ m) (hc : m ≤ cap) : ∀ W : World, (Instr.slice 24 (.slice (some ⟨g, 0, none⟩) m cap) none (some (.int .i64 (n : Int))) none).run Try.prog W = .ok (.slice (some ⟨g, 0, none⟩) n cap) W := by
 obtain ⟨i, hi, _, hsz, _⟩ := info_parts info3
 intro W
 have := cut_to (P := Try.prog) 24 3 .i64 Try.underlying24 hi (some ⟨g, 0, none⟩) m cap (n : Int) (by omega) (by omega) hc W
 simpa using this
theorem slices_Repeat_int_int.grown {cs : Array Value} {v : Int} {n d : Nat} (hv : ∀ j, j < n → cs[j]? = some (.int .i64 v)) (hd : d ≤ n) (hs : n + d ≤ cs.size) :
  ∀ j, j < n + d → (slices_Repeat_int_int.laid cs n (List.replicate d (.int .i64 v)))[j]? = some (.int .i64 v) := by
 intro j hj
 rw [slices_Repeat_int_int.laid_get]
 by_cases q : n ≤ j
 · rw [if_pos ⟨q, by simp; omega, by omega⟩, List.getElem?_replicate, if_pos (by omega)]
 · rw [if_neg (by omega)]; exact hv j (by omega)
theorem slices_Repeat_int_int.zero {W : World} {base : Nat} {ok : Nat → Prop} {v1 : Value} {m c0 : Nat} {ad : Addr} (h : Kd.R (Kd.int .i64) 3 W base ok v1 (List.replicate (m : Int).toNat 0)) (hm : m = 0) :
  ∃ A c, v1 = .slice A m c ∧ ∀ W', (Builtin.copy_ #[24, 24] 3 #[.slice A m c, .slice (some ad) 1 c0]).run Try.prog W' = .ok (.int .i64 0) W' := by
 obtain ⟨A, c, e⟩ := Kd.R_slice h
 refine ⟨A, c, by simpa using e, fun W' => ?_⟩
 exact run_copy_none (P := Try.prog) W' 24 24 3 3 A (some ad) m c 1 c0 Try.underlying24 (by kernel_rfl) (by subst hm; rfl)
set_option maxHeartbeats 8000000 in
set_option maxRecDepth 100000 in
theorem slices_Repeat_int_int.calls (A0 : Option Addr) (c0 : Nat) (l0 : List Int) (a1 : Int) (r : List Int) (w : World) (hr0 : Kd.C (Kd.int .i64) w A0 l0.length l0) (hc0 : l0.length ≤ c0) (h : slices_Repeat_int_int.f l0 a1 = some r) :
  Calls Try.prog 116 #[.slice A0 l0.length c0, .int .i64 a1] w fun e w' => ∃ v0_ : Value, e = .returned (v0_) ∧ Kd.R (Kd.int .i64) 3 w' w.heap.size (fun _ => True) v0_ r ∧ Below w.heap.size w w' := by
 unfold slices_Repeat_int_int.f at h
 by_cases c1 : l0.length = 1
 case neg => rw [if_neg c1] at h; simp at h
 rw [if_pos c1] at h
 by_cases c2 : 0 ≤ a1
 case neg => rw [if_neg c2] at h; simp at h
 rw [if_pos c2] at h
 by_cases c3 : a1 ≤ 1048576
 case neg => rw [if_neg c3] at h; simp at h
 rw [if_pos c3] at h
 replace h := Option.bind_eq_some_iff.mp h
 obtain ⟨⟨t1, t2⟩, A3, h⟩ := h
 replace h : (if t1 = 0 then (if t2 = a1 then some (List.replicate a1.toNat (rd l0 0)) else none) else none) = some r := h
 by_cases c4 : t1 = 0
 case neg => rw [if_neg c4] at h; simp at h
 rw [if_pos c4] at h
 by_cases c5 : t2 = a1
 case neg => rw [if_neg c5] at h; simp at h
 rw [if_pos c5] at h
 subst c4 c5
 obtain rfl := Option.some.inj h
 clear h
 obtain ⟨m, rfl⟩ := Int.eq_ofNat_of_zero_le c2
 simp only [Int.toNat_natCast] at *
 obtain ⟨ad, rfl, hx⟩ := slices_Repeat_int_int.reads hr0 c1
 have hlt := World.block_lt_of_cell? w _ hx
 obtain ⟨v, hv⟩ : ∃ v, rd l0 0 = v := ⟨_, rfl⟩
 rw [hv] at hx ⊢
 clear hv hr0
 rw [c1] at hc0 ⊢
 have hm : m ≤ 1048576 := by omega
 clear c1 c3
 have HX := Aside0.mk hx
 have HL := Aside0.mk hlt
 clear hx hlt
 have e1 : IntKind.u64.wrap (m : Int) = (m : Int) := by simp [IntKind.wrap, IntKind.bits, IntKind.signed]; omega
 have e2 : IntKind.i64.wrap (m : Int) = (m : Int) := by rw [i64_w]; unfold wrap64; omega
 have d1 : decide ((m : Int) < 0) = false := by simp
 have d2 : decide ((m : Int) > 9223372036854775807) = false := by simp; omega
 have HB := Aside0.mk (Below.refl w.heap.size w)
 by_cases hm0 : m = 0
 ·have d3 : decide ((0 : Int) < (m : Int)) = false := by rw [hm0]; rfl
  have d4 : decide (0 < m) = false := by rw [hm0]; rfl
  have hr0 : List.replicate m v = List.replicate (m : Int).toNat 0 := by rw [hm0]; rfl
  rw [hr0]
  have HM0 := Aside0.mk hm0
  clear hm0 hr0
  go_enter Try.func116, Try.ntmps116
  go_wp2_with (first | ((with_reducible refine gate_callee (f := 141) rfl ?_); refine goesL_ (some 18) rfl rfl Try.func141 (by kernel_rfl) rfl #[.int .u64 1, .int .u64 m] rfl am ?_; (with_reducible refine (bits_Mul.calls 1 m 0 m _ A3).mono ?_); rintro e w' ⟨rfl, ⟨nd, rfl⟩⟩; refine ⟨_, rfl, ?_⟩) | ((with_reducible refine gate_dst (N := 30) rfl ?_); refine Kd.R_make (Kd.int .i64) _ 3 rfl (N := 30) rfl 24 _ _ rfl (m : Int) rfl rfl Try.underlying24 (.int .i64 0) 8 info3 rfl (by decide) (by omega) 0 (ok := fun _ => True) (okp := fun _ => True) rfl (fun _ hk => hk) trivial (by omega) (by simp; omega) (Below.refl _ _) (Nat.le_refl _) ?_; intro v1 w6 ho7 hb hg_ hnew_; clear hg_ hnew_; have HO := Aside0.mk (Kd.R_lower ho7 (below_size (bl0 HB.out))); replace HB := Aside0.mk (below_step (bl0 HB.out) hb); clear hb ho7; obtain ⟨A7, c7, rfl, hcp⟩ := slices_Repeat_int_int.zero (ad := ad) (c0 := c0) HO.out HM0.out; replace hcp := hcp w6) | ((with_reducible refine gate_dst (N := 33) rfl ?_); refine Kd.event_run (w1 := w6) (v := .int .i64 0) rfl (by go_simp; rfl) ?_))
  repeat (go_quiet (first | ((with_reducible refine gate_callee (f := 141) rfl ?_); refine goesL_ (some 18) rfl rfl Try.func141 (by kernel_rfl) rfl #[.int .u64 1, .int .u64 m] rfl am ?_; (with_reducible refine (bits_Mul.calls 1 m 0 m _ A3).mono ?_); rintro e w' ⟨rfl, ⟨nd, rfl⟩⟩; refine ⟨_, rfl, ?_⟩) | ((with_reducible refine gate_dst (N := 30) rfl ?_); refine Kd.R_make (Kd.int .i64) _ 3 rfl (N := 30) rfl 24 _ _ rfl (m : Int) rfl rfl Try.underlying24 (.int .i64 0) 8 info3 rfl (by decide) (by omega) 0 (ok := fun _ => True) (okp := fun _ => True) rfl (fun _ hk => hk) trivial (by omega) (by simp; omega) (Below.refl _ _) (Nat.le_refl _) ?_; intro v1 w6 ho7 hb hg_ hnew_; clear hg_ hnew_; have HO := Aside0.mk (Kd.R_lower ho7 (below_size (bl0 HB.out))); replace HB := Aside0.mk (below_step (bl0 HB.out) hb); clear hb ho7; obtain ⟨A7, c7, rfl, hcp⟩ := slices_Repeat_int_int.zero (ad := ad) (c0 := c0) HO.out HM0.out; replace hcp := hcp w6) | ((with_reducible refine gate_dst (N := 33) rfl ?_); refine Kd.event_run (w1 := w6) (v := .int .i64 0) rfl (by go_simp; rfl) ?_))); try go_wp2_with (first | ((with_reducible refine gate_callee (f := 141) rfl ?_); refine goesL_ (some 18) rfl rfl Try.func141 (by kernel_rfl) rfl #[.int .u64 1, .int .u64 m] rfl am ?_; (with_reducible refine (bits_Mul.calls 1 m 0 m _ A3).mono ?_); rintro e w' ⟨rfl, ⟨nd, rfl⟩⟩; refine ⟨_, rfl, ?_⟩) | ((with_reducible refine gate_dst (N := 30) rfl ?_); refine Kd.R_make (Kd.int .i64) _ 3 rfl (N := 30) rfl 24 _ _ rfl (m : Int) rfl rfl Try.underlying24 (.int .i64 0) 8 info3 rfl (by decide) (by omega) 0 (ok := fun _ => True) (okp := fun _ => True) rfl (fun _ hk => hk) trivial (by omega) (by simp; omega) (Below.refl _ _) (Nat.le_refl _) ?_; intro v1 w6 ho7 hb hg_ hnew_; clear hg_ hnew_; have HO := Aside0.mk (Kd.R_lower ho7 (below_size (bl0 HB.out))); replace HB := Aside0.mk (below_step (bl0 HB.out) hb); clear hb ho7; obtain ⟨A7, c7, rfl, hcp⟩ := slices_Repeat_int_int.zero (ad := ad) (c0 := c0) HO.out HM0.out; replace hcp := hcp w6) | ((with_reducible refine gate_dst (N := 33) rfl ?_); refine Kd.event_run (w1 := w6) (v := .int .i64 0) rfl (by go_simp; rfl) ?_))
  go_loopg [8] 0 (fun kq v8 w' => v8 = .int .i64 0 ∧ w' = w6)
  case atStart => exact ⟨fr, rfl⟩
  case round =>
   obtain ⟨rfl, rfl⟩ := hrel
   go_wp2
   go_ret
   exact ⟨_, rfl, HO.out, bl0 HB.out⟩
 ·replace hm0 : 1 ≤ m := by omega
  go_enter Try.func116, Try.ntmps116
  go_wp2_with (first | ((with_reducible refine gate_callee (f := 141) rfl ?_); refine goesL_ (some 18) rfl rfl Try.func141 (by kernel_rfl) rfl #[.int .u64 1, .int .u64 m] rfl am ?_; (with_reducible refine (bits_Mul.calls 1 m 0 m _ A3).mono ?_); rintro e w' ⟨rfl, ⟨nd, rfl⟩⟩; refine ⟨_, rfl, ?_⟩) | ((with_reducible refine gate_dst (N := 30) rfl ?_); refine Kd.R_make (Kd.int .i64) _ 3 rfl (N := 30) rfl 24 _ _ rfl (m : Int) rfl rfl Try.underlying24 (.int .i64 0) 8 info3 rfl (by decide) (by omega) 0 (ok := fun _ => True) (okp := fun _ => True) rfl (fun _ hk => hk) trivial (by omega) (by simp; omega) (Below.refl _ _) (Nat.le_refl _) ?_; intro v1 w6 ho7 hb hg_ hnew_; clear hg_ hnew_; have HO := Aside0.mk (Kd.R_lower ho7 (below_size (bl0 HB.out))); replace HB := Aside0.mk (below_step (bl0 HB.out) hb); clear hb ho7; obtain ⟨hl1, hx1⟩ := Kd.own_of_R (enc := Value.int .i64) (h1 := fun _ => rfl) HO.out; obtain ⟨g, cap, cur, rfl, hgb, hh, hnc, hcm, hcs, ht⟩ := slices_Repeat_int_int.formed hx1 (by simp; omega); clear hx1 hl1 ht; simp only [Int.toNat_natCast, List.length_replicate, Nat.mul_one] at hcs hnc ⊢; have hx6 : w6.cell? ad = some (.int .i64 v) := (HB.out.cell HL.out).trans HX.out; have hcp : (Builtin.copy_ #[24, 24] 3 #[.slice (some ⟨g, 0, none⟩) m cap, .slice (some ad) 1 c0]).run Try.prog w6 = .ok (.int .i64 1) (w6.setCells g 0 [.int .i64 v]) := slices_Repeat_int_int.first hh hcs hnc hm0 hx6) | ((with_reducible refine gate_dst (N := 33) rfl ?_); refine Kd.event_run (w1 := w6.setCells g 0 [.int .i64 v]) (v := .int .i64 1) rfl (by go_simp; rfl) ?_))
  repeat (go_quiet (first | ((with_reducible refine gate_callee (f := 141) rfl ?_); refine goesL_ (some 18) rfl rfl Try.func141 (by kernel_rfl) rfl #[.int .u64 1, .int .u64 m] rfl am ?_; (with_reducible refine (bits_Mul.calls 1 m 0 m _ A3).mono ?_); rintro e w' ⟨rfl, ⟨nd, rfl⟩⟩; refine ⟨_, rfl, ?_⟩) | ((with_reducible refine gate_dst (N := 30) rfl ?_); refine Kd.R_make (Kd.int .i64) _ 3 rfl (N := 30) rfl 24 _ _ rfl (m : Int) rfl rfl Try.underlying24 (.int .i64 0) 8 info3 rfl (by decide) (by omega) 0 (ok := fun _ => True) (okp := fun _ => True) rfl (fun _ hk => hk) trivial (by omega) (by simp; omega) (Below.refl _ _) (Nat.le_refl _) ?_; intro v1 w6 ho7 hb hg_ hnew_; clear hg_ hnew_; have HO := Aside0.mk (Kd.R_lower ho7 (below_size (bl0 HB.out))); replace HB := Aside0.mk (below_step (bl0 HB.out) hb); clear hb ho7; obtain ⟨hl1, hx1⟩ := Kd.own_of_R (enc := Value.int .i64) (h1 := fun _ => rfl) HO.out; obtain ⟨g, cap, cur, rfl, hgb, hh, hnc, hcm, hcs, ht⟩ := slices_Repeat_int_int.formed hx1 (by simp; omega); clear hx1 hl1 ht; simp only [Int.toNat_natCast, List.length_replicate, Nat.mul_one] at hcs hnc ⊢; have hx6 : w6.cell? ad = some (.int .i64 v) := (HB.out.cell HL.out).trans HX.out; have hcp : (Builtin.copy_ #[24, 24] 3 #[.slice (some ⟨g, 0, none⟩) m cap, .slice (some ad) 1 c0]).run Try.prog w6 = .ok (.int .i64 1) (w6.setCells g 0 [.int .i64 v]) := slices_Repeat_int_int.first hh hcs hnc hm0 hx6) | ((with_reducible refine gate_dst (N := 33) rfl ?_); refine Kd.event_run (w1 := w6.setCells g 0 [.int .i64 v]) (v := .int .i64 1) rfl (by go_simp; rfl) ?_))); try go_wp2_with (first | ((with_reducible refine gate_callee (f := 141) rfl ?_); refine goesL_ (some 18) rfl rfl Try.func141 (by kernel_rfl) rfl #[.int .u64 1, .int .u64 m] rfl am ?_; (with_reducible refine (bits_Mul.calls 1 m 0 m _ A3).mono ?_); rintro e w' ⟨rfl, ⟨nd, rfl⟩⟩; refine ⟨_, rfl, ?_⟩) | ((with_reducible refine gate_dst (N := 30) rfl ?_); refine Kd.R_make (Kd.int .i64) _ 3 rfl (N := 30) rfl 24 _ _ rfl (m : Int) rfl rfl Try.underlying24 (.int .i64 0) 8 info3 rfl (by decide) (by omega) 0 (ok := fun _ => True) (okp := fun _ => True) rfl (fun _ hk => hk) trivial (by omega) (by simp; omega) (Below.refl _ _) (Nat.le_refl _) ?_; intro v1 w6 ho7 hb hg_ hnew_; clear hg_ hnew_; have HO := Aside0.mk (Kd.R_lower ho7 (below_size (bl0 HB.out))); replace HB := Aside0.mk (below_step (bl0 HB.out) hb); clear hb ho7; obtain ⟨hl1, hx1⟩ := Kd.own_of_R (enc := Value.int .i64) (h1 := fun _ => rfl) HO.out; obtain ⟨g, cap, cur, rfl, hgb, hh, hnc, hcm, hcs, ht⟩ := slices_Repeat_int_int.formed hx1 (by simp; omega); clear hx1 hl1 ht; simp only [Int.toNat_natCast, List.length_replicate, Nat.mul_one] at hcs hnc ⊢; have hx6 : w6.cell? ad = some (.int .i64 v) := (HB.out.cell HL.out).trans HX.out; have hcp : (Builtin.copy_ #[24, 24] 3 #[.slice (some ⟨g, 0, none⟩) m cap, .slice (some ad) 1 c0]).run Try.prog w6 = .ok (.int .i64 1) (w6.setCells g 0 [.int .i64 v]) := slices_Repeat_int_int.first hh hcs hnc hm0 hx6) | ((with_reducible refine gate_dst (N := 33) rfl ?_); refine Kd.event_run (w1 := w6.setCells g 0 [.int .i64 v]) (v := .int .i64 1) rfl (by go_simp; rfl) ?_))
  go_loopg [8] m (fun kq v8 w' => ∃ (n : Nat) (cs : Array Value), v8 = .int .i64 (n : Int) ∧ Aside0 (m ≤ n + kq) ∧ Aside0 (1 ≤ n ∧ n ≤ m) ∧ Aside0 (w'.heap[g]? = some (.cells cs 3 (0, 0)) ∧ cs.size = cap) ∧ Aside0 (∀ j, j < n → cs[j]? = some (.int .i64 v)) ∧ Aside0 (Below w.heap.size w w'))
  case atStart => exact ⟨1, slices_Repeat_int_int.laid cur 0 [.int .i64 v], fr, ⟨by omega⟩, ⟨by omega⟩, ⟨slices_Repeat_int_int.heap _ _ _ _ hh, by rw [slices_Repeat_int_int.laid_size, hcs]⟩, ⟨fun j hj => by rw [slices_Repeat_int_int.laid_get, if_pos (by simp; omega)]; simp [show j = 0 by omega]⟩, ⟨slices_Repeat_int_int.below hgb _ _ _ (bl0 HB.out)⟩⟩
  case round =>
   clear hcp hx6 hh hcs
   obtain ⟨n, cs, rfl, HK, HN, HG, HV, HB⟩ := hrel
   obtain ⟨hn1, hn2⟩ := HN.out
   by_cases c8 : n < m
   ·have c8b0 : decide ((n : Int) < (m : Int)) = true := decide_eq_true (by omega)
    cases gk with
    | zero => exact absurd HK.out (by omega)
    | succ k1 =>
     obtain ⟨d, hd⟩ : ∃ d, Nat.min n (m - n) = d := ⟨_, rfl⟩
     have hd1 : 1 ≤ d ∧ d ≤ n ∧ n + d ≤ m := by have : Nat.min n (m - n) = min n (m - n) := rfl; omega
     have hcp := slices_Repeat_int_int.copy (W := wr.drew) (g := g) (cs := cs) (v := v) (o := n) (n := n) (m := m) (cap := cap) (c2 := cap - n) (bk HG.out.1) HG.out.2 hnc hn2 (Nat.le_refl _) HV.out 3
     rw [hd] at hcp
     replace hcp : (Builtin.copy_ #[24, 24] 3 #[.slice (some ⟨g, n, none⟩) (m - n) (cap - n), .slice (some ⟨g, 0, none⟩) n cap]).run Try.prog wr.drew = .ok (.int .i64 (d : Int)) (wr.drew.setCells g n (List.replicate d (.int .i64 v))) := hcp
     have hs1 := slices_Repeat_int_int.cutF (g := g) (m := m) (n := n) (cap := cap) hn2 (by omega)
     have hs2 := slices_Repeat_int_int.cutT (g := g) (m := m) (n := n) (cap := cap) hn2 (by omega)
     have hw : wrap64 ((n : Int) + (d : Int)) = ((n + d : Nat) : Int) := by unfold wrap64; omega
     go_wp2
     refine start_ (n := 10) (S := fun _ => True) (ds := []) (ba 10 0) (by kernel_rfl) rfl rfl trivial (fun hHeld => ?_); refine with_tab slices_Repeat_int_int.tab9 (fun HT_ => ?_)
     refine pI 0 38 (ba 10 1) HT_.out ?_
     refine pI 1 39 (ba 10 3) HT_.out ?_
     refine pI 2 40 (ba 10 7) HT_.out ?_
     refine pI 4 42 (ba 10 23) HT_.out ?_
     refine pI 5 43 (ba 10 55) HT_.out ?_
     refine pI 3 41 (ba 10 63) HT_.out ?_
     refine pI 6 44 (ba 10 127) HT_.out ?_
     refine one_ (i := 7) (N := some 45) (ba 10 255) rfl rfl (one_of HT_.out (by kernel_rfl)) (by decide) (fun K hK => ?_)
     refine value_ (w1 := wr.drew.setCells g n (List.replicate d (.int .i64 v))) (v := .int .i64 (d : Int)) (by rfl) rfl ?_ ?_
     ·go_simp
     refine hK.out _ _ trivial (fun hHeld => ?_)
     clear hK K
     refine np 45 ?_
     refine pI 8 46 (ba 10 511) HT_.out ?_
     refine pI 9 8 (ba 10 1023) HT_.out ?_
     refine done_ (done_of HT_.out (by kernel_rfl)) ?_
     try go_wp2
     go_roundg k1
     case measure => omega
     case rel =>
      clear e1 e2 hw hcp hs1 hs2 d1 d2 A3
      have hcs := HG.out.2
      have hh9 := slices_Repeat_int_int.heap (List.replicate d (.int .i64 v)) n wr.drew cs (blk_drew HG.out.1)
      have hb9 := slices_Repeat_int_int.below hgb (List.replicate d (.int .i64 v)) n wr.drew (below_drew1 HB.out)
      have hv9 := slices_Repeat_int_int.grown HV.out hd1.2.1 (show n + d ≤ cs.size by omega)
      refine ⟨n + d, slices_Repeat_int_int.laid cs n (List.replicate d (.int .i64 v)), ?_, ⟨?_⟩, ⟨?_⟩, ⟨hh9, ?_⟩, ⟨hv9⟩, ⟨hb9⟩⟩
      ·simp only [Int.natCast_add]
      ·have := HK.out; omega
      ·omega
      ·rw [slices_Repeat_int_int.laid_size]; exact hcs
   ·have c8b0 : decide ((n : Int) < (m : Int)) = false := decide_eq_false (by omega)
    obtain rfl : n = m := by omega
    go_wp2
    go_ret
    exact ⟨_, rfl, Kd.R_of_own (enc := Value.int .i64) (h1 := fun _ => rfl) (slices_Repeat_int_int.own HG.out.1 HG.out.2 hgb hnc hcm HV.out) (fun _ _ => trivial), bl0 HB.out⟩

/-! ### color_third: function 117 -/
def color_third.f (a0 : Int) (a1 : Int) : Option (Int) := if a1 = 0 then (none) else (if (wrap64 (Int.tdiv (wrap64 (3 * a0)) a1)) = 0 then (some 5) else (if (wrap64 (Int.tdiv (wrap64 (3 * a0)) a1)) = 1 then (some 7) else (some 6)))
set_option maxHeartbeats 8000000 in
set_option maxRecDepth 100000 in
theorem color_third.calls (a0 : Int) (a1 : Int) (r : Int) (w : World) (h : color_third.f a0 a1 = some r) :
    Calls Try.prog 117 #[.int .i64 a0, .int .i64 a1] w fun e w' => e = .returned (.int .i64 r) ∧ Drawn0 w w' := by
  have H : (if a1 = 0 then (none) else (if (wrap64 (Int.tdiv (wrap64 (3 * a0)) a1)) = 0 then (some 5) else (if (wrap64 (Int.tdiv (wrap64 (3 * a0)) a1)) = 1 then (some 7) else (some 6)))) = some r := h
  clear h
  by_cases c3 : a1 = 0
  · rw [if_pos c3] at H
    exact absurd H (by simp)
  · rw [if_neg c3] at H
    have c3b0 : (a1 == 0) = false := beq_eq_false_iff_ne.mpr c3
    have c3b1 : (a1 != 0) = true := bne_iff_ne.mpr c3
    by_cases c4 : (wrap64 (Int.tdiv (wrap64 (3 * a0)) a1)) = 0
    · rw [if_pos c4] at H
      have c4b0 : ((wrap64 (Int.tdiv (wrap64 (3 * a0)) a1)) == 0) = true := beq_iff_eq.mpr c4
      have c4b1 : ((wrap64 (Int.tdiv (wrap64 (3 * a0)) a1)) != 0) = false := bne_eq_false_iff_eq.mpr c4
      clear c4
      obtain rfl := Option.some.inj H
      go_enter Try.func117, Try.ntmps117
      go_wp2
      go_ret
      exact ⟨fr, dr⟩
    · rw [if_neg c4] at H
      have c4b0 : ((wrap64 (Int.tdiv (wrap64 (3 * a0)) a1)) == 0) = false := beq_eq_false_iff_ne.mpr c4
      have c4b1 : ((wrap64 (Int.tdiv (wrap64 (3 * a0)) a1)) != 0) = true := bne_iff_ne.mpr c4
      by_cases c5 : (wrap64 (Int.tdiv (wrap64 (3 * a0)) a1)) = 1
      · rw [if_pos c5] at H
        have c5b0 : ((wrap64 (Int.tdiv (wrap64 (3 * a0)) a1)) == 1) = true := beq_iff_eq.mpr c5
        have c5b1 : ((wrap64 (Int.tdiv (wrap64 (3 * a0)) a1)) != 1) = false := bne_eq_false_iff_eq.mpr c5
        clear c5
        obtain rfl := Option.some.inj H
        go_enter Try.func117, Try.ntmps117
        go_wp2
        go_ret
        exact ⟨fr, dr⟩
      · rw [if_neg c5] at H
        have c5b0 : ((wrap64 (Int.tdiv (wrap64 (3 * a0)) a1)) == 1) = false := beq_eq_false_iff_ne.mpr c5
        have c5b1 : ((wrap64 (Int.tdiv (wrap64 (3 * a0)) a1)) != 1) = true := bne_iff_ne.mpr c5
        obtain rfl := Option.some.inj H
        go_enter Try.func117, Try.ntmps117
        go_wp2
        go_ret
        exact ⟨fr, dr⟩

/-! ### color_behind: function 118 -/
def color_behind.j0 : Nat → Int → Bool → Option (Int)
  | 0, _, _ => none
  | k + 1, x0, x5 => if x5 = true then (some 6) else (if (Int.tmod x0 3) = 0 then (some 3) else (if (Int.tmod x0 3) = 1 then (some 6) else (some 5)))
def color_behind.f (k : Nat) (a0 : Int) (a1 : Int) : Option (Int) := if (Int.tmod a1 3) = 1 then (color_behind.j0 k a0 (a0 == (wrap64 (a1 - 1)))) else (color_behind.j0 k a0 false)
theorem color_behind.mono_l : ∀ k, (∀ y0 y1, LeO (color_behind.j0 k y0 y1) (color_behind.j0 (k + 1) y0 y1))
  | 0 => fun _ _ r h => by simp [color_behind.j0] at h
  | k + 1 => by
    have ih0 := color_behind.mono_l k
    · intro y0 y1
      unfold color_behind.j0
      repeat' first
      | (with_reducible exact ih0 _ _)
      | (with_reducible exact LeO.refl _)
      | (with_reducible exact LeO.none _)
      | (with_reducible refine LeO.ite ?_ ?_)
      | (with_reducible refine LeO.bind ?_ (fun _ => ?_))
      | exact ih0 _ _
      | exact LeO.none _
      | refine LeO.ite ?_ ?_
      | refine LeO.bind ?_ (fun _ => ?_)
theorem color_behind.mono : ∀ a0 a1 k, LeO (color_behind.f k a0 a1) (color_behind.f (k + 1) a0 a1) := by
  intro a0 a1 k
  have ih0 := color_behind.mono_l k
  unfold color_behind.f
  repeat' first
      | (with_reducible exact ih0 _ _)
      | (with_reducible exact LeO.refl _)
      | (with_reducible exact LeO.none _)
      | (with_reducible refine LeO.ite ?_ ?_)
      | (with_reducible refine LeO.bind ?_ (fun _ => ?_))
      | exact ih0 _ _
      | exact LeO.none _
      | refine LeO.ite ?_ ?_
      | refine LeO.bind ?_ (fun _ => ?_)
set_option maxHeartbeats 8000000 in
set_option maxRecDepth 100000 in
theorem color_behind.calls (k : Nat) (a0 : Int) (a1 : Int) (r : Int) (w : World) (h : color_behind.f k a0 a1 = some r) :
    Calls Try.prog 118 #[.int .i64 a0, .int .i64 a1] w fun e w' => e = .returned (.int .i64 r) ∧ Drawn0 w w' := by
  have H : (if (Int.tmod a1 3) = 1 then (color_behind.j0 k a0 (a0 == (wrap64 (a1 - 1)))) else (color_behind.j0 k a0 false)) = some r := h
  clear h
  have HC3 := Aside0.mk H
  clear H
  go_enter Try.func118, Try.ntmps118
  go_upto_region 1 with (fail)
  go_cut [5] (fun v5 wc => ∃ (kq : Nat) (x5_2 : Bool), v5 = .bool x5_2 ∧ Aside0 (color_behind.j0 kq a0 x5_2 = some r) ∧ Aside0 (kq ≤ k) ∧ Drawn0 w wc)
  case first =>
    have H := HC3.out
    clear HC3
    by_cases c4 : (Int.tmod a1 3) = 1
    · rw [if_pos c4] at H
      have c4b0 : ((Int.tmod a1 3) == 1) = true := beq_iff_eq.mpr c4
      have c4b1 : ((Int.tmod a1 3) != 1) = false := bne_eq_false_iff_eq.mpr c4
      clear c4
      (first | rw [c4b0] | (simp only [i64_w, i32_w]; rw [c4b0]) | rw [c4b1] | skip)
      have H' := Aside0.mk H
      clear H
      go_wp2
      go_meet
      case rel => exact ⟨_, ((a0 == (wrap64 (a1 - 1)))), fr, H', ⟨by first | omega | exact Nat.le_refl _⟩, by repeat (first | exact Drawn0.refl _ | apply Drawn0.step)⟩
    · rw [if_neg c4] at H
      have c4b0 : ((Int.tmod a1 3) == 1) = false := beq_eq_false_iff_ne.mpr c4
      have c4b1 : ((Int.tmod a1 3) != 1) = true := bne_iff_ne.mpr c4
      (first | rw [c4b0] | (simp only [i64_w, i32_w]; rw [c4b0]) | rw [c4b1] | skip)
      have H' := Aside0.mk H
      clear H
      go_wp2
      go_meet
      case rel => exact ⟨_, (false), fr, H', ⟨by first | omega | exact Nat.le_refl _⟩, by repeat (first | exact Drawn0.refl _ | apply Drawn0.step)⟩
  case rest =>
    clear HC3
    try clear c1
    try clear p2
    try clear c4
    try clear c4b0
    try clear c4b1
    obtain ⟨kq, x5_2, rfl, HA, HJ2, ⟨mc2, rfl⟩⟩ := hcut
    cases kq with
    | zero => exact absurd HA.out (by simp [color_behind.j0])
    | succ kj2 =>
      have H := HA.out
      clear HA
      simp only [color_behind.j0] at H
      by_cases c5 : x5_2 = true
      · subst c5
        rw [if_pos rfl] at H
        obtain rfl := Option.some.inj H
        go_wp2
        go_ret
        exact ⟨fr, dr⟩
      · replace c5 := Bool.eq_false_iff.mpr c5
        subst c5
        rw [if_neg (show ¬ (false = true) by decide)] at H
        by_cases c6 : (Int.tmod a0 3) = 0
        · rw [if_pos c6] at H
          have c6b0 : ((Int.tmod a0 3) == 0) = true := beq_iff_eq.mpr c6
          have c6b1 : ((Int.tmod a0 3) != 0) = false := bne_eq_false_iff_eq.mpr c6
          clear c6
          obtain rfl := Option.some.inj H
          go_wp2
          go_ret
          exact ⟨fr, dr⟩
        · rw [if_neg c6] at H
          have c6b0 : ((Int.tmod a0 3) == 0) = false := beq_eq_false_iff_ne.mpr c6
          have c6b1 : ((Int.tmod a0 3) != 0) = true := bne_iff_ne.mpr c6
          by_cases c7 : (Int.tmod a0 3) = 1
          · rw [if_pos c7] at H
            have c7b0 : ((Int.tmod a0 3) == 1) = true := beq_iff_eq.mpr c7
            have c7b1 : ((Int.tmod a0 3) != 1) = false := bne_eq_false_iff_eq.mpr c7
            clear c7
            obtain rfl := Option.some.inj H
            go_wp2
            go_ret
            exact ⟨fr, dr⟩
          · rw [if_neg c7] at H
            have c7b0 : ((Int.tmod a0 3) == 1) = false := beq_eq_false_iff_ne.mpr c7
            have c7b1 : ((Int.tmod a0 3) != 1) = true := bne_iff_ne.mpr c7
            obtain rfl := Option.some.inj H
            go_wp2
            go_ret
            exact ⟨fr, dr⟩

end Go.Proofs.Ytalgppclaolonaa.XColr
