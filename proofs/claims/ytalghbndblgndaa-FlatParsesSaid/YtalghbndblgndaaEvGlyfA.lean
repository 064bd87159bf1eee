/- Glyf: where the points lie, both sides. -/
import Derived.Test.YtalghbndblgndaaEvGlyfP
namespace Go.Proofs.Ytalghbndblgndaa.Ev
open Go
set_option linter.unusedVariables false
set_option linter.unusedSimpArgs false
def gStep (sh sa : Bool) (q : Q) : Int × Q := cond sh (cond sa (num 1 q) (0 - (num 1 q).1, (num 1 q).2)) (cond sa (0, q) (s16 (num 2 q).1, (num 2 q).2))
def far (v : Int) : Bool := decide (v < -32767 ∨ v > 32767)
def gAl (m n : Int) : List Int → List Int → Int → Q → Int × List Int × Q
  | [], a, _, q => (0, a, q)
  | f :: r, a, at', q => cond (gStep (bt f m) (bt f n) q).2.2 (3, [], q) (cond (far (at' + (gStep (bt f m) (bt f n) q).1)) (2, [], q)
      (gAl m n r (a ++ [at' + (gStep (bt f m) (bt f n) q).1]) (at' + (gStep (bt f m) (bt f n) q).1) (gStep (bt f m) (bt f n) q).2))
theorem gAl_0 (m n : Int) (a : List Int) (at' : Int) (q : Q) : gAl m n [] a at' q = (0, a, q) := rfl
theorem gAl_s (m n f : Int) (r a : List Int) (at' : Int) (q : Q) : gAl m n (f :: r) a at' q = cond (gStep (bt f m) (bt f n) q).2.2 (3, [], q) (cond (far (at' + (gStep (bt f m) (bt f n) q).1)) (2, [], q)
      (gAl m n r (a ++ [at' + (gStep (bt f m) (bt f n) q).1]) (at' + (gStep (bt f m) (bt f n) q).1) (gStep (bt f m) (bt f n) q).2)) := rfl
theorem gStep_r {a b : Bool} {q : Q} (h : Byt q.1) : -32768 ≤ (gStep a b q).1 ∧ (gStep a b q).1 ≤ 32767 := by
  have := n1 h; have := r2 h
  cases a <;> cases b <;> simp only [gStep, cond_true, cond_false] <;> omega
theorem far_F {v : Int} (h : far v = false) : -32767 ≤ v ∧ v ≤ 32767 := by
  have := of_decide_eq_false h; omega
section
variable {s : ByteArray} (hs : s.size ≤ 1000000000)
include hs
theorem f153 {x : S132} {q : Q} {E Fl : List Int} (hm : Mk s x q E Fl) (a b : Bool) : ∃ x', F153 x a b = some ((gStep a b q).1, x') ∧ Mk s x' (gStep a b q).2 E Fl := by
  obtain ⟨⟨y, hy, hr⟩, rfl, rfl⟩ := hm
  have e1 := n1 hr.byt
  have e2 := r2 hr.byt
  rw [F153_eq, hy]
  cases a <;> cases b <;> simp only [cond_true, cond_false, gStep]
  · obtain ⟨y2, a2, b2⟩ := f71 hs hr
    rw [L153_1_eq]
    simp only [cond_true, cond_false]
    rw [bnd a2, wr64 (by omega) (by omega)]
    exact ⟨_, rfl, Mk.mk' b2⟩
  · rw [L153_1_eq]
    exact ⟨_, rfl, Mk.mk' hr⟩
  · obtain ⟨y2, a2, b2⟩ := f158 hs hr
    rw [L153_1_eq]
    simp only [cond_true, cond_false]
    rw [bnd a2, wr64 (n := (num 1 q).1) (by omega) (by omega), wr64 (by omega) (by omega)]
    exact ⟨_, rfl, Mk.mk' b2⟩
  · obtain ⟨y2, a2, b2⟩ := f158 hs hr
    rw [L153_0_eq]
    simp only [Option.bind_some]
    rw [bnd a2, wr64 (by omega) (by omega)]
    exact ⟨_, rfl, Mk.mk' b2⟩
theorem l123 {m n : Int} (hm : ∀ f : Int, 0 ≤ f → f < 256 → (andE IntKind.u8 f m != 0) = bt f m) (hn : ∀ f : Int, 0 ≤ f → f < 256 → (andE IntKind.u8 f n != 0) = bt f n) {E Fl : List Int} (hF : Byt Fl) (hl : Fl.length ≤ 5000) :
    ∀ (d : Nat) (a : List Int) (x : S132) (at' : Int) (q : Q), d + a.length = Fl.length → Mk s x q E Fl → -32767 ≤ at' → at' ≤ 32767 →
    ∃ x', L123_0 x m n (a ++ List.replicate d 0) at' Fl (Fl.length : Int) (a.length : Int) = some ((gAl m n (Fl.drop a.length) a at' q).2.1, (gAl m n (Fl.drop a.length) a at' q).1, x') ∧ (∃ q', Mk s x' q' E Fl) ∧ ((gAl m n (Fl.drop a.length) a at' q).1 = 0 → Mk s x' (gAl m n (Fl.drop a.length) a at' q).2.2 E Fl)
  | 0, a, x, at', q, h, hk, h1, h2 => by
    obtain ⟨⟨y, hy, hr⟩, rfl, rfl⟩ := hk
    rw [L123_0_eq, hy, drop_nil (by omega), gAl_0, List.replicate_zero, List.append_nil]
    simp only
    rw [cF (by omega)]
    exact ⟨_, rfl, ⟨_, Mk.mk' hr⟩, fun _ => Mk.mk' hr⟩
  | d + 1, a, x, at', q, h, hk, h1, h2 => by
    obtain ⟨⟨y, hy, hr⟩, hE, hF2⟩ := hk
    have hf := hF _ (rd_mem Fl 0 a.length (by omega))
    have hst := gStep_r (a := bt (Fl.getD a.length 0) m) (b := bt (Fl.getD a.length 0) n) hr.byt
    have e1 := hm _ hf.1 hf.2
    have e2 := hn _ hf.1 hf.2
    rw [L123_0_eq, hy, drop_rd Fl 0 a.length (by omega), gAl_s]
    simp only [Int.toNat_natCast]
    rw [hE, hF2, cT (by omega), grd_p (by omega), grd_p (by omega), e1, e2]
    generalize hG : gStep (bt (Fl.getD a.length 0) m) (bt (Fl.getD a.length 0) n) q = G at hst ⊢
    obtain ⟨x3, a3, b3⟩ := f153 hs (Mk.mk' (E := E) (Fl := Fl) hr) (bt (Fl.getD a.length 0) m) (bt (Fl.getD a.length 0) n)
    rw [hG] at a3 b3
    obtain ⟨⟨y3, hy3, hr3⟩, hE3, hF3⟩ := b3
    rw [bnd a3, hy3]
    simp only [Option.bind_some]
    rw [hE3, hF3, bnd (f73 hr3)]
    cases G.2.2
    · simp only [cond_false]
      rw [cnF rfl, wr64 (by omega) (by omega), wr64 (by omega) (by omega)]
      have hmx : decide (mxE (at' + G.1) (0 - (at' + G.1)) > 32767) = far (at' + G.1) := by
        unfold mxE far
        by_cases hv : 0 - (at' + G.1) > at' + G.1
        · rw [if_pos hv]; exact decide_eq_decide.mpr (by omega)
        · rw [if_neg hv]; exact decide_eq_decide.mpr (by omega)
      rw [hmx]
      cases hfa : far (at' + G.1)
      · have hfa' := far_F hfa
        have hset : List.set (a ++ List.replicate (d + 1) 0) a.length (at' + G.1) = (a ++ [at' + G.1]) ++ List.replicate d 0 := by
          rw [List.set_append_right _ _ (by omega), Nat.sub_self, List.replicate_succ, List.set_cons_zero, List.append_assoc, List.singleton_append]
        have hla : (a ++ [at' + G.1]).length = a.length + 1 := by simp
        obtain ⟨x5, k1, k2, k3⟩ := l123 hm hn hF hl d (a ++ [at' + G.1]) (S132.mk (some y3) E Fl) (at' + G.1) G.2 (by omega) (Mk.mk' hr3) hfa'.1 hfa'.2
        rw [hla] at k1 k3
        simp only [cond_false]
        rw [grd_p (by omega), grd_p (by simp; omega), hset, inc (by omega)]
        exact ⟨x5, k1, k2, k3⟩
      · simp only [cond_true]
        exact ⟨_, rfl, ⟨_, Mk.mk' hr3⟩, fun e => by cases e⟩
    · simp only [cond_true]
      rw [cnT (by simp)]
      exact ⟨_, rfl, ⟨_, Mk.mk' hr3⟩, fun e => by cases e⟩
theorem f123 {m n : Int} (hm : ∀ f : Int, 0 ≤ f → f < 256 → (andE IntKind.u8 f m != 0) = bt f m) (hn : ∀ f : Int, 0 ≤ f → f < 256 → (andE IntKind.u8 f n != 0) = bt f n) {E Fl : List Int} (hF : Byt Fl) (hl : Fl.length ≤ 5000) {x : S132} {q : Q} (hk : Mk s x q E Fl) :
    ∃ x', F123 x m n = some ((gAl m n Fl [] 0 q).2.1, (gAl m n Fl [] 0 q).1, x') ∧ (∃ q', Mk s x' q' E Fl) ∧ ((gAl m n Fl [] 0 q).1 = 0 → Mk s x' (gAl m n Fl [] 0 q).2.2 E Fl) := by
  obtain ⟨⟨y, hy, hr⟩, hE, hF2⟩ := hk
  rw [F123_eq, hy]
  simp only
  rw [hE, hF2, grd_p (by omega), Int.toNat_natCast, fitM_p (by omega)]
  exact l123 hs hm hn hF hl Fl.length [] (S132.mk (some y) E Fl) 0 q (by simp) (Mk.mk' hr) (by omega) (by omega)
omit hs in
theorem l79_1 {Fl : List Int} {m n : Int} {x : S139} {a : List Int} {v i : Int} {b : Bool} (hx : x.f2 = b) : L79_1 x Fl m n a v i = cond b (some ([], 3, x)) (cond (far v) (some ([], 2, x)) (grd (fit (a.length + [v].length) 8) <| L79_0 x Fl m n (a ++ [v]) v (wr .i64 (i + 1)))) := by
  rw [L79_1_eq, hx]
  by_cases h1 : v < -32767
  · rw [cT h1, show far v = true from decide_eq_true (by omega)]; rfl
  · rw [cF h1]
    by_cases h2 : v > 32767
    · rw [cT h2, show far v = true from decide_eq_true (by omega)]; rfl
    · rw [cF h2, show far v = false from decide_eq_false (by omega)]; rfl
theorem l79 {m n : Int} (hm : 0 < m ∧ m ≤ 32768) (hn : 0 < n ∧ n ≤ 32768) {Fl : List Int} (hF : Byt Fl) (hl : Fl.length ≤ 5000) :
    ∀ (d : Nat) (a : List Int) (x : S139) (at' : Int) (q : Q), d + a.length = Fl.length → RdR s x q → -32767 ≤ at' → at' ≤ 32767 →
    ∃ x', L79_0 x Fl m n a at' (a.length : Int) = some ((gAl m n (Fl.drop a.length) a at' q).2.1, (gAl m n (Fl.drop a.length) a at' q).1, x') ∧ ((gAl m n (Fl.drop a.length) a at' q).1 = 0 → RdR s x' (gAl m n (Fl.drop a.length) a at' q).2.2)
  | 0, a, x, at', q, h, hr, h1, h2 => by
    rw [L79_0_eq, drop_nil (by omega), gAl_0, cF (by omega)]
    exact ⟨_, rfl, fun _ => hr⟩
  | d + 1, a, x, at', q, h, hr, h1, h2 => by
    have hf := hF _ (rd_mem Fl 0 a.length (by omega))
    have hst := gStep_r (a := bt (Fl.getD a.length 0) m) (b := bt (Fl.getD a.length 0) n) hr.byt
    have en1 := n1 hr.byt
    have en2 := r2 hr.byt
    rw [L79_0_eq, drop_rd Fl 0 a.length (by omega), gAl_s]
    simp only [Int.toNat_natCast]
    rw [cT (by omega), grd_p (by omega), grd_p (by omega), cF (by omega), grd_p (by omega), grd_p (by omega), cF (by omega), (bt_mod hf.1 (by omega) hm.1 hm.2).1, (bt_mod hf.1 (by omega) hn.1 hn.2).1]
    have key : ∀ (x3 : S139) (G : Int × Q), RdR s x3 G.2 → -32768 ≤ G.1 → G.1 ≤ 32767 →
        ∃ x', L79_1 x3 Fl m n a (at' + G.1) (a.length : Int) = some ((cond G.2.2 (3, [], q) (cond (far (at' + G.1)) (2, [], q) (gAl m n (Fl.drop (a.length + 1)) (a ++ [at' + G.1]) (at' + G.1) G.2))).2.1, (cond G.2.2 (3, [], q) (cond (far (at' + G.1)) (2, [], q) (gAl m n (Fl.drop (a.length + 1)) (a ++ [at' + G.1]) (at' + G.1) G.2))).1, x') ∧
          ((cond G.2.2 (3, [], q) (cond (far (at' + G.1)) (2, [], q) (gAl m n (Fl.drop (a.length + 1)) (a ++ [at' + G.1]) (at' + G.1) G.2))).1 = 0 → RdR s x' (cond G.2.2 (3, [], q) (cond (far (at' + G.1)) (2, [], q) (gAl m n (Fl.drop (a.length + 1)) (a ++ [at' + G.1]) (at' + G.1) G.2))).2.2) := by
      intro x3 G hr3 g0 g1
      rw [l79_1 hr3.2.1]
      cases G.2.2
      · simp only [cond_false]
        cases hfa : far (at' + G.1)
        · have hfa' := far_F hfa
          have hla : (a ++ [at' + G.1]).length = a.length + 1 := by simp
          obtain ⟨x5, k1, k3⟩ := l79 hm hn hF hl d (a ++ [at' + G.1]) x3 (at' + G.1) G.2 (by omega) hr3 hfa'.1 hfa'.2
          rw [hla] at k1 k3
          simp only [cond_false]
          rw [fit_p (by simp; omega), inc (by omega)]
          exact ⟨x5, k1, k3⟩
        · exact ⟨_, rfl, fun e => by cases e⟩
      · exact ⟨_, rfl, fun e => by cases e⟩
    cases hb1 : bt (Fl.getD a.length 0) m
    · rw [hb1] at hst
      cases hb2 : bt (Fl.getD a.length 0) n
      · obtain ⟨x3, a3, b3⟩ := f75 hs hr
        simp only [cond_false, Bool.not_false, cond_true]
        rw [bnd a3, wr64 (by omega) (by omega)]
        exact key x3 (gStep false false q) b3 (gStep_r hr.byt).1 (gStep_r hr.byt).2
      · simp only [cond_false, Bool.not_true]
        have k := key x (gStep false true q) hr (gStep_r hr.byt).1 (gStep_r hr.byt).2
        rw [show at' + (gStep false true q).1 = at' from Int.add_zero _] at k
        rw [show at' + (gStep false true q).1 = at' from Int.add_zero _]
        exact k
    · obtain ⟨x3, a3, b3⟩ := f77 hs hr (n := 1) (by omega)
      have a3 : F77 x 1 = _ := a3
      simp only [cond_true]
      rw [bnd a3]
      cases hb2 : bt (Fl.getD a.length 0) n
      · simp only [cond_false]
        rw [wr64 (n := (num 1 q).1) (by omega) (by omega), wr64 (by omega) (by omega)]
        have k := key x3 (gStep true false q) b3 (gStep_r hr.byt).1 (gStep_r hr.byt).2
        rw [show at' + (gStep true false q).1 = at' - (num 1 q).1 from by show at' + (0 - (num 1 q).1) = _; omega] at k
        rw [show at' + (gStep true false q).1 = at' - (num 1 q).1 from by show at' + (0 - (num 1 q).1) = _; omega]
        exact k
      · simp only [cond_true]
        rw [wr64 (n := (num 1 q).1) (by omega) (by omega), wr64 (by omega) (by omega)]
        exact key x3 (gStep true true q) b3 (gStep_r hr.byt).1 (gStep_r hr.byt).2
theorem f79 {m n : Int} (hm : 0 < m ∧ m ≤ 32768) (hn : 0 < n ∧ n ≤ 32768) {Fl : List Int} (hF : Byt Fl) (hl : Fl.length ≤ 5000) {x : S139} {q : Q} (hr : RdR s x q) :
    ∃ x', F79 x Fl m n = some ((gAl m n Fl [] 0 q).2.1, (gAl m n Fl [] 0 q).1, x') ∧ ((gAl m n Fl [] 0 q).1 = 0 → RdR s x' (gAl m n Fl [] 0 q).2.2) := by
  rw [F79_eq]
  exact l79 hs hm hn hF hl Fl.length [] x 0 q (by simp) hr (by omega) (by omega)
end
theorem gAl_ok {m n : Int} : ∀ (Fl a : List Int) (at' : Int) (q : Q), (∀ v ∈ a, -32767 ≤ v ∧ v ≤ 32767) → (gAl m n Fl a at' q).1 = 0 → (gAl m n Fl a at' q).2.1.length = a.length + Fl.length ∧ ∀ v ∈ (gAl m n Fl a at' q).2.1, -32767 ≤ v ∧ v ≤ 32767
  | [], a, at', q, h, he => ⟨rfl, h⟩
  | f :: r, a, at', q, h, he => by
    rw [gAl_s] at he ⊢
    cases h1 : (gStep (bt f m) (bt f n) q).2.2
    · rw [h1, cond_false] at he
      rw [cond_false]
      cases h2 : far (at' + (gStep (bt f m) (bt f n) q).1)
      · rw [h2, cond_false] at he
        rw [cond_false]
        have := gAl_ok r _ _ _ (fun v hv => by rcases List.mem_append.mp hv with k | k; exact h v k; rw [List.mem_singleton.mp k]; exact far_F h2) he
        rw [List.length_append, List.length_singleton] at this
        exact ⟨by rw [this.1, List.length_cons]; omega, this.2⟩
      · rw [h2] at he; cases he
    · rw [h1] at he; cases he
end Go.Proofs.Ytalghbndblgndaa.Ev
