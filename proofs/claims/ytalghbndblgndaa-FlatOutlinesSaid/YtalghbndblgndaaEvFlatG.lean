/- Flat: the walk through the parts: the program's and the reference's. -/
import Derived.Test.YtalghbndblgndaaEvFlatW
namespace Go.Proofs.Ytalghbndblgndaa.Ev
open Go
set_option linter.unusedVariables false
set_option linter.unusedSimpArgs false
structure Rr where
  out : CS
  deep : Int
  err : Int
  v : Int
/-- What is gathered once a part's contours are added. -/
def joinF (pl : Bool) (p : S47) (out c : CS) : Int × CS := cond pl (0, out) (match mvL p c with | none => (2, []) | some m => (addE (out ++ m) (pts (out ++ m)), out ++ m))
def goP (pl : Bool) (rec : List Int → Int → Int → Rr) (now : List Int) : List S47 → CS → Int → Int → Rr
  | [], out, dp, v => ⟨out, dp, 0, v⟩
  | p :: ps, out, dp, v => if p.f0 ∈ now then ⟨[], 0, 9, v⟩ else if now.length > 8 then ⟨[], 0, 8, v⟩ else if v = 4096 then ⟨[], 0, 6, v⟩ else
      if (rec now p.f0 (v + 1)).err ≠ 0 then ⟨[], 0, (rec now p.f0 (v + 1)).err, v⟩ else
      if (joinF pl p out (rec now p.f0 (v + 1)).out).1 ≠ 0 then ⟨[], 0, (joinF pl p out (rec now p.f0 (v + 1)).out).1, v⟩ else
      goP pl rec now ps (joinF pl p out (rec now p.f0 (v + 1)).out).2 (mxE dp ((rec now p.f0 (v + 1)).deep + 1)) (rec now p.f0 (v + 1)).v
def goF (S : List S43) (pl : Bool) : Nat → List Int → Int → Int → Rr
  | 0, _, _, v => ⟨[], 0, 1, v⟩
  | n + 1, inn, g, v => if (S.getD g.toNat z2).f1.length = 0 then ⟨(S.getD g.toNat z2).f0, 0, 0, v⟩ else goP pl (goF S pl n) (inn ++ [g]) (S.getD g.toNat z2).f1 [] 0 v
/-! is one in a row? -/
theorem l162 {l : List Int} {x : Int} (hl : l.length ≤ 1000) : ∀ (d i : Nat), d + i = l.length → ∃ k : Int, L162_0 l x (l.length : Int) (i : Int) = some k ∧ (k ≥ 0 ↔ x ∈ l.drop i)
  | 0, i, h => ⟨-1, by rw [L162_0_eq, cF (by omega)], by rw [drop_nil (by omega)]; simp⟩
  | d + 1, i, h => by
    obtain ⟨k, h1, h2⟩ := l162 (x := x) hl d (i + 1) (by omega)
    rw [L162_0_eq, Int.toNat_natCast, drop_rd l 0 i (by omega)]
    simp (disch := omega) only [cT, grd_p, inc]
    by_cases e : x = l.getD i 0
    · exact ⟨i, by rw [ceT e], by rw [e]; simp⟩
    · exact ⟨k, by rw [ceF e]; exact h1, by rw [h2, List.mem_cons]; exact ⟨.inr, fun q => q.resolve_left e⟩⟩
theorem f149 {l : List Int} {x : Int} (hl : l.length ≤ 1000) : F149 l x = some (decide (x ∈ l)) := by
  obtain ⟨k, h1, h2⟩ := l162 (l := l) (x := x) hl l.length 0 (by omega)
  rw [Int.natCast_zero] at h1
  rw [List.drop_zero] at h2
  rw [F149_eq, F162_eq, h1]
  simp only [Option.bind_some]
  congr 1; exact decide_eq_decide.mpr h2
/-! what may be -/
theorem gmL_ok : ∀ {l : CS} {n : Nat}, n ≤ 4096 → gmL n l = true → n + pts l ≤ 4096
  | [], n, hn, h => hn
  | c :: l, n, hn, h => by
    simp only [gmL, Bool.and_eq_true, decide_eq_true_eq] at h
    have := gmL_ok h.2.1 h.2.2.2
    simp only [pts]; omega
theorem gm_ok {l : CS} (h : gm l = true) : OkC l := by
  simp only [gm, Bool.and_eq_true, decide_eq_true_eq] at h
  exact ⟨h.1, by have := gmL_ok (Nat.zero_le _) h.2; omega⟩
structure OkS (S : List S43) : Prop where
  n : S.length ≤ 20
  c : ∀ s ∈ S, s.f1.length ≤ 10 ∧ (s.f1.length = 0 → OkC s.f0) ∧ ∀ p ∈ s.f1, 0 ≤ p.f0 ∧ p.f0 < S.length
theorem may_ok {S : List S43} (hf : Few S) (h : may S = true) : OkS S := by
  simp only [may, Bool.and_eq_true, List.all_eq_true] at h
  refine ⟨hf.n, fun s hs => ⟨(hf.c s hs).2.1, fun h0 => ?_, fun p hp => ?_⟩⟩
  · have := h.2 s hs
    unfold sm at this
    rw [decide_eq_false (by omega)] at this
    exact gm_ok this
  · have := h.2 s hs
    have hne : s.f1.length ≠ 0 := fun e => by rw [List.eq_nil_of_length_eq_zero e] at hp; cases hp
    unfold sm at this
    rw [decide_eq_true hne, cond_true, Bool.and_eq_true] at this
    have := this.2
    simp only [pm, Bool.and_eq_true, List.all_eq_true] at this
    exact (ptM_sh (this.2.2 p hp)).1
theorem join_ok {pl : Bool} {p : S47} {out c : CS} (ho : OkC out) (h : (joinF pl p out c).1 = 0) : OkC (joinF pl p out c).2 := by
  cases pl
  · unfold joinF at h ⊢
    rw [cond_false] at h ⊢
    split
    · exact ⟨by simp, by simp [pts]⟩
    · rename_i m hm
      rw [hm] at h
      simp only [addE] at h ⊢
      by_cases h1 : ((out ++ m).length : Int) > 256
      · rw [cT h1] at h; cases h
      · by_cases h2 : (pts (out ++ m) : Int) > 4096
        · rw [cF h1, cT h2] at h; cases h
        · exact ⟨by omega, by omega⟩
  · exact ho
theorem mxE_le (a b : Int) : a ≤ mxE a b ∧ b ≤ mxE a b ∧ (mxE a b = a ∨ mxE a b = b) := by unfold mxE; split <;> omega
/-- What a walk leaves, where it comes through. -/
structure Fa (b v : Int) (r : Rr) : Prop where
  out : OkC r.out
  v0 : v ≤ r.v
  v1 : r.v ≤ 4096
  d0 : 0 ≤ r.deep
  d1 : r.deep ≤ b
theorem goP_fa {pl : Bool} {rec : List Int → Int → Int → Rr} {now : List Int} {b : Int} {V : Int → Prop} (hr : now.length ≤ 8 → ∀ g v, V g → 0 ≤ v ∧ v ≤ 4096 → (rec now g v).err = 0 → Fa b v (rec now g v)) : ∀ (ps : List S47) (out : CS) (dp v : Int), (∀ p ∈ ps, V p.f0) → 0 ≤ v ∧ v ≤ 4096 → OkC out → 0 ≤ dp ∧ dp ≤ b + 1 →
    (goP pl rec now ps out dp v).err = 0 → Fa (b + 1) v (goP pl rec now ps out dp v)
  | [], out, dp, v, hp, hv, ho, hd, h => ⟨ho, Int.le_refl _, hv.2, hd.1, hd.2⟩
  | p :: ps, out, dp, v, hp, hv, ho, hd, h => by
    rw [goP] at h ⊢
    by_cases h1 : p.f0 ∈ now
    · rw [if_pos h1] at h; cases h
    · rw [if_neg h1] at h ⊢
      by_cases h2 : now.length > 8
      · rw [if_pos h2] at h; cases h
      · rw [if_neg h2] at h ⊢
        by_cases h3 : v = 4096
        · rw [if_pos h3] at h; cases h
        · rw [if_neg h3] at h ⊢
          by_cases h4 : (rec now p.f0 (v + 1)).err ≠ 0
          · rw [if_pos h4] at h; exact absurd h h4
          · rw [if_neg h4] at h ⊢
            have r0 := hr (by omega) p.f0 (v + 1) (hp p List.mem_cons_self) (by omega) (by omega)
            by_cases h5 : (joinF pl p out (rec now p.f0 (v + 1)).out).1 ≠ 0
            · rw [if_pos h5] at h; exact absurd h h5
            · rw [if_neg h5] at h ⊢
              have mx := mxE_le dp ((rec now p.f0 (v + 1)).deep + 1)
              have q1 := r0.d0
              have q2 := r0.d1
              have q3 := r0.v0
              have q4 := r0.v1
              have ih := goP_fa (pl := pl) hr ps _ (mxE dp ((rec now p.f0 (v + 1)).deep + 1)) (rec now p.f0 (v + 1)).v (fun p hp' => hp p (List.mem_cons_of_mem _ hp')) (by omega) (join_ok ho (by omega)) (by omega) h
              exact ⟨ih.out, by have := ih.v0; omega, ih.v1, ih.d0, ih.d1⟩
def Vg (S : List S43) (g : Int) : Prop := 0 ≤ g ∧ g < S.length
theorem goF_fa {S : List S43} (ok : OkS S) {pl : Bool} : ∀ (n : Nat) (inn : List Int) (g v : Int), inn.length ≤ 8 → Vg S g → 0 ≤ v ∧ v ≤ 4096 → (goF S pl n inn g v).err = 0 → Fa (9 - inn.length) v (goF S pl n inn g v)
  | 0, inn, g, v, hi, hg, hv, h => by cases h
  | n + 1, inn, g, v, hi, hg, hv, h => by
    have hg1 := hg.1
    have hg2 := hg.2
    have hs := ok.c _ (rd_mem S z2 g.toNat (by omega))
    rw [goF] at h ⊢
    by_cases h0 : (S.getD g.toNat z2).f1.length = 0
    · rw [if_pos h0] at h ⊢
      exact ⟨hs.2.1 h0, Int.le_refl _, hv.2, Int.le_refl _, by show (0 : Int) ≤ _; omega⟩
    · rw [if_neg h0] at h ⊢
      have hl : (inn ++ [g]).length = inn.length + 1 := by simp
      have := goP_fa (pl := pl) (rec := goF S pl n) (now := inn ++ [g]) (b := 9 - (inn ++ [g]).length) (V := Vg S) (fun hn g v hg hv h => goF_fa ok n _ g v hn hg hv h) _ [] 0 v (fun p hp => hs.2.2 p hp) hv ⟨by simp, by simp [pts]⟩ (by omega) h
      rw [hl] at this
      exact ⟨this.out, this.v0, this.v1, this.d0, by have := this.d1; omega⟩
/-! the reference's -/
theorem l58_1 {G : YR D [.v (.st 4), .v (.int .i64), .v (.sl (.int .i64))] → Option (YR D [.v (.sl (.sl (.st 0))), .v (.int .i64), .v (.int .i64), .v (.st 4)])} {st : S104} {s : S43} {out : CS} {dp i : Int} {now : List Int} {p : S47} (hn : now.length ≤ 1000) : ∀ (d k : Nat), d + k = now.length →
    L58_1 G st s out dp now i p (k : Int) = if p.f0 ∈ now.drop k then some ([], (0, (9, st))) else L58_1 G st s out dp now i p (now.length : Int)
  | 0, k, h => by rw [drop_nil (by omega), if_neg (by simp), show k = now.length by omega]
  | d + 1, k, h => by
    rw [L58_1_eq, Int.toNat_natCast, drop_rd now 0 k (by omega)]
    simp (disch := omega) only [cT, grd_p, inc]
    by_cases e : now.getD k 0 = p.f0
    · rw [ceT e, if_pos (by rw [e]; simp)]
    · rw [ceF e, l58_1 hn d (k + 1) (by omega)]
      have : (p.f0 ∈ now.getD k 0 :: now.drop (k + 1)) ↔ p.f0 ∈ now.drop (k + 1) := by rw [List.mem_cons]; constructor; exact fun h => h.resolve_left (fun e2 => e e2.symm); exact .inr
      simp only [this]
theorem c_if {α : Type} {P : Prop} [Decidable P] (a b : α) : cond (decide P) a b = if P then a else b := by by_cases h : P <;> simp [h]
theorem l58_0 {S : List S43} (ok : OkS S) {pl : Bool} {G : YR D [.v (.st 4), .v (.int .i64), .v (.sl (.int .i64))] → Option (YR D [.v (.sl (.sl (.st 0))), .v (.int .i64), .v (.int .i64), .v (.st 4)])} {rec : List Int → Int → Int → Rr} {now : List Int} (hn : now.length ≤ 9)
    (hG : now.length ≤ 8 → ∀ g v, Vg S g → 0 ≤ v ∧ v ≤ 4096 → ∃ st, F58r G (S104.mk S v pl) g now = some ((rec now g v).out, ((rec now g v).deep, ((rec now g v).err, st))) ∧ ((rec now g v).err = 0 → st = S104.mk S (rec now g v).v pl ∧ Fa 100 v (rec now g v)))
    {s : S43} (hs : s.f1.length ≤ 10) (hp : ∀ p ∈ s.f1, Vg S p.f0) : ∀ (d i : Nat) (out : CS) (dp v : Int), d + i = s.f1.length → OkC out → 0 ≤ dp ∧ dp ≤ 101 → 0 ≤ v ∧ v ≤ 4096 →
    ∃ st, L58_0 G (S104.mk S v pl) s out dp now (i : Int) = some ((goP pl rec now (s.f1.drop i) out dp v).out, ((goP pl rec now (s.f1.drop i) out dp v).deep, ((goP pl rec now (s.f1.drop i) out dp v).err, st))) ∧ ((goP pl rec now (s.f1.drop i) out dp v).err = 0 → st = S104.mk S (goP pl rec now (s.f1.drop i) out dp v).v pl)
  | 0, i, out, dp, v, h, ho, hd, hv => by
    rw [L58_0_eq, cF (by omega), drop_nil (by omega)]
    exact ⟨_, rfl, fun _ => rfl⟩
  | d + 1, i, out, dp, v, h, ho, hd, hv => by
    have hpm := hp _ (rd_mem s.f1 z1 i (by omega))
    rw [L58_0_eq, Int.toNat_natCast, drop_rd s.f1 z1 i (by omega), goP]
    simp (disch := omega) only [cT, grd_p]
    have h0 := l58_1 (G := G) (st := S104.mk S v pl) (s := s) (out := out) (dp := dp) (i := i) (now := now) (p := s.f1.getD i z1) (by omega) now.length 0 (by omega)
    rw [Int.natCast_zero, List.drop_zero] at h0
    rw [h0]
    generalize s.f1.getD i z1 = p at hpm ⊢
    by_cases h1 : p.f0 ∈ now
    · rw [if_pos h1, if_pos h1]; exact ⟨_, rfl, fun q => by cases q⟩
    · rw [if_neg h1, if_neg h1, L58_1_eq, cF (by omega)]
      by_cases h2 : now.length > 8
      · rw [if_pos h2, cT (by omega)]; exact ⟨_, rfl, fun q => by cases q⟩
      · rw [if_neg h2, cF (by omega), wr64 (by show _ ≤ v + 1; omega) (by show v + 1 ≤ _; omega)]
        by_cases h3 : v = 4096
        · rw [if_pos h3, cT (by show v + 1 > 4096; omega)]; exact ⟨_, rfl, fun q => by cases q⟩
        · rw [if_neg h3, cF (by show ¬ v + 1 > 4096; omega)]
          obtain ⟨st, g1, g2⟩ := hG (by omega) p.f0 (v + 1) hpm (by omega)
          rw [g1]
          simp only [Option.bind_some]
          by_cases h4 : (rec now p.f0 (v + 1)).err ≠ 0
          · rw [if_pos h4, cnT h4]; exact ⟨_, rfl, fun q => absurd q h4⟩
          · obtain ⟨rfl, fa⟩ := g2 (by omega)
            have q1 := fa.d0
            have q2 := fa.d1
            have q3 := fa.v0
            have q4 := fa.v1
            have mx := mxE_le dp ((rec now p.f0 (v + 1)).deep + 1)
            rw [if_neg h4, cnF (by omega), wr64 (n := (rec now p.f0 (v + 1)).deep + 1) (by omega) (by omega), inc (by omega)]
            cases pl
            · have hout := fa.out
              have on := ho.n
              have op := ho.p
              rw [cond_false, f113 hout]
              unfold joinF
              rw [cond_false]
              cases hm : mvL p (rec now p.f0 (v + 1)).out with
              | none => exact ⟨_, rfl, fun q => by cases q⟩
              | some m =>
                obtain ⟨m1, m2⟩ := mvL_len hm
                have hn' := hout.n
                have hp' := hout.p
                simp only [Option.bind_some, List.nil_append, bne_self_eq_false, cond_false]
                rw [fit_p (by omega), fit_p (by omega)]
                have e1 : (out ++ m).length = out.length + m.length := List.length_append
                have e2 := pts_app out m
                by_cases h6 : ((out ++ m).length : Int) > 256
                · have eA : addE (out ++ m) (pts (out ++ m)) = 6 := by unfold addE; rw [cT h6]
                  rw [cT h6, if_pos (by rw [eA]; decide)]; exact ⟨_, by rw [eA], fun q => absurd q (by rw [eA]; show ¬ (6 : Int) = 0; decide)⟩
                · rw [cF h6, f114 (by omega) (by omega)]
                  simp only [Option.bind_some]
                  by_cases h7 : (pts (out ++ m) : Int) > 4096
                  · have eA : addE (out ++ m) (pts (out ++ m)) = 6 := by unfold addE; rw [cF h6, cT h7]
                    rw [cT h7, if_pos (by rw [eA]; decide)]; exact ⟨_, by rw [eA], fun q => absurd q (by rw [eA]; show ¬ (6 : Int) = 0; decide)⟩
                  · have eA : addE (out ++ m) (pts (out ++ m)) = 0 := by unfold addE; rw [cF h6, cF h7]
                    rw [cF h7, if_neg (by rw [eA]; decide)]
                    exact l58_0 ok hn hG hs hp d (i + 1) _ _ _ (by omega) ⟨by omega, by omega⟩ (by omega) (by omega)
            · rw [cond_true]
              unfold joinF
              rw [cond_true, if_neg (by simp)]
              exact l58_0 ok hn hG hs hp d (i + 1) _ _ _ (by omega) ho (by omega) (by omega)
theorem ref_step {S : List S43} (ok : OkS S) {pl : Bool} {G : YR D [.v (.st 4), .v (.int .i64), .v (.sl (.int .i64))] → Option (YR D [.v (.sl (.sl (.st 0))), .v (.int .i64), .v (.int .i64), .v (.st 4)])} {n : Nat} {inn : List Int} {g v : Int} (hi : inn.length ≤ 8) (hg : Vg S g) (hv : 0 ≤ v ∧ v ≤ 4096)
    (hG : (inn ++ [g]).length ≤ 8 → ∀ g' v, Vg S g' → 0 ≤ v ∧ v ≤ 4096 → ∃ st, F58r G (S104.mk S v pl) g' (inn ++ [g]) = some ((goF S pl n (inn ++ [g]) g' v).out, ((goF S pl n (inn ++ [g]) g' v).deep, ((goF S pl n (inn ++ [g]) g' v).err, st))) ∧ ((goF S pl n (inn ++ [g]) g' v).err = 0 → st = S104.mk S (goF S pl n (inn ++ [g]) g' v).v pl ∧ Fa 100 v (goF S pl n (inn ++ [g]) g' v))) :
    ∃ st, F58g G (S104.mk S v pl) g inn = some ((goF S pl (n + 1) inn g v).out, ((goF S pl (n + 1) inn g v).deep, ((goF S pl (n + 1) inn g v).err, st))) ∧ ((goF S pl (n + 1) inn g v).err = 0 → st = S104.mk S (goF S pl (n + 1) inn g v).v pl) := by
  have hg1 := hg.1
  have hg2 := hg.2
  have hs := ok.c _ (rd_mem S z2 g.toNat (by omega))
  rw [F58_eq, goF]
  simp (disch := omega) only [grd_p]
  by_cases h0 : (S.getD g.toNat z2).f1.length = 0
  · rw [if_pos h0, ceT (by omega)]; exact ⟨_, rfl, fun _ => rfl⟩
  · rw [if_neg h0, ceF (by omega), fit_p (by omega), fit_p (by simp; omega)]
    have hl : (inn ++ [g]).length = inn.length + 1 := by simp
    have := l58_0 ok (pl := pl) (G := G) (rec := goF S pl n) (now := inn ++ [g]) (by omega) hG (s := S.getD g.toNat z2) hs.1 hs.2.2 _ 0 [] 0 v (Nat.add_zero _) ⟨by simp, by simp [pts]⟩ (by omega) hv
    rw [List.drop_zero, Int.natCast_zero] at this
    exact this
theorem ref_go {S : List S43} (ok : OkS S) {pl : Bool} : ∀ (n : Nat) (inn : List Int) (g v : Int), inn.length ≤ 8 → 9 ≤ n + inn.length → Vg S g → 0 ≤ v ∧ v ≤ 4096 →
    ∃ st, F58r (Gn D fd58 h58 n) (S104.mk S v pl) g inn = some ((goF S pl n inn g v).out, ((goF S pl n inn g v).deep, ((goF S pl n inn g v).err, st))) ∧ ((goF S pl n inn g v).err = 0 → st = S104.mk S (goF S pl n inn g v).v pl)
  | 0, inn, g, v, hi, hn, hg, hv => by omega
  | n + 1, inn, g, v, hi, hn, hg, hv => by
    have hl : (inn ++ [g]).length = inn.length + 1 := by simp
    rw [F58_n]
    exact ref_step ok (G := Gn D fd58 h58 n) hi hg hv fun hl8 g' v hg hv => by
      obtain ⟨st, h1, h2⟩ := ref_go ok (pl := pl) n (inn ++ [g]) g' v hl8 (by omega) hg hv
      refine ⟨st, h1, fun h => ⟨h2 h, ?_⟩⟩
      have fa := goF_fa ok n _ g' v hl8 hg hv h
      exact ⟨fa.out, fa.v0, fa.v1, fa.d0, by have := fa.d1; omega⟩
/-! the program's -/
theorem l56_0 {S : List S43} (ok : OkS S) {pl : Bool} {G : YR D [.v (.st 3), .v (.int .i64)] → Option (YR D [.v (.sl (.sl (.st 0))), .v (.int .i64), .v (.st 3)])} {rec : List Int → Int → Int → Rr} {inn : List Int} {g0 : Int} (hn : inn.length ≤ 8)
    (hG : (inn ++ [g0]).length ≤ 8 → ∀ g v dp, Vg S g → 0 ≤ v ∧ v ≤ 4096 → ((inn ++ [g0]).length : Int) ≤ dp ∧ dp ≤ 1000 → ∃ st, F56r G (S99.mk S (inn ++ [g0]) v dp (!pl)) g = some ((rec (inn ++ [g0]) g v).out, ((rec (inn ++ [g0]) g v).err, st)) ∧
      ((rec (inn ++ [g0]) g v).err = 0 → st = S99.mk S (inn ++ [g0]) (rec (inn ++ [g0]) g v).v (mxE dp ((inn ++ [g0]).length + (rec (inn ++ [g0]) g v).deep)) (!pl) ∧ Fa 100 v (rec (inn ++ [g0]) g v)))
    {ps : List S47} (hs : ps.length ≤ 10) (hp : ∀ p ∈ ps, Vg S p.f0) {D0 : Int} (hD : (inn.length : Int) ≤ D0 ∧ D0 ≤ 1000) : ∀ (d i : Nat) (out : CS) (e v : Int), d + i = ps.length → OkC out → 0 ≤ e ∧ e ≤ 101 → 0 ≤ v ∧ v ≤ 4096 →
    ∃ st, L56_0 G (S99.mk S (inn ++ [g0]) v (mxE D0 (inn.length + e)) (!pl)) (S180.mk out (pts out)) ps (ps.length : Int) (i : Int) = some ((goP pl rec (inn ++ [g0]) (ps.drop i) out e v).out, ((goP pl rec (inn ++ [g0]) (ps.drop i) out e v).err, st)) ∧
      ((goP pl rec (inn ++ [g0]) (ps.drop i) out e v).err = 0 → st = S99.mk S inn (goP pl rec (inn ++ [g0]) (ps.drop i) out e v).v (mxE D0 (inn.length + (goP pl rec (inn ++ [g0]) (ps.drop i) out e v).deep)) (!pl))
  | 0, i, out, e, v, h, ho, he, hv => by
    have hl : (inn ++ [g0]).length = inn.length + 1 := by simp
    rw [L56_0_eq, cF (by omega), drop_nil (l := ps) (i := i) (by omega)]
    dsimp only
    rw [List.drop_zero, hl, wr64 (by omega) (by omega), grd_p (by omega), grd_p (by omega), show (((inn.length + 1 : Nat) : Int) - 1).toNat = inn.length by omega, List.take_left' rfl]
    exact ⟨_, rfl, fun _ => rfl⟩
  | d + 1, i, out, e, v, h, ho, he, hv => by
    have hl : (inn ++ [g0]).length = inn.length + 1 := by simp
    have hpm := hp _ (rd_mem ps z1 i (by omega))
    rw [L56_0_eq, Int.toNat_natCast, drop_rd ps z1 i (by omega), goP]
    simp (disch := omega) only [cT, grd_p]
    generalize ps.getD i z1 = p at hpm ⊢
    rw [F110_eq]
    dsimp only
    rw [f149 (by omega)]
    simp only [Option.bind_some]
    by_cases h1 : p.f0 ∈ inn ++ [g0]
    · rw [if_pos h1, cT h1]; exact ⟨_, rfl, fun q => by cases q⟩
    · rw [if_neg h1, cF h1]
      by_cases h2 : (inn ++ [g0]).length > 8
      · rw [if_pos h2, cT (by omega)]; exact ⟨_, rfl, fun q => by cases q⟩
      · rw [if_neg h2, cF (by omega)]
        by_cases h3 : v = 4096
        · rw [if_pos h3, ceT h3]; exact ⟨_, rfl, fun q => by cases q⟩
        · rw [if_neg h3, ceF h3, wr64 (by show _ ≤ v + 1; omega) (by show v + 1 ≤ _; omega)]
          have m1 := mxE_le D0 (inn.length + e)
          have m2 := mxE_le (mxE D0 (inn.length + e)) ((inn ++ [g0]).length : Int)
          obtain ⟨st, g1, g2⟩ := hG (by omega) p.f0 (v + 1) (mxE (mxE D0 (inn.length + e)) ((inn ++ [g0]).length : Int)) hpm (by omega) (by omega)
          simp only [Option.bind_some, bne_self_eq_false, cond_false]
          rw [g1]
          simp only [Option.bind_some]
          by_cases h4 : (rec (inn ++ [g0]) p.f0 (v + 1)).err ≠ 0
          · rw [if_pos h4, ceF h4, L56_1_eq, cnT h4]; exact ⟨_, rfl, fun q => absurd q h4⟩
          · obtain ⟨rfl, fa⟩ := g2 (by omega)
            have q1 := fa.d0
            have q2 := fa.d1
            have q3 := fa.v0
            have q4 := fa.v1
            have mx := mxE_le e ((rec (inn ++ [g0]) p.f0 (v + 1)).deep + 1)
            have m3 := mxE_le (mxE (mxE D0 (inn.length + e)) ((inn ++ [g0]).length : Int)) (((inn ++ [g0]).length : Int) + (rec (inn ++ [g0]) p.f0 (v + 1)).deep)
            have m4 := mxE_le D0 (inn.length + mxE e ((rec (inn ++ [g0]) p.f0 (v + 1)).deep + 1))
            have edp : mxE (mxE (mxE D0 (inn.length + e)) ((inn ++ [g0]).length : Int)) (((inn ++ [g0]).length : Int) + (rec (inn ++ [g0]) p.f0 (v + 1)).deep) = mxE D0 (inn.length + mxE e ((rec (inn ++ [g0]) p.f0 (v + 1)).deep + 1)) := by omega
            rw [if_neg h4, ceT (by omega), edp]
            have h4' : (rec (inn ++ [g0]) p.f0 (v + 1)).err = 0 := by omega
            cases pl
            · simp only [Bool.not_false, cond_true]
              obtain ⟨o, q, h5⟩ := f111 fa.out (p := p) ho
              rw [L56_2_eq, h5]
              unfold joinF
              rw [cond_false]
              cases hm : mvL p (rec (inn ++ [g0]) p.f0 (v + 1)).out with
              | none =>
                simp only [Option.bind_some]
                rw [L56_1_eq, cnT (by decide)]; exact ⟨_, rfl, fun q => by cases q⟩
              | some m =>
                simp only [Option.bind_some]
                rw [L56_1_eq]
                by_cases h6 : addE (out ++ m) (pts (out ++ m)) ≠ 0
                · rw [cnT h6, if_pos h6]; exact ⟨_, rfl, fun q => absurd q h6⟩
                · rw [cnF (by omega), if_neg h6, inc (by omega)]
                  have okj : OkC (out ++ m) := by
                    have := join_ok (pl := false) (p := p) (out := out) (c := (rec (inn ++ [g0]) p.f0 (v + 1)).out) ho
                    unfold joinF at this
                    rw [cond_false, hm] at this
                    exact this (by simpa using h6)
                  have := l56_0 ok (pl := false) hn hG hs hp hD d (i + 1) (out ++ m) (mxE e ((rec (inn ++ [g0]) p.f0 (v + 1)).deep + 1)) (rec (inn ++ [g0]) p.f0 (v + 1)).v (by omega) okj (by omega) (by omega)
                  exact this
            · simp only [Bool.not_true, cond_false]
              rw [L56_1_eq, h4', cnF rfl, inc (by omega)]
              unfold joinF
              rw [cond_true, if_neg (by simp)]
              have := l56_0 ok (pl := true) hn hG hs hp hD d (i + 1) out (mxE e ((rec (inn ++ [g0]) p.f0 (v + 1)).deep + 1)) (rec (inn ++ [g0]) p.f0 (v + 1)).v (by omega) ho (by omega) (by omega)
              exact this
theorem prog_step {S : List S43} (ok : OkS S) {pl : Bool} {G : YR D [.v (.st 3), .v (.int .i64)] → Option (YR D [.v (.sl (.sl (.st 0))), .v (.int .i64), .v (.st 3)])} {n : Nat} {inn : List Int} {g v dp : Int} (hi : inn.length ≤ 8) (hg : Vg S g) (hv : 0 ≤ v ∧ v ≤ 4096) (hd : (inn.length : Int) ≤ dp ∧ dp ≤ 1000)
    (hG : (inn ++ [g]).length ≤ 8 → ∀ g' v dp, Vg S g' → 0 ≤ v ∧ v ≤ 4096 → ((inn ++ [g]).length : Int) ≤ dp ∧ dp ≤ 1000 → ∃ st, F56r G (S99.mk S (inn ++ [g]) v dp (!pl)) g' = some ((goF S pl n (inn ++ [g]) g' v).out, ((goF S pl n (inn ++ [g]) g' v).err, st)) ∧
      ((goF S pl n (inn ++ [g]) g' v).err = 0 → st = S99.mk S (inn ++ [g]) (goF S pl n (inn ++ [g]) g' v).v (mxE dp ((inn ++ [g]).length + (goF S pl n (inn ++ [g]) g' v).deep)) (!pl) ∧ Fa 100 v (goF S pl n (inn ++ [g]) g' v))) :
    ∃ st, F56g G (S99.mk S inn v dp (!pl)) g = some ((goF S pl (n + 1) inn g v).out, ((goF S pl (n + 1) inn g v).err, st)) ∧ ((goF S pl (n + 1) inn g v).err = 0 → st = S99.mk S inn (goF S pl (n + 1) inn g v).v (mxE dp (inn.length + (goF S pl (n + 1) inn g v).deep)) (!pl)) := by
  have hg1 := hg.1
  have hg2 := hg.2
  have hs := ok.c _ (rd_mem S z2 g.toNat (by omega))
  have e0 : mxE dp (inn.length + 0) = dp := by have := mxE_le dp ((inn.length : Int) + 0); omega
  rw [F56_eq, goF]
  simp (disch := omega) only [grd_p]
  by_cases h0 : (S.getD g.toNat z2).f1.length = 0
  · rw [if_pos h0, ceT (by omega)]
    exact ⟨_, rfl, fun _ => by show S99.mk S inn v dp (!pl) = S99.mk S inn v (mxE dp (inn.length + 0)) (!pl); rw [e0]⟩
  · rw [if_neg h0, ceF (by omega), fit_p (by simp; omega)]
    have hl : (inn ++ [g]).length = inn.length + 1 := by simp
    have := l56_0 ok (pl := pl) (G := G) (rec := goF S pl n) (inn := inn) (g0 := g) hi hG (ps := (S.getD g.toNat z2).f1) hs.1 hs.2.2 (D0 := dp) hd _ 0 [] 0 v (Nat.add_zero _) ⟨by simp, by simp [pts]⟩ (by omega) hv
    rw [List.drop_zero, Int.natCast_zero, e0] at this
    exact this
theorem prog_go {S : List S43} (ok : OkS S) {pl : Bool} : ∀ (n : Nat) (inn : List Int) (g v dp : Int), inn.length ≤ 8 → 9 ≤ n + inn.length → Vg S g → 0 ≤ v ∧ v ≤ 4096 → (inn.length : Int) ≤ dp ∧ dp ≤ 1000 →
    ∃ st, F56r (Gn D fd56 h56 n) (S99.mk S inn v dp (!pl)) g = some ((goF S pl n inn g v).out, ((goF S pl n inn g v).err, st)) ∧ ((goF S pl n inn g v).err = 0 → st = S99.mk S inn (goF S pl n inn g v).v (mxE dp (inn.length + (goF S pl n inn g v).deep)) (!pl))
  | 0, inn, g, v, dp, hi, hn, hg, hv, hd => by omega
  | n + 1, inn, g, v, dp, hi, hn, hg, hv, hd => by
    have hl : (inn ++ [g]).length = inn.length + 1 := by simp
    rw [F56_n]
    exact prog_step ok (G := Gn D fd56 h56 n) hi hg hv hd fun hl8 g' v dp hg hv hd => by
      obtain ⟨st, h1, h2⟩ := prog_go ok (pl := pl) n (inn ++ [g]) g' v dp hl8 (by omega) hg hv hd
      refine ⟨st, h1, fun h => ⟨h2 h, ?_⟩⟩
      have fa := goF_fa ok n _ g' v hl8 hg hv h
      exact ⟨fa.out, fa.v0, fa.v1, fa.d0, by have := fa.d1; omega⟩
/-! outlines, depths -/
theorem f56 {S : List S43} (ok : OkS S) {pl : Bool} {g : Int} (hg : Vg S g) : ∃ st, F56 (S99.mk S [] 0 0 (!pl)) g = some ((goF S pl 9 [] g 0).out, ((goF S pl 9 [] g 0).err, st)) ∧ ((goF S pl 9 [] g 0).err = 0 → st.f3 = (goF S pl 9 [] g 0).deep) := by
  obtain ⟨st, h1, h2⟩ := prog_go ok (pl := pl) 9 [] g 0 0 (by simp) (by simp) hg (by omega) (by simp)
  refine ⟨st, F56_of 9 _ _ _ h1, fun h => ?_⟩
  rw [h2 h]
  have := (goF_fa ok 9 [] g 0 (by simp) hg (by omega) h).d0
  have := mxE_le 0 (([] : List Int).length + (goF S pl 9 [] g 0).deep)
  simp only [List.length_nil] at this ⊢
  omega
theorem f58 {S : List S43} (ok : OkS S) {pl : Bool} {g : Int} (hg : Vg S g) : ∃ st, F58 (S104.mk S 0 pl) g [] = some ((goF S pl 9 [] g 0).out, ((goF S pl 9 [] g 0).deep, ((goF S pl 9 [] g 0).err, st))) := by
  obtain ⟨st, h1, h2⟩ := ref_go ok (pl := pl) 9 [] g 0 (by simp) (by simp) hg (by omega)
  exact ⟨st, F58_of 9 _ _ _ _ h1⟩
theorem f55 {S : List S43} (hf : Few S) (g : Int) : F55 S g = some (may S && decide (0 ≤ g ∧ g < (S.length : Int))) := by
  rw [F55_eq, f22 hf]
  simp only [Option.bind_some]
  cases may S
  · rfl
  · rw [cond_true, Bool.true_and]
    by_cases h : g ≥ 0
    · rw [cT h]; congr 1; exact decide_eq_decide.mpr (by omega)
    · rw [cF h, decide_eq_false (by omega)]
end Go.Proofs.Ytalghbndblgndaa.Ev
