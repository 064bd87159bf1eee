/- Flat: points moved, contours copied, held against one another; both sides. -/
import Derived.Test.YtalghbndblgndaaEvFlat
namespace Go.Proofs.Ytalghbndblgndaa.Ev
open Go
set_option linter.unusedVariables false
set_option linter.unusedSimpArgs false
/-! a point, moved -/
def fl (n : Int) : Int := (n + 8192) / 16384
theorem f91 {n : Int} (h0 : -9000000000000000000 ≤ n) (h1 : n ≤ 9000000000000000000) : F91 n = some (fl n) := by
  rw [F91_eq, wr64 (by omega) (by omega), show (14 : Int) = ((14 : Nat) : Int) from rfl, shr_e (by decide)]; rfl
theorem f94 {n : Int} (h0 : -9000000000000000000 ≤ n) (h1 : n ≤ 9000000000000000000) : F94 n = some (fl n) := by
  have e1 := Int.tmod_def (n + 8192) 16384
  have e2 : (n + 8192).tmod 16384 < 16384 ∧ -16384 < (n + 8192).tmod 16384 := by
    have h1 := Int.tmod_lt_of_pos (n + 8192) (show (0 : Int) < 16384 by decide)
    have h2 := Int.natAbs_tmod (n + 8192) 16384
    have h3 : (n + 8192).natAbs % (16384 : Int).natAbs < 16384 := Nat.mod_lt _ (by decide)
    omega
  have e3 : 0 ≤ n + 8192 → 0 ≤ (n + 8192).tmod 16384 := fun h => Int.tmod_nonneg _ h
  have e4 : n + 8192 ≤ 0 → (n + 8192).tmod 16384 ≤ 0 := fun h => by
    have := Int.tmod_nonneg (a := -(n + 8192)) 16384 (by omega)
    rw [Int.neg_tmod] at this; omega
  have e5 : wr .i64 ((n + 8192).tdiv 16384) = (n + 8192).tdiv 16384 := wr64 (by omega) (by omega)
  rw [F94_eq, wr64 (n := n + 8192) (by omega) (by omega), e5, wr64 (by omega) (by omega)]
  unfold fl
  by_cases h : (n + 8192).tmod 16384 < 0
  · rw [cT h]; congr 1; omega
  · rw [cF h]; congr 1; omega
theorem f90 (x : Int) : F90 x = some (decide (¬ (-32767 ≤ x ∧ x ≤ 32767))) := by
  rw [F90_eq]
  by_cases h : x > 32767
  · rw [cT h, decide_eq_true (by omega)]
  · rw [cF h]; congr 1; exact decide_eq_decide.mpr (by omega)
theorem f93 (x : Int) : F93 x = some (decide (-32767 ≤ x ∧ x ≤ 32767)) := by
  rw [F93_eq]
  by_cases h : x ≥ -32767
  · rw [cT h]; congr 1; exact decide_eq_decide.mpr (by omega)
  · rw [cF h, decide_eq_false (by omega)]
theorem f92 {x : Int} (h0 : -9000000000000000000 ≤ x) (h1 : x ≤ 9000000000000000000) : F92 x = some (decide (-32767 ≤ x ∧ x ≤ 32767)) := by
  rw [F92_eq, wr64 (by omega) (by omega)]
  congr 1; unfold mxE; exact decide_eq_decide.mpr (by split <;> omega)
/-- What becomes of a point; where that may not be, and why. -/
def mvO (a b : Int) : Int × Int × Int := cond (decide (-32767 ≤ a ∧ a ≤ 32767)) (cond (decide (-32767 ≤ b ∧ b ≤ 32767)) (a, b, 0) (0, 0, 2)) (0, 0, 2)
def mv (p : S47) (x y : Int) : Int × Int × Int := cond (ptM p 1024) (cond (decide (-32767 ≤ x ∧ x ≤ 32767)) (cond (decide (-32767 ≤ y ∧ y ≤ 32767)) (mvO (fl (p.f3 * x + p.f5 * y) + p.f1) (fl (p.f4 * x + p.f6 * y) + p.f2)) (0, 0, 1)) (0, 0, 1)) (0, 0, 1)
theorem ptM_sh {p : S47} {n : Int} (h : ptM p n = true) : (0 ≤ p.f0 ∧ p.f0 < n) ∧ (-32768 ≤ p.f1 ∧ p.f1 ≤ 32767) ∧ (-32768 ≤ p.f2 ∧ p.f2 ≤ 32767) ∧ (-32768 ≤ p.f3 ∧ p.f3 ≤ 32767) ∧ (-32768 ≤ p.f4 ∧ p.f4 ≤ 32767) ∧ (-32768 ≤ p.f5 ∧ p.f5 ≤ 32767) ∧ (-32768 ≤ p.f6 ∧ p.f6 ≤ 32767) := by
  simpa [ptM, sh, and_assoc] using h
theorem mul_sm {a x : Int} (h1 : -32768 ≤ a ∧ a ≤ 32767) (h2 : -32767 ≤ x ∧ x ≤ 32767) : -1073741824 ≤ a * x ∧ a * x ≤ 1073741824 := by
  have := mul_bd (x := a) (y := x) (M := 32768) (N := 32768) (by omega) (by omega) (by omega) (by omega)
  omega
theorem f42 (p : S47) (x y : Int) : F42 p x y = some (mv p x y) := by
  rw [F42_eq, f85]
  unfold mv
  simp only [Option.bind_some]
  cases hp : ptM p 1024
  · rfl
  · obtain ⟨_, q1, q2, q3, q4, q5, q6⟩ := ptM_sh hp
    rw [Bool.not_true, cond_false, cond_true, f90]
    simp only [Option.bind_some]
    by_cases hx : -32767 ≤ x ∧ x ≤ 32767
    · rw [decide_eq_false (fun h => h hx), decide_eq_true hx, cond_false, cond_true, f90]
      simp only [Option.bind_some]
      by_cases hy : -32767 ≤ y ∧ y ≤ 32767
      · rw [decide_eq_false (fun h => h hy), decide_eq_true hy, cond_false, cond_true, L42_0_eq]
        have m1 := mul_sm q3 hx
        have m2 := mul_sm q5 hy
        have m3 := mul_sm q4 hx
        have m4 := mul_sm q6 hy
        rw [wr64 (n := p.f3 * x) (by omega) (by omega), wr64 (n := p.f5 * y) (by omega) (by omega), wr64 (n := p.f4 * x) (by omega) (by omega), wr64 (n := p.f6 * y) (by omega) (by omega), wr64 (n := p.f3 * x + p.f5 * y) (by omega) (by omega), wr64 (n := p.f4 * x + p.f6 * y) (by omega) (by omega), f91 (by omega) (by omega), f91 (by omega) (by omega)]
        have b1 : -200000 ≤ fl (p.f3 * x + p.f5 * y) ∧ fl (p.f3 * x + p.f5 * y) ≤ 200000 := by unfold fl; omega
        have b2 : -200000 ≤ fl (p.f4 * x + p.f6 * y) ∧ fl (p.f4 * x + p.f6 * y) ≤ 200000 := by unfold fl; omega
        simp only [Option.bind_some]
        generalize fl (p.f3 * x + p.f5 * y) = a at *
        generalize fl (p.f4 * x + p.f6 * y) = b at *
        rw [wr64 (n := a + p.f1) (by omega) (by omega), wr64 (n := b + p.f2) (by omega) (by omega), f92 (by omega) (by omega), f92 (by omega) (by omega)]
        simp only [Option.bind_some]
        unfold mvO
        cases decide (-32767 ≤ a + p.f1 ∧ a + p.f1 ≤ 32767) <;> cases decide (-32767 ≤ b + p.f2 ∧ b + p.f2 ≤ 32767) <;> rfl
      · rw [decide_eq_true hy, decide_eq_false hy]; rfl
    · rw [decide_eq_true hx, decide_eq_false hx]; rfl
theorem f43 (p : S47) (x y : Int) : F43 p x y = some (mv p x y) := by
  rw [F43_eq, f86]
  unfold mv
  simp only [Option.bind_some]
  cases hp : ptM p 1024
  · rfl
  · obtain ⟨_, q1, q2, q3, q4, q5, q6⟩ := ptM_sh hp
    rw [Bool.not_true, cond_false, cond_true, f93]
    simp only [Option.bind_some]
    by_cases hx : -32767 ≤ x ∧ x ≤ 32767
    · rw [decide_eq_true hx, Bool.not_true, cond_false, cond_true, f93]
      simp only [Option.bind_some]
      by_cases hy : -32767 ≤ y ∧ y ≤ 32767
      · rw [decide_eq_true hy, Bool.not_true, cond_false, cond_true, L43_0_eq]
        have m1 := mul_sm q3 hx
        have m2 := mul_sm q5 hy
        have m3 := mul_sm q4 hx
        have m4 := mul_sm q6 hy
        rw [wr64 (n := p.f3 * x) (by omega) (by omega), wr64 (n := p.f5 * y) (by omega) (by omega), wr64 (n := p.f4 * x) (by omega) (by omega), wr64 (n := p.f6 * y) (by omega) (by omega), wr64 (n := p.f3 * x + p.f5 * y) (by omega) (by omega), wr64 (n := p.f4 * x + p.f6 * y) (by omega) (by omega), f94 (by omega) (by omega), f94 (by omega) (by omega)]
        have b1 : -200000 ≤ fl (p.f3 * x + p.f5 * y) ∧ fl (p.f3 * x + p.f5 * y) ≤ 200000 := by unfold fl; omega
        have b2 : -200000 ≤ fl (p.f4 * x + p.f6 * y) ∧ fl (p.f4 * x + p.f6 * y) ≤ 200000 := by unfold fl; omega
        simp only [Option.bind_some]
        generalize fl (p.f3 * x + p.f5 * y) = a at *
        generalize fl (p.f4 * x + p.f6 * y) = b at *
        rw [wr64 (n := a + p.f1) (by omega) (by omega), wr64 (n := b + p.f2) (by omega) (by omega), f93, f93]
        simp only [Option.bind_some]
        unfold mvO
        cases decide (-32767 ≤ a + p.f1 ∧ a + p.f1 ≤ 32767) <;> cases decide (-32767 ≤ b + p.f2 ∧ b + p.f2 ≤ 32767) <;> rfl
      · rw [decide_eq_false hy]; rfl
    · rw [decide_eq_false hx]; rfl
/-! contours, moved -/
def mvC (p : S47) : List S39 → Option (List S39)
  | [] => some []
  | q :: c => cond ((mv p q.f0 q.f1).2.2 != 0) none ((mvC p c).map fun c => ⟨(mv p q.f0 q.f1).1, (mv p q.f0 q.f1).2.1, q.f2⟩ :: c)
def mvL (p : S47) : CS → Option CS
  | [] => some []
  | c :: l => match mvC p c with
    | none => none
    | some c => (mvL p l).map fun l => c :: l
def pts : CS → Nat
  | [] => 0
  | c :: l => c.length + pts l
theorem pts_app : ∀ (a b : CS), pts (a ++ b) = pts a + pts b
  | [], b => by simp [pts]
  | c :: a, b => by simp only [List.cons_append, pts, pts_app a b]; omega
theorem mvC_len {p : S47} : ∀ {c d : List S39}, mvC p c = some d → d.length = c.length
  | [], d, h => by obtain rfl := Option.some.inj h; rfl
  | q :: c, d, h => by
    rw [mvC] at h
    cases hb : ((mv p q.f0 q.f1).2.2 != 0)
    · rw [hb, cond_false] at h
      obtain ⟨e, h1, rfl⟩ := Option.map_eq_some_iff.mp h
      simp [mvC_len h1]
    · rw [hb] at h; cases h
theorem mvL_len {p : S47} : ∀ {l m : CS}, mvL p l = some m → m.length = l.length ∧ pts m = pts l
  | [], m, h => by obtain rfl := Option.some.inj h; exact ⟨rfl, rfl⟩
  | c :: l, m, h => by
    rw [mvL] at h
    split at h
    · cases h
    · rename_i d hd
      obtain ⟨e, h1, rfl⟩ := Option.map_eq_some_iff.mp h
      obtain ⟨g1, g2⟩ := mvL_len h1
      exact ⟨by simp [g1], by simp only [pts, g2, mvC_len hd]⟩
structure OkC (l : CS) : Prop where
  n : l.length ≤ 256
  p : pts l ≤ 4096
theorem pts_mem : ∀ {l : CS} {c : List S39}, c ∈ l → c.length ≤ pts l
  | c' :: l, c, h => by
    simp only [pts]
    rcases List.mem_cons.mp h with rfl | h
    · omega
    · have := pts_mem h; omega
theorem l113_1 {l : CS} (ok : OkC l) {p : S47} {out : CS} (ho : out.length ≤ 256) {i : Nat} (hi : i < l.length) : ∀ (d k : Nat) (acc : List S39), d + k = (l.getD i []).length → acc.length = k →
    L113_1 l p out (i : Int) acc (k : Int) = match mvC p ((l.getD i []).drop k) with | none => some ([], 2) | some c => L113_0 l p (out ++ [acc ++ c]) ((i + 1 : Nat) : Int)
  | 0, k, acc, h, ha => by
    have := ok.n
    have hm := pts_mem (rd_mem l [] i hi)
    have := ok.p
    rw [L113_1_eq, Int.toNat_natCast, Int.toNat_natCast, drop_nil (by omega), mvC]
    simp (disch := omega) only [cF, grd_p, inc, List.append_nil]
    rw [fit_p (by simp; omega)]
  | d + 1, k, acc, h, ha => by
    have := ok.n
    have hm := pts_mem (rd_mem l [] i hi)
    have := ok.p
    rw [L113_1_eq, Int.toNat_natCast, Int.toNat_natCast, drop_rd _ z0 k (by omega), mvC]
    simp (disch := omega) only [cT, grd_p, inc, f43, Option.bind_some]
    cases hb : ((mv p ((l.getD i []).getD k z0).f0 ((l.getD i []).getD k z0).f1).2.2 != 0)
    · rw [cond_false, cond_false, fit_p (by simp; omega), l113_1 ok ho hi d (k + 1) _ (by omega) (by simp [ha])]
      cases mvC p ((l.getD i []).drop (k + 1)) with
      | none => rfl
      | some c => simp [List.append_assoc]
    · rfl
theorem l113_0 {l : CS} (ok : OkC l) {p : S47} : ∀ (d i : Nat) (out : CS), d + i = l.length → out.length = i → L113_0 l p out (i : Int) = match mvL p (l.drop i) with | none => some ([], 2) | some m => some (out ++ m, 0)
  | 0, i, out, h, ho => by rw [L113_0_eq, cF (by omega), drop_nil (by omega), mvL]; simp
  | d + 1, i, out, h, ho => by
    have := ok.n
    have h1 := l113_1 ok (p := p) (out := out) (by omega) (i := i) (by omega) (l.getD i []).length 0 [] (by omega) rfl
    rw [Int.natCast_zero, List.drop_zero] at h1
    rw [L113_0_eq, cT (by omega), h1, drop_rd l [] i (by omega), mvL]
    cases mvC p (l.getD i []) with
    | none => rfl
    | some c =>
      simp only [List.nil_append]
      rw [l113_0 ok d (i + 1) _ (by omega) (by simp [ho])]
      cases mvL p (l.drop (i + 1)) with
      | none => rfl
      | some m => simp [List.append_assoc]
theorem f113 {l : CS} (ok : OkC l) (p : S47) : F113 p l = match mvL p l with | none => some ([], 2) | some m => some (m, 0) := by
  have := l113_0 ok (p := p) l.length 0 [] (by omega) rfl
  rw [Int.natCast_zero, List.drop_zero] at this
  rw [F113_eq, this]
  cases mvL p l with
  | none => rfl
  | some m => rfl
/-! likewise, the program's: into a row that is made first -/
theorem set_mid {α : Type} (a : List α) (x y : α) (b : List α) : (a ++ x :: b).set a.length y = a ++ y :: b := by
  simp
theorem l111_1 {l : CS} (ok : OkC l) {p : S47} {out : CS} {n : Int} (hn : 0 ≤ n ∧ n ≤ 100000) (ho : out.length ≤ 1000) {i : Nat} (hi : i < l.length) : ∀ (d k : Nat) (acc : List S39), d + k = (l.getD i []).length → acc.length = k →
    L111_1 (S180.mk out n) p (acc ++ List.replicate d (S39.mk 0 0 false)) l (l.length : Int) (i : Int) (l.getD i []) ((l.getD i []).length : Int) (k : Int) = match mvC p ((l.getD i []).drop k) with | none => some (2, S180.mk out n) | some c => L111_0 (S180.mk (out ++ [acc ++ c]) (n + ((l.getD i []).length : Int))) p l (l.length : Int) ((i + 1 : Nat) : Int)
  | 0, k, acc, h, ha => by
    have := ok.n
    have hm := pts_mem (rd_mem l [] i hi)
    have := ok.p
    rw [L111_1_eq, drop_nil (by omega), mvC]
    simp (disch := omega) only [cF, grd_p, inc, List.append_nil, List.replicate_zero]
    rw [fit_p (by simp; omega), wr64 (by omega) (by omega), show acc.length = (l.getD i []).length by omega]
  | d + 1, k, acc, h, ha => by
    have := ok.n
    have hm := pts_mem (rd_mem l [] i hi)
    have := ok.p
    have hl : (acc ++ List.replicate (d + 1) (S39.mk 0 0 false)).length = (l.getD i []).length := by rw [List.length_append, List.length_replicate]; omega
    rw [L111_1_eq, Int.toNat_natCast, hl, drop_rd _ z0 k (by omega), mvC]
    simp (disch := omega) only [cT, grd_p, inc, f42, Option.bind_some]
    cases hb : ((mv p ((l.getD i []).getD k z0).f0 ((l.getD i []).getD k z0).f1).2.2 != 0)
    · rw [cond_false, cond_false, List.replicate_succ, ← ha, set_mid, ha]
      have ih := l111_1 ok (p := p) (out := out) hn ho hi d (k + 1) (acc ++ [S39.mk (mv p ((l.getD i []).getD k z0).f0 ((l.getD i []).getD k z0).f1).1 (mv p ((l.getD i []).getD k z0).f0 ((l.getD i []).getD k z0).f1).2.1 ((l.getD i []).getD k z0).f2]) (by omega) (by simp [ha])
      rw [List.append_assoc] at ih
      rw [show ∀ x : S39, acc ++ x :: List.replicate d (S39.mk 0 0 false) = acc ++ ([x] ++ List.replicate d (S39.mk 0 0 false)) from fun _ => rfl, ih]
      cases mvC p ((l.getD i []).drop (k + 1)) with
      | none => rfl
      | some c => simp [List.append_assoc]
    · rfl
/-- What is gathered, with contours beside it; too many? -/
def addE (out : CS) (n : Int) : Int := cond (decide ((out.length : Int) > 256)) 6 (cond (decide (n > 4096)) 6 0)
theorem l111_0 {l : CS} (ok : OkC l) {p : S47} : ∀ (d i : Nat) (out : CS) (n : Int), d + i = l.length → 0 ≤ n ∧ n ≤ 10000 + pts (l.take i) → out.length ≤ 500 + i → ∃ o : CS, ∃ q : Int, L111_0 (S180.mk out n) p l (l.length : Int) (i : Int) = match mvL p (l.drop i) with | none => some (2, S180.mk o q) | some m => some (addE (out ++ m) (n + pts m), S180.mk (out ++ m) (n + pts m))
  | 0, i, out, n, h, hn, ho => ⟨out, n, by
    rw [L111_0_eq, cF (by omega), drop_nil (by omega), mvL]
    simp only [List.append_nil, pts, Int.natCast_zero, Int.add_zero]
    unfold addE
    cases decide ((out.length : Int) > 256) <;> cases decide (n > 4096) <;> rfl⟩
  | d + 1, i, out, n, h, hn, ho => by
    have := ok.n
    have hm := pts_mem (rd_mem l [] i (by omega))
    have hp := ok.p
    have htk : pts (l.take (i + 1)) = pts (l.take i) + (l.getD i []).length := by
      rw [List.take_add_one, pts_app]
      have : l[i]? = some (l.getD i []) := by simp [List.getD, show i < l.length by omega]
      rw [this]; simp [pts]
    have hle : pts (l.take i) ≤ pts l := by
      have := pts_app (l.take i) (l.drop i); rw [List.take_append_drop] at this; omega
    have h1 := l111_1 ok (p := p) (out := out) (n := n) (by omega) (by omega) (i := i) (by omega) (l.getD i []).length 0 [] (by omega) rfl
    rw [Int.natCast_zero, List.drop_zero, List.nil_append] at h1
    rw [L111_0_eq, Int.toNat_natCast, Int.toNat_natCast, drop_rd l [] i (by omega), mvL]
    simp (disch := omega) only [cT, grd_p]
    rw [fitM_p (by omega), h1]
    cases hc : mvC p (l.getD i []) with
    | none => exact ⟨out, n, rfl⟩
    | some c =>
      have hcl := mvC_len hc
      simp only [List.nil_append]
      obtain ⟨o, q, ih⟩ := l111_0 ok (p := p) d (i + 1) (out ++ [c]) (n + ((l.getD i []).length : Int)) (by omega) (by omega) (by simp; omega)
      refine ⟨o, q, ?_⟩
      rw [ih]
      cases mvL p (l.drop (i + 1)) with
      | none => rfl
      | some m => simp only [Option.map_some, List.append_assoc, List.cons_append, List.nil_append, pts, hcl]; rw [show n + ((l.getD i []).length : Int) + (pts m : Int) = n + (((l.getD i []).length + pts m : Nat) : Int) by omega]
theorem f111 {l : CS} (ok : OkC l) {p : S47} {out : CS} (oo : OkC out) : ∃ o : CS, ∃ q : Int, F111 (S180.mk out (pts out)) p l = match mvL p l with | none => some (2, S180.mk o q) | some m => some (addE (out ++ m) (pts (out ++ m)), S180.mk (out ++ m) (pts (out ++ m))) := by
  have := oo.p
  have := oo.n
  obtain ⟨o, q, h⟩ := l111_0 ok (p := p) l.length 0 out (pts out) (by omega) (by omega) (by omega)
  rw [Int.natCast_zero, List.drop_zero] at h
  refine ⟨o, q, ?_⟩
  rw [F111_eq, h]
  cases mvL p l with
  | none => rfl
  | some m => simp only [pts_app]; rw [show (pts out : Int) + (pts m : Int) = ((pts out + pts m : Nat) : Int) by omega]
theorem l114 : ∀ {l : CS} (d i n : Nat), l.length ≤ 1000 → n + pts (l.drop i) ≤ 100000 → d + i = l.length → L114_0 l (n : Int) (i : Int) = some ((n + pts (l.drop i) : Nat) : Int)
  | l, 0, i, n, hl, hn, h => by rw [L114_0_eq, cF (by omega), drop_nil (by omega)]; rfl
  | l, d + 1, i, n, hl, hn, h => by
    rw [drop_rd l [] i (by omega)] at hn ⊢
    simp only [pts] at hn ⊢
    rw [L114_0_eq, Int.toNat_natCast]
    simp (disch := omega) only [cT, grd_p, inc]
    rw [wr64 (by omega) (by omega), show (n : Int) + ((l.getD i []).length : Int) = ((n + (l.getD i []).length : Nat) : Int) by omega, l114 d (i + 1) _ hl (by omega) (by omega)]
    congr 2; omega
theorem f114 {l : CS} (hl : l.length ≤ 1000) (hp : pts l ≤ 50000) : F114 l = some (pts l : Int) := by
  have := l114 (l := l) l.length 0 0 hl (by rw [List.drop_zero]; omega) (by omega)
  rw [Int.natCast_zero, List.drop_zero, Nat.zero_add] at this
  rw [F114_eq, this]
/-! copies; the same? -/
theorem l57 {l : CS} (ok : OkC l) : ∀ (d i : Nat), d + i = l.length → L57_0 (l.take i) l (l.length : Int) (i : Int) = some l
  | 0, i, h => by rw [L57_0_eq, cF (by omega), List.take_of_length_le (by omega)]
  | d + 1, i, h => by
    have := ok.n
    have hm := pts_mem (rd_mem l [] i (by omega))
    have hp := ok.p
    rw [L57_0_eq, Int.toNat_natCast]
    simp (disch := omega) only [cT, grd_p, inc]
    rw [F112_eq, fit_p (by omega)]
    simp only [Option.bind_some]
    rw [fit_p (by simp; omega)]
    have e : l.take i ++ [l.getD i []] = l.take (i + 1) := by
      rw [List.take_add_one]
      have : l[i]? = some (l.getD i []) := by simp [List.getD, show i < l.length by omega]
      rw [this]; rfl
    rw [e]
    exact l57 ok d (i + 1) (by omega)
theorem f57 {l : CS} (ok : OkC l) : F57 l = some l := by
  have := l57 ok l.length 0 (by omega)
  rw [Int.natCast_zero, List.take_zero] at this
  rw [F57_eq, this]
theorem l21_1 {l : CS} (ok : OkC l) {i : Nat} (hi : i < l.length) : ∀ (d k : Nat), d + k = (l.getD i []).length → L21_1 l l (i : Int) (k : Int) = L21_0 l l ((i + 1 : Nat) : Int)
  | 0, k, h => by
    have := ok.n
    rw [L21_1_eq, Int.toNat_natCast]
    simp (disch := omega) only [cF, grd_p, inc]
  | d + 1, k, h => by
    have := ok.n
    have hm := pts_mem (rd_mem l [] i hi)
    have := ok.p
    rw [L21_1_eq, Int.toNat_natCast, Int.toNat_natCast]
    simp (disch := omega) only [cT, grd_p, inc, beq_self_eq_true, Bool.and_self, Bool.not_true, cond_false]
    exact l21_1 ok hi d (k + 1) (by omega)
theorem l21_0 {l : CS} (ok : OkC l) : ∀ (d i : Nat), d + i = l.length → L21_0 l l (i : Int) = some true
  | 0, i, h => by rw [L21_0_eq, cF (by omega)]
  | d + 1, i, h => by
    have h1 := l21_1 ok (i := i) (by omega) (l.getD i []).length 0 (by omega)
    rw [Int.natCast_zero] at h1
    rw [L21_0_eq, Int.toNat_natCast]
    simp (disch := omega) only [cT, grd_p, bne_self_eq_false, cond_false]
    rw [h1]
    exact l21_0 ok d (i + 1) (by omega)
theorem f21 {l : CS} (ok : OkC l) : F21 l l = some true := by
  have := l21_0 ok l.length 0 (by omega)
  rw [Int.natCast_zero] at this
  rw [F21_eq, bne_self_eq_false, cond_false, this]
end Go.Proofs.Ytalghbndblgndaa.Ev
