/- Polynomials by their values: sums, differences, products, derivatives; both sides. -/
import Derived.Test.YtkpjeihgigmnkaaEvPolyA
namespace Go.Proofs.Ytkpjeihgigmnkaa.EvP
open Go Go.Proofs.Ytkpjeihgigmnkaa.Ev Go.Proofs.Ytkpjeihgigmnkaa.NumB
set_option linter.unusedVariables false
set_option linter.unusedSimpArgs false
/-! plain lists -/
def coef (L : List Int) (i : Nat) : Int := L.getD i 0
def cof (L : List Int) (i : Int) : Int := if 0 ≤ i then coef L i.toNat else 0
theorem coef_ge {L : List Int} {i : Nat} (h : L.length ≤ i) : coef L i = 0 := by
  unfold coef; rw [List.getD_eq_getElem?_getD, List.getElem?_eq_none h]; rfl
theorem cof_nat (L : List Int) (i : Nat) : cof L (i : Int) = coef L i := by unfold cof; rw [if_pos (by omega), Int.toNat_natCast]
theorem cof_neg {L : List Int} {i : Int} (h : i < 0) : cof L i = 0 := by unfold cof; rw [if_neg (by omega)]
theorem coef_cons (x : Int) (l : List Int) (i : Nat) : coef (x :: l) (i + 1) = coef l i := by simp [coef]
theorem coef_0 (x : Int) (l : List Int) : coef (x :: l) 0 = x := rfl
def tz : List Int → List Int
  | [] => []
  | x :: l => if tz l = [] ∧ x = 0 then [] else x :: tz l
theorem coef_tz : ∀ (L : List Int) (i : Nat), coef (tz L) i = coef L i
  | [], i => rfl
  | x :: l, i => by
    rw [tz]
    by_cases c : tz l = [] ∧ x = 0
    · rw [if_pos c]
      rcases i with _ | i
      · rw [coef_0, c.2]; rfl
      · rw [coef_cons, ← coef_tz l i, c.1]; rfl
    · rw [if_neg c]
      rcases i with _ | i
      · rfl
      · rw [coef_cons, coef_cons, coef_tz l i]
theorem cof_tz (L : List Int) (i : Int) : cof (tz L) i = cof L i := by unfold cof; rw [coef_tz]
theorem tz_len : ∀ L : List Int, (tz L).length ≤ L.length
  | [] => Nat.le_refl _
  | x :: l => by
    have := tz_len l
    rw [tz]; split <;> simp <;> omega
theorem tz_ext : ∀ {L M : List Int}, (∀ i, coef L i = coef M i) → tz L = tz M
  | [], [], _ => rfl
  | [], y :: m, h => by
    have h0 : y = 0 := (h 0).symm
    have := tz_ext (L := []) (M := m) fun i => by have := h (i + 1); rw [coef_cons] at this; rw [← this]; simp [coef]
    have e : tz m = [] := this.symm
    show [] = tz (y :: m)
    rw [tz, e]; simp [h0]
  | x :: l, [], h => by
    have h0 : x = 0 := h 0
    have := tz_ext (L := l) (M := []) fun i => by have := h (i + 1); rw [coef_cons] at this; rw [this]; simp [coef]
    have e : tz l = [] := this
    show tz (x :: l) = []
    rw [tz, e]; simp [h0]
  | x :: l, y :: m, h => by
    have h0 : x = y := h 0
    have := tz_ext (L := l) (M := m) fun i => by have := h (i + 1); rwa [coef_cons, coef_cons] at this
    rw [tz, tz, this, h0]
theorem tz_nil {L : List Int} (h : ∀ i, coef L i = 0) : tz L = [] := tz_ext (M := []) fun i => by rw [h]; simp [coef]
theorem tz_tz (L : List Int) : tz (tz L) = tz L := tz_ext (coef_tz L)
theorem tz_pre : ∀ L : List Int, L.take (tz L).length = tz L
  | [] => rfl
  | x :: l => by
    rw [tz]
    split
    · simp
    · simp [tz_pre l]
theorem tz_mem {L : List Int} {x : Int} (h : x ∈ tz L) : x ∈ L := by rw [← tz_pre] at h; exact List.mem_of_mem_take h
theorem tz_last : ∀ {L : List Int}, tz L ≠ [] → coef L ((tz L).length - 1) ≠ 0
  | [], h => absurd rfl h
  | x :: l, h => by
    rw [tz] at h ⊢
    by_cases c : tz l = [] ∧ x = 0
    · rw [if_pos c] at h; exact absurd rfl h
    · rw [if_neg c]
      by_cases k : tz l = []
      · rw [k]; exact fun q => c ⟨k, q⟩
      · have := tz_last k
        have hl : (tz l).length ≠ 0 := fun q => k (List.eq_nil_of_length_eq_zero q)
        rw [List.length_cons, show (tz l).length + 1 - 1 = ((tz l).length - 1) + 1 by omega, coef_cons]
        exact this
theorem tz_take : ∀ {L : List Int} {n : Nat}, n ≤ L.length → (∀ j, n ≤ j → coef L j = 0) → (n = 0 ∨ coef L (n - 1) ≠ 0) → L.take n = tz L
  | L, 0, _, hz, _ => by rw [tz_nil fun i => hz i (by omega)]; simp
  | [], n + 1, hn, _, _ => by simp at hn
  | x :: l, n + 1, hn, hz, hl => by
    have hx : coef (x :: l) n ≠ 0 := by rcases hl with q | q; omega; exact q
    have hz' : ∀ j, n ≤ j → coef l j = 0 := fun j hj => by have := hz (j + 1) (by omega); rwa [coef_cons] at this
    have ih := tz_take (L := l) (n := n) (by simpa using hn) hz' (by
      rcases n with _ | n
      · exact .inl rfl
      · exact .inr (by rw [coef_cons] at hx; exact hx))
    rw [List.take_succ_cons, ih, tz, if_neg]
    rintro ⟨h1, h2⟩
    rcases n with _ | n
    · exact hx h2
    · rw [coef_cons, ← coef_tz, h1] at hx; exact hx rfl
theorem tz_take_len {L : List Int} {n : Nat} (h : n ≤ L.length) (hz : ∀ j, n ≤ j → coef L j = 0) (hl : n = 0 ∨ coef L (n - 1) ≠ 0) : (tz L).length = n := by
  rw [← tz_take h hz hl, List.length_take]; omega
/-- By a rule, without zeros at the end. -/
def pol (n : Nat) (f : Nat → Int) : List Int := tz ((List.range n).map f)
theorem coef_range (n : Nat) (f : Nat → Int) (i : Nat) : coef ((List.range n).map f) i = if i < n then f i else 0 := by
  unfold coef
  by_cases h : i < n <;> simp [List.getD, h]
theorem pol_ext {n m : Nat} {f g : Nat → Int} (h : ∀ i, (if i < n then f i else 0) = (if i < m then g i else 0)) : pol n f = pol m g := tz_ext fun i => by rw [coef_range, coef_range, h]
theorem coef_pol (n : Nat) (f : Nat → Int) (i : Nat) : coef (pol n f) i = if i < n then f i else 0 := by unfold pol; rw [coef_tz, coef_range]
theorem tz_pol (n : Nat) (f : Nat → Int) : tz (pol n f) = pol n f := tz_tz _
def Szs (n : Nat) (L : List Int) : Prop := ∀ x ∈ L, Sz n x
theorem Szs.rd {n : Nat} {L : List Int} (h : Szs n L) (i : Nat) : Sz n (coef L i) := by
  unfold coef
  by_cases c : i < L.length
  · have : L.getD i 0 = L[i] := by simp [c]
    rw [this]; exact h _ (List.getElem_mem _)
  · have : L.getD i 0 = 0 := by simp [List.getD, List.getElem?_eq_none (show L.length ≤ i by omega)]
    rw [this]; exact sz_zero n
theorem Szs.cof {n : Nat} {L : List Int} (h : Szs n L) (i : Int) : Sz n (cof L i) := by
  unfold EvP.cof; split
  · exact h.rd _
  · exact sz_zero n
theorem Szs.tz {n : Nat} {L : List Int} (h : Szs n L) : Szs n (tz L) := fun x hx => h x (tz_mem hx)
theorem Szs.le {m n : Nat} {L : List Int} (h : Szs m L) (hn : m ≤ n) : Szs n L := fun x hx => (h x hx).le hn
theorem Szs.range {n e : Nat} {f : Nat → Int} (h : ∀ i, i < n → Sz e (f i)) : Szs e ((List.range n).map f) := fun x hx => by
  obtain ⟨i, hi, rfl⟩ := List.mem_map.1 hx
  exact h i (List.mem_range.1 hi)
theorem map_rd {α : Type} (f : Int → α) (z : α) (hz : f 0 = z) (L : List Int) (i : Nat) : (L.map f).getD i z = f (coef L i) := by
  unfold coef
  by_cases h : i < L.length
  · simp [List.getD, h]
  · simp [List.getD, List.getElem?_eq_none (show L.length ≤ i by omega), hz]
theorem z2_is : z5 = (⟨false, []⟩ : S73) := rfl
/-! loops -/
theorem loop_st {α R : Type} (L : α → Int → R) (s : Nat → α) (n : Nat) (step : ∀ i, i < n → L (s i) (i : Int) = L (s (i + 1)) ((i + 1 : Nat) : Int)) : L (s 0) 0 = L (s n) (n : Int) := by
  have : ∀ k, k ≤ n → L (s 0) 0 = L (s k) (k : Int) := by
    intro k
    induction k with
    | zero => intro _; rfl
    | succ k ih => intro hk; rw [ih (by omega), step k (by omega)]
  exact this n (Nat.le_refl n)
theorem loop_app {α R : Type} (L : List α → Int → R) (g : Nat → α) (n : Nat) (step : ∀ i out, i < n → out.length = i → L out (i : Int) = L (out ++ [g i]) ((i + 1 : Nat) : Int)) : L [] 0 = L ((List.range n).map g) (n : Int) := by
  refine loop_st L (fun k => (List.range k).map g) n fun i hi => ?_
  show L ((List.range i).map g) (i : Int) = L ((List.range (i + 1)).map g) ((i + 1 : Nat) : Int)
  rw [step i _ hi (by simp), List.range_succ, List.map_append]
  rfl
theorem map_rb (n : Nat) (f : Nat → Int) : (List.range n).map (fun i => rb (f i)) = ((List.range n).map f).map rb := by rw [List.map_map]; rfl
theorem dec1 {n : Nat} (h : n ≤ 10000000) : wr .i64 (((n + 1 : Nat) : Int) - 1) = (n : Int) := (w64 (by omega) (by omega)).trans (by omega)
/-! without zeros at the end -/
theorem rptrim_l {L : List Int} (hl : L.length ≤ 1000000) : ∀ n : Nat, n ≤ L.length → (∀ j, n ≤ j → coef L j = 0) → L41_0 (L.map rb) (n : Int) = some ((tz L).map rb)
  | 0, hn, hz => by
    rw [L41_0_eq, cF (by omega), grd_p (by omega), grd_p (by omega), Int.toNat_natCast, tz_nil fun i => hz i (by omega)]; rfl
  | n + 1, hn, hz => by
    rw [L41_0_eq, cT (by omega), dec1 (by omega), grd_p (by omega), grd_p (by rw [List.length_map]; omega), Int.toNat_natCast, map_rd rb z5 rb_zero, bnd (rsign_f _), grd_p (by omega), grd_p (by rw [List.length_map]; omega), Int.toNat_natCast, sgn_zero]
    by_cases c : coef L n = 0
    · rw [show (coef L n == 0) = true by simpa using c, cond_true]
      refine rptrim_l hl n (by omega) fun j hj => ?_
      rcases Nat.eq_or_lt_of_le hj with q | q
      · rw [← q]; exact c
      · exact hz j q
    · rw [show (coef L n == 0) = false by simpa using c, cond_false, ← tz_take (L := L) (n := n + 1) hn hz (.inr c), List.map_take]
theorem rptrim_s {L : List Int} (hl : L.length ≤ 1000000) : F41 (L.map rb) = some ((tz L).map rb) := by
  rw [F41_eq, List.length_map]
  exact rptrim_l hl L.length (Nat.le_refl _) fun j hj => coef_ge hj
/-! a coefficient -/
theorem rat_f (L : List Int) (i : Int) : F68 (L.map rb) i = some (rb (cof L i)) := by
  rw [F68_eq, List.length_map]; unfold cof
  by_cases h0 : i ≥ 0
  · rw [cT h0, if_pos h0]
    by_cases h1 : i < (L.length : Int)
    · rw [cT h1, grd_p h0, grd_p h1, map_rd rb z5 rb_zero]
    · rw [cF h1, coef_ge (by omega), rb_zero]
  · rw [cF h0, if_neg h0, rb_zero]
/-! from numbers -/
/-! the same -/
/-! sums -/
def padd (L M : List Int) : List Int := pol (max L.length M.length) fun i => coef L i + coef M i
def psub (L M : List Int) : List Int := pol (max L.length M.length) fun i => coef L i - coef M i
theorem mx_e (m n : Nat) : mxE (m : Int) (n : Int) = ((max m n : Nat) : Int) := by unfold mxE; split <;> omega
end Go.Proofs.Ytkpjeihgigmnkaa.EvP
