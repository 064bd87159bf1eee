/- Bytes as lists of numbers: texts, numbers of several bytes. No function is named. -/
import Derived.Test.YtkpjeihgigmnkaaEvM
namespace Go.Proofs.Ytkpjeihgigmnkaa.Ev
open Go
set_option linter.unusedVariables false
set_option linter.unusedSimpArgs false
theorem by_len (s : ByteArray) : (strBytes s).length = s.size := by unfold strBytes ByteArray.size; rw [List.length_map, Array.length_toList]
theorem by_rng (s : ByteArray) : ∀ b ∈ strBytes s, 0 ≤ b ∧ b < 256 := fun b hb => by
  obtain ⟨u, _, rfl⟩ := List.mem_map.mp hb
  have := u.toNat_lt
  omega
theorem by_at (s : ByteArray) (i : Nat) : btE s i = (strBytes s).getD i 0 := by
  simp only [btE, strBytes, List.getD_eq_getElem?_getD, List.getElem?_map]
  cases s.data.toList[i]? <;> rfl
theorem by_ext (s : ByteArray) (a b : Nat) : strBytes (s.extract a b) = ((strBytes s).drop a).take (b - a) := by
  simp only [strBytes, ByteArray.data_extract, Array.toList_extract, List.extract_eq_take_drop, List.map_take, List.map_drop]
theorem by_app (s t : ByteArray) : strBytes (s ++ t) = strBytes s ++ strBytes t := by
  simp [strBytes, ByteArray.data_append]
theorem by_of {l : List Int} (h : ∀ b ∈ l, 0 ≤ b ∧ b < 256) : strBytes (ofBytes l) = l := by
  induction l with
  | nil => rfl
  | cons x l ih =>
    have h1 := h x List.mem_cons_self
    have := ih fun b hb => h b (List.mem_cons_of_mem _ hb)
    simp only [strBytes, ofBytes, List.map_cons, List.map_map] at this ⊢
    rw [this]
    congr 1
    rw [UInt8.toNat_ofNat']
    omega
theorem by_inj {s t : ByteArray} (h : strBytes s = strBytes t) : s = t := by
  refine ByteArray.ext (Array.ext' ?_)
  have inj : ∀ (a b : List UInt8), a.map (fun b => (b.toNat : Int)) = b.map (fun b => (b.toNat : Int)) → a = b := by
    intro a
    induction a with
    | nil => intro b h; cases b with | nil => rfl | cons y b => simp at h
    | cons x a ih =>
      intro b h
      cases b with
      | nil => simp at h
      | cons y b =>
        simp only [List.map_cons, List.cons.injEq] at h
        rw [ih b h.2, UInt8.toNat_inj.mp (Int.ofNat.inj h.1)]
  exact inj _ _ h
theorem by_empty : strBytes ByteArray.empty = [] := rfl
theorem by_nil {s : ByteArray} (h : strBytes s = []) : s = ByteArray.empty := by_inj h
theorem by_eq (s t : ByteArray) : (s.toList == t.toList) = decide (strBytes s = strBytes t) := by
  rw [ByteArray.toList_eq, ByteArray.toList_eq]
  by_cases h : strBytes s = strBytes t
  · rw [decide_eq_true h, by_inj h, beq_self_eq_true]
  · rw [decide_eq_false h, beq_eq_false_iff_ne]
    intro e
    exact h (by unfold strBytes; rw [e])
theorem by_size (s : ByteArray) : (s.size : Int) = ((strBytes s).length : Int) := by rw [by_len]
/-- A number, the highest byte first. -/
def be (l : List Int) : Int := l.foldl (fun n b => n * 256 + b) 0
theorem be_snoc (l : List Int) (b : Int) : be (l ++ [b]) = be l * 256 + b := by simp [be]
def Byt (l : List Int) : Prop := ∀ b ∈ l, 0 ≤ b ∧ b < 256
theorem Byt.take {l : List Int} (h : Byt l) (n : Nat) : Byt (l.take n) := fun b hb => h b (List.mem_of_mem_take hb)
theorem Byt.drop {l : List Int} (h : Byt l) (n : Nat) : Byt (l.drop n) := fun b hb => h b (List.mem_of_mem_drop hb)
theorem Byt.app {l m : List Int} (h : Byt l) (k : Byt m) : Byt (l ++ m) := fun b hb => (List.mem_append.mp hb).elim (h b) (k b)
theorem Byt.of (s : ByteArray) : Byt (strBytes s) := by_rng s
theorem Byt.nil : Byt [] := fun b hb => by cases hb
theorem take_rd (l : List Int) (z : Int) (i : Nat) (h : i < l.length) : l.take (i + 1) = l.take i ++ [l.getD i z] := by
  rw [List.take_add_one, List.getElem?_eq_getElem h, List.getD_eq_getElem?_getD, List.getElem?_eq_getElem h]; rfl
theorem be_bd {l : List Int} (h : Byt l) : 0 ≤ be l ∧ be l < 256 ^ l.length := by
  have : ∀ n, n ≤ l.length → 0 ≤ be (l.take n) ∧ be (l.take n) < 256 ^ n := fun n => by
    induction n with
    | zero => intro _; simp [be]
    | succ n ih =>
      intro hn
      have := ih (by omega)
      rw [take_rd l 0 n (by omega), be_snoc, Int.pow_succ]
      have hb := h _ (rd_mem l 0 n (by omega))
      omega
  have := this l.length (Nat.le_refl _)
  rwa [List.take_of_length_le (Nat.le_refl _)] at this
theorem or_add32 {x y : Int} (i : Nat) (hx0 : 0 ≤ x) (hx : x % 2 ^ i = 0) (hx1 : x < 4294967296) (hy0 : 0 ≤ y) (hy : y < 2 ^ i) (hy1 : y < 4294967296) : orE IntKind.u32 x y = x + y :=
  bits_join .u32 32 (by decide) (fun n h0 h1 => wu32 h0 h1) i x y hx0 hx hx1 hy0 hy hy1
theorem or_add64 {x y : Int} (i : Nat) (hx0 : 0 ≤ x) (hx : x % 2 ^ i = 0) (hx1 : x < 9223372036854775808) (hy0 : 0 ≤ y) (hy : y < 2 ^ i) (hy1 : y < 9223372036854775808) : orE IntKind.i64 x y = x + y :=
  bits_join .i64 63 (by decide) (fun n h0 h1 => w64 (by omega) (by omega)) i x y hx0 hx hx1 hy0 hy hy1
theorem be_cat (l m : List Int) : be (l ++ m) = be l * 256 ^ m.length + be m := by
  induction m generalizing l with
  | nil => simp [be]
  | cons x m ih =>
    have e : l ++ x :: m = (l ++ [x]) ++ m := by simp
    have e2 := ih [x]
    have e3 : be [x] = x := by simp [be]
    rw [e, ih (l ++ [x]), be_snoc, show x :: m = [x] ++ m from rfl, e2, e3, List.length_append, List.length_singleton, Nat.add_comm 1, Int.pow_succ]
    grind
theorem be1 (a : Int) : be [a] = a := by simp [be]
theorem be2 (a b : Int) : be [a, b] = a * 256 + b := by simp [be]
/-- The first bytes of what is left; none, if there aren't so many: then that is bad. -/
def tk (k : Nat) (q : List Int × Bool) : List Int × (List Int × Bool) := cond (!q.2 && decide (k ≤ q.1.length)) (q.1.take k, q.1.drop k, false) ([], q.1, true)
theorem tk_ok {k : Nat} {r : List Int} (h : k ≤ r.length) : tk k (r, false) = (r.take k, r.drop k, false) := by
  simp [tk, h]
theorem tk_no {k : Nat} {r : List Int} (h : r.length < k) : tk k (r, false) = ([], r, true) := by
  simp [tk, Nat.not_le.mpr h]
theorem tk_bad (k : Nat) (r : List Int) : tk k (r, true) = ([], r, true) := rfl
theorem tk_byt {k : Nat} {q : List Int × Bool} (h : Byt q.1) : Byt (tk k q).1 ∧ Byt (tk k q).2.1 := by
  unfold tk
  cases !q.2 && decide (k ≤ q.1.length)
  · exact ⟨.nil, h⟩
  · exact ⟨h.take _, h.drop _⟩
theorem tk_len (k : Nat) (q : List Int × Bool) : (tk k q).1.length ≤ k := by
  unfold tk
  cases !q.2 && decide (k ≤ q.1.length)
  · simp
  · simp; omega
/-- A number of k bytes. -/
def num (k : Nat) (q : List Int × Bool) : Int × (List Int × Bool) := (be (tk k q).1, (tk k q).2)
def s16 (n : Int) : Int := if n ≥ 32768 then n - 65536 else n
def s8 (n : Int) : Int := if n ≥ 128 then n - 256 else n
theorem num_bd {k : Nat} {q : List Int × Bool} (h : Byt q.1) : 0 ≤ (num k q).1 ∧ (num k q).1 < 256 ^ k := by
  have h1 := be_bd (tk_byt (k := k) h).1
  have h2 := tk_len k q
  refine ⟨h1.1, Int.lt_of_lt_of_le h1.2 ?_⟩
  generalize (tk k q).1.length = n at h2
  have h3 : (((256 : Nat) ^ n : Nat) : Int) ≤ ((256 ^ k : Nat) : Int) := Int.ofNat_le.mpr (Nat.pow_le_pow_right (by decide) h2)
  rw [Int.natCast_pow, Int.natCast_pow] at h3
  exact h3
theorem num_byt {k : Nat} {q : List Int × Bool} (h : Byt q.1) : Byt (num k q).2.1 := (tk_byt h).2
theorem w_i16 {n : Int} (h0 : 0 ≤ n) (h1 : n < 65536) : wr .i16 n = s16 n := by
  simp only [IntKind.wrap, IntKind.bits, IntKind.signed, s16]
  simp
  split <;> split <;> omega
theorem w_i8 {n : Int} (h0 : 0 ≤ n) (h1 : n < 256) : wr .i8 n = s8 n := by
  simp only [IntKind.wrap, IntKind.bits, IntKind.signed, s8]
  simp
  split <;> split <;> omega
theorem wru32 {n : Int} (h0 : 0 ≤ n) (h1 : n < 4294967296) : wr .u32 n = n := wu32 h0 h1
theorem wru16 {n : Int} (h0 : 0 ≤ n) (h1 : n < 65536) : wr .u16 n = n := wu16 h0 h1
theorem wru8 {n : Int} (h0 : 0 ≤ n) (h1 : n < 256) : wr .u8 n = n := wu8 h0 h1
theorem wru8_mod (n : Int) : wr .u8 n = n % 256 := wu8_mod n
theorem wru16_mod (n : Int) : wr .u16 n = n % 65536 := wu16_mod n
theorem wru32_mod (n : Int) : wr .u32 n = n % 4294967296 := wu32_mod n
theorem fitS_p {R : Type} {n : Nat} (h : n ≤ 9223372036854775807) (k : Option R) : grd (fitS n) k = k := by unfold fitS; rw [Nat.ble_eq_true_of_le h]; rfl
end Go.Proofs.Ytkpjeihgigmnkaa.Ev
