/- The pure law AreaTurned: an outline the other way round has the opposite area, a moved one the same, one twice as great four times. -/
import Derived.Test.YtalgppclaolonaaEvArea
import Derived.Test.YtalgppclaolonaaEvV
import Derived.Test.YtalgppclaolonaaEvW
namespace Go.Proofs.Ytalgppclaolonaa.Ev
open Go Go.Proofs.Ytalgppclaolonaa.EvR
set_option linter.unusedVariables false
set_option linter.unusedSimpArgs false
theorem rto_b {x : Int} (h : Small x) : F38 (rb x) = some (bg x) := rto_f (small_m h)
theorem bg_len {x : Int} (h : Small x) : (bg x).f1.length ≤ 1000000 := Nat.le_trans (small_b h) (by omega)
/-! from layer 2 to its reference -/
def toM : List Int → List Int
  | [] => []
  | d :: l => d % 65536 :: d / 65536 :: toM l
theorem toM_val : ∀ l : List Int, NumM.val (toM l) = NumB.val l
  | [] => rfl
  | d :: l => by simp only [toM, NumM.val, NumB.val, toM_val l]; omega
theorem toM_dig : ∀ {l : List Int}, NumB.Dig l → NumM.Dig (toM l)
  | [], _ => fun x hx => by cases hx
  | d :: l, h => fun x hx => by
    have hd := h d List.mem_cons_self
    have hl := toM_dig (l := l) fun y hy => h y (List.mem_cons_of_mem _ hy)
    simp only [toM] at hx
    rcases List.mem_cons.mp hx with e | hx
    · subst e; omega
    · rcases List.mem_cons.mp hx with e | hx
      · subst e; omega
      · exact hl x hx
theorem toM_len : ∀ l : List Int, (toM l).length = 2 * l.length
  | [] => rfl
  | d :: l => by simp only [toM, List.length_cons, toM_len l]; omega
theorem rfrom_l (s : Bool) {z : S71} {l : List Int} (hd : NumB.Dig l) (hl : l.length ≤ 100000) : ∀ (d i : Nat) (out : List Int), i + d = l.length → out.length ≤ 2 * i → L41_0 ⟨s, l⟩ z out (i : Int) = F83 s (out ++ toM (l.drop i))
  | 0, i, out, h, ho => by
    rw [L41_0_eq]
    simp only
    rw [cF (by omega), List.drop_eq_nil_of_le (by omega), toM, List.append_nil]
    cases F83 s out <;> rfl
  | d + 1, i, out, h, ho => by
    have hx : 0 ≤ l.getD i 0 ∧ l.getD i 0 < 4294967296 := by
      have : l.getD i 0 = l[i]'(by omega) := by simp [show i < l.length by omega]
      rw [this]; exact hd _ (List.getElem_mem _)
    have ih := rfrom_l s (z := z) hd hl d (i + 1) (out ++ [l.getD i 0 % 65536, l.getD i 0 / 65536]) (by omega) (by simp; omega)
    rw [L41_0_eq]
    simp only
    rw [cT (by omega), grd_p (by omega), grd_p (by omega), grd_p (by omega), grd_p (by omega), Int.toNat_natCast, show wr .u64 (l.getD i 0) = l.getD i 0 from wu64 (by omega) (by omega), tmod_nn hx.1, tdiv_nn hx.1, show wr .u64 (l.getD i 0 / 65536) = l.getD i 0 / 65536 from wu64 (by omega) (by omega),
      fit_of (by simp only [List.length_cons, List.length_nil]; omega), grd_t, inc (by omega), ih, drop_rd l 0 i (by omega), List.append_assoc]
    rfl
theorem rfrom_f {x : Int} (h : Small x) : F41 (bg x) = some (rb x) := by
  have hl := small_b h
  have e := rfrom_l (decide (x < 0)) (z := ⟨false, []⟩) (NumB.cd_dig x.natAbs) (by omega) (NumB.cd x.natAbs).length 0 [] (by omega) (by simp)
  rw [F41_eq]
  have e2 : L41_0 (bg x) ⟨false, []⟩ [] 0 = _ := e
  rw [e2, List.nil_append, List.drop_zero, rnorm_f (by rw [toM_len]; omega) (toM_dig (NumB.cd_dig _)), toM_val, NumB.cd_val]
  congr 2
  by_cases c : x < 0
  · rw [if_pos (by simp [c])]; omega
  · rw [if_neg (by simp [c])]; omega
/-! the other way round -/
def back (e : S38) : S38 := ⟨e.f0, e.f1, e.f4, e.f3, e.f2⟩
theorem pe_iff (p q : S36) : pe p q = true ↔ p = q := by
  unfold pe
  rcases p with ⟨a, b⟩
  rcases q with ⟨c, d⟩
  simp
theorem pe_of {p q p' q' : S36} (h : p' = q' ↔ p = q) : pe p' q' = pe p q := by
  cases hb : pe p q
  · cases hb' : pe p' q'
    · rfl
    · exact absurd ((pe_iff p q).2 (h.1 ((pe_iff p' q').1 hb'))) (by simp [hb])
  · exact (pe_iff p' q').2 (h.2 ((pe_iff p q).1 hb))
theorem one_back {e : S38} (h : OneE e = true) : OneE (back e) = true := by
  have hs : same (back e) = same e := by
    unfold same back
    simp only
    cases hb : pe e.f2 e.f4
    · rw [pe_comm, hb]; rfl
    · have := (pe_iff _ _).1 hb
      rw [← this, (pe_iff e.f2 e.f2).2 rfl]
  unfold OneE at h ⊢
  rw [hs]
  simp only [Bool.and_eq_true] at h ⊢
  unfold back
  exact ⟨⟨⟨⟨h.1.1.2, h.1.1.1.2⟩, h.1.1.1.1⟩, h.1.2⟩, h.2⟩
def Rv (l : List S38) : List S38 := (l.map back).reverse
theorem Rv_cons (e : S38) (l : List S38) : Rv (e :: l) = Rv l ++ [back e] := by simp [Rv]
def st (f p : S38) : List S38 → S38 × S38
  | [] => (f, p)
  | e :: l => if e.f0 = f.f0 then st f e l else st e e l
def opn (f p : S38) : List S38 → Bool
  | [] => true
  | e :: l => if e.f0 = f.f0 then pe e.f2 p.f4 && opn f e l else pe p.f4 f.f2 && opn e e l
def qe (p : S38) : List S38 → S38
  | [] => p
  | e :: l => if e.f0 = p.f0 then qe e l else p
def fre (p : S38) : List S38 → Bool
  | [] => true
  | e :: l => if e.f0 = p.f0 then pe e.f2 p.f4 && fre e l else cl e e l
theorem qe_f0 : ∀ (l : List S38) (p : S38), (qe p l).f0 = p.f0
  | [], p => rfl
  | e :: l, p => by
    unfold qe
    split
    · rename_i h; exact (qe_f0 l e).trans h
    · rfl
theorem cl_fre : ∀ (l : List S38) (f p : S38), f.f0 = p.f0 → cl f p l = (fre p l && pe (qe p l).f4 f.f2)
  | [], f, p, _ => by simp [cl, fre, qe]
  | e :: l, f, p, h => by
    unfold cl fre qe
    by_cases c : e.f0 = p.f0
    · rw [if_pos (c.trans h.symm), if_pos c, if_pos c, cl_fre l f e (h.trans c.symm), Bool.and_assoc]
    · rw [if_neg (fun q => c (q.trans h)), if_neg c, if_neg c, Bool.and_comm]
theorem cl_opn : ∀ (l : List S38) (f p : S38), cl f p l = (opn f p l && pe (st f p l).2.f4 (st f p l).1.f2)
  | [], f, p => by simp [cl, opn, st]
  | e :: l, f, p => by
    unfold cl opn st
    by_cases c : e.f0 = f.f0
    · rw [if_pos c, if_pos c, if_pos c, cl_opn l f e, Bool.and_assoc]
    · rw [if_neg c, if_neg c, if_neg c, cl_opn l e e, Bool.and_assoc]
theorem opn_app : ∀ (l : List S38) (f p y : S38), opn f p (l ++ [y]) = (opn f p l && (if y.f0 = (st f p l).1.f0 then pe y.f2 (st f p l).2.f4 else pe (st f p l).2.f4 (st f p l).1.f2)) ∧ st f p (l ++ [y]) = (if y.f0 = (st f p l).1.f0 then ((st f p l).1, y) else (y, y))
  | [], f, p, y => by
    simp only [List.nil_append, opn, st, Bool.and_true, Bool.true_and]
    exact ⟨rfl, rfl⟩
  | e :: l, f, p, y => by
    by_cases c : e.f0 = f.f0
    · have s1 : st f p (e :: l) = st f e l := by simp only [st, if_pos c]
      have s2 : opn f p (e :: l) = (pe e.f2 p.f4 && opn f e l) := by simp only [opn, if_pos c]
      have s3 : st f p (e :: (l ++ [y])) = st f e (l ++ [y]) := by simp only [st, if_pos c]
      have s4 : opn f p (e :: (l ++ [y])) = (pe e.f2 p.f4 && opn f e (l ++ [y])) := by simp only [opn, if_pos c]
      rw [List.cons_append, s1, s2, s3, s4, (opn_app l f e y).1, (opn_app l f e y).2, Bool.and_assoc]; exact ⟨rfl, rfl⟩
    · have s1 : st f p (e :: l) = st e e l := by simp only [st, if_neg c]
      have s2 : opn f p (e :: l) = (pe p.f4 f.f2 && opn e e l) := by simp only [opn, if_neg c]
      have s3 : st f p (e :: (l ++ [y])) = st e e (l ++ [y]) := by simp only [st, if_neg c]
      have s4 : opn f p (e :: (l ++ [y])) = (pe p.f4 f.f2 && opn e e (l ++ [y])) := by simp only [opn, if_neg c]
      rw [List.cons_append, s1, s2, s3, s4, (opn_app l e e y).1, (opn_app l e e y).2, Bool.and_assoc]; exact ⟨rfl, rfl⟩
/-- What is found of an outline's edges, read from behind. -/
theorem rv_st : ∀ (l : List S38) (e : S38), ∃ x m, Rv (e :: l) = x :: m ∧ opn x x m = fre e l ∧ st x x m = (back (qe e l), back e)
  | [], e => ⟨back e, [], rfl, rfl, rfl⟩
  | e2 :: l, e => by
    obtain ⟨x, m, h1, h2, h3⟩ := rv_st l e2
    refine ⟨x, m ++ [back e], by rw [Rv_cons, h1]; rfl, ?_, ?_⟩
    · rw [(opn_app m x x (back e)).1, h2, h3]
      simp only [fre]
      have k1 : (back e).f0 = e.f0 := rfl
      have k2 : (back (qe e2 l)).f0 = e2.f0 := qe_f0 l e2
      rw [k1, k2]
      by_cases c : e2.f0 = e.f0
      · rw [if_pos c.symm, if_pos c, Bool.and_comm, pe_comm]; rfl
      · rw [if_neg (fun q => c q.symm), if_neg c, cl_fre l e2 e2 rfl, pe_comm]; rfl
    · rw [(opn_app m x x (back e)).2, h3]
      simp only [qe]
      have k1 : (back e).f0 = e.f0 := rfl
      have k2 : (back (qe e2 l)).f0 = e2.f0 := qe_f0 l e2
      rw [k1, k2]
      by_cases c : e2.f0 = e.f0
      · rw [if_pos c.symm, if_pos c]
      · rw [if_neg (fun q => c q.symm), if_neg c]
theorem closed_rv (l : List S38) : Closed (Rv l) = Closed l := by
  cases l with
  | nil => rfl
  | cons e l =>
    obtain ⟨x, m, h1, h2, h3⟩ := rv_st l e
    rw [h1]
    simp only [Closed]
    rw [cl_opn, h2, h3, cl_fre l e e rfl, pe_comm]; rfl
theorem area_back (e : S38) : areaE (back e) = -areaE e := by
  unfold areaE back cs6
  split <;> grind
theorem six_rv : ∀ l : List S38, sixE (Rv l) = -sixE l
  | [] => rfl
  | e :: l => by rw [Rv_cons, six_app, six_rv l]; simp only [sixE, area_back]; omega
theorem all_rv {l : List S38} (h : l.all OneE = true) : (Rv l).all OneE = true := List.all_eq_true.mpr fun x hx => by
  rw [Rv, List.mem_reverse, List.mem_map] at hx
  obtain ⟨e, he, rfl⟩ := hx
  exact one_back (List.all_eq_true.mp h e he)
/-! edges, each turned -/
theorem cl_map {m : S38 → S38} (h0 : ∀ e, (m e).f0 = e.f0) (hj : ∀ a b, pe (m a).f4 (m b).f2 = pe a.f4 b.f2) : ∀ (l : List S38) (f p : S38), cl (m f) (m p) (l.map m) = cl f p l
  | [], f, p => by simp only [List.map_nil, cl, hj]
  | e :: l, f, p => by
    simp only [List.map_cons, cl, h0, hj, cl_map h0 hj l]
    rw [pe_comm (m e).f2, hj, pe_comm]
theorem closed_map {m : S38 → S38} (h0 : ∀ e, (m e).f0 = e.f0) (hj : ∀ a b, pe (m a).f4 (m b).f2 = pe a.f4 b.f2) (l : List S38) : Closed (l.map m) = Closed l := by
  cases l with
  | nil => rfl
  | cons e l => exact cl_map h0 hj l e e
def SmP (p : S36) : Prop := (-1048576 ≤ p.f0 ∧ p.f0 ≤ 1048576) ∧ (-1048576 ≤ p.f1 ∧ p.f1 ≤ 1048576)
instance (p : S36) : Decidable (SmP p) := by unfold SmP; exact inferInstance
def Sm (e : S38) : Prop := SmP e.f2 ∧ SmP e.f3 ∧ SmP e.f4
def dbl (p : S36) : S36 := ⟨2 * p.f0, 2 * p.f1⟩
def db (e : S38) : S38 := ⟨e.f0, e.f1, dbl e.f2, dbl e.f3, dbl e.f4⟩
theorem dbl_inj (p q : S36) : dbl p = dbl q ↔ p = q := by
  rcases p with ⟨a, b⟩
  rcases q with ⟨c, d⟩
  simp [dbl]
  constructor <;> (rintro ⟨h1, h2⟩; constructor <;> omega)
theorem one_db {e : S38} (hs : Sm e) (h : OneE e = true) : OneE (db e) = true := by
  have e1 := pe_of (dbl_inj e.f2 e.f4)
  have e2 := pe_of (dbl_inj e.f2 e.f3)
  have e3 : pe (dbl e.f3) ⟨0, 0⟩ = pe e.f3 ⟨0, 0⟩ := pe_of (dbl_inj e.f3 ⟨0, 0⟩)
  have hf : ∀ p, SmP p → Fine (dbl p) := fun p h => by unfold SmP at h; unfold Fine dbl; simp only; omega
  unfold OneE same db at *
  simp only [e1, e2, e3, decide_eq_true (hf _ hs.1), decide_eq_true (hf _ hs.2.1), decide_eq_true (hf _ hs.2.2), Bool.true_and]
  simp only [Bool.and_eq_true] at h ⊢
  exact ⟨h.1.2, h.2⟩
theorem area_db (e : S38) : areaE (db e) = 4 * areaE e := by
  unfold areaE db dbl cs6
  simp only
  split <;> grind
theorem six_db : ∀ l : List S38, sixE (l.map db) = 4 * sixE l
  | [] => rfl
  | e :: l => by simp only [List.map_cons, sixE, area_db, six_db l]; omega
section
variable (u v : Int)
def sh (p : S36) : S36 := ⟨p.f0 + u, p.f1 + v⟩
def mv (e : S38) : S38 := ⟨e.f0, e.f1, sh u v e.f2, if e.f1 = true then sh u v e.f3 else e.f3, sh u v e.f4⟩
theorem sh_inj (p q : S36) : sh u v p = sh u v q ↔ p = q := by
  rcases p with ⟨a, b⟩
  rcases q with ⟨c, d⟩
  simp [sh]
theorem one_mv {u v : Int} (hu : -1048576 ≤ u ∧ u ≤ 1048576) (hv : -1048576 ≤ v ∧ v ≤ 1048576) {e : S38} (hs : Sm e) (h : OneE e = true) : OneE (mv u v e) = true := by
  have e1 := pe_of (sh_inj u v e.f2 e.f4)
  have e2 := pe_of (sh_inj u v e.f2 e.f3)
  have hf : ∀ p, SmP p → Fine (sh u v p) := fun p h => by unfold SmP at h; unfold Fine sh; simp only; omega
  have hg : ∀ p, SmP p → Fine p := fun p h => by unfold SmP at h; unfold Fine; omega
  unfold OneE same mv at *
  simp only [e1, decide_eq_true (hf _ hs.1), decide_eq_true (hf _ hs.2.2), Bool.true_and]
  simp only [Bool.and_eq_true] at h ⊢
  cases c : e.f1
  · rw [c] at h
    simp only [Bool.false_eq_true, if_false, decide_eq_true (hg _ hs.2.1)]
    exact ⟨⟨⟨trivial, trivial⟩, h.1.2⟩, h.2⟩
  · rw [c] at h
    simp only [if_true, decide_eq_true (hf _ hs.2.1), e2]
    exact ⟨⟨⟨trivial, trivial⟩, h.1.2⟩, by first | rfl | trivial⟩
def gg (p : S36) : Int := 3 * (u * p.f1 - v * p.f0)
theorem area_mv (e : S38) : areaE (mv u v e) = areaE e + (gg u v e.f4 - gg u v e.f2) := by
  unfold areaE mv gg
  simp only
  cases c : e.f1
  · simp only [Bool.false_eq_true, if_false]; unfold cs6 sh; grind
  · simp only [if_true]; unfold cs6 sh; grind
def tel : List S38 → Int
  | [] => 0
  | e :: l => (gg u v e.f4 - gg u v e.f2) + tel l
theorem six_mv : ∀ l : List S38, sixE (l.map (mv u v)) = sixE l + tel u v l
  | [] => rfl
  | e :: l => by simp only [List.map_cons, sixE, area_mv, six_mv l, tel]; omega
theorem tel_cl : ∀ (l : List S38) (f p : S38), cl f p l = true → gg u v p.f4 - gg u v f.f2 + tel u v l = 0
  | [], f, p, h => by
    simp only [cl] at h
    rw [(pe_iff _ _).mp h, tel]; omega
  | e :: l, f, p, h => by
    simp only [cl] at h
    simp only [tel]
    split at h
    · rw [Bool.and_eq_true] at h
      have := tel_cl l f e h.2
      rw [(pe_iff _ _).mp h.1]; omega
    · rw [Bool.and_eq_true] at h
      have := tel_cl l e e h.2
      rw [(pe_iff _ _).mp h.1]; omega
theorem tel_closed {l : List S38} (h : Closed l = true) : tel u v l = 0 := by
  cases l with
  | nil => rfl
  | cons e l =>
    have := tel_cl u v l e e h
    simp only [tel]; omega
end
/-! the law's loops -/
theorem chk_f {p : S36} (h : Fine p) : decide (mxE (mxE (mxE p.f0 (wr .i64 (0 - p.f0))) p.f1) (wr .i64 (0 - p.f1)) > 1048576) = !decide (SmP p) := by
  unfold Fine at h
  rw [show wr .i64 (0 - p.f0) = 0 - p.f0 from w64 (by omega) (by omega), show wr .i64 (0 - p.f1) = 0 - p.f1 from w64 (by omega) (by omega)]
  by_cases c : SmP p
  · rw [decide_eq_true c, decide_eq_false (by unfold SmP at c; unfold mxE; split <;> (try split) <;> (try split) <;> (try split) <;> (try split) <;> (try split) <;> (try split) <;> omega)]; rfl
  · rw [decide_eq_false c, decide_eq_true (by
      unfold SmP at c
      have m : ∀ x y z : Int, mxE x y > z ↔ (x > z ∨ y > z) := fun x y z => by unfold mxE; split <;> omega
      rw [m, m, m]
      omega)]; rfl
section
variable {l : List S38} {u v : Int} {B M E : List S38}
theorem a8_3 (hl : l.length ≤ 40) (hM : M.length ≤ 40) (hE : E.length ≤ 40) {e : S38} (he : Sm e) (i : Nat) (hi : i ≤ 40) :
    L8_3 l u v B M E e (mv u v e) l (l.length : Int) (i : Int) = L8_1 l u v B (M ++ [mv u v e]) (E ++ [db e]) l (l.length : Int) ((i + 1 : Nat) : Int) := by
  obtain ⟨⟨⟨a3, a4⟩, a1, a2⟩, ⟨⟨b3, b4⟩, b1, b2⟩, ⟨⟨c3, c4⟩, c1, c2⟩⟩ := he
  rw [L8_3_eq, fit_of (by simp only [List.length_singleton]; omega), grd_t, fit_of (by simp only [List.length_singleton]; omega), grd_t, inc (by omega),
    show wr .i64 (2 * e.f2.f0) = 2 * e.f2.f0 from w64 (by omega) (by omega), show wr .i64 (2 * e.f3.f0) = 2 * e.f3.f0 from w64 (by omega) (by omega), show wr .i64 (2 * e.f4.f0) = 2 * e.f4.f0 from w64 (by omega) (by omega),
    show wr .i64 (2 * e.f2.f1) = 2 * e.f2.f1 from w64 (by omega) (by omega), show wr .i64 (2 * e.f3.f1) = 2 * e.f3.f1 from w64 (by omega) (by omega), show wr .i64 (2 * e.f4.f1) = 2 * e.f4.f1 from w64 (by omega) (by omega)]
  rfl
theorem a8_2 (hu : -1048576 ≤ u ∧ u ≤ 1048576) (hv : -1048576 ≤ v ∧ v ≤ 1048576) (hl : l.length ≤ 40) (hB : B.length ≤ 40) (hM : M.length ≤ 40) (hE : E.length ≤ 40) {e : S38} (ho : OneE e = true) (i : Nat) (hi : i < l.length) :
    (¬ Sm e ∧ L8_2 l u v B M E (i : Int) e l (l.length : Int) (i : Int) [e.f2, e.f3, e.f4] 3 0 = some true) ∨
    (Sm e ∧ L8_2 l u v B M E (i : Int) e l (l.length : Int) (i : Int) [e.f2, e.f3, e.f4] 3 0 = L8_1 l u v (B ++ [back (l.getD (l.length - 1 - i) z1)]) (M ++ [mv u v e]) (E ++ [db e]) l (l.length : Int) ((i + 1 : Nat) : Int)) := by
  obtain ⟨f2, f3, f4⟩ := ones ho
  have i1 : wr .i64 ((0 : Int) + 1) = 1 := by decide
  have i2 : wr .i64 ((1 : Int) + 1) = 2 := by decide
  have i3 : wr .i64 ((2 : Int) + 1) = 3 := by decide
  have g0 : ([e.f2, e.f3, e.f4] : List S36).getD (Int.toNat 0) z0 = e.f2 := rfl
  have g1 : ([e.f2, e.f3, e.f4] : List S36).getD (Int.toNat 1) z0 = e.f3 := rfl
  have g2 : ([e.f2, e.f3, e.f4] : List S36).getD (Int.toNat 2) z0 = e.f4 := rfl
  rw [L8_2_eq, cT (by decide), grd_p (by decide), grd_p (by simp), g0, chk_f f2, i1]
  by_cases c2 : SmP e.f2
  case neg => exact .inl ⟨fun h => c2 h.1, by rw [decide_eq_false c2]; rfl⟩
  rw [decide_eq_true c2, Bool.not_true, cond_false, L8_2_eq, cT (by decide), grd_p (by decide), grd_p (by simp), g1, chk_f f3, i2]
  by_cases c3 : SmP e.f3
  case neg => exact .inl ⟨fun h => c3 h.2.1, by rw [decide_eq_false c3]; rfl⟩
  rw [decide_eq_true c3, Bool.not_true, cond_false, L8_2_eq, cT (by decide), grd_p (by decide), grd_p (by simp), g2, chk_f f4, i3]
  by_cases c4 : SmP e.f4
  case neg => exact .inl ⟨fun h => c4 h.2.2, by rw [decide_eq_false c4]; rfl⟩
  refine .inr ⟨⟨c2, c3, c4⟩, ?_⟩
  have hs : Sm e := ⟨c2, c3, c4⟩
  obtain ⟨⟨a3, a4⟩, a1, a2⟩ := c2
  obtain ⟨⟨b3, b4⟩, b1, b2⟩ := c3
  obtain ⟨⟨d3, d4⟩, d1, d2⟩ := c4
  have ix : wr .i64 (wr .i64 ((l.length : Int) - 1) - (i : Int)) = ((l.length - 1 - i : Nat) : Int) := by
    rw [show wr .i64 ((l.length : Int) - 1) = (l.length : Int) - 1 from w64 (by omega) (by omega)]
    exact (w64 (by omega) (by omega)).trans (by omega)
  rw [decide_eq_true (show SmP e.f4 from ⟨⟨d3, d4⟩, d1, d2⟩), Bool.not_true, cond_false, L8_2_eq, cF (by decide), ix, grd_p (by omega), grd_p (by omega), fit_of (by simp only [List.length_singleton]; omega), grd_t, Int.toNat_natCast,
    show wr .i64 (e.f2.f0 + u) = e.f2.f0 + u from w64 (by omega) (by omega), show wr .i64 (e.f3.f0 + u) = e.f3.f0 + u from w64 (by omega) (by omega), show wr .i64 (e.f4.f0 + u) = e.f4.f0 + u from w64 (by omega) (by omega),
    show wr .i64 (e.f2.f1 + v) = e.f2.f1 + v from w64 (by omega) (by omega), show wr .i64 (e.f3.f1 + v) = e.f3.f1 + v from w64 (by omega) (by omega), show wr .i64 (e.f4.f1 + v) = e.f4.f1 + v from w64 (by omega) (by omega)]
  have h3 := a8_3 (l := l) (u := u) (v := v) (B := B ++ [back (l.getD (l.length - 1 - i) z1)]) hl hM hE hs i (by omega)
  unfold mv sh at h3 ⊢
  cases c : e.f1
  · rw [c] at h3
    simp only [Bool.false_eq_true, if_false] at h3 ⊢
    rw [cond_false]
    exact h3
  · rw [c] at h3
    simp only [if_true] at h3 ⊢
    rw [cond_true]
    exact h3
end
theorem rem_b (x : Int) : -1048576 ≤ Int.tmod x 1048576 ∧ Int.tmod x 1048576 ≤ 1048576 := by
  have h1 := Int.tmod_lt_of_pos x (show (0 : Int) < 1048576 by decide)
  have h2 := Int.tmod_lt_of_pos (-x) (show (0 : Int) < 1048576 by decide)
  rw [Int.neg_tmod] at h2
  omega
theorem may_of {l : List S38} (h1 : l.length ≤ 8192) (h2 : l.all OneE = true) (h3 : Closed l = true) : mayE l = true := by
  unfold mayE; rw [decide_eq_true h1, h2, h3]; rfl
theorem a8_end {l : List S38} {u v : Int} (hu : -1048576 ≤ u ∧ u ≤ 1048576) (hv : -1048576 ≤ v ∧ v ≤ 1048576) (hl : l.length ≤ 40) (ho : l.all OneE = true) (hc : Closed l = true) (hs : ∀ e ∈ l, Sm e) :
    L8_1 l u v (Rv l) (l.map (mv u v)) (l.map db) l (l.length : Int) (l.length : Int) = some true := by
  have m1 : mayE l = true := may_of (by omega) ho hc
  have m2 : mayE (Rv l) = true := may_of (by simp [Rv]; omega) (all_rv ho) (by rw [closed_rv]; exact hc)
  have m3 : mayE (l.map (mv u v)) = true := may_of (by simp; omega) (List.all_eq_true.mpr fun x hx => by
    obtain ⟨e, he, rfl⟩ := List.mem_map.mp hx
    exact one_mv hu hv (hs e he) (List.all_eq_true.mp ho e he)) (by
    rw [closed_map (m := mv u v) (fun _ => rfl) (fun a b => pe_of (p' := sh u v a.f4) (q' := sh u v b.f2) (sh_inj u v a.f4 b.f2))]; exact hc)
  have m4 : mayE (l.map db) = true := may_of (by simp; omega) (List.all_eq_true.mpr fun x hx => by
    obtain ⟨e, he, rfl⟩ := List.mem_map.mp hx
    exact one_db (hs e he) (List.all_eq_true.mp ho e he)) (by
    rw [closed_map (m := db) (fun _ => rfl) (fun a b => pe_of (p' := dbl a.f4) (q' := dbl b.f2) (dbl_inj a.f4 b.f2))]; exact hc)
  have lim := six_lim ho
  have s1 : Small (sixE l) := by unfold Small; omega
  have s2 : Small (-sixE l) := by unfold Small; omega
  have s4 : Small (sixE l * 4) := by unfold Small; omega
  have f1 := aSix_f (l := l) (by omega)
  have f2 := aSix_f (l := Rv l) (by simp [Rv]; omega)
  have f3 := aSix_f (l := l.map (mv u v)) (by simp; omega)
  have f4 := aSix_f (l := l.map db) (by simp; omega)
  rw [if_pos m1] at f1
  rw [if_pos m2, six_rv] at f2
  rw [if_pos m3, six_mv, tel_closed u v hc, Int.add_zero] at f3
  rw [if_pos m4, six_db, Int.mul_comm] at f4
  rw [L8_1_eq, cF (by omega), bnd f1, bnd f2, bnd f3, bnd f4]
  simp only
  rw [bnd (rfrom_f s1)]
  simp only [beq_self_eq_true, cond_true]
  rw [bnd (rneg_f (small_m s1)), bnd (rto_b s2), bnd (EvR.rsame_f _ (bg_len s2)), cond_true, bnd (EvR.rsame_f _ (bg_len s1)), cond_true, bnd (rof_f (n := 4) (by omega) (by omega)), bnd (rmul_f (small_m s1) (small_m (by unfold Small; omega))), bnd (rto_b s4), bnd (EvR.rsame_f _ (bg_len s4))]
theorem rv_take {l : List S38} {i : Nat} (h : i < l.length) : (Rv l).take (i + 1) = (Rv l).take i ++ [back (l.getD (l.length - 1 - i) z1)] := by
  have hlen : (Rv l).length = l.length := by simp [Rv]
  rw [List.take_add_one, List.getElem?_eq_getElem (by omega)]
  have : (Rv l)[i]'(by omega) = back (l.getD (l.length - 1 - i) z1) := by
    simp only [Rv, List.getElem_reverse, List.getElem_map, List.length_map]
    simp [show l.length - 1 - i < l.length by omega]
  rw [this]; rfl
theorem map_take {l : List S38} (m : S38 → S38) {i : Nat} (h : i < l.length) : (l.map m).take (i + 1) = (l.map m).take i ++ [m (l.getD i z1)] := by
  rw [List.take_add_one, List.getElem?_eq_getElem (by simpa using h), List.getElem_map]
  simp [h]
theorem a8_1 {l : List S38} {u v : Int} (hu : -1048576 ≤ u ∧ u ≤ 1048576) (hv : -1048576 ≤ v ∧ v ≤ 1048576) (hl : l.length ≤ 40) (ho : l.all OneE = true) (hc : Closed l = true) : ∀ (d i : Nat), i + d = l.length → (∀ j, j < i → Sm (l.getD j z1)) →
    L8_1 l u v ((Rv l).take i) ((l.map (mv u v)).take i) ((l.map db).take i) l (l.length : Int) (i : Int) = some true
  | 0, i, h, hs => by
    have e : i = l.length := by omega
    subst e
    rw [List.take_of_length_le (by simp [Rv]), List.take_of_length_le (by simp), List.take_of_length_le (by simp)]
    exact a8_end hu hv hl ho hc fun e he => by
      obtain ⟨j, hj, rfl⟩ := List.mem_iff_getElem.mp he
      have := hs j hj
      simpa [hj] using this
  | d + 1, i, h, hs => by
    have hi : i < l.length := by omega
    rw [L8_1_eq, cT (by omega), grd_p (by omega), grd_p (by omega), Int.toNat_natCast]
    rcases a8_2 (l := l) (B := (Rv l).take i) (M := (l.map (mv u v)).take i) (E := (l.map db).take i) hu hv hl (by rw [List.length_take]; omega) (by rw [List.length_take]; omega) (by rw [List.length_take]; omega) (all_at ho i hi) i hi with ⟨_, h1⟩ | ⟨h1, h2⟩
    · exact h1
    · rw [h2, ← rv_take hi, ← map_take _ hi, ← map_take _ hi]
      refine a8_1 hu hv hl ho hc d (i + 1) (by omega) fun j hj => ?_
      rcases Nat.lt_or_ge j i with q | q
      · exact hs j q
      · rw [show j = i by omega]; exact h1
theorem Pure.AreaTurned (x0 : List S38) (x1 : S32) : (x0.length * 64 ≤ 140737488351232 ∧ x0.length ≤ 9223372036854775807 ∧ ∀ x ∈ x0, wf38 x) → wf32 x1 → F8 x0 x1 = some true := by
  intro _ _
  rw [F8_eq, bnd F31_true]
  by_cases c : (x0.length : Int) > 40
  · rw [cT c]; rfl
  · rw [cF c, bnd (rmay_f x0 (by omega))]
    cases hm : mayE x0
    · rfl
    · have hm' := hm
      unfold mayE at hm'
      simp only [Bool.and_eq_true, decide_eq_true_eq] at hm'
      rw [L8_0_eq]
      exact a8_1 (rem_b _) (rem_b _) (by omega) hm'.2 hm'.1.2 x0.length 0 (by omega) (fun j hj => by omega)
end Go.Proofs.Ytalgppclaolonaa.Ev
