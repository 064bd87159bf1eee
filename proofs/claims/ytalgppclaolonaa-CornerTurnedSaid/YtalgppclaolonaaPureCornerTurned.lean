/- The pure law CornerTurned: there is a corner between two edges just if there is one the other way round, turned by a quarter, or twice as great. -/
import Derived.Test.YtalgppclaolonaaEvCorn
import Derived.Test.YtalgppclaolonaaEvV
import Derived.Test.YtalgppclaolonaaEvW
namespace Go.Proofs.Ytalgppclaolonaa.Ev
open Go
set_option linter.unusedVariables false
set_option linter.unusedSimpArgs false
def neg (p : S36) : S36 := ⟨-p.f0, -p.f1⟩
def rot (p : S36) : S36 := ⟨-p.f1, p.f0⟩
def dbl (p : S36) : S36 := ⟨2 * p.f0, 2 * p.f1⟩
def back (e : S38) : S38 := ⟨e.f0, e.f1, e.f4, e.f3, e.f2⟩
def each (g : S36 → S36) (e : S38) : S38 := ⟨e.f0, e.f1, g e.f2, g e.f3, g e.f4⟩
def SmP (p : S36) : Prop := (-1048576 ≤ p.f0 ∧ p.f0 ≤ 1048576) ∧ (-1048576 ≤ p.f1 ∧ p.f1 ≤ 1048576)
def Sm (e : S38) : Prop := SmP e.f2 ∧ SmP e.f3 ∧ SmP e.f4
theorem pe_iff (p q : S36) : pe p q = true ↔ p = q := by
  unfold pe
  rcases p with ⟨a, b⟩
  rcases q with ⟨c, d⟩
  simp
theorem pe_of {p q p' q' : S36} (h : p' = q' ↔ p = q) : pe p' q' = pe p q := by
  cases hb : pe p q
  · cases hb' : pe p' q'
    · rfl
    · exact absurd ((pe_iff p q).2 (h.1 ((pe_iff p' q').1 hb'))) (by simp [hb])
  · exact (pe_iff p' q').2 (h.2 ((pe_iff p q).1 hb))
theorem rot_inj (p q : S36) : rot p = rot q ↔ p = q := by
  rcases p with ⟨a, b⟩
  rcases q with ⟨c, d⟩
  simp [rot]
  constructor <;> (rintro ⟨h1, h2⟩; constructor <;> omega)
theorem dbl_inj (p q : S36) : dbl p = dbl q ↔ p = q := by
  rcases p with ⟨a, b⟩
  rcases q with ⟨c, d⟩
  simp [dbl]
  constructor <;> (rintro ⟨h1, h2⟩; constructor <;> omega)
theorem one_each {g : S36 → S36} (hi : ∀ p q, g p = g q ↔ p = q) (h0 : g ⟨0, 0⟩ = ⟨0, 0⟩) (hf : ∀ p, SmP p → Fine (g p)) {e : S38} (hs : Sm e) (h : OneE e = true) : OneE (each g e) = true := by
  have e1 := pe_of (hi e.f2 e.f4)
  have e2 := pe_of (hi e.f2 e.f3)
  have e3 : pe (g e.f3) ⟨0, 0⟩ = pe e.f3 ⟨0, 0⟩ := by have := pe_of (hi e.f3 ⟨0, 0⟩); rwa [h0] at this
  unfold OneE same each at *
  simp only [e1, e2, e3, decide_eq_true (hf _ hs.1), decide_eq_true (hf _ hs.2.1), decide_eq_true (hf _ hs.2.2), Bool.true_and]
  simp only [Bool.and_eq_true] at h ⊢
  exact ⟨h.1.2, h.2⟩
theorem one_back {e : S38} (h : OneE e = true) : OneE (back e) = true := by
  have hs : same (back e) = same e := by
    unfold same back
    simp only
    cases hb : pe e.f2 e.f4
    · rw [pe_comm, hb]; rfl
    · have := (pe_iff _ _).1 hb
      rw [← this, (pe_iff e.f2 e.f2).2 rfl]
  unfold OneE at h ⊢
  rw [hs]
  simp only [Bool.and_eq_true] at h ⊢
  unfold back
  exact ⟨⟨⟨⟨h.1.1.2, h.1.1.1.2⟩, h.1.1.1.1⟩, h.1.2⟩, h.2⟩
theorem lst_back (e : S38) : lst (back e) = neg (fst e) := by
  unfold lst fst back neg
  simp only
  split <;> (congr 1 <;> (simp only; omega))
theorem fst_back (e : S38) : fst (back e) = neg (lst e) := by
  unfold lst fst back neg
  simp only
  split <;> (congr 1 <;> (simp only; omega))
theorem lst_rot (e : S38) : lst (each rot e) = rot (lst e) := by
  unfold lst each
  simp only [pe_of (rot_inj _ _)]
  split <;> (unfold rot; simp only; congr 1 <;> (try simp only) <;> omega)
theorem fst_rot (e : S38) : fst (each rot e) = rot (fst e) := by
  unfold fst each
  simp only [pe_of (rot_inj _ _)]
  split <;> (unfold rot; simp only; congr 1 <;> (try simp only) <;> omega)
theorem lst_dbl (e : S38) : lst (each dbl e) = dbl (lst e) := by
  unfold lst each
  simp only [pe_of (dbl_inj _ _)]
  split <;> (unfold dbl; simp only; congr 1 <;> (try simp only) <;> omega)
theorem fst_dbl (e : S38) : fst (each dbl e) = dbl (fst e) := by
  unfold fst each
  simp only [pe_of (dbl_inj _ _)]
  split <;> (unfold dbl; simp only; congr 1 <;> (try simp only) <;> omega)
theorem isC_back (e f : S38) : isC (back f) (back e) = isC e f := by
  unfold isC
  rw [lst_back, fst_back]
  generalize lst e = a
  generalize fst f = b
  have h1 : dt (neg b) (neg a) = dt a b := by unfold dt neg; grind
  have h2 : cs (neg b) (neg a) * cs (neg b) (neg a) * 50 = cs a b * cs a b * 50 := by unfold cs neg; grind
  have h3 : dt (neg b) (neg b) * dt (neg a) (neg a) = dt a a * dt b b := by unfold dt neg; grind
  rw [h1, h2, h3]
theorem isC_rot (e f : S38) : isC (each rot e) (each rot f) = isC e f := by
  unfold isC
  rw [lst_rot, fst_rot]
  generalize lst e = a
  generalize fst f = b
  have h1 : dt (rot a) (rot b) = dt a b := by unfold dt rot; grind
  have h2 : cs (rot a) (rot b) = cs a b := by unfold cs rot; grind
  have h3 : dt (rot a) (rot a) = dt a a := by unfold dt rot; grind
  have h4 : dt (rot b) (rot b) = dt b b := by unfold dt rot; grind
  rw [h1, h2, h3, h4]
theorem isC_dbl (e f : S38) : isC (each dbl e) (each dbl f) = isC e f := by
  unfold isC
  rw [lst_dbl, fst_dbl]
  generalize lst e = a
  generalize fst f = b
  have h1 : dt (dbl a) (dbl b) = 4 * dt a b := by unfold dt dbl; grind
  have h2 : cs (dbl a) (dbl b) * cs (dbl a) (dbl b) * 50 = 16 * (cs a b * cs a b * 50) := by unfold cs dbl; grind
  have h3 : dt (dbl a) (dbl a) * dt (dbl b) (dbl b) = 16 * (dt a a * dt b b) := by unfold dt dbl; grind
  rw [h1, h2, h3]
  generalize cs a b * cs a b * 50 = x
  generalize dt a a * dt b b = y
  generalize dt a b = z
  congr 1
  · apply decide_eq_decide.2; omega
  · apply decide_eq_decide.2; omega
theorem changed0 (e : S38) : F19 e 0 = some (back e) := by
  rw [F19_eq]; simp only [F57_eq]; rfl
theorem changed1 {e : S38} (h : Sm e) : F19 e 1 = some (each rot e) := by
  obtain ⟨⟨_, a1, a2⟩, ⟨_, b1, b2⟩, ⟨_, c1, c2⟩⟩ := h
  rw [F19_eq]
  simp only [F57_eq, show ((1 : Int) == 1) = true from rfl, show ((1 : Int) == 0) = false from rfl, cond_true, cond_false, Option.bind_some]
  rw [show wr .i64 (0 - e.f2.f1) = -e.f2.f1 from (w64 (by omega) (by omega)).trans (by omega), show wr .i64 (0 - e.f3.f1) = -e.f3.f1 from (w64 (by omega) (by omega)).trans (by omega), show wr .i64 (0 - e.f4.f1) = -e.f4.f1 from (w64 (by omega) (by omega)).trans (by omega)]
  rfl
theorem changed2 {e : S38} (h : Sm e) : F19 e 2 = some (each dbl e) := by
  obtain ⟨⟨⟨a3, a4⟩, a1, a2⟩, ⟨⟨b3, b4⟩, b1, b2⟩, ⟨⟨c3, c4⟩, c1, c2⟩⟩ := h
  rw [F19_eq]
  simp only [F57_eq, show ((2 : Int) == 1) = false from rfl, show ((2 : Int) == 2) = true from rfl, show ((2 : Int) == 0) = false from rfl, cond_true, cond_false, Option.bind_some]
  rw [show wr .i64 (2 * e.f2.f0) = 2 * e.f2.f0 from w64 (by omega) (by omega), show wr .i64 (2 * e.f3.f0) = 2 * e.f3.f0 from w64 (by omega) (by omega), show wr .i64 (2 * e.f4.f0) = 2 * e.f4.f0 from w64 (by omega) (by omega),
    show wr .i64 (2 * e.f2.f1) = 2 * e.f2.f1 from w64 (by omega) (by omega), show wr .i64 (2 * e.f3.f1) = 2 * e.f3.f1 from w64 (by omega) (by omega), show wr .i64 (2 * e.f4.f1) = 2 * e.f4.f1 from w64 (by omega) (by omega)]
  rfl
theorem fine_rot (p : S36) (h : SmP p) : Fine (rot p) := by unfold SmP at h; unfold Fine rot; simp only; omega
theorem fine_dbl (p : S36) (h : SmP p) : Fine (dbl p) := by unfold SmP at h; unfold Fine dbl; simp only; omega
theorem rem_b (x : Int) : -1048576 ≤ Int.tmod x 1048576 ∧ Int.tmod x 1048576 ≤ 1048576 := by
  have h1 := Int.tmod_lt_of_pos x (show (0 : Int) < 1048576 by decide)
  have h2 := Int.tmod_lt_of_pos (-x) (show (0 : Int) < 1048576 by decide)
  rw [Int.neg_tmod] at h2
  omega
def rm (p : S32) : S36 := ⟨Int.tmod (wr .i64 p.f0) 1048576, Int.tmod (wr .i64 p.f1) 1048576⟩
theorem rm_sm (p : S32) : SmP (rm p) := ⟨rem_b _, rem_b _⟩
def edgeE (x : S33) (b : Bool) : S38 := ⟨0, b, rm x.f0, if b = true then rm x.f1 else ⟨0, 0⟩, rm x.f2⟩
theorem edge_sm (x : S33) (b : Bool) : Sm (edgeE x b) := by
  unfold Sm edgeE
  refine ⟨rm_sm _, ?_, rm_sm _⟩
  cases b
  · simp [SmP]
  · exact rm_sm _
theorem edge_f (x : S33) (b : Bool) : F16 x b = some (edgeE x b) := by
  have e1 : wr .i64 ((0 : Int) + 1) = 1 := by decide
  have e2 : wr .i64 ((1 : Int) + 1) = 2 := by decide
  have e3 : wr .i64 ((2 : Int) + 1) = 3 := by decide
  rw [F16_eq, L16_1_eq, cT (by decide), cT (by decide), cT (by decide), e1, L16_1_eq, cT (by decide), cF (by decide), cT (by decide), cF (by decide), cT (by decide), e2, L16_1_eq, cT (by decide), cF (by decide), cF (by decide), grd_p (by decide), cF (by decide), cF (by decide), grd_p (by decide), e3, L16_1_eq, cF (by decide), L16_0_eq, L16_0_eq]
  unfold edgeE rm
  cases b <;> rfl
theorem turned_f {e f : S38} (he : Sm e) (hf : Sm f) (h1 : OneE e = true) (h2 : OneE f = true) : L4_0 e f = some true := by
  have a0 := cIs_f e f
  have a1 := cIs_f (back f) (back e)
  have a2 := cIs_f (each rot e) (each rot f)
  have a3 := cIs_f (each dbl e) (each dbl f)
  rw [h1, h2] at a0
  rw [one_back h1, one_back h2, isC_back] at a1
  rw [one_each rot_inj rfl fine_rot he h1, one_each rot_inj rfl fine_rot hf h2, isC_rot] at a2
  rw [one_each dbl_inj rfl fine_dbl he h1, one_each dbl_inj rfl fine_dbl hf h2, isC_dbl] at a3
  simp only [Bool.and_self, if_true] at a0 a1 a2 a3
  rw [L4_0_eq, bnd a0, bnd (changed0 f), bnd (changed0 e), bnd a1, bnd (changed1 he), bnd (changed1 hf), bnd a2, bnd (changed2 he), bnd (changed2 hf), bnd a3]
  simp
theorem Pure.CornerTurned (x0 : S33) (x1 : S33) (x2 : S34) : wf33 x0 → wf33 x1 → wf34 x2 → F4 x0 x1 x2 = some true := by
  intro _ _ _
  rw [F4_eq, bnd F12_true, bnd (edge_f _ _), bnd (edge_f _ _), bnd (rone_f _), bnd (rone_f _)]
  have he := edge_sm x0 x2.f0
  have hf := edge_sm x1 x2.f1
  generalize edgeE x0 x2.f0 = e at he ⊢
  generalize edgeE x1 x2.f1 = f at hf ⊢
  cases h1 : OneE e
  · rfl
  · cases h2 : OneE f
    · rfl
    · exact turned_f he hf h1 h2
end Go.Proofs.Ytalgppclaolonaa.Ev
