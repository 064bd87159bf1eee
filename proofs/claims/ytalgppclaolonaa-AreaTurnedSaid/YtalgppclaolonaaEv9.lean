/- Values without memory: places in what is told; parts of rows; lengths. -/
import Derived.Test.YtalgppclaolonaaEv8
import Derived.Laws.Tables
namespace Go.Proofs.Ytalgppclaolonaa.Ev
open Go
set_option linter.unusedVariables false
set_option linter.unusedSimpArgs false
section
variable {D : Tys} {P : Program}
variable {R : Type} {H : HH D R} {K : Kx} {β : Nat → Option Loc} {F : Nat → Prop} {fr : Tr (V D.S)} {hp : Tr (B D.S)} {a : Act} {w : World} {o : Oper} {d : Nat} {k : KK D R} {r : R}
theorem nthF_eq : ∀ {l : List (Nat × Nat × Bool)} {n : Nat} {x}, nthF l n = some x → l[n]? = some x
  | [], _, _, h => by cases h
  | y :: l, 0, x, h => h
  | y :: l, n + 1, x, h => nthF_eq (l := l) (n := n) h
theorem cellsOf_info {t : TypeId} (h : 0 < P.cellsOf t) : ∃ j, P.info? t = some j ∧ j.size = P.cellsOf t := by
  unfold Program.cellsOf at h ⊢
  cases e : P.info? t with
  | none => rw [e] at h; simp at h
  | some j => exact ⟨j, rfl, by simp⟩
/-- A field, as the type's table says. -/
theorem field_at {t : TypeId} {ti : TI D.S} (ok : TiOk D P t ti) {fs : List (Nat × Nat × Bool)} (hd : ti.d = .struct fs) {f o s : Nat} {g : Bool} (h : nthF fs f = some (o, s, g)) :
    ∃ fl fd j, P.underlying t = some (.struct fl) ∧ fl[f]? = some fd ∧ fd.offset = o ∧ P.info? fd.type = some j ∧ j.size = s ∧ aggOf P fd.type = g ∧ 0 < s ∧ o + s ≤ ti.size := by
  have hu := ok.desc
  rw [hd] at hu
  obtain ⟨fl, h1, h2⟩ := hu
  have hm := nthF_eq h
  have hpos := ok.fld fs hd _ (List.mem_of_getElem? hm)
  rw [h2, List.getElem?_map] at hm
  obtain ⟨fd, hfd, he⟩ := Option.map_eq_some_iff.mp hm
  simp only [Prod.mk.injEq] at he
  obtain ⟨rfl, rfl, rfl⟩ := he
  obtain ⟨j, hj, hs⟩ := cellsOf_info hpos.1
  exact ⟨fl, fd, j, h1, by rw [← Array.getElem?_toList]; exact hfd, rfl, hj, hs, rfl, hpos.1, hpos.2⟩
theorem run_fieldAt {t : TypeId} {fl : Array Field} {fd : Field} {f : Nat} {j : TypeInfo} (hu : P.underlying t = some (.struct fl)) (hf : fl[f]? = some fd) (hj : P.info? fd.type = some j) (hp : 0 < j.size) (w : World) (b o : Nat) :
    (Instr.fieldAt t (.pointer (some ⟨b, o, none⟩)) f).run P w = .ok (.pointer (some ⟨b, o + fd.offset, none⟩)) w := by
  have hn : ¬ j.size = 0 := by omega
  simp [Instr.fieldAt, run_underlying hu, hf, Instr.sureAddr, fieldPlace, run_sizeOf' hj, hn, Addr.add_lit]
theorem ti_struct {t : TypeId} {fs} {q1 : Bool} {q2 q3 : Nat} {q4 : List (C D.S)} {q5 : Option Ty} : (⟨.struct fs, q1, q2, q3, q4, q5, []⟩ : TI D.S).d = .struct fs := rfl
theorem op_fieldAddr (lw : Lawful D P) (s : Sim K β F fr hp a w) {t : TypeId} {x : Operand} {f : Nat} (ho : o.op = .fieldAddr t x f) (h : opK D H (.fieldAddr t x f) d fr hp k = some r) : Post D P K o a w k r := by
  simp only [opK, arrK_eq] at h
  split at h
  · rename_i fs q1 q2 q3 q4 q5 q50 hti
    have ok := lk_ti lw hti
    split at h
    · rename_i o' s' g' i off hf hc
      obtain ⟨fl, fd, j, h1, h2, h3, h4, h5, _, h6, _⟩ := field_at ok rfl hf
      obtain ⟨cs, L, g1, g2, g3⟩ := evC_ok s hc
      exact Post.pure s h (by simp [execOp, ho, g3, run_fieldAt h1 h2 h4 (by omega)]; rfl) ⟨cs, L, g1, g2, by rw [h3, Nat.add_assoc]⟩
    · rename_i o' s' g' i e off hf hc
      obtain ⟨fl, fd, j, h1, h2, h3, h4, h5, _, h6, _⟩ := field_at ok rfl hf
      obtain ⟨t2, l2, L, g1, g2, g4, g3⟩ := evC_ok s hc
      exact Post.pure s h (by simp [execOp, ho, g3, run_fieldAt h1 h2 h4 (by omega)]; rfl) ⟨t2, l2, L, g1, g2, g4, by rw [h3, Nat.add_assoc]⟩
    · rename_i o' s' g' t2 l2 e off hf hc
      obtain ⟨fl, fd, j, h1, h2, h3, h4, h5, _, h6, _⟩ := field_at ok rfl hf
      have rc : RP D w F (.fptr t2 l2 e off) (a.eval x) := evC_ok s hc
      generalize hz : a.eval x = z at rc
      cases rc with
      | fptr _ _ _ _ b o2 f2 hb he hf2 hr2 =>
        refine Post.pure s h (cv := .pointer (some ⟨b, o2 + e * size D t2 + (off + o'), none⟩)) (by simp [execOp, ho, hz, run_fieldAt h1 h2 h4 (by omega), h3, Nat.add_assoc]) (.fptr t2 l2 e (off + o') b o2 f2 hb he hf2 hr2)
    · cases h
  · cases h
theorem RL.sub {w F h β} {cs l : List (C D.S)} {vs : List Value} (r : RL D w F h β cs vs) {off n : Nat} (e : subS off n cs = some l) : RL D w F h β l ((vs.drop off).take n) := by
  have e1 := subS_eq e
  refine ⟨by rw [e1.1, List.length_take, List.length_drop, List.length_take, List.length_drop, r.1], fun j x v hx hv => ?_⟩
  have hj : j < n := by
    have := (List.getElem?_eq_some_iff.mp hv).1
    rw [List.length_take] at this; omega
  rw [subS_at e j hj] at hx
  rw [List.getElem?_take_of_lt hj, List.getElem?_drop] at hv
  exact r.2 (off + j) x v hx hv
theorem run_part {t : TypeId} {j : TypeInfo} (hj : P.info? t = some j) (hu : (P.underlying t).isSome) (hp : 0 < j.size) {g : Bool} (hg : aggOf P t = g) {w F h β} {cs l : List (C D.S)} {vs : Array Value} {x : A D.S} (r : RL D w F h β cs vs.toList) {off : Nat} (e : subS off j.size cs = some l) (hm : mkA g l = some x) :
    ∃ v, (part t vs off).run P w = .ok v w ∧ RA D w F h β x v := by
  have rl := r.sub e
  have e1 := subS_eq e
  have hlen : off + j.size ≤ vs.size := by
    have hz : vs.toList.length = vs.size := Array.length_toList
    have := r.1
    omega
  obtain ⟨_, m1, m2⟩ := mkA_eq hm
  have hi := run_isAgg (P := P) hu w
  rw [hg] at hi
  cases g
  · obtain ⟨c, rfl, rfl⟩ := m2 rfl
    have ho : off < vs.size := by omega
    refine ⟨vs[off], by simp [part, hi, ho], ?_⟩
    refine rl.2 0 c _ rfl ?_
    rw [List.getElem?_take_of_lt hp, List.getElem?_drop, Nat.add_zero, Array.getElem?_toList, Array.getElem?_eq_getElem ho]
  · obtain rfl := m1 rfl
    refine ⟨.agg (vs.extract off (off + j.size)), by simp [part, hi, run_sizeOf' hj], _, rfl, ?_⟩
    rw [Array.toList_extract]
    simpa [List.extract] using rl
theorem und_of_info {t : TypeId} {j : TypeInfo} (hj : P.info? t = some j) (h : aggOf P t = true ∨ (P.underlying t).isSome) : (P.underlying t).isSome := by
  rcases h with h | h
  · unfold aggOf at h
    cases e : P.underlying t with
    | none => rw [e] at h; cases h
    | some x => rfl
  · exact h
theorem op_field (lw : Lawful D P) (s : Sim K β F fr hp a w) {t : TypeId} {x : Operand} {f : Nat} (ho : o.op = .field t x f) (h : opK D H (.field t x f) d fr hp k = some r) : Post D P K o a w k r := by
  simp only [opK, arrK_eq] at h
  split at h
  · rename_i fs q1 q2 q3 q4 q5 q50 hti
    have ok := lk_ti lw hti
    split at h
    · rename_i o' s' g' cs hf hx
      split at h
      · rename_i l hl
        split at h
        · rename_i x' hm
          obtain ⟨fl, fd, j, h1, h2, h3, h4, h5, h7, h6, _⟩ := field_at ok rfl hf
          obtain ⟨vs, e, rl⟩ := evA_ok s hx
          subst h5
          obtain ⟨v, hv, ra⟩ := run_part h4 (ok.fund fl fd f h1 h2) h6 h7 rl hl hm
          exact Post.pure s h (cv := v) (by simp [execOp, ho, e, Instr.field, run_underlying h1, h2, asAgg, h3, hv]) ra
        · cases h
      · cases h
    · cases h
  · cases h
theorem szOk_eq (lw : Lawful D P) {e : TypeId} {t : Ty} (h : szOk D e t = true) : ∃ j, P.info? e = some j ∧ j.size = size D t := by
  unfold szOk at h
  split at h
  · rename_i ti hti
    obtain ⟨j, hj, hs, _⟩ := (lk_ti lw hti).info
    exact ⟨j, hj, by rw [hs]; exact Nat.eq_of_beq_eq_true h⟩
  · cases h
theorem idxK_some {R : Type} {len i : Int} {k : Option R} {r : R} (h : idxK len i k = some r) : 0 ≤ i ∧ i < len ∧ k = some r := by
  unfold idxK at h
  obtain ⟨h1, h⟩ := bK_some h
  obtain ⟨h2, h⟩ := bK_some h
  exact ⟨of_decide_eq_true h1, of_decide_eq_true h2, h⟩
theorem run_indexAt_slice {t e : TypeId} {j : TypeInfo} (hu : P.underlying t = some (.slice e)) (hj : P.info? e = some j) (w : World) {b o len cap : Nat} {k1 : IntKind} {i : Int} (h0 : 0 ≤ i) (h1 : i < (len : Int)) :
    (Instr.indexAt t (.slice (some ⟨b, o, none⟩) len cap) (.int k1 i)).run P w = .ok (.pointer (some ⟨b, o + i.toNat * j.size, none⟩)) w := by
  simp [Instr.indexAt, asIntOf, run_underlying hu, run_sizeOf' hj, h0, h1, Addr.add_lit]
theorem run_indexAt_array {t e : TypeId} {n : Nat} {j : TypeInfo} (hu : P.underlying t = some (.array n e)) (hj : P.info? e = some j) (w : World) {b o : Nat} {k1 : IntKind} {i : Int} (h0 : 0 ≤ i) (h1 : i < (n : Int)) :
    (Instr.indexAt t (.pointer (some ⟨b, o, none⟩)) (.int k1 i)).run P w = .ok (.pointer (some ⟨b, o + i.toNat * j.size, none⟩)) w := by
  simp [Instr.indexAt, asIntOf, run_underlying hu, run_sizeOf' hj, h0, h1, Addr.add_lit, Instr.sureAddr]
theorem evC_int (s : Sim K β F fr hp a w) {x : Operand} {k1 : IntKind} {n : Int} (h : evC fr x = some (.int k1 n)) : a.eval x = .int k1 n := by
  have r : RP D w F (.int k1 n) (a.eval x) := evC_ok s h
  generalize a.eval x = z at r
  cases r; rfl
theorem lt_toNat {i : Int} {n : Nat} (h0 : 0 ≤ i) (h : i < (n : Int)) : i.toNat < n := by omega
theorem op_indexAddr (lw : Lawful D P) (s : Sim K β F fr hp a w) {t : TypeId} {x y : Operand} (ho : o.op = .indexAddr t x y) (h : opK D H (.indexAddr t x y) d fr hp k = some r) : Post D P K o a w k r := by
  simp only [opK, arrK_eq] at h
  split at h
  · rename_i e q1 q2 q3 q4 q5 q50 c k1 i hti hc hi
    have hu : P.underlying t = some (.slice e) := (lk_ti lw hti).desc
    have ey := evC_int s hi
    split at h
    · rename_i t2 l2
      split at h
      · rename_i hsz
        obtain ⟨j, hj, hs⟩ := szOk_eq lw hsz
        obtain ⟨h0, h1, h⟩ := idxK_some h
        have rc : RP D w F (.lst t2 l2) (a.eval x) := evC_ok s hc
        generalize hz : a.eval x = z at rc
        cases rc with
        | lst0 => simp at h1; omega
        | lst _ _ b o2 cap f2 hb hcap hf2 hr2 =>
          have hlt := lt_toNat h0 h1
          refine Post.pure s h (cv := .pointer (some ⟨b, o2 + i.toNat * size D t2 + 0, none⟩)) (by simp [execOp, ho, hz, ey, run_indexAt_slice hu hj w h0 h1, hs]) (.fptr t2 l2 i.toNat 0 b o2 f2 hb hlt hf2 hr2)
      · cases h
    · rename_i id
      split at h
      · rename_i t2 l2 hl
        split at h
        · rename_i hsz
          obtain ⟨j, hj, hs⟩ := szOk_eq lw hsz
          obtain ⟨h0, h1, h⟩ := idxK_some h
          obtain ⟨t3, l3, g1, g⟩ := evC_ok s hc
          rw [hl] at g1
          injection g1 with g1
          injection g1 with g4 g5
          subst g4
          obtain rfl := eq_of_heq g5
          rcases g with ⟨_, rfl, _⟩ | ⟨L, cap, b1, r1, r2, r3⟩
          · simp at h1; omega
          · refine Post.pure s h (cv := .pointer (some ⟨L.b, L.o + i.toNat * size D t2 + 0, none⟩)) (by simp [execOp, ho, r3, ey, run_indexAt_slice hu hj w h0 h1, hs]) ⟨t2, l2, L, hl, b1, lt_toNat h0 h1, rfl⟩
        · cases h
      · cases h
    · rename_i id off n
      split at h
      · rename_i t2 l2 hl
        split at h
        · rename_i hsz
          obtain ⟨j, hj, hs⟩ := szOk_eq lw hsz
          obtain ⟨h0, h1, h⟩ := idxK_some h
          obtain ⟨t3, l3, g1, g0, g⟩ := evC_ok s hc
          rw [hl] at g1
          injection g1 with g1
          injection g1 with g4 g5
          subst g4
          obtain rfl := eq_of_heq g5
          have hlt := lt_toNat h0 h1
          rcases g with ⟨b0, aa, r3⟩ | ⟨L, cap, b1, r1, r2, r3 | ⟨rfl, _⟩⟩
          · rcases s.blk id _ hl with ⟨_, rfl⟩ | ⟨L', _, _, q, _⟩
            · simp at g0; omega
            · rw [b0] at q; cases q
          · refine Post.pure s h (cv := .pointer (some ⟨L.b, L.o + (off + i.toNat) * size D t2 + 0, none⟩)) (by simp [execOp, ho, r3, ey, run_indexAt_slice hu hj w h0 h1, hs, Nat.add_mul, Nat.add_assoc]) ⟨t2, l2, L, hl, b1, by omega, rfl⟩
          · omega
        · cases h
      · cases h
    · cases h
  · rename_i len esz g' q1 q2 q3 q4 q5 q50 id off k1 i hti hc hi
    obtain ⟨e, hu, he, hsz, _, hpos⟩ := (lk_ti lw hti).desc
    obtain ⟨j, hj, hs⟩ := cellsOf_info (P := P) (t := e) (by rw [hsz]; exact hpos)
    have ey := evC_int s hi
    obtain ⟨h0, h1, h⟩ := idxK_some h
    obtain ⟨cs, L, g1, g2, g3⟩ := evC_ok s hc
    refine Post.pure s h (cv := .pointer (some ⟨L.b, L.o + (off + i.toNat * esz), none⟩)) (by simp [execOp, ho, g3, ey, run_indexAt_array hu hj w h0 h1, hs, hsz, Nat.add_assoc]) ⟨cs, L, g1, g2, rfl⟩
  · rename_i len esz g' q1 q2 q3 q4 q5 q50 id e0 off k1 i hti hc hi
    obtain ⟨e, hu, he, hsz, _, hpos⟩ := (lk_ti lw hti).desc
    obtain ⟨j, hj, hs⟩ := cellsOf_info (P := P) (t := e) (by rw [hsz]; exact hpos)
    have ey := evC_int s hi
    obtain ⟨h0, h1, h⟩ := idxK_some h
    obtain ⟨t2, l2, L, g1, g2, g4, g3⟩ := evC_ok s hc
    refine Post.pure s h (cv := .pointer (some ⟨L.b, L.o + e0 * size D t2 + (off + i.toNat * esz), none⟩)) (by simp [execOp, ho, g3, ey, run_indexAt_array hu hj w h0 h1, hs, hsz, Nat.add_assoc]) ⟨t2, l2, L, g1, g2, g4, rfl⟩
  · rename_i len esz g' q1 q2 q3 q4 q5 q50 t2 l2 e0 off k1 i hti hc hi
    obtain ⟨e, hu, he, hsz, _, hpos⟩ := (lk_ti lw hti).desc
    obtain ⟨j, hj, hs⟩ := cellsOf_info (P := P) (t := e) (by rw [hsz]; exact hpos)
    have ey := evC_int s hi
    obtain ⟨h0, h1, h⟩ := idxK_some h
    have rc : RP D w F (.fptr t2 l2 e0 off) (a.eval x) := evC_ok s hc
    generalize hz : a.eval x = z at rc
    cases rc with
    | fptr _ _ _ _ b o2 f2 hb hlt hf2 hr2 =>
      refine Post.pure s h (cv := .pointer (some ⟨b, o2 + e0 * size D t2 + (off + i.toNat * esz), none⟩)) (by simp [execOp, ho, hz, ey, run_indexAt_array hu hj w h0 h1, hs, hsz, Nat.add_assoc]) (.fptr t2 l2 e0 _ b o2 f2 hb hlt hf2 hr2)
  · cases h
end
end Go.Proofs.Ytalgppclaolonaa.Ev
