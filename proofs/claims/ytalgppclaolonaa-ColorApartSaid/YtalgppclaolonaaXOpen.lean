/- What a law's argument of any printed kind is, once it can be read: a Lean value of that kind, in bounds. (Own words over the print's kinds.) -/
import Derived.SizedLaws
import Derived.ChangeSlices
import Derived.OpenShut
import Derived.LoopN
import Derived.Shelf.Spec.BitsCarry
import Derived.Test.YtalgppclaolonaaWLast
import Derived.Test.YtalgppclaolonaaWMore
import Derived.Test.YtalgppclaolonaaWTab
import Derived.Test.YtalgppclaolonaaWWords
namespace Go.Proofs.Ytalgppclaolonaa.XOpen
open Go.ChangeShapes Go.WideShapes Go.RowKit Go.Proofs.YtalgppclaolonaaW.PrintWords Go.Proofs.YtalgppclaolonaaW.PrintLast Go.Proofs.YtalgppclaolonaaW.PrintMore
set_option linter.unusedVariables false

theorem Addr.add_add' (a : Addr) (i j : Nat) : (a.add i).add j = a.add (i + j) := by
  simp only [Addr.add]
  by_cases hi : i = 0 <;> by_cases hj : j = 0 <;> simp [hi, hj, Nat.add_assoc]

/-- What can be read at type t is a value of kind d that satisfies wf. -/
def Opens {α : Type} (P : Program) (t : TypeId) (d : Kd α) (wf : α → Prop) : Prop :=
  ∀ (H : Type) (enc : TypeId × Value → H) (w : World) (base : Nat) (spare : Nat → Bool) (held : Bool) (fuel : Nat) (cs : List Value) (x : DataW H × List MemPlace),
    DataW.trod enc P w base spare held fuel t cs = some x → (∀ n ∈ x.1.weights P t, n ≤ reachBytes) → ∃ y, d.K w y cs ∧ wf y

variable {P : Program}

theorem Opens.bool {t : TypeId} (hu : P.underlying t = some .bool) : Opens P t Kd.bool (fun _ => True) := by
  intro H enc w base spare held fuel cs x h _
  obtain ⟨b, rfl, _⟩ := DataW.trod_bool hu h
  exact ⟨b, rfl, trivial⟩

theorem Opens.int {t : TypeId} {k : IntKind} (hu : P.underlying t = some (.int k)) : Opens P t (Kd.int k) (fun n => (Lit.int k n).wf = true) := by
  intro H enc w base spare held fuel cs x h _
  obtain ⟨n, rfl, _, hw⟩ := DataW.trod_int hu h
  exact ⟨n, rfl, hw⟩

theorem Opens.string {t : TypeId} (hu : P.underlying t = some .string) : Opens P t Kd.string (fun s => s.size ≤ 140737488351232) := by
  intro H enc w base spare held fuel cs x h hw
  obtain ⟨s, rfl, rfl, _⟩ := DataW.trod_string hu h
  refine ⟨s, rfl, ?_⟩
  have := hw s.data.toList.length (by simp [DataW.weights])
  simpa [reachBytes] using this

theorem weightsAll_mem {H : Type} {e : TypeId} : ∀ {ds : List (DataW H)} {d : DataW H}, d ∈ ds → ∀ n ∈ d.weights P e, n ∈ DataW.weightsAll P e ds
  | [], _, h, _, _ => by simp at h
  | d0 :: ds, d, h, n, hn => by
    rw [DataW.weightsAll, List.mem_append]
    rcases List.mem_cons.1 h with rfl | h
    · exact .inl hn
    · exact .inr (weightsAll_mem h n hn)

theorem Opens.slice {α : Type} {t e : TypeId} {d : Kd α} {wf : α → Prop} {B : Nat} (hu : P.underlying t = some (.slice e)) (he : Opens P e d wf) (hc : P.cellsOf e = d.sz) (hB : P.bytesOf e = B) :
    Opens P t (Kd.slice e d) (fun l => l.length * B ≤ 140737488351232 ∧ l.length ≤ 9223372036854775807 ∧ ∀ x ∈ l, wf x) := by
  intro H enc w base spare held fuel cs x h hw
  rcases DataW.trod_slice hu h with ⟨rfl, rfl⟩ | ⟨a, len, cap, elems, rest, n, _, rfl, rfl, hb, hl, hm, hlen, hel, hsp, hns⟩
  · refine ⟨[], ⟨none, 0, rfl, by simp, ?_⟩, by simp, by simp, by simp⟩
    exact ⟨rfl, by simp, fun h => absurd h (by simp)⟩
  · have hw0 : (elems.length + rest.length) * B ≤ 140737488351232 := by
      have := hw ((elems.length + rest.length) * P.bytesOf e) (by simp [DataW.weights, hu])
      rw [hB] at this
      simpa [reachBytes] using this
    have each : ∀ i, i < len → ∃ (y : α) (c : List Value), (d.K w y c ∧ wf y) ∧ w.cells? base (a.add (i * d.sz)) d.sz = some c := by
      intro i hi
      have h1 := hel i hi
      have hi' : i < elems.length := by omega
      rw [List.getElem?_eq_getElem hi', hc, Option.bind_eq_some_iff] at h1
      obtain ⟨c, h2, h3⟩ := h1
      obtain ⟨y, hy⟩ := he H enc w base spare held n c _ h3 (fun m hm => hw m (by
        simp only [DataW.weights, hu]
        exact List.mem_cons_of_mem _ (List.mem_append_left _ (weightsAll_mem (List.mem_map.2 ⟨elems[i], List.getElem_mem _, rfl⟩) m hm))))
      exact ⟨y, c, hy, h2⟩
    have build : ∀ m, m ≤ len → ∃ l : List α, l.length = m ∧ ∀ j p, l[j]? = some p → ∃ c, (d.K w p c ∧ wf p) ∧ w.cells? base (a.add (j * d.sz)) d.sz = some c := by
      intro m
      induction m with
      | zero => exact fun _ => ⟨[], rfl, by simp⟩
      | succ m ih =>
        intro hm
        obtain ⟨l, hl, hp⟩ := ih (by omega)
        obtain ⟨y, c, hy, hcc⟩ := each m (by omega)
        refine ⟨l ++ [y], by simp [hl], fun j p hj => ?_⟩
        rcases Nat.lt_or_ge j l.length with hjl | hjl
        · rw [List.getElem?_append_left hjl] at hj
          exact hp j p hj
        · rw [List.getElem?_append_right hjl] at hj
          have hj0 : j - l.length = 0 := by
            rcases Nat.eq_zero_or_pos (j - l.length) with h0 | h0
            · exact h0
            · rw [List.getElem?_eq_none (by simp; omega)] at hj
              simp at hj
          rw [hj0] at hj
          simp at hj
          subst hj
          have : j = m := by omega
          subst this
          exact ⟨c, hy, hcc⟩
    obtain ⟨l, hll, hp⟩ := build len (Nat.le_refl _)
    refine ⟨l, ⟨some a, cap, by rw [hll], by omega, ?_⟩, ?_, ?_, ?_⟩
    · refine ⟨rfl, ?_, fun _ => ⟨a, rfl, fun j p hj => ?_⟩⟩
      · simp only [maxLen] at hm; omega
      · obtain ⟨c, hk, hcc⟩ := hp j p hj
        have h3 := World.cells?_some hcc
        refine ⟨c, d.K_len hk.1, hk.1, fun i u hi => ?_⟩
        have hlt := (List.getElem?_eq_some_iff.1 hi).1
        have h4 := h3.2.2 i (by rw [d.K_len hk.1] at hlt; exact hlt)
        rw [Addr.add_add'] at h4
        rw [h4, hi]
    · rw [hll]
      exact Nat.le_trans (Nat.mul_le_mul_right _ (by omega)) hw0
    · simp only [maxLen] at hm; omega
    · intro p hpm
      obtain ⟨j, hj⟩ := List.getElem?_of_mem hpm
      obtain ⟨c, hk, _⟩ := hp j p hj
      exact hk.2

/-- Several values in line, each at its place. -/
def OpensF {α : Type} (P : Program) (fs : List (TypeId × Nat)) (d : Kd α) (wf : α → Prop) (o : Nat) : Prop :=
  ∀ (H : Type) (enc : TypeId × Value → H) (w : World) (base : Nat) (spare : Nat → Bool) (held : Bool) (fuel : Nat) (cs : List Value) (xs : List (DataW H × List MemPlace)),
    xs.length = fs.length → (∀ (i : Nat) (f : TypeId × Nat), fs[i]? = some f → DataW.trod enc P w base spare held fuel f.1 ((cs.drop f.2).take (P.cellsOf f.1)) = xs[i]?) →
    (∀ n ∈ DataW.weightsEach P (fs.map (·.1)) (xs.map (·.1)), n ≤ reachBytes) → ∃ y, d.K w y ((cs.drop o).take d.sz) ∧ wf y

theorem OpensF.one {α : Type} {t : TypeId} {o : Nat} {d : Kd α} {wf : α → Prop} (h : Opens P t d wf) (hc : P.cellsOf t = d.sz) : OpensF P [(t, o)] d wf o := by
  intro H enc w base spare held fuel cs xs hl hx hw
  match xs, hl with
  | [x], _ =>
    have h0 := hx 0 (t, o) rfl
    simp only [List.getElem?_cons_zero] at h0
    rw [hc] at h0
    exact h H enc w base spare held fuel _ x h0 (fun n hn => hw n (by simp [DataW.weightsEach, hn]))

theorem OpensF.cons {α β : Type} {t : TypeId} {o o' : Nat} {d : Kd α} {d' : Kd β} {wf : α → Prop} {wf' : β → Prop} {fs : List (TypeId × Nat)} (h : Opens P t d wf) (hc : P.cellsOf t = d.sz) (hr : OpensF P fs d' wf' o') (ho : o + d.sz = o') :
    OpensF P ((t, o) :: fs) (Kd.pair d d') (fun y => wf y.1 ∧ wf' y.2) o := by
  intro H enc w base spare held fuel cs xs hl hx hw
  match xs, hl with
  | x :: xs, hl =>
    have h0 := hx 0 (t, o) rfl
    simp only [List.getElem?_cons_zero] at h0
    rw [hc] at h0
    obtain ⟨y, hy, hwy⟩ := h H enc w base spare held fuel _ x h0 (fun n hn => hw n (by simp [DataW.weightsEach, hn]))
    obtain ⟨z, hz, hwz⟩ := hr H enc w base spare held fuel cs xs (by simpa using hl) (fun i f hf => by
      have := hx (i + 1) f (by simpa using hf)
      simpa using this) (fun n hn => hw n (by simp [DataW.weightsEach, hn]))
    refine ⟨(y, z), ⟨(cs.drop o).take d.sz, (cs.drop o').take d'.sz, ?_, hy, hz⟩, hwy, hwz⟩
    show (cs.drop o).take (d.sz + d'.sz) = _
    rw [List.take_add, List.drop_drop, ho]

theorem Opens.struct {α : Type} {t : TypeId} {fs : Array Field} {l : List (TypeId × Nat)} {d : Kd α} {wf : α → Prop} (hu : P.underlying t = some (.struct fs)) (hf : fs.toList.map (fun f => (f.type, f.offset)) = l) (h : OpensF P l d wf 0) (hc : P.cellsOf t = d.sz) : Opens P t d wf := by
  intro H enc w base spare held fuel cs x hx hw
  obtain ⟨xs, n, _, rfl, hl, hxl, hget⟩ := DataW.trod_struct hu hx
  subst hf
  obtain ⟨y, hy, hwy⟩ := h H enc w base spare held n cs xs (by simp [hxl]) (fun i f hf => by
    rw [List.getElem?_map, Option.map_eq_some_iff] at hf
    obtain ⟨g, hg, rfl⟩ := hf
    exact hget i g (by simpa using hg)) (fun m hm => hw m (by
      simp only [DataW.weights, hu]
      rw [List.map_map] at hm
      exact hm))
  refine ⟨y, ?_, hwy⟩
  rw [List.drop_zero, List.take_of_length_le (by omega)] at hy
  exact hy

theorem weightsEach_all {H : Type} {e : TypeId} : ∀ (l : List (TypeId × Nat)) (xs : List (DataW H)), (∀ f ∈ l, f.1 = e) → ∀ n ∈ DataW.weightsEach P (l.map (·.1)) xs, n ∈ DataW.weightsAll P e xs
  | [], _, _, n, hn => by simp [DataW.weightsEach] at hn
  | f :: l, [], _, n, hn => by simp [DataW.weightsEach] at hn
  | f :: l, x :: xs, hl, n, hn => by
    simp only [List.map_cons, DataW.weightsEach, List.mem_append] at hn
    rw [DataW.weightsAll, List.mem_append]
    rcases hn with hn | hn
    · rw [hl f (by simp)] at hn
      exact .inl hn
    · exact .inr (weightsEach_all l xs (fun g hg => hl g (by simp [hg])) n hn)

theorem Opens.array {α : Type} {t e : TypeId} {n : Nat} {l : List (TypeId × Nat)} {d : Kd α} {wf : α → Prop} (hu : P.underlying t = some (.array n e)) (hf : (List.range n).map (fun i => (e, i * P.cellsOf e)) = l) (h : OpensF P l d wf 0) (hc : P.cellsOf t = d.sz) : Opens P t d wf := by
  intro H enc w base spare held fuel cs x hx hw
  obtain ⟨xs, m, _, rfl, hl, hxl, hget⟩ := DataW.trod_array hu hx
  obtain ⟨y, hy, hwy⟩ := h H enc w base spare held m cs xs (by rw [← hf]; simp [hxl]) (fun i f hi => by
    rw [← hf, List.getElem?_map, Option.map_eq_some_iff] at hi
    obtain ⟨j, hj, rfl⟩ := hi
    have hlt := (List.getElem?_eq_some_iff.1 hj).1
    have hji : j = i := by
      rw [List.getElem?_range (by simpa using hlt)] at hj
      exact (Option.some.inj hj).symm
    subst hji
    exact hget j (by simpa using hlt)) (fun k hk => hw k (by
      simp only [DataW.weights, hu]
      refine weightsEach_all l _ (fun f hfm => ?_) k hk
      rw [← hf, List.mem_map] at hfm
      obtain ⟨i, _, rfl⟩ := hfm
      rfl))
  refine ⟨y, ?_, hwy⟩
  rw [List.drop_zero, List.take_of_length_le (by omega)] at hy
  exact hy

theorem Opens.iso {α β : Type} {t : TypeId} {d : Kd α} {wf : α → Prop} (h : Opens P t d wf) (f : β → α) (g : α → β) (hg : ∀ a, f (g a) = a) : Opens P t (Kd.iso d f) (fun b => wf (f b)) := by
  intro H enc w base spare held fuel cs x hx hw
  obtain ⟨y, hy, hwy⟩ := h H enc w base spare held fuel cs x hx hw
  refine ⟨g y, ?_, ?_⟩
  · show d.K w (f (g y)) cs
    rw [hg]; exact hy
  · show wf (f (g y))
    rw [hg]; exact hwy

theorem Opens.mono {α : Type} {t : TypeId} {d : Kd α} {wf wf' : α → Prop} (h : Opens P t d wf) (hm : ∀ x, wf x → wf' x) : Opens P t d wf' := by
  intro H enc w base spare held fuel cs x hx hw
  obtain ⟨y, hy, hwy⟩ := h H enc w base spare held fuel cs x hx hw
  exact ⟨y, hy, hm y hwy⟩

/-- At a law's argument. -/
theorem Opens.at {α : Type} {t : TypeId} {d : Kd α} {wf : α → Prop} (h : Opens P t d wf) {H : Type} {enc : TypeId × Value → H} {w : World} {base : Nat} {spare : Nat → Bool} {held : Bool} {v : Value} {dd : DataW H} {ps : List MemPlace} {ts : List TypeId} {ds : List (DataW H)} {j : Nat}
    (hsz : (DataW.weightsEach P ts ds).all (· ≤ reachBytes) = true) (ht : ts[j]? = some t) (hd : ds[j]? = some dd) (hx : DataW.Trod enc P w base spare held t v dd ps) : ∃ y, d.K w y v.cells.toList ∧ wf y := by
  obtain ⟨fuel, hf⟩ := hx
  refine h H enc w base spare held fuel _ _ hf (fun n hn => ?_)
  have := List.all_eq_true.1 hsz n (DataW.weights_mem_each ht hd n hn)
  simpa using this

theorem okWide_agg {t : TypeId} {w : World} {r : Reach} {base : Nat} {v : Value} (h : Value.okWide P w r base t v) (hs : (∃ fs, P.underlying t = some (.struct fs)) ∨ ∃ n e, P.underlying t = some (.array n e)) : ∃ cs : Array Value, v = .agg cs := by
  rcases hs with ⟨fs, hs⟩ | ⟨n, e, hs⟩ <;>
  · unfold Value.okWide at h
    rw [hs] at h
    obtain ⟨cs, rfl, _⟩ := h
    exact ⟨cs, rfl⟩

/-- A block's fact, carried over what was drawn and made since. -/
theorem bk {p q : Prop} (h : p) (hh : p → q := by intro h_; (with_reducible repeat (first | refine blk_drewN ?_ _ | refine blk_drew ?_ | refine blk_alloc ?_ _)); exact h_) : q := hh h
theorem bl0 {p q : Prop}  (h : p)  (hh : p → q := by intro h_ ; repeat (first | (with_reducible first | exact h_ | apply below_alloc | apply pw_below_drewN | apply below_drew1) | exact h_)) : q := hh h 
theorem bl1 {p q : Prop} {g0 : Prop} (h : p) (k0 : g0) (hh : p → g0 → q := by intro h_ k0_; repeat (first | (with_reducible first | exact h_ | apply below_alloc | apply pw_below_drewN | apply below_drew1 | refine below_set ?_ k0_) | exact h_)) : q := hh h k0
theorem bl2 {p q : Prop} {g0 : Prop} {g1 : Prop} (h : p) (k0 : g0) (k1 : g1) (hh : p → g0 → g1 → q := by intro h_ k0_ k1_; repeat (first | (with_reducible first | exact h_ | apply below_alloc | apply pw_below_drewN | apply below_drew1 | refine below_set ?_ k0_ | refine below_set ?_ k1_) | exact h_)) : q := hh h k0 k1
theorem bl3 {p q : Prop} {g0 : Prop} {g1 : Prop} {g2 : Prop} (h : p) (k0 : g0) (k1 : g1) (k2 : g2) (hh : p → g0 → g1 → g2 → q := by intro h_ k0_ k1_ k2_; repeat (first | (with_reducible first | exact h_ | apply below_alloc | apply pw_below_drewN | apply below_drew1 | refine below_set ?_ k0_ | refine below_set ?_ k1_ | refine below_set ?_ k2_) | exact h_)) : q := hh h k0 k1 k2
theorem bl4 {p q : Prop} {g0 : Prop} {g1 : Prop} {g2 : Prop} {g3 : Prop} (h : p) (k0 : g0) (k1 : g1) (k2 : g2) (k3 : g3) (hh : p → g0 → g1 → g2 → g3 → q := by intro h_ k0_ k1_ k2_ k3_; repeat (first | (with_reducible first | exact h_ | apply below_alloc | apply pw_below_drewN | apply below_drew1 | refine below_set ?_ k0_ | refine below_set ?_ k1_ | refine below_set ?_ k2_ | refine below_set ?_ k3_) | exact h_)) : q := hh h k0 k1 k2 k3
theorem bl5 {p q : Prop} {g0 : Prop} {g1 : Prop} {g2 : Prop} {g3 : Prop} {g4 : Prop} (h : p) (k0 : g0) (k1 : g1) (k2 : g2) (k3 : g3) (k4 : g4) (hh : p → g0 → g1 → g2 → g3 → g4 → q := by intro h_ k0_ k1_ k2_ k3_ k4_; repeat (first | (with_reducible first | exact h_ | apply below_alloc | apply pw_below_drewN | apply below_drew1 | refine below_set ?_ k0_ | refine below_set ?_ k1_ | refine below_set ?_ k2_ | refine below_set ?_ k3_ | refine below_set ?_ k4_) | exact h_)) : q := hh h k0 k1 k2 k3 k4
theorem bl6 {p q : Prop} {g0 : Prop} {g1 : Prop} {g2 : Prop} {g3 : Prop} {g4 : Prop} {g5 : Prop} (h : p) (k0 : g0) (k1 : g1) (k2 : g2) (k3 : g3) (k4 : g4) (k5 : g5) (hh : p → g0 → g1 → g2 → g3 → g4 → g5 → q := by intro h_ k0_ k1_ k2_ k3_ k4_ k5_; repeat (first | (with_reducible first | exact h_ | apply below_alloc | apply pw_below_drewN | apply below_drew1 | refine below_set ?_ k0_ | refine below_set ?_ k1_ | refine below_set ?_ k2_ | refine below_set ?_ k3_ | refine below_set ?_ k4_ | refine below_set ?_ k5_) | exact h_)) : q := hh h k0 k1 k2 k3 k4 k5
theorem bl7 {p q : Prop} {g0 : Prop} {g1 : Prop} {g2 : Prop} {g3 : Prop} {g4 : Prop} {g5 : Prop} {g6 : Prop} (h : p) (k0 : g0) (k1 : g1) (k2 : g2) (k3 : g3) (k4 : g4) (k5 : g5) (k6 : g6) (hh : p → g0 → g1 → g2 → g3 → g4 → g5 → g6 → q := by intro h_ k0_ k1_ k2_ k3_ k4_ k5_ k6_; repeat (first | (with_reducible first | exact h_ | apply below_alloc | apply pw_below_drewN | apply below_drew1 | refine below_set ?_ k0_ | refine below_set ?_ k1_ | refine below_set ?_ k2_ | refine below_set ?_ k3_ | refine below_set ?_ k4_ | refine below_set ?_ k5_ | refine below_set ?_ k6_) | exact h_)) : q := hh h k0 k1 k2 k3 k4 k5 k6
theorem bl8 {p q : Prop} {g0 : Prop} {g1 : Prop} {g2 : Prop} {g3 : Prop} {g4 : Prop} {g5 : Prop} {g6 : Prop} {g7 : Prop} (h : p) (k0 : g0) (k1 : g1) (k2 : g2) (k3 : g3) (k4 : g4) (k5 : g5) (k6 : g6) (k7 : g7) (hh : p → g0 → g1 → g2 → g3 → g4 → g5 → g6 → g7 → q := by intro h_ k0_ k1_ k2_ k3_ k4_ k5_ k6_ k7_; repeat (first | (with_reducible first | exact h_ | apply below_alloc | apply pw_below_drewN | apply below_drew1 | refine below_set ?_ k0_ | refine below_set ?_ k1_ | refine below_set ?_ k2_ | refine below_set ?_ k3_ | refine below_set ?_ k4_ | refine below_set ?_ k5_ | refine below_set ?_ k6_ | refine below_set ?_ k7_) | exact h_)) : q := hh h k0 k1 k2 k3 k4 k5 k6 k7
theorem bb {w0 W W1 : World} {g : Nat} {o : Obj} (h : w0.heap[g]? = some o) (hb : Below W.heap.size W W1) (hh : w0.heap[g]? = some o → W.heap[g]? = some o := by intro h_; (with_reducible repeat (first | refine blk_drewN ?_ _ | refine blk_drew ?_ | refine blk_alloc ?_ _)); exact h_) : W1.heap[g]? = some o := blk_below (hh h) hb
theorem lt_ {w0 W : World} {g : Nat} {o : Obj} (h : w0.heap[g]? = some o) (hh : w0.heap[g]? = some o → W.heap[g]? = some o := by intro h_; (with_reducible repeat (first | refine blk_drewN ?_ _ | refine blk_drew ?_ | refine blk_alloc ?_ _)); exact h_) : g < W.heap.size := blk_lt (hh h)
theorem fr {p : Prop} (h : p := by first | rfl | (simp; done) | (simp [*]; done)) : p := h
theorem am {p : Prop} (h : p := by (try simp only [List.map_toArray, List.map_cons, List.map_nil]); first | done | rfl | (simp only [List.length_drop, List.length_take]; rfl)) : p := h
theorem nl {W w0 : World} {g q : Nat} {o : Obj} (hg : q = W.heap.size) (h : w0.heap[g]? = some o) (hh : w0.heap[g]? = some o → W.heap[g]? = some o := by intro h_; (with_reducible repeat (first | refine blk_drewN ?_ _ | refine blk_drew ?_ | refine blk_alloc ?_ _)); exact h_) : g ≠ q := by rw [hg]; exact Nat.ne_of_lt (lt_ h hh)
theorem nr {W w0 : World} {g q : Nat} {o : Obj} (hg : q = W.heap.size) (h : w0.heap[g]? = some o) (hh : w0.heap[g]? = some o → W.heap[g]? = some o := by intro h_; (with_reducible repeat (first | refine blk_drewN ?_ _ | refine blk_drew ?_ | refine blk_alloc ?_ _)); exact h_) : q ≠ g := by rw [hg]; exact Nat.ne_of_gt (lt_ h hh)
theorem gz {w W : World} {q : Nat} (hg : q = W.heap.size) (h : Below w.heap.size w W) : w.heap.size ≤ q := by rw [hg]; exact below_size h
theorem kr {p q : Prop} (h : p) (hh : p → q := by intro h_; (with_reducible repeat (first | apply Kd.R_alloc | apply Kd.R_drewN | apply Kd.R_drew)); exact h_) : q := hh h
theorem kc {p q : Prop} (h : p) (hh : p → q := by intro h_; repeat (first | exact h_ | (with_reducible refine Kd.C_alloc ?_ _) | (with_reducible refine Kd.C_drewN ?_ _) | (with_reducible refine Kd.C_drew ?_))) : q := hh h
theorem hc {w W : World} {a : Addr} {v : Value} (HB : Aside0 (Below w.heap.size w W)) (h : w.cell? a = some v) : W.cell? a = some v := (HB.out.cell (World.block_lt_of_cell? w _ h)).trans h
theorem od {p : Prop} [inst : Decidable p] (h : decide p = true := by first | (with_reducible assumption) | assumption) : p := of_decide_eq_true h
theorem dr {w w' : World} (h : Drawn0 w w' := by repeat (first | exact Drawn0.refl _ | apply Drawn0.step)) : Drawn0 w w' := h
/-- make([]T, n, m) of numbers. -/
theorem R_makec {P : Program} {ops : Array Oper} {rest : List Oper} {o : Oper} {a : Act} {Q : Exit → Act → World → Prop} {k : IntKind} {w0 W : World} (base e : Nat) (hgd : o.guard = none) {N : Tmp} (hd : o.dst = some N) (t : TypeId) (x y : Operand) (ho : o.op = .makeSlice t x y) (n m : Int)
    (hx : a.eval x = .int .i64 n) (hy : a.eval y = .int .i64 m) (ht : P.underlying t = some (.slice e)) (bytes : Nat) (hinfo : (P.info? e).map (fun i => (i.zero, i.size, i.bytes)) = some (some (.int k 0), 1, bytes)) (hb0 : 0 < bytes)
    (h0 : 0 ≤ n) (hnm : n ≤ m) (hl : m.toNat * bytes ≤ 281474976710656) (HB : Below base w0 W) (hbase : base ≤ W.heap.size)
    (h : ∀ v1 w1, (Kd.int k).R e w1 base (fun _ => True) v1 (List.replicate n.toNat 0) → Below base w0 w1 → W.grownBy w1 none → (∃ b, v1.ownBlock = some b ∧ W.heap.size ≤ b) → wpList P ops Q rest (a.put o.dst v1) w1) : wpList P ops Q (o :: rest) a W := by
  obtain ⟨n, rfl⟩ := Int.eq_ofNat_of_zero_le h0
  obtain ⟨m, rfl⟩ := Int.eq_ofNat_of_zero_le (Int.le_trans h0 hnm)
  simp only [Int.toNat_natCast] at hl h
  obtain ⟨i0, hi, hzz⟩ := Option.map_eq_some_iff.1 hinfo
  simp only [Prod.mk.injEq] at hzz
  obtain ⟨hz0, hz1, hz2⟩ := hzz
  have hm : m ≤ 281474976710656 := Nat.le_trans (Nat.le_mul_of_pos_right _ hb0) hl
  have hr := run_make (P := P) W t e i0 (.int k 0) ht hi hz0 .i64 .i64 (n : Int) (m : Int) h0 hnm
    (by
      have h3 : ((i0.bytes * m : Nat) : Int) ≤ 281474976710656 := by rw [hz2, Nat.mul_comm]; omega
      rwa [Int.natCast_mul] at h3) (by omega)
  simp only [Int.toNat_natCast] at hr
  rw [hz1] at hr
  refine Kd.event_run (v := .slice (some ⟨W.heap.size, 0, none⟩) n m) (w1 := W.alloc (.cells (madeCells (Value.int k 0).cells (m * 1)) e)) hgd ?_ (h _ _ (Kd.R_of_own (enc := Value.int k) (h1 := fun _ => rfl) ?_ (fun _ _ => trivial)) (HB.alloc hbase _) (World.grownBy_alloc W _ none) ⟨W.heap.size, by simp [Value.ownBlock], Nat.le_refl _⟩)
  · simp [execOp, ho, hx, hy, hr]
  · refine ⟨by simp [encs], .inr ⟨W.heap.size, m, madeCells (Value.int k 0).cells (m * 1), by simp, hbase, heap_alloc_new W _, by simp; omega, by simp [maxLen]; omega, size_madeCells _ _, ?_⟩⟩
    apply List.ext_getElem
    · simp [size_madeCells, encs]; omega
    · intro j h1 h2
      simp [encs] at h2 ⊢
      simp [madeCells, Value.cells, Nat.mod_one]
theorem pa {x y : Act} (h : x = y := by simp only [Act.put, List.setIfInBounds_toArray, List.set_cons_zero, List.set_cons_succ, i64_w, i32_w]; rfl) : x = y := h
theorem ifk {α : Type} {P G : Prop} [inst : Decidable P] {x : Option α} {r : α} (H : (if P then x else none) = some r) (k : P → x = some r → G) : G := by
 by_cases c : P
 ·rw [if_pos c] at H; exact k c H
 ·rw [if_neg c] at H; exact absurd H (by simp)
/-- What has come up, as bits. -/
def ba (n m : Nat) : Array Bool := ((List.range n).map fun i => m.testBit i).toArray
section
variable {P : Program} {md : Region.Mode} {ops : Array Oper} {Q : Exit → Act → World → Prop} {S : World → Prop} {ds : List Nat}
/-- 'pure_', an operation that is carried out. -/
theorem pI (i : Nat) (N : Tmp) (l' : Array Bool) {T : Bool × List (List Nat × List Nat)} (hT : rtab md ops = T) {oi : Oper} {v : Value} {fuel : Nat} {l : Array Bool} {a : Act} {w : World} {a' : Act}
    (h : wpAnyLast P md ops Q S ds fuel l' a' w) (hi : ops[i]? = some oi := by rfl) (hN : oi.dst = some N := by rfl) (hc : anyT T l.toList l'.toList i = true := by kernel_rfl)
    (hQ : ∀ c a w, Q (.panic c) (a.put oi.dst v) w → Q (.panic c) a w := by exact fun _ _ _ h => h) (hw : Region.wanted oi (yielded ops a.tmps) = true := by rfl)
    (hv : ∀ w' : World, (execOp a.eval oi).run P w' = .ok (.value v) w' := by intro w'; go_simp; with_reducible rfl)
    (ha : a.put (some N) v = a' := by simp only [Act.put, List.setIfInBounds_toArray, List.set_cons_zero, List.set_cons_succ, i64_w, i32_w]; rfl) : wpAnyLast P md ops Q S ds (fuel + 1) l a w :=
  pure_ l' hi hN (any_of hT hc) hQ (.inl ⟨hw, hv⟩) ha h
theorem nj {fuel : Nat} {l : Array Bool} {a a' : Act} {w : World} (h : wpAnyLast P md ops Q S ds fuel l a' w) (ha : a = a' := by first | (simp only [putAll, Act.put, List.setIfInBounds_toArray, List.set_cons_zero, List.set_cons_succ]; done) | (simp only [putAll, Act.put, List.setIfInBounds_toArray, List.set_cons_zero, List.set_cons_succ]; rfl)) : wpAnyLast P md ops Q S ds fuel l a w := norm_ ha h
theorem na {fuel : Nat} {l : Array Bool} {a a' : Act} {w : World} (h : wpAnyLast P md ops Q S ds fuel l a' w) (ha : a = a' := by simp only [putAll, Act.put, List.setIfInBounds_toArray, List.set_cons_zero, List.set_cons_succ]; rfl) : wpAnyLast P md ops Q S ds fuel l a w := norm_ ha h
theorem np (N : Tmp) {fuel : Nat} {l : Array Bool} {a a' : Act} {v : Value} {w : World} (h : wpAnyLast P md ops Q S ds fuel l a' w) (ha : a.put (some N) v = a' := by simp only [Act.put, List.setIfInBounds_toArray, List.set_cons_zero, List.set_cons_succ, i64_w, i32_w]; rfl) : wpAnyLast P md ops Q S ds fuel l (a.put (some N) v) w := norm_ ha h
theorem bs {o : Oper} {a : Act} {Kc : Act → World → Prop} {W : World} (N : Tmp) (cs : Array Value) (t : TypeId)
    (h : ∀ g, g = W.heap.size → ∀ w1, w1.heap[g]? = some (.cells cs t (0, 0)) → Below W.heap.size W w1 → Kc (a.put o.dst (.pointer (some ⟨g, 0, none⟩))) w1)
    (hw : Region.wanted o (yielded ops a.tmps) = true := by rfl) (hd : o.dst = some N := by rfl)
    (hrun : (execOp a.eval o).run P W = .ok (.value (.pointer (some ⟨W.heap.size, 0, none⟩))) (W.alloc (.cells cs t (0, 0))) := by first | (go_simp; done) | (go_simp; rfl)) : if Region.wanted o (yielded ops a.tmps) = true then Oper.wp P o a W Kc Q else Kc (a.put o.dst undef) W :=
  box_step hw hd hrun h
/-- 'pure_', an operation whose guard is off. -/
theorem pO (i : Nat) (N : Tmp) (l' : Array Bool) {T : Bool × List (List Nat × List Nat)} (hT : rtab md ops = T) {oi : Oper} {fuel : Nat} {l : Array Bool} {a : Act} {w : World} {a' : Act}
    (h : wpAnyLast P md ops Q S ds fuel l' a' w) (hi : ops[i]? = some oi := by rfl) (hN : oi.dst = some N := by rfl) (hc : anyT T l.toList l'.toList i = true := by kernel_rfl)
    (hQ : ∀ c a w, Q (.panic c) (a.put oi.dst undef) w → Q (.panic c) a w := by exact fun _ _ _ h => h) (hw : Region.wanted oi (yielded ops a.tmps) = false := by rfl)
    (ha : a.put (some N) undef = a' := by simp only [Act.put, List.setIfInBounds_toArray, List.set_cons_zero, List.set_cons_succ, i64_w, i32_w]; rfl) : wpAnyLast P md ops Q S ds (fuel + 1) l a w :=
  pure_ l' hi hN (any_of hT hc) hQ (.inr ⟨hw, rfl⟩) ha h
end
/-- A call that the model carries out by itself, as an arm of a plain region's walk. -/
theorem goesX_ {P : Program} {ops : Array Oper} {Q : Exit → Act → World → Prop} {rest : List Oper} {oi : Oper} {a : Act} {w : World} (N : Option Tmp) (hd : oi.dst = N) (hg : oi.guard = none) {f : FuncId} {as_ : Array Operand} {ts : Array TypeId}
    (hop : oi.op = .call { callee := .value (.func f), args := as_, argTypes := ts }) {args : Array Value} (hargs : as_.map a.eval = args) {v : Value} (hx : (callFunc f args).run P w = .ok (.value v) w)
    (h : wpList P ops Q rest (a.put N v) w) : wpList P ops Q (oi :: rest) a w := by
  refine wpList_plain hg fun K hK => ?_
  have hrun : (execOp a.eval oi).run P w = .ok (.value v) w := by
    unfold execOp
    simp [hop, resolve, Deferred.ofValue, invoke, Act.eval, hargs, hx]
  unfold Oper.wp
  rw [hrun, Oper.upon_value]
  subst hd
  exact hK _ _ h

/-- 'box_event', an arm of a plain region's walk. -/
theorem be {P : Program} {ops : Array Oper} {rest : List Oper} {o : Oper} {a : Act} {Q : Exit → Act → World → Prop} {W : World} (N : Tmp) (cs : Array Value) (t : TypeId)
    (h : ∀ g, g = W.heap.size → ∀ w1, w1.heap[g]? = some (.cells cs t (0, 0)) → Below W.heap.size W w1 → wpList P ops Q rest (a.put o.dst (.pointer (some ⟨g, 0, none⟩))) w1) (hgd : o.guard = none := by rfl) (hd : o.dst = some N := by rfl)
    (hrun : (execOp a.eval o).run P W = .ok (.value (.pointer (some ⟨W.heap.size, 0, none⟩))) (W.alloc (.cells cs t (0, 0))) := by first | (go_simp; done) | (go_simp; rfl)) : wpList P ops Q (o :: rest) a W :=
  box_event hgd hd hrun h
end Go.Proofs.Ytalgppclaolonaa.XOpen
