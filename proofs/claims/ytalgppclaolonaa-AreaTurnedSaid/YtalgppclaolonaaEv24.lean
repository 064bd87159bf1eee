/- Values without memory: a function's loops; the function as a whole, told. -/
import Derived.Test.YtalgppclaolonaaEv23
namespace Go.Proofs.Ytalgppclaolonaa.Ev
open Go
set_option linter.unusedVariables false
set_option linter.unusedSimpArgs false
theorem walk_place {body : Code} : ∀ (f p : Nat) (c : Code) (t : List It), walk body f p = some (c, t) → Place body p c t
  | 0, p, c, t, h => by simp [walk] at h
  | f + 1, p, c, t, h => by
    unfold walk at h
    split at h
    · rename_i hp
      rw [Nat.eq_of_beq_eq_true hp]
      injection h with h; injection h with h1 h2
      subst h1; subst h2
      exact .root
    · have ev : Nat.beq (p % 2) 0 = true → p = 2 * (p / 2) := fun h => by have := Nat.eq_of_beq_eq_true h; omega
      have od : Nat.beq (p % 2) 0 = false → p = 2 * (p / 2) + 1 := fun h => by have := ne_of_beq h; omega
      have key : ∀ {q : Nat} {c : Code} {t : List It}, p = q → Place body q c t → Place body p c t := fun e h => e ▸ h
      split at h
      · rename_i hw
        have ih := walk_place f _ _ _ hw
        split at h
        · rename_i hb
          injection h with h; injection h with h1 h2; subst h1; subst h2
          exact key (ev hb) (.seqL ih)
        · rename_i hb
          injection h with h; injection h with h1 h2; subst h1; subst h2
          exact key (od hb) (.seqR ih)
      · rename_i hw
        have ih := walk_place f _ _ _ hw
        split at h
        · rename_i hb
          injection h with h; injection h with h1 h2; subst h1; subst h2
          exact key (ev hb) (.condL ih)
        · rename_i hb
          injection h with h; injection h with h1 h2; subst h1; subst h2
          exact key (od hb) (.condR ih)
      · rename_i hw
        have ih := walk_place f _ _ _ hw
        split at h
        · rename_i hb
          injection h with h; injection h with h1 h2; subst h1; subst h2
          exact key (ev hb) (.block ih)
        · cases h
      · rename_i hw
        have ih := walk_place f _ _ _ hw
        split at h
        · rename_i hb
          injection h with h; injection h with h1 h2; subst h1; subst h2
          exact key (ev hb) (.loop ih)
        · cases h
      · cases h
/-- A place at which the code is cut, and what is told there. -/
structure Cut where
  p : Nat
  sh : List Se
def findC : List Cut → Nat → Option Cut
  | [], _ => none
  | c :: l, p => match Nat.beq c.p p with | true => some c | false => findC l p
def cutPs : List Cut → List Nat
  | [] => []
  | c :: l => c.p :: cutPs l
section
variable (D : Tys) {R : Type}
abbrev LL (R : Type) := (c : Cut) → X D c.sh → Option R
def kapK (cuts : List Cut) (L : LL D R) (p : Nat) (fr : Tr (V D.S)) (hp : Tr (B D.S)) : Option R := match findC cuts p with
  | some c => cutK D c.sh fr hp (L c)
  | none => none
def stepK (H : HH D R) (body : Code) (cuts : List Cut) (ρ : Tr (V D.S) → Tr (B D.S) → Option R) (N : Nat) (L : LL D R) (c : Cut) (x : X D c.sh) : Option R := match walk body 400 c.p with
  | some (cd, t) => stK D c.sh x fun fr hp => runK D H (cutPs cuts) (kapK D cuts L) ρ N false (.code cd c.p :: t) fr hp
  | none => none
def Lf (H : HH D R) (body : Code) (cuts : List Cut) (ρ : Tr (V D.S) → Tr (B D.S) → Option R) (N : Nat) : Nat → LL D R
  | 0 => fun _ _ => none
  | n + 1 => stepK D H body cuts ρ N (Lf H body cuts ρ N n)
end
open Classical in
noncomputable def lim {R : Type} (f : Nat → Option R) : Option R := if h : ∃ n r, f n = some r then f (Classical.choose h) else none
theorem lim_some {R : Type} {f : Nat → Option R} {r : R} (h : lim f = some r) : ∃ n, f n = some r := by
  unfold lim at h
  split at h
  · exact ⟨_, h⟩
  · cases h
theorem lim_of {R : Type} {f : Nat → Option R} (hm : ∀ n m r, n ≤ m → f n = some r → f m = some r) {n : Nat} {r : R} (h : f n = some r) : lim f = some r := by
  have hex : ∃ n r, f n = some r := ⟨n, r, h⟩
  unfold lim
  rw [dif_pos hex]
  obtain ⟨r', hr'⟩ := Classical.choose_spec hex
  rcases Nat.le_total n (Classical.choose hex) with hl | hl
  · exact hm _ _ _ hl h
  · rw [hr', ← hm _ _ _ hl hr', h]
section
variable {D : Tys} {P : Program} {R : Type} {H : HH D R} {body : Code} {cuts : List Cut} {ρ : Tr (V D.S) → Tr (B D.S) → Option R} {N : Nat}
noncomputable def Li (D : Tys) {R : Type} (H : HH D R) (body : Code) (cuts : List Cut) (ρ : Tr (V D.S) → Tr (B D.S) → Option R) (N : Nat) : LL D R := fun c x => lim fun n => Lf D H body cuts ρ N n c x
theorem cutK_nat {l : List Se} {fr : Tr (V D.S)} {hp : Tr (B D.S)} {k : X D l → Option R} {r : R} (h : cutK D l fr hp k = some r) : ∃ x, k x = some r ∧ ∀ k2 : X D l → Option R, cutK D l fr hp k2 = k2 x := by
  unfold cutK at h
  split at h
  · split at h
    · exact ⟨_, h, fun k2 => by unfold cutK; simp only [*]⟩
    · cases h
  · cases h
theorem findC_mem : ∀ {l : List Cut} {p : Nat} {c : Cut}, findC l p = some c → c ∈ l ∧ c.p = p
  | x :: l, p, c, h => by
    unfold findC at h
    split at h
    · rename_i hb
      obtain rfl := Option.some.inj h
      exact ⟨List.mem_cons_self, Nat.eq_of_beq_eq_true hb⟩
    · obtain ⟨h1, h2⟩ := findC_mem h
      exact ⟨List.mem_cons_of_mem _ h1, h2⟩
theorem kapK_nat {L : LL D R} {p : Nat} {fr : Tr (V D.S)} {hp : Tr (B D.S)} {r : R} (h : kapK D cuts L p fr hp = some r) : ∃ c x, L c x = some r ∧ ∀ L2 : LL D R, kapK D cuts L2 p fr hp = L2 c x := by
  unfold kapK at h
  split at h
  · rename_i c hc
    obtain ⟨x, h1, h2⟩ := cutK_nat h
    exact ⟨c, x, h1, fun L2 => by unfold kapK; rw [hc]; exact h2 _⟩
  · cases h
def Out (L : LL D R) (r : R) (g : LL D R → Option R) : Prop := (∀ L2, g L2 = some r) ∨ ∃ c x, L c x = some r ∧ ∀ L2, g L2 = L2 c x
theorem run_out (hH : HNat H) {n : Nat} {here : Bool} {todo : List It} {fr : Tr (V D.S)} {hp : Tr (B D.S)} {L : LL D R} {r : R} (h : runK D H (cutPs cuts) (kapK D cuts L) ρ n here todo fr hp = some r) :
    Out L r fun L2 => runK D H (cutPs cuts) (kapK D cuts L2) ρ n here todo fr hp := by
  rcases runK_nat hH n here todo fr hp h with ⟨fr', hp', h1, h2⟩ | ⟨p, fr', hp', h1, h2⟩
  · exact .inl fun L2 => (h2 _ _).trans h1
  · obtain ⟨c, x, h3, h4⟩ := kapK_nat h1
    exact .inr ⟨c, x, h3, fun L2 => (h2 _ _).trans (h4 L2)⟩
theorem step_out (hH : HNat H) {L : LL D R} {c : Cut} {x : X D c.sh} {r : R} (h : stepK D H body cuts ρ N L c x = some r) : Out L r fun L2 => stepK D H body cuts ρ N L2 c x := by
  unfold stepK at h
  split at h
  · rename_i cd t hw
    unfold stK at h
    rw [mkTK_eq, mkTK_eq] at h
    have e : ∀ L2, stepK D H body cuts ρ N L2 c x = runK D H (cutPs cuts) (kapK D cuts L2) ρ N false (.code cd c.p :: t) (mkT (frL D c.sh x)) (mkT (hpL D c.sh x)) := fun L2 => by
      unfold stepK stK; rw [hw]; simp only; rw [mkTK_eq, mkTK_eq]
    rcases run_out hH h with h | ⟨c', x', h1, h2⟩
    · exact .inl fun L2 => (e L2).trans (h L2)
    · exact .inr ⟨c', x', h1, fun L2 => (e L2).trans (h2 L2)⟩
  · cases h
theorem Out.mono {L L' : LL D R} {r : R} {g : LL D R → Option R} (h : Out L r g) (hl : ∀ c x, L c x = some r → L' c x = some r) : g L' = some r := by
  rcases h with h | ⟨c, x, h1, h2⟩
  · exact h L'
  · exact (h2 L').trans (hl c x h1)
theorem Lf_succ (hH : HNat H) : ∀ (n : Nat) (c : Cut) (x : X D c.sh) (r : R), Lf D H body cuts ρ N n c x = some r → Lf D H body cuts ρ N (n + 1) c x = some r
  | 0, c, x, r, h => by simp [Lf] at h
  | n + 1, c, x, r, h => (step_out hH h).mono fun c x h => Lf_succ hH n c x r h
theorem Lf_mono (hH : HNat H) (c : Cut) (x : X D c.sh) (n m : Nat) (r : R) (hl : n ≤ m) (h : Lf D H body cuts ρ N n c x = some r) : Lf D H body cuts ρ N m c x = some r := by
  induction hl with
  | refl => exact h
  | step _ ih => exact Lf_succ hH _ c x r ih
theorem Li_of (hH : HNat H) {n : Nat} {c : Cut} {x : X D c.sh} {r : R} (h : Lf D H body cuts ρ N n c x = some r) : Li D H body cuts ρ N c x = some r := lim_of (fun n m r => Lf_mono hH c x n m r) h
/-- What the loops answer is what one turn of them answers. -/
theorem Li_eq (hH : HNat H) (c : Cut) (x : X D c.sh) : Li D H body cuts ρ N c x = stepK D H body cuts ρ N (Li D H body cuts ρ N) c x := by
  apply Option.ext
  intro r
  constructor
  · intro h
    obtain ⟨n, h⟩ := lim_some h
    cases n with
    | zero => simp [Lf] at h
    | succ n => exact (step_out hH h).mono fun c x h => Li_of hH h
  · intro h
    rcases step_out hH h with h1 | ⟨c', x', h1, h2⟩
    · exact Li_of hH (n := 1) (h1 _)
    · obtain ⟨n, h3⟩ := lim_some h1
      exact Li_of hH (n := n + 1) ((h2 _).trans h3)
def cutOk (rf : List Nat) (c : Cut) : Bool := shOk c.sh && distinct (hpKeys c.sh) && rf.all fun i => (hpKeys c.sh).elem i && decide (i < 3000)
theorem Lf_ok (lw : Lawful D P) (hH : HOk D P H) (hN : HNat H) {K : Kx} (hok : okC K.n body = true) {rf : List Nat} (hrf : ∀ i L, (i, L) ∈ K.refs → i ∈ rf) (hc : cuts.all (cutOk rf) = true) :
    ∀ (n : Nat) (c : Cut) (x : X D c.sh) (cd : Code) (t : List It) (r : R), Place body c.p cd t → Lf D H body cuts ρ N n c x = some r → Comes' P K (.code cd c.p :: t) (mkT (frL D c.sh x)) (mkT (hpL D c.sh x)) fun fr hp => ρ fr hp = some r
  | 0, c, x, cd, t, r, hp, h => by simp [Lf] at h
  | n + 1, c, x, cd, t, r, hpl, h => by
    unfold Lf stepK at h
    split at h
    · rename_i cd' t' hw
      obtain ⟨rfl, rfl⟩ := Place.uniq hpl (walk_place _ _ _ _ hw)
      unfold stK at h
      rw [mkTK_eq, mkTK_eq] at h
      refine runK_ok lw hH hN hok (fun p c0 t0 fr hp hp0 h0 => ?_) N false _ _ _ (.code hpl hpl.good) h
      unfold kapK at h0
      split at h0
      · rename_i c' hc'
        obtain ⟨hm, rfl⟩ := findC_mem hc'
        have hco := List.all_eq_true.mp hc c' hm
        simp only [cutOk, Bool.and_eq_true, List.all_eq_true, decide_eq_true_eq] at hco
        intro β F a w s b cs
        obtain ⟨x', h1, β2, F1, s'⟩ := cut_ok lw s hco.1.1 hco.1.2 h0 (fun i L hi => by
          have := hco.2 i (hrf i L hi)
          refine ⟨?_, this.2⟩
          have h1 := this.1
          rw [List.elem_eq_contains, List.contains_iff_mem] at h1
          exact h1)
        exact Lf_ok lw hH hN hok hrf hc n c' x' c0 t0 r hp0 h1 β2 F1 a w s' b cs
      · cases h0
    · cases h
end
/-- A function, as it is told. -/
structure FD where
  g : FuncId
  body : Code
  rs : List ResultVar
  nt : Nat
  pm : List PM
  as : List RT
  ts : List RT
  nr : Nat
  cuts : List Cut
  N : Nat
section
variable (D : Tys)
abbrev finF (f : FD) : Tr (V D.S) → Tr (B D.S) → Option (YR D f.ts) := finK D f.rs (refI 0 f.pm) (decRes D f.ts f.nr)
def entK (f : FD) (H : HH D (YR D f.ts)) (L : LL D (YR D f.ts)) (x : YR D f.as) : Option (YR D f.ts) :=
  mkTK (frE D 0 f.pm (encArgs D f.pm f.as x)) fun fr => mkTK (hpE D 0 f.pm (encArgs D f.pm f.as x)) fun hp => runK D H (cutPs f.cuts) (kapK D f.cuts L) (finF D f) f.N false [.code f.body 1] fr hp
noncomputable def LiF (f : FD) (H : HH D (YR D f.ts)) : LL D (YR D f.ts) := Li D H f.body f.cuts (finF D f) f.N
abbrev stepF (f : FD) (H : HH D (YR D f.ts)) (L : LL D (YR D f.ts)) (c : Cut) (x : X D c.sh) : Option (YR D f.ts) := stepK D H f.body f.cuts (finF D f) f.N L c x
noncomputable def Gof (f : FD) (H : HH D (YR D f.ts)) (x : YR D f.as) : Option (YR D f.ts) := entK D f H (LiF D f H) x
end
def fdOk (f : FD) : Bool := okC f.nt f.body && decide (f.pm.length ≤ f.nt) && decide (f.pm.length < 3000) && f.cuts.all (cutOk (refI 0 f.pm))
theorem rfE_refI : ∀ (ps : List PM) (Ls : List Loc) (i k : Nat) (L : Loc), (k, L) ∈ rfE i ps Ls → k ∈ refI i ps
  | [], Ls, i, k, L, h => by simp [rfE] at h
  | .val :: ps, Ls, i, k, L, h => by simp only [rfE, refI] at h ⊢; exact rfE_refI ps Ls (i + 1) k L h
  | .ref :: ps, [], i, k, L, h => by simp [rfE] at h
  | .ref :: ps, L' :: Ls, i, k, L, h => by
    simp only [rfE, refI] at h ⊢
    rcases List.mem_cons.mp h with e | h
    · injection e with e1 e2; subst e1; exact List.mem_cons_self
    · exact List.mem_cons_of_mem _ (rfE_refI ps Ls (i + 1) k L h)
section
variable {D : Tys} {P : Program}
theorem fd_ok (lw : Lawful D P) {f : FD} {H : HH D (YR D f.ts)} (hH : HOk D P H) (hN : HNat H) {fn : Func} (hf : P.funcs[f.g]? = some fn) (hb : fn.body = some f.body) (hr : fn.results.toList = f.rs) (hn : fn.ntmps = f.nt)
    (hcall : ∀ args w, (callFunc f.g args).run P w = .ok (.enter f.g args) w) (hok : fdOk f = true) : FnOk D P ⟨f.g, f.pm, f.as, f.ts, f.nr, Gof D f H⟩ := by
  intro x y hx w F vs Ls hold hA
  refine .inl ⟨hcall _ _, ?_⟩
  simp only [fdOk, Bool.and_eq_true, decide_eq_true_eq] at hok
  obtain ⟨⟨⟨hok1, hok2⟩, hok3⟩, hok4⟩ := hok
  have hx : entK D f H (LiF D f H) x = some y := hx
  unfold entK at hx
  rw [mkTK_eq, mkTK_eq] at hx
  intro cs
  let b : Frame := { (default : Frame) with fn := f.g, kind := .normal }
  let a0 : Act := { tmps := vs.toArray ++ Array.replicate (fn.ntmps - vs.toArray.size) undef, defers := [] }
  have henter : Frame.enter P f.g vs.toArray .normal = b.at a0 [.code f.body] := by
    simp [Frame.enter, Frame.at, hf, hb, b, a0]
  have s0 := enter_ok (n := fn.ntmps) hold hA (by rw [hn]; exact hok2) (Nat.lt_of_lt_of_le hok3 (by decide))
  have hcm := runK_ok (K := { w0 := w, F0 := F, refs := rfE 0 f.pm Ls, n := fn.ntmps }) lw hH hN (body := f.body) (by rw [hn]; exact hok1) (fun p c0 t0 fr hp hp0 h0 => by
    unfold kapK at h0
    split at h0
    · rename_i c' hc'
      obtain ⟨hm, rfl⟩ := findC_mem hc'
      have hco := List.all_eq_true.mp hok4 c' hm
      simp only [cutOk, Bool.and_eq_true, List.all_eq_true, decide_eq_true_eq] at hco
      intro β F a w s b cs
      obtain ⟨x', h1, β2, F1, s'⟩ := cut_ok lw s hco.1.1 hco.1.2 h0 (fun i L hi => by
        have := hco.2 i (rfE_refI _ _ _ _ _ hi)
        refine ⟨?_, this.2⟩
        have h1 := this.1
        rw [List.elem_eq_contains, List.contains_iff_mem] at h1
        exact h1)
      obtain ⟨n, h2⟩ := lim_some h1
      exact Lf_ok lw hH hN (by rw [hn]; exact hok1) (fun i L hi => rfE_refI _ _ _ _ _ hi) hok4 n c' x' c0 t0 y hp0 h2 β2 F1 a w s' b cs
    · cases h0) f.N false _ _ _ (.code .root .nil) hx
  obtain ⟨fr', hp', β', F', a', w', todo', h1, h2, h3⟩ := hcm _ _ _ _ s0 b cs
  obtain ⟨ws, css, rvs, F'', k1, k2, k3, k4, k5, k6, k7⟩ := leave_ok (fn := fn) lw hold (args_refs hA) h2 (fun k L hm => (rfE_at hA 0).2.1 k L hm |>.2.2.1) (by rw [hr]; exact h1)
  unfold decRes at k1
  split at k1
  · rename_i hg
    rw [Bool.and_eq_true] at hg
    have hlen := Nat.eq_of_beq_eq_true hg.1
    have hcl := decY_le lw k1
    obtain ⟨g1, g2⟩ := res_le k6 hg.2 hcl
    rw [hlen] at g1 g2
    refine ⟨.returned (tupV rvs), w', { b.at a' todo' with mode := .returning }, ⟨rvs, F'', rfl, k3, k4, k5, g1, lent_le k7 g2⟩, ?_, rfl, rfl, h2.df, rfl, fn, hf, k2⟩
    rw [henter]
    exact h3
  · cases k1
end
end Go.Proofs.Ytalgppclaolonaa.Ev
