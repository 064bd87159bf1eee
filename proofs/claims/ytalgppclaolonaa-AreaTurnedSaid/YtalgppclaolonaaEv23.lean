/- Values without memory: functions as they are told: typed arguments, typed results; tables of them. -/
import Derived.Test.YtalgppclaolonaaEv22b
namespace Go.Proofs.Ytalgppclaolonaa.Ev
open Go
set_option linter.unusedVariables false
set_option linter.unusedSimpArgs false
/-- What is handed over: a value; an error. -/
inductive RT where | v (t : Ty) | er
def aggT : RT → Bool | .v t => isAgg t | .er => false
section
variable (D : Tys)
@[reducible] def TT : RT → Type | .v t => T D.S t | .er => Option (Nat × IntKind × Int)
@[reducible] def YR : List RT → Type
  | [] => Unit
  | [r] => TT D r
  | r :: r' :: l => TT D r × YR (r' :: l)
def encT : (r : RT) → TT D r → List (C D.S)
  | .v t, x => encL D t x
  | .er, none => [.nili]
  | .er, some (t, k, n) => [.err t k n]
def decT : (r : RT) → List (C D.S) → Option (TT D r)
  | .v t, cs => decL D t cs
  | .er, cs => match cs with
    | [.nili] => some none
    | [.err t k n] => some (some (t, k, n))
    | _ => none
def encY : (l : List RT) → YR D l → List (List (C D.S))
  | [], _ => []
  | [r], x => [encT D r x]
  | r :: r' :: l, x => encT D r x.1 :: encY (r' :: l) x.2
def decY : (l : List RT) → List (List (C D.S)) → Option (YR D l)
  | [], css => match css with | [] => some () | _ => none
  | [r], css => match css with | [cs] => decT D r cs | _ => none
  | r :: r' :: l, css => match css with
    | cs :: css => match decT D r cs with
      | some x => match decY (r' :: l) css with | some y => some (x, y) | none => none
      | none => none
    | [] => none
def mkA2 (g : Bool) (cs : List (C D.S)) : A D.S := match g with
  | true => .agg cs
  | false => match cs with | [c] => .c c | _ => .agg cs
def wrapA : List RT → List (List (C D.S)) → List (A D.S)
  | r :: rs, cs :: css => mkA2 D (aggT r) cs :: wrapA rs css
  | _, _ => []
def wrapP : List PM → List RT → List (List (C D.S)) → List (A D.S)
  | .val :: ps, r :: rs, cs :: css => mkA2 D (aggT r) cs :: wrapP ps rs css
  | .ref :: ps, r :: rs, cs :: css => .agg cs :: wrapP ps rs css
  | _, _, _ => []
def aggsA : List RT → List (A D.S) → Bool
  | _, [] => true
  | r :: rs, x :: l => match isAggA x == aggT r with | true => aggsA rs l | false => false
  | [], _ :: _ => false
def aggsP : List PM → List RT → List (A D.S) → Bool
  | [], [], [] => true
  | .val :: ps, r :: rs, x :: l => match isAggA x == aggT r with | true => aggsP ps rs l | false => false
  | .ref :: ps, _ :: rs, x :: l => match isAggA x with | true => aggsP ps rs l | false => false
  | _, _, _ => false
def encRes (ts : List RT) (nr : Nat) (y : YR D ts) : List (A D.S) := wrapA D ts ((encY D ts y).take nr)
def encRef (ts : List RT) (nr : Nat) (y : YR D ts) : List (List (C D.S)) := (encY D ts y).drop nr
def encArgs (pm : List PM) (as : List RT) (x : YR D as) : List (A D.S) := wrapP D pm as (encY D as x)
def cellsL : List (A D.S) → List (List (C D.S))
  | [] => []
  | x :: l => x.cells :: cellsL l
def appL : List (List (C D.S)) → List (List (C D.S)) → List (List (C D.S))
  | [], l => l
  | x :: m, l => x :: appL m l
/-- The results, told. -/
def decRes (ts : List RT) (nr : Nat) (res : List (A D.S)) (css : List (List (C D.S))) : Option (YR D ts) := match Nat.beq res.length nr && aggsA D ts res with
  | true => decY D ts (appL D (cellsL D res) css)
  | false => none
def decArgs (pm : List PM) (as : List RT) (ws : List (A D.S)) : Option (YR D as) := match aggsP D pm as ws with
  | true => decY D as (cellsL D ws)
  | false => none
/-- A function in a table. -/
structure En where
  g : FuncId
  pm : List PM
  as : List RT
  ts : List RT
  nr : Nat
  G : YR D as → Option (YR D ts)
def enK {R : Type} (e : En D) (ws : List (A D.S)) (kk : List (A D.S) → List (List (C D.S)) → Option R) : Option R := match decArgs D e.pm e.as ws with
  | none => none
  | some x => (e.G x).bind fun y => kk (encRes D e.ts e.nr y) (encRef D e.ts e.nr y)
def findE : List (En D) → FuncId → Option (En D)
  | [], _ => none
  | e :: l, g => match Nat.beq e.g g with | true => some e | false => findE l g
def tabH {R : Type} (l : List (En D)) : HH D R := fun g ws kk => match findE D l g with
  | some e => enK D e ws kk
  | none => none
end
section
variable {D : Tys} {P : Program}
def CL (cs cs' : List (C D.S)) : Prop := cs.length = cs'.length ∧ ∀ (i : Nat) c c', cs[i]? = some c → cs'[i]? = some c' → Cle c c'
inductive CLs : List (List (C D.S)) → List (List (C D.S)) → Prop
  | nil : CLs [] []
  | cons {cs cs' l l'} (h : CL cs cs') (t : CLs l l') : CLs (cs :: l) (cs' :: l')
theorem Cle.rfl' (c : C D.S) : Cle c c := fun _ _ _ h => h
theorem CL.rfl' (cs : List (C D.S)) : CL cs cs := ⟨rfl, fun i c c' h h' => by rw [h] at h'; obtain rfl := Option.some.inj h'; exact Cle.rfl' c⟩
theorem CL.pl {cs cs' : List (C D.S)} (h : CL cs cs') {w F vs} (r : PL w F cs vs) : PL w F cs' vs := by
  refine ⟨h.1.symm.trans r.1, fun j x v hx hv => ?_⟩
  have hj := (List.getElem?_eq_some_iff.mp hx).1
  have hj' : j < cs.length := by rw [h.1]; exact hj
  exact h.2 j _ _ (List.getElem?_eq_getElem hj') hx w F v (r.2 j _ v (List.getElem?_eq_getElem hj') hv)
theorem CLs.len {l l' : List (List (C D.S))} (h : CLs l l') : l.length = l'.length := by induction h with | nil => rfl | cons _ _ ih => simp [ih]
theorem CLs.at {l l' : List (List (C D.S))} (h : CLs l l') : ∀ (j : Nat) cs cs', l[j]? = some cs → l'[j]? = some cs' → CL cs cs' := by
  induction h with
  | nil => intro j cs cs' h; simp at h
  | cons h t ih =>
    intro j cs cs' h1 h2
    cases j with
    | zero => simp at h1 h2; subst h1; subst h2; exact h
    | succ j => simp at h1 h2; exact ih j cs cs' h1 h2
theorem decT_le (lw : Lawful D P) {r : RT} {cs : List (C D.S)} {x : TT D r} (h : decT D r cs = some x) : CL cs (encT D r x) := by
  cases r with
  | v t =>
    obtain ⟨h1, h2⟩ := decL_le lw h
    exact ⟨h1.trans (encL_len lw t x).symm, h2⟩
  | er =>
    simp only [decT] at h
    split at h
    · obtain rfl := Option.some.inj h; exact CL.rfl' _
    · obtain rfl := Option.some.inj h; exact CL.rfl' _
    · cases h
theorem decY_le (lw : Lawful D P) : ∀ {l : List RT} {css : List (List (C D.S))} {y : YR D l}, decY D l css = some y → CLs css (encY D l y)
  | [], css, y, h => by
    simp only [decY] at h
    split at h
    · exact .nil
    · cases h
  | [r], css, y, h => by
    simp only [decY] at h
    split at h
    · exact .cons (decT_le lw h) .nil
    · cases h
  | r :: r' :: l, css, y, h => by
    simp only [decY] at h
    split at h
    · split at h
      · rename_i x hx
        split at h
        · rename_i y' hy
          obtain rfl := Option.some.inj h
          exact .cons (decT_le lw hx) (decY_le lw hy)
        · cases h
      · cases h
    · cases h
theorem RPA.cl {g : Bool} {x : A D.S} (hg : (isAggA x == g) = true) {cs' : List (C D.S)} (h : CL x.cells cs') {w F v} (r : RPA D w F x v) : RPA D w F (mkA2 D g cs') v := by
  have hg := eq_of_beq hg
  subst hg
  cases x with
  | c c =>
    have hl : cs'.length = 1 := h.1.symm
    match cs', hl, h with
    | [c'], _, h =>
      exact h.2 0 c c' rfl rfl w F v r
  | agg cs =>
    obtain ⟨us, rfl, r⟩ := r
    exact ⟨us, rfl, h.pl r⟩
theorem args_le {w : World} {F : Nat → Prop} : ∀ {pm : List PM} {as : List RT} {ws : List (A D.S)} {vs : List Value} {Ls : List Loc} {css : List (List (C D.S))}, Args D w F pm ws vs Ls → aggsP D pm as ws = true → CLs (cellsL D ws) css →
    Args D w F pm (wrapP D pm as css) vs Ls
  | _, [], _, _, _, _, .nil, hg, h => by cases h; exact .nil
  | _, r :: as, _, _, _, _, .nil, hg, h => by simp [aggsP] at hg
  | _, r :: as, _, _, _, _, .val x v rx t, hg, h => by
    simp only [aggsP] at hg
    split at hg
    · rename_i hx
      cases h with
      | cons hc ht => exact .val _ _ (RPA.cl hx hc rx) (args_le t hg ht)
    · cases hg
  | _, [], _, _, _, _, .val x v rx t, hg, h => by simp [aggsP] at hg
  | _, [], _, _, _, _, .ref cs L rl hF hn t, hg, h => by simp [aggsP] at hg
  | _, r :: as, _, _, _, _, .ref cs L rl hF hn t, hg, h => by
    simp only [aggsP] at hg
    split at hg
    · cases h with
      | cons hc ht =>
        refine .ref _ L ?_ hF hn (args_le t hg ht)
        obtain ⟨h1, us, ty, h2, h3, h4⟩ := rl
        exact ⟨h1, us, ty, h2, h3, hc.pl h4⟩
    · cases hg
theorem res_le {w : World} {F : Nat → Prop} : ∀ {ts : List RT} {res : List (A D.S)} {css css' : List (List (C D.S))} {rvs : List Value}, ResAll D w F res rvs → aggsA D ts res = true → CLs (appL D (cellsL D res) css) css' →
    ResAll D w F (wrapA D ts (css'.take res.length)) rvs ∧ CLs css (css'.drop res.length)
  | ts, [], css, css', rvs, hr, hg, h => by
    obtain ⟨h1, h2⟩ := hr
    obtain rfl : rvs = [] := List.length_eq_zero_iff.mp h1.symm
    refine ⟨?_, by simpa [cellsL, appL] using h⟩
    cases ts <;> exact ⟨rfl, fun j x v hx => by simp [wrapA] at hx⟩
  | [], x :: res, css, css', rvs, hr, hg, h => by simp [aggsA] at hg
  | r :: ts, x :: res, css, css', rvs, hr, hg, h => by
    simp only [aggsA] at hg
    split at hg
    · rename_i hx
      simp only [cellsL, appL] at h
      cases h with
      | cons hc ht =>
        rename_i cs' l'
        obtain ⟨h1, h2⟩ := hr
        match rvs, h1, h2 with
        | v :: rvs, h1, h2 =>
          obtain ⟨⟨g1, g2⟩, g3⟩ := res_le (rvs := rvs) ⟨by simpa using h1, fun j y u hy hu => h2 (j + 1) y u (by simpa using hy) (by simpa using hu)⟩ hg ht
          refine ⟨⟨by simp [wrapA, g1], fun j y u hy hu => ?_⟩, by simpa using g3⟩
          cases j with
          | zero => simp [wrapA] at hy hu; subst hy; subst hu; exact RPA.cl hx hc (h2 0 x v rfl rfl)
          | succ j => simp [wrapA] at hy hu; exact g2 j y u hy hu
    · cases hg
theorem lent_le {w : World} {F : Nat → Prop} {Ls : List Loc} {css css' : List (List (C D.S))} (h : LentAll D w F Ls css) (hc : CLs css css') : LentAll D w F Ls css' := by
  refine ⟨h.1.trans hc.len, fun j L cs hj hcs => ?_⟩
  have hl := (List.getElem?_eq_some_iff.mp hcs).1
  have hl' : j < css.length := by rw [hc.len]; exact hl
  obtain ⟨h1, us, ty, h2, h3, h4⟩ := h.2 j L _ hj (List.getElem?_eq_getElem hl')
  exact ⟨h1, us, ty, h2, h3, (hc.at j _ _ (List.getElem?_eq_getElem hl') hcs).pl h4⟩
/-- The program's function g does what e says. -/
def FnOk (D : Tys) (P : Program) (e : En D) : Prop := ∀ x y, e.G x = some y → CallOk D P e.g e.pm (encArgs D e.pm e.as x) (encRes D e.ts e.nr y) (encRef D e.ts e.nr y)
theorem enK_nat {R : Type} {e : En D} {ws : List (A D.S)} {kk : List (A D.S) → List (List (C D.S)) → Option R} {r : R} (h : enK D e ws kk = some r) :
    ∃ x y, decArgs D e.pm e.as ws = some x ∧ e.G x = some y ∧ kk (encRes D e.ts e.nr y) (encRef D e.ts e.nr y) = some r ∧ ∀ kk2 : List (A D.S) → List (List (C D.S)) → Option R, enK D e ws kk2 = kk2 (encRes D e.ts e.nr y) (encRef D e.ts e.nr y) := by
  unfold enK at h
  split at h
  · cases h
  · rename_i x hx
    obtain ⟨y, hy, h⟩ := Option.bind_eq_some_iff.mp h
    exact ⟨x, y, hx, hy, h, fun kk2 => by unfold enK; rw [hx]; simp only [hy, Option.bind_some]⟩
theorem findE_mem : ∀ {l : List (En D)} {g : FuncId} {e : En D}, findE D l g = some e → e ∈ l ∧ e.g = g
  | x :: l, g, e, h => by
    unfold findE at h
    split at h
    · rename_i hb
      obtain rfl := Option.some.inj h
      exact ⟨List.mem_cons_self, Nat.eq_of_beq_eq_true hb⟩
    · obtain ⟨h1, h2⟩ := findE_mem h
      exact ⟨List.mem_cons_of_mem _ h1, h2⟩
theorem tabH_nat {R : Type} (l : List (En D)) : HNat (tabH (R := R) D l) := fun g ws kk r h => by
  unfold tabH at h
  split at h
  · rename_i e he
    obtain ⟨x, y, _, _, h1, h2⟩ := enK_nat h
    exact ⟨_, _, h1, fun kk2 => by unfold tabH; rw [he]; exact h2 kk2⟩
  · cases h
/-- Told with more, called with less. -/
theorem CallOk.le {g : FuncId} {pm : List PM} {as : List RT} {ws : List (A D.S)} (lw : Lawful D P) {x : YR D as} (hx : decArgs D pm as ws = some x) {res css} (h : CallOk D P g pm (encArgs D pm as x) res css) : CallOk D P g pm ws res css := by
  unfold decArgs at hx
  split at hx
  · rename_i hg
    exact fun w F vs Ls hF hA => h w F vs Ls hF (args_le hA hg (decY_le lw hx))
  · cases hx
theorem tabH_ok {R : Type} (lw : Lawful D P) {l : List (En D)} (hm : ∀ e ∈ l, ∀ md, lk D.mode e.g = some md → md.ps = e.pm) (h : ∀ e ∈ l, FnOk D P e) : HOk (R := R) D P (tabH D l) := fun g ws kk r md hmd hk => by
  obtain ⟨res, css, h1, h2⟩ := tabH_nat l g ws kk r hk
  unfold tabH at hk
  split at hk
  · rename_i e he
    obtain ⟨hm1, rfl⟩ := findE_mem he
    obtain ⟨x, y, hx, hy, k1, k2⟩ := enK_nat hk
    refine ⟨_, _, k1, ?_, fun kk2 => by unfold tabH; rw [he]; exact k2 kk2⟩
    rw [hm e hm1 md hmd]
    exact CallOk.le lw hx (h e hm1 x y hy)
  · cases hk
end
end Go.Proofs.Ytalgppclaolonaa.Ev
