/- Flat: the shapes that are read, both sides; that they may be. -/
import Derived.Test.YtalghbndblgndaaEvGlyfD
namespace Go.Proofs.Ytalghbndblgndaa.Ev
open Go
set_option linter.unusedVariables false
set_option linter.unusedSimpArgs false
/-! what is read may be -/
theorem gPt_ok {xs ys Fl : List Int} (hx : ∀ v ∈ xs, -32767 ≤ v ∧ v ≤ 32767) (hy : ∀ v ∈ ys, -32767 ≤ v ∧ v ≤ 32767) (k : Nat) : ptOk (gPt xs ys Fl k) = true := by
  have g : ∀ (l : List Int), (∀ v ∈ l, -32767 ≤ v ∧ v ≤ 32767) → -32767 ≤ l.getD k 0 ∧ l.getD k 0 ≤ 32767 := fun l h => by
    by_cases hk : k < l.length
    · exact h _ (rd_mem l 0 k hk)
    · rw [List.getD_eq_getElem?_getD, List.getElem?_eq_none (by omega)]; decide
  have h1 := g xs hx
  have h2 := g ys hy
  unfold ptOk gPt
  simp only
  rw [decide_eq_true h1.1, decide_eq_true h1.2, decide_eq_true h2.1, decide_eq_true h2.2]; rfl
theorem gC_ok {xs ys Fl : List Int} (hx : ∀ v ∈ xs, -32767 ≤ v ∧ v ≤ 32767) (hy : ∀ v ∈ ys, -32767 ≤ v ∧ v ≤ 32767) : ∀ (d k : Nat) (c : List S39), c.all ptOk = true → (gC xs ys Fl d k c).all ptOk = true
  | 0, k, c, h => h
  | d + 1, k, c, h => gC_ok hx hy d (k + 1) _ (by rw [List.all_append, h, List.all_cons, gPt_ok hx hy]; rfl)
theorem gCt_app {xs ys Fl : List Int} : ∀ (r : List Int) (k : Nat) (A : CS), gCt xs ys Fl r k A = A ++ gCt xs ys Fl r k []
  | [], k, A => by simp [gCt]
  | e :: r, k, A => by
    rw [gCt, gCt_app r _ (A ++ _), gCt, gCt_app r _ ([] ++ _)]; simp
theorem gCt_ok {xs ys Fl : List Int} (hx : ∀ v ∈ xs, -32767 ≤ v ∧ v ≤ 32767) (hy : ∀ v ∈ ys, -32767 ≤ v ∧ v ≤ 32767) {z : Int} (hz : z < 4096) : ∀ (r : List Int) (k : Nat), Up ((k : Int) - 1) r z →
    gmL k (gCt xs ys Fl r k []) = true ∧ (gCt xs ys Fl r k []).length = r.length ∧ ∀ c ∈ gCt xs ys Fl r k [], c.length ≤ 5000
  | [], k, hu => ⟨rfl, rfl, fun c hc => by cases hc⟩
  | e :: r, k, hu => by
    have hle := hu.2.le
    have hk := hu.1
    obtain ⟨n, rfl⟩ := Int.eq_ofNat_of_zero_le (a := e) (by omega)
    obtain ⟨i1, i2, i3⟩ := gCt_ok hx hy hz r (n + 1) (by rw [show ((n + 1 : Nat) : Int) - 1 = (n : Int) by omega]; exact hu.2) (Fl := Fl)
    have hl := gC_len xs ys Fl (n + 1 - k) k []
    rw [gCt, gCt_app, Int.toNat_natCast, List.nil_append, List.singleton_append]
    simp only [List.length_nil, Nat.zero_add] at hl
    refine ⟨?_, by rw [List.length_cons, i2, List.length_cons], fun c hc => ?_⟩
    · rw [gmL, hl, decide_eq_true (by omega), decide_eq_true (by omega), gC_ok hx hy _ _ _ rfl, show k + (n + 1 - k) = n + 1 by omega, i1]; rfl
    · rcases List.mem_cons.mp hc with h | h
      · rw [h, hl]; omega
      · exact i3 c h
theorem gP1_ok {n : Nat} {q : Q} (hn : n ≤ 256) : (∀ c ∈ (gP1 n q).1, c.length ≤ 5000) ∧ ((gP1 n q).2 = 0 → gm (gP1 n q).1 = true) := by
  unfold gP1
  by_cases he : (gPl n q).1 = 0
  · obtain ⟨k1, k2, k3⟩ := gPl_ok he
    rw [cnF he]
    unfold gP2
    generalize gFl _ _ _ _ = R
    by_cases he2 : R.1 = 0
    · rw [cnF he2]
      unfold gP3
      have hX := gAl_ok (m := 2) (n := 16) R.2.1 [] 0 R.2.2 (fun v hv => by cases hv)
      generalize gAl 2 16 R.2.1 [] 0 R.2.2 = X at *
      by_cases he3 : X.1 = 0
      · rw [cnF he3]
        unfold gP4
        have hY := gAl_ok (m := 4) (n := 32) R.2.1 [] 0 X.2.2 (fun v hv => by cases hv)
        generalize gAl 4 32 R.2.1 [] 0 X.2.2 = Y at *
        by_cases he4 : Y.1 = 0
        · rw [cnF he4]
          obtain ⟨i1, i2, i3⟩ := gCt_ok (Fl := R.2.1) (hX he3).2 (hY he4).2 k3 (gPl n q).2.1 0 k2
          refine ⟨i3, fun _ => ?_⟩
          show gm (gCt _ _ _ _ 0 []) = true
          unfold gm
          rw [i1, i2, decide_eq_true (by omega)]; rfl
        · rw [cnT he4]; exact ⟨fun c hc => (by cases hc), fun e => absurd e he4⟩
      · rw [cnT he3]; exact ⟨fun c hc => (by cases hc), fun e => absurd e he3⟩
    · rw [cnT he2]; exact ⟨fun c hc => (by cases hc), fun e => absurd e he2⟩
  · rw [cnT he]; exact ⟨fun c hc => (by cases hc), fun e => absurd e he⟩
theorem gPar_ok (l : List Int) : (∀ c ∈ (gPar l).1, c.length ≤ 5000) ∧ ((gPar l).2 = 0 → gm (gPar l).1 = true) := by
  unfold gPar
  by_cases h0 : l = []
  · rw [cT h0]; exact ⟨fun c hc => (by cases hc), fun e => rfl⟩
  rw [cF h0]
  generalize s16 (num 2 (l, false)).1 = k at *
  generalize (tk 8 (num 2 (l, false)).2).2 = q at *
  cases q.2
  · rw [cond_false]
    by_cases h1 : k < 0
    · rw [cT h1]; exact ⟨fun c hc => (by cases hc), fun e => rfl⟩
    rw [cF h1]
    by_cases h2 : k > 256
    · rw [cT h2]; exact ⟨fun c hc => (by cases hc), fun e => rfl⟩
    rw [cF h2]
    by_cases h3 : k = 0
    · rw [ceT h3]; exact ⟨fun c hc => (by cases hc), fun e => rfl⟩
    rw [ceF h3]
    exact gP1_ok (by omega)
  · exact ⟨fun c hc => (by cases hc), fun e => rfl⟩
def gSh (l : List Int) (g : Int) : S43 × Int := cond (sIs l) (S43.mk [] (sParse l g).1, (sParse l g).2) (S43.mk (gPar l).1 [], (gPar l).2)
theorem f109 {s : ByteArray} (hs : s.size ≤ 1000000000) (g : Int) : F109 s g = some (gSh (strBytes s) g) := by
  rw [F109_eq, bnd (f39 hs)]
  unfold gSh
  cases sIs (strBytes s)
  · simp only [cond_false]; rw [bnd (f30 hs)]
  · simp only [cond_true]; rw [bnd (f37 hs g)]
theorem gSh_ok {l : List Int} (hl : Byt l) (g : Int) : (∀ c ∈ (gSh l g).1.f0, c.length ≤ 5000) ∧ (gSh l g).1.f1.length ≤ 64 ∧ ((gSh l g).2 = 0 → sm (gSh l g).1 g = true) := by
  unfold gSh
  cases sIs l
  · simp only [cond_false]
    refine ⟨(gPar_ok l).1, by simp, fun h => ?_⟩
    unfold sm
    simp only
    rw [cF (by simp)]; exact (gPar_ok l).2 h
  · simp only [cond_true]
    refine ⟨fun c hc => (by cases hc), sParse_len l g, fun h => ?_⟩
    have := sParse_r (g := g) hl h
    unfold sm
    simp only
    rw [this]
    cases decide ((sParse l g).1.length ≠ 0) <;> rfl
end Go.Proofs.Ytalghbndblgndaa.Ev
