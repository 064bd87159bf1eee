/- Layer 22's answers for any edges; and the reference's word for an edge that may be. -/
import Derived.Test.YtalgppclaolonaaXCornCornIsM
import Derived.Test.YtalgppclaolonaaXCornx9
import Derived.Test.YtalgppclaolonaaXCornx11

namespace Go.Proofs.Ytalgppclaolonaa.XCorn
open Go.RowKit Go.Proofs.Ytalgppclaolonaa.XM Go.Proofs.Ytalgppclaolonaa.NumM Go.Proofs.YtalgppclaolonaaW.PrintWords Go.Proofs.YtalgppclaolonaaW.PrintLast Go.Proofs.YtalgppclaolonaaW.PrintMore
set_option linter.unusedVariables false
set_option linter.unusedSimpArgs false

theorem rfine_f (p : S36) : pochoirref16_fine.f p.f0 p.f1 = some (decide (Fine p)) := by
  unfold pochoirref16_fine.f Fine
  by_cases h0 : p.f0 ≥ -33554432 <;> by_cases h1 : p.f0 ≤ 33554432 <;> by_cases h2 : p.f1 ≥ -33554432 <;> by_cases h3 : p.f1 ≤ 33554432 <;> simp [*] <;> omega
theorem rsame_f (e : S38) : pochoirref16_same.f e.f0 e.f1 e.f2.f0 e.f2.f1 e.f3.f0 e.f3.f1 e.f4.f0 e.f4.f1 = some (same e) := by
  unfold pochoirref16_same.f same
  have h1 : (e.f2.f0 == e.f4.f0 && (e.f2.f1 == e.f4.f1)) = pe e.f2 e.f4 := rfl
  have h2 : (e.f2.f0 == e.f3.f0 && (e.f2.f1 == e.f3.f1)) = pe e.f2 e.f3 := rfl
  rw [h1, h2]
  cases pe e.f2 e.f4 <;> cases e.f1 <;> simp
theorem rone_f (e : S38) : pochoirref16_One.f e.f0 e.f1 e.f2.f0 e.f2.f1 e.f3.f0 e.f3.f1 e.f4.f0 e.f4.f1 = some (One e) := by
  unfold pochoirref16_One.f One
  have h1 : (e.f3.f0 == 0 && (e.f3.f1 == 0)) = pe e.f3 ⟨0, 0⟩ := rfl
  simp only [rfine_f, rsame_f, Option.bind_some, h1]
  cases decide (Fine e.f2) <;> cases decide (Fine e.f3) <;> cases decide (Fine e.f4) <;> cases same e <;> cases e.f1 <;> simp
/-- An edge by itself. -/
theorem cright_ev (e : S38) : Ev (fun k => corner_right.f k e.f0 e.f1 e.f2.f0 e.f2.f1 e.f3.f0 e.f3.f1 e.f4.f0 e.f4.f1) (One e) := by
  unfold corner_right.f
  have h1 : (e.f2.f0 == e.f4.f0 && (e.f2.f1 == e.f4.f1)) = pe e.f2 e.f4 := rfl
  rw [h1]
  have r0 : ∀ p : S36, pe p p = true := fun p => by simp [pe]
  cases hp : pe e.f2 e.f4
  · simp only [Bool.false_eq_true, if_false]
    refine Ev.bind (emay_ev _ (by simp)) (Ev.some ?_)
    have hp2 : pe e.f4 e.f2 = false := by rw [pe_comm]; exact hp
    have ob : One (⟨e.f0, false, ⟨e.f4.f0, e.f4.f1⟩, ⟨0, 0⟩, ⟨e.f2.f0, e.f2.f1⟩⟩ : S38) = (decide (Fine e.f4) && decide (Fine e.f2)) := by
      have z : decide (Fine (⟨0, 0⟩ : S36)) = true := by decide
      have s0 : same (⟨e.f0, false, ⟨e.f4.f0, e.f4.f1⟩, ⟨0, 0⟩, ⟨e.f2.f0, e.f2.f1⟩⟩ : S38) = false := by
        unfold same; simp only; rw [show pe (⟨e.f4.f0, e.f4.f1⟩ : S36) ⟨e.f2.f0, e.f2.f1⟩ = false from hp2]; rfl
      unfold One; rw [s0]; simp only [z, r0]; simp
    have oe : One (⟨e.f0, e.f1, ⟨e.f2.f0, e.f2.f1⟩, ⟨e.f3.f0, e.f3.f1⟩, ⟨e.f4.f0, e.f4.f1⟩⟩ : S38) = One e := rfl
    have hc : Closed ([⟨e.f0, e.f1, ⟨e.f2.f0, e.f2.f1⟩, ⟨e.f3.f0, e.f3.f1⟩, ⟨e.f4.f0, e.f4.f1⟩⟩, ⟨e.f0, false, ⟨e.f4.f0, e.f4.f1⟩, ⟨0, 0⟩, ⟨e.f2.f0, e.f2.f1⟩⟩] : List S38) = true := by
      simp only [Closed, cl, if_true, r0, Bool.and_self]
    unfold mayE
    rw [hc]
    simp only [List.all_cons, List.all_nil, oe, ob]
    cases ho : One e
    · simp
    · obtain ⟨f1, f2, f3⟩ := fines ho
      simp [f1, f3]
  · simp only [if_true]
    refine Ev.bind (emay_ev _ (by simp)) (Ev.some ?_)
    have hp2 : pe e.f4 e.f2 = true := by rw [pe_comm]; exact hp
    have oe : One (⟨e.f0, e.f1, ⟨e.f2.f0, e.f2.f1⟩, ⟨e.f3.f0, e.f3.f1⟩, ⟨e.f4.f0, e.f4.f1⟩⟩ : S38) = One e := rfl
    have hc : Closed ([⟨e.f0, e.f1, ⟨e.f2.f0, e.f2.f1⟩, ⟨e.f3.f0, e.f3.f1⟩, ⟨e.f4.f0, e.f4.f1⟩⟩] : List S38) = true := hp2
    unfold mayE
    rw [hc]
    simp only [List.all_cons, List.all_nil, oe]
    simp
theorem cLast_ev (e : S38) : Ev (fun k => corner_Last.f k e.f0 e.f1 e.f2.f0 e.f2.f1 e.f3.f0 e.f3.f1 e.f4.f0 e.f4.f1) (if One e = true then ((lst e).f0, (lst e).f1, 0) else (0, 0, 1)) := by
  unfold corner_Last.f
  refine Ev.bind (cright_ev e) ?_
  cases h : One e
  · simp; exact Ev.now _
  · simp only [if_true]
    exact Ev.bind (clast_ev h) (Ev.now _)
theorem cIs_ev (e f : S38) : Ev (fun k => corner_Is.f k e.f0 e.f1 e.f2.f0 e.f2.f1 e.f3.f0 e.f3.f1 e.f4.f0 e.f4.f1 f.f0 f.f1 f.f2.f0 f.f2.f1 f.f3.f0 f.f3.f1 f.f4.f0 f.f4.f1) (if (One e && One f) = true then (isC e f, 0) else (false, 1)) := by
  unfold corner_Is.f
  refine Ev.bind (cright_ev e) ?_
  cases h : One e
  · simp; exact Ev.now _
  · simp only [if_true]
    refine Ev.bind (cright_ev f) ?_
    cases g : One f
    · simp; exact Ev.now _
    · simp only [if_true, Bool.and_self]
      exact Ev.bind (cis_ev h g) (Ev.now _)
theorem awake22_ev : Ev (fun k => pochoirlaw22_awake.f k) true := by
  refine Ev.of (g := fun k => pochoirlaw22_awake.f k) pochoirlaw22_awake.mono (k := 30) ?_
  decide +kernel

end Go.Proofs.Ytalgppclaolonaa.XCorn
