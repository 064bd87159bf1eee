/- The pure law RootFloors: Wide, Floor and Whole answer as their reference, for every number of two words. -/
import Derived.Test.YtemhnlameekmkaaXRootRootM
import Derived.Test.YtemhnlameekmkaaXRootx8
namespace Go.Proofs.Ytemhnlameekmkaa.Pure
open Go.RowKit Go.Proofs.Ytemhnlameekmkaa.XRoot Go.Proofs.Ytemhnlameekmkaa.XM Go.Proofs.Ytemhnlameekmkaa.NumM Go.Proofs.YtemhnlameekmkaaW.PrintWords Go.Proofs.YtemhnlameekmkaaW.PrintLast Go.Proofs.YtemhnlameekmkaaW.PrintMore
set_option linter.unusedVariables false

theorem floors_awake : Ev (fun k => pochoirlaw04_awake.f k) true :=
  Ev.of (g := fun k => pochoirlaw04_awake.f k) pochoirlaw04_awake.mono (k := 90) (by decide +kernel)

theorem RootFloors : pochoirlaw04_RootFloors.Pure := by
  intro x0 hx
  obtain ⟨h, l⟩ := x0
  refine Ev.rounds (g := fun k => pochoirlaw04_RootFloors.f k h l) ?_
  have hh : Word h := u64_of hx.1
  have hl : Word l := u64_of hx.2
  have h0 : Word 0 := ⟨by omega, by omega⟩
  obtain ⟨r, r1, r2, r3⟩ := rootwide_ev hh hl
  obtain ⟨s, s1, s2, s3⟩ := rwide_ev hh hl
  obtain rfl := r3.unique (by omega) s3
  obtain ⟨t, t1, t2, t3⟩ := rootfloor_ev hl
  obtain ⟨u, u1, u2, u3⟩ := rwide_ev h0 hl
  obtain rfl := t3.unique (by omega) u3
  unfold pochoirlaw04_RootFloors.f
  refine Ev.bind floors_awake ?_
  refine Ev.step (f := fun k => (root_Wide.f k h l).bind fun t221 => ((pochoirref04_Wide.f k h l).bind fun t222 => (if t221 = t222 then ((root_Floor.f k l).bind fun t223 => ((pochoirref04_Wide.f k 0 l).bind fun t224 => (if t223 = t224 then ((root_Whole.f k h l).bind fun t225 => ((pochoirref04_Whole.f k h l).bind fun t226 => (some (t225 == t226)))) else (some false)))) else (some false)))) (fun k => rfl) ?_
  refine Ev.bind r1 (Ev.bind s1 ?_)
  simp only [if_true]
  refine Ev.bind t1 (Ev.bind u1 ?_)
  simp only [if_true]
  refine Ev.bind (rootwhole_ev hh hl r2 r1) (Ev.bind (rwhole_ev hh hl r2 s1) (Ev.some ?_))
  simp

end Go.Proofs.Ytemhnlameekmkaa.Pure
