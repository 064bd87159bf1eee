/- The pure law LineOf: the level of the root of a fraction is the reference's, for every fraction, reach and number of steps. -/
import Derived.Test.YtemhnlameekmkaaXLineLineM
import Derived.Test.YtemhnlameekmkaaXLinex9
namespace Go.Proofs.Ytemhnlameekmkaa.Pure
open Go.RowKit Go.Proofs.Ytemhnlameekmkaa.XLine Go.Proofs.Ytemhnlameekmkaa.XM Go.Proofs.Ytemhnlameekmkaa.NumM Go.Proofs.YtemhnlameekmkaaW.PrintWords Go.Proofs.YtemhnlameekmkaaW.PrintLast Go.Proofs.YtemhnlameekmkaaW.PrintMore
set_option linter.unusedVariables false

theorem of_awake : Ev (fun k => pochoirlaw19_awake.f k) true :=
  Ev.of (g := fun k => pochoirlaw19_awake.f k) pochoirlaw19_awake.mono (k := 60) (by decide +kernel)

theorem of_same {h l h' l' r n : Int} (h1 : Word h) (h2 : Word l) (h3 : Word h') (h4 : Word l') :
    ∃ x e, Ev (fun k => line_Of.f k h l h' l' r n) (x, e) ∧ Ev (fun k => pochoirref19_Of.f k h l h' l' r n) (x, e) := by
  unfold line_Of.f pochoirref19_Of.f
  rw [right_f, rright_f]
  simp only [Option.bind_some]
  by_cases sc : Scale r n
  · simp only [decide_eq_true sc, if_true]
    by_cases c : (h' == 0 && (l' == 0)) = true
    · simp only [if_pos c]
      exact ⟨0, 13, Ev.now _, Ev.now _⟩
    · simp only [if_neg c]
      obtain ⟨x, x1, x2⟩ := level_ev h1 h2 h3 h4 sc
      obtain ⟨y, y1, y2⟩ := rlevel_ev (digs_dig h l) (digs_dig h' l') (by rw [digs_len]; omega) (by rw [digs_len]; omega) sc
      rw [digs_val h1.1 h1.2 h2.1 h2.2, digs_val h3.1 h3.2 h4.1 h4.2] at y1
      obtain rfl := x1.unique (by have := sc.1; omega) (wide_bd h3 h4).1 y1
      exact ⟨x, 0, Ev.bind x2 (Ev.now _), Ev.bind (rdigits_ev h1.1 h2.1) (Ev.bind (rdigits_ev h3.1 h4.1) (Ev.bind y2 (Ev.now _)))⟩
  · simp only [decide_eq_false sc, Bool.false_eq_true, if_false]
    exact ⟨0, 1, Ev.now _, Ev.now _⟩

theorem LineOf : pochoirlaw19_LineOf.Pure := by
  intro x0 x1 x2 hx0 hx1 _
  obtain ⟨h, l⟩ := x0
  obtain ⟨h', l'⟩ := x1
  obtain ⟨r, n⟩ := x2
  refine Ev.rounds (g := fun k => pochoirlaw19_LineOf.f k h l h' l' r n) ?_
  obtain ⟨x, e, a, b⟩ := of_same (r := r) (n := n) (u64_of hx0.1) (u64_of hx0.2) (u64_of hx1.1) (u64_of hx1.2)
  unfold pochoirlaw19_LineOf.f
  refine Ev.bind of_awake ?_
  refine Ev.step (f := fun k => (line_Of.f k h l h' l' r n).bind fun bt297 => ((pochoirref19_Of.f k h l h' l' r n).bind fun bt299 => (if bt297.1 = bt299.1 then (some (bt297.2 == bt299.2)) else (some false)))) (fun k => rfl) ?_
  refine Ev.bind a (Ev.bind b ?_)
  simp only [if_true, beq_self_eq_true]
  exact Ev.now _

end Go.Proofs.Ytemhnlameekmkaa.Pure
