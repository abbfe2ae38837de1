/- For any number n and every pattern: the program folds it, and tells its kind, as the reference does, with their errors. No conditions. -/
import Derived.Test.YtjbcfiigafbobaaF30
import Derived.Test.YtjbcfiigafbobaaShapeLaw
namespace Go.Proofs.Ytjbcfiigafbobaa.Pure
open Go.RowKit Go.Proofs.YtjbcfiigafbobaaW.PrintWords Go.Proofs.YtjbcfiigafbobaaW.PrintLast Go.Proofs.YtjbcfiigafbobaaW.PrintMore Go.Proofs.Ytjbcfiigafbobaa.F Go.Proofs.Ytjbcfiigafbobaa.M
set_option linter.unusedVariables false
set_option linter.unusedSimpArgs false
theorem ShapeFolds : vernierlaw05_ShapeFolds.Pure := by
  intro a0 a1 w0 w1
  obtain ⟨p, rfl, hp⟩ := word w1
  refine Ev.rounds ?_
  unfold vernierlaw05_ShapeFolds.f
  refine Ev.bindp up05 ?_
  obtain ⟨f, g, c, hf, hf2, hd⟩ : ∃ (f : Int) (g : Option Int) (c : Int), shape_Fold.f a0 (p : Int) = some (f, g) ∧ Ev (fun k => vernierref05_Fold.f k a0 (p : Int)) (f, c) ∧ vernierlaw00_Code.f g = some c := by
    rcases width_or a0 with ⟨n, rfl, h⟩ | h
    · exact ⟨_, _, _, Fold_eq h hp, Fold05_ev h hp, code0⟩
    · exact ⟨_, _, _, Fold_no h, Fold05_no h, code2⟩
  obtain ⟨u, v, b, hu, hu2, hb⟩ : ∃ (f : Int) (g : Option Int) (c : Int), shape_Kind.f a0 (p : Int) = some (f, g) ∧ Ev (fun k => vernierref05_Kind.f k a0 (p : Int)) (f, c) ∧ vernierlaw00_Code.f g = some c := by
    rcases width_or a0 with ⟨n, rfl, h⟩ | h
    · exact ⟨_, _, _, Kind_eq h hp, Kind05_ev h hp, code0⟩
    · exact ⟨_, _, _, Kind_no h, Kind05_no h, code2⟩
  refine Ev.bindp hf (Ev.bindp hu (Ev.bind hf2 (Ev.bind hu2 ?_)))
  simp only [↓reduceIte, beq_self_eq_true, hd, hb, Option.bind_some]
  exact Ev.now _
end Go.Proofs.Ytjbcfiigafbobaa.Pure
