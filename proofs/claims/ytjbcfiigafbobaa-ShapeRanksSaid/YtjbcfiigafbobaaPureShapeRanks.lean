/- For any number n and every pattern: the program tells its rank as the reference does, with its error. No conditions. -/
import Derived.Test.YtjbcfiigafbobaaF27
import Derived.Test.YtjbcfiigafbobaaShapeLaw
namespace Go.Proofs.Ytjbcfiigafbobaa.Pure
open Go.RowKit Go.Proofs.YtjbcfiigafbobaaW.PrintWords Go.Proofs.YtjbcfiigafbobaaW.PrintLast Go.Proofs.YtjbcfiigafbobaaW.PrintMore Go.Proofs.Ytjbcfiigafbobaa.F Go.Proofs.Ytjbcfiigafbobaa.M
set_option linter.unusedVariables false
set_option linter.unusedSimpArgs false
theorem ShapeRanks : vernierlaw05_ShapeRanks.Pure := by
  intro a0 a1 w0 w1
  obtain ⟨p, rfl, hp⟩ := word w1
  refine Ev.rounds ?_
  unfold vernierlaw05_ShapeRanks.f
  refine Ev.bindp up05 ?_
  obtain ⟨f, g, c, hf, hf2, hd⟩ : ∃ (f : Int) (g : Option Int) (c : Int), shape_Rank.f a0 (p : Int) = some (f, g) ∧ Ev (fun k => vernierref05_Rank.f k a0 (p : Int)) (f, c) ∧ vernierlaw00_Code.f g = some c := by
    rcases width_or a0 with ⟨n, rfl, h⟩ | h
    · exact ⟨_, _, _, Rank_eq h hp, Rank05_ev h hp, code0⟩
    · exact ⟨_, _, _, Rank_no h, Rank05_no h, code2⟩
  refine Ev.bindp hf (Ev.bind hf2 ?_)
  simp only [↓reduceIte, beq_self_eq_true, hd, Option.bind_some]
  exact Ev.now _
end Go.Proofs.Ytjbcfiigafbobaa.Pure
