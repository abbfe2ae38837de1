/- For any number n and rank: the program tells the pattern of a rank as the reference does, with its error. No conditions. -/
import Derived.Test.YtjbcfiigafbobaaF22
import Derived.Test.YtjbcfiigafbobaaShapeLaw
namespace Go.Proofs.Ytjbcfiigafbobaa.Pure
open Go.RowKit Go.Proofs.YtjbcfiigafbobaaW.PrintWords Go.Proofs.YtjbcfiigafbobaaW.PrintLast Go.Proofs.YtjbcfiigafbobaaW.PrintMore Go.Proofs.Ytjbcfiigafbobaa.F Go.Proofs.Ytjbcfiigafbobaa.M
set_option linter.unusedVariables false
set_option linter.unusedSimpArgs false
theorem ShapePatterns : vernierlaw05_ShapePatterns.Pure := by
  intro a0 a1 w0 w1
  refine Ev.rounds ?_
  unfold vernierlaw05_ShapePatterns.f
  refine Ev.bindp up05 ?_
  obtain ⟨f, g, c, hf, hf2, hd⟩ : ∃ (f : Int) (g : Option Int) (c : Int), shape_Pattern.f a0 a1 = some (f, g) ∧ Ev (fun k => vernierref05_Pattern.f k a0 a1) (f, c) ∧ vernierlaw00_Code.f g = some c := by
    rcases width_or a0 with ⟨n, rfl, h⟩ | h
    · have h1 := Pattern_eq (r := a1) h
      have h2 := Pattern05_ev (r := a1) h
      by_cases hr : ext (asW a1) n = a1
      · rw [if_pos hr] at h1 h2; exact ⟨_, _, _, h1, h2, code0⟩
      · rw [if_neg hr] at h1 h2; exact ⟨_, _, _, h1, h2, code1⟩
    · exact ⟨_, _, _, Pattern_no h, Pattern05_no h, code2⟩
  refine Ev.bindp hf (Ev.bind hf2 ?_)
  simp only [↓reduceIte, beq_self_eq_true, hd, Option.bind_some]
  exact Ev.now _
end Go.Proofs.Ytjbcfiigafbobaa.Pure
