/- For any number: the shape, or the error, as the reference has it; and the list of widths is told anew each time. No conditions. -/
import Derived.Test.YtogldofffdiflaaF11b
import Derived.Test.YtogldofffdiflaaShapeLawb
namespace Go.Proofs.Ytogldofffdiflaa.Pure
open Go.RowKit Go.Proofs.YtogldofffdiflaaW.PrintWords Go.Proofs.YtogldofffdiflaaW.PrintLast Go.Proofs.YtogldofffdiflaaW.PrintMore Go.Proofs.Ytogldofffdiflaa.F Go.Proofs.Ytogldofffdiflaa.M
set_option linter.unusedVariables false
set_option linter.unusedSimpArgs false
theorem turned : ∀ m : Nat, vernierlaw05_ShapeOfs.j0 (m + 8) [8, 16, 32, 64] false = some true := fun m => by
  simp only [vernierlaw05_ShapeOfs.j0, vernierlaw05_ShapeOfs.l0, shape_Widths.f]
  simp [wrap64, rd]
theorem ShapeOfs : vernierlaw05_ShapeOfs.Pure := by
  intro a0 w0
  refine Ev.rounds ?_
  unfold vernierlaw05_ShapeOfs.f
  refine Ev.bindp up05 ?_
  obtain ⟨s, m, l, h, t, g, c, hf, hf2, hd⟩ : ∃ (s m l h t : Int) (g : Option Int) (c : Int), shape_Of.f a0 = some (s, m, l, h, t, g) ∧ Ev (fun k => vernierref05_Of.f k a0) (s, m, l, h, t, c) ∧ vernierlaw00_Code.f g = some c := by
    rcases width_or a0 with ⟨n, rfl, h⟩ | h
    · exact ⟨_, _, _, _, _, _, _, Of_eq h, Of05_ev h, code0⟩
    · exact ⟨_, _, _, _, _, _, _, Of_no h, Of05_no h, code2⟩
  refine Ev.bindp hf (Ev.bind hf2 (Ev.bindp (a := [8, 16, 32, 64]) (show shape_Widths.f = some [8, 16, 32, 64] from rfl) ?_))
  have e4 : (([8, 16, 32, 64] : List Int).length : Int) = 4 := rfl
  simp only [↓reduceIte, e4, beq_self_eq_true, Bool.not_true, Bool.or_self, Bool.false_eq_true, hd, Option.bind_some, bne_self_eq_false]
  exact ⟨8, fun k hk => by obtain ⟨j, rfl⟩ : ∃ j, k = j + 8 := ⟨k - 8, by omega⟩; exact turned j⟩
end Go.Proofs.Ytogldofffdiflaa.Pure
