/- What the laws of the fifth layer share: their head. -/
import Derived.Test.YtogldofffdiflaaF9b
import Derived.Test.YtogldofffdiflaaShapeb
namespace Go.Proofs.Ytogldofffdiflaa.M
open Go.RowKit Go.Proofs.YtogldofffdiflaaW.PrintWords Go.Proofs.YtogldofffdiflaaW.PrintLast Go.Proofs.YtogldofffdiflaaW.PrintMore Go.Proofs.Ytogldofffdiflaa.F
set_option linter.unusedVariables false
set_option linter.unusedSimpArgs false
theorem code2 : vernierlaw00_Code.f (some 2) = some 2 := rfl
theorem up05 : vernierlaw05_up.f = some true := by
  have e1 := Of_eq (n := 8) (Or.inl rfl)
  have e2 := Pattern_eq (n := 8) (r := -1) (Or.inl rfl)
  have c1 : shape_Of.f 8 = some (8, 127, 1, 128, 24, none) := e1
  have c2 : shape_Pattern.f 8 (-1) = some (255, none) := by rw [show (8 : Int) = ((8 : Nat) : Int) from rfl, e2]; decide
  unfold vernierlaw05_up.f
  rw [c1]
  simp only [Option.bind_some]
  rw [c2]
  rfl
end Go.Proofs.Ytogldofffdiflaa.M
