/- For any number n and two patterns: the program tells how many steps lie between as the reference does, with its error. No conditions. -/
import Derived.Test.YteekhbmffdmgjaaF17
import Derived.Test.YteekhbmffdmgjaaOrder
namespace Go.Proofs.Yteekhbmffdmgjaa.Pure
open Go.RowKit Go.Proofs.YteekhbmffdmgjaaW.PrintWords Go.Proofs.YteekhbmffdmgjaaW.PrintLast Go.Proofs.YteekhbmffdmgjaaW.PrintMore Go.Proofs.Yteekhbmffdmgjaa.F Go.Proofs.Yteekhbmffdmgjaa.M
set_option linter.unusedVariables false
set_option linter.unusedSimpArgs false
theorem OrderFars : vernierlaw08_OrderFars.Pure := by
  intro a0 a1 a2 w0 w1 w2
  obtain ⟨p, rfl, hp⟩ := word w1
  obtain ⟨q, rfl, hq⟩ := word w2
  refine Ev.rounds ?_
  unfold vernierlaw08_OrderFars.f
  refine Ev.bindp up08 ?_
  obtain ⟨f0, g0, c0, h0, e0, d0⟩ : ∃ (f : Int) (g : Option Int) (c : Int), order_Steps.f a0 (p : Int) (q : Int) = some (f, g) ∧ Ev (fun k => vernierref08_Steps.f k a0 (p : Int) (q : Int)) (f, c) ∧ vernierlaw00_Code.f g = some c := by
    rcases width_or a0 with ⟨n, rfl, h⟩ | h
    · exact ⟨_, _, _, oSteps_eq h hp hq, rSteps_ev h hp hq, code0⟩
    · exact ⟨_, _, _, oSteps_no h, rSteps_no h, code2⟩
  refine Ev.bindp h0 (Ev.bind e0 (?_))
  simp only [↓reduceIte, beq_self_eq_true, d0, Option.bind_some]
  exact Ev.now _
end Go.Proofs.Yteekhbmffdmgjaa.Pure
