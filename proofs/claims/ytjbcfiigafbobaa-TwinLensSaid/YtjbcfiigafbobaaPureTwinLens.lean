/- For all numbers of 128 bits: the program tells a number's length, and shifts it up to the top, as the reference does. No conditions. -/
import Derived.Test.YtjbcfiigafbobaaF32
import Derived.Test.YtjbcfiigafbobaaTwinLaw
namespace Go.Proofs.Ytjbcfiigafbobaa.Pure
open Go.RowKit Go.Proofs.YtjbcfiigafbobaaW.PrintWords Go.Proofs.YtjbcfiigafbobaaW.PrintLast Go.Proofs.YtjbcfiigafbobaaW.PrintMore Go.Proofs.Ytjbcfiigafbobaa.F Go.Proofs.Ytjbcfiigafbobaa.M
set_option linter.unusedVariables false
set_option linter.unusedSimpArgs false
theorem TwinLens : vernierlaw02_TwinLens.Pure := by
  intro a0 a1 w0 w1
  obtain ⟨ah, rfl, h0⟩ := word w0
  obtain ⟨al, rfl, h1⟩ := word w1
  refine Ev.rounds ?_
  simp only [vernierlaw02_TwinLens.f, up02, Option.bind_some, ↓reduceIte]
  refine Ev.bind (Norm_eq h0 h1) (Ev.bind (Norm02_ev h0 h1) (Ev.bind (Len_eq h0 h1) (Ev.bind (Len02_ev h0 h1) ?_)))
  simp only [↓reduceIte, beq_self_eq_true, Bool.and_self]
  exact Ev.now _
end Go.Proofs.Ytjbcfiigafbobaa.Pure
