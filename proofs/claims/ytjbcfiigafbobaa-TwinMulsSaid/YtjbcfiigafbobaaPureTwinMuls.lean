/- For all words x and y: the program's product of two words is the reference's, upper and lower word. No conditions. -/
import Derived.Test.YtjbcfiigafbobaaF8
import Derived.Test.YtjbcfiigafbobaaTwinLaw
namespace Go.Proofs.Ytjbcfiigafbobaa.Pure
open Go.RowKit Go.Proofs.YtjbcfiigafbobaaW.PrintWords Go.Proofs.YtjbcfiigafbobaaW.PrintLast Go.Proofs.YtjbcfiigafbobaaW.PrintMore Go.Proofs.Ytjbcfiigafbobaa.F Go.Proofs.Ytjbcfiigafbobaa.M
set_option linter.unusedVariables false
set_option linter.unusedSimpArgs false
theorem TwinMuls : vernierlaw02_TwinMuls.Pure := by
  intro a0 a1 w0 w1
  obtain ⟨x, rfl, hx⟩ := word w0
  obtain ⟨y, rfl, hy⟩ := word w1
  refine Ev.rounds ?_
  simp only [vernierlaw02_TwinMuls.f, up02, Option.bind_some, ↓reduceIte, Mul_eq hx hy]
  refine Ev.bind (Mul02_ev hx hy) ?_
  simp only [beq_self_eq_true, Bool.and_self]
  exact Ev.now _
end Go.Proofs.Ytjbcfiigafbobaa.Pure
