/- For all numbers of 128 bits: the program's sum and difference, with carry and borrow, are the reference's. No conditions. -/
import Derived.Test.YtjbcfiigafbobaaF17
import Derived.Test.YtjbcfiigafbobaaTwinLaw
namespace Go.Proofs.Ytjbcfiigafbobaa.Pure
open Go.RowKit Go.Proofs.YtjbcfiigafbobaaW.PrintWords Go.Proofs.YtjbcfiigafbobaaW.PrintLast Go.Proofs.YtjbcfiigafbobaaW.PrintMore Go.Proofs.Ytjbcfiigafbobaa.F Go.Proofs.Ytjbcfiigafbobaa.M
set_option linter.unusedVariables false
set_option linter.unusedSimpArgs false
theorem TwinAdds : vernierlaw02_TwinAdds.Pure := by
  intro a0 a1 b0 b1 w0 w1 w2 w3
  obtain ⟨ah, rfl, h0⟩ := word w0
  obtain ⟨al, rfl, h1⟩ := word w1
  obtain ⟨bh, rfl, h2⟩ := word w2
  obtain ⟨bl, rfl, h3⟩ := word w3
  refine Ev.rounds ?_
  simp only [vernierlaw02_TwinAdds.f, up02, Option.bind_some, ↓reduceIte, Add_eq h0 h1 h2 h3, Sub_eq h0 h1 h2 h3]
  refine Ev.bind (Add02_ev h0 h1 h2 h3) (Ev.bind (Sub02_ev h0 h1 h2 h3) ?_)
  simp only [↓reduceIte, beq_self_eq_true, Bool.and_self]
  exact Ev.now _
end Go.Proofs.Ytjbcfiigafbobaa.Pure
