/- For every word and any number n: the program reads the lowest n bits as a signed number as the reference does, with its error. No conditions. -/
import Derived.Test.YtjbcfiigafbobaaF16
import Derived.Test.YtjbcfiigafbobaaLead2
namespace Go.Proofs.Ytjbcfiigafbobaa.Pure
open Go.RowKit Go.Proofs.YtjbcfiigafbobaaW.PrintWords Go.Proofs.YtjbcfiigafbobaaW.PrintLast Go.Proofs.YtjbcfiigafbobaaW.PrintMore Go.Proofs.Ytjbcfiigafbobaa.F Go.Proofs.Ytjbcfiigafbobaa.M
set_option linter.unusedVariables false
set_option linter.unusedSimpArgs false
theorem LeadSigns : vernierlaw01_LeadSigns.Pure := by
  intro a0 a1 w0 w1
  obtain ⟨x, rfl, hx⟩ := word w0
  refine Ev.rounds ?_
  unfold vernierlaw01_LeadSigns.f
  refine Ev.bind up01 ?_
  by_cases h : a1 < 1 ∨ 64 < a1
  · refine Ev.bindp (Extend_bad h) (Ev.bind (Extend01_bad h) ?_)
    simp only [↓reduceIte, beq_self_eq_true, code1, Option.bind_some]
    exact Ev.now _
  · obtain ⟨n, rfl⟩ := Int.eq_ofNat_of_zero_le (show 0 ≤ a1 by omega)
    refine Ev.bindp (Extend_eq hx (by omega) (by omega)) (Ev.bind (Extend01_ev hx (by omega) (by omega)) ?_)
    generalize ext x n = v
    simp only [↓reduceIte, beq_self_eq_true, code0, Option.bind_some]
    exact Ev.now _
end Go.Proofs.Ytjbcfiigafbobaa.Pure
