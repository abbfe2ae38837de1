/- For all numbers of 128 bits: the program compares two of them as the reference does, and one with itself as alike. No conditions. -/
import Derived.Test.YtjbcfiigafbobaaF15
import Derived.Test.YtjbcfiigafbobaaTwinLaw
namespace Go.Proofs.Ytjbcfiigafbobaa.Pure
open Go.RowKit Go.Proofs.YtjbcfiigafbobaaW.PrintWords Go.Proofs.YtjbcfiigafbobaaW.PrintLast Go.Proofs.YtjbcfiigafbobaaW.PrintMore Go.Proofs.Ytjbcfiigafbobaa.F Go.Proofs.Ytjbcfiigafbobaa.M
set_option linter.unusedVariables false
set_option linter.unusedSimpArgs false
theorem TwinCmps : vernierlaw02_TwinCmps.Pure := by
  intro a0 a1 b0 b1 w0 w1 w2 w3
  obtain ⟨ah, rfl, h0⟩ := word w0
  obtain ⟨al, rfl, h1⟩ := word w1
  obtain ⟨bh, rfl, h2⟩ := word w2
  obtain ⟨bl, rfl, h3⟩ := word w3
  refine Ev.rounds ?_
  obtain ⟨c, hc, hc2⟩ : ∃ c, twin_Cmp.f (ah : Int) (al : Int) (bh : Int) (bl : Int) = some c ∧ Ev (fun k => vernierref02_Cmp.f k (ah : Int) (al : Int) (bh : Int) (bl : Int)) c := ⟨_, Cmp_eq h0 h1 h2 h3, Cmp02_ev h0 h1 h2 h3⟩
  have hs : twin_Cmp.f (ah : Int) (al : Int) (ah : Int) (al : Int) = some 0 := by rw [Cmp_eq h0 h1 h0 h1, cmp_self]
  simp only [vernierlaw02_TwinCmps.f, up02, Option.bind_some, ↓reduceIte, hc, hs]
  refine Ev.bind hc2 ?_
  simp only [↓reduceIte, beq_self_eq_true]
  exact Ev.now _
end Go.Proofs.Ytjbcfiigafbobaa.Pure
