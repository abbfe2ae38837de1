/- For all numbers of 128 bits and any count: the program shifts downwards as the reference does, with what is lost and the error. No conditions. -/
import Derived.Test.YtjbcfiigafbobaaF26
import Derived.Test.YtjbcfiigafbobaaTwinLaw
namespace Go.Proofs.Ytjbcfiigafbobaa.Pure
open Go.RowKit Go.Proofs.YtjbcfiigafbobaaW.PrintWords Go.Proofs.YtjbcfiigafbobaaW.PrintLast Go.Proofs.YtjbcfiigafbobaaW.PrintMore Go.Proofs.Ytjbcfiigafbobaa.F Go.Proofs.Ytjbcfiigafbobaa.M
set_option linter.unusedVariables false
set_option linter.unusedSimpArgs false
theorem TwinShrs : vernierlaw02_TwinShrs.Pure := by
  intro a0 a1 k w0 w1 w2
  obtain ⟨ah, rfl, h0⟩ := word w0
  obtain ⟨al, rfl, h1⟩ := word w1
  refine Ev.rounds ?_
  rcases Int.lt_or_le k 0 with hk | hk
  · simp only [vernierlaw02_TwinShrs.f, up02, Option.bind_some, Shr_neg h0 h1 hk]
    refine Ev.bind (a := ((0, 0, false, 1) : Int × Int × Bool × Int)) ?_ ?_
    · unfold vernierref02_Shr.f; exact Ev.congr (fun n => if_pos hk) (Ev.now _)
    · simp only [↓reduceIte, beq_self_eq_true, Bool.and_self, Code_one, Option.bind_some]
      exact Ev.now _
  · obtain ⟨n, rfl⟩ := Int.eq_ofNat_of_zero_le hk
    simp only [vernierlaw02_TwinShrs.f, up02, Option.bind_some, Shr_eq h0 h1 n]
    refine Ev.bind (Shr02_ev h0 h1) ?_
    simp only [↓reduceIte, beq_self_eq_true, Bool.and_self, Code_none, Option.bind_some]
    exact Ev.now _
end Go.Proofs.Ytjbcfiigafbobaa.Pure
