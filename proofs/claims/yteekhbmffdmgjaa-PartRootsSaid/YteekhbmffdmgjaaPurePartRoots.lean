/- For all numbers of 128 bits: the program's root and rest are the reference's. No conditions. -/
import Derived.Test.YteekhbmffdmgjaaF29
import Derived.Test.YteekhbmffdmgjaaRoot
namespace Go.Proofs.Yteekhbmffdmgjaa.Pure
open Go.RowKit Go.Proofs.YteekhbmffdmgjaaW.PrintWords Go.Proofs.YteekhbmffdmgjaaW.PrintLast Go.Proofs.YteekhbmffdmgjaaW.PrintMore Go.Proofs.Yteekhbmffdmgjaa.F Go.Proofs.Yteekhbmffdmgjaa.M
set_option linter.unusedVariables false
set_option linter.unusedSimpArgs false
theorem PartRoots : vernierlaw03_PartRoots.Pure := by
  intro a0 a1 w0 w1
  obtain ⟨ah, rfl, h0⟩ := word w0
  obtain ⟨al, rfl, h1⟩ := word w1
  refine Ev.rounds ?_
  unfold vernierlaw03_PartRoots.f
  refine Ev.bind up03 (Ev.bind (Root_ev h0 h1) (Ev.bind (RRoot_ev h0 h1) ?_))
  simp only [↓reduceIte, beq_self_eq_true, Bool.and_self]
  exact Ev.now _
end Go.Proofs.Yteekhbmffdmgjaa.Pure
