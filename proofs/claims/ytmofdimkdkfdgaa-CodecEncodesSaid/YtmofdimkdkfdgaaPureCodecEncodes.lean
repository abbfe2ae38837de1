/- For any number n and any Num: the program encodes it as the reference does, with its errors. No conditions. -/
import Derived.Test.YtmofdimkdkfdgaaF21
import Derived.Test.YtmofdimkdkfdgaaCod8
namespace Go.Proofs.Ytmofdimkdkfdgaa.Pure
open Go.RowKit Go.Proofs.YtmofdimkdkfdgaaW.PrintWords Go.Proofs.YtmofdimkdkfdgaaW.PrintLast Go.Proofs.YtmofdimkdkfdgaaW.PrintMore Go.Proofs.Ytmofdimkdkfdgaa.F Go.Proofs.Ytmofdimkdkfdgaa.M
set_option linter.unusedVariables false
set_option linter.unusedSimpArgs false
theorem CodecEncodes : vernierlaw06_CodecEncodes.Pure := by
  intro a0 kind neg sc a4 w0 w1 w2 w3
  obtain ⟨fr, rfl, hf⟩ := word w3
  refine Ev.rounds ?_
  unfold vernierlaw06_CodecEncodes.f
  refine Ev.bind up06 ?_
  obtain ⟨r, e, c, h1, h2, h3⟩ := Encode_both (a := a0) (kind := kind) (neg := neg) (sc := sc) hf
  refine Ev.bind h1 (Ev.bind h2 ?_)
  simp only [↓reduceIte, beq_self_eq_true, Bool.and_self, h3, Option.bind_some]
  exact Ev.now _
end Go.Proofs.Ytmofdimkdkfdgaa.Pure
