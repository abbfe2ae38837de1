/- For any number n and any parts: the program joins them as the reference does, with its errors. No conditions. -/
import Derived.Test.YtmofdimkdkfdgaaF17
import Derived.Test.YtmofdimkdkfdgaaCod4
import Derived.Test.YtmofdimkdkfdgaaCod5
namespace Go.Proofs.Ytmofdimkdkfdgaa.Pure
open Go.RowKit Go.Proofs.YtmofdimkdkfdgaaW.PrintWords Go.Proofs.YtmofdimkdkfdgaaW.PrintLast Go.Proofs.YtmofdimkdkfdgaaW.PrintMore Go.Proofs.Ytmofdimkdkfdgaa.F Go.Proofs.Ytmofdimkdkfdgaa.M
set_option linter.unusedVariables false
set_option linter.unusedSimpArgs false
theorem CodecJoins : vernierlaw06_CodecJoins.Pure := by
  intro a0 neg ones run rg eb ex fb fr w0 w1 w2 w3 w4 w5 w6
  have hr := wf_i64 w1
  have hf := wf_u64 w6
  refine Ev.rounds ?_
  unfold vernierlaw06_CodecJoins.f
  refine Ev.bind up06 ?_
  obtain ⟨r, e, c, h1, h2, h3⟩ := Join_both (a := a0) (neg := neg) (ones := ones) (run := run) (rg := rg) (eb := eb) (ex := ex) (fb := fb) (fr := fr) (by omega) (by omega)
  refine Ev.bind h1 (Ev.bind h2 ?_)
  simp only [↓reduceIte, beq_self_eq_true, Bool.and_self, h3, Option.bind_some]
  exact Ev.now _
end Go.Proofs.Ytmofdimkdkfdgaa.Pure
