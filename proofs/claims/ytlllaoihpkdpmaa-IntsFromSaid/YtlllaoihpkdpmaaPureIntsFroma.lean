/- For any number n and any numbers v and u: FromInt and FromUint answer as the reference does, with its errors. No conditions. -/
import Derived.Test.YtlllaoihpkdpmaaF20a
import Derived.Test.YtlllaoihpkdpmaaInts3a
namespace Go.Proofs.Ytlllaoihpkdpmaa.Pure
open Go.RowKit Go.Proofs.YtlllaoihpkdpmaaW.PrintWords Go.Proofs.YtlllaoihpkdpmaaW.PrintLast Go.Proofs.YtlllaoihpkdpmaaW.PrintMore Go.Proofs.Ytlllaoihpkdpmaa.F Go.Proofs.Ytlllaoihpkdpmaa.M
set_option linter.unusedVariables false
set_option linter.unusedSimpArgs false
theorem IntsFrom : vernierlaw16_IntsFrom.Pure := by
  intro a0 v a2 w0 w1 w2
  obtain ⟨u, rfl, hu⟩ := word w2
  obtain ⟨hv0, hv1⟩ := wf_i64 w1
  refine Ev.rounds ?_
  unfold vernierlaw16_IntsFrom.f
  refine Ev.bind shown_ev ?_
  rcases width_or a0 with ⟨n, rfl, h⟩ | h
  · have hs : szI v < 18446744073709551616 := by unfold szI; omega
    have e1 := From16_ev (neg := decide (v < 0)) h hs
    refine Ev.bind (FromInt_ev h hv0 hv1) (Ev.bind (FromUint_ev h hu) (Ev.bindp (Size_eq hv0 hv1) (Ev.bind e1 (Ev.bind (From16_ev (neg := false) h hu) ?_))))
    simp only [↓reduceIte, code0, Option.bind_some]
    refine Ev.congr (fun k => if_pos rfl) ?_
    exact Ev.now _
  · refine Ev.bind (FromInt_no h) (Ev.bind (FromUint_no h hu) (Ev.bindp (Size_eq hv0 hv1) (Ev.bind (From16_no h) (Ev.bind (From16_no h) ?_))))
    simp only [↓reduceIte, code_all (Or.inl rfl), Option.bind_some]
    exact Ev.now _
end Go.Proofs.Ytlllaoihpkdpmaa.Pure
