/- For any number n, any pattern and any mode: ToInt and ToUint answer as the reference does, with its errors. No conditions. -/
import Derived.Test.YtlllaoihpkdpmaaF21b
import Derived.Test.YtlllaoihpkdpmaaInts3b
namespace Go.Proofs.Ytlllaoihpkdpmaa.Pure
open Go.RowKit Go.Proofs.YtlllaoihpkdpmaaW.PrintWords Go.Proofs.YtlllaoihpkdpmaaW.PrintLast Go.Proofs.YtlllaoihpkdpmaaW.PrintMore Go.Proofs.Ytlllaoihpkdpmaa.F Go.Proofs.Ytlllaoihpkdpmaa.M
set_option linter.unusedVariables false
set_option linter.unusedSimpArgs false
theorem IntsTo : vernierlaw16_IntsTo.Pure := by
  intro a0 a1 mode w0 w1 w2
  obtain ⟨p, rfl, hp⟩ := word w1
  refine Ev.rounds ?_
  unfold vernierlaw16_IntsTo.f
  refine Ev.bind shown_ev ?_
  rcases told_cases a0 mode hp with ⟨e, he, h1, h2⟩ | ⟨n, rfl, hn, neg, w, hw, hneg, h1, h2⟩ | ⟨n, rfl, hn, neg, w, hw, hw2, h1, h2⟩
  · refine Ev.bind (ToInt_err h1) (Ev.bind (ToUint_err h1) (Ev.bind (Int16_err he h2) (Ev.bind (Uint16_err he h2) ?_)))
    have hc : vernierlaw00_Code.f (some e) = some e := code_all (by omega)
    simp only [↓reduceIte, hc, Option.bind_some, beq_self_eq_true]
    exact Ev.now _
  · have hb : w < 16777216 ^ 44 := Nat.lt_trans hw (by decide +kernel)
    refine Ev.bind (ToInt_near hw h1) (Ev.bind (ToUint_near h1) (Ev.bind (Int16_ev hb hneg h2) (Ev.bind (Uint16_ev hb h2) ?_)))
    rw [if_neg (show ¬ 18446744073709551616 ≤ w by omega)]
    have c10 : vernierlaw00_Code.f (some 10) = some 10 := code_all (by omega)
    unfold inT unT
    by_cases g : 9223372036854775808 < w ∨ (w = 9223372036854775808 ∧ neg = false)
    · simp only [if_pos g, ↓reduceIte]
      cases neg
      · simp only [Bool.false_eq_true, ↓reduceIte, c10, code0, Option.bind_some]
        exact Ev.now _
      · simp only [↓reduceIte, c10, Option.bind_some]
        exact Ev.now _
    · simp only [if_neg g, ↓reduceIte]
      cases neg
      · simp only [Bool.false_eq_true, ↓reduceIte, c10, code0, Option.bind_some]
        exact Ev.now _
      · simp only [↓reduceIte, c10, code0, Option.bind_some]
        exact Ev.now _
  · have c10 : vernierlaw00_Code.f (some 10) = some 10 := code_all (by omega)
    refine Ev.bind (ToInt_far h1) (Ev.bind (ToUint_far h1) (Ev.bind (Int16_ev hw2 (by omega) h2) (Ev.bind (Uint16_ev hw2 h2) ?_)))
    rw [if_pos hw]
    unfold inT
    rw [if_pos (Or.inl (by omega))]
    simp only [↓reduceIte, c10, Option.bind_some]
    exact Ev.now _
end Go.Proofs.Ytlllaoihpkdpmaa.Pure
