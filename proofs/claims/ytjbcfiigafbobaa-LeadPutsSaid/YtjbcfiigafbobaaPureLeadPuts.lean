/- For all words and any places: the program puts bits into a word as the reference does, with its error. No conditions. -/
import Derived.Test.YtjbcfiigafbobaaF25
import Derived.Test.YtjbcfiigafbobaaLead2
namespace Go.Proofs.Ytjbcfiigafbobaa.Pure
open Go.RowKit Go.Proofs.YtjbcfiigafbobaaW.PrintWords Go.Proofs.YtjbcfiigafbobaaW.PrintLast Go.Proofs.YtjbcfiigafbobaaW.PrintMore Go.Proofs.Ytjbcfiigafbobaa.F Go.Proofs.Ytjbcfiigafbobaa.M
set_option linter.unusedVariables false
set_option linter.unusedSimpArgs false
theorem LeadPuts : vernierlaw01_LeadPuts.Pure := by
  intro a0 a1 a2 a3 w0 w1 w2 w3
  obtain ⟨x, rfl, hx⟩ := word w0
  obtain ⟨v, rfl, hv⟩ := word w3
  refine Ev.rounds ?_
  unfold vernierlaw01_LeadPuts.f
  refine Ev.bind up01 ?_
  obtain ⟨f, g, c, hf, hf2, hd⟩ : ∃ (f : Int) (g : Option Int) (c : Int), lead_Put.f (x : Int) a1 a2 (v : Int) = some (f, g) ∧ Ev (fun k => vernierref01_Put.f k (x : Int) a1 a2 (v : Int)) (f, c) ∧ vernierlaw00_Code.f g = some c := by
    cases h : fits a1 a2 with
    | false => exact ⟨_, _, _, Put_bad h, Put01_bad h, code1⟩
    | true =>
      obtain ⟨a, n, rfl, rfl, hle⟩ := fits_nat h
      exact ⟨_, _, _, Put_eq hx hv hle, Put01_ev hx hv hle, code0⟩
  refine Ev.bindp hf (Ev.bind hf2 ?_)
  simp only [↓reduceIte, beq_self_eq_true, hd, Option.bind_some]
  exact Ev.now _
end Go.Proofs.Ytjbcfiigafbobaa.Pure
