/- For every word and any places: the program makes masks and takes fields as the reference does, with their errors. No conditions. -/
import Derived.Test.YtjbcfiigafbobaaF29
import Derived.Test.YtjbcfiigafbobaaLead2
namespace Go.Proofs.Ytjbcfiigafbobaa.Pure
open Go.RowKit Go.Proofs.YtjbcfiigafbobaaW.PrintWords Go.Proofs.YtjbcfiigafbobaaW.PrintLast Go.Proofs.YtjbcfiigafbobaaW.PrintMore Go.Proofs.Ytjbcfiigafbobaa.F Go.Proofs.Ytjbcfiigafbobaa.M
set_option linter.unusedVariables false
set_option linter.unusedSimpArgs false
theorem LeadFields : vernierlaw01_LeadFields.Pure := by
  intro a0 a1 a2 w0 w1 w2
  obtain ⟨x, rfl, hx⟩ := word w0
  refine Ev.rounds ?_
  unfold vernierlaw01_LeadFields.f
  refine Ev.bind up01 ?_
  obtain ⟨m, e, b, hm, hm2, hc⟩ : ∃ (m : Int) (e : Option Int) (b : Int), lead_Mask.f a2 = some (m, e) ∧ Ev (fun k => vernierref01_Mask.f k a2) (m, b) ∧ vernierlaw00_Code.f e = some b := by
    by_cases h : a2 < 0 ∨ 64 < a2
    · exact ⟨_, _, _, Mask_bad h, Mask01_bad h, code1⟩
    · obtain ⟨n, rfl⟩ := Int.eq_ofNat_of_zero_le (show 0 ≤ a2 by omega)
      exact ⟨_, _, _, Mask_eq (by omega), Mask01_ev (by omega), code0⟩
  obtain ⟨f, g, c, hf, hf2, hd⟩ : ∃ (f : Int) (g : Option Int) (c : Int), lead_Field.f (x : Int) a1 a2 = some (f, g) ∧ Ev (fun k => vernierref01_Field.f k (x : Int) a1 a2) (f, c) ∧ vernierlaw00_Code.f g = some c := by
    cases h : fits a1 a2 with
    | false => exact ⟨_, _, _, Field_bad h, Field01_bad h, code1⟩
    | true =>
      obtain ⟨a, n, rfl, rfl, hle⟩ := fits_nat h
      exact ⟨_, _, _, Field_eq hx hle, Field01_ev hx hle, code0⟩
  refine Ev.bindp hm (Ev.bindp hf (Ev.bind hm2 (Ev.bind hf2 ?_)))
  simp only [↓reduceIte, beq_self_eq_true, hc, hd, Option.bind_some]
  exact Ev.now _
end Go.Proofs.Ytjbcfiigafbobaa.Pure
