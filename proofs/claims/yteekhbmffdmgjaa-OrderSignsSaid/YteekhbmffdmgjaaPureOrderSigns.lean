/- For any number n and every pattern: the program's negative, absolute and sign are the reference's, with their errors. No conditions. -/
import Derived.Test.YteekhbmffdmgjaaF19
import Derived.Test.YteekhbmffdmgjaaOrder
namespace Go.Proofs.Yteekhbmffdmgjaa.Pure
open Go.RowKit Go.Proofs.YteekhbmffdmgjaaW.PrintWords Go.Proofs.YteekhbmffdmgjaaW.PrintLast Go.Proofs.YteekhbmffdmgjaaW.PrintMore Go.Proofs.Yteekhbmffdmgjaa.F Go.Proofs.Yteekhbmffdmgjaa.M
set_option linter.unusedVariables false
set_option linter.unusedSimpArgs false
theorem OrderSigns : vernierlaw08_OrderSigns.Pure := by
  intro a0 a1 w0 w1
  obtain ⟨p, rfl, hp⟩ := word w1
  refine Ev.rounds ?_
  unfold vernierlaw08_OrderSigns.f
  refine Ev.bindp up08 ?_
  obtain ⟨f0, g0, c0, h0, e0, d0⟩ : ∃ (f : Int) (g : Option Int) (c : Int), order_Neg.f a0 (p : Int) = some (f, g) ∧ Ev (fun k => vernierref08_Neg.f k a0 (p : Int)) (f, c) ∧ vernierlaw00_Code.f g = some c := by
    rcases width_or a0 with ⟨n, rfl, h⟩ | h
    · exact ⟨_, _, _, oNeg_eq h, rNeg_ev h, code0⟩
    · exact ⟨_, _, _, oNeg_no h, rNeg_no h, code2⟩
  obtain ⟨f1, g1, c1, h1, e1, d1⟩ : ∃ (f : Int) (g : Option Int) (c : Int), order_Abs.f a0 (p : Int) = some (f, g) ∧ Ev (fun k => vernierref08_Abs.f k a0 (p : Int)) (f, c) ∧ vernierlaw00_Code.f g = some c := by
    rcases width_or a0 with ⟨n, rfl, h⟩ | h
    · exact ⟨_, _, _, oAbs_eq h hp, rAbs_ev h hp, code0⟩
    · exact ⟨_, _, _, oAbs_no h, rAbs_no h, code2⟩
  obtain ⟨f2, g2, c2, h2, e2, d2⟩ : ∃ (f : Int) (g : Option Int) (c : Int), order_Sign.f a0 (p : Int) = some (f, g) ∧ Ev (fun k => vernierref08_Sign.f k a0 (p : Int)) (f, c) ∧ vernierlaw00_Code.f g = some c := by
    rcases width_or a0 with ⟨n, rfl, h⟩ | h
    · have h1 := oSign_eq h hp
      have h2 := rSign_ev h hp
      by_cases g : narB n p = true
      · rw [if_pos g] at h1 h2; exact ⟨_, _, _, h1, h2, code9⟩
      · rw [if_neg g] at h1 h2; exact ⟨_, _, _, h1, h2, code0⟩
    · exact ⟨_, _, _, oSign_no h, rSign_no h, code2⟩
  refine Ev.bindp h0 (Ev.bindp h1 (Ev.bindp h2 (Ev.bind e0 (Ev.bind e1 (Ev.bind e2 (?_))))))
  simp only [↓reduceIte, beq_self_eq_true, d0, d1, d2, Option.bind_some]
  exact Ev.now _
end Go.Proofs.Yteekhbmffdmgjaa.Pure
