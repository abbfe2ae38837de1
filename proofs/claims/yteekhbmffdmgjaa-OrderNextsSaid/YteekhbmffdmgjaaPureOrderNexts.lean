/- For any number n and every pattern: the program's next and previous are the reference's, with their errors. No conditions. -/
import Derived.Test.YteekhbmffdmgjaaF16
import Derived.Test.YteekhbmffdmgjaaOrder
namespace Go.Proofs.Yteekhbmffdmgjaa.Pure
open Go.RowKit Go.Proofs.YteekhbmffdmgjaaW.PrintWords Go.Proofs.YteekhbmffdmgjaaW.PrintLast Go.Proofs.YteekhbmffdmgjaaW.PrintMore Go.Proofs.Yteekhbmffdmgjaa.F Go.Proofs.Yteekhbmffdmgjaa.M
set_option linter.unusedVariables false
set_option linter.unusedSimpArgs false
theorem OrderNexts : vernierlaw08_OrderNexts.Pure := by
  intro a0 a1 w0 w1
  obtain ⟨p, rfl, hp⟩ := word w1
  refine Ev.rounds ?_
  unfold vernierlaw08_OrderNexts.f
  refine Ev.bindp up08 ?_
  obtain ⟨f0, g0, c0, h0, e0, d0⟩ : ∃ (f : Int) (g : Option Int) (c : Int), order_Next.f a0 (p : Int) = some (f, g) ∧ Ev (fun k => vernierref08_Next.f k a0 (p : Int)) (f, c) ∧ vernierlaw00_Code.f g = some c := by
    rcases width_or a0 with ⟨n, rfl, h⟩ | h
    · exact ⟨_, _, _, oNext_eq h hp, rNext_ev h hp, code0⟩
    · exact ⟨_, _, _, oNext_no h, rNext_no h, code2⟩
  obtain ⟨f1, g1, c1, h1, e1, d1⟩ : ∃ (f : Int) (g : Option Int) (c : Int), order_Prev.f a0 (p : Int) = some (f, g) ∧ Ev (fun k => vernierref08_Prev.f k a0 (p : Int)) (f, c) ∧ vernierlaw00_Code.f g = some c := by
    rcases width_or a0 with ⟨n, rfl, h⟩ | h
    · exact ⟨_, _, _, oPrev_eq h hp, rPrev_ev h hp, code0⟩
    · exact ⟨_, _, _, oPrev_no h, rPrev_no h, code2⟩
  refine Ev.bindp h0 (Ev.bindp h1 (Ev.bind e0 (Ev.bind e1 (?_))))
  simp only [↓reduceIte, beq_self_eq_true, d0, d1, Option.bind_some]
  exact Ev.now _
end Go.Proofs.Yteekhbmffdmgjaa.Pure
