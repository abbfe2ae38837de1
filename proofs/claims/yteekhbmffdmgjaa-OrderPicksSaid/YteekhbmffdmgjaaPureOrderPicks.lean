/- For any number n and two patterns: the program picks the lesser and the greater as the reference does, with their errors. No conditions. -/
import Derived.Test.YteekhbmffdmgjaaF18
import Derived.Test.YteekhbmffdmgjaaOrder
namespace Go.Proofs.Yteekhbmffdmgjaa.Pure
open Go.RowKit Go.Proofs.YteekhbmffdmgjaaW.PrintWords Go.Proofs.YteekhbmffdmgjaaW.PrintLast Go.Proofs.YteekhbmffdmgjaaW.PrintMore Go.Proofs.Yteekhbmffdmgjaa.F Go.Proofs.Yteekhbmffdmgjaa.M
set_option linter.unusedVariables false
set_option linter.unusedSimpArgs false
theorem OrderPicks : vernierlaw08_OrderPicks.Pure := by
  intro a0 a1 a2 w0 w1 w2
  obtain ⟨p, rfl, hp⟩ := word w1
  obtain ⟨q, rfl, hq⟩ := word w2
  refine Ev.rounds ?_
  unfold vernierlaw08_OrderPicks.f
  refine Ev.bindp up08 ?_
  obtain ⟨f0, g0, c0, h0, e0, d0⟩ : ∃ (f : Int) (g : Option Int) (c : Int), order_Min.f a0 (p : Int) (q : Int) = some (f, g) ∧ Ev (fun k => vernierref08_Min.f k a0 (p : Int) (q : Int)) (f, c) ∧ vernierlaw00_Code.f g = some c := by
    rcases width_or a0 with ⟨n, rfl, h⟩ | h
    · exact ⟨_, _, _, oMin_eq h hp hq, rMin_ev h hp hq, code0⟩
    · exact ⟨_, _, _, oMin_no h, rMin_no h, code2⟩
  obtain ⟨f1, g1, c1, h1, e1, d1⟩ : ∃ (f : Int) (g : Option Int) (c : Int), order_Max.f a0 (p : Int) (q : Int) = some (f, g) ∧ Ev (fun k => vernierref08_Max.f k a0 (p : Int) (q : Int)) (f, c) ∧ vernierlaw00_Code.f g = some c := by
    rcases width_or a0 with ⟨n, rfl, h⟩ | h
    · exact ⟨_, _, _, oMax_eq h hp hq, rMax_ev h hp hq, code0⟩
    · exact ⟨_, _, _, oMax_no h, rMax_no h, code2⟩
  refine Ev.bindp h0 (Ev.bindp h1 (Ev.bind e0 (Ev.bind e1 (?_))))
  simp only [↓reduceIte, beq_self_eq_true, d0, d1, Option.bind_some]
  exact Ev.now _
end Go.Proofs.Yteekhbmffdmgjaa.Pure
