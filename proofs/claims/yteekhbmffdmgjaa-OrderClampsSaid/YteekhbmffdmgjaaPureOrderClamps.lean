/- For any number n and three patterns: the program holds the first between the others as the reference does, with its error. No conditions. -/
import Derived.Test.YteekhbmffdmgjaaF20
import Derived.Test.YteekhbmffdmgjaaOrder
namespace Go.Proofs.Yteekhbmffdmgjaa.Pure
open Go.RowKit Go.Proofs.YteekhbmffdmgjaaW.PrintWords Go.Proofs.YteekhbmffdmgjaaW.PrintLast Go.Proofs.YteekhbmffdmgjaaW.PrintMore Go.Proofs.Yteekhbmffdmgjaa.F Go.Proofs.Yteekhbmffdmgjaa.M
set_option linter.unusedVariables false
set_option linter.unusedSimpArgs false
theorem OrderClamps : vernierlaw08_OrderClamps.Pure := by
  intro a0 a1 a2 a3 w0 w1 w2 w3
  obtain ⟨p, rfl, hp⟩ := word w1
  obtain ⟨q, rfl, hq⟩ := word w2
  obtain ⟨r, rfl, hr⟩ := word w3
  refine Ev.rounds ?_
  unfold vernierlaw08_OrderClamps.f
  refine Ev.bindp up08 ?_
  obtain ⟨f0, g0, c0, h0, e0, d0⟩ : ∃ (f : Int) (g : Option Int) (c : Int), Ev (fun k => order_Clamp.f k a0 (p : Int) (q : Int) (r : Int)) (f, g) ∧ Ev (fun k => vernierref08_Clamp.f k a0 (p : Int) (q : Int) (r : Int)) (f, c) ∧ vernierlaw00_Code.f g = some c := by
    rcases width_or a0 with ⟨n, rfl, h⟩ | h
    · have h1 := oClamp_ev h hp hq hr
      have h2 := rClamp_ev h hp hq hr
      unfold clampR at h1
      unfold clampB at h2
      by_cases g : narB n p = true ∨ narB n q = true ∨ narB n r = true
      · rw [if_pos g] at h1 h2; exact ⟨_, _, _, h1, h2, code9⟩
      · rw [if_neg g] at h1 h2
        by_cases g3 : ext r n < ext q n
        · rw [if_pos g3] at h1 h2; exact ⟨_, _, _, h1, h2, code1⟩
        · rw [if_neg g3] at h1 h2; exact ⟨_, _, _, h1, h2, code0⟩
    · exact ⟨_, _, _, oClamp_no h, rClamp_no h, code2⟩
  refine Ev.bind h0 (Ev.bind e0 ?_)
  simp only [↓reduceIte, beq_self_eq_true, d0, Option.bind_some]
  exact Ev.now _
end Go.Proofs.Yteekhbmffdmgjaa.Pure
