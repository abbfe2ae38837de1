/- For all numbers: the program's quotient and rest of two words by one are the reference's, with their errors. No conditions. -/
import Derived.Test.YteekhbmffdmgjaaF28
import Derived.Test.YteekhbmffdmgjaaR03
namespace Go.Proofs.Yteekhbmffdmgjaa.Pure
open Go.RowKit Go.Proofs.YteekhbmffdmgjaaW.PrintWords Go.Proofs.YteekhbmffdmgjaaW.PrintLast Go.Proofs.YteekhbmffdmgjaaW.PrintMore Go.Proofs.Yteekhbmffdmgjaa.F Go.Proofs.Yteekhbmffdmgjaa.M
set_option linter.unusedVariables false
set_option linter.unusedSimpArgs false
theorem PartDivs : vernierlaw03_PartDivs.Pure := by
  intro a0 a1 b w0 w1 w2
  obtain ⟨h, rfl, h0⟩ := word w0
  obtain ⟨l, rfl, h1⟩ := word w1
  obtain ⟨y, rfl, h2⟩ := word w2
  refine Ev.rounds ?_
  unfold vernierlaw03_PartDivs.f
  refine Ev.bind up03 ?_
  obtain ⟨q, r, e, c, hp, hr, hc⟩ : ∃ (q r : Int) (e : Option Int) (c : Int), Ev (fun k => part_Div.f k (h : Int) (l : Int) (y : Int)) (q, r, e) ∧ Ev (fun k => vernierref03_Div.f k (h : Int) (l : Int) (y : Int)) (q, r, c) ∧ vernierlaw00_Code.f e = some c := by
    rcases Nat.eq_zero_or_pos y with hy | hy
    · subst hy; exact ⟨_, _, _, _, Div_no, RDiv_no h0 h1, code4⟩
    · rcases Nat.lt_or_ge h y with hh | hh
      · exact ⟨_, _, _, _, Div_ev h1 h2 hh, RDiv_ev h1 h2 hh, code0p⟩
      · exact ⟨_, _, _, _, Div_big hy hh, RDiv_big h0 h1 h2 hy hh, code5⟩
  refine Ev.bind hp (Ev.bind hr ?_)
  simp only [↓reduceIte, beq_self_eq_true, hc, Option.bind_some]
  exact Ev.now _
end Go.Proofs.Yteekhbmffdmgjaa.Pure
