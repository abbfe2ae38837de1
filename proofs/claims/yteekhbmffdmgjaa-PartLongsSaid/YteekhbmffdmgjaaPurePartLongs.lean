/- For all numbers: the program's long quotient and rest are the reference's, with their errors. No conditions. -/
import Derived.Test.YteekhbmffdmgjaaF31
import Derived.Test.YteekhbmffdmgjaaR03
namespace Go.Proofs.Yteekhbmffdmgjaa.Pure
open Go.RowKit Go.Proofs.YteekhbmffdmgjaaW.PrintWords Go.Proofs.YteekhbmffdmgjaaW.PrintLast Go.Proofs.YteekhbmffdmgjaaW.PrintMore Go.Proofs.Yteekhbmffdmgjaa.F Go.Proofs.Yteekhbmffdmgjaa.M
set_option linter.unusedVariables false
set_option linter.unusedSimpArgs false
theorem PartLongs : vernierlaw03_PartLongs.Pure := by
  intro a0 a1 b w0 w1 w2
  obtain ⟨h, rfl, h0⟩ := word w0
  obtain ⟨l, rfl, h1⟩ := word w1
  obtain ⟨y, rfl, h2⟩ := word w2
  refine Ev.rounds ?_
  unfold vernierlaw03_PartLongs.f
  refine Ev.bind up03 ?_
  obtain ⟨q, r, s, e, c, hp, hr, hc⟩ : ∃ (q r s : Int) (e : Option Int) (c : Int), Ev (fun k => part_Long.f k (h : Int) (l : Int) (y : Int)) (q, r, s, e) ∧ Ev (fun k => vernierref03_Long.f k (h : Int) (l : Int) (y : Int)) (q, r, s, c) ∧ vernierlaw00_Code.f e = some c := by
    rcases Nat.eq_zero_or_pos y with hy | hy
    · subst hy; exact ⟨_, _, _, _, _, Long_no, RLong_no h0 h1, code4⟩
    · exact ⟨_, _, _, _, _, Long_ev h0 h1 h2 hy, RLong_ev h0 h1 h2 hy, code0p⟩
  refine Ev.bind hp (Ev.bind hr ?_)
  simp only [↓reduceIte, beq_self_eq_true, Bool.and_self, hc, Option.bind_some]
  exact Ev.now _
end Go.Proofs.Yteekhbmffdmgjaa.Pure
