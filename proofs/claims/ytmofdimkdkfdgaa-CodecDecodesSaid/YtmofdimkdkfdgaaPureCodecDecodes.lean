/- For any number n and every pattern: the program tells what the pattern means as the reference does, with its errors. No conditions. -/
import Derived.Test.YtmofdimkdkfdgaaF18
import Derived.Test.YtmofdimkdkfdgaaCod5
namespace Go.Proofs.Ytmofdimkdkfdgaa.Pure
open Go.RowKit Go.Proofs.YtmofdimkdkfdgaaW.PrintWords Go.Proofs.YtmofdimkdkfdgaaW.PrintLast Go.Proofs.YtmofdimkdkfdgaaW.PrintMore Go.Proofs.Ytmofdimkdkfdgaa.F Go.Proofs.Ytmofdimkdkfdgaa.M
set_option linter.unusedVariables false
set_option linter.unusedSimpArgs false
theorem CodecDecodes : vernierlaw06_CodecDecodes.Pure := by
  intro a0 a1 w0 w1
  obtain ⟨p, rfl, hp⟩ := word w1
  refine Ev.rounds ?_
  unfold vernierlaw06_CodecDecodes.f
  refine Ev.bind up06 ?_
  obtain ⟨s1, s2, s3, s4, e, c, h1, h2, h3⟩ : ∃ (s1 : Int) (s2 : Bool) (s3 s4 : Int) (e : Option Int) (c : Int), Ev (fun k => codec_Decode.f k a0 (p : Int)) (s1, s2, s3, s4, e) ∧ Ev (fun k => vernierref06_Decodes.f k a0 (p : Int)) (s1, s2, s3, s4, c) ∧ vernierlaw00_Code.f e = some c := by
    rcases width_or a0 with ⟨n, rfl, h⟩ | h
    · have e1 := Decode_ev h hp
      have e2 := Decodes_ev h hp
      unfold meansT at e1 e2
      by_cases hk : kindN n p = 1
      · rw [if_pos hk] at e1 e2
        exact ⟨_, _, _, _, _, _, e1, e2, rfl⟩
      · rw [if_neg hk] at e1 e2
        exact ⟨_, _, _, _, _, _, e1, e2, rfl⟩
    · exact ⟨_, _, _, _, _, _, Decode_no h, Decodes_no h, rfl⟩
  refine Ev.bind h1 (Ev.bind h2 ?_)
  simp only [↓reduceIte, beq_self_eq_true, Bool.and_self, h3, Option.bind_some]
  exact Ev.now _
end Go.Proofs.Ytmofdimkdkfdgaa.Pure
