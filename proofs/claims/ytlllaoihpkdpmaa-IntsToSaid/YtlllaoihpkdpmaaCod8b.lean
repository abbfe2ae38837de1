/- The sixth layer's reference: the string of a scale, and the pattern that means a number; program and reference encode alike. -/
import Derived.Test.YtlllaoihpkdpmaaF12b
import Derived.Test.YtlllaoihpkdpmaaF16b
import Derived.Test.YtlllaoihpkdpmaaF17b
import Derived.Test.YtlllaoihpkdpmaaCod4b
import Derived.Test.YtlllaoihpkdpmaaCod6b
namespace Go.Proofs.Ytlllaoihpkdpmaa.M
open Go.RowKit Go.Proofs.YtlllaoihpkdpmaaW.PrintWords Go.Proofs.YtlllaoihpkdpmaaW.PrintLast Go.Proofs.YtlllaoihpkdpmaaW.PrintMore Go.Proofs.Ytlllaoihpkdpmaa.F
set_option linter.unusedVariables false
set_option linter.unusedSimpArgs false
theorem Decode06_ev {n p : Nat} (h : Wd n) (hp : p < 18446744073709551616) : Ev (fun k => vernierref06_Decode.f k (n : Int) (p : Int)) ((meansT n p ()).1, (meansT n p ()).2.1, (meansT n p ()).2.2.1, (meansT n p ()).2.2.2.1) := by
  have hd := Decodes_ev h hp
  unfold vernierref06_Decode.f
  unfold meansT at hd ⊢
  by_cases hk : kindN n p = 1
  · rw [if_pos hk] at hd ⊢; exact Ev.bind hd (Ev.now _)
  · rw [if_neg hk] at hd ⊢; exact Ev.bind hd (Ev.now _)
end Go.Proofs.Ytlllaoihpkdpmaa.M
