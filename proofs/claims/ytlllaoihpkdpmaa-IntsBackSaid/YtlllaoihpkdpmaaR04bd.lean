/- What the reference's naturals compute, second part: Mul, Shl, Shr, Low, Word, Bits. -/
import Derived.Test.YtlllaoihpkdpmaaF13d
import Derived.Test.YtlllaoihpkdpmaaBased
import Derived.Test.YtlllaoihpkdpmaaBlend
namespace Go.Proofs.Ytlllaoihpkdpmaa.M
open Go.RowKit Go.Proofs.YtlllaoihpkdpmaaW.PrintWords Go.Proofs.YtlllaoihpkdpmaaW.PrintLast Go.Proofs.YtlllaoihpkdpmaaW.PrintMore Go.Proofs.Ytlllaoihpkdpmaa.F
set_option linter.unusedVariables false
set_option linter.unusedSimpArgs false
theorem getD_set_ne {l : List Int} {i j : Nat} {d : Int} (h : i ≠ j) : (l.set i d).getD j 0 = l.getD j 0 := by
  rw [List.getD_eq_getElem?_getD, List.getD_eq_getElem?_getD, List.getElem?_set_ne h]
end Go.Proofs.Ytlllaoihpkdpmaa.M
