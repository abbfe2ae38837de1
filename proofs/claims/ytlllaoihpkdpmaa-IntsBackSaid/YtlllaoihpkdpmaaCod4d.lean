/- The sixth layer's reference: the string that parts seem to write, and the pattern that it joins; program and reference agree on any parts. -/
import Derived.Test.YtlllaoihpkdpmaaF16d
import Derived.Test.YtlllaoihpkdpmaaF0d
import Derived.Test.YtlllaoihpkdpmaaCod3d
namespace Go.Proofs.Ytlllaoihpkdpmaa.M
open Go.RowKit Go.Proofs.YtlllaoihpkdpmaaW.PrintWords Go.Proofs.YtlllaoihpkdpmaaW.PrintLast Go.Proofs.YtlllaoihpkdpmaaW.PrintMore Go.Proofs.Ytlllaoihpkdpmaa.F
set_option linter.unusedVariables false
set_option linter.unusedSimpArgs false
/-- A run and the bit that ends it. -/
def hdN (ones : Bool) (r : Nat) : Nat := if ones = true then (2 ^ r - 1) * 2 else 1
end Go.Proofs.Ytlllaoihpkdpmaa.M
