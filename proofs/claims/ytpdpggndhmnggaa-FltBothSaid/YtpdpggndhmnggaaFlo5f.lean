/- The reference's Form.From. -/
import Derived.Test.YtpdpggndhmnggaaF15f
import Derived.Test.YtpdpggndhmnggaaF16f
import Derived.Test.YtpdpggndhmnggaaF17f
import Derived.Test.YtpdpggndhmnggaaF18f
import Derived.Test.YtpdpggndhmnggaaFlo4f
namespace Go.Proofs.Ytpdpggndhmnggaa.M
open Go.RowKit Go.Proofs.YtpdpggndhmnggaaW.PrintWords Go.Proofs.YtpdpggndhmnggaaW.PrintLast Go.Proofs.YtpdpggndhmnggaaW.PrintMore Go.Proofs.Ytpdpggndhmnggaa.F
set_option linter.unusedVariables false
set_option linter.unusedSimpArgs false
def eR (f r : Nat) (low : Int) : Int := if r < f then low else low + ((r / f - 1 : Nat) : Int)
end Go.Proofs.Ytpdpggndhmnggaa.M
