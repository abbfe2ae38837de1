/- What the reference's third layer computes: the root. -/

import Derived.Test.YtcnpnnodgfpheaaRoot
import Derived.Test.YtcnpnnodgfpheaaR00c
namespace Go.Proofs.Ytcnpnnodgfpheaa.M
open Go.RowKit Go.Proofs.YtcnpnnodgfpheaaW.PrintWords Go.Proofs.YtcnpnnodgfpheaaW.PrintLast Go.Proofs.YtcnpnnodgfpheaaW.PrintMore Go.Proofs.Ytcnpnnodgfpheaa.F
set_option linter.unusedVariables false
set_option linter.unusedSimpArgs false

end Go.Proofs.Ytcnpnnodgfpheaa.M
