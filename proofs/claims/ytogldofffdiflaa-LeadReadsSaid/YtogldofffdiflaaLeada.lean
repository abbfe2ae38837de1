/- What the program's first layer computes, and what its reference does: runs, fields, words put, signs, texts. -/
import Derived.Test.YtogldofffdiflaaF3a
import Derived.Test.YtogldofffdiflaaF6a
import Derived.Test.YtogldofffdiflaaTxta
namespace Go.Proofs.Ytogldofffdiflaa.M
open Go.RowKit Go.Proofs.YtogldofffdiflaaW.PrintWords Go.Proofs.YtogldofffdiflaaW.PrintLast Go.Proofs.YtogldofffdiflaaW.PrintMore Go.Proofs.Ytogldofffdiflaa.F
set_option linter.unusedVariables false
set_option linter.unusedSimpArgs false
theorem p64' : (2 : Nat) ^ 64 = 18446744073709551616 := by decide
end Go.Proofs.Ytogldofffdiflaa.M
