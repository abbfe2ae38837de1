/- What the program's first layer computes, and what its reference does: runs, fields, words put, signs, texts. -/
import Derived.Test.YtogldofffdiflaaDoorF2a
import Derived.Test.YtogldofffdiflaaDoorTxta
namespace Go.Proofs.YtogldofffdiflaaDoor.M
open Go.RowKit Go.Proofs.YtogldofffdiflaaDoorW.PrintWords Go.Proofs.YtogldofffdiflaaDoorW.PrintLast Go.Proofs.YtogldofffdiflaaDoorW.PrintMore Go.Proofs.YtogldofffdiflaaDoor.F
set_option linter.unusedVariables false
set_option linter.unusedSimpArgs false
theorem p64' : (2 : Nat) ^ 64 = 18446744073709551616 := by decide
end Go.Proofs.YtogldofffdiflaaDoor.M
