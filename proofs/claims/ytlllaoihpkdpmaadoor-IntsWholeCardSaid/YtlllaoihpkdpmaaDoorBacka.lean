/- Whole numbers that patterns lead to are told by patterns just so: what is rounded off a pattern's number has a pattern of its own. -/
import Derived.Test.YtlllaoihpkdpmaaDoorF7a
import Derived.Test.YtlllaoihpkdpmaaDoorF11a
import Derived.Test.YtlllaoihpkdpmaaDoorF0a
import Derived.Test.YtlllaoihpkdpmaaDoorF3a
import Derived.Test.YtlllaoihpkdpmaaDoorInts3a
import Derived.Test.YtlllaoihpkdpmaaDoorMono2a
import Derived.Test.YtlllaoihpkdpmaaDoorF6a
import Derived.Test.YtlllaoihpkdpmaaDoorF4a
import Derived.Test.YtlllaoihpkdpmaaDoorCoda
import Derived.Test.YtlllaoihpkdpmaaDoorCod3a
namespace Go.Proofs.YtlllaoihpkdpmaaDoor.M
open Go.RowKit Go.Proofs.YtlllaoihpkdpmaaDoorW.PrintWords Go.Proofs.YtlllaoihpkdpmaaDoorW.PrintLast Go.Proofs.YtlllaoihpkdpmaaDoorW.PrintMore Go.Proofs.YtlllaoihpkdpmaaDoor.F
set_option linter.unusedVariables false
set_option linter.unusedSimpArgs false
theorem blen_of {w s : Nat} (h0 : 2 ^ s ≤ w) (h1 : w < 2 ^ (s + 1)) : blen w = s + 1 := blen_unique h1 (Or.inr (by rw [Nat.add_sub_cancel]; exact h0))
end Go.Proofs.YtlllaoihpkdpmaaDoor.M
