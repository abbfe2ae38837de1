/- What the laws of the second layer share: their head, words out of what is given. -/
import Derived.Test.YtcnpnnodgfpheaaF9
import Derived.Test.YtcnpnnodgfpheaaTwinP
namespace Go.Proofs.Ytcnpnnodgfpheaa.M
open Go.RowKit Go.Proofs.YtcnpnnodgfpheaaW.PrintWords Go.Proofs.YtcnpnnodgfpheaaW.PrintLast Go.Proofs.YtcnpnnodgfpheaaW.PrintMore Go.Proofs.Ytcnpnnodgfpheaa.F
set_option linter.unusedVariables false
set_option linter.unusedSimpArgs false
theorem cmp_self (x : Nat) : cmp x x = 0 := by unfold cmp; rw [if_neg (Nat.lt_irrefl _), if_pos rfl]
theorem Code_none : vernierlaw00_Code.f none = some 0 := rfl
theorem Code_one : vernierlaw00_Code.f (some 1) = some 1 := rfl
end Go.Proofs.Ytcnpnnodgfpheaa.M
