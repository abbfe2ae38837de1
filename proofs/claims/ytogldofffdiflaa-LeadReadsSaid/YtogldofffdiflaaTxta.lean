/- Bits as text: the reference's texts of bits, what they hold, what is cut out of them and put together, and the number that they show. -/
import Derived.Test.YtogldofffdiflaaF5a
import Derived.Test.YtogldofffdiflaaWordsa
namespace Go.Proofs.Ytogldofffdiflaa.M
open Go.RowKit Go.Proofs.YtogldofffdiflaaW.PrintWords Go.Proofs.YtogldofffdiflaaW.PrintLast Go.Proofs.YtogldofffdiflaaW.PrintMore Go.Proofs.Ytogldofffdiflaa.F
set_option linter.unusedVariables false
set_option linter.unusedSimpArgs false
/-- The lowest n bits of x as signs, the highest first. -/
def tx (x : Nat) : Nat → List Int
  | 0 => []
  | n + 1 => ((48 + x / 2 ^ n % 2 : Nat) : Int) :: tx x n
def txt (x n : Nat) : ByteArray := strOfNums (tx x n)
theorem tx_length (x n : Nat) : (tx x n).length = n := by
  induction n with
  | zero => rfl
  | succ n ih => simp [tx, ih]
end Go.Proofs.Ytogldofffdiflaa.M
