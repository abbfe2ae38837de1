/- What the laws of the second layer share: their head, words out of what is given. -/
import Derived.Test.YtjbcfiigafbobaaF5
import Derived.Test.YtjbcfiigafbobaaF12
import Derived.Test.YtjbcfiigafbobaaTwinP
namespace Go.Proofs.Ytjbcfiigafbobaa.M
open Go.RowKit Go.Proofs.YtjbcfiigafbobaaW.PrintWords Go.Proofs.YtjbcfiigafbobaaW.PrintLast Go.Proofs.YtjbcfiigafbobaaW.PrintMore Go.Proofs.Ytjbcfiigafbobaa.F
set_option linter.unusedVariables false
set_option linter.unusedSimpArgs false
theorem up02 : vernierlaw02_up.f = some true := by
  have e1 := Mul_eq (x := 9223372036854775808) (y := 6) (by decide) (by decide)
  have e2 := Add_eq (ah := 0) (al := 18446744073709551615) (bh := 0) (bl := 1) (by decide) (by decide) (by decide) (by decide)
  unfold vernierlaw02_up.f
  have c1 : twin_Mul.f 9223372036854775808 6 = some (3, 0) := e1
  have c2 : twin_Add.f 0 18446744073709551615 0 1 = some (1, 0, false) := e2
  rw [c1]
  simp only [Option.bind_some]
  rw [c2]
  rfl
theorem cmp_self (x : Nat) : cmp x x = 0 := by unfold cmp; rw [if_neg (Nat.lt_irrefl _), if_pos rfl]
theorem Code_none : vernierlaw00_Code.f none = some 0 := rfl
theorem Code_one : vernierlaw00_Code.f (some 1) = some 1 := rfl
end Go.Proofs.Ytjbcfiigafbobaa.M
