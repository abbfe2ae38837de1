/- The program's comparison and negative at words, and the head of the eighth layer's laws. (For OrderValues.) -/
import Derived.Test.YtpdpggndhmnggaaF29f
import Derived.Test.YtpdpggndhmnggaaF13f
import Derived.Test.YtpdpggndhmnggaaF11f
import Derived.Test.YtpdpggndhmnggaaCodf
import Derived.Test.YtpdpggndhmnggaaCod3f
namespace Go.Proofs.Ytpdpggndhmnggaa.M
open Go.RowKit Go.Proofs.YtpdpggndhmnggaaW.PrintWords Go.Proofs.YtpdpggndhmnggaaW.PrintLast Go.Proofs.YtpdpggndhmnggaaW.PrintMore Go.Proofs.Ytpdpggndhmnggaa.F
set_option linter.unusedVariables false
set_option linter.unusedSimpArgs false
theorem oNeg_v {n p : Nat} (h : Wd n) (hp : p < 18446744073709551616) : order_Neg.f (n : Int) (p : Int) = some (((ngN p % 2 ^ n : Nat) : Int), none) := by
  unfold order_Neg.f; rw [neg_word hp, Fold_eq h (ngN_lt p)]; rfl
end Go.Proofs.Ytpdpggndhmnggaa.M
