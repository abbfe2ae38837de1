/- The program's comparison and negative at words, and the head of the eighth layer's laws. (For OrderValues.) -/
import Derived.Test.YtcokamomcnmocaaF5
import Derived.Test.YtcokamomcnmocaaF6
import Derived.Test.YtcokamomcnmocaaOrd3
namespace Go.Proofs.Ytcokamomcnmocaa.M
open Go.RowKit Go.Proofs.YtcokamomcnmocaaW.PrintWords Go.Proofs.YtcokamomcnmocaaW.PrintLast Go.Proofs.YtcokamomcnmocaaW.PrintMore Go.Proofs.Ytcokamomcnmocaa.F
set_option linter.unusedVariables false
set_option linter.unusedSimpArgs false
theorem oCmp_no {n a b : Int} (h : NoW n) : order_Cmp.f n a b = some (0, some 2) := by unfold order_Cmp.f; rw [Rank_no h]; rfl
theorem oCmp_v {n a b : Nat} (h : Wd n) (ha : a < 18446744073709551616) (hb : b < 18446744073709551616) : order_Cmp.f (n : Int) (a : Int) (b : Int) = some ((if ext a n < ext b n then -1 else if ext a n > ext b n then 1 else 0), none) := by
  unfold order_Cmp.f
  rw [Rank_eq h ha]
  simp only [Option.bind_some, Option.isNone_none, ↓reduceIte]
  rw [Rank_eq h hb]
  simp only [Option.bind_some]
  split
  · rfl
  · split <;> rfl
theorem oNeg_no {n a : Int} (h : NoW n) : order_Neg.f n a = some (0, some 2) := by unfold order_Neg.f; rw [Fold_no h]; rfl
theorem oNeg_v {n p : Nat} (h : Wd n) (hp : p < 18446744073709551616) : order_Neg.f (n : Int) (p : Int) = some (((ngN p % 2 ^ n : Nat) : Int), none) := by
  unfold order_Neg.f; rw [neg_word hp, Fold_eq h (ngN_lt p)]; rfl
theorem up08 : vernierlaw08_up.f = some true := by decide +kernel
end Go.Proofs.Ytcokamomcnmocaa.M
