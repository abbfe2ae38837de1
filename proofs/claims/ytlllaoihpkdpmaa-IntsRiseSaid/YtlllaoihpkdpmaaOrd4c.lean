/- The program's comparison and negative at words, and the head of the eighth layer's laws. (For OrderValues.) -/
import Derived.Test.YtlllaoihpkdpmaaF23c
import Derived.Test.YtlllaoihpkdpmaaOrd3c
namespace Go.Proofs.Ytlllaoihpkdpmaa.M
open Go.RowKit Go.Proofs.YtlllaoihpkdpmaaW.PrintWords Go.Proofs.YtlllaoihpkdpmaaW.PrintLast Go.Proofs.YtlllaoihpkdpmaaW.PrintMore Go.Proofs.Ytlllaoihpkdpmaa.F
set_option linter.unusedVariables false
set_option linter.unusedSimpArgs false
theorem oCmp_v {n a b : Nat} (h : Wd n) (ha : a < 18446744073709551616) (hb : b < 18446744073709551616) : order_Cmp.f (n : Int) (a : Int) (b : Int) = some ((if ext a n < ext b n then -1 else if ext a n > ext b n then 1 else 0), none) := by
  unfold order_Cmp.f
  rw [Rank_eq h ha]
  simp only [Option.bind_some, Option.isNone_none, ↓reduceIte]
  rw [Rank_eq h hb]
  simp only [Option.bind_some]
  split
  · rfl
  · split <;> rfl
theorem oNeg_v {n p : Nat} (h : Wd n) (hp : p < 18446744073709551616) : order_Neg.f (n : Int) (p : Int) = some (((ngN p % 2 ^ n : Nat) : Int), none) := by
  unfold order_Neg.f; rw [neg_word hp, Fold_eq h (ngN_lt p)]; rfl
end Go.Proofs.Ytlllaoihpkdpmaa.M
