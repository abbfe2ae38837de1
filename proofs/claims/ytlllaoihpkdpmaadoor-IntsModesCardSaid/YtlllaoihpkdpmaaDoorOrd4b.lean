/- The program's comparison and negative at words, and the head of the eighth layer's laws. (For OrderValues.) -/
import Derived.Test.YtlllaoihpkdpmaaDoorF21b
import Derived.Test.YtlllaoihpkdpmaaDoorOrd3b
namespace Go.Proofs.YtlllaoihpkdpmaaDoor.M
open Go.RowKit Go.Proofs.YtlllaoihpkdpmaaDoorW.PrintWords Go.Proofs.YtlllaoihpkdpmaaDoorW.PrintLast Go.Proofs.YtlllaoihpkdpmaaDoorW.PrintMore Go.Proofs.YtlllaoihpkdpmaaDoor.F
set_option linter.unusedVariables false
set_option linter.unusedSimpArgs false
theorem oCmp_v {n a b : Nat} (h : Wd n) (ha : a < 18446744073709551616) (hb : b < 18446744073709551616) : order_Cmp.f (n : Int) (a : Int) (b : Int) = some ((if ext a n < ext b n then -1 else if ext a n > ext b n then 1 else 0), none) := by
  unfold order_Cmp.f
  rw [Rank_eq h ha]
  simp only [Option.bind_some, Option.isNone_none, ↓reduceIte]
  rw [Rank_eq h hb]
  simp only [Option.bind_some]
  split
  · rfl
  · split <;> rfl
end Go.Proofs.YtlllaoihpkdpmaaDoor.M
