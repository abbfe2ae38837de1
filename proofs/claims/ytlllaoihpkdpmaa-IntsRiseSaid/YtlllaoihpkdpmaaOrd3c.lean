/- The order of ranks is the order of values, NaR apart: by signs, scales and fractions. (For OrderValues.) -/
import Derived.Test.YtlllaoihpkdpmaaF10c
import Derived.Test.YtlllaoihpkdpmaaOrd2c
import Derived.Test.YtlllaoihpkdpmaaCod3c
namespace Go.Proofs.Ytlllaoihpkdpmaa.M
set_option linter.unusedVariables false
set_option linter.unusedSimpArgs false
theorem ext_least {n p : Nat} (h : Wd n) (hk : kindN n p = 2) : ext p n = -((2 ^ (n - 1) : Nat) : Int) := by
  have h1 : p % 2 ^ n = 2 ^ (n - 1) := by
    unfold kindN at hk
    by_cases g : p % 2 ^ n = 0
    · rw [if_pos g] at hk; omega
    · rw [if_neg g] at hk
      by_cases g2 : p % 2 ^ n = 2 ^ (n - 1)
      · exact g2
      · rw [if_neg g2] at hk; omega
  unfold ext
  rw [h1, if_pos (Nat.le_refl _)]
  rcases h with rfl | rfl | rfl | rfl <;> rfl
end Go.Proofs.Ytlllaoihpkdpmaa.M
