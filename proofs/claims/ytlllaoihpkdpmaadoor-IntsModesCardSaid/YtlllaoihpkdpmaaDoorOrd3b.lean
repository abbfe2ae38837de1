/- The order of ranks is the order of values, NaR apart: by signs, scales and fractions. (For OrderValues.) -/
import Derived.Test.YtlllaoihpkdpmaaDoorF6b
import Derived.Test.YtlllaoihpkdpmaaDoorF4b
import Derived.Test.YtlllaoihpkdpmaaDoorCodb
import Derived.Test.YtlllaoihpkdpmaaDoorCod3b
namespace Go.Proofs.YtlllaoihpkdpmaaDoor.M
set_option linter.unusedVariables false
set_option linter.unusedSimpArgs false
/-- A rank by the pattern's size and sign. -/
theorem ext_abs {n p : Nat} (h : Wd n) (hp : p < 18446744073709551616) (hk : kindN n p = 1) : ext p n = if topB p n = true then -((abN n p % 2 ^ (n - 1) : Nat) : Int) else ((abN n p % 2 ^ (n - 1) : Nat) : Int) := by
  have h1 : p % 2 ^ n ≠ 0 := by intro g; unfold kindN at hk; rw [if_pos g] at hk; omega
  have h2 : p % 2 ^ n ≠ 2 ^ (n - 1) := by intro g; unfold kindN at hk; rw [if_neg h1, if_pos g] at hk; omega
  unfold ext abN
  by_cases ht : topB p n = true
  · rw [if_pos ht, if_pos ht]
    unfold topB at ht
    rw [decide_eq_true_eq] at ht
    rw [if_pos ht]
    unfold ngN
    rcases h with rfl | rfl | rfl | rfl <;> simp only [Nat.reducePow, Nat.reduceSub] at * <;> omega
  · rw [if_neg ht, if_neg ht]
    unfold topB at ht
    rw [decide_eq_true_eq] at ht
    rw [if_neg ht]
    rcases h with rfl | rfl | rfl | rfl <;> simp only [Nat.reducePow, Nat.reduceSub] at * <;> omega
theorem ext_zero {n p : Nat} (h : Wd n) (hk : kindN n p = 0) : ext p n = 0 := by
  have h1 : p % 2 ^ n = 0 := by
    unfold kindN at hk
    by_cases g : p % 2 ^ n = 0
    · exact g
    · rw [if_neg g] at hk; split at hk <;> omega
  have hp : 0 < 2 ^ (n - 1) := Nat.pow_pos (by decide)
  unfold ext
  rw [h1, if_neg (by omega)]; rfl
theorem ext_least {n p : Nat} (h : Wd n) (hk : kindN n p = 2) : ext p n = -((2 ^ (n - 1) : Nat) : Int) := by
  have h1 : p % 2 ^ n = 2 ^ (n - 1) := by
    unfold kindN at hk
    by_cases g : p % 2 ^ n = 0
    · rw [if_pos g] at hk; omega
    · rw [if_neg g] at hk
      by_cases g2 : p % 2 ^ n = 2 ^ (n - 1)
      · exact g2
      · rw [if_neg g2] at hk; omega
  unfold ext
  rw [h1, if_pos (Nat.le_refl _)]
  rcases h with rfl | rfl | rfl | rfl <;> rfl
end Go.Proofs.YtlllaoihpkdpmaaDoor.M
