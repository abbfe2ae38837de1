/- What the program's first layer computes, and what its reference does: runs, fields, words put, signs, texts. -/
import Derived.Test.YtogldofffdiflaaF3b
import Derived.Test.YtogldofffdiflaaF6b
import Derived.Test.YtogldofffdiflaaF5b
import Derived.Test.YtogldofffdiflaaWordsb
namespace Go.Proofs.Ytogldofffdiflaa.M
open Go.RowKit Go.Proofs.YtogldofffdiflaaW.PrintWords Go.Proofs.YtogldofffdiflaaW.PrintLast Go.Proofs.YtogldofffdiflaaW.PrintMore Go.Proofs.Ytogldofffdiflaa.F
set_option linter.unusedVariables false
set_option linter.unusedSimpArgs false
theorem p64' : (2 : Nat) ^ 64 = 18446744073709551616 := by decide
theorem pow_le64 {n : Nat} (h : n ≤ 64) : 2 ^ n ≤ 18446744073709551616 := by rw [← p64']; exact Nat.pow_le_pow_right (by decide) h
theorem ones_eq {n : Nat} (h : n ≤ 64) : lead_ones.f (n : Int) = some ((2 ^ n - 1 : Nat) : Int) := by
  unfold lead_ones.f
  by_cases h1 : n = 64
  · subst h1; rfl
  · have hp := pow_le64 h
    have hp0 : 0 < 2 ^ n := Nat.pow_pos (by decide)
    have hlt : 2 ^ n < 18446744073709551616 := by rw [← p64']; exact Nat.pow_lt_pow_right (by decide) (by omega)
    have e := shl_nat 1 n
    rw [Nat.one_mul, Nat.mod_eq_of_lt hlt] at e
    rw [if_neg (by omega), if_pos (by omega), show (1 : Int) = ((1 : Nat) : Int) from rfl, e, u64s (by omega) (by omega)]
    congr 1; omega
theorem Mask_eq {n : Nat} (h : n ≤ 64) : lead_Mask.f (n : Int) = some (((2 ^ n - 1 : Nat) : Int), none) := by
  unfold lead_Mask.f
  rw [if_neg (by omega), if_neg (by omega), ones_eq h]; rfl
end Go.Proofs.Ytogldofffdiflaa.M
