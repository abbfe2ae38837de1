/- What the program's first layer computes, and what its reference does: runs, fields, words put, signs, texts. -/
import Derived.Test.YtcokamomcnmocaaF4
import Derived.Test.YtcokamomcnmocaaTxt
namespace Go.Proofs.Ytcokamomcnmocaa.M
open Go.RowKit Go.Proofs.YtcokamomcnmocaaW.PrintWords Go.Proofs.YtcokamomcnmocaaW.PrintLast Go.Proofs.YtcokamomcnmocaaW.PrintMore Go.Proofs.Ytcokamomcnmocaa.F
set_option linter.unusedVariables false
set_option linter.unusedSimpArgs false

theorem p64' : (2 : Nat) ^ 64 = 18446744073709551616 := by decide
theorem pow_le64 {n : Nat} (h : n ≤ 64) : 2 ^ n ≤ 18446744073709551616 := by rw [← p64']; exact Nat.pow_le_pow_right (by decide) h
theorem ones_eq {n : Nat} (h : n ≤ 64) : lead_ones.f (n : Int) = some ((2 ^ n - 1 : Nat) : Int) := by
  unfold lead_ones.f
  by_cases h1 : n = 64
  · subst h1; rfl
  · have hp := pow_le64 h
    have hp0 : 0 < 2 ^ n := Nat.pow_pos (by decide)
    have hlt : 2 ^ n < 18446744073709551616 := by rw [← p64']; exact Nat.pow_lt_pow_right (by decide) (by omega)
    have e := shl_nat 1 n
    rw [Nat.one_mul, Nat.mod_eq_of_lt hlt] at e
    rw [if_neg (by omega), if_pos (by omega), show (1 : Int) = ((1 : Nat) : Int) from rfl, e, u64s (by omega) (by omega)]
    congr 1; omega
theorem Mask_bad {n : Int} (h : n < 0 ∨ 64 < n) : lead_Mask.f n = some (0, some 1) := by
  unfold lead_Mask.f
  by_cases h1 : n < 0
  · rw [if_pos h1]
  · rw [if_neg h1, if_pos (by omega)]
theorem Mask_eq {n : Nat} (h : n ≤ 64) : lead_Mask.f (n : Int) = some (((2 ^ n - 1 : Nat) : Int), none) := by
  unfold lead_Mask.f
  rw [if_neg (by omega), if_neg (by omega), ones_eq h]; rfl
/-- May there be a field? -/
def fits (a n : Int) : Bool := decide (0 ≤ a ∧ a ≤ 64 ∧ 0 ≤ n ∧ n ≤ 64 - a)
theorem fits_nat {a n : Int} (h : fits a n = true) : ∃ b m : Nat, a = (b : Int) ∧ n = (m : Int) ∧ b + m ≤ 64 := by
  unfold fits at h
  rw [decide_eq_true_eq] at h
  exact ⟨a.toNat, n.toNat, by omega, by omega, by omega⟩
/-- x with the lowest n bits of v from the place a on. -/
def putN (x a n v : Nat) : Nat := x / 2 ^ (a + n) * 2 ^ (a + n) + v % 2 ^ n * 2 ^ a + x % 2 ^ a
theorem mask_place {x a n : Nat} (hx : x < 18446744073709551616) (h : a + n ≤ 64) : x &&& ((2 ^ n - 1) * 2 ^ a) = x / 2 ^ a % 2 ^ n * 2 ^ a := by
  apply Nat.eq_of_testBit_eq
  intro i
  rw [Nat.testBit_and, Nat.testBit_mul_two_pow, Nat.testBit_mul_two_pow, Nat.testBit_two_pow_sub_one, Nat.testBit_mod_two_pow, Nat.testBit_div_two_pow]
  by_cases h1 : a ≤ i
  · simp only [h1, decide_true, Bool.true_and]
    rw [show i - a + a = i by omega, Bool.and_comm]
  · simp [h1]
end Go.Proofs.Ytcokamomcnmocaa.M
