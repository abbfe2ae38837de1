/- What the program's first layer computes, and what its reference does: runs, fields, words put, signs, texts. -/
import Derived.Test.YtpdpggndhmnggaaF11g
import Derived.Test.YtpdpggndhmnggaaF0g
import Derived.Test.YtpdpggndhmnggaaF19g
import Derived.Test.YtpdpggndhmnggaaWordsg
namespace Go.Proofs.Ytpdpggndhmnggaa.M
open Go.RowKit Go.Proofs.YtpdpggndhmnggaaW.PrintWords Go.Proofs.YtpdpggndhmnggaaW.PrintLast Go.Proofs.YtpdpggndhmnggaaW.PrintMore Go.Proofs.Ytpdpggndhmnggaa.F
set_option linter.unusedVariables false
set_option linter.unusedSimpArgs false
theorem p64' : (2 : Nat) ^ 64 = 18446744073709551616 := by decide
theorem pow_le64 {n : Nat} (h : n ≤ 64) : 2 ^ n ≤ 18446744073709551616 := by rw [← p64']; exact Nat.pow_le_pow_right (by decide) h
theorem ones_eq {n : Nat} (h : n ≤ 64) : lead_ones.f (n : Int) = some ((2 ^ n - 1 : Nat) : Int) := by
  unfold lead_ones.f
  by_cases h1 : n = 64
  · subst h1; rfl
  · have hp := pow_le64 h
    have hp0 : 0 < 2 ^ n := Nat.pow_pos (by decide)
    have hlt : 2 ^ n < 18446744073709551616 := by rw [← p64']; exact Nat.pow_lt_pow_right (by decide) (by omega)
    have e := shl_nat 1 n
    rw [Nat.one_mul, Nat.mod_eq_of_lt hlt] at e
    rw [if_neg (by omega), if_pos (by omega), show (1 : Int) = ((1 : Nat) : Int) from rfl, e, u64s (by omega) (by omega)]
    congr 1; omega
theorem Mask_eq {n : Nat} (h : n ≤ 64) : lead_Mask.f (n : Int) = some (((2 ^ n - 1 : Nat) : Int), none) := by
  unfold lead_Mask.f
  rw [if_neg (by omega), if_neg (by omega), ones_eq h]; rfl
/-- May there be a field? -/
def fits (a n : Int) : Bool := decide (0 ≤ a ∧ a ≤ 64 ∧ 0 ≤ n ∧ n ≤ 64 - a)
theorem field_eq {a n : Int} : lead_field.f a n = some (fits a n) := by
  unfold lead_field.f fits
  by_cases h1 : a ≥ 0
  · rw [if_pos h1]
    by_cases h2 : a ≤ 64
    · rw [if_pos h2]
      by_cases h3 : n ≥ 0
      · rw [if_pos h3, w64 (by omega) (by omega)]
        congr 1
        rw [Bool.eq_iff_iff, decide_eq_true_eq, decide_eq_true_eq]
        omega
      · rw [if_neg h3, decide_eq_false (by omega)]
    · rw [if_neg h2, decide_eq_false (by omega)]
  · rw [if_neg h1, decide_eq_false (by omega)]
theorem Field_eq {x a n : Nat} (hx : x < 18446744073709551616) (h : a + n ≤ 64) : lead_Field.f (x : Int) (a : Int) (n : Int) = some (((x / 2 ^ a % 2 ^ n : Nat) : Int), none) := by
  have hf : fits (a : Int) (n : Int) = true := by unfold fits; rw [decide_eq_true_eq]; omega
  have hd : x / 2 ^ a ≤ x := Nat.div_le_self _ _
  unfold lead_Field.f
  rw [field_eq, hf]
  simp only [Option.bind_some, ↓reduceIte]
  rw [if_pos (by omega), ones_eq (by omega), shr_nat hx]
  simp only [Option.bind_some]
  rw [and_mask (Nat.lt_of_le_of_lt hd hx) (by omega)]
theorem mask_place {x a n : Nat} (hx : x < 18446744073709551616) (h : a + n ≤ 64) : x &&& ((2 ^ n - 1) * 2 ^ a) = x / 2 ^ a % 2 ^ n * 2 ^ a := by
  apply Nat.eq_of_testBit_eq
  intro i
  rw [Nat.testBit_and, Nat.testBit_mul_two_pow, Nat.testBit_mul_two_pow, Nat.testBit_two_pow_sub_one, Nat.testBit_mod_two_pow, Nat.testBit_div_two_pow]
  by_cases h1 : a ≤ i
  · simp only [h1, decide_true, Bool.true_and]
    rw [show i - a + a = i by omega, Bool.and_comm]
  · simp [h1]
end Go.Proofs.Ytpdpggndhmnggaa.M
