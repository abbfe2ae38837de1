/- What the program's first layer computes, and what its reference does: runs, fields, words put, signs, texts. -/
import Derived.Test.YtmofdimkdkfdgaaF4
import Derived.Test.YtmofdimkdkfdgaaF13
import Derived.Test.YtmofdimkdkfdgaaTxt
namespace Go.Proofs.Ytmofdimkdkfdgaa.M
open Go.RowKit Go.Proofs.YtmofdimkdkfdgaaW.PrintWords Go.Proofs.YtmofdimkdkfdgaaW.PrintLast Go.Proofs.YtmofdimkdkfdgaaW.PrintMore Go.Proofs.Ytmofdimkdkfdgaa.F
set_option linter.unusedVariables false
set_option linter.unusedSimpArgs false

theorem p64' : (2 : Nat) ^ 64 = 18446744073709551616 := by decide
theorem pow_le64 {n : Nat} (h : n ≤ 64) : 2 ^ n ≤ 18446744073709551616 := by rw [← p64']; exact Nat.pow_le_pow_right (by decide) h
theorem ones_eq {n : Nat} (h : n ≤ 64) : lead_ones.f (n : Int) = some ((2 ^ n - 1 : Nat) : Int) := by
  unfold lead_ones.f
  by_cases h1 : n = 64
  · subst h1; rfl
  · have hp := pow_le64 h
    have hp0 : 0 < 2 ^ n := Nat.pow_pos (by decide)
    have hlt : 2 ^ n < 18446744073709551616 := by rw [← p64']; exact Nat.pow_lt_pow_right (by decide) (by omega)
    have e := shl_nat 1 n
    rw [Nat.one_mul, Nat.mod_eq_of_lt hlt] at e
    rw [if_neg (by omega), if_pos (by omega), show (1 : Int) = ((1 : Nat) : Int) from rfl, e, u64s (by omega) (by omega)]
    congr 1; omega
theorem Mask_bad {n : Int} (h : n < 0 ∨ 64 < n) : lead_Mask.f n = some (0, some 1) := by
  unfold lead_Mask.f
  by_cases h1 : n < 0
  · rw [if_pos h1]
  · rw [if_neg h1, if_pos (by omega)]
theorem Mask_eq {n : Nat} (h : n ≤ 64) : lead_Mask.f (n : Int) = some (((2 ^ n - 1 : Nat) : Int), none) := by
  unfold lead_Mask.f
  rw [if_neg (by omega), if_neg (by omega), ones_eq h]; rfl
/-- May there be a field? -/
def fits (a n : Int) : Bool := decide (0 ≤ a ∧ a ≤ 64 ∧ 0 ≤ n ∧ n ≤ 64 - a)
theorem field_eq {a n : Int} : lead_field.f a n = some (fits a n) := by
  unfold lead_field.f fits
  by_cases h1 : a ≥ 0
  · rw [if_pos h1]
    by_cases h2 : a ≤ 64
    · rw [if_pos h2]
      by_cases h3 : n ≥ 0
      · rw [if_pos h3, w64 (by omega) (by omega)]
        congr 1
        rw [Bool.eq_iff_iff, decide_eq_true_eq, decide_eq_true_eq]
        omega
      · rw [if_neg h3, decide_eq_false (by omega)]
    · rw [if_neg h2, decide_eq_false (by omega)]
  · rw [if_neg h1, decide_eq_false (by omega)]
theorem fits_nat {a n : Int} (h : fits a n = true) : ∃ b m : Nat, a = (b : Int) ∧ n = (m : Int) ∧ b + m ≤ 64 := by
  unfold fits at h
  rw [decide_eq_true_eq] at h
  exact ⟨a.toNat, n.toNat, by omega, by omega, by omega⟩
theorem Field_bad {x a n : Int} (h : fits a n = false) : lead_Field.f x a n = some (0, some 1) := by
  unfold lead_Field.f; rw [field_eq, h]; rfl
theorem Field_eq {x a n : Nat} (hx : x < 18446744073709551616) (h : a + n ≤ 64) : lead_Field.f (x : Int) (a : Int) (n : Int) = some (((x / 2 ^ a % 2 ^ n : Nat) : Int), none) := by
  have hf : fits (a : Int) (n : Int) = true := by unfold fits; rw [decide_eq_true_eq]; omega
  have hd : x / 2 ^ a ≤ x := Nat.div_le_self _ _
  unfold lead_Field.f
  rw [field_eq, hf]
  simp only [Option.bind_some, ↓reduceIte]
  rw [if_pos (by omega), ones_eq (by omega), shr_nat hx]
  simp only [Option.bind_some]
  rw [and_mask (Nat.lt_of_le_of_lt hd hx) (by omega)]
theorem Put_bad {x a n v : Int} (h : fits a n = false) : lead_Put.f x a n v = some (0, some 1) := by
  unfold lead_Put.f; rw [field_eq, h]; rfl
/-- x with the lowest n bits of v from the place a on. -/
def putN (x a n v : Nat) : Nat := x / 2 ^ (a + n) * 2 ^ (a + n) + v % 2 ^ n * 2 ^ a + x % 2 ^ a
theorem mask_place {x a n : Nat} (hx : x < 18446744073709551616) (h : a + n ≤ 64) : x &&& ((2 ^ n - 1) * 2 ^ a) = x / 2 ^ a % 2 ^ n * 2 ^ a := by
  apply Nat.eq_of_testBit_eq
  intro i
  rw [Nat.testBit_and, Nat.testBit_mul_two_pow, Nat.testBit_mul_two_pow, Nat.testBit_two_pow_sub_one, Nat.testBit_mod_two_pow, Nat.testBit_div_two_pow]
  by_cases h1 : a ≤ i
  · simp only [h1, decide_true, Bool.true_and]
    rw [show i - a + a = i by omega, Bool.and_comm]
  · simp [h1]
theorem Put_eq {x a n v : Nat} (hx : x < 18446744073709551616) (hv : v < 18446744073709551616) (h : a + n ≤ 64) : lead_Put.f (x : Int) (a : Int) (n : Int) (v : Int) = some (((putN x a n v : Nat) : Int), none) := by
  have hf : fits (a : Int) (n : Int) = true := by unfold fits; rw [decide_eq_true_eq]; omega
  have pa : 0 < 2 ^ a := Nat.pow_pos (by decide)
  have pn : 0 < 2 ^ n := Nat.pow_pos (by decide)
  have pan : 2 ^ a * 2 ^ n ≤ 18446744073709551616 := by rw [← Nat.pow_add]; exact pow_le64 h
  have pn' := pow_le64 (show n ≤ 64 by omega)
  have em : (2 ^ n - 1) * 2 ^ a < 18446744073709551616 := by
    have : (2 ^ n - 1) * 2 ^ a + 2 ^ a = 2 ^ a * 2 ^ n := by rw [Nat.sub_mul, Nat.one_mul, Nat.mul_comm (2 ^ n)]; have := Nat.le_mul_of_pos_right (2 ^ a) pn; omega
    omega
  unfold lead_Put.f
  rw [field_eq, hf]
  simp only [Option.bind_some, ↓reduceIte]
  rw [ones_eq (by omega)]
  simp only [Option.bind_some]
  rw [if_pos (by omega), shl_nat, shl_nat, Nat.mod_eq_of_lt em, andNot_nat hx em, and_nat (Nat.mod_lt _ (by decide)) em, mask_place hx h, mask_place (Nat.mod_lt _ (by decide)) h]
  have ev : v * 2 ^ a % 18446744073709551616 / 2 ^ a % 2 ^ n = v % 2 ^ n := by
    have e64 : 18446744073709551616 = 2 ^ a * 2 ^ (64 - a) := by rw [← Nat.pow_add, show a + (64 - a) = 64 by omega, p64']
    rw [e64, Nat.mul_comm v, Nat.mul_mod_mul_left, Nat.mul_div_cancel_left _ pa]
    rw [show 64 - a = n + (64 - a - n) by omega, Nat.pow_add, Nat.mod_mul_right_mod]
  rw [ev]
  have d1 := Nat.div_add_mod x (2 ^ a)
  have d2 := Nat.div_add_mod (x / 2 ^ a) (2 ^ n)
  have d3 : x / 2 ^ a / 2 ^ n = x / 2 ^ (a + n) := by rw [Nat.div_div_eq_div_mul, ← Nat.pow_add]
  rw [d3] at d2
  have hm : x / 2 ^ a % 2 ^ n * 2 ^ a ≤ x := by
    have h2 : x / 2 ^ a * 2 ^ a ≤ x := Nat.div_mul_le_self _ _
    exact Nat.le_trans (Nat.mul_le_mul_right _ (Nat.mod_le _ _)) h2
  have hsub : x - x / 2 ^ a % 2 ^ n * 2 ^ a = x / 2 ^ (a + n) * 2 ^ (a + n) + x % 2 ^ a := by
    have : x = 2 ^ a * (2 ^ n * (x / 2 ^ (a + n)) + x / 2 ^ a % 2 ^ n) + x % 2 ^ a := by rw [d2, d1]
    have e : 2 ^ a * (2 ^ n * (x / 2 ^ (a + n)) + x / 2 ^ a % 2 ^ n) = x / 2 ^ (a + n) * 2 ^ (a + n) + x / 2 ^ a % 2 ^ n * 2 ^ a := by rw [Nat.pow_add]; grind
    rw [e] at this
    omega
  rw [hsub]
  have hlt : x % 2 ^ a < 2 ^ a := Nat.mod_lt _ pa
  have hvn : v % 2 ^ n < 2 ^ n := Nat.mod_lt _ pn
  have hvl : v % 2 ^ n * 2 ^ a < 18446744073709551616 := by
    have : v % 2 ^ n * 2 ^ a + 2 ^ a ≤ 2 ^ a * 2 ^ n := by rw [Nat.mul_comm (2 ^ a), ← Nat.succ_mul]; exact Nat.mul_le_mul_right _ hvn
    omega
  have hol : x / 2 ^ (a + n) * 2 ^ (a + n) + x % 2 ^ a < 18446744073709551616 := by rw [← hsub]; omega
  rw [or_nat hol hvl]
  congr 3
  unfold putN
  have hb : x % 2 ^ a + v % 2 ^ n * 2 ^ a < 2 ^ (a + n) := by
    have : v % 2 ^ n * 2 ^ a + 2 ^ a ≤ 2 ^ a * 2 ^ n := by rw [Nat.mul_comm (2 ^ a), ← Nat.succ_mul]; exact Nat.mul_le_mul_right _ hvn
    rw [Nat.pow_add]; omega
  have c1 : x / 2 ^ (a + n) * 2 ^ (a + n) + v % 2 ^ n * 2 ^ a + x % 2 ^ a = 2 ^ (a + n) * (x / 2 ^ (a + n)) + (2 ^ a * (v % 2 ^ n) + x % 2 ^ a) := by grind
  have c2 : x / 2 ^ (a + n) * 2 ^ (a + n) + x % 2 ^ a = 2 ^ (a + n) * (x / 2 ^ (a + n)) + x % 2 ^ a := by grind
  have hb2 : x % 2 ^ a < 2 ^ (a + n) := by omega
  have hb3 : 2 ^ a * (v % 2 ^ n) + x % 2 ^ a < 2 ^ (a + n) := by rw [Nat.mul_comm]; omega
  rw [c1, c2, Nat.two_pow_add_eq_or_of_lt hb3, Nat.two_pow_add_eq_or_of_lt hb2, Nat.two_pow_add_eq_or_of_lt hlt, Nat.mul_comm (v % 2 ^ n), Nat.or_assoc, Nat.or_comm (x % 2 ^ a)]
end Go.Proofs.Ytmofdimkdkfdgaa.M
