/- How far the guess of part.Wide is from the quotient: at most one too high. -/
import Derived.Test.YtcnpnnodgfpheaaDigs
namespace Go.Proofs.Ytcnpnnodgfpheaa.M

set_option linter.unusedVariables false
set_option linter.unusedSimpArgs false

/-- E: 2^(64-n), P: 2^n; V1: the upper word of the divisor moved up; D = V1 * E. -/
theorem wide_D {v P E V1 : Nat} (hP : 0 < P) (hE : P * E = 18446744073709551616) (hV : V1 = v * P / 18446744073709551616) : V1 * E ≤ v ∧ v < V1 * E + E := by
  have h1 : V1 * 18446744073709551616 ≤ v * P := by rw [hV]; exact Nat.div_mul_le_self _ _
  have h2 : v * P < (V1 + 1) * 18446744073709551616 := by rw [hV]; exact Nat.lt_mul_of_div_lt (Nat.lt_succ_self _) (by decide)
  constructor
  · refine Nat.le_of_mul_le_mul_right ?_ hP
    rw [Nat.mul_assoc, Nat.mul_comm E P, hE]; exact h1
  · refine Nat.lt_of_mul_lt_mul_right (a := P) ?_
    rw [← Nat.succ_mul, Nat.mul_assoc, Nat.mul_comm E P, hE]; exact h2
/-- The guess is the quotient by D. -/
theorem wide_q (u V1 n : Nat) (hn : n ≤ 63) : u / 2 / V1 / 2 ^ (63 - n) = u / (V1 * 2 ^ (64 - n)) := by
  rw [Nat.div_div_eq_div_mul, Nat.div_div_eq_div_mul]
  have e : 2 ^ (64 - n) = 2 * 2 ^ (63 - n) := by rw [show 64 - n = 63 - n + 1 by omega, Nat.pow_succ, Nat.mul_comm]
  rw [e, Nat.mul_left_comm]
theorem wide_low {u v D : Nat} (hD : 0 < D) (h : D ≤ v) : u / v ≤ u / D := Nat.div_le_div_left h hD
/-- One less than the guess is no greater than the quotient, if the guess times what D lacks is small. -/
theorem wide_high {u v D q e : Nat} (hv0 : 0 < v) (hq : q * D ≤ u) (hq0 : 0 < q) (hv : v ≤ D + e) (hs : (q - 1) * e ≤ D) : q - 1 ≤ u / v := by
  refine (Nat.le_div_iff_mul_le hv0).mpr ?_
  refine Nat.le_trans (Nat.mul_le_mul_left _ hv) ?_
  rw [Nat.mul_add, Nat.sub_one_mul]
  have h1 : D ≤ q * D := Nat.le_mul_of_pos_left D hq0
  refine Nat.le_trans (Nat.add_le_add_left hs _) ?_
  rw [Nat.sub_add_cancel h1]; exact hq
theorem wide_est {u v n : Nat} (hu : u < 340282366920938463463374607431768211456) (hn : n ≤ 63) (hV : 9223372036854775808 ≤ v * 2 ^ n / 18446744073709551616) :
    u / v ≤ u / 2 / (v * 2 ^ n / 18446744073709551616) / 2 ^ (63 - n) ∧ u / 2 / (v * 2 ^ n / 18446744073709551616) / 2 ^ (63 - n) - 1 ≤ u / v := by
  rw [wide_q _ _ _ hn]
  have hPE : 2 ^ n * 2 ^ (64 - n) = 18446744073709551616 := by rw [← Nat.pow_add, show n + (64 - n) = 64 by omega]
  obtain ⟨h1, h2⟩ := wide_D (v := v) (Nat.pow_pos (by decide)) hPE rfl
  have hE0 : 0 < 2 ^ (64 - n) := Nat.pow_pos (by decide)
  have hE : n = 63 ∧ 2 ^ (64 - n) = 2 ∨ 4 ≤ 2 ^ (64 - n) := by
    rcases Nat.eq_or_lt_of_le hn with g | g
    · subst g; exact Or.inl ⟨rfl, rfl⟩
    · exact Or.inr (show 2 ^ 2 ≤ 2 ^ (64 - n) from Nat.pow_le_pow_right (by decide) (by omega))
  generalize v * 2 ^ n / 18446744073709551616 = V1 at hV h1 h2 ⊢
  generalize 2 ^ (64 - n) = E at hE0 hE h1 h2 ⊢
  have hD : 0 < V1 * E := Nat.mul_pos (Nat.lt_of_lt_of_le (by decide) hV) hE0
  have hqD : u / (V1 * E) * (V1 * E) ≤ u := Nat.div_mul_le_self _ _
  refine ⟨wide_low hD h1, ?_⟩
  rcases Nat.eq_zero_or_pos (u / (V1 * E)) with hz | hq0
  · rw [hz]; exact Nat.zero_le _
  have hqE : u / (V1 * E) * E < 36893488147419103232 := by
    refine Nat.lt_of_mul_lt_mul_right (a := 9223372036854775808) ?_
    refine Nat.lt_of_le_of_lt (Nat.mul_le_mul_left _ hV) ?_
    rw [Nat.mul_assoc, Nat.mul_comm E V1]
    exact Nat.lt_of_le_of_lt hqD hu
  have hs : (u / (V1 * E) - 1) * (E - 1) ≤ V1 * E := by
    rcases hE with ⟨_, he⟩ | he
    · rw [he] at hqE ⊢
      generalize u / (V1 * 2) = q at hqE ⊢
      omega
    · refine Nat.le_trans (Nat.mul_le_mul (Nat.sub_le _ 1) (Nat.sub_le _ 1)) (Nat.le_trans (Nat.le_of_lt hqE) ?_)
      exact Nat.mul_le_mul hV he
  exact wide_high (Nat.lt_of_lt_of_le hD h1) hqD hq0 (by omega) hs
end Go.Proofs.Ytcnpnnodgfpheaa.M
