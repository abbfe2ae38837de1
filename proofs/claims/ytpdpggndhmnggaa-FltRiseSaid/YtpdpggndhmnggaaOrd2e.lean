/- Greater patterns mean greater numbers: the regime, then what stands behind it, rise with the string. (For OrderValues.) -/
import Derived.Test.YtpdpggndhmnggaaF11e
import Derived.Test.YtpdpggndhmnggaaCode
namespace Go.Proofs.Ytpdpggndhmnggaa.M
set_option linter.unusedVariables false
set_option linter.unusedSimpArgs false
theorem blen_mono {a b : Nat} (h : a ≤ b) : blen a ≤ blen b := blen_le_of (Nat.lt_of_le_of_lt h (lt_blen b))
theorem rg_mono {x y w : Nat} (hw : 0 < w) (h : x % 2 ^ w ≤ y % 2 ^ w) : rgI x w ≤ rgI y w := by
  have hx0 := runN_pos (x := x) hw
  have hy0 := runN_pos (x := y) hw
  have bx := blen_left (x := x) hw
  have hby := blen_left (x := y) hw
  unfold rgI
  by_cases tx : topB x w = true
  · have ty : topB y w = true := by
      unfold topB at tx ⊢
      rw [decide_eq_true_eq] at tx ⊢
      omega
    rw [if_pos tx, if_pos ty]
    have lx : left x w = 2 ^ w - 1 - x % 2 ^ w := by unfold topB at tx; rw [decide_eq_true_eq] at tx; unfold left; rw [if_pos tx]
    have ly : left y w = 2 ^ w - 1 - y % 2 ^ w := by unfold topB at ty; rw [decide_eq_true_eq] at ty; unfold left; rw [if_pos ty]
    have := blen_mono (show left y w ≤ left x w by omega)
    unfold runN
    omega
  · rw [if_neg tx]
    by_cases ty : topB y w = true
    · rw [if_pos ty]; omega
    · rw [if_neg ty]
      have lx : left x w = x % 2 ^ w := by unfold topB at tx; rw [decide_eq_true_eq] at tx; unfold left; rw [if_neg tx]
      have ly : left y w = y % 2 ^ w := by unfold topB at ty; rw [decide_eq_true_eq] at ty; unfold left; rw [if_neg ty]
      have := blen_mono (show left x w ≤ left y w by omega)
      unfold runN
      omega
/-- One regime: one run. -/
theorem run_of_rg {x y w : Nat} (hw : 0 < w) (h : rgI x w = rgI y w) : topB x w = topB y w ∧ runN x w = runN y w := by
  have hx0 := runN_pos (x := x) hw
  have hy0 := runN_pos (x := y) hw
  unfold rgI at h
  by_cases tx : topB x w = true
  · by_cases ty : topB y w = true
    · rw [if_pos tx, if_pos ty] at h; exact ⟨by rw [tx, ty], by omega⟩
    · rw [if_pos tx, if_neg ty] at h; omega
  · by_cases ty : topB y w = true
    · rw [if_neg tx, if_pos ty] at h; omega
    · rw [if_neg tx, if_neg ty] at h
      exact ⟨by rw [show topB x w = false by simpa using tx, show topB y w = false by simpa using ty], by omega⟩
theorem tl_lt (x w : Nat) (h : lfN x w ≤ 66) : tlN x w < 73786976294838206464 := by
  have e : 73786976294838206464 = 2 ^ lfN x w * 2 ^ (66 - lfN x w) := by rw [← Nat.pow_add, show lfN x w + (66 - lfN x w) = 66 by omega]
  unfold tlN
  rw [e]
  exact Nat.mul_lt_mul_of_pos_right (Nat.mod_lt _ (Nat.pow_pos (by decide))) (Nat.pow_pos (by decide))
/-- The value's place: the regime, and what stands behind it as 66 bits. -/
def kyI (x w : Nat) : Int := rgI x w * 73786976294838206464 + (tlN x w : Int)
theorem ky_lt {x y w : Nat} (hw : 0 < w) (h63 : w ≤ 63) (h : x % 2 ^ w < y % 2 ^ w) : kyI x w < kyI y w := by
  have l1 := tl_lt x w (by unfold lfN; omega)
  have l2 := tl_lt y w (by unfold lfN; omega)
  have hm := rg_mono hw (Nat.le_of_lt h)
  unfold kyI
  rcases Int.lt_or_eq_of_le hm with c | c
  · omega
  · obtain ⟨ht, hr⟩ := run_of_rg hw c
    have b1 := base_split (x := x) hw
    have b2 := base_split (x := y) hw
    have e : lfN x w = lfN y w := by unfold lfN; rw [hr]
    have eb : baseN x w = baseN y w := by unfold baseN; rw [ht, hr]
    have t : x % 2 ^ lfN x w < y % 2 ^ lfN y w := by omega
    have : tlN x w < tlN y w := by
      unfold tlN
      rw [e] at t ⊢
      exact Nat.mul_lt_mul_of_pos_right t (Nat.pow_pos (by decide))
    rw [c]; omega
/-- The scale and the fraction tell the place. -/
theorem ky_parts {x w : Nat} (hw : 0 < w) (h : w ≤ 63) : kyI x w = scI x w * 18446744073709551616 + 2 * ((mtN x w : Int) - 9223372036854775808) := by
  have h2 := fb_le (x := x) hw
  have hlf : lfN x w ≤ 62 := by unfold lfN; have := runN_pos (x := x) hw; omega
  have e1 := ex_tail (x := x) hw h
  have e2 := mt_tail (x := x) hw h
  have e3 : tlN x w % 2 = 0 := by
    unfold tlN
    rw [show 66 - lfN x w = (65 - lfN x w) + 1 by omega, Nat.pow_succ, ← Nat.mul_assoc, Nat.mul_mod_left]
  have em : (mtN x w : Int) = 9223372036854775808 + ((frN x w * 2 ^ (63 - fbN x w) : Nat) : Int) := by unfold mtN; omega
  rw [show (2 : Nat) ^ 64 = 18446744073709551616 from rfl] at e1 e2
  rw [em, e2]
  unfold kyI scI
  rw [e1]
  generalize tlN x w = t at *
  generalize rgI x w = g
  omega
/-- The order of the strings is the order of scale and fraction. -/
theorem val_lt {x y w : Nat} (hw : 0 < w) (h : w ≤ 63) (hlt : x % 2 ^ w < y % 2 ^ w) : scI x w < scI y w ∨ (scI x w = scI y w ∧ mtN x w < mtN y w) := by
  have k := ky_lt hw h hlt
  rw [ky_parts hw h, ky_parts hw h] at k
  have m1 := mtN_lt (x := x) hw h
  have m2 := mtN_lt (x := y) hw h
  have b1 : 9223372036854775808 ≤ mtN x w ∧ mtN x w < 18446744073709551616 := by unfold mtN; omega
  have b2 : 9223372036854775808 ≤ mtN y w ∧ mtN y w < 18446744073709551616 := by unfold mtN; omega
  omega
end Go.Proofs.Ytpdpggndhmnggaa.M
