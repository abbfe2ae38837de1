/- Words of 64 bits as floats: what is read off them, and which word an exact product is. -/
import Derived.Test.YtpdpggndhmnggaaF3g
import Derived.Laws.FloatArith
import Derived.Test.YtpdpggndhmnggaaWordsg
import Derived.Test.YtpdpggndhmnggaaLeadg
namespace Go.Proofs.Ytpdpggndhmnggaa.M
open Go.RowKit Go.Proofs.YtpdpggndhmnggaaW.PrintWords Go.Proofs.YtpdpggndhmnggaaW.PrintLast Go.Proofs.YtpdpggndhmnggaaW.PrintMore Go.Proofs.Ytpdpggndhmnggaa.F
set_option linter.unusedVariables false
set_option linter.unusedSimpArgs false
theorem d_read (b : Nat) : Ieee.double.read b =
    if b % 9223372036854775808 < 4503599627370496 then .number (b / 9223372036854775808 % 2 == 1) (b % 9223372036854775808) (-1074)
    else if b % 9223372036854775808 < 9218868437227405312 then .number (b / 9223372036854775808 % 2 == 1) (4503599627370496 + b % 9223372036854775808 % 4503599627370496) (-1074 + (b % 9223372036854775808 / 4503599627370496 - 1 : Nat))
    else if b % 9223372036854775808 = 9218868437227405312 then .infinity (b / 9223372036854775808 % 2 == 1)
    else .nan (b / 9223372036854775808 % 2 == 1) (b % 9223372036854775808 - 9218868437227405312) := rfl
theorem icmp_self (a : Int) : compare a a = Ordering.eq := by simp
theorem ord_self (b : Nat) : FloatKind.f64.format.order b b = if 9218868437227405312 < b % 9223372036854775808 then none else some .eq := by
  show (Ieee.double.read b).order (Ieee.double.read b) = _
  rw [d_read]
  by_cases c1 : b % 9223372036854775808 < 4503599627370496
  · rw [if_pos c1, if_neg (by omega)]; simp [Ieee.Datum.order]
  · rw [if_neg c1]
    by_cases c2 : b % 9223372036854775808 < 9218868437227405312
    · rw [if_pos c2, if_neg (by omega)]; simp [Ieee.Datum.order]
    · rw [if_neg c2]
      by_cases c3 : b % 9223372036854775808 = 9218868437227405312
      · rw [if_pos c3, if_neg (by omega)]; simp [Ieee.Datum.order]
      · rw [if_neg c3, if_pos (by omega)]; rfl
theorem IsNaN_eq (b : Nat) : math_IsNaN.f b = some (decide (9218868437227405312 < b % 9223372036854775808)) := by
  unfold math_IsNaN.f
  rw [ord_self]
  by_cases c : 9218868437227405312 < b % 9223372036854775808
  · rw [if_pos c, decide_eq_true c]; rfl
  · rw [if_neg c, decide_eq_false c]; rfl
theorem Abs_eq {b : Nat} (hb : b < 18446744073709551616) : math_Abs.f b = some (b % 9223372036854775808) := by
  unfold math_Abs.f math_Float64bits.f math_Float64frombits.f
  simp only [Option.bind_some]
  have h := andNot_nat (a := b) (b := 9223372036854775808) hb (by decide)
  have h2 := mask_place (x := b) (a := 63) (n := 1) hb (by decide)
  have e : (9223372036854775808 : Int) = ((9223372036854775808 : Nat) : Int) := rfl
  rw [e, h, Int.toNat_natCast]
  rw [show ((2 ^ 1 - 1) * 2 ^ 63 : Nat) = 9223372036854775808 from rfl, show (2 ^ 63 : Nat) = 9223372036854775808 from rfl, show (2 ^ 1 : Nat) = 2 from rfl] at h2
  rw [h2]
  congr 1
  omega
/-- Below infinity: what is read off a word without sign. -/
theorem read_low {r : Nat} (h : r < 4503599627370496) : Ieee.double.read r = .number false r (-1074) := by
  rw [d_read, Nat.mod_eq_of_lt (by omega), if_pos h, Nat.div_eq_of_lt (by omega)]
  rfl
theorem read_high {r : Nat} (h : 4503599627370496 ≤ r) (h2 : r < 9218868437227405312) : Ieee.double.read r = .number false (4503599627370496 + r % 4503599627370496) (-1074 + (r / 4503599627370496 - 1 : Nat)) := by
  rw [d_read, Nat.mod_eq_of_lt (by omega), if_neg (by omega), if_pos h2, Nat.div_eq_of_lt (by omega)]
  rfl
theorem icmp_lt {a b : Int} (h : a < b) : compare a b = Ordering.lt := by rw [Int.compare_eq_lt]; exact h
theorem icmp_gt {a b : Int} (h : b < a) : compare a b = Ordering.gt := by rw [Int.compare_eq_gt]; exact h
theorem inot_gt {a b : Int} (h : a ≤ b) : (some (compare a b) == some Ordering.gt) = false := by
  rcases Int.lt_or_eq_of_le h with h | h
  · rw [icmp_lt h]; rfl
  · subst h; rw [icmp_self]; rfl
theorem inot_lt {a b : Int} (h : b ≤ a) : (some (compare a b) == some Ordering.lt) = false := by
  rcases Int.lt_or_eq_of_le h with h | h
  · rw [icmp_gt h]; rfl
  · subst h; rw [icmp_self]; rfl
/-- None below infinity is more than the greatest number. -/
theorem ord_most {r : Nat} (h : r < 9223372036854775808) : (FloatKind.f64.format.order r 9218868437227405311 == some .gt) = decide (r = 9218868437227405312) := by
  show ((Ieee.double.read r).order (Ieee.double.read 9218868437227405311) == some .gt) = _
  have e : Ieee.double.read 9218868437227405311 = .number false 9007199254740991 971 := rfl
  rw [e]
  by_cases c1 : r < 4503599627370496
  · rw [read_low c1, decide_eq_false (by omega)]
    refine inot_gt ?_
    show (r <<< _ : Nat) ≤ ((9007199254740991 <<< _ : Nat) : Int)
    rw [show (((-1074 : Int) - min (-1074) 971).toNat) = 0 from rfl, Nat.shiftLeft_zero, Nat.shiftLeft_eq]
    have := Nat.pow_pos (n := (971 - min (-1074 : Int) 971).toNat) (show 0 < 2 by decide)
    have := Nat.le_mul_of_pos_right 9007199254740991 this
    omega
  · by_cases c2 : r < 9218868437227405312
    · rw [read_high (by omega) c2, decide_eq_false (by omega)]
      refine inot_gt ?_
      obtain ⟨q, hq⟩ : ∃ q : Nat, q = r / 4503599627370496 - 1 := ⟨_, rfl⟩
      have hq2 : q ≤ 2045 := by omega
      rw [← hq]
      show ((4503599627370496 + r % 4503599627370496) <<< _ : Nat) ≤ ((9007199254740991 <<< _ : Nat) : Int)
      have em : min (-1074 + (q : Int)) 971 = -1074 + (q : Int) := by omega
      rw [em, show (-1074 + (q : Int) - (-1074 + (q : Int))).toNat = 0 by omega, Nat.shiftLeft_zero, Nat.shiftLeft_eq]
      have := Nat.pow_pos (n := (971 - (-1074 + (q : Int))).toNat) (show 0 < 2 by decide)
      have := Nat.le_mul_of_pos_right 9007199254740991 this
      omega
    · rw [d_read, Nat.mod_eq_of_lt h, if_neg c1, if_neg c2]
      by_cases c3 : r = 9218868437227405312
      · rw [if_pos c3, decide_eq_true c3, Nat.div_eq_of_lt h]; rfl
      · rw [if_neg c3, decide_eq_false c3]; rfl
theorem IsInf_eq {b : Nat} (hb : b < 18446744073709551616) : math_IsInf.f b 0 = some (decide (b % 9223372036854775808 = 9218868437227405312)) := by
  unfold math_IsInf.f
  rw [if_pos rfl, Abs_eq hb, Option.bind_some, ord_most (Nat.mod_lt _ (by decide))]
/-- The word of a number of 53 digits, M * 2^P. -/
def wordD (M : Nat) (P : Int) : Nat := (P + 1074).toNat * 4503599627370496 + M
theorem log2_of {m k : Nat} (h1 : 2 ^ k ≤ m) (h2 : m < 2 ^ (k + 1)) : m.log2 = k := by
  have h0 : m ≠ 0 := by have := Nat.pow_pos (n := k) (show 0 < 2 by decide); omega
  rw [Nat.log2_eq_iff h0]
  exact ⟨h1, h2⟩
theorem cut_exact {M j : Nat} {neg : Bool} (hM : 0 < M) : Ieee.Toward.even.cut neg (M * 2 ^ j) j = M := by
  have hp : 0 < 2 ^ j := Nat.pow_pos (by decide)
  have hl : j ≤ (M * 2 ^ j).log2 + 2 := by
    have : 2 ^ j ≤ M * 2 ^ j := Nat.le_mul_of_pos_left _ hM
    have := (Nat.le_log2 (by omega)).2 this
    omega
  unfold Ieee.Toward.cut
  simp only [Nat.min_eq_left hl, Nat.shiftLeft_eq, Nat.one_mul, Nat.mul_mod_left, Nat.mul_div_cancel _ hp]
  have e : (decide (2 ^ j < 2 * 0) || (2 ^ j == 2 * 0) && M % 2 == 1) = false := by
    have : ¬ 2 ^ j = 0 := by omega
    simp [this]
  rw [e]
  rfl
/-- An exact number of 53 digits is its own word. -/
theorem near_of {M : Nat} {P : Int} {j : Nat} (neg : Bool) (h1 : 4503599627370496 ≤ M) (h2 : M < 9007199254740992) (h3 : -1074 ≤ P) (h4 : P ≤ 971) :
    Ieee.double.nearest neg (M * 2 ^ j) (P - j) = Ieee.double.word neg (wordD M P) := by
  have hp : 0 < 2 ^ j := Nat.pow_pos (by decide)
  have hl : (M * 2 ^ j).log2 = 52 + j := by
    refine log2_of ?_ ?_
    · rw [Nat.pow_add]; exact Nat.mul_le_mul_right _ h1
    · rw [show 52 + j + 1 = 53 + j by omega, Nat.pow_add]; exact (Nat.mul_lt_mul_right hp).2 h2
  unfold Ieee.Format.nearest
  have h0 : M * 2 ^ j ≠ 0 := Nat.mul_ne_zero (by omega) (by omega)
  rw [if_neg h0]
  have el : max (P - (j : Int) + ((M * 2 ^ j).log2 : Int) - (Ieee.double.fractionBits : Int)) Ieee.double.leastPlace = P := by
    rw [hl, show (Ieee.double.fractionBits : Int) = 52 from rfl, show Ieee.double.leastPlace = -1074 from rfl]; omega
  simp only [el]
  rw [show (P - (j : Int) - P).toNat = 0 by omega, Nat.shiftLeft_zero, show (P - (P - (j : Int))).toNat = j by omega, cut_exact (by omega)]
  rw [show Ieee.double.leastPlace = -1074 from rfl, show Ieee.double.binade = 4503599627370496 from rfl, show Ieee.double.infRung = 9218868437227405312 from rfl, show P - -1074 = P + 1074 by omega, Nat.min_eq_left (by omega)]
  rfl
/-- .. and one of fewer digits. -/
theorem near_small {M m : Nat} {P : Int} {i : Nat} (neg : Bool) (hm : m * 2 ^ i = M) (h1 : 4503599627370496 ≤ M) (h2 : M < 9007199254740992) (h3 : -1074 ≤ P) (h4 : P ≤ 971) :
    Ieee.double.nearest neg m (P + i) = Ieee.double.word neg (wordD M P) := by
  have hp : 0 < 2 ^ i := Nat.pow_pos (by decide)
  have hm0 : 0 < m := by rcases Nat.eq_zero_or_pos m with h | h; · rw [h, Nat.zero_mul] at hm; omega
                         · exact h
  have hi : i ≤ 52 := by
    rcases Nat.lt_or_ge 52 i with h | h
    · exfalso
      have : 2 ^ 53 ≤ 2 ^ i := Nat.pow_le_pow_right (by decide) h
      have : 2 ^ i ≤ m * 2 ^ i := Nat.le_mul_of_pos_left _ hm0
      omega
    · exact h
  have hl : m.log2 = 52 - i := by
    refine log2_of ?_ ?_
    · refine (Nat.mul_le_mul_right_iff hp).1 ?_
      rw [← Nat.pow_add, show 52 - i + i = 52 by omega, hm]; exact h1
    · refine (Nat.mul_lt_mul_right hp).1 ?_
      rw [← Nat.pow_add, show 52 - i + 1 + i = 53 by omega, hm]; exact h2
  unfold Ieee.Format.nearest
  rw [if_neg (by omega)]
  have el : max (P + (i : Int) + (m.log2 : Int) - (Ieee.double.fractionBits : Int)) Ieee.double.leastPlace = P := by
    rw [hl, show (Ieee.double.fractionBits : Int) = 52 from rfl, show Ieee.double.leastPlace = -1074 from rfl]; omega
  simp only [el]
  rw [show (P + (i : Int) - P).toNat = i by omega, Nat.shiftLeft_eq, hm, show (P - (P + (i : Int))).toNat = 0 by omega]
  have hc := cut_exact (M := M) (j := 0) (neg := neg) (by omega)
  rw [Nat.pow_zero, Nat.mul_one] at hc
  rw [hc, show Ieee.double.leastPlace = -1074 from rfl, show Ieee.double.binade = 4503599627370496 from rfl, show Ieee.double.infRung = 9218868437227405312 from rfl, show P - -1074 = P + 1074 by omega, Nat.min_eq_left (by omega)]
  rfl
end Go.Proofs.Ytpdpggndhmnggaa.M
