/- Parts of patterns in arithmetic: what the run writes, what stands behind it, the scale and the fraction; noughts behind a string change nothing. -/
import Derived.Test.YtpdpggndhmnggaaF11g
import Derived.Test.YtpdpggndhmnggaaLead2g
namespace Go.Proofs.Ytpdpggndhmnggaa.M
set_option linter.unusedVariables false
set_option linter.unusedSimpArgs false
/-- How many bits stand behind the run and the bit that ends it; those of them that tell the exponent, and the fraction. -/
def lfN (x w : Nat) : Nat := w - runN x w - 1
def ebN (x w : Nat) : Nat := min (lfN x w) 2
def fbN (x w : Nat) : Nat := lfN x w - ebN x w
theorem lfN_lt {x w : Nat} (hw : 0 < w) : lfN x w < w := by unfold lfN; omega
theorem lf_split (x w : Nat) : lfN x w = fbN x w + ebN x w := by unfold fbN ebN; omega
/-- What the run alone writes. -/
def baseN (x w : Nat) : Nat := if topB x w = true then (2 ^ runN x w - 1) * 2 ^ (w - runN x w) else if runN x w < w then 2 ^ (w - 1 - runN x w) else 0
theorem pow_cut2 {a b : Nat} (h : a ≤ b) : 2 ^ b = 2 ^ a * 2 ^ (b - a) := by rw [← Nat.pow_add]; congr 1; omega
theorem mod_pow_mod (x : Nat) {a b : Nat} (h : a ≤ b) : x % 2 ^ b % 2 ^ a = x % 2 ^ a := by rw [pow_cut2 h, Nat.mod_mul_right_mod]
theorem ones_base {r w : Nat} (h : r ≤ w) : (2 ^ r - 1) * 2 ^ (w - r) = 2 ^ w - 2 ^ (w - r) := by
  rw [Nat.sub_mul, Nat.one_mul, ← Nat.pow_add]; congr 2; omega
theorem base_split {x w : Nat} (hw : 0 < w) : x % 2 ^ w = baseN x w + x % 2 ^ lfN x w := by
  have hlt := Nat.mod_lt x (Nat.pow_pos (n := w) (show 0 < 2 by decide))
  have hb := blen_left (x := x) hw
  have hr : w - runN x w = blen (left x w) := by unfold runN; omega
  have hlf : lfN x w = blen (left x w) - 1 := by unfold lfN; omega
  rw [← mod_pow_mod x (show lfN x w ≤ w by unfold lfN; omega)]
  unfold baseN
  by_cases ht : topB x w = true
  · rw [if_pos ht, ones_base (runN_le x w), hr, hlf]
    have hl : left x w = 2 ^ w - 1 - x % 2 ^ w := by unfold topB at ht; rw [decide_eq_true_eq] at ht; unfold left; rw [if_pos ht]
    generalize hm : x % 2 ^ w = m at *
    rcases Nat.eq_zero_or_pos (left x w) with h0 | h0
    · rw [h0, show blen 0 - 1 = 0 from rfl, show blen 0 = 0 from rfl, Nat.pow_zero, Nat.mod_one]; omega
    · have h1 := blen_le h0
      have h2 := lt_blen (left x w)
      have h3 := blen_pos h0
      generalize blen (left x w) = b at *
      have e1 : 2 ^ b = 2 * 2 ^ (b - 1) := by rw [← Nat.pow_succ']; congr 1; omega
      have e2 : 2 ^ w = 2 ^ b * 2 ^ (w - b) := pow_cut2 (by omega)
      have h4 : 0 < 2 ^ (w - b) := Nat.pow_pos (by decide)
      have e3 : 2 ^ w - 2 ^ b = 2 ^ (b - 1) * (2 * (2 ^ (w - b) - 1)) := by
        rw [e2, e1]; generalize 2 ^ (w - b) = q at *; obtain ⟨t, rfl⟩ : ∃ t, q = t + 1 := ⟨q - 1, by omega⟩
        rw [Nat.add_sub_cancel]; generalize 2 ^ (b - 1) = p
        rw [show 2 * p * (t + 1) = 2 * p * t + 2 * p by grind, Nat.add_sub_cancel]; grind
      have h5 : 2 ^ b ≤ 2 ^ w := Nat.pow_le_pow_right (by decide) (by omega)
      have e4 : m = 2 ^ (b - 1) * (2 * (2 ^ (w - b) - 1)) + (2 ^ b - 1 - left x w) := by rw [← e3]; omega
      have e5 : m % 2 ^ (b - 1) = 2 ^ b - 1 - left x w := by
        rw [e4, Nat.mul_add_mod, Nat.mod_eq_of_lt (by omega)]
      rw [e5, e3]; exact e4
  · rw [if_neg ht, hlf]
    have hl : left x w = x % 2 ^ w := by unfold topB at ht; rw [decide_eq_true_eq] at ht; unfold left; rw [if_neg ht]
    have hr2 : w - 1 - runN x w = blen (left x w) - 1 := by omega
    rw [hr2]
    generalize hm : x % 2 ^ w = m at *
    rcases Nat.eq_zero_or_pos m with h0 | h0
    · subst h0
      rw [Nat.zero_mod, if_neg (by unfold runN; rw [hl]; rw [show blen 0 = 0 from rfl]; omega)]
    · rw [hl] at hb hr ⊢
      have h1 := blen_le h0
      have h2 := lt_blen m
      have h3 := blen_pos h0
      rw [if_pos (by omega)]
      have e1 : 2 ^ blen m = 2 * 2 ^ (blen m - 1) := by rw [← Nat.pow_succ']; congr 1; omega
      generalize 2 ^ (blen m - 1) = q at *
      have : m % q = m - q := by rw [Nat.mod_eq_sub_mod h1, Nat.mod_eq_of_lt (by omega)]
      omega
/-- The parts of what stands behind the run. -/
def eN (x w : Nat) : Nat := x / 2 ^ fbN x w % 2 ^ ebN x w
def frN (x w : Nat) : Nat := x % 2 ^ fbN x w
theorem eN_lt (x w : Nat) : eN x w < 2 ^ ebN x w := Nat.mod_lt _ (Nat.pow_pos (by decide))
theorem eN_lt4 (x w : Nat) : eN x w < 4 := Nat.lt_of_lt_of_le (eN_lt x w) (show 2 ^ ebN x w ≤ 2 ^ 2 from Nat.pow_le_pow_right (by decide) (by unfold ebN; omega))
theorem frN_lt (x w : Nat) : frN x w < 2 ^ fbN x w := Nat.mod_lt _ (Nat.pow_pos (by decide))
theorem tail_split (x w : Nat) : x % 2 ^ lfN x w = eN x w * 2 ^ fbN x w + frN x w := by
  unfold eN frN
  rw [lf_split, Nat.pow_add, Nat.mod_mul, Nat.mul_comm, Nat.add_comm]
/-- The exponent. -/
def exN (x w : Nat) : Nat := eN x w * 2 ^ (2 - ebN x w)
theorem exN_lt (x w : Nat) : exN x w < 4 := by
  have h1 := eN_lt x w
  have h2 : ebN x w ≤ 2 := by unfold ebN; omega
  have e : 4 = 2 ^ ebN x w * 2 ^ (2 - ebN x w) := by rw [← Nat.pow_add, show ebN x w + (2 - ebN x w) = 2 by omega]
  unfold exN
  rw [e]
  exact Nat.mul_lt_mul_of_pos_right h1 (Nat.pow_pos (by decide))
/-- The regime, the scale, the fraction. -/
def rgI (x w : Nat) : Int := if topB x w = true then (runN x w : Int) - 1 else -(runN x w : Int)
def scI (x w : Nat) : Int := 4 * rgI x w + (exN x w : Int)
def mtN (x w : Nat) : Nat := 9223372036854775808 + frN x w * 2 ^ (63 - fbN x w)
theorem fb_le {x w : Nat} (hw : 0 < w) : fbN x w ≤ w - 2 := by
  have := runN_pos (x := x) hw
  unfold fbN lfN; omega
theorem mtN_lt {x w : Nat} (hw : 0 < w) (h : w ≤ 63) : frN x w * 2 ^ (63 - fbN x w) < 9223372036854775808 := by
  have h1 := frN_lt x w
  have h2 := fb_le (x := x) hw
  have e : 9223372036854775808 = 2 ^ fbN x w * 2 ^ (63 - fbN x w) := by rw [← Nat.pow_add, show fbN x w + (63 - fbN x w) = 63 by omega]
  rw [e]
  exact Nat.mul_lt_mul_of_pos_right h1 (Nat.pow_pos (by decide))
/-- The exponent and the fraction out of one number: what stands behind the run, as 66 bits. -/
def tlN (x w : Nat) : Nat := x % 2 ^ lfN x w * 2 ^ (66 - lfN x w)
theorem ex_tail {x w : Nat} (hw : 0 < w) (h : w ≤ 63) : exN x w = tlN x w / 2 ^ 64 := by
  have h2 := fb_le (x := x) hw
  have hf := frN_lt x w
  have hs := lf_split x w
  have heb : ebN x w ≤ 2 := by unfold ebN; omega
  have hz : ebN x w < 2 → fbN x w = 0 := by unfold fbN ebN; omega
  have e1 : 66 - lfN x w = (64 - fbN x w) + (2 - ebN x w) := by omega
  unfold tlN exN
  rw [tail_split, e1, Nat.pow_add]
  have e64 : (2 : Nat) ^ 64 = 2 ^ fbN x w * 2 ^ (64 - fbN x w) := by rw [← Nat.pow_add, show fbN x w + (64 - fbN x w) = 64 by omega]
  rw [e64]
  generalize eN x w = e at *
  generalize frN x w = f at *
  generalize hF : 2 ^ fbN x w = F at *
  generalize 2 ^ (64 - fbN x w) = G at *
  have hG : 0 < F * G := by rw [← e64]; decide
  rw [show (e * F + f) * (G * 2 ^ (2 - ebN x w)) = (F * G) * (e * 2 ^ (2 - ebN x w)) + f * G * 2 ^ (2 - ebN x w) by grind]
  rw [Nat.mul_add_div hG]
  have : f * G * 2 ^ (2 - ebN x w) / (F * G) = 0 := by
    apply Nat.div_eq_of_lt
    rcases Nat.lt_or_ge (ebN x w) 2 with h3 | h3
    · have := hz h3
      rw [this] at hF
      obtain rfl : f = 0 := by simp at hF; omega
      rw [Nat.zero_mul, Nat.zero_mul]; exact hG
    · rw [show 2 - ebN x w = 0 by omega, Nat.pow_zero, Nat.mul_one]
      exact Nat.mul_lt_mul_of_pos_right hf (Nat.pos_of_mul_pos_left hG)
  omega
theorem mt_tail {x w : Nat} (hw : 0 < w) (h : w ≤ 63) : frN x w * 2 ^ (63 - fbN x w) = tlN x w % 2 ^ 64 / 2 := by
  have h2 := fb_le (x := x) hw
  have hf := frN_lt x w
  have hs := lf_split x w
  have heb : ebN x w ≤ 2 := by unfold ebN; omega
  have hz : ebN x w < 2 → fbN x w = 0 := by unfold fbN ebN; omega
  have e1 : 66 - lfN x w = (64 - fbN x w) + (2 - ebN x w) := by omega
  have e2 : 2 ^ (64 - fbN x w) = 2 * 2 ^ (63 - fbN x w) := by rw [← Nat.pow_succ']; congr 1; omega
  unfold tlN
  rw [tail_split, e1, Nat.pow_add]
  have e64 : (2 : Nat) ^ 64 = 2 ^ fbN x w * 2 ^ (64 - fbN x w) := by rw [← Nat.pow_add, show fbN x w + (64 - fbN x w) = 64 by omega]
  rw [e64]
  generalize eN x w = e at *
  generalize frN x w = f at *
  generalize hF : 2 ^ fbN x w = F at *
  generalize 2 ^ (63 - fbN x w) = H at *
  generalize 2 ^ (64 - fbN x w) = G at *
  have hG : 0 < F * G := by rw [← e64]; decide
  rw [show (e * F + f) * (G * 2 ^ (2 - ebN x w)) = (F * G) * (e * 2 ^ (2 - ebN x w)) + f * G * 2 ^ (2 - ebN x w) by grind, Nat.mul_add_mod]
  rcases Nat.lt_or_ge (ebN x w) 2 with h3 | h3
  · have := hz h3
    rw [this] at hF
    obtain rfl : f = 0 := by simp at hF; omega
    simp
  · rw [show 2 - ebN x w = 0 by omega, Nat.pow_zero, Nat.mul_one, Nat.mod_eq_of_lt (Nat.mul_lt_mul_of_pos_right hf (Nat.pos_of_mul_pos_left hG)), e2]
    rw [show f * (2 * H) = f * H * 2 by grind, Nat.mul_div_cancel _ (by decide)]
end Go.Proofs.Ytpdpggndhmnggaa.M
