/- Parts of patterns in arithmetic: what the run writes, what stands behind it, the scale and the fraction; noughts behind a string change nothing. -/
import Derived.Test.YtpdpggndhmnggaaF11f
import Derived.Test.YtpdpggndhmnggaaLead2f
namespace Go.Proofs.Ytpdpggndhmnggaa.M
set_option linter.unusedVariables false
set_option linter.unusedSimpArgs false
/-- How many bits stand behind the run and the bit that ends it; those of them that tell the exponent, and the fraction. -/
def lfN (x w : Nat) : Nat := w - runN x w - 1
def ebN (x w : Nat) : Nat := min (lfN x w) 2
def fbN (x w : Nat) : Nat := lfN x w - ebN x w
theorem lfN_lt {x w : Nat} (hw : 0 < w) : lfN x w < w := by unfold lfN; omega
theorem lf_split (x w : Nat) : lfN x w = fbN x w + ebN x w := by unfold fbN ebN; omega
/-- The parts of what stands behind the run. -/
def eN (x w : Nat) : Nat := x / 2 ^ fbN x w % 2 ^ ebN x w
def frN (x w : Nat) : Nat := x % 2 ^ fbN x w
theorem eN_lt (x w : Nat) : eN x w < 2 ^ ebN x w := Nat.mod_lt _ (Nat.pow_pos (by decide))
theorem eN_lt4 (x w : Nat) : eN x w < 4 := Nat.lt_of_lt_of_le (eN_lt x w) (show 2 ^ ebN x w ≤ 2 ^ 2 from Nat.pow_le_pow_right (by decide) (by unfold ebN; omega))
theorem frN_lt (x w : Nat) : frN x w < 2 ^ fbN x w := Nat.mod_lt _ (Nat.pow_pos (by decide))
/-- The exponent. -/
def exN (x w : Nat) : Nat := eN x w * 2 ^ (2 - ebN x w)
theorem exN_lt (x w : Nat) : exN x w < 4 := by
  have h1 := eN_lt x w
  have h2 : ebN x w ≤ 2 := by unfold ebN; omega
  have e : 4 = 2 ^ ebN x w * 2 ^ (2 - ebN x w) := by rw [← Nat.pow_add, show ebN x w + (2 - ebN x w) = 2 by omega]
  unfold exN
  rw [e]
  exact Nat.mul_lt_mul_of_pos_right h1 (Nat.pow_pos (by decide))
/-- The regime, the scale, the fraction. -/
def rgI (x w : Nat) : Int := if topB x w = true then (runN x w : Int) - 1 else -(runN x w : Int)
def scI (x w : Nat) : Int := 4 * rgI x w + (exN x w : Int)
def mtN (x w : Nat) : Nat := 9223372036854775808 + frN x w * 2 ^ (63 - fbN x w)
theorem fb_le {x w : Nat} (hw : 0 < w) : fbN x w ≤ w - 2 := by
  have := runN_pos (x := x) hw
  unfold fbN lfN; omega
theorem mtN_lt {x w : Nat} (hw : 0 < w) (h : w ≤ 63) : frN x w * 2 ^ (63 - fbN x w) < 9223372036854775808 := by
  have h1 := frN_lt x w
  have h2 := fb_le (x := x) hw
  have e : 9223372036854775808 = 2 ^ fbN x w * 2 ^ (63 - fbN x w) := by rw [← Nat.pow_add, show fbN x w + (63 - fbN x w) = 63 by omega]
  rw [e]
  exact Nat.mul_lt_mul_of_pos_right h1 (Nat.pow_pos (by decide))
end Go.Proofs.Ytpdpggndhmnggaa.M
